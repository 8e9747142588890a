/- The symbolic run of code, and that it is sound (regions in the text's order; calls; loops). -/
import Derived.Lib.TrimU
import Derived.Test.YtienakdnmhmglaaVOz
import Derived.TacticsIn
import Derived.LoopNIn
import Derived.OrdersIn
set_option linter.unusedSimpArgs false
set_option linter.unusedVariables false
set_option linter.unusedSectionVars false
namespace Go.Sym
open Go

structure St (τ : Type) where
  tm : List SV
  H : List (SB τ)
  df : List Nat
  base : Nat
  rnd : Bool

abbrev Con (τ : Type) := List SV → List (SB τ) → (SV → List (SB τ) → Prop) → Prop
abbrev PCon (τ : Type) := List SV → List (SB τ) → Option (Prop × SV)
/-- What a call comes to: what it asks; its answer, the heap behind it, and which items it turned. -/
inductive Alt (τ : Type) where
  | bad
  | ask (φ : Prop) (t : Alt τ)
  | br (c : Bool) (l r : Alt τ)
  | one (x : SV) (H : List (SB τ)) (ws : List Nat)
abbrev ACon (τ : Type) := List SV → List (SB τ) → Alt τ
/-- What may be done to a state ahead of a loop's head: a nil slice is seen as a row of its own that has nothing. -/
inductive Fx where
  | nilTm (i : Nat) (c : Cn) (T sz : Nat)
  | nilLoop (b i : Nat) (c : Cn) (T sz : Nat)
  | nilCell (b i : Nat) (c : Cn) (T sz : Nat)
  | asRows (b : Nat) (k : Option IntKind) (T : Nat)
  | asLimbo (b b' : Nat) (k : Option IntKind) (T : Nat)
  | pad
  | mv (b b' : Nat)
  | nilInto (b i q : Nat)
  | adopt (q q' : Nat)
/-- What holds at a loop's head: the state as a function of what varies. -/
structure Ann (τ : Type) where
  α : Type
  φ : St τ → α → Prop
  μ : St τ → α → Nat
  get : St τ → Option α
  f : St τ → α → St τ
  fx : St τ → List Fx := fun _ => []
  on : St τ → Bool := fun _ => true
structure Cfg (τ : Type) where
  P : Program
  con : Nat → Option (Con τ)
  pcon : Nat → Option (PCon τ)
  unroll : Nat
  ann : Nat → Option (Ann τ) := fun _ => none
  acon : Nat → Option (ACon τ) := fun _ => none
  join : Nat → Option (Ann τ) := fun _ => none
/-- A code's key: 64 times the number behind its first region's, and how many operations that has. -/
def firstReg : Code → Nat
  | .region id ops _ => (id + 1) * 64 + ops.size
  | .seq a b => match firstReg a with
    | 0 => firstReg b
    | n => n
  | .block _ c => firstReg c
  | .loop c => firstReg c
  | .scope c => firstReg c
  | .cond _ a b => match firstReg a with
    | 0 => firstReg b
    | n => n
  | .rangeFunc _ _ a b => match firstReg a with
    | 0 => firstReg b
    | n => n
  | _ => 0

def rq (c : Bool) (A : Prop) : Prop := match c with | true => A | false => False
def br (b : Bool) (A B : Prop) : Prop := match b with | true => A | false => B
theorem rq_intro {c : Bool} {A : Prop} (h : c = true) (hA : A) : rq c A := by subst h; exact hA
theorem rq_elim {c : Bool} {A : Prop} (h : rq c A) : c = true ∧ A := by cases c with | true => exact ⟨rfl, h⟩ | false => exact h.elim
theorem br_intro {b : Bool} {A B : Prop} (h : b = true → A) (h' : b = false → B) : br b A B := by cases b with | true => exact h rfl | false => exact h' rfl
theorem br_elim {b : Bool} {A B : Prop} (h : br b A B) : (b = true ∧ A) ∨ (b = false ∧ B) := by cases b with | true => exact .inl ⟨rfl, h⟩ | false => exact .inr ⟨rfl, h⟩

section
variable {τ : Type}
def Alt.pre : Alt τ → Prop
  | .bad => False
  | .ask φ t => φ ∧ t.pre
  | .br c l r => (c = true → l.pre) ∧ (c = false → r.pre)
  | .one _ _ _ => True
def Alt.has : Alt τ → SV → List (SB τ) → List Nat → Prop
  | .bad, _, _, _ => False
  | .ask _ t, x, H, ws => t.has x H ws
  | .br c l r, x, H, ws => (c = true ∧ l.has x H ws) ∨ (c = false ∧ r.has x H ws)
  | .one x' H' ws', x, H, ws => x = x' ∧ H = H' ∧ ws = ws'
def altK : Alt τ → (SV → List (SB τ) → List Nat → Prop) → Prop
  | .bad, _ => False
  | .ask φ t, K => φ ∧ altK t K
  | .br c l r, K => Go.Sym.br c (altK l K) (altK r K)
  | .one x H ws, K => K x H ws
theorem altK_pre : ∀ {t : Alt τ} {K : SV → List (SB τ) → List Nat → Prop}, altK t K → t.pre
  | .bad, _, h => h
  | .ask φ t, _, h => ⟨h.1, altK_pre h.2⟩
  | .br c l r, _, h => by
    rcases br_elim h with ⟨rfl, h1⟩ | ⟨rfl, h1⟩
    · exact ⟨fun _ => altK_pre h1, (fun hc => by cases hc)⟩
    · exact ⟨(fun hc => by cases hc), fun _ => altK_pre h1⟩
  | .one _ _ _, _, _ => trivial
theorem altK_has : ∀ {t : Alt τ} {K : SV → List (SB τ) → List Nat → Prop}, altK t K → ∀ {x H ws}, t.has x H ws → K x H ws
  | .bad, _, h, _, _, _, _ => h.elim
  | .ask φ t, _, h, _, _, _, hh => altK_has h.2 hh
  | .br c l r, _, h, _, _, _, hh => by
    rcases br_elim h with ⟨rfl, h1⟩ | ⟨rfl, h1⟩
    · rcases hh with ⟨_, h2⟩ | ⟨hc, _⟩
      · exact altK_has h1 h2
      · cases hc
    · rcases hh with ⟨hc, _⟩ | ⟨_, h2⟩
      · cases hc
      · exact altK_has h1 h2
  | .one _ _ _, _, h, _, _, _, ⟨rfl, rfl, rfl⟩ => h
theorem altK_some : ∀ {t : Alt τ} {K : SV → List (SB τ) → List Nat → Prop}, altK t K → ∃ x H ws, t.has x H ws ∧ K x H ws
  | .bad, _, h => h.elim
  | .ask φ t, _, h => altK_some (t := t) h.2
  | .br c l r, _, h => by
    rcases br_elim h with ⟨rfl, h0⟩ | ⟨rfl, h0⟩
    · obtain ⟨x, H, ws, h1, h2⟩ := altK_some h0; exact ⟨x, H, ws, .inl ⟨rfl, h1⟩, h2⟩
    · obtain ⟨x, H, ws, h1, h2⟩ := altK_some h0; exact ⟨x, H, ws, .inr ⟨rfl, h1⟩, h2⟩
  | .one x H ws, _, h => ⟨x, H, ws, ⟨rfl, rfl, rfl⟩, h⟩
theorem has_unique : ∀ {t : Alt τ} {x x' : SV} {H H' : List (SB τ)} {ws ws' : List Nat}, t.has x H ws → t.has x' H' ws' → x = x' ∧ H = H' ∧ ws = ws'
  | .bad, _, _, _, _, _, _, h, _ => h.elim
  | .ask φ t, _, _, _, _, _, _, h, h' => has_unique (t := t) h h'
  | .br c l r, _, _, _, _, _, _, h, h' => by
    rcases h with ⟨rfl, h1⟩ | ⟨rfl, h1⟩
    · rcases h' with ⟨_, h2⟩ | ⟨hc, _⟩
      · exact has_unique h1 h2
      · cases hc
    · rcases h' with ⟨hc, _⟩ | ⟨_, h2⟩
      · cases hc
      · exact has_unique h1 h2
  | .one _ _ _, _, _, _, _, _, _, ⟨rfl, rfl, rfl⟩, ⟨rfl, rfl, rfl⟩ => ⟨rfl, rfl, rfl⟩
end

def putS (dst : Option Tmp) (x : SV) (tm : List SV) : List SV :=
  match dst with
  | some d => tm.set d x
  | none => tm
def setB (o : Operand) (b : Bool) (tm : List SV) : List SV :=
  match o with
  | .tmp t => tm.set t (.v (.bool b))
  | _ => tm

section
variable {τ : Type}
abbrev Rec (τ : Type) := Code → St τ → (Exit → St τ → Prop) → Prop

def St.put (st : St τ) (dst : Option Tmp) (x : SV) : St τ := { st with tm := putS dst x st.tm }
def St.putH (st : St τ) (dst : Option Tmp) (x : SV) (H : List (SB τ)) : St τ := { st with tm := putS dst x st.tm, H := H }

def calleeS : SV → Option (FuncId × List SV × List SV)
  | .v (.func (.func g) a c) => some (g, a.toList.map .v, c.toList.map .v)
  | .f (.func g) cs => some (g, [], cs)
  | _ => none

def resS (P : Program) (tm : List SV) (H : List (SB τ)) : List ResultVar → Option (List SV)
  | [] => some []
  | .tmp t :: r => match resS P tm H r with
    | some l => some (tm.getD t (.v undef) :: l)
    | none => none
  | .cell a T :: r => match loadS P T (tm.getD a (.v undef)) H, resS P tm H r with
    | some x, some l => some (x :: l)
    | _, _ => none
def oneR : List SV → SV
  | [x] => x
  | l => .t l
def takeDf : List Nat → List (SB τ) → Option (List (SB τ))
  | [], H => some H
  | r :: rs, H => match H[r]? with
    | some (.obj (.deferred (some []))) => takeDf rs (H.set r (.obj (.deferred none)))
    | _ => none

def leaveK (P : Program) (fn : Func) (st : St τ) (K : SV → List (SB τ) → Prop) : Prop :=
  match takeDf st.df st.H with
  | some H' => match resS P st.tm H' fn.results.toList with
    | some l => K (oneR l) H'
    | none => False
  | none => False
def bodyK (P : Program) (rec : Rec τ) (fn : Func) (args : List SV) (H : List (SB τ)) (K : SV → List (SB τ) → Prop) : Prop :=
  match fn.body with
  | some c => rec c { tm := args ++ List.replicate (fn.ntmps - args.length) (.v undef), H := H, df := [], base := H.length, rnd := false }
      (fun ex st => match ex with
        | .normal => leaveK P fn st K
        | .ret => leaveK P fn st K
        | _ => False)
  | none => False
def callK (cfg : Cfg τ) (rec : Rec τ) (g : FuncId) (args : List SV) (H : List (SB τ)) (K : SV → List (SB τ) → Prop) : Prop :=
  match cfg.P.funcs[g]? with
  | some fn => match fn.name == "runtime.NumGoroutine", fn.body.isNone with
    | false, false => match cfg.con g with
      | some con => con args H K
      | none => match cfg.acon g with
        | some ac => altK (ac args H) (fun x H' _ => K x H')
        | none => bodyK cfg.P rec fn args H K
    | _, _ => False
  | none => False

def setPs (tm : List SV) : List (Tmp × SV) → List SV
  | [] => tm
  | (t, x) :: r => setPs (tm.set t x) r

/-- A call of yield: one round. -/
def yieldK (rec : Rec τ) (b : Nat) (args : List SV) (H : List (SB τ)) (K : SV → List (SB τ) → Prop) : Prop :=
  match H[b]? with
  | some (.loop _ _ tm ps asg body _) => match args.length == ps.size with
    | true => rec asg { tm := setPs tm (ps.toList.zip args), H := H, df := [], base := H.length, rnd := true } (fun ex s1 => match ex with
      | .normal => match s1.H[b]? with
        | some (.loop .ready pd t1 ps1 a1 b1 d1) => rec body { s1 with H := s1.H.set b (.loop .busy pd t1 ps1 a1 b1 d1) } (fun ex2 s2 => match s2.H[b]? with
          | some (.loop _ _ t2 ps2 a2 b2 d2) => match ex2 with
            | .normal => K (.v (.bool true)) (s2.H.set b (.loop .ready none t2 ps2 a2 b2 d2))
            | .ret => K (.v (.bool false)) (s2.H.set b (.loop .done (some .ret) t2 ps2 a2 b2 d2))
            | .exit id => K (.v (.bool false)) (s2.H.set b (.loop .done (some (.exit id)) t2 ps2 a2 b2 d2))
            | .goto l => K (.v (.bool false)) (s2.H.set b (.loop .done (some (.goto l)) t2 ps2 a2 b2 d2))
            | _ => False
          | _ => False)
        | _ => False
      | _ => False)
    | false => False
  | _ => False

/-- The next letter of a text, wherever it is. -/
def nextS (op : Op) (tm : List SV) (H : List (SB τ)) : Option (Nat × ByteArray × Nat) :=
  match op with
  | .next it q => match q with
    | true => match ev tm it with
      | .p b o => match o with
        | 0 => match H[b]? with
          | some (.obj x) => match x with
            | .stringIter s pos => some (b, s, pos)
            | _ => none
          | _ => none
        | _ => none
      | _ => none
    | false => none
  | _ => none
/-- The letter that is read, and its width: not looked into. -/
def decR (s : ByteArray) (pos : Nat) : Int := (Utf8.decode s pos).1
def decM (s : ByteArray) (pos : Nat) : Nat := (Utf8.decode s pos).2 - 1
/-- As a successor, so that a state is forced. -/
def decW (s : ByteArray) (pos : Nat) : Nat := decM s pos + 1
theorem decW_eq (s : ByteArray) (pos : Nat) : decW s pos = (Utf8.decode s pos).2 := by
  have := Lib.width_pos s pos
  unfold decW decM
  omega
def opK (cfg : Cfg τ) (rec : Rec τ) (o : Oper) (st : St τ) (K : St τ → Prop) : Prop :=
  match nextS o.op st.tm st.H with
  | some (b, s, pos) => br (Nat.blt pos s.size) (K (st.putH o.dst (.t [.v (.bool true), .v (.int .i64 pos), .v (.int .i32 (decR s pos))]) (st.H.set b (.obj (.stringIter s (pos + decW s pos)))))) (K (st.putH o.dst (.t [.v (.bool false)]) st.H))
  | none => match stepV cfg.P o.op st.tm st.H with
  | some (c, x) => rq c (K (st.put o.dst x))
  | none => match stepL cfg.P o.op st.tm st.H with
    | some (c, x, H', _) => rq c (K (st.putH o.dst x H'))
    | none => match o.op with
      | .pick c a b => match ev st.tm c with
        | .v (.bool q) => br q (K ({ st with tm := setB c true st.tm }.put o.dst (ev (setB c true st.tm) a))) (K ({ st with tm := setB c false st.tm }.put o.dst (ev (setB c false st.tm) b)))
        | _ => False
      | .call { callee := .value f, args, .. } => match ev st.tm f with
        | .y b => yieldK rec b (args.toList.map (ev st.tm)) st.H (fun x H' => K (st.putH o.dst x H'))
        | x => match calleeS x with
          | some (g, fi, ca) => callK cfg rec g (fi ++ args.toList.map (ev st.tm) ++ ca) st.H (fun x H' => K (st.putH o.dst x H'))
          | none => False
      | _ => False

/-- Is it a bool, and which? -/
def boolV : SV → Option (Option Bool)
  | .v (.bool b) => some (some b)
  | .v _ => some none
  | .p _ _ => some none
  | .s _ _ _ _ => some none
  | .f _ _ => some none
  | .y _ => some none
  | .a _ => some none
  | .t _ => some none
  | _ => none

def opsK (cfg : Cfg τ) (rec : Rec τ) (ops : Array Oper) : List Oper → St τ → (St τ → Prop) → Prop
  | [], st, K => K st
  | o :: rest, st, K => match o.guard with
    | none => opK cfg rec o st (fun st' => opsK cfg rec ops rest st' K)
    | some (j, want) => match (ops[j]?).bind (·.dst) with
      | none => opsK cfg rec ops rest (st.put o.dst (.v undef)) K
      | some d => match st.tm[d]? with
        | none => opsK cfg rec ops rest (st.put o.dst (.v undef)) K
        | some x => match boolV x with
          | some none => opsK cfg rec ops rest (st.put o.dst (.v undef)) K
          | some (some b) => match want with
            | true => br b (opK cfg rec o (st.put (some d) (.v (.bool true))) (fun st' => opsK cfg rec ops rest st' K)) (opsK cfg rec ops rest ((st.put (some d) (.v (.bool false))).put o.dst (.v undef)) K)
            | false => br b (opsK cfg rec ops rest ((st.put (some d) (.v (.bool true))).put o.dst (.v undef)) K) (opK cfg rec o (st.put (some d) (.v (.bool false))) (fun st' => opsK cfg rec ops rest st' K))
          | none => False

/-! ### Weakening: what a loop's head is said to hold -/
def tmLe : List SV → List SV → Prop
  | [], [] => True
  | x :: xs, y :: ys => (match y with | .any => True | y => x = y) ∧ tmLe xs ys
  | _, _ => False
def BLe (b b' : SB τ) : Prop :=
  match b, b' with
  | _, .gone => True
  | .own (.sv l) n T sz ep nn, .own (.sv l') n' T' sz' ep' nn' => n = n' ∧ T = T' ∧ sz = sz' ∧ ep = ep' ∧ (nn' = true → nn = true) ∧ tmLe l l'
  | .own (.ints k xs) n T sz ep nn, .own (.ints k' xs') n' T' sz' ep' nn' => n = n' ∧ T = T' ∧ sz = sz' ∧ ep = ep' ∧ (nn' = true → nn = true) ∧ k = k' ∧ xs = xs'
  | .own (.recs xs) n T sz ep nn, .own (.recs xs') n' T' sz' ep' nn' => n = n' ∧ T = T' ∧ sz = sz' ∧ ep = ep' ∧ (nn' = true → nn = true) ∧ xs = xs'
  | .cells l T, .ints k xs n T' => T = T' ∧ l = xs.map (fun x => .v (.int k x)) ∧ xs.length = n
  | .cells l T, .cells l' T' => T = T' ∧ tmLe l l'
  | .loop st pd tm ps asg body d, .loop st' pd' tm' ps' asg' body' d' => st = st' ∧ pd = pd' ∧ tmLe tm tm' ∧ ps = ps' ∧ asg = asg' ∧ body = body' ∧ d = d'
  | b, b' => b = b'
def HLe : List (SB τ) → List (SB τ) → Prop
  | _, [] => True
  | [], _ :: _ => False
  | b :: bs, b' :: bs' => BLe b b' ∧ HLe bs bs'
mutual
def scS (k : Nat) : SV → Bool
  | .p b _ => Nat.blt b k
  | .s b _ _ _ => Nat.blt b k
  | .y b => Nat.blt b k
  | .h b _ => Nat.blt b k
  | .r b _ => Nat.blt b k
  | .f _ l => scL k l
  | .a l => scL k l
  | .t l => scL k l
  | _ => true
def scL (k : Nat) : List SV → Bool
  | [] => true
  | x :: xs => scS k x && scL k xs
end
def scB (k : Nat) : SB τ → Bool
  | .cells l _ => scL k l
  | .own (.sv l) _ _ _ _ _ => scL k l
  | .limbo b _ _ _ _ _ => Nat.blt b k
  | .loop _ _ tm _ _ _ d => scL k tm && Nat.blt d k
  | _ => true
def scH (k : Nat) : List (SB τ) → Bool
  | [] => true
  | b :: bs => scB k b && scH k bs
/-- s may be taken for s'. -/
structure Weak (s s' : St τ) : Prop where
  tm : tmLe s.tm s'.tm
  H : HLe s.H s'.H
  df : s.df = s'.df
  base : s.base = s'.base
  rnd : s.rnd = s'.rnd
  le : Nat.ble s'.base s'.H.length = true
  sc : (scL s'.H.length s'.tm && scH s'.H.length s'.H && s'.df.all (Nat.blt · s'.H.length)) = true

/-! ### The same, as what is to be shown -/
def tmP : List SV → List SV → Prop
  | [], [] => True
  | x :: xs, y :: ys => match y with
    | .any => tmP xs ys
    | _ => x = y ∧ tmP xs ys
  | _, _ => False
theorem tmP_ok : ∀ {xs ys : List SV}, tmP xs ys → tmLe xs ys
  | [], [], _ => trivial
  | [], _ :: _, h => h.elim
  | _ :: _, [], h => h.elim
  | x :: xs, y :: ys, h => by
    unfold tmP at h
    unfold tmLe
    cases y with
    | any => exact ⟨trivial, tmP_ok h⟩
    | _ => exact ⟨h.1, tmP_ok h.2⟩
def bP (b b' : SB τ) : Prop :=
  match b' with
  | .gone => True
  | .own c' n' T' sz' ep' nn' => match b with
    | .own c n T sz ep nn => rq (Nat.beq T T' && Nat.beq sz sz' && (!nn' || nn)) (n = n' ∧ ep = ep' ∧ (match c' with
      | .sv l' => match c with
        | .sv l => tmP l l'
        | _ => False
      | .ints k' xs' => match c with
        | .ints k xs => rq (decide (k = k')) (xs = xs')
        | _ => False
      | .recs xs' => match c with
        | .recs xs => xs = xs'
        | _ => False))
    | _ => False
  | .rows R' T' TS' oe' ep' pd' => match b with
    | .rows R T TS oe ep pd => rq (Nat.beq T T' && Nat.beq TS TS' && pd.isNone && pd'.isNone) (oe = oe' ∧ ep = ep' ∧ (match R' with
      | .i k' l' => match R with
        | .i k l => rq (decide (k = k')) (l = l')
        | _ => False
      | .c l' => match R with
        | .c l => l = l'
        | _ => False))
    | _ => False
  | .limbo i' q' L' T' TS' ep' => match b with
    | .limbo i q L T TS ep => rq (Nat.beq i i' && Nat.beq T T' && Nat.beq TS TS') (q = q' ∧ ep = ep' ∧ (match L' with
      | .i k' l' => match L with
        | .i k l => rq (decide (k = k')) (l = l')
        | _ => False
      | .c l' => match L with
        | .c l => l = l'
        | _ => False))
    | _ => False
  | .inp c' => match b with
    | .inp c => c = c'
    | _ => False
  | .ints k' xs' n' T' => match b with
    | .cells l T => rq (Nat.beq T T' && Nat.beq l.length n' && allInts k' l) (intsOf l = xs')
    | .ints k xs n T => rq (Nat.beq T T' && Nat.beq n n' && decide (k = k')) (xs = xs')
    | _ => False
  | .cells l' T' => match b with
    | .cells l T => rq (Nat.beq T T') (tmP l l')
    | _ => False
  | .loop st' pd' tm' ps' asg' body' d' => match b with
    | .loop st pd tm ps asg body d => rq (st == st' && pd.isNone && pd'.isNone && Nat.beq d d') (tmP tm tm' ∧ ps = ps' ∧ asg = asg' ∧ body = body')
    | _ => False
  | .res r' => match b with
    | .res r => r = r'
    | _ => False
  | .obj o' => match b with
    | .obj o => o = o'
    | _ => False
theorem bP_ok {b b' : SB τ} (h : bP b b') : BLe b b' := by
  unfold bP at h
  cases b' with
  | gone => cases b <;> exact trivial
  | own c' n' T' sz' ep' nn' =>
    cases b with
    | own c n T sz ep nn =>
      obtain ⟨h1, h2, h3, h4⟩ := rq_elim h
      simp only [Bool.and_eq_true, Nat.beq_eq, Bool.or_eq_true, Bool.not_eq_true'] at h1
      have hnn : nn' = true → nn = true := fun hh => by
        rcases h1.2 with h5 | h5
        · rw [hh] at h5; cases h5
        · exact h5
      cases c' with
      | sv l' =>
        cases c with
        | sv l => exact ⟨h2, h1.1.1, h1.1.2, h3, hnn, tmP_ok h4⟩
        | _ => exact h4.elim
      | ints k' xs' =>
        cases c with
        | ints k xs =>
          obtain ⟨h5, h6⟩ := rq_elim h4
          exact ⟨h2, h1.1.1, h1.1.2, h3, hnn, of_decide_eq_true h5, h6⟩
        | _ => exact h4.elim
      | recs xs' =>
        cases c with
        | recs xs => exact ⟨h2, h1.1.1, h1.1.2, h3, hnn, h4⟩
        | _ => exact h4.elim
    | _ => exact h.elim
  | rows R' T' TS' oe' ep' pd' =>
    cases b with
    | rows R T TS oe ep pd =>
      obtain ⟨h1, h2, h3, h4⟩ := rq_elim h
      simp only [Bool.and_eq_true, Nat.beq_eq, Option.isNone_iff_eq_none] at h1
      obtain ⟨⟨⟨rfl, rfl⟩, rfl⟩, rfl⟩ := h1
      subst h2; subst h3
      cases R' with
      | i k' l' =>
        cases R with
        | i k l => obtain ⟨h5, h6⟩ := rq_elim h4; have h5 := of_decide_eq_true h5; subst h5; subst h6; rfl
        | _ => exact h4.elim
      | c l' =>
        cases R with
        | c l => simp only at h4; subst h4; rfl
        | _ => exact h4.elim
    | _ => exact h.elim
  | limbo i' q' L' T' TS' ep' =>
    cases b with
    | limbo i q L T TS ep =>
      obtain ⟨h1, h2, h3, h4⟩ := rq_elim h
      simp only [Bool.and_eq_true, Nat.beq_eq] at h1
      obtain ⟨⟨rfl, rfl⟩, rfl⟩ := h1
      subst h2; subst h3
      cases L' with
      | i k' l' =>
        cases L with
        | i k l => obtain ⟨h5, h6⟩ := rq_elim h4; have h5 := of_decide_eq_true h5; subst h5; subst h6; rfl
        | _ => exact h4.elim
      | c l' =>
        cases L with
        | c l => simp only at h4; subst h4; rfl
        | _ => exact h4.elim
    | _ => exact h.elim
  | inp c' =>
    cases b with
    | inp c =>
      simp only at h
      subst h
      rfl
    | _ => exact h.elim
  | ints k' xs' n' T' =>
    cases b with
    | cells l T =>
      obtain ⟨h1, h2⟩ := rq_elim h
      simp only [Bool.and_eq_true, Nat.beq_eq] at h1
      subst h2
      exact ⟨h1.1.1, allInts_ok h1.2, by rw [intsOf_length]; exact h1.1.2⟩
    | ints k xs n T =>
      obtain ⟨h1, h2⟩ := rq_elim h
      simp only [Bool.and_eq_true, Nat.beq_eq, decide_eq_true_eq] at h1
      obtain ⟨⟨rfl, rfl⟩, rfl⟩ := h1
      subst h2
      rfl
    | _ => exact h.elim
  | cells l' T' =>
    cases b with
    | cells l T => obtain ⟨h1, h2⟩ := rq_elim h; exact ⟨Nat.eq_of_beq_eq_true h1, tmP_ok h2⟩
    | _ => exact h.elim
  | loop st' pd' tm' ps' asg' body' d' =>
    cases b with
    | loop st pd tm ps asg body d =>
      obtain ⟨h1, h2, h3, h4, h5⟩ := rq_elim h
      simp only [Bool.and_eq_true, beq_iff_eq, Option.isNone_iff_eq_none, Nat.beq_eq] at h1
      exact ⟨h1.1.1.1, h1.1.1.2.trans h1.1.2.symm, tmP_ok h2, h3, h4, h5, h1.2⟩
    | _ => exact h.elim
  | res r' =>
    cases b with
    | res r => simp only at h; subst h; rfl
    | _ => exact h.elim
  | obj o' =>
    cases b with
    | obj o => simp only at h; subst h; rfl
    | _ => exact h.elim
def hP : List (SB τ) → List (SB τ) → Prop
  | _, [] => True
  | [], _ :: _ => False
  | b :: bs, c :: cs => bP b c ∧ hP bs cs
theorem hP_ok : ∀ {H H' : List (SB τ)}, hP H H' → HLe H H'
  | [], [], _ => trivial
  | _ :: _, [], _ => trivial
  | [], _ :: _, h => h.elim
  | b :: bs, c :: cs, h => ⟨bP_ok h.1, hP_ok h.2⟩
def beqNL : List Nat → List Nat → Bool
  | [], [] => true
  | a :: l, b :: r => Nat.beq a b && beqNL l r
  | _, _ => false
theorem beqNL_ok : ∀ {l r : List Nat}, beqNL l r = true → l = r
  | [], [], _ => rfl
  | [], _ :: _, h => by simp [beqNL] at h
  | _ :: _, [], h => by simp [beqNL] at h
  | a :: l, b :: r, h => by
    simp only [beqNL, Bool.and_eq_true, Nat.beq_eq] at h
    rw [h.1, beqNL_ok h.2]
def weakP (s s' : St τ) : Prop :=
  rq (beqNL s.df s'.df && Nat.beq s.base s'.base && (s.rnd == s'.rnd) && Nat.ble s'.base s'.H.length && (scL s'.H.length s'.tm && scH s'.H.length s'.H && s'.df.all (Nat.blt · s'.H.length))) (tmP s.tm s'.tm ∧ hP s.H s'.H)
theorem weakP_ok {s s' : St τ} (h : weakP s s') : Weak s s' := by
  obtain ⟨h1, h2, h3⟩ := rq_elim h
  rw [Bool.and_eq_true, Bool.and_eq_true, Bool.and_eq_true, Bool.and_eq_true] at h1
  obtain ⟨⟨⟨⟨a1, a2⟩, a3⟩, a4⟩, a5⟩ := h1
  exact ⟨tmP_ok h2, hP_ok h3, beqNL_ok a1, Nat.eq_of_beq_eq_true a2, by simpa using a3, a4, a5⟩

def assoc {α : Type} : List (Nat × α) → Nat → Option α
  | [], _ => none
  | (k, a) :: r, n => match Nat.beq k n with
    | true => some a
    | false => assoc r n
def tmplTm (keep : List Nat) (var : List (Nat × SV)) : Nat → List SV → List SV
  | _, [] => []
  | i, x :: xs => (match assoc var i with
    | some y => y
    | none => match hasN keep i with
      | true => x
      | false => .any) :: tmplTm keep var (i + 1) xs
def tmplH (var : List (Nat × SB τ)) : Nat → List (SB τ) → List (SB τ)
  | _, [] => []
  | i, x :: xs => (match assoc var i with
    | some y => y
    | none => x) :: tmplH var (i + 1) xs
def tmpl (keep : List Nat) (var : List (Nat × SV)) (heap : List (Nat × SB τ)) (st : St τ) : St τ :=
  { st with tm := tmplTm keep var 0 st.tm, H := tmplH heap 0 st.H }
def getI (tm : List SV) (i : Nat) : Option Int :=
  match tm[i]? with
  | some (.v (.int _ n)) => some n
  | _ => none
def getB (tm : List SV) (i : Nat) : Option Bool :=
  match tm[i]? with
  | some (.v (.bool n)) => some n
  | _ => none
def getC (H : List (SB τ)) (i : Nat) : List SV :=
  match H[i]? with
  | some (.cells l _) => l
  | _ => []

def getXs (H : List (SB τ)) (i : Nat) : List Int :=
  match H[i]? with
  | some (.cells l _) => intsOf l
  | some (.ints _ xs _ _) => xs
  | some (.own (.ints _ xs) _ _ _ _ _) => xs
  | _ => []

/-! ### Reading a state -/
def valInt (y : Value) : Int := match y with
  | .int _ n => n
  | _ => 0
def valStr (y : Value) : ByteArray := match y with
  | .string s => s
  | _ => ByteArray.empty
def svInt (x : SV) : Int := match x with
  | .v y => valInt y
  | _ => 0
def svStr (x : SV) : ByteArray := match x with
  | .v y => valStr y
  | _ => ByteArray.empty
def tmAt (l : List SV) (i : Nat) : SV := match l[i]? with
  | some x => x
  | none => .any
def tI (tm : List SV) (i : Nat) : Int := svInt (tmAt tm i)
def tS (tm : List SV) (i : Nat) : ByteArray := svStr (tmAt tm i)
def cAt (H : List (SB τ)) (b i : Nat) : SV := tmAt (getC H b) i
def cI (H : List (SB τ)) (b i : Nat) : Int := svInt (cAt H b i)
def cnInts (c : Cn) : List Int := match c with
  | .ints _ xs => xs
  | _ => []
def itInts (b : SB τ) : List Int := match b with
  | .own c _ _ _ _ _ => cnInts c
  | .ints _ xs _ _ => xs
  | _ => []
def xI (H : List (SB τ)) (b : Nat) : List Int := match H[b]? with
  | some it => itInts it
  | none => []
def cnRecs (c : Cn) : List C4 := match c with
  | .recs xs => xs
  | _ => []
def itRecs (b : SB τ) : List C4 := match b with
  | .own c _ _ _ _ _ => cnRecs c
  | _ => []
def xC (H : List (SB τ)) (b : Nat) : List C4 := match H[b]? with
  | some it => itRecs it
  | none => []
def icSS (c : IC) : List ByteArray := match c with
  | .ss L => L
  | _ => []
def itSS (b : SB τ) : List ByteArray := match b with
  | .inp c => icSS c
  | _ => []
def xS (H : List (SB τ)) (b : Nat) : List ByteArray := match H[b]? with
  | some it => itSS it
  | none => []

/-! ### The same state, made out: so that the kernel carries no chains of changes from round to round -/
def forceN (n : Nat) (k : Nat → Prop) : Prop :=
  match n with
  | 0 => k 0
  | m + 1 => k (m + 1)
theorem forceN_eq (n : Nat) (k : Nat → Prop) : forceN n k = k n := by cases n <;> rfl
def forceV (x : Value) (k : Value → Prop) : Prop :=
  match x with
  | .int j n => k (.int j n)
  | .bool b => k (.bool b)
  | y => k y
theorem forceV_eq (x : Value) (k : Value → Prop) : forceV x k = k x := by cases x <;> rfl
def forceS (x : SV) (k : SV → Prop) : Prop :=
  match x with
  | .v y => forceV y fun y => k (.v y)
  | .p b o => k (.p b o)
  | y => k y
theorem forceS_eq (x : SV) (k : SV → Prop) : forceS x k = k x := by cases x <;> simp [forceS, forceV_eq]
def forceL : List SV → (List SV → Prop) → Prop
  | [], k => k []
  | x :: xs, k => forceS x fun y => forceL xs fun ys => k (y :: ys)
theorem forceL_eq : ∀ (l : List SV) (k : List SV → Prop), forceL l k = k l
  | [], _ => rfl
  | x :: xs, k => by simp only [forceL, forceS_eq, forceL_eq xs]
def forceB (b : SB τ) (k : SB τ → Prop) : Prop :=
  match b with
  | .cells l T => forceL l fun l => k (.cells l T)
  | .obj (.stringIter s p) => forceN p fun p => k (.obj (.stringIter s p))
  | .own (.ints j xs) n T sz ep nn => k (.own (.ints j xs) n T sz ep nn)
  | .loop st pd tm ps asg body d => forceL tm fun tm => k (.loop st pd tm ps asg body d)
  | y => k y
theorem forceB_eq (b : SB τ) (k : SB τ → Prop) : forceB b k = k b := by
  unfold forceB
  split
  · rw [forceL_eq]
  · rw [forceN_eq]
  · rfl
  · rw [forceL_eq]
  · rfl
def forceH : List (SB τ) → (List (SB τ) → Prop) → Prop
  | [], k => k []
  | x :: xs, k => forceB x fun y => forceH xs fun ys => k (y :: ys)
theorem forceH_eq : ∀ (l : List (SB τ)) (k : List (SB τ) → Prop), forceH l k = k l
  | [], _ => rfl
  | x :: xs, k => by simp only [forceH, forceB_eq, forceH_eq xs]
def forceNs : List Nat → (List Nat → Prop) → Prop
  | [], k => k []
  | x :: xs, k => forceN x fun y => forceNs xs fun ys => k (y :: ys)
theorem forceNs_eq : ∀ (l : List Nat) (k : List Nat → Prop), forceNs l k = k l
  | [], _ => rfl
  | x :: xs, k => by simp only [forceNs, forceN_eq, forceNs_eq xs]
def forceSt (s : St τ) (k : St τ → Prop) : Prop := forceL s.tm fun tm => forceH s.H fun H => forceNs s.df fun df => forceN s.base fun base => match s.rnd with
  | true => k { tm := tm, H := H, df := df, base := base, rnd := true }
  | false => k { tm := tm, H := H, df := df, base := base, rnd := false }
theorem forceSt_eq (s : St τ) (k : St τ → Prop) : forceSt s k = k s := by
  unfold forceSt
  rw [forceL_eq, forceH_eq, forceNs_eq, forceN_eq]
  cases s with
  | mk tm H df base rnd => cases rnd <;> rfl

def noneC (c : Cn) : Bool :=
  match c with
  | .sv l => l.isEmpty
  | .ints _ xs => xs.isEmpty
  | .recs xs => xs.isEmpty
def nilAt (l : List SV) (i : Nat) : Bool :=
  match l[i]? with
  | some x => nilS x
  | none => false
/-- An item is put in another one's stead: what speaks of it. -/
def rnN (b b' c : Nat) : Option Nat :=
  match Nat.beq c b with
  | true => none
  | false => match Nat.beq c b' with
    | true => some b
    | false => some c
mutual
def rnS (b b' : Nat) : SV → SV
  | .p c o => match rnN b b' c with
    | some d => .p d o
    | none => .any
  | .s c o l k => match rnN b b' c with
    | some d => .s d o l k
    | none => .any
  | .y c => match rnN b b' c with
    | some d => .y d
    | none => .any
  | .h c q => match rnN b b' c with
    | some d => .h d q
    | none => .any
  | .r c q => match rnN b b' c with
    | some d => .r d q
    | none => .any
  | .f fn cs => .f fn (rnL b b' cs)
  | .a l => .a (rnL b b' l)
  | .t l => .t (rnL b b' l)
  | .any => .any
  | .v x => .v x
def rnL (b b' : Nat) : List SV → List SV
  | [] => []
  | x :: xs => rnS b b' x :: rnL b b' xs
end
def rnOk (b b' c : Nat) : Bool := !Nat.beq c b && !Nat.beq c b'
def rnB (b b' : Nat) (it : SB τ) : Option (SB τ) :=
  match it with
  | .cells l T => some (.cells (rnL b b' l) T)
  | .own c n T sz ep nn => match c with
    | .sv l => some (.own (.sv (rnL b b' l)) n T sz ep nn)
    | _ => some (.own c n T sz ep nn)
  | .limbo c q L T TS ep => match rnOk b b' c with
    | true => some (.limbo c q L T TS ep)
    | false => none
  | .loop ls pd tm ps asg body d => match rnOk b b' d with
    | true => some (.loop ls pd (rnL b b' tm) ps asg body d)
    | false => none
  | it => some it
/-- The items, from the i-th on. -/
def rnH (b b' : Nat) (it : SB τ) : Nat → List (SB τ) → Option (List (SB τ))
  | _, [] => some []
  | i, x :: xs => match Nat.beq i b with
    | true => match rnH b b' it (i + 1) xs with
      | some ys => some (it :: ys)
      | none => none
    | false => match Nat.beq i b' with
      | true => match rnH b b' it (i + 1) xs with
        | some ys => some (.gone :: ys)
        | none => none
      | false => match rnB b b' x with
        | some y => match rnH b b' it (i + 1) xs with
          | some ys => some (y :: ys)
          | none => none
        | none => none
/-- What a row's references become where the row is another item's next epoch: by that item's epoch and the row's own one, or (a block of so many cells) by its slice. -/
inductive AdK where
  | own (ep ep' : Nat)
  | blk (ep n : Nat)
def adN (q' c : Nat) (x : SV) : SV :=
  match Nat.beq c q' with
  | true => .any
  | false => x
mutual
def adS (q q' : Nat) (k : AdK) : SV → SV
  | .p c o => adN q' c (.p c o)
  | .s c o l m => match Nat.beq c q' with
    | false => .s c o l m
    | true => match k with
      | .blk ep n => match Nat.beq o 0 && (Nat.beq l n && Nat.beq m n) with
        | true => .h q [ep, 0]
        | false => .any
      | .own _ _ => .any
  | .y c => adN q' c (.y c)
  | .h c p => match Nat.beq c q' with
    | false => .h c p
    | true => match k with
      | .own ep ep' => match p with
        | e0 :: r => match Nat.beq e0 ep' with
          | true => .h q (ep :: r)
          | false => .any
        | [] => .any
      | .blk _ _ => .any
  | .r c p => adN q' c (.r c p)
  | .f fn cs => .f fn (adL q q' k cs)
  | .a l => .a (adL q q' k l)
  | .t l => .t (adL q q' k l)
  | .any => .any
  | .v x => .v x
def adL (q q' : Nat) (k : AdK) : List SV → List SV
  | [] => []
  | x :: xs => adS q q' k x :: adL q q' k xs
end
def adC (q q' : Nat) (k : AdK) (c : Cn) : Cn :=
  match c with
  | .sv l => .sv (adL q q' k l)
  | c => c
def adB (q q' : Nat) (k : AdK) (it : SB τ) : SB τ :=
  match it with
  | .cells l T => .cells (adL q q' k l) T
  | .own c n T sz ep nn => .own (adC q q' k c) n T sz ep nn
  | .loop ls pd tm ps asg body d => .loop ls pd (adL q q' k tm) ps asg body d
  | it => it
def adH (q q' : Nat) (k : AdK) (it : SB τ) : Nat → List (SB τ) → List (SB τ)
  | _, [] => []
  | i, x :: xs => (match Nat.beq i q with
    | true => it
    | false => match Nat.beq i q' with
      | true => .gone
      | false => adB q q' k x) :: adH q q' k it (i + 1) xs
def emptyC (c : Cn) : Cn :=
  match c with
  | .sv _ => .sv []
  | .ints k _ => .ints k []
  | .recs _ => .recs []
/-- Cells, as what a row holds that held the like of c. -/
def likeC (c : Cn) (l : List SV) : Cn :=
  match c with
  | .ints k _ => match allInts k l with
    | true => .ints k (intsOf l)
    | false => .sv l
  | _ => .sv l
def fx1 (st : St τ) (f : Fx) : Option (St τ) :=
  match f with
  | .nilTm i c T sz => match nilAt st.tm i && noneC c with
    | true => some { st with tm := st.tm.set i (.h st.H.length [0, 0]), H := st.H ++ [.own c 0 T sz 0 false] }
    | false => none
  | .nilLoop b i c T sz => match st.H[b]? with
    | some (.loop ls pd tm ps asg body d) => match nilAt tm i && noneC c with
      | true => some { st with H := st.H.set b (.loop ls pd (tm.set i (.h st.H.length [0, 0])) ps asg body d) ++ [.own c 0 T sz 0 false] }
      | false => none
    | _ => none
  | .nilCell b i c T sz => match st.H[b]? with
    | some (.cells l T') => match nilAt l i && noneC c with
      | true => some { st with H := st.H.set b (.cells (l.set i (.h st.H.length [0, 0])) T') ++ [.own c 0 T sz 0 false] }
      | false => none
    | _ => none
  | .pad => some { st with H := st.H ++ [.gone] }
  | .mv b b' => match Nat.ble st.base b && (Nat.blt b st.H.length && (!Nat.beq b b' && st.df.all (rnOk b b'))) with
    | true => match st.H[b']? with
      | some x => match rnB b b' x with
        | some it => match rnH b b' it 0 st.H with
          | some H' => some { st with tm := rnL b b' st.tm, H := H' }
          | none => none
        | none => none
      | none => none
    | false => none
  | .nilInto b i q => match Nat.beq b q with
    | true => none
    | false => match st.H[b]? with
      | some (.cells l T') => match st.H[q]? with
        | some (.own c _ T sz ep _) => match nilAt l i with
          | true => some { st with H := (st.H.set q (.own (emptyC c) 0 T sz (ep + 1) false)).set b (.cells (l.set i (.h q [ep + 1, 0])) T') }
          | false => none
        | _ => none
      | _ => none
  | .adopt q q' => match Nat.beq q q' with
    | true => none
    | false => match st.H[q]? with
      | some (.own c _ T sz ep _) => match st.H[q']? with
        | some (.own c' n' T' sz' ep' nn') => match Nat.beq T T' && Nat.beq sz sz' with
          | true => some { st with tm := adL q q' (.own (ep + 1) ep') st.tm, H := adH q q' (.own (ep + 1) ep') (.own (adC q q' (.own (ep + 1) ep') c') n' T sz (ep + 1) nn') 0 st.H }
          | false => none
        | some (.cells l T') => match Nat.beq T T' && (Nat.beq sz 1 && Nat.ble l.length 1000) with
          | true => some { st with tm := adL q q' (.blk (ep + 1) l.length) st.tm, H := adH q q' (.blk (ep + 1) l.length) (.own (adC q q' (.blk (ep + 1) l.length) (likeC c l)) l.length T 1 (ep + 1) true) 0 st.H }
          | false => none
        | _ => none
      | _ => none
  | _ => none
/-- Rows that have nothing. -/
def Rws.none (k : Option IntKind) (n : Nat) : Rws :=
  match k with
  | some k => .i k (List.replicate n [])
  | .none => .c (List.replicate n [])
def Lim.none (k : Option IntKind) : Lim :=
  match k with
  | some k => .i k []
  | .none => .c []
/-- So many nil slices. -/
structure Nils (l : List SV) (n : Nat) : Prop where
  h : l = List.replicate n (.v (.slice .none 0 0))
/-- Nothing at all. -/
structure NoRow (l : List SV) (n : Nat) : Prop where
  n0 : n = 0
  l0 : l = []
/-- Nil slices are seen as rows that have nothing, or an empty row of them as headers of another item's. -/
def fx2 (st : St τ) (f : Fx) : Option (Prop × St τ) :=
  match f with
  | .asRows b k T => match st.H[b]? with
    | some (.own c n TS sz ep nn) => match c with
      | .sv l => match Nat.beq sz 1 with
        | true => some (Nils l n, { st with H := st.H.set b (.rows (Rws.none k n) T TS ep (ep + 1) .none) })
        | false => .none
      | _ => .none
    | _ => .none
  | .asLimbo b b' k T => match st.H[b]? with
    | some (.own c n TS sz ep nn) => match c with
      | .sv l => match Nat.beq sz 1 with
        | true => match st.H[b']? with
          | some (.rows _ _ _ _ re _) => some (NoRow l n, { st with H := st.H.set b (.limbo b' re (Lim.none k) T TS ep) })
          | _ => .none
        | false => .none
      | _ => .none
    | _ => .none
  | _ => .none
def fxs (st : St τ) : List Fx → (St τ → Prop) → Prop
  | [], K => K st
  | f :: r, K => match fx1 st f with
    | some st' => fxs st' r K
    | none => match fx2 st f with
      | some (φ, st') => φ ∧ fxs st' r K
      | none => False
def fxK (A : Ann τ) (st : St τ) (K : St τ → Prop) : Prop :=
  forceSt st fun st => fxs st (A.fx st) fun st' => forceSt st' K
def annK (A : Ann τ) (rec : Rec τ) (body : Code) (st : St τ) (K : Exit → St τ → Prop) : Prop :=
  fxK A st fun st => match A.get st with
  | some x0 => A.φ st x0 ∧ weakP st (A.f st x0) ∧ ∀ x, A.φ st x → rec body (A.f st x) (fun ex s => match ex with
    | .normal => fxK A s fun s => match A.get s with
      | some y => A.φ st y ∧ weakP s (A.f st y) ∧ A.μ st y < A.μ st x
      | none => False
    | e => K e s)
  | none => False
/-- A code's end, where all ways meet: the state as a function of what varies. -/
def joinK (A : Ann τ) (st s : St τ) : Prop :=
  fxK A s fun s => match A.get s with
  | some y => A.φ st y ∧ weakP s (A.f st y)
  | none => False
def roundsK (rec : Rec τ) (body : Code) (K : Exit → St τ → Prop) : Nat → St τ → Prop
  | 0, _ => False
  | m + 1, st => rec body st (fun ex s => match ex with
    | .normal => forceSt s (roundsK rec body K m)
    | e => K e s)
/-- A loop that is annotated, but not from its first rounds on: they are run as they are. -/
def peelK (A : Ann τ) (rec : Rec τ) (body : Code) (K : Exit → St τ → Prop) : Nat → St τ → Prop
  | 0, st => annK A rec body st K
  | m + 1, st => match A.on st with
    | true => annK A rec body st K
    | false => rec body st (fun ex s => match ex with
      | .normal => forceSt s (peelK A rec body K m)
      | e => K e s)
end

end Go.Sym
