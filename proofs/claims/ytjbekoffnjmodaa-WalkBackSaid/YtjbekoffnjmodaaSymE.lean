/- The symbolic run of code, and that it is sound (regions in the text's order; calls; loops). -/
import Derived.Test.YtjbekoffnjmodaaSymD
import Derived.TacticsIn
import Derived.LoopNIn
import Derived.OrdersIn
set_option linter.unusedSimpArgs false
set_option linter.unusedVariables false
set_option linter.unusedSectionVars false
namespace Go.Sym
open Go

structure St (τ : Type) where
  tm : List SV
  H : List (SB τ)
  df : List Nat
  base : Nat
  rnd : Bool

abbrev Con (τ : Type) := List SV → List (SB τ) → (SV → List (SB τ) → Prop) → Prop
abbrev PCon (τ : Type) := List SV → List (SB τ) → Option (Prop × SV)
structure Cfg (τ : Type) where
  P : Program
  con : Nat → Option (Con τ)
  pcon : Nat → Option (PCon τ)
  unroll : Nat

def rq (c : Bool) (A : Prop) : Prop := match c with | true => A | false => False
def br (b : Bool) (A B : Prop) : Prop := match b with | true => A | false => B
theorem rq_intro {c : Bool} {A : Prop} (h : c = true) (hA : A) : rq c A := by subst h; exact hA
theorem rq_elim {c : Bool} {A : Prop} (h : rq c A) : c = true ∧ A := by cases c with | true => exact ⟨rfl, h⟩ | false => exact h.elim
theorem br_intro {b : Bool} {A B : Prop} (h : b = true → A) (h' : b = false → B) : br b A B := by cases b with | true => exact h rfl | false => exact h' rfl
theorem br_elim {b : Bool} {A B : Prop} (h : br b A B) : (b = true ∧ A) ∨ (b = false ∧ B) := by cases b with | true => exact .inl ⟨rfl, h⟩ | false => exact .inr ⟨rfl, h⟩

def putS (dst : Option Tmp) (x : SV) (tm : List SV) : List SV :=
  match dst with
  | some d => tm.set d x
  | none => tm
def setB (o : Operand) (b : Bool) (tm : List SV) : List SV :=
  match o with
  | .tmp t => tm.set t (.v (.bool b))
  | _ => tm

section
variable {τ : Type}
abbrev Rec (τ : Type) := Code → St τ → (Exit → St τ → Prop) → Prop

def St.put (st : St τ) (dst : Option Tmp) (x : SV) : St τ := { st with tm := putS dst x st.tm }
def St.putH (st : St τ) (dst : Option Tmp) (x : SV) (H : List (SB τ)) : St τ := { st with tm := putS dst x st.tm, H := H }

def calleeS : SV → Option (FuncId × List SV × List SV)
  | .v (.func (.func g) a c) => some (g, a.toList.map .v, c.toList.map .v)
  | .f (.func g) cs => some (g, [], cs)
  | _ => none

def resS (P : Program) (tm : List SV) (H : List (SB τ)) : List ResultVar → Option (List SV)
  | [] => some []
  | .tmp t :: r => match resS P tm H r with
    | some l => some (tm.getD t (.v undef) :: l)
    | none => none
  | .cell a T :: r => match loadS P T (tm.getD a (.v undef)) H, resS P tm H r with
    | some x, some l => some (x :: l)
    | _, _ => none
def oneR : List SV → SV
  | [x] => x
  | l => .t l
def takeDf : List Nat → List (SB τ) → Option (List (SB τ))
  | [], H => some H
  | r :: rs, H => match H[r]? with
    | some (.obj (.deferred (some []))) => takeDf rs (H.set r (.obj (.deferred none)))
    | _ => none

def leaveK (P : Program) (fn : Func) (st : St τ) (K : SV → List (SB τ) → Prop) : Prop :=
  match takeDf st.df st.H with
  | some H' => match resS P st.tm H' fn.results.toList with
    | some l => K (oneR l) H'
    | none => False
  | none => False
def bodyK (P : Program) (rec : Rec τ) (fn : Func) (args : List SV) (H : List (SB τ)) (K : SV → List (SB τ) → Prop) : Prop :=
  match fn.body with
  | some c => rec c { tm := args ++ List.replicate (fn.ntmps - args.length) (.v undef), H := H, df := [], base := H.length, rnd := false }
      (fun ex st => match ex with
        | .normal => leaveK P fn st K
        | .ret => leaveK P fn st K
        | _ => False)
  | none => False
def callK (cfg : Cfg τ) (rec : Rec τ) (g : FuncId) (args : List SV) (H : List (SB τ)) (K : SV → List (SB τ) → Prop) : Prop :=
  match cfg.P.funcs[g]? with
  | some fn => match fn.name == "runtime.NumGoroutine", fn.body.isNone with
    | false, false => match cfg.con g with
      | some con => con args H K
      | none => bodyK cfg.P rec fn args H K
    | _, _ => False
  | none => False

def setPs (tm : List SV) : List (Tmp × SV) → List SV
  | [] => tm
  | (t, x) :: r => setPs (tm.set t x) r

/-- A call of yield: one round. -/
def yieldK (rec : Rec τ) (b : Nat) (args : List SV) (H : List (SB τ)) (K : SV → List (SB τ) → Prop) : Prop :=
  match H[b]? with
  | some (.loop _ _ tm ps asg body _) => match args.length == ps.size with
    | true => rec asg { tm := setPs tm (ps.toList.zip args), H := H, df := [], base := H.length, rnd := true } (fun ex s1 => match ex with
      | .normal => match s1.H[b]? with
        | some (.loop .ready pd t1 ps1 a1 b1 d1) => rec body { s1 with H := s1.H.set b (.loop .busy pd t1 ps1 a1 b1 d1) } (fun ex2 s2 => match s2.H[b]? with
          | some (.loop _ _ t2 ps2 a2 b2 d2) => match ex2 with
            | .normal => K (.v (.bool true)) (s2.H.set b (.loop .ready none t2 ps2 a2 b2 d2))
            | .ret => K (.v (.bool false)) (s2.H.set b (.loop .done (some .ret) t2 ps2 a2 b2 d2))
            | .exit id => K (.v (.bool false)) (s2.H.set b (.loop .done (some (.exit id)) t2 ps2 a2 b2 d2))
            | .goto l => K (.v (.bool false)) (s2.H.set b (.loop .done (some (.goto l)) t2 ps2 a2 b2 d2))
            | _ => False
          | _ => False)
        | _ => False
      | _ => False)
    | false => False
  | _ => False

def opK (cfg : Cfg τ) (rec : Rec τ) (o : Oper) (st : St τ) (K : St τ → Prop) : Prop :=
  match stepV cfg.P o.op st.tm st.H with
  | some (c, x) => rq c (K (st.put o.dst x))
  | none => match stepA cfg.P o.op st.tm st.H with
    | some (x, H') => K (st.putH o.dst x H')
    | none => match o.op with
      | .pick c a b => match ev st.tm c with
        | .v (.bool q) => br q (K ({ st with tm := setB c true st.tm }.put o.dst (ev (setB c true st.tm) a))) (K ({ st with tm := setB c false st.tm }.put o.dst (ev (setB c false st.tm) b)))
        | _ => False
      | .call { callee := .value f, args, .. } => match ev st.tm f with
        | .y b => yieldK rec b (args.toList.map (ev st.tm)) st.H (fun x H' => K (st.putH o.dst x H'))
        | x => match calleeS x with
          | some (g, fi, ca) => callK cfg rec g (fi ++ args.toList.map (ev st.tm) ++ ca) st.H (fun x H' => K (st.putH o.dst x H'))
          | none => False
      | _ => False

/-- Is it a bool, and which? -/
def boolV : SV → Option (Option Bool)
  | .v (.bool b) => some (some b)
  | .v _ => some none
  | .p _ _ => some none
  | .s _ _ _ _ => some none
  | .f _ _ => some none
  | .y _ => some none
  | .a _ => some none
  | .t _ => some none
  | _ => none

def opsK (cfg : Cfg τ) (rec : Rec τ) (ops : Array Oper) : List Oper → St τ → (St τ → Prop) → Prop
  | [], st, K => K st
  | o :: rest, st, K => match o.guard with
    | none => opK cfg rec o st (fun st' => opsK cfg rec ops rest st' K)
    | some (j, want) => match (ops[j]?).bind (·.dst) with
      | none => opsK cfg rec ops rest (st.put o.dst (.v undef)) K
      | some d => match st.tm[d]? with
        | none => opsK cfg rec ops rest (st.put o.dst (.v undef)) K
        | some x => match boolV x with
          | some none => opsK cfg rec ops rest (st.put o.dst (.v undef)) K
          | some (some b) => match want with
            | true => br b (opK cfg rec o (st.put (some d) (.v (.bool true))) (fun st' => opsK cfg rec ops rest st' K)) (opsK cfg rec ops rest ((st.put (some d) (.v (.bool false))).put o.dst (.v undef)) K)
            | false => br b (opsK cfg rec ops rest ((st.put (some d) (.v (.bool true))).put o.dst (.v undef)) K) (opK cfg rec o (st.put (some d) (.v (.bool false))) (fun st' => opsK cfg rec ops rest st' K))
          | none => False

/-! ### Weakening: what a loop's head is said to hold -/
def tmLe : List SV → List SV → Prop
  | [], [] => True
  | x :: xs, y :: ys => (match y with | .any => True | y => x = y) ∧ tmLe xs ys
  | _, _ => False
def BLe (b b' : SB τ) : Prop :=
  match b, b' with
  | _, .gone => True
  | .cells l T, .cells l' T' => T = T' ∧ tmLe l l'
  | b, b' => b = b'
def HLe : List (SB τ) → List (SB τ) → Prop
  | _, [] => True
  | [], _ :: _ => False
  | b :: bs, b' :: bs' => BLe b b' ∧ HLe bs bs'
mutual
def scS (k : Nat) : SV → Bool
  | .p b _ => Nat.blt b k
  | .s b _ _ _ => Nat.blt b k
  | .y b => Nat.blt b k
  | .h b _ => Nat.blt b k
  | .f _ l => scL k l
  | .a l => scL k l
  | .t l => scL k l
  | _ => true
def scL (k : Nat) : List SV → Bool
  | [] => true
  | x :: xs => scS k x && scL k xs
end
def scB (k : Nat) : SB τ → Bool
  | .cells l _ => scL k l
  | .loop _ _ tm _ _ _ d => scL k tm && Nat.blt d k
  | _ => true
def scH (k : Nat) : List (SB τ) → Bool
  | [] => true
  | b :: bs => scB k b && scH k bs
/-- s may be taken for s'. -/
structure Weak (s s' : St τ) : Prop where
  tm : tmLe s.tm s'.tm
  H : HLe s.H s'.H
  df : s.df = s'.df
  base : s.base = s'.base
  rnd : s.rnd = s'.rnd
  le : Nat.ble s'.base s'.H.length = true
  sc : (scL s'.H.length s'.tm && scH s'.H.length s'.H && s'.df.all (Nat.blt · s'.H.length)) = true

inductive LoopK (rec : Rec τ) (body : Code) (st : St τ) (K : Exit → St τ → Prop) : Prop
  | mk (α : Type) (φ : α → Prop) (f : α → St τ) (μ : α → Nat) (x0 : α) (h0 : φ x0) (hw : Weak st (f x0))
    (hr : ∀ x, φ x → rec body (f x) (fun ex s => match ex with
      | .normal => ∃ y, φ y ∧ Weak s (f y) ∧ μ y < μ x
      | e => K e s)) : LoopK rec body st K
def roundsK (rec : Rec τ) (body : Code) (K : Exit → St τ → Prop) : Nat → St τ → Prop
  | 0, _ => False
  | m + 1, st => rec body st (fun ex s => match ex with
    | .normal => roundsK rec body K m s
    | e => K e s)
end

end Go.Sym
