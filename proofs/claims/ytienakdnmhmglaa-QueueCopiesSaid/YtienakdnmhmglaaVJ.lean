/- Regions that draw their order of evaluation: what the symbolic run asks of them, and the facts that it gathers. -/
import Derived.Test.YtienakdnmhmglaaVH
set_option linter.unusedSimpArgs false
set_option linter.unusedVariables false
set_option linter.unusedSectionVars false
namespace Go.Sym
open Go
variable {τ : Type} {I : Inv τ}

/-- What an operation of such a region comes to. -/
inductive Ef (τ : Type) where
  | q (x : SV)
  | al (b : SB τ)
  | st (b : Nat) (c : SB τ)
  | si (b : Nat) (c : SB τ) (x : SV)
def Ef.val : Ef τ → Nat → SV
  | .q x, _ => x
  | .al _, id => .p id 0
  | .st _ _, _ => .v undef
  | .si _ _ x, _ => x
def Ef.nb : Ef τ → SB τ
  | .al b => b
  | _ => .gone

def edgeB (ops : Array Oper) (k j : Nat) : Bool :=
  match ops[k]? with
  | some o => o.after.toList.any fun e => Region.binds .any e && Nat.beq e.on j
  | none => false

structure DSt (τ : Type) where
  tm : List SV
  E : List (Ef τ)
  rd : List (Nat × Nat)
  cl : List Nat
  al : List Nat
  sto : Option (Nat × Nat × SB τ)

/-- The block that a copy writes. -/
def copyTo (op : Op) (tm : List SV) : Option Nat :=
  match op with
  | .call { callee := .builtin .copy, args, .. } => match args.toList.map (ev tm) with
    | [.s b _ _ _, _] => some b
    | _ => none
  | _ => none

def DSt.next (d : DSt τ) (dst : Option Tmp) (id : Nat) (ef : Ef τ) : DSt τ := { d with tm := putS dst (ef.val id) d.tm, E := d.E ++ [ef] }

/-- The heap when the operations of p have been carried out. -/
def itemA (E : List (Ef τ)) (p : Nat → Bool) (k : Nat) : SB τ :=
  match p k, E[k]? with
  | true, some ef => ef.nb
  | _, _ => .gone
def heapA (H : List (SB τ)) (pad : Nat) (E : List (Ef τ)) (p : Nat → Bool) : List (SB τ) :=
  H ++ (List.range pad).map (itemA E p)
def heapS (H : List (SB τ)) (pad : Nat) (E : List (Ef τ)) (sto : Option (Nat × Nat × SB τ)) (p : Nat → Bool) : List (SB τ) :=
  match sto with
  | some (s, b, c) => match p s with
    | true => (heapA H pad E p).set b c
    | false => heapA H pad E p
  | none => heapA H pad E p

def opD (cfg : Cfg τ) (H : List (SB τ)) (pad : Nat) (o : Oper) (d : DSt τ) (K : DSt τ → Prop) : Prop :=
  match o.op with
  | .store T a x => match d.sto, ev d.tm a with
    | none, .p b off => match (heapS H pad d.E none (fun _ => true))[b]?, cellsV (ev d.tm x), szT cfg.P T with
      | some (.cells l T'), some c, some n => match c.length == n && Nat.ble (off + n) l.length && c.all oneS with
        | true => K { d.next o.dst (H.length + d.E.length) (.st b (.cells (setAll l off c) T')) with sto := some (d.E.length, b, .cells (setAll l off c) T') }
        | false => False
      | _, _, _ => False
    | _, _ => False
  | .alloc T => match zeroT cfg.P T, Nat.blt d.E.length pad with
    | some z, true => K { d.next o.dst (H.length + d.E.length) (.al (.cells (z.cells.toList.map .v) T)) with al := d.E.length :: d.al }
    | _, _ => False
  | .box T y => match cellsV (ev d.tm y), Nat.blt d.E.length pad with
    | some l, true => K { d.next o.dst (H.length + d.E.length) (.al (.cells l T)) with al := d.E.length :: d.al }
    | _, _ => False
  | .call { callee := .value f, args, .. } => match calleeS (ev d.tm f) with
    | some (g, fi, ca) => match cfg.P.funcs[g]?, cfg.pcon g with
      | some fn, some pc => match fn.name == "runtime.NumGoroutine", fn.body.isNone, pc (fi ++ args.toList.map (ev d.tm) ++ ca) H with
        | false, false, some (φ, x) => φ ∧ K { d.next o.dst 0 (.q x) with cl := d.E.length :: d.cl }
        | _, _, _ => False
      | _, _ => False
    | none => False
  | .pick c a b => match ev d.tm c with
    | .v (.bool q) => br q (K ({ d with tm := setB c true d.tm }.next o.dst 0 (.q (ev (setB c true d.tm) a)))) (K ({ d with tm := setB c false d.tm }.next o.dst 0 (.q (ev (setB c false d.tm) b))))
    | _ => False
  | op => match stepV cfg.P op d.tm H with
    | some (c, x) => rq c (K (match touch op d.tm with
      | some b => { d.next o.dst 0 (.q x) with rd := (d.E.length, b) :: d.rd }
      | none => d.next o.dst 0 (.q x)))
    | none => match d.sto, copyTo op d.tm, stepI cfg.P op d.tm H with
      | none, some b, some (c, x, H') => match H'[b]? with
        | some nb => rq c (K { d.next o.dst 0 (.si b nb x) with sto := some (d.E.length, b, nb) })
        | none => False
      | _, _, _ => False

def drawGo (cfg : Cfg τ) (H : List (SB τ)) (pad : Nat) (ops : Array Oper) : List Oper → DSt τ → (DSt τ → Prop) → Prop
  | [], d, K => K d
  | o :: rest, d, K => match o.guard with
    | none => opD cfg H pad o d (fun d' => drawGo cfg H pad ops rest d' K)
    | some (j, want) => match (ops[j]?).bind (·.dst) with
      | none => False
      | some t => match d.tm[t]? with
        | none => False
        | some x => match boolV x with
          | some none => drawGo cfg H pad ops rest (d.next o.dst 0 (.q (.v undef))) K
          | some (some b) => match want with
            | true => br b (opD cfg H pad o { d with tm := d.tm.set t (.v (.bool true)) } (fun d' => drawGo cfg H pad ops rest d' K))
                (drawGo cfg H pad ops rest ({ d with tm := d.tm.set t (.v (.bool false)) }.next o.dst 0 (.q (.v undef))) K)
            | false => br b (drawGo cfg H pad ops rest ({ d with tm := d.tm.set t (.v (.bool true)) }.next o.dst 0 (.q (.v undef))) K)
                (opD cfg H pad o { d with tm := d.tm.set t (.v (.bool false)) } (fun d' => drawGo cfg H pad ops rest d' K))
          | none => False

/-- The edges order whatever must be ordered. -/
def okPair (ops : Array Oper) (k j : Nat) (ok oj : Oper) : Bool :=
  match oj.dst with
  | none => true
  | some d => (!(ok.looksAt ops).contains d || (Nat.blt j k && edgeB ops k j) || (Nat.blt k j && edgeB ops j k)) &&
    (match ok.dst with
     | some d' => !Nat.beq d d'
     | none => true)
def okD (ops : Array Oper) : Bool :=
  let l := ops.toList.zipIdx
  l.all fun (ok, k) => (ok.after.toList.all fun e => !Region.binds .any e || Nat.blt e.on k) && l.all fun (oj, j) => Nat.beq j k || okPair ops k j ok oj
def okS (H : List (SB τ)) (ops : Array Oper) (d : DSt τ) : Bool :=
  match d.sto with
  | none => true
  | some (s, b, _) => d.rd.all (fun r => edgeB ops s r.1 || !Nat.beq r.2 b) && d.cl.all (fun k => edgeB ops s k) && d.al.all (fun k => edgeB ops s k || !Nat.beq (H.length + k) b)

def padOf (ops : Array Oper) : Nat :=
  match ops.toList.any fun o => match o.op with | .alloc _ => true | .box _ _ => true | _ => false with
  | true => ops.size
  | false => 0

def drawK (cfg : Cfg τ) (ops : Array Oper) (st : St τ) (K : St τ → Prop) : Prop :=
  match okD ops with
  | true => drawGo cfg st.H (padOf ops) ops ops.toList { tm := st.tm, E := [], rd := [], cl := [], al := [], sto := none } (fun d =>
    match okS st.H ops d with
    | true => K { st with tm := d.tm, H := heapS st.H (padOf ops) d.E d.sto (fun _ => true) }
    | false => False)
  | false => False

/-! ### The facts -/
def PConOk (I : Inv τ) (P : Program) (g : FuncId) (pc : PCon τ) : Prop :=
  ∀ (args : List SV) (H X : List (SB τ)) (φ : Prop) (x : SV) (e : Env) (Fr : PH) (w : World) (vs : List Value),
    pc args H = some (φ, x) → φ → DenL e args vs → Models I e (H ++ X) Fr w → Calls P g vs.toArray w fun en w' => ∃ v, en = .returned v ∧ Den e x v ∧ Ext w w'

/-- Is it carried out, at this frame? -/
def wantS (ops : Array Oper) (o : Oper) (tm : List SV) (b : Bool) : Prop :=
  match o.guard with
  | none => b = true
  | some (j, want) => ∃ t x, (ops[j]?).bind (·.dst) = some t ∧ tm[t]? = some x ∧ ((boolV x = some none ∧ b = false) ∨ ∃ q, boolV x = some (some q) ∧ b = (q == want))

/-- An operation's effect is what the record says. -/
def EfOk (cfg : Cfg τ) (H : List (SB τ)) (pad : Nat) (o : Oper) (k : Nat) (tm : List SV) (ef : Ef τ) (E : List (Ef τ)) (rd : List (Nat × Nat)) (cl al : List Nat) (sto : Option (Nat × Nat × SB τ)) : Prop :=
  match ef with
  | .q x => (∃ c, stepV cfg.P o.op tm H = some (c, x) ∧ c = true ∧ (∀ b, touch o.op tm = some b → (k, b) ∈ rd)) ∨
      (∃ f args ats g fi ca fn pc φ, o.op = .call { callee := .value f, args := args, argTypes := ats } ∧ calleeS (ev tm f) = some (g, fi, ca) ∧ cfg.P.funcs[g]? = some fn ∧ (fn.name == "runtime.NumGoroutine") = false ∧ fn.body.isNone = false ∧
        cfg.pcon g = some pc ∧ pc (fi ++ args.toList.map (ev tm) ++ ca) H = some (φ, x) ∧ φ ∧ k ∈ cl)
  | .al b => k < pad ∧ k ∈ al ∧ ((∃ T z, o.op = .alloc T ∧ zeroT cfg.P T = some z ∧ b = .cells (z.cells.toList.map .v) T) ∨ (∃ T y l, o.op = .box T y ∧ cellsV (ev tm y) = some l ∧ b = .cells l T))
  | .st b c => sto = some (k, b, c) ∧ ∃ T a x off l T' cs n, o.op = .store T a x ∧ ev tm a = .p b off ∧ (heapS H pad (E.take k) none (fun _ => true))[b]? = some (.cells l T') ∧ cellsV (ev tm x) = some cs ∧ szT cfg.P T = some n ∧
      (cs.length == n && Nat.ble (off + n) l.length && cs.all oneS) = true ∧ c = .cells (setAll l off cs) T'
  | .si b c x => sto = some (k, b, c) ∧ ∃ q H', copyTo o.op tm = some b ∧ stepI cfg.P o.op tm H = some (q, x, H') ∧ q = true ∧ H'[b]? = some c

structure Facts (cfg : Cfg τ) (H : List (SB τ)) (pad : Nat) (ops : Array Oper) (tm0 : List SV) (k : Nat) (d : DSt τ) (T : Nat → List SV) : Prop where
  len : d.E.length = k
  start : T 0 = tm0
  stop : T k = d.tm
  step : ∀ j o, j < k → ops[j]? = some o → ∃ ef b, d.E[j]? = some ef ∧ T (j + 1) = putS o.dst (ef.val (H.length + j)) (T j) ∧ wantS ops o (T j) b ∧
    ((b = false ∧ ef = .q (.v undef)) ∨ (b = true ∧ EfOk cfg H pad o j (T j) ef d.E d.rd d.cl d.al d.sto))
  sto : ∀ s b c, d.sto = some (s, b, c) → s < k ∧ (d.E[s]? = some (.st b c) ∨ ∃ x, d.E[s]? = some (.si b c x))

end Go.Sym
