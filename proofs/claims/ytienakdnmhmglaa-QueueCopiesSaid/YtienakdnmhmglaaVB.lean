/- The symbolic step of an operation that reads and makes no memory, and that it is what the model does. -/
import Derived.Test.YtienakdnmhmglaaVA
set_option linter.unusedSimpArgs false
set_option linter.unusedVariables false
set_option linter.unusedSectionVars false
namespace Go.Sym
open Go

def ev (tm : List SV) : Operand → SV
  | .tmp t => tm.getD t (.v undef)
  | .const c => .v c
  | .global g => .v (.pointer (some ⟨g, 0, none⟩))
  | .func f => .v (.func (.func f) #[] #[])

theorem ev_ok {e : Env} {tm : List SV} {a : Act} (h : DenL e tm a.tmps.toList) (o : Operand) : Den e (ev tm o) (a.eval o) := by
  cases o with
  | tmp t =>
    simp only [ev, Act.eval, List.getD]
    cases hx : tm[t]? with
    | none =>
      have hl := h.length
      have : a.tmps.size ≤ t := by
        have := List.getElem?_eq_none_iff.1 hx
        simp at hl
        omega
      have h2 : a.tmps[t]? = none := by simp [this]
      simp [Den, h2]
    | some x =>
      obtain ⟨v, hv, hd⟩ := h.get hx
      have h2 : a.tmps[t]? = some v := by simpa using hv
      simpa [h2] using hd
  | const c => simp [ev, Act.eval, Den]
  | global g => simp [ev, Act.eval, Den]
  | func f => simp [ev, Act.eval, Den]

def plainL : List SV → Option (List Value)
  | [] => some []
  | .v x :: r => (plainL r).map (x :: ·)
  | _ => none
def plainV : SV → Option Value
  | .v x => some x
  | .a l => (plainL l).map fun vs => .agg vs.toArray
  | _ => none
theorem plainL_ok {e : Env} : ∀ {l : List SV} {vs us : List Value}, plainL l = some vs → DenL e l us → us = vs
  | [], _, _, h, hd => by simp only [plainL, Option.some.injEq] at h; simp only [DenL] at hd; rw [hd, ← h]
  | x :: r, vs, us, h, hd => by
    cases x with
    | v x =>
      simp only [plainL, Option.map_eq_some_iff] at h
      obtain ⟨vs', h1, rfl⟩ := h
      simp only [DenL] at hd
      obtain ⟨w, u, rfl, h2, h3⟩ := hd
      simp only [Den] at h2
      rw [h2, plainL_ok h1 h3]
    | _ => simp [plainL] at h
theorem plainV_ok {e : Env} {x : SV} {y v : Value} (h : plainV x = some y) (hd : Den e x v) : v = y := by
  cases x with
  | v x => simp only [plainV, Option.some.injEq] at h; simp only [Den] at hd; rw [hd, h]
  | a l =>
    simp only [plainV, Option.map_eq_some_iff] at h
    obtain ⟨vs, h1, rfl⟩ := h
    simp only [Den] at hd
    obtain ⟨us, h2, rfl⟩ := hd
    rw [plainL_ok h1 h2]
  | _ => simp [plainV] at h

/-- The cells of a value: what one variable of it takes. -/
def cellsV : SV → Option (List SV)
  | .any => none
  | .t _ => none
  | .v (.agg cs) => some (cs.toList.map .v)
  | .a l => some l
  | x => some [x]
theorem cellsV_ok {e : Env} {x : SV} {l : List SV} {v : Value} (h : cellsV x = some l) (hd : Den e x v) : DenL e l v.cells.toList := by
  cases x with
  | any => simp [cellsV] at h
  | t _ => simp [cellsV] at h
  | v x =>
    simp only [Den] at hd
    subst hd
    cases v <;> simp only [cellsV, Option.some.injEq] at h <;> subst h <;> first | exact DenL.plain _ | (simp [Value.cells, DenL, Den])
  | a l' =>
    simp only [cellsV, Option.some.injEq] at h
    subst h
    simp only [Den] at hd
    obtain ⟨vs, h2, rfl⟩ := hd
    simpa [Value.cells] using h2
  | p b o =>
    simp only [cellsV, Option.some.injEq] at h
    subst h
    have hd' := hd
    simp only [Den] at hd
    obtain ⟨n, h2, rfl⟩ := hd
    simp only [Value.cells, DenL]
    exact ⟨_, _, rfl, hd', rfl⟩
  | s b o len cap =>
    simp only [cellsV, Option.some.injEq] at h
    subst h
    have hd' := hd
    simp only [Den] at hd
    obtain ⟨n, h2, rfl⟩ := hd
    simp only [Value.cells, DenL]
    exact ⟨_, _, rfl, hd', rfl⟩
  | f fn cs =>
    simp only [cellsV, Option.some.injEq] at h
    subst h
    have hd' := hd
    simp only [Den] at hd
    obtain ⟨n, h2, rfl⟩ := hd
    simp only [Value.cells, DenL]
    exact ⟨_, _, rfl, hd', rfl⟩
  | y b =>
    simp only [cellsV, Option.some.injEq] at h
    subst h
    have hd' := hd
    simp only [Den] at hd
    obtain ⟨n, h2, rfl⟩ := hd
    simp only [Value.cells, DenL]
    exact ⟨_, _, rfl, hd', rfl⟩
  | h b q =>
    simp only [cellsV, Option.some.injEq] at h
    subst h
    have hd' := hd
    simp only [Den] at hd
    obtain ⟨g, _, _, h1⟩ := hd
    have hc : v.cells = #[v] := by cases v <;> simp_all [Value.cells, Value.oneCell']
    rw [hc]
    simp only [DenL]
    exact ⟨_, _, rfl, hd', rfl⟩
  | r b q =>
    simp only [cellsV, Option.some.injEq] at h
    subst h
    have hd' := hd
    simp only [Den] at hd
    obtain ⟨g, _, _, h1⟩ := hd
    have hc : v.cells = #[v] := by cases v <;> simp_all [Value.cells, Value.oneCell']
    rw [hc]
    simp only [DenL]
    exact ⟨_, _, rfl, hd', rfl⟩

/-- May a symbolic value lie in one cell? -/
def oneS : SV → Bool
  | .any => false
  | .a _ => false
  | .t _ => false
  | .v x => x.oneCell'
  | _ => true
theorem oneS_ok {e : Env} {x : SV} {v : Value} (h : oneS x = true) (hd : Den e x v) : v.oneCell' = true := by
  cases x with
  | v x => simp only [Den] at hd; subst hd; exact h
  | any => simp [oneS] at h
  | a _ => simp [oneS] at h
  | t _ => simp [oneS] at h
  | h b q => simp only [Den] at hd; obtain ⟨g, _, _, h1⟩ := hd; exact h1
  | r b q => simp only [Den] at hd; obtain ⟨g, _, _, h1⟩ := hd; exact h1
  | p b o => simp only [Den] at hd; obtain ⟨n, _, rfl⟩ := hd; rfl
  | s b o len cap => simp only [Den] at hd; obtain ⟨n, _, rfl⟩ := hd; rfl
  | f fn cs => simp only [Den] at hd; obtain ⟨n, _, rfl⟩ := hd; rfl
  | y b => simp only [Den] at hd; obtain ⟨n, _, rfl⟩ := hd; rfl

/-! ### Types -/
def aggT (P : Program) (T : TypeId) : Option Bool :=
  match P.underlying T with
  | some (.struct _) => some true
  | some (.array _ _) => some true
  | some _ => some false
  | none => none
def szT (P : Program) (T : TypeId) : Option Nat :=
  match P.info? T with
  | some i => some i.size
  | none => none
def zeroT (P : Program) (T : TypeId) : Option Value :=
  match P.info? T with
  | some i => i.zero
  | none => none
variable {P : Program} {w : World}
theorem run_und {T : TypeId} {d : TypeDesc} (h : P.underlying T = some d) : (underlying T).run P w = .ok d w := run_underlying h w
theorem run_szT {T : TypeId} {n : Nat} (h : szT P T = some n) : (sizeOf T).run P w = .ok n w := by
  unfold szT at h
  split at h
  · rename_i i hi
    simp only [Option.some.injEq] at h
    simp [sizeOf, typeInfo, hi, h]
  · simp at h
theorem run_zeroT {T : TypeId} {v : Value} (h : zeroT P T = some v) : (zeroValue T).run P w = .ok v w := by
  unfold zeroT at h
  split at h
  · rename_i i hi
    simp [zeroValue, typeInfo, hi, h]
  · simp at h
theorem run_aggT {T : TypeId} {b : Bool} (h : aggT P T = some b) : (isAgg T).run P w = .ok b w := by
  unfold aggT at h
  split at h <;> simp at h <;> subst h
  · rename_i d hd; simp [isAgg, run_und hd]
  · rename_i d e hd; simp [isAgg, run_und hd]
  · rename_i d h1 h2 hd
    simp only [isAgg, Sem.run_bind, run_und hd, Result.andThen_ok]
    cases d <;> first | rfl | exact absurd rfl (h1 _) | exact absurd rfl (h2 _ _)

/-! ### Loads -/
variable {τ : Type} {I : Inv τ}
def loadC (P : Program) (T : TypeId) (o : Nat) (l : List SV) : Option SV :=
  match aggT P T, szT P T with
  | some true, some n => match Nat.ble (o + n) l.length with
    | true => some (.a ((l.drop o).take n))
    | false => none
  | some false, _ => l[o]?
  | _, _ => none
def loadS (P : Program) (T : TypeId) (x : SV) (H : List (SB τ)) : Option SV :=
  match x with
  | .p b o => match H[b]? with
    | some (.cells l _) => loadC P T o l
    | _ => none
  | _ => none

theorem add_none (n o k : Nat) : (⟨n, o, none⟩ : Addr).add k = ⟨n, o + k, none⟩ := by
  unfold Addr.add; split <;> simp_all
theorem cell_at {n o : Nat} {c : Array Value} {T : TypeId} {fz : Nat × Nat} (h : w.heap[n]? = some (.cells c T fz)) : w.cell? ⟨n, o, none⟩ = c[o]? := by
  simp [World.cell?, h]

theorem loadC_okF {e : Env} {T : TypeId} {o n : Nat} {l : List SV} {x : SV} {vs : List Value} {T' : TypeId} {fz : Nat × Nat} (h : loadC P T o l = some x) (hd : DenL e l vs)
    (hw : w.heap[n]? = some (.cells vs.toArray T' fz)) : ∃ v, (loadVar T ⟨n, o, none⟩).run P w = .ok v w ∧ Den e x v := by
  unfold loadC at h
  split at h
  · rename_i k ha hs
    split at h
    · rename_i hb
      simp only [Option.some.injEq] at h
      subst h
      have hle : o + k ≤ l.length := by simpa using hb
      have hlv : o + k ≤ vs.length := by rw [← hd.length]; exact hle
      refine ⟨.agg ((vs.drop o).take k).toArray, ?_, ?_⟩
      · have hl := run_loadCells_list (P := P) w ⟨n, o, none⟩ ((vs.drop o).take k) (fun j v hj => by
          rw [add_none, cell_at hw]
          have hj2 : j < k := by
            have := (List.getElem?_eq_some_iff.1 hj).1
            simp at this
            omega
          rw [List.getElem?_take_of_lt hj2, List.getElem?_drop] at hj
          simpa using hj)
        have hlen : ((vs.drop o).take k).length = k := by simp; omega
        rw [hlen] at hl
        simp only [loadVar, Sem.run_bind, run_aggT ha, Result.andThen_ok, if_true, run_szT hs, hl, Sem.run_pure]
      · simp only [Den]
        exact ⟨_, (hd.drop o).take k, rfl⟩
    · simp at h
  · rename_i ha
    obtain ⟨v, hv, hdv⟩ := hd.get h
    refine ⟨v, ?_, hdv⟩
    have hc : w.cell? ⟨n, o, none⟩ = some v := by rw [cell_at hw]; simpa using hv
    simp only [loadVar, Sem.run_bind, run_aggT ha, Result.andThen_ok, Bool.false_eq_true, if_false, run_load, hc]
  · simp at h

theorem loadC_ok {e : Env} {T : TypeId} {o n : Nat} {l : List SV} {x : SV} {vs : List Value} {T' : TypeId} (h : loadC P T o l = some x) (hd : DenL e l vs)
    (hw : w.heap[n]? = some (.cells vs.toArray T' (0, 0))) : ∃ v, (loadVar T ⟨n, o, none⟩).run P w = .ok v w ∧ Den e x v := loadC_okF h hd hw

theorem loadS_ok {e : Env} {H : List (SB τ)} {Fr : PH} {T : TypeId} {x y : SV} {v : Value} (hM : Models I e H Fr w) (h : loadS P T x H = some y) (hd : Den e x v) :
    ∃ u, (Instr.loadAt T v).run P w = .ok u w ∧ Den e y u := by
  unfold loadS at h
  split at h
  · rename_i b o
    split at h
    · rename_i l T' hb
      obtain ⟨n, vs, h1, h2, h3⟩ := hM.cells hb
      simp only [Den] at hd
      obtain ⟨n', h4, rfl⟩ := hd
      rw [h1] at h4
      cases h4
      obtain ⟨u, hu, hdu⟩ := loadC_ok (P := P) h h2 h3
      refine ⟨u, ?_, hdu⟩
      simp only [Instr.loadAt, Instr.sureAddr, Sem.run_bind, Sem.run_pure, Result.andThen_ok, hu]
    · simp at h
  · simp at h

/-! ### Arithmetic -/
def bitsK (op : BinOp) (k : IntKind) (x y : Int) : Int :=
  let a := BitVec.ofInt k.bits x
  let b := BitVec.ofInt k.bits y
  match op with
  | .and => k.wrap (a &&& b).toNat
  | .or => k.wrap (a ||| b).toNat
  | .xor => k.wrap (a ^^^ b).toNat
  | _ => k.wrap (a &&& ~~~b).toNat

def arith (op : BinOp) (k : IntKind) (x : Int) (k' : IntKind) (y : Int) : Option (Bool × Value) :=
  match op with
  | .shl => some (decide (0 ≤ y), .int k (k.wrap (x * 2 ^ (min y.toNat k.bits))))
  | .shr => some (decide (0 ≤ y), .int k (x.fdiv (2 ^ (min y.toNat k.bits))))
  | op => if k = k' then
      match op with
      | .add => some (true, .int k (k.wrap (x + y)))
      | .sub => some (true, .int k (k.wrap (x - y)))
      | .mul => some (true, .int k (k.wrap (x * y)))
      | .quo => some (decide (y ≠ 0), .int k (k.wrap (x.tdiv y)))
      | .rem => some (decide (y ≠ 0), .int k (x.tmod y))
      | .and => some (true, .int k (bitsK .and k x y))
      | .or => some (true, .int k (bitsK .or k x y))
      | .xor => some (true, .int k (bitsK .xor k x y))
      | .andNot => some (true, .int k (bitsK .andNot k x y))
      | .eql => some (true, .bool (x == y))
      | .neq => some (true, .bool (x != y))
      | .lss => some (true, .bool (decide (x < y)))
      | .leq => some (true, .bool (decide (x ≤ y)))
      | .gtr => some (true, .bool (decide (x > y)))
      | .geq => some (true, .bool (decide (x ≥ y)))
      | _ => none
    else none

theorem arith_ok {op : BinOp} {T : TypeId} {k k' : IntKind} {x y : Int} {c : Bool} {v : Value} {ox oy : Operand} (h : arith op k x k' y = some (c, v)) (hc : c = true) :
    (do eqGuard op T ox oy (.int k x) (.int k' y); binOp op T (.int k x) (.int k' y) : Sem Value).run P w = .ok v w := by
  subst hc
  have hg : eqGuard op T ox oy (.int k x) (.int k' y) = pure () := by cases op <;> rfl
  rw [hg]
  simp only [Sem.run_bind, Sem.run_pure, Result.andThen_ok]
  unfold arith at h
  split at h
  · simp only [Option.some.injEq, Prod.mk.injEq, decide_eq_true_eq] at h
    obtain ⟨h1, rfl⟩ := h
    have : ¬ y < 0 := by omega
    simp [binOp, Op.shift, this]
  · simp only [Option.some.injEq, Prod.mk.injEq, decide_eq_true_eq] at h
    obtain ⟨h1, rfl⟩ := h
    have : ¬ y < 0 := by omega
    simp [binOp, Op.shift, this]
  · rename_i op h1 h2
    split at h
    · rename_i hk
      subst hk
      split at h <;> simp at h <;> (try obtain ⟨hy, rfl⟩ := h) <;> (try subst h) <;>
        simp [binOp, Op.intArith, Op.intDiv, Op.intBits, Op.intCmp, bitsK, *]
    · simp at h

def cmpStr (op : BinOp) (x y : ByteArray) : Option (Bool × Value) :=
  match op with
  | .add => some (Nat.ble (x.size + y.size) 9223372036854775807, .string (x ++ y))
  | .eql => some (true, .bool (x.toList == y.toList))
  | .neq => some (true, .bool !(x.toList == y.toList))
  | .lss => some (true, .bool (Op.bytesLess x.toList y.toList))
  | .leq => some (true, .bool (Op.bytesLess x.toList y.toList || x.toList == y.toList))
  | .gtr => some (true, .bool !(Op.bytesLess x.toList y.toList || x.toList == y.toList))
  | .geq => some (true, .bool !(Op.bytesLess x.toList y.toList))
  | _ => none

theorem cmpStr_ok {op : BinOp} {T : TypeId} {x y : ByteArray} {c : Bool} {v : Value} {ox oy : Operand} (h : cmpStr op x y = some (c, v)) (hc : c = true) :
    (do eqGuard op T ox oy (.string x) (.string y); binOp op T (.string x) (.string y) : Sem Value).run P w = .ok v w := by
  subst hc
  have hg : eqGuard op T ox oy (.string x) (.string y) = pure () := by cases op <;> rfl
  rw [hg]
  simp only [Sem.run_bind, Sem.run_pure, Result.andThen_ok]
  unfold cmpStr at h
  split at h <;> simp at h
  · obtain ⟨h1, rfl⟩ := h
    have : ¬ (9223372036854775807 < (x.size : Int) + (y.size : Int)) := by omega
    simp [binOp, Op.stringOp, this]
  all_goals (subst h; simp [binOp, Op.stringOp])

/-! ### Equality of plain data -/
def partV (P : Program) (t : TypeId) (cs : Array Value) (off : Nat) : Option Value :=
  match aggT P t, szT P t with
  | some true, some n => some (.agg (cs.extract off (off + n)))
  | some false, _ => cs[off]?
  | _, _ => none
theorem partV_ok {t : TypeId} {cs : Array Value} {off : Nat} {v : Value} (h : partV P t cs off = some v) : (part t cs off).run P w = .ok v w := by
  unfold partV at h
  split at h
  · rename_i n ha hs
    simp only [Option.some.injEq] at h
    simp [part, run_aggT ha, run_szT hs, h]
  · rename_i ha
    simp [part, run_aggT ha, h]
  · simp at h
/-- Equality, to a depth: the types' own, read off the program. -/
def eqF (P : Program) (eqd : TypeId → Value → Value → Option Bool) (xs ys : Array Value) : List Field → Option Bool
  | [] => some true
  | f :: fs =>
    if f.name = "_" then none else
    match partV P f.type xs f.offset, partV P f.type ys f.offset with
    | some a, some b =>
      match eqd f.type a b, eqF P eqd xs ys fs with
      | some r, some r' => some (r && r')
      | _, _ => none
    | _, _ => none
def eqD (P : Program) : Nat → TypeId → Value → Value → Option Bool
  | 0, _, _, _ => none
  | d + 1, t, x, y =>
    match P.underlying t, x, y with
    | some .bool, .bool a, .bool b => some (a == b)
    | some (.int _), .int k a, .int k' b => if k = k' then some (a == b) else none
    | some .string, .string a, .string b => some (a.toList == b.toList)
    | some (.struct fs), .agg xs, .agg ys => if P.stoodInHeld t then none else eqF P (eqD P d) xs ys fs.toList
    | _, _, _ => none

theorem eqF_ok {d : Nat} {eqd : TypeId → Value → Value → Option Bool} (hd : ∀ t x y r, eqd t x y = some r → (Op.equalIn d t x y).run P w = .ok r w) {xs ys : Array Value} :
    ∀ {fs : List Field} {r : Bool}, eqF P eqd xs ys fs = some r → (Op.eqFields d xs ys fs).run P w = .ok r w
  | [], r, h => by simp only [eqF, Option.some.injEq] at h; simp [Op.eqFields, h]
  | f :: fs, r, h => by
    unfold eqF at h
    split at h
    · simp at h
    · rename_i hn
      split at h
      · rename_i a b ha hb
        split at h
        · rename_i r1 r2 h1 h2
          simp only [Option.some.injEq] at h
          subst h
          have ih := eqF_ok hd h2
          simp only [Op.eqFields, ne_eq, hn, not_false_eq_true, if_true, Sem.run_bind, partV_ok ha, partV_ok hb, Result.andThen_ok, hd _ _ _ _ h1, Sem.run_ite]
          cases r1 <;> simp [ih]
        · simp at h
      · simp at h

theorem eqD_ok : ∀ {d d' : Nat} {t : TypeId} {x y : Value} {r : Bool}, d ≤ d' → eqD P d t x y = some r → (Op.equalIn d' t x y).run P w = .ok r w
  | 0, _, _, _, _, _, _, h => by simp [eqD] at h
  | d + 1, 0, _, _, _, _, hl, h => by omega
  | d + 1, d' + 1, t, x, y, r, hl, h => by
    unfold eqD at h
    split at h
    · rename_i hu; simp only [Option.some.injEq] at h; simp [Op.equalIn, run_und hu, h]
    · rename_i hu
      split at h
      · rename_i hk; subst hk; simp only [Option.some.injEq] at h; simp [Op.equalIn, run_und hu, h]
      · simp at h
    · rename_i hu; simp only [Option.some.injEq] at h; simp [Op.equalIn, run_und hu, beq_toListBytes, h]
    · rename_i fs xs ys hu
      split at h
      · simp at h
      · rename_i hs
        have hf : P.fieldsOf t = fs := by simp [Program.fieldsOf, hu]
        rw [run_equalIn_struct w d' t xs ys (by rw [hf]; exact hu) (by simpa using hs), hf]
        exact eqF_ok (fun t x y r hr => eqD_ok (by omega) hr) h
    · simp at h

end Go.Sym
