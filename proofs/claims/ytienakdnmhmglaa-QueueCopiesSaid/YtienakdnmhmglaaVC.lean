/- The symbolic step of every quiet operation, and that it is what the model does. -/
import Derived.Test.YtienakdnmhmglaaVB
set_option linter.unusedSimpArgs false
set_option linter.unusedVariables false
set_option linter.unusedSectionVars false
namespace Go.Sym
open Go
variable {P : Program} {w : World} {τ : Type} {I : Inv τ}

/-! ### Parts of aggregates -/
theorem partS_ok {e : Env} {T : TypeId} {o : Nat} {l : List SV} {x : SV} {vs : List Value} (h : loadC P T o l = some x) (hd : DenL e l vs) :
    ∃ v, (part T vs.toArray o).run P w = .ok v w ∧ Den e x v := by
  unfold loadC at h
  split at h
  · rename_i k ha hs
    split at h
    · simp only [Option.some.injEq] at h
      subst h
      refine ⟨.agg ((vs.drop o).take k).toArray, ?_, ?_⟩
      · simp [part, run_aggT ha, run_szT hs]
      · simp only [Den]; exact ⟨_, (hd.drop o).take k, rfl⟩
    · simp at h
  · rename_i ha
    obtain ⟨v, hv, hdv⟩ := hd.get h
    exact ⟨v, by simp [part, run_aggT ha, hv], hdv⟩
  · simp at h

/-! ### Equality with nil -/
def nilEq (P : Program) (T : TypeId) (x y : SV) : Option Bool :=
  match P.underlying T, x, y with
  | some (.pointer _), .p _ _, .v (.pointer none) => some false
  | some (.pointer _), .v (.pointer none), .p _ _ => some false
  | some (.pointer _), .v (.pointer none), .v (.pointer none) => some true
  | some (.slice _), .s _ _ _ _, .v (.slice none _ _) => some false
  | some (.slice _), .v (.slice none _ _), .s _ _ _ _ => some false
  | some (.slice _), .v (.slice none _ _), .v (.slice none _ _) => some true
  | some (.func _ _ _), .f _ _, .v .nilFunc => some false
  | some (.func _ _ _), .v .nilFunc, .f _ _ => some false
  | some (.func _ _ _), .v .nilFunc, .v .nilFunc => some true
  | _, _, _ => none

theorem run_eq_of {T : TypeId} {u v : Value} {r : Bool} (h : (Op.equalIn 10000 T u v).run P w = .ok r w)
    (h1 : binOp .eql T u v = do pure (.bool (← Op.equal T u v))) (h2 : binOp .neq T u v = do pure (.bool (!(← Op.equal T u v)))) {ox oy : Operand}
    (g1 : (eqGuard .eql T ox oy u v).run P w = .ok () w) (g2 : (eqGuard .neq T ox oy u v).run P w = .ok () w) :
    (do eqGuard .eql T ox oy u v; binOp .eql T u v : Sem Value).run P w = .ok (.bool r) w ∧
    (do eqGuard .neq T ox oy u v; binOp .neq T u v : Sem Value).run P w = .ok (.bool !r) w := by
  have h' : (Op.equal T u v).run P w = .ok r w := h
  rw [h1, h2]
  simp [h', g1, g2]

theorem nilEq_ok {e : Env} {T : TypeId} {x y : SV} {u v : Value} {r : Bool} {ox oy : Operand} (h : nilEq P T x y = some r) (hx : Den e x u) (hy : Den e y v) :
    (do eqGuard .eql T ox oy u v; binOp .eql T u v : Sem Value).run P w = .ok (.bool r) w ∧
    (do eqGuard .neq T ox oy u v; binOp .neq T u v : Sem Value).run P w = .ok (.bool !r) w := by
  unfold nilEq at h
  split at h <;> simp at h <;> subst h <;> simp only [Den] at hx hy <;> rename_i hu <;>
    (try obtain ⟨_, _, rfl⟩ := hx) <;> (try obtain ⟨_, _, rfl⟩ := hy) <;> (try subst hx) <;> (try subst hy) <;>
    refine run_eq_of ?_ rfl rfl rfl rfl <;> generalize hd : 10000 = d <;> (obtain ⟨d, rfl⟩ : ∃ k, d = k + 1 := ⟨9999, hd.symm⟩) <;> clear hd <;> simp [Op.equalIn, run_und hu]

/-- One pointer, held against itself. -/
def ptrSame (P : Program) (T : TypeId) (x y : SV) : Bool :=
  match P.underlying T with
  | some (.pointer te) => match x with
    | .p b o => match y with
      | .p b' o' => Nat.beq b b' && (Nat.beq o o' && (P.info? te).isSome)
      | _ => false
    | _ => false
  | _ => false
theorem ptrSame_ok {e : Env} {T : TypeId} {x y : SV} {u v : Value} {ox oy : Operand} (h : ptrSame P T x y = true) (hx : Den e x u) (hy : Den e y v) :
    (do eqGuard .eql T ox oy u v; binOp .eql T u v : Sem Value).run P w = .ok (.bool true) w ∧
    (do eqGuard .neq T ox oy u v; binOp .neq T u v : Sem Value).run P w = .ok (.bool !true) w := by
  unfold ptrSame at h
  split at h
  · rename_i te hT
    split at h
    · rename_i b o
      split at h
      · rename_i b' o'
        simp only [Bool.and_eq_true, Nat.beq_eq, Option.isSome_iff_exists] at h
        obtain ⟨rfl, rfl, j, hj⟩ := h
        simp only [Den] at hx hy
        obtain ⟨n, h1, rfl⟩ := hx
        obtain ⟨m, h2, rfl⟩ := hy
        rw [h1] at h2; cases h2
        refine run_eq_of ?_ rfl rfl rfl rfl
        generalize hd : 10000 = d
        obtain ⟨d, rfl⟩ : ∃ k, d = k + 1 := ⟨9999, hd.symm⟩
        simp [Op.equalIn, run_und hT, sizeOf, typeInfo, hj, run_sameAddr_same]
      · cases h
    · cases h
  · cases h

def eqS (P : Program) (T : TypeId) (x y : SV) : Option Bool :=
  match nilEq P T x y with
  | some r => some r
  | none => match ptrSame P T x y with
   | true => some true
   | false => match plainV x, plainV y with
    | some (.agg xs), some (.agg ys) => match P.eqGuardType P.depth T with
      | false => eqD P 30 T (.agg xs) (.agg ys)
      | true => none
    | some (.bool a), some (.bool b) => eqD P 30 T (.bool a) (.bool b)
    | _, _ => none

theorem eqS_ok {e : Env} {T : TypeId} {x y : SV} {u v : Value} {r : Bool} {ox oy : Operand} (h : eqS P T x y = some r) (hx : Den e x u) (hy : Den e y v) :
    (do eqGuard .eql T ox oy u v; binOp .eql T u v : Sem Value).run P w = .ok (.bool r) w ∧
    (do eqGuard .neq T ox oy u v; binOp .neq T u v : Sem Value).run P w = .ok (.bool !r) w := by
  unfold eqS at h
  split at h
  · rename_i r' hn
    simp only [Option.some.injEq] at h
    subst h
    exact nilEq_ok hn hx hy
  · split at h
    · rename_i hp
      simp only [Option.some.injEq] at h
      subst h
      exact ptrSame_ok hp hx hy
    split at h
    · rename_i xs ys h1 h2
      split at h
      · rename_i hg
        have e1 := plainV_ok h1 hx
        have e2 := plainV_ok h2 hy
        subst e1; subst e2
        have := eqD_ok (w := w) (d := 30) (d' := 10000) (by omega) h
        exact run_eq_of this rfl rfl (by simp [eqGuard, hg]) (by simp [eqGuard, hg])
      · simp at h
    · rename_i a b h1 h2
      have e1 := plainV_ok h1 hx
      have e2 := plainV_ok h2 hy
      subst e1; subst e2
      have := eqD_ok (w := w) (d := 30) (d' := 10000) (by omega) h
      exact run_eq_of this rfl rfl rfl rfl
    · simp at h

def binS (P : Program) (op : BinOp) (T : TypeId) (x y : SV) : Option (Bool × SV) :=
  match x, y with
  | .v (.int k a), .v (.int k' b) => (arith op k a k' b).map fun r => (r.1, .v r.2)
  | .v (.string a), .v (.string b) => (cmpStr op a b).map fun r => (r.1, .v r.2)
  | x, y => match op with
    | .eql => (eqS P T x y).map fun r => (true, .v (.bool r))
    | .neq => (eqS P T x y).map fun r => (true, .v (.bool !r))
    | _ => none

theorem binS_ok {e : Env} {op : BinOp} {T : TypeId} {x y z : SV} {c : Bool} {u v : Value} {ox oy : Operand} (h : binS P op T x y = some (c, z)) (hc : c = true) (hx : Den e x u) (hy : Den e y v) :
    ∃ r, (do eqGuard op T ox oy u v; binOp op T u v : Sem Value).run P w = .ok r w ∧ Den e z r := by
  unfold binS at h
  split at h
  · simp only [Option.map_eq_some_iff, Prod.mk.injEq] at h
    obtain ⟨r, h1, h2, rfl⟩ := h
    simp only [Den] at hx hy
    subst hx; subst hy
    exact ⟨r.2, arith_ok (c := r.1) h1 (by rw [h2, hc]), by simp [Den]⟩
  · simp only [Option.map_eq_some_iff, Prod.mk.injEq] at h
    obtain ⟨r, h1, h2, rfl⟩ := h
    simp only [Den] at hx hy
    subst hx; subst hy
    exact ⟨r.2, cmpStr_ok (c := r.1) h1 (by rw [h2, hc]), by simp [Den]⟩
  · split at h
    · simp only [Option.map_eq_some_iff, Prod.mk.injEq] at h
      obtain ⟨r, h1, _, rfl⟩ := h
      exact ⟨_, (eqS_ok h1 hx hy).1, by simp [Den]⟩
    · simp only [Option.map_eq_some_iff, Prod.mk.injEq] at h
      obtain ⟨r, h1, _, rfl⟩ := h
      exact ⟨_, (eqS_ok h1 hx hy).2, by simp [Den]⟩
    · simp at h

/-! ### Building aggregates -/
def setAll {α : Type} (l : List α) (o : Nat) : List α → List α
  | [] => l
  | x :: r => setAll (l.set o x) (o + 1) r
theorem setAll_den {e : Env} : ∀ {ls : List SV} {vs : List Value} {l : List SV} {us : List Value} {o : Nat}, DenL e ls vs → DenL e l us → DenL e (setAll l o ls) (setAll us o vs)
  | [], vs, l, us, o, h, hd => by simp only [DenL] at h; subst h; exact hd
  | x :: r, _, l, us, o, h, hd => by
    simp only [DenL] at h
    obtain ⟨v, r', rfl, h2, h3⟩ := h
    simp only [setAll]
    exact setAll_den h3 (hd.set h2)
theorem setAll_length {α : Type} : ∀ (r l : List α) (o : Nat), (setAll l o r).length = l.length
  | [], _, _ => rfl
  | x :: r, l, o => by simp [setAll, setAll_length r]
theorem foldl_setAll (off : Nat) : ∀ (l : List Value) (k : Nat) (arr : Array Value),
    ((l.zipIdx k).foldl (fun cs p => cs.setIfInBounds (off + p.2) p.1) arr).toList = setAll arr.toList (off + k) l
  | [], _, _ => rfl
  | x :: r, k, arr => by
    simp only [List.zipIdx_cons, List.foldl_cons, setAll]
    rw [foldl_setAll off r (k + 1)]
    simp [Nat.add_assoc]

def fillS (place : Nat → Option (Nat × Nat)) : List SV → List (Nat × SV) → Option (List SV)
  | cells, [] => some cells
  | cells, (i, x) :: rest =>
    match place i, cellsV x with
    | some (off, size), some l => match l.length == size && Nat.ble (off + size) cells.length with
      | true => fillS place (setAll cells off l) rest
      | false => none
    | _, _ => none

theorem fillS_ok {e : Env} {place : Nat → Option (Nat × Nat)} : ∀ {parts : List (Nat × SV)} {cells r : List SV} {cs : Array Value} {ps : List (Nat × Value)},
    fillS place cells parts = some r → DenL e cells cs.toList → (ps.map (·.1) = parts.map (·.1)) → DenL e (parts.map (·.2)) (ps.map (·.2)) →
    ∃ rs, Instr.fill place cs ps = some rs ∧ DenL e r rs.toList
  | [], cells, r, cs, ps, h, hd, h1, h2 => by
    simp at h1; subst h1
    simp only [fillS, Option.some.injEq] at h
    subst h
    exact ⟨cs, rfl, hd⟩
  | (i, x) :: parts, cells, r, cs, ps, h, hd, h1, h2 => by
    obtain ⟨p, ps', rfl⟩ : ∃ p ps', ps = p :: ps' := by cases ps with
      | nil => simp at h1
      | cons p ps' => exact ⟨p, ps', rfl⟩
    obtain ⟨i', v⟩ := p
    simp only [List.map_cons, List.cons.injEq] at h1
    obtain ⟨rfl, h1⟩ := h1
    simp only [List.map_cons, DenL, List.cons.injEq] at h2
    obtain ⟨v', r', ⟨rfl, rfl⟩, h3, h4⟩ := h2
    unfold fillS at h
    split at h
    · rename_i off size l hp hc
      split at h
      · rename_i hb
        simp only [Bool.and_eq_true, beq_iff_eq, Nat.ble_eq] at hb
        have hcl := cellsV_ok hc h3
        have hsz : v.cells.size = size := by have := hcl.length; simp at this; omega
        have hcs : cells.length = cs.size := by have := hd.length; simpa using this
        have hno : (v.cells.size ≠ size || off + v.cells.size > cs.size) = false := by
          simp [hsz]; omega
        simp only [Instr.fill, hp, hno, Bool.false_eq_true, if_false]
        refine fillS_ok h ?_ h1 h4
        have := foldl_setAll off v.cells.toList 0 cs
        rw [← Array.foldl_toList]
        simp only [Array.toList_zipIdx]
        rw [this]
        simpa using setAll_den hcl hd
      · simp at h
    · simp at h

def placesS (P : Program) : List Field → Option (List (Nat × Nat))
  | [] => some []
  | f :: r => match szT P f.type, placesS P r with
    | some n, some l => some ((f.offset, n) :: l)
    | _, _ => none
theorem placesS_ok : ∀ {fs : List Field} {l : List (Nat × Nat)}, placesS P fs = some l →
    (fs.mapM fun f => do pure (f.offset, ← sizeOf f.type) : Sem (List (Nat × Nat))).run P w = .ok l w
  | [], l, h => by simp only [placesS, Option.some.injEq] at h; simp [← h]
  | f :: fs, l, h => by
    unfold placesS at h
    split at h
    · rename_i n l' h1 h2
      simp only [Option.some.injEq] at h
      subst h
      simp only [List.mapM_cons, Sem.run_bind, run_szT h1, placesS_ok h2, Result.andThen_ok, Sem.run_pure]
    · simp at h

def buildS (P : Program) (T : TypeId) (parts : List (Nat × SV)) : Option SV :=
  match zeroT P T, P.underlying T with
  | some z, some (.struct fields) => match placesS P fields.toList with
    | some pl => (fillS (pl[·]?) (z.cells.toList.map .v) parts).map .a
    | none => none
  | some z, some (.array _ elem) => match szT P elem with
    | some n => (fillS (fun i => some (i * n, n)) (z.cells.toList.map .v) parts).map .a
    | none => none
  | _, _ => none

theorem buildS_ok {e : Env} {T : TypeId} {parts : List (Nat × SV)} {ps : Array (Nat × Value)} {x : SV} (h : buildS P T parts = some x)
    (h1 : ps.toList.map (·.1) = parts.map (·.1)) (h2 : DenL e (parts.map (·.2)) (ps.toList.map (·.2))) :
    ∃ v, (Instr.build T ps).run P w = .ok v w ∧ Den e x v := by
  unfold buildS at h
  split at h
  · rename_i z fields hz hu
    split at h
    · rename_i pl hpl
      simp only [Option.map_eq_some_iff] at h
      obtain ⟨r, hf, rfl⟩ := h
      obtain ⟨rs, hr, hdr⟩ := fillS_ok (e := e) (cs := z.cells) (ps := ps.toList) hf (DenL.plain _) h1 h2
      have hpl' := placesS_ok (w := w) hpl
      have hm : (fields.mapM fun f => do pure (f.offset, ← sizeOf f.type) : Sem (Array (Nat × Nat))).run P w = .ok pl.toArray w := by
        rw [Array.mapM_eq_mapM_toList]; simp only [Sem.run_map, hpl', Result.andThen_ok]
      refine ⟨.agg rs, ?_, ?_⟩
      · simp only [Instr.build, Sem.run_bind, run_zeroT hz, Result.andThen_ok, run_und hu, hm]
        simp [hr]
      · simp only [Den]; exact ⟨rs.toList, hdr, rfl⟩
    · simp at h
  · rename_i z len elem hz hu
    split at h
    · rename_i n hn
      simp only [Option.map_eq_some_iff] at h
      obtain ⟨r, hf, rfl⟩ := h
      obtain ⟨rs, hr, hdr⟩ := fillS_ok (e := e) (cs := z.cells) (ps := ps.toList) hf (DenL.plain _) h1 h2
      refine ⟨.agg rs, ?_, ?_⟩
      · simp only [Instr.build, Sem.run_bind, run_zeroT hz, Result.andThen_ok, run_und hu, run_szT hn, hr, Sem.run_pure]
      · simp only [Den]; exact ⟨rs.toList, hdr, rfl⟩
    · simp at h
  · simp at h

/-! ### Builtins on plain values -/
def minI : List SV → Option SV
  | [.v (.int k x), .v (.int _ y)] => some (.v (.int k (if y < x then y else x)))
  | _ => none
def maxI : List SV → Option SV
  | [.v (.int k x), .v (.int _ y)] => some (.v (.int k (if y > x then y else x)))
  | _ => none
def lenS (P : Program) (T : TypeId) : List SV → Option SV
  | [x] => match P.underlying T, x with
    | some .string, .v (.string s) => some (.v (.int .i64 s.size))
    | some (.array n _), _ => some (.v (.int .i64 n))
    | some (.pointer arr), _ => match P.underlying arr with
      | some (.array n _) => some (.v (.int .i64 n))
      | _ => none
    | some (.slice _), .s _ _ len _ => some (.v (.int .i64 len))
    | some (.slice _), .v (.slice _ n _) => some (.v (.int .i64 n))
    | _, _ => none
  | _ => none
theorem lenS_ok {e : Env} {T ty : TypeId} {ats : List TypeId} {xs : List SV} {vs : List Value} {x : SV} (h : lenS P T xs = some x) (hd : DenL e xs vs) :
    ∃ v, (Builtin.len_ (T :: ats).toArray ty vs.toArray).run P w = .ok v w ∧ Den e x v := by
  unfold lenS at h
  split at h
  · rename_i y
    simp only [DenL] at hd
    obtain ⟨u, r, rfl, hy, rfl⟩ := hd
    split at h
    · rename_i s hu; simp only [Option.some.injEq] at h; subst h; simp only [Den] at hy; subst hy
      exact ⟨.int .i64 s.size, by simp [Builtin.len_, run_und hu, goInt], by simp [Den]⟩
    · rename_i n el hu; simp only [Option.some.injEq] at h; subst h
      exact ⟨.int .i64 n, by simp [Builtin.len_, run_und hu, goInt], by simp [Den]⟩
    · rename_i arr hu
      split at h
      · rename_i n el hu2
        simp only [Option.some.injEq] at h; subst h
        exact ⟨.int .i64 n, by simp [Builtin.len_, run_und hu, run_und hu2, goInt], by simp [Den]⟩
      · simp at h
    · rename_i el b o len cap hu; simp only [Option.some.injEq] at h; subst h; simp only [Den] at hy; obtain ⟨m, _, rfl⟩ := hy
      exact ⟨.int .i64 len, by simp [Builtin.len_, run_und hu, goInt], by simp [Den]⟩
    · rename_i el a n c hu; simp only [Option.some.injEq] at h; subst h; simp only [Den] at hy; subst hy
      exact ⟨.int .i64 n, by simp [Builtin.len_, run_und hu, goInt], by simp [Den]⟩
    · simp at h
  · simp at h

def convS (P : Program) (src dst : TypeId) (x : SV) : Option SV :=
  match P.underlying src, P.underlying dst, x with
  | some _, some (.int k), .v (.int _ n) => some (.v (.int k (k.wrap n)))
  | some _, some .string, .v (.string s) => some (.v (.string s))
  | some _, some .string, .v (.int _ n) => some (.v (.string (Utf8.encode n)))
  | _, _, _ => none
theorem convS_ok {e : Env} {src dst : TypeId} {x y : SV} {v : Value} (h : convS P src dst x = some y) (hd : Den e x v) :
    ∃ u, (convert src dst v).run P w = .ok u w ∧ Den e y u := by
  unfold convS at h
  split at h
  · rename_i d k j n h1 h2
    simp only [Option.some.injEq] at h; subst h; simp only [Den] at hd; subst hd
    exact ⟨_, by simp [convert, run_und h1, run_und h2, Conv.intToInt]; rfl, by simp [Den]⟩
  · rename_i d s h1 h2
    simp only [Option.some.injEq] at h; subst h; simp only [Den] at hd; subst hd
    exact ⟨.string s, by cases d <;> simp [convert, run_und h1, run_und h2], by simp [Den]⟩
  · rename_i d j n h1 h2
    simp only [Option.some.injEq] at h; subst h; simp only [Den] at hd; subst hd
    exact ⟨_, by simp [convert, run_und h1, run_und h2, Conv.intToString]; rfl, by simp [Den]⟩
  · simp at h

def unS (op : UnOp) (x : SV) : Option SV :=
  match op, x with
  | .not, .v (.bool b) => some (.v (.bool !b))
  | .neg, .v (.int k n) => some (.v (.int k (k.wrap (0 - n))))
  | _, _ => none
theorem unS_ok {e : Env} {op : UnOp} {x y : SV} {v : Value} (h : unS op x = some y) (hd : Den e x v) : ∃ u, (Op.unary op v).run P w = .ok u w ∧ Den e y u := by
  unfold unS at h
  split at h <;> simp at h <;> subst h <;> simp only [Den] at hd <;> subst hd
  · exact ⟨_, by simp [Op.unary]; rfl, by simp [Den]⟩
  · exact ⟨_, by simp [Op.unary, Op.intArith]; rfl, by simp [Den]⟩

/-! ### Addresses -/
def fieldS (P : Program) (S : TypeId) (x : SV) (i : Nat) : Option SV :=
  match P.underlying S, x with
  | some (.struct fields), .p b o => match fields[i]? with
    | some f => match szT P f.type with
      | some (_ + 1) => some (.p b (o + f.offset))
      | _ => none
    | none => none
  | _, _ => none
theorem fieldS_ok {e : Env} {S : TypeId} {x y : SV} {i : Nat} {v : Value} (h : fieldS P S x i = some y) (hd : Den e x v) :
    ∃ u, (Instr.fieldAt S v i).run P w = .ok u w ∧ Den e y u := by
  unfold fieldS at h
  split at h
  · rename_i fields b o hu
    split at h
    · rename_i f hf
      split at h
      · rename_i n hn
        simp only [Option.some.injEq] at h; subst h
        simp only [Den] at hd
        obtain ⟨m, hm, rfl⟩ := hd
        refine ⟨.pointer (some ⟨m, o + f.offset, none⟩), ?_, ?_⟩
        · simp [Instr.fieldAt, run_und hu, hf, Instr.sureAddr, fieldPlace, run_szT hn, add_none]
        · simp only [Den]; exact ⟨m, hm, rfl⟩
      · simp at h
    · simp at h
  · simp at h

def idxS (P : Program) (T : TypeId) (x ix : SV) : Option (Bool × SV) :=
  match ix, P.underlying T, x with
  | .v (.int _ i), some (.array len elem), .p b o => match szT P elem with
    | some n => some (decide (0 ≤ i ∧ i < (len : Int)), .p b (o + i.toNat * n))
    | none => none
  | .v (.int _ i), some (.slice elem), .s b o len _ => match szT P elem with
    | some n => some (decide (0 ≤ i ∧ i < (len : Int)), .p b (o + i.toNat * n))
    | none => none
  | _, _, _ => none
theorem idxS_ok {e : Env} {T : TypeId} {x ix y : SV} {c : Bool} {u v : Value} (h : idxS P T x ix = some (c, y)) (hc : c = true) (hx : Den e x u) (hi : Den e ix v) :
    ∃ r, (Instr.indexAt T u v).run P w = .ok r w ∧ Den e y r := by
  unfold idxS at h
  split at h
  · rename_i k i len elem b o hu
    split at h
    · rename_i n hn
      simp only [Option.some.injEq, Prod.mk.injEq] at h
      obtain ⟨h1, rfl⟩ := h
      rw [hc] at h1
      have hb : 0 ≤ i ∧ i < (len : Int) := of_decide_eq_true h1
      simp only [Den] at hx hi
      obtain ⟨m, hm, rfl⟩ := hx
      subst hi
      refine ⟨.pointer (some ⟨m, o + i.toNat * n, none⟩), ?_, ?_⟩
      · simp [Instr.indexAt, asIntOf, run_und hu, Instr.sureAddr, hb, run_szT hn, add_none]
      · simp only [Den]; exact ⟨m, hm, rfl⟩
    · simp at h
  · rename_i k i elem b o len cap hu
    split at h
    · rename_i n hn
      simp only [Option.some.injEq, Prod.mk.injEq] at h
      obtain ⟨h1, rfl⟩ := h
      rw [hc] at h1
      have hb : 0 ≤ i ∧ i < (len : Int) := of_decide_eq_true h1
      simp only [Den] at hx hi
      obtain ⟨m, hm, rfl⟩ := hx
      subst hi
      refine ⟨.pointer (some ⟨m, o + i.toNat * n, none⟩), ?_, ?_⟩
      · simp [Instr.indexAt, asIntOf, run_und hu, hb, run_szT hn, add_none]
      · simp only [Den]; exact ⟨m, hm, rfl⟩
    · simp at h
  · simp at h

/-- The byte of a string at a place. -/
def byteAt (s : ByteArray) (i : Nat) : Int := (s.data.toList.getD i 0).toNat
def ixS (P : Program) (T : TypeId) (x ix : SV) : Option (Bool × SV) :=
  match ix, P.underlying T, x with
  | .v (.int _ i), some .string, .v (.string s) => some (decide (0 ≤ i ∧ i < (s.size : Int)), .v (.int .u8 (byteAt s i.toNat)))
  | .v (.int _ i), some (.array len elem), .a l => match szT P elem with
    | some n => match loadC P elem (i.toNat * n) l with
      | some y => some (decide (0 ≤ i ∧ i < (len : Int)), y)
      | none => none
    | none => none
  | _, _, _ => none
theorem ixS_ok {e : Env} {T : TypeId} {x ix y : SV} {c : Bool} {u v : Value} (h : ixS P T x ix = some (c, y)) (hc : c = true) (hx : Den e x u) (hi : Den e ix v) :
    ∃ r, (Instr.index T u v).run P w = .ok r w ∧ Den e y r := by
  unfold ixS at h
  split at h
  · rename_i k i s hu
    simp only [Option.some.injEq, Prod.mk.injEq] at h
    obtain ⟨h1, rfl⟩ := h
    rw [hc] at h1
    have hb : 0 ≤ i ∧ i < (s.size : Int) := of_decide_eq_true h1
    simp only [Den] at hx hi
    subst hx; subst hi
    have hlt : i.toNat < s.size := by omega
    refine ⟨.int .u8 (byteAt s i.toNat), ?_, by simp [Den]⟩
    have hg : s[i.toNat]? = some (s[i.toNat]'hlt) := by simp [hlt]
    have hb2 : byteAt s i.toNat = ((s[i.toNat]'hlt).toNat : Int) := by
      unfold byteAt
      have hl2 : i.toNat < s.data.toList.length := by simpa using hlt
      rw [List.getD, List.getElem?_eq_getElem hl2]
      rfl
    simp [Instr.index, asIntOf, run_und hu, hb.1, hg, hb2]
  · rename_i k i len elem l hu
    split at h
    · rename_i n hn
      split at h
      · rename_i z hz
        simp only [Option.some.injEq, Prod.mk.injEq] at h
        obtain ⟨h1, rfl⟩ := h
        rw [hc] at h1
        have hb : 0 ≤ i ∧ i < (len : Int) := of_decide_eq_true h1
        simp only [Den] at hx hi
        obtain ⟨vs, hvs, rfl⟩ := hx
        subst hi
        obtain ⟨r, hr, hdr⟩ := partS_ok (P := P) (w := w) hz hvs
        exact ⟨r, by simp [Instr.index, asIntOf, run_und hu, hb, run_szT hn, hr], hdr⟩
      · simp at h
    · simp at h
  · simp at h

def fldS (P : Program) (T : TypeId) (x : SV) (i : Nat) : Option SV :=
  match P.underlying T, x with
  | some (.struct fields), .a l => match fields[i]? with
    | some f => loadC P f.type f.offset l
    | none => none
  | _, _ => none
theorem fldS_ok {e : Env} {T : TypeId} {x y : SV} {i : Nat} {v : Value} (h : fldS P T x i = some y) (hd : Den e x v) :
    ∃ u, (Instr.field T v i).run P w = .ok u w ∧ Den e y u := by
  unfold fldS at h
  split at h
  · rename_i fields l hu
    split at h
    · rename_i f hf
      simp only [Den] at hd
      obtain ⟨vs, hvs, rfl⟩ := hd
      obtain ⟨r, hr, hdr⟩ := partS_ok (P := P) (w := w) h hvs
      exact ⟨r, by simp [Instr.field, run_und hu, hf, asAgg, hr], hdr⟩
    · simp at h
  · simp at h

def nilckS (x : SV) : Option SV :=
  match x with
  | .p b o => some (.p b o)
  | .s b o l c => some (.s b o l c)
  | .f (.func g) cs => some (.f (.func g) cs)
  | .y b => some (.y b)
  | .v (.pointer (some a)) => some (.v (.pointer (some a)))
  | .v (.func (.func g) a c) => some (.v (.func (.func g) a c))
  | _ => none

/-! ### One quiet operation -/
/-! ### Loads, also from rows of numbers -/
def loadQ (P : Program) (T : TypeId) (x : SV) (H : List (SB τ)) : Option (Bool × SV) :=
  match x with
  | .p b o => match H[b]? with
    | some (.cells l _) => (loadC P T o l).map ((true, ·))
    | some (.ints k xs n _) => match aggT P T with
      | some false => some (Nat.blt o n, .v (.int k (xs.getD o 0)))
      | _ => none
    | _ => none
  | .v (.pointer (some a)) => match a.spot with
    | none => match globAt a.block with
      | some l => (loadC P T a.off (l.map .v)).map ((true, ·))
      | none => none
    | some _ => none
  | _ => none
theorem loadQ_ok {e : Env} {H : List (SB τ)} {Fr : PH} {T : TypeId} {x y : SV} {c : Bool} {v : Value} (hM : Models I e H Fr w) (h : loadQ P T x H = some (c, y)) (hc : c = true) (hd : Den e x v) :
    ∃ u, (Instr.loadAt T v).run P w = .ok u w ∧ Den e y u := by
  unfold loadQ at h
  split at h
  · rename_i b o
    split at h
    · rename_i l T' hb
      simp only [Option.map_eq_some_iff, Prod.mk.injEq] at h
      obtain ⟨z, hz, _, rfl⟩ := h
      exact loadS_ok hM (by simp only [loadS, hb]; exact hz) hd
    · rename_i k xs n T' hb
      split at h
      · rename_i ha
        simp only [Option.some.injEq, Prod.mk.injEq] at h
        obtain ⟨h1, rfl⟩ := h
        rw [hc, Nat.blt_eq] at h1
        obtain ⟨m, g1, g2, g3⟩ := hM.ints hb
        simp only [Den] at hd
        obtain ⟨m', g4, rfl⟩ := hd
        rw [g1] at g4; cases g4
        refine ⟨.int k (xs.getD o 0), ?_, by simp [Den]⟩
        have hcell : w.cell? ⟨m, o, none⟩ = some (.int k (xs.getD o 0)) := by
          have hlt : o < xs.length := by omega
          rw [cell_at g3]
          simp [hlt]
        simp only [Instr.loadAt, Instr.sureAddr, Sem.run_bind, Sem.run_pure, Result.andThen_ok, loadVar, run_aggT ha, Bool.false_eq_true, if_false, run_load, hcell]
      · cases h
    · cases h
  · rename_i a
    split at h
    · rename_i hs
      split at h
      · rename_i l hg
        simp only [Option.map_eq_some_iff, Prod.mk.injEq] at h
        obtain ⟨z, hz, _, rfl⟩ := h
        obtain ⟨T', fz, hw⟩ := hM.gw _ _ hg
        obtain ⟨b, o, sp⟩ := a
        simp only at hs hg hz hw
        subst hs
        obtain ⟨u, hu, hdu⟩ := loadC_okF (P := P) hz (DenL.plain (e := e) l) hw
        refine ⟨u, ?_, hdu⟩
        simp only [Den] at hd
        subst hd
        simp only [Instr.loadAt, Instr.sureAddr, Sem.run_bind, Sem.run_pure, Result.andThen_ok, hu]
      · cases h
    · cases h
  · cases h

/-! ### Slices of slices -/
def bndI (d : Int) : Option SV → Option Int
  | none => some d
  | some (.v (.int _ i)) => some i
  | _ => none
theorem bnd_ok {e : Env} {d : Nat} {x : Option SV} {v : Option Value} {i : Int} {y : Nat} {code : BoundsCode} (h : bndI d x = some i) (h0 : 0 ≤ i) (h1 : i ≤ (y : Int)) (hv : ∀ a, v = some a → ∃ s, x = some s ∧ Den e s a) (hn : v = none → x = none) :
    (match v with
      | some a => Instr.sliceBound a y code
      | none => pure d : Sem Nat).run P w = .ok i.toNat w := by
  cases v with
  | none =>
    rw [hn rfl] at h
    simp only [bndI, Option.some.injEq] at h
    subst h
    simp
  | some a =>
    obtain ⟨s, rfl, hd⟩ := hv a rfl
    cases s with
    | v q =>
      cases q with
      | int k j =>
        simp only [bndI, Option.some.injEq] at h
        subst h
        simp only [Den] at hd
        subst hd
        simp [Instr.sliceBound, asIntOf, h0, h1]
      | _ => simp [bndI] at h
    | _ => simp [bndI] at h

def cutS (P : Program) (elem : TypeId) (b o len cap : Nat) (lo hi : Option SV) : Option (Bool × SV) :=
  match bndI 0 lo, bndI len hi, szT P elem with
  | some l, some h, some n => some (decide (0 ≤ l ∧ l ≤ h ∧ h ≤ (cap : Int)), .s b (bif Nat.beq cap l.toNat then o else o + l.toNat * n) (h.toNat - l.toNat) (cap - l.toNat))
  | _, _, _ => none
def sliceS (P : Program) (T : TypeId) (x : SV) (lo hi : Option SV) : Option (Bool × SV) :=
  match P.underlying T, x with
  | some (.array n elem), .p b o => cutS P elem b o n n lo hi
  | some (.slice elem), .s b o len cap => cutS P elem b o len cap lo hi
  | some .string, .v (.string s) => match bndI 0 lo, bndI s.size hi with
    | some l, some h => some (decide (0 ≤ l ∧ l ≤ h ∧ h ≤ (s.size : Int)), .v (.string (s.extract l.toNat h.toNat)))
    | _, _ => none
  | _, _ => none
theorem bnds_ok {e : Env} {isS : Bool} {len cap : Nat} {lo hi : Option SV} {vl vh : Option Value} {l h : Int} (hl : bndI 0 lo = some l) (hh : bndI len hi = some h) (hc : 0 ≤ l ∧ l ≤ h ∧ h ≤ (cap : Int))
    (gl : ∀ a, vl = some a → ∃ s, lo = some s ∧ Den e s a) (nl : vl = none → lo = none) (gh : ∀ a, vh = some a → ∃ s, hi = some s ∧ Den e s a) (nh : vh = none → hi = none) :
    (Instr.sliceBounds isS len cap vl vh none).run P w = .ok (l.toNat, h.toNat, cap) w := by
  have h1 : (match vh with
      | some a => Instr.sliceBound a cap (if isS then .sliceAcap else .sliceAlen)
      | none => pure len : Sem Nat).run P w = .ok h.toNat w := bnd_ok hh (by omega) hc.2.2 gh nh
  have h2 : (match vl with
      | some a => Instr.sliceBound a h.toNat .sliceB
      | none => pure 0 : Sem Nat).run P w = .ok l.toNat w := bnd_ok (d := 0) hl hc.1 (by omega) gl nl
  unfold Instr.sliceBounds
  cases vh <;> cases vl <;> simp_all
theorem sliceS_ok {e : Env} {T : TypeId} {x y : SV} {lo hi : Option SV} {v : Value} {vl vh : Option Value} {c : Bool} (h : sliceS P T x lo hi = some (c, y)) (hc : c = true) (hx : Den e x v)
    (gl : ∀ a, vl = some a → ∃ s, lo = some s ∧ Den e s a) (nl : vl = none → lo = none) (gh : ∀ a, vh = some a → ∃ s, hi = some s ∧ Den e s a) (nh : vh = none → hi = none) :
    ∃ r, (Instr.sliceAt T v vl vh none).run P w = .ok r w ∧ Den e y r := by
  unfold sliceS at h
  split at h
  · rename_i n elem b o hu
    unfold cutS at h
    split at h
    · rename_i l h' sz hl hh hs
      simp only [Option.some.injEq, Prod.mk.injEq] at h
      obtain ⟨h1, rfl⟩ := h
      rw [hc] at h1
      have hb := of_decide_eq_true h1
      simp only [Den] at hx
      obtain ⟨m, hm, rfl⟩ := hx
      refine ⟨.slice (some ⟨m, bif Nat.beq n l.toNat then o else o + l.toNat * sz, none⟩) (h'.toNat - l.toNat) (n - l.toNat), ?_, by simp only [Den]; exact ⟨m, hm, rfl⟩⟩
      simp only [Instr.sliceAt, Sem.run_bind, run_und hu, Result.andThen_ok, Instr.sureAddr, Sem.run_pure, bnds_ok (isS := false) hl hh hb gl nl gh nh, run_szT hs]
      by_cases hn : n = l.toNat
      · rw [if_pos hn, show Nat.beq n l.toNat = true from by rw [Nat.beq_eq]; exact hn]; rfl
      · rw [if_neg hn, show Nat.beq n l.toNat = false from by rw [← Bool.not_eq_true, Nat.beq_eq]; exact hn, add_none]; rfl
    · cases h
  · rename_i elem b o len cap hu
    unfold cutS at h
    split at h
    · rename_i l h' sz hl hh hs
      simp only [Option.some.injEq, Prod.mk.injEq] at h
      obtain ⟨h1, rfl⟩ := h
      rw [hc] at h1
      have hb := of_decide_eq_true h1
      simp only [Den] at hx
      obtain ⟨m, hm, rfl⟩ := hx
      refine ⟨.slice (some ⟨m, bif Nat.beq cap l.toNat then o else o + l.toNat * sz, none⟩) (h'.toNat - l.toNat) (cap - l.toNat), ?_, by simp only [Den]; exact ⟨m, hm, rfl⟩⟩
      simp only [Instr.sliceAt, Instr.slice, Sem.run_bind, run_und hu, Result.andThen_ok, Sem.run_pure, bnds_ok (isS := true) hl hh hb gl nl gh nh, run_szT hs]
      by_cases hn : cap = l.toNat
      · rw [if_pos hn, show Nat.beq cap l.toNat = true from by rw [Nat.beq_eq]; exact hn]; rfl
      · rw [if_neg hn, show Nat.beq cap l.toNat = false from by rw [← Bool.not_eq_true, Nat.beq_eq]; exact hn, Option.map_some, add_none]; rfl
    · cases h
  · rename_i s hu
    split at h
    · rename_i l h' hl hh
      simp only [Option.some.injEq, Prod.mk.injEq] at h
      obtain ⟨h1, rfl⟩ := h
      rw [hc] at h1
      have hb := of_decide_eq_true h1
      simp only [Den] at hx
      subst hx
      refine ⟨.string (s.extract l.toNat h'.toNat), ?_, by simp [Den]⟩
      simp [Instr.sliceAt, Instr.slice, run_und hu, bnds_ok (isS := false) hl hh hb gl nl gh nh]
    · cases h
  · cases h

def stepV0 (P : Program) (op : Op) (tm : List SV) (H : List (SB τ)) : Option (Bool × SV) :=
  match op with
  | .move x => some (true, ev tm x)
  | .assign x => some (true, ev tm x)
  | .pick c a b => match ev tm c with
    | .v (.bool true) => some (true, ev tm a)
    | .v (.bool false) => some (true, ev tm b)
    | _ => none
  | .load T x => loadQ P T (ev tm x) H
  | .slice T x lo hi none => sliceS P T (ev tm x) (lo.map (ev tm)) (hi.map (ev tm))
  | .nilCheck x => (nilckS (ev tm x)).map ((true, ·))
  | .fieldAddr S x i => (fieldS P S (ev tm x) i).map ((true, ·))
  | .field T x i => (fldS P T (ev tm x) i).map ((true, ·))
  | .indexAddr T x ix => idxS P T (ev tm x) (ev tm ix)
  | .index T x ix => ixS P T (ev tm x) (ev tm ix)
  | .build T parts => (buildS P T (parts.toList.map fun p => (p.1, ev tm p.2))).map ((true, ·))
  | .binOp o T x y _ => binS P o T (ev tm x) (ev tm y)
  | .unOp o _ x => (unS o (ev tm x)).map ((true, ·))
  | .convert s d x => (convS P s d (ev tm x)).map ((true, ·))
  | .extract t i => match ev tm t with
    | .t l => l[i]?.map ((true, ·))
    | _ => none
  | .makeFunc fn first cap => match first.toList with
    | [] => some (true, .f fn (cap.toList.map (ev tm)))
    | _ => none
  | .call { callee := .builtin b, args, argTypes } => match b with
    | .len => match argTypes.toList with
      | T :: _ => (lenS P T (args.toList.map (ev tm))).map ((true, ·))
      | [] => none
    | .min => (minI (args.toList.map (ev tm))).map ((true, ·))
    | .max => (maxI (args.toList.map (ev tm))).map ((true, ·))
    | _ => none
  | _ => none

theorem evs_ok {e : Env} {tm : List SV} {a : Act} (h : DenL e tm a.tmps.toList) : ∀ (os : List Operand), DenL e (os.map (ev tm)) (os.map a.eval)
  | [] => by simp [DenL]
  | o :: os => by simp only [List.map_cons, DenL]; exact ⟨_, _, rfl, ev_ok h o, evs_ok h os⟩

theorem stepV0_ok {e : Env} {tm : List SV} {a : Act} {H : List (SB τ)} {Fr : PH} {o : Oper} {c : Bool} {x : SV} (hM : Models I e H Fr w) (ht : DenL e tm a.tmps.toList)
    (h : stepV0 P o.op tm H = some (c, x)) (hc : c = true) : ∃ v, (execOp a.eval o).run P w = .ok (.value v) w ∧ Den e x v := by
  unfold stepV0 at h
  split at h
  · rename_i y hop
    simp only [Option.some.injEq, Prod.mk.injEq] at h
    obtain ⟨_, rfl⟩ := h
    exact ⟨_, by simp [execOp, hop], ev_ok ht y⟩
  · rename_i y hop
    simp only [Option.some.injEq, Prod.mk.injEq] at h
    obtain ⟨_, rfl⟩ := h
    exact ⟨_, by simp [execOp, hop], ev_ok ht y⟩
  · rename_i oc oa ob hop
    have hcd := ev_ok ht oc
    split at h
    · rename_i he
      rw [he] at hcd; simp only [Den] at hcd
      simp only [Option.some.injEq, Prod.mk.injEq] at h
      obtain ⟨_, rfl⟩ := h
      exact ⟨_, by simp [execOp, hop, hcd, asBool], ev_ok ht oa⟩
    · rename_i he
      rw [he] at hcd; simp only [Den] at hcd
      simp only [Option.some.injEq, Prod.mk.injEq] at h
      obtain ⟨_, rfl⟩ := h
      exact ⟨_, by simp [execOp, hop, hcd, asBool], ev_ok ht ob⟩
    · simp at h
  · rename_i T y hop
    obtain ⟨u, hu, hdu⟩ := loadQ_ok hM h hc (ev_ok ht y)
    exact ⟨u, by simp [execOp, hop, hu], hdu⟩
  · rename_i T y lo hi hop
    obtain ⟨u, hu, hdu⟩ := sliceS_ok (P := P) (w := w) (vl := lo.map a.eval) (vh := hi.map a.eval) h hc (ev_ok ht y)
      (by intro q hq; cases lo <;> simp at hq; subst hq; exact ⟨_, rfl, ev_ok ht _⟩) (by intro hq; cases lo <;> simp at hq; rfl)
      (by intro q hq; cases hi <;> simp at hq; subst hq; exact ⟨_, rfl, ev_ok ht _⟩) (by intro hq; cases hi <;> simp at hq; rfl)
    exact ⟨u, by simp [execOp, hop, hu], hdu⟩
  · rename_i y hop
    simp only [Option.map_eq_some_iff, Prod.mk.injEq] at h
    obtain ⟨z, hz, _, rfl⟩ := h
    have hd := ev_ok ht y
    generalize ev tm y = q at hz hd
    unfold nilckS at hz
    split at hz <;> simp at hz <;> subst hz <;> (have hd' := hd; simp only [Den] at hd')
    · obtain ⟨n, _, hv⟩ := hd'; exact ⟨_, by simp [execOp, hop, hv]; rfl, by rw [← hv]; exact hd⟩
    · obtain ⟨n, _, hv⟩ := hd'; exact ⟨_, by simp [execOp, hop, hv]; rfl, by rw [← hv]; exact hd⟩
    · obtain ⟨n, _, hv⟩ := hd'; exact ⟨_, by simp [execOp, hop, hv]; rfl, by rw [← hv]; exact hd⟩
    · obtain ⟨n, _, hv⟩ := hd'; exact ⟨_, by simp [execOp, hop, hv]; rfl, by rw [← hv]; exact hd⟩
    · exact ⟨_, by simp [execOp, hop, hd']; rfl, by simp [Den]⟩
    · exact ⟨_, by simp [execOp, hop, hd']; rfl, by simp [Den]⟩
  · rename_i S y i hop
    simp only [Option.map_eq_some_iff, Prod.mk.injEq] at h
    obtain ⟨z, hz, _, rfl⟩ := h
    obtain ⟨u, hu, hdu⟩ := fieldS_ok (w := w) hz (ev_ok ht y)
    exact ⟨u, by simp [execOp, hop, hu], hdu⟩
  · rename_i S y i hop
    simp only [Option.map_eq_some_iff, Prod.mk.injEq] at h
    obtain ⟨z, hz, _, rfl⟩ := h
    obtain ⟨u, hu, hdu⟩ := fldS_ok (w := w) hz (ev_ok ht y)
    exact ⟨u, by simp [execOp, hop, hu], hdu⟩
  · rename_i T y ix hop
    obtain ⟨u, hu, hdu⟩ := idxS_ok (w := w) h hc (ev_ok ht y) (ev_ok ht ix)
    exact ⟨u, by simp [execOp, hop, hu], hdu⟩
  · rename_i T y ix hop
    obtain ⟨u, hu, hdu⟩ := ixS_ok (w := w) h hc (ev_ok ht y) (ev_ok ht ix)
    exact ⟨u, by simp [execOp, hop, hu], hdu⟩
  · rename_i T parts hop
    simp only [Option.map_eq_some_iff, Prod.mk.injEq] at h
    obtain ⟨z, hz, _, rfl⟩ := h
    obtain ⟨u, hu, hdu⟩ := buildS_ok (w := w) (e := e) (ps := parts.map fun p => (p.1, a.eval p.2)) hz (by simp) (by
      have := evs_ok ht (parts.toList.map (·.2))
      simpa [List.map_map, Function.comp_def] using this)
    exact ⟨u, by simp [execOp, hop, hu], hdu⟩
  · rename_i op T y z ty hop
    obtain ⟨u, hu, hdu⟩ := binS_ok (w := w) (ox := y) (oy := z) h hc (ev_ok ht y) (ev_ok ht z)
    exact ⟨u, by simp only [execOp, hop]; rw [Sem.run_bind, hu]; rfl, hdu⟩
  · rename_i op T y hop
    simp only [Option.map_eq_some_iff, Prod.mk.injEq] at h
    obtain ⟨z, hz, _, rfl⟩ := h
    obtain ⟨u, hu, hdu⟩ := unS_ok (P := P) (w := w) hz (ev_ok ht y)
    exact ⟨u, by simp [execOp, hop, hu], hdu⟩
  · rename_i s d y hop
    simp only [Option.map_eq_some_iff, Prod.mk.injEq] at h
    obtain ⟨z, hz, _, rfl⟩ := h
    obtain ⟨u, hu, hdu⟩ := convS_ok (w := w) hz (ev_ok ht y)
    exact ⟨u, by simp [execOp, hop, hu], hdu⟩
  · rename_i y i hop
    have hd := ev_ok ht y
    split at h
    · rename_i l he
      rw [he] at hd
      simp only [Den] at hd
      obtain ⟨vs, hvs, hv⟩ := hd
      simp only [Option.map_eq_some_iff, Prod.mk.injEq] at h
      obtain ⟨z, hz, _, rfl⟩ := h
      obtain ⟨u, hu, hdu⟩ := hvs.get hz
      exact ⟨u, by simp [execOp, hop, hv, Instr.extract, hu], hdu⟩
    · simp at h
  · rename_i fn first cap hop
    split at h
    · rename_i hf
      have hf' : first = #[] := by simpa using hf
      subst hf'
      simp only [Option.some.injEq, Prod.mk.injEq] at h
      obtain ⟨_, rfl⟩ := h
      refine ⟨.func fn #[] (cap.map a.eval), by simp [execOp, hop, Instr.makeFunc], ?_⟩
      simp only [Den]
      exact ⟨cap.toList.map a.eval, evs_ok ht _, by congr 1; apply Array.toList_inj.1; simp⟩
    · simp at h
  · rename_i b args ats hop
    split at h
    · split at h
      · rename_i T rest hT
        simp only [Option.map_eq_some_iff, Prod.mk.injEq] at h
        obtain ⟨z, hz, _, rfl⟩ := h
        obtain ⟨u, hu, hdu⟩ := lenS_ok (w := w) (ty := o.type) (ats := rest) hz (evs_ok ht args.toList)
        have e1 : (T :: rest).toArray = ats := by rw [← hT]
        have e2 : (args.toList.map a.eval).toArray = args.map a.eval := by apply Array.toList_inj.1; simp
        rw [e1, e2] at hu
        exact ⟨u, by simp [execOp, hop, resolve, invoke, builtin, hu], hdu⟩
      · simp at h
    · simp only [Option.map_eq_some_iff, Prod.mk.injEq] at h
      obtain ⟨z, hz, _, rfl⟩ := h
      have hd := evs_ok ht args.toList
      generalize args.toList.map (ev tm) = xs at hz hd
      unfold minI at hz
      split at hz <;> simp at hz
      subst hz
      simp only [DenL, Den] at hd
      obtain ⟨v1, r1, e1, rfl, v2, r2, rfl, rfl, rfl⟩ := hd
      have e2 : args.map a.eval = (args.toList.map a.eval).toArray := by apply Array.toList_inj.1; simp
      rw [e1] at e2
      exact ⟨_, by simp [execOp, hop, resolve, invoke, builtin, Builtin.min_, e2, Builtin.min2]; rfl, by simp [Den]⟩
    · simp only [Option.map_eq_some_iff, Prod.mk.injEq] at h
      obtain ⟨z, hz, _, rfl⟩ := h
      have hd := evs_ok ht args.toList
      generalize args.toList.map (ev tm) = xs at hz hd
      unfold maxI at hz
      split at hz <;> simp at hz
      subst hz
      simp only [DenL, Den] at hd
      obtain ⟨v1, r1, e1, rfl, v2, r2, rfl, rfl, rfl⟩ := hd
      have e2 : args.map a.eval = (args.toList.map a.eval).toArray := by apply Array.toList_inj.1; simp
      rw [e1] at e2
      exact ⟨_, by simp [execOp, hop, resolve, invoke, builtin, Builtin.max_, e2, Builtin.max2]; rfl, by simp [Den]⟩
    · simp at h
  · simp at h

end Go.Sym
