/- The symbolic step of the operations that make memory or write it. -/
import Derived.Test.YtienakdnmhmglaaVC
set_option linter.unusedSimpArgs false
set_option linter.unusedVariables false
set_option linter.unusedSectionVars false
namespace Go.Sym
open Go
variable {P : Program} {w : World} {τ : Type} {I : Inv τ}

theorem setAll_eq {α : Type} : ∀ (r l : List α) (o : Nat), o + r.length ≤ l.length → setAll l o r = l.take o ++ r ++ l.drop (o + r.length)
  | [], l, o, _ => by simp [setAll]
  | x :: r, l, o, h => by
    simp only [List.length_cons] at h
    have ih := setAll_eq r (l.set o x) (o + 1) (by simp; omega)
    simp only [setAll]
    rw [ih]
    have h1 : (l.set o x).take (o + 1) = l.take o ++ [x] := by
      rw [List.take_set, List.take_succ_eq_append_getElem (by omega : o < l.length)]
      have : (List.take o l).length = o := by simp; omega
      rw [List.set_append_right _ _ (by omega)]
      simp [this]
    have h2 : (l.set o x).drop (o + 1 + r.length) = l.drop (o + (x :: r).length) := by
      rw [List.drop_set_of_lt (by omega)]
      congr 1
      simp only [List.length_cons]; omega
    rw [h1, h2]
    simp [Nat.add_assoc]

/-- A row of new cells. -/
theorem Models.newRow {e : Env} {H : List (SB τ)} {Fr : PH} (h : Models I e H Fr w) {l : List SV} {vs : List Value} (T : TypeId) (hd : DenL e l vs) :
    Le e (ext e H.length (.blk w.heap.size)) ∧ Models I (ext e H.length (.blk w.heap.size)) (H ++ [.cells l T]) Fr { w with heap := w.heap.push (.cells vs.toArray T) } := by
  have hle : Le e (ext e H.length (.blk w.heap.size)) := le_ext h.fresh
  refine ⟨hle, h.add (r := .blk w.heap.size) (hn := single w.heap.size (.cells vs.toArray T (0, 0))) ⟨w.heap.size, vs, rfl, hd.mono hle, rfl⟩ (Ext.alloc w _) (fun k o hk => ?_) (fun k hk => ?_)⟩
  · unfold single at hk
    split at hk
    · rename_i hk'; subst hk'; simp only [Option.some.injEq] at hk; subst hk; simp
    · cases hk
  · unfold single at hk
    split at hk
    · rename_i hk'; omega
    · exact absurd rfl hk

/-- An object that is no row of cells. -/
theorem Models.newObj {e : Env} {H : List (SB τ)} {Fr : PH} (h : Models I e H Fr w) (o : Obj) :
    Le e (ext e H.length (.blk w.heap.size)) ∧ Models I (ext e H.length (.blk w.heap.size)) (H ++ [.obj o]) Fr { w with heap := w.heap.push o } := by
  have hle : Le e (ext e H.length (.blk w.heap.size)) := le_ext h.fresh
  refine ⟨hle, h.add (r := .blk w.heap.size) (hn := single w.heap.size o) ⟨w.heap.size, rfl, rfl⟩ (Ext.alloc w _) (fun k o hk => ?_) (fun k hk => ?_)⟩
  · unfold single at hk
    split at hk
    · rename_i hk'; subst hk'; simp only [Option.some.injEq] at hk; subst hk; simp
    · cases hk
  · unfold single at hk
    split at hk
    · rename_i hk'; omega
    · exact absurd rfl hk

theorem stay_setRow (w : World) (m : Nat) (r : Array Value) : Stay w (w.setRow m r) := ⟨rfl, rfl⟩
/-- One block of an item of its own is turned. -/
theorem Models.turn {e : Env} {H : List (SB τ)} {Fr : PH} {w' : World} (h : Models I e H Fr w) {i n : Nat} {b b' : SB τ} {o' : Obj} (hi : H[i]? = some b) (hn : e i = some (.blk n))
    (hb : ∀ hp, ItemOk I e b (e i) hp → ∃ o, hp = single n o) (hb' : ItemOk I e b' (e i) (single n o'))
    (hw : w'.heap[n]? = some o') (hother : ∀ k, k ≠ n → w'.heap[k]? = w.heap[k]?) (hy : Stay w w') : Models I e (H.set i b') Fr w' := by
  refine h.upd i hi hy fun hp hok hsub => ?_
  obtain ⟨o, rfl⟩ := hb hp hok
  refine ⟨single n o', hb', fun k x hk => ?_, fun k hk => ?_, fun k x hk hne => ?_⟩
  · unfold single at hk
    split at hk
    · rename_i e1; subst e1; simp only [Option.some.injEq] at hk; subst hk; exact hw
    · cases hk
  · unfold single at hk ⊢
    split at hk
    · rename_i e1; left; rw [if_pos e1]; simp
    · exact absurd rfl hk
  · unfold single at hne
    split at hne
    · cases hne
    · rename_i e1; rw [hother k e1]; exact hk

def allInts (k : IntKind) : List SV → Bool
  | [] => true
  | .v (.int j _) :: r => decide (j = k) && allInts k r
  | _ => false
def intsOf : List SV → List Int
  | [] => []
  | .v (.int _ n) :: r => n :: intsOf r
  | _ :: r => 0 :: intsOf r
theorem intsOf_length : ∀ (l : List SV), (intsOf l).length = l.length
  | [] => rfl
  | x :: r => by
    have := intsOf_length r
    unfold intsOf
    split <;> simp_all
theorem allInts_ok {k : IntKind} : ∀ {l : List SV}, allInts k l = true → l = (intsOf l).map (fun x => .v (.int k x))
  | [], _ => rfl
  | x :: r, h => by
    unfold allInts at h
    split at h
    · rename_i hx; cases hx
    · rename_i j n r' hx
      cases hx
      simp only [Bool.and_eq_true, decide_eq_true_eq] at h
      obtain ⟨rfl, h2⟩ := h
      simp only [intsOf, List.map_cons, List.cons.injEq, true_and]
      exact allInts_ok h2
    · cases h
/-- A row of new cells; of numbers alone, if it is long and has nothing else. -/
def packI (l : List SV) (T : TypeId) : SB τ :=
  match l with
  | .v (.int k _) :: _ => match Nat.ble 8 l.length && allInts k l with
    | true => .ints k (intsOf l) l.length T
    | false => .cells l T
  | _ => .cells l T
theorem ints_den {e : Env} {k : IntKind} : ∀ {xs : List Int} {vs : List Value}, DenL e (xs.map fun x => .v (.int k x)) vs → vs = xs.map (Value.int k)
  | [], _, h => by simpa [DenL] using h
  | x :: xs, _, h => by
    simp only [List.map_cons, DenL] at h
    obtain ⟨v, r, rfl, h4, h5⟩ := h
    simp only [Den] at h4
    rw [h4, ints_den h5]
    rfl
theorem Models.newPack {e : Env} {H : List (SB τ)} {Fr : PH} (h : Models I e H Fr w) {l : List SV} {vs : List Value} (T : TypeId) (hd : DenL e l vs) :
    Le e (ext e H.length (.blk w.heap.size)) ∧ Models I (ext e H.length (.blk w.heap.size)) (H ++ [packI l T]) Fr { w with heap := w.heap.push (.cells vs.toArray T) } := by
  unfold packI
  split
  · rename_i k n r
    split
    · rename_i hc
      rw [Bool.and_eq_true] at hc
      have hl := allInts_ok hc.2
      have hle : Le e (ext e H.length (.blk w.heap.size)) := le_ext h.fresh
      have hvs : vs = (intsOf (.v (.int k n) :: r)).map (Value.int k) := ints_den (by rw [← hl]; exact hd)
      refine ⟨hle, h.add (r := .blk w.heap.size) (hn := single w.heap.size (.cells vs.toArray T (0, 0))) ⟨w.heap.size, rfl, intsOf_length _, by rw [hvs]⟩ (Ext.alloc w _) (fun k o hk => ?_) (fun k hk => ?_)⟩
      · unfold single at hk
        split at hk
        · rename_i hk'; subst hk'; simp only [Option.some.injEq] at hk; subst hk; simp
        · cases hk
      · unfold single at hk
        split at hk
        · rename_i hk'; omega
        · exact absurd rfl hk
    · exact h.newRow T hd
  · exact h.newRow T hd

def stepA (P : Program) (op : Op) (tm : List SV) (H : List (SB τ)) : Option (SV × List (SB τ)) :=
  match op with
  | .alloc T => match zeroT P T with
    | some z => some (.p H.length 0, H ++ [.cells (z.cells.toList.map .v) T])
    | none => none
  | .box T x => match cellsV (ev tm x) with
    | some l => some (.p H.length 0, H ++ [packI l T])
    | none => none
  | .buildSlice T len parts => match P.underlying T with
    | some (.slice elem) => match szT P elem, zeroT P elem with
      | some n, some z => match Nat.ble (len * n) 16777216, fillS (fun i => some (i * n, n)) ((List.range (len * n)).map fun i => .v (z.cells[i % z.cells.size]!)) (parts.toList.map fun p => (p.1, ev tm p.2)) with
        | true, some l => some (.s H.length 0 len len, H ++ [packI l elem])
        | _, _ => none
      | _, _ => none
    | _ => none
  | .store T a x => match ev tm a with
    | .p b o => match H[b]?, cellsV (ev tm x), szT P T with
      | some (.cells l T'), some c, some n => match c.length == n && Nat.ble (o + n) l.length && c.all oneS with
        | true => some (.v undef, H.set b (.cells (setAll l o c) T'))
        | false => none
      | _, _, _ => none
    | _ => none
  | .range T x => match P.underlying T, ev tm x with
    | some .string, .v (.string s) => some (.p H.length 0, H ++ [.obj (.stringIter s 0)])
    | _, _ => none
  | .next it true => match ev tm it with
    | .p b 0 => match H[b]? with
      | some (.obj (.stringIter s pos)) => match Nat.blt pos s.size with
        | true => some (.t [.v (.bool true), .v (.int .i64 pos), .v (.int .i32 (Utf8.decode s pos).1)], H.set b (.obj (.stringIter s (pos + (Utf8.decode s pos).2))))
        | false => some (.t [.v (.bool false)], H)
      | _ => none
    | _ => none
  | _ => none

theorem all_one {e : Env} : ∀ {c : List SV} {vs : List Value}, c.all oneS = true → DenL e c vs → ∀ v ∈ vs, v.oneCell' = true
  | [], _, _, hd => by simp only [DenL] at hd; subst hd; simp
  | x :: c, _, h, hd => by
    simp only [DenL] at hd
    obtain ⟨v, r, rfl, h2, h3⟩ := hd
    simp only [List.all_cons, Bool.and_eq_true] at h
    intro u hu
    rcases List.mem_cons.1 hu with rfl | hu
    · exact oneS_ok h.1 h2
    · exact all_one h.2 h3 u hu

/-- What an operation that gives a value has done. -/
def Gave (I : Inv τ) (P : Program) (o : Oper) (a : Act) (e : Env) (Fr : PH) (w : World) (x : SV) (H H' : List (SB τ)) : Prop :=
  ∃ nx v w' e', (execOp a.eval o).run P w = .ok nx w' ∧ (nx = .value v ∨ (nx = .skip ∧ v = undef)) ∧ Le e e' ∧ Models I e' H' Fr w' ∧ Den e' x v ∧ (H'.length = H.length → e' = e)

theorem stepA_ok {e : Env} {tm : List SV} {a : Act} {H H' : List (SB τ)} {Fr : PH} {o : Oper} {x : SV} (hM : Models I e H Fr w) (ht : DenL e tm a.tmps.toList)
    (h : stepA P o.op tm H = some (x, H')) : Gave I P o a e Fr w x H H' := by
  unfold stepA at h
  split at h
  · rename_i T hop
    split at h
    · rename_i z hz
      simp only [Option.some.injEq, Prod.mk.injEq] at h
      obtain ⟨rfl, rfl⟩ := h
      obtain ⟨hle, hM'⟩ := hM.newRow T (DenL.plain z.cells.toList)
      refine ⟨_, _, _, _, by simp [execOp, hop, Instr.alloc, run_zeroT hz, newVar, newRow]; rfl, .inl rfl, hle, hM', ?_⟩
      refine ⟨?_, fun hl => by simp at hl⟩
      simp only [Den, ext_self]
      exact ⟨_, rfl, rfl⟩
    · simp at h
  · rename_i T y hop
    split at h
    · rename_i l hl
      simp only [Option.some.injEq, Prod.mk.injEq] at h
      obtain ⟨rfl, rfl⟩ := h
      obtain ⟨hle, hM'⟩ := hM.newPack T (cellsV_ok hl (ev_ok ht y))
      refine ⟨_, _, _, _, by simp [execOp, hop, Instr.box, newVar, newRow]; rfl, .inl rfl, hle, hM', ?_⟩
      refine ⟨?_, fun hl => by simp at hl⟩
      simp only [Den, ext_self]
      exact ⟨_, rfl, rfl⟩
    · simp at h
  · rename_i T len parts hop
    split at h
    · rename_i elem hu
      split at h
      · rename_i n z hn hz
        split at h
        · rename_i l hb hl
          simp only [Option.some.injEq, Prod.mk.injEq] at h
          obtain ⟨rfl, rfl⟩ := h
          have hbig : ¬ (len * n > 2 ^ 24) := by rw [Nat.ble_eq] at hb; omega
          have hz0 : ∃ zs : Array Value, (Array.range (len * n)).map (fun i => zs[i % zs.size]!) = ((List.range (len * n)).map fun i => z.cells[i % z.cells.size]!).toArray ∧
              ∀ (f : Array Value → Sem Value), ((do let zero ← (if len * n = 0 then pure #[] else do pure (← zeroValue elem).cells); f zero : Sem Value)).run P w = (f zs).run P w := by
            by_cases h0 : len * n = 0
            · refine ⟨#[], ?_, fun f => by simp [h0]⟩
              apply Array.toList_inj.1; simp [h0]
            · refine ⟨z.cells, ?_, fun f => by simp [h0, run_zeroT hz]⟩
              apply Array.toList_inj.1; simp
          obtain ⟨zs, hz2, hz1⟩ := hz0
          obtain ⟨rs, hr, hdr⟩ := fillS_ok (e := e) (cs := (Array.range (len * n)).map fun i => zs[i % zs.size]!) (ps := (parts.map fun p => (p.1, a.eval p.2)).toList) hl
            (by rw [hz2]; have := DenL.plain (e := e) ((List.range (len * n)).map fun i => z.cells[i % z.cells.size]!); simpa [List.map_map, Function.comp_def] using this) (by simp) (by
            have := evs_ok ht (parts.toList.map (·.2))
            simpa [List.map_map, Function.comp_def] using this)
          obtain ⟨hle, hM'⟩ := hM.newPack elem hdr
          have hrun : (Instr.buildSlice T len (parts.map fun p => (p.1, a.eval p.2))).run P w = .ok (.slice (some ⟨w.heap.size, 0, none⟩) len len) { w with heap := w.heap.push (.cells rs.toList.toArray elem) } := by
            unfold Instr.buildSlice
            simp only [Sem.run_bind, run_und hu, Result.andThen_ok, run_szT hn, hbig, if_false, Sem.run_pure]
            have := hz1 (fun zero => do
              let some cells := Instr.fill (fun i => some (i * n, n)) ((Array.range (len * n)).map (zero[· % zero.size]!)) (parts.map fun p => (p.1, a.eval p.2)).toList | stuck "buildSlice: a part of the wrong size"
              pure (.slice (some (← newRow elem cells)) len len))
            refine Eq.trans ?_ (this.trans ?_)
            · by_cases h0 : len * n = 0
              · rw [if_pos h0, if_pos h0]; simp only [Sem.run_bind, Sem.run_pure, Result.andThen_ok]; rfl
              · rw [if_neg h0, if_neg h0]; simp only [Sem.run_bind, Sem.run_pure, Result.andThen_ok, run_zeroT hz]; rfl
            · simp only [hr]; simp [newRow]
          refine ⟨.value (.slice (some ⟨w.heap.size, 0, none⟩) len len), .slice (some ⟨w.heap.size, 0, none⟩) len len, _, _, by simp only [execOp, hop]; rw [Sem.run_bind, hrun]; rfl, .inl rfl, hle, hM', ?_⟩
          refine ⟨?_, fun hl => by simp at hl⟩
          simp only [Den, ext_self]
          exact ⟨_, rfl, rfl⟩
        · simp at h
      · simp at h
    · simp at h
  · rename_i T oa ox hop
    have hda := ev_ok ht oa
    split at h
    · rename_i b off hea
      rw [hea] at hda
      simp only [Den] at hda
      obtain ⟨m, hm, hav⟩ := hda
      split at h
      · rename_i l T' c n hb hc hn
        split at h
        · rename_i hcond
          simp only [Bool.and_eq_true, beq_iff_eq, Nat.ble_eq] at hcond
          obtain ⟨⟨h1, h2⟩, h3⟩ := hcond
          simp only [Option.some.injEq, Prod.mk.injEq] at h
          obtain ⟨rfl, rfl⟩ := h
          obtain ⟨m', vs, g1, g2, g3⟩ := hM.cells hb
          rw [hm] at g1; cases g1
          have hcd := cellsV_ok hc (ev_ok ht ox)
          generalize hv : a.eval ox = v at hcd
          have hsz : v.cells.size = n := by have := hcd.length; simp at this; omega
          have hlv := g2.length
          have hst := run_storeCells_at (P := P) m off T' v.cells.toList 0 vs.toArray w g3 (by simp; omega) (all_one h3 hcd)
          have hsv : (storeVar T ⟨m, off, none⟩ v).run P w = .ok () (w.setRow m (setAll vs off v.cells.toList).toArray) := by
            have hs2 : ¬ (v.cells.size ≠ n) := by simp [hsz]
            simp only [storeVar, Sem.run_bind, run_szT hn, Result.andThen_ok, hs2, if_false]
            rw [hst, setAll_eq _ _ _ (by simp; omega)]
            simp
          refine ⟨.skip, undef, w.setRow m (setAll vs off v.cells.toList).toArray, e, by simp [execOp, hop, hav, Instr.storeAt, Instr.sureAddr, hv, hsv], .inr ⟨rfl, rfl⟩, Le.refl e, ?_, by simp [Den], fun _ => rfl⟩
          refine hM.turn (o' := .cells (setAll vs off v.cells.toList).toArray T' (0, 0)) hb hm (fun hp hok => ?_) ⟨m, _, hm, setAll_den hcd g2, rfl⟩ (setRow_heap w m _ _ T' (0, 0) g3) (fun k hk => setRow_other w m k _ hk) (stay_setRow w m _)
          obtain ⟨n', vs', q1, _, q3⟩ := hok
          rw [hm] at q1; cases q1
          exact ⟨_, q3⟩
        · simp at h
      · simp at h
    · simp at h
  · rename_i T y hop
    have hd := ev_ok ht y
    split at h
    · rename_i s hu he
      rw [he] at hd
      simp only [Den] at hd
      simp only [Option.some.injEq, Prod.mk.injEq] at h
      obtain ⟨rfl, rfl⟩ := h
      obtain ⟨hle, hM'⟩ := hM.newObj (.stringIter s 0)
      refine ⟨_, _, _, _, by simp [execOp, hop, hd, Instr.range, run_und hu]; rfl, .inl rfl, hle, hM', ?_⟩
      refine ⟨?_, fun hl => by simp at hl⟩
      simp only [Den, ext_self]
      exact ⟨_, rfl, rfl⟩
    · simp at h
  · rename_i it hop
    have hda := ev_ok ht it
    split at h
    · rename_i b hea
      rw [hea] at hda
      simp only [Den] at hda
      obtain ⟨m, hm, hav⟩ := hda
      split at h
      · rename_i s pos hb
        obtain ⟨hn, ⟨m', g1, rfl⟩, g5⟩ := hM.item hb
        rw [hm] at g1; cases g1
        have g3 : w.heap[m]? = some (.stringIter s pos) := g5 m _ (by simp [single])
        have hget : (getObj m).run P w = .ok (.stringIter s pos) w := by unfold getObj; simp only [Sem.run, g3]
        split at h
        · rename_i hlt
          rw [Nat.blt_eq] at hlt
          simp only [Option.some.injEq, Prod.mk.injEq] at h
          obtain ⟨rfl, rfl⟩ := h
          generalize hdec : Utf8.decode s pos = dc
          obtain ⟨cp, width⟩ := dc
          have hset : (setObj m (.stringIter s (pos + width))).run P w = .ok () { w with heap := w.heap.setIfInBounds m (.stringIter s (pos + width)) } := by unfold setObj; simp only [Sem.run, g3]
          refine ⟨.value (.tuple #[.bool true, .int .i64 pos, .int .i32 cp]), .tuple #[.bool true, .int .i64 pos, .int .i32 cp], { w with heap := w.heap.setIfInBounds m (.stringIter s (pos + width)) }, e, ?_, .inl rfl, Le.refl e, ?_, ?_, fun _ => rfl⟩
          · simp only [execOp, hop, hav, Instr.next, Sem.run_bind, Sem.run_pure, Result.andThen_ok, hget, hlt, if_true, hdec, hset]
            rfl
          · have hlt' : m < w.heap.size := (Array.getElem?_eq_some_iff.1 g3).1
            refine hM.turn (o' := .stringIter s (pos + width)) hb hm (fun hp hok => ?_) ⟨m, hm, rfl⟩ (by simp [hlt']) (fun k hk => by simp [Array.getElem?_setIfInBounds, Ne.symm hk]) ⟨rfl, rfl⟩
            obtain ⟨n', q1, q3⟩ := hok
            rw [hm] at q1; cases q1
            exact ⟨_, q3⟩
          · simp only [Den, DenL]
            exact ⟨_, ⟨_, _, rfl, rfl, _, _, rfl, rfl, _, _, rfl, rfl, rfl⟩, rfl⟩
        · rename_i hlt
          have hlt : ¬ pos < s.size := fun hh => by rw [← Nat.blt_eq] at hh; rw [hh] at hlt; cases hlt
          simp only [Option.some.injEq, Prod.mk.injEq] at h
          obtain ⟨rfl, rfl⟩ := h
          refine ⟨.value (.tuple #[.bool false]), .tuple #[.bool false], w, e, ?_, .inl rfl, Le.refl e, hM, ?_, fun _ => rfl⟩
          · simp only [execOp, hop, hav, Instr.next, Sem.run_bind, Sem.run_pure, Result.andThen_ok, hget, hlt, if_false]
          · simp only [Den, DenL]
            exact ⟨_, ⟨_, _, rfl, rfl, rfl⟩, rfl⟩
      · simp at h
    · simp at h
  · simp at h

/-! ### Operations on rows of numbers -/
def stepI (P : Program) (op : Op) (tm : List SV) (H : List (SB τ)) : Option (Bool × SV × List (SB τ)) :=
  match op with
  | .store T a x => match ev tm a, ev tm x with
    | .p b o, .v (.int k m) => match H[b]?, szT P T with
      | some (.ints k' xs n T'), some 1 => match decide (k = k') with
        | true => some (Nat.blt o n, .v undef, H.set b (.ints k (xs.set o m) n T'))
        | false => none
      | _, _ => none
    | _, _ => none
  | .call { callee := .builtin .copy, args, argTypes } => match argTypes.toList, args.toList.map (ev tm) with
    | [D, _], [.s b o len _, .s b' o' len' _] => match P.underlying D with
      | some (.slice el) => match szT P el, H[b]?, H[b']? with
        | some 1, some (.ints k xs n T), some (.ints k' ys n' _) => match decide (k = k') with
          | true => some (Nat.ble (o + Nat.min len' len) n && Nat.ble (o' + Nat.min len' len) n', .v (.int .i64 (Nat.min len' len : Nat)),
              H.set b (.ints k (xs.take o ++ (ys.drop o').take (Nat.min len' len) ++ xs.drop (o + Nat.min len' len)) n T))
          | false => none
        | _, _, _ => none
      | _ => none
    | _, _ => none
  | _ => none

theorem set_map {α β : Type} (f : α → β) (l : List α) (i : Nat) (a : α) : (l.map f).set i (f a) = (l.set i a).map f := by
  induction l generalizing i with
  | nil => rfl
  | cons x l ih => cases i with
    | zero => rfl
    | succ i => simp only [List.map_cons, List.set_cons_succ, ih]

theorem stepI_ok {e : Env} {tm : List SV} {a : Act} {H H' : List (SB τ)} {Fr : PH} {o : Oper} {x : SV} {c : Bool} (hM : Models I e H Fr w) (ht : DenL e tm a.tmps.toList)
    (h : stepI P o.op tm H = some (c, x, H')) (hc : c = true) : Gave I P o a e Fr w x H H' := by
  unfold stepI at h
  split at h
  · rename_i T oa ox hop
    have hda := ev_ok ht oa
    have hdx := ev_ok ht ox
    split at h
    · rename_i b off k m hea hex
      rw [hea] at hda
      rw [hex] at hdx
      simp only [Den] at hda hdx
      obtain ⟨bn, hm, hav⟩ := hda
      split at h
      · rename_i k' xs n T' hb hs
        split at h
        · rename_i hk
          have hk := of_decide_eq_true hk
          subst hk
          simp only [Option.some.injEq, Prod.mk.injEq] at h
          obtain ⟨h1, rfl, rfl⟩ := h
          rw [hc, Nat.blt_eq] at h1
          obtain ⟨m', g1, g2, g3⟩ := hM.ints hb
          rw [hm] at g1; cases g1
          have hst := run_storeCells_at (P := P) bn off T' [Value.int k m] 0 (xs.map (Value.int k)).toArray w g3 (by simp; omega) (by intro v hv; simp at hv; subst hv; rfl)
          have hrow : ((xs.map (Value.int k)).toArray.toList.take off ++ [Value.int k m] ++ (xs.map (Value.int k)).toArray.toList.drop (off + 1)) = (xs.set off m).map (Value.int k) := by
            rw [← set_map, List.set_eq_take_append_cons_drop]
            rw [if_pos (by simp; omega)]
            simp
          have hsv : (storeVar T ⟨bn, off, none⟩ (.int k m)).run P w = .ok () (w.setRow bn ((xs.set off m).map (Value.int k)).toArray) := by
            have hs2 : ¬ ((Value.int k m).cells.size ≠ 1) := by simp [Value.cells]
            simp only [storeVar, Sem.run_bind, run_szT hs, Result.andThen_ok, hs2, if_false]
            have e1 : (Value.int k m).cells.toList = [Value.int k m] := rfl
            rw [e1, hst]
            simp only [List.length_singleton, Nat.add_zero] at hrow ⊢
            simp only [List.length_cons, List.length_nil, Nat.zero_add] at *
            rw [hrow]
          refine ⟨.skip, undef, w.setRow bn ((xs.set off m).map (Value.int k)).toArray, e, by simp [execOp, hop, hav, Instr.storeAt, Instr.sureAddr, hdx, hsv], .inr ⟨rfl, rfl⟩, Le.refl e, ?_, by simp [Den], fun _ => rfl⟩
          refine hM.turn (o' := .cells ((xs.set off m).map (Value.int k)).toArray T' (0, 0)) hb hm (fun hp hok => ?_) ⟨bn, hm, by simp [g2], rfl⟩ (setRow_heap w bn _ _ T' (0, 0) g3) (fun k hk => setRow_other w bn k _ hk) (stay_setRow w bn _)
          obtain ⟨n', q1, _, q3⟩ := hok
          rw [hm] at q1; cases q1
          exact ⟨_, q3⟩
        · cases h
      · cases h
    · cases h
  · rename_i args ats hop
    split at h
    · rename_i D D' b off len cap b' off' len' cap' hat hargs
      split at h
      · rename_i el hu
        split at h
        · rename_i k xs n T k' ys n' T' hs hb hb'
          split at h
          · rename_i hk
            have hk := of_decide_eq_true hk
            subst hk
            simp only [Option.some.injEq, Prod.mk.injEq] at h
            obtain ⟨h1, rfl, rfl⟩ := h
            generalize hmin : Nat.min len' len = mn at h1 ⊢
            rw [hc, Bool.and_eq_true, Nat.ble_eq, Nat.ble_eq] at h1
            obtain ⟨h1, h2⟩ := h1
            have hev := evs_ok ht args.toList
            rw [hargs] at hev
            simp only [DenL, Den] at hev
            obtain ⟨v1, r1, e1, ⟨m, hm, rfl⟩, v2, r2, rfl, ⟨m', hm', rfl⟩, rfl⟩ := hev
            obtain ⟨q, g1, g2, g3⟩ := hM.ints hb
            rw [hm] at g1; cases g1
            obtain ⟨q', k1, k2, k3⟩ := hM.ints hb'
            rw [hm'] at k1; cases k1
            have hargs' : args.map a.eval = #[.slice (some ⟨m, off, none⟩) len cap, .slice (some ⟨m', off', none⟩) len' cap'] := by apply Array.toList_inj.1; simpa using e1
            have hats : ats = #[D, D'] := by apply Array.toList_inj.1; simpa using hat
            have hseg : (((ys.drop off').take mn).map (Value.int k)).length = mn := by simp; omega
            have hld := run_loadCells_list (P := P) w ⟨m', off', none⟩ (((ys.drop off').take mn).map (Value.int k)) (fun j v hj => by
              rw [add_none, cell_at k3]
              have hj2 : j < mn := by have := (List.getElem?_eq_some_iff.1 hj).1; omega
              rw [List.getElem?_map, List.getElem?_take_of_lt hj2, List.getElem?_drop] at hj
              simpa using hj)
            rw [hseg] at hld
            have hst := run_storeCells_at (P := P) m off T (((ys.drop off').take mn).map (Value.int k)) 0 (xs.map (Value.int k)).toArray w g3 (by rw [hseg]; simp; omega) (by intro v hv; obtain ⟨z, _, rfl⟩ := List.mem_map.1 hv; rfl)
            rw [hseg] at hst
            have hrow : ((xs.map (Value.int k)).take off ++ ((ys.drop off').take mn).map (Value.int k) ++ (xs.map (Value.int k)).drop (off + mn)) = (xs.take off ++ (ys.drop off').take mn ++ xs.drop (off + mn)).map (Value.int k) := by simp
            have hcp : (Builtin.copy_ #[D, D'] o.type #[.slice (some ⟨m, off, none⟩) len cap, .slice (some ⟨m', off', none⟩) len' cap']).run P w = .ok (goInt mn) (w.setRow m ((xs.take off ++ (ys.drop off').take mn ++ xs.drop (off + mn)).map (Value.int k)).toArray) := by
              simp only [Nat.add_zero, Nat.zero_add, List.toList_toArray] at hst
              rw [hrow] at hst
              have hq : ∀ f : Array Value → Sem Value, ((loadCells ⟨m', off', none⟩ (mn * 1) >>= f) : Sem Value).run P w = (f (((ys.drop off').take mn).map (Value.int k)).toArray).run P w := fun f => by
                rw [Nat.mul_one, Sem.run_bind, hld, Result.andThen_ok]
              have : ∀ (y : Value) (b : Addr), ((do storeCells b (((ys.drop off').take mn).map (Value.int k)); pure y : Sem Value)).run P w = ((storeCells b (((ys.drop off').take mn).map (Value.int k))).run P w).andThen fun _ w => .ok y w := fun y b => by
                simp only [Sem.run_bind, Sem.run_pure]
              unfold Builtin.copy_
              simp only [List.getElem?_toArray, List.getElem?_cons_zero, List.getElem?_cons_succ, Sem.run_bind, run_und hu, Result.andThen_ok, Builtin.lenOf, Sem.run_pure, Builtin.firstCells, run_szT hs, hmin, Nat.mul_one, hld, hst]
            refine ⟨.value (goInt mn), goInt mn, w.setRow m ((xs.take off ++ (ys.drop off').take mn ++ xs.drop (off + mn)).map (Value.int k)).toArray, e, ?_, .inl rfl, Le.refl e, ?_, by simp [Den, goInt], fun _ => rfl⟩
            · simp only [execOp, hop, resolve, hargs', invoke, hats, builtin, Sem.run_bind, Sem.run_pure, Result.andThen_ok, hcp]
            · refine hM.turn (o' := .cells ((xs.take off ++ (ys.drop off').take mn ++ xs.drop (off + mn)).map (Value.int k)).toArray T (0, 0)) hb hm (fun hp hok => ?_) ⟨m, hm, by simp; omega, rfl⟩ (setRow_heap w m _ _ T (0, 0) g3) (fun q hq => setRow_other w m q _ hq) (stay_setRow w m _)
              obtain ⟨n', q1, _, q3⟩ := hok
              rw [hm] at q1; cases q1
              exact ⟨_, q3⟩
          · cases h
        · cases h
      · cases h
    · cases h
  · cases h

end Go.Sym
