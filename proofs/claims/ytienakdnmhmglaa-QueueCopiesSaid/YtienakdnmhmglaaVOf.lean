/- Loud operations on rows that are owned: store, append, make, copy. -/
import Derived.Test.YtienakdnmhmglaaVOe
set_option linter.unusedSimpArgs false
set_option linter.unusedVariables false
set_option linter.unusedSectionVars false
namespace Go.Sym
open Go
variable {P : Program} {w : World} {τ : Type} {I : Inv τ}

/-- What a loud operation has done. -/
def GaveL (I : Inv τ) (P : Program) (o : Oper) (a : Act) (e : Env) (Fr : PH) (w : World) (x : SV) (H' : List (SB τ)) : Prop :=
  ∃ nx v w' e', (execOp a.eval o).run P w = .ok nx w' ∧ (nx = .value v ∨ (nx = .skip ∧ v = undef)) ∧ Le e e' ∧ Models I e' H' Fr w' ∧ Den e' x v
theorem Gave.loud {o : Oper} {a : Act} {e : Env} {Fr : PH} {x : SV} {H H' : List (SB τ)} (h : Gave I P o a e Fr w x H H') : GaveL I P o a e Fr w x H' := by
  obtain ⟨nx, v, w', e', h1, h2, h3, h4, h5, _⟩ := h
  exact ⟨nx, v, w', e', h1, h2, h3, h4, h5⟩

/-! ### Cells of a screen, read off symbolic values -/
def intK (k : IntKind) (x : SV) : Option Int :=
  match x with
  | .v (.int j n) => match decide (j = k) with
    | true => some n
    | false => none
  | _ => none
theorem intK_ok {e : Env} {k : IntKind} {x : SV} {n : Int} {v : Value} (h : intK k x = some n) (hd : Den e x v) : v = .int k n := by
  unfold intK at h
  split at h
  · split at h
    · rename_i j m hk
      have hk := of_decide_eq_true hk
      subst hk
      simp only [Option.some.injEq] at h; subst h
      simpa [Den] using hd
    · cases h
  · cases h
def boolK (x : SV) : Option Bool :=
  match x with
  | .v (.bool b) => some b
  | _ => none
theorem boolK_ok {e : Env} {x : SV} {n : Bool} {v : Value} (h : boolK x = some n) (hd : Den e x v) : v = .bool n := by
  unfold boolK at h
  split at h
  · simp only [Option.some.injEq] at h; subst h; simpa [Den] using hd
  · cases h
def decRecs : List SV → Option (List C4)
  | [] => some []
  | [_] => none
  | [_, _] => none
  | [_, _, _] => none
  | a :: b :: c :: d :: r => match intK .i32 a, intK .i64 b, boolK c, intK .i64 d, decRecs r with
    | some g, some t, some q, some m, some l => some (⟨g, t, q, m⟩ :: l)
    | _, _, _, _, _ => none
theorem decRecs_ok {e : Env} : ∀ {l : List SV} {xs : List C4} {vs : List Value}, decRecs l = some xs → DenL e l vs → vs = cvals xs
  | [], xs, vs, h, hd => by
    simp only [decRecs, Option.some.injEq] at h; subst h
    simpa [DenL, cvals] using hd
  | [_], _, _, h, _ => by simp [decRecs] at h
  | [_, _], _, _, h, _ => by simp [decRecs] at h
  | [_, _, _], _, _, h, _ => by simp [decRecs] at h
  | a :: b :: c :: d :: r, xs, vs, h, hd => by
    simp only [decRecs] at h
    split at h
    · rename_i g t q m l h1 h2 h3 h4 h5
      simp only [Option.some.injEq] at h; subst h
      simp only [DenL] at hd
      obtain ⟨v1, r1, rfl, d1, v2, r2, rfl, d2, v3, r3, rfl, d3, v4, r4, rfl, d4, d5⟩ := hd
      rw [intK_ok h1 d1, intK_ok h2 d2, boolK_ok h3 d3, intK_ok h4 d4, decRecs_ok h5 d5]
      rfl
    · cases h
theorem decRecs_len : ∀ {l : List SV} {xs : List C4}, decRecs l = some xs → l.length = xs.length * 4
  | [], xs, h => by simp only [decRecs, Option.some.injEq] at h; subst h; rfl
  | [_], _, h => by simp [decRecs] at h
  | [_, _], _, h => by simp [decRecs] at h
  | [_, _, _], _, h => by simp [decRecs] at h
  | a :: b :: c :: d :: r, xs, h => by
    simp only [decRecs] at h
    split at h
    · rename_i g t q m l h1 h2 h3 h4 h5
      simp only [Option.some.injEq] at h; subst h
      have := decRecs_len h5
      simp only [List.length_cons]; omega
    · cases h
def dec4 (x : SV) : Option C4 :=
  match cellsV x with
  | some l => match decRecs l with
    | some xs => match xs with
      | [c] => some c
      | _ => none
    | none => none
  | none => none
theorem dec4_ok {e : Env} {x : SV} {c : C4} {v : Value} (h : dec4 x = some c) (hd : Den e x v) : v.cells.toList = c.vals := by
  unfold dec4 at h
  split at h
  · rename_i l hl
    split at h
    · rename_i xs hx
      split at h
      · simp only [Option.some.injEq] at h; subst h
        have := decRecs_ok hx (cellsV_ok hl hd)
        simpa [cvals] using this
      · cases h
    · cases h
  · cases h
/-- Is it the type of a screen's cell? -/
def recT (P : Program) (T : TypeId) : Bool :=
  match zeroT P T with
  | some z => (dec4 (.v z)).isSome
  | none => false
/-- Numbers, and cells of a screen, as such. -/
def asC (P : Program) (T : TypeId) (c : Cn) : Cn :=
  match c with
  | .sv l => match P.underlying T with
    | some (.int k) => match allInts k l with
      | true => .ints k (intsOf l)
      | false => .sv l
    | _ => match recT P T with
      | true => match decRecs l with
        | some xs => .recs xs
        | none => .sv l
      | false => .sv l
  | c => c
theorem allInts_den {e : Env} {k : IntKind} {l : List SV} {vs : List Value} (h : allInts k l = true) (hd : DenL e l vs) : vs = (intsOf l).map (Value.int k) := by
  rw [allInts_ok h] at hd
  exact ints_den hd
theorem asC_ok {e : Env} {T : TypeId} {c : Cn} {vs : List Value} (h : c.den e vs) : (asC P T c).den e vs := by
  unfold asC
  split
  · split
    · split
      · rename_i ha; exact allInts_den ha h
      · exact h
    · split
      · split
        · rename_i hx; exact decRecs_ok hx h
        · exact h
      · exact h
  · exact h
def addC (c d : Cn) : Option Cn :=
  match c with
  | .sv l => match d with
    | .sv l' => some (.sv (l ++ l'))
    | _ => none
  | .ints k xs => match d with
    | .ints k' ys => match decide (k = k') with
      | true => some (.ints k (xs ++ ys))
      | false => none
    | _ => none
  | .recs xs => match d with
    | .recs ys => some (.recs (xs ++ ys))
    | _ => none
theorem addC_ok {e : Env} {c d f : Cn} {vs us : List Value} (h : addC c d = some f) (hc : c.den e vs) (hd : d.den e us) : f.den e (vs ++ us) := by
  cases c with
  | sv l =>
    cases d with
    | sv l' => simp only [addC, Option.some.injEq] at h; subst h; exact DenL.append hc hd
    | _ => simp [addC] at h
  | ints k xs =>
    cases d with
    | ints k' ys =>
      simp only [addC] at h
      split at h
      · rename_i ha
        have ha := of_decide_eq_true ha
        subst ha
        simp only [Option.some.injEq] at h; subst h
        simp only [Cn.den] at hc hd ⊢
        rw [hc, hd]; simp
      · cases h
    | _ => simp [addC] at h
  | recs xs =>
    cases d with
    | recs ys =>
      simp only [addC, Option.some.injEq] at h; subst h
      simp only [Cn.den] at hc hd ⊢
      rw [hc, hd, cvals_append]
    | _ => simp [addC] at h

/-! ### One element is written -/
def writeR (P : Program) (T : TypeId) (cn : Cn) (sz i o : Nat) (x : SV) : Option (Bool × Cn) :=
  match cn with
  | .ints k xs => match intK k x, szT P T, Nat.beq sz 1, o with
    | some m, some 1, true, 0 => some (Nat.blt i xs.length, .ints k (xs.set i m))
    | _, _, _, _ => none
  | .recs xs => match dec4 x, szT P T, Nat.beq sz 4, o with
    | some c, some 4, true, 0 => some (Nat.blt i xs.length, .recs (xs.set i c))
    | _, _, _, _ => none
  | .sv l => match cellsV x, szT P T with
    | some c, some k => match c.length == k && Nat.ble (i * sz + o + k) l.length && Nat.blt 0 k && c.all oneS with
      | true => some (true, .sv (setAll l (i * sz + o) c))
      | false => none
    | _, _ => none
theorem cvals_set : ∀ (l : List C4) (i : Nat) (c : C4), i < l.length → cvals (l.set i c) = (cvals l).take (i * 4) ++ c.vals ++ (cvals l).drop (i * 4 + 4)
  | [], _, _, h => by simp at h
  | a :: l, 0, c, _ => by
    simp only [List.set_cons_zero, cvals, List.flatMap_cons]
    rw [show 0 * 4 + 4 = a.vals.length by simp [C4.vals]]
    simp
  | a :: l, i + 1, c, h => by
    simp only [List.length_cons] at h
    have ih := cvals_set l i c (by omega)
    simp only [List.set_cons_succ, cvals, List.flatMap_cons] at ih ⊢
    rw [ih]
    have hl : a.vals.length = 4 := rfl
    have e1 : (a.vals ++ List.flatMap C4.vals l).take ((i + 1) * 4) = a.vals ++ (List.flatMap C4.vals l).take (i * 4) := by
      rw [List.take_append, List.take_of_length_le (by omega)]
      congr 2
      omega
    have e2 : (a.vals ++ List.flatMap C4.vals l).drop ((i + 1) * 4 + 4) = (List.flatMap C4.vals l).drop (i * 4 + 4) := by
      rw [List.drop_append, List.drop_of_length_le (by omega), List.nil_append]
      congr 1
      omega
    rw [e1, e2]
    simp
/-- The cells that are written, and what the row is then. -/
theorem writeR_ok {e : Env} {T : TypeId} {cn cn' : Cn} {sz i o : Nat} {x : SV} {c : Bool} {v : Value} {vs : List Value} (h : writeR P T cn sz i o x = some (c, cn')) (hc : c = true) (hd : cn.den e vs) (hx : Den e x v) :
    szT P T = some v.cells.toList.length ∧ (∀ u ∈ v.cells.toList, u.oneCell' = true) ∧ 0 < v.cells.toList.length ∧ i * sz + o + v.cells.toList.length ≤ vs.length ∧
      cn'.den e (vs.take (i * sz + o) ++ v.cells.toList ++ vs.drop (i * sz + o + v.cells.toList.length)) := by
  unfold writeR at h
  split at h
  · rename_i k xs
    split at h
    · rename_i m hm hs hsz
      rw [Nat.beq_eq] at hsz
      subst hsz
      simp only [Option.some.injEq, Prod.mk.injEq] at h
      obtain ⟨h1, rfl⟩ := h
      rw [hc, Nat.blt_eq] at h1
      have hv := intK_ok hm hx
      subst hv
      simp only [Cn.den] at hd ⊢
      subst hd
      have e1 : (Value.int k m).cells.toList = [Value.int k m] := rfl
      rw [e1]
      refine ⟨hs, by simp [Value.oneCell'], by simp, by simp; omega, ?_⟩
      simp only [Nat.mul_one, Nat.add_zero, List.length_singleton]
      rw [← set_map, List.set_eq_take_append_cons_drop, if_pos (by simpa using h1)]
      simp
    · cases h
  · rename_i xs
    split at h
    · rename_i cc hm hs hsz
      rw [Nat.beq_eq] at hsz
      subst hsz
      simp only [Option.some.injEq, Prod.mk.injEq] at h
      obtain ⟨h1, rfl⟩ := h
      rw [hc, Nat.blt_eq] at h1
      have hv := dec4_ok hm hx
      rw [hv]
      simp only [Cn.den] at hd ⊢
      subst hd
      refine ⟨hs, fun u hu => cvals_one (l := [cc]) (by simpa [cvals] using hu), by simp [C4.vals], ?_, ?_⟩
      · rw [cvals_length]; simp [C4.vals]; omega
      · rw [cvals_set xs i cc h1]; rfl
    · cases h
  · rename_i l
    split at h
    · rename_i cc k hcc hs
      split at h
      · rename_i hcond
        simp only [Bool.and_eq_true, beq_iff_eq, Nat.ble_eq, Nat.blt_eq] at hcond
        obtain ⟨⟨⟨h1, h2⟩, h3⟩, h4⟩ := hcond
        simp only [Option.some.injEq, Prod.mk.injEq] at h
        obtain ⟨_, rfl⟩ := h
        have hcd := cellsV_ok hcc hx
        have hl := hcd.length
        have hd : DenL e l vs := hd
        have hl2 := hd.length
        refine ⟨by rw [hs, ← h1, hl], all_one h4 hcd, by omega, by omega, ?_⟩
        have := setAll_den (o := i * sz + o) hcd hd
        rw [setAll_eq _ vs _ (by omega)] at this
        exact this
      · cases h
    · cases h
/-- A store into a row. -/
theorem store_ok {T T' : TypeId} {g n cap sz off : Nat} {v : Value} {vs : List Value} {h : PH} (hr : RowOk (.slice (some ⟨g, 0, none⟩) n cap) n sz T' vs h) (hsub : Sub h w) (hs : szT P T = some v.cells.toList.length)
    (h1 : ∀ u ∈ v.cells.toList, u.oneCell' = true) (hfit : off + v.cells.toList.length ≤ vs.length) :
    ∃ w' h', (storeVar T ⟨g, off, none⟩ v).run P w = .ok () w' ∧ RowOk (.slice (some ⟨g, 0, none⟩) n cap) n sz T' (vs.take off ++ v.cells.toList ++ vs.drop (off + v.cells.toList.length)) h' ∧ Turned w w' h h' := by
  obtain ⟨rest, hg, h', k1, k2⟩ := write_ok (vs' := vs.take off ++ v.cells.toList ++ vs.drop (off + v.cells.toList.length)) hr hsub (by simp at hfit ⊢; omega)
  refine ⟨_, h', ?_, k1, k2⟩
  have hst := run_storeCells_at (P := P) g off T' v.cells.toList 0 (vs ++ rest).toArray w hg (by simp at hfit ⊢; omega) h1
  have hs2 : ¬ (v.cells.size ≠ v.cells.toList.length) := by simp
  simp only [storeVar, Sem.run_bind, run_szT hs, Result.andThen_ok, hs2, if_false]
  rw [hst]
  simp only [Nat.add_zero, List.toList_toArray]
  congr 3
  rw [List.take_append_of_le_length (by omega), List.drop_append_of_le_length (by omega)]
  simp

/-! ### A part of a row is written over -/
def putN (cn src : Cn) (sz lo m : Nat) : Option Cn :=
  match cn with
  | .ints k xs => match src with
    | .ints k' ys => match decide (k = k') with
      | true => some (.ints k (xs.take lo ++ (ys.take m ++ xs.drop (lo + m))))
      | false => none
    | _ => none
  | .recs xs => match src with
    | .recs ys => some (.recs (xs.take lo ++ (ys.take m ++ xs.drop (lo + m))))
    | _ => none
  | .sv l => match src with
    | .sv l' => some (.sv (l.take (lo * sz) ++ (l'.take (m * sz) ++ l.drop ((lo + m) * sz))))
    | _ => none
theorem putN_ok {e : Env} {cn src f : Cn} {sz lo m : Nat} {vs us : List Value} (h : putN cn src sz lo m = some f) (hz : szN cn sz = true) (hd : cn.den e vs) (hs : src.den e us) :
    f.den e (vs.take (lo * sz) ++ (us.take (m * sz) ++ vs.drop ((lo + m) * sz))) := by
  cases cn with
  | ints k xs =>
    cases src with
    | ints k' ys =>
      simp only [putN] at h
      split at h
      · rename_i ha
        have ha := of_decide_eq_true ha
        subst ha
        simp only [szN, Nat.beq_eq] at hz
        subst hz
        simp only [Option.some.injEq] at h; subst h
        simp only [Cn.den] at hd hs ⊢
        subst hd; subst hs
        simp
      · cases h
    | _ => simp [putN] at h
  | recs xs =>
    cases src with
    | recs ys =>
      simp only [putN, Option.some.injEq] at h; subst h
      simp only [szN, Nat.beq_eq] at hz
      subst hz
      simp only [Cn.den] at hd hs ⊢
      subst hd; subst hs
      rw [cvals_take, cvals_take, cvals_drop, cvals_append, cvals_append]
    | _ => simp [putN] at h
  | sv l =>
    cases src with
    | sv l' =>
      simp only [putN, Option.some.injEq] at h; subst h
      exact (DenL.take _ hd).append ((DenL.take _ hs).append (DenL.drop _ hd))
    | _ => simp [putN] at h
/-- A copy into a row. -/
theorem copy_ok {D D' ty el : TypeId} {g n cap sz lo len m : Nat} {bo : Nat} {dst u : Value} {vs us : List Value} {h : PH} (hu : P.underlying D = some (.slice el)) (hsz : szT P el = some sz)
    (hr : RowOk (.slice (some ⟨g, 0, none⟩) n cap) n sz el vs h) (hsub : Sub h w) {dc : Nat} (hdst : dst = .slice (some ⟨g, bo, none⟩) len dc) (hbo : 0 < len → bo = lo * sz) (hfit : lo + len ≤ n) (hs : SrcIn w u m sz us) :
    ∃ w' h', (Builtin.copy_ #[D, D'] ty #[dst, u]).run P w = .ok (goInt (Nat.min m len)) w' ∧
      RowOk (.slice (some ⟨g, 0, none⟩) n cap) n sz el (vs.take (lo * sz) ++ (us.take (Nat.min m len * sz) ++ vs.drop ((lo + Nat.min m len) * sz))) h' ∧ Turned w w' h h' := by
  subst hdst
  obtain ⟨hul, hone, hsrc⟩ := hs
  generalize hmin : Nat.min m len = mn
  have hmn1 : mn ≤ m := by rw [← hmin]; exact Nat.min_le_left _ _
  have hmn2 : mn ≤ len := by rw [← hmin]; exact Nat.min_le_right _ _
  have hvl := hr.1
  have hmul1 : mn * sz ≤ m * sz := Nat.mul_le_mul_right _ hmn1
  have hmul2 : (lo + mn) * sz ≤ n * sz := Nat.mul_le_mul_right _ (by omega)
  rw [Nat.add_mul] at hmul2
  have hseg : (us.take (mn * sz)).length = mn * sz := by simp; omega
  -- what is loaded
  have hload : (Builtin.lenOf u).run P w = .ok m w ∧ (Builtin.firstCells sz mn u).run P w = .ok (us.take (mn * sz)).toArray w := by
    rcases hsrc with ⟨rfl, rfl⟩ | ⟨a, c0, rfl, hc⟩
    · have : mn = 0 := by omega
      subst this
      simp [Builtin.lenOf, Builtin.firstCells]
    · have hl := run_loadCells_list (P := P) w a (us.take (mn * sz)) (fun j v hj => hc j v (by
        have hj2 := (List.getElem?_eq_some_iff.1 hj).1
        rw [hseg] at hj2
        rw [List.getElem?_take_of_lt hj2] at hj; exact hj))
      rw [hseg] at hl
      exact ⟨by simp [Builtin.lenOf], by simp only [Builtin.firstCells, hl]⟩
  have hrun : ∀ w', (storeCells ⟨g, bo, none⟩ (us.take (mn * sz))).run P w = .ok () w' → (Builtin.copy_ #[D, D'] ty #[.slice (some ⟨g, bo, none⟩) len dc, u]).run P w = .ok (goInt mn) w' := fun w' hst => by
    unfold Builtin.copy_
    simp only [List.getElem?_toArray, List.getElem?_cons_zero, List.getElem?_cons_succ, Sem.run_bind, run_und hu, Result.andThen_ok, hload.1, Sem.run_pure, run_szT hsz, hmin, hload.2, hst]
  by_cases h0 : mn = 0
  · subst h0
    have e1 : vs.take (lo * sz) ++ (us.take (0 * sz) ++ vs.drop ((lo + 0) * sz)) = vs := by simp
    rw [e1]
    exact ⟨w, h, hrun w (by simp [storeCells]), hr, Turned.refl hsub⟩
  · have hb := hbo (by omega)
    subst hb
    have e1 : vs.take (lo * sz) ++ (us.take (mn * sz) ++ vs.drop ((lo + mn) * sz)) = vs.take (lo * sz) ++ us.take (mn * sz) ++ vs.drop (lo * sz + (us.take (mn * sz)).length) := by
      rw [hseg, Nat.add_mul]; simp
    rw [e1]
    obtain ⟨rest, hg, h', k1, k2⟩ := write_ok (vs' := vs.take (lo * sz) ++ us.take (mn * sz) ++ vs.drop (lo * sz + (us.take (mn * sz)).length)) hr hsub (by rw [hseg]; simp; omega)
    refine ⟨_, h', hrun _ ?_, k1, k2⟩
    have hst := run_storeCells_at (P := P) g (lo * sz) el (us.take (mn * sz)) 0 (vs ++ rest).toArray w hg (by rw [hseg]; simp; omega) (fun v hv => hone v (List.mem_of_mem_take hv))
    rw [hst]
    simp only [Nat.add_zero, List.toList_toArray]
    congr 3
    rw [List.take_append_of_le_length (by omega), List.drop_append_of_le_length (by rw [hseg]; omega)]
    simp

end Go.Sym
