/- Layer 1: parts that are filled, other sizes, and what a call leaves, as plain laws. -/
import Derived.Test.YtpdhnmnjccnbmaaGrJ
set_option linter.unusedSimpArgs false
set_option linter.unusedVariables false
set_option linter.unusedSectionVars false
namespace Go.Proofs.Ytpdhnmnjccnbmaa
open Go Go.Sym

theorem lex_le {C r c r' c' : Nat} (hc : c < C) (hc' : c' < C) : r * C + c ≤ r' * C + c' ↔ r < r' ∨ r = r' ∧ c ≤ c' := by
  rcases Nat.lt_trichotomy r r' with h | h | h
  · have : (r + 1) * C ≤ r' * C := Nat.mul_le_mul_right _ h
    rw [Nat.add_mul, Nat.one_mul] at this
    omega
  · subst h; omega
  · have : (r' + 1) * C ≤ r * C := Nat.mul_le_mul_right _ h
    rw [Nat.add_mul, Nat.one_mul] at this
    omega
/-! ### Fill -/
def inF (ar ac br bc : Int) (r c : Nat) : Prop := (ar < r ∨ (ar = r ∧ ac ≤ c)) ∧ ((r : Int) < br ∨ ((r : Int) = br ∧ c ≤ bc))
instance (ar ac br bc : Int) (r c : Nat) : Decidable (inF ar ac br bc r c) := by unfold inF; infer_instance
def fillF (f : Nat → Nat → Int) (ar ac br bc x : Int) (r c : Nat) : Int := if inF ar ac br bc r c then x else f r c
def filA (l : List (List Int)) (ar ac br bc x : Int) (k : Nat) : List (List Int) := gridF l.length (nC l) fun r c => if r < k then fillF (fn l) ar ac br bc x r c else fn l r c
def fillG (l : List (List Int)) (ar ac br bc x : Int) : List (List Int) := gridF l.length (nC l) (fillF (fn l) ar ac br bc x)
section
variable {l : List (List Int)} {ar ac br bc x : Int} {k : Nat}
theorem filA_zero (hg : GW l) (h : (k : Int) ≤ ar) : filA l ar ac br bc x k = l := by
  refine Eq.trans (gridF_congr fun r c _ _ => ?_) (fn_self hg)
  split
  · rw [fillF, if_neg (by unfold inF; omega)]
  · rfl
theorem filA_all (h : br < k) : filA l ar ac br bc x k = fillG l ar ac br bc x := by
  refine gridF_congr fun r c _ _ => ?_
  split
  · rfl
  · rw [fillF, if_neg (by unfold inF; omega)]
theorem filA_length : (filA l ar ac br bc x k).length = l.length := gridF_length _ _ _
theorem filA_row (hg : GW l) (hk : k < l.length) : (filA l ar ac br bc x k).getD k [] = l.getD k [] := by
  unfold filA
  rw [gridF_row hk, row_eq hg hk]
  refine List.map_congr_left fun c _ => ?_
  rw [if_neg (by omega)]
theorem filA_step (hg : GW l) (hk : k < l.length) (h0 : ar ≤ k) (h1 : (k : Int) ≤ br) {a n : Nat} (ha : (a : Int) = if (k : Int) = ar then ac else 0) (hn : ((a + n : Nat) : Int) = if (k : Int) = br then bc + 1 else nC l) (hb : a + n ≤ nC l) :
    (filA l ar ac br bc x k).set k (fillR (l.getD k []) a n x) = filA l ar ac br bc x (k + 1) := by
  refine grid_ext (by rw [List.length_set, filA_length]) fun i hi => ?_
  by_cases hik : k = i
  · subst hik
    rw [List.getD, List.getElem?_set_self (by rw [filA_length]; exact hk), Option.getD_some]
    have hrow := hg.row hk
    apply List.ext_getElem?
    intro j
    rw [fillR_get (by omega), row_eq hg hk, List.getElem?_map, List.getElem?_map]
    by_cases hj : j < nC l
    · rw [List.getElem?_range hj, Option.map_some, Option.map_some]
      simp only [Nat.lt_succ_self k, if_true]
      unfold fillF
      by_cases hc : a ≤ j ∧ j < a + n
      · rw [if_pos hc, if_pos]
        unfold inF
        split at ha <;> split at hn <;> omega
      · rw [if_neg hc, if_neg]
        unfold inF
        split at ha <;> split at hn <;> omega
    · rw [List.getElem?_eq_none (by simp; omega), if_neg (by omega)]; rfl
  · have e : ((filA l ar ac br bc x k).set k (fillR (l.getD k []) a n x)).getD i [] = (filA l ar ac br bc x k).getD i [] := by
      rw [List.getD, List.getElem?_set_ne hik]; rfl
    rw [e]
    unfold filA
    rw [gridF_row hi]
    refine List.map_congr_left fun c _ => ?_
    by_cases h : i < k
    · rw [if_pos h, if_pos (by omega)]
    · rw [if_neg h, if_neg (by omega)]
theorem fillG_gw (hg : GW l) : GW (fillG l ar ac br bc x) ∧ (fillG l ar ac br bc x).length = l.length ∧ nC (fillG l ar ac br bc x) = nC l :=
  ⟨gridF_gw hg.r0 hg.r1 hg.c0 hg.c1, gridF_length _ _ _, gridF_nC (by have := hg.r0; omega)⟩
theorem fillG_fl (hg : GW l) (h1 : inB l ar ac = true) (h2 : inB l br bc = true) (h3 : ar * nC l + ac ≤ br * nC l + bc) :
    flL (fillG l ar ac br bc x) = fillR (flL l) (ar * nC l + ac).toNat ((br * nC l + bc).toNat + 1 - (ar * nC l + ac).toNat) x := by
  have h0 := hg.r0
  rw [inB_iff] at h1 h2
  obtain ⟨i, rfl⟩ : ∃ i : Nat, ar = i := ⟨ar.toNat, by omega⟩
  obtain ⟨k, rfl⟩ : ∃ k : Nat, ac = k := ⟨ac.toNat, by omega⟩
  obtain ⟨i', rfl⟩ : ∃ i : Nat, br = i := ⟨br.toNat, by omega⟩
  obtain ⟨k', rfl⟩ : ∃ k : Nat, bc = k := ⟨bc.toNat, by omega⟩
  have e1 : ((i : Int) * (nC l : Int) + (k : Int)).toNat = i * nC l + k := by rw [← Int.natCast_mul]; omega
  have e2 : ((i' : Int) * (nC l : Int) + (k' : Int)).toNat = i' * nC l + k' := by rw [← Int.natCast_mul]; omega
  have l2 : i' * nC l + k' < l.length * nC l := ix_lt (by omega) (by omega)
  have hle : i * nC l + k ≤ i' * nC l + k' := by
    rw [← Int.natCast_mul, ← Int.natCast_mul] at h3; omega
  rw [e1, e2]
  unfold fillG
  rw [flL_gridF (by omega)]
  apply List.ext_getElem?
  intro j
  rw [fillR_get (by rw [flL_length]; omega)]
  by_cases hj : j < l.length * nC l
  · obtain ⟨j1, j2, j3⟩ := ix_of hj
    have a1 := flF_get? (f := fillF (fn l) i k i' k' x) j1 j2
    have a2 : (flL l)[j / nC l * nC l + j % nC l]? = some (fn l (j / nC l) (j % nC l)) := flF_get? j1 j2
    rw [j3] at a1 a2
    rw [a1, a2]
    have b1 := lex_le (C := nC l) (r := i) (c := k) (r' := j / nC l) (c' := j % nC l) (by omega) j2
    have b2 := lex_le (C := nC l) (r := j / nC l) (c := j % nC l) (r' := i') (c' := k') j2 (by omega)
    rw [j3] at b1 b2
    unfold fillF
    by_cases hc : i * nC l + k ≤ j ∧ j < i * nC l + k + (i' * nC l + k' + 1 - (i * nC l + k))
    · rw [if_pos hc, if_pos]
      have c1 := b1.1 hc.1
      have c2 := b2.1 (by omega)
      unfold inF; omega
    · rw [if_neg hc, if_neg]
      intro hin
      unfold inF at hin
      exact hc ⟨b1.2 (by omega), by have := b2.2 (by omega); omega⟩
  · rw [List.getElem?_eq_none (by rw [flF_length]; omega), if_neg (by omega), List.getElem?_eq_none (by rw [flL_length]; omega)]
end
/-! ### Resize -/
def resF (l : List (List Int)) (x : Int) (r c : Nat) : Int := if r < l.length ∧ c < nC l then fn l r c else x
section
variable {l : List (List Int)} {a b : Nat} {x : Int}
theorem resL_eq (hg : GW l) : resL l a b x l.length = gridF a b (resF l x) := by
  refine grid_ext (resL_length _ _ _ _ _) fun i hi => ?_
  rw [resL_get hi]
  by_cases hl : i < l.length
  · rw [if_pos ⟨hl, hl⟩, row_eq hg hl]
    apply List.ext_getElem?
    intro j
    rw [List.getElem?_map]
    by_cases hj : j < b
    · rw [List.getElem?_range hj, Option.map_some]
      unfold resF
      by_cases hjc : j < nC l
      · rw [List.getElem?_append_left (by simp; omega), List.getElem?_take_of_lt hj, List.getElem?_map, List.getElem?_range hjc, if_pos ⟨hl, hjc⟩]; rfl
      · rw [List.getElem?_append_right (by simp; omega), List.getElem?_replicate, if_pos (by simp; omega), if_neg (by omega)]
    · rw [List.getElem?_eq_none (by simp; omega), List.getElem?_eq_none (by simp; omega)]; rfl
  · rw [if_neg (by omega)]
    apply List.ext_getElem
    · simp
    · intro j h1 h2
      simp only [List.getElem_replicate, List.getElem_map, List.getElem_range, resF]
      rw [if_neg (by omega)]
theorem resL_gw (hg : GW l) (h : mayB a b = true) : GW (resL l a b x l.length) ∧ (resL l a b x l.length).length = a ∧ nC (resL l a b x l.length) = b := by
  rw [mayB_iff] at h
  rw [resL_eq hg]
  exact ⟨gridF_gw (by omega) (by omega) (by omega) (by omega), gridF_length _ _ _, gridF_nC (by omega)⟩
theorem resL_fl (hg : GW l) (h : mayB a b = true) : flL (resL l a b x l.length) = flF a b (resF l x) := by
  rw [mayB_iff] at h
  rw [resL_eq hg, flL_gridF (by omega)]
end
theorem set2_gw {l : List (List Int)} (hg : GW l) {r c x : Int} (h : inB l r c = true) : GW (set2 l r c x) ∧ (set2 l r c x).length = l.length ∧ nC (set2 l r c x) = nC l := by
  rw [inB_iff] at h
  have h0 := hg.r0
  rw [set2_eq hg h.1 h.2.1 h.2.2.1 h.2.2.2]
  exact ⟨gridF_gw hg.r0 hg.r1 hg.c0 hg.c1, gridF_length _ _ _, gridF_nC (by omega)⟩
theorem set2_fl {l : List (List Int)} (hg : GW l) {r c x : Int} (h : inB l r c = true) : flL (set2 l r c x) = (flL l).set (r * nC l + c).toNat x := by
  rw [inB_iff] at h
  obtain ⟨i, rfl⟩ : ∃ i : Nat, r = i := ⟨r.toNat, by omega⟩
  obtain ⟨k, rfl⟩ : ∃ k : Nat, c = k := ⟨c.toNat, by omega⟩
  have h0 := hg.r0
  rw [set2_eq hg h.1 h.2.1 h.2.2.1 h.2.2.2, flL_gridF (by omega), show ((i : Int) * (nC l : Int) + (k : Int)).toNat = i * nC l + k by rw [← Int.natCast_mul]; omega]
  have e : flL l = flF l.length (nC l) (fn l) := rfl
  rw [e, flF_set (by omega) (by omega)]
  exact flF_congr fun r' c' _ _ => by
    unfold setF
    by_cases h1 : r' = i ∧ c' = k
    · rw [if_pos h1, if_pos (by omega)]
    · rw [if_neg h1, if_neg (by omega)]

end Go.Proofs.Ytpdhnmnjccnbmaa
