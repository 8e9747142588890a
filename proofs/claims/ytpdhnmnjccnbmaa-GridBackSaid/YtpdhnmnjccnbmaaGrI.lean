/- Layer 1: grids as functions of a row and a column, and lists of numbers, row by row. -/
import Derived.Test.YtpdhnmnjccnbmaaGrH
set_option linter.unusedSimpArgs false
set_option linter.unusedVariables false
set_option linter.unusedSectionVars false
namespace Go.Sym
open Go
/-- The rows of an item. -/
def rwC (R : Rws) : List (List Int) := match R with
  | .i _ l => l
  | _ => []
def itRows (b : SB Unit) : List (List Int) := match b with
  | .rows R _ _ _ _ _ => rwC R
  | _ => []
def xR (H : List (SB Unit)) (b : Nat) : List (List Int) := match H[b]? with
  | some it => itRows it
  | none => []
/-- An item's epoch. -/
def itEp (b : SB Unit) : Nat := match b with
  | .rows _ _ _ _ e _ => e
  | .own _ _ _ _ e _ => e
  | _ => 0
def xE (H : List (SB Unit)) (b : Nat) : Nat := match H[b]? with
  | some it => itEp it
  | none => 0
/-- The item that a pointer is to. -/
def ptB (x : SV) : Nat := match x with
  | .p b _ => b
  | _ => 0
end Go.Sym
namespace Go.Proofs.Ytpdhnmnjccnbmaa
open Go Go.Sym

def gridF {α : Type} (R C : Nat) (f : Nat → Nat → α) : List (List α) := (List.range R).map fun r => (List.range C).map (f r)
theorem gridF_length {α : Type} (R C : Nat) (f : Nat → Nat → α) : (gridF R C f).length = R := by simp [gridF]
theorem gridF_row {α : Type} {R C : Nat} {f : Nat → Nat → α} {r : Nat} (h : r < R) : (gridF R C f).getD r [] = (List.range C).map (f r) := by simp [gridF, List.getD, h]
theorem gridF_nC {R C : Nat} {f : Nat → Nat → Int} (h : 0 < R) : nC (gridF R C f) = C := by unfold nC; rw [gridF_row h]; simp
theorem gridF_gw {R C : Nat} {f : Nat → Nat → Int} (h0 : 1 ≤ R) (h1 : R ≤ 255) (h2 : 1 ≤ C) (h3 : C ≤ 255) : GW (gridF R C f) := by
  have hn := gridF_nC (C := C) (f := f) (show 0 < R by omega)
  refine ⟨by rw [gridF_length]; exact h0, by rw [gridF_length]; exact h1, by rw [hn]; exact h2, by rw [hn]; exact h3, fun r hr => ?_⟩
  rw [hn]
  simp only [gridF, List.mem_map] at hr
  obtain ⟨i, _, rfl⟩ := hr
  simp
theorem gridF_congr {α : Type} {R C : Nat} {f g : Nat → Nat → α} (h : ∀ r c, r < R → c < C → f r c = g r c) : gridF R C f = gridF R C g := by
  unfold gridF
  refine List.map_congr_left fun r hr => List.map_congr_left fun c hc => h r c (List.mem_range.1 hr) (List.mem_range.1 hc)
theorem gridF_at {R C : Nat} {f : Nat → Nat → Int} {r c : Nat} (hr : r < R) (hc : c < C) : at2 (gridF R C f) r c = f r c := by
  unfold at2
  rw [Int.toNat_natCast, Int.toNat_natCast, gridF_row hr]
  simp [List.getD, hc]
theorem gridF_set {R C : Nat} {f : Nat → Nat → Int} {r c : Nat} {x : Int} (hr : r < R) (hc : c < C) : set2 (gridF R C f) r c x = gridF R C fun r' c' => if r' = r ∧ c' = c then x else f r' c' := by
  unfold set2
  rw [Int.toNat_natCast, Int.toNat_natCast, gridF_row hr]
  unfold gridF
  apply List.ext_getElem
  · simp
  · intro i h1 h2
    have hi : i < R := by simpa using h2
    by_cases hir : r = i
    · subst hir
      rw [List.getElem_set_self]
      simp only [List.getElem_map, List.getElem_range]
      apply List.ext_getElem
      · simp
      · intro j h3 h4
        have hj : j < C := by simpa using h4
        by_cases hjc : c = j
        · subst hjc; rw [List.getElem_set_self]; simp
        · rw [List.getElem_set_ne hjc]; simp [show ¬ j = c from fun e => hjc e.symm]
    · rw [List.getElem_set_ne hir]
      simp only [List.getElem_map, List.getElem_range]
      refine List.map_congr_left fun c' _ => ?_
      rw [if_neg fun e => hir e.1.symm]
theorem newL_gridF (R C : Nat) (x : Int) : newL R C x = gridF R C fun _ _ => x := by
  unfold newL gridF
  apply List.ext_getElem
  · simp
  · intro i h1 h2
    simp only [List.getElem_replicate, List.getElem_map]
    apply List.ext_getElem <;> simp

theorem gridF_self {l : List (List Int)} (h : GW l) : gridF l.length (nC l) (fun r c => at2 l r c) = l := by
  unfold gridF
  apply List.ext_getElem
  · simp
  · intro i h1 h2
    have hi : i < l.length := h2
    have hrow := h.row hi
    have e : l.getD i [] = l[i] := by rw [List.getD, List.getElem?_eq_getElem hi]; rfl
    simp only [List.getElem_map, List.getElem_range]
    apply List.ext_getElem
    · simp; rw [e] at hrow; exact hrow.symm
    · intro j h3 h4
      simp only [List.getElem_map, List.getElem_range, at2, Int.toNat_natCast]
      rw [e, List.getD, List.getElem?_eq_getElem h4]; rfl

def fn (l : List (List Int)) (r c : Nat) : Int := at2 l r c
theorem row_eq {l : List (List Int)} (h : GW l) {j : Nat} (hj : j < l.length) : l.getD j [] = (List.range (nC l)).map fun c => fn l j c := by
  have hr := h.row hj
  apply List.ext_getElem
  · simpa using hr
  · intro i h1 h2
    simp only [List.getElem_map, List.getElem_range, fn, at2, Int.toNat_natCast]
    have e : ∀ (q : List Int) (h : i < q.length), q[i] = q.getD i 0 := fun q h => by rw [List.getD, List.getElem?_eq_getElem h]; rfl
    exact e _ h1
theorem grid_ext {l : List (List Int)} {R C : Nat} {f : Nat → Nat → Int} (h1 : l.length = R) (h2 : ∀ i, i < R → l.getD i [] = (List.range C).map (f i)) : l = gridF R C f := by
  apply List.ext_getElem
  · rw [gridF_length, h1]
  · intro i h3 h4
    have := h2 i (by omega)
    rw [List.getD, List.getElem?_eq_getElem h3] at this
    simp only [gridF, List.getElem_map, List.getElem_range]
    exact this
theorem fn_gridF {R C : Nat} {f : Nat → Nat → Int} {r c : Nat} (hr : r < R) (hc : c < C) : fn (gridF R C f) r c = f r c := gridF_at hr hc
theorem fn_self {l : List (List Int)} (h : GW l) : gridF l.length (nC l) (fn l) = l := gridF_self h
theorem grid_eq {l m : List (List Int)} (h : GW l) (h' : GW m) (h1 : l.length = m.length) (h2 : nC l = nC m) (h3 : ∀ r c, r < l.length → c < nC l → fn l r c = fn m r c) : l = m := by
  rw [← fn_self h, ← fn_self h', ← h1, ← h2]
  exact gridF_congr h3

/-! ### Rows move -/
def rollF (f : Nat → Nat → Int) (t b n : Int) (x : Int) (r c : Nat) : Int := if t ≤ r ∧ r ≤ b then (if n ≤ b - r ∧ n ≥ t - r then f (r + n).toNat c else x) else f r c
theorem rollL_eq {l : List (List Int)} (hg : GW l) {t b n : Int} {x : Int} (ht : 0 ≤ t) (htb : t ≤ b) (hb : b < l.length) : rollL l t.toNat b.toNat n x = gridF l.length (nC l) (rollF (fn l) t b n x) := by
  refine grid_ext (mrg_length _ _ _ _) fun i hi => ?_
  have e : (rollL l t.toNat b.toNat n x).getD i [] = mrgAt l [] t.toNat (limL t.toNat (b.toNat + 1 - t.toNat) n (List.replicate (nC l) x)) i := by
    unfold rollL mrg
    rw [List.getD, List.getElem?_map, List.getElem?_range hi]; rfl
  rw [e]
  unfold mrgAt
  cases hc : Nat.blt i t.toNat with
  | true =>
    rw [Nat.blt_eq] at hc
    simp only
    rw [row_eq hg hi]
    refine List.map_congr_left fun c _ => ?_
    rw [rollF, if_neg (by omega)]
  | false =>
    have hc : ¬ i < t.toNat := by rw [← Nat.blt_eq, hc]; simp
    simp only
    by_cases hl : i - t.toNat < b.toNat + 1 - t.toNat
    · rw [limL_get hl]
      simp only
      unfold limAt1
      by_cases hq : n > ((b.toNat + 1 - t.toNat : Nat) : Int) - 1 - (i - t.toNat : Nat) ∨ n < -((i - t.toNat : Nat) : Int)
      · rw [if_pos hq]
        simp only
        apply List.ext_getElem
        · simp
        · intro c h1 h2
          simp only [List.getElem_replicate, List.getElem_map, List.getElem_range]
          rw [rollF, if_pos (by omega), if_neg (by omega)]
      · rw [if_neg hq]
        simp only
        rw [row_eq hg (by omega)]
        refine List.map_congr_left fun c _ => ?_
        rw [rollF, if_pos (by omega), if_pos (by omega)]
        congr 1; omega
    · rw [List.getElem?_eq_none (by rw [limL_length]; omega)]
      simp only
      rw [row_eq hg hi]
      refine List.map_congr_left fun c _ => ?_
      rw [rollF, if_neg (by omega)]

/-! ### A row slides -/
def slideF (f : Nat → Nat → Int) (w a b n : Int) (x : Int) (r c : Nat) : Int := if r = w ∧ a ≤ c ∧ c ≤ b then (if n ≤ b - c ∧ n ≥ a - c then f r (c + n).toNat else x) else f r c
theorem slide2_eq {l : List (List Int)} (hg : GW l) {w a b n : Int} {x : Int} (hw : 0 ≤ w) (hw2 : w < l.length) (ha : 0 ≤ a) (hab : a ≤ b) (hb : b < nC l) : slide2 l w a b n x = gridF l.length (nC l) (slideF (fn l) w a b n x) := by
  refine grid_ext (by simp [slide2]) fun i hi => ?_
  by_cases hiw : w.toNat = i
  · subst hiw
    have e : (slide2 l w a b n x).getD w.toNat [] = slideL (l.getD w.toNat []) a.toNat b.toNat n x := by
      unfold slide2
      rw [List.getD, List.getElem?_set_self hi]; rfl
    have hrow := hg.row hi
    have hpl : (part (l.getD w.toNat []) a.toNat b.toNat).length = b.toNat + 1 - a.toNat := by
      unfold part
      rw [List.length_take, List.length_drop, hrow]; omega
    rw [e]
    apply List.ext_getElem?
    intro c
    by_cases hc : c < nC l
    · rw [List.getElem?_map, List.getElem?_range hc, Option.map_some]
      unfold slideL
      have hget : ∀ j, j < nC l → (l.getD w.toNat [])[j]? = some (fn l w.toNat j) := fun j hj => by
        rw [row_eq hg hi, List.getElem?_map, List.getElem?_range hj]; rfl
      by_cases h1 : c < a.toNat
      · rw [List.getElem?_append_left (by rw [List.length_take]; omega), List.getElem?_take_of_lt h1, hget c hc, slideF, if_neg (by omega)]
      · rw [List.getElem?_append_right (by rw [List.length_take]; omega), List.length_take, hrow]
        have e1 : c - min a.toNat (nC l) = c - a.toNat := by omega
        rw [e1]
        by_cases h2 : c ≤ b.toNat
        · rw [List.getElem?_append_left (by rw [movedL_length, hpl]; omega)]
          unfold movedL
          rw [List.getElem?_map, List.getElem?_range (by rw [hpl]; omega), Option.map_some, slideF, if_pos (by omega)]
          unfold mvAt
          rw [hpl]
          by_cases hq : n ≤ b - c ∧ n ≥ a - c
          · rw [if_neg (by omega), if_pos hq]
            unfold part
            rw [List.getD, List.getElem?_take_of_lt (by omega), List.getElem?_drop, hget _ (by omega), Option.getD_some]
            congr 2; omega
          · rw [if_pos (by omega), if_neg hq]
        · rw [List.getElem?_append_right (by rw [movedL_length, hpl]; omega), movedL_length, hpl, List.getElem?_drop, hget _ (by omega), slideF, if_neg (by omega)]
          congr 2; omega
    · rw [List.getElem?_eq_none (by
          unfold slideL
          rw [List.length_append, List.length_append, List.length_take, movedL_length, hpl, List.length_drop, hrow]; omega), List.getElem?_eq_none (by simp; omega)]
  · have e : (slide2 l w a b n x).getD i [] = l.getD i [] := by
      unfold slide2
      rw [List.getD, List.getElem?_set_ne hiw]; rfl
    rw [e, row_eq hg hi]
    refine List.map_congr_left fun c _ => ?_
    rw [slideF, if_neg (by omega)]

/-! ### A cell is set -/
def setF (f : Nat → Nat → Int) (w a : Int) (x : Int) (r c : Nat) : Int := if r = w ∧ c = a then x else f r c
theorem set2_eq {l : List (List Int)} (hg : GW l) {w a : Int} {x : Int} (hw : 0 ≤ w) (hw2 : w < l.length) (ha : 0 ≤ a) (hb : a < nC l) : set2 l w a x = gridF l.length (nC l) (setF (fn l) w a x) := by
  obtain ⟨i, rfl⟩ : ∃ i : Nat, w = i := ⟨w.toNat, by omega⟩
  obtain ⟨k, rfl⟩ : ∃ k : Nat, a = k := ⟨a.toNat, by omega⟩
  have e := gridF_set (f := fn l) (r := i) (c := k) (x := x) (R := l.length) (C := nC l) (by omega) (by omega)
  rw [fn_self hg] at e
  rw [e]
  refine gridF_congr fun r c _ _ => ?_
  unfold setF
  by_cases h : r = i ∧ c = k
  · rw [if_pos h, if_pos (by omega)]
  · rw [if_neg h, if_neg (by omega)]

/-! ### Row by row -/
def flF (R C : Nat) (f : Nat → Nat → Int) : List Int := (List.range (R * C)).map fun j => f (j / C) (j % C)
theorem flF_length (R C : Nat) (f : Nat → Nat → Int) : (flF R C f).length = R * C := by simp [flF]
theorem ix_lt {R C r c : Nat} (hr : r < R) (hc : c < C) : r * C + c < R * C := by
  have : (r + 1) * C ≤ R * C := Nat.mul_le_mul_right _ (by omega)
  rw [Nat.add_mul, Nat.one_mul] at this
  omega
theorem ix_div {C r c : Nat} (hc : c < C) : (r * C + c) / C = r := by rw [Nat.add_comm, Nat.add_mul_div_right _ _ (by omega), Nat.div_eq_of_lt hc]; omega
theorem ix_mod {C r c : Nat} (hc : c < C) : (r * C + c) % C = c := by rw [Nat.add_comm, Nat.add_mul_mod_self_right, Nat.mod_eq_of_lt hc]
theorem ix_of {R C j : Nat} (h : j < R * C) : j / C < R ∧ j % C < C ∧ j / C * C + j % C = j := by
  have hC : 0 < C := by
    rcases Nat.eq_zero_or_pos C with hC | hC
    · subst hC; simp at h
    · exact hC
  exact ⟨Nat.div_lt_of_lt_mul (by rw [Nat.mul_comm]; exact h), Nat.mod_lt _ hC, Nat.div_add_mod' j C⟩
theorem flF_get? {R C : Nat} {f : Nat → Nat → Int} {r c : Nat} (hr : r < R) (hc : c < C) : (flF R C f)[r * C + c]? = some (f r c) := by
  unfold flF
  rw [List.getElem?_map, List.getElem?_range (ix_lt hr hc), Option.map_some, ix_div hc, ix_mod hc]
theorem flF_get {R C : Nat} {f : Nat → Nat → Int} {r c : Nat} (hr : r < R) (hc : c < C) : (flF R C f).getD (r * C + c) 0 = f r c := by
  rw [List.getD, flF_get? hr hc]; rfl
theorem flF_congr {R C : Nat} {f g : Nat → Nat → Int} (h : ∀ r c, r < R → c < C → f r c = g r c) : flF R C f = flF R C g := by
  unfold flF
  refine List.map_congr_left fun j hj => ?_
  obtain ⟨h1, h2, _⟩ := ix_of (List.mem_range.1 hj)
  exact h _ _ h1 h2
/-- A list as a function. -/
def un (C : Nat) (xs : List Int) (r c : Nat) : Int := xs.getD (r * C + c) 0
theorem un_flF {R C : Nat} {f : Nat → Nat → Int} {r c : Nat} (hr : r < R) (hc : c < C) : un C (flF R C f) r c = f r c := flF_get hr hc
theorem flF_un {R C : Nat} {xs : List Int} (h : xs.length = R * C) : flF R C (un C xs) = xs := by
  apply List.ext_getElem
  · rw [flF_length, h]
  · intro j h1 h2
    rw [flF_length] at h1
    obtain ⟨h3, h4, h5⟩ := ix_of h1
    simp only [flF, List.getElem_map, List.getElem_range, un]
    rw [h5, List.getD, List.getElem?_eq_getElem h2]; rfl
theorem flF_set {R C : Nat} {f : Nat → Nat → Int} {r c : Nat} {x : Int} (hr : r < R) (hc : c < C) : (flF R C f).set (r * C + c) x = flF R C fun r' c' => if r' = r ∧ c' = c then x else f r' c' := by
  apply List.ext_getElem
  · simp [flF]
  · intro j h1 h2
    rw [flF_length] at h2
    obtain ⟨h3, h4, h5⟩ := ix_of h2
    by_cases hj : r * C + c = j
    · subst hj
      rw [List.getElem_set_self]
      simp only [flF, List.getElem_map, List.getElem_range, ix_div hc, ix_mod hc]; simp
    · rw [List.getElem_set_ne hj]
      simp only [flF, List.getElem_map, List.getElem_range]
      rw [if_neg fun e => hj (by rw [← e.1, ← e.2]; exact h5)]
def flL (l : List (List Int)) : List Int := flF l.length (nC l) (fn l)
theorem flL_gridF {R C : Nat} {f : Nat → Nat → Int} (h : 0 < R) : flL (gridF R C f) = flF R C f := by
  unfold flL
  rw [gridF_length, gridF_nC h]
  exact flF_congr fun r c hr hc => fn_gridF hr hc
theorem flL_length (l : List (List Int)) : (flL l).length = l.length * nC l := flF_length _ _ _
theorem flL_get {l : List (List Int)} {r c : Nat} (hr : r < l.length) (hc : c < nC l) : (flL l).getD (r * nC l + c) 0 = fn l r c := flF_get hr hc
theorem un_flL {l : List (List Int)} {r c : Nat} (hr : r < l.length) (hc : c < nC l) : un (nC l) (flL l) r c = fn l r c := flF_get hr hc
theorem rollF_congr {f g : Nat → Nat → Int} {R C : Nat} {t b n : Int} {x : Int} (h : ∀ r c, r < R → c < C → f r c = g r c) (ht : 0 ≤ t) (hb : b < R) {r c : Nat} (hr : r < R) (hc : c < C) : rollF f t b n x r c = rollF g t b n x r c := by
  unfold rollF
  by_cases h1 : t ≤ r ∧ r ≤ b
  · rw [if_pos h1, if_pos h1]
    by_cases h2 : n ≤ b - r ∧ n ≥ t - r
    · rw [if_pos h2, if_pos h2]; exact h _ _ (by omega) hc
    · rw [if_neg h2, if_neg h2]
  · rw [if_neg h1, if_neg h1]; exact h _ _ hr hc
theorem slideF_congr {f g : Nat → Nat → Int} {R C : Nat} {w a b n : Int} {x : Int} (h : ∀ r c, r < R → c < C → f r c = g r c) (ha : 0 ≤ a) (hb : b < C) {r c : Nat} (hr : r < R) (hc : c < C) : slideF f w a b n x r c = slideF g w a b n x r c := by
  unfold slideF
  by_cases h1 : r = w ∧ a ≤ c ∧ c ≤ b
  · rw [if_pos h1, if_pos h1]
    by_cases h2 : n ≤ b - c ∧ n ≥ a - c
    · rw [if_pos h2, if_pos h2]; exact h _ _ hr (by omega)
    · rw [if_neg h2, if_neg h2]
  · rw [if_neg h1, if_neg h1]; exact h _ _ hr hc
section
variable {l : List (List Int)}
theorem rollL_fl (hg : GW l) {t b n : Int} {x : Int} (ht : 0 ≤ t) (htb : t ≤ b) (hb : b < l.length) : flL (rollL l t.toNat b.toNat n x) = flF l.length (nC l) (rollF (un (nC l) (flL l)) t b n x) := by
  rw [rollL_eq hg ht htb hb, flL_gridF (by have := hg.r0; omega)]
  exact flF_congr fun r c hr hc => rollF_congr (fun r c hr hc => (un_flL hr hc).symm) ht hb hr hc
theorem rollL_gw (hg : GW l) {t b n : Int} {x : Int} (ht : 0 ≤ t) (htb : t ≤ b) (hb : b < l.length) : GW (rollL l t.toNat b.toNat n x) ∧ (rollL l t.toNat b.toNat n x).length = l.length ∧ nC (rollL l t.toNat b.toNat n x) = nC l := by
  rw [rollL_eq hg ht htb hb]
  exact ⟨gridF_gw hg.r0 hg.r1 hg.c0 hg.c1, gridF_length _ _ _, gridF_nC (by have := hg.r0; omega)⟩
theorem slide2_fl (hg : GW l) {w a b n : Int} {x : Int} (hw : 0 ≤ w) (hw2 : w < l.length) (ha : 0 ≤ a) (hab : a ≤ b) (hb : b < nC l) : flL (slide2 l w a b n x) = flF l.length (nC l) (slideF (un (nC l) (flL l)) w a b n x) := by
  rw [slide2_eq hg hw hw2 ha hab hb, flL_gridF (by have := hg.r0; omega)]
  exact flF_congr fun r c hr hc => slideF_congr (fun r c hr hc => (un_flL hr hc).symm) ha hb hr hc
theorem slide2_gw (hg : GW l) {w a b n : Int} {x : Int} (hw : 0 ≤ w) (hw2 : w < l.length) (ha : 0 ≤ a) (hab : a ≤ b) (hb : b < nC l) : GW (slide2 l w a b n x) ∧ (slide2 l w a b n x).length = l.length ∧ nC (slide2 l w a b n x) = nC l := by
  rw [slide2_eq hg hw hw2 ha hab hb]
  exact ⟨gridF_gw hg.r0 hg.r1 hg.c0 hg.c1, gridF_length _ _ _, gridF_nC (by have := hg.r0; omega)⟩
end
end Go.Proofs.Ytpdhnmnjccnbmaa
