/- Layer 6: the program's answers are the document's, as plain laws. -/
import Derived.Test.YtdhhagangmkloaaGeD
set_option linter.unusedSimpArgs false
set_option linter.unusedVariables false
set_option linter.unusedSectionVars false
namespace Go.Proofs.Ytdhhagangmkloaa
open Go Go.Sym

theorem minus_both (n b : Int) (h : -300 ≤ b ∧ b ≤ 300) : (minusF n ≤ b ↔ minusR n ≤ b) ∧ (minusF n ≥ b ↔ minusR n ≥ b) := by
  unfold minusF minusR
  split <;> split <;> split <;> (try split) <;> omega
theorem minus_same (n a b : Int) (ha : -300 ≤ a ∧ a ≤ 300) (hb : -300 ≤ b ∧ b ≤ 300) (h1 : minusR n ≤ b) (h2 : minusR n ≥ a) : minusF n = minusR n := by
  revert h1 h2
  unfold minusF minusR
  split <;> split <;> split <;> (try split) <;> omega
theorem minus_clamp {α : Type} {n a b : Int} {u v x : α} (ha : -300 ≤ a ∧ a ≤ 300) (hb : -300 ≤ b ∧ b ≤ 300) (h : minusF n = minusR n → u = v) : (if minusF n ≤ b ∧ minusF n ≥ a then u else x) = (if minusR n ≤ b ∧ minusR n ≥ a then v else x) := by
  have h1 := (minus_both n b hb).1
  have h2 := (minus_both n a ha).2
  by_cases hc : minusR n ≤ b ∧ minusR n ≥ a
  · rw [if_pos hc, if_pos ⟨h1.2 hc.1, h2.2 hc.2⟩]
    exact h (minus_same n a b ha hb hc.1 hc.2)
  · rw [if_neg hc, if_neg fun e => hc ⟨h1.1 e.1, h2.1 e.2⟩]
theorem rollF_congr {f g : Nat → Nat → C4} {R C : Nat} {t b n : Int} {x : C4} (h : ∀ r c, r < R → c < C → f r c = g r c) (ht : 0 ≤ t) (hb : b < R) {r c : Nat} (hr : r < R) (hc : c < C) : rollF f t b n x r c = rollF g t b n x r c := by
  unfold rollF
  by_cases h1 : t ≤ r ∧ r ≤ b
  · rw [if_pos h1, if_pos h1]
    by_cases h2 : n ≤ b - r ∧ n ≥ t - r
    · rw [if_pos h2, if_pos h2]; exact h _ _ (by omega) hc
    · rw [if_neg h2, if_neg h2]
  · rw [if_neg h1, if_neg h1]; exact h _ _ hr hc
theorem rollF_minus {f : Nat → Nat → C4} {t b n : Int} {x : C4} {r c : Nat} (ht : 0 ≤ t) (ht2 : t ≤ 255) (hb : b ≤ 255) (hr : r ≤ 255) : rollF f t b (minusF n) x r c = rollF f t b (minusR n) x r c := by
  unfold rollF
  by_cases h1 : t ≤ r ∧ r ≤ b
  · rw [if_pos h1, if_pos h1]
    exact minus_clamp (by omega) (by omega) fun e => by rw [e]
  · rw [if_neg h1, if_neg h1]
theorem slideF_congr {f g : Nat → Nat → C4} {R C : Nat} {w a b n : Int} {x : C4} (h : ∀ r c, r < R → c < C → f r c = g r c) (ha : 0 ≤ a) (hb : b < C) {r c : Nat} (hr : r < R) (hc : c < C) : slideF f w a b n x r c = slideF g w a b n x r c := by
  unfold slideF
  by_cases h1 : r = w ∧ a ≤ c ∧ c ≤ b
  · rw [if_pos h1, if_pos h1]
    by_cases h2 : n ≤ b - c ∧ n ≥ a - c
    · rw [if_pos h2, if_pos h2]; exact h _ _ hr (by omega)
    · rw [if_neg h2, if_neg h2]
  · rw [if_neg h1, if_neg h1]; exact h _ _ hr hc
theorem slideF_minus {f : Nat → Nat → C4} {w a b n : Int} {x : C4} {r c : Nat} (ha : 0 ≤ a) (ha2 : a ≤ 255) (hb : b ≤ 255) (hc : c ≤ 255) : slideF f w a b (minusF n) x r c = slideF f w a b (minusR n) x r c := by
  unfold slideF
  by_cases h1 : r = w ∧ a ≤ c ∧ c ≤ b
  · rw [if_pos h1, if_pos h1]
    exact minus_clamp (by omega) (by omega) fun e => by rw [e]
  · rw [if_neg h1, if_neg h1]
section
variable {l : List (List C4)}
theorem rollL_fl (hg : GW l) {t b n : Int} {x : C4} (ht : 0 ≤ t) (htb : t ≤ b) (hb : b < l.length) : flL (rollL l t.toNat b.toNat n x) = flF l.length (nC l) (rollF (un (nC l) (flL l)) t b n x) := by
  rw [rollL_eq hg ht htb hb, flL_gridF (by have := hg.r0; omega)]
  exact flF_congr fun r c hr hc => rollF_congr (fun r c hr hc => (un_flL hr hc).symm) ht hb hr hc
theorem rollL_gw (hg : GW l) {t b n : Int} {x : C4} (ht : 0 ≤ t) (htb : t ≤ b) (hb : b < l.length) : GW (rollL l t.toNat b.toNat n x) ∧ (rollL l t.toNat b.toNat n x).length = l.length ∧ nC (rollL l t.toNat b.toNat n x) = nC l := by
  rw [rollL_eq hg ht htb hb]
  exact ⟨gridF_gw hg.r0 hg.r1 hg.c0 hg.c1, gridF_length _ _ _, gridF_nC (by have := hg.r0; omega)⟩
theorem slide2_fl (hg : GW l) {w a b n : Int} {x : C4} (hw : 0 ≤ w) (hw2 : w < l.length) (ha : 0 ≤ a) (hab : a ≤ b) (hb : b < nC l) : flL (slide2 l w a b n x) = flF l.length (nC l) (slideF (un (nC l) (flL l)) w a b n x) := by
  rw [slide2_eq hg hw hw2 ha hab hb, flL_gridF (by have := hg.r0; omega)]
  exact flF_congr fun r c hr hc => slideF_congr (fun r c hr hc => (un_flL hr hc).symm) ha hb hr hc
theorem slide2_gw (hg : GW l) {w a b n : Int} {x : C4} (hw : 0 ≤ w) (hw2 : w < l.length) (ha : 0 ≤ a) (hab : a ≤ b) (hb : b < nC l) : GW (slide2 l w a b n x) ∧ (slide2 l w a b n x).length = l.length ∧ nC (slide2 l w a b n x) = nC l := by
  rw [slide2_eq hg hw hw2 ha hab hb]
  exact ⟨gridF_gw hg.r0 hg.r1 hg.c0 hg.c1, gridF_length _ _ _, gridF_nC (by have := hg.r0; omega)⟩
theorem upF_gw (hg : GW l) (n : Int) (x : C4) : GW (upF l n x) ∧ (upF l n x).length = l.length ∧ nC (upF l n x) = nC l := by
  have h0 := hg.r0
  have := rollL_gw hg (t := 0) (b := ((l.length - 1 : Nat) : Int)) (n := n) (x := x) (by omega) (by omega) (by omega)
  exact this
theorem upF_at (hg : GW l) {n : Int} {x : C4} {r c : Nat} (hr : r < l.length) (hc : c < nC l) : fn (upF l n x) r c = rollF (fn l) 0 ((l.length : Int) - 1) n x r c := by
  have h0 := hg.r0
  have := rollL_eq hg (t := 0) (b := ((l.length - 1 : Nat) : Int)) (n := n) (x := x) (by omega) (by omega) (by omega)
  have e : upF l n x = gridF l.length (nC l) (rollF (fn l) 0 ((l.length - 1 : Nat) : Int) n x) := this
  rw [e, fn_gridF hr hc, show ((l.length - 1 : Nat) : Int) = (l.length : Int) - 1 by omega]
theorem up_fl (hg : GW l) (n : Int) (x : C4) : flL (upF l n x) = rmL l.length (nC l) (flL l) 0 n x := by
  have h0 := hg.r0
  have := rollL_fl hg (t := 0) (b := ((l.length - 1 : Nat) : Int)) (n := n) (x := x) (by omega) (by omega) (by omega)
  have e : upF l n x = rollL l (0 : Int).toNat ((l.length - 1 : Nat) : Int).toNat n x := rfl
  rw [e, this]
  unfold rmL rmF
  rw [Int.toNat_natCast, Int.toNat_natCast, show ((l.length - 1 : Nat) : Int) = (l.length : Int) - 1 by omega]

/-! ### Lines -/
theorem gdN_ref (hg : GW l) {row : Int} (h0 : 0 ≤ row) : gdN l row = gdRK (flL l) (row * nC l).toNat (l.length * nC l) := by
  unfold gdN gdK gdRK cntP
  rw [Nat.add_zero]
  congr 1
  refine List.countP_congr fun j hj => ?_
  have hj := List.mem_range.1 hj
  obtain ⟨j1, j2, j3⟩ := ix_of hj
  have hx : (flL l).getD j C4.no = fn l (j / nC l) (j % nC l) := by
    have := flL_get (l := l) j1 j2
    rwa [j3] at this
  rw [hx]
  unfold gdP
  have e : decide (row ≤ ((j / nC l : Nat) : Int)) = decide ((row * nC l).toNat ≤ j) := by
    obtain ⟨i, rfl⟩ : ∃ i : Nat, row = i := ⟨row.toNat, by omega⟩
    have e2 : ((i : Int) * (nC l : Int)).toNat = i * nC l := by rw [← Int.natCast_mul, Int.toNat_natCast]
    rw [decide_eq_decide, e2]
    have := Nat.le_div_iff_mul_le (x := i) (y := j) (k := nC l) hg.c0
    omega
  rw [e]
theorem gdE_ref (hg : GW l) (row : Int) : gdE l row = lrE l.length row := by
  have h0 := hg.c0
  unfold gdE lrE
  have e : inB l row 0 = (decide (0 ≤ row) && decide (row < l.length)) := by
    unfold inB
    rw [show decide ((0 : Int) < nC l) = true from decide_eq_true (by omega)]; simp
  rw [e]
theorem liC_ref (hg : GW l) (row : Int) (q : Bool) : liC l row q = lrC l.length (nC l) (flL l) (l.length * nC l) row q := by
  have h0 := hg.c0
  unfold liC lrC
  have e : inB l row 0 = (decide (0 ≤ row) && decide (row < l.length)) := by
    unfold inB
    rw [show decide ((0 : Int) < nC l) = true from decide_eq_true (by omega)]; simp
  rw [e]
  by_cases hr : 0 ≤ row
  · rw [gdN_ref hg hr]
    have := gdRK_le (flL l) (row * nC l).toNat (l.length * nC l)
    congr 2
    rw [show decide (gdRK (flL l) (row * nC l).toNat (l.length * nC l) > 0) = decide (gdRK (flL l) (row * nC l).toNat (l.length * nC l) ≠ 0) from by rw [decide_eq_decide]; omega]
  · rw [decide_eq_false hr]; rfl
theorem liC_row {row : Int} {q : Bool} (h : liC l row q = true) : 0 ≤ row ∧ row < l.length := by
  unfold liC at h
  rw [Bool.and_eq_true, inB_iff] at h
  omega
theorem liL_gw (hg : GW l) (row n : Int) (x : C4) (q : Bool) : GW (liL l row n x q) ∧ (liL l row n x q).length = l.length ∧ nC (liL l row n x q) = nC l := by
  unfold liL
  split
  · rename_i h
    have h1 := liC_row h
    have := rollL_gw hg (t := row) (b := ((l.length - 1 : Nat) : Int)) (n := minusF n) (x := x) h1.1 (by omega) (by omega)
    rwa [Int.toNat_natCast] at this
  · exact ⟨hg, rfl, rfl⟩
theorem liL_at (hg : GW l) {row n : Int} {x : C4} {q : Bool} {r c : Nat} (hr : r < l.length) (hc : c < nC l) : fn (liL l row n x q) r c = if liC l row q = true then rollF (fn l) row ((l.length : Int) - 1) (minusR n) x r c else fn l r c := by
  have hR := hg.r1
  unfold liL
  split
  · rename_i h
    have h1 := liC_row h
    have := rollL_eq hg (t := row) (b := ((l.length - 1 : Nat) : Int)) (n := minusF n) (x := x) h1.1 (by omega) (by omega)
    rw [Int.toNat_natCast] at this
    rw [this, fn_gridF hr hc, rollF_minus (by omega) (by omega) (by omega) (by omega), show ((l.length - 1 : Nat) : Int) = (l.length : Int) - 1 by omega]
  · rfl
theorem li_fl (hg : GW l) (row n : Int) (x : C4) (q : Bool) : flL (liL l row n x q) = lrL l.length (nC l) (flL l) (l.length * nC l) row n x q := by
  obtain ⟨g1, g2, g3⟩ := liL_gw hg row n x q
  unfold lrL
  rw [← liC_ref hg]
  have e : flL (liL l row n x q) = flF l.length (nC l) (fn (liL l row n x q)) := by unfold flL; rw [g2, g3]
  rw [e]
  by_cases h : liC l row q = true
  · rw [if_pos h]
    have h1 := liC_row h
    unfold rmL rmF
    rw [Int.toNat_natCast, Int.toNat_natCast]
    refine flF_congr fun r c hr hc => ?_
    rw [liL_at hg hr hc, if_pos h]
    exact rollF_congr (fun r c hr hc => (un_flL hr hc).symm) h1.1 (by omega) hr hc
  · rw [if_neg h]
    unfold flL
    refine flF_congr fun r c hr hc => ?_
    rw [liL_at hg hr hc, if_neg h]

/-! ### Cells -/
theorem fdA_congr {g h : Nat → Bool} : ∀ {n : Nat}, (∀ j, j < n → g j = h j) → fdA g n = fdA h n
  | 0, _ => rfl
  | n + 1, e => by
    unfold fdA
    rw [e n (by omega), fdA_congr fun j hj => e j (by omega)]
theorem fdZ_congr {g h : Nat → Bool} : ∀ {n x : Nat}, (∀ j, j ≤ x + n → g j = h j) → fdZ g x n = fdZ h x n
  | 0, _, _ => rfl
  | n + 1, x, e => by
    unfold fdZ
    rw [e (x + 1) (by omega), fdZ_congr fun j hj => e j (by omega)]
theorem gdr_ref {r : Int} (h0 : 0 ≤ r) (h1 : r < l.length) {j : Nat} (hj : j < nC l) : gdc l r j = gdr (nC l) (flL l) r j := by
  unfold gdc gdr
  rw [Int.toNat_natCast, un_flL (by omega) hj]
theorem fd_ref {r c : Int} (hi : inB l r c = true) : fdF l r c = fdRF (nC l) (flL l) r c ∧ fdT l r c = fdRT (nC l) (flL l) r c := by
  have hi := inB_iff.1 hi
  unfold fdF fdRF fdT fdRT
  rw [Int.toNat_natCast]
  rw [fdA_congr (g := gdc l r) (h := gdr (nC l) (flL l) r) fun j hj => gdr_ref hi.1 hi.2.1 (by omega), fdZ_congr (g := gdc l r) (h := gdr (nC l) (flL l) r) fun j hj => gdr_ref hi.1 hi.2.1 (by omega)]
  exact ⟨rfl, rfl⟩
theorem chE_ref (r c : Int) : chE l r c = rcE l.length (nC l) r c := rfl
theorem gd_ref {r c : Int} (hi : inB l r c = true) : (at2 l r c).gd = gdr (nC l) (flL l) r c.toNat := by
  have hi := inB_iff.1 hi
  rw [← gdr_ref hi.1 hi.2.1 (by omega)]
  obtain ⟨i, rfl⟩ : ∃ i : Nat, r = i := ⟨r.toNat, by omega⟩
  obtain ⟨k, rfl⟩ : ∃ k : Nat, c = k := ⟨c.toNat, by omega⟩
  rfl
theorem chC_ref (r c : Int) (q : Bool) : chC l r c q = rcC l.length (nC l) (flL l) r c q := by
  unfold chC rcC
  have e : inD l.length (nC l) r c = inB l r c := rfl
  rw [e]
  cases hi : inB l r c
  · rfl
  · rw [gd_ref hi]
theorem chC_in {r c : Int} {q : Bool} (h : chC l r c q = true) : inB l r c = true := by
  unfold chC at h
  rw [Bool.and_eq_true] at h
  exact h.1
theorem chT_bd {r c : Int} {q : Bool} (h : chC l r c q = true) : c ≤ chT l r c q ∧ chT l r c q < nC l := by
  have hi := inB_iff.1 (chC_in h)
  unfold chT
  split
  · have hz := fdZ_le (gdc l r) (nC l - 1 - c.toNat) c.toNat
    unfold fdT
    omega
  · omega
theorem chL_gw (hg : GW l) (r c n : Int) (x : C4) (q : Bool) : GW (chL l r c n x q) ∧ (chL l r c n x q).length = l.length ∧ nC (chL l r c n x q) = nC l := by
  unfold chL
  split
  · rename_i h
    have hi := inB_iff.1 (chC_in h)
    have ht := chT_bd h
    exact slide2_gw hg hi.1 hi.2.1 hi.2.2.1 ht.1 ht.2
  · exact ⟨hg, rfl, rfl⟩
theorem chL_at (hg : GW l) {r c n : Int} {x : C4} {q : Bool} {i k : Nat} (hi : i < l.length) (hk : k < nC l) : fn (chL l r c n x q) i k = if chC l r c q = true then slideF (fn l) r c (chT l r c q) (minusR n) x i k else fn l i k := by
  have hC := hg.c1
  unfold chL
  split
  · rename_i h
    have hin := inB_iff.1 (chC_in h)
    have ht := chT_bd h
    rw [slide2_eq hg hin.1 hin.2.1 hin.2.2.1 ht.1 ht.2, fn_gridF hi hk, slideF_minus (by omega) (by omega) (by omega) (by omega)]
  · rfl
theorem ch_fl (hg : GW l) (r c n : Int) (x : C4) (q : Bool) : flL (chL l r c n x q) = rcL l.length (nC l) (flL l) r c n x q := by
  obtain ⟨g1, g2, g3⟩ := chL_gw hg r c n x q
  unfold rcL
  rw [← chC_ref]
  have e : flL (chL l r c n x q) = flF l.length (nC l) (fn (chL l r c n x q)) := by unfold flL; rw [g2, g3]
  rw [e]
  by_cases h : chC l r c q = true
  · rw [if_pos h]
    have hin := chC_in h
    have hin' := inB_iff.1 hin
    have ht := chT_bd h
    have hT : chT l r c q = rcT (nC l) (flL l) r c q := by
      unfold chT rcT
      rw [(fd_ref hin).2]
    unfold smL
    rw [Int.toNat_natCast, Int.toNat_natCast, ← hT]
    refine flF_congr fun i k hi hk => ?_
    rw [chL_at hg hi hk, if_pos h]
    exact slideF_congr (fun r c hr hc => (un_flL hr hc).symm) hin'.2.2.1 ht.2 hi hk
  · rw [if_neg h]
    unfold flL
    refine flF_congr fun i k hi hk => ?_
    rw [chL_at hg hi hk, if_neg h]
end

/-! ### All contracts for the laws of layer 6 -/
def annJ0 (keep : List Nat) : Ann Unit where
  α := Nat
  φ _ _ := True
  μ _ _ := 0
  get _ := some 0
  f st _ := tmpl keep [] [] st
def ptabL6 : List (Nat × PS) := [(27, psAwake)]
theorem ptabL6_ok : Pures Try.prog ptabL6 := ⟨ok_awake06, trivial⟩
def tabL6 : List (Nat × ACon Unit) := (39, lcAtIn) :: (40, lcCopy) :: (49, lcGSame) :: (23, lcMade) :: (26, lcSame) ::
  (50, lcGuarded) :: (28, lcField) :: (52, lcLines) :: (54, lcUp) :: (32, lcChars) ::
  (53, lcRLines) :: (55, lcRUp) :: (34, lcRChars) :: (51, lcRGuarded) :: (31, lcRField) :: (30, lcRAtF) :: (29, lcThR) :: tabE
theorem tabL6_ok : LCs Try.prog tabL6 := ⟨ok_atIn, ok_copy, ok_gsame, ok_made, ok_same, ok_guarded, ok_field, ok_lines, ok_up, ok_chars, ok_rlines, ok_rup, ok_rchars, ok_rguarded, ok_rfield, ok_ratF, ok_thR, tabE_ok⟩
abbrev turnSV (r c n : Int) (q : Bool) : SV := .a [.v (.int .i64 r), .v (.int .i64 c), .v (.int .i64 n), .v (.bool q)]
end Go.Proofs.Ytdhhagangmkloaa
