/- Contracts of layer 1: copies, parts that are filled, other sizes. -/
import Derived.Test.YtpdhnmnjccnbmaaGrG
set_option linter.unusedSimpArgs false
set_option linter.unusedVariables false
set_option linter.unusedSectionVars false
namespace Go.Proofs.Ytpdhnmnjccnbmaa
open Go Go.Sym

def lcCopy1 : ACon Unit := mkLC (decP (shOne (shP 0)) shG) fun (_, (oe, ⟨l, oe2, ep⟩)) => .ask (oe = oe2 ∧ GW l) (.one (.p 4 0) (gbi 0 oe ep l ++ [.gone, .rows (.i .i64 l) 3 63 0 (l.length * nC l + 1) none, .cells [.h 3 [0, 0]] 75]) [])
set_option maxHeartbeats 4000000 in
theorem ok_copy1 : ∀ I : Sym.Inv Unit, LCOk I Try.prog 28 lcCopy1 := by
  refine lc_mk (fun _ => allCfg Try.prog [] tabD 3) (fun _ _ => allCfg_ok mixed trivial tabD_ok) (fun _ => rfl) (n := 80) Try.func28 ?_
  intro ⟨_, oe, ⟨l, oe2, ep⟩⟩ hφ
  obtain ⟨⟨rfl, hg⟩, hp⟩ := id hφ
  refine kcast (B := (true = true ∧ (oe = oe ∧ GW l) ∧ (SV.p (4 : Nat) (0 : Nat) = SV.p (4 : Nat) (0 : Nat) ∧ True) ∧ (SV.h (1 : Nat) [oe, (0 : Nat)] = SV.h (1 : Nat) [oe, (0 : Nat)] ∧ True) ∧ (oe = oe ∧ ep = ep ∧ l = l) ∧ True ∧ ((0 : Nat) = (0 : Nat) ∧ l.length * nC l + (1 : Nat) = l.length * nC l + (1 : Nat) ∧ l = l) ∧ (SV.h (3 : Nat) [(0 : Nat), (0 : Nat)] = SV.h (3 : Nat) [(0 : Nat), (0 : Nat)] ∧ True) ∧ True)) (by kernel_rfl) ?_
  simp [hg]
def lcCopy : ACon Unit := lcOr lcCopy1 lcCopy0
theorem ok_copy : ∀ I : Sym.Inv Unit, LCOk I Try.prog 28 lcCopy := lcOr_ok ok_copy1 ok_copy0

/-! ### Resize: what has room is kept -/
def resL (l : List (List Int)) (a b : Nat) (x : Int) (k : Nat) : List (List Int) := (List.range a).map fun i => if i < k ∧ i < l.length then (l.getD i []).take b ++ List.replicate (b - (nC l)) x else List.replicate b x
def annZ (l : List (List Int)) (a b : Nat) (x : Int) : Ann Unit where
  α := Int
  φ _ k := 0 ≤ k ∧ k ≤ a ∧ k ≤ l.length
  μ _ k := ((a : Int) - k).toNat
  get st := getI st.tm 32
  f st k := tmpl [0, 2, 7, 31] [(32, .v (.int .i64 k))] [(5, .rows (.i .i64 (resL l a b x k.toNat)) 3 63 (a + 1) (a + 1) none)] st
def tabH0 : List (Nat × ACon Unit) := (22, lcRoll) :: (28, lcCopy) :: tabD
theorem tabH0_ok : LCs Try.prog tabH0 := ⟨ok_roll, ok_copy, tabD_ok⟩
def lcRes1 : ACon Unit := mkLC (decP (shCons (shP 0) (shCons shI2 (shOne shI))) shG) fun ((_, (a, b), x), (oe, ⟨l, oe2, ep⟩)) => .ask (oe = oe2 ∧ GW l) (.br (mayB a b)
  (.one (.v (.int .i64 0)) [.cells [.h 5 [a.toNat + 1, 0]] 75, .gone, .gone, .gone, .gone, .rows (.i .i64 (resL l a.toNat b.toNat x l.length)) 3 63 (a.toNat + 1) (a.toNat + 1) none] [0, 1])
  (.one (.v (.int .i64 10)) (gbi 0 oe ep l) [0, 1]))
theorem resL_length (l : List (List Int)) (a b : Nat) (x : Int) (k : Nat) : (resL l a b x k).length = a := by simp [resL]
theorem resL_zero (l : List (List Int)) (a b : Nat) (x : Int) : resL l a b x 0 = newL a b x := by
  simp only [resL, newL, Nat.not_lt_zero, false_and, if_false]
  apply List.ext_getElem <;> simp
theorem resL_get {l : List (List Int)} {a b : Nat} {x : Int} {k i : Nat} (hi : i < a) : (resL l a b x k).getD i [] = if i < k ∧ i < l.length then (l.getD i []).take b ++ List.replicate (b - nC l) x else List.replicate b x := by
  simp [resL, List.getD, hi]
theorem resL_succ {l : List (List Int)} {a b : Nat} {x : Int} {k : Nat} (hk : k < a) (hl : k < l.length) (h : (l.getD k []).length = nC l) :
    (resL l a b x k).set k (List.take 0 (List.replicate b x) ++ ((l.getD k []).take (min (nC l) b) ++ List.drop (0 + min (nC l) b) (List.replicate b x))) = resL l a b x (k + 1) := by
  apply List.ext_getElem
  · simp [resL]
  · intro i h1 h2
    have hi : i < a := by simpa [resL] using h2
    by_cases hik : i = k
    · subst hik
      rw [List.getElem_set_self]
      simp only [resL, List.getElem_map, List.getElem_range]
      rw [if_pos ⟨by omega, hl⟩]
      simp only [List.take_zero, List.nil_append, Nat.zero_add, List.drop_replicate]
      congr 1
      · by_cases hc : nC l ≤ b
        · rw [Nat.min_eq_left hc, List.take_of_length_le (by omega), List.take_of_length_le (by omega)]
        · rw [Nat.min_eq_right (by omega)]
      · congr 1; omega
    · rw [List.getElem_set_ne (by omega)]
      simp only [resL, List.getElem_map, List.getElem_range]
      by_cases hc : i < k ∧ i < l.length
      · rw [if_pos hc, if_pos ⟨by omega, hc.2⟩]
      · rw [if_neg hc, if_neg (by omega)]
set_option maxHeartbeats 4000000 in
theorem ok_res1 : ∀ I : Sym.Inv Unit, LCOk I Try.prog 24 lcRes1 := by
  refine lc_mk (fun ((_, (a, b), x), (oe, ⟨l, oe2, ep⟩)) => allCfg Try.prog [] tabH0 3 [(513, annZ l a.toNat b.toNat x)]) (fun _ _ => allCfg_ok mixed trivial tabH0_ok) (fun _ => rfl) (n := 80) Try.func24 ?_
  intro ⟨⟨_, ⟨a, b⟩, x⟩, ⟨oe, ⟨l, oe2, ep⟩⟩⟩ hφ
  obtain ⟨⟨rfl, hg⟩, hp⟩ := id hφ
  refine kcast (B := (true = true ∧ br (mayB a b) (rq ((a.toNat + (1 : Nat)).beq (a.toNat + (1 : Nat))) (rq (oe.beq oe) ((II (0 : Int) ≤ (0 : Int) ∧ (0 : Int) ≤ (↑a.toNat : Int) ∧ (0 : Int) ≤ (↑l.length : Int)) ∧ ((SV.p (0 : Nat) (0 : Nat) = SV.p (0 : Nat) (0 : Nat) ∧ SV.v (Value.int IntKind.i64 x) = SV.v (Value.int IntKind.i64 x) ∧ SV.p (4 : Nat) (0 : Nat) = SV.p (4 : Nat) (0 : Nat) ∧ SV.v (Value.int IntKind.i64 (if (↑(Rws.i IntKind.i64 l).len : Int) < (↑(Rws.i IntKind.i64 (newL a.toNat b.toNat x)).len : Int) then (↑(Rws.i IntKind.i64 l).len : Int) else (↑(Rws.i IntKind.i64 (newL a.toNat b.toNat x)).len : Int))) = SV.v (Value.int IntKind.i64 (if (↑(Rws.i IntKind.i64 l).len : Int) < (↑(Rws.i IntKind.i64 (newL a.toNat b.toNat x)).len : Int) then (↑(Rws.i IntKind.i64 l).len : Int) else (↑(Rws.i IntKind.i64 (newL a.toNat b.toNat x)).len : Int))) ∧ SV.v (Value.int IntKind.i64 (0 : Int)) = SV.v (Value.int IntKind.i64 (0 : Int)) ∧ True) ∧ (SV.h (1 : Nat) [oe, (0 : Nat)] = SV.h (1 : Nat) [oe, (0 : Nat)] ∧ True) ∧ (oe = oe ∧ ep = ep ∧ l = l) ∧ (SV.v (Value.int IntKind.i64 a) = SV.v (Value.int IntKind.i64 a) ∧ SV.v (Value.int IntKind.i64 b) = SV.v (Value.int IntKind.i64 b) ∧ True) ∧ True ∧ (SV.h (5 : Nat) [a.toNat + (1 : Nat), (0 : Nat)] = SV.h (5 : Nat) [a.toNat + (1 : Nat), (0 : Nat)] ∧ True) ∧ (a.toNat + (1 : Nat) = a.toNat + (1 : Nat) ∧ a.toNat + (1 : Nat) = a.toNat + (1 : Nat) ∧ newL a.toNat b.toNat x = resL l a.toNat b.toNat x (0 : Nat)) ∧ True) ∧ ∀ (x_1 : Int), (0 : Int) ≤ x_1 ∧ x_1 ≤ (↑a.toNat : Int) ∧ x_1 ≤ (↑l.length : Int) → br (decide (x_1 < if (↑(Rws.i IntKind.i64 l).len : Int) < (↑(Rws.i IntKind.i64 (newL a.toNat b.toNat x)).len : Int) then (↑(Rws.i IntKind.i64 l).len : Int) else (↑(Rws.i IntKind.i64 (newL a.toNat b.toNat x)).len : Int))) (rq ((a.toNat + (1 : Nat)).beq (a.toNat + (1 : Nat)) && (Nat.beq (1 : Nat) (1 : Nat) && decide ((0 : Int) ≤ x_1 ∧ x_1 < (↑(Rws.i IntKind.i64 (resL l a.toNat b.toNat x x_1.toNat)).len : Int)))) (rq ((a.toNat + (1 : Nat)).beq (a.toNat + (1 : Nat)) && x_1.toNat.blt (Rws.i IntKind.i64 (resL l a.toNat b.toNat x x_1.toNat)).len) (rq (oe.beq oe && (Nat.beq (1 : Nat) (1 : Nat) && decide ((0 : Int) ≤ x_1 ∧ x_1 < (↑(Rws.i IntKind.i64 l).len : Int)))) (rq (oe.beq oe && x_1.toNat.blt (Rws.i IntKind.i64 l).len) (rq ((a.toNat + (1 : Nat)).beq (a.toNat + (1 : Nat)) && x_1.toNat.blt (Rws.i IntKind.i64 (resL l a.toNat b.toNat x x_1.toNat)).len && (ep.beq ep && x_1.toNat.blt (Rws.i IntKind.i64 l).len && (Rws.i IntKind.i64 l).sz.beq (Rws.i IntKind.i64 (resL l a.toNat b.toNat x x_1.toNat)).sz && (szN ((Rws.i IntKind.i64 (resL l a.toNat b.toNat x x_1.toNat)).at x_1.toNat) (Rws.i IntKind.i64 (resL l a.toNat b.toNat x x_1.toNat)).sz && ((Rws.i IntKind.i64 (resL l a.toNat b.toNat x x_1.toNat)).sz.beq (1 : Nat) && (true && (((0 : Nat) + (Rws.i IntKind.i64 (resL l a.toNat b.toNat x x_1.toNat)).nAt x_1.toNat).ble ((Rws.i IntKind.i64 (resL l a.toNat b.toNat x x_1.toNat)).nAt x_1.toNat) && Nat.blt (0 : Nat) ((Rws.i IntKind.i64 (resL l a.toNat b.toNat x x_1.toNat)).nAt x_1.toNat))))))) (((0 : Int) ≤ IntKind.i64.wrap (x_1 + (1 : Int)) ∧ IntKind.i64.wrap (x_1 + (1 : Int)) ≤ (↑a.toNat : Int) ∧ IntKind.i64.wrap (x_1 + (1 : Int)) ≤ (↑l.length : Int)) ∧ ((SV.p (0 : Nat) (0 : Nat) = SV.p (0 : Nat) (0 : Nat) ∧ SV.v (Value.int IntKind.i64 x) = SV.v (Value.int IntKind.i64 x) ∧ SV.p (4 : Nat) (0 : Nat) = SV.p (4 : Nat) (0 : Nat) ∧ SV.v (Value.int IntKind.i64 (if (↑(Rws.i IntKind.i64 l).len : Int) < (↑(Rws.i IntKind.i64 (newL a.toNat b.toNat x)).len : Int) then (↑(Rws.i IntKind.i64 l).len : Int) else (↑(Rws.i IntKind.i64 (newL a.toNat b.toNat x)).len : Int))) = SV.v (Value.int IntKind.i64 (if (↑(Rws.i IntKind.i64 l).len : Int) < (↑(Rws.i IntKind.i64 (newL a.toNat b.toNat x)).len : Int) then (↑(Rws.i IntKind.i64 l).len : Int) else (↑(Rws.i IntKind.i64 (newL a.toNat b.toNat x)).len : Int))) ∧ SV.v (Value.int IntKind.i64 (IntKind.i64.wrap (x_1 + (1 : Int)))) = SV.v (Value.int IntKind.i64 (IntKind.i64.wrap (x_1 + (1 : Int)))) ∧ True) ∧ (SV.h (1 : Nat) [oe, (0 : Nat)] = SV.h (1 : Nat) [oe, (0 : Nat)] ∧ True) ∧ (oe = oe ∧ ep = ep ∧ l = l) ∧ (SV.v (Value.int IntKind.i64 a) = SV.v (Value.int IntKind.i64 a) ∧ SV.v (Value.int IntKind.i64 b) = SV.v (Value.int IntKind.i64 b) ∧ True) ∧ True ∧ (SV.h (5 : Nat) [a.toNat + (1 : Nat), (0 : Nat)] = SV.h (5 : Nat) [a.toNat + (1 : Nat), (0 : Nat)] ∧ True) ∧ (a.toNat + (1 : Nat) = a.toNat + (1 : Nat) ∧ a.toNat + (1 : Nat) = a.toNat + (1 : Nat) ∧ (resL l a.toNat b.toNat x x_1.toNat).set x_1.toNat (List.take (0 : Nat) ((resL l a.toNat b.toNat x x_1.toNat).getD x_1.toNat (LI [])) ++ (List.take (((Rws.i IntKind.i64 l).nAt x_1.toNat).min ((Rws.i IntKind.i64 (resL l a.toNat b.toNat x x_1.toNat)).nAt x_1.toNat)) (l.getD x_1.toNat (LI [])) ++ List.drop ((0 : Nat) + ((Rws.i IntKind.i64 l).nAt x_1.toNat).min ((Rws.i IntKind.i64 (resL l a.toNat b.toNat x x_1.toNat)).nAt x_1.toNat)) ((resL l a.toNat b.toNat x x_1.toNat).getD x_1.toNat (LI [])))) = resL l a.toNat b.toNat x (IntKind.i64.wrap (x_1 + (1 : Int))).toNat) ∧ True) ∧ ((↑a.toNat : Int) - IntKind.i64.wrap (x_1 + (1 : Int))).toNat < ((↑a.toNat : Int) - x_1).toNat)))))) (br (mayB a b) ((SV.v (Value.int IntKind.i64 (0 : Int)) = SV.v (Value.int IntKind.i64 (0 : Int)) ∧ True) ∧ (SV.h (5 : Nat) [a.toNat + (1 : Nat), (0 : Nat)] = SV.h (5 : Nat) [a.toNat + (1 : Nat), (0 : Nat)] ∧ True) ∧ True ∧ True ∧ True ∧ True ∧ (a.toNat + (1 : Nat) = a.toNat + (1 : Nat) ∧ a.toNat + (1 : Nat) = a.toNat + (1 : Nat) ∧ resL l a.toNat b.toNat x x_1.toNat = resL l a.toNat b.toNat x l.length) ∧ True) ((SV.v (Value.int IntKind.i64 (0 : Int)) = SV.v (Value.int IntKind.i64 (10 : Int)) ∧ True) ∧ (SV.h (5 : Nat) [a.toNat + (1 : Nat), (0 : Nat)] = SV.h (1 : Nat) [oe, (0 : Nat)] ∧ True) ∧ (oe = oe ∧ ep = ep ∧ l = l) ∧ True))))) (br (mayB a b) ((SV.v (Value.int IntKind.i64 (10 : Int)) = SV.v (Value.int IntKind.i64 (0 : Int)) ∧ True) ∧ (SV.h (1 : Nat) [oe, (0 : Nat)] = SV.h (5 : Nat) [a.toNat + (1 : Nat), (0 : Nat)] ∧ True) ∧ True ∧ True ∧ True ∧ False) ((SV.v (Value.int IntKind.i64 (10 : Int)) = SV.v (Value.int IntKind.i64 (10 : Int)) ∧ True) ∧ (SV.h (1 : Nat) [oe, (0 : Nat)] = SV.h (1 : Nat) [oe, (0 : Nat)] ∧ True) ∧ (oe = oe ∧ ep = ep ∧ l = l) ∧ True)))) (by kernel_rfl) ?_
  clear hp hφ
  refine ⟨rfl, ?_⟩
  have hL := hg.r1
  have hC := hg.c1
  have hC0 := hg.c0
  cases h : mayB a b
  · simp only [br_iff, Bool.false_eq_true, Bool.true_eq_false, false_implies, true_implies, true_and, and_true]
  rw [mayB_iff] at h
  have hn : (newL a.toNat b.toNat x).length = a.toNat := by simp [newL]
  simp only [LI, II, LLI, eLen, eNat, eSz, hn, resL_length, nbeq, rq_iff, br_iff, Bool.true_and, Bool.and_true, true_and, and_true, true_implies, false_implies, Bool.true_eq_false, Bool.and_eq_true, Nat.ble_eq, Nat.blt_eq, decide_eq_true_eq, decide_eq_false_iff_not]
  refine ⟨⟨by omega, by omega, by omega⟩, (resL_zero l a.toNat b.toNat x).symm, fun k ⟨hk0, hk1, hk2⟩ => ⟨fun hlt => ?_, fun hge => ?_⟩⟩
  · have hk : k.toNat < a.toNat := by split at hlt <;> omega
    have hkl : k.toNat < l.length := by split at hlt <;> omega
    have hrow := hg.row hkl
    have hget := resL_get (l := l) (b := b.toNat) (x := x) (k := k.toNat) hk
    rw [if_neg (by omega)] at hget
    rw [wrap64 (x := k + 1) (by omega) (by omega)]
    have e1 : (k + 1).toNat = k.toNat + 1 := by omega
    rw [e1, hget, hrow]
    simp only [List.length_replicate]
    exact ⟨⟨hk0, by omega⟩, hk, decide_eq_true ⟨hk0, by omega⟩, hkl, ⟨hk, hkl, rfl, by omega, by omega⟩, ⟨by omega, by omega, by omega⟩, resL_succ hk hkl hrow, by omega⟩
  · have e1 : resL l a.toNat b.toNat x k.toNat = resL l a.toNat b.toNat x l.length := by
      unfold resL
      refine List.map_congr_left fun i hi => ?_
      have hi := List.mem_range.1 hi
      by_cases hc : i < l.length
      · rw [if_pos ⟨by split at hge <;> omega, hc⟩, if_pos ⟨hc, hc⟩]
      · rw [if_neg (by omega), if_neg (by omega)]
    rw [e1]

/-! ### Fill -/
def fillR (r : List Int) (a k : Nat) (x : Int) : List Int := r.take a ++ (List.replicate k x ++ r.drop (a + k))
theorem fillR_length {r : List Int} {a k : Nat} {x : Int} (h : a + k ≤ r.length) : (fillR r a k x).length = r.length := by
  unfold fillR
  rw [List.length_append, List.length_append, List.length_take, List.length_replicate, List.length_drop]; omega
theorem fillR_zero (r : List Int) (a : Nat) (x : Int) : fillR r a 0 x = r := by simp [fillR]
theorem fillR_get {r : List Int} {a k i : Nat} {x : Int} (h : a + k ≤ r.length) : (fillR r a k x)[i]? = if a ≤ i ∧ i < a + k then some x else r[i]? := by
  unfold fillR
  by_cases h1 : i < a
  · rw [List.getElem?_append_left (by rw [List.length_take]; omega), List.getElem?_take_of_lt h1, if_neg (by omega)]
  · rw [List.getElem?_append_right (by rw [List.length_take]; omega), List.length_take]
    have e : i - min a r.length = i - a := by omega
    rw [e]
    by_cases h2 : i < a + k
    · rw [List.getElem?_append_left (by rw [List.length_replicate]; omega), if_pos ⟨by omega, h2⟩, List.getElem?_replicate, if_pos (by omega)]
    · rw [List.getElem?_append_right (by rw [List.length_replicate]; omega), List.length_replicate, List.getElem?_drop, if_neg (by omega)]
      congr 1; omega
theorem fillR_succ {r : List Int} {a k : Nat} {x : Int} (h : a + k < r.length) : (fillR r a k x).set (a + k) x = fillR r a (k + 1) x := by
  apply List.ext_getElem?
  intro i
  by_cases hi : a + k = i
  · subst hi
    rw [List.getElem?_set_self (by rw [fillR_length (by omega)]; exact h), fillR_get (by omega), if_pos ⟨by omega, by omega⟩]
  · rw [List.getElem?_set_ne hi, fillR_get (by omega), fillR_get (by omega)]
    by_cases hc : a ≤ i ∧ i < a + k
    · rw [if_pos hc, if_pos ⟨hc.1, by omega⟩]
    · rw [if_neg hc, if_neg (by omega)]
def lcFil : ACon Unit := mkLC (decP (shCons (shSub 0) (shOne shI)) (shHOne (shRowsI .i64 3 63))) fun (((ep, r, lo, len), x), ⟨l, oe, ep2⟩) => .ask (ep = ep2 ∧ r < l.length ∧ lo + len ≤ (l.getD r []).length ∧ (l.getD r []).length ≤ 255 ∧ 0 < len)
  (.one (.t []) [.rows (.i .i64 (l.set r (fillR (l.getD r []) lo len x))) 3 63 oe ep none] [0])
def annFi (l : List (List Int)) (r lo : Nat) (x : Int) (len oe ep : Nat) : Ann Unit where
  α := Int
  φ _ k := 0 ≤ k ∧ k ≤ len
  μ _ k := ((len : Int) - k).toNat
  get st := getI st.tm 7
  f st k := tmpl [0, 1, 6] [(7, .v (.int .i64 k))] [(0, .rows (.i .i64 (l.set r (fillR (l.getD r []) lo k.toNat x))) 3 63 oe ep none)] st
set_option maxHeartbeats 4000000 in
theorem ok_fil : ∀ I : Sym.Inv Unit, LCOk I Try.prog 43 lcFil := by
  refine lc_mk (fun (((ep, r, lo, len), x), ⟨l, oe, ep2⟩) => allCfg Try.prog [] tabD 3 [(129, annFi l r lo x len oe ep)]) (fun _ _ => allCfg_ok mixed trivial tabD_ok) (fun _ => rfl) (n := 80) Try.func43 ?_
  intro ⟨⟨⟨ep, r, lo, len⟩, x⟩, ⟨l, oe, ep2⟩⟩ hφ
  obtain ⟨⟨rfl, h1, h2, h3, h4⟩, hp⟩ := id hφ
  refine kcast (B := (rq (ep.beq ep && r.blt (Rws.i IntKind.i64 l).len && Nat.blt (0 : Nat) ((Rws.i IntKind.i64 l).nAt r)) ((II (0 : Int) ≤ (0 : Int) ∧ (0 : Int) ≤ (↑len : Int)) ∧ ((SV.h (0 : Nat) [ep, (1 : Nat), r, lo, len, (0 : Nat)] = SV.h (0 : Nat) [ep, (1 : Nat), r, lo, len, (0 : Nat)] ∧ SV.v (Value.int IntKind.i64 x) = SV.v (Value.int IntKind.i64 x) ∧ SV.v (Value.int IntKind.i64 (↑len : Int)) = SV.v (Value.int IntKind.i64 (↑len : Int)) ∧ SV.v (Value.int IntKind.i64 (0 : Int)) = SV.v (Value.int IntKind.i64 (0 : Int)) ∧ True) ∧ (oe = oe ∧ ep = ep ∧ l = l.set r (fillR (l.getD r (LI [])) lo (0 : Nat) x)) ∧ True) ∧ ∀ (x_1 : Int), (0 : Int) ≤ x_1 ∧ x_1 ≤ (↑len : Int) → br (decide (x_1 < (↑len : Int))) (rq (ep.beq ep && r.blt (Rws.i IntKind.i64 (l.set r (fillR (l.getD r (LI [])) lo x_1.toNat x))).len && ((Rws.i IntKind.i64 (l.set r (fillR (l.getD r (LI [])) lo x_1.toNat x))).sz.beq (1 : Nat) && ((lo + len).ble ((Rws.i IntKind.i64 (l.set r (fillR (l.getD r (LI [])) lo x_1.toNat x))).nAt r) && decide ((0 : Int) ≤ x_1 ∧ x_1 < (↑len : Int))))) (rq (ep.beq ep && r.blt (Rws.i IntKind.i64 (l.set r (fillR (l.getD r (LI [])) lo x_1.toNat x))).len && (lo + x_1.toNat).blt ((l.set r (fillR (l.getD r (LI [])) lo x_1.toNat x)).getD r (LI [])).length) (((0 : Int) ≤ IntKind.i64.wrap (x_1 + (1 : Int)) ∧ IntKind.i64.wrap (x_1 + (1 : Int)) ≤ (↑len : Int)) ∧ ((SV.h (0 : Nat) [ep, (1 : Nat), r, lo, len, (0 : Nat)] = SV.h (0 : Nat) [ep, (1 : Nat), r, lo, len, (0 : Nat)] ∧ SV.v (Value.int IntKind.i64 x) = SV.v (Value.int IntKind.i64 x) ∧ SV.v (Value.int IntKind.i64 (↑len : Int)) = SV.v (Value.int IntKind.i64 (↑len : Int)) ∧ SV.v (Value.int IntKind.i64 (IntKind.i64.wrap (x_1 + (1 : Int)))) = SV.v (Value.int IntKind.i64 (IntKind.i64.wrap (x_1 + (1 : Int)))) ∧ True) ∧ (oe = oe ∧ ep = ep ∧ (l.set r (fillR (l.getD r (LI [])) lo x_1.toNat x)).set r (((l.set r (fillR (l.getD r (LI [])) lo x_1.toNat x)).getD r (LI [])).set (lo + x_1.toNat) x) = l.set r (fillR (l.getD r (LI [])) lo (IntKind.i64.wrap (x_1 + (1 : Int))).toNat x)) ∧ True) ∧ ((↑len : Int) - IntKind.i64.wrap (x_1 + (1 : Int))).toNat < ((↑len : Int) - x_1).toNat))) ((SV.t [] = SV.t [] ∧ True) ∧ (oe = oe ∧ ep = ep ∧ l.set r (fillR (l.getD r (LI [])) lo x_1.toNat x) = l.set r (fillR (l.getD r (LI [])) lo len x)) ∧ True)))) (by kernel_rfl) ?_
  clear hp hφ
  have hset : ∀ y, (l.set r y).getD r [] = y := fun y => by rw [List.getD, List.getElem?_set_self h1]; rfl
  have hfl : ∀ k, k ≤ len → (fillR (l.getD r []) lo k x).length = (l.getD r []).length := fun k hk => fillR_length (by omega)
  simp only [LI, II, LLI, eLen, eNat, eSz, hset, List.length_set, nbeq, rq_iff, br_iff, Bool.true_and, Bool.and_true, true_and, and_true, Bool.and_eq_true, Nat.ble_eq, Nat.blt_eq, decide_eq_true_eq, decide_eq_false_iff_not]
  refine ⟨⟨h1, by omega⟩, ⟨by omega, by omega⟩, ?_, fun k ⟨hk0, hk1⟩ => ⟨fun hlt => ?_, fun hge => ?_⟩⟩
  · rw [fillR_zero]
    apply List.ext_getElem?
    intro i
    by_cases hi : r = i
    · subst hi; rw [List.getElem?_set_self h1, List.getD, List.getElem?_eq_getElem h1]; rfl
    · rw [List.getElem?_set_ne hi]
  · rw [hfl _ (by omega), wrap64 (x := k + 1) (by omega) (by omega)]
    have e1 : (k + 1).toNat = k.toNat + 1 := by omega
    rw [e1, List.set_set, fillR_succ (by omega)]
    exact ⟨⟨h1, h2, hk0, hlt⟩, ⟨h1, by omega⟩, ⟨by omega, by omega⟩, rfl, by omega⟩
  · have : k.toNat = len := by omega
    rw [this]
def tabH : List (Nat × ACon Unit) := (43, lcFil) :: tabH0
theorem tabH_ok : LCs Try.prog tabH := ⟨ok_fil, tabH0_ok⟩
def lcRes : ACon Unit := lcOr lcRes1 lcRes0
theorem ok_res : ∀ I : Sym.Inv Unit, LCOk I Try.prog 24 lcRes := lcOr_ok ok_res1 ok_res0

end Go.Proofs.Ytpdhnmnjccnbmaa
