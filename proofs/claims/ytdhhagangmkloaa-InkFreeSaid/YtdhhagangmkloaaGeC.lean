/- Layer 6: the document's answer, contracts. -/
import Derived.Test.YtdhhagangmkloaaGeB
set_option linter.unusedSimpArgs false
set_option linter.unusedVariables false
set_option linter.unusedSectionVars false
namespace Go.Proofs.Ytdhhagangmkloaa
open Go Go.Sym

def refC (R C : Int) (xs : List C4) (n : Nat) : List (SB Unit) := [.gone, .gone, .gone, .gone, .gone, .gone, .gone, .gone, .gone, .cells [.v (.int .i64 R), .v (.int .i64 C), .h 13 [0, 0]] 94, .gone, .own (.recs xs) n 38 4 0 false]
def lcRCopy : ACon Unit := mkLC (decP (shOne (shP 0)) (shRefF 0)) fun (_, ((R, C, ep), ⟨xs, n, ep2⟩)) => .ask (ep = ep2 ∧ FW R C xs n) (.one (.p 11 0) (refF 0 R C xs n ep ++ refC R C xs n) [])
set_option maxHeartbeats 4000000 in
theorem ok_rcopy : ∀ I : Sym.Inv Unit, LCOk I Try.prog 72 lcRCopy := by
  refine lc_mk (fun _ => allCfg Try.prog [] tabT0 3) (fun _ _ => allCfg_ok mixed trivial tabT0_ok) (fun _ => rfl) (n := 80) Try.func72 ?_
  intro ⟨_, ⟨R, C, ep⟩, ⟨xs, n, ep2⟩⟩ hφ
  obtain ⟨⟨rfl, hw⟩, hp⟩ := id hφ
  refine kcast (B := (rq (true && (ep.beq ep && true && decide ((0 : Nat) + n ≤ (9223372036854775807 : Nat) ∧ ((0 : Nat) + n) * (32 : Nat) ≤ (140737488355328 : Nat)))) ((SV.p (11 : Nat) (0 : Nat) = SV.p (11 : Nat) (0 : Nat) ∧ True) ∧ (SV.v (Value.int IntKind.i64 R) = SV.v (Value.int IntKind.i64 R) ∧ SV.v (Value.int IntKind.i64 C) = SV.v (Value.int IntKind.i64 C) ∧ SV.h (1 : Nat) [ep, (0 : Nat)] = SV.h (1 : Nat) [ep, (0 : Nat)] ∧ True) ∧ (n = n ∧ ep = ep ∧ xs = xs) ∧ True ∧ True ∧ True ∧ True ∧ True ∧ True ∧ True ∧ True ∧ True ∧ (SV.v (Value.int IntKind.i64 R) = SV.v (Value.int IntKind.i64 R) ∧ SV.v (Value.int IntKind.i64 C) = SV.v (Value.int IntKind.i64 C) ∧ SV.h (13 : Nat) [(0 : Nat), (0 : Nat)] = SV.h (13 : Nat) [(0 : Nat), (0 : Nat)] ∧ True) ∧ True ∧ ((0 : Nat) + n = n ∧ (0 : Nat) = (0 : Nat) ∧ [] ++ xs = xs) ∧ True))) (by kernel_rfl) ?_
  have h1 := hw.r0
  have h2 := hw.r1
  have h3 := hw.c0
  have h4 := hw.c1
  have h5 := hw.sz
  obtain ⟨m1, m2⟩ := mul_bd (r := R) (C := C) (by omega) (by omega) (by omega) (by omega)
  simp only [rq_iff, nbeq, Bool.true_and, Bool.and_true, decide_eq_true_eq, true_and, and_true]
  exact ⟨by omega, by omega, rfl⟩
def minusR (n : Int) : Int := if n > 1000 then -1000 else if n < -1000 then 1000 else -n
def lcMinusR : ACon Unit := mkLC (decP (shOne shI) shHNil) fun (n, _) => .one (.v (.int .i64 (minusR n))) [] []
set_option maxHeartbeats 4000000 in
theorem ok_minusR : ∀ I : Sym.Inv Unit, LCOk I Try.prog 73 lcMinusR := by
  refine lc_mk (fun _ => allCfg Try.prog [] [] 0) (fun _ _ => allCfg_ok mixed trivial trivial) (fun _ => rfl) (n := 60) Try.func73 ?_
  intro ⟨n, _⟩ hφ
  refine kcast (B := (br (decide (n > (1000 : Int))) ((SV.v (Value.int IntKind.i64 (-1000 : Int)) = SV.v (Value.int IntKind.i64 (minusR n)) ∧ True) ∧ True) (br (decide (n < (-1000 : Int))) ((SV.v (Value.int IntKind.i64 (1000 : Int)) = SV.v (Value.int IntKind.i64 (minusR n)) ∧ True) ∧ True) ((SV.v (Value.int IntKind.i64 (IntKind.i64.wrap ((0 : Int) - n))) = SV.v (Value.int IntKind.i64 (minusR n)) ∧ True) ∧ True)))) (by kernel_rfl) ?_
  unfold minusR
  by_cases h1 : n > 1000
  · simp [br_iff, h1]
  · by_cases h2 : n < -1000
    · simp [br_iff, h1, h2]
    · have h3 : IntKind.i64.wrap (-n) = -n := wrap64 (by omega) (by omega)
      simp [br_iff, h1, h2, h3]
def tabC6 : List (Nat × ACon Unit) := (72, lcRCopy) :: (73, lcMinusR) :: tabT0
theorem tabC6_ok : LCs Try.prog tabC6 := ⟨ok_rcopy, ok_minusR, tabT0_ok⟩

/-! ### How many are guarded -/
def gdRK (xs : List C4) (a i : Nat) : Int := ((List.range i).countP fun j => decide (a ≤ j) && (xs.getD j C4.no).gd : Nat)
theorem gdRK_step {xs : List C4} {a i : Nat} (h : a ≤ i) : gdRK xs a (i + 1) = gdRK xs a i + if (xs.getD i C4.no).gd = true then 1 else 0 := by
  unfold gdRK
  rw [List.range_succ, List.countP_append]
  simp only [List.countP_cons, List.countP_nil, decide_eq_true h, Bool.true_and]
  split <;> simp
theorem gdRK_zero (xs : List C4) (a : Nat) : gdRK xs a a = 0 := by
  unfold gdRK
  have : (List.range a).countP (fun j => decide (a ≤ j) && (xs.getD j C4.no).gd) = 0 := by
    rw [List.countP_eq_zero]
    intro j hj
    have := List.mem_range.1 hj
    simp; omega
  rw [this]; rfl
theorem gdRK_le (xs : List C4) (a i : Nat) : 0 ≤ gdRK xs a i ∧ gdRK xs a i ≤ i := by
  unfold gdRK
  have := List.countP_le_length (p := fun j => decide (a ≤ j) && (xs.getD j C4.no).gd) (l := List.range i)
  rw [List.length_range] at this
  omega
def annRG (xs : List C4) (a n : Nat) : Ann Unit where
  α := Int
  φ _ i := a ≤ i ∧ i ≤ n
  μ _ i := ((n : Int) - i).toNat
  get st := getI st.tm 6
  f st i := tmpl [0] [(6, .v (.int .i64 i)), (5, .v (.int .i64 (gdRK xs a i.toNat)))] [] st
def lcRGuarded : ACon Unit := mkLC (decP (shCons (shP 0) (shOne shI)) (shRefF 0)) fun ((_, row), ((R, C, ep), ⟨xs, n, ep2⟩)) => .ask (ep = ep2 ∧ FW R C xs n ∧ 0 ≤ row ∧ row < R) (.one (.v (.int .i64 (gdRK xs (row * C).toNat n))) (refF 0 R C xs n ep) [])
set_option maxHeartbeats 4000000 in
theorem ok_rguarded : ∀ I : Sym.Inv Unit, LCOk I Try.prog 51 lcRGuarded := by
  refine lc_mk (fun ((_, row), ((R, C, ep), ⟨xs, n, ep2⟩)) => allCfg Try.prog [] tabC6 3 [(263, annRG xs (row * C).toNat n)]) (fun _ _ => allCfg_ok mixed trivial tabC6_ok) (fun _ => rfl) (n := 80) Try.func51 ?_
  intro ⟨⟨_, row⟩, ⟨R, C, ep⟩, ⟨xs, n, ep2⟩⟩ hφ
  obtain ⟨⟨rfl, hw, hr0, hr1⟩, hp⟩ := id hφ
  refine kcast (B := (((↑(row * C).toNat : Int) ≤ IntKind.i64.wrap (row * C) ∧ IntKind.i64.wrap (row * C) ≤ (↑n : Int)) ∧ ((SV.p (0 : Nat) (0 : Nat) = SV.p (0 : Nat) (0 : Nat) ∧ SV.v (Value.int IntKind.i64 (0 : Int)) = SV.v (Value.int IntKind.i64 (gdRK xs (row * C).toNat (IntKind.i64.wrap (row * C)).toNat)) ∧ SV.v (Value.int IntKind.i64 (IntKind.i64.wrap (row * C))) = SV.v (Value.int IntKind.i64 (IntKind.i64.wrap (row * C))) ∧ True) ∧ (SV.v (Value.int IntKind.i64 R) = SV.v (Value.int IntKind.i64 R) ∧ SV.v (Value.int IntKind.i64 C) = SV.v (Value.int IntKind.i64 C) ∧ SV.h (1 : Nat) [ep, (0 : Nat)] = SV.h (1 : Nat) [ep, (0 : Nat)] ∧ True) ∧ (n = n ∧ ep = ep ∧ xs = xs) ∧ True) ∧ ∀ (x : Int), (↑(row * C).toNat : Int) ≤ x ∧ x ≤ (↑n : Int) → rq (ep.beq ep) (br (decide (x < (↑n : Int))) (rq (ep.beq ep && (Nat.beq (4 : Nat) (4 : Nat) && decide ((0 : Int) ≤ x ∧ x < (↑n : Int)))) (rq (ep.beq ep && x.toNat.blt n) (rq (ep.beq ep && x.toNat.blt xs.length) (br (xs.getD x.toNat C4.no).gd (((↑(row * C).toNat : Int) ≤ IntKind.i64.wrap (x + (1 : Int)) ∧ IntKind.i64.wrap (x + (1 : Int)) ≤ (↑n : Int)) ∧ ((SV.p (0 : Nat) (0 : Nat) = SV.p (0 : Nat) (0 : Nat) ∧ SV.v (Value.int IntKind.i64 (IntKind.i64.wrap (gdRK xs (row * C).toNat x.toNat + (1 : Int)))) = SV.v (Value.int IntKind.i64 (gdRK xs (row * C).toNat (IntKind.i64.wrap (x + (1 : Int))).toNat)) ∧ SV.v (Value.int IntKind.i64 (IntKind.i64.wrap (x + (1 : Int)))) = SV.v (Value.int IntKind.i64 (IntKind.i64.wrap (x + (1 : Int)))) ∧ True) ∧ (SV.v (Value.int IntKind.i64 R) = SV.v (Value.int IntKind.i64 R) ∧ SV.v (Value.int IntKind.i64 C) = SV.v (Value.int IntKind.i64 C) ∧ SV.h (1 : Nat) [ep, (0 : Nat)] = SV.h (1 : Nat) [ep, (0 : Nat)] ∧ True) ∧ (n = n ∧ ep = ep ∧ xs = xs) ∧ True) ∧ ((↑n : Int) - IntKind.i64.wrap (x + (1 : Int))).toNat < ((↑n : Int) - x).toNat) (((↑(row * C).toNat : Int) ≤ IntKind.i64.wrap (x + (1 : Int)) ∧ IntKind.i64.wrap (x + (1 : Int)) ≤ (↑n : Int)) ∧ ((SV.p (0 : Nat) (0 : Nat) = SV.p (0 : Nat) (0 : Nat) ∧ SV.v (Value.int IntKind.i64 (gdRK xs (row * C).toNat x.toNat)) = SV.v (Value.int IntKind.i64 (gdRK xs (row * C).toNat (IntKind.i64.wrap (x + (1 : Int))).toNat)) ∧ SV.v (Value.int IntKind.i64 (IntKind.i64.wrap (x + (1 : Int)))) = SV.v (Value.int IntKind.i64 (IntKind.i64.wrap (x + (1 : Int)))) ∧ True) ∧ (SV.v (Value.int IntKind.i64 R) = SV.v (Value.int IntKind.i64 R) ∧ SV.v (Value.int IntKind.i64 C) = SV.v (Value.int IntKind.i64 C) ∧ SV.h (1 : Nat) [ep, (0 : Nat)] = SV.h (1 : Nat) [ep, (0 : Nat)] ∧ True) ∧ (n = n ∧ ep = ep ∧ xs = xs) ∧ True) ∧ ((↑n : Int) - IntKind.i64.wrap (x + (1 : Int))).toNat < ((↑n : Int) - x).toNat))))) ((SV.v (Value.int IntKind.i64 (gdRK xs (row * C).toNat x.toNat)) = SV.v (Value.int IntKind.i64 (gdRK xs (row * C).toNat n)) ∧ True) ∧ (SV.v (Value.int IntKind.i64 R) = SV.v (Value.int IntKind.i64 R) ∧ SV.v (Value.int IntKind.i64 C) = SV.v (Value.int IntKind.i64 C) ∧ SV.h (1 : Nat) [ep, (0 : Nat)] = SV.h (1 : Nat) [ep, (0 : Nat)] ∧ True) ∧ (n = n ∧ ep = ep ∧ xs = xs) ∧ True)))) (by kernel_rfl) ?_
  clear hp hφ
  have h1 := hw.r0
  have h2 := hw.r1
  have h3 := hw.c0
  have h4 := hw.c1
  have h5 := hw.sz
  have hlen := hw.len
  obtain ⟨m1, m2⟩ := mul_bd (r := row) (C := C) (by omega) (by omega) (by omega) (by omega)
  obtain ⟨m3, m4⟩ := mul_bd (r := R) (C := C) (by omega) (by omega) (by omega) (by omega)
  have m5 := ix_bd (R := R) (C := C) hr1 (show (0 : Int) < C by omega) (Int.le_refl _)
  rw [wrap64 (x := row * C) (by omega) (by omega)]
  simp only [II, br_iff, rq_iff, nbeq, hlen, true_and, and_true, true_implies, Bool.true_and, Bool.and_true, Bool.and_eq_true, Nat.ble_eq, Nat.blt_eq, decide_eq_true_eq, decide_eq_false_iff_not]
  refine ⟨by omega, by rw [gdRK_zero], fun x ⟨x0, x1⟩ => ⟨fun hx => ?_, fun hx => ?_⟩⟩
  · have hs := gdRK_step (xs := xs) (a := (row * C).toNat) (i := x.toNat) (by omega)
    have hb := gdRK_le xs (row * C).toNat x.toNat
    rw [wrap64 (x := x + 1) (by omega) (by omega)]
    have e1 : (x + 1).toNat = x.toNat + 1 := by omega
    rw [e1, hs]
    refine ⟨by omega, by omega, by omega, fun hq => ⟨by omega, ?_, by omega⟩, fun hq => ⟨by omega, ?_, by omega⟩⟩
    · rw [if_pos hq, wrap64 (by omega) (by omega)]
    · rw [hq]; simp
  · have : x.toNat = n := by omega
    rw [this]

/-! ### Fields -/
def gdr (C : Int) (xs : List C4) (r : Int) (j : Nat) : Bool := (un C.toNat xs r.toNat j).gd
def fdRF (C : Int) (xs : List C4) (r c : Int) : Int := (fdA (gdr C xs r) c.toNat : Nat)
def fdRT (C : Int) (xs : List C4) (r c : Int) : Int := (fdZ (gdr C xs r) c.toNat (C.toNat - 1 - c.toNat) : Nat)
theorem rf_ph2 {C : Int} {xs : List C4} {n : Nat} {r c x : Int} (h4 : C ≤ 255) (r0 : 0 ≤ r) (r1 : r ≤ 255) (c0 : 0 ≤ c) (c1 : c < C) (key : ∀ y : Int, 0 ≤ y → y < C → (xs.getD (r * C + y).toNat C4.no).gd = gdr C xs r y.toNat) (hbd : ∀ y : Int, 0 ≤ y → y < C → r * C + y < (n : Int)) (hx : fdRF C xs r c = x) :
    (c ≤ c ∧ c < C) ∧ ∀ (y : Int), c ≤ y ∧ y < C ∧ fdRT C xs r y = fdRT C xs r c →
      (y < IntKind.i64.wrap (C - 1) → (0 ≤ r ∧ 0 ≤ IntKind.i64.wrap (y + 1) ∧ r ≤ 255 ∧ 0 ≤ C ∧ C ≤ 255 ∧ IntKind.i64.wrap (y + 1) ≤ 255 ∧ r * C + IntKind.i64.wrap (y + 1) < (n : Int)) ∧
          ((xs.getD (r * C + IntKind.i64.wrap (y + 1)).toNat C4.no).gd = false → (c ≤ IntKind.i64.wrap (y + 1) ∧ IntKind.i64.wrap (y + 1) < C ∧ fdRT C xs r (IntKind.i64.wrap (y + 1)) = fdRT C xs r c) ∧ (C - IntKind.i64.wrap (y + 1)).toNat < (C - y).toNat) ∧
          ((xs.getD (r * C + IntKind.i64.wrap (y + 1)).toNat C4.no).gd = true → SV.t [SV.v (Value.int IntKind.i64 x), SV.v (Value.int IntKind.i64 y)] = SV.t [SV.v (Value.int IntKind.i64 (fdRF C xs r c)), SV.v (Value.int IntKind.i64 (fdRT C xs r c))])) ∧
      (¬ y < IntKind.i64.wrap (C - 1) → SV.t [SV.v (Value.int IntKind.i64 x), SV.v (Value.int IntKind.i64 y)] = SV.t [SV.v (Value.int IntKind.i64 (fdRF C xs r c)), SV.v (Value.int IntKind.i64 (fdRT C xs r c))]) := by
  refine ⟨⟨Int.le_refl _, c1⟩, fun y ⟨y0, y1, y2⟩ => ?_⟩
  rw [wrap64 (x := C - 1) (by omega) (by omega), wrap64 (x := y + 1) (by omega) (by omega)]
  obtain ⟨m, rfl⟩ : ∃ m : Nat, y = m := ⟨y.toNat, by omega⟩
  refine ⟨fun hy => ?_, fun hy => ?_⟩
  · have hk := key ((m : Int) + 1) (by omega) (by omega)
    have hb := hbd ((m : Int) + 1) (by omega) (by omega)
    have e : ((m : Int) + 1).toNat = m + 1 := by omega
    rw [hk, e]
    obtain ⟨d, hd⟩ : ∃ d, C.toNat - 1 - m = d + 1 := ⟨C.toNat - 1 - m - 1, by omega⟩
    refine ⟨⟨r0, by omega, r1, by omega, h4, by omega, hb⟩, fun hq => ⟨⟨by omega, by omega, ?_⟩, by omega⟩, fun hq => ?_⟩
    · rw [← y2]
      unfold fdRT
      rw [e, Int.toNat_natCast, hd, fdZ, if_neg (by rw [hq]; simp)]
      congr 2; omega
    · have : fdRT C xs r m = m := by
        unfold fdRT
        rw [Int.toNat_natCast, hd, fdZ, if_pos hq]
      rw [hx, ← y2, this]
  · have : fdRT C xs r m = m := by
      unfold fdRT
      rw [Int.toNat_natCast, show C.toNat - 1 - m = 0 by omega]; rfl
    rw [hx, ← y2, this]
def annR0 (C : Int) (xs : List C4) (r c : Int) : Ann Unit where
  α := Int
  φ _ x := 0 ≤ x ∧ x ≤ c ∧ fdRF C xs r x = fdRF C xs r c
  μ _ x := x.toNat
  get st := getI st.tm 6
  f st x := tmpl [0, 3] [(6, .v (.int .i64 x))] [] st
def annR1 (C : Int) (xs : List C4) (r c : Int) : Ann Unit where
  α := Int
  φ _ x := c ≤ x ∧ x < C ∧ fdRT C xs r x = fdRT C xs r c
  μ _ x := (C - x).toNat
  get st := getI st.tm 7
  f st x := tmpl [0, 3, 6] [(7, .v (.int .i64 x))] [] st
def lcRField : ACon Unit := mkLC (decP (shCons (shP 0) (shOne shI2)) (shRefF 0)) fun ((_, (r, c)), ((R, C, ep), ⟨xs, n, ep2⟩)) => .ask (ep = ep2 ∧ FW R C xs n ∧ inD R C r c = true) (.one (.t [.v (.int .i64 (fdRF C xs r c)), .v (.int .i64 (fdRT C xs r c))]) (refF 0 R C xs n ep) [])
set_option maxHeartbeats 4000000 in
theorem ok_rfield : ∀ I : Sym.Inv Unit, LCOk I Try.prog 31 lcRField := by
  refine lc_mk (fun ((_, (r, c)), ((R, C, ep), ⟨xs, n, ep2⟩)) => allCfg Try.prog [] tabC6 3 [(204, annR0 C xs r c), (401, annR1 C xs r c)]) (fun _ _ => allCfg_ok mixed trivial tabC6_ok) (fun _ => rfl) (n := 80) Try.func31 ?_
  intro ⟨⟨_, r, c⟩, ⟨R, C, ep⟩, ⟨xs, n, ep2⟩⟩ hφ
  obtain ⟨⟨rfl, hw, hin⟩, hp⟩ := id hφ
  refine kcast (B := (((0 : Int) ≤ c ∧ c ≤ c ∧ fdRF C xs r c = fdRF C xs r c) ∧ ((SV.p (0 : Nat) (0 : Nat) = SV.p (0 : Nat) (0 : Nat) ∧ SV.p (2 : Nat) (0 : Nat) = SV.p (2 : Nat) (0 : Nat) ∧ SV.v (Value.int IntKind.i64 c) = SV.v (Value.int IntKind.i64 c) ∧ True) ∧ (SV.v (Value.int IntKind.i64 R) = SV.v (Value.int IntKind.i64 R) ∧ SV.v (Value.int IntKind.i64 C) = SV.v (Value.int IntKind.i64 C) ∧ SV.h (1 : Nat) [ep, (0 : Nat)] = SV.h (1 : Nat) [ep, (0 : Nat)] ∧ True) ∧ (n = n ∧ ep = ep ∧ xs = xs) ∧ (SV.v (Value.int IntKind.i64 r) = SV.v (Value.int IntKind.i64 r) ∧ SV.v (Value.int IntKind.i64 c) = SV.v (Value.int IntKind.i64 c) ∧ True) ∧ True) ∧ ∀ (x : Int), (0 : Int) ≤ x ∧ x ≤ c ∧ fdRF C xs r x = fdRF C xs r c → br (decide (x > (0 : Int))) (true = true ∧ (ep = ep ∧ xs.length = n ∧ (0 : Int) ≤ r ∧ (0 : Int) ≤ IntKind.i64.wrap (x - (1 : Int)) ∧ r ≤ (255 : Int) ∧ (0 : Int) ≤ C ∧ C ≤ (255 : Int) ∧ IntKind.i64.wrap (x - (1 : Int)) ≤ (255 : Int) ∧ r * C + IntKind.i64.wrap (x - (1 : Int)) < (↑n : Int)) ∧ br (!(xs.getD (r * C + IntKind.i64.wrap (x - (1 : Int))).toNat C4.no).gd) (((0 : Int) ≤ IntKind.i64.wrap (x - (1 : Int)) ∧ IntKind.i64.wrap (x - (1 : Int)) ≤ c ∧ fdRF C xs r (IntKind.i64.wrap (x - (1 : Int))) = fdRF C xs r c) ∧ ((SV.p (0 : Nat) (0 : Nat) = SV.p (0 : Nat) (0 : Nat) ∧ SV.p (2 : Nat) (0 : Nat) = SV.p (2 : Nat) (0 : Nat) ∧ SV.v (Value.int IntKind.i64 (IntKind.i64.wrap (x - (1 : Int)))) = SV.v (Value.int IntKind.i64 (IntKind.i64.wrap (x - (1 : Int)))) ∧ True) ∧ (SV.v (Value.int IntKind.i64 R) = SV.v (Value.int IntKind.i64 R) ∧ SV.v (Value.int IntKind.i64 C) = SV.v (Value.int IntKind.i64 C) ∧ SV.h (1 : Nat) [ep, (0 : Nat)] = SV.h (1 : Nat) [ep, (0 : Nat)] ∧ True) ∧ (n = n ∧ ep = ep ∧ xs = xs) ∧ (SV.v (Value.int IntKind.i64 r) = SV.v (Value.int IntKind.i64 r) ∧ SV.v (Value.int IntKind.i64 c) = SV.v (Value.int IntKind.i64 c) ∧ True) ∧ True) ∧ (IntKind.i64.wrap (x - (1 : Int))).toNat < x.toNat) ((c ≤ c ∧ c < C ∧ fdRT C xs r c = fdRT C xs r c) ∧ ((SV.p (0 : Nat) (0 : Nat) = SV.p (0 : Nat) (0 : Nat) ∧ SV.p (2 : Nat) (0 : Nat) = SV.p (2 : Nat) (0 : Nat) ∧ SV.v (Value.int IntKind.i64 x) = SV.v (Value.int IntKind.i64 x) ∧ SV.v (Value.int IntKind.i64 c) = SV.v (Value.int IntKind.i64 c) ∧ True) ∧ (SV.v (Value.int IntKind.i64 R) = SV.v (Value.int IntKind.i64 R) ∧ SV.v (Value.int IntKind.i64 C) = SV.v (Value.int IntKind.i64 C) ∧ SV.h (1 : Nat) [ep, (0 : Nat)] = SV.h (1 : Nat) [ep, (0 : Nat)] ∧ True) ∧ (n = n ∧ ep = ep ∧ xs = xs) ∧ (SV.v (Value.int IntKind.i64 r) = SV.v (Value.int IntKind.i64 r) ∧ SV.v (Value.int IntKind.i64 c) = SV.v (Value.int IntKind.i64 c) ∧ True) ∧ True) ∧ ∀ (x_1 : Int), c ≤ x_1 ∧ x_1 < C ∧ fdRT C xs r x_1 = fdRT C xs r c → br (decide (x_1 < IntKind.i64.wrap (C - (1 : Int)))) (true = true ∧ (ep = ep ∧ xs.length = n ∧ (0 : Int) ≤ r ∧ (0 : Int) ≤ IntKind.i64.wrap (x_1 + (1 : Int)) ∧ r ≤ (255 : Int) ∧ (0 : Int) ≤ C ∧ C ≤ (255 : Int) ∧ IntKind.i64.wrap (x_1 + (1 : Int)) ≤ (255 : Int) ∧ r * C + IntKind.i64.wrap (x_1 + (1 : Int)) < (↑n : Int)) ∧ br (!(xs.getD (r * C + IntKind.i64.wrap (x_1 + (1 : Int))).toNat C4.no).gd) ((c ≤ IntKind.i64.wrap (x_1 + (1 : Int)) ∧ IntKind.i64.wrap (x_1 + (1 : Int)) < C ∧ fdRT C xs r (IntKind.i64.wrap (x_1 + (1 : Int))) = fdRT C xs r c) ∧ ((SV.p (0 : Nat) (0 : Nat) = SV.p (0 : Nat) (0 : Nat) ∧ SV.p (2 : Nat) (0 : Nat) = SV.p (2 : Nat) (0 : Nat) ∧ SV.v (Value.int IntKind.i64 x) = SV.v (Value.int IntKind.i64 x) ∧ SV.v (Value.int IntKind.i64 (IntKind.i64.wrap (x_1 + (1 : Int)))) = SV.v (Value.int IntKind.i64 (IntKind.i64.wrap (x_1 + (1 : Int)))) ∧ True) ∧ (SV.v (Value.int IntKind.i64 R) = SV.v (Value.int IntKind.i64 R) ∧ SV.v (Value.int IntKind.i64 C) = SV.v (Value.int IntKind.i64 C) ∧ SV.h (1 : Nat) [ep, (0 : Nat)] = SV.h (1 : Nat) [ep, (0 : Nat)] ∧ True) ∧ (n = n ∧ ep = ep ∧ xs = xs) ∧ (SV.v (Value.int IntKind.i64 r) = SV.v (Value.int IntKind.i64 r) ∧ SV.v (Value.int IntKind.i64 c) = SV.v (Value.int IntKind.i64 c) ∧ True) ∧ True) ∧ (C - IntKind.i64.wrap (x_1 + (1 : Int))).toNat < (C - x_1).toNat) ((SV.t [SV.v (Value.int IntKind.i64 x), SV.v (Value.int IntKind.i64 x_1)] = SV.t [SV.v (Value.int IntKind.i64 (fdRF C xs r c)), SV.v (Value.int IntKind.i64 (fdRT C xs r c))] ∧ True) ∧ (SV.v (Value.int IntKind.i64 R) = SV.v (Value.int IntKind.i64 R) ∧ SV.v (Value.int IntKind.i64 C) = SV.v (Value.int IntKind.i64 C) ∧ SV.h (1 : Nat) [ep, (0 : Nat)] = SV.h (1 : Nat) [ep, (0 : Nat)] ∧ True) ∧ (n = n ∧ ep = ep ∧ xs = xs) ∧ True)) ((SV.t [SV.v (Value.int IntKind.i64 x), SV.v (Value.int IntKind.i64 x_1)] = SV.t [SV.v (Value.int IntKind.i64 (fdRF C xs r c)), SV.v (Value.int IntKind.i64 (fdRT C xs r c))] ∧ True) ∧ (SV.v (Value.int IntKind.i64 R) = SV.v (Value.int IntKind.i64 R) ∧ SV.v (Value.int IntKind.i64 C) = SV.v (Value.int IntKind.i64 C) ∧ SV.h (1 : Nat) [ep, (0 : Nat)] = SV.h (1 : Nat) [ep, (0 : Nat)] ∧ True) ∧ (n = n ∧ ep = ep ∧ xs = xs) ∧ True))) ((c ≤ c ∧ c < C ∧ fdRT C xs r c = fdRT C xs r c) ∧ ((SV.p (0 : Nat) (0 : Nat) = SV.p (0 : Nat) (0 : Nat) ∧ SV.p (2 : Nat) (0 : Nat) = SV.p (2 : Nat) (0 : Nat) ∧ SV.v (Value.int IntKind.i64 x) = SV.v (Value.int IntKind.i64 x) ∧ SV.v (Value.int IntKind.i64 c) = SV.v (Value.int IntKind.i64 c) ∧ True) ∧ (SV.v (Value.int IntKind.i64 R) = SV.v (Value.int IntKind.i64 R) ∧ SV.v (Value.int IntKind.i64 C) = SV.v (Value.int IntKind.i64 C) ∧ SV.h (1 : Nat) [ep, (0 : Nat)] = SV.h (1 : Nat) [ep, (0 : Nat)] ∧ True) ∧ (n = n ∧ ep = ep ∧ xs = xs) ∧ (SV.v (Value.int IntKind.i64 r) = SV.v (Value.int IntKind.i64 r) ∧ SV.v (Value.int IntKind.i64 c) = SV.v (Value.int IntKind.i64 c) ∧ True) ∧ True) ∧ ∀ (x_1 : Int), c ≤ x_1 ∧ x_1 < C ∧ fdRT C xs r x_1 = fdRT C xs r c → br (decide (x_1 < IntKind.i64.wrap (C - (1 : Int)))) (true = true ∧ (ep = ep ∧ xs.length = n ∧ (0 : Int) ≤ r ∧ (0 : Int) ≤ IntKind.i64.wrap (x_1 + (1 : Int)) ∧ r ≤ (255 : Int) ∧ (0 : Int) ≤ C ∧ C ≤ (255 : Int) ∧ IntKind.i64.wrap (x_1 + (1 : Int)) ≤ (255 : Int) ∧ r * C + IntKind.i64.wrap (x_1 + (1 : Int)) < (↑n : Int)) ∧ br (!(xs.getD (r * C + IntKind.i64.wrap (x_1 + (1 : Int))).toNat C4.no).gd) ((c ≤ IntKind.i64.wrap (x_1 + (1 : Int)) ∧ IntKind.i64.wrap (x_1 + (1 : Int)) < C ∧ fdRT C xs r (IntKind.i64.wrap (x_1 + (1 : Int))) = fdRT C xs r c) ∧ ((SV.p (0 : Nat) (0 : Nat) = SV.p (0 : Nat) (0 : Nat) ∧ SV.p (2 : Nat) (0 : Nat) = SV.p (2 : Nat) (0 : Nat) ∧ SV.v (Value.int IntKind.i64 x) = SV.v (Value.int IntKind.i64 x) ∧ SV.v (Value.int IntKind.i64 (IntKind.i64.wrap (x_1 + (1 : Int)))) = SV.v (Value.int IntKind.i64 (IntKind.i64.wrap (x_1 + (1 : Int)))) ∧ True) ∧ (SV.v (Value.int IntKind.i64 R) = SV.v (Value.int IntKind.i64 R) ∧ SV.v (Value.int IntKind.i64 C) = SV.v (Value.int IntKind.i64 C) ∧ SV.h (1 : Nat) [ep, (0 : Nat)] = SV.h (1 : Nat) [ep, (0 : Nat)] ∧ True) ∧ (n = n ∧ ep = ep ∧ xs = xs) ∧ (SV.v (Value.int IntKind.i64 r) = SV.v (Value.int IntKind.i64 r) ∧ SV.v (Value.int IntKind.i64 c) = SV.v (Value.int IntKind.i64 c) ∧ True) ∧ True) ∧ (C - IntKind.i64.wrap (x_1 + (1 : Int))).toNat < (C - x_1).toNat) ((SV.t [SV.v (Value.int IntKind.i64 x), SV.v (Value.int IntKind.i64 x_1)] = SV.t [SV.v (Value.int IntKind.i64 (fdRF C xs r c)), SV.v (Value.int IntKind.i64 (fdRT C xs r c))] ∧ True) ∧ (SV.v (Value.int IntKind.i64 R) = SV.v (Value.int IntKind.i64 R) ∧ SV.v (Value.int IntKind.i64 C) = SV.v (Value.int IntKind.i64 C) ∧ SV.h (1 : Nat) [ep, (0 : Nat)] = SV.h (1 : Nat) [ep, (0 : Nat)] ∧ True) ∧ (n = n ∧ ep = ep ∧ xs = xs) ∧ True)) ((SV.t [SV.v (Value.int IntKind.i64 x), SV.v (Value.int IntKind.i64 x_1)] = SV.t [SV.v (Value.int IntKind.i64 (fdRF C xs r c)), SV.v (Value.int IntKind.i64 (fdRT C xs r c))] ∧ True) ∧ (SV.v (Value.int IntKind.i64 R) = SV.v (Value.int IntKind.i64 R) ∧ SV.v (Value.int IntKind.i64 C) = SV.v (Value.int IntKind.i64 C) ∧ SV.h (1 : Nat) [ep, (0 : Nat)] = SV.h (1 : Nat) [ep, (0 : Nat)] ∧ True) ∧ (n = n ∧ ep = ep ∧ xs = xs) ∧ True)))) (by kernel_rfl) ?_
  clear hp hφ
  have h1 := hw.r0
  have h2 := hw.r1
  have h3 := hw.c0
  have h4 := hw.c1
  have h5 := hw.sz
  have hlen := hw.len
  have hin := inD_iff.1 hin
  obtain ⟨m1, m2⟩ := mul_bd (r := r) (C := C) (by omega) (by omega) (by omega) (by omega)
  simp only [II, br_iff, rq_iff, nbeq, hlen, true_and, and_true, true_implies, Bool.true_and, Bool.and_true, Bool.and_eq_true, Bool.not_eq_true', Bool.not_eq_false', Nat.ble_eq, Nat.blt_eq, decide_eq_true_eq, decide_eq_false_iff_not]
  have key : ∀ y : Int, 0 ≤ y → y < C → (xs.getD (r * C + y).toNat C4.no).gd = gdr C xs r y.toNat := fun y y0 y1 => by
    have e : (r * C + y).toNat = r.toNat * C.toNat + y.toNat := by
      rw [Int.toNat_add (by omega) y0, Int.toNat_mul (by omega) (by omega)]
    rw [e]; rfl
  have hbd : ∀ y : Int, 0 ≤ y → y < C → r * C + y < (n : Int) := fun y y0 y1 => by
    have := ix_bd (R := R) (C := C) hin.2.1 y1 y0
    omega
  have ph2 := fun x (hx : fdRF C xs r x = fdRF C xs r c) (hs : fdRF C xs r x = x) => rf_ph2 (n := n) (r := r) (c := c) (x := x) h4 hin.1 (by omega) hin.2.2.1 hin.2.2.2 key hbd (hx.symm.trans hs)
  refine ⟨by omega, fun x ⟨x0, x1, x2⟩ => ⟨fun hx => ?_, fun hx => ph2 x x2 ?_⟩⟩
  · rw [wrap64 (x := x - 1) (by omega) (by omega)]
    have hk := key (x - 1) (by omega) (by omega)
    have hb := hbd (x - 1) (by omega) (by omega)
    rw [hk]
    obtain ⟨m, rfl⟩ : ∃ m : Nat, x = (m + 1 : Nat) := ⟨(x - 1).toNat, by omega⟩
    have e : ((m + 1 : Nat) : Int) - 1 = m := by omega
    rw [e] at hb ⊢
    rw [Int.toNat_natCast]
    refine ⟨⟨by omega, by omega, by omega, by omega, by omega, by omega, hb⟩, fun hq => ⟨⟨by omega, by omega, ?_⟩, by omega⟩, fun hq => ph2 _ x2 ?_⟩
    · rw [← x2]
      unfold fdRF
      rw [Int.toNat_natCast, Int.toNat_natCast, fdA, if_neg (by rw [hq]; simp)]
    · unfold fdRF
      rw [Int.toNat_natCast, fdA, if_pos hq]
  · obtain rfl : x = 0 := by omega
    rfl
end Go.Proofs.Ytdhhagangmkloaa
