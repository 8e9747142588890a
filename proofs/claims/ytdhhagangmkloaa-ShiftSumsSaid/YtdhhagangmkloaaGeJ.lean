/- Layer 6: the law of sums, run. -/
import Derived.Test.YtdhhagangmkloaaGeE
import Derived.Test.YtdhhagangmkloaaVW
set_option linter.unusedSimpArgs false
set_option linter.unusedVariables false
set_option linter.unusedSectionVars false
namespace Go.Proofs.Ytdhhagangmkloaa
open Go Go.Sym

def dotC : C4 := ⟨46, 0, false, 0⟩
def annS3 (R : Nat) (C n m : Int) : Ann Unit := annJb 45 [3, 4, 7, 8] fun _ b => b = !(fewB R C && decide (0 ≤ n ∧ n ≤ 10 ∧ 0 ≤ m ∧ m ≤ 10))
def annS5 (n m : Int) : Ann Unit where
  α := Int × Int
  φ _ x := (x.1 = n ∧ x.2 = m) ∨ (x.1 = -n ∧ x.2 = -m)
  μ _ _ := 0
  get st := match getI st.tm 7 with
    | some a => match getI st.tm 8 with
      | some b => some (a, b)
      | none => none
    | none => none
  f st x := tmpl [3, 4] [(7, .v (.int .i64 x.1)), (8, .v (.int .i64 x.2))] [] st
theorem roll_sum {f : Nat → Nat → C4} {t b n m : Int} {x : C4} (ht : 0 ≤ t) (h : (0 ≤ n ∧ 0 ≤ m) ∨ (n ≤ 0 ∧ m ≤ 0)) (r c : Nat) : rollF (rollF f t b n x) t b m x r c = rollF f t b (n + m) x r c := by
  by_cases h1 : t ≤ r ∧ r ≤ b
  · by_cases h2 : n + m ≤ b - r ∧ n + m ≥ t - r
    · have e : ((((r : Int) + m).toNat : Nat) : Int) = r + m := by omega
      rw [rollF, if_pos h1, if_pos (by omega), rollF, e, if_pos (by omega), if_pos (by omega), rollF, if_pos h1, if_pos h2]
      congr 1; omega
    · rw [rollF.eq_1 f, if_pos h1, if_neg h2, rollF, if_pos h1]
      by_cases h3 : m ≤ b - r ∧ m ≥ t - r
      · have e : ((((r : Int) + m).toNat : Nat) : Int) = r + m := by omega
        rw [if_pos h3, rollF, e, if_pos (by omega), if_neg (by omega)]
      · rw [if_neg h3]
  · rw [rollF, if_neg h1, rollF, if_neg h1, rollF, if_neg h1]
theorem slide_sum {f : Nat → Nat → C4} {w a b n m : Int} {x : C4} (ha : 0 ≤ a) (h : (0 ≤ n ∧ 0 ≤ m) ∨ (n ≤ 0 ∧ m ≤ 0)) (r c : Nat) : slideF (slideF f w a b n x) w a b m x r c = slideF f w a b (n + m) x r c := by
  by_cases h1 : r = w ∧ a ≤ c ∧ c ≤ b
  · by_cases h2 : n + m ≤ b - c ∧ n + m ≥ a - c
    · have e : ((((c : Int) + m).toNat : Nat) : Int) = c + m := by omega
      rw [slideF, if_pos h1, if_pos (by omega), slideF, e, if_pos (by omega), if_pos (by omega), slideF, if_pos h1, if_pos h2]
      congr 1; omega
    · rw [slideF.eq_1 f, if_pos h1, if_neg h2, slideF, if_pos h1]
      by_cases h3 : m ≤ b - c ∧ m ≥ a - c
      · have e : ((((c : Int) + m).toNat : Nat) : Int) = c + m := by omega
        rw [if_pos h3, slideF, e, if_pos (by omega), if_neg (by omega)]
      · rw [if_neg h3]
  · rw [slideF, if_neg h1, slideF, if_neg h1, slideF, if_neg h1]
section
variable {l : List (List C4)} {n m : Int}
theorem minusR_small (h : -20 ≤ n ∧ n ≤ 20) : minusR n = -n := by unfold minusR; rw [if_neg (by omega), if_neg (by omega)]
theorem li_sum (hg : GW l) (r : Int) (x : C4) (hn : -10 ≤ n ∧ n ≤ 10) (hm : -10 ≤ m ∧ m ≤ 10) (h : (0 ≤ n ∧ 0 ≤ m) ∨ (n ≤ 0 ∧ m ≤ 0)) : liL (liL l r n x false) r m x false = liL l r (n + m) x false := by
  obtain ⟨g1, d1, d2⟩ := liL_gw hg r n x false
  obtain ⟨g2, d3, d4⟩ := liL_gw g1 r m x false
  obtain ⟨g3, d5, d6⟩ := liL_gw hg r (n + m) x false
  refine grid_eq g2 g3 (by rw [d3, d1, d5]) (by rw [d4, d2, d6]) fun i k hi hk => ?_
  rw [d3, d1] at hi
  rw [d4, d2] at hk
  have hcc : liC (liL l r n x false) r false = liC l r false := by
    unfold liC inB
    rw [d1, d2]; rfl
  rw [liL_at g1 (by rw [d1]; exact hi) (by rw [d2]; exact hk), liL_at hg (n := n + m) hi hk, hcc, d1, minusR_small (by omega), minusR_small (by omega)]
  by_cases hC : liC l r false = true
  · have hrow := liC_row hC
    rw [if_pos hC, if_pos hC, show -(n + m) = -n + -m by omega, ← roll_sum hrow.1 (by omega)]
    refine rollF_congr (R := l.length) (C := nC l) (fun r' c' hr' hc' => ?_) hrow.1 (by omega) hi hk
    rw [liL_at hg hr' hc', if_pos hC, minusR_small (by omega)]
  · rw [if_neg hC, if_neg hC, liL_at hg (n := n) hi hk, if_neg hC]
theorem ch_sum (hg : GW l) (r c : Int) (x : C4) (hn : -10 ≤ n ∧ n ≤ 10) (hm : -10 ≤ m ∧ m ≤ 10) (h : (0 ≤ n ∧ 0 ≤ m) ∨ (n ≤ 0 ∧ m ≤ 0)) : chL (chL l r c n x false) r c m x false = chL l r c (n + m) x false := by
  obtain ⟨g1, d1, d2⟩ := chL_gw hg r c n x false
  obtain ⟨g2, d3, d4⟩ := chL_gw g1 r c m x false
  obtain ⟨g3, d5, d6⟩ := chL_gw hg r c (n + m) x false
  refine grid_eq g2 g3 (by rw [d3, d1, d5]) (by rw [d4, d2, d6]) fun i k hi hk => ?_
  rw [d3, d1] at hi
  rw [d4, d2] at hk
  have hcc : chC (chL l r c n x false) r c false = chC l r c false := by
    unfold chC inB
    rw [d1, d2]; rfl
  have htt : chT (chL l r c n x false) r c false = (nC l : Int) - 1 := by
    show ((nC (chL l r c n x false) : Nat) : Int) - 1 = _
    rw [d2]
  have ht : chT l r c false = (nC l : Int) - 1 := rfl
  rw [chL_at g1 (by rw [d1]; exact hi) (by rw [d2]; exact hk), chL_at hg (n := n + m) hi hk, hcc, htt, ht, minusR_small (by omega), minusR_small (by omega)]
  by_cases hC : chC l r c false = true
  · have hin := inB_iff.1 (chC_in hC)
    rw [if_pos hC, if_pos hC, show -(n + m) = -n + -m by omega, ← slide_sum hin.2.2.1 (by omega)]
    refine slideF_congr (R := l.length) (C := nC l) (fun r' c' hr' hc' => ?_) hin.2.2.1 (by omega) hi hk
    rw [chL_at hg hr' hc', if_pos hC, minusR_small (by omega), ht]
  · rw [if_neg hC, if_neg hC, chL_at hg (n := n) hi hk, if_neg hC]
theorem up_sum (hg : GW l) (x : C4) (h : (0 ≤ n ∧ 0 ≤ m) ∨ (n ≤ 0 ∧ m ≤ 0)) : upF (upF l n x) m x = upF l (n + m) x := by
  obtain ⟨g1, d1, d2⟩ := upF_gw hg n x
  obtain ⟨g2, d3, d4⟩ := upF_gw g1 m x
  obtain ⟨g3, d5, d6⟩ := upF_gw hg (n + m) x
  refine grid_eq g2 g3 (by rw [d3, d1, d5]) (by rw [d4, d2, d6]) fun i k hi hk => ?_
  rw [d3, d1] at hi
  rw [d4, d2] at hk
  rw [upF_at g1 (by rw [d1]; exact hi) (by rw [d2]; exact hk), upF_at hg (n := n + m) hi hk, d1, ← roll_sum (Int.le_refl _) h]
  refine rollF_congr (R := l.length) (C := nC l) (fun r' c' hr' hc' => ?_) (Int.le_refl _) (by omega) hi hk
  rw [upF_at hg hr' hc']
end
set_option maxHeartbeats 4000000 in
theorem run_sums (L : List ByteArray) (C r c N n m : Int) (q : Bool) : Sym.Ask (bodyK Try.prog (run (allCfg Try.prog ptabL6 tabL6 4 [] [(275, annS3 L.length C n m), (1000388, annS5 n m)]) 80) Try.f16 [.a [.r 0 [], .v (.int .i64 C)], turnSV r c N q, .a [.v (.int .i64 n), .v (.int .i64 m)]] [.inp (.ss L)] (fun y _ => y = .v (.bool true))) := by
  refine kcast (B := (br (decide ((↑L.length : Int) ≥ (1 : Int))) (br (decide ((↑L.length : Int) ≤ (8 : Int))) (br (decide (C ≥ (1 : Int))) (br (!decide (C ≤ (12 : Int))) (true = !(fewB L.length C && decide ((0 : Int) ≤ n ∧ n ≤ (10 : Int) ∧ (0 : Int) ≤ m ∧ m ≤ (10 : Int))) ∧ (SV.p (1 : Nat) (0 : Nat) = SV.p (1 : Nat) (0 : Nat) ∧ SV.p (2 : Nat) (0 : Nat) = SV.p (2 : Nat) (0 : Nat) ∧ SV.v (Value.int IntKind.i64 n) = SV.v (Value.int IntKind.i64 n) ∧ SV.v (Value.int IntKind.i64 m) = SV.v (Value.int IntKind.i64 m) ∧ SV.v (Value.bool true) = SV.v (Value.bool true) ∧ True) ∧ IC.ss L = IC.ss L ∧ (SV.r (0 : Nat) [] = SV.r (0 : Nat) [] ∧ SV.v (Value.int IntKind.i64 C) = SV.v (Value.int IntKind.i64 C) ∧ True) ∧ (SV.v (Value.int IntKind.i64 r) = SV.v (Value.int IntKind.i64 r) ∧ SV.v (Value.int IntKind.i64 c) = SV.v (Value.int IntKind.i64 c) ∧ SV.v (Value.int IntKind.i64 N) = SV.v (Value.int IntKind.i64 N) ∧ SV.v (Value.bool q) = SV.v (Value.bool q) ∧ True) ∧ (SV.v (Value.int IntKind.i64 n) = SV.v (Value.int IntKind.i64 n) ∧ SV.v (Value.int IntKind.i64 m) = SV.v (Value.int IntKind.i64 m) ∧ True) ∧ True) (br (decide (n < (0 : Int))) (true = !(fewB L.length C && decide ((0 : Int) ≤ n ∧ n ≤ (10 : Int) ∧ (0 : Int) ≤ m ∧ m ≤ (10 : Int))) ∧ (SV.p (1 : Nat) (0 : Nat) = SV.p (1 : Nat) (0 : Nat) ∧ SV.p (2 : Nat) (0 : Nat) = SV.p (2 : Nat) (0 : Nat) ∧ SV.v (Value.int IntKind.i64 n) = SV.v (Value.int IntKind.i64 n) ∧ SV.v (Value.int IntKind.i64 m) = SV.v (Value.int IntKind.i64 m) ∧ SV.v (Value.bool true) = SV.v (Value.bool true) ∧ True) ∧ IC.ss L = IC.ss L ∧ (SV.r (0 : Nat) [] = SV.r (0 : Nat) [] ∧ SV.v (Value.int IntKind.i64 C) = SV.v (Value.int IntKind.i64 C) ∧ True) ∧ (SV.v (Value.int IntKind.i64 r) = SV.v (Value.int IntKind.i64 r) ∧ SV.v (Value.int IntKind.i64 c) = SV.v (Value.int IntKind.i64 c) ∧ SV.v (Value.int IntKind.i64 N) = SV.v (Value.int IntKind.i64 N) ∧ SV.v (Value.bool q) = SV.v (Value.bool q) ∧ True) ∧ (SV.v (Value.int IntKind.i64 n) = SV.v (Value.int IntKind.i64 n) ∧ SV.v (Value.int IntKind.i64 m) = SV.v (Value.int IntKind.i64 m) ∧ True) ∧ True) (br (decide (n > (10 : Int))) (true = !(fewB L.length C && decide ((0 : Int) ≤ n ∧ n ≤ (10 : Int) ∧ (0 : Int) ≤ m ∧ m ≤ (10 : Int))) ∧ (SV.p (1 : Nat) (0 : Nat) = SV.p (1 : Nat) (0 : Nat) ∧ SV.p (2 : Nat) (0 : Nat) = SV.p (2 : Nat) (0 : Nat) ∧ SV.v (Value.int IntKind.i64 n) = SV.v (Value.int IntKind.i64 n) ∧ SV.v (Value.int IntKind.i64 m) = SV.v (Value.int IntKind.i64 m) ∧ SV.v (Value.bool true) = SV.v (Value.bool true) ∧ True) ∧ IC.ss L = IC.ss L ∧ (SV.r (0 : Nat) [] = SV.r (0 : Nat) [] ∧ SV.v (Value.int IntKind.i64 C) = SV.v (Value.int IntKind.i64 C) ∧ True) ∧ (SV.v (Value.int IntKind.i64 r) = SV.v (Value.int IntKind.i64 r) ∧ SV.v (Value.int IntKind.i64 c) = SV.v (Value.int IntKind.i64 c) ∧ SV.v (Value.int IntKind.i64 N) = SV.v (Value.int IntKind.i64 N) ∧ SV.v (Value.bool q) = SV.v (Value.bool q) ∧ True) ∧ (SV.v (Value.int IntKind.i64 n) = SV.v (Value.int IntKind.i64 n) ∧ SV.v (Value.int IntKind.i64 m) = SV.v (Value.int IntKind.i64 m) ∧ True) ∧ True) (br (decide (m < (0 : Int))) (true = !(fewB L.length C && decide ((0 : Int) ≤ n ∧ n ≤ (10 : Int) ∧ (0 : Int) ≤ m ∧ m ≤ (10 : Int))) ∧ (SV.p (1 : Nat) (0 : Nat) = SV.p (1 : Nat) (0 : Nat) ∧ SV.p (2 : Nat) (0 : Nat) = SV.p (2 : Nat) (0 : Nat) ∧ SV.v (Value.int IntKind.i64 n) = SV.v (Value.int IntKind.i64 n) ∧ SV.v (Value.int IntKind.i64 m) = SV.v (Value.int IntKind.i64 m) ∧ SV.v (Value.bool true) = SV.v (Value.bool true) ∧ True) ∧ IC.ss L = IC.ss L ∧ (SV.r (0 : Nat) [] = SV.r (0 : Nat) [] ∧ SV.v (Value.int IntKind.i64 C) = SV.v (Value.int IntKind.i64 C) ∧ True) ∧ (SV.v (Value.int IntKind.i64 r) = SV.v (Value.int IntKind.i64 r) ∧ SV.v (Value.int IntKind.i64 c) = SV.v (Value.int IntKind.i64 c) ∧ SV.v (Value.int IntKind.i64 N) = SV.v (Value.int IntKind.i64 N) ∧ SV.v (Value.bool q) = SV.v (Value.bool q) ∧ True) ∧ (SV.v (Value.int IntKind.i64 n) = SV.v (Value.int IntKind.i64 n) ∧ SV.v (Value.int IntKind.i64 m) = SV.v (Value.int IntKind.i64 m) ∧ True) ∧ True) (decide (m > (10 : Int)) = !(fewB L.length C && decide ((0 : Int) ≤ n ∧ n ≤ (10 : Int) ∧ (0 : Int) ≤ m ∧ m ≤ (10 : Int))) ∧ (SV.p (1 : Nat) (0 : Nat) = SV.p (1 : Nat) (0 : Nat) ∧ SV.p (2 : Nat) (0 : Nat) = SV.p (2 : Nat) (0 : Nat) ∧ SV.v (Value.int IntKind.i64 n) = SV.v (Value.int IntKind.i64 n) ∧ SV.v (Value.int IntKind.i64 m) = SV.v (Value.int IntKind.i64 m) ∧ SV.v (Value.bool (decide (m > (10 : Int)))) = SV.v (Value.bool (decide (m > (10 : Int)))) ∧ True) ∧ IC.ss L = IC.ss L ∧ (SV.r (0 : Nat) [] = SV.r (0 : Nat) [] ∧ SV.v (Value.int IntKind.i64 C) = SV.v (Value.int IntKind.i64 C) ∧ True) ∧ (SV.v (Value.int IntKind.i64 r) = SV.v (Value.int IntKind.i64 r) ∧ SV.v (Value.int IntKind.i64 c) = SV.v (Value.int IntKind.i64 c) ∧ SV.v (Value.int IntKind.i64 N) = SV.v (Value.int IntKind.i64 N) ∧ SV.v (Value.bool q) = SV.v (Value.bool q) ∧ True) ∧ (SV.v (Value.int IntKind.i64 n) = SV.v (Value.int IntKind.i64 n) ∧ SV.v (Value.int IntKind.i64 m) = SV.v (Value.int IntKind.i64 m) ∧ True) ∧ True))))) (true = !(fewB L.length C && decide ((0 : Int) ≤ n ∧ n ≤ (10 : Int) ∧ (0 : Int) ≤ m ∧ m ≤ (10 : Int))) ∧ (SV.p (1 : Nat) (0 : Nat) = SV.p (1 : Nat) (0 : Nat) ∧ SV.p (2 : Nat) (0 : Nat) = SV.p (2 : Nat) (0 : Nat) ∧ SV.v (Value.int IntKind.i64 n) = SV.v (Value.int IntKind.i64 n) ∧ SV.v (Value.int IntKind.i64 m) = SV.v (Value.int IntKind.i64 m) ∧ SV.v (Value.bool true) = SV.v (Value.bool true) ∧ True) ∧ IC.ss L = IC.ss L ∧ (SV.r (0 : Nat) [] = SV.r (0 : Nat) [] ∧ SV.v (Value.int IntKind.i64 C) = SV.v (Value.int IntKind.i64 C) ∧ True) ∧ (SV.v (Value.int IntKind.i64 r) = SV.v (Value.int IntKind.i64 r) ∧ SV.v (Value.int IntKind.i64 c) = SV.v (Value.int IntKind.i64 c) ∧ SV.v (Value.int IntKind.i64 N) = SV.v (Value.int IntKind.i64 N) ∧ SV.v (Value.bool q) = SV.v (Value.bool q) ∧ True) ∧ (SV.v (Value.int IntKind.i64 n) = SV.v (Value.int IntKind.i64 n) ∧ SV.v (Value.int IntKind.i64 m) = SV.v (Value.int IntKind.i64 m) ∧ True) ∧ True)) (true = !(fewB L.length C && decide ((0 : Int) ≤ n ∧ n ≤ (10 : Int) ∧ (0 : Int) ≤ m ∧ m ≤ (10 : Int))) ∧ (SV.p (1 : Nat) (0 : Nat) = SV.p (1 : Nat) (0 : Nat) ∧ SV.p (2 : Nat) (0 : Nat) = SV.p (2 : Nat) (0 : Nat) ∧ SV.v (Value.int IntKind.i64 n) = SV.v (Value.int IntKind.i64 n) ∧ SV.v (Value.int IntKind.i64 m) = SV.v (Value.int IntKind.i64 m) ∧ SV.v (Value.bool true) = SV.v (Value.bool true) ∧ True) ∧ IC.ss L = IC.ss L ∧ (SV.r (0 : Nat) [] = SV.r (0 : Nat) [] ∧ SV.v (Value.int IntKind.i64 C) = SV.v (Value.int IntKind.i64 C) ∧ True) ∧ (SV.v (Value.int IntKind.i64 r) = SV.v (Value.int IntKind.i64 r) ∧ SV.v (Value.int IntKind.i64 c) = SV.v (Value.int IntKind.i64 c) ∧ SV.v (Value.int IntKind.i64 N) = SV.v (Value.int IntKind.i64 N) ∧ SV.v (Value.bool q) = SV.v (Value.bool q) ∧ True) ∧ (SV.v (Value.int IntKind.i64 n) = SV.v (Value.int IntKind.i64 n) ∧ SV.v (Value.int IntKind.i64 m) = SV.v (Value.int IntKind.i64 m) ∧ True) ∧ True)) (true = !(fewB L.length C && decide ((0 : Int) ≤ n ∧ n ≤ (10 : Int) ∧ (0 : Int) ≤ m ∧ m ≤ (10 : Int))) ∧ (SV.p (1 : Nat) (0 : Nat) = SV.p (1 : Nat) (0 : Nat) ∧ SV.p (2 : Nat) (0 : Nat) = SV.p (2 : Nat) (0 : Nat) ∧ SV.v (Value.int IntKind.i64 n) = SV.v (Value.int IntKind.i64 n) ∧ SV.v (Value.int IntKind.i64 m) = SV.v (Value.int IntKind.i64 m) ∧ SV.v (Value.bool true) = SV.v (Value.bool true) ∧ True) ∧ IC.ss L = IC.ss L ∧ (SV.r (0 : Nat) [] = SV.r (0 : Nat) [] ∧ SV.v (Value.int IntKind.i64 C) = SV.v (Value.int IntKind.i64 C) ∧ True) ∧ (SV.v (Value.int IntKind.i64 r) = SV.v (Value.int IntKind.i64 r) ∧ SV.v (Value.int IntKind.i64 c) = SV.v (Value.int IntKind.i64 c) ∧ SV.v (Value.int IntKind.i64 N) = SV.v (Value.int IntKind.i64 N) ∧ SV.v (Value.bool q) = SV.v (Value.bool q) ∧ True) ∧ (SV.v (Value.int IntKind.i64 n) = SV.v (Value.int IntKind.i64 n) ∧ SV.v (Value.int IntKind.i64 m) = SV.v (Value.int IntKind.i64 m) ∧ True) ∧ True) ∧ ∀ (x : Bool), x = !(fewB L.length C && decide ((0 : Int) ≤ n ∧ n ≤ (10 : Int) ∧ (0 : Int) ≤ m ∧ m ≤ (10 : Int))) → br x (True ∧ SV.v (Value.bool true) = SV.v (Value.bool true)) (br (N.tmod (2 : Int) != (0 : Int)) ((IntKind.i64.wrap ((0 : Int) - n) = n ∧ IntKind.i64.wrap ((0 : Int) - m) = m ∨ IntKind.i64.wrap ((0 : Int) - n) = -n ∧ IntKind.i64.wrap ((0 : Int) - m) = -m) ∧ (SV.p (1 : Nat) (0 : Nat) = SV.p (1 : Nat) (0 : Nat) ∧ SV.p (2 : Nat) (0 : Nat) = SV.p (2 : Nat) (0 : Nat) ∧ SV.v (Value.int IntKind.i64 (IntKind.i64.wrap ((0 : Int) - n))) = SV.v (Value.int IntKind.i64 (IntKind.i64.wrap ((0 : Int) - n))) ∧ SV.v (Value.int IntKind.i64 (IntKind.i64.wrap ((0 : Int) - m))) = SV.v (Value.int IntKind.i64 (IntKind.i64.wrap ((0 : Int) - m))) ∧ True) ∧ IC.ss L = IC.ss L ∧ (SV.r (0 : Nat) [] = SV.r (0 : Nat) [] ∧ SV.v (Value.int IntKind.i64 C) = SV.v (Value.int IntKind.i64 C) ∧ True) ∧ (SV.v (Value.int IntKind.i64 r) = SV.v (Value.int IntKind.i64 r) ∧ SV.v (Value.int IntKind.i64 c) = SV.v (Value.int IntKind.i64 c) ∧ SV.v (Value.int IntKind.i64 N) = SV.v (Value.int IntKind.i64 N) ∧ SV.v (Value.bool q) = SV.v (Value.bool q) ∧ True) ∧ (SV.v (Value.int IntKind.i64 n) = SV.v (Value.int IntKind.i64 n) ∧ SV.v (Value.int IntKind.i64 m) = SV.v (Value.int IntKind.i64 m) ∧ True) ∧ True) ((n = n ∧ m = m ∨ n = -n ∧ m = -m) ∧ (SV.p (1 : Nat) (0 : Nat) = SV.p (1 : Nat) (0 : Nat) ∧ SV.p (2 : Nat) (0 : Nat) = SV.p (2 : Nat) (0 : Nat) ∧ SV.v (Value.int IntKind.i64 n) = SV.v (Value.int IntKind.i64 n) ∧ SV.v (Value.int IntKind.i64 m) = SV.v (Value.int IntKind.i64 m) ∧ True) ∧ IC.ss L = IC.ss L ∧ (SV.r (0 : Nat) [] = SV.r (0 : Nat) [] ∧ SV.v (Value.int IntKind.i64 C) = SV.v (Value.int IntKind.i64 C) ∧ True) ∧ (SV.v (Value.int IntKind.i64 r) = SV.v (Value.int IntKind.i64 r) ∧ SV.v (Value.int IntKind.i64 c) = SV.v (Value.int IntKind.i64 c) ∧ SV.v (Value.int IntKind.i64 N) = SV.v (Value.int IntKind.i64 N) ∧ SV.v (Value.bool q) = SV.v (Value.bool q) ∧ True) ∧ (SV.v (Value.int IntKind.i64 n) = SV.v (Value.int IntKind.i64 n) ∧ SV.v (Value.int IntKind.i64 m) = SV.v (Value.int IntKind.i64 m) ∧ True) ∧ True) ∧ ∀ (x : Int × Int), x.fst = n ∧ x.snd = m ∨ x.fst = -n ∧ x.snd = -m → true = true ∧ ((1 : Nat) ≤ L.length ∧ L.length ≤ (8 : Nat) ∧ (1 : Int) ≤ C ∧ C ≤ (12 : Int)) ∧ true = true ∧ ((1 : Nat) ≤ L.length ∧ L.length ≤ (8 : Nat) ∧ (1 : Int) ≤ C ∧ C ≤ (12 : Int)) ∧ true = true ∧ (II (0 : Int) ≤ (46 : Int) ∧ II (46 : Int) ≤ (255 : Int)) ∧ br q (true = true ∧ (L.length + (1 : Nat) = L.length + (1 : Nat) ∧ GW (boardL L C.toNat)) ∧ true = true ∧ (L.length + (1 : Nat) = L.length + (1 : Nat) ∧ GW (liL (boardL L C.toNat) r x.fst (C4.mk (46 : Int) (0 : Int) false (0 : Int)) false)) ∧ true = true ∧ (L.length + (1 : Nat) = L.length + (1 : Nat) ∧ GW (boardL L C.toNat)) ∧ br (gdE (boardL L C.toNat) r == gdE (liL (boardL L C.toNat) r x.fst (C4.mk (46 : Int) (0 : Int) false (0 : Int)) false) r) (br (gdE (boardL L C.toNat) r == gdE (boardL L C.toNat) r) (true = true ∧ (L.length + (1 : Nat) = L.length + (1 : Nat) ∧ L.length + (1 : Nat) = L.length + (1 : Nat) ∧ GW (liL (liL (boardL L C.toNat) r x.fst (C4.mk (46 : Int) (0 : Int) false (0 : Int)) false) r x.snd (C4.mk (46 : Int) (0 : Int) false (0 : Int)) false) ∧ GW (liL (boardL L C.toNat) r (IntKind.i64.wrap (x.fst + x.snd)) (C4.mk (46 : Int) (0 : Int) false (0 : Int)) false)) ∧ br (eqG (liL (liL (boardL L C.toNat) r x.fst (C4.mk (46 : Int) (0 : Int) false (0 : Int)) false) r x.snd (C4.mk (46 : Int) (0 : Int) false (0 : Int)) false) (liL (boardL L C.toNat) r (IntKind.i64.wrap (x.fst + x.snd)) (C4.mk (46 : Int) (0 : Int) false (0 : Int)) false)) (True ∧ SV.v (Value.bool true) = SV.v (Value.bool true)) (SV.v (Value.bool false) = SV.v (Value.bool true))) (SV.v (Value.bool false) = SV.v (Value.bool true))) (SV.v (Value.bool false) = SV.v (Value.bool true))) (true = true ∧ (L.length + (1 : Nat) = L.length + (1 : Nat) ∧ GW (boardL L C.toNat)) ∧ true = true ∧ (L.length + (1 : Nat) = L.length + (1 : Nat) ∧ GW (chL (boardL L C.toNat) r c x.fst (C4.mk (46 : Int) (0 : Int) false (0 : Int)) false)) ∧ true = true ∧ (L.length + (1 : Nat) = L.length + (1 : Nat) ∧ GW (boardL L C.toNat)) ∧ br (chE (boardL L C.toNat) r c != chE (chL (boardL L C.toNat) r c x.fst (C4.mk (46 : Int) (0 : Int) false (0 : Int)) false) r c) (SV.v (Value.bool false) = SV.v (Value.bool true)) (br (chE (boardL L C.toNat) r c != chE (boardL L C.toNat) r c) (SV.v (Value.bool false) = SV.v (Value.bool true)) (true = true ∧ (L.length + (1 : Nat) = L.length + (1 : Nat) ∧ L.length + (1 : Nat) = L.length + (1 : Nat) ∧ GW (chL (chL (boardL L C.toNat) r c x.fst (C4.mk (46 : Int) (0 : Int) false (0 : Int)) false) r c x.snd (C4.mk (46 : Int) (0 : Int) false (0 : Int)) false) ∧ GW (chL (boardL L C.toNat) r c (IntKind.i64.wrap (x.fst + x.snd)) (C4.mk (46 : Int) (0 : Int) false (0 : Int)) false)) ∧ br (!eqG (chL (chL (boardL L C.toNat) r c x.fst (C4.mk (46 : Int) (0 : Int) false (0 : Int)) false) r c x.snd (C4.mk (46 : Int) (0 : Int) false (0 : Int)) false) (chL (boardL L C.toNat) r c (IntKind.i64.wrap (x.fst + x.snd)) (C4.mk (46 : Int) (0 : Int) false (0 : Int)) false)) (SV.v (Value.bool false) = SV.v (Value.bool true)) (true = true ∧ (L.length + (1 : Nat) = L.length + (1 : Nat) ∧ GW (chL (chL (boardL L C.toNat) r c x.fst (C4.mk (46 : Int) (0 : Int) false (0 : Int)) false) r c x.snd (C4.mk (46 : Int) (0 : Int) false (0 : Int)) false)) ∧ true = true ∧ (L.length + (1 : Nat) = L.length + (1 : Nat) ∧ GW (upF (chL (chL (boardL L C.toNat) r c x.fst (C4.mk (46 : Int) (0 : Int) false (0 : Int)) false) r c x.snd (C4.mk (46 : Int) (0 : Int) false (0 : Int)) false) x.fst (C4.mk (46 : Int) (0 : Int) false (0 : Int)))) ∧ true = true ∧ (L.length + (1 : Nat) = L.length + (1 : Nat) ∧ GW (chL (boardL L C.toNat) r c (IntKind.i64.wrap (x.fst + x.snd)) (C4.mk (46 : Int) (0 : Int) false (0 : Int)) false)) ∧ true = true ∧ (L.length + (1 : Nat) = L.length + (1 : Nat) ∧ L.length + (1 : Nat) = L.length + (1 : Nat) ∧ GW (upF (upF (chL (chL (boardL L C.toNat) r c x.fst (C4.mk (46 : Int) (0 : Int) false (0 : Int)) false) r c x.snd (C4.mk (46 : Int) (0 : Int) false (0 : Int)) false) x.fst (C4.mk (46 : Int) (0 : Int) false (0 : Int))) x.snd (C4.mk (46 : Int) (0 : Int) false (0 : Int))) ∧ GW (upF (chL (boardL L C.toNat) r c (IntKind.i64.wrap (x.fst + x.snd)) (C4.mk (46 : Int) (0 : Int) false (0 : Int)) false) (IntKind.i64.wrap (x.fst + x.snd)) (C4.mk (46 : Int) (0 : Int) false (0 : Int)))) ∧ br (eqG (upF (upF (chL (chL (boardL L C.toNat) r c x.fst (C4.mk (46 : Int) (0 : Int) false (0 : Int)) false) r c x.snd (C4.mk (46 : Int) (0 : Int) false (0 : Int)) false) x.fst (C4.mk (46 : Int) (0 : Int) false (0 : Int))) x.snd (C4.mk (46 : Int) (0 : Int) false (0 : Int))) (upF (chL (boardL L C.toNat) r c (IntKind.i64.wrap (x.fst + x.snd)) (C4.mk (46 : Int) (0 : Int) false (0 : Int)) false) (IntKind.i64.wrap (x.fst + x.snd)) (C4.mk (46 : Int) (0 : Int) false (0 : Int)))) (True ∧ SV.v (Value.bool true) = SV.v (Value.bool true)) (SV.v (Value.bool false) = SV.v (Value.bool true))))))))) (by kernel_rfl) ?_
  have eta : ∀ y : C4, C4.mk y.g y.a y.gd y.m = y := fun _ => rfl
  simp only [neC_def, eta]
  simp only [II, ge_iff_le, br_iff, rq_iff, nbeq, true_and, and_true, true_implies, false_implies, implies_true, Bool.true_eq_false, Bool.false_eq_true, Bool.true_and, Bool.and_true, Bool.and_eq_true, Bool.not_eq_true', Bool.not_eq_false', Nat.ble_eq, Nat.blt_eq, decide_eq_true_eq, decide_eq_false_iff_not, bne_iff_ne, bne_eq_false_iff_eq, beq_iff_eq, beq_eq_false_iff_ne, ne_eq, reduceCtorEq, SV.v.injEq, Value.bool.injEq]
  refine ⟨?_, fun b hb1 hb2 => ?_⟩
  · refine ⟨fun a1 => ⟨fun a2 => ⟨fun a3 => ⟨fun a4 => ?_, fun a4 => ⟨fun a5 => ?_, fun a5 => ⟨fun a6 => ?_, fun a6 => ⟨fun a7 => ?_, fun a7 => ?_⟩⟩⟩⟩, fun a3 => ?_⟩, fun a2 => ?_⟩, fun a1 => ?_⟩
    all_goals
      first
        | (rw [show fewB L.length C = false from decide_eq_false (by omega)]; rfl)
        | (rw [show fewB L.length C = true from decide_eq_true (by omega), Bool.true_and, decide_eq_false (by omega)]; rfl)
        | (rw [show fewB L.length C = true from decide_eq_true (by omega), Bool.true_and, Bool.eq_iff_iff, decide_eq_true_eq, Bool.not_eq_true', decide_eq_false_iff_not]; omega)
  subst hb2
  have h3 : (fewB L.length C && decide (0 ≤ n ∧ n ≤ 10 ∧ 0 ≤ m ∧ m ≤ 10)) = true := by simpa using hb1
  rw [Bool.and_eq_true, decide_eq_true_eq] at h3
  obtain ⟨hf, hnm⟩ := h3
  obtain ⟨h1, h2, h3, h4⟩ := of_decide_eq_true hf
  clear hb1 hf
  have w1 : IntKind.i64.wrap (0 - n) = -n := by rw [wrap64 (by omega) (by omega)]; omega
  have w2 : IntKind.i64.wrap (0 - m) = -m := by rw [wrap64 (by omega) (by omega)]; omega
  refine ⟨⟨fun _ => .inr ⟨w1, w2⟩, fun _ => .inl trivial⟩, fun ⟨a, b⟩ hab => ?_⟩
  dsimp only at hab ⊢
  have hs : (-10 ≤ a ∧ a ≤ 10) ∧ (-10 ≤ b ∧ b ≤ 10) ∧ ((0 ≤ a ∧ 0 ≤ b) ∨ (a ≤ 0 ∧ b ≤ 0)) := by omega
  rw [wrap64 (x := a + b) (by omega) (by omega)]
  obtain ⟨D, rfl⟩ : ∃ D : Nat, C = D := ⟨C.toNat, by omega⟩
  rw [Int.toNat_natCast]
  have hg : GW (boardL L D) := boardL_gw (by omega) (by omega) (by omega) (by omega)
  generalize boardL L D = l at hg ⊢
  obtain ⟨g1, d1, d2⟩ := liL_gw hg r a ⟨46, 0, false, 0⟩ false
  obtain ⟨k1, c1, c2⟩ := chL_gw hg r c a ⟨46, 0, false, 0⟩ false
  have s1 := li_sum hg r ⟨46, 0, false, 0⟩ hs.1 hs.2.1 hs.2.2
  have s2 := ch_sum hg r c ⟨46, 0, false, 0⟩ hs.1 hs.2.1 hs.2.2
  obtain ⟨g2, _, _⟩ := liL_gw hg r (a + b) ⟨46, 0, false, 0⟩ false
  obtain ⟨k2, _, _⟩ := chL_gw hg r c (a + b) ⟨46, 0, false, 0⟩ false
  have E1 : gdE (liL l r a ⟨46, 0, false, 0⟩ false) r = gdE l r := by unfold gdE inB; rw [d1, d2]
  have E2 : chE (chL l r c a ⟨46, 0, false, 0⟩ false) r c = chE l r c := by unfold chE inB; rw [c1, c2]
  have s3 := up_sum k2 ⟨46, 0, false, 0⟩ hs.2.2
  obtain ⟨u1, _, _⟩ := upF_gw k2 a ⟨46, 0, false, 0⟩
  obtain ⟨u2, _, _⟩ := upF_gw k2 (a + b) ⟨46, 0, false, 0⟩
  simp only [hg, g1, g2, k1, k2, u1, u2, s1, s2, s3, E1, E2, eqG_iff.2 rfl, eq_self_iff_true, Bool.true_eq_false, true_and, and_true, not_true_eq_false, false_implies, true_implies, implies_true, and_self]
  omega
theorem law_sums {W : World} {vs : List Value} (hp : IPDens (wholeH W) maxLen [.agg [.sl [.s], .i .i64], .agg [.i .i64, .i .i64, .i .i64, .b], .agg [.i .i64, .i .i64]] vs) : Calls Try.prog 16 vs.toArray W fun en W' => en = .returned (.bool true) ∧ Ext W W' := by
  simp only [IPDens, IP.den, IT.dens, it_i, it_b] at hp
  obtain ⟨_, _, rfl, ⟨us, rfl, v, _, rfl, hL, _, _, rfl, ⟨C, rfl, _⟩, rfl⟩, _, _, rfl, ⟨ws, rfl, _, _, rfl, ⟨n1, rfl, _⟩, _, _, rfl, ⟨n2, rfl, _⟩, _, _, rfl, ⟨n3, rfl, n3a, n3b⟩, _, _, rfl, ⟨n4, rfl⟩, rfl⟩, _, _, rfl, ⟨ws2, rfl, _, _, rfl, ⟨m1, rfl, _⟩, _, _, rfl, ⟨m2, rfl, _⟩, rfl⟩, rfl⟩ := hp
  obtain ⟨L, h1, _, h2⟩ := vv_ss hL
  refine law_run (fun I => allCfg_ok mixed ptabL6_ok tabL6_ok) rfl Try.func16 [(.ss L, v)] (by simpa using h2) ?_ (run_sums L C n1 n2 n3 m1 m2 n4)
  exact dl_cons (den_a (dl_cons (den_r (l := [(.ss L, v)]) rfl h2.1) (dl_cons den_v dl_nil))) (dl_cons (den_a (dl_cons den_v (dl_cons den_v (dl_cons den_v (dl_cons den_v dl_nil))))) (dl_cons (den_a (dl_cons den_v (dl_cons den_v dl_nil))) dl_nil))
end Go.Proofs.Ytdhhagangmkloaa
