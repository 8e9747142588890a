/- Laws of layer 20 answer true: either; rules. -/
import Derived.Test.YtgnplgbknfnibaaCaE
set_option linter.unusedSimpArgs false
set_option linter.unusedVariables false
set_option linter.unusedSectionVars false
namespace Go.Proofs.Ytgnplgbknfnibaa
open Go Go.Sym

def psHas2 : PS := mkPS (shCons shI (shOne shR)) (fun (p, _) => isT p = true) (fun (p, g) => .v (.bool (hasT p g)))
def HasAsk (p g : Int) : Prop := Go.Sym.Ask (bodyK Try.prog (run (pureCfg (τ := Empty) Try.prog [(12, psBack)] 8) 60) Try.f10 ((shCons shI (shOne shR)).enc (p, g)) [] (fun y _ => y = .v (.bool (hasT p g))))
set_option maxHeartbeats 4000000 in
theorem has_1 {g : Int} : HasAsk 1 g := by
  unfold HasAsk
  refine kcast (B := (True ∧ br (decide (0 ≤ backT 1 g)) (SV.v (Value.bool true) = SV.v (Value.bool (hasT 1 g))) (True ∧ br (decide (0 ≤ backT 3 g)) (SV.v (Value.bool true) = SV.v (Value.bool (hasT 1 g))) (SV.v (Value.bool false) = SV.v (Value.bool (hasT 1 g)))))) (by kernel_rfl) ?_
  simp only [hasT, hasB]
  repeat' (first | refine br_intro (fun _ => ?_) (fun _ => ?_) | refine And.intro ?_ ?_)
  all_goals first | exact trivial | (simp_all; done) | (simp_all <;> omega)
set_option maxHeartbeats 4000000 in
theorem has_2 {g : Int} : HasAsk 2 g := by
  unfold HasAsk
  refine kcast (B := (True ∧ br (decide (0 ≤ backT 2 g)) (SV.v (Value.bool true) = SV.v (Value.bool (hasT 2 g))) (SV.v (Value.bool false) = SV.v (Value.bool (hasT 2 g))))) (by kernel_rfl) ?_
  simp only [hasT, hasB]
  repeat' (first | refine br_intro (fun _ => ?_) (fun _ => ?_) | refine And.intro ?_ ?_)
  all_goals first | exact trivial | (simp_all; done) | (simp_all <;> omega)
set_option maxHeartbeats 4000000 in
theorem has_3 {g : Int} : HasAsk 3 g := by
  unfold HasAsk
  refine kcast (B := (True ∧ br (decide (0 ≤ backT 1 g)) (SV.v (Value.bool true) = SV.v (Value.bool (hasT 3 g))) (True ∧ br (decide (0 ≤ backT 4 g)) (SV.v (Value.bool true) = SV.v (Value.bool (hasT 3 g))) (SV.v (Value.bool false) = SV.v (Value.bool (hasT 3 g)))))) (by kernel_rfl) ?_
  simp only [hasT, hasB]
  repeat' (first | refine br_intro (fun _ => ?_) (fun _ => ?_) | refine And.intro ?_ ?_)
  all_goals first | exact trivial | (simp_all; done) | (simp_all <;> omega)
set_option maxHeartbeats 4000000 in
theorem has_4 {g : Int} : HasAsk 4 g := by
  unfold HasAsk
  refine kcast (B := (True ∧ br (decide (0 ≤ backT 1 g)) (SV.v (Value.bool true) = SV.v (Value.bool (hasT 4 g))) (SV.v (Value.bool false) = SV.v (Value.bool (hasT 4 g))))) (by kernel_rfl) ?_
  simp only [hasT, hasB]
  repeat' (first | refine br_intro (fun _ => ?_) (fun _ => ?_) | refine And.intro ?_ ?_)
  all_goals first | exact trivial | (simp_all; done) | (simp_all <;> omega)
theorem ok_has : PureOk Try.prog 10 psHas2 := by
  refine pureOk_mk (cfg := pureCfg Try.prog [(12, psBack)] 8) (τ := Empty) (fun _ => pureCfg_ok mixed ⟨ok_back, trivial⟩) (n := 60) Try.func10 (fun _ => by kernel_rfl) (fun _ => by kernel_rfl) ?_
  intro ⟨p, g⟩ hp
  have hp : 1 ≤ p ∧ p ≤ 4 := of_decide_eq_true hp
  show HasAsk p g
  obtain rfl | rfl | rfl | rfl : p = 1 ∨ p = 2 ∨ p = 3 ∨ p = 4 := by omega
  · exact has_1
  · exact has_2
  · exact has_3
  · exact has_4
set_option maxHeartbeats 4000000 in
theorem law_either : PureOk Try.prog 4 psL1 := by
  refine pureOk_mk (cfg := pureCfg Try.prog [(6, psCell), (9, psRight), (7, psIs), (8, psAwake), (10, psHas2), (12, psBack)] 0) (τ := Empty) (fun _ => pureCfg_ok mixed ⟨ok_cell, ok_right, ok_is, ok_awake, ok_has, ok_back, trivial⟩) (n := 60) Try.func4 (fun _ => by kernel_rfl) (fun _ => by kernel_rfl) ?_
  intro ⟨p, q, g, a, u, m⟩ hφ
  refine kcast (B := (True ∧ br (!isT p) (True ∧ SV.v (Value.bool true) = SV.v (Value.bool true)) (True ∧ br (!isT (q, g, a, u, m).fst) (True ∧ SV.v (Value.bool true) = SV.v (Value.bool true)) (True ∧ True ∧ True ∧ True ∧ br (eT p != 0) (SV.v (Value.bool false) = SV.v (Value.bool true)) (br (eT (q, g, a, u, m).fst != 0) (SV.v (Value.bool false) = SV.v (Value.bool true)) (br (eT (q, g, a, u, m).fst != 0) (SV.v (Value.bool false) = SV.v (Value.bool true)) (br (eT p != 0) (SV.v (Value.bool false) = SV.v (Value.bool true)) (br (!(gT (q, g, a, u, m).fst (gT p (q, g, a, u, m).snd.fst) == gT p (gT (q, g, a, u, m).fst (q, g, a, u, m).snd.fst) && (aT (q, g, a, u, m).fst (aT p (q, g, a, u, m).snd.snd.fst) == aT p (aT (q, g, a, u, m).fst (q, g, a, u, m).snd.snd.fst) && (uT (q, g, a, u, m).fst (uT p (q, g, a, u, m).snd.snd.snd.fst) == uT p (uT (q, g, a, u, m).fst (q, g, a, u, m).snd.snd.snd.fst) && (mT (q, g, a, u, m).fst (mT p (q, g, a, u, m).snd.snd.snd.snd) == mT p (mT (q, g, a, u, m).fst (q, g, a, u, m).snd.snd.snd.snd) && true))))) (SV.v (Value.bool false) = SV.v (Value.bool true)) (isT p = true ∧ br (hasT p (q, g, a, u, m).snd.fst) (isT (q, g, a, u, m).fst = true ∧ br (hasT (q, g, a, u, m).fst (q, g, a, u, m).snd.fst) (br ((gT (q, g, a, u, m).fst (gT p (q, g, a, u, m).snd.fst) == (q, g, a, u, m).snd.fst) == true) (True ∧ SV.v (Value.bool true) = SV.v (Value.bool true)) (SV.v (Value.bool false) = SV.v (Value.bool true))) (br ((gT (q, g, a, u, m).fst (gT p (q, g, a, u, m).snd.fst) == (q, g, a, u, m).snd.fst) == ((q, g, a, u, m).snd.fst == 63)) (True ∧ SV.v (Value.bool true) = SV.v (Value.bool true)) (SV.v (Value.bool false) = SV.v (Value.bool true)))) (br ((gT (q, g, a, u, m).fst (gT p (q, g, a, u, m).snd.fst) == (q, g, a, u, m).snd.fst) == ((q, g, a, u, m).snd.fst == 63)) (True ∧ SV.v (Value.bool true) = SV.v (Value.bool true)) (SV.v (Value.bool false) = SV.v (Value.bool true)))))))))))) (by kernel_rfl) ?_
  dsimp only
  refine ⟨trivial, br_intro (fun _ => ⟨trivial, rfl⟩) (fun hp => ⟨trivial, br_intro (fun _ => ⟨trivial, rfl⟩) (fun hq => ⟨trivial, trivial, trivial, trivial, ?_⟩)⟩)⟩
  have hP : isT p = true := by simpa using hp
  have hQ : isT q = true := by simpa using hq
  have c1 : gT q (gT p g) = gT p (gT q g) := by
    rw [gT_on hQ, gT_on hP, gT_on hP, gT_on hQ]
    by_cases h1 : hasT p g = true <;> by_cases h2 : hasT q g = true <;> simp [h1, h2]
  have c2 : aT q (aT p a) = aT p (aT q a) := by unfold aT; rw [if_pos hP, if_pos hQ, if_pos hP, if_pos hQ]; exact attrT_either q p a
  have c3 : uT q (uT p u) = uT p (uT q u) := by unfold uT; rw [hP, hQ]; cases u <;> cases decide (3 ≤ p) <;> cases decide (3 ≤ q) <;> rfl
  have c4 : mT q (mT p m) = mT p (mT q m) := by unfold mT; by_cases h1 : p = 3 <;> by_cases h2 : q = 3 <;> simp [h1, h2]
  have g1 : hasT p g = true → gT p g = g := fun h => by rw [gT_on hP, if_pos h]
  have g2 : hasT p g = false → gT q (gT p g) = 63 := fun h => by rw [gT_on hQ, gT_on hP, h]; simp
  rw [eT_on hP, eT_on hQ]
  refine br_f rfl (br_f rfl (br_f rfl (br_f rfl (br_f (by rw [c1, c2, c3, c4]; simp) ⟨hP, br_intro (fun h => ⟨hQ, br_intro (fun h2 => ?_) (fun h2 => ?_)⟩) (fun h => ?_)⟩))))
  · refine br_t ?_ ⟨trivial, rfl⟩
    rw [g1 h, gT_on hQ, if_pos h2]; simp
  · refine br_t ?_ ⟨trivial, rfl⟩
    rw [g1 h, gT_on hQ, if_neg (by rw [h2]; simp)]
    by_cases hg : g = 63
    · subst hg; rfl
    · rw [show ((63 : Int) == g) = false by simpa using fun e => hg e.symm, show (g == 63) = false by simpa using hg]; rfl
  · refine br_t ?_ ⟨trivial, rfl⟩
    rw [g2 h]
    by_cases hg : g = 63
    · subst hg; rfl
    · rw [show ((63 : Int) == g) = false by simpa using fun e => hg e.symm, show (g == 63) = false by simpa using hg]; rfl

end Go.Proofs.Ytgnplgbknfnibaa
