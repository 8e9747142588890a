/- The law of rules answers true. -/
import Derived.Test.YtgnplgbknfnibaaCaG
set_option linter.unusedSimpArgs false
set_option linter.unusedVariables false
set_option linter.unusedSectionVars false
namespace Go.Proofs.Ytgnplgbknfnibaa
open Go Go.Sym

theorem back_hit {set r : Int} {n : Nat} (hn : n < 256) (h : hit set r n = true) : 0 ≤ backT set r := by
  unfold backT
  cases hf : (List.range 256).find? (hit set r) with
  | some m => exact Int.natCast_nonneg m
  | none =>
    rw [List.find?_eq_none] at hf
    exact absurd h (hf n (List.mem_range.2 hn))
theorem plain_63 : decide (0 ≤ backT 1 63) = true := decide_eq_true (back_hit (n := 63) (by omega) rfl)
def psLR : PS := mkPS (shCons shI (shOne shR)) (fun (p, g) => i64 p ∧ i32 g) (fun _ => .v (.bool true))
def RuleAsk (p g : Int) : Prop := Go.Sym.Ask (bodyK Try.prog (run (pureCfg (τ := Empty) Try.prog [(6, psCell), (9, psRight), (7, psIs), (8, psAwake), (10, psHas2), (12, psBack)] 8) 60) Try.f5 ((shCons shI (shOne shR)).enc (p, g)) [] (fun y _ => y = .v (.bool true)))

theorem br_tt (A B : Prop) : br true A B = A := rfl
theorem br_ff (A B : Prop) : br false A B = B := rfl
theorem has63 : hasT 1 63 = true ∧ hasT 2 63 = true ∧ hasT 3 63 = true ∧ hasT 4 63 = true := by
  have h1 : hasB 1 63 = true := by
    exact plain_63
  have h2 : hasB 2 63 = true := by
    rcases back_hit (set := 2) (r := 63) (n := 63) (by omega) rfl with h
    unfold hasB; exact decide_eq_true h
  unfold hasT
  refine ⟨?_, ?_, ?_, ?_⟩
  · simp [h1]
  · simp [h2]
  · simp [h1]
  · simp [h1]
theorem keep {p g : Int} (hp : isT p = true) (h63 : hasT p 63 = true) : rightT p g 0 false 0 = hasT p g ∧ (gT p g == g && (aT p 0 == 0 && (uT p false == false && (mT p 0 == 0 && true)))) = hasT p g ∧ (hasT p g = false → (g == 63) = false) := by
  have e0 : aT p 0 = 0 := by
    unfold aT; rw [if_pos hp, attr_eq]
    have : ofI 0 = 0#64 := rfl
    rw [this, attrB_zero]; rfl
  have e1 : uT p false = false := by unfold uT; cases isT p <;> rfl
  have e2 : mT p 0 = 0 := by unfold mT; split <;> rfl
  have e3 : hasT p g = false → (g == 63) = false := fun h => by
    cases hg : g == 63 with
    | false => rfl
    | true => rw [beq_iff_eq] at hg; subst hg; rw [h63] at h; cases h
  have e4 : (gT p g == g && (aT p 0 == 0 && (uT p false == false && (mT p 0 == 0 && true)))) = hasT p g := by
    rw [e0, e1, e2, gT_on hp]
    cases hh : hasT p g with
    | true => simp
    | false =>
      have := e3 hh
      have h2 : ¬ (63 : Int) = g := fun e => by rw [← e] at this; simp at this
      simp [h2]
  exact ⟨by unfold rightT; rw [hp, e4]; rfl, e4, e3⟩
set_option maxHeartbeats 4000000 in
theorem rule_1 {g : Int} : RuleAsk 1 g := by
  unfold RuleAsk
  refine kcast (B := (True ∧ True ∧ True ∧ br (decide (0 ≤ backT 1 g)) (True ∧ isT 1 = true ∧ br (!hasT 1 g == true) (SV.v (Value.bool false) = SV.v (Value.bool true)) (True ∧ br (!rightT 1 g 0 false 0 == true) (SV.v (Value.bool false) = SV.v (Value.bool true)) (br ((gT 1 g == g && (aT 1 0 == 0 && (uT 1 false == false && (mT 1 0 == 0 && true)))) == true) (True ∧ SV.v (Value.bool true) = SV.v (Value.bool true)) (SV.v (Value.bool false) = SV.v (Value.bool true))))) (True ∧ isT 1 = true ∧ br (!hasT 1 g == decide (0 ≤ backT 3 g)) (SV.v (Value.bool false) = SV.v (Value.bool true)) (True ∧ br (!rightT 1 g 0 false 0 == decide (0 ≤ backT 3 g)) (SV.v (Value.bool false) = SV.v (Value.bool true)) (br (decide (0 ≤ backT 3 g)) (br ((gT 1 g == g && (aT 1 0 == 0 && (uT 1 false == false && (mT 1 0 == 0 && true)))) == true) (True ∧ SV.v (Value.bool true) = SV.v (Value.bool true)) (SV.v (Value.bool false) = SV.v (Value.bool true))) (br ((gT 1 g == g && (aT 1 0 == 0 && (uT 1 false == false && (mT 1 0 == 0 && true)))) == (g == 63)) (True ∧ SV.v (Value.bool true) = SV.v (Value.bool true)) (SV.v (Value.bool false) = SV.v (Value.bool true)))))))) (by kernel_rfl) ?_
  have hT : isT 1 = true := rfl
  obtain ⟨e1, e2, e3⟩ := keep (g := g) hT has63.1
  have hH : hasT 1 g = (decide (0 ≤ backT 1 g) || decide (0 ≤ backT 3 g)) := by unfold hasT hasB; simp
  rw [e1, e2]
  rw [hH] at e3 ⊢
  revert e3
  cases decide (0 ≤ backT 1 g) <;> cases decide (0 ≤ backT 3 g) <;> intro e3 <;> simp_all [br_tt, br_ff]
  exact br_t (by simpa using e3) trivial
set_option maxHeartbeats 4000000 in
theorem rule_2 {g : Int} : RuleAsk 2 g := by
  unfold RuleAsk
  refine kcast (B := (True ∧ True ∧ True ∧ isT 2 = true ∧ br (!hasT 2 g == decide (0 ≤ backT 2 g)) (SV.v (Value.bool false) = SV.v (Value.bool true)) (True ∧ br (!rightT 2 g 0 false 0 == decide (0 ≤ backT 2 g)) (SV.v (Value.bool false) = SV.v (Value.bool true)) (br (decide (0 ≤ backT 2 g)) (br ((gT 2 g == g && (aT 2 0 == 0 && (uT 2 false == false && (mT 2 0 == 0 && true)))) == true) (True ∧ SV.v (Value.bool true) = SV.v (Value.bool true)) (SV.v (Value.bool false) = SV.v (Value.bool true))) (br ((gT 2 g == g && (aT 2 0 == 0 && (uT 2 false == false && (mT 2 0 == 0 && true)))) == (g == 63)) (True ∧ SV.v (Value.bool true) = SV.v (Value.bool true)) (SV.v (Value.bool false) = SV.v (Value.bool true))))))) (by kernel_rfl) ?_
  have hT : isT 2 = true := rfl
  obtain ⟨e1, e2, e3⟩ := keep (g := g) hT has63.2.1
  have hH : hasT 2 g = decide (0 ≤ backT 2 g) := by unfold hasT hasB; simp
  rw [e1, e2]
  rw [hH] at e3 ⊢
  revert e3
  cases decide (0 ≤ backT 2 g) <;> intro e3 <;> simp_all [br_tt, br_ff]
  exact br_t (by simpa using e3) trivial
set_option maxHeartbeats 4000000 in
theorem rule_3 {g : Int} : RuleAsk 3 g := by
  unfold RuleAsk
  refine kcast (B := (True ∧ True ∧ True ∧ br (decide (0 ≤ backT 1 g)) (True ∧ isT 3 = true ∧ br (!hasT 3 g == true) (SV.v (Value.bool false) = SV.v (Value.bool true)) (True ∧ br (!rightT 3 g 0 false 0 == true) (SV.v (Value.bool false) = SV.v (Value.bool true)) (br ((gT 3 g == g && (aT 3 0 == 0 && (uT 3 false == false && (mT 3 0 == 0 && true)))) == true) (True ∧ SV.v (Value.bool true) = SV.v (Value.bool true)) (SV.v (Value.bool false) = SV.v (Value.bool true))))) (True ∧ isT 3 = true ∧ br (!hasT 3 g == decide (0 ≤ backT 4 g)) (SV.v (Value.bool false) = SV.v (Value.bool true)) (True ∧ br (!rightT 3 g 0 false 0 == decide (0 ≤ backT 4 g)) (SV.v (Value.bool false) = SV.v (Value.bool true)) (br (decide (0 ≤ backT 4 g)) (br ((gT 3 g == g && (aT 3 0 == 0 && (uT 3 false == false && (mT 3 0 == 0 && true)))) == true) (True ∧ SV.v (Value.bool true) = SV.v (Value.bool true)) (SV.v (Value.bool false) = SV.v (Value.bool true))) (br ((gT 3 g == g && (aT 3 0 == 0 && (uT 3 false == false && (mT 3 0 == 0 && true)))) == (g == 63)) (True ∧ SV.v (Value.bool true) = SV.v (Value.bool true)) (SV.v (Value.bool false) = SV.v (Value.bool true)))))))) (by kernel_rfl) ?_
  have hT : isT 3 = true := rfl
  obtain ⟨e1, e2, e3⟩ := keep (g := g) hT has63.2.2.1
  have hH : hasT 3 g = (decide (0 ≤ backT 1 g) || decide (0 ≤ backT 4 g)) := by unfold hasT hasB; simp
  rw [e1, e2]
  rw [hH] at e3 ⊢
  revert e3
  cases decide (0 ≤ backT 1 g) <;> cases decide (0 ≤ backT 4 g) <;> intro e3 <;> simp_all [br_tt, br_ff]
  exact br_t (by simpa using e3) trivial
set_option maxHeartbeats 4000000 in
theorem rule_4 {g : Int} : RuleAsk 4 g := by
  unfold RuleAsk
  refine kcast (B := (True ∧ True ∧ True ∧ isT 4 = true ∧ br (!hasT 4 g == decide (0 ≤ backT 1 g)) (SV.v (Value.bool false) = SV.v (Value.bool true)) (True ∧ br (!rightT 4 g 0 false 0 == decide (0 ≤ backT 1 g)) (SV.v (Value.bool false) = SV.v (Value.bool true)) (br (decide (0 ≤ backT 1 g)) (br ((gT 4 g == g && (aT 4 0 == 0 && (uT 4 false == false && (mT 4 0 == 0 && true)))) == true) (True ∧ SV.v (Value.bool true) = SV.v (Value.bool true)) (SV.v (Value.bool false) = SV.v (Value.bool true))) (br ((gT 4 g == g && (aT 4 0 == 0 && (uT 4 false == false && (mT 4 0 == 0 && true)))) == (g == 63)) (True ∧ SV.v (Value.bool true) = SV.v (Value.bool true)) (SV.v (Value.bool false) = SV.v (Value.bool true))))))) (by kernel_rfl) ?_
  have hT : isT 4 = true := rfl
  obtain ⟨e1, e2, e3⟩ := keep (g := g) hT has63.2.2.2
  have hH : hasT 4 g = decide (0 ≤ backT 1 g) := by unfold hasT hasB; simp
  rw [e1, e2]
  rw [hH] at e3 ⊢
  revert e3
  cases decide (0 ≤ backT 1 g) <;> intro e3 <;> simp_all [br_tt, br_ff]
  exact br_t (by simpa using e3) trivial
def psOff : PS := mkPS (shOne shI) (fun p => ¬ (1 ≤ p ∧ p ≤ 4)) (fun _ => .v (.bool false))
theorem ok_off : PureOk Try.prog 7 psOff := by
  refine pureOk_mk (cfg := pureCfg Try.prog [] 0) (τ := Empty) (fun _ => pureCfg_ok mixed trivial) (n := 60) Try.func7 (fun _ => by kernel_rfl) (fun _ => by kernel_rfl) ?_
  intro p hp
  refine kcast (B := (br (decide (p ≥ 1)) (SV.v (Value.bool (decide (p ≤ 4))) = SV.v (Value.bool false)) (SV.v (Value.bool false) = SV.v (Value.bool false)))) (by kernel_rfl) ?_
  have hp : ¬ (1 ≤ p ∧ p ≤ 4) := hp
  refine br_intro (fun h => ?_) (fun _ => rfl)
  have h := of_decide_eq_true h
  rw [show decide (p ≤ 4) = false from decide_eq_false (by omega)]
def OffAsk (p g : Int) : Prop := Go.Sym.Ask (bodyK Try.prog (run (pureCfg (τ := Empty) Try.prog [(7, psOff), (8, psAwake)] 8) 60) Try.f5 ((shCons shI (shOne shR)).enc (p, g)) [] (fun y _ => y = .v (.bool true)))
theorem rule_off {p g : Int} (hp : ¬ (1 ≤ p ∧ p ≤ 4)) : OffAsk p g := by
  unfold OffAsk
  refine kcast (B := (¬(1 ≤ p ∧ p ≤ 4) ∧ True ∧ SV.v (Value.bool true) = SV.v (Value.bool true))) (by kernel_rfl) ?_
  exact ⟨hp, trivial, rfl⟩
noncomputable def cfgR (p : Int) : Cfg Empty := if 1 ≤ p ∧ p ≤ 4 then pureCfg Try.prog [(6, psCell), (9, psRight), (7, psIs), (8, psAwake), (10, psHas2), (12, psBack)] 8 else pureCfg Try.prog [(7, psOff), (8, psAwake)] 8
theorem law_rules : PureOk Try.prog 5 psLR := by
  refine pureOk_mkA (τ := Empty) (fun (p, _) => cfgR p) (fun (p, _) I => by
      show CfgOk I (cfgR p)
      unfold cfgR
      split
      · exact pureCfg_ok mixed ⟨ok_cell, ok_right, ok_is, ok_awake, ok_has, ok_back, trivial⟩
      · exact pureCfg_ok mixed ⟨ok_off, ok_awake, trivial⟩) (fun (p, _) => by
      show (cfgR p).P = _
      unfold cfgR
      split <;> rfl) (n := 60) Try.func5 (fun _ => by kernel_rfl) (fun _ => by kernel_rfl) ?_
  intro ⟨p, g⟩ _
  show Go.Sym.Ask (bodyK Try.prog (run (cfgR p) 60) Try.f5 ((shCons shI (shOne shR)).enc (p, g)) [] (fun y _ => y = .v (.bool true)))
  unfold cfgR
  by_cases h : 1 ≤ p ∧ p ≤ 4
  · rw [if_pos h]
    obtain rfl | rfl | rfl | rfl : p = 1 ∨ p = 2 ∨ p = 3 ∨ p = 4 := by omega
    · exact rule_1
    · exact rule_2
    · exact rule_3
    · exact rule_4
  · rw [if_neg h]
    exact rule_off h

end Go.Proofs.Ytgnplgbknfnibaa
