/- The laws of layer 20 answer true. -/
import Derived.Test.YtgnplgbknfnibaaCaD
set_option linter.unusedSimpArgs false
set_option linter.unusedVariables false
set_option linter.unusedSectionVars false
namespace Go.Proofs.Ytgnplgbknfnibaa
open Go Go.Sym

def i64 (x : Int) : Prop := -9223372036854775808 ≤ x ∧ x ≤ 9223372036854775807
def i32 (x : Int) : Prop := -2147483648 ≤ x ∧ x ≤ 2147483647
def psIs : PS := mkPS (shOne shI) (fun _ => True) (fun p => .v (.bool (isT p)))
def psHas : PS := mkPS (shCons shI (shOne shR)) (fun _ => True) (fun (p, g) => .v (.bool (hasT p g)))
def rightT (p g a : Int) (u : Bool) (m : Int) : Bool := isT p && (gT p g == g && (aT p a == a && (uT p u == u && (mT p m == m && true))))
def psRight : PS := mkPS (shCons shI (shOne shC)) (fun _ => True) (fun (p, g, a, u, m) => .v (.bool (rightT p g a u m)))
def psAwake : PS := mkPS shNil (fun _ => True) (fun _ => .v (.bool true))
def psL1 : PS := mkPS (shCons shI (shCons shI (shOne shC))) (fun (p, q, g, a, _, m) => i64 p ∧ i64 q ∧ i32 g ∧ i64 a ∧ i64 m) (fun _ => .v (.bool true))

theorem ok_is : PureOk Try.prog 7 psIs := by
  refine pureOk_mk (cfg := pureCfg Try.prog [] 0) (τ := Empty) (fun _ => pureCfg_ok mixed trivial) (n := 60) Try.func7 (fun _ => by kernel_rfl) (fun _ => by kernel_rfl) ?_
  intro p _
  refine kcast (B := (br (decide (p ≥ 1)) (SV.v (Value.bool (decide (p ≤ 4))) = SV.v (Value.bool (isT p))) (SV.v (Value.bool false) = SV.v (Value.bool (isT p))))) (by kernel_rfl) ?_
  simp only [isT]
  repeat' (first | refine br_intro (fun _ => ?_) (fun _ => ?_) | refine And.intro ?_ ?_)
  all_goals first | rfl | (simp_all; done) | (simp_all <;> omega)
set_option maxHeartbeats 4000000 in
theorem ok_right : PureOk Try.prog 9 psRight := by
  refine pureOk_mk (cfg := pureCfg Try.prog [(6, psCell)] 0) (τ := Empty) (fun _ => pureCfg_ok mixed ⟨ok_cell, trivial⟩) (n := 60) Try.func9 (fun _ => by kernel_rfl) (fun _ => by kernel_rfl) ?_
  intro ⟨p, g, a, u, m⟩ _
  refine kcast (B := (True ∧ br (eT p == 0) (SV.v (Value.bool (gT p (g, a, u, m).fst == (g, a, u, m).fst && (aT p (g, a, u, m).snd.fst == (g, a, u, m).snd.fst && (uT p (g, a, u, m).snd.snd.fst == (g, a, u, m).snd.snd.fst && (mT p (g, a, u, m).snd.snd.snd == (g, a, u, m).snd.snd.snd && true))))) = SV.v (Value.bool (rightT p g a u m))) (SV.v (Value.bool false) = SV.v (Value.bool (rightT p g a u m))))) (by kernel_rfl) ?_
  dsimp only
  unfold rightT
  refine ⟨trivial, br_intro (fun h => ?_) (fun h => ?_)⟩
  · have hT : isT p = true := by
      cases hh : isT p with
      | true => rfl
      | false => unfold eT at h; rw [hh] at h; simp at h
    rw [hT]; rfl
  · have hT : isT p = false := by
      cases hh : isT p with
      | false => rfl
      | true => unfold eT at h; rw [hh] at h; simp at h
    rw [hT]; rfl
set_option maxHeartbeats 4000000 in
theorem ok_awake : PureOk Try.prog 8 psAwake := by
  refine pureOk_mk (cfg := pureCfg Try.prog [(6, psCell)] 0) (τ := Empty) (fun _ => pureCfg_ok mixed ⟨ok_cell, trivial⟩) (n := 60) Try.func8 (fun _ => by kernel_rfl) (fun _ => by kernel_rfl) ?_
  intro _ _
  refine kcast (B := (True ∧ True ∧ SV.v (Value.bool true) = SV.v (Value.bool true))) (by kernel_rfl) ?_
  exact ⟨trivial, trivial, rfl⟩

theorem eT_on {p : Int} (h : isT p = true) : eT p = 0 := by unfold eT; rw [if_pos h]
theorem eT_off {p : Int} (h : isT p = false) : eT p = 12 := by unfold eT; rw [if_neg (by rw [h]; simp)]
theorem gT_on {p g : Int} (h : isT p = true) : gT p g = if hasT p g = true then g else 63 := by unfold gT; rw [if_pos h]
theorem gT_twice {p g : Int} (h : isT p = true) : gT p (gT p g) = gT p g := by
  rw [gT_on h, gT_on h]
  by_cases hh : hasT p g = true
  · rw [if_pos hh, if_pos hh]
  · rw [if_neg hh]; split <;> rfl
theorem aT_twice {p a : Int} : aT p (aT p a) = aT p a := by
  unfold aT
  split
  · exact attrT_twice p a
  · rfl
theorem uT_twice {p : Int} {u : Bool} : uT p (uT p u) = uT p u := by unfold uT; cases isT p <;> cases u <;> cases decide (3 ≤ p) <;> rfl
theorem mT_twice {p m : Int} : mT p (mT p m) = mT p m := by unfold mT; split <;> rfl
theorem tail (p q G A : Int) (U : Bool) (M : Int) : True ∧ br (eT q == 0) (True ∧ br (rightT p G A U M) (True ∧ br (rightT q G A U M) (br (!(gT q G == G && (aT q A == A && (uT q U == U && (mT q M == M && true))))) (SV.v (Value.bool false) = SV.v (Value.bool true)) (True ∧ SV.v (Value.bool true) = SV.v (Value.bool true))) (True ∧ SV.v (Value.bool true) = SV.v (Value.bool true))) (True ∧ SV.v (Value.bool true) = SV.v (Value.bool true))) (True ∧ SV.v (Value.bool true) = SV.v (Value.bool true)) := by
  refine ⟨trivial, br_intro (fun _ => ⟨trivial, br_intro (fun _ => ⟨trivial, br_intro (fun h => br_f ?_ ⟨trivial, rfl⟩) (fun _ => ⟨trivial, rfl⟩)⟩) (fun _ => ⟨trivial, rfl⟩)⟩) (fun _ => ⟨trivial, rfl⟩)⟩
  unfold rightT at h
  rw [Bool.and_eq_true] at h
  rw [h.2]; rfl
set_option maxHeartbeats 4000000 in
theorem law_twice : PureOk Try.prog 3 psL1 := by
  refine pureOk_mk (cfg := pureCfg Try.prog [(6, psCell), (9, psRight), (7, psIs), (8, psAwake)] 0) (τ := Empty) (fun _ => pureCfg_ok mixed ⟨ok_cell, ok_right, ok_is, ok_awake, trivial⟩) (n := 60) Try.func3 (fun _ => by kernel_rfl) (fun _ => by kernel_rfl) ?_
  intro ⟨p, q, g, a, u, m⟩ hφ
  refine kcast (B := (True ∧ True ∧ True ∧ br (!isT p) (br (eT p == 12) (br (eT p == 12) (True ∧ SV.v (Value.bool true) = SV.v (Value.bool true)) (SV.v (Value.bool false) = SV.v (Value.bool true))) (SV.v (Value.bool false) = SV.v (Value.bool true))) (br (eT p != 0) (SV.v (Value.bool false) = SV.v (Value.bool true)) (br (eT p != 0) (SV.v (Value.bool false) = SV.v (Value.bool true)) (br (!(gT p (q, g, a, u, m).snd.fst == gT p (gT p (q, g, a, u, m).snd.fst) && (aT p (q, g, a, u, m).snd.snd.fst == aT p (aT p (q, g, a, u, m).snd.snd.fst) && (uT p (q, g, a, u, m).snd.snd.snd.fst == uT p (uT p (q, g, a, u, m).snd.snd.snd.fst) && (mT p (q, g, a, u, m).snd.snd.snd.snd == mT p (mT p (q, g, a, u, m).snd.snd.snd.snd) && true))))) (SV.v (Value.bool false) = SV.v (Value.bool true)) (True ∧ br (!rightT p (gT p (q, g, a, u, m).snd.fst) (aT p (q, g, a, u, m).snd.snd.fst) (uT p (q, g, a, u, m).snd.snd.snd.fst) (mT p (q, g, a, u, m).snd.snd.snd.snd)) (SV.v (Value.bool false) = SV.v (Value.bool true)) (br (gT p (q, g, a, u, m).snd.fst != (q, g, a, u, m).snd.fst) (br (gT p (q, g, a, u, m).snd.fst != 63) (SV.v (Value.bool false) = SV.v (Value.bool true)) (br (bitsK BinOp.andNot IntKind.i64 (aT p (q, g, a, u, m).snd.snd.fst) (q, g, a, u, m).snd.snd.fst != 0) (SV.v (Value.bool false) = SV.v (Value.bool true)) (br (uT p (q, g, a, u, m).snd.snd.snd.fst) (br (!(q, g, a, u, m).snd.snd.snd.fst) (SV.v (Value.bool false) = SV.v (Value.bool true)) (br (mT p (q, g, a, u, m).snd.snd.snd.snd != 0) (br (mT p (q, g, a, u, m).snd.snd.snd.snd != (q, g, a, u, m).snd.snd.snd.snd) (SV.v (Value.bool false) = SV.v (Value.bool true)) (True ∧ br (eT (q, g, a, u, m).fst == 0) (True ∧ br (rightT p (gT p (q, g, a, u, m).snd.fst) (aT p (q, g, a, u, m).snd.snd.fst) (uT p (q, g, a, u, m).snd.snd.snd.fst) (mT p (q, g, a, u, m).snd.snd.snd.snd)) (True ∧ br (rightT (q, g, a, u, m).fst (gT p (q, g, a, u, m).snd.fst) (aT p (q, g, a, u, m).snd.snd.fst) (uT p (q, g, a, u, m).snd.snd.snd.fst) (mT p (q, g, a, u, m).snd.snd.snd.snd)) (br (!(gT (q, g, a, u, m).fst (gT p (q, g, a, u, m).snd.fst) == gT p (q, g, a, u, m).snd.fst && (aT (q, g, a, u, m).fst (aT p (q, g, a, u, m).snd.snd.fst) == aT p (q, g, a, u, m).snd.snd.fst && (uT (q, g, a, u, m).fst (uT p (q, g, a, u, m).snd.snd.snd.fst) == uT p (q, g, a, u, m).snd.snd.snd.fst && (mT (q, g, a, u, m).fst (mT p (q, g, a, u, m).snd.snd.snd.snd) == mT p (q, g, a, u, m).snd.snd.snd.snd && true))))) (SV.v (Value.bool false) = SV.v (Value.bool true)) (True ∧ SV.v (Value.bool true) = SV.v (Value.bool true))) (True ∧ SV.v (Value.bool true) = SV.v (Value.bool true))) (True ∧ SV.v (Value.bool true) = SV.v (Value.bool true))) (True ∧ SV.v (Value.bool true) = SV.v (Value.bool true)))) (True ∧ br (eT (q, g, a, u, m).fst == 0) (True ∧ br (rightT p (gT p (q, g, a, u, m).snd.fst) (aT p (q, g, a, u, m).snd.snd.fst) (uT p (q, g, a, u, m).snd.snd.snd.fst) (mT p (q, g, a, u, m).snd.snd.snd.snd)) (True ∧ br (rightT (q, g, a, u, m).fst (gT p (q, g, a, u, m).snd.fst) (aT p (q, g, a, u, m).snd.snd.fst) (uT p (q, g, a, u, m).snd.snd.snd.fst) (mT p (q, g, a, u, m).snd.snd.snd.snd)) (br (!(gT (q, g, a, u, m).fst (gT p (q, g, a, u, m).snd.fst) == gT p (q, g, a, u, m).snd.fst && (aT (q, g, a, u, m).fst (aT p (q, g, a, u, m).snd.snd.fst) == aT p (q, g, a, u, m).snd.snd.fst && (uT (q, g, a, u, m).fst (uT p (q, g, a, u, m).snd.snd.snd.fst) == uT p (q, g, a, u, m).snd.snd.snd.fst && (mT (q, g, a, u, m).fst (mT p (q, g, a, u, m).snd.snd.snd.snd) == mT p (q, g, a, u, m).snd.snd.snd.snd && true))))) (SV.v (Value.bool false) = SV.v (Value.bool true)) (True ∧ SV.v (Value.bool true) = SV.v (Value.bool true))) (True ∧ SV.v (Value.bool true) = SV.v (Value.bool true))) (True ∧ SV.v (Value.bool true) = SV.v (Value.bool true))) (True ∧ SV.v (Value.bool true) = SV.v (Value.bool true))))) (br (mT p (q, g, a, u, m).snd.snd.snd.snd != 0) (br (mT p (q, g, a, u, m).snd.snd.snd.snd != (q, g, a, u, m).snd.snd.snd.snd) (SV.v (Value.bool false) = SV.v (Value.bool true)) (True ∧ br (eT (q, g, a, u, m).fst == 0) (True ∧ br (rightT p (gT p (q, g, a, u, m).snd.fst) (aT p (q, g, a, u, m).snd.snd.fst) (uT p (q, g, a, u, m).snd.snd.snd.fst) (mT p (q, g, a, u, m).snd.snd.snd.snd)) (True ∧ br (rightT (q, g, a, u, m).fst (gT p (q, g, a, u, m).snd.fst) (aT p (q, g, a, u, m).snd.snd.fst) (uT p (q, g, a, u, m).snd.snd.snd.fst) (mT p (q, g, a, u, m).snd.snd.snd.snd)) (br (!(gT (q, g, a, u, m).fst (gT p (q, g, a, u, m).snd.fst) == gT p (q, g, a, u, m).snd.fst && (aT (q, g, a, u, m).fst (aT p (q, g, a, u, m).snd.snd.fst) == aT p (q, g, a, u, m).snd.snd.fst && (uT (q, g, a, u, m).fst (uT p (q, g, a, u, m).snd.snd.snd.fst) == uT p (q, g, a, u, m).snd.snd.snd.fst && (mT (q, g, a, u, m).fst (mT p (q, g, a, u, m).snd.snd.snd.snd) == mT p (q, g, a, u, m).snd.snd.snd.snd && true))))) (SV.v (Value.bool false) = SV.v (Value.bool true)) (True ∧ SV.v (Value.bool true) = SV.v (Value.bool true))) (True ∧ SV.v (Value.bool true) = SV.v (Value.bool true))) (True ∧ SV.v (Value.bool true) = SV.v (Value.bool true))) (True ∧ SV.v (Value.bool true) = SV.v (Value.bool true)))) (True ∧ br (eT (q, g, a, u, m).fst == 0) (True ∧ br (rightT p (gT p (q, g, a, u, m).snd.fst) (aT p (q, g, a, u, m).snd.snd.fst) (uT p (q, g, a, u, m).snd.snd.snd.fst) (mT p (q, g, a, u, m).snd.snd.snd.snd)) (True ∧ br (rightT (q, g, a, u, m).fst (gT p (q, g, a, u, m).snd.fst) (aT p (q, g, a, u, m).snd.snd.fst) (uT p (q, g, a, u, m).snd.snd.snd.fst) (mT p (q, g, a, u, m).snd.snd.snd.snd)) (br (!(gT (q, g, a, u, m).fst (gT p (q, g, a, u, m).snd.fst) == gT p (q, g, a, u, m).snd.fst && (aT (q, g, a, u, m).fst (aT p (q, g, a, u, m).snd.snd.fst) == aT p (q, g, a, u, m).snd.snd.fst && (uT (q, g, a, u, m).fst (uT p (q, g, a, u, m).snd.snd.snd.fst) == uT p (q, g, a, u, m).snd.snd.snd.fst && (mT (q, g, a, u, m).fst (mT p (q, g, a, u, m).snd.snd.snd.snd) == mT p (q, g, a, u, m).snd.snd.snd.snd && true))))) (SV.v (Value.bool false) = SV.v (Value.bool true)) (True ∧ SV.v (Value.bool true) = SV.v (Value.bool true))) (True ∧ SV.v (Value.bool true) = SV.v (Value.bool true))) (True ∧ SV.v (Value.bool true) = SV.v (Value.bool true))) (True ∧ SV.v (Value.bool true) = SV.v (Value.bool true))))))) (br (bitsK BinOp.andNot IntKind.i64 (aT p (q, g, a, u, m).snd.snd.fst) (q, g, a, u, m).snd.snd.fst != 0) (SV.v (Value.bool false) = SV.v (Value.bool true)) (br (uT p (q, g, a, u, m).snd.snd.snd.fst) (br (!(q, g, a, u, m).snd.snd.snd.fst) (SV.v (Value.bool false) = SV.v (Value.bool true)) (br (mT p (q, g, a, u, m).snd.snd.snd.snd != 0) (br (mT p (q, g, a, u, m).snd.snd.snd.snd != (q, g, a, u, m).snd.snd.snd.snd) (SV.v (Value.bool false) = SV.v (Value.bool true)) (True ∧ br (eT (q, g, a, u, m).fst == 0) (True ∧ br (rightT p (gT p (q, g, a, u, m).snd.fst) (aT p (q, g, a, u, m).snd.snd.fst) (uT p (q, g, a, u, m).snd.snd.snd.fst) (mT p (q, g, a, u, m).snd.snd.snd.snd)) (True ∧ br (rightT (q, g, a, u, m).fst (gT p (q, g, a, u, m).snd.fst) (aT p (q, g, a, u, m).snd.snd.fst) (uT p (q, g, a, u, m).snd.snd.snd.fst) (mT p (q, g, a, u, m).snd.snd.snd.snd)) (br (!(gT (q, g, a, u, m).fst (gT p (q, g, a, u, m).snd.fst) == gT p (q, g, a, u, m).snd.fst && (aT (q, g, a, u, m).fst (aT p (q, g, a, u, m).snd.snd.fst) == aT p (q, g, a, u, m).snd.snd.fst && (uT (q, g, a, u, m).fst (uT p (q, g, a, u, m).snd.snd.snd.fst) == uT p (q, g, a, u, m).snd.snd.snd.fst && (mT (q, g, a, u, m).fst (mT p (q, g, a, u, m).snd.snd.snd.snd) == mT p (q, g, a, u, m).snd.snd.snd.snd && true))))) (SV.v (Value.bool false) = SV.v (Value.bool true)) (True ∧ SV.v (Value.bool true) = SV.v (Value.bool true))) (True ∧ SV.v (Value.bool true) = SV.v (Value.bool true))) (True ∧ SV.v (Value.bool true) = SV.v (Value.bool true))) (True ∧ SV.v (Value.bool true) = SV.v (Value.bool true)))) (True ∧ br (eT (q, g, a, u, m).fst == 0) (True ∧ br (rightT p (gT p (q, g, a, u, m).snd.fst) (aT p (q, g, a, u, m).snd.snd.fst) (uT p (q, g, a, u, m).snd.snd.snd.fst) (mT p (q, g, a, u, m).snd.snd.snd.snd)) (True ∧ br (rightT (q, g, a, u, m).fst (gT p (q, g, a, u, m).snd.fst) (aT p (q, g, a, u, m).snd.snd.fst) (uT p (q, g, a, u, m).snd.snd.snd.fst) (mT p (q, g, a, u, m).snd.snd.snd.snd)) (br (!(gT (q, g, a, u, m).fst (gT p (q, g, a, u, m).snd.fst) == gT p (q, g, a, u, m).snd.fst && (aT (q, g, a, u, m).fst (aT p (q, g, a, u, m).snd.snd.fst) == aT p (q, g, a, u, m).snd.snd.fst && (uT (q, g, a, u, m).fst (uT p (q, g, a, u, m).snd.snd.snd.fst) == uT p (q, g, a, u, m).snd.snd.snd.fst && (mT (q, g, a, u, m).fst (mT p (q, g, a, u, m).snd.snd.snd.snd) == mT p (q, g, a, u, m).snd.snd.snd.snd && true))))) (SV.v (Value.bool false) = SV.v (Value.bool true)) (True ∧ SV.v (Value.bool true) = SV.v (Value.bool true))) (True ∧ SV.v (Value.bool true) = SV.v (Value.bool true))) (True ∧ SV.v (Value.bool true) = SV.v (Value.bool true))) (True ∧ SV.v (Value.bool true) = SV.v (Value.bool true))))) (br (mT p (q, g, a, u, m).snd.snd.snd.snd != 0) (br (mT p (q, g, a, u, m).snd.snd.snd.snd != (q, g, a, u, m).snd.snd.snd.snd) (SV.v (Value.bool false) = SV.v (Value.bool true)) (True ∧ br (eT (q, g, a, u, m).fst == 0) (True ∧ br (rightT p (gT p (q, g, a, u, m).snd.fst) (aT p (q, g, a, u, m).snd.snd.fst) (uT p (q, g, a, u, m).snd.snd.snd.fst) (mT p (q, g, a, u, m).snd.snd.snd.snd)) (True ∧ br (rightT (q, g, a, u, m).fst (gT p (q, g, a, u, m).snd.fst) (aT p (q, g, a, u, m).snd.snd.fst) (uT p (q, g, a, u, m).snd.snd.snd.fst) (mT p (q, g, a, u, m).snd.snd.snd.snd)) (br (!(gT (q, g, a, u, m).fst (gT p (q, g, a, u, m).snd.fst) == gT p (q, g, a, u, m).snd.fst && (aT (q, g, a, u, m).fst (aT p (q, g, a, u, m).snd.snd.fst) == aT p (q, g, a, u, m).snd.snd.fst && (uT (q, g, a, u, m).fst (uT p (q, g, a, u, m).snd.snd.snd.fst) == uT p (q, g, a, u, m).snd.snd.snd.fst && (mT (q, g, a, u, m).fst (mT p (q, g, a, u, m).snd.snd.snd.snd) == mT p (q, g, a, u, m).snd.snd.snd.snd && true))))) (SV.v (Value.bool false) = SV.v (Value.bool true)) (True ∧ SV.v (Value.bool true) = SV.v (Value.bool true))) (True ∧ SV.v (Value.bool true) = SV.v (Value.bool true))) (True ∧ SV.v (Value.bool true) = SV.v (Value.bool true))) (True ∧ SV.v (Value.bool true) = SV.v (Value.bool true)))) (True ∧ br (eT (q, g, a, u, m).fst == 0) (True ∧ br (rightT p (gT p (q, g, a, u, m).snd.fst) (aT p (q, g, a, u, m).snd.snd.fst) (uT p (q, g, a, u, m).snd.snd.snd.fst) (mT p (q, g, a, u, m).snd.snd.snd.snd)) (True ∧ br (rightT (q, g, a, u, m).fst (gT p (q, g, a, u, m).snd.fst) (aT p (q, g, a, u, m).snd.snd.fst) (uT p (q, g, a, u, m).snd.snd.snd.fst) (mT p (q, g, a, u, m).snd.snd.snd.snd)) (br (!(gT (q, g, a, u, m).fst (gT p (q, g, a, u, m).snd.fst) == gT p (q, g, a, u, m).snd.fst && (aT (q, g, a, u, m).fst (aT p (q, g, a, u, m).snd.snd.fst) == aT p (q, g, a, u, m).snd.snd.fst && (uT (q, g, a, u, m).fst (uT p (q, g, a, u, m).snd.snd.snd.fst) == uT p (q, g, a, u, m).snd.snd.snd.fst && (mT (q, g, a, u, m).fst (mT p (q, g, a, u, m).snd.snd.snd.snd) == mT p (q, g, a, u, m).snd.snd.snd.snd && true))))) (SV.v (Value.bool false) = SV.v (Value.bool true)) (True ∧ SV.v (Value.bool true) = SV.v (Value.bool true))) (True ∧ SV.v (Value.bool true) = SV.v (Value.bool true))) (True ∧ SV.v (Value.bool true) = SV.v (Value.bool true))) (True ∧ SV.v (Value.bool true) = SV.v (Value.bool true))))))))))))) (by kernel_rfl) ?_
  dsimp only
  refine ⟨trivial, trivial, trivial, br_intro (fun hp => ?_) (fun hp => ?_)⟩
  · have hT : isT p = false := by simpa using hp
    rw [eT_off hT]
    exact br_t rfl (br_t rfl ⟨trivial, rfl⟩)
  · have hT : isT p = true := by simpa using hp
    have hG : (gT p g != g) = true → (gT p g != 63) = false := fun h => by
      rw [gT_on hT] at h ⊢
      split
      · rename_i hh; rw [if_pos hh] at h; simp at h
      · rfl
    have hA : (bitsK BinOp.andNot IntKind.i64 (aT p a) a != 0) = false := by
      unfold aT; rw [if_pos hT, attrT_part]; rfl
    have hU : uT p u = true → (!u) = false := fun h => by unfold uT at h; cases u <;> simp_all
    have hM : (mT p m != 0) = true → (mT p m != m) = false := fun h => by
      unfold mT at h ⊢
      split
      · simp
      · rename_i hh; rw [if_neg hh] at h; simp at h
    have hR : rightT p (gT p g) (aT p a) (uT p u) (mT p m) = true := by
      unfold rightT
      rw [hT, gT_twice hT, aT_twice, uT_twice, mT_twice]; simp
    rw [eT_on hT]
    refine br_f rfl (br_f rfl (br_f (by rw [gT_twice hT, aT_twice, uT_twice, mT_twice]; simp) ⟨trivial, br_f (by rw [hR]; rfl) ?_⟩))
    refine br_intro (fun h => br_f (hG h) ?_) (fun _ => ?_)
    all_goals (refine br_f hA (br_intro (fun h => br_f (hU h) ?_) (fun _ => ?_)))
    all_goals exact br_intro (fun h => br_f (hM h) (tail p q _ _ _ _)) (fun _ => tail p q _ _ _ _)

end Go.Proofs.Ytgnplgbknfnibaa
