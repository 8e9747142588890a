/- Contracts of layer 1: the chapter's example, and calls of a nil grid. -/
import Derived.Test.YtpdhnmnjccnbmaaGrD
set_option linter.unusedSimpArgs false
set_option linter.unusedVariables false
set_option linter.unusedSectionVars false
namespace Go.Proofs.Ytpdhnmnjccnbmaa
open Go Go.Sym

def gwB (l : List (List Int)) : Bool := Nat.ble 1 l.length && (Nat.ble l.length 255 && (Nat.ble 1 (nC l) && (Nat.ble (nC l) 255 && l.all fun r => Nat.beq r.length (nC l))))
theorem gw_of {l : List (List Int)} (h : gwB l = true) : GW l := by
  simp only [gwB, Bool.and_eq_true, Nat.ble_eq, List.all_eq_true, Nat.beq_eq] at h
  obtain ⟨h1, h2, h3, h4, h5⟩ := h
  exact ⟨h1, h2, h3, h4, h5⟩
def psAwake : PS := mkPS shNil (fun _ => True) fun _ => .v (.bool true)
set_option maxHeartbeats 4000000 in
theorem ok_awake : PureOk Try.prog 12 psAwake := by
  refine pureOk_all (fun _ => allCfg Try.prog [] tabD 8) (fun _ _ => allCfg_ok mixed trivial tabD_ok) (fun _ => rfl) (n := 80) Try.func12 (fun _ => rfl) (fun _ => rfl) ?_
  intro _ hφ
  refine kcast (B := (true = true ∧ true = true ∧ ((2 : Nat) = (2 : Nat) ∧ GW [[(0 : Int), (0 : Int), (0 : Int)]]) ∧ true = true ∧ ((2 : Nat) = (2 : Nat) ∧ GW [[(1 : Int), (0 : Int), (0 : Int)]]) ∧ true = true ∧ ((2 : Nat) = (2 : Nat) ∧ GW [[(1 : Int), (2 : Int), (0 : Int)]]) ∧ true = true ∧ ((2 : Nat) = (2 : Nat) ∧ GW [[(1 : Int), (2 : Int), (3 : Int)]]) ∧ true = true ∧ ((2 : Nat) = (2 : Nat) ∧ GW [[(2 : Int), (3 : Int), (9 : Int)]]) ∧ true = true ∧ ((2 : Nat) = (2 : Nat) ∧ GW [[(2 : Int), (3 : Int), (9 : Int)]]) ∧ true = true ∧ ((2 : Nat) = (2 : Nat) ∧ GW [[(7 : Int), (7 : Int), (2 : Int)]]) ∧ SV.v (Value.bool true) = SV.v (Value.bool true))) (by kernel_rfl) ?_
  exact ⟨rfl, rfl, ⟨rfl, gw_of rfl⟩, rfl, ⟨rfl, gw_of rfl⟩, rfl, ⟨rfl, gw_of rfl⟩, rfl, ⟨rfl, gw_of rfl⟩, rfl, ⟨rfl, gw_of rfl⟩, rfl, ⟨rfl, gw_of rfl⟩, rfl, ⟨rfl, gw_of rfl⟩, rfl⟩
def ptab : List (Nat × PS) := [(12, psAwake)]
theorem ptab_ok : Pures Try.prog ptab := ⟨ok_awake, trivial⟩

def lcRMay : ACon Unit := mkLC (decP (shCons shI (shOne shI)) shHNil) fun ((a, b), _) => .one (.v (.bool (mayB a b))) [] []
set_option maxHeartbeats 4000000 in
theorem ok_rmay : ∀ I : Sym.Inv Unit, LCOk I Try.prog 10 lcRMay := by
  refine lc_mk (fun _ => allCfg Try.prog [] [] 0) (fun _ _ => allCfg_ok mixed trivial trivial) (fun _ => rfl) (n := 60) Try.func10 ?_
  intro ⟨⟨a, b⟩, _⟩ hφ
  refine kcast (B := (br (decide (a ≥ (1 : Int))) (br (decide (a ≤ (255 : Int))) (br (decide (b ≥ (1 : Int))) ((SV.v (Value.bool (decide (b ≤ (255 : Int)))) = SV.v (Value.bool (mayB a b)) ∧ True) ∧ True) ((SV.v (Value.bool false) = SV.v (Value.bool (mayB a b)) ∧ True) ∧ True)) ((SV.v (Value.bool false) = SV.v (Value.bool (mayB a b)) ∧ True) ∧ True)) ((SV.v (Value.bool false) = SV.v (Value.bool (mayB a b)) ∧ True) ∧ True))) (by kernel_rfl) ?_
  simp only [br_iff, and_true, SV.v.injEq, Value.bool.injEq, decide_eq_true_eq, decide_eq_false_iff_not]
  refine ⟨fun h1 => ⟨fun h2 => ⟨fun h3 => ?_, fun h3 => ?_⟩, fun h2 => ?_⟩, fun h1 => ?_⟩
  · rw [Bool.eq_iff_iff, mayB_iff, decide_eq_true_eq]; omega
  · rw [eq_comm, ← Bool.not_eq_true, mayB_iff]; omega
  · rw [eq_comm, ← Bool.not_eq_true, mayB_iff]; omega
  · rw [eq_comm, ← Bool.not_eq_true, mayB_iff]; omega
def lcRoll0 : ACon Unit := mkLC (decP (shCons shNilP (shCons shI (shCons shI (shCons shI (shOne shI))))) shHNil) fun _ => .one (.v (.int .i64 2)) [] []
def lcFill0 : ACon Unit := mkLC (decP (shCons shNilP (shCons shI2 (shCons shI2 (shOne shI)))) shHNil) fun _ => .one (.v (.int .i64 2)) [] []
def lcRes0 : ACon Unit := mkLC (decP (shCons shNilP (shCons shI2 (shOne shI))) shHNil) fun _ => .one (.v (.int .i64 2)) [] []
def lcCopy0 : ACon Unit := mkLC (decP (shOne shNilP) shHNil) fun _ => .one (.v (.pointer none)) [] []
set_option maxHeartbeats 4000000 in
theorem ok_roll0 : ∀ I : Sym.Inv Unit, LCOk I Try.prog 22 lcRoll0 := by
  refine lc_mk (fun _ => allCfg Try.prog [] tabD 3) (fun _ _ => allCfg_ok mixed trivial tabD_ok) (fun _ => rfl) (n := 80) Try.func22 ?_
  intro ⟨⟨_, r, a, b, n⟩, _⟩ hφ
  refine kcast (B := (true = true ∧ (SV.v (Value.int IntKind.i64 (2 : Int)) = SV.v (Value.int IntKind.i64 (2 : Int)) ∧ True) ∧ True)) (by kernel_rfl) ?_
  exact ⟨rfl, ⟨rfl, trivial⟩, trivial⟩
set_option maxHeartbeats 4000000 in
theorem ok_fill0 : ∀ I : Sym.Inv Unit, LCOk I Try.prog 21 lcFill0 := by
  refine lc_mk (fun _ => allCfg Try.prog [] tabD 3) (fun _ _ => allCfg_ok mixed trivial tabD_ok) (fun _ => rfl) (n := 80) Try.func21 ?_
  intro ⟨⟨_, ⟨r, a⟩, ⟨b, n⟩, x⟩, _⟩ hφ
  refine kcast (B := (true = true ∧ (SV.v (Value.int IntKind.i64 (2 : Int)) = SV.v (Value.int IntKind.i64 (2 : Int)) ∧ True) ∧ True)) (by kernel_rfl) ?_
  exact ⟨rfl, ⟨rfl, trivial⟩, trivial⟩
set_option maxHeartbeats 4000000 in
theorem ok_res0 : ∀ I : Sym.Inv Unit, LCOk I Try.prog 24 lcRes0 := by
  refine lc_mk (fun _ => allCfg Try.prog [] tabD 3) (fun _ _ => allCfg_ok mixed trivial tabD_ok) (fun _ => rfl) (n := 80) Try.func24 ?_
  intro ⟨⟨_, ⟨b, n⟩, x⟩, _⟩ hφ
  refine kcast (B := ((SV.v (Value.int IntKind.i64 (2 : Int)) = SV.v (Value.int IntKind.i64 (2 : Int)) ∧ True) ∧ True)) (by kernel_rfl) ?_
  exact ⟨⟨rfl, trivial⟩, trivial⟩
set_option maxHeartbeats 4000000 in
theorem ok_copy0 : ∀ I : Sym.Inv Unit, LCOk I Try.prog 28 lcCopy0 := by
  refine lc_mk (fun _ => allCfg Try.prog [] tabD 3) (fun _ _ => allCfg_ok mixed trivial tabD_ok) (fun _ => rfl) (n := 80) Try.func28 ?_
  intro ⟨_, _⟩ hφ
  refine kcast (B := ((SV.v (Value.pointer none) = SV.v (Value.pointer none) ∧ True) ∧ True)) (by kernel_rfl) ?_
  exact ⟨⟨rfl, trivial⟩, trivial⟩
def lcSz : ACon Unit := mkLC (decP (shOne shI2) shHNil) fun ((a, b), _) => .one (.a [.v (.int .i64 a), .v (.int .i64 b)]) [] []
set_option maxHeartbeats 4000000 in
theorem ok_sz : ∀ I : Sym.Inv Unit, LCOk I Try.prog 25 lcSz := by
  refine lc_mk (fun _ => allCfg Try.prog [] [] 3) (fun _ _ => allCfg_ok mixed trivial trivial) (fun _ => rfl) (n := 80) Try.func25 ?_
  intro ⟨⟨a, b⟩, _⟩ hφ
  refine kcast (B := ((SV.a [SV.v (Value.int IntKind.i64 a), SV.v (Value.int IntKind.i64 b)] = SV.a [SV.v (Value.int IntKind.i64 a), SV.v (Value.int IntKind.i64 b)] ∧ True) ∧ True)) (by kernel_rfl) ?_
  exact ⟨⟨rfl, trivial⟩, trivial⟩
def tabN : List (Nat × ACon Unit) := (25, lcSz) :: (10, lcRMay) :: (22, lcRoll0) :: (21, lcFill0) :: (24, lcRes0) :: (28, lcCopy0) :: tabD
theorem tabN_ok : LCs Try.prog tabN := ⟨ok_sz, ok_rmay, ok_roll0, ok_fill0, ok_res0, ok_copy0, tabD_ok⟩

end Go.Proofs.Ytpdhnmnjccnbmaa
