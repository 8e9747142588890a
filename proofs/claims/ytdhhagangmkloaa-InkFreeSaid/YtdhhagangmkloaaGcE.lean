/- Layer 7: bytes as cells, the chapter's example. -/
import Derived.Test.YtdhhagangmkloaaGcD
set_option linter.unusedSimpArgs false
set_option linter.unusedVariables false
set_option linter.unusedSectionVars false
namespace Go.Proofs.Ytdhhagangmkloaa
open Go Go.Sym

def cellOf (b : Int) : C4 := ⟨b, 0, decide (65 ≤ b) && decide (b ≤ 90), 0⟩
def lcCell : ACon Unit := mkLC (decP (shOne (shInt .u8)) shHNil) fun (b, _) => .ask (0 ≤ b ∧ b ≤ 255) (.one (cv (cellOf b)) [] [])
set_option maxHeartbeats 4000000 in
theorem ok_cell : ∀ I : Sym.Inv Unit, LCOk I Try.prog 33 lcCell := by
  refine lc_mk (fun _ => allCfg Try.prog [] [] 0) (fun _ _ => allCfg_ok mixed trivial trivial) (fun _ => rfl) (n := 60) Try.func33 ?_
  intro ⟨b, _⟩ hφ
  obtain ⟨⟨h0, h1⟩, hp⟩ := id hφ
  refine kcast (B := (br (decide (b ≥ (65 : Int))) ((SV.a [SV.v (Value.int IntKind.i32 (IntKind.i32.wrap b)), SV.v (Value.int IntKind.i64 (0 : Int)), SV.v (Value.bool (decide (b ≤ (90 : Int)))), SV.v (Value.int IntKind.i64 (0 : Int))] = SV.a [SV.v (Value.int IntKind.i32 b), SV.v (Value.int IntKind.i64 (0 : Int)), SV.v (Value.bool (decide ((65 : Int) ≤ b) && decide (b ≤ (90 : Int)))), SV.v (Value.int IntKind.i64 (0 : Int))] ∧ True) ∧ True) ((SV.a [SV.v (Value.int IntKind.i32 (IntKind.i32.wrap b)), SV.v (Value.int IntKind.i64 (0 : Int)), SV.v (Value.bool false), SV.v (Value.int IntKind.i64 (0 : Int))] = SV.a [SV.v (Value.int IntKind.i32 b), SV.v (Value.int IntKind.i64 (0 : Int)), SV.v (Value.bool (decide ((65 : Int) ≤ b) && decide (b ≤ (90 : Int)))), SV.v (Value.int IntKind.i64 (0 : Int))] ∧ True) ∧ True))) (by kernel_rfl) ?_
  have hw : IntKind.i32.wrap b = b := IntWalk.i32_in _ (by omega)
  simp only [br_iff, hw, decide_eq_true_eq, decide_eq_false_iff_not, and_true]
  refine ⟨fun h => ?_, fun h => ?_⟩
  · rw [show decide ((65 : Int) ≤ b) = true from decide_eq_true h]; rfl
  · rw [show decide ((65 : Int) ≤ b) = false from decide_eq_false (by omega)]; rfl
def tabE : List (Nat × ACon Unit) := (33, lcCell) :: tabD
theorem tabE_ok : LCs Try.prog tabE := ⟨ok_cell, tabD_ok⟩
def gwB (l : List (List C4)) : Bool := Nat.ble 1 l.length && (Nat.ble l.length 255 && (Nat.ble 1 (nC l) && (Nat.ble (nC l) 255 && l.all fun r => Nat.beq r.length (nC l))))
theorem gw_of {l : List (List C4)} (h : gwB l = true) : GW l := by
  simp only [gwB, Bool.and_eq_true, Nat.ble_eq, List.all_eq_true, Nat.beq_eq] at h
  obtain ⟨h1, h2, h3, h4, h5⟩ := h
  exact ⟨h1, h2, h3, h4, h5⟩
def psAwake : PS := mkPS shNil (fun _ => True) fun _ => .v (.bool true)
set_option maxHeartbeats 4000000 in
theorem ok_awake07 : PureOk Try.prog 22 psAwake := by
  refine pureOk_all (fun _ => allCfg Try.prog [] tabE 8) (fun _ _ => allCfg_ok mixed trivial tabE_ok) (fun _ => rfl) (n := 120) Try.func22 (fun _ => rfl) (fun _ => rfl) ?_
  intro _ hφ
  refine kcast (B := (true = true ∧ (II (0 : Int) ≤ (32 : Int) ∧ II (32 : Int) ≤ (255 : Int)) ∧ true = true ∧ true = true ∧ (II (0 : Int) ≤ (32 : Int) ∧ II (32 : Int) ≤ (255 : Int)) ∧ true = true ∧ (II (0 : Int) ≤ (97 : Int) ∧ II (97 : Int) ≤ (255 : Int)) ∧ true = true ∧ ((3 : Nat) = (3 : Nat) ∧ GW [[C4.mk (32 : Int) (0 : Int) false (0 : Int), C4.mk (32 : Int) (0 : Int) false (0 : Int)], [C4.mk (32 : Int) (0 : Int) false (0 : Int), C4.mk (32 : Int) (0 : Int) false (0 : Int)]]) ∧ true = true ∧ (II (0 : Int) ≤ (32 : Int) ∧ II (32 : Int) ≤ (255 : Int)) ∧ true = true ∧ (II (0 : Int) ≤ (98 : Int) ∧ II (98 : Int) ≤ (255 : Int)) ∧ true = true ∧ ((3 : Nat) = (3 : Nat) ∧ GW [[C4.mk (97 : Int) (0 : Int) false (0 : Int), C4.mk (32 : Int) (0 : Int) false (0 : Int)], [C4.mk (32 : Int) (0 : Int) false (0 : Int), C4.mk (32 : Int) (0 : Int) false (0 : Int)]]) ∧ true = true ∧ (II (0 : Int) ≤ (32 : Int) ∧ II (32 : Int) ≤ (255 : Int)) ∧ true = true ∧ (II (0 : Int) ≤ (99 : Int) ∧ II (99 : Int) ≤ (255 : Int)) ∧ true = true ∧ ((3 : Nat) = (3 : Nat) ∧ GW [[C4.mk (97 : Int) (0 : Int) false (0 : Int), C4.mk (98 : Int) (0 : Int) false (0 : Int)], [C4.mk (32 : Int) (0 : Int) false (0 : Int), C4.mk (32 : Int) (0 : Int) false (0 : Int)]]) ∧ true = true ∧ (II (0 : Int) ≤ (32 : Int) ∧ II (32 : Int) ≤ (255 : Int)) ∧ true = true ∧ (II (0 : Int) ≤ (100 : Int) ∧ II (100 : Int) ≤ (255 : Int)) ∧ true = true ∧ ((3 : Nat) = (3 : Nat) ∧ GW [[C4.mk (97 : Int) (0 : Int) false (0 : Int), C4.mk (98 : Int) (0 : Int) false (0 : Int)], [C4.mk (99 : Int) (0 : Int) false (0 : Int), C4.mk (32 : Int) (0 : Int) false (0 : Int)]]) ∧ true = true ∧ (II (0 : Int) ≤ (32 : Int) ∧ II (32 : Int) ≤ (255 : Int)) ∧ true = true ∧ ((3 : Nat) = (3 : Nat) ∧ GW [[C4.mk (97 : Int) (0 : Int) false (0 : Int), C4.mk (98 : Int) (0 : Int) false (0 : Int)], [C4.mk (99 : Int) (0 : Int) false (0 : Int), C4.mk (100 : Int) (0 : Int) false (0 : Int)]]) ∧ true = true ∧ ((3 : Nat) = (3 : Nat) ∧ GW [[C4.mk (97 : Int) (0 : Int) false (0 : Int), C4.mk (98 : Int) (0 : Int) false (0 : Int)], [C4.mk (99 : Int) (0 : Int) false (0 : Int), C4.mk (100 : Int) (0 : Int) false (0 : Int)]]) ∧ true = true ∧ ((3 : Nat) = (3 : Nat) ∧ GW [[C4.mk (97 : Int) (0 : Int) false (0 : Int), C4.mk (98 : Int) (0 : Int) false (0 : Int)], [C4.mk (99 : Int) (0 : Int) false (0 : Int), C4.mk (100 : Int) (0 : Int) false (0 : Int)]]) ∧ true = true ∧ ((3 : Nat) = (3 : Nat) ∧ GW [[C4.mk (97 : Int) (0 : Int) false (0 : Int), C4.mk (98 : Int) (0 : Int) false (0 : Int)], [C4.mk (99 : Int) (0 : Int) false (0 : Int), C4.mk (100 : Int) (0 : Int) false (0 : Int)]]) ∧ true = true ∧ ((3 : Nat) = (3 : Nat) ∧ GW [[C4.mk (97 : Int) (0 : Int) false (0 : Int), C4.mk (32 : Int) (0 : Int) false (0 : Int)], [C4.mk (99 : Int) (0 : Int) false (0 : Int), C4.mk (100 : Int) (0 : Int) false (0 : Int)]]) ∧ true = true ∧ ((3 : Nat) = (3 : Nat) ∧ GW [[C4.mk (97 : Int) (0 : Int) false (0 : Int), C4.mk (32 : Int) (0 : Int) false (0 : Int)], [C4.mk (32 : Int) (0 : Int) false (0 : Int), C4.mk (100 : Int) (0 : Int) false (0 : Int)]]) ∧ true = true ∧ ((3 : Nat) = (3 : Nat) ∧ GW [[C4.mk (97 : Int) (0 : Int) false (0 : Int), C4.mk (32 : Int) (0 : Int) false (0 : Int)], [C4.mk (32 : Int) (0 : Int) false (0 : Int), C4.mk (100 : Int) (0 : Int) false (0 : Int)]]) ∧ true = true ∧ (II (0 : Int) ≤ (32 : Int) ∧ II (32 : Int) ≤ (255 : Int)) ∧ true = true ∧ (II (0 : Int) ≤ (100 : Int) ∧ II (100 : Int) ≤ (255 : Int)) ∧ SV.v (Value.bool true) = SV.v (Value.bool true))) (by kernel_rfl) ?_
  repeat' first | exact rfl | exact gw_of rfl | decide | apply And.intro

end Go.Proofs.Ytdhhagangmkloaa
