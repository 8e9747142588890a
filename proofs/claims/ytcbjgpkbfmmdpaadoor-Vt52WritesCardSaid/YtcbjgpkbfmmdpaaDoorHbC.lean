/- Layer 12: a world that is made: contracts. -/
import Derived.Test.YtcbjgpkbfmmdpaaDoorHbB
set_option linter.unusedSimpArgs false
set_option linter.unusedVariables false
set_option linter.unusedSectionVars false
namespace Go.Proofs.YtcbjgpkbfmmdpaaDoor
open Go Go.Sym

/-- A new screen's items, behind one that is forgotten: at 3 the grid, at 4 its rows, at 7 the screen. -/
def newS (a b : Int) : List (SB Unit) := [.gone, .gone, .gone] ++ gbi 3 (a.toNat + 1) (a.toNat + 1) (newL a.toNat b.toNat blankC) ++ [.gone, .gone, .cells [.v (.int .i64 0), .v (.int .i64 0), .v (.bool false), .p 3 0, .any] 80]
def lcSNew : ACon Unit := mkLC (decP (shOne shI2) shHNil) fun ((a, b), _) => .ask (mayB a b = true) (.one (.t [.p 7 0, .v (.int .i64 0)]) (newS a b) [])
set_option maxHeartbeats 4000000 in
theorem ok_sNew : ∀ I : Sym.Inv Unit, LCOk I Tryd.prog 22 lcSNew := by
  refine lc_mk (fun _ => allCfg Tryd.prog [] tabJ9 0) (fun _ _ => allCfg_ok mixed trivial tabJ9_ok) (fun _ => rfl) (n := 80) Tryd.func22 ?_
  intro ⟨⟨a, b⟩, _⟩ hφ
  obtain ⟨hm, hp⟩ := id hφ
  refine kcast (B := (true = true ∧ br (mayB a b) (br (decide (b < (1 : Int))) ((SV.t [SV.v (Value.pointer none), SV.v (Value.int IntKind.i64 (10 : Int))] = SV.t [SV.p (7 : Nat) (0 : Nat), SV.v (Value.int IntKind.i64 (0 : Int))] ∧ True) ∧ True ∧ True ∧ True ∧ (SV.h (4 : Nat) [a.toNat + (1 : Nat), (0 : Nat)] = SV.h (4 : Nat) [a.toNat + (1 : Nat), (0 : Nat)] ∧ True) ∧ (a.toNat + (1 : Nat) = a.toNat + (1 : Nat) ∧ a.toNat + (1 : Nat) = a.toNat + (1 : Nat) ∧ newL a.toNat b.toNat (C4.mk (32 : Int) (0 : Int) false (0 : Int)) = newL a.toNat b.toNat blankC) ∧ False) (br (decide (b > (255 : Int))) ((SV.t [SV.v (Value.pointer none), SV.v (Value.int IntKind.i64 (10 : Int))] = SV.t [SV.p (7 : Nat) (0 : Nat), SV.v (Value.int IntKind.i64 (0 : Int))] ∧ True) ∧ True ∧ True ∧ True ∧ (SV.h (4 : Nat) [a.toNat + (1 : Nat), (0 : Nat)] = SV.h (4 : Nat) [a.toNat + (1 : Nat), (0 : Nat)] ∧ True) ∧ (a.toNat + (1 : Nat) = a.toNat + (1 : Nat) ∧ a.toNat + (1 : Nat) = a.toNat + (1 : Nat) ∧ newL a.toNat b.toNat (C4.mk (32 : Int) (0 : Int) false (0 : Int)) = newL a.toNat b.toNat blankC) ∧ False) ((SV.t [SV.p (7 : Nat) (0 : Nat), SV.v (Value.int IntKind.i64 (0 : Int))] = SV.t [SV.p (7 : Nat) (0 : Nat), SV.v (Value.int IntKind.i64 (0 : Int))] ∧ True) ∧ True ∧ True ∧ True ∧ (SV.h (4 : Nat) [a.toNat + (1 : Nat), (0 : Nat)] = SV.h (4 : Nat) [a.toNat + (1 : Nat), (0 : Nat)] ∧ True) ∧ (a.toNat + (1 : Nat) = a.toNat + (1 : Nat) ∧ a.toNat + (1 : Nat) = a.toNat + (1 : Nat) ∧ newL a.toNat b.toNat (C4.mk (32 : Int) (0 : Int) false (0 : Int)) = newL a.toNat b.toNat blankC) ∧ True ∧ True ∧ (SV.v (Value.int IntKind.i64 (0 : Int)) = SV.v (Value.int IntKind.i64 (0 : Int)) ∧ SV.v (Value.int IntKind.i64 (0 : Int)) = SV.v (Value.int IntKind.i64 (0 : Int)) ∧ SV.v (Value.bool false) = SV.v (Value.bool false) ∧ SV.p (3 : Nat) (0 : Nat) = SV.p (3 : Nat) (0 : Nat) ∧ True) ∧ True))) ((SV.t [SV.v (Value.pointer none), SV.v (Value.int IntKind.i64 (10 : Int))] = SV.t [SV.p (7 : Nat) (0 : Nat), SV.v (Value.int IntKind.i64 (0 : Int))] ∧ True) ∧ True ∧ True ∧ True ∧ False))) (by kernel_rfl) ?_
  clear hp hφ
  have hm' := mayB_iff.1 hm
  simp [br_iff, hm, blankC]
  omega
def tabK12 : List (Nat × ACon Unit) := (22, lcSNew) :: (23, lcQnew) :: []
theorem tabK12_ok : LCs Tryd.prog tabK12 := ⟨ok_sNew, ok_qnew, trivial⟩
/-- A world's items: at 7 the screen, at 9 the queue, at 10 the terminal, at 11 the world, at 12 what is pending. -/
def newW (a b m : Int) : List (SB Unit) := newS a b ++ [.own (.ints .u8 (List.replicate m.toNat 0)) m.toNat 5 1 0 true, .cells [.h 8 [0, 0], .v (.int .i64 0), .v (.int .i64 0), .v (.bool false)] 96,
  .cells [.p 7 0, .p 9 0, .v (.bool false), .v (.bool false), .v (.bool false), .h 12 [0, 0]] 69, .cells [.p 7 0, .p 9 0, .p 10 0] 33, .own (.ints .u8 []) 0 5 1 0 false]
def lcMade : ACon Unit := mkLC (decP (shCons shI (shCons shI (shOne shI))) shHNil) fun ((a, b, m), _) => .ask (mayB a b = true ∧ 0 ≤ m ∧ m ≤ 4096) (.one (.t [.p 11 0, .v (.bool true)]) (newW a b m) [])
set_option maxHeartbeats 4000000 in
theorem ok_made : ∀ I : Sym.Inv Unit, LCOk I Tryd.prog 10 lcMade := by
  refine lc_mkF (fun _ => [.nilCell 10 5 (.ints .u8 []) 5 1]) (fun _ => allCfg Tryd.prog [] tabK12 0) (fun _ _ => allCfg_ok mixed trivial tabK12_ok) (fun _ => rfl) (n := 80) Tryd.func10 ?_
  intro ⟨⟨a, b, m⟩, _⟩ hφ
  obtain ⟨⟨hm, h0, h1⟩, hp⟩ := id hφ
  refine kcast (B := (true = true ∧ mayB a b = true ∧ true = true ∧ br (decide ((0 : Int) ≤ m) && decide (m ≤ (4096 : Int))) ((SV.t [SV.p (11 : Nat) (0 : Nat), SV.v (Value.bool true)] = SV.t [SV.p (11 : Nat) (0 : Nat), SV.v (Value.bool true)] ∧ True) ∧ True ∧ True ∧ True ∧ (SV.h (4 : Nat) [a.toNat + (1 : Nat), (0 : Nat)] = SV.h (4 : Nat) [a.toNat + (1 : Nat), (0 : Nat)] ∧ True) ∧ (a.toNat + (1 : Nat) = a.toNat + (1 : Nat) ∧ a.toNat + (1 : Nat) = a.toNat + (1 : Nat) ∧ newL a.toNat b.toNat blankC = newL a.toNat b.toNat blankC) ∧ True ∧ True ∧ (SV.v (Value.int IntKind.i64 (0 : Int)) = SV.v (Value.int IntKind.i64 (0 : Int)) ∧ SV.v (Value.int IntKind.i64 (0 : Int)) = SV.v (Value.int IntKind.i64 (0 : Int)) ∧ SV.v (Value.bool false) = SV.v (Value.bool false) ∧ SV.p (3 : Nat) (0 : Nat) = SV.p (3 : Nat) (0 : Nat) ∧ True) ∧ (m.toNat = m.toNat ∧ (0 : Nat) = (0 : Nat) ∧ List.replicate m.toNat (0 : Int) = List.replicate m.toNat (0 : Int)) ∧ (SV.h (8 : Nat) [(0 : Nat), (0 : Nat)] = SV.h (8 : Nat) [(0 : Nat), (0 : Nat)] ∧ SV.v (Value.int IntKind.i64 (0 : Int)) = SV.v (Value.int IntKind.i64 (0 : Int)) ∧ SV.v (Value.int IntKind.i64 (0 : Int)) = SV.v (Value.int IntKind.i64 (0 : Int)) ∧ SV.v (Value.bool false) = SV.v (Value.bool false) ∧ True) ∧ (SV.p (7 : Nat) (0 : Nat) = SV.p (7 : Nat) (0 : Nat) ∧ SV.p (9 : Nat) (0 : Nat) = SV.p (9 : Nat) (0 : Nat) ∧ SV.v (Value.bool false) = SV.v (Value.bool false) ∧ SV.v (Value.bool false) = SV.v (Value.bool false) ∧ SV.v (Value.bool false) = SV.v (Value.bool false) ∧ SV.h (12 : Nat) [(0 : Nat), (0 : Nat)] = SV.h (12 : Nat) [(0 : Nat), (0 : Nat)] ∧ True) ∧ (SV.p (7 : Nat) (0 : Nat) = SV.p (7 : Nat) (0 : Nat) ∧ SV.p (9 : Nat) (0 : Nat) = SV.p (9 : Nat) (0 : Nat) ∧ SV.p (10 : Nat) (0 : Nat) = SV.p (10 : Nat) (0 : Nat) ∧ True) ∧ ((0 : Nat) = (0 : Nat) ∧ (0 : Nat) = (0 : Nat) ∧ LI [] = LI []) ∧ True) False)) (by kernel_rfl) ?_
  clear hp hφ
  simp [br_iff, hm]
  omega
end Go.Proofs.YtcbjgpkbfmmdpaaDoor
