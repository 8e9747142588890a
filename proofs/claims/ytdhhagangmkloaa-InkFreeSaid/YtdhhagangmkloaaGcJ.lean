/- Layer 8: the chapter's example, and calls of a nil grid. -/
import Derived.Test.YtdhhagangmkloaaGcH
set_option linter.unusedSimpArgs false
set_option linter.unusedVariables false
set_option linter.unusedSectionVars false
namespace Go.Proofs.Ytdhhagangmkloaa
open Go Go.Sym

def nearI (x n : Int) : Int := if (if n - 1 < x then n - 1 else x) > 0 then (if n - 1 < x then n - 1 else x) else 0
def lcNear1 : ACon Unit := mkLC (decP (shCons shI (shOne shI)) shHNil) fun ((x, n), _) => .ask (1 ≤ n ∧ n ≤ 255) (.one (.v (.int .i64 (nearI x n))) [] [])
set_option maxHeartbeats 4000000 in
theorem ok_near1 : ∀ I : Sym.Inv Unit, LCOk I Try.prog 109 lcNear1 := by
  refine lc_mk (fun _ => allCfg Try.prog [] [] 0) (fun _ _ => allCfg_ok mixed trivial trivial) (fun _ => rfl) (n := 60) Try.func109 ?_
  intro ⟨⟨x, n⟩, _⟩ hφ
  obtain ⟨⟨h1, h2⟩, hp⟩ := id hφ
  refine kcast (B := ((SV.v (Value.int IntKind.i64 (if (if IntKind.i64.wrap (n - (1 : Int)) < x then IntKind.i64.wrap (n - (1 : Int)) else x) > (0 : Int) then if IntKind.i64.wrap (n - (1 : Int)) < x then IntKind.i64.wrap (n - (1 : Int)) else x else (0 : Int))) = SV.v (Value.int IntKind.i64 (nearI x n)) ∧ True) ∧ True)) (by kernel_rfl) ?_
  rw [wrap64 (x := n - 1) (by omega) (by omega)]
  exact ⟨⟨rfl, trivial⟩, trivial⟩
def lcNear : ACon Unit := mkLC (decP (shCons shI2 (shOne shI2)) shHNil) fun (((a, b), (r, c)), _) => .br (mayB a b) (.one (.a [.v (.int .i64 (nearI r a)), .v (.int .i64 (nearI c b))]) [] []) (.one (.a [.v (.int .i64 0), .v (.int .i64 0)]) [] [])
set_option maxHeartbeats 4000000 in
theorem ok_near : ∀ I : Sym.Inv Unit, LCOk I Try.prog 95 lcNear := by
  refine lc_mk (fun _ => allCfg Try.prog [] [(109, lcNear1), (74, lcMay)] 0) (fun _ _ => allCfg_ok mixed trivial ⟨ok_near1, ok_may, trivial⟩) (fun _ => rfl) (n := 60) Try.func95 ?_
  intro ⟨⟨⟨a, b⟩, ⟨r, c⟩⟩, _⟩ hφ
  refine kcast (B := (true = true ∧ br (mayB a b) (true = true ∧ ((1 : Int) ≤ a ∧ a ≤ (255 : Int)) ∧ true = true ∧ ((1 : Int) ≤ b ∧ b ≤ (255 : Int)) ∧ br (mayB a b) ((SV.a [SV.v (Value.int IntKind.i64 (nearI r a)), SV.v (Value.int IntKind.i64 (nearI c b))] = SV.a [SV.v (Value.int IntKind.i64 (nearI r a)), SV.v (Value.int IntKind.i64 (nearI c b))] ∧ True) ∧ True) ((SV.a [SV.v (Value.int IntKind.i64 (nearI r a)), SV.v (Value.int IntKind.i64 (nearI c b))] = SV.a [SV.v (Value.int IntKind.i64 (0 : Int)), SV.v (Value.int IntKind.i64 (0 : Int))] ∧ True) ∧ True)) (br (mayB a b) ((SV.a [SV.v (Value.int IntKind.i64 (0 : Int)), SV.v (Value.int IntKind.i64 (0 : Int))] = SV.a [SV.v (Value.int IntKind.i64 (nearI r a)), SV.v (Value.int IntKind.i64 (nearI c b))] ∧ True) ∧ True) ((SV.a [SV.v (Value.int IntKind.i64 (0 : Int)), SV.v (Value.int IntKind.i64 (0 : Int))] = SV.a [SV.v (Value.int IntKind.i64 (0 : Int)), SV.v (Value.int IntKind.i64 (0 : Int))] ∧ True) ∧ True)))) (by kernel_rfl) ?_
  cases h : mayB a b
  · simp only [br_iff, Bool.false_eq_true, false_implies, true_implies, true_and, and_true]
  · rw [mayB_iff] at h
    simp only [br_iff, Bool.true_eq_false, false_implies, true_implies, true_and, and_true]
    omega
def tabL : List (Nat × ACon Unit) := (109, lcNear1) :: (95, lcNear) :: tabJ
theorem tabL_ok : LCs Try.prog tabL := ⟨ok_near1, ok_near, tabJ_ok⟩
/-- Lines go up by one, if they must. -/
def upL (l : List (List C4)) (x : C4) : List (List C4) := rollL l 0 (l.length - 1) 1 x
def lcRise : ACon Unit := mkLC (decP (shCons (shP 0) (shCons shB (shOne shC))) shG) fun ((_, p, x), (oe, ⟨l, oe2, ep⟩)) => .ask (oe = oe2 ∧ GW l) (.br p (.one (.v (.int .i64 1)) (gbi 0 oe (ep + 1) (upL l x)) [1]) (.one (.v (.int .i64 0)) (gbi 0 oe ep l) [1]))
set_option maxHeartbeats 4000000 in
theorem ok_rise : ∀ I : Sym.Inv Unit, LCOk I Try.prog 81 lcRise := by
  refine lc_mk (fun _ => allCfg Try.prog [] tabL 0) (fun _ _ => allCfg_ok mixed trivial tabL_ok) (fun _ => rfl) (n := 60) Try.func81 ?_
  intro ⟨⟨_, p, x⟩, ⟨oe, ⟨l, oe2, ep⟩⟩⟩ hφ
  obtain ⟨⟨rfl, hg⟩, hp⟩ := id hφ
  refine kcast (B := (br (!p) (br p ((SV.v (Value.int IntKind.i64 (0 : Int)) = SV.v (Value.int IntKind.i64 (1 : Int)) ∧ True) ∧ (SV.h (1 : Nat) [oe, (0 : Nat)] = SV.h (1 : Nat) [oe, (0 : Nat)] ∧ True) ∧ (oe = oe ∧ ep = ep + (1 : Nat) ∧ l = upL l x) ∧ True) ((SV.v (Value.int IntKind.i64 (0 : Int)) = SV.v (Value.int IntKind.i64 (0 : Int)) ∧ True) ∧ (SV.h (1 : Nat) [oe, (0 : Nat)] = SV.h (1 : Nat) [oe, (0 : Nat)] ∧ True) ∧ (oe = oe ∧ ep = ep ∧ l = l) ∧ True)) (true = true ∧ (oe = oe ∧ GW l) ∧ true = true ∧ (oe = oe ∧ GW l) ∧ br (inB l (0 : Int) (0 : Int) && inB l (if (0 : Int) > IntKind.i64.wrap ((↑l.length : Int) - (1 : Int)) then (0 : Int) else IntKind.i64.wrap ((↑l.length : Int) - (1 : Int))) (0 : Int)) (br (decide ((if (0 : Int) > IntKind.i64.wrap ((↑l.length : Int) - (1 : Int)) then (0 : Int) else IntKind.i64.wrap ((↑l.length : Int) - (1 : Int))) < (0 : Int))) (br p ((SV.v (Value.int IntKind.i64 (1 : Int)) = SV.v (Value.int IntKind.i64 (1 : Int)) ∧ True) ∧ (SV.h (1 : Nat) [oe, (0 : Nat)] = SV.h (1 : Nat) [oe, (0 : Nat)] ∧ True) ∧ (oe = oe ∧ ep = ep + (1 : Nat) ∧ l = upL l x) ∧ True) ((SV.v (Value.int IntKind.i64 (1 : Int)) = SV.v (Value.int IntKind.i64 (0 : Int)) ∧ True) ∧ (SV.h (1 : Nat) [oe, (0 : Nat)] = SV.h (1 : Nat) [oe, (0 : Nat)] ∧ True) ∧ (oe = oe ∧ ep = ep ∧ l = l) ∧ True)) (br p ((SV.v (Value.int IntKind.i64 (1 : Int)) = SV.v (Value.int IntKind.i64 (1 : Int)) ∧ True) ∧ (SV.h (1 : Nat) [oe, (0 : Nat)] = SV.h (1 : Nat) [oe, (0 : Nat)] ∧ True) ∧ (oe = oe ∧ ep + (1 : Nat) = ep + (1 : Nat) ∧ rollL l (0 : Nat) (if (0 : Int) > IntKind.i64.wrap ((↑l.length : Int) - (1 : Int)) then (0 : Int) else IntKind.i64.wrap ((↑l.length : Int) - (1 : Int))).toNat (1 : Int) (C4.mk x.g x.a x.gd x.m) = upL l x) ∧ True) ((SV.v (Value.int IntKind.i64 (1 : Int)) = SV.v (Value.int IntKind.i64 (0 : Int)) ∧ True) ∧ (SV.h (1 : Nat) [oe, (0 : Nat)] = SV.h (1 : Nat) [oe, (0 : Nat)] ∧ True) ∧ (oe = oe ∧ ep + (1 : Nat) = ep ∧ rollL l (0 : Nat) (if (0 : Int) > IntKind.i64.wrap ((↑l.length : Int) - (1 : Int)) then (0 : Int) else IntKind.i64.wrap ((↑l.length : Int) - (1 : Int))).toNat (1 : Int) (C4.mk x.g x.a x.gd x.m) = l) ∧ True))) (br p ((SV.v (Value.int IntKind.i64 (1 : Int)) = SV.v (Value.int IntKind.i64 (1 : Int)) ∧ True) ∧ (SV.h (1 : Nat) [oe, (0 : Nat)] = SV.h (1 : Nat) [oe, (0 : Nat)] ∧ True) ∧ (oe = oe ∧ ep = ep + (1 : Nat) ∧ l = upL l x) ∧ True) ((SV.v (Value.int IntKind.i64 (1 : Int)) = SV.v (Value.int IntKind.i64 (0 : Int)) ∧ True) ∧ (SV.h (1 : Nat) [oe, (0 : Nat)] = SV.h (1 : Nat) [oe, (0 : Nat)] ∧ True) ∧ (oe = oe ∧ ep = ep ∧ l = l) ∧ True))))) (by kernel_rfl) ?_
  clear hp hφ
  have h1 := hg.r0
  have h2 := hg.r1
  have h3 := hg.c0
  have e1 : (if (0 : Int) > IntKind.i64.wrap ((l.length : Int) - 1) then (0 : Int) else IntKind.i64.wrap ((l.length : Int) - 1)) = ((l.length - 1 : Nat) : Int) := by
    rw [wrap64 (by omega) (by omega), if_neg (by omega)]; omega
  have e2 : inB l 0 0 = true := by rw [inB_iff]; omega
  have e3 : inB l ((l.length - 1 : Nat) : Int) 0 = true := by rw [inB_iff]; omega
  have e4 : ¬ (((l.length - 1 : Nat) : Int) < 0) := by omega
  simp only [e1]
  cases p
  · simp [br_iff]
  · simp [br_iff, hg, e2, e3, e4, upL]
def tabM : List (Nat × ACon Unit) := (81, lcRise) :: tabL
theorem tabM_ok : LCs Try.prog tabM := ⟨ok_rise, tabL_ok⟩
set_option maxHeartbeats 4000000 in
theorem ok_awake08 : PureOk Try.prog 43 psAwake := by
  refine pureOk_all (fun _ => allCfg Try.prog [] tabM 8) (fun _ _ => allCfg_ok mixed trivial tabM_ok) (fun _ => rfl) (n := 120) Try.func43 (fun _ => rfl) (fun _ => rfl) ?_
  intro _ hφ
  refine kcast (B := (true = true ∧ (II (0 : Int) ≤ (32 : Int) ∧ II (32 : Int) ≤ (255 : Int)) ∧ true = true ∧ true = true ∧ (II (0 : Int) ≤ (32 : Int) ∧ II (32 : Int) ≤ (255 : Int)) ∧ true = true ∧ (II (0 : Int) ≤ (97 : Int) ∧ II (97 : Int) ≤ (255 : Int)) ∧ true = true ∧ ((3 : Nat) = (3 : Nat) ∧ GW [[C4.mk (32 : Int) (0 : Int) false (0 : Int), C4.mk (32 : Int) (0 : Int) false (0 : Int)], [C4.mk (32 : Int) (0 : Int) false (0 : Int), C4.mk (32 : Int) (0 : Int) false (0 : Int)]]) ∧ true = true ∧ (II (0 : Int) ≤ (32 : Int) ∧ II (32 : Int) ≤ (255 : Int)) ∧ true = true ∧ (II (0 : Int) ≤ (98 : Int) ∧ II (98 : Int) ≤ (255 : Int)) ∧ true = true ∧ ((3 : Nat) = (3 : Nat) ∧ GW [[C4.mk (97 : Int) (0 : Int) false (0 : Int), C4.mk (32 : Int) (0 : Int) false (0 : Int)], [C4.mk (32 : Int) (0 : Int) false (0 : Int), C4.mk (32 : Int) (0 : Int) false (0 : Int)]]) ∧ true = true ∧ (II (0 : Int) ≤ (32 : Int) ∧ II (32 : Int) ≤ (255 : Int)) ∧ true = true ∧ (II (0 : Int) ≤ (99 : Int) ∧ II (99 : Int) ≤ (255 : Int)) ∧ true = true ∧ ((3 : Nat) = (3 : Nat) ∧ GW [[C4.mk (97 : Int) (0 : Int) false (0 : Int), C4.mk (98 : Int) (0 : Int) false (0 : Int)], [C4.mk (32 : Int) (0 : Int) false (0 : Int), C4.mk (32 : Int) (0 : Int) false (0 : Int)]]) ∧ true = true ∧ (II (0 : Int) ≤ (32 : Int) ∧ II (32 : Int) ≤ (255 : Int)) ∧ true = true ∧ (II (0 : Int) ≤ (100 : Int) ∧ II (100 : Int) ≤ (255 : Int)) ∧ true = true ∧ ((3 : Nat) = (3 : Nat) ∧ GW [[C4.mk (97 : Int) (0 : Int) false (0 : Int), C4.mk (98 : Int) (0 : Int) false (0 : Int)], [C4.mk (99 : Int) (0 : Int) false (0 : Int), C4.mk (32 : Int) (0 : Int) false (0 : Int)]]) ∧ true = true ∧ (II (0 : Int) ≤ (32 : Int) ∧ II (32 : Int) ≤ (255 : Int)) ∧ true = true ∧ true = true ∧ (II (0 : Int) ≤ (32 : Int) ∧ II (32 : Int) ≤ (255 : Int)) ∧ true = true ∧ (II (0 : Int) ≤ (99 : Int) ∧ II (99 : Int) ≤ (255 : Int)) ∧ true = true ∧ ((2 : Nat) = (2 : Nat) ∧ GW [[C4.mk (32 : Int) (0 : Int) false (0 : Int), C4.mk (32 : Int) (0 : Int) false (0 : Int)]]) ∧ true = true ∧ (II (0 : Int) ≤ (32 : Int) ∧ II (32 : Int) ≤ (255 : Int)) ∧ true = true ∧ (II (0 : Int) ≤ (120 : Int) ∧ II (120 : Int) ≤ (255 : Int)) ∧ true = true ∧ ((2 : Nat) = (2 : Nat) ∧ GW [[C4.mk (99 : Int) (0 : Int) false (0 : Int), C4.mk (32 : Int) (0 : Int) false (0 : Int)]]) ∧ true = true ∧ (II (0 : Int) ≤ (120 : Int) ∧ II (120 : Int) ≤ (255 : Int)) ∧ true = true ∧ (II (0 : Int) ≤ (32 : Int) ∧ II (32 : Int) ≤ (255 : Int)) ∧ true = true ∧ ((3 : Nat) = (3 : Nat) ∧ GW [[C4.mk (97 : Int) (0 : Int) false (0 : Int), C4.mk (98 : Int) (0 : Int) false (0 : Int)], [C4.mk (99 : Int) (0 : Int) false (0 : Int), C4.mk (100 : Int) (0 : Int) false (0 : Int)]]) ∧ true = true ∧ true = true ∧ ((3 : Nat) = (3 : Nat) ∧ GW [[C4.mk (97 : Int) (0 : Int) false (0 : Int), C4.mk (98 : Int) (0 : Int) false (0 : Int)], [C4.mk (99 : Int) (0 : Int) false (0 : Int), C4.mk (100 : Int) (0 : Int) false (0 : Int)]]) ∧ true = true ∧ ((3 : Nat) = (3 : Nat) ∧ GW [[C4.mk (97 : Int) (0 : Int) false (0 : Int), C4.mk (98 : Int) (0 : Int) false (0 : Int)], [C4.mk (99 : Int) (0 : Int) false (0 : Int), C4.mk (100 : Int) (0 : Int) false (0 : Int)]]) ∧ true = true ∧ true = true ∧ true = true ∧ ((3 : Nat) = (3 : Nat) ∧ GW [[C4.mk (97 : Int) (0 : Int) false (0 : Int), C4.mk (98 : Int) (0 : Int) false (0 : Int)], [C4.mk (99 : Int) (0 : Int) false (0 : Int), C4.mk (120 : Int) (0 : Int) false (0 : Int)]]) ∧ true = true ∧ ((3 : Nat) = (3 : Nat) ∧ GW [[C4.mk (99 : Int) (0 : Int) false (0 : Int), C4.mk (120 : Int) (0 : Int) false (0 : Int)], [C4.mk (32 : Int) (0 : Int) false (0 : Int), C4.mk (32 : Int) (0 : Int) false (0 : Int)]]) ∧ true = true ∧ ((3 : Nat) = (3 : Nat) ∧ GW [[C4.mk (99 : Int) (0 : Int) false (0 : Int), C4.mk (120 : Int) (0 : Int) false (0 : Int)], [C4.mk (32 : Int) (0 : Int) false (0 : Int), C4.mk (32 : Int) (0 : Int) false (0 : Int)]]) ∧ true = true ∧ ((3 : Nat) = (3 : Nat) ∧ GW [[C4.mk (99 : Int) (0 : Int) false (0 : Int), C4.mk (120 : Int) (0 : Int) false (0 : Int)], [C4.mk (32 : Int) (0 : Int) false (0 : Int), C4.mk (32 : Int) (0 : Int) false (0 : Int)]]) ∧ true = true ∧ ((1 : Nat) = (1 : Nat) ∧ (2 : Nat) = (2 : Nat) ∧ II (0 : Int) ≤ (0 : Int) ∧ II (0 : Int) ≤ (0 : Int) ∧ II (0 : Int) ≤ (255 : Int) ∧ II (0 : Int) ≤ (2 : Int) ∧ II (2 : Int) ≤ (255 : Int) ∧ II (0 : Int) ≤ (255 : Int) ∧ II (0 : Int) < (2 : Int)) ∧ true = true ∧ ((1 : Nat) = (1 : Nat) ∧ (2 : Nat) = (2 : Nat) ∧ II (0 : Int) ≤ (0 : Int) ∧ II (0 : Int) ≤ (1 : Int) ∧ II (0 : Int) ≤ (255 : Int) ∧ II (0 : Int) ≤ (2 : Int) ∧ II (2 : Int) ≤ (255 : Int) ∧ II (1 : Int) ≤ (255 : Int) ∧ II (1 : Int) < (2 : Int)) ∧ true = true ∧ (II (0 : Int) ≤ (32 : Int) ∧ II (32 : Int) ≤ (255 : Int)) ∧ SV.v (Value.bool true) = SV.v (Value.bool true))) (by kernel_rfl) ?_
  repeat' first | exact rfl | exact gw_of rfl | decide | apply And.intro

/-! ### Calls of a nil grid -/
abbrev shPl : Sh (Int × Int × Bool) := shA (shCons shI (shCons shI (shOne shB)))
abbrev noPl : SV := .a [.v (.int .i64 0), .v (.int .i64 0), .v (.bool false)]
def lcPlace : ACon Unit := mkLC (decP (shOne (shA (shCons shI (shCons shI (shCons shB (shCons shI (shOne shStr))))))) shHNil) fun ((r, c, q, _, _), _) => .one (.a [.v (.int .i64 r), .v (.int .i64 c), .v (.bool q)]) [] []
set_option maxHeartbeats 4000000 in
theorem ok_place : ∀ I : Sym.Inv Unit, LCOk I Try.prog 44 lcPlace := by
  refine lc_mk (fun _ => allCfg Try.prog [] tabM 0) (fun _ _ => allCfg_ok mixed trivial tabM_ok) (fun _ => rfl) (n := 60) Try.func44 ?_
  intro ⟨⟨r, c, q, w, s⟩, _⟩ hφ
  refine kcast (B := ((SV.a [SV.v (Value.int IntKind.i64 r), SV.v (Value.int IntKind.i64 c), SV.v (Value.bool q)] = SV.a [SV.v (Value.int IntKind.i64 r), SV.v (Value.int IntKind.i64 c), SV.v (Value.bool q)] ∧ True) ∧ True)) (by kernel_rfl) ?_
  simp
def lcPut0 : ACon Unit := mkLC (decP (shCons shNilP (shCons shPl (shCons shC (shCons shI (shOne shC))))) shHNil) fun _ => .one (.t [noPl, .v (.int .i64 0), .v (.int .i64 2)]) [] []
set_option maxHeartbeats 4000000 in
theorem ok_put0 : ∀ I : Sym.Inv Unit, LCOk I Try.prog 46 lcPut0 := by
  refine lc_mk (fun _ => allCfg Try.prog [] tabM 0) (fun _ _ => allCfg_ok mixed trivial tabM_ok) (fun _ => rfl) (n := 60) Try.func46 ?_
  intro ⟨⟨_, ⟨r, c, q⟩, x, w, y⟩, _⟩ hφ
  refine kcast (B := ((SV.t [SV.a [SV.v (Value.int IntKind.i64 (0 : Int)), SV.v (Value.int IntKind.i64 (0 : Int)), SV.v (Value.bool false)], SV.v (Value.int IntKind.i64 (0 : Int)), SV.v (Value.int IntKind.i64 (2 : Int))] = SV.t [SV.a [SV.v (Value.int IntKind.i64 (0 : Int)), SV.v (Value.int IntKind.i64 (0 : Int)), SV.v (Value.bool false)], SV.v (Value.int IntKind.i64 (0 : Int)), SV.v (Value.int IntKind.i64 (2 : Int))] ∧ True) ∧ True)) (by kernel_rfl) ?_
  simp
/-- A row of cells that is owned, and may be nil. -/
def shOwnC0 : ShB OC where
  enc a := .own (.recs a.xs) a.n 38 4 a.ep false
  dec x := match x with
    | .own c n T' sz ep nn' => match c with
      | .recs xs => match Nat.beq T' 38 && (Nat.beq sz 4 && (nn' == false)) with
        | true => some ⟨xs, n, ep⟩
        | false => none
      | _ => none
    | _ => none
  ok x a h := by
    split at h
    · split at h
      · split at h
        · rename_i hc
          simp only [Bool.and_eq_true, Nat.beq_eq, beq_iff_eq] at hc
          obtain ⟨rfl, rfl, rfl⟩ := hc
          simp only [Option.some.injEq] at h
          subst h
          rfl
        · cases h
      · cases h
    · cases h
def lcText0 : ACon Unit := mkLC (decP (shCons shNilP (shCons shPl (shCons (shO 0) (shCons shI (shOne shC))))) (shHOne shOwnC0)) fun (_, ⟨xs, n, ep⟩) => .one (.t [noPl, .v (.int .i64 0), .v (.int .i64 2)]) [.own (.recs xs) n 38 4 ep false] []
set_option maxHeartbeats 4000000 in
theorem ok_text0 : ∀ I : Sym.Inv Unit, LCOk I Try.prog 57 lcText0 := by
  refine lc_mk (fun _ => allCfg Try.prog [] tabM 0) (fun _ _ => allCfg_ok mixed trivial tabM_ok) (fun _ => rfl) (n := 60) Try.func57 ?_
  intro ⟨⟨_, ⟨r, c, q⟩, e, w, y⟩, ⟨xs, n, ep⟩⟩ hφ
  refine kcast (B := ((SV.t [SV.a [SV.v (Value.int IntKind.i64 (0 : Int)), SV.v (Value.int IntKind.i64 (0 : Int)), SV.v (Value.bool false)], SV.v (Value.int IntKind.i64 (0 : Int)), SV.v (Value.int IntKind.i64 (2 : Int))] = SV.t [SV.a [SV.v (Value.int IntKind.i64 (0 : Int)), SV.v (Value.int IntKind.i64 (0 : Int)), SV.v (Value.bool false)], SV.v (Value.int IntKind.i64 (0 : Int)), SV.v (Value.int IntKind.i64 (2 : Int))] ∧ True) ∧ (n = n ∧ ep = ep ∧ xs = xs) ∧ True)) (by kernel_rfl) ?_
  simp
/-- Bytes as cells. -/
theorem byteAt_range (s : ByteArray) (j : Nat) : 0 ≤ byteAt s j ∧ byteAt s j ≤ 255 := by
  unfold byteAt
  have := (s.data.toList.getD j 0).toNat_lt
  omega
def cellsL (s : ByteArray) (k : Nat) : List C4 := (List.range k).map fun i => cellOf (byteAt s i)
def annCe : Ann Unit where
  α := Int
  φ st k := 0 ≤ k ∧ k ≤ (tS st.tm 0).size
  μ st k := ((tS st.tm 0).size - k).toNat
  get st := getI st.tm 4
  f st k := tmpl [0] [(4, .v (.int .i64 k)), (3, .h 0 [k.toNat, 0])] [(0, .own (.recs (cellsL (tS st.tm 0) k.toNat)) k.toNat 38 4 k.toNat false)] st
  fx st := match nilAt st.tm 3 with
    | true => [.nilTm 3 (.recs []) 38 4]
    | false => []
def lcCells : ACon Unit := mkLC (decP (shOne shStr) shHNil) fun (s, _) => .ask (s.size ≤ 60) (.one (.h 0 [s.size, 0]) [.own (.recs (cellsL s s.size)) s.size 38 4 s.size false] [])
set_option maxHeartbeats 4000000 in
theorem ok_cells : ∀ I : Sym.Inv Unit, LCOk I Try.prog 56 lcCells := by
  refine lc_mk (fun _ => allCfg Try.prog [] tabM 3 [(260, annCe)]) (fun _ _ => allCfg_ok mixed trivial tabM_ok) (fun _ => rfl) (n := 60) Try.func56 ?_
  intro ⟨s, _⟩ hφ
  obtain ⟨h1, hp⟩ := id hφ
  refine kcast (B := ((II (0 : Int) ≤ (0 : Int) ∧ (0 : Int) ≤ (↑s.size : Int)) ∧ ((SV.v (Value.string s) = SV.v (Value.string s) ∧ SV.h (0 : Nat) [(0 : Nat), (0 : Nat)] = SV.h (0 : Nat) [(0 : Nat), (0 : Nat)] ∧ SV.v (Value.int IntKind.i64 (0 : Int)) = SV.v (Value.int IntKind.i64 (0 : Int)) ∧ True) ∧ ((0 : Nat) = (0 : Nat) ∧ (0 : Nat) = (0 : Nat) ∧ LC4 [] = []) ∧ True) ∧ ∀ (x : Int), (0 : Int) ≤ x ∧ x ≤ (↑s.size : Int) → br (decide (x < (↑s.size : Int))) (rq (decide ((0 : Int) ≤ x ∧ x < (↑s.size : Int))) (true = true ∧ ((0 : Int) ≤ byteAt s x.toNat ∧ byteAt s x.toNat ≤ (255 : Int)) ∧ rq (x.toNat.beq x.toNat && (true && decide (x.toNat + (1 : Nat) ≤ (9223372036854775807 : Nat) ∧ (x.toNat + (1 : Nat)) * (32 : Nat) ≤ (140737488355328 : Nat)))) (((0 : Int) ≤ IntKind.i64.wrap (x + (1 : Int)) ∧ IntKind.i64.wrap (x + (1 : Int)) ≤ (↑s.size : Int)) ∧ ((SV.v (Value.string s) = SV.v (Value.string s) ∧ SV.h (0 : Nat) [x.toNat + (1 : Nat), (0 : Nat)] = SV.h (0 : Nat) [(IntKind.i64.wrap (x + (1 : Int))).toNat, (0 : Nat)] ∧ SV.v (Value.int IntKind.i64 (IntKind.i64.wrap (x + (1 : Int)))) = SV.v (Value.int IntKind.i64 (IntKind.i64.wrap (x + (1 : Int)))) ∧ True) ∧ (x.toNat + (1 : Nat) = (IntKind.i64.wrap (x + (1 : Int))).toNat ∧ x.toNat + (1 : Nat) = (IntKind.i64.wrap (x + (1 : Int))).toNat ∧ cellsL s x.toNat ++ [C4.mk (byteAt s x.toNat) (0 : Int) (decide ((65 : Int) ≤ byteAt s x.toNat) && decide (byteAt s x.toNat ≤ (90 : Int))) (0 : Int)] = cellsL s (IntKind.i64.wrap (x + (1 : Int))).toNat) ∧ True) ∧ ((↑s.size : Int) - IntKind.i64.wrap (x + (1 : Int))).toNat < ((↑s.size : Int) - x).toNat))) ((SV.h (0 : Nat) [x.toNat, (0 : Nat)] = SV.h (0 : Nat) [s.size, (0 : Nat)] ∧ True) ∧ (x.toNat = s.size ∧ x.toNat = s.size ∧ cellsL s x.toNat = cellsL s s.size) ∧ True))) (by kernel_rfl) ?_
  clear hp hφ
  simp only [LC4, II, nbeq, rq_iff, br_iff, Bool.true_and, Bool.and_true, true_and, and_true, Bool.and_eq_true, Nat.ble_eq, Nat.blt_eq, decide_eq_true_eq, decide_eq_false_iff_not]
  refine ⟨by omega, fun k ⟨hk0, hk1⟩ => ⟨fun hlt => ?_, fun hge => ?_⟩⟩
  · rw [wrap64 (x := k + 1) (by omega) (by omega)]
    have e1 : (k + 1).toNat = k.toNat + 1 := by omega
    have hb := byteAt_range s k.toNat
    rw [e1]
    refine ⟨⟨hk0, hlt⟩, hb, ⟨by omega, by omega⟩, ⟨by omega, by omega⟩, ⟨rfl, rfl, rfl, ?_⟩, by omega⟩
    unfold cellsL
    rw [List.range_succ, List.map_append]; rfl
  · have : k.toNat = s.size := by omega
    rw [this]
    exact ⟨rfl, rfl, rfl, rfl⟩def lcAround : ACon Unit := mkLC (decP (shCons shI2 (shCons shI2 (shOne shI))) shHNil) fun (((a, b), ((r, c), n)), _) => .one (.f (.func 112) [.p 0 0, .p 1 0, .p 2 0]) [.cells [.v (.int .i64 a), .v (.int .i64 b)] 58, .cells [.v (.int .i64 r), .v (.int .i64 c)] 36, .cells [.v (.int .i64 n)] 3] []
set_option maxHeartbeats 4000000 in
theorem ok_around : ∀ I : Sym.Inv Unit, LCOk I Try.prog 108 lcAround := by
  refine lc_mk (fun _ => allCfg Try.prog [] tabM 0) (fun _ _ => allCfg_ok mixed trivial tabM_ok) (fun _ => rfl) (n := 60) Try.func108 ?_
  intro ⟨⟨⟨a, b⟩, ⟨⟨r, c⟩, n⟩⟩, _⟩ hφ
  refine kcast (B := ((SV.f (Fn.func (112 : Nat)) [SV.p (0 : Nat) (0 : Nat), SV.p (1 : Nat) (0 : Nat), SV.p (2 : Nat) (0 : Nat)] = SV.f (Fn.func (112 : Nat)) [SV.p (0 : Nat) (0 : Nat), SV.p (1 : Nat) (0 : Nat), SV.p (2 : Nat) (0 : Nat)] ∧ True) ∧ (SV.v (Value.int IntKind.i64 a) = SV.v (Value.int IntKind.i64 a) ∧ SV.v (Value.int IntKind.i64 b) = SV.v (Value.int IntKind.i64 b) ∧ True) ∧ (SV.v (Value.int IntKind.i64 r) = SV.v (Value.int IntKind.i64 r) ∧ SV.v (Value.int IntKind.i64 c) = SV.v (Value.int IntKind.i64 c) ∧ True) ∧ (SV.v (Value.int IntKind.i64 n) = SV.v (Value.int IntKind.i64 n) ∧ True) ∧ True)) (by kernel_rfl) ?_
  simp
def lcIdx0 : ACon Unit := mkLC (decP (shCons shI2 (shOne shI2)) shHNil) fun (((a, b), (r, c)), _) => .ask (mayB a b = false) (.one (.t [.v (.int .i64 0), .v (.int .i64 10)]) [] [])
set_option maxHeartbeats 4000000 in
theorem ok_idx0 : ∀ I : Sym.Inv Unit, LCOk I Try.prog 93 lcIdx0 := by
  refine lc_mk (fun _ => allCfg Try.prog [] tabM 0) (fun _ _ => allCfg_ok mixed trivial tabM_ok) (fun _ => rfl) (n := 60) Try.func93 ?_
  intro ⟨⟨⟨a, b⟩, ⟨r, c⟩⟩, _⟩ hφ
  obtain ⟨h1, hp⟩ := id hφ
  refine kcast (B := (true = true ∧ br (mayB a b) (true = true ∧ br (mayB a b) (br (!(nearI r a == r && (nearI c b == c && true))) ((SV.t [SV.v (Value.int IntKind.i64 (0 : Int)), SV.v (Value.int IntKind.i64 (11 : Int))] = SV.t [SV.v (Value.int IntKind.i64 (0 : Int)), SV.v (Value.int IntKind.i64 (10 : Int))] ∧ True) ∧ True) ((SV.t [SV.v (Value.int IntKind.i64 (IntKind.i64.wrap (IntKind.i64.wrap (r * b) + c))), SV.v (Value.int IntKind.i64 (0 : Int))] = SV.t [SV.v (Value.int IntKind.i64 (0 : Int)), SV.v (Value.int IntKind.i64 (10 : Int))] ∧ True) ∧ True)) (br (!((0 : Int) == r && ((0 : Int) == c && true))) ((SV.t [SV.v (Value.int IntKind.i64 (0 : Int)), SV.v (Value.int IntKind.i64 (11 : Int))] = SV.t [SV.v (Value.int IntKind.i64 (0 : Int)), SV.v (Value.int IntKind.i64 (10 : Int))] ∧ True) ∧ True) ((SV.t [SV.v (Value.int IntKind.i64 (IntKind.i64.wrap (IntKind.i64.wrap (r * b) + c))), SV.v (Value.int IntKind.i64 (0 : Int))] = SV.t [SV.v (Value.int IntKind.i64 (0 : Int)), SV.v (Value.int IntKind.i64 (10 : Int))] ∧ True) ∧ True))) ((SV.t [SV.v (Value.int IntKind.i64 (0 : Int)), SV.v (Value.int IntKind.i64 (10 : Int))] = SV.t [SV.v (Value.int IntKind.i64 (0 : Int)), SV.v (Value.int IntKind.i64 (10 : Int))] ∧ True) ∧ True))) (by kernel_rfl) ?_
  clear hp hφ
  simp [br_iff, h1]
def tabO : List (Nat × ACon Unit) := (93, lcIdx0) :: (108, lcAround) :: (56, lcCells) :: (57, lcText0) :: (46, lcPut0) :: (44, lcPlace) :: tabM
theorem tabO_ok : LCs Try.prog tabO := ⟨ok_idx0, ok_around, ok_cells, ok_text0, ok_put0, ok_place, tabM_ok⟩

end Go.Proofs.Ytdhhagangmkloaa
