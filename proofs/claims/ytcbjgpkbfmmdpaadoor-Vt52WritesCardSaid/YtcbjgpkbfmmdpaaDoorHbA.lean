/- Layers 4 and 9: steps, and a screen's calls: contracts. -/
import Derived.Test.YtcbjgpkbfmmdpaaDoorHaE
set_option linter.unusedSimpArgs false
set_option linter.unusedVariables false
set_option linter.unusedSectionVars false
namespace Go.Sym
open Go
/-- Whatever it is. -/
def shAny : Sh Unit where
  enc _ := .any
  dec x := match x with
    | .any => some ()
    | _ => none
  ok x a h := by
    split at h
    · rfl
    · cases h
end Go.Sym
namespace Go.Proofs.YtcbjgpkbfmmdpaaDoor
open Go Go.Sym

def cutF (n : Int) : Int := if (if (510 : Int) < n then (510 : Int) else n) > -510 then (if (510 : Int) < n then (510 : Int) else n) else -510
theorem cut_bd (n : Int) : -510 ≤ cutF n ∧ cutF n ≤ 510 := by unfold cutF; split <;> split <;> omega
theorem cut_in {n : Int} (h0 : -510 ≤ n) (h1 : n ≤ 510) : cutF n = n := by unfold cutF; split <;> split <;> omega
def lcCut : ACon Unit := mkLC (decP (shOne shI) shHNil) fun (n, _) => .one (.v (.int .i64 (cutF n))) [] []
set_option maxHeartbeats 4000000 in
theorem ok_cut : ∀ I : Sym.Inv Unit, LCOk I Tryd.prog 92 lcCut := by
  refine lc_mk (fun _ => allCfg Tryd.prog [] [] 0) (fun _ _ => allCfg_ok mixed trivial trivial) (fun _ => rfl) (n := 60) Tryd.func92 ?_
  intro ⟨n, _⟩ hφ
  refine kcast (B := ((SV.v (Value.int IntKind.i64 (if (if (510 : Int) < n then (510 : Int) else n) > (-510 : Int) then if (510 : Int) < n then (510 : Int) else n else (-510 : Int))) = SV.v (Value.int IntKind.i64 (cutF n)) ∧ True) ∧ True)) (by kernel_rfl) ?_
  simp [cutF]
/-- A row, or a column, so many steps on. -/
def stI (x n a : Int) : Int := nearI (nearI x a + cutF n) a
def tabS1 : List (Nat × ACon Unit) := (92, lcCut) :: tabF1
theorem tabS1_ok : LCs Tryd.prog tabS1 := ⟨ok_cut, tabF1_ok⟩
def lcStep : ACon Unit := mkLC (decP (shCons shI2 (shCons shPl (shCons shI (shOne shI)))) shHNil) fun (((a, b), (r, c, _), n, m), _) => .ask (mayB a b = true) (.one (pl3 (stI r n a) (stI c m b) false) [] [])
set_option maxHeartbeats 4000000 in
theorem ok_step : ∀ I : Sym.Inv Unit, LCOk I Tryd.prog 78 lcStep := by
  refine lc_mk (fun _ => allCfg Tryd.prog [] tabS1 0) (fun _ _ => allCfg_ok mixed trivial tabS1_ok) (fun _ => rfl) (n := 60) Tryd.func78 ?_
  intro ⟨⟨⟨a, b⟩, ⟨r, c, p⟩, n, m⟩, _⟩ hφ
  obtain ⟨hm, hp⟩ := id hφ
  refine kcast (B := (true = true ∧ mayB a b = true ∧ true = true ∧ true = true ∧ true = true ∧ mayB a b = true ∧ (SV.a [SV.v (Value.int IntKind.i64 (nearI (IntKind.i64.wrap (nearI r a + cutF n)) a)), SV.v (Value.int IntKind.i64 (nearI (IntKind.i64.wrap (nearI c b + cutF m)) b)), SV.v (Value.bool false)] = SV.a [SV.v (Value.int IntKind.i64 (stI r n a)), SV.v (Value.int IntKind.i64 (stI c m b)), SV.v (Value.bool false)] ∧ True) ∧ True)) (by kernel_rfl) ?_
  clear hp hφ
  have hm' := mayB_iff.1 hm
  have h1 := near_bd (x := r) (n := a) hm'.1
  have h2 := near_bd (x := c) (n := b) hm'.2.2.1
  have h3 := cut_bd n
  have h4 := cut_bd m
  rw [wrap64 (x := nearI r a + cutF n) (by omega) (by omega), wrap64 (x := nearI c b + cutF m) (by omega) (by omega)]
  simp [hm, stI]

/-! ### A screen -/
abbrev SR := (Int × Int × Bool × Unit × Unit) × GB
def shScr (j : Nat) : ShH SR := shHCons (shCells (shCons shI (shCons shI (shCons shB (shCons (shP (j + 1)) (shOne shAny))))) 80) (shGi (j + 1))
def scrI (j : Nat) (r c : Int) (p : Bool) (oe ep : Nat) (l : List (List C4)) : List (SB Unit) := .cells [.v (.int .i64 r), .v (.int .i64 c), .v (.bool p), .p (j + 1) 0, .any] 80 :: gbi (j + 1) oe ep l
theorem gw_may {l : List (List C4)} (hg : GW l) : mayB l.length (nC l) = true := by
  have h0 := hg.r0
  have h1 := hg.r1
  have h2 := hg.c0
  have h3 := hg.c1
  rw [mayB_iff]; omega
def lcSSize : ACon Unit := mkLC (decP (shOne (shP 0)) (shScr 0)) fun (_, ((r, c, p, _, _), (oe, ⟨l, oe2, ep⟩))) => .ask (oe = oe2 ∧ GW l) (.one (p2 l.length (nC l)) (scrI 0 r c p oe ep l) [])
def tabG9 : List (Nat × ACon Unit) := (50, lcSize1) :: (78, lcStep) :: (77, lcPut) :: (81, lcWipe1) :: (79, lcUp) :: tabF1
theorem tabG9_ok : LCs Tryd.prog tabG9 := ⟨ok_size1, ok_step, ok_put, ok_wipe1, ok_up, tabF1_ok⟩
set_option maxHeartbeats 4000000 in
theorem ok_sSize : ∀ I : Sym.Inv Unit, LCOk I Tryd.prog 56 lcSSize := by
  refine lc_mk (fun _ => allCfg Tryd.prog [] tabG9 0) (fun _ _ => allCfg_ok mixed trivial tabG9_ok) (fun _ => rfl) (n := 60) Tryd.func56 ?_
  intro ⟨_, ⟨r, c, p, _, _⟩, oe, ⟨l, oe2, ep⟩⟩ hφ
  obtain ⟨⟨rfl, hg⟩, hp⟩ := id hφ
  refine kcast (B := (true = true ∧ (oe = oe ∧ GW l) ∧ (SV.a [SV.v (Value.int IntKind.i64 (↑l.length : Int)), SV.v (Value.int IntKind.i64 (↑(nC l) : Int))] = SV.a [SV.v (Value.int IntKind.i64 (↑l.length : Int)), SV.v (Value.int IntKind.i64 (↑(nC l) : Int))] ∧ True) ∧ (SV.v (Value.int IntKind.i64 r) = SV.v (Value.int IntKind.i64 r) ∧ SV.v (Value.int IntKind.i64 c) = SV.v (Value.int IntKind.i64 c) ∧ SV.v (Value.bool p) = SV.v (Value.bool p) ∧ SV.p (1 : Nat) (0 : Nat) = SV.p (1 : Nat) (0 : Nat) ∧ True) ∧ (SV.h (2 : Nat) [oe, (0 : Nat)] = SV.h (2 : Nat) [oe, (0 : Nat)] ∧ True) ∧ (oe = oe ∧ ep = ep ∧ l = l) ∧ True)) (by kernel_rfl) ?_
  simp [hg]
def lcCur : ACon Unit := mkLC (decP (shOne (shP 0)) (shScr 0)) fun (_, ((r, c, p, _, _), (oe, ⟨l, oe2, ep⟩))) => .one (.t [p2 r c, .v (.bool p)]) ((shScr 0).enc ((r, c, p, (), ()), (oe, ⟨l, oe2, ep⟩))) []
set_option maxHeartbeats 4000000 in
theorem ok_cur : ∀ I : Sym.Inv Unit, LCOk I Tryd.prog 12 lcCur := by
  refine lc_mk (fun _ => allCfg Tryd.prog [] tabG9 0) (fun _ _ => allCfg_ok mixed trivial tabG9_ok) (fun _ => rfl) (n := 60) Tryd.func12 ?_
  intro ⟨_, ⟨r, c, p, _, _⟩, oe, ⟨l, oe2, ep⟩⟩ hφ
  refine kcast (B := ((SV.t [SV.a [SV.v (Value.int IntKind.i64 r), SV.v (Value.int IntKind.i64 c)], SV.v (Value.bool p)] = SV.t [SV.a [SV.v (Value.int IntKind.i64 r), SV.v (Value.int IntKind.i64 c)], SV.v (Value.bool p)] ∧ True) ∧ (SV.v (Value.int IntKind.i64 r) = SV.v (Value.int IntKind.i64 r) ∧ SV.v (Value.int IntKind.i64 c) = SV.v (Value.int IntKind.i64 c) ∧ SV.v (Value.bool p) = SV.v (Value.bool p) ∧ SV.p (1 : Nat) (0 : Nat) = SV.p (1 : Nat) (0 : Nat) ∧ True) ∧ (SV.h (2 : Nat) [oe, (0 : Nat)] = SV.h (2 : Nat) [oe, (0 : Nat)] ∧ True) ∧ (oe2 = oe2 ∧ ep = ep ∧ l = l) ∧ True)) (by kernel_rfl) ?_
  simp
def tabH9 : List (Nat × ACon Unit) := (56, lcSSize) :: (12, lcCur) :: tabG9
theorem tabH9_ok : LCs Tryd.prog tabH9 := ⟨ok_sSize, ok_cur, tabG9_ok⟩
def lcMove : ACon Unit := mkLC (decP (shCons (shP 0) (shOne shI2)) (shScr 0)) fun ((_, (x, y)), ((r, c, p, _, _), (oe, ⟨l, oe2, ep⟩))) => .ask (oe = oe2 ∧ GW l) (.one (.t []) (scrI 0 (nearI x l.length) (nearI y (nC l)) false oe ep l) [0])
set_option maxHeartbeats 4000000 in
theorem ok_move : ∀ I : Sym.Inv Unit, LCOk I Tryd.prog 35 lcMove := by
  refine lc_mk (fun _ => allCfg Tryd.prog [] tabH9 0) (fun _ _ => allCfg_ok mixed trivial tabH9_ok) (fun _ => rfl) (n := 60) Tryd.func35 ?_
  intro ⟨⟨_, x, y⟩, ⟨r, c, p, _, _⟩, oe, ⟨l, oe2, ep⟩⟩ hφ
  obtain ⟨⟨rfl, hg⟩, hp⟩ := id hφ
  refine kcast (B := (true = true ∧ (oe = oe ∧ GW l) ∧ true = true ∧ mayB (↑l.length : Int) (↑(nC l) : Int) = true ∧ (SV.t [] = SV.t [] ∧ True) ∧ (SV.v (Value.int IntKind.i64 (nearI x (↑l.length : Int))) = SV.v (Value.int IntKind.i64 (nearI x (↑l.length : Int))) ∧ SV.v (Value.int IntKind.i64 (nearI y (↑(nC l) : Int))) = SV.v (Value.int IntKind.i64 (nearI y (↑(nC l) : Int))) ∧ SV.v (Value.bool false) = SV.v (Value.bool false) ∧ SV.p (1 : Nat) (0 : Nat) = SV.p (1 : Nat) (0 : Nat) ∧ True) ∧ (SV.h (2 : Nat) [oe, (0 : Nat)] = SV.h (2 : Nat) [oe, (0 : Nat)] ∧ True) ∧ (oe = oe ∧ ep = ep ∧ l = l) ∧ True)) (by kernel_rfl) ?_
  simp [hg, gw_may hg]
def lcSStep : ACon Unit := mkLC (decP (shCons (shP 0) (shCons shI (shOne shI))) (shScr 0)) fun ((_, x, y), ((r, c, p, _, _), (oe, ⟨l, oe2, ep⟩))) => .ask (oe = oe2 ∧ GW l) (.one (.t []) (scrI 0 (stI r x l.length) (stI c y (nC l)) false oe ep l) [0])
set_option maxHeartbeats 4000000 in
theorem ok_sStep : ∀ I : Sym.Inv Unit, LCOk I Tryd.prog 43 lcSStep := by
  refine lc_mk (fun _ => allCfg Tryd.prog [] tabH9 0) (fun _ _ => allCfg_ok mixed trivial tabH9_ok) (fun _ => rfl) (n := 60) Tryd.func43 ?_
  intro ⟨⟨_, x, y⟩, ⟨r, c, p, _, _⟩, oe, ⟨l, oe2, ep⟩⟩ hφ
  obtain ⟨⟨rfl, hg⟩, hp⟩ := id hφ
  refine kcast (B := (true = true ∧ (oe = oe ∧ GW l) ∧ true = true ∧ mayB (↑l.length : Int) (↑(nC l) : Int) = true ∧ [SV.v (Value.int IntKind.i64 r), SV.v (Value.int IntKind.i64 c), SV.v (Value.bool p), SV.p (1 : Nat) (0 : Nat), SV.any] = [SV.v (Value.int IntKind.i64 r), SV.v (Value.int IntKind.i64 c), SV.v (Value.bool p), SV.p (1 : Nat) (0 : Nat), SV.any] ∧ (SV.t [] = SV.t [] ∧ True) ∧ (SV.v (Value.int IntKind.i64 (stI r x (↑l.length : Int))) = SV.v (Value.int IntKind.i64 (stI r x (↑l.length : Int))) ∧ SV.v (Value.int IntKind.i64 (stI c y (↑(nC l) : Int))) = SV.v (Value.int IntKind.i64 (stI c y (↑(nC l) : Int))) ∧ SV.v (Value.bool false) = SV.v (Value.bool false) ∧ SV.p (1 : Nat) (0 : Nat) = SV.p (1 : Nat) (0 : Nat) ∧ True) ∧ (SV.h (2 : Nat) [oe, (0 : Nat)] = SV.h (2 : Nat) [oe, (0 : Nat)] ∧ True) ∧ (oe = oe ∧ ep = ep ∧ l = l) ∧ True)) (by kernel_rfl) ?_
  simp [hg, gw_may hg]
def blankC : C4 := ⟨32, 0, false, 0⟩
/-- How many lines go up where the cursor goes so many on. -/
def feN (r n : Int) (a : Int) : Int := r + cutF n - (if (0 : Int) > (if a - 1 < r + cutF n then a - 1 else r + cutF n) then 0 else (if a - 1 < r + cutF n then a - 1 else r + cutF n))
def lcSFeed : ACon Unit := mkLC (decP (shCons (shP 0) (shOne shI)) (shScr 0)) fun ((_, n), ((r, c, p, _, _), (oe, ⟨l, oe2, ep⟩))) => .ask (oe = oe2 ∧ GW l ∧ 0 ≤ r ∧ r < 255)
  (.one (.t []) (scrI 0 (stI r (cutF n) l.length) (stI c 0 (nC l)) false oe (ep + 1) (upF l (feN r n l.length) blankC)) [0, 2])
set_option maxHeartbeats 4000000 in
theorem ok_sFeed : ∀ I : Sym.Inv Unit, LCOk I Tryd.prog 46 lcSFeed := by
  refine lc_mkD (fun _ => []) (fun _ => allCfg Tryd.prog [] tabH9 0) (fun _ _ => allCfg_ok mixed trivial tabH9_ok) (fun _ => rfl) (n := 60) Tryd.func46 ?_
  intro ⟨⟨_, n⟩, ⟨r, c, p, _, _⟩, oe, ⟨l, oe2, ep⟩⟩ hφ
  obtain ⟨⟨rfl, hg, h0, h1⟩, hp⟩ := id hφ
  refine kcast (B := (true = true ∧ (oe = oe ∧ GW l) ∧ true = true ∧ (oe = oe ∧ GW l) ∧ true = true ∧ (oe = oe ∧ GW (upF l (IntKind.i64.wrap (IntKind.i64.wrap (r + if (if (510 : Int) < n then (510 : Int) else n) > (-510 : Int) then if (510 : Int) < n then (510 : Int) else n else (-510 : Int)) - if (if IntKind.i64.wrap ((↑l.length : Int) - (1 : Int)) < IntKind.i64.wrap (r + if (if (510 : Int) < n then (510 : Int) else n) > (-510 : Int) then if (510 : Int) < n then (510 : Int) else n else (-510 : Int)) then IntKind.i64.wrap ((↑l.length : Int) - (1 : Int)) else IntKind.i64.wrap (r + if (if (510 : Int) < n then (510 : Int) else n) > (-510 : Int) then if (510 : Int) < n then (510 : Int) else n else (-510 : Int))) > (0 : Int) then if IntKind.i64.wrap ((↑l.length : Int) - (1 : Int)) < IntKind.i64.wrap (r + if (if (510 : Int) < n then (510 : Int) else n) > (-510 : Int) then if (510 : Int) < n then (510 : Int) else n else (-510 : Int)) then IntKind.i64.wrap ((↑l.length : Int) - (1 : Int)) else IntKind.i64.wrap (r + if (if (510 : Int) < n then (510 : Int) else n) > (-510 : Int) then if (510 : Int) < n then (510 : Int) else n else (-510 : Int)) else (0 : Int))) (C4.mk (32 : Int) (0 : Int) false (0 : Int)))) ∧ true = true ∧ mayB (↑(upF l (IntKind.i64.wrap (IntKind.i64.wrap (r + if (if (510 : Int) < n then (510 : Int) else n) > (-510 : Int) then if (510 : Int) < n then (510 : Int) else n else (-510 : Int)) - if (if IntKind.i64.wrap ((↑l.length : Int) - (1 : Int)) < IntKind.i64.wrap (r + if (if (510 : Int) < n then (510 : Int) else n) > (-510 : Int) then if (510 : Int) < n then (510 : Int) else n else (-510 : Int)) then IntKind.i64.wrap ((↑l.length : Int) - (1 : Int)) else IntKind.i64.wrap (r + if (if (510 : Int) < n then (510 : Int) else n) > (-510 : Int) then if (510 : Int) < n then (510 : Int) else n else (-510 : Int))) > (0 : Int) then if IntKind.i64.wrap ((↑l.length : Int) - (1 : Int)) < IntKind.i64.wrap (r + if (if (510 : Int) < n then (510 : Int) else n) > (-510 : Int) then if (510 : Int) < n then (510 : Int) else n else (-510 : Int)) then IntKind.i64.wrap ((↑l.length : Int) - (1 : Int)) else IntKind.i64.wrap (r + if (if (510 : Int) < n then (510 : Int) else n) > (-510 : Int) then if (510 : Int) < n then (510 : Int) else n else (-510 : Int)) else (0 : Int))) (C4.mk (32 : Int) (0 : Int) false (0 : Int))).length : Int) (↑(nC (upF l (IntKind.i64.wrap (IntKind.i64.wrap (r + if (if (510 : Int) < n then (510 : Int) else n) > (-510 : Int) then if (510 : Int) < n then (510 : Int) else n else (-510 : Int)) - if (if IntKind.i64.wrap ((↑l.length : Int) - (1 : Int)) < IntKind.i64.wrap (r + if (if (510 : Int) < n then (510 : Int) else n) > (-510 : Int) then if (510 : Int) < n then (510 : Int) else n else (-510 : Int)) then IntKind.i64.wrap ((↑l.length : Int) - (1 : Int)) else IntKind.i64.wrap (r + if (if (510 : Int) < n then (510 : Int) else n) > (-510 : Int) then if (510 : Int) < n then (510 : Int) else n else (-510 : Int))) > (0 : Int) then if IntKind.i64.wrap ((↑l.length : Int) - (1 : Int)) < IntKind.i64.wrap (r + if (if (510 : Int) < n then (510 : Int) else n) > (-510 : Int) then if (510 : Int) < n then (510 : Int) else n else (-510 : Int)) then IntKind.i64.wrap ((↑l.length : Int) - (1 : Int)) else IntKind.i64.wrap (r + if (if (510 : Int) < n then (510 : Int) else n) > (-510 : Int) then if (510 : Int) < n then (510 : Int) else n else (-510 : Int)) else (0 : Int))) (C4.mk (32 : Int) (0 : Int) false (0 : Int)))) : Int) = true ∧ [SV.v (Value.int IntKind.i64 r), SV.v (Value.int IntKind.i64 c), SV.v (Value.bool p), SV.p (1 : Nat) (0 : Nat), SV.any] = [SV.v (Value.int IntKind.i64 r), SV.v (Value.int IntKind.i64 c), SV.v (Value.bool p), SV.p (1 : Nat) (0 : Nat), SV.any] ∧ (SV.t [] = SV.t [] ∧ True) ∧ (SV.v (Value.int IntKind.i64 (stI r (if (if (510 : Int) < n then (510 : Int) else n) > (-510 : Int) then if (510 : Int) < n then (510 : Int) else n else (-510 : Int)) (↑(upF l (IntKind.i64.wrap (IntKind.i64.wrap (r + if (if (510 : Int) < n then (510 : Int) else n) > (-510 : Int) then if (510 : Int) < n then (510 : Int) else n else (-510 : Int)) - if (if IntKind.i64.wrap ((↑l.length : Int) - (1 : Int)) < IntKind.i64.wrap (r + if (if (510 : Int) < n then (510 : Int) else n) > (-510 : Int) then if (510 : Int) < n then (510 : Int) else n else (-510 : Int)) then IntKind.i64.wrap ((↑l.length : Int) - (1 : Int)) else IntKind.i64.wrap (r + if (if (510 : Int) < n then (510 : Int) else n) > (-510 : Int) then if (510 : Int) < n then (510 : Int) else n else (-510 : Int))) > (0 : Int) then if IntKind.i64.wrap ((↑l.length : Int) - (1 : Int)) < IntKind.i64.wrap (r + if (if (510 : Int) < n then (510 : Int) else n) > (-510 : Int) then if (510 : Int) < n then (510 : Int) else n else (-510 : Int)) then IntKind.i64.wrap ((↑l.length : Int) - (1 : Int)) else IntKind.i64.wrap (r + if (if (510 : Int) < n then (510 : Int) else n) > (-510 : Int) then if (510 : Int) < n then (510 : Int) else n else (-510 : Int)) else (0 : Int))) (C4.mk (32 : Int) (0 : Int) false (0 : Int))).length : Int))) = SV.v (Value.int IntKind.i64 (stI r (cutF n) (↑l.length : Int))) ∧ SV.v (Value.int IntKind.i64 (stI c (0 : Int) (↑(nC (upF l (IntKind.i64.wrap (IntKind.i64.wrap (r + if (if (510 : Int) < n then (510 : Int) else n) > (-510 : Int) then if (510 : Int) < n then (510 : Int) else n else (-510 : Int)) - if (if IntKind.i64.wrap ((↑l.length : Int) - (1 : Int)) < IntKind.i64.wrap (r + if (if (510 : Int) < n then (510 : Int) else n) > (-510 : Int) then if (510 : Int) < n then (510 : Int) else n else (-510 : Int)) then IntKind.i64.wrap ((↑l.length : Int) - (1 : Int)) else IntKind.i64.wrap (r + if (if (510 : Int) < n then (510 : Int) else n) > (-510 : Int) then if (510 : Int) < n then (510 : Int) else n else (-510 : Int))) > (0 : Int) then if IntKind.i64.wrap ((↑l.length : Int) - (1 : Int)) < IntKind.i64.wrap (r + if (if (510 : Int) < n then (510 : Int) else n) > (-510 : Int) then if (510 : Int) < n then (510 : Int) else n else (-510 : Int)) then IntKind.i64.wrap ((↑l.length : Int) - (1 : Int)) else IntKind.i64.wrap (r + if (if (510 : Int) < n then (510 : Int) else n) > (-510 : Int) then if (510 : Int) < n then (510 : Int) else n else (-510 : Int)) else (0 : Int))) (C4.mk (32 : Int) (0 : Int) false (0 : Int)))) : Int))) = SV.v (Value.int IntKind.i64 (stI c (0 : Int) (↑(nC l) : Int))) ∧ SV.v (Value.bool false) = SV.v (Value.bool false) ∧ SV.p (1 : Nat) (0 : Nat) = SV.p (1 : Nat) (0 : Nat) ∧ True) ∧ (SV.h (2 : Nat) [oe, (0 : Nat)] = SV.h (2 : Nat) [oe, (0 : Nat)] ∧ True) ∧ (oe = oe ∧ ep + (1 : Nat) = ep + (1 : Nat) ∧ upF l (IntKind.i64.wrap (IntKind.i64.wrap (r + if (if (510 : Int) < n then (510 : Int) else n) > (-510 : Int) then if (510 : Int) < n then (510 : Int) else n else (-510 : Int)) - if (if IntKind.i64.wrap ((↑l.length : Int) - (1 : Int)) < IntKind.i64.wrap (r + if (if (510 : Int) < n then (510 : Int) else n) > (-510 : Int) then if (510 : Int) < n then (510 : Int) else n else (-510 : Int)) then IntKind.i64.wrap ((↑l.length : Int) - (1 : Int)) else IntKind.i64.wrap (r + if (if (510 : Int) < n then (510 : Int) else n) > (-510 : Int) then if (510 : Int) < n then (510 : Int) else n else (-510 : Int))) > (0 : Int) then if IntKind.i64.wrap ((↑l.length : Int) - (1 : Int)) < IntKind.i64.wrap (r + if (if (510 : Int) < n then (510 : Int) else n) > (-510 : Int) then if (510 : Int) < n then (510 : Int) else n else (-510 : Int)) then IntKind.i64.wrap ((↑l.length : Int) - (1 : Int)) else IntKind.i64.wrap (r + if (if (510 : Int) < n then (510 : Int) else n) > (-510 : Int) then if (510 : Int) < n then (510 : Int) else n else (-510 : Int)) else (0 : Int))) (C4.mk (32 : Int) (0 : Int) false (0 : Int)) = upF l (feN r n (↑l.length : Int)) blankC) ∧ True)) (by kernel_rfl) ?_
  clear hp hφ
  have e0 : (if (if (510 : Int) < n then (510 : Int) else n) > (-510 : Int) then (if (510 : Int) < n then (510 : Int) else n) else (-510 : Int)) = cutF n := rfl
  have hc := cut_bd n
  have hl0 := hg.r0
  have hl1 := hg.r1
  simp only [e0]
  rw [wrap64 (x := r + cutF n) (by omega) (by omega), wrap64 (x := (l.length : Int) - 1) (by omega) (by omega), wrap64 (x := r + cutF n - _) (by split <;> split <;> omega) (by split <;> split <;> omega)]
  have eN : feN r n l.length = r + cutF n - (if (if (l.length : Int) - 1 < r + cutF n then (l.length : Int) - 1 else r + cutF n) > 0 then (if (l.length : Int) - 1 < r + cutF n then (l.length : Int) - 1 else r + cutF n) else 0) := by
    unfold feN; split <;> split <;> split <;> omega
  rw [← eN]
  obtain ⟨g1, g2, g3⟩ := upF_gw hg (feN r n l.length) blankC
  have hm := gw_may hg
  simp only [blankC] at g1 g2 g3 ⊢
  simp [hg, g1, g2, g3, hm]
def tabI9 : List (Nat × ACon Unit) := (35, lcMove) :: (43, lcSStep) :: (46, lcSFeed) :: tabH9
theorem tabI9_ok : LCs Tryd.prog tabI9 := ⟨ok_move, ok_sStep, ok_sFeed, tabH9_ok⟩
def lcSPut : ACon Unit := mkLC (decP (shCons (shP 0) (shCons shC (shCons shI (shOne shB)))) (shScr 0)) fun ((_, x, w, g), ((r, c, p, _, _), (oe, ⟨l, oe2, ep⟩))) => .ask (oe = oe2 ∧ g = false ∧ GW l)
  (.one (.t []) (scrI 0 (bhR l.length (nC l) (ahR l.length r p) (ahC (nC l) c p) w) (bhC l.length (nC l) (ahR l.length r p) (ahC (nC l) c p) w) (bhP l.length (nC l) (ahR l.length r p) (ahC (nC l) c p) w) oe (riE (puU l r c p w) (riE (ahU l.length r p) ep)) (puL l r c p x w blankC)) [0, 2])
set_option maxHeartbeats 4000000 in
theorem ok_sPut : ∀ I : Sym.Inv Unit, LCOk I Tryd.prog 41 lcSPut := by
  refine lc_mk (fun _ => allCfg Tryd.prog [] tabI9 0) (fun _ _ => allCfg_ok mixed trivial tabI9_ok) (fun _ => rfl) (n := 60) Tryd.func41 ?_
  intro ⟨⟨_, x, w, g⟩, ⟨r, c, p, _, _⟩, oe, ⟨l, oe2, ep⟩⟩ hφ
  obtain ⟨⟨rfl, rfl, hg⟩, hp⟩ := id hφ
  refine kcast (B := (true = true ∧ (oe = oe ∧ GW l) ∧ (SV.t [] = SV.t [] ∧ True) ∧ (SV.v (Value.int IntKind.i64 (bhR (↑l.length : Int) (↑(nC l) : Int) (ahR (↑l.length : Int) r p) (ahC (↑(nC l) : Int) c p) w)) = SV.v (Value.int IntKind.i64 (bhR (↑l.length : Int) (↑(nC l) : Int) (ahR (↑l.length : Int) r p) (ahC (↑(nC l) : Int) c p) w)) ∧ SV.v (Value.int IntKind.i64 (bhC (↑l.length : Int) (↑(nC l) : Int) (ahR (↑l.length : Int) r p) (ahC (↑(nC l) : Int) c p) w)) = SV.v (Value.int IntKind.i64 (bhC (↑l.length : Int) (↑(nC l) : Int) (ahR (↑l.length : Int) r p) (ahC (↑(nC l) : Int) c p) w)) ∧ SV.v (Value.bool (bhP (↑l.length : Int) (↑(nC l) : Int) (ahR (↑l.length : Int) r p) (ahC (↑(nC l) : Int) c p) w)) = SV.v (Value.bool (bhP (↑l.length : Int) (↑(nC l) : Int) (ahR (↑l.length : Int) r p) (ahC (↑(nC l) : Int) c p) w)) ∧ SV.p (1 : Nat) (0 : Nat) = SV.p (1 : Nat) (0 : Nat) ∧ True) ∧ (SV.h (2 : Nat) [oe, (0 : Nat)] = SV.h (2 : Nat) [oe, (0 : Nat)] ∧ True) ∧ (oe = oe ∧ riE (puU l r c p w) (riE (ahU (↑l.length : Int) r p) ep) = riE (puU l r c p w) (riE (ahU (↑l.length : Int) r p) ep) ∧ puL l r c p (C4.mk x.g x.a x.gd x.m) w (C4.mk (32 : Int) (0 : Int) false (0 : Int)) = puL l r c p x w blankC) ∧ True)) (by kernel_rfl) ?_
  clear hp hφ
  have eta : ∀ y : C4, C4.mk y.g y.a y.gd y.m = y := fun _ => rfl
  simp [hg, eta, blankC]
/-- What is left where a part is wiped, if it is one. -/
def wiL (l : List (List C4)) (fr fc tr tc : Int) (x : C4) (g : Bool) : List (List C4) := if tuOk l fr fc tr tc = true then turnL l fr fc tr tc (hWipe x g) else l
def lcSWipe : ACon Unit := mkLC (decP (shCons (shP 0) (shCons shI2 (shCons shI2 (shCons shC (shOne shB))))) (shScr 0)) fun ((_, (fr, fc), (tr, tc), x, g), ((r, c, p, _, _), (oe, ⟨l, oe2, ep⟩))) => .ask (oe = oe2 ∧ GW l)
  (.one (.t []) (scrI 0 r c p oe ep (wiL l (nearI fr l.length) (nearI fc (nC l)) (nearI tr l.length) (nearI tc (nC l)) x g)) [2])
set_option maxHeartbeats 4000000 in
theorem ok_sWipe : ∀ I : Sym.Inv Unit, LCOk I Tryd.prog 55 lcSWipe := by
  refine lc_mk (fun _ => allCfg Tryd.prog [] tabI9 0) (fun _ _ => allCfg_ok mixed trivial tabI9_ok) (fun _ => rfl) (n := 60) Tryd.func55 ?_
  intro ⟨⟨_, ⟨fr, fc⟩, ⟨tr, tc⟩, x, g⟩, ⟨r, c, p, _, _⟩, oe, ⟨l, oe2, ep⟩⟩ hφ
  obtain ⟨⟨rfl, hg⟩, hp⟩ := id hφ
  refine kcast (B := (true = true ∧ (oe = oe ∧ GW l) ∧ true = true ∧ mayB (↑l.length : Int) (↑(nC l) : Int) = true ∧ true = true ∧ (oe = oe ∧ GW l) ∧ true = true ∧ mayB (↑l.length : Int) (↑(nC l) : Int) = true ∧ true = true ∧ (oe = oe ∧ GW l) ∧ br (tuOk l (nearI fr (↑l.length : Int)) (nearI fc (↑(nC l) : Int)) (nearI tr (↑l.length : Int)) (nearI tc (↑(nC l) : Int))) ([SV.v (Value.int IntKind.i64 r), SV.v (Value.int IntKind.i64 c), SV.v (Value.bool p), SV.p (1 : Nat) (0 : Nat), SV.any] = [SV.v (Value.int IntKind.i64 r), SV.v (Value.int IntKind.i64 c), SV.v (Value.bool p), SV.p (1 : Nat) (0 : Nat), SV.any] ∧ [SV.v (Value.int IntKind.i64 r), SV.v (Value.int IntKind.i64 c), SV.v (Value.bool p), SV.p (1 : Nat) (0 : Nat), SV.any] = [SV.v (Value.int IntKind.i64 r), SV.v (Value.int IntKind.i64 c), SV.v (Value.bool p), SV.p (1 : Nat) (0 : Nat), SV.any] ∧ (SV.t [] = SV.t [] ∧ True) ∧ (SV.v (Value.int IntKind.i64 r) = SV.v (Value.int IntKind.i64 r) ∧ SV.v (Value.int IntKind.i64 c) = SV.v (Value.int IntKind.i64 c) ∧ SV.v (Value.bool p) = SV.v (Value.bool p) ∧ SV.p (1 : Nat) (0 : Nat) = SV.p (1 : Nat) (0 : Nat) ∧ True) ∧ (SV.h (2 : Nat) [oe, (0 : Nat)] = SV.h (2 : Nat) [oe, (0 : Nat)] ∧ True) ∧ (oe = oe ∧ ep = ep ∧ turnL l (nearI fr (↑l.length : Int)) (nearI fc (↑(nC l) : Int)) (nearI tr (↑l.length : Int)) (nearI tc (↑(nC l) : Int)) (hWipe (C4.mk x.g x.a x.gd x.m) g) = wiL l (nearI fr (↑l.length : Int)) (nearI fc (↑(nC l) : Int)) (nearI tr (↑l.length : Int)) (nearI tc (↑(nC l) : Int)) x g) ∧ True) ([SV.v (Value.int IntKind.i64 r), SV.v (Value.int IntKind.i64 c), SV.v (Value.bool p), SV.p (1 : Nat) (0 : Nat), SV.any] = [SV.v (Value.int IntKind.i64 r), SV.v (Value.int IntKind.i64 c), SV.v (Value.bool p), SV.p (1 : Nat) (0 : Nat), SV.any] ∧ [SV.v (Value.int IntKind.i64 r), SV.v (Value.int IntKind.i64 c), SV.v (Value.bool p), SV.p (1 : Nat) (0 : Nat), SV.any] = [SV.v (Value.int IntKind.i64 r), SV.v (Value.int IntKind.i64 c), SV.v (Value.bool p), SV.p (1 : Nat) (0 : Nat), SV.any] ∧ (SV.t [] = SV.t [] ∧ True) ∧ (SV.v (Value.int IntKind.i64 r) = SV.v (Value.int IntKind.i64 r) ∧ SV.v (Value.int IntKind.i64 c) = SV.v (Value.int IntKind.i64 c) ∧ SV.v (Value.bool p) = SV.v (Value.bool p) ∧ SV.p (1 : Nat) (0 : Nat) = SV.p (1 : Nat) (0 : Nat) ∧ True) ∧ (SV.h (2 : Nat) [oe, (0 : Nat)] = SV.h (2 : Nat) [oe, (0 : Nat)] ∧ True) ∧ (oe = oe ∧ ep = ep ∧ l = wiL l (nearI fr (↑l.length : Int)) (nearI fc (↑(nC l) : Int)) (nearI tr (↑l.length : Int)) (nearI tc (↑(nC l) : Int)) x g) ∧ True))) (by kernel_rfl) ?_
  clear hp hφ
  have eta : ∀ y : C4, C4.mk y.g y.a y.gd y.m = y := fun _ => rfl
  have hm := gw_may hg
  cases h : tuOk l (nearI fr l.length) (nearI fc (nC l)) (nearI tr l.length) (nearI tc (nC l)) <;> simp [br_iff, hg, hm, eta, wiL, h]
def lcSAt : ACon Unit := mkLC (decP (shCons (shP 0) (shOne shI2)) (shScr 0)) fun ((_, (x, y)), ((r, c, p, _, _), (oe, ⟨l, oe2, ep⟩))) => .ask (oe = oe2 ∧ GW l ∧ inB l x y = true) (.one (.t [cv (at2 l x y), .v (.int .i64 0)]) (scrI 0 r c p oe ep l) [])
def tabJ9 : List (Nat × ACon Unit) := (29, lcAtIn) :: (30, lcRows1) :: (36, lcNew) :: tabI9
theorem tabJ9_ok : LCs Tryd.prog tabJ9 := ⟨ok_atIn, ok_rows1, ok_new, tabI9_ok⟩
set_option maxHeartbeats 4000000 in
theorem ok_sAt : ∀ I : Sym.Inv Unit, LCOk I Tryd.prog 13 lcSAt := by
  refine lc_mk (fun _ => allCfg Tryd.prog [] tabJ9 0) (fun _ _ => allCfg_ok mixed trivial tabJ9_ok) (fun _ => rfl) (n := 60) Tryd.func13 ?_
  intro ⟨⟨_, x, y⟩, ⟨r, c, p, _, _⟩, oe, ⟨l, oe2, ep⟩⟩ hφ
  obtain ⟨⟨rfl, hg, hi⟩, hp⟩ := id hφ
  refine kcast (B := (true = true ∧ (oe = oe ∧ GW l ∧ inB l x y = true) ∧ (SV.t [SV.a [SV.v (Value.int IntKind.i32 (at2 l x y).g), SV.v (Value.int IntKind.i64 (at2 l x y).a), SV.v (Value.bool (at2 l x y).gd), SV.v (Value.int IntKind.i64 (at2 l x y).m)], SV.v (Value.int IntKind.i64 (0 : Int))] = SV.t [SV.a [SV.v (Value.int IntKind.i32 (at2 l x y).g), SV.v (Value.int IntKind.i64 (at2 l x y).a), SV.v (Value.bool (at2 l x y).gd), SV.v (Value.int IntKind.i64 (at2 l x y).m)], SV.v (Value.int IntKind.i64 (0 : Int))] ∧ True) ∧ (SV.v (Value.int IntKind.i64 r) = SV.v (Value.int IntKind.i64 r) ∧ SV.v (Value.int IntKind.i64 c) = SV.v (Value.int IntKind.i64 c) ∧ SV.v (Value.bool p) = SV.v (Value.bool p) ∧ SV.p (1 : Nat) (0 : Nat) = SV.p (1 : Nat) (0 : Nat) ∧ True) ∧ (SV.h (2 : Nat) [oe, (0 : Nat)] = SV.h (2 : Nat) [oe, (0 : Nat)] ∧ True) ∧ (oe = oe ∧ ep = ep ∧ l = l) ∧ True)) (by kernel_rfl) ?_
  simp [hg, hi]
def lcSRows : ACon Unit := mkLC (decP (shOne (shP 0)) (shScr 0)) fun (_, ((r, c, p, _, _), (oe, ⟨l, oe2, ep⟩))) => .ask (oe = oe2 ∧ GW l) (.one (.h 4 [0, 0]) (scrI 0 r c p oe ep l ++ [.gone, .rows (.c l) 40 47 0 (l.length * nC l + 1) none]) [])
set_option maxHeartbeats 4000000 in
theorem ok_sRows : ∀ I : Sym.Inv Unit, LCOk I Tryd.prog 14 lcSRows := by
  refine lc_mk (fun _ => allCfg Tryd.prog [] tabJ9 0) (fun _ _ => allCfg_ok mixed trivial tabJ9_ok) (fun _ => rfl) (n := 60) Tryd.func14 ?_
  intro ⟨_, ⟨r, c, p, _, _⟩, oe, ⟨l, oe2, ep⟩⟩ hφ
  obtain ⟨⟨rfl, hg⟩, hp⟩ := id hφ
  refine kcast (B := (true = true ∧ (oe = oe ∧ GW l) ∧ (SV.h (4 : Nat) [(0 : Nat), (0 : Nat)] = SV.h (4 : Nat) [(0 : Nat), (0 : Nat)] ∧ True) ∧ (SV.v (Value.int IntKind.i64 r) = SV.v (Value.int IntKind.i64 r) ∧ SV.v (Value.int IntKind.i64 c) = SV.v (Value.int IntKind.i64 c) ∧ SV.v (Value.bool p) = SV.v (Value.bool p) ∧ SV.p (1 : Nat) (0 : Nat) = SV.p (1 : Nat) (0 : Nat) ∧ True) ∧ (SV.h (2 : Nat) [oe, (0 : Nat)] = SV.h (2 : Nat) [oe, (0 : Nat)] ∧ True) ∧ (oe = oe ∧ ep = ep ∧ l = l) ∧ True ∧ ((0 : Nat) = (0 : Nat) ∧ l.length * nC l + (1 : Nat) = l.length * nC l + (1 : Nat) ∧ l = l) ∧ True)) (by kernel_rfl) ?_
  simp [hg]
end Go.Proofs.YtcbjgpkbfmmdpaaDoor
