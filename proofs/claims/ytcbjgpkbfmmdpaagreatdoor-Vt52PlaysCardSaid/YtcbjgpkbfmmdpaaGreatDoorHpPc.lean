/- What is wanted of the texts HbE, HbF, HbG, in one. -/
import Derived.Test.YtcbjgpkbfmmdpaaGreatDoorHpPb
set_option linter.unusedSimpArgs false
set_option linter.unusedVariables false
set_option linter.unusedSectionVars false
namespace Go.Proofs.YtcbjgpkbfmmdpaaGreatDoor
open Go Go.Sym
structure Tm where
  r : Int
  c : Int
  l : List (List C4)
  ep : Nat
  G : Bool
  K : Bool
  Ho : Bool
  n : Int
  ov : Bool
  xs : List Int
  pe : Nat
  pl : List Int
structure TI (fr : Int) (m : Nat) (s : Tm) : Prop where
  gw : GW s.l
  r0 : 0 ≤ s.r
  r1 : s.r < s.l.length
  c0 : 0 ≤ s.c
  c1 : s.c < nC s.l
  q : QWf fr s.n s.xs m
  pl : s.pl.length ≤ 3
  pb : byteR s.pl
abbrev TR := (Unit × Unit × Bool × Bool × Bool × Nat) × (Int × Int × Bool × Unit × Unit) × Nat × RC × (Nat × Int × Int × Bool) × OI × OI
def shTm (j : Nat) : ShH TR :=
  shHCons (shCells (shCons (shP (j + 1)) (shCons (shP (j + 4)) (shCons shB (shCons shB (shCons shB (shOne (shO (j + 6)))))))) 63)
  (shHCons (shCells (shCons shI (shCons shI (shCons shB (shCons (shP (j + 2)) (shOne shAny))))) 89)
  (shHCons (shCells (shOne (shO (j + 3))) 110)
  (shHCons (shRowsC 45 105)
  (shHCons (shCells (shCons (shO (j + 5)) (shCons shI (shCons shI (shOne shB)))) 82)
  (shHCons (shOwnI .u8 5 true) (shHOne (shOwnI .u8 5 false)))))))
def tmI (j oe qe m : Nat) (fr : Int) (s : Tm) : List (SB Unit) := [.cells [.p (j + 1) 0, .p (j + 4) 0, .v (.bool s.G), .v (.bool s.K), .v (.bool s.Ho), .h (j + 6) [s.pe, 0]] 63,
  .cells [.v (.int .i64 s.r), .v (.int .i64 s.c), .v (.bool false), .p (j + 2) 0, .any] 89, .cells [.h (j + 3) [oe, 0]] 110, .rows (.c s.l) 45 105 oe s.ep none,
  .cells [.h (j + 5) [qe, 0], .v (.int .i64 fr), .v (.int .i64 s.n), .v (.bool s.ov)] 82, .own (.ints .u8 s.xs) m 5 1 qe true, .own (.ints .u8 s.pl) s.pl.length 5 1 s.pe false]
def tmS (x : TR) : Tm := match x with
  | ((_, _, G, K, Ho, pe), (r, c, _, _, _), _, ⟨l, _, ep⟩, (_, _, n, ov), ⟨xs, _, _⟩, ⟨pl, _, _⟩) => ⟨r, c, l, ep, G, K, Ho, n, ov, xs, pe, pl⟩
def tmE (j : Nat) (x : TR) (s : Tm) : List (SB Unit) := match x with
  | (_, _, oe, _, (qe, fr, _, _), ⟨_, m, _⟩, _) => tmI j oe qe m fr s
def TA (x : TR) : Prop := match x with
  | ((_, _, G, K, Ho, pe), (r, c, p, _, _), oe, ⟨l, oe2, ep⟩, (qe, fr, n, ov), ⟨xs, m, qe2⟩, ⟨pl, pn, pe2⟩) => oe = oe2 ∧ qe = qe2 ∧ pe = pe2 ∧ pn = pl.length ∧ p = false ∧ TI fr m ⟨r, c, l, ep, G, K, Ho, n, ov, xs, pe, pl⟩
def glT (G : Bool) (b : Int) : Int := ofT (if G = true then 3 else 1) b
def moT (s : Tm) (x y : Int) : Tm := { s with r := nearI x s.l.length, c := nearI y (nC s.l) }
def stT (s : Tm) (x y : Int) : Tm := { s with r := nearI (s.r + x) s.l.length, c := nearI (s.c + y) (nC s.l) }
def fdT (s : Tm) : Tm := { s with r := nearI (s.r + 1) s.l.length, l := if s.r = (s.l.length : Int) - 1 then upF s.l 1 blankC else s.l, ep := s.ep + 1 }
def wpT (s : Tm) (fr fc tr tc : Int) : Tm := { s with l := wiL s.l (nearI fr s.l.length) (nearI fc (nC s.l)) (nearI tr s.l.length) (nearI tc (nC s.l)) blankC false }
def taT (s : Tm) : Tm := { s with c := nearI (if s.c - s.c % 8 + 8 > (nC s.l : Int) - 1 then s.c + 1 else s.c - s.c % 8 + 8) (nC s.l) }
def ixT (s : Tm) : Tm := { s with r := nearI (s.r - 1) s.l.length, l := if s.r = 0 then upF s.l (-1) blankC else s.l, ep := if s.r = 0 then s.ep + 1 else s.ep }
def plT (s : Tm) (row col : Int) : Tm := { s with r := if 0 ≤ row ∧ row ≤ (s.l.length : Int) - 1 then row else s.r, c := if 0 ≤ col then (if (nC s.l : Int) - 1 < col then (nC s.l : Int) - 1 else col) else s.c }
def puT (s : Tm) (b : Int) : Tm := { s with c := if s.c + 1 < nC s.l then s.c + 1 else s.c, l := set2 s.l s.r s.c ⟨glT s.G b, 0, false, 0⟩ }
theorem st_in {x n a : Int} (h0 : 0 ≤ x) (h1 : x < a) (h2 : -510 ≤ n) (h3 : n ≤ 510) : stI x n a = nearI (x + n) a := by
  unfold stI; rw [near_in h0 h1, cut_in h2 h3]
theorem upF_zero {l : List (List C4)} (hg : GW l) (x : C4) : upF l 0 x = l := by
  obtain ⟨g1, g2, g3⟩ := upF_gw hg 0 x
  refine grid_eq g1 hg g2 g3 fun r c hr hc => ?_
  rw [g2] at hr
  rw [g3] at hc
  rw [upF_at hg hr hc]
  unfold rollF
  rw [if_pos (by omega), if_pos (by omega), show ((r : Int) + 0).toNat = r by omega]
theorem feN_one {r a : Int} (h0 : 0 ≤ r) (h1 : r < a) : feN r 1 a = if r = a - 1 then 1 else 0 := by
  unfold feN
  rw [cut_in (by omega) (by omega)]
  split <;> split <;> split <;> omega
theorem feN_neg {a : Int} (h1 : 0 < a) : feN 0 (-1) a = -1 := by
  unfold feN
  rw [cut_in (by omega) (by omega)]
  split <;> split <;> omega
theorem fd_up {l : List (List C4)} (hg : GW l) {r : Int} (h0 : 0 ≤ r) (h1 : r < l.length) : upF l (feN r 1 l.length) blankC = if r = (l.length : Int) - 1 then upF l 1 blankC else l := by
  rw [feN_one h0 h1]
  split
  · rfl
  · exact upF_zero hg _
def tabS12 : List (Nat × ACon Unit) := (43, lcSPut) :: (37, lcSWipe) :: tabI9
theorem tabS12_ok : LCs Tryz.prog tabS12 := ⟨ok_sPut, ok_sWipe, tabI9_ok⟩
def purT : List (Nat × PS) := [(44, psOf)]
theorem purT_ok : Pures Tryz.prog purT := ⟨ok_Of, trivial⟩
def lcTAt : ACon Unit := mkLC (decP (shOne (shP 0)) (shTm 0)) fun (_, x) => .ask (TA x) (.one (p2 (tmS x).r (tmS x).c) (tmE 0 x (tmS x)) [])
set_option maxHeartbeats 4000000 in
theorem ok_tAt : ∀ I : Sym.Inv Unit, LCOk I Tryz.prog 51 lcTAt := by
  refine lc_mk (fun _ => allCfg Tryz.prog [] tabS12 0) (fun _ _ => allCfg_ok mixed trivial tabS12_ok) (fun _ => rfl) (n := 60) Tryz.func51 ?_
  intro ⟨_, ⟨_, _, G, K, Ho, pe⟩, ⟨r, c, p, _, _⟩, oe, ⟨l, oe2, ep⟩, ⟨qe, fr, n, ov⟩, ⟨xs, m, qe2⟩, ⟨pl, pn, pe2⟩⟩ hφ
  obtain ⟨⟨rfl, rfl, rfl, rfl, rfl, hI⟩, hp⟩ := id hφ
  refine kcast (B := (true = true ∧ (SV.a [vI r, vI c] = SV.a [vI r, vI c] ∧ True) ∧ (SV.p 1 0 = SV.p 1 0 ∧ SV.p 4 0 = SV.p 4 0 ∧ vB G = vB G ∧ vB K = vB K ∧ vB Ho = vB Ho ∧ SV.h 6 [pe, 0] = SV.h 6 [pe, 0] ∧ True) ∧ (vI r = vI r ∧ vI c = vI c ∧ vB false = vB false ∧ SV.p
 2 0 = SV.p 2 0 ∧ True) ∧ (SV.h 3 [oe, 0] = SV.h 3 [oe, 0] ∧ True) ∧ (oe = oe ∧ ep = ep ∧ l = l) ∧ (SV.h 5 [qe, 0] = SV.h 5 [qe, 0] ∧ vI fr = vI fr ∧ vI n = vI n ∧ vB ov = vB ov ∧ True) ∧ (m = m ∧ qe = qe ∧ xs = xs) ∧ (pl.length = pl.length ∧ pe = pe
 ∧ pl = pl) ∧ True)) (by kernel_rfl) ?_
  simp
def lcTEnd : ACon Unit := mkLC (decP (shOne (shP 0)) (shTm 0)) fun (_, x) => .ask (TA x) (.one (p2 ((tmS x).l.length - 1) (nC (tmS x).l - 1)) (tmE 0 x (tmS x)) [])
set_option maxHeartbeats 4000000 in
theorem ok_tEnd : ∀ I : Sym.Inv Unit, LCOk I Tryz.prog 21 lcTEnd := by
  refine lc_mk (fun _ => allCfg Tryz.prog [] tabS12 0) (fun _ _ => allCfg_ok mixed trivial tabS12_ok) (fun _ => rfl) (n := 60) Tryz.func21 ?_
  intro ⟨_, ⟨_, _, G, K, Ho, pe⟩, ⟨r, c, p, _, _⟩, oe, ⟨l, oe2, ep⟩, ⟨qe, fr, n, ov⟩, ⟨xs, m, qe2⟩, ⟨pl, pn, pe2⟩⟩ hφ
  obtain ⟨⟨rfl, rfl, rfl, rfl, rfl, hI⟩, hp⟩ := id hφ
  refine kcast (B := (true = true ∧ (oe = oe ∧ GW l) ∧ (SV.a [vI (IntKind.i64.wrap ((↑l.length : Int) - (1 : Int))), vI (IntKind.i64.wrap ((↑(nC l) : Int) - (1 : Int)))] = SV.a [vI ((↑l.length : Int) - (1 : Int)), vI ((↑(nC l) : Int) - (1 : Int))] ∧ True) ∧ (SV.p 1 0 =
 SV.p 1 0 ∧ SV.p 4 0 = SV.p 4 0 ∧ vB G = vB G ∧ vB K = vB K ∧ vB Ho = vB Ho ∧ SV.h 6 [pe, 0] = SV.h 6 [pe, 0] ∧ True) ∧ (vI r = vI r ∧ vI c = vI c ∧ vB false = vB false ∧ SV.p 2 0 = SV.p 2 0 ∧ True) ∧ (SV.h 3 [oe, 0] = SV.h 3 [oe, 0] ∧ True) ∧ (oe =
 oe ∧ ep = ep ∧ l = l) ∧ (SV.h 5 [qe, 0] = SV.h 5 [qe, 0] ∧ vI fr = vI fr ∧ vI n = vI n ∧ vB ov = vB ov ∧ True) ∧ (m = m ∧ qe = qe ∧ xs = xs) ∧ (pl.length = pl.length ∧ pe = pe ∧ pl = pl) ∧ True)) (by kernel_rfl) ?_
  have hg := hI.gw
  simp only at hg
  have h0 := hg.r1
  have h1 := hg.c1
  rw [wrap64 (x := (l.length : Int) - 1) (by omega) (by omega), wrap64 (x := (nC l : Int) - 1) (by omega) (by omega)]
  simp [hg]
def lcTWipe : ACon Unit := mkLC (decP (shCons (shP 0) (shCons shI2 (shOne shI2))) (shTm 0)) fun ((_, (fr, fc), (tr, tc)), x) => .ask (TA x) (.one (.t []) (tmE 0 x (wpT (tmS x) fr fc tr tc)) [3])
set_option maxHeartbeats 4000000 in
theorem ok_tWipe : ∀ I : Sym.Inv Unit, LCOk I Tryz.prog 20 lcTWipe := by
  refine lc_mk (fun _ => allCfg Tryz.prog [] tabS12 0) (fun _ _ => allCfg_ok mixed trivial tabS12_ok) (fun _ => rfl) (n := 60) Tryz.func20 ?_
  intro ⟨⟨_, ⟨wr, wc⟩, ⟨tr, tc⟩⟩, ⟨_, _, G, K, Ho, pe⟩, ⟨r, c, p, _, _⟩, oe, ⟨l, oe2, ep⟩, ⟨qe, fr, n, ov⟩, ⟨xs, m, qe2⟩, ⟨pl, pn, pe2⟩⟩ hφ
  obtain ⟨⟨rfl, rfl, rfl, rfl, rfl, hI⟩, hp⟩ := id hφ
  refine kcast (B := (true = true ∧ (oe = oe ∧ GW l) ∧ (SV.t [] = SV.t [] ∧ True) ∧ (SV.p 1 0 = SV.p 1 0 ∧ SV.p 4 0 = SV.p 4 0 ∧ vB G = vB G ∧ vB K = vB K ∧ vB Ho = vB Ho ∧ SV.h 6 [pe, 0] = SV.h 6 [pe, 0] ∧ True) ∧ (vI r = vI r ∧ vI c = vI c ∧ vB false = vB false ∧ SV.p
 2 0 = SV.p 2 0 ∧ True) ∧ (SV.h 3 [oe, 0] = SV.h 3 [oe, 0] ∧ True) ∧ (oe = oe ∧ ep = ep ∧ wiL l (nearI wr (↑l.length : Int)) (nearI wc (↑(nC l) : Int)) (nearI tr (↑l.length : Int)) (nearI tc (↑(nC l) : Int)) (C4.mk (32 : Int) (0 : Int) false (0 :
 Int)) false = wiL l (nearI wr (↑l.length : Int)) (nearI wc (↑(nC l) : Int)) (nearI tr (↑l.length : Int)) (nearI tc (↑(nC l) : Int)) blankC false) ∧ (SV.h 5 [qe, 0] = SV.h 5 [qe, 0] ∧ vI fr = vI fr ∧ vI n = vI n ∧ vB ov = vB ov ∧ True) ∧ (m = m ∧ qe =
 qe ∧ xs = xs) ∧ (pl.length = pl.length ∧ pe = pe ∧ pl = pl) ∧ True)) (by kernel_rfl) ?_
  have hg := hI.gw
  simp only at hg
  simp [hg, blankC]
def tabT12 : List (Nat × ACon Unit) := (51, lcTAt) :: (21, lcTEnd) :: (20, lcTWipe) :: tabS12
theorem tabT12_ok : LCs Tryz.prog tabT12 := ⟨ok_tAt, ok_tEnd, ok_tWipe, tabS12_ok⟩
def lcTTab : ACon Unit := mkLC (decP (shOne (shP 0)) (shTm 0)) fun (_, x) => .ask (TA x) (.one (.t []) (tmE 0 x (taT (tmS x))) [1])
set_option maxHeartbeats 4000000 in
theorem ok_tTab : ∀ I : Sym.Inv Unit, LCOk I Tryz.prog 47 lcTTab := by
  refine lc_mk (fun _ => allCfg Tryz.prog [] tabT12 0) (fun _ _ => allCfg_ok mixed trivial tabT12_ok) (fun _ => rfl) (n := 60) Tryz.func47 ?_
  intro ⟨_, ⟨_, _, G, K, Ho, pe⟩, ⟨r, c, p, _, _⟩, oe, ⟨l, oe2, ep⟩, ⟨qe, fr, n, ov⟩, ⟨xs, m, qe2⟩, ⟨pl, pn, pe2⟩⟩ hφ
  obtain ⟨⟨rfl, rfl, rfl, rfl, rfl, hI⟩, hp⟩ := id hφ
  refine kcast (B := (true = true ∧ TA (((), (), G, K, Ho, pe), (r, c, false, (), ()), oe, RC.mk l oe ep, (qe, fr, n, ov), OI.mk xs m qe, OI.mk pl pl.length pe) ∧ true = true ∧ TA (((), (), G, K, Ho, pe), (r, c, false, (), ()), oe, RC.mk l oe ep, (qe, fr, n, ov), OI.mk
 xs m qe, OI.mk pl pl.length pe) ∧ br (decide (IntKind.i64.wrap (IntKind.i64.wrap (c - c.tmod (8 : Int)) + (8 : Int)) > (↑(nC l) : Int) - (1 : Int))) (true = true ∧ (oe = oe ∧ GW l) ∧ (SV.t [] = SV.t [] ∧ True) ∧ (SV.p 1 0 = SV.p 1 0 ∧ SV.p 4 0 = SV.p
 4 0 ∧ vB G = vB G ∧ vB K = vB K ∧ vB Ho = vB Ho ∧ SV.h 6 [pe, 0] = SV.h 6 [pe, 0] ∧ True) ∧ (vI (nearI r (↑l.length : Int)) = vI r ∧ vI (nearI (IntKind.i64.wrap (c + (1 : Int))) (↑(nC l) : Int)) = vI (nearI (if c - c % (8 : Int) + (8 : Int) > (↑(nC
 l) : Int) - (1 : Int) then c + (1 : Int) else c - c % (8 : Int) + (8 : Int)) (↑(nC l) : Int)) ∧ vB false = vB false ∧ SV.p 2 0 = SV.p 2 0 ∧ True) ∧ (SV.h 3 [oe, 0] = SV.h 3 [oe, 0] ∧ True) ∧ (oe = oe ∧ ep = ep ∧ l = l) ∧ (SV.h 5 [qe, 0] = SV.h 5 [qe,
 0] ∧ vI fr = vI fr ∧ vI n = vI n ∧ vB ov = vB ov ∧ True) ∧ (m = m ∧ qe = qe ∧ xs = xs) ∧ (pl.length = pl.length ∧ pe = pe ∧ pl = pl) ∧ True) (true = true ∧ (oe = oe ∧ GW l) ∧ (SV.t [] = SV.t [] ∧ True) ∧ (SV.p 1 0 = SV.p 1 0 ∧ SV.p 4 0 = SV.p 4 0 ∧
 vB G = vB G ∧ vB K = vB K ∧ vB Ho = vB Ho ∧ SV.h 6 [pe, 0] = SV.h 6 [pe, 0] ∧ True) ∧ (vI (nearI r (↑l.length : Int)) = vI r ∧ vI (nearI (IntKind.i64.wrap (IntKind.i64.wrap (c - c.tmod (8 : Int)) + (8 : Int))) (↑(nC l) : Int)) = vI (nearI (if c - c %
 (8 : Int) + (8 : Int) > (↑(nC l) : Int) - (1 : Int) then c + (1 : Int) else c - c % (8 : Int) + (8 : Int)) (↑(nC l) : Int)) ∧ vB false = vB false ∧ SV.p 2 0 = SV.p 2 0 ∧ True) ∧ (SV.h 3 [oe, 0] = SV.h 3 [oe, 0] ∧ True) ∧ (oe = oe ∧ ep = ep ∧ l = l) ∧
 (SV.h 5 [qe, 0] = SV.h 5 [qe, 0] ∧ vI fr = vI fr ∧ vI n = vI n ∧ vB ov = vB ov ∧ True) ∧ (m = m ∧ qe = qe ∧ xs = xs) ∧ (pl.length = pl.length ∧ pe = pe ∧ pl = pl) ∧ True))) (by kernel_rfl) ?_
  clear hp hφ
  obtain ⟨hg, r0, r1, c0, c1, hq, hl, hb⟩ := id hI
  simp only at hg r0 r1 c0 c1 hq hl hb
  have g1 := hg.r1
  have g3 := hg.c1
  have hT : TA (((), (), G, K, Ho, pe), (r, c, false, (), ()), oe, RC.mk l oe ep, (qe, fr, n, ov), OI.mk xs m qe, OI.mk pl pl.length pe) := ⟨rfl, rfl, rfl, rfl, rfl, hI⟩
  have e1 : c.tmod 8 = c % 8 := Int.tmod_eq_emod_of_nonneg c0
  have e2 := Int.emod_nonneg c (by omega : (8 : Int) ≠ 0)
  have e3 := Int.emod_lt_of_pos c (by omega : (0 : Int) < 8)
  rw [e1, wrap64 (x := c - c % 8) (by omega) (by omega), wrap64 (x := c - c % 8 + 8) (by omega) (by omega), wrap64 (x := c + 1) (by omega) (by omega)]
  by_cases h : c - c % 8 + 8 > (nC l : Int) - 1 <;> simp [br_iff, rq_iff, hT, hg, h, near_in r0 r1] <;> omega
def lcTIdx : ACon Unit := mkLC (decP (shOne (shP 0)) (shTm 0)) fun (_, x) => .ask (TA x) (.one (.t []) (tmE 0 x (ixT (tmS x))) [1, 3])
set_option maxHeartbeats 4000000 in
theorem ok_tIdx : ∀ I : Sym.Inv Unit, LCOk I Tryz.prog 69 lcTIdx := by
  refine lc_mk (fun _ => allCfg Tryz.prog [] tabT12 0) (fun _ _ => allCfg_ok mixed trivial tabT12_ok) (fun _ => rfl) (n := 60) Tryz.func69 ?_
  intro ⟨_, ⟨_, _, G, K, Ho, pe⟩, ⟨r, c, p, _, _⟩, oe, ⟨l, oe2, ep⟩, ⟨qe, fr, n, ov⟩, ⟨xs, m, qe2⟩, ⟨pl, pn, pe2⟩⟩ hφ
  obtain ⟨⟨rfl, rfl, rfl, rfl, rfl, hI⟩, hp⟩ := id hφ
  refine kcast (B := (true = true ∧ TA (((), (), G, K, Ho, pe), (r, c, false, (), ()), oe, RC.mk l oe ep, (qe, fr, n, ov), OI.mk xs m qe, OI.mk pl pl.length pe) ∧ br (r == (0 : Int)) (true = true ∧ (oe = oe ∧ GW l ∧ (0 : Int) ≤ r ∧ r < (255 : Int)) ∧ (SV.t [] = SV.t [] ∧
 True) ∧ (SV.p 1 0 = SV.p 1 0 ∧ SV.p 4 0 = SV.p 4 0 ∧ vB G = vB G ∧ vB K = vB K ∧ vB Ho = vB Ho ∧ SV.h 6 [pe, 0] = SV.h 6 [pe, 0] ∧ True) ∧ (vI (stI r (-1 : Int) (↑l.length : Int)) = vI (nearI (r - (1 : Int)) (↑l.length : Int)) ∧ vI (stI c (0 : Int)
 (↑(nC l) : Int)) = vI c ∧ vB false = vB false ∧ SV.p 2 0 = SV.p 2 0 ∧ True) ∧ (SV.h 3 [oe, 0] = SV.h 3 [oe, 0] ∧ True) ∧ (oe = oe ∧ (ep + 1 = if r = (0 : Int) then ep + 1 else ep) ∧ upF l (feN r (-1 : Int) (↑l.length : Int)) blankC = if r = (0 : Int)
 then upF l (-1 : Int) blankC else l) ∧ (SV.h 5 [qe, 0] = SV.h 5 [qe, 0] ∧ vI fr = vI fr ∧ vI n = vI n ∧ vB ov = vB ov ∧ True) ∧ (m = m ∧ qe = qe ∧ xs = xs) ∧ (pl.length = pl.length ∧ pe = pe ∧ pl = pl) ∧ True) (true = true ∧ (oe = oe ∧ GW l) ∧ (SV.t
 [] = SV.t [] ∧ True) ∧ (SV.p 1 0 = SV.p 1 0 ∧ SV.p 4 0 = SV.p 4 0 ∧ vB G = vB G ∧ vB K = vB K ∧ vB Ho = vB Ho ∧ SV.h 6 [pe, 0] = SV.h 6 [pe, 0] ∧ True) ∧ (vI (stI r (-1 : Int) (↑l.length : Int)) = vI (nearI (r - (1 : Int)) (↑l.length : Int)) ∧ vI
 (stI c (0 : Int) (↑(nC l) : Int)) = vI c ∧ vB false = vB false ∧ SV.p 2 0 = SV.p 2 0 ∧ True) ∧ (SV.h 3 [oe, 0] = SV.h 3 [oe, 0] ∧ True) ∧ (oe = oe ∧ (ep = if r = (0 : Int) then ep + 1 else ep) ∧ l = if r = (0 : Int) then upF l (-1 : Int) blankC else
 l) ∧ (SV.h 5 [qe, 0] = SV.h 5 [qe, 0] ∧ vI fr = vI fr ∧ vI n = vI n ∧ vB ov = vB ov ∧ True) ∧ (m = m ∧ qe = qe ∧ xs = xs) ∧ (pl.length = pl.length ∧ pe = pe ∧ pl = pl) ∧ True))) (by kernel_rfl) ?_
  clear hp hφ
  obtain ⟨hg, r0, r1, c0, c1, hq, hl, hb⟩ := id hI
  simp only at hg r0 r1 c0 c1 hq hl hb
  have g1 := hg.r1
  have g3 := hg.c1
  have hT : TA (((), (), G, K, Ho, pe), (r, c, false, (), ()), oe, RC.mk l oe ep, (qe, fr, n, ov), OI.mk xs m qe, OI.mk pl pl.length pe) := ⟨rfl, rfl, rfl, rfl, rfl, hI⟩
  by_cases h : r = 0
  · subst h
    have e1 : stI 0 (-1) l.length = nearI (-1) l.length := st_in r0 r1 (by omega) (by omega)
    have e2 : stI c 0 (nC l) = c := by rw [st_in c0 c1 (by omega) (by omega), Int.add_zero, near_in c0 c1]
    simp [br_iff, rq_iff, hT, hg, e1, e2, feN_neg (a := (l.length : Int)) (by omega)]
  · have e1 : stI r (-1) l.length = nearI (r - 1) l.length := st_in r0 r1 (by omega) (by omega)
    have e2 : stI c 0 (nC l) = c := by rw [st_in c0 c1 (by omega) (by omega), Int.add_zero, near_in c0 c1]
    simp [br_iff, rq_iff, hT, hg, h, e1, e2]
def lcTPlace : ACon Unit := mkLC (decP (shCons (shP 0) (shCons shI (shOne shI))) (shTm 0)) fun ((_, row, col), x) => .ask (TA x) (.one (.t []) (tmE 0 x (plT (tmS x) row col)) [1])
set_option maxHeartbeats 4000000 in
theorem ok_tPlace : ∀ I : Sym.Inv Unit, LCOk I Tryz.prog 42 lcTPlace := by
  refine lc_mk (fun _ => allCfg Tryz.prog [] tabT12 0) (fun _ _ => allCfg_ok mixed trivial tabT12_ok) (fun _ => rfl) (n := 60) Tryz.func42 ?_
  intro ⟨⟨_, row, col⟩, ⟨_, _, G, K, Ho, pe⟩, ⟨r, c, p, _, _⟩, oe, ⟨l, oe2, ep⟩, ⟨qe, fr, n, ov⟩, ⟨xs, m, qe2⟩, ⟨pl, pn, pe2⟩⟩ hφ
  obtain ⟨⟨rfl, rfl, rfl, rfl, rfl, hI⟩, hp⟩ := id hφ
  refine kcast (B := (true = true ∧ TA (((), (), G, K, Ho, pe), (r, c, false, (), ()), oe, RC.mk l oe ep, (qe, fr, n, ov), OI.mk xs m qe, OI.mk pl pl.length pe) ∧ true = true ∧ TA (((), (), G, K, Ho, pe), (r, c, false, (), ()), oe, RC.mk l oe ep, (qe, fr, n, ov), OI.mk
 xs m qe, OI.mk pl pl.length pe) ∧ br (decide (row ≥ (0 : Int))) (br (decide (row ≤ (↑l.length : Int) - (1 : Int))) (br (decide (col ≥ (0 : Int))) (true = true ∧ (oe = oe ∧ GW l) ∧ (SV.t [] = SV.t [] ∧ True) ∧ (SV.p 1 0 = SV.p 1 0 ∧ SV.p 4 0 = SV.p 4
 0 ∧ vB G = vB G ∧ vB K = vB K ∧ vB Ho = vB Ho ∧ SV.h 6 [pe, 0] = SV.h 6 [pe, 0] ∧ True) ∧ (vI (nearI row (↑l.length : Int)) = vI (if (0 : Int) ≤ row ∧ row ≤ (↑l.length : Int) - (1 : Int) then row else r) ∧ vI (nearI (if (↑(nC l) : Int) - (1 : Int) <
 col then (↑(nC l) : Int) - (1 : Int) else col) (↑(nC l) : Int)) = vI (if (0 : Int) ≤ col then if (↑(nC l) : Int) - (1 : Int) < col then (↑(nC l) : Int) - (1 : Int) else col else c) ∧ vB false = vB false ∧ SV.p 2 0 = SV.p 2 0 ∧ True) ∧ (SV.h 3 [oe, 0]
 = SV.h 3 [oe, 0] ∧ True) ∧ (oe = oe ∧ ep = ep ∧ l = l) ∧ (SV.h 5 [qe, 0] = SV.h 5 [qe, 0] ∧ vI fr = vI fr ∧ vI n = vI n ∧ vB ov = vB ov ∧ True) ∧ (m = m ∧ qe = qe ∧ xs = xs) ∧ (pl.length = pl.length ∧ pe = pe ∧ pl = pl) ∧ True) (true = true ∧ (oe =
 oe ∧ GW l) ∧ (SV.t [] = SV.t [] ∧ True) ∧ (SV.p 1 0 = SV.p 1 0 ∧ SV.p 4 0 = SV.p 4 0 ∧ vB G = vB G ∧ vB K = vB K ∧ vB Ho = vB Ho ∧ SV.h 6 [pe, 0] = SV.h 6 [pe, 0] ∧ True) ∧ (vI (nearI row (↑l.length : Int)) = vI (if (0 : Int) ≤ row ∧ row ≤ (↑l.length
 : Int) - (1 : Int) then row else r) ∧ vI (nearI c (↑(nC l) : Int)) = vI (if (0 : Int) ≤ col then if (↑(nC l) : Int) - (1 : Int) < col then (↑(nC l) : Int) - (1 : Int) else col else c) ∧ vB false = vB false ∧ SV.p 2 0 = SV.p 2 0 ∧ True) ∧ (SV.h 3 [oe,
 0] = SV.h 3 [oe, 0] ∧ True) ∧ (oe = oe ∧ ep = ep ∧ l = l) ∧ (SV.h 5 [qe, 0] = SV.h 5 [qe, 0] ∧ vI fr = vI fr ∧ vI n = vI n ∧ vB ov = vB ov ∧ True) ∧ (m = m ∧ qe = qe ∧ xs = xs) ∧ (pl.length = pl.length ∧ pe = pe ∧ pl = pl) ∧ True)) (br (decide (col ≥
 (0 : Int))) (true = true ∧ (oe = oe ∧ GW l) ∧ (SV.t [] = SV.t [] ∧ True) ∧ (SV.p 1 0 = SV.p 1 0 ∧ SV.p 4 0 = SV.p 4 0 ∧ vB G = vB G ∧ vB K = vB K ∧ vB Ho = vB Ho ∧ SV.h 6 [pe, 0] = SV.h 6 [pe, 0] ∧ True) ∧ (vI (nearI r (↑l.length : Int)) = vI (if (0
 : Int) ≤ row ∧ row ≤ (↑l.length : Int) - (1 : Int) then row else r) ∧ vI (nearI (if (↑(nC l) : Int) - (1 : Int) < col then (↑(nC l) : Int) - (1 : Int) else col) (↑(nC l) : Int)) = vI (if (0 : Int) ≤ col then if (↑(nC l) : Int) - (1 : Int) < col then
 (↑(nC l) : Int) - (1 : Int) else col else c) ∧ vB false = vB false ∧ SV.p 2 0 = SV.p 2 0 ∧ True) ∧ (SV.h 3 [oe, 0] = SV.h 3 [oe, 0] ∧ True) ∧ (oe = oe ∧ ep = ep ∧ l = l) ∧ (SV.h 5 [qe, 0] = SV.h 5 [qe, 0] ∧ vI fr = vI fr ∧ vI n = vI n ∧ vB ov = vB ov
 ∧ True) ∧ (m = m ∧ qe = qe ∧ xs = xs) ∧ (pl.length = pl.length ∧ pe = pe ∧ pl = pl) ∧ True) (true = true ∧ (oe = oe ∧ GW l) ∧ (SV.t [] = SV.t [] ∧ True) ∧ (SV.p 1 0 = SV.p 1 0 ∧ SV.p 4 0 = SV.p 4 0 ∧ vB G = vB G ∧ vB K = vB K ∧ vB Ho = vB Ho ∧ SV.h 6
 [pe, 0] = SV.h 6 [pe, 0] ∧ True) ∧ (vI (nearI r (↑l.length : Int)) = vI (if (0 : Int) ≤ row ∧ row ≤ (↑l.length : Int) - (1 : Int) then row else r) ∧ vI (nearI c (↑(nC l) : Int)) = vI (if (0 : Int) ≤ col then if (↑(nC l) : Int) - (1 : Int) < col then
 (↑(nC l) : Int) - (1 : Int) else col else c) ∧ vB false = vB false ∧ SV.p 2 0 = SV.p 2 0 ∧ True) ∧ (SV.h 3 [oe, 0] = SV.h 3 [oe, 0] ∧ True) ∧ (oe = oe ∧ ep = ep ∧ l = l) ∧ (SV.h 5 [qe, 0] = SV.h 5 [qe, 0] ∧ vI fr = vI fr ∧ vI n = vI n ∧ vB ov = vB ov
 ∧ True) ∧ (m = m ∧ qe = qe ∧ xs = xs) ∧ (pl.length = pl.length ∧ pe = pe ∧ pl = pl) ∧ True))) (br (decide (col ≥ (0 : Int))) (true = true ∧ (oe = oe ∧ GW l) ∧ (SV.t [] = SV.t [] ∧ True) ∧ (SV.p 1 0 = SV.p 1 0 ∧ SV.p 4 0 = SV.p 4 0 ∧ vB G = vB G ∧ vB
 K = vB K ∧ vB Ho = vB Ho ∧ SV.h 6 [pe, 0] = SV.h 6 [pe, 0] ∧ True) ∧ (vI (nearI r (↑l.length : Int)) = vI (if (0 : Int) ≤ row ∧ row ≤ (↑l.length : Int) - (1 : Int) then row else r) ∧ vI (nearI (if (↑(nC l) : Int) - (1 : Int) < col then (↑(nC l) :
 Int) - (1 : Int) else col) (↑(nC l) : Int)) = vI (if (0 : Int) ≤ col then if (↑(nC l) : Int) - (1 : Int) < col then (↑(nC l) : Int) - (1 : Int) else col else c) ∧ vB false = vB false ∧ SV.p 2 0 = SV.p 2 0 ∧ True) ∧ (SV.h 3 [oe, 0] = SV.h 3 [oe, 0] ∧
 True) ∧ (oe = oe ∧ ep = ep ∧ l = l) ∧ (SV.h 5 [qe, 0] = SV.h 5 [qe, 0] ∧ vI fr = vI fr ∧ vI n = vI n ∧ vB ov = vB ov ∧ True) ∧ (m = m ∧ qe = qe ∧ xs = xs) ∧ (pl.length = pl.length ∧ pe = pe ∧ pl = pl) ∧ True) (true = true ∧ (oe = oe ∧ GW l) ∧ (SV.t
 [] = SV.t [] ∧ True) ∧ (SV.p 1 0 = SV.p 1 0 ∧ SV.p 4 0 = SV.p 4 0 ∧ vB G = vB G ∧ vB K = vB K ∧ vB Ho = vB Ho ∧ SV.h 6 [pe, 0] = SV.h 6 [pe, 0] ∧ True) ∧ (vI (nearI r (↑l.length : Int)) = vI (if (0 : Int) ≤ row ∧ row ≤ (↑l.length : Int) - (1 : Int)
 then row else r) ∧ vI (nearI c (↑(nC l) : Int)) = vI (if (0 : Int) ≤ col then if (↑(nC l) : Int) - (1 : Int) < col then (↑(nC l) : Int) - (1 : Int) else col else c) ∧ vB false = vB false ∧ SV.p 2 0 = SV.p 2 0 ∧ True) ∧ (SV.h 3 [oe, 0] = SV.h 3 [oe,
 0] ∧ True) ∧ (oe = oe ∧ ep = ep ∧ l = l) ∧ (SV.h 5 [qe, 0] = SV.h 5 [qe, 0] ∧ vI fr = vI fr ∧ vI n = vI n ∧ vB ov = vB ov ∧ True) ∧ (m = m ∧ qe = qe ∧ xs = xs) ∧ (pl.length = pl.length ∧ pe = pe ∧ pl = pl) ∧ True)))) (by kernel_rfl) ?_
  clear hp hφ
  obtain ⟨hg, r0, r1, c0, c1, hq, hl, hb⟩ := id hI
  simp only at hg r0 r1 c0 c1 hq hl hb
  have g1 := hg.r1
  have g3 := hg.c1
  have hT : TA (((), (), G, K, Ho, pe), (r, c, false, (), ()), oe, RC.mk l oe ep, (qe, fr, n, ov), OI.mk xs m qe, OI.mk pl pl.length pe) := ⟨rfl, rfl, rfl, rfl, rfl, hI⟩
  simp only [br_iff, rq_iff, hT, hg, decide_eq_true_eq, decide_eq_false_iff_not, true_and, and_true, and_self, SV.v.injEq, Value.int.injEq]
  have n1 : nearI r l.length = r := near_in r0 r1
  have n2 : nearI c (nC l) = c := near_in c0 c1
  have n3 : ∀ h : 0 ≤ row ∧ row ≤ (l.length : Int) - 1, nearI row l.length = row := fun h => near_in h.1 (by omega)
  have n4 : 0 ≤ col → nearI (if (nC l : Int) - 1 < col then (nC l : Int) - 1 else col) (nC l) = if (nC l : Int) - 1 < col then (nC l : Int) - 1 else col := fun h => near_in (by split <;> omega) (by split <;> omega)
  refine ⟨fun h1 => ⟨fun h2 => ⟨fun h3 => ?_, fun h3 => ?_⟩, fun h2 => ⟨fun h3 => ?_, fun h3 => ?_⟩⟩, fun h1 => ⟨fun h3 => ?_, fun h3 => ?_⟩⟩
  · rw [if_pos ⟨h1, h2⟩, if_pos h3, n3 ⟨h1, h2⟩, n4 h3]; exact ⟨rfl, rfl⟩
  · rw [if_pos ⟨h1, h2⟩, if_neg h3, n3 ⟨h1, h2⟩, n2]; exact ⟨rfl, rfl⟩
  · rw [if_neg (fun h => h2 h.2), if_pos h3, n1, n4 h3]; exact ⟨rfl, rfl⟩
  · rw [if_neg (fun h => h2 h.2), if_neg h3, n1, n2]; exact ⟨rfl, rfl⟩
  · rw [if_neg (fun h => h1 h.1), if_pos h3, n1, n4 h3]; exact ⟨rfl, rfl⟩
  · rw [if_neg (fun h => h1 h.1), if_neg h3, n1, n2]; exact ⟨rfl, rfl⟩
def lcTPut : ACon Unit := mkLC (decP (shCons (shP 0) (shOne (shInt .u8))) (shTm 0)) fun ((_, b), x) => .ask (TA x ∧ 0 ≤ b ∧ b ≤ 255) (.one (.t []) (tmE 0 x (puT (tmS x) b)) [1, 3])
set_option maxHeartbeats 4000000 in
theorem ok_tPut : ∀ I : Sym.Inv Unit, LCOk I Tryz.prog 25 lcTPut := by
  refine lc_mk (fun _ => allCfg Tryz.prog purT tabT12 0) (fun _ _ => allCfg_ok mixed purT_ok tabT12_ok) (fun _ => rfl) (n := 60) Tryz.func25 ?_
  intro ⟨⟨_, b⟩, ⟨_, _, G, K, Ho, pe⟩, ⟨r, c, p, _, _⟩, oe, ⟨l, oe2, ep⟩, ⟨qe, fr, n, ov⟩, ⟨xs, m, qe2⟩, ⟨pl, pn, pe2⟩⟩ hφ
  obtain ⟨⟨⟨rfl, rfl, rfl, rfl, rfl, hI⟩, hb0, hb1⟩, hp⟩ := id hφ
  refine kcast (B := (br G ((((3 : Int) = (1 : Int) ∨ (3 : Int) = (3 : Int)) ∧ (0 : Int) ≤ b ∧ b ≤ (255 : Int)) ∧ true = true ∧ (oe = oe ∧ false = false ∧ GW l) ∧ (SV.t [] = SV.t [] ∧ True) ∧ (SV.p 1 0 = SV.p 1 0 ∧ SV.p 4 0 = SV.p 4 0 ∧ vB G = vB G ∧ vB K = vB K ∧ vB Ho
 = vB Ho ∧ SV.h 6 [pe, 0] = SV.h 6 [pe, 0] ∧ True) ∧ (vI (bhR (↑l.length : Int) (↑(nC l) : Int) (ahR (↑l.length : Int) r false) (ahC (↑(nC l) : Int) c false) (1 : Int)) = vI r ∧ vI (bhC (↑l.length : Int) (↑(nC l) : Int) (ahR (↑l.length : Int) r false)
 (ahC (↑(nC l) : Int) c false) (1 : Int)) = vI (if c + (1 : Int) < (↑(nC l) : Int) then c + (1 : Int) else c) ∧ vB (bhP (↑l.length : Int) (↑(nC l) : Int) (ahR (↑l.length : Int) r false) (ahC (↑(nC l) : Int) c false) (1 : Int)) = vB false ∧ SV.p 2 0 =
 SV.p 2 0 ∧ True) ∧ (SV.h 3 [oe, 0] = SV.h 3 [oe, 0] ∧ True) ∧ (oe = oe ∧ riE (puU l r c false (1 : Int)) (riE (ahU (↑l.length : Int) r false) ep) = ep ∧ puL l r c false (C4.mk (ofT (3 : Int) b) (0 : Int) false (0 : Int)) (1 : Int) blankC = set2 l r c
 (C4.mk (glT G b) (0 : Int) false (0 : Int))) ∧ (SV.h 5 [qe, 0] = SV.h 5 [qe, 0] ∧ vI fr = vI fr ∧ vI n = vI n ∧ vB ov = vB ov ∧ True) ∧ (m = m ∧ qe = qe ∧ xs = xs) ∧ (pl.length = pl.length ∧ pe = pe ∧ pl = pl) ∧ True) ((((1 : Int) = (1 : Int) ∨ (1 :
 Int) = (3 : Int)) ∧ (0 : Int) ≤ b ∧ b ≤ (255 : Int)) ∧ true = true ∧ (oe = oe ∧ false = false ∧ GW l) ∧ (SV.t [] = SV.t [] ∧ True) ∧ (SV.p 1 0 = SV.p 1 0 ∧ SV.p 4 0 = SV.p 4 0 ∧ vB G = vB G ∧ vB K = vB K ∧ vB Ho = vB Ho ∧ SV.h 6 [pe, 0] = SV.h 6 [pe,
 0] ∧ True) ∧ (vI (bhR (↑l.length : Int) (↑(nC l) : Int) (ahR (↑l.length : Int) r false) (ahC (↑(nC l) : Int) c false) (1 : Int)) = vI r ∧ vI (bhC (↑l.length : Int) (↑(nC l) : Int) (ahR (↑l.length : Int) r false) (ahC (↑(nC l) : Int) c false) (1 :
 Int)) = vI (if c + (1 : Int) < (↑(nC l) : Int) then c + (1 : Int) else c) ∧ vB (bhP (↑l.length : Int) (↑(nC l) : Int) (ahR (↑l.length : Int) r false) (ahC (↑(nC l) : Int) c false) (1 : Int)) = vB false ∧ SV.p 2 0 = SV.p 2 0 ∧ True) ∧ (SV.h 3 [oe, 0]
 = SV.h 3 [oe, 0] ∧ True) ∧ (oe = oe ∧ riE (puU l r c false (1 : Int)) (riE (ahU (↑l.length : Int) r false) ep) = ep ∧ puL l r c false (C4.mk (ofT (1 : Int) b) (0 : Int) false (0 : Int)) (1 : Int) blankC = set2 l r c (C4.mk (glT G b) (0 : Int) false
 (0 : Int))) ∧ (SV.h 5 [qe, 0] = SV.h 5 [qe, 0] ∧ vI fr = vI fr ∧ vI n = vI n ∧ vB ov = vB ov ∧ True) ∧ (m = m ∧ qe = qe ∧ xs = xs) ∧ (pl.length = pl.length ∧ pe = pe ∧ pl = pl) ∧ True))) (by kernel_rfl) ?_
  clear hp hφ
  obtain ⟨hg, r0, r1, c0, c1, hq, hl, hb⟩ := id hI
  simp only at hg r0 r1 c0 c1 hq hl hb
  have g1 := hg.r1
  have g3 := hg.c1
  have n1 : nearI r l.length = r := near_in r0 r1
  have n2 : nearI c (nC l) = c := near_in c0 c1
  have a1 : ahR l.length r false = r := n1
  have a2 : ahC (nC l) c false = c := n2
  have a3 : ahU l.length r false = false := rfl
  have b0 : bhIn (nC l) c = decide (c + 1 < nC l) := by unfold bhIn; rw [n2]; congr 1; apply propext; omega
  have b1 : bhR l.length (nC l) r c 1 = r := by unfold bhR; rw [n1]; split <;> rfl
  have b2 : bhC l.length (nC l) r c 1 = if c + 1 < nC l then c + 1 else c := by unfold bhC; rw [b0, n2]; by_cases h : c + 1 < nC l <;> simp [h]
  have b3 : bhP l.length (nC l) r c 1 = false := by unfold bhP; simp
  have b4 : puU l r c false 1 = false := by unfold puU bhU; simp
  have b5 : ∀ x, puL l r c false x 1 blankC = set2 l r c x := fun x => by unfold puL puL1; rw [b4, a1, a2, a3]; rfl
  have b6 : riE false ep = ep := rfl
  cases G <;> simp [br_iff, rq_iff, hg, a1, a2, a3, b1, b2, b3, b4, b5, b6, hb0, hb1, glT]
end Go.Proofs.YtcbjgpkbfmmdpaaGreatDoor
namespace Go.Proofs.YtcbjgpkbfmmdpaaGreatDoor
open Go Go.Sym
def zT (m : Nat) (fr : Int) (s : Tm) : Tm := if s.n + 3 > m then { s with ov := true } else { s with n := s.n + 3, xs := putL m s.xs (fr + s.n) [27, 47, 75] }
def twoT (m : Nat) (fr : Int) (s : Tm) (b : Int) : Tm :=
  if b = 65 then stT s (-1) 0
  else if b = 66 then stT s 1 0
  else if b = 67 then stT s 0 1
  else if b = 68 then stT s 0 (-1)
  else if b = 72 then moT s 0 0
  else if b = 73 then ixT s
  else if b = 74 then wpT s s.r s.c ((s.l.length : Int) - 1) ((nC s.l : Int) - 1)
  else if b = 75 then wpT s s.r s.c s.r ((nC s.l : Int) - 1)
  else if b = 70 then { s with G := true }
  else if b = 71 then { s with G := false }
  else if b = 61 then { s with K := true }
  else if b = 62 then { s with K := false }
  else if b = 91 then { s with Ho := true }
  else if b = 92 then { s with Ho := false }
  else if b = 90 then zT m fr s
  else s
def sqT (m : Nat) (fr : Int) (s : Tm) (b : Int) : Tm :=
  if (s.pl.length = 1 ∧ b = 89) ∨ s.pl.length = 2 then { s with pl := s.pl ++ [b], pe := s.pe + 1 }
  else if s.pl.length = 1 then twoT m fr { s with pl := [], pe := s.pe + 2 } b
  else plT { s with pl := [], pe := s.pe + 2 } (s.pl.getD 2 0 - 32) (b - 32)
def annNil (keep : List Nat) (G K Ho : Bool) (e : Nat) : Ann Unit where
  α := Nat
  φ _ _ := True
  μ _ _ := 0
  get _ := some 0
  f st _ := tmpl keep [] [(0, .cells [.p 1 0, .p 4 0, .v (.bool G), .v (.bool K), .v (.bool Ho), .h 6 [e, 0]] 63), (6, .own (.ints .u8 []) 0 5 1 e false)] st
  fx _ := [.nilInto 0 5 6]
def tabU12 : List (Nat × ACon Unit) := (47, lcTTab) :: (69, lcTIdx) :: (42, lcTPlace) :: (25, lcTPut) :: (79, lcPush1) :: tabT12
theorem tabU12_ok : LCs Tryz.prog tabU12 := ⟨ok_tTab, ok_tIdx, ok_tPlace, ok_tPut, ok_push1, tabT12_ok⟩
def trM (x : TR) : Nat := match x with
  | (_, _, _, _, _, ⟨_, m, _⟩, _) => m
def trF (x : TR) : Int := match x with
  | (_, _, _, _, (_, fr, _, _), _, _) => fr
def sqX (x : TR) (b : Int) : Tm := sqT (trM x) (trF x) (tmS x) b
def lcTSeq : ACon Unit := mkLC (decP (shCons (shP 0) (shOne (shInt .u8))) (shTm 0)) fun ((_, b), x) => .ask (TA x ∧ 0 ≤ b ∧ b ≤ 255 ∧ 1 ≤ (tmS x).pl.length) (.one (.t []) (tmE 0 x (sqX x b)) [0, 1, 3, 4, 5, 6])
set_option maxHeartbeats 4000000 in
theorem ok_tSeq : ∀ I : Sym.Inv Unit, LCOk I Tryz.prog 24 lcTSeq := by
  refine lc_mk (fun (_, x) => allCfg Tryz.prog purT tabU12 20 [] [(388, annNil [0, 1] (tmS x).G (tmS x).K (tmS x).Ho ((tmS x).pe + 2)), (580, annNil [0, 1, 5] (tmS x).G (tmS x).K (tmS x).Ho ((tmS x).pe + 2))]) (fun _ _ => allCfg_ok mixed purT_ok tabU12_ok) (fun _ => rfl) (n := 90) Tryz.func24 ?_
  intro ⟨⟨u0, b⟩, ⟨u1, u2, G, K, Ho, pe⟩, ⟨r, c, p, u3, u4⟩, oe, ⟨l, oe2, ep⟩, ⟨qe, fr, n, ov⟩, ⟨xs, m, qe2⟩, ⟨pl, pn, pe2⟩⟩ hφ
  obtain ⟨⟨⟨rfl, rfl, rfl, rfl, rfl, hI⟩, hb0, hb1, hl1⟩, hp⟩ := id hφ
  refine kcast (B := ((fun S : Tm => rq (pe.beq pe && (true && decide (pl.length + (1 : Nat) ≤ (9223372036854775807 : Nat) ∧ (pl.length + (1 : Nat)) * (1 : Nat) ≤ (140737488355328 : Nat)))) (rq ((pe + 1).beq (pe + 1)) (br ((↑(pl.length + (1 : Nat)) : Int) == (2 : Int))
 (br (b == (89 : Int)) ((SV.t [] = SV.t [] ∧ True) ∧ (SV.p 1 0 = SV.p 1 0 ∧ SV.p 4 0 = SV.p 4 0 ∧ vB G = vB S.G ∧ vB K = vB S.K ∧ vB Ho = vB S.Ho ∧ SV.h 6 [pe + 1, 0] = SV.h 6 [S.pe, 0] ∧ True) ∧ (vI r = vI S.r ∧ vI c = vI S.c ∧ vB false = vB false ∧
 SV.p 2 0 = SV.p 2 0 ∧ True) ∧ (SV.h 3 [oe, 0] = SV.h 3 [oe, 0] ∧ True) ∧ (oe = oe ∧ ep = S.ep ∧ l = S.l) ∧ (SV.h 5 [qe, 0] = SV.h 5 [qe, 0] ∧ vI fr = vI fr ∧ vI n = vI S.n ∧ vB ov = vB S.ov ∧ True) ∧ (m = m ∧ qe = qe ∧ xs = S.xs) ∧ (pl.length + (1 :
 Nat) = S.pl.length ∧ pe + 1 = S.pe ∧ pl ++ intsOf (List.take (1 : Nat) (List.drop (0 : Nat) (setAll (List.map (fun i => SV.v (Value.int IntKind.u8 (0 : Int)).cells[i % (1 : Nat)]!) (List.range (1 : Nat))) (0 : Nat) [SV.v (Value.int IntKind.u8 b)])))
 = S.pl) ∧ True) (br ((↑(pl.length + (1 : Nat)) : Int) == (3 : Int)) ((SV.t [] = SV.t [] ∧ True) ∧ (SV.p 1 0 = SV.p 1 0 ∧ SV.p 4 0 = SV.p 4 0 ∧ vB G = vB S.G ∧ vB K = vB S.K ∧ vB Ho = vB S.Ho ∧ SV.h 6 [pe + 1, 0] = SV.h 6 [S.pe, 0] ∧ True) ∧ (vI r =
 vI S.r ∧ vI c = vI S.c ∧ vB false = vB false ∧ SV.p 2 0 = SV.p 2 0 ∧ True) ∧ (SV.h 3 [oe, 0] = SV.h 3 [oe, 0] ∧ True) ∧ (oe = oe ∧ ep = S.ep ∧ l = S.l) ∧ (SV.h 5 [qe, 0] = SV.h 5 [qe, 0] ∧ vI fr = vI fr ∧ vI n = vI S.n ∧ vB ov = vB S.ov ∧ True) ∧ (m
 = m ∧ qe = qe ∧ xs = S.xs) ∧ (pl.length + (1 : Nat) = S.pl.length ∧ pe + 1 = S.pe ∧ pl ++ intsOf (List.take (1 : Nat) (List.drop (0 : Nat) (setAll (List.map (fun i => SV.v (Value.int IntKind.u8 (0 : Int)).cells[i % (1 : Nat)]!) (List.range (1 :
 Nat))) (0 : Nat) [SV.v (Value.int IntKind.u8 b)]))) = S.pl) ∧ True) (br ((↑(pl.length + (1 : Nat)) : Int) == (2 : Int)) ((True ∧ (SV.p 0 0 = SV.p 0 0 ∧ SV.v (Value.int IntKind.u8 b) = SV.v (Value.int IntKind.u8 b) ∧ True) ∧ (SV.p 1 0 = SV.p 1 0 ∧
 SV.p 4 0 = SV.p 4 0 ∧ vB G = vB G ∧ vB K = vB K ∧ vB Ho = vB Ho ∧ SV.h 6 [pe + 1 + 1, 0] = SV.h 6 [pe + 2, 0] ∧ True) ∧ (vI r = vI r ∧ vI c = vI c ∧ vB false = vB false ∧ SV.p 2 0 = SV.p 2 0 ∧ True) ∧ (SV.h 3 [oe, 0] = SV.h 3 [oe, 0] ∧ True) ∧ (oe =
 oe ∧ ep = ep ∧ l = l) ∧ (SV.h 5 [qe, 0] = SV.h 5 [qe, 0] ∧ vI fr = vI fr ∧ vI n = vI n ∧ vB ov = vB ov ∧ True) ∧ (m = m ∧ qe = qe ∧ xs = xs) ∧ ((0 : Nat) = (0 : Nat) ∧ pe + 1 + (1 : Nat) = pe + 2 ∧ LI [] = LI []) ∧ (SV.v (Value.int IntKind.u8 b) =
 SV.v (Value.int IntKind.u8 b) ∧ True) ∧ True) ∧ ∀ (x : Nat), True → br ((65 : Int) == b) (true = true ∧ (oe = oe ∧ GW l) ∧ (SV.t [] = SV.t [] ∧ True) ∧ (SV.p 1 0 = SV.p 1 0 ∧ SV.p 4 0 = SV.p 4 0 ∧ vB G = vB S.G ∧ vB K = vB S.K ∧ vB Ho = vB S.Ho ∧
 SV.h 6 [pe + 2, 0] = SV.h 6 [S.pe, 0] ∧ True) ∧ (vI (stI r (-1 : Int) (↑l.length : Int)) = vI S.r ∧ vI (stI c (0 : Int) (↑(nC l) : Int)) = vI S.c ∧ vB false = vB false ∧ SV.p 2 0 = SV.p 2 0 ∧ True) ∧ (SV.h 3 [oe, 0] = SV.h 3 [oe, 0] ∧ True) ∧ (oe =
 oe ∧ ep = S.ep ∧ l = S.l) ∧ (SV.h 5 [qe, 0] = SV.h 5 [qe, 0] ∧ vI fr = vI fr ∧ vI n = vI S.n ∧ vB ov = vB S.ov ∧ True) ∧ (m = m ∧ qe = qe ∧ xs = S.xs) ∧ ((0 : Nat) = S.pl.length ∧ pe + 2 = S.pe ∧ LI [] = S.pl) ∧ True) (br ((66 : Int) == b) (true =
 true ∧ (oe = oe ∧ GW l) ∧ (SV.t [] = SV.t [] ∧ True) ∧ (SV.p 1 0 = SV.p 1 0 ∧ SV.p 4 0 = SV.p 4 0 ∧ vB G = vB S.G ∧ vB K = vB S.K ∧ vB Ho = vB S.Ho ∧ SV.h 6 [pe + 2, 0] = SV.h 6 [S.pe, 0] ∧ True) ∧ (vI (stI r (1 : Int) (↑l.length : Int)) = vI S.r ∧
 vI (stI c (0 : Int) (↑(nC l) : Int)) = vI S.c ∧ vB false = vB false ∧ SV.p 2 0 = SV.p 2 0 ∧ True) ∧ (SV.h 3 [oe, 0] = SV.h 3 [oe, 0] ∧ True) ∧ (oe = oe ∧ ep = S.ep ∧ l = S.l) ∧ (SV.h 5 [qe, 0] = SV.h 5 [qe, 0] ∧ vI fr = vI fr ∧ vI n = vI S.n ∧ vB ov
 = vB S.ov ∧ True) ∧ (m = m ∧ qe = qe ∧ xs = S.xs) ∧ ((0 : Nat) = S.pl.length ∧ pe + 2 = S.pe ∧ LI [] = S.pl) ∧ True) (br ((67 : Int) == b) (true = true ∧ (oe = oe ∧ GW l) ∧ (SV.t [] = SV.t [] ∧ True) ∧ (SV.p 1 0 = SV.p 1 0 ∧ SV.p 4 0 = SV.p 4 0 ∧ vB
 G = vB S.G ∧ vB K = vB S.K ∧ vB Ho = vB S.Ho ∧ SV.h 6 [pe + 2, 0] = SV.h 6 [S.pe, 0] ∧ True) ∧ (vI (stI r (0 : Int) (↑l.length : Int)) = vI S.r ∧ vI (stI c (1 : Int) (↑(nC l) : Int)) = vI S.c ∧ vB false = vB false ∧ SV.p 2 0 = SV.p 2 0 ∧ True) ∧
 (SV.h 3 [oe, 0] = SV.h 3 [oe, 0] ∧ True) ∧ (oe = oe ∧ ep = S.ep ∧ l = S.l) ∧ (SV.h 5 [qe, 0] = SV.h 5 [qe, 0] ∧ vI fr = vI fr ∧ vI n = vI S.n ∧ vB ov = vB S.ov ∧ True) ∧ (m = m ∧ qe = qe ∧ xs = S.xs) ∧ ((0 : Nat) = S.pl.length ∧ pe + 2 = S.pe ∧ LI []
 = S.pl) ∧ True) (br ((68 : Int) == b) (true = true ∧ (oe = oe ∧ GW l) ∧ (SV.t [] = SV.t [] ∧ True) ∧ (SV.p 1 0 = SV.p 1 0 ∧ SV.p 4 0 = SV.p 4 0 ∧ vB G = vB S.G ∧ vB K = vB S.K ∧ vB Ho = vB S.Ho ∧ SV.h 6 [pe + 2, 0] = SV.h 6 [S.pe, 0] ∧ True) ∧ (vI
 (stI r (0 : Int) (↑l.length : Int)) = vI S.r ∧ vI (stI c (-1 : Int) (↑(nC l) : Int)) = vI S.c ∧ vB false = vB false ∧ SV.p 2 0 = SV.p 2 0 ∧ True) ∧ (SV.h 3 [oe, 0] = SV.h 3 [oe, 0] ∧ True) ∧ (oe = oe ∧ ep = S.ep ∧ l = S.l) ∧ (SV.h 5 [qe, 0] = SV.h 5
 [qe, 0] ∧ vI fr = vI fr ∧ vI n = vI S.n ∧ vB ov = vB S.ov ∧ True) ∧ (m = m ∧ qe = qe ∧ xs = S.xs) ∧ ((0 : Nat) = S.pl.length ∧ pe + 2 = S.pe ∧ LI [] = S.pl) ∧ True) (br ((72 : Int) == b) (true = true ∧ (oe = oe ∧ GW l) ∧ (SV.t [] = SV.t [] ∧ True) ∧
 (SV.p 1 0 = SV.p 1 0 ∧ SV.p 4 0 = SV.p 4 0 ∧ vB G = vB S.G ∧ vB K = vB S.K ∧ vB Ho = vB S.Ho ∧ SV.h 6 [pe + 2, 0] = SV.h 6 [S.pe, 0] ∧ True) ∧ (vI (nearI (0 : Int) (↑l.length : Int)) = vI S.r ∧ vI (nearI (0 : Int) (↑(nC l) : Int)) = vI S.c ∧ vB false
 = vB false ∧ SV.p 2 0 = SV.p 2 0 ∧ True) ∧ (SV.h 3 [oe, 0] = SV.h 3 [oe, 0] ∧ True) ∧ (oe = oe ∧ ep = S.ep ∧ l = S.l) ∧ (SV.h 5 [qe, 0] = SV.h 5 [qe, 0] ∧ vI fr = vI fr ∧ vI n = vI S.n ∧ vB ov = vB S.ov ∧ True) ∧ (m = m ∧ qe = qe ∧ xs = S.xs) ∧ ((0 :
 Nat) = S.pl.length ∧ pe + 2 = S.pe ∧ LI [] = S.pl) ∧ True) (br ((73 : Int) == b) (true = true ∧ TA (((), (), G, K, Ho, pe + 2), (r, c, false, (), ()), oe, RC.mk l oe ep, (qe, fr, n, ov), OI.mk xs m qe, OI.mk (LI []) (0 : Nat) (pe + 2)) ∧ (SV.t [] =
 SV.t [] ∧ True) ∧ (SV.p 1 0 = SV.p 1 0 ∧ SV.p 4 0 = SV.p 4 0 ∧ vB G = vB S.G ∧ vB K = vB S.K ∧ vB Ho = vB S.Ho ∧ SV.h 6 [pe + 2, 0] = SV.h 6 [S.pe, 0] ∧ True) ∧ (vI (nearI (r - (1 : Int)) (↑l.length : Int)) = vI S.r ∧ vI c = vI S.c ∧ vB false = vB
 false ∧ SV.p 2 0 = SV.p 2 0 ∧ True) ∧ (SV.h 3 [oe, 0] = SV.h 3 [oe, 0] ∧ True) ∧ (oe = oe ∧ (if r = (0 : Int) then ep + 1 else ep) = S.ep ∧ (if r = (0 : Int) then upF l (-1 : Int) blankC else l) = S.l) ∧ (SV.h 5 [qe, 0] = SV.h 5 [qe, 0] ∧ vI fr = vI
 fr ∧ vI n = vI S.n ∧ vB ov = vB S.ov ∧ True) ∧ (m = m ∧ qe = qe ∧ xs = S.xs) ∧ ((LI []).length = S.pl.length ∧ pe + 2 = S.pe ∧ LI [] = S.pl) ∧ True) (br ((74 : Int) == b) (true = true ∧ TA (((), (), G, K, Ho, pe + 2), (r, c, false, (), ()), oe, RC.mk
 l oe ep, (qe, fr, n, ov), OI.mk xs m qe, OI.mk (LI []) (0 : Nat) (pe + 2)) ∧ true = true ∧ TA (((), (), G, K, Ho, pe + 2), (r, c, false, (), ()), oe, RC.mk l oe ep, (qe, fr, n, ov), OI.mk xs m qe, OI.mk (LI []) (LI []).length (pe + 2)) ∧ true = true
 ∧ TA (((), (), G, K, Ho, pe + 2), (r, c, false, (), ()), oe, RC.mk l oe ep, (qe, fr, n, ov), OI.mk xs m qe, OI.mk (LI []) (LI []).length (pe + 2)) ∧ (SV.t [] = SV.t [] ∧ True) ∧ (SV.p 1 0 = SV.p 1 0 ∧ SV.p 4 0 = SV.p 4 0 ∧ vB G = vB S.G ∧ vB K = vB
 S.K ∧ vB Ho = vB S.Ho ∧ SV.h 6 [pe + 2, 0] = SV.h 6 [S.pe, 0] ∧ True) ∧ (vI r = vI S.r ∧ vI c = vI S.c ∧ vB false = vB false ∧ SV.p 2 0 = SV.p 2 0 ∧ True) ∧ (SV.h 3 [oe, 0] = SV.h 3 [oe, 0] ∧ True) ∧ (oe = oe ∧ ep = S.ep ∧ wiL l (nearI r (↑l.length :
 Int)) (nearI c (↑(nC l) : Int)) (nearI ((↑l.length : Int) - (1 : Int)) (↑l.length : Int)) (nearI ((↑(nC l) : Int) - (1 : Int)) (↑(nC l) : Int)) blankC false = S.l) ∧ (SV.h 5 [qe, 0] = SV.h 5 [qe, 0] ∧ vI fr = vI fr ∧ vI n = vI S.n ∧ vB ov = vB S.ov ∧
 True) ∧ (m = m ∧ qe = qe ∧ xs = S.xs) ∧ ((LI []).length = S.pl.length ∧ pe + 2 = S.pe ∧ LI [] = S.pl) ∧ True) (br ((75 : Int) == b) (true = true ∧ TA (((), (), G, K, Ho, pe + 2), (r, c, false, (), ()), oe, RC.mk l oe ep, (qe, fr, n, ov), OI.mk xs m
 qe, OI.mk (LI []) (0 : Nat) (pe + 2)) ∧ true = true ∧ TA (((), (), G, K, Ho, pe + 2), (r, c, false, (), ()), oe, RC.mk l oe ep, (qe, fr, n, ov), OI.mk xs m qe, OI.mk (LI []) (LI []).length (pe + 2)) ∧ true = true ∧ TA (((), (), G, K, Ho, pe + 2), (r,
 c, false, (), ()), oe, RC.mk l oe ep, (qe, fr, n, ov), OI.mk xs m qe, OI.mk (LI []) (LI []).length (pe + 2)) ∧ true = true ∧ TA (((), (), G, K, Ho, pe + 2), (r, c, false, (), ()), oe, RC.mk l oe ep, (qe, fr, n, ov), OI.mk xs m qe, OI.mk (LI []) (LI
 []).length (pe + 2)) ∧ (SV.t [] = SV.t [] ∧ True) ∧ (SV.p 1 0 = SV.p 1 0 ∧ SV.p 4 0 = SV.p 4 0 ∧ vB G = vB S.G ∧ vB K = vB S.K ∧ vB Ho = vB S.Ho ∧ SV.h 6 [pe + 2, 0] = SV.h 6 [S.pe, 0] ∧ True) ∧ (vI r = vI S.r ∧ vI c = vI S.c ∧ vB false = vB false ∧
 SV.p 2 0 = SV.p 2 0 ∧ True) ∧ (SV.h 3 [oe, 0] = SV.h 3 [oe, 0] ∧ True) ∧ (oe = oe ∧ ep = S.ep ∧ wiL l (nearI r (↑l.length : Int)) (nearI c (↑(nC l) : Int)) (nearI r (↑l.length : Int)) (nearI ((↑(nC l) : Int) - (1 : Int)) (↑(nC l) : Int)) blankC false
 = S.l) ∧ (SV.h 5 [qe, 0] = SV.h 5 [qe, 0] ∧ vI fr = vI fr ∧ vI n = vI S.n ∧ vB ov = vB S.ov ∧ True) ∧ (m = m ∧ qe = qe ∧ xs = S.xs) ∧ ((LI []).length = S.pl.length ∧ pe + 2 = S.pe ∧ LI [] = S.pl) ∧ True) (br ((70 : Int) == b) ((SV.t [] = SV.t [] ∧
 True) ∧ (SV.p 1 0 = SV.p 1 0 ∧ SV.p 4 0 = SV.p 4 0 ∧ vB true = vB S.G ∧ vB K = vB S.K ∧ vB Ho = vB S.Ho ∧ SV.h 6 [pe + 2, 0] = SV.h 6 [S.pe, 0] ∧ True) ∧ (vI r = vI S.r ∧ vI c = vI S.c ∧ vB false = vB false ∧ SV.p 2 0 = SV.p 2 0 ∧ True) ∧ (SV.h 3
 [oe, 0] = SV.h 3 [oe, 0] ∧ True) ∧ (oe = oe ∧ ep = S.ep ∧ l = S.l) ∧ (SV.h 5 [qe, 0] = SV.h 5 [qe, 0] ∧ vI fr = vI fr ∧ vI n = vI S.n ∧ vB ov = vB S.ov ∧ True) ∧ (m = m ∧ qe = qe ∧ xs = S.xs) ∧ ((0 : Nat) = S.pl.length ∧ pe + 2 = S.pe ∧ LI [] = S.pl)
 ∧ True) (br ((71 : Int) == b) ((SV.t [] = SV.t [] ∧ True) ∧ (SV.p 1 0 = SV.p 1 0 ∧ SV.p 4 0 = SV.p 4 0 ∧ vB false = vB S.G ∧ vB K = vB S.K ∧ vB Ho = vB S.Ho ∧ SV.h 6 [pe + 2, 0] = SV.h 6 [S.pe, 0] ∧ True) ∧ (vI r = vI S.r ∧ vI c = vI S.c ∧ vB false =
 vB false ∧ SV.p 2 0 = SV.p 2 0 ∧ True) ∧ (SV.h 3 [oe, 0] = SV.h 3 [oe, 0] ∧ True) ∧ (oe = oe ∧ ep = S.ep ∧ l = S.l) ∧ (SV.h 5 [qe, 0] = SV.h 5 [qe, 0] ∧ vI fr = vI fr ∧ vI n = vI S.n ∧ vB ov = vB S.ov ∧ True) ∧ (m = m ∧ qe = qe ∧ xs = S.xs) ∧ ((0 :
 Nat) = S.pl.length ∧ pe + 2 = S.pe ∧ LI [] = S.pl) ∧ True) (br ((61 : Int) == b) ((SV.t [] = SV.t [] ∧ True) ∧ (SV.p 1 0 = SV.p 1 0 ∧ SV.p 4 0 = SV.p 4 0 ∧ vB G = vB S.G ∧ vB true = vB S.K ∧ vB Ho = vB S.Ho ∧ SV.h 6 [pe + 2, 0] = SV.h 6 [S.pe, 0] ∧
 True) ∧ (vI r = vI S.r ∧ vI c = vI S.c ∧ vB false = vB false ∧ SV.p 2 0 = SV.p 2 0 ∧ True) ∧ (SV.h 3 [oe, 0] = SV.h 3 [oe, 0] ∧ True) ∧ (oe = oe ∧ ep = S.ep ∧ l = S.l) ∧ (SV.h 5 [qe, 0] = SV.h 5 [qe, 0] ∧ vI fr = vI fr ∧ vI n = vI S.n ∧ vB ov = vB
 S.ov ∧ True) ∧ (m = m ∧ qe = qe ∧ xs = S.xs) ∧ ((0 : Nat) = S.pl.length ∧ pe + 2 = S.pe ∧ LI [] = S.pl) ∧ True) (br ((62 : Int) == b) ((SV.t [] = SV.t [] ∧ True) ∧ (SV.p 1 0 = SV.p 1 0 ∧ SV.p 4 0 = SV.p 4 0 ∧ vB G = vB S.G ∧ vB false = vB S.K ∧ vB Ho
 = vB S.Ho ∧ SV.h 6 [pe + 2, 0] = SV.h 6 [S.pe, 0] ∧ True) ∧ (vI r = vI S.r ∧ vI c = vI S.c ∧ vB false = vB false ∧ SV.p 2 0 = SV.p 2 0 ∧ True) ∧ (SV.h 3 [oe, 0] = SV.h 3 [oe, 0] ∧ True) ∧ (oe = oe ∧ ep = S.ep ∧ l = S.l) ∧ (SV.h 5 [qe, 0] = SV.h 5
 [qe, 0] ∧ vI fr = vI fr ∧ vI n = vI S.n ∧ vB ov = vB S.ov ∧ True) ∧ (m = m ∧ qe = qe ∧ xs = S.xs) ∧ ((0 : Nat) = S.pl.length ∧ pe + 2 = S.pe ∧ LI [] = S.pl) ∧ True) (br ((91 : Int) == b) ((SV.t [] = SV.t [] ∧ True) ∧ (SV.p 1 0 = SV.p 1 0 ∧ SV.p 4 0 =
 SV.p 4 0 ∧ vB G = vB S.G ∧ vB K = vB S.K ∧ vB true = vB S.Ho ∧ SV.h 6 [pe + 2, 0] = SV.h 6 [S.pe, 0] ∧ True) ∧ (vI r = vI S.r ∧ vI c = vI S.c ∧ vB false = vB false ∧ SV.p 2 0 = SV.p 2 0 ∧ True) ∧ (SV.h 3 [oe, 0] = SV.h 3 [oe, 0] ∧ True) ∧ (oe = oe ∧
 ep = S.ep ∧ l = S.l) ∧ (SV.h 5 [qe, 0] = SV.h 5 [qe, 0] ∧ vI fr = vI fr ∧ vI n = vI S.n ∧ vB ov = vB S.ov ∧ True) ∧ (m = m ∧ qe = qe ∧ xs = S.xs) ∧ ((0 : Nat) = S.pl.length ∧ pe + 2 = S.pe ∧ LI [] = S.pl) ∧ True) (br ((92 : Int) == b) ((SV.t [] =
 SV.t [] ∧ True) ∧ (SV.p 1 0 = SV.p 1 0 ∧ SV.p 4 0 = SV.p 4 0 ∧ vB G = vB S.G ∧ vB K = vB S.K ∧ vB false = vB S.Ho ∧ SV.h 6 [pe + 2, 0] = SV.h 6 [S.pe, 0] ∧ True) ∧ (vI r = vI S.r ∧ vI c = vI S.c ∧ vB false = vB false ∧ SV.p 2 0 = SV.p 2 0 ∧ True) ∧
 (SV.h 3 [oe, 0] = SV.h 3 [oe, 0] ∧ True) ∧ (oe = oe ∧ ep = S.ep ∧ l = S.l) ∧ (SV.h 5 [qe, 0] = SV.h 5 [qe, 0] ∧ vI fr = vI fr ∧ vI n = vI S.n ∧ vB ov = vB S.ov ∧ True) ∧ (m = m ∧ qe = qe ∧ xs = S.xs) ∧ ((0 : Nat) = S.pl.length ∧ pe + 2 = S.pe ∧ LI []
 = S.pl) ∧ True) (br ((90 : Int) == b) (true = true ∧ (qe = qe ∧ QWf fr n xs m ∧ (3 : Nat) ≤ (1099511627776 : Nat)) ∧ br (decide (n + (3 : Int) > (↑m : Int))) ((SV.t [] = SV.t [] ∧ True) ∧ (SV.p 1 0 = SV.p 1 0 ∧ SV.p 4 0 = SV.p 4 0 ∧ vB G = vB S.G ∧
 vB K = vB S.K ∧ vB Ho = vB S.Ho ∧ SV.h 6 [pe + 2, 0] = SV.h 6 [S.pe, 0] ∧ True) ∧ (vI r = vI S.r ∧ vI c = vI S.c ∧ vB false = vB false ∧ SV.p 2 0 = SV.p 2 0 ∧ True) ∧ (SV.h 3 [oe, 0] = SV.h 3 [oe, 0] ∧ True) ∧ (oe = oe ∧ ep = S.ep ∧ l = S.l) ∧ (SV.h
 5 [qe, 0] = SV.h 5 [qe, 0] ∧ vI fr = vI fr ∧ vI n = vI S.n ∧ vB true = vB S.ov ∧ True) ∧ (m = m ∧ qe = qe ∧ xs = S.xs) ∧ ((0 : Nat) = S.pl.length ∧ pe + 2 = S.pe ∧ LI [] = S.pl) ∧ True) ((SV.t [] = SV.t [] ∧ True) ∧ (SV.p 1 0 = SV.p 1 0 ∧ SV.p 4 0 =
 SV.p 4 0 ∧ vB G = vB S.G ∧ vB K = vB S.K ∧ vB Ho = vB S.Ho ∧ SV.h 6 [pe + 2, 0] = SV.h 6 [S.pe, 0] ∧ True) ∧ (vI r = vI S.r ∧ vI c = vI S.c ∧ vB false = vB false ∧ SV.p 2 0 = SV.p 2 0 ∧ True) ∧ (SV.h 3 [oe, 0] = SV.h 3 [oe, 0] ∧ True) ∧ (oe = oe ∧ ep
 = S.ep ∧ l = S.l) ∧ (SV.h 5 [qe, 0] = SV.h 5 [qe, 0] ∧ vI fr = vI fr ∧ vI (n + (3 : Int)) = vI S.n ∧ vB ov = vB S.ov ∧ True) ∧ (m = m ∧ qe = qe ∧ putL m xs (fr + n) (LI [(27 : Int), (47 : Int), (75 : Int)]) = S.xs) ∧ ((0 : Nat) = S.pl.length ∧ pe + 2
 = S.pe ∧ LI [] = S.pl) ∧ True)) ((SV.t [] = SV.t [] ∧ True) ∧ (SV.p 1 0 = SV.p 1 0 ∧ SV.p 4 0 = SV.p 4 0 ∧ vB G = vB S.G ∧ vB K = vB S.K ∧ vB Ho = vB S.Ho ∧ SV.h 6 [pe + 2, 0] = SV.h 6 [S.pe, 0] ∧ True) ∧ (vI r = vI S.r ∧ vI c = vI S.c ∧ vB false =
 vB false ∧ SV.p 2 0 = SV.p 2 0 ∧ True) ∧ (SV.h 3 [oe, 0] = SV.h 3 [oe, 0] ∧ True) ∧ (oe = oe ∧ ep = S.ep ∧ l = S.l) ∧ (SV.h 5 [qe, 0] = SV.h 5 [qe, 0] ∧ vI fr = vI fr ∧ vI n = vI S.n ∧ vB ov = vB S.ov ∧ True) ∧ (m = m ∧ qe = qe ∧ xs = S.xs) ∧ ((0 :
 Nat) = S.pl.length ∧ pe + 2 = S.pe ∧ LI [] = S.pl) ∧ True)))))))))))))))) (rq ((pe + 1).beq (pe + 1) && (Nat.beq (1 : Nat) (1 : Nat) && decide ((0 : Int) ≤ (2 : Int) ∧ (2 : Int) < (↑(pl.length + (1 : Nat)) : Int)))) (rq ((pe + 1).beq (pe + 1) &&
 Nat.blt (2 : Nat) (pl ++ intsOf (List.take (1 : Nat) (List.drop (0 : Nat) (setAll (List.map (fun i => SV.v (Value.int IntKind.u8 (0 : Int)).cells[i % (1 : Nat)]!) (List.range (1 : Nat))) (0 : Nat) [SV.v (Value.int IntKind.u8 b)])))).length) ((True ∧
 (SV.p 0 0 = SV.p 0 0 ∧ SV.v (Value.int IntKind.u8 b) = SV.v (Value.int IntKind.u8 b) ∧ SV.v (Value.int IntKind.u8 ((pl ++ intsOf (List.take (1 : Nat) (List.drop (0 : Nat) (setAll (List.map (fun i => SV.v (Value.int IntKind.u8 (0 : Int)).cells[i % (1
 : Nat)]!) (List.range (1 : Nat))) (0 : Nat) [SV.v (Value.int IntKind.u8 b)])))).getD (2 : Nat) (0 : Int))) = SV.v (Value.int IntKind.u8 ((pl ++ intsOf (List.take (1 : Nat) (List.drop (0 : Nat) (setAll (List.map (fun i => SV.v (Value.int IntKind.u8 (0
 : Int)).cells[i % (1 : Nat)]!) (List.range (1 : Nat))) (0 : Nat) [SV.v (Value.int IntKind.u8 b)])))).getD (2 : Nat) (0 : Int))) ∧ True) ∧ (SV.p 1 0 = SV.p 1 0 ∧ SV.p 4 0 = SV.p 4 0 ∧ vB G = vB G ∧ vB K = vB K ∧ vB Ho = vB Ho ∧ SV.h 6 [pe + 1 + 1, 0]
 = SV.h 6 [pe + 2, 0] ∧ True) ∧ (vI r = vI r ∧ vI c = vI c ∧ vB false = vB false ∧ SV.p 2 0 = SV.p 2 0 ∧ True) ∧ (SV.h 3 [oe, 0] = SV.h 3 [oe, 0] ∧ True) ∧ (oe = oe ∧ ep = ep ∧ l = l) ∧ (SV.h 5 [qe, 0] = SV.h 5 [qe, 0] ∧ vI fr = vI fr ∧ vI n = vI n ∧
 vB ov = vB ov ∧ True) ∧ (m = m ∧ qe = qe ∧ xs = xs) ∧ ((0 : Nat) = (0 : Nat) ∧ pe + 1 + (1 : Nat) = pe + 2 ∧ LI [] = LI []) ∧ (SV.v (Value.int IntKind.u8 b) = SV.v (Value.int IntKind.u8 b) ∧ True) ∧ True) ∧ ∀ (x : Nat), True → true = true ∧ TA (((),
 (), G, K, Ho, pe + 2), (r, c, false, (), ()), oe, RC.mk l oe ep, (qe, fr, n, ov), OI.mk xs m qe, OI.mk (LI []) (0 : Nat) (pe + 2)) ∧ (SV.t [] = SV.t [] ∧ True) ∧ (SV.p 1 0 = SV.p 1 0 ∧ SV.p 4 0 = SV.p 4 0 ∧ vB G = vB S.G ∧ vB K = vB S.K ∧ vB Ho = vB
 S.Ho ∧ SV.h 6 [pe + 2, 0] = SV.h 6 [S.pe, 0] ∧ True) ∧ (vI (if (0 : Int) ≤ IntKind.i64.wrap (IntKind.i64.wrap ((pl ++ intsOf (List.take (1 : Nat) (List.drop (0 : Nat) (setAll (List.map (fun i => SV.v (Value.int IntKind.u8 (0 : Int)).cells[i % (1 :
 Nat)]!) (List.range (1 : Nat))) (0 : Nat) [SV.v (Value.int IntKind.u8 b)])))).getD (2 : Nat) (0 : Int)) - (32 : Int)) ∧ IntKind.i64.wrap (IntKind.i64.wrap ((pl ++ intsOf (List.take (1 : Nat) (List.drop (0 : Nat) (setAll (List.map (fun i => SV.v
 (Value.int IntKind.u8 (0 : Int)).cells[i % (1 : Nat)]!) (List.range (1 : Nat))) (0 : Nat) [SV.v (Value.int IntKind.u8 b)])))).getD (2 : Nat) (0 : Int)) - (32 : Int)) ≤ (↑l.length : Int) - (1 : Int) then IntKind.i64.wrap (IntKind.i64.wrap ((pl ++
 intsOf (List.take (1 : Nat) (List.drop (0 : Nat) (setAll (List.map (fun i => SV.v (Value.int IntKind.u8 (0 : Int)).cells[i % (1 : Nat)]!) (List.range (1 : Nat))) (0 : Nat) [SV.v (Value.int IntKind.u8 b)])))).getD (2 : Nat) (0 : Int)) - (32 : Int))
 else r) = vI S.r ∧ vI (if (0 : Int) ≤ IntKind.i64.wrap (IntKind.i64.wrap b - (32 : Int)) then if (↑(nC l) : Int) - (1 : Int) < IntKind.i64.wrap (IntKind.i64.wrap b - (32 : Int)) then (↑(nC l) : Int) - (1 : Int) else IntKind.i64.wrap (IntKind.i64.wrap
 b - (32 : Int)) else c) = vI S.c ∧ vB false = vB false ∧ SV.p 2 0 = SV.p 2 0 ∧ True) ∧ (SV.h 3 [oe, 0] = SV.h 3 [oe, 0] ∧ True) ∧ (oe = oe ∧ ep = S.ep ∧ l = S.l) ∧ (SV.h 5 [qe, 0] = SV.h 5 [qe, 0] ∧ vI fr = vI fr ∧ vI n = vI S.n ∧ vB ov = vB S.ov ∧
 True) ∧ (m = m ∧ qe = qe ∧ xs = S.xs) ∧ ((LI []).length = S.pl.length ∧ pe + 2 = S.pe ∧ LI [] = S.pl) ∧ True)))))) (br ((↑(pl.length + (1 : Nat)) : Int) == (3 : Int)) ((SV.t [] = SV.t [] ∧ True) ∧ (SV.p 1 0 = SV.p 1 0 ∧ SV.p 4 0 = SV.p 4 0 ∧ vB G =
 vB S.G ∧ vB K = vB S.K ∧ vB Ho = vB S.Ho ∧ SV.h 6 [pe + 1, 0] = SV.h 6 [S.pe, 0] ∧ True) ∧ (vI r = vI S.r ∧ vI c = vI S.c ∧ vB false = vB false ∧ SV.p 2 0 = SV.p 2 0 ∧ True) ∧ (SV.h 3 [oe, 0] = SV.h 3 [oe, 0] ∧ True) ∧ (oe = oe ∧ ep = S.ep ∧ l = S.l)
 ∧ (SV.h 5 [qe, 0] = SV.h 5 [qe, 0] ∧ vI fr = vI fr ∧ vI n = vI S.n ∧ vB ov = vB S.ov ∧ True) ∧ (m = m ∧ qe = qe ∧ xs = S.xs) ∧ (pl.length + (1 : Nat) = S.pl.length ∧ pe + 1 = S.pe ∧ pl ++ intsOf (List.take (1 : Nat) (List.drop (0 : Nat) (setAll
 (List.map (fun i => SV.v (Value.int IntKind.u8 (0 : Int)).cells[i % (1 : Nat)]!) (List.range (1 : Nat))) (0 : Nat) [SV.v (Value.int IntKind.u8 b)]))) = S.pl) ∧ True) (br ((↑(pl.length + (1 : Nat)) : Int) == (2 : Int)) ((True ∧ (SV.p 0 0 = SV.p 0 0 ∧
 SV.v (Value.int IntKind.u8 b) = SV.v (Value.int IntKind.u8 b) ∧ True) ∧ (SV.p 1 0 = SV.p 1 0 ∧ SV.p 4 0 = SV.p 4 0 ∧ vB G = vB G ∧ vB K = vB K ∧ vB Ho = vB Ho ∧ SV.h 6 [pe + 1 + 1, 0] = SV.h 6 [pe + 2, 0] ∧ True) ∧ (vI r = vI r ∧ vI c = vI c ∧ vB
 false = vB false ∧ SV.p 2 0 = SV.p 2 0 ∧ True) ∧ (SV.h 3 [oe, 0] = SV.h 3 [oe, 0] ∧ True) ∧ (oe = oe ∧ ep = ep ∧ l = l) ∧ (SV.h 5 [qe, 0] = SV.h 5 [qe, 0] ∧ vI fr = vI fr ∧ vI n = vI n ∧ vB ov = vB ov ∧ True) ∧ (m = m ∧ qe = qe ∧ xs = xs) ∧ ((0 :
 Nat) = (0 : Nat) ∧ pe + 1 + (1 : Nat) = pe + 2 ∧ LI [] = LI []) ∧ (SV.v (Value.int IntKind.u8 b) = SV.v (Value.int IntKind.u8 b) ∧ True) ∧ True) ∧ ∀ (x : Nat), True → br ((65 : Int) == b) (true = true ∧ (oe = oe ∧ GW l) ∧ (SV.t [] = SV.t [] ∧ True) ∧
 (SV.p 1 0 = SV.p 1 0 ∧ SV.p 4 0 = SV.p 4 0 ∧ vB G = vB S.G ∧ vB K = vB S.K ∧ vB Ho = vB S.Ho ∧ SV.h 6 [pe + 2, 0] = SV.h 6 [S.pe, 0] ∧ True) ∧ (vI (stI r (-1 : Int) (↑l.length : Int)) = vI S.r ∧ vI (stI c (0 : Int) (↑(nC l) : Int)) = vI S.c ∧ vB
 false = vB false ∧ SV.p 2 0 = SV.p 2 0 ∧ True) ∧ (SV.h 3 [oe, 0] = SV.h 3 [oe, 0] ∧ True) ∧ (oe = oe ∧ ep = S.ep ∧ l = S.l) ∧ (SV.h 5 [qe, 0] = SV.h 5 [qe, 0] ∧ vI fr = vI fr ∧ vI n = vI S.n ∧ vB ov = vB S.ov ∧ True) ∧ (m = m ∧ qe = qe ∧ xs = S.xs) ∧
 ((0 : Nat) = S.pl.length ∧ pe + 2 = S.pe ∧ LI [] = S.pl) ∧ True) (br ((66 : Int) == b) (true = true ∧ (oe = oe ∧ GW l) ∧ (SV.t [] = SV.t [] ∧ True) ∧ (SV.p 1 0 = SV.p 1 0 ∧ SV.p 4 0 = SV.p 4 0 ∧ vB G = vB S.G ∧ vB K = vB S.K ∧ vB Ho = vB S.Ho ∧ SV.h
 6 [pe + 2, 0] = SV.h 6 [S.pe, 0] ∧ True) ∧ (vI (stI r (1 : Int) (↑l.length : Int)) = vI S.r ∧ vI (stI c (0 : Int) (↑(nC l) : Int)) = vI S.c ∧ vB false = vB false ∧ SV.p 2 0 = SV.p 2 0 ∧ True) ∧ (SV.h 3 [oe, 0] = SV.h 3 [oe, 0] ∧ True) ∧ (oe = oe ∧ ep
 = S.ep ∧ l = S.l) ∧ (SV.h 5 [qe, 0] = SV.h 5 [qe, 0] ∧ vI fr = vI fr ∧ vI n = vI S.n ∧ vB ov = vB S.ov ∧ True) ∧ (m = m ∧ qe = qe ∧ xs = S.xs) ∧ ((0 : Nat) = S.pl.length ∧ pe + 2 = S.pe ∧ LI [] = S.pl) ∧ True) (br ((67 : Int) == b) (true = true ∧ (oe
 = oe ∧ GW l) ∧ (SV.t [] = SV.t [] ∧ True) ∧ (SV.p 1 0 = SV.p 1 0 ∧ SV.p 4 0 = SV.p 4 0 ∧ vB G = vB S.G ∧ vB K = vB S.K ∧ vB Ho = vB S.Ho ∧ SV.h 6 [pe + 2, 0] = SV.h 6 [S.pe, 0] ∧ True) ∧ (vI (stI r (0 : Int) (↑l.length : Int)) = vI S.r ∧ vI (stI c (1
 : Int) (↑(nC l) : Int)) = vI S.c ∧ vB false = vB false ∧ SV.p 2 0 = SV.p 2 0 ∧ True) ∧ (SV.h 3 [oe, 0] = SV.h 3 [oe, 0] ∧ True) ∧ (oe = oe ∧ ep = S.ep ∧ l = S.l) ∧ (SV.h 5 [qe, 0] = SV.h 5 [qe, 0] ∧ vI fr = vI fr ∧ vI n = vI S.n ∧ vB ov = vB S.ov ∧
 True) ∧ (m = m ∧ qe = qe ∧ xs = S.xs) ∧ ((0 : Nat) = S.pl.length ∧ pe + 2 = S.pe ∧ LI [] = S.pl) ∧ True) (br ((68 : Int) == b) (true = true ∧ (oe = oe ∧ GW l) ∧ (SV.t [] = SV.t [] ∧ True) ∧ (SV.p 1 0 = SV.p 1 0 ∧ SV.p 4 0 = SV.p 4 0 ∧ vB G = vB S.G ∧
 vB K = vB S.K ∧ vB Ho = vB S.Ho ∧ SV.h 6 [pe + 2, 0] = SV.h 6 [S.pe, 0] ∧ True) ∧ (vI (stI r (0 : Int) (↑l.length : Int)) = vI S.r ∧ vI (stI c (-1 : Int) (↑(nC l) : Int)) = vI S.c ∧ vB false = vB false ∧ SV.p 2 0 = SV.p 2 0 ∧ True) ∧ (SV.h 3 [oe, 0]
 = SV.h 3 [oe, 0] ∧ True) ∧ (oe = oe ∧ ep = S.ep ∧ l = S.l) ∧ (SV.h 5 [qe, 0] = SV.h 5 [qe, 0] ∧ vI fr = vI fr ∧ vI n = vI S.n ∧ vB ov = vB S.ov ∧ True) ∧ (m = m ∧ qe = qe ∧ xs = S.xs) ∧ ((0 : Nat) = S.pl.length ∧ pe + 2 = S.pe ∧ LI [] = S.pl) ∧ True)
 (br ((72 : Int) == b) (true = true ∧ (oe = oe ∧ GW l) ∧ (SV.t [] = SV.t [] ∧ True) ∧ (SV.p 1 0 = SV.p 1 0 ∧ SV.p 4 0 = SV.p 4 0 ∧ vB G = vB S.G ∧ vB K = vB S.K ∧ vB Ho = vB S.Ho ∧ SV.h 6 [pe + 2, 0] = SV.h 6 [S.pe, 0] ∧ True) ∧ (vI (nearI (0 : Int)
 (↑l.length : Int)) = vI S.r ∧ vI (nearI (0 : Int) (↑(nC l) : Int)) = vI S.c ∧ vB false = vB false ∧ SV.p 2 0 = SV.p 2 0 ∧ True) ∧ (SV.h 3 [oe, 0] = SV.h 3 [oe, 0] ∧ True) ∧ (oe = oe ∧ ep = S.ep ∧ l = S.l) ∧ (SV.h 5 [qe, 0] = SV.h 5 [qe, 0] ∧ vI fr =
 vI fr ∧ vI n = vI S.n ∧ vB ov = vB S.ov ∧ True) ∧ (m = m ∧ qe = qe ∧ xs = S.xs) ∧ ((0 : Nat) = S.pl.length ∧ pe + 2 = S.pe ∧ LI [] = S.pl) ∧ True) (br ((73 : Int) == b) (true = true ∧ TA (((), (), G, K, Ho, pe + 2), (r, c, false, (), ()), oe, RC.mk l
 oe ep, (qe, fr, n, ov), OI.mk xs m qe, OI.mk (LI []) (0 : Nat) (pe + 2)) ∧ (SV.t [] = SV.t [] ∧ True) ∧ (SV.p 1 0 = SV.p 1 0 ∧ SV.p 4 0 = SV.p 4 0 ∧ vB G = vB S.G ∧ vB K = vB S.K ∧ vB Ho = vB S.Ho ∧ SV.h 6 [pe + 2, 0] = SV.h 6 [S.pe, 0] ∧ True) ∧ (vI
 (nearI (r - (1 : Int)) (↑l.length : Int)) = vI S.r ∧ vI c = vI S.c ∧ vB false = vB false ∧ SV.p 2 0 = SV.p 2 0 ∧ True) ∧ (SV.h 3 [oe, 0] = SV.h 3 [oe, 0] ∧ True) ∧ (oe = oe ∧ (if r = (0 : Int) then ep + 1 else ep) = S.ep ∧ (if r = (0 : Int) then upF
 l (-1 : Int) blankC else l) = S.l) ∧ (SV.h 5 [qe, 0] = SV.h 5 [qe, 0] ∧ vI fr = vI fr ∧ vI n = vI S.n ∧ vB ov = vB S.ov ∧ True) ∧ (m = m ∧ qe = qe ∧ xs = S.xs) ∧ ((LI []).length = S.pl.length ∧ pe + 2 = S.pe ∧ LI [] = S.pl) ∧ True) (br ((74 : Int) ==
 b) (true = true ∧ TA (((), (), G, K, Ho, pe + 2), (r, c, false, (), ()), oe, RC.mk l oe ep, (qe, fr, n, ov), OI.mk xs m qe, OI.mk (LI []) (0 : Nat) (pe + 2)) ∧ true = true ∧ TA (((), (), G, K, Ho, pe + 2), (r, c, false, (), ()), oe, RC.mk l oe ep,
 (qe, fr, n, ov), OI.mk xs m qe, OI.mk (LI []) (LI []).length (pe + 2)) ∧ true = true ∧ TA (((), (), G, K, Ho, pe + 2), (r, c, false, (), ()), oe, RC.mk l oe ep, (qe, fr, n, ov), OI.mk xs m qe, OI.mk (LI []) (LI []).length (pe + 2)) ∧ (SV.t [] = SV.t
 [] ∧ True) ∧ (SV.p 1 0 = SV.p 1 0 ∧ SV.p 4 0 = SV.p 4 0 ∧ vB G = vB S.G ∧ vB K = vB S.K ∧ vB Ho = vB S.Ho ∧ SV.h 6 [pe + 2, 0] = SV.h 6 [S.pe, 0] ∧ True) ∧ (vI r = vI S.r ∧ vI c = vI S.c ∧ vB false = vB false ∧ SV.p 2 0 = SV.p 2 0 ∧ True) ∧ (SV.h 3
 [oe, 0] = SV.h 3 [oe, 0] ∧ True) ∧ (oe = oe ∧ ep = S.ep ∧ wiL l (nearI r (↑l.length : Int)) (nearI c (↑(nC l) : Int)) (nearI ((↑l.length : Int) - (1 : Int)) (↑l.length : Int)) (nearI ((↑(nC l) : Int) - (1 : Int)) (↑(nC l) : Int)) blankC false = S.l)
 ∧ (SV.h 5 [qe, 0] = SV.h 5 [qe, 0] ∧ vI fr = vI fr ∧ vI n = vI S.n ∧ vB ov = vB S.ov ∧ True) ∧ (m = m ∧ qe = qe ∧ xs = S.xs) ∧ ((LI []).length = S.pl.length ∧ pe + 2 = S.pe ∧ LI [] = S.pl) ∧ True) (br ((75 : Int) == b) (true = true ∧ TA (((), (), G,
 K, Ho, pe + 2), (r, c, false, (), ()), oe, RC.mk l oe ep, (qe, fr, n, ov), OI.mk xs m qe, OI.mk (LI []) (0 : Nat) (pe + 2)) ∧ true = true ∧ TA (((), (), G, K, Ho, pe + 2), (r, c, false, (), ()), oe, RC.mk l oe ep, (qe, fr, n, ov), OI.mk xs m qe,
 OI.mk (LI []) (LI []).length (pe + 2)) ∧ true = true ∧ TA (((), (), G, K, Ho, pe + 2), (r, c, false, (), ()), oe, RC.mk l oe ep, (qe, fr, n, ov), OI.mk xs m qe, OI.mk (LI []) (LI []).length (pe + 2)) ∧ true = true ∧ TA (((), (), G, K, Ho, pe + 2),
 (r, c, false, (), ()), oe, RC.mk l oe ep, (qe, fr, n, ov), OI.mk xs m qe, OI.mk (LI []) (LI []).length (pe + 2)) ∧ (SV.t [] = SV.t [] ∧ True) ∧ (SV.p 1 0 = SV.p 1 0 ∧ SV.p 4 0 = SV.p 4 0 ∧ vB G = vB S.G ∧ vB K = vB S.K ∧ vB Ho = vB S.Ho ∧ SV.h 6 [pe
 + 2, 0] = SV.h 6 [S.pe, 0] ∧ True) ∧ (vI r = vI S.r ∧ vI c = vI S.c ∧ vB false = vB false ∧ SV.p 2 0 = SV.p 2 0 ∧ True) ∧ (SV.h 3 [oe, 0] = SV.h 3 [oe, 0] ∧ True) ∧ (oe = oe ∧ ep = S.ep ∧ wiL l (nearI r (↑l.length : Int)) (nearI c (↑(nC l) : Int))
 (nearI r (↑l.length : Int)) (nearI ((↑(nC l) : Int) - (1 : Int)) (↑(nC l) : Int)) blankC false = S.l) ∧ (SV.h 5 [qe, 0] = SV.h 5 [qe, 0] ∧ vI fr = vI fr ∧ vI n = vI S.n ∧ vB ov = vB S.ov ∧ True) ∧ (m = m ∧ qe = qe ∧ xs = S.xs) ∧ ((LI []).length =
 S.pl.length ∧ pe + 2 = S.pe ∧ LI [] = S.pl) ∧ True) (br ((70 : Int) == b) ((SV.t [] = SV.t [] ∧ True) ∧ (SV.p 1 0 = SV.p 1 0 ∧ SV.p 4 0 = SV.p 4 0 ∧ vB true = vB S.G ∧ vB K = vB S.K ∧ vB Ho = vB S.Ho ∧ SV.h 6 [pe + 2, 0] = SV.h 6 [S.pe, 0] ∧ True) ∧
 (vI r = vI S.r ∧ vI c = vI S.c ∧ vB false = vB false ∧ SV.p 2 0 = SV.p 2 0 ∧ True) ∧ (SV.h 3 [oe, 0] = SV.h 3 [oe, 0] ∧ True) ∧ (oe = oe ∧ ep = S.ep ∧ l = S.l) ∧ (SV.h 5 [qe, 0] = SV.h 5 [qe, 0] ∧ vI fr = vI fr ∧ vI n = vI S.n ∧ vB ov = vB S.ov ∧
 True) ∧ (m = m ∧ qe = qe ∧ xs = S.xs) ∧ ((0 : Nat) = S.pl.length ∧ pe + 2 = S.pe ∧ LI [] = S.pl) ∧ True) (br ((71 : Int) == b) ((SV.t [] = SV.t [] ∧ True) ∧ (SV.p 1 0 = SV.p 1 0 ∧ SV.p 4 0 = SV.p 4 0 ∧ vB false = vB S.G ∧ vB K = vB S.K ∧ vB Ho = vB
 S.Ho ∧ SV.h 6 [pe + 2, 0] = SV.h 6 [S.pe, 0] ∧ True) ∧ (vI r = vI S.r ∧ vI c = vI S.c ∧ vB false = vB false ∧ SV.p 2 0 = SV.p 2 0 ∧ True) ∧ (SV.h 3 [oe, 0] = SV.h 3 [oe, 0] ∧ True) ∧ (oe = oe ∧ ep = S.ep ∧ l = S.l) ∧ (SV.h 5 [qe, 0] = SV.h 5 [qe, 0]
 ∧ vI fr = vI fr ∧ vI n = vI S.n ∧ vB ov = vB S.ov ∧ True) ∧ (m = m ∧ qe = qe ∧ xs = S.xs) ∧ ((0 : Nat) = S.pl.length ∧ pe + 2 = S.pe ∧ LI [] = S.pl) ∧ True) (br ((61 : Int) == b) ((SV.t [] = SV.t [] ∧ True) ∧ (SV.p 1 0 = SV.p 1 0 ∧ SV.p 4 0 = SV.p 4
 0 ∧ vB G = vB S.G ∧ vB true = vB S.K ∧ vB Ho = vB S.Ho ∧ SV.h 6 [pe + 2, 0] = SV.h 6 [S.pe, 0] ∧ True) ∧ (vI r = vI S.r ∧ vI c = vI S.c ∧ vB false = vB false ∧ SV.p 2 0 = SV.p 2 0 ∧ True) ∧ (SV.h 3 [oe, 0] = SV.h 3 [oe, 0] ∧ True) ∧ (oe = oe ∧ ep =
 S.ep ∧ l = S.l) ∧ (SV.h 5 [qe, 0] = SV.h 5 [qe, 0] ∧ vI fr = vI fr ∧ vI n = vI S.n ∧ vB ov = vB S.ov ∧ True) ∧ (m = m ∧ qe = qe ∧ xs = S.xs) ∧ ((0 : Nat) = S.pl.length ∧ pe + 2 = S.pe ∧ LI [] = S.pl) ∧ True) (br ((62 : Int) == b) ((SV.t [] = SV.t []
 ∧ True) ∧ (SV.p 1 0 = SV.p 1 0 ∧ SV.p 4 0 = SV.p 4 0 ∧ vB G = vB S.G ∧ vB false = vB S.K ∧ vB Ho = vB S.Ho ∧ SV.h 6 [pe + 2, 0] = SV.h 6 [S.pe, 0] ∧ True) ∧ (vI r = vI S.r ∧ vI c = vI S.c ∧ vB false = vB false ∧ SV.p 2 0 = SV.p 2 0 ∧ True) ∧ (SV.h 3
 [oe, 0] = SV.h 3 [oe, 0] ∧ True) ∧ (oe = oe ∧ ep = S.ep ∧ l = S.l) ∧ (SV.h 5 [qe, 0] = SV.h 5 [qe, 0] ∧ vI fr = vI fr ∧ vI n = vI S.n ∧ vB ov = vB S.ov ∧ True) ∧ (m = m ∧ qe = qe ∧ xs = S.xs) ∧ ((0 : Nat) = S.pl.length ∧ pe + 2 = S.pe ∧ LI [] = S.pl)
 ∧ True) (br ((91 : Int) == b) ((SV.t [] = SV.t [] ∧ True) ∧ (SV.p 1 0 = SV.p 1 0 ∧ SV.p 4 0 = SV.p 4 0 ∧ vB G = vB S.G ∧ vB K = vB S.K ∧ vB true = vB S.Ho ∧ SV.h 6 [pe + 2, 0] = SV.h 6 [S.pe, 0] ∧ True) ∧ (vI r = vI S.r ∧ vI c = vI S.c ∧ vB false =
 vB false ∧ SV.p 2 0 = SV.p 2 0 ∧ True) ∧ (SV.h 3 [oe, 0] = SV.h 3 [oe, 0] ∧ True) ∧ (oe = oe ∧ ep = S.ep ∧ l = S.l) ∧ (SV.h 5 [qe, 0] = SV.h 5 [qe, 0] ∧ vI fr = vI fr ∧ vI n = vI S.n ∧ vB ov = vB S.ov ∧ True) ∧ (m = m ∧ qe = qe ∧ xs = S.xs) ∧ ((0 :
 Nat) = S.pl.length ∧ pe + 2 = S.pe ∧ LI [] = S.pl) ∧ True) (br ((92 : Int) == b) ((SV.t [] = SV.t [] ∧ True) ∧ (SV.p 1 0 = SV.p 1 0 ∧ SV.p 4 0 = SV.p 4 0 ∧ vB G = vB S.G ∧ vB K = vB S.K ∧ vB false = vB S.Ho ∧ SV.h 6 [pe + 2, 0] = SV.h 6 [S.pe, 0] ∧
 True) ∧ (vI r = vI S.r ∧ vI c = vI S.c ∧ vB false = vB false ∧ SV.p 2 0 = SV.p 2 0 ∧ True) ∧ (SV.h 3 [oe, 0] = SV.h 3 [oe, 0] ∧ True) ∧ (oe = oe ∧ ep = S.ep ∧ l = S.l) ∧ (SV.h 5 [qe, 0] = SV.h 5 [qe, 0] ∧ vI fr = vI fr ∧ vI n = vI S.n ∧ vB ov = vB
 S.ov ∧ True) ∧ (m = m ∧ qe = qe ∧ xs = S.xs) ∧ ((0 : Nat) = S.pl.length ∧ pe + 2 = S.pe ∧ LI [] = S.pl) ∧ True) (br ((90 : Int) == b) (true = true ∧ (qe = qe ∧ QWf fr n xs m ∧ (3 : Nat) ≤ (1099511627776 : Nat)) ∧ br (decide (n + (3 : Int) > (↑m :
 Int))) ((SV.t [] = SV.t [] ∧ True) ∧ (SV.p 1 0 = SV.p 1 0 ∧ SV.p 4 0 = SV.p 4 0 ∧ vB G = vB S.G ∧ vB K = vB S.K ∧ vB Ho = vB S.Ho ∧ SV.h 6 [pe + 2, 0] = SV.h 6 [S.pe, 0] ∧ True) ∧ (vI r = vI S.r ∧ vI c = vI S.c ∧ vB false = vB false ∧ SV.p 2 0 = SV.p
 2 0 ∧ True) ∧ (SV.h 3 [oe, 0] = SV.h 3 [oe, 0] ∧ True) ∧ (oe = oe ∧ ep = S.ep ∧ l = S.l) ∧ (SV.h 5 [qe, 0] = SV.h 5 [qe, 0] ∧ vI fr = vI fr ∧ vI n = vI S.n ∧ vB true = vB S.ov ∧ True) ∧ (m = m ∧ qe = qe ∧ xs = S.xs) ∧ ((0 : Nat) = S.pl.length ∧ pe +
 2 = S.pe ∧ LI [] = S.pl) ∧ True) ((SV.t [] = SV.t [] ∧ True) ∧ (SV.p 1 0 = SV.p 1 0 ∧ SV.p 4 0 = SV.p 4 0 ∧ vB G = vB S.G ∧ vB K = vB S.K ∧ vB Ho = vB S.Ho ∧ SV.h 6 [pe + 2, 0] = SV.h 6 [S.pe, 0] ∧ True) ∧ (vI r = vI S.r ∧ vI c = vI S.c ∧ vB false =
 vB false ∧ SV.p 2 0 = SV.p 2 0 ∧ True) ∧ (SV.h 3 [oe, 0] = SV.h 3 [oe, 0] ∧ True) ∧ (oe = oe ∧ ep = S.ep ∧ l = S.l) ∧ (SV.h 5 [qe, 0] = SV.h 5 [qe, 0] ∧ vI fr = vI fr ∧ vI (n + (3 : Int)) = vI S.n ∧ vB ov = vB S.ov ∧ True) ∧ (m = m ∧ qe = qe ∧ putL m
 xs (fr + n) (LI [(27 : Int), (47 : Int), (75 : Int)]) = S.xs) ∧ ((0 : Nat) = S.pl.length ∧ pe + 2 = S.pe ∧ LI [] = S.pl) ∧ True)) ((SV.t [] = SV.t [] ∧ True) ∧ (SV.p 1 0 = SV.p 1 0 ∧ SV.p 4 0 = SV.p 4 0 ∧ vB G = vB S.G ∧ vB K = vB S.K ∧ vB Ho = vB
 S.Ho ∧ SV.h 6 [pe + 2, 0] = SV.h 6 [S.pe, 0] ∧ True) ∧ (vI r = vI S.r ∧ vI c = vI S.c ∧ vB false = vB false ∧ SV.p 2 0 = SV.p 2 0 ∧ True) ∧ (SV.h 3 [oe, 0] = SV.h 3 [oe, 0] ∧ True) ∧ (oe = oe ∧ ep = S.ep ∧ l = S.l) ∧ (SV.h 5 [qe, 0] = SV.h 5 [qe, 0]
 ∧ vI fr = vI fr ∧ vI n = vI S.n ∧ vB ov = vB S.ov ∧ True) ∧ (m = m ∧ qe = qe ∧ xs = S.xs) ∧ ((0 : Nat) = S.pl.length ∧ pe + 2 = S.pe ∧ LI [] = S.pl) ∧ True)))))))))))))))) (rq ((pe + 1).beq (pe + 1) && (Nat.beq (1 : Nat) (1 : Nat) && decide ((0 :
 Int) ≤ (2 : Int) ∧ (2 : Int) < (↑(pl.length + (1 : Nat)) : Int)))) (rq ((pe + 1).beq (pe + 1) && Nat.blt (2 : Nat) (pl ++ intsOf (List.take (1 : Nat) (List.drop (0 : Nat) (setAll (List.map (fun i => SV.v (Value.int IntKind.u8 (0 : Int)).cells[i % (1
 : Nat)]!) (List.range (1 : Nat))) (0 : Nat) [SV.v (Value.int IntKind.u8 b)])))).length) ((True ∧ (SV.p 0 0 = SV.p 0 0 ∧ SV.v (Value.int IntKind.u8 b) = SV.v (Value.int IntKind.u8 b) ∧ SV.v (Value.int IntKind.u8 ((pl ++ intsOf (List.take (1 : Nat)
 (List.drop (0 : Nat) (setAll (List.map (fun i => SV.v (Value.int IntKind.u8 (0 : Int)).cells[i % (1 : Nat)]!) (List.range (1 : Nat))) (0 : Nat) [SV.v (Value.int IntKind.u8 b)])))).getD (2 : Nat) (0 : Int))) = SV.v (Value.int IntKind.u8 ((pl ++ intsOf
 (List.take (1 : Nat) (List.drop (0 : Nat) (setAll (List.map (fun i => SV.v (Value.int IntKind.u8 (0 : Int)).cells[i % (1 : Nat)]!) (List.range (1 : Nat))) (0 : Nat) [SV.v (Value.int IntKind.u8 b)])))).getD (2 : Nat) (0 : Int))) ∧ True) ∧ (SV.p 1 0 =
 SV.p 1 0 ∧ SV.p 4 0 = SV.p 4 0 ∧ vB G = vB G ∧ vB K = vB K ∧ vB Ho = vB Ho ∧ SV.h 6 [pe + 1 + 1, 0] = SV.h 6 [pe + 2, 0] ∧ True) ∧ (vI r = vI r ∧ vI c = vI c ∧ vB false = vB false ∧ SV.p 2 0 = SV.p 2 0 ∧ True) ∧ (SV.h 3 [oe, 0] = SV.h 3 [oe, 0] ∧
 True) ∧ (oe = oe ∧ ep = ep ∧ l = l) ∧ (SV.h 5 [qe, 0] = SV.h 5 [qe, 0] ∧ vI fr = vI fr ∧ vI n = vI n ∧ vB ov = vB ov ∧ True) ∧ (m = m ∧ qe = qe ∧ xs = xs) ∧ ((0 : Nat) = (0 : Nat) ∧ pe + 1 + (1 : Nat) = pe + 2 ∧ LI [] = LI []) ∧ (SV.v (Value.int
 IntKind.u8 b) = SV.v (Value.int IntKind.u8 b) ∧ True) ∧ True) ∧ ∀ (x : Nat), True → true = true ∧ TA (((), (), G, K, Ho, pe + 2), (r, c, false, (), ()), oe, RC.mk l oe ep, (qe, fr, n, ov), OI.mk xs m qe, OI.mk (LI []) (0 : Nat) (pe + 2)) ∧ (SV.t [] =
 SV.t [] ∧ True) ∧ (SV.p 1 0 = SV.p 1 0 ∧ SV.p 4 0 = SV.p 4 0 ∧ vB G = vB S.G ∧ vB K = vB S.K ∧ vB Ho = vB S.Ho ∧ SV.h 6 [pe + 2, 0] = SV.h 6 [S.pe, 0] ∧ True) ∧ (vI (if (0 : Int) ≤ IntKind.i64.wrap (IntKind.i64.wrap ((pl ++ intsOf (List.take (1 :
 Nat) (List.drop (0 : Nat) (setAll (List.map (fun i => SV.v (Value.int IntKind.u8 (0 : Int)).cells[i % (1 : Nat)]!) (List.range (1 : Nat))) (0 : Nat) [SV.v (Value.int IntKind.u8 b)])))).getD (2 : Nat) (0 : Int)) - (32 : Int)) ∧ IntKind.i64.wrap
 (IntKind.i64.wrap ((pl ++ intsOf (List.take (1 : Nat) (List.drop (0 : Nat) (setAll (List.map (fun i => SV.v (Value.int IntKind.u8 (0 : Int)).cells[i % (1 : Nat)]!) (List.range (1 : Nat))) (0 : Nat) [SV.v (Value.int IntKind.u8 b)])))).getD (2 : Nat)
 (0 : Int)) - (32 : Int)) ≤ (↑l.length : Int) - (1 : Int) then IntKind.i64.wrap (IntKind.i64.wrap ((pl ++ intsOf (List.take (1 : Nat) (List.drop (0 : Nat) (setAll (List.map (fun i => SV.v (Value.int IntKind.u8 (0 : Int)).cells[i % (1 : Nat)]!)
 (List.range (1 : Nat))) (0 : Nat) [SV.v (Value.int IntKind.u8 b)])))).getD (2 : Nat) (0 : Int)) - (32 : Int)) else r) = vI S.r ∧ vI (if (0 : Int) ≤ IntKind.i64.wrap (IntKind.i64.wrap b - (32 : Int)) then if (↑(nC l) : Int) - (1 : Int) <
 IntKind.i64.wrap (IntKind.i64.wrap b - (32 : Int)) then (↑(nC l) : Int) - (1 : Int) else IntKind.i64.wrap (IntKind.i64.wrap b - (32 : Int)) else c) = vI S.c ∧ vB false = vB false ∧ SV.p 2 0 = SV.p 2 0 ∧ True) ∧ (SV.h 3 [oe, 0] = SV.h 3 [oe, 0] ∧
 True) ∧ (oe = oe ∧ ep = S.ep ∧ l = S.l) ∧ (SV.h 5 [qe, 0] = SV.h 5 [qe, 0] ∧ vI fr = vI fr ∧ vI n = vI S.n ∧ vB ov = vB S.ov ∧ True) ∧ (m = m ∧ qe = qe ∧ xs = S.xs) ∧ ((LI []).length = S.pl.length ∧ pe + 2 = S.pe ∧ LI [] = S.pl) ∧ True)))))))) (sqX
 ((u1, u2, G, K, Ho, pe), (r, c, false, u3, u4), oe, RC.mk l oe ep, (qe, fr, n, ov), OI.mk xs m qe, OI.mk pl pl.length pe) b))) (by kernel_rfl) ?_
  clear hp hφ
  obtain ⟨hg, r0, r1, c0, c1, hq, hl, hb⟩ := id hI
  simp only [tmS] at hg r0 r1 c0 c1 hq hl hb hl1
  have hT : TA (((), (), G, K, Ho, pe + 2), (r, c, false, (), ()), oe, RC.mk l oe ep, (qe, fr, n, ov), OI.mk xs m qe, OI.mk [] 0 (pe + 2)) := ⟨rfl, rfl, rfl, rfl, rfl, hg, r0, r1, c0, c1, hq, by simp, fun x hx => by simp at hx⟩
  have n1 : nearI r l.length = r := near_in r0 r1
  have n2 : nearI c (nC l) = c := near_in c0 c1
  have s1 : stI r (-1) l.length = nearI (r + -1) l.length := st_in r0 r1 (by omega) (by omega)
  have s2 : stI r 1 l.length = nearI (r + 1) l.length := st_in r0 r1 (by omega) (by omega)
  have s3 : stI r 0 l.length = r := by rw [st_in r0 r1 (by omega) (by omega), Int.add_zero, n1]
  have s4 : stI c 0 (nC l) = c := by rw [st_in c0 c1 (by omega) (by omega), Int.add_zero, n2]
  have s5 : stI c 1 (nC l) = nearI (c + 1) (nC l) := st_in c0 c1 (by omega) (by omega)
  have s6 : stI c (-1) (nC l) = nearI (c + -1) (nC l) := st_in c0 c1 (by omega) (by omega)
  match pl, hl1, hl, hb, hI with
  | [], hl1, _, _, _ => simp at hl1
  | [x], _, _, hb, hI =>
    have kk : ∀ z : Int, intsOf (List.take 1 (setAll [SV.v (Value.int IntKind.u8 0).cells[0]!] 0 [SV.v (Value.int IntKind.u8 z)])) = [z] := fun _ => rfl
    by_cases h89 : b = 89
    · subst h89
      simp [br_iff, rq_iff, nbeq, sqX, sqT, twoT, tmS, trM, trF, hg, hT, n1, n2, s1, s2, s3, s4, s5, s6, stT, moT, zT, kk]
    by_cases h65 : b = 65
    · subst h65
      simp [br_iff, rq_iff, nbeq, sqX, sqT, twoT, tmS, trM, trF, hg, hT, n1, n2, s1, s2, s3, s4, s5, s6, stT, moT, zT, wpT, ixT, kk]
    by_cases h66 : b = 66
    · subst h66
      simp [br_iff, rq_iff, nbeq, sqX, sqT, twoT, tmS, trM, trF, hg, hT, n1, n2, s1, s2, s3, s4, s5, s6, stT, moT, zT, wpT, ixT, kk]
    by_cases h67 : b = 67
    · subst h67
      simp [br_iff, rq_iff, nbeq, sqX, sqT, twoT, tmS, trM, trF, hg, hT, n1, n2, s1, s2, s3, s4, s5, s6, stT, moT, zT, wpT, ixT, kk]
    by_cases h68 : b = 68
    · subst h68
      simp [br_iff, rq_iff, nbeq, sqX, sqT, twoT, tmS, trM, trF, hg, hT, n1, n2, s1, s2, s3, s4, s5, s6, stT, moT, zT, wpT, ixT, kk]
    by_cases h72 : b = 72
    · subst h72
      simp [br_iff, rq_iff, nbeq, sqX, sqT, twoT, tmS, trM, trF, hg, hT, n1, n2, s1, s2, s3, s4, s5, s6, stT, moT, zT, wpT, ixT, kk]
    by_cases h73 : b = 73
    · subst h73
      by_cases hr : r = 0
      · subst hr
        simp [br_iff, rq_iff, nbeq, sqX, sqT, twoT, tmS, trM, trF, hg, hT, n1, n2, s1, s2, s3, s4, s5, s6, stT, moT, zT, wpT, ixT, kk]
      · simp [br_iff, rq_iff, nbeq, sqX, sqT, twoT, tmS, trM, trF, hg, hT, n1, n2, s1, s2, s3, s4, s5, s6, stT, moT, zT, wpT, ixT, kk, hr]
    by_cases h74 : b = 74
    · subst h74
      simp [br_iff, rq_iff, nbeq, sqX, sqT, twoT, tmS, trM, trF, hg, hT, n1, n2, s1, s2, s3, s4, s5, s6, stT, moT, zT, wpT, ixT, kk]
    by_cases h75 : b = 75
    · subst h75
      simp [br_iff, rq_iff, nbeq, sqX, sqT, twoT, tmS, trM, trF, hg, hT, n1, n2, s1, s2, s3, s4, s5, s6, stT, moT, zT, wpT, ixT, kk]
    by_cases h70 : b = 70
    · subst h70
      simp [br_iff, rq_iff, nbeq, sqX, sqT, twoT, tmS, trM, trF, hg, hT, n1, n2, s1, s2, s3, s4, s5, s6, stT, moT, zT, wpT, ixT, kk]
    by_cases h71 : b = 71
    · subst h71
      simp [br_iff, rq_iff, nbeq, sqX, sqT, twoT, tmS, trM, trF, hg, hT, n1, n2, s1, s2, s3, s4, s5, s6, stT, moT, zT, wpT, ixT, kk]
    by_cases h61 : b = 61
    · subst h61
      simp [br_iff, rq_iff, nbeq, sqX, sqT, twoT, tmS, trM, trF, hg, hT, n1, n2, s1, s2, s3, s4, s5, s6, stT, moT, zT, wpT, ixT, kk]
    by_cases h62 : b = 62
    · subst h62
      simp [br_iff, rq_iff, nbeq, sqX, sqT, twoT, tmS, trM, trF, hg, hT, n1, n2, s1, s2, s3, s4, s5, s6, stT, moT, zT, wpT, ixT, kk]
    by_cases h91 : b = 91
    · subst h91
      simp [br_iff, rq_iff, nbeq, sqX, sqT, twoT, tmS, trM, trF, hg, hT, n1, n2, s1, s2, s3, s4, s5, s6, stT, moT, zT, wpT, ixT, kk]
    by_cases h92 : b = 92
    · subst h92
      simp [br_iff, rq_iff, nbeq, sqX, sqT, twoT, tmS, trM, trF, hg, hT, n1, n2, s1, s2, s3, s4, s5, s6, stT, moT, zT, wpT, ixT, kk]
    by_cases h90 : b = 90
    · subst h90
      simp [br_iff, rq_iff, nbeq, sqX, sqT, twoT, tmS, trM, trF, hg, hT, n1, n2, s1, s2, s3, s4, s5, s6, stT, moT, zT, wpT, ixT, kk]
      refine ⟨hq, fun hz => ?_, fun hz => ?_⟩
      · simp [hz]
      · simp [show ¬ (m : Int) < n + 3 by omega]
    have q : ∀ v : Int, b ≠ v → v ≠ b := fun v h e => h e.symm
    simp [br_iff, rq_iff, nbeq, sqX, sqT, twoT, tmS, trM, trF, hg, hT, n1, n2, s1, s2, s3, s4, s5, s6, stT, moT, zT, kk, h89, h65, q _ h65, h66, q _ h66, h67, q _ h67, h68, q _ h68, h72, q _ h72, h73, q _ h73, h74, q _ h74, h75, q _ h75, h70, q _ h70, h71, q _ h71, h61, q _ h61, h62, q _ h62, h91, q _ h91, h92, q _ h92, h90, q _ h90]
  | [x, y], _, _, hb, hI => simp [br_iff, rq_iff, nbeq, sqX, sqT, tmS, trM, trF]; rfl
  | [x, y, z], _, _, hb, hI =>
    have hz := hb z (by simp)
    have w1 : IntKind.i64.wrap z = z := wrap64 (by omega) (by omega)
    have w2 : IntKind.i64.wrap (z - 32) = z - 32 := wrap64 (by omega) (by omega)
    have w3 : IntKind.i64.wrap b = b := wrap64 (by omega) (by omega)
    have w4 : IntKind.i64.wrap (b - 32) = b - 32 := wrap64 (by omega) (by omega)
    simp [br_iff, rq_iff, nbeq, sqX, sqT, twoT, tmS, trM, trF, hg, hT, n1, n2, s1, s2, s3, s4, s5, s6, stT, moT, zT, w1, w2, w3, w4, plT]
    by_cases h5 : 32 ≤ b <;> by_cases h6 : (nC l : Int) - 1 < b - 32 <;> simp [h5, h6]
  | x :: y :: z :: w :: q, _, hl, _, _ => simp at hl
end Go.Proofs.YtcbjgpkbfmmdpaaGreatDoor
namespace Go.Sym
open Go
def shK (k : IntKind) (n : Int) : Sh Unit where
  enc _ := .v (.int k n)
  dec x := match x with
    | .v (.int k' m) => match decide (k' = k) && decide (m = n) with
      | true => some ()
      | false => none
    | _ => none
  ok x a h := by
    split at h
    · split at h
      · rename_i hT
        simp only [Bool.and_eq_true, decide_eq_true_eq] at hT
        obtain ⟨rfl, rfl⟩ := hT
        rfl
      · cases h
    · cases h
def shFn (g : Nat) : Sh Unit where
  enc _ := .v (.func (.func g) #[] #[])
  dec x := match x with
    | .v (.func (.func g') a c) => match Nat.beq g' g with
      | true => match a.toList with
        | [] => match c.toList with
          | [] => some ()
          | _ => none
        | _ => none
      | false => none
    | _ => none
  ok x a h := by
    split at h
    · split at h
      · rename_i hg
        rw [Nat.beq_eq] at hg
        subst hg
        split at h
        · rename_i ha
          split at h
          · rename_i hc
            have ha' := Array.toList_eq_nil_iff.1 ha
            have hc' := Array.toList_eq_nil_iff.1 hc
            subst ha'; subst hc'
            rfl
          · cases h
        · cases h
      · cases h
    · cases h
end Go.Sym
namespace Go.Proofs.YtcbjgpkbfmmdpaaGreatDoor
open Go Go.Sym
def ctrlB : ShB (Unit × Unit × Unit × Unit × Unit × Unit × Unit × Unit) := shCells (shCons (shK .u8 8) (shCons (shFn 45) (shCons (shK .u8 9) (shCons (shFn 47) (shCons (shK .u8 10) (shCons (shFn 48) (shCons (shK .u8 13) (shOne (shFn 50))))))))) 103
def ctrlI : SB Unit := .cells [.v (.int .u8 8), .v (.func (.func 45) #[] #[]), .v (.int .u8 9), .v (.func (.func 47) #[] #[]), .v (.int .u8 10), .v (.func (.func 48) #[] #[]), .v (.int .u8 13), .v (.func (.func 50) #[] #[])] 103
def lcCtl : ACon Unit := mkLC (decP shNil shHNil) fun _ => .one (.s 0 0 4 4) [ctrlI] []
set_option maxHeartbeats 4000000 in
theorem ok_ctl : ∀ I : Sym.Inv Unit, LCOk I Tryz.prog 26 lcCtl := by
  refine lc_mk (fun _ => allCfg Tryz.prog [] [] 0) (fun _ _ => allCfg_ok mixed trivial trivial) (fun _ => rfl) (n := 60) Tryz.func26 ?_
  intro ⟨u0, u1⟩ hφ
  refine kcast (B := ((SV.s (0 : Nat) (0 : Nat) (4 : Nat) (4 : Nat) = SV.s (0 : Nat) (0 : Nat) (4 : Nat) (4 : Nat) ∧ True) ∧ (SV.v (Value.int IntKind.u8 (8 : Int)) = SV.v (Value.int IntKind.u8 (8 : Int)) ∧ SV.v (Value.func (Fn.func (45 : Nat)) #[] #[]) = SV.v (Value.func
 (Fn.func (45 : Nat)) #[] #[]) ∧ SV.v (Value.int IntKind.u8 (9 : Int)) = SV.v (Value.int IntKind.u8 (9 : Int)) ∧ SV.v (Value.func (Fn.func (47 : Nat)) #[] #[]) = SV.v (Value.func (Fn.func (47 : Nat)) #[] #[]) ∧ SV.v (Value.int IntKind.u8 (10 : Int)) =
 SV.v (Value.int IntKind.u8 (10 : Int)) ∧ SV.v (Value.func (Fn.func (48 : Nat)) #[] #[]) = SV.v (Value.func (Fn.func (48 : Nat)) #[] #[]) ∧ SV.v (Value.int IntKind.u8 (13 : Int)) = SV.v (Value.int IntKind.u8 (13 : Int)) ∧ SV.v (Value.func (Fn.func (50
 : Nat)) #[] #[]) = SV.v (Value.func (Fn.func (50 : Nat)) #[] #[]) ∧ True) ∧ True)) (by kernel_rfl) ?_
  simp
def ctT (s : Tm) (b : Int) : Tm := if b = 8 then stT s 0 (-1) else if b = 9 then taT s else if b = 10 then fdT s else if b = 13 then moT s s.r 0 else s
def ctX (x : TR) (b : Int) : Tm := ctT (tmS x) b
def lcPlay4 : ACon Unit := mkLC (decP (shCons (shBlk 0 4) (shCons (shP 1) (shOne (shInt .u8)))) (shHCons ctrlB (shTm 1))) fun ((_, _, b), (_, x)) => .ask (TA x ∧ 0 ≤ b ∧ b ≤ 255) (.one (.t []) (ctrlI :: tmE 1 x (ctX x b)) [2, 4])
set_option maxHeartbeats 4000000 in
theorem ok_play4 : ∀ I : Sym.Inv Unit, LCOk I Tryz.prog 27 lcPlay4 := by
  refine lc_mk (fun _ => allCfg Tryz.prog purT tabU12 6) (fun _ _ => allCfg_ok mixed purT_ok tabU12_ok) (fun _ => rfl) (n := 90) Tryz.func27 ?_
  intro ⟨⟨t0, t1, b⟩, ⟨v0, v1, v2, v3, v4, v5, v6, v7⟩, ⟨u1, u2, G, K, Ho, pe⟩, ⟨r, c, p, u3, u4⟩, oe, ⟨l, oe2, ep⟩, ⟨qe, fr, n, ov⟩, ⟨xs, m, qe2⟩, ⟨pl, pn, pe2⟩⟩ hφ
  obtain ⟨⟨⟨rfl, rfl, rfl, rfl, rfl, hI⟩, hb0, hb1⟩, hp⟩ := id hφ
  refine kcast (B := (br ((8 : Int) == b) (true = true ∧ (oe = oe ∧ GW l) ∧ (SV.t [] = SV.t [] ∧ True) ∧ (SV.v (Value.int IntKind.u8 (8 : Int)) = SV.v (Value.int IntKind.u8 (8 : Int)) ∧ SV.v (Value.func (Fn.func (45 : Nat)) #[] #[]) = SV.v (Value.func (Fn.func (45 :
 Nat)) #[] #[]) ∧ SV.v (Value.int IntKind.u8 (9 : Int)) = SV.v (Value.int IntKind.u8 (9 : Int)) ∧ SV.v (Value.func (Fn.func (47 : Nat)) #[] #[]) = SV.v (Value.func (Fn.func (47 : Nat)) #[] #[]) ∧ SV.v (Value.int IntKind.u8 (10 : Int)) = SV.v
 (Value.int IntKind.u8 (10 : Int)) ∧ SV.v (Value.func (Fn.func (48 : Nat)) #[] #[]) = SV.v (Value.func (Fn.func (48 : Nat)) #[] #[]) ∧ SV.v (Value.int IntKind.u8 (13 : Int)) = SV.v (Value.int IntKind.u8 (13 : Int)) ∧ SV.v (Value.func (Fn.func (50 :
 Nat)) #[] #[]) = SV.v (Value.func (Fn.func (50 : Nat)) #[] #[]) ∧ True) ∧ (SV.p 2 0 = SV.p 2 0 ∧ SV.p 5 0 = SV.p 5 0 ∧ vB G = vB (ctX ((u1, u2, G, K, Ho, pe), (r, c, false, u3, u4), oe, RC.mk l oe ep, (qe, fr, n, ov), OI.mk xs m qe, OI.mk pl
 pl.length pe) b).G ∧ vB K = vB (ctX ((u1, u2, G, K, Ho, pe), (r, c, false, u3, u4), oe, RC.mk l oe ep, (qe, fr, n, ov), OI.mk xs m qe, OI.mk pl pl.length pe) b).K ∧ vB Ho = vB (ctX ((u1, u2, G, K, Ho, pe), (r, c, false, u3, u4), oe, RC.mk l oe ep,
 (qe, fr, n, ov), OI.mk xs m qe, OI.mk pl pl.length pe) b).Ho ∧ SV.h 7 [pe, 0] = SV.h 7 [(ctX ((u1, u2, G, K, Ho, pe), (r, c, false, u3, u4), oe, RC.mk l oe ep, (qe, fr, n, ov), OI.mk xs m qe, OI.mk pl pl.length pe) b).pe, 0] ∧ True) ∧ (vI (stI r (0 :
 Int) (↑l.length : Int)) = vI (ctX ((u1, u2, G, K, Ho, pe), (r, c, false, u3, u4), oe, RC.mk l oe ep, (qe, fr, n, ov), OI.mk xs m qe, OI.mk pl pl.length pe) b).r ∧ vI (stI c (-1 : Int) (↑(nC l) : Int)) = vI (ctX ((u1, u2, G, K, Ho, pe), (r, c, false,
 u3, u4), oe, RC.mk l oe ep, (qe, fr, n, ov), OI.mk xs m qe, OI.mk pl pl.length pe) b).c ∧ vB false = vB false ∧ SV.p 3 0 = SV.p 3 0 ∧ True) ∧ (SV.h 4 [oe, 0] = SV.h 4 [oe, 0] ∧ True) ∧ (oe = oe ∧ ep = (ctX ((u1, u2, G, K, Ho, pe), (r, c, false, u3,
 u4), oe, RC.mk l oe ep, (qe, fr, n, ov), OI.mk xs m qe, OI.mk pl pl.length pe) b).ep ∧ l = (ctX ((u1, u2, G, K, Ho, pe), (r, c, false, u3, u4), oe, RC.mk l oe ep, (qe, fr, n, ov), OI.mk xs m qe, OI.mk pl pl.length pe) b).l) ∧ (SV.h 6 [qe, 0] = SV.h 6
 [qe, 0] ∧ vI fr = vI fr ∧ vI n = vI (ctX ((u1, u2, G, K, Ho, pe), (r, c, false, u3, u4), oe, RC.mk l oe ep, (qe, fr, n, ov), OI.mk xs m qe, OI.mk pl pl.length pe) b).n ∧ vB ov = vB (ctX ((u1, u2, G, K, Ho, pe), (r, c, false, u3, u4), oe, RC.mk l oe
 ep, (qe, fr, n, ov), OI.mk xs m qe, OI.mk pl pl.length pe) b).ov ∧ True) ∧ (m = m ∧ qe = qe ∧ xs = (ctX ((u1, u2, G, K, Ho, pe), (r, c, false, u3, u4), oe, RC.mk l oe ep, (qe, fr, n, ov), OI.mk xs m qe, OI.mk pl pl.length pe) b).xs) ∧ (pl.length =
 (ctX ((u1, u2, G, K, Ho, pe), (r, c, false, u3, u4), oe, RC.mk l oe ep, (qe, fr, n, ov), OI.mk xs m qe, OI.mk pl pl.length pe) b).pl.length ∧ pe = (ctX ((u1, u2, G, K, Ho, pe), (r, c, false, u3, u4), oe, RC.mk l oe ep, (qe, fr, n, ov), OI.mk xs m qe,
 OI.mk pl pl.length pe) b).pe ∧ pl = (ctX ((u1, u2, G, K, Ho, pe), (r, c, false, u3, u4), oe, RC.mk l oe ep, (qe, fr, n, ov), OI.mk xs m qe, OI.mk pl pl.length pe) b).pl) ∧ True) (br ((9 : Int) == b) (true = true ∧ TA (((), (), G, K, Ho, pe), (r, c,
 false, (), ()), oe, RC.mk l oe ep, (qe, fr, n, ov), OI.mk xs m qe, OI.mk pl pl.length pe) ∧ (SV.t [] = SV.t [] ∧ True) ∧ (SV.v (Value.int IntKind.u8 (8 : Int)) = SV.v (Value.int IntKind.u8 (8 : Int)) ∧ SV.v (Value.func (Fn.func (45 : Nat)) #[] #[]) =
 SV.v (Value.func (Fn.func (45 : Nat)) #[] #[]) ∧ SV.v (Value.int IntKind.u8 (9 : Int)) = SV.v (Value.int IntKind.u8 (9 : Int)) ∧ SV.v (Value.func (Fn.func (47 : Nat)) #[] #[]) = SV.v (Value.func (Fn.func (47 : Nat)) #[] #[]) ∧ SV.v (Value.int
 IntKind.u8 (10 : Int)) = SV.v (Value.int IntKind.u8 (10 : Int)) ∧ SV.v (Value.func (Fn.func (48 : Nat)) #[] #[]) = SV.v (Value.func (Fn.func (48 : Nat)) #[] #[]) ∧ SV.v (Value.int IntKind.u8 (13 : Int)) = SV.v (Value.int IntKind.u8 (13 : Int)) ∧ SV.v
 (Value.func (Fn.func (50 : Nat)) #[] #[]) = SV.v (Value.func (Fn.func (50 : Nat)) #[] #[]) ∧ True) ∧ (SV.p 2 0 = SV.p 2 0 ∧ SV.p 5 0 = SV.p 5 0 ∧ vB G = vB (ctX ((u1, u2, G, K, Ho, pe), (r, c, false, u3, u4), oe, RC.mk l oe ep, (qe, fr, n, ov), OI.mk
 xs m qe, OI.mk pl pl.length pe) b).G ∧ vB K = vB (ctX ((u1, u2, G, K, Ho, pe), (r, c, false, u3, u4), oe, RC.mk l oe ep, (qe, fr, n, ov), OI.mk xs m qe, OI.mk pl pl.length pe) b).K ∧ vB Ho = vB (ctX ((u1, u2, G, K, Ho, pe), (r, c, false, u3, u4), oe,
 RC.mk l oe ep, (qe, fr, n, ov), OI.mk xs m qe, OI.mk pl pl.length pe) b).Ho ∧ SV.h 7 [pe, 0] = SV.h 7 [(ctX ((u1, u2, G, K, Ho, pe), (r, c, false, u3, u4), oe, RC.mk l oe ep, (qe, fr, n, ov), OI.mk xs m qe, OI.mk pl pl.length pe) b).pe, 0] ∧ True) ∧
 (vI r = vI (ctX ((u1, u2, G, K, Ho, pe), (r, c, false, u3, u4), oe, RC.mk l oe ep, (qe, fr, n, ov), OI.mk xs m qe, OI.mk pl pl.length pe) b).r ∧ vI (nearI (if c - c % (8 : Int) + (8 : Int) > (↑(nC l) : Int) - (1 : Int) then c + (1 : Int) else c - c %
 (8 : Int) + (8 : Int)) (↑(nC l) : Int)) = vI (ctX ((u1, u2, G, K, Ho, pe), (r, c, false, u3, u4), oe, RC.mk l oe ep, (qe, fr, n, ov), OI.mk xs m qe, OI.mk pl pl.length pe) b).c ∧ vB false = vB false ∧ SV.p 3 0 = SV.p 3 0 ∧ True) ∧ (SV.h 4 [oe, 0] =
 SV.h 4 [oe, 0] ∧ True) ∧ (oe = oe ∧ ep = (ctX ((u1, u2, G, K, Ho, pe), (r, c, false, u3, u4), oe, RC.mk l oe ep, (qe, fr, n, ov), OI.mk xs m qe, OI.mk pl pl.length pe) b).ep ∧ l = (ctX ((u1, u2, G, K, Ho, pe), (r, c, false, u3, u4), oe, RC.mk l oe
 ep, (qe, fr, n, ov), OI.mk xs m qe, OI.mk pl pl.length pe) b).l) ∧ (SV.h 6 [qe, 0] = SV.h 6 [qe, 0] ∧ vI fr = vI fr ∧ vI n = vI (ctX ((u1, u2, G, K, Ho, pe), (r, c, false, u3, u4), oe, RC.mk l oe ep, (qe, fr, n, ov), OI.mk xs m qe, OI.mk pl pl.length
 pe) b).n ∧ vB ov = vB (ctX ((u1, u2, G, K, Ho, pe), (r, c, false, u3, u4), oe, RC.mk l oe ep, (qe, fr, n, ov), OI.mk xs m qe, OI.mk pl pl.length pe) b).ov ∧ True) ∧ (m = m ∧ qe = qe ∧ xs = (ctX ((u1, u2, G, K, Ho, pe), (r, c, false, u3, u4), oe,
 RC.mk l oe ep, (qe, fr, n, ov), OI.mk xs m qe, OI.mk pl pl.length pe) b).xs) ∧ (pl.length = (ctX ((u1, u2, G, K, Ho, pe), (r, c, false, u3, u4), oe, RC.mk l oe ep, (qe, fr, n, ov), OI.mk xs m qe, OI.mk pl pl.length pe) b).pl.length ∧ pe = (ctX ((u1,
 u2, G, K, Ho, pe), (r, c, false, u3, u4), oe, RC.mk l oe ep, (qe, fr, n, ov), OI.mk xs m qe, OI.mk pl pl.length pe) b).pe ∧ pl = (ctX ((u1, u2, G, K, Ho, pe), (r, c, false, u3, u4), oe, RC.mk l oe ep, (qe, fr, n, ov), OI.mk xs m qe, OI.mk pl
 pl.length pe) b).pl) ∧ True) (br ((10 : Int) == b) (true = true ∧ (oe = oe ∧ GW l ∧ (0 : Int) ≤ r ∧ r < (255 : Int)) ∧ (SV.t [] = SV.t [] ∧ True) ∧ (SV.v (Value.int IntKind.u8 (8 : Int)) = SV.v (Value.int IntKind.u8 (8 : Int)) ∧ SV.v (Value.func
 (Fn.func (45 : Nat)) #[] #[]) = SV.v (Value.func (Fn.func (45 : Nat)) #[] #[]) ∧ SV.v (Value.int IntKind.u8 (9 : Int)) = SV.v (Value.int IntKind.u8 (9 : Int)) ∧ SV.v (Value.func (Fn.func (47 : Nat)) #[] #[]) = SV.v (Value.func (Fn.func (47 : Nat))
 #[] #[]) ∧ SV.v (Value.int IntKind.u8 (10 : Int)) = SV.v (Value.int IntKind.u8 (10 : Int)) ∧ SV.v (Value.func (Fn.func (48 : Nat)) #[] #[]) = SV.v (Value.func (Fn.func (48 : Nat)) #[] #[]) ∧ SV.v (Value.int IntKind.u8 (13 : Int)) = SV.v (Value.int
 IntKind.u8 (13 : Int)) ∧ SV.v (Value.func (Fn.func (50 : Nat)) #[] #[]) = SV.v (Value.func (Fn.func (50 : Nat)) #[] #[]) ∧ True) ∧ (SV.p 2 0 = SV.p 2 0 ∧ SV.p 5 0 = SV.p 5 0 ∧ vB G = vB (ctX ((u1, u2, G, K, Ho, pe), (r, c, false, u3, u4), oe, RC.mk l
 oe ep, (qe, fr, n, ov), OI.mk xs m qe, OI.mk pl pl.length pe) b).G ∧ vB K = vB (ctX ((u1, u2, G, K, Ho, pe), (r, c, false, u3, u4), oe, RC.mk l oe ep, (qe, fr, n, ov), OI.mk xs m qe, OI.mk pl pl.length pe) b).K ∧ vB Ho = vB (ctX ((u1, u2, G, K, Ho,
 pe), (r, c, false, u3, u4), oe, RC.mk l oe ep, (qe, fr, n, ov), OI.mk xs m qe, OI.mk pl pl.length pe) b).Ho ∧ SV.h 7 [pe, 0] = SV.h 7 [(ctX ((u1, u2, G, K, Ho, pe), (r, c, false, u3, u4), oe, RC.mk l oe ep, (qe, fr, n, ov), OI.mk xs m qe, OI.mk pl
 pl.length pe) b).pe, 0] ∧ True) ∧ (vI (stI r (1 : Int) (↑l.length : Int)) = vI (ctX ((u1, u2, G, K, Ho, pe), (r, c, false, u3, u4), oe, RC.mk l oe ep, (qe, fr, n, ov), OI.mk xs m qe, OI.mk pl pl.length pe) b).r ∧ vI (stI c (0 : Int) (↑(nC l) : Int))
 = vI (ctX ((u1, u2, G, K, Ho, pe), (r, c, false, u3, u4), oe, RC.mk l oe ep, (qe, fr, n, ov), OI.mk xs m qe, OI.mk pl pl.length pe) b).c ∧ vB false = vB false ∧ SV.p 3 0 = SV.p 3 0 ∧ True) ∧ (SV.h 4 [oe, 0] = SV.h 4 [oe, 0] ∧ True) ∧ (oe = oe ∧ ep +
 1 = (ctX ((u1, u2, G, K, Ho, pe), (r, c, false, u3, u4), oe, RC.mk l oe ep, (qe, fr, n, ov), OI.mk xs m qe, OI.mk pl pl.length pe) b).ep ∧ upF l (feN r (1 : Int) (↑l.length : Int)) blankC = (ctX ((u1, u2, G, K, Ho, pe), (r, c, false, u3, u4), oe,
 RC.mk l oe ep, (qe, fr, n, ov), OI.mk xs m qe, OI.mk pl pl.length pe) b).l) ∧ (SV.h 6 [qe, 0] = SV.h 6 [qe, 0] ∧ vI fr = vI fr ∧ vI n = vI (ctX ((u1, u2, G, K, Ho, pe), (r, c, false, u3, u4), oe, RC.mk l oe ep, (qe, fr, n, ov), OI.mk xs m qe, OI.mk
 pl pl.length pe) b).n ∧ vB ov = vB (ctX ((u1, u2, G, K, Ho, pe), (r, c, false, u3, u4), oe, RC.mk l oe ep, (qe, fr, n, ov), OI.mk xs m qe, OI.mk pl pl.length pe) b).ov ∧ True) ∧ (m = m ∧ qe = qe ∧ xs = (ctX ((u1, u2, G, K, Ho, pe), (r, c, false, u3,
 u4), oe, RC.mk l oe ep, (qe, fr, n, ov), OI.mk xs m qe, OI.mk pl pl.length pe) b).xs) ∧ (pl.length = (ctX ((u1, u2, G, K, Ho, pe), (r, c, false, u3, u4), oe, RC.mk l oe ep, (qe, fr, n, ov), OI.mk xs m qe, OI.mk pl pl.length pe) b).pl.length ∧ pe =
 (ctX ((u1, u2, G, K, Ho, pe), (r, c, false, u3, u4), oe, RC.mk l oe ep, (qe, fr, n, ov), OI.mk xs m qe, OI.mk pl pl.length pe) b).pe ∧ pl = (ctX ((u1, u2, G, K, Ho, pe), (r, c, false, u3, u4), oe, RC.mk l oe ep, (qe, fr, n, ov), OI.mk xs m qe, OI.mk
 pl pl.length pe) b).pl) ∧ True) (br ((13 : Int) == b) (true = true ∧ TA (((), (), G, K, Ho, pe), (r, c, false, (), ()), oe, RC.mk l oe ep, (qe, fr, n, ov), OI.mk xs m qe, OI.mk pl pl.length pe) ∧ true = true ∧ (oe = oe ∧ GW l) ∧ [SV.p 2 0, SV.p 5 0,
 vB G, vB K, vB Ho, SV.h 7 [pe, 0]] = [SV.p 2 0, SV.p 5 0, vB G, vB K, vB Ho, SV.h 7 [pe, 0]] ∧ (SV.t [] = SV.t [] ∧ True) ∧ (SV.v (Value.int IntKind.u8 (8 : Int)) = SV.v (Value.int IntKind.u8 (8 : Int)) ∧ SV.v (Value.func (Fn.func (45 : Nat)) #[]
 #[]) = SV.v (Value.func (Fn.func (45 : Nat)) #[] #[]) ∧ SV.v (Value.int IntKind.u8 (9 : Int)) = SV.v (Value.int IntKind.u8 (9 : Int)) ∧ SV.v (Value.func (Fn.func (47 : Nat)) #[] #[]) = SV.v (Value.func (Fn.func (47 : Nat)) #[] #[]) ∧ SV.v (Value.int
 IntKind.u8 (10 : Int)) = SV.v (Value.int IntKind.u8 (10 : Int)) ∧ SV.v (Value.func (Fn.func (48 : Nat)) #[] #[]) = SV.v (Value.func (Fn.func (48 : Nat)) #[] #[]) ∧ SV.v (Value.int IntKind.u8 (13 : Int)) = SV.v (Value.int IntKind.u8 (13 : Int)) ∧ SV.v
 (Value.func (Fn.func (50 : Nat)) #[] #[]) = SV.v (Value.func (Fn.func (50 : Nat)) #[] #[]) ∧ True) ∧ (SV.p 2 0 = SV.p 2 0 ∧ SV.p 5 0 = SV.p 5 0 ∧ vB G = vB (ctX ((u1, u2, G, K, Ho, pe), (r, c, false, u3, u4), oe, RC.mk l oe ep, (qe, fr, n, ov), OI.mk
 xs m qe, OI.mk pl pl.length pe) b).G ∧ vB K = vB (ctX ((u1, u2, G, K, Ho, pe), (r, c, false, u3, u4), oe, RC.mk l oe ep, (qe, fr, n, ov), OI.mk xs m qe, OI.mk pl pl.length pe) b).K ∧ vB Ho = vB (ctX ((u1, u2, G, K, Ho, pe), (r, c, false, u3, u4), oe,
 RC.mk l oe ep, (qe, fr, n, ov), OI.mk xs m qe, OI.mk pl pl.length pe) b).Ho ∧ SV.h 7 [pe, 0] = SV.h 7 [(ctX ((u1, u2, G, K, Ho, pe), (r, c, false, u3, u4), oe, RC.mk l oe ep, (qe, fr, n, ov), OI.mk xs m qe, OI.mk pl pl.length pe) b).pe, 0] ∧ True) ∧
 (vI (nearI r (↑l.length : Int)) = vI (ctX ((u1, u2, G, K, Ho, pe), (r, c, false, u3, u4), oe, RC.mk l oe ep, (qe, fr, n, ov), OI.mk xs m qe, OI.mk pl pl.length pe) b).r ∧ vI (nearI (0 : Int) (↑(nC l) : Int)) = vI (ctX ((u1, u2, G, K, Ho, pe), (r, c,
 false, u3, u4), oe, RC.mk l oe ep, (qe, fr, n, ov), OI.mk xs m qe, OI.mk pl pl.length pe) b).c ∧ vB false = vB false ∧ SV.p 3 0 = SV.p 3 0 ∧ True) ∧ (SV.h 4 [oe, 0] = SV.h 4 [oe, 0] ∧ True) ∧ (oe = oe ∧ ep = (ctX ((u1, u2, G, K, Ho, pe), (r, c,
 false, u3, u4), oe, RC.mk l oe ep, (qe, fr, n, ov), OI.mk xs m qe, OI.mk pl pl.length pe) b).ep ∧ l = (ctX ((u1, u2, G, K, Ho, pe), (r, c, false, u3, u4), oe, RC.mk l oe ep, (qe, fr, n, ov), OI.mk xs m qe, OI.mk pl pl.length pe) b).l) ∧ (SV.h 6 [qe,
 0] = SV.h 6 [qe, 0] ∧ vI fr = vI fr ∧ vI n = vI (ctX ((u1, u2, G, K, Ho, pe), (r, c, false, u3, u4), oe, RC.mk l oe ep, (qe, fr, n, ov), OI.mk xs m qe, OI.mk pl pl.length pe) b).n ∧ vB ov = vB (ctX ((u1, u2, G, K, Ho, pe), (r, c, false, u3, u4), oe,
 RC.mk l oe ep, (qe, fr, n, ov), OI.mk xs m qe, OI.mk pl pl.length pe) b).ov ∧ True) ∧ (m = m ∧ qe = qe ∧ xs = (ctX ((u1, u2, G, K, Ho, pe), (r, c, false, u3, u4), oe, RC.mk l oe ep, (qe, fr, n, ov), OI.mk xs m qe, OI.mk pl pl.length pe) b).xs) ∧
 (pl.length = (ctX ((u1, u2, G, K, Ho, pe), (r, c, false, u3, u4), oe, RC.mk l oe ep, (qe, fr, n, ov), OI.mk xs m qe, OI.mk pl pl.length pe) b).pl.length ∧ pe = (ctX ((u1, u2, G, K, Ho, pe), (r, c, false, u3, u4), oe, RC.mk l oe ep, (qe, fr, n, ov),
 OI.mk xs m qe, OI.mk pl pl.length pe) b).pe ∧ pl = (ctX ((u1, u2, G, K, Ho, pe), (r, c, false, u3, u4), oe, RC.mk l oe ep, (qe, fr, n, ov), OI.mk xs m qe, OI.mk pl pl.length pe) b).pl) ∧ True) ((SV.t [] = SV.t [] ∧ True) ∧ (SV.v (Value.int IntKind.u8
 (8 : Int)) = SV.v (Value.int IntKind.u8 (8 : Int)) ∧ SV.v (Value.func (Fn.func (45 : Nat)) #[] #[]) = SV.v (Value.func (Fn.func (45 : Nat)) #[] #[]) ∧ SV.v (Value.int IntKind.u8 (9 : Int)) = SV.v (Value.int IntKind.u8 (9 : Int)) ∧ SV.v (Value.func
 (Fn.func (47 : Nat)) #[] #[]) = SV.v (Value.func (Fn.func (47 : Nat)) #[] #[]) ∧ SV.v (Value.int IntKind.u8 (10 : Int)) = SV.v (Value.int IntKind.u8 (10 : Int)) ∧ SV.v (Value.func (Fn.func (48 : Nat)) #[] #[]) = SV.v (Value.func (Fn.func (48 : Nat))
 #[] #[]) ∧ SV.v (Value.int IntKind.u8 (13 : Int)) = SV.v (Value.int IntKind.u8 (13 : Int)) ∧ SV.v (Value.func (Fn.func (50 : Nat)) #[] #[]) = SV.v (Value.func (Fn.func (50 : Nat)) #[] #[]) ∧ True) ∧ (SV.p 2 0 = SV.p 2 0 ∧ SV.p 5 0 = SV.p 5 0 ∧ vB G =
 vB (ctX ((u1, u2, G, K, Ho, pe), (r, c, false, u3, u4), oe, RC.mk l oe ep, (qe, fr, n, ov), OI.mk xs m qe, OI.mk pl pl.length pe) b).G ∧ vB K = vB (ctX ((u1, u2, G, K, Ho, pe), (r, c, false, u3, u4), oe, RC.mk l oe ep, (qe, fr, n, ov), OI.mk xs m qe,
 OI.mk pl pl.length pe) b).K ∧ vB Ho = vB (ctX ((u1, u2, G, K, Ho, pe), (r, c, false, u3, u4), oe, RC.mk l oe ep, (qe, fr, n, ov), OI.mk xs m qe, OI.mk pl pl.length pe) b).Ho ∧ SV.h 7 [pe, 0] = SV.h 7 [(ctX ((u1, u2, G, K, Ho, pe), (r, c, false, u3,
 u4), oe, RC.mk l oe ep, (qe, fr, n, ov), OI.mk xs m qe, OI.mk pl pl.length pe) b).pe, 0] ∧ True) ∧ (vI r = vI (ctX ((u1, u2, G, K, Ho, pe), (r, c, false, u3, u4), oe, RC.mk l oe ep, (qe, fr, n, ov), OI.mk xs m qe, OI.mk pl pl.length pe) b).r ∧ vI c =
 vI (ctX ((u1, u2, G, K, Ho, pe), (r, c, false, u3, u4), oe, RC.mk l oe ep, (qe, fr, n, ov), OI.mk xs m qe, OI.mk pl pl.length pe) b).c ∧ vB false = vB false ∧ SV.p 3 0 = SV.p 3 0 ∧ True) ∧ (SV.h 4 [oe, 0] = SV.h 4 [oe, 0] ∧ True) ∧ (oe = oe ∧ ep =
 (ctX ((u1, u2, G, K, Ho, pe), (r, c, false, u3, u4), oe, RC.mk l oe ep, (qe, fr, n, ov), OI.mk xs m qe, OI.mk pl pl.length pe) b).ep ∧ l = (ctX ((u1, u2, G, K, Ho, pe), (r, c, false, u3, u4), oe, RC.mk l oe ep, (qe, fr, n, ov), OI.mk xs m qe, OI.mk
 pl pl.length pe) b).l) ∧ (SV.h 6 [qe, 0] = SV.h 6 [qe, 0] ∧ vI fr = vI fr ∧ vI n = vI (ctX ((u1, u2, G, K, Ho, pe), (r, c, false, u3, u4), oe, RC.mk l oe ep, (qe, fr, n, ov), OI.mk xs m qe, OI.mk pl pl.length pe) b).n ∧ vB ov = vB (ctX ((u1, u2, G,
 K, Ho, pe), (r, c, false, u3, u4), oe, RC.mk l oe ep, (qe, fr, n, ov), OI.mk xs m qe, OI.mk pl pl.length pe) b).ov ∧ True) ∧ (m = m ∧ qe = qe ∧ xs = (ctX ((u1, u2, G, K, Ho, pe), (r, c, false, u3, u4), oe, RC.mk l oe ep, (qe, fr, n, ov), OI.mk xs m
 qe, OI.mk pl pl.length pe) b).xs) ∧ (pl.length = (ctX ((u1, u2, G, K, Ho, pe), (r, c, false, u3, u4), oe, RC.mk l oe ep, (qe, fr, n, ov), OI.mk xs m qe, OI.mk pl pl.length pe) b).pl.length ∧ pe = (ctX ((u1, u2, G, K, Ho, pe), (r, c, false, u3, u4),
 oe, RC.mk l oe ep, (qe, fr, n, ov), OI.mk xs m qe, OI.mk pl pl.length pe) b).pe ∧ pl = (ctX ((u1, u2, G, K, Ho, pe), (r, c, false, u3, u4), oe, RC.mk l oe ep, (qe, fr, n, ov), OI.mk xs m qe, OI.mk pl pl.length pe) b).pl) ∧ True)))))) (by kernel_rfl) ?_
  clear hp hφ
  have hT : TA (((), (), G, K, Ho, pe), (r, c, false, (), ()), oe, RC.mk l oe ep, (qe, fr, n, ov), OI.mk xs m qe, OI.mk pl pl.length pe) := ⟨rfl, rfl, rfl, rfl, rfl, hI⟩
  obtain ⟨hg, r0, r1, c0, c1, hq, hl, hb⟩ := id hI
  simp only at hg r0 r1 c0 c1 hq hl hb
  have g1 := hg.r1
  have s2 : stI r 1 l.length = nearI (r + 1) l.length := st_in r0 r1 (by omega) (by omega)
  have n1 : nearI r l.length = r := near_in r0 r1
  have s3 : stI r 0 l.length = r := by rw [st_in r0 r1 (by omega) (by omega), Int.add_zero, n1]
  have s4 : stI c 0 (nC l) = c := by rw [st_in c0 c1 (by omega) (by omega), Int.add_zero, near_in c0 c1]
  have s6 : stI c (-1) (nC l) = nearI (c + -1) (nC l) := st_in c0 c1 (by omega) (by omega)
  have u := fd_up hg r0 r1
  have q : ∀ v : Int, b ≠ v → v ≠ b := fun v h e => h e.symm
  have r255 : r < 255 := by omega
  by_cases h8 : b = 8
  · subst h8
    simp [br_iff, rq_iff, ctX, ctT, tmS, stT, hg, hT, s3, s4, s6, n1]
  by_cases h9 : b = 9
  · subst h9
    simp [br_iff, rq_iff, ctX, ctT, tmS, taT, hg, hT]
  by_cases h10 : b = 10
  · subst h10
    simp [br_iff, rq_iff, ctX, ctT, tmS, fdT, hg, hT, s2, s4, u, r0, r255]
    by_cases hr : r = (l.length : Int) - 1
    · exact (if_pos hr).trans (if_pos hr).symm
    · exact (if_neg hr).trans (if_neg hr).symm
  by_cases h13 : b = 13
  · subst h13
    simp [br_iff, rq_iff, ctX, ctT, tmS, moT, hg, hT]
  simp [br_iff, rq_iff, ctX, ctT, tmS, hg, hT, h8, h9, h10, h13, q _ h8, q _ h9, q _ h10, q _ h13]
end Go.Proofs.YtcbjgpkbfmmdpaaGreatDoor
