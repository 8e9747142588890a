/- Layer 12: a terminal, and what its small calls do: contracts. -/
import Derived.Test.YtcbjgpkbfmmdpaaDoorHbD
set_option linter.unusedSimpArgs false
set_option linter.unusedVariables false
set_option linter.unusedSectionVars false
namespace Go.Proofs.YtcbjgpkbfmmdpaaDoor
open Go Go.Sym

/-- What varies of a terminal: the cursor, the cells, the modes, the replies, what is pending. -/
structure Tm where
  r : Int
  c : Int
  l : List (List C4)
  ep : Nat
  G : Bool
  K : Bool
  Ho : Bool
  n : Int
  ov : Bool
  xs : List Int
  pe : Nat
  pl : List Int
structure TI (fr : Int) (m : Nat) (s : Tm) : Prop where
  gw : GW s.l
  r0 : 0 ≤ s.r
  r1 : s.r < s.l.length
  c0 : 0 ≤ s.c
  c1 : s.c < nC s.l
  q : QWf fr s.n s.xs m
  pl : s.pl.length ≤ 3
  pb : byteR s.pl
abbrev TR := (Unit × Unit × Bool × Bool × Bool × Nat) × (Int × Int × Bool × Unit × Unit) × Nat × RC × (Nat × Int × Int × Bool) × OI × OI
def shTm (j : Nat) : ShH TR :=
  shHCons (shCells (shCons (shP (j + 1)) (shCons (shP (j + 4)) (shCons shB (shCons shB (shCons shB (shOne (shO (j + 6)))))))) 69)
  (shHCons (shCells (shCons shI (shCons shI (shCons shB (shCons (shP (j + 2)) (shOne shAny))))) 80)
  (shHCons (shCells (shOne (shO (j + 3))) 106)
  (shHCons (shRowsC 40 47)
  (shHCons (shCells (shCons (shO (j + 5)) (shCons shI (shCons shI (shOne shB)))) 96)
  (shHCons (shOwnI .u8 5 true) (shHOne (shOwnI .u8 5 false)))))))
def tmI (j oe qe m : Nat) (fr : Int) (s : Tm) : List (SB Unit) := [.cells [.p (j + 1) 0, .p (j + 4) 0, .v (.bool s.G), .v (.bool s.K), .v (.bool s.Ho), .h (j + 6) [s.pe, 0]] 69,
  .cells [.v (.int .i64 s.r), .v (.int .i64 s.c), .v (.bool false), .p (j + 2) 0, .any] 80, .cells [.h (j + 3) [oe, 0]] 106, .rows (.c s.l) 40 47 oe s.ep none,
  .cells [.h (j + 5) [qe, 0], .v (.int .i64 fr), .v (.int .i64 s.n), .v (.bool s.ov)] 96, .own (.ints .u8 s.xs) m 5 1 qe true, .own (.ints .u8 s.pl) s.pl.length 5 1 s.pe false]
def tmS (x : TR) : Tm := match x with
  | ((_, _, G, K, Ho, pe), (r, c, _, _, _), _, ⟨l, _, ep⟩, (_, _, n, ov), ⟨xs, _, _⟩, ⟨pl, _, _⟩) => ⟨r, c, l, ep, G, K, Ho, n, ov, xs, pe, pl⟩
def tmE (j : Nat) (x : TR) (s : Tm) : List (SB Unit) := match x with
  | (_, _, oe, _, (qe, fr, _, _), ⟨_, m, _⟩, _) => tmI j oe qe m fr s
def TA (x : TR) : Prop := match x with
  | ((_, _, G, K, Ho, pe), (r, c, p, _, _), oe, ⟨l, oe2, ep⟩, (qe, fr, n, ov), ⟨xs, m, qe2⟩, ⟨pl, pn, pe2⟩) => oe = oe2 ∧ qe = qe2 ∧ pe = pe2 ∧ pn = pl.length ∧ p = false ∧ TI fr m ⟨r, c, l, ep, G, K, Ho, n, ov, xs, pe, pl⟩

def glT (G : Bool) (b : Int) : Int := ofT (if G = true then 3 else 1) b
def moT (s : Tm) (x y : Int) : Tm := { s with r := nearI x s.l.length, c := nearI y (nC s.l) }
def stT (s : Tm) (x y : Int) : Tm := { s with r := nearI (s.r + x) s.l.length, c := nearI (s.c + y) (nC s.l) }
/-- A line on, or all lines go up. -/
def fdT (s : Tm) : Tm := { s with r := nearI (s.r + 1) s.l.length, l := if s.r = (s.l.length : Int) - 1 then upF s.l 1 blankC else s.l, ep := s.ep + 1 }
def wpT (s : Tm) (fr fc tr tc : Int) : Tm := { s with l := wiL s.l (nearI fr s.l.length) (nearI fc (nC s.l)) (nearI tr s.l.length) (nearI tc (nC s.l)) blankC false }
def taT (s : Tm) : Tm := { s with c := nearI (if s.c - s.c % 8 + 8 > (nC s.l : Int) - 1 then s.c + 1 else s.c - s.c % 8 + 8) (nC s.l) }
def ixT (s : Tm) : Tm := { s with r := nearI (s.r - 1) s.l.length, l := if s.r = 0 then upF s.l (-1) blankC else s.l, ep := if s.r = 0 then s.ep + 1 else s.ep }
def plT (s : Tm) (row col : Int) : Tm := { s with r := if 0 ≤ row ∧ row ≤ (s.l.length : Int) - 1 then row else s.r, c := if 0 ≤ col then (if (nC s.l : Int) - 1 < col then (nC s.l : Int) - 1 else col) else s.c }
def puT (s : Tm) (b : Int) : Tm := { s with c := if s.c + 1 < nC s.l then s.c + 1 else s.c, l := set2 s.l s.r s.c ⟨glT s.G b, 0, false, 0⟩ }

theorem st_in {x n a : Int} (h0 : 0 ≤ x) (h1 : x < a) (h2 : -510 ≤ n) (h3 : n ≤ 510) : stI x n a = nearI (x + n) a := by
  unfold stI; rw [near_in h0 h1, cut_in h2 h3]
theorem upF_zero {l : List (List C4)} (hg : GW l) (x : C4) : upF l 0 x = l := by
  obtain ⟨g1, g2, g3⟩ := upF_gw hg 0 x
  refine grid_eq g1 hg g2 g3 fun r c hr hc => ?_
  rw [g2] at hr
  rw [g3] at hc
  rw [upF_at hg hr hc]
  unfold rollF
  rw [if_pos (by omega), if_pos (by omega), show ((r : Int) + 0).toNat = r by omega]
theorem feN_one {r a : Int} (h0 : 0 ≤ r) (h1 : r < a) : feN r 1 a = if r = a - 1 then 1 else 0 := by
  unfold feN
  rw [cut_in (by omega) (by omega)]
  split <;> split <;> split <;> omega
theorem feN_neg {a : Int} (h1 : 0 < a) : feN 0 (-1) a = -1 := by
  unfold feN
  rw [cut_in (by omega) (by omega)]
  split <;> split <;> omega
theorem fd_up {l : List (List C4)} (hg : GW l) {r : Int} (h0 : 0 ≤ r) (h1 : r < l.length) : upF l (feN r 1 l.length) blankC = if r = (l.length : Int) - 1 then upF l 1 blankC else l := by
  rw [feN_one h0 h1]
  split
  · rfl
  · exact upF_zero hg _
def tabS12 : List (Nat × ACon Unit) := (41, lcSPut) :: (55, lcSWipe) :: tabI9
theorem tabS12_ok : LCs Tryd.prog tabS12 := ⟨ok_sPut, ok_sWipe, tabI9_ok⟩
def purT : List (Nat × PS) := [(15, psOf)]
theorem purT_ok : Pures Tryd.prog purT := ⟨ok_Of, trivial⟩
def lcTAt : ACon Unit := mkLC (decP (shOne (shP 0)) (shTm 0)) fun (_, x) => .ask (TA x) (.one (p2 (tmS x).r (tmS x).c) (tmE 0 x (tmS x)) [])
set_option maxHeartbeats 4000000 in
theorem ok_tAt : ∀ I : Sym.Inv Unit, LCOk I Tryd.prog 48 lcTAt := by
  refine lc_mk (fun _ => allCfg Tryd.prog [] tabS12 0) (fun _ _ => allCfg_ok mixed trivial tabS12_ok) (fun _ => rfl) (n := 60) Tryd.func48 ?_
  intro ⟨_, ⟨_, _, G, K, Ho, pe⟩, ⟨r, c, p, _, _⟩, oe, ⟨l, oe2, ep⟩, ⟨qe, fr, n, ov⟩, ⟨xs, m, qe2⟩, ⟨pl, pn, pe2⟩⟩ hφ
  obtain ⟨⟨rfl, rfl, rfl, rfl, rfl, hI⟩, hp⟩ := id hφ
  refine kcast (B := (true = true ∧ (SV.a [SV.v (Value.int IntKind.i64 r), SV.v (Value.int IntKind.i64 c)] = SV.a [SV.v (Value.int IntKind.i64 r), SV.v (Value.int IntKind.i64 c)] ∧ True) ∧ (SV.p (1 : Nat) (0 : Nat) = SV.p (1 : Nat) (0 : Nat) ∧ SV.p (4 : Nat) (0 : Nat) = SV.p (4 : Nat) (0 : Nat) ∧ SV.v (Value.bool G) = SV.v (Value.bool G) ∧ SV.v (Value.bool K) = SV.v (Value.bool K) ∧ SV.v (Value.bool Ho) = SV.v (Value.bool Ho) ∧ SV.h (6 : Nat) [pe, (0 : Nat)] = SV.h (6 : Nat) [pe, (0 : Nat)] ∧ True) ∧ (SV.v (Value.int IntKind.i64 r) = SV.v (Value.int IntKind.i64 r) ∧ SV.v (Value.int IntKind.i64 c) = SV.v (Value.int IntKind.i64 c) ∧ SV.v (Value.bool false) = SV.v (Value.bool false) ∧ SV.p (2 : Nat) (0 : Nat) = SV.p (2 : Nat) (0 : Nat) ∧ True) ∧ (SV.h (3 : Nat) [oe, (0 : Nat)] = SV.h (3 : Nat) [oe, (0 : Nat)] ∧ True) ∧ (oe = oe ∧ ep = ep ∧ l = l) ∧ (SV.h (5 : Nat) [qe, (0 : Nat)] = SV.h (5 : Nat) [qe, (0 : Nat)] ∧ SV.v (Value.int IntKind.i64 fr) = SV.v (Value.int IntKind.i64 fr) ∧ SV.v (Value.int IntKind.i64 n) = SV.v (Value.int IntKind.i64 n) ∧ SV.v (Value.bool ov) = SV.v (Value.bool ov) ∧ True) ∧ (m = m ∧ qe = qe ∧ xs = xs) ∧ (pl.length = pl.length ∧ pe = pe ∧ pl = pl) ∧ True)) (by kernel_rfl) ?_
  simp
def lcTEnd : ACon Unit := mkLC (decP (shOne (shP 0)) (shTm 0)) fun (_, x) => .ask (TA x) (.one (p2 ((tmS x).l.length - 1) (nC (tmS x).l - 1)) (tmE 0 x (tmS x)) [])
set_option maxHeartbeats 4000000 in
theorem ok_tEnd : ∀ I : Sym.Inv Unit, LCOk I Tryd.prog 34 lcTEnd := by
  refine lc_mk (fun _ => allCfg Tryd.prog [] tabS12 0) (fun _ _ => allCfg_ok mixed trivial tabS12_ok) (fun _ => rfl) (n := 60) Tryd.func34 ?_
  intro ⟨_, ⟨_, _, G, K, Ho, pe⟩, ⟨r, c, p, _, _⟩, oe, ⟨l, oe2, ep⟩, ⟨qe, fr, n, ov⟩, ⟨xs, m, qe2⟩, ⟨pl, pn, pe2⟩⟩ hφ
  obtain ⟨⟨rfl, rfl, rfl, rfl, rfl, hI⟩, hp⟩ := id hφ
  refine kcast (B := (true = true ∧ (oe = oe ∧ GW l) ∧ (SV.a [SV.v (Value.int IntKind.i64 (IntKind.i64.wrap ((↑l.length : Int) - (1 : Int)))), SV.v (Value.int IntKind.i64 (IntKind.i64.wrap ((↑(nC l) : Int) - (1 : Int))))] = SV.a [SV.v (Value.int IntKind.i64 ((↑l.length : Int) - (1 : Int))), SV.v (Value.int IntKind.i64 ((↑(nC l) : Int) - (1 : Int)))] ∧ True) ∧ (SV.p (1 : Nat) (0 : Nat) = SV.p (1 : Nat) (0 : Nat) ∧ SV.p (4 : Nat) (0 : Nat) = SV.p (4 : Nat) (0 : Nat) ∧ SV.v (Value.bool G) = SV.v (Value.bool G) ∧ SV.v (Value.bool K) = SV.v (Value.bool K) ∧ SV.v (Value.bool Ho) = SV.v (Value.bool Ho) ∧ SV.h (6 : Nat) [pe, (0 : Nat)] = SV.h (6 : Nat) [pe, (0 : Nat)] ∧ True) ∧ (SV.v (Value.int IntKind.i64 r) = SV.v (Value.int IntKind.i64 r) ∧ SV.v (Value.int IntKind.i64 c) = SV.v (Value.int IntKind.i64 c) ∧ SV.v (Value.bool false) = SV.v (Value.bool false) ∧ SV.p (2 : Nat) (0 : Nat) = SV.p (2 : Nat) (0 : Nat) ∧ True) ∧ (SV.h (3 : Nat) [oe, (0 : Nat)] = SV.h (3 : Nat) [oe, (0 : Nat)] ∧ True) ∧ (oe = oe ∧ ep = ep ∧ l = l) ∧ (SV.h (5 : Nat) [qe, (0 : Nat)] = SV.h (5 : Nat) [qe, (0 : Nat)] ∧ SV.v (Value.int IntKind.i64 fr) = SV.v (Value.int IntKind.i64 fr) ∧ SV.v (Value.int IntKind.i64 n) = SV.v (Value.int IntKind.i64 n) ∧ SV.v (Value.bool ov) = SV.v (Value.bool ov) ∧ True) ∧ (m = m ∧ qe = qe ∧ xs = xs) ∧ (pl.length = pl.length ∧ pe = pe ∧ pl = pl) ∧ True)) (by kernel_rfl) ?_
  have hg := hI.gw
  simp only at hg
  have h0 := hg.r1
  have h1 := hg.c1
  rw [wrap64 (x := (l.length : Int) - 1) (by omega) (by omega), wrap64 (x := (nC l : Int) - 1) (by omega) (by omega)]
  simp [hg]
def lcTWipe : ACon Unit := mkLC (decP (shCons (shP 0) (shCons shI2 (shOne shI2))) (shTm 0)) fun ((_, (fr, fc), (tr, tc)), x) => .ask (TA x) (.one (.t []) (tmE 0 x (wpT (tmS x) fr fc tr tc)) [3])
set_option maxHeartbeats 4000000 in
theorem ok_tWipe : ∀ I : Sym.Inv Unit, LCOk I Tryd.prog 33 lcTWipe := by
  refine lc_mk (fun _ => allCfg Tryd.prog [] tabS12 0) (fun _ _ => allCfg_ok mixed trivial tabS12_ok) (fun _ => rfl) (n := 60) Tryd.func33 ?_
  intro ⟨⟨_, ⟨wr, wc⟩, ⟨tr, tc⟩⟩, ⟨_, _, G, K, Ho, pe⟩, ⟨r, c, p, _, _⟩, oe, ⟨l, oe2, ep⟩, ⟨qe, fr, n, ov⟩, ⟨xs, m, qe2⟩, ⟨pl, pn, pe2⟩⟩ hφ
  obtain ⟨⟨rfl, rfl, rfl, rfl, rfl, hI⟩, hp⟩ := id hφ
  refine kcast (B := (true = true ∧ (oe = oe ∧ GW l) ∧ (SV.t [] = SV.t [] ∧ True) ∧ (SV.p (1 : Nat) (0 : Nat) = SV.p (1 : Nat) (0 : Nat) ∧ SV.p (4 : Nat) (0 : Nat) = SV.p (4 : Nat) (0 : Nat) ∧ SV.v (Value.bool G) = SV.v (Value.bool G) ∧ SV.v (Value.bool K) = SV.v (Value.bool K) ∧ SV.v (Value.bool Ho) = SV.v (Value.bool Ho) ∧ SV.h (6 : Nat) [pe, (0 : Nat)] = SV.h (6 : Nat) [pe, (0 : Nat)] ∧ True) ∧ (SV.v (Value.int IntKind.i64 r) = SV.v (Value.int IntKind.i64 r) ∧ SV.v (Value.int IntKind.i64 c) = SV.v (Value.int IntKind.i64 c) ∧ SV.v (Value.bool false) = SV.v (Value.bool false) ∧ SV.p (2 : Nat) (0 : Nat) = SV.p (2 : Nat) (0 : Nat) ∧ True) ∧ (SV.h (3 : Nat) [oe, (0 : Nat)] = SV.h (3 : Nat) [oe, (0 : Nat)] ∧ True) ∧ (oe = oe ∧ ep = ep ∧ wiL l (nearI wr (↑l.length : Int)) (nearI wc (↑(nC l) : Int)) (nearI tr (↑l.length : Int)) (nearI tc (↑(nC l) : Int)) (C4.mk (32 : Int) (0 : Int) false (0 : Int)) false = wiL l (nearI wr (↑l.length : Int)) (nearI wc (↑(nC l) : Int)) (nearI tr (↑l.length : Int)) (nearI tc (↑(nC l) : Int)) blankC false) ∧ (SV.h (5 : Nat) [qe, (0 : Nat)] = SV.h (5 : Nat) [qe, (0 : Nat)] ∧ SV.v (Value.int IntKind.i64 fr) = SV.v (Value.int IntKind.i64 fr) ∧ SV.v (Value.int IntKind.i64 n) = SV.v (Value.int IntKind.i64 n) ∧ SV.v (Value.bool ov) = SV.v (Value.bool ov) ∧ True) ∧ (m = m ∧ qe = qe ∧ xs = xs) ∧ (pl.length = pl.length ∧ pe = pe ∧ pl = pl) ∧ True)) (by kernel_rfl) ?_
  have hg := hI.gw
  simp only at hg
  simp [hg, blankC]
def tabT12 : List (Nat × ACon Unit) := (48, lcTAt) :: (34, lcTEnd) :: (33, lcTWipe) :: tabS12
theorem tabT12_ok : LCs Tryd.prog tabT12 := ⟨ok_tAt, ok_tEnd, ok_tWipe, tabS12_ok⟩
def lcTTab : ACon Unit := mkLC (decP (shOne (shP 0)) (shTm 0)) fun (_, x) => .ask (TA x) (.one (.t []) (tmE 0 x (taT (tmS x))) [1])
set_option maxHeartbeats 4000000 in
theorem ok_tTab : ∀ I : Sym.Inv Unit, LCOk I Tryd.prog 44 lcTTab := by
  refine lc_mk (fun _ => allCfg Tryd.prog [] tabT12 0) (fun _ _ => allCfg_ok mixed trivial tabT12_ok) (fun _ => rfl) (n := 60) Tryd.func44 ?_
  intro ⟨_, ⟨_, _, G, K, Ho, pe⟩, ⟨r, c, p, _, _⟩, oe, ⟨l, oe2, ep⟩, ⟨qe, fr, n, ov⟩, ⟨xs, m, qe2⟩, ⟨pl, pn, pe2⟩⟩ hφ
  obtain ⟨⟨rfl, rfl, rfl, rfl, rfl, hI⟩, hp⟩ := id hφ
  refine kcast (B := (true = true ∧ TA (((), (), G, K, Ho, pe), (r, c, false, (), ()), oe, RC.mk l oe ep, (qe, fr, n, ov), OI.mk xs m qe, OI.mk pl pl.length pe) ∧ true = true ∧ TA (((), (), G, K, Ho, pe), (r, c, false, (), ()), oe, RC.mk l oe ep, (qe, fr, n, ov), OI.mk xs m qe, OI.mk pl pl.length pe) ∧ br (decide (IntKind.i64.wrap (IntKind.i64.wrap (c - c.tmod (8 : Int)) + (8 : Int)) > (↑(nC l) : Int) - (1 : Int))) (true = true ∧ (oe = oe ∧ GW l) ∧ (SV.t [] = SV.t [] ∧ True) ∧ (SV.p (1 : Nat) (0 : Nat) = SV.p (1 : Nat) (0 : Nat) ∧ SV.p (4 : Nat) (0 : Nat) = SV.p (4 : Nat) (0 : Nat) ∧ SV.v (Value.bool G) = SV.v (Value.bool G) ∧ SV.v (Value.bool K) = SV.v (Value.bool K) ∧ SV.v (Value.bool Ho) = SV.v (Value.bool Ho) ∧ SV.h (6 : Nat) [pe, (0 : Nat)] = SV.h (6 : Nat) [pe, (0 : Nat)] ∧ True) ∧ (SV.v (Value.int IntKind.i64 (nearI r (↑l.length : Int))) = SV.v (Value.int IntKind.i64 r) ∧ SV.v (Value.int IntKind.i64 (nearI (IntKind.i64.wrap (c + (1 : Int))) (↑(nC l) : Int))) = SV.v (Value.int IntKind.i64 (nearI (if c - c % (8 : Int) + (8 : Int) > (↑(nC l) : Int) - (1 : Int) then c + (1 : Int) else c - c % (8 : Int) + (8 : Int)) (↑(nC l) : Int))) ∧ SV.v (Value.bool false) = SV.v (Value.bool false) ∧ SV.p (2 : Nat) (0 : Nat) = SV.p (2 : Nat) (0 : Nat) ∧ True) ∧ (SV.h (3 : Nat) [oe, (0 : Nat)] = SV.h (3 : Nat) [oe, (0 : Nat)] ∧ True) ∧ (oe = oe ∧ ep = ep ∧ l = l) ∧ (SV.h (5 : Nat) [qe, (0 : Nat)] = SV.h (5 : Nat) [qe, (0 : Nat)] ∧ SV.v (Value.int IntKind.i64 fr) = SV.v (Value.int IntKind.i64 fr) ∧ SV.v (Value.int IntKind.i64 n) = SV.v (Value.int IntKind.i64 n) ∧ SV.v (Value.bool ov) = SV.v (Value.bool ov) ∧ True) ∧ (m = m ∧ qe = qe ∧ xs = xs) ∧ (pl.length = pl.length ∧ pe = pe ∧ pl = pl) ∧ True) (true = true ∧ (oe = oe ∧ GW l) ∧ (SV.t [] = SV.t [] ∧ True) ∧ (SV.p (1 : Nat) (0 : Nat) = SV.p (1 : Nat) (0 : Nat) ∧ SV.p (4 : Nat) (0 : Nat) = SV.p (4 : Nat) (0 : Nat) ∧ SV.v (Value.bool G) = SV.v (Value.bool G) ∧ SV.v (Value.bool K) = SV.v (Value.bool K) ∧ SV.v (Value.bool Ho) = SV.v (Value.bool Ho) ∧ SV.h (6 : Nat) [pe, (0 : Nat)] = SV.h (6 : Nat) [pe, (0 : Nat)] ∧ True) ∧ (SV.v (Value.int IntKind.i64 (nearI r (↑l.length : Int))) = SV.v (Value.int IntKind.i64 r) ∧ SV.v (Value.int IntKind.i64 (nearI (IntKind.i64.wrap (IntKind.i64.wrap (c - c.tmod (8 : Int)) + (8 : Int))) (↑(nC l) : Int))) = SV.v (Value.int IntKind.i64 (nearI (if c - c % (8 : Int) + (8 : Int) > (↑(nC l) : Int) - (1 : Int) then c + (1 : Int) else c - c % (8 : Int) + (8 : Int)) (↑(nC l) : Int))) ∧ SV.v (Value.bool false) = SV.v (Value.bool false) ∧ SV.p (2 : Nat) (0 : Nat) = SV.p (2 : Nat) (0 : Nat) ∧ True) ∧ (SV.h (3 : Nat) [oe, (0 : Nat)] = SV.h (3 : Nat) [oe, (0 : Nat)] ∧ True) ∧ (oe = oe ∧ ep = ep ∧ l = l) ∧ (SV.h (5 : Nat) [qe, (0 : Nat)] = SV.h (5 : Nat) [qe, (0 : Nat)] ∧ SV.v (Value.int IntKind.i64 fr) = SV.v (Value.int IntKind.i64 fr) ∧ SV.v (Value.int IntKind.i64 n) = SV.v (Value.int IntKind.i64 n) ∧ SV.v (Value.bool ov) = SV.v (Value.bool ov) ∧ True) ∧ (m = m ∧ qe = qe ∧ xs = xs) ∧ (pl.length = pl.length ∧ pe = pe ∧ pl = pl) ∧ True))) (by kernel_rfl) ?_
  clear hp hφ
  obtain ⟨hg, r0, r1, c0, c1, hq, hl, hb⟩ := id hI
  simp only at hg r0 r1 c0 c1 hq hl hb
  have g1 := hg.r1
  have g3 := hg.c1
  have hT : TA (((), (), G, K, Ho, pe), (r, c, false, (), ()), oe, RC.mk l oe ep, (qe, fr, n, ov), OI.mk xs m qe, OI.mk pl pl.length pe) := ⟨rfl, rfl, rfl, rfl, rfl, hI⟩
  have e1 : c.tmod 8 = c % 8 := Int.tmod_eq_emod_of_nonneg c0
  have e2 := Int.emod_nonneg c (by omega : (8 : Int) ≠ 0)
  have e3 := Int.emod_lt_of_pos c (by omega : (0 : Int) < 8)
  rw [e1, wrap64 (x := c - c % 8) (by omega) (by omega), wrap64 (x := c - c % 8 + 8) (by omega) (by omega), wrap64 (x := c + 1) (by omega) (by omega)]
  by_cases h : c - c % 8 + 8 > (nC l : Int) - 1 <;> simp [br_iff, rq_iff, hT, hg, h, near_in r0 r1] <;> omega
def lcTIdx : ACon Unit := mkLC (decP (shOne (shP 0)) (shTm 0)) fun (_, x) => .ask (TA x) (.one (.t []) (tmE 0 x (ixT (tmS x))) [1, 3])
set_option maxHeartbeats 4000000 in
theorem ok_tIdx : ∀ I : Sym.Inv Unit, LCOk I Tryd.prog 65 lcTIdx := by
  refine lc_mk (fun _ => allCfg Tryd.prog [] tabT12 0) (fun _ _ => allCfg_ok mixed trivial tabT12_ok) (fun _ => rfl) (n := 60) Tryd.func65 ?_
  intro ⟨_, ⟨_, _, G, K, Ho, pe⟩, ⟨r, c, p, _, _⟩, oe, ⟨l, oe2, ep⟩, ⟨qe, fr, n, ov⟩, ⟨xs, m, qe2⟩, ⟨pl, pn, pe2⟩⟩ hφ
  obtain ⟨⟨rfl, rfl, rfl, rfl, rfl, hI⟩, hp⟩ := id hφ
  refine kcast (B := (true = true ∧ TA (((), (), G, K, Ho, pe), (r, c, false, (), ()), oe, RC.mk l oe ep, (qe, fr, n, ov), OI.mk xs m qe, OI.mk pl pl.length pe) ∧ br (r == (0 : Int)) (true = true ∧ (oe = oe ∧ GW l ∧ (0 : Int) ≤ r ∧ r < (255 : Int)) ∧ (SV.t [] = SV.t [] ∧ True) ∧ (SV.p (1 : Nat) (0 : Nat) = SV.p (1 : Nat) (0 : Nat) ∧ SV.p (4 : Nat) (0 : Nat) = SV.p (4 : Nat) (0 : Nat) ∧ SV.v (Value.bool G) = SV.v (Value.bool G) ∧ SV.v (Value.bool K) = SV.v (Value.bool K) ∧ SV.v (Value.bool Ho) = SV.v (Value.bool Ho) ∧ SV.h (6 : Nat) [pe, (0 : Nat)] = SV.h (6 : Nat) [pe, (0 : Nat)] ∧ True) ∧ (SV.v (Value.int IntKind.i64 (stI r (-1 : Int) (↑l.length : Int))) = SV.v (Value.int IntKind.i64 (nearI (r - (1 : Int)) (↑l.length : Int))) ∧ SV.v (Value.int IntKind.i64 (stI c (0 : Int) (↑(nC l) : Int))) = SV.v (Value.int IntKind.i64 c) ∧ SV.v (Value.bool false) = SV.v (Value.bool false) ∧ SV.p (2 : Nat) (0 : Nat) = SV.p (2 : Nat) (0 : Nat) ∧ True) ∧ (SV.h (3 : Nat) [oe, (0 : Nat)] = SV.h (3 : Nat) [oe, (0 : Nat)] ∧ True) ∧ (oe = oe ∧ (ep + (1 : Nat) = if r = (0 : Int) then ep + (1 : Nat) else ep) ∧ upF l (feN r (-1 : Int) (↑l.length : Int)) blankC = if r = (0 : Int) then upF l (-1 : Int) blankC else l) ∧ (SV.h (5 : Nat) [qe, (0 : Nat)] = SV.h (5 : Nat) [qe, (0 : Nat)] ∧ SV.v (Value.int IntKind.i64 fr) = SV.v (Value.int IntKind.i64 fr) ∧ SV.v (Value.int IntKind.i64 n) = SV.v (Value.int IntKind.i64 n) ∧ SV.v (Value.bool ov) = SV.v (Value.bool ov) ∧ True) ∧ (m = m ∧ qe = qe ∧ xs = xs) ∧ (pl.length = pl.length ∧ pe = pe ∧ pl = pl) ∧ True) (true = true ∧ (oe = oe ∧ GW l) ∧ (SV.t [] = SV.t [] ∧ True) ∧ (SV.p (1 : Nat) (0 : Nat) = SV.p (1 : Nat) (0 : Nat) ∧ SV.p (4 : Nat) (0 : Nat) = SV.p (4 : Nat) (0 : Nat) ∧ SV.v (Value.bool G) = SV.v (Value.bool G) ∧ SV.v (Value.bool K) = SV.v (Value.bool K) ∧ SV.v (Value.bool Ho) = SV.v (Value.bool Ho) ∧ SV.h (6 : Nat) [pe, (0 : Nat)] = SV.h (6 : Nat) [pe, (0 : Nat)] ∧ True) ∧ (SV.v (Value.int IntKind.i64 (stI r (-1 : Int) (↑l.length : Int))) = SV.v (Value.int IntKind.i64 (nearI (r - (1 : Int)) (↑l.length : Int))) ∧ SV.v (Value.int IntKind.i64 (stI c (0 : Int) (↑(nC l) : Int))) = SV.v (Value.int IntKind.i64 c) ∧ SV.v (Value.bool false) = SV.v (Value.bool false) ∧ SV.p (2 : Nat) (0 : Nat) = SV.p (2 : Nat) (0 : Nat) ∧ True) ∧ (SV.h (3 : Nat) [oe, (0 : Nat)] = SV.h (3 : Nat) [oe, (0 : Nat)] ∧ True) ∧ (oe = oe ∧ (ep = if r = (0 : Int) then ep + (1 : Nat) else ep) ∧ l = if r = (0 : Int) then upF l (-1 : Int) blankC else l) ∧ (SV.h (5 : Nat) [qe, (0 : Nat)] = SV.h (5 : Nat) [qe, (0 : Nat)] ∧ SV.v (Value.int IntKind.i64 fr) = SV.v (Value.int IntKind.i64 fr) ∧ SV.v (Value.int IntKind.i64 n) = SV.v (Value.int IntKind.i64 n) ∧ SV.v (Value.bool ov) = SV.v (Value.bool ov) ∧ True) ∧ (m = m ∧ qe = qe ∧ xs = xs) ∧ (pl.length = pl.length ∧ pe = pe ∧ pl = pl) ∧ True))) (by kernel_rfl) ?_
  clear hp hφ
  obtain ⟨hg, r0, r1, c0, c1, hq, hl, hb⟩ := id hI
  simp only at hg r0 r1 c0 c1 hq hl hb
  have g1 := hg.r1
  have g3 := hg.c1
  have hT : TA (((), (), G, K, Ho, pe), (r, c, false, (), ()), oe, RC.mk l oe ep, (qe, fr, n, ov), OI.mk xs m qe, OI.mk pl pl.length pe) := ⟨rfl, rfl, rfl, rfl, rfl, hI⟩
  by_cases h : r = 0
  · subst h
    have e1 : stI 0 (-1) l.length = nearI (-1) l.length := st_in r0 r1 (by omega) (by omega)
    have e2 : stI c 0 (nC l) = c := by rw [st_in c0 c1 (by omega) (by omega), Int.add_zero, near_in c0 c1]
    simp [br_iff, rq_iff, hT, hg, e1, e2, feN_neg (a := (l.length : Int)) (by omega)]
  · have e1 : stI r (-1) l.length = nearI (r - 1) l.length := st_in r0 r1 (by omega) (by omega)
    have e2 : stI c 0 (nC l) = c := by rw [st_in c0 c1 (by omega) (by omega), Int.add_zero, near_in c0 c1]
    simp [br_iff, rq_iff, hT, hg, h, e1, e2]
def lcTPlace : ACon Unit := mkLC (decP (shCons (shP 0) (shCons shI (shOne shI))) (shTm 0)) fun ((_, row, col), x) => .ask (TA x) (.one (.t []) (tmE 0 x (plT (tmS x) row col)) [1])
set_option maxHeartbeats 4000000 in
theorem ok_tPlace : ∀ I : Sym.Inv Unit, LCOk I Tryd.prog 40 lcTPlace := by
  refine lc_mk (fun _ => allCfg Tryd.prog [] tabT12 0) (fun _ _ => allCfg_ok mixed trivial tabT12_ok) (fun _ => rfl) (n := 60) Tryd.func40 ?_
  intro ⟨⟨_, row, col⟩, ⟨_, _, G, K, Ho, pe⟩, ⟨r, c, p, _, _⟩, oe, ⟨l, oe2, ep⟩, ⟨qe, fr, n, ov⟩, ⟨xs, m, qe2⟩, ⟨pl, pn, pe2⟩⟩ hφ
  obtain ⟨⟨rfl, rfl, rfl, rfl, rfl, hI⟩, hp⟩ := id hφ
  refine kcast (B := (true = true ∧ TA (((), (), G, K, Ho, pe), (r, c, false, (), ()), oe, RC.mk l oe ep, (qe, fr, n, ov), OI.mk xs m qe, OI.mk pl pl.length pe) ∧ true = true ∧ TA (((), (), G, K, Ho, pe), (r, c, false, (), ()), oe, RC.mk l oe ep, (qe, fr, n, ov), OI.mk xs m qe, OI.mk pl pl.length pe) ∧ br (decide (row ≥ (0 : Int))) (br (decide (row ≤ (↑l.length : Int) - (1 : Int))) (br (decide (col ≥ (0 : Int))) (true = true ∧ (oe = oe ∧ GW l) ∧ (SV.t [] = SV.t [] ∧ True) ∧ (SV.p (1 : Nat) (0 : Nat) = SV.p (1 : Nat) (0 : Nat) ∧ SV.p (4 : Nat) (0 : Nat) = SV.p (4 : Nat) (0 : Nat) ∧ SV.v (Value.bool G) = SV.v (Value.bool G) ∧ SV.v (Value.bool K) = SV.v (Value.bool K) ∧ SV.v (Value.bool Ho) = SV.v (Value.bool Ho) ∧ SV.h (6 : Nat) [pe, (0 : Nat)] = SV.h (6 : Nat) [pe, (0 : Nat)] ∧ True) ∧ (SV.v (Value.int IntKind.i64 (nearI row (↑l.length : Int))) = SV.v (Value.int IntKind.i64 (if (0 : Int) ≤ row ∧ row ≤ (↑l.length : Int) - (1 : Int) then row else r)) ∧ SV.v (Value.int IntKind.i64 (nearI (if (↑(nC l) : Int) - (1 : Int) < col then (↑(nC l) : Int) - (1 : Int) else col) (↑(nC l) : Int))) = SV.v (Value.int IntKind.i64 (if (0 : Int) ≤ col then if (↑(nC l) : Int) - (1 : Int) < col then (↑(nC l) : Int) - (1 : Int) else col else c)) ∧ SV.v (Value.bool false) = SV.v (Value.bool false) ∧ SV.p (2 : Nat) (0 : Nat) = SV.p (2 : Nat) (0 : Nat) ∧ True) ∧ (SV.h (3 : Nat) [oe, (0 : Nat)] = SV.h (3 : Nat) [oe, (0 : Nat)] ∧ True) ∧ (oe = oe ∧ ep = ep ∧ l = l) ∧ (SV.h (5 : Nat) [qe, (0 : Nat)] = SV.h (5 : Nat) [qe, (0 : Nat)] ∧ SV.v (Value.int IntKind.i64 fr) = SV.v (Value.int IntKind.i64 fr) ∧ SV.v (Value.int IntKind.i64 n) = SV.v (Value.int IntKind.i64 n) ∧ SV.v (Value.bool ov) = SV.v (Value.bool ov) ∧ True) ∧ (m = m ∧ qe = qe ∧ xs = xs) ∧ (pl.length = pl.length ∧ pe = pe ∧ pl = pl) ∧ True) (true = true ∧ (oe = oe ∧ GW l) ∧ (SV.t [] = SV.t [] ∧ True) ∧ (SV.p (1 : Nat) (0 : Nat) = SV.p (1 : Nat) (0 : Nat) ∧ SV.p (4 : Nat) (0 : Nat) = SV.p (4 : Nat) (0 : Nat) ∧ SV.v (Value.bool G) = SV.v (Value.bool G) ∧ SV.v (Value.bool K) = SV.v (Value.bool K) ∧ SV.v (Value.bool Ho) = SV.v (Value.bool Ho) ∧ SV.h (6 : Nat) [pe, (0 : Nat)] = SV.h (6 : Nat) [pe, (0 : Nat)] ∧ True) ∧ (SV.v (Value.int IntKind.i64 (nearI row (↑l.length : Int))) = SV.v (Value.int IntKind.i64 (if (0 : Int) ≤ row ∧ row ≤ (↑l.length : Int) - (1 : Int) then row else r)) ∧ SV.v (Value.int IntKind.i64 (nearI c (↑(nC l) : Int))) = SV.v (Value.int IntKind.i64 (if (0 : Int) ≤ col then if (↑(nC l) : Int) - (1 : Int) < col then (↑(nC l) : Int) - (1 : Int) else col else c)) ∧ SV.v (Value.bool false) = SV.v (Value.bool false) ∧ SV.p (2 : Nat) (0 : Nat) = SV.p (2 : Nat) (0 : Nat) ∧ True) ∧ (SV.h (3 : Nat) [oe, (0 : Nat)] = SV.h (3 : Nat) [oe, (0 : Nat)] ∧ True) ∧ (oe = oe ∧ ep = ep ∧ l = l) ∧ (SV.h (5 : Nat) [qe, (0 : Nat)] = SV.h (5 : Nat) [qe, (0 : Nat)] ∧ SV.v (Value.int IntKind.i64 fr) = SV.v (Value.int IntKind.i64 fr) ∧ SV.v (Value.int IntKind.i64 n) = SV.v (Value.int IntKind.i64 n) ∧ SV.v (Value.bool ov) = SV.v (Value.bool ov) ∧ True) ∧ (m = m ∧ qe = qe ∧ xs = xs) ∧ (pl.length = pl.length ∧ pe = pe ∧ pl = pl) ∧ True)) (br (decide (col ≥ (0 : Int))) (true = true ∧ (oe = oe ∧ GW l) ∧ (SV.t [] = SV.t [] ∧ True) ∧ (SV.p (1 : Nat) (0 : Nat) = SV.p (1 : Nat) (0 : Nat) ∧ SV.p (4 : Nat) (0 : Nat) = SV.p (4 : Nat) (0 : Nat) ∧ SV.v (Value.bool G) = SV.v (Value.bool G) ∧ SV.v (Value.bool K) = SV.v (Value.bool K) ∧ SV.v (Value.bool Ho) = SV.v (Value.bool Ho) ∧ SV.h (6 : Nat) [pe, (0 : Nat)] = SV.h (6 : Nat) [pe, (0 : Nat)] ∧ True) ∧ (SV.v (Value.int IntKind.i64 (nearI r (↑l.length : Int))) = SV.v (Value.int IntKind.i64 (if (0 : Int) ≤ row ∧ row ≤ (↑l.length : Int) - (1 : Int) then row else r)) ∧ SV.v (Value.int IntKind.i64 (nearI (if (↑(nC l) : Int) - (1 : Int) < col then (↑(nC l) : Int) - (1 : Int) else col) (↑(nC l) : Int))) = SV.v (Value.int IntKind.i64 (if (0 : Int) ≤ col then if (↑(nC l) : Int) - (1 : Int) < col then (↑(nC l) : Int) - (1 : Int) else col else c)) ∧ SV.v (Value.bool false) = SV.v (Value.bool false) ∧ SV.p (2 : Nat) (0 : Nat) = SV.p (2 : Nat) (0 : Nat) ∧ True) ∧ (SV.h (3 : Nat) [oe, (0 : Nat)] = SV.h (3 : Nat) [oe, (0 : Nat)] ∧ True) ∧ (oe = oe ∧ ep = ep ∧ l = l) ∧ (SV.h (5 : Nat) [qe, (0 : Nat)] = SV.h (5 : Nat) [qe, (0 : Nat)] ∧ SV.v (Value.int IntKind.i64 fr) = SV.v (Value.int IntKind.i64 fr) ∧ SV.v (Value.int IntKind.i64 n) = SV.v (Value.int IntKind.i64 n) ∧ SV.v (Value.bool ov) = SV.v (Value.bool ov) ∧ True) ∧ (m = m ∧ qe = qe ∧ xs = xs) ∧ (pl.length = pl.length ∧ pe = pe ∧ pl = pl) ∧ True) (true = true ∧ (oe = oe ∧ GW l) ∧ (SV.t [] = SV.t [] ∧ True) ∧ (SV.p (1 : Nat) (0 : Nat) = SV.p (1 : Nat) (0 : Nat) ∧ SV.p (4 : Nat) (0 : Nat) = SV.p (4 : Nat) (0 : Nat) ∧ SV.v (Value.bool G) = SV.v (Value.bool G) ∧ SV.v (Value.bool K) = SV.v (Value.bool K) ∧ SV.v (Value.bool Ho) = SV.v (Value.bool Ho) ∧ SV.h (6 : Nat) [pe, (0 : Nat)] = SV.h (6 : Nat) [pe, (0 : Nat)] ∧ True) ∧ (SV.v (Value.int IntKind.i64 (nearI r (↑l.length : Int))) = SV.v (Value.int IntKind.i64 (if (0 : Int) ≤ row ∧ row ≤ (↑l.length : Int) - (1 : Int) then row else r)) ∧ SV.v (Value.int IntKind.i64 (nearI c (↑(nC l) : Int))) = SV.v (Value.int IntKind.i64 (if (0 : Int) ≤ col then if (↑(nC l) : Int) - (1 : Int) < col then (↑(nC l) : Int) - (1 : Int) else col else c)) ∧ SV.v (Value.bool false) = SV.v (Value.bool false) ∧ SV.p (2 : Nat) (0 : Nat) = SV.p (2 : Nat) (0 : Nat) ∧ True) ∧ (SV.h (3 : Nat) [oe, (0 : Nat)] = SV.h (3 : Nat) [oe, (0 : Nat)] ∧ True) ∧ (oe = oe ∧ ep = ep ∧ l = l) ∧ (SV.h (5 : Nat) [qe, (0 : Nat)] = SV.h (5 : Nat) [qe, (0 : Nat)] ∧ SV.v (Value.int IntKind.i64 fr) = SV.v (Value.int IntKind.i64 fr) ∧ SV.v (Value.int IntKind.i64 n) = SV.v (Value.int IntKind.i64 n) ∧ SV.v (Value.bool ov) = SV.v (Value.bool ov) ∧ True) ∧ (m = m ∧ qe = qe ∧ xs = xs) ∧ (pl.length = pl.length ∧ pe = pe ∧ pl = pl) ∧ True))) (br (decide (col ≥ (0 : Int))) (true = true ∧ (oe = oe ∧ GW l) ∧ (SV.t [] = SV.t [] ∧ True) ∧ (SV.p (1 : Nat) (0 : Nat) = SV.p (1 : Nat) (0 : Nat) ∧ SV.p (4 : Nat) (0 : Nat) = SV.p (4 : Nat) (0 : Nat) ∧ SV.v (Value.bool G) = SV.v (Value.bool G) ∧ SV.v (Value.bool K) = SV.v (Value.bool K) ∧ SV.v (Value.bool Ho) = SV.v (Value.bool Ho) ∧ SV.h (6 : Nat) [pe, (0 : Nat)] = SV.h (6 : Nat) [pe, (0 : Nat)] ∧ True) ∧ (SV.v (Value.int IntKind.i64 (nearI r (↑l.length : Int))) = SV.v (Value.int IntKind.i64 (if (0 : Int) ≤ row ∧ row ≤ (↑l.length : Int) - (1 : Int) then row else r)) ∧ SV.v (Value.int IntKind.i64 (nearI (if (↑(nC l) : Int) - (1 : Int) < col then (↑(nC l) : Int) - (1 : Int) else col) (↑(nC l) : Int))) = SV.v (Value.int IntKind.i64 (if (0 : Int) ≤ col then if (↑(nC l) : Int) - (1 : Int) < col then (↑(nC l) : Int) - (1 : Int) else col else c)) ∧ SV.v (Value.bool false) = SV.v (Value.bool false) ∧ SV.p (2 : Nat) (0 : Nat) = SV.p (2 : Nat) (0 : Nat) ∧ True) ∧ (SV.h (3 : Nat) [oe, (0 : Nat)] = SV.h (3 : Nat) [oe, (0 : Nat)] ∧ True) ∧ (oe = oe ∧ ep = ep ∧ l = l) ∧ (SV.h (5 : Nat) [qe, (0 : Nat)] = SV.h (5 : Nat) [qe, (0 : Nat)] ∧ SV.v (Value.int IntKind.i64 fr) = SV.v (Value.int IntKind.i64 fr) ∧ SV.v (Value.int IntKind.i64 n) = SV.v (Value.int IntKind.i64 n) ∧ SV.v (Value.bool ov) = SV.v (Value.bool ov) ∧ True) ∧ (m = m ∧ qe = qe ∧ xs = xs) ∧ (pl.length = pl.length ∧ pe = pe ∧ pl = pl) ∧ True) (true = true ∧ (oe = oe ∧ GW l) ∧ (SV.t [] = SV.t [] ∧ True) ∧ (SV.p (1 : Nat) (0 : Nat) = SV.p (1 : Nat) (0 : Nat) ∧ SV.p (4 : Nat) (0 : Nat) = SV.p (4 : Nat) (0 : Nat) ∧ SV.v (Value.bool G) = SV.v (Value.bool G) ∧ SV.v (Value.bool K) = SV.v (Value.bool K) ∧ SV.v (Value.bool Ho) = SV.v (Value.bool Ho) ∧ SV.h (6 : Nat) [pe, (0 : Nat)] = SV.h (6 : Nat) [pe, (0 : Nat)] ∧ True) ∧ (SV.v (Value.int IntKind.i64 (nearI r (↑l.length : Int))) = SV.v (Value.int IntKind.i64 (if (0 : Int) ≤ row ∧ row ≤ (↑l.length : Int) - (1 : Int) then row else r)) ∧ SV.v (Value.int IntKind.i64 (nearI c (↑(nC l) : Int))) = SV.v (Value.int IntKind.i64 (if (0 : Int) ≤ col then if (↑(nC l) : Int) - (1 : Int) < col then (↑(nC l) : Int) - (1 : Int) else col else c)) ∧ SV.v (Value.bool false) = SV.v (Value.bool false) ∧ SV.p (2 : Nat) (0 : Nat) = SV.p (2 : Nat) (0 : Nat) ∧ True) ∧ (SV.h (3 : Nat) [oe, (0 : Nat)] = SV.h (3 : Nat) [oe, (0 : Nat)] ∧ True) ∧ (oe = oe ∧ ep = ep ∧ l = l) ∧ (SV.h (5 : Nat) [qe, (0 : Nat)] = SV.h (5 : Nat) [qe, (0 : Nat)] ∧ SV.v (Value.int IntKind.i64 fr) = SV.v (Value.int IntKind.i64 fr) ∧ SV.v (Value.int IntKind.i64 n) = SV.v (Value.int IntKind.i64 n) ∧ SV.v (Value.bool ov) = SV.v (Value.bool ov) ∧ True) ∧ (m = m ∧ qe = qe ∧ xs = xs) ∧ (pl.length = pl.length ∧ pe = pe ∧ pl = pl) ∧ True)))) (by kernel_rfl) ?_
  clear hp hφ
  obtain ⟨hg, r0, r1, c0, c1, hq, hl, hb⟩ := id hI
  simp only at hg r0 r1 c0 c1 hq hl hb
  have g1 := hg.r1
  have g3 := hg.c1
  have hT : TA (((), (), G, K, Ho, pe), (r, c, false, (), ()), oe, RC.mk l oe ep, (qe, fr, n, ov), OI.mk xs m qe, OI.mk pl pl.length pe) := ⟨rfl, rfl, rfl, rfl, rfl, hI⟩
  simp only [br_iff, rq_iff, hT, hg, decide_eq_true_eq, decide_eq_false_iff_not, true_and, and_true, and_self, SV.v.injEq, Value.int.injEq]
  have n1 : nearI r l.length = r := near_in r0 r1
  have n2 : nearI c (nC l) = c := near_in c0 c1
  have n3 : ∀ h : 0 ≤ row ∧ row ≤ (l.length : Int) - 1, nearI row l.length = row := fun h => near_in h.1 (by omega)
  have n4 : 0 ≤ col → nearI (if (nC l : Int) - 1 < col then (nC l : Int) - 1 else col) (nC l) = if (nC l : Int) - 1 < col then (nC l : Int) - 1 else col := fun h => near_in (by split <;> omega) (by split <;> omega)
  refine ⟨fun h1 => ⟨fun h2 => ⟨fun h3 => ?_, fun h3 => ?_⟩, fun h2 => ⟨fun h3 => ?_, fun h3 => ?_⟩⟩, fun h1 => ⟨fun h3 => ?_, fun h3 => ?_⟩⟩
  · rw [if_pos ⟨h1, h2⟩, if_pos h3, n3 ⟨h1, h2⟩, n4 h3]; exact ⟨rfl, rfl⟩
  · rw [if_pos ⟨h1, h2⟩, if_neg h3, n3 ⟨h1, h2⟩, n2]; exact ⟨rfl, rfl⟩
  · rw [if_neg (fun h => h2 h.2), if_pos h3, n1, n4 h3]; exact ⟨rfl, rfl⟩
  · rw [if_neg (fun h => h2 h.2), if_neg h3, n1, n2]; exact ⟨rfl, rfl⟩
  · rw [if_neg (fun h => h1 h.1), if_pos h3, n1, n4 h3]; exact ⟨rfl, rfl⟩
  · rw [if_neg (fun h => h1 h.1), if_neg h3, n1, n2]; exact ⟨rfl, rfl⟩
def lcTPut : ACon Unit := mkLC (decP (shCons (shP 0) (shOne (shInt .u8))) (shTm 0)) fun ((_, b), x) => .ask (TA x ∧ 0 ≤ b ∧ b ≤ 255) (.one (.t []) (tmE 0 x (puT (tmS x) b)) [1, 3])
set_option maxHeartbeats 4000000 in
theorem ok_tPut : ∀ I : Sym.Inv Unit, LCOk I Tryd.prog 26 lcTPut := by
  refine lc_mk (fun _ => allCfg Tryd.prog purT tabT12 0) (fun _ _ => allCfg_ok mixed purT_ok tabT12_ok) (fun _ => rfl) (n := 60) Tryd.func26 ?_
  intro ⟨⟨_, b⟩, ⟨_, _, G, K, Ho, pe⟩, ⟨r, c, p, _, _⟩, oe, ⟨l, oe2, ep⟩, ⟨qe, fr, n, ov⟩, ⟨xs, m, qe2⟩, ⟨pl, pn, pe2⟩⟩ hφ
  obtain ⟨⟨⟨rfl, rfl, rfl, rfl, rfl, hI⟩, hb0, hb1⟩, hp⟩ := id hφ
  refine kcast (B := (br G ((((3 : Int) = (1 : Int) ∨ (3 : Int) = (3 : Int)) ∧ (0 : Int) ≤ b ∧ b ≤ (255 : Int)) ∧ true = true ∧ (oe = oe ∧ false = false ∧ GW l) ∧ (SV.t [] = SV.t [] ∧ True) ∧ (SV.p (1 : Nat) (0 : Nat) = SV.p (1 : Nat) (0 : Nat) ∧ SV.p (4 : Nat) (0 : Nat) = SV.p (4 : Nat) (0 : Nat) ∧ SV.v (Value.bool G) = SV.v (Value.bool G) ∧ SV.v (Value.bool K) = SV.v (Value.bool K) ∧ SV.v (Value.bool Ho) = SV.v (Value.bool Ho) ∧ SV.h (6 : Nat) [pe, (0 : Nat)] = SV.h (6 : Nat) [pe, (0 : Nat)] ∧ True) ∧ (SV.v (Value.int IntKind.i64 (bhR (↑l.length : Int) (↑(nC l) : Int) (ahR (↑l.length : Int) r false) (ahC (↑(nC l) : Int) c false) (1 : Int))) = SV.v (Value.int IntKind.i64 r) ∧ SV.v (Value.int IntKind.i64 (bhC (↑l.length : Int) (↑(nC l) : Int) (ahR (↑l.length : Int) r false) (ahC (↑(nC l) : Int) c false) (1 : Int))) = SV.v (Value.int IntKind.i64 (if c + (1 : Int) < (↑(nC l) : Int) then c + (1 : Int) else c)) ∧ SV.v (Value.bool (bhP (↑l.length : Int) (↑(nC l) : Int) (ahR (↑l.length : Int) r false) (ahC (↑(nC l) : Int) c false) (1 : Int))) = SV.v (Value.bool false) ∧ SV.p (2 : Nat) (0 : Nat) = SV.p (2 : Nat) (0 : Nat) ∧ True) ∧ (SV.h (3 : Nat) [oe, (0 : Nat)] = SV.h (3 : Nat) [oe, (0 : Nat)] ∧ True) ∧ (oe = oe ∧ riE (puU l r c false (1 : Int)) (riE (ahU (↑l.length : Int) r false) ep) = ep ∧ puL l r c false (C4.mk (ofT (3 : Int) b) (0 : Int) false (0 : Int)) (1 : Int) blankC = set2 l r c (C4.mk (glT G b) (0 : Int) false (0 : Int))) ∧ (SV.h (5 : Nat) [qe, (0 : Nat)] = SV.h (5 : Nat) [qe, (0 : Nat)] ∧ SV.v (Value.int IntKind.i64 fr) = SV.v (Value.int IntKind.i64 fr) ∧ SV.v (Value.int IntKind.i64 n) = SV.v (Value.int IntKind.i64 n) ∧ SV.v (Value.bool ov) = SV.v (Value.bool ov) ∧ True) ∧ (m = m ∧ qe = qe ∧ xs = xs) ∧ (pl.length = pl.length ∧ pe = pe ∧ pl = pl) ∧ True) ((((1 : Int) = (1 : Int) ∨ (1 : Int) = (3 : Int)) ∧ (0 : Int) ≤ b ∧ b ≤ (255 : Int)) ∧ true = true ∧ (oe = oe ∧ false = false ∧ GW l) ∧ (SV.t [] = SV.t [] ∧ True) ∧ (SV.p (1 : Nat) (0 : Nat) = SV.p (1 : Nat) (0 : Nat) ∧ SV.p (4 : Nat) (0 : Nat) = SV.p (4 : Nat) (0 : Nat) ∧ SV.v (Value.bool G) = SV.v (Value.bool G) ∧ SV.v (Value.bool K) = SV.v (Value.bool K) ∧ SV.v (Value.bool Ho) = SV.v (Value.bool Ho) ∧ SV.h (6 : Nat) [pe, (0 : Nat)] = SV.h (6 : Nat) [pe, (0 : Nat)] ∧ True) ∧ (SV.v (Value.int IntKind.i64 (bhR (↑l.length : Int) (↑(nC l) : Int) (ahR (↑l.length : Int) r false) (ahC (↑(nC l) : Int) c false) (1 : Int))) = SV.v (Value.int IntKind.i64 r) ∧ SV.v (Value.int IntKind.i64 (bhC (↑l.length : Int) (↑(nC l) : Int) (ahR (↑l.length : Int) r false) (ahC (↑(nC l) : Int) c false) (1 : Int))) = SV.v (Value.int IntKind.i64 (if c + (1 : Int) < (↑(nC l) : Int) then c + (1 : Int) else c)) ∧ SV.v (Value.bool (bhP (↑l.length : Int) (↑(nC l) : Int) (ahR (↑l.length : Int) r false) (ahC (↑(nC l) : Int) c false) (1 : Int))) = SV.v (Value.bool false) ∧ SV.p (2 : Nat) (0 : Nat) = SV.p (2 : Nat) (0 : Nat) ∧ True) ∧ (SV.h (3 : Nat) [oe, (0 : Nat)] = SV.h (3 : Nat) [oe, (0 : Nat)] ∧ True) ∧ (oe = oe ∧ riE (puU l r c false (1 : Int)) (riE (ahU (↑l.length : Int) r false) ep) = ep ∧ puL l r c false (C4.mk (ofT (1 : Int) b) (0 : Int) false (0 : Int)) (1 : Int) blankC = set2 l r c (C4.mk (glT G b) (0 : Int) false (0 : Int))) ∧ (SV.h (5 : Nat) [qe, (0 : Nat)] = SV.h (5 : Nat) [qe, (0 : Nat)] ∧ SV.v (Value.int IntKind.i64 fr) = SV.v (Value.int IntKind.i64 fr) ∧ SV.v (Value.int IntKind.i64 n) = SV.v (Value.int IntKind.i64 n) ∧ SV.v (Value.bool ov) = SV.v (Value.bool ov) ∧ True) ∧ (m = m ∧ qe = qe ∧ xs = xs) ∧ (pl.length = pl.length ∧ pe = pe ∧ pl = pl) ∧ True))) (by kernel_rfl) ?_
  clear hp hφ
  obtain ⟨hg, r0, r1, c0, c1, hq, hl, hb⟩ := id hI
  simp only at hg r0 r1 c0 c1 hq hl hb
  have g1 := hg.r1
  have g3 := hg.c1
  have n1 : nearI r l.length = r := near_in r0 r1
  have n2 : nearI c (nC l) = c := near_in c0 c1
  have a1 : ahR l.length r false = r := n1
  have a2 : ahC (nC l) c false = c := n2
  have a3 : ahU l.length r false = false := rfl
  have b0 : bhIn (nC l) c = decide (c + 1 < nC l) := by unfold bhIn; rw [n2]; congr 1; apply propext; omega
  have b1 : bhR l.length (nC l) r c 1 = r := by unfold bhR; rw [n1]; split <;> rfl
  have b2 : bhC l.length (nC l) r c 1 = if c + 1 < nC l then c + 1 else c := by unfold bhC; rw [b0, n2]; by_cases h : c + 1 < nC l <;> simp [h]
  have b3 : bhP l.length (nC l) r c 1 = false := by unfold bhP; simp
  have b4 : puU l r c false 1 = false := by unfold puU bhU; simp
  have b5 : ∀ x, puL l r c false x 1 blankC = set2 l r c x := fun x => by unfold puL puL1; rw [b4, a1, a2, a3]; rfl
  have b6 : riE false ep = ep := rfl
  cases G <;> simp [br_iff, rq_iff, hg, a1, a2, a3, b1, b2, b3, b4, b5, b6, hb0, hb1, glT]
end Go.Proofs.YtcbjgpkbfmmdpaaDoor
