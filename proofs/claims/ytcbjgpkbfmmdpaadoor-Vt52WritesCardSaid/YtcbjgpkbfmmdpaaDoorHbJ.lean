/- Layer 12: Reset, Drop, Modes, Pending, and awake: contracts. -/
import Derived.Test.YtcbjgpkbfmmdpaaDoorHbI
set_option linter.unusedSimpArgs false
set_option linter.unusedVariables false
set_option linter.unusedSectionVars false
namespace Go.Proofs.YtcbjgpkbfmmdpaaDoor
open Go Go.Sym

/-- All is as it was made. -/
def rsT (s : Tm) : Tm := moT (wpT { s with G := false, K := false, Ho := false, pl := [], pe := s.pe + 1 } 0 0 ((s.l.length : Int) - 1) ((nC s.l : Int) - 1)) 0 0
def drT (s : Tm) : Tm := { s with pl := [], pe := s.pe + 1 }
def lcTReset : ACon Unit := mkLC (decP (shOne (shP 0)) (shTm 0)) fun (_, x) => .ask (TA x) (.one (.t []) (tmE 0 x (rsT (tmS x))) [0, 1, 3, 6])
set_option maxHeartbeats 4000000 in
theorem ok_tReset : ∀ I : Sym.Inv Unit, LCOk I Tryd.prog 21 lcTReset := by
  refine lc_mk (fun (_, x) => allCfg Tryd.prog [] ((35, lcMove) :: tabT12) 0 [] [(137, annNil [0] false false false ((tmS x).pe + 1))]) (fun _ _ => allCfg_ok mixed trivial ⟨ok_move, tabT12_ok⟩) (fun _ => rfl) (n := 60) Tryd.func21 ?_
  intro ⟨_, ⟨_, _, G, K, Ho, pe⟩, ⟨r, c, p, _, _⟩, oe, ⟨l, oe2, ep⟩, ⟨qe, fr, n, ov⟩, ⟨xs, m, qe2⟩, ⟨pl, pn, pe2⟩⟩ hφ
  obtain ⟨⟨rfl, rfl, rfl, rfl, rfl, hI⟩, hp⟩ := id hφ
  refine kcast (B := ((True ∧ (SV.p (0 : Nat) (0 : Nat) = SV.p (0 : Nat) (0 : Nat) ∧ True) ∧ (SV.p (1 : Nat) (0 : Nat) = SV.p (1 : Nat) (0 : Nat) ∧ SV.p (4 :
        Nat) (0 : Nat) = SV.p (4 : Nat) (0 : Nat) ∧ SV.v (Value.bool false) = SV.v (Value.bool false) ∧ SV.v (Value.bool false) = SV.v (Value.bool false) ∧ SV.v
        (Value.bool false) = SV.v (Value.bool false) ∧ SV.h (6 : Nat) [pe + (1 : Nat), (0 : Nat)] = SV.h (6 : Nat) [pe + (1 : Nat), (0 : Nat)] ∧ True) ∧ (SV.v
        (Value.int IntKind.i64 r) = SV.v (Value.int IntKind.i64 r) ∧ SV.v (Value.int IntKind.i64 c) = SV.v (Value.int IntKind.i64 c) ∧ SV.v (Value.bool false) = SV.v
        (Value.bool false) ∧ SV.p (2 : Nat) (0 : Nat) = SV.p (2 : Nat) (0 : Nat) ∧ True) ∧ (SV.h (3 : Nat) [oe, (0 : Nat)] = SV.h (3 : Nat) [oe, (0 : Nat)] ∧ True) ∧
        (oe = oe ∧ ep = ep ∧ l = l) ∧ (SV.h (5 : Nat) [qe, (0 : Nat)] = SV.h (5 : Nat) [qe, (0 : Nat)] ∧ SV.v (Value.int IntKind.i64 fr) = SV.v (Value.int IntKind.i64
        fr) ∧ SV.v (Value.int IntKind.i64 n) = SV.v (Value.int IntKind.i64 n) ∧ SV.v (Value.bool ov) = SV.v (Value.bool ov) ∧ True) ∧ (m = m ∧ qe = qe ∧ xs = xs) ∧ ((0
        : Nat) = (0 : Nat) ∧ pe + (1 : Nat) = pe + (1 : Nat) ∧ LI [] = LI []) ∧ True) ∧ ∀ (x : Nat), True → true = true ∧ TA (((), (), false, false, false, pe + (1 :
        Nat)), (r, c, false, (), ()), oe, RC.mk l oe ep, (qe, fr, n, ov), OI.mk xs m qe, OI.mk (LI []) (0 : Nat) (pe + (1 : Nat))) ∧ true = true ∧ TA (((), (), false,
        false, false, pe + (1 : Nat)), (r, c, false, (), ()), oe, RC.mk l oe ep, (qe, fr, n, ov), OI.mk xs m qe, OI.mk (LI []) (LI []).length (pe + (1 : Nat))) ∧ true =
        true ∧ (oe = oe ∧ GW (wiL l (nearI (0 : Int) (↑l.length : Int)) (nearI (0 : Int) (↑(nC l) : Int)) (nearI ((↑l.length : Int) - (1 : Int)) (↑l.length : Int))
        (nearI ((↑(nC l) : Int) - (1 : Int)) (↑(nC l) : Int)) blankC false)) ∧ (SV.t [] = SV.t [] ∧ True) ∧ (SV.p (1 : Nat) (0 : Nat) = SV.p (1 : Nat) (0 : Nat) ∧ SV.p
        (4 : Nat) (0 : Nat) = SV.p (4 : Nat) (0 : Nat) ∧ SV.v (Value.bool false) = SV.v (Value.bool false) ∧ SV.v (Value.bool false) = SV.v (Value.bool false) ∧ SV.v
        (Value.bool false) = SV.v (Value.bool false) ∧ SV.h (6 : Nat) [pe + (1 : Nat), (0 : Nat)] = SV.h (6 : Nat) [pe + (1 : Nat), (0 : Nat)] ∧ True) ∧ (SV.v
        (Value.int IntKind.i64 (nearI (0 : Int) (↑(wiL l (nearI (0 : Int) (↑l.length : Int)) (nearI (0 : Int) (↑(nC l) : Int)) (nearI ((↑l.length : Int) - (1 : Int))
        (↑l.length : Int)) (nearI ((↑(nC l) : Int) - (1 : Int)) (↑(nC l) : Int)) blankC false).length : Int))) = SV.v (Value.int IntKind.i64 (nearI (0 : Int) (↑(wiL l
        (nearI (0 : Int) (↑l.length : Int)) (nearI (0 : Int) (↑(nC l) : Int)) (nearI ((↑l.length : Int) - (1 : Int)) (↑l.length : Int)) (nearI ((↑(nC l) : Int) - (1 :
        Int)) (↑(nC l) : Int)) blankC false).length : Int))) ∧ SV.v (Value.int IntKind.i64 (nearI (0 : Int) (↑(nC (wiL l (nearI (0 : Int) (↑l.length : Int)) (nearI (0 :
        Int) (↑(nC l) : Int)) (nearI ((↑l.length : Int) - (1 : Int)) (↑l.length : Int)) (nearI ((↑(nC l) : Int) - (1 : Int)) (↑(nC l) : Int)) blankC false)) : Int))) =
        SV.v (Value.int IntKind.i64 (nearI (0 : Int) (↑(nC (wiL l (nearI (0 : Int) (↑l.length : Int)) (nearI (0 : Int) (↑(nC l) : Int)) (nearI ((↑l.length : Int) - (1 :
        Int)) (↑l.length : Int)) (nearI ((↑(nC l) : Int) - (1 : Int)) (↑(nC l) : Int)) blankC false)) : Int))) ∧ SV.v (Value.bool false) = SV.v (Value.bool false) ∧
        SV.p (2 : Nat) (0 : Nat) = SV.p (2 : Nat) (0 : Nat) ∧ True) ∧ (SV.h (3 : Nat) [oe, (0 : Nat)] = SV.h (3 : Nat) [oe, (0 : Nat)] ∧ True) ∧ (oe = oe ∧ ep = ep ∧
        wiL l (nearI (0 : Int) (↑l.length : Int)) (nearI (0 : Int) (↑(nC l) : Int)) (nearI ((↑l.length : Int) - (1 : Int)) (↑l.length : Int)) (nearI ((↑(nC l) : Int) -
        (1 : Int)) (↑(nC l) : Int)) blankC false = wiL l (nearI (0 : Int) (↑l.length : Int)) (nearI (0 : Int) (↑(nC l) : Int)) (nearI ((↑l.length : Int) - (1 : Int))
        (↑l.length : Int)) (nearI ((↑(nC l) : Int) - (1 : Int)) (↑(nC l) : Int)) blankC false) ∧ (SV.h (5 : Nat) [qe, (0 : Nat)] = SV.h (5 : Nat) [qe, (0 : Nat)] ∧ SV.v
        (Value.int IntKind.i64 fr) = SV.v (Value.int IntKind.i64 fr) ∧ SV.v (Value.int IntKind.i64 n) = SV.v (Value.int IntKind.i64 n) ∧ SV.v (Value.bool ov) = SV.v
        (Value.bool ov) ∧ True) ∧ (m = m ∧ qe = qe ∧ xs = xs) ∧ ((LI []).length = (LI []).length ∧ pe + (1 : Nat) = pe + (1 : Nat) ∧ LI [] = LI []) ∧ True)) (by
        kernel_rfl) ?_
  clear hp hφ
  have hT : TA (((), (), false, false, false, pe + 1), (r, c, false, (), ()), oe, RC.mk l oe ep, (qe, fr, n, ov), OI.mk xs m qe, OI.mk [] 0 (pe + 1)) := ⟨rfl, rfl, rfl, rfl, rfl, hI.gw, hI.r0, hI.r1, hI.c0, hI.c1, hI.q, by simp, fun x hx => by simp at hx⟩
  have hg := hI.gw
  simp only at hg
  have hg2 := fun a b c d => (wi_gw hg a b c d blankC false).1
  simp [hT, hg2]
def lcTDrop : ACon Unit := mkLC (decP (shOne (shP 0)) (shTm 0)) fun (_, x) => .ask (TA x) (.one (.t []) (tmE 0 x (drT (tmS x))) [0, 6])
set_option maxHeartbeats 4000000 in
theorem ok_tDrop : ∀ I : Sym.Inv Unit, LCOk I Tryd.prog 19 lcTDrop := by
  refine lc_mkF (fun _ => [.nilInto 0 5 6]) (fun _ => allCfg Tryd.prog [] tabT12 0) (fun _ _ => allCfg_ok mixed trivial tabT12_ok) (fun _ => rfl) (n := 60) Tryd.func19 ?_
  intro ⟨_, ⟨_, _, G, K, Ho, pe⟩, ⟨r, c, p, _, _⟩, oe, ⟨l, oe2, ep⟩, ⟨qe, fr, n, ov⟩, ⟨xs, m, qe2⟩, ⟨pl, pn, pe2⟩⟩ hφ
  obtain ⟨⟨rfl, rfl, rfl, rfl, rfl, hI⟩, hp⟩ := id hφ
  refine kcast (B := ((SV.t [] = SV.t [] ∧ True) ∧ (SV.p (1 : Nat) (0 : Nat) = SV.p (1 : Nat) (0 : Nat) ∧ SV.p (4 : Nat) (0 : Nat) = SV.p (4 : Nat) (0 : Nat) ∧
        SV.v (Value.bool G) = SV.v (Value.bool G) ∧ SV.v (Value.bool K) = SV.v (Value.bool K) ∧ SV.v (Value.bool Ho) = SV.v (Value.bool Ho) ∧ SV.h (6 : Nat) [pe + (1 :
        Nat), (0 : Nat)] = SV.h (6 : Nat) [pe + (1 : Nat), (0 : Nat)] ∧ True) ∧ (SV.v (Value.int IntKind.i64 r) = SV.v (Value.int IntKind.i64 r) ∧ SV.v (Value.int
        IntKind.i64 c) = SV.v (Value.int IntKind.i64 c) ∧ SV.v (Value.bool false) = SV.v (Value.bool false) ∧ SV.p (2 : Nat) (0 : Nat) = SV.p (2 : Nat) (0 : Nat) ∧
        True) ∧ (SV.h (3 : Nat) [oe, (0 : Nat)] = SV.h (3 : Nat) [oe, (0 : Nat)] ∧ True) ∧ (oe = oe ∧ ep = ep ∧ l = l) ∧ (SV.h (5 : Nat) [qe, (0 : Nat)] = SV.h (5 :
        Nat) [qe, (0 : Nat)] ∧ SV.v (Value.int IntKind.i64 fr) = SV.v (Value.int IntKind.i64 fr) ∧ SV.v (Value.int IntKind.i64 n) = SV.v (Value.int IntKind.i64 n) ∧
        SV.v (Value.bool ov) = SV.v (Value.bool ov) ∧ True) ∧ (m = m ∧ qe = qe ∧ xs = xs) ∧ ((0 : Nat) = (LI []).length ∧ pe + (1 : Nat) = pe + (1 : Nat) ∧ LI [] = LI
        []) ∧ True)) (by kernel_rfl) ?_
  simp
def lcTModes : ACon Unit := mkLC (decP (shOne (shP 0)) (shTm 0)) fun (_, x) => .ask (TA x) (.one (.a [.v (.bool (tmS x).G), .v (.bool (tmS x).K), .v (.bool (tmS x).Ho)]) (tmE 0 x (tmS x)) [])
set_option maxHeartbeats 4000000 in
theorem ok_tModes : ∀ I : Sym.Inv Unit, LCOk I Tryd.prog 17 lcTModes := by
  refine lc_mk (fun _ => allCfg Tryd.prog [] tabT12 0) (fun _ _ => allCfg_ok mixed trivial tabT12_ok) (fun _ => rfl) (n := 60) Tryd.func17 ?_
  intro ⟨_, ⟨_, _, G, K, Ho, pe⟩, ⟨r, c, p, _, _⟩, oe, ⟨l, oe2, ep⟩, ⟨qe, fr, n, ov⟩, ⟨xs, m, qe2⟩, ⟨pl, pn, pe2⟩⟩ hφ
  obtain ⟨⟨rfl, rfl, rfl, rfl, rfl, hI⟩, hp⟩ := id hφ
  refine kcast (B := ((SV.a [SV.v (Value.bool G), SV.v (Value.bool K), SV.v (Value.bool Ho)] = SV.a [SV.v (Value.bool G), SV.v (Value.bool K), SV.v (Value.bool
        Ho)] ∧ True) ∧ (SV.p (1 : Nat) (0 : Nat) = SV.p (1 : Nat) (0 : Nat) ∧ SV.p (4 : Nat) (0 : Nat) = SV.p (4 : Nat) (0 : Nat) ∧ SV.v (Value.bool G) = SV.v
        (Value.bool G) ∧ SV.v (Value.bool K) = SV.v (Value.bool K) ∧ SV.v (Value.bool Ho) = SV.v (Value.bool Ho) ∧ SV.h (6 : Nat) [pe, (0 : Nat)] = SV.h (6 : Nat) [pe,
        (0 : Nat)] ∧ True) ∧ (SV.v (Value.int IntKind.i64 r) = SV.v (Value.int IntKind.i64 r) ∧ SV.v (Value.int IntKind.i64 c) = SV.v (Value.int IntKind.i64 c) ∧ SV.v
        (Value.bool false) = SV.v (Value.bool false) ∧ SV.p (2 : Nat) (0 : Nat) = SV.p (2 : Nat) (0 : Nat) ∧ True) ∧ (SV.h (3 : Nat) [oe, (0 : Nat)] = SV.h (3 : Nat)
        [oe, (0 : Nat)] ∧ True) ∧ (oe = oe ∧ ep = ep ∧ l = l) ∧ (SV.h (5 : Nat) [qe, (0 : Nat)] = SV.h (5 : Nat) [qe, (0 : Nat)] ∧ SV.v (Value.int IntKind.i64 fr) =
        SV.v (Value.int IntKind.i64 fr) ∧ SV.v (Value.int IntKind.i64 n) = SV.v (Value.int IntKind.i64 n) ∧ SV.v (Value.bool ov) = SV.v (Value.bool ov) ∧ True) ∧ (m = m
        ∧ qe = qe ∧ xs = xs) ∧ (pl.length = pl.length ∧ pe = pe ∧ pl = pl) ∧ True)) (by kernel_rfl) ?_
  simp
def lcTPend : ACon Unit := mkLC (decP (shOne (shP 0)) (shTm 0)) fun (_, x) => .ask (TA x) (.one (.v (.string (bytesOf (tmS x).pl))) (tmE 0 x (tmS x)) [])
set_option maxHeartbeats 4000000 in
theorem ok_tPend : ∀ I : Sym.Inv Unit, LCOk I Tryd.prog 18 lcTPend := by
  refine lc_mk (fun _ => allCfg Tryd.prog [] tabT12 0) (fun _ _ => allCfg_ok mixed trivial tabT12_ok) (fun _ => rfl) (n := 60) Tryd.func18 ?_
  intro ⟨_, ⟨_, _, G, K, Ho, pe⟩, ⟨r, c, p, _, _⟩, oe, ⟨l, oe2, ep⟩, ⟨qe, fr, n, ov⟩, ⟨xs, m, qe2⟩, ⟨pl, pn, pe2⟩⟩ hφ
  obtain ⟨⟨rfl, rfl, rfl, rfl, rfl, hI⟩, hp⟩ := id hφ
  refine kcast (B := (rq (pe.beq pe && true && pl.length.beq pl.length) ((SV.v (Value.string (bytesOf pl)) = SV.v (Value.string (bytesOf pl)) ∧ True) ∧ (SV.p (1
        : Nat) (0 : Nat) = SV.p (1 : Nat) (0 : Nat) ∧ SV.p (4 : Nat) (0 : Nat) = SV.p (4 : Nat) (0 : Nat) ∧ SV.v (Value.bool G) = SV.v (Value.bool G) ∧ SV.v (Value.bool
        K) = SV.v (Value.bool K) ∧ SV.v (Value.bool Ho) = SV.v (Value.bool Ho) ∧ SV.h (6 : Nat) [pe, (0 : Nat)] = SV.h (6 : Nat) [pe, (0 : Nat)] ∧ True) ∧ (SV.v
        (Value.int IntKind.i64 r) = SV.v (Value.int IntKind.i64 r) ∧ SV.v (Value.int IntKind.i64 c) = SV.v (Value.int IntKind.i64 c) ∧ SV.v (Value.bool false) = SV.v
        (Value.bool false) ∧ SV.p (2 : Nat) (0 : Nat) = SV.p (2 : Nat) (0 : Nat) ∧ True) ∧ (SV.h (3 : Nat) [oe, (0 : Nat)] = SV.h (3 : Nat) [oe, (0 : Nat)] ∧ True) ∧
        (oe = oe ∧ ep = ep ∧ l = l) ∧ (SV.h (5 : Nat) [qe, (0 : Nat)] = SV.h (5 : Nat) [qe, (0 : Nat)] ∧ SV.v (Value.int IntKind.i64 fr) = SV.v (Value.int IntKind.i64
        fr) ∧ SV.v (Value.int IntKind.i64 n) = SV.v (Value.int IntKind.i64 n) ∧ SV.v (Value.bool ov) = SV.v (Value.bool ov) ∧ True) ∧ (m = m ∧ qe = qe ∧ xs = xs) ∧
        (pl.length = pl.length ∧ pe = pe ∧ pl = pl) ∧ True))) (by kernel_rfl) ?_
  simp [nbeq, rq_iff]

/-! ### A world that is new -/
theorem newL_gridF (R C : Nat) (x : C4) : newL R C x = gridF R C fun _ _ => x := by
  unfold newL gridF
  apply List.ext_getElem
  · simp
  · intro i h1 h2
    simp only [List.getElem_replicate, List.getElem_map]
    apply List.ext_getElem <;> simp
theorem newL_gw {R D : Nat} {x : C4} (h0 : 1 ≤ R) (h1 : R ≤ 255) (h2 : 1 ≤ D) (h3 : D ≤ 255) : GW (newL R D x) := by rw [newL_gridF]; exact gridF_gw h0 h1 h2 h3
theorem newL_length (R D : Nat) (x : C4) : (newL R D x).length = R := by rw [newL_gridF, gridF_length]
theorem newL_nC {R D : Nat} {x : C4} (h0 : 1 ≤ R) : nC (newL R D x) = D := by rw [newL_gridF]; exact gridF_nC (by omega)
/-- A terminal that is new. -/
def newT (a b m : Int) : Tm := ⟨0, 0, newL a.toNat b.toNat blankC, a.toNat + 1, false, false, false, 0, false, List.replicate m.toNat 0, 0, []⟩
theorem newT_ti {a b m : Int} (hm : mayB a b = true) (h0 : 0 ≤ m) (h1 : m ≤ 4096) : TI 0 m.toNat (newT a b m) := by
  have hb := mayB_iff.1 hm
  have e1 := newL_length a.toNat b.toNat blankC
  have e2 := newL_nC (R := a.toNat) (D := b.toNat) (x := blankC) (by omega)
  refine ⟨newL_gw (by omega) (by omega) (by omega) (by omega), Int.le_refl 0, ?_, Int.le_refl 0, ?_, ⟨by simp [newT], by omega, Int.le_refl 0, by omega, Int.le_refl 0, by simp only [newT]; omega, fun x hx => ?_⟩, by simp [newT], fun x hx => by simp [newT] at hx⟩
  · simp only [newT]; rw [e1]; omega
  · simp only [newT]; rw [e2]; omega
  · simp only [newT, List.mem_replicate] at hx; omega
def tabW12 : List (Nat × ACon Unit) := (10, lcMade) :: (11, lcTFeed) :: (13, lcSAt) :: (12, lcCur) :: []
theorem tabW12_ok : LCs Tryd.prog tabW12 := ⟨ok_made, ok_tFeed, ok_sAt, ok_cur, trivial⟩
def wakeB : ByteArray := ⟨#[27, 89, 35, 37, 120]⟩
def wakeT : Tm := feedT 10 0 (newT 10 20 10) (bytesL wakeB)
def lcAwake : ACon Unit := mkLC (decP shNil shHNil) fun _ => .one (.v (.bool true)) [] []
set_option maxHeartbeats 4000000 in
theorem ok_awake : ∀ I : Sym.Inv Unit, LCOk I Tryd.prog 9 lcAwake := by
  refine lc_mk (fun _ => allCfg Tryd.prog [] tabW12 0) (fun _ _ => allCfg_ok mixed trivial tabW12_ok) (fun _ => rfl) (n := 80) Tryd.func9 ?_
  intro ⟨_, _⟩ hφ
  refine kcast (B := (true = true ∧ (true = true ∧ II (0 : Int) ≤ (10 : Int) ∧ II (10 : Int) ≤ (4096 : Int)) ∧ true = true ∧ (TA (((), (), false, false, false,
        (0 : Nat)), ((0 : Int), (0 : Int), false, (), ()), (11 : Nat), RC.mk (newL (10 : Nat) (20 : Nat) blankC) (11 : Nat) (11 : Nat), ((0 : Nat), (0 : Int), (0 :
        Int), false), OI.mk (LI [(0 : Int), (0 : Int), (0 : Int), (0 : Int), (0 : Int), (0 : Int), (0 : Int), (0 : Int), (0 : Int), (0 : Int)]) (10 : Nat) (0 : Nat),
        OI.mk (LI []) (0 : Nat) (0 : Nat)) ∧ (5 : Nat) ≤ (1099511627776 : Nat)) ∧ true = true ∧ ((11 : Nat) = (11 : Nat) ∧ GW [[blankC, blankC, blankC, blankC, blankC,
        blankC, blankC, blankC, blankC, blankC, blankC, blankC, blankC, blankC, blankC, blankC, blankC, blankC, blankC, blankC], [blankC, blankC, blankC, blankC,
        blankC, blankC, blankC, blankC, blankC, blankC, blankC, blankC, blankC, blankC, blankC, blankC, blankC, blankC, blankC, blankC], [blankC, blankC, blankC,
        blankC, blankC, blankC, blankC, blankC, blankC, blankC, blankC, blankC, blankC, blankC, blankC, blankC, blankC, blankC, blankC, blankC], [blankC, blankC,
        blankC, blankC, blankC, C4.mk (120 : Int) (0 : Int) false (0 : Int), blankC, blankC, blankC, blankC, blankC, blankC, blankC, blankC, blankC, blankC, blankC,
        blankC, blankC, blankC], [blankC, blankC, blankC, blankC, blankC, blankC, blankC, blankC, blankC, blankC, blankC, blankC, blankC, blankC, blankC, blankC,
        blankC, blankC, blankC, blankC], [blankC, blankC, blankC, blankC, blankC, blankC, blankC, blankC, blankC, blankC, blankC, blankC, blankC, blankC, blankC,
        blankC, blankC, blankC, blankC, blankC], [blankC, blankC, blankC, blankC, blankC, blankC, blankC, blankC, blankC, blankC, blankC, blankC, blankC, blankC,
        blankC, blankC, blankC, blankC, blankC, blankC], [blankC, blankC, blankC, blankC, blankC, blankC, blankC, blankC, blankC, blankC, blankC, blankC, blankC,
        blankC, blankC, blankC, blankC, blankC, blankC, blankC], [blankC, blankC, blankC, blankC, blankC, blankC, blankC, blankC, blankC, blankC, blankC, blankC,
        blankC, blankC, blankC, blankC, blankC, blankC, blankC, blankC], [blankC, blankC, blankC, blankC, blankC, blankC, blankC, blankC, blankC, blankC, blankC,
        blankC, blankC, blankC, blankC, blankC, blankC, blankC, blankC, blankC]] ∧ true = true) ∧ true = true ∧ (SV.v (Value.bool true) = SV.v (Value.bool true) ∧ True)
        ∧ True)) (by kernel_rfl) ?_
  have hT : TA (((), (), false, false, false, 0), (0, 0, false, (), ()), 11, RC.mk (newL 10 20 blankC) 11 11, (0, 0, 0, false), OI.mk [0, 0, 0, 0, 0, 0, 0, 0, 0, 0] 10 0, OI.mk [] 0 0) := ⟨rfl, rfl, rfl, rfl, rfl, newT_ti (a := 10) (b := 20) (m := 10) (by decide) (by decide) (by decide)⟩
  refine ⟨rfl, ⟨rfl, by decide, by decide⟩, rfl, ⟨hT, by decide⟩, rfl, ⟨rfl, ⟨by decide, by decide, by decide, by decide, by decide⟩, rfl⟩, rfl, ⟨rfl, trivial⟩, trivial⟩
end Go.Proofs.YtcbjgpkbfmmdpaaDoor
