/- Layer 7: a call, done with both; the same, as plain laws. -/
import Derived.Test.YtdhhagangmkloaaGcT
set_option linter.unusedSimpArgs false
set_option linter.unusedVariables false
set_option linter.unusedSectionVars false
namespace Go.Proofs.Ytdhhagangmkloaa
open Go Go.Sym

def hOp (ask : Int) (c : C4) (q : Bool) (x : C4) : C4 := if ask = 0 then hWipe c q x else if ask = 1 then hDye c.a q x else hShield c.gd x
theorem hOp_0 (c : C4) (q : Bool) : hOp 0 c q = hWipe c q := by funext x; simp [hOp]
theorem hOp_1 (c : C4) (q : Bool) : hOp 1 c q = hDye c.a q := by funext x; simp [hOp]
theorem hOp_2 {ask : Int} (h0 : ask ≠ 0) (h1 : ask ≠ 1) (c : C4) (q : Bool) : hOp ask c q = hShield c.gd := by funext x; simp [hOp, h0, h1]
theorem hDo_0 (c : C4) (q : Bool) : hDo c 0 q = hWipe c q := by funext x; simp [hDo, turned, hWipe]
theorem hDo_1 (c : C4) (q : Bool) : hDo c 1 q = hDye c.a q := by funext x; simp [hDo, turned, hDye]
theorem hDo_2 (c : C4) : hDo c 2 false = hShield c.gd := by funext x; simp [hDo, turned, hShield]
def tabU0 : List (Nat × ACon Unit) := (38, lcWipe1) :: (66, lcDye1) :: (67, lcShield1) :: (68, lcDo) :: tabT1
theorem tabU0_ok : LCs Try.prog tabU0 := ⟨ok_wipe1, ok_dye1, ok_shield1, ok_do, tabT1_ok⟩
abbrev shOp7 : ShL (Int × Int × Int × Int × Int × Int × Int × Bool × Int × Bool) := shCons shI (shCons shI (shCons shI (shCons shI (shCons shI (shCons (shInt .i32) (shCons shI (shCons shB (shCons shI (shOne shB)))))))))
def lcDoes7 : ACon Unit := mkLC (decP (shCons (shP 0) (shOne (shA shOp7))) shG) fun ((_, (ask, ar, ac, br, bc, g, a, gd, m, q)), (oe, ⟨l, oe2, ep⟩)) => .ask (oe = oe2 ∧ GW l) (turnA (hOp ask ⟨g, a, gd, m⟩ q) l ar ac br bc oe ep)
set_option maxHeartbeats 4000000 in
theorem ok_does7 : ∀ I : Sym.Inv Unit, LCOk I Try.prog 24 lcDoes7 := by
  refine lc_mk (fun _ => allCfg Try.prog [] tabU0 3) (fun _ _ => allCfg_ok mixed trivial tabU0_ok) (fun _ => rfl) (n := 80) Try.func24 ?_
  intro ⟨⟨_, ask, ar, ac, br, bc, g, a, gd, m, q⟩, ⟨oe, ⟨l, oe2, ep⟩⟩⟩ hφ
  obtain ⟨⟨rfl, hg⟩, hp⟩ := id hφ
  refine kcast (B := (Sym.br (ask == (0 : Int)) (true = true ∧ (oe = oe ∧ GW l) ∧ Sym.br (tuOk l ar ac br bc) (Sym.br (tuOk l ar ac br bc) ((SV.t [SV.v (Value.int IntKind.i64 (tuN l ar ac br bc (hWipe (C4.mk g a gd m) q) l.length (0 : Nat))), SV.v (Value.int IntKind.i64 (0 : Int))] = SV.t [SV.v (Value.int IntKind.i64 (tuN l ar ac br bc (hOp ask (C4.mk g a gd m) q) l.length (0 : Nat))), SV.v (Value.int IntKind.i64 (0 : Int))] ∧ True) ∧ (SV.h (1 : Nat) [oe, (0 : Nat)] = SV.h (1 : Nat) [oe, (0 : Nat)] ∧ True) ∧ (oe = oe ∧ ep = ep ∧ turnL l ar ac br bc (hWipe (C4.mk g a gd m) q) = turnL l ar ac br bc (hOp ask (C4.mk g a gd m) q)) ∧ True) ((SV.t [SV.v (Value.int IntKind.i64 (tuN l ar ac br bc (hWipe (C4.mk g a gd m) q) l.length (0 : Nat))), SV.v (Value.int IntKind.i64 (0 : Int))] = SV.t [SV.v (Value.int IntKind.i64 (0 : Int)), SV.v (Value.int IntKind.i64 (tuE l ar ac br bc))] ∧ True) ∧ (SV.h (1 : Nat) [oe, (0 : Nat)] = SV.h (1 : Nat) [oe, (0 : Nat)] ∧ True) ∧ (oe = oe ∧ ep = ep ∧ turnL l ar ac br bc (hWipe (C4.mk g a gd m) q) = l) ∧ True)) (Sym.br (tuOk l ar ac br bc) ((SV.t [SV.v (Value.int IntKind.i64 (0 : Int)), SV.v (Value.int IntKind.i64 (tuE l ar ac br bc))] = SV.t [SV.v (Value.int IntKind.i64 (tuN l ar ac br bc (hOp ask (C4.mk g a gd m) q) l.length (0 : Nat))), SV.v (Value.int IntKind.i64 (0 : Int))] ∧ True) ∧ (SV.h (1 : Nat) [oe, (0 : Nat)] = SV.h (1 : Nat) [oe, (0 : Nat)] ∧ True) ∧ (oe = oe ∧ ep = ep ∧ l = turnL l ar ac br bc (hOp ask (C4.mk g a gd m) q)) ∧ True) ((SV.t [SV.v (Value.int IntKind.i64 (0 : Int)), SV.v (Value.int IntKind.i64 (tuE l ar ac br bc))] = SV.t [SV.v (Value.int IntKind.i64 (0 : Int)), SV.v (Value.int IntKind.i64 (tuE l ar ac br bc))] ∧ True) ∧ (SV.h (1 : Nat) [oe, (0 : Nat)] = SV.h (1 : Nat) [oe, (0 : Nat)] ∧ True) ∧ (oe = oe ∧ ep = ep ∧ l = l) ∧ True))) (Sym.br (ask == (1 : Int)) (true = true ∧ (oe = oe ∧ GW l) ∧ Sym.br (tuOk l ar ac br bc) (Sym.br (tuOk l ar ac br bc) ((SV.t [SV.v (Value.int IntKind.i64 (tuN l ar ac br bc (hDye a q) l.length (0 : Nat))), SV.v (Value.int IntKind.i64 (0 : Int))] = SV.t [SV.v (Value.int IntKind.i64 (tuN l ar ac br bc (hOp ask (C4.mk g a gd m) q) l.length (0 : Nat))), SV.v (Value.int IntKind.i64 (0 : Int))] ∧ True) ∧ (SV.h (1 : Nat) [oe, (0 : Nat)] = SV.h (1 : Nat) [oe, (0 : Nat)] ∧ True) ∧ (oe = oe ∧ ep = ep ∧ turnL l ar ac br bc (hDye a q) = turnL l ar ac br bc (hOp ask (C4.mk g a gd m) q)) ∧ True) ((SV.t [SV.v (Value.int IntKind.i64 (tuN l ar ac br bc (hDye a q) l.length (0 : Nat))), SV.v (Value.int IntKind.i64 (0 : Int))] = SV.t [SV.v (Value.int IntKind.i64 (0 : Int)), SV.v (Value.int IntKind.i64 (tuE l ar ac br bc))] ∧ True) ∧ (SV.h (1 : Nat) [oe, (0 : Nat)] = SV.h (1 : Nat) [oe, (0 : Nat)] ∧ True) ∧ (oe = oe ∧ ep = ep ∧ turnL l ar ac br bc (hDye a q) = l) ∧ True)) (Sym.br (tuOk l ar ac br bc) ((SV.t [SV.v (Value.int IntKind.i64 (0 : Int)), SV.v (Value.int IntKind.i64 (tuE l ar ac br bc))] = SV.t [SV.v (Value.int IntKind.i64 (tuN l ar ac br bc (hOp ask (C4.mk g a gd m) q) l.length (0 : Nat))), SV.v (Value.int IntKind.i64 (0 : Int))] ∧ True) ∧ (SV.h (1 : Nat) [oe, (0 : Nat)] = SV.h (1 : Nat) [oe, (0 : Nat)] ∧ True) ∧ (oe = oe ∧ ep = ep ∧ l = turnL l ar ac br bc (hOp ask (C4.mk g a gd m) q)) ∧ True) ((SV.t [SV.v (Value.int IntKind.i64 (0 : Int)), SV.v (Value.int IntKind.i64 (tuE l ar ac br bc))] = SV.t [SV.v (Value.int IntKind.i64 (0 : Int)), SV.v (Value.int IntKind.i64 (tuE l ar ac br bc))] ∧ True) ∧ (SV.h (1 : Nat) [oe, (0 : Nat)] = SV.h (1 : Nat) [oe, (0 : Nat)] ∧ True) ∧ (oe = oe ∧ ep = ep ∧ l = l) ∧ True))) (true = true ∧ (oe = oe ∧ GW l) ∧ Sym.br (tuOk l ar ac br bc) (Sym.br (tuOk l ar ac br bc) ((SV.t [SV.v (Value.int IntKind.i64 (tuN l ar ac br bc (hShield gd) l.length (0 : Nat))), SV.v (Value.int IntKind.i64 (0 : Int))] = SV.t [SV.v (Value.int IntKind.i64 (tuN l ar ac br bc (hOp ask (C4.mk g a gd m) q) l.length (0 : Nat))), SV.v (Value.int IntKind.i64 (0 : Int))] ∧ True) ∧ (SV.h (1 : Nat) [oe, (0 : Nat)] = SV.h (1 : Nat) [oe, (0 : Nat)] ∧ True) ∧ (oe = oe ∧ ep = ep ∧ turnL l ar ac br bc (hShield gd) = turnL l ar ac br bc (hOp ask (C4.mk g a gd m) q)) ∧ True) ((SV.t [SV.v (Value.int IntKind.i64 (tuN l ar ac br bc (hShield gd) l.length (0 : Nat))), SV.v (Value.int IntKind.i64 (0 : Int))] = SV.t [SV.v (Value.int IntKind.i64 (0 : Int)), SV.v (Value.int IntKind.i64 (tuE l ar ac br bc))] ∧ True) ∧ (SV.h (1 : Nat) [oe, (0 : Nat)] = SV.h (1 : Nat) [oe, (0 : Nat)] ∧ True) ∧ (oe = oe ∧ ep = ep ∧ turnL l ar ac br bc (hShield gd) = l) ∧ True)) (Sym.br (tuOk l ar ac br bc) ((SV.t [SV.v (Value.int IntKind.i64 (0 : Int)), SV.v (Value.int IntKind.i64 (tuE l ar ac br bc))] = SV.t [SV.v (Value.int IntKind.i64 (tuN l ar ac br bc (hOp ask (C4.mk g a gd m) q) l.length (0 : Nat))), SV.v (Value.int IntKind.i64 (0 : Int))] ∧ True) ∧ (SV.h (1 : Nat) [oe, (0 : Nat)] = SV.h (1 : Nat) [oe, (0 : Nat)] ∧ True) ∧ (oe = oe ∧ ep = ep ∧ l = turnL l ar ac br bc (hOp ask (C4.mk g a gd m) q)) ∧ True) ((SV.t [SV.v (Value.int IntKind.i64 (0 : Int)), SV.v (Value.int IntKind.i64 (tuE l ar ac br bc))] = SV.t [SV.v (Value.int IntKind.i64 (0 : Int)), SV.v (Value.int IntKind.i64 (tuE l ar ac br bc))] ∧ True) ∧ (SV.h (1 : Nat) [oe, (0 : Nat)] = SV.h (1 : Nat) [oe, (0 : Nat)] ∧ True) ∧ (oe = oe ∧ ep = ep ∧ l = l) ∧ True)))))) (by kernel_rfl) ?_
  clear hp hφ
  have eta : ∀ y : C4, C4.mk y.g y.a y.gd y.m = y := fun _ => rfl
  simp only [br_iff, true_and, and_true, hg, beq_iff_eq, beq_eq_false_iff_ne, ne_eq, eta]
  refine ⟨fun h0 => ?_, fun h0 => ⟨fun h1 => ?_, fun h1 => ?_⟩⟩
  · subst h0
    rw [hOp_0]
    cases tuOk l ar ac br bc <;> simp
  · subst h1
    rw [hOp_1]
    cases tuOk l ar ac br bc <;> simp
  · rw [hOp_2 h0 h1]
    cases tuOk l ar ac br bc <;> simp
/-- What the document's answer says to a call. -/
def askA (h : C4 → C4) (R C : Int) (xs : List C4) (n ep : Nat) (fr fc tr tc : Int) : Alt Unit :=
  .br (wrE R C fr fc tr tc == 0) (.one (.t [.v (.int .i64 (doN xs (fr * C + fc).toNat (tr * C + tc + 1).toNat h)), .v (.int .i64 0)]) (refF 0 R C (doL xs (fr * C + fc).toNat (tr * C + tc + 1).toNat h) n ep) [1])
    (.one (.t [.v (.int .i64 0), .v (.int .i64 (wrE R C fr fc tr tc))]) (refF 0 R C xs n ep) [1])
def lcAsked : ACon Unit := mkLC (decP (shCons (shP 0) (shOne (shA shOp7))) (shRefF 0)) fun ((_, (ask, ar, ac, br, bc, g, a, gd, m, q)), ((R, C, ep), ⟨xs, n, ep2⟩)) => .ask (ep = ep2 ∧ FW R C xs n) (askA (hOp ask ⟨g, a, gd, m⟩ q) R C xs n ep ar ac br bc)
set_option maxHeartbeats 4000000 in
theorem ok_asked : ∀ I : Sym.Inv Unit, LCOk I Try.prog 25 lcAsked := by
  refine lc_mk (fun _ => allCfg Try.prog [] tabU0 3) (fun _ _ => allCfg_ok mixed trivial tabU0_ok) (fun _ => rfl) (n := 80) Try.func25 ?_
  intro ⟨⟨_, ask, ar, ac, br, bc, g, a, gd, m, q⟩, ⟨R, C, ep⟩, ⟨xs, n, ep2⟩⟩ hφ
  obtain ⟨⟨rfl, hg⟩, hp⟩ := id hφ
  refine kcast (B := (Sym.br (ask != (0 : Int)) (Sym.br (ask != (1 : Int)) (true = true ∧ (ep = ep ∧ FW R C xs n) ∧ Sym.br (wrE R C ar ac br bc == (0 : Int)) (Sym.br (wrE R C ar ac br bc == (0 : Int)) ((SV.t [SV.v (Value.int IntKind.i64 (↑(doN xs (ar * C + ac).toNat (br * C + bc + (1 : Int)).toNat (hDo (C4.mk g a gd m) (2 : Int) false)) : Int)), SV.v (Value.int IntKind.i64 (0 : Int))] = SV.t [SV.v (Value.int IntKind.i64 (↑(doN xs (ar * C + ac).toNat (br * C + bc + (1 : Int)).toNat (hOp ask (C4.mk g a gd m) q)) : Int)), SV.v (Value.int IntKind.i64 (0 : Int))] ∧ True) ∧ (SV.v (Value.int IntKind.i64 R) = SV.v (Value.int IntKind.i64 R) ∧ SV.v (Value.int IntKind.i64 C) = SV.v (Value.int IntKind.i64 C) ∧ SV.h (1 : Nat) [ep, (0 : Nat)] = SV.h (1 : Nat) [ep, (0 : Nat)] ∧ True) ∧ (n = n ∧ ep = ep ∧ doL xs (ar * C + ac).toNat (br * C + bc + (1 : Int)).toNat (hDo (C4.mk g a gd m) (2 : Int) false) = doL xs (ar * C + ac).toNat (br * C + bc + (1 : Int)).toNat (hOp ask (C4.mk g a gd m) q)) ∧ True) ((SV.t [SV.v (Value.int IntKind.i64 (↑(doN xs (ar * C + ac).toNat (br * C + bc + (1 : Int)).toNat (hDo (C4.mk g a gd m) (2 : Int) false)) : Int)), SV.v (Value.int IntKind.i64 (0 : Int))] = SV.t [SV.v (Value.int IntKind.i64 (0 : Int)), SV.v (Value.int IntKind.i64 (wrE R C ar ac br bc))] ∧ True) ∧ (SV.v (Value.int IntKind.i64 R) = SV.v (Value.int IntKind.i64 R) ∧ SV.v (Value.int IntKind.i64 C) = SV.v (Value.int IntKind.i64 C) ∧ SV.h (1 : Nat) [ep, (0 : Nat)] = SV.h (1 : Nat) [ep, (0 : Nat)] ∧ True) ∧ (n = n ∧ ep = ep ∧ doL xs (ar * C + ac).toNat (br * C + bc + (1 : Int)).toNat (hDo (C4.mk g a gd m) (2 : Int) false) = xs) ∧ True)) (Sym.br (wrE R C ar ac br bc == (0 : Int)) ((SV.t [SV.v (Value.int IntKind.i64 (0 : Int)), SV.v (Value.int IntKind.i64 (wrE R C ar ac br bc))] = SV.t [SV.v (Value.int IntKind.i64 (↑(doN xs (ar * C + ac).toNat (br * C + bc + (1 : Int)).toNat (hOp ask (C4.mk g a gd m) q)) : Int)), SV.v (Value.int IntKind.i64 (0 : Int))] ∧ True) ∧ (SV.v (Value.int IntKind.i64 R) = SV.v (Value.int IntKind.i64 R) ∧ SV.v (Value.int IntKind.i64 C) = SV.v (Value.int IntKind.i64 C) ∧ SV.h (1 : Nat) [ep, (0 : Nat)] = SV.h (1 : Nat) [ep, (0 : Nat)] ∧ True) ∧ (n = n ∧ ep = ep ∧ xs = doL xs (ar * C + ac).toNat (br * C + bc + (1 : Int)).toNat (hOp ask (C4.mk g a gd m) q)) ∧ True) ((SV.t [SV.v (Value.int IntKind.i64 (0 : Int)), SV.v (Value.int IntKind.i64 (wrE R C ar ac br bc))] = SV.t [SV.v (Value.int IntKind.i64 (0 : Int)), SV.v (Value.int IntKind.i64 (wrE R C ar ac br bc))] ∧ True) ∧ (SV.v (Value.int IntKind.i64 R) = SV.v (Value.int IntKind.i64 R) ∧ SV.v (Value.int IntKind.i64 C) = SV.v (Value.int IntKind.i64 C) ∧ SV.h (1 : Nat) [ep, (0 : Nat)] = SV.h (1 : Nat) [ep, (0 : Nat)] ∧ True) ∧ (n = n ∧ ep = ep ∧ xs = xs) ∧ True))) (true = true ∧ (ep = ep ∧ FW R C xs n) ∧ Sym.br (wrE R C ar ac br bc == (0 : Int)) (Sym.br (wrE R C ar ac br bc == (0 : Int)) ((SV.t [SV.v (Value.int IntKind.i64 (↑(doN xs (ar * C + ac).toNat (br * C + bc + (1 : Int)).toNat (hDo (C4.mk g a gd m) ask q)) : Int)), SV.v (Value.int IntKind.i64 (0 : Int))] = SV.t [SV.v (Value.int IntKind.i64 (↑(doN xs (ar * C + ac).toNat (br * C + bc + (1 : Int)).toNat (hOp ask (C4.mk g a gd m) q)) : Int)), SV.v (Value.int IntKind.i64 (0 : Int))] ∧ True) ∧ (SV.v (Value.int IntKind.i64 R) = SV.v (Value.int IntKind.i64 R) ∧ SV.v (Value.int IntKind.i64 C) = SV.v (Value.int IntKind.i64 C) ∧ SV.h (1 : Nat) [ep, (0 : Nat)] = SV.h (1 : Nat) [ep, (0 : Nat)] ∧ True) ∧ (n = n ∧ ep = ep ∧ doL xs (ar * C + ac).toNat (br * C + bc + (1 : Int)).toNat (hDo (C4.mk g a gd m) ask q) = doL xs (ar * C + ac).toNat (br * C + bc + (1 : Int)).toNat (hOp ask (C4.mk g a gd m) q)) ∧ True) ((SV.t [SV.v (Value.int IntKind.i64 (↑(doN xs (ar * C + ac).toNat (br * C + bc + (1 : Int)).toNat (hDo (C4.mk g a gd m) ask q)) : Int)), SV.v (Value.int IntKind.i64 (0 : Int))] = SV.t [SV.v (Value.int IntKind.i64 (0 : Int)), SV.v (Value.int IntKind.i64 (wrE R C ar ac br bc))] ∧ True) ∧ (SV.v (Value.int IntKind.i64 R) = SV.v (Value.int IntKind.i64 R) ∧ SV.v (Value.int IntKind.i64 C) = SV.v (Value.int IntKind.i64 C) ∧ SV.h (1 : Nat) [ep, (0 : Nat)] = SV.h (1 : Nat) [ep, (0 : Nat)] ∧ True) ∧ (n = n ∧ ep = ep ∧ doL xs (ar * C + ac).toNat (br * C + bc + (1 : Int)).toNat (hDo (C4.mk g a gd m) ask q) = xs) ∧ True)) (Sym.br (wrE R C ar ac br bc == (0 : Int)) ((SV.t [SV.v (Value.int IntKind.i64 (0 : Int)), SV.v (Value.int IntKind.i64 (wrE R C ar ac br bc))] = SV.t [SV.v (Value.int IntKind.i64 (↑(doN xs (ar * C + ac).toNat (br * C + bc + (1 : Int)).toNat (hOp ask (C4.mk g a gd m) q)) : Int)), SV.v (Value.int IntKind.i64 (0 : Int))] ∧ True) ∧ (SV.v (Value.int IntKind.i64 R) = SV.v (Value.int IntKind.i64 R) ∧ SV.v (Value.int IntKind.i64 C) = SV.v (Value.int IntKind.i64 C) ∧ SV.h (1 : Nat) [ep, (0 : Nat)] = SV.h (1 : Nat) [ep, (0 : Nat)] ∧ True) ∧ (n = n ∧ ep = ep ∧ xs = doL xs (ar * C + ac).toNat (br * C + bc + (1 : Int)).toNat (hOp ask (C4.mk g a gd m) q)) ∧ True) ((SV.t [SV.v (Value.int IntKind.i64 (0 : Int)), SV.v (Value.int IntKind.i64 (wrE R C ar ac br bc))] = SV.t [SV.v (Value.int IntKind.i64 (0 : Int)), SV.v (Value.int IntKind.i64 (wrE R C ar ac br bc))] ∧ True) ∧ (SV.v (Value.int IntKind.i64 R) = SV.v (Value.int IntKind.i64 R) ∧ SV.v (Value.int IntKind.i64 C) = SV.v (Value.int IntKind.i64 C) ∧ SV.h (1 : Nat) [ep, (0 : Nat)] = SV.h (1 : Nat) [ep, (0 : Nat)] ∧ True) ∧ (n = n ∧ ep = ep ∧ xs = xs) ∧ True)))) (true = true ∧ (ep = ep ∧ FW R C xs n) ∧ Sym.br (wrE R C ar ac br bc == (0 : Int)) (Sym.br (wrE R C ar ac br bc == (0 : Int)) ((SV.t [SV.v (Value.int IntKind.i64 (↑(doN xs (ar * C + ac).toNat (br * C + bc + (1 : Int)).toNat (hDo (C4.mk g a gd m) ask q)) : Int)), SV.v (Value.int IntKind.i64 (0 : Int))] = SV.t [SV.v (Value.int IntKind.i64 (↑(doN xs (ar * C + ac).toNat (br * C + bc + (1 : Int)).toNat (hOp ask (C4.mk g a gd m) q)) : Int)), SV.v (Value.int IntKind.i64 (0 : Int))] ∧ True) ∧ (SV.v (Value.int IntKind.i64 R) = SV.v (Value.int IntKind.i64 R) ∧ SV.v (Value.int IntKind.i64 C) = SV.v (Value.int IntKind.i64 C) ∧ SV.h (1 : Nat) [ep, (0 : Nat)] = SV.h (1 : Nat) [ep, (0 : Nat)] ∧ True) ∧ (n = n ∧ ep = ep ∧ doL xs (ar * C + ac).toNat (br * C + bc + (1 : Int)).toNat (hDo (C4.mk g a gd m) ask q) = doL xs (ar * C + ac).toNat (br * C + bc + (1 : Int)).toNat (hOp ask (C4.mk g a gd m) q)) ∧ True) ((SV.t [SV.v (Value.int IntKind.i64 (↑(doN xs (ar * C + ac).toNat (br * C + bc + (1 : Int)).toNat (hDo (C4.mk g a gd m) ask q)) : Int)), SV.v (Value.int IntKind.i64 (0 : Int))] = SV.t [SV.v (Value.int IntKind.i64 (0 : Int)), SV.v (Value.int IntKind.i64 (wrE R C ar ac br bc))] ∧ True) ∧ (SV.v (Value.int IntKind.i64 R) = SV.v (Value.int IntKind.i64 R) ∧ SV.v (Value.int IntKind.i64 C) = SV.v (Value.int IntKind.i64 C) ∧ SV.h (1 : Nat) [ep, (0 : Nat)] = SV.h (1 : Nat) [ep, (0 : Nat)] ∧ True) ∧ (n = n ∧ ep = ep ∧ doL xs (ar * C + ac).toNat (br * C + bc + (1 : Int)).toNat (hDo (C4.mk g a gd m) ask q) = xs) ∧ True)) (Sym.br (wrE R C ar ac br bc == (0 : Int)) ((SV.t [SV.v (Value.int IntKind.i64 (0 : Int)), SV.v (Value.int IntKind.i64 (wrE R C ar ac br bc))] = SV.t [SV.v (Value.int IntKind.i64 (↑(doN xs (ar * C + ac).toNat (br * C + bc + (1 : Int)).toNat (hOp ask (C4.mk g a gd m) q)) : Int)), SV.v (Value.int IntKind.i64 (0 : Int))] ∧ True) ∧ (SV.v (Value.int IntKind.i64 R) = SV.v (Value.int IntKind.i64 R) ∧ SV.v (Value.int IntKind.i64 C) = SV.v (Value.int IntKind.i64 C) ∧ SV.h (1 : Nat) [ep, (0 : Nat)] = SV.h (1 : Nat) [ep, (0 : Nat)] ∧ True) ∧ (n = n ∧ ep = ep ∧ xs = doL xs (ar * C + ac).toNat (br * C + bc + (1 : Int)).toNat (hOp ask (C4.mk g a gd m) q)) ∧ True) ((SV.t [SV.v (Value.int IntKind.i64 (0 : Int)), SV.v (Value.int IntKind.i64 (wrE R C ar ac br bc))] = SV.t [SV.v (Value.int IntKind.i64 (0 : Int)), SV.v (Value.int IntKind.i64 (wrE R C ar ac br bc))] ∧ True) ∧ (SV.v (Value.int IntKind.i64 R) = SV.v (Value.int IntKind.i64 R) ∧ SV.v (Value.int IntKind.i64 C) = SV.v (Value.int IntKind.i64 C) ∧ SV.h (1 : Nat) [ep, (0 : Nat)] = SV.h (1 : Nat) [ep, (0 : Nat)] ∧ True) ∧ (n = n ∧ ep = ep ∧ xs = xs) ∧ True))))) (by kernel_rfl) ?_
  clear hp hφ
  have eta : ∀ y : C4, C4.mk y.g y.a y.gd y.m = y := fun _ => rfl
  simp only [br_iff, true_and, and_true, hg, bne_iff_ne, bne_eq_false_iff_eq, beq_iff_eq, beq_eq_false_iff_ne, ne_eq, eta]
  by_cases h0 : ask = 0
  · subst h0
    rw [hOp_0, hDo_0]
    by_cases hw : wrE R C ar ac br bc = 0 <;> simp [hw]
  · by_cases h1 : ask = 1
    · subst h1
      rw [hOp_1, hDo_1]
      by_cases hw : wrE R C ar ac br bc = 0 <;> simp [hw]
    · rw [hOp_2 h0 h1, hDo_2]
      by_cases hw : wrE R C ar ac br bc = 0 <;> simp [hw, h0, h1]

theorem cast_ix (r C c : Nat) : ((r * C + c : Nat) : Int) = (r : Int) * C + c := by rw [Int.natCast_add, Int.natCast_mul]
/-! ### The same -/
abbrev GRB := (Nat × RC × (Int × Int × Nat) × OC)
def shGR : ShH GRB := shHCons (shCells (shOne (shO 1)) 127) (shHCons (shRowsC 38 92) (shRefF 2))
def annS1 (R : Int) : Ann Unit where
  α := Int
  φ _ i := 0 ≤ i ∧ i ≤ R
  μ _ i := (R - i).toNat
  get st := getI st.tm 6
  f st i := tmpl [0, 1] [(6, .v (.int .i64 i))] [] st
def annS2 (C : Int) : Ann Unit where
  α := Int
  φ _ k := 0 ≤ k ∧ k ≤ C
  μ _ k := (C - k).toNat
  get st := getI st.tm 7
  f st k := tmpl [0, 1, 6] [(7, .v (.int .i64 k))] [] st
def lcSame : ACon Unit := mkLC (decP (shCons (shP 0) (shOne (shP 2))) shGR) fun (_, (oe, ⟨l, oe2, ep⟩, (R, C, e), ⟨xs, n, e2⟩)) => .ask (oe = oe2 ∧ e = e2 ∧ GW l ∧ R = l.length ∧ C = nC l ∧ xs = flL l ∧ n = l.length * nC l)
  (.one (.v (.bool true)) (gbi 0 oe ep l ++ refF 2 R C xs n e) [])
set_option maxHeartbeats 4000000 in
theorem ok_same : ∀ I : Sym.Inv Unit, LCOk I Try.prog 26 lcSame := by
  refine lc_mk (fun (_, (oe, ⟨l, oe2, ep⟩, (R, C, e), ⟨xs, n, e2⟩)) => allCfg Try.prog [] tabU0 3 [(390, annS1 R), (582, annS2 C)]) (fun _ _ => allCfg_ok mixed trivial tabU0_ok) (fun _ => rfl) (n := 80) Try.func26 ?_
  intro ⟨_, oe, ⟨l, oe2, ep⟩, ⟨R, C, e⟩, ⟨xs, n, e2⟩⟩ hφ
  obtain ⟨⟨rfl, rfl, hg, rfl, rfl, rfl, rfl⟩, hp⟩ := id hφ
  refine kcast (B := (true = true ∧ (oe = oe ∧ GW l) ∧ br ((↑l.length : Int) != (↑l.length : Int)) ((SV.v (Value.bool false) = SV.v (Value.bool true) ∧ True) ∧ (SV.h (1 : Nat) [oe, (0 : Nat)] = SV.h (1 : Nat) [oe, (0 : Nat)] ∧ True) ∧ (oe = oe ∧ ep = ep ∧ l = l) ∧ (SV.v (Value.int IntKind.i64 (↑l.length : Int)) = SV.v (Value.int IntKind.i64 (↑l.length : Int)) ∧ SV.v (Value.int IntKind.i64 (↑(nC l) : Int)) = SV.v (Value.int IntKind.i64 (↑(nC l) : Int)) ∧ SV.h (3 : Nat) [e, (0 : Nat)] = SV.h (3 : Nat) [e, (0 : Nat)] ∧ True) ∧ (l.length * nC l = l.length * nC l ∧ e = e ∧ flL l = flL l) ∧ True) (br ((↑(nC l) : Int) != (↑(nC l) : Int)) ((SV.v (Value.bool false) = SV.v (Value.bool true) ∧ True) ∧ (SV.h (1 : Nat) [oe, (0 : Nat)] = SV.h (1 : Nat) [oe, (0 : Nat)] ∧ True) ∧ (oe = oe ∧ ep = ep ∧ l = l) ∧ (SV.v (Value.int IntKind.i64 (↑l.length : Int)) = SV.v (Value.int IntKind.i64 (↑l.length : Int)) ∧ SV.v (Value.int IntKind.i64 (↑(nC l) : Int)) = SV.v (Value.int IntKind.i64 (↑(nC l) : Int)) ∧ SV.h (3 : Nat) [e, (0 : Nat)] = SV.h (3 : Nat) [e, (0 : Nat)] ∧ True) ∧ (l.length * nC l = l.length * nC l ∧ e = e ∧ flL l = flL l) ∧ True) ((II (0 : Int) ≤ (0 : Int) ∧ (0 : Int) ≤ (↑l.length : Int)) ∧ ((SV.p (0 : Nat) (0 : Nat) = SV.p (0 : Nat) (0 : Nat) ∧ SV.p (2 : Nat) (0 : Nat) = SV.p (2 : Nat) (0 : Nat) ∧ SV.v (Value.int IntKind.i64 (0 : Int)) = SV.v (Value.int IntKind.i64 (0 : Int)) ∧ True) ∧ (SV.h (1 : Nat) [oe, (0 : Nat)] = SV.h (1 : Nat) [oe, (0 : Nat)] ∧ True) ∧ (oe = oe ∧ ep = ep ∧ l = l) ∧ (SV.v (Value.int IntKind.i64 (↑l.length : Int)) = SV.v (Value.int IntKind.i64 (↑l.length : Int)) ∧ SV.v (Value.int IntKind.i64 (↑(nC l) : Int)) = SV.v (Value.int IntKind.i64 (↑(nC l) : Int)) ∧ SV.h (3 : Nat) [e, (0 : Nat)] = SV.h (3 : Nat) [e, (0 : Nat)] ∧ True) ∧ (l.length * nC l = l.length * nC l ∧ e = e ∧ flL l = flL l) ∧ (SV.v (Value.int IntKind.i64 (↑l.length : Int)) = SV.v (Value.int IntKind.i64 (↑l.length : Int)) ∧ SV.v (Value.int IntKind.i64 (↑(nC l) : Int)) = SV.v (Value.int IntKind.i64 (↑(nC l) : Int)) ∧ True) ∧ True) ∧ ∀ (x : Int), (0 : Int) ≤ x ∧ x ≤ (↑l.length : Int) → br (decide (x < (↑l.length : Int))) ((II (0 : Int) ≤ (0 : Int) ∧ (0 : Int) ≤ (↑(nC l) : Int)) ∧ ((SV.p (0 : Nat) (0 : Nat) = SV.p (0 : Nat) (0 : Nat) ∧ SV.p (2 : Nat) (0 : Nat) = SV.p (2 : Nat) (0 : Nat) ∧ SV.v (Value.int IntKind.i64 x) = SV.v (Value.int IntKind.i64 x) ∧ SV.v (Value.int IntKind.i64 (0 : Int)) = SV.v (Value.int IntKind.i64 (0 : Int)) ∧ True) ∧ (SV.h (1 : Nat) [oe, (0 : Nat)] = SV.h (1 : Nat) [oe, (0 : Nat)] ∧ True) ∧ (oe = oe ∧ ep = ep ∧ l = l) ∧ (SV.v (Value.int IntKind.i64 (↑l.length : Int)) = SV.v (Value.int IntKind.i64 (↑l.length : Int)) ∧ SV.v (Value.int IntKind.i64 (↑(nC l) : Int)) = SV.v (Value.int IntKind.i64 (↑(nC l) : Int)) ∧ SV.h (3 : Nat) [e, (0 : Nat)] = SV.h (3 : Nat) [e, (0 : Nat)] ∧ True) ∧ (l.length * nC l = l.length * nC l ∧ e = e ∧ flL l = flL l) ∧ (SV.v (Value.int IntKind.i64 (↑l.length : Int)) = SV.v (Value.int IntKind.i64 (↑l.length : Int)) ∧ SV.v (Value.int IntKind.i64 (↑(nC l) : Int)) = SV.v (Value.int IntKind.i64 (↑(nC l) : Int)) ∧ True) ∧ True) ∧ ∀ (x_1 : Int), (0 : Int) ≤ x_1 ∧ x_1 ≤ (↑(nC l) : Int) → br (decide (x_1 < (↑(nC l) : Int))) (true = true ∧ (oe = oe ∧ GW l) ∧ br (inB l x x_1) (true = true ∧ (e = e ∧ (flL l).length = l.length * nC l ∧ (0 : Int) ≤ x ∧ (0 : Int) ≤ x_1 ∧ x ≤ (255 : Int) ∧ (0 : Int) ≤ (↑(nC l) : Int) ∧ (↑(nC l) : Int) ≤ (255 : Int) ∧ x_1 ≤ (255 : Int) ∧ x * (↑(nC l) : Int) + x_1 < (↑(l.length * nC l) : Int)) ∧ br (!((at2 l x x_1).g == ((flL l).getD (x * (↑(nC l) : Int) + x_1).toNat C4.no).g && ((at2 l x x_1).a == ((flL l).getD (x * (↑(nC l) : Int) + x_1).toNat C4.no).a && ((at2 l x x_1).gd == ((flL l).getD (x * (↑(nC l) : Int) + x_1).toNat C4.no).gd && ((at2 l x x_1).m == ((flL l).getD (x * (↑(nC l) : Int) + x_1).toNat C4.no).m && true))))) ((SV.v (Value.bool false) = SV.v (Value.bool true) ∧ True) ∧ (SV.h (1 : Nat) [oe, (0 : Nat)] = SV.h (1 : Nat) [oe, (0 : Nat)] ∧ True) ∧ (oe = oe ∧ ep = ep ∧ l = l) ∧ (SV.v (Value.int IntKind.i64 (↑l.length : Int)) = SV.v (Value.int IntKind.i64 (↑l.length : Int)) ∧ SV.v (Value.int IntKind.i64 (↑(nC l) : Int)) = SV.v (Value.int IntKind.i64 (↑(nC l) : Int)) ∧ SV.h (3 : Nat) [e, (0 : Nat)] = SV.h (3 : Nat) [e, (0 : Nat)] ∧ True) ∧ (l.length * nC l = l.length * nC l ∧ e = e ∧ flL l = flL l) ∧ True) (((0 : Int) ≤ IntKind.i64.wrap (x_1 + (1 : Int)) ∧ IntKind.i64.wrap (x_1 + (1 : Int)) ≤ (↑(nC l) : Int)) ∧ ((SV.p (0 : Nat) (0 : Nat) = SV.p (0 : Nat) (0 : Nat) ∧ SV.p (2 : Nat) (0 : Nat) = SV.p (2 : Nat) (0 : Nat) ∧ SV.v (Value.int IntKind.i64 x) = SV.v (Value.int IntKind.i64 x) ∧ SV.v (Value.int IntKind.i64 (IntKind.i64.wrap (x_1 + (1 : Int)))) = SV.v (Value.int IntKind.i64 (IntKind.i64.wrap (x_1 + (1 : Int)))) ∧ True) ∧ (SV.h (1 : Nat) [oe, (0 : Nat)] = SV.h (1 : Nat) [oe, (0 : Nat)] ∧ True) ∧ (oe = oe ∧ ep = ep ∧ l = l) ∧ (SV.v (Value.int IntKind.i64 (↑l.length : Int)) = SV.v (Value.int IntKind.i64 (↑l.length : Int)) ∧ SV.v (Value.int IntKind.i64 (↑(nC l) : Int)) = SV.v (Value.int IntKind.i64 (↑(nC l) : Int)) ∧ SV.h (3 : Nat) [e, (0 : Nat)] = SV.h (3 : Nat) [e, (0 : Nat)] ∧ True) ∧ (l.length * nC l = l.length * nC l ∧ e = e ∧ flL l = flL l) ∧ (SV.v (Value.int IntKind.i64 (↑l.length : Int)) = SV.v (Value.int IntKind.i64 (↑l.length : Int)) ∧ SV.v (Value.int IntKind.i64 (↑(nC l) : Int)) = SV.v (Value.int IntKind.i64 (↑(nC l) : Int)) ∧ True) ∧ True) ∧ ((↑(nC l) : Int) - IntKind.i64.wrap (x_1 + (1 : Int))).toNat < ((↑(nC l) : Int) - x_1).toNat)) ((SV.v (Value.bool false) = SV.v (Value.bool true) ∧ True) ∧ (SV.h (1 : Nat) [oe, (0 : Nat)] = SV.h (1 : Nat) [oe, (0 : Nat)] ∧ True) ∧ (oe = oe ∧ ep = ep ∧ l = l) ∧ (SV.v (Value.int IntKind.i64 (↑l.length : Int)) = SV.v (Value.int IntKind.i64 (↑l.length : Int)) ∧ SV.v (Value.int IntKind.i64 (↑(nC l) : Int)) = SV.v (Value.int IntKind.i64 (↑(nC l) : Int)) ∧ SV.h (3 : Nat) [e, (0 : Nat)] = SV.h (3 : Nat) [e, (0 : Nat)] ∧ True) ∧ (l.length * nC l = l.length * nC l ∧ e = e ∧ flL l = flL l) ∧ True)) (((0 : Int) ≤ IntKind.i64.wrap (x + (1 : Int)) ∧ IntKind.i64.wrap (x + (1 : Int)) ≤ (↑l.length : Int)) ∧ ((SV.p (0 : Nat) (0 : Nat) = SV.p (0 : Nat) (0 : Nat) ∧ SV.p (2 : Nat) (0 : Nat) = SV.p (2 : Nat) (0 : Nat) ∧ SV.v (Value.int IntKind.i64 (IntKind.i64.wrap (x + (1 : Int)))) = SV.v (Value.int IntKind.i64 (IntKind.i64.wrap (x + (1 : Int)))) ∧ True) ∧ (SV.h (1 : Nat) [oe, (0 : Nat)] = SV.h (1 : Nat) [oe, (0 : Nat)] ∧ True) ∧ (oe = oe ∧ ep = ep ∧ l = l) ∧ (SV.v (Value.int IntKind.i64 (↑l.length : Int)) = SV.v (Value.int IntKind.i64 (↑l.length : Int)) ∧ SV.v (Value.int IntKind.i64 (↑(nC l) : Int)) = SV.v (Value.int IntKind.i64 (↑(nC l) : Int)) ∧ SV.h (3 : Nat) [e, (0 : Nat)] = SV.h (3 : Nat) [e, (0 : Nat)] ∧ True) ∧ (l.length * nC l = l.length * nC l ∧ e = e ∧ flL l = flL l) ∧ (SV.v (Value.int IntKind.i64 (↑l.length : Int)) = SV.v (Value.int IntKind.i64 (↑l.length : Int)) ∧ SV.v (Value.int IntKind.i64 (↑(nC l) : Int)) = SV.v (Value.int IntKind.i64 (↑(nC l) : Int)) ∧ True) ∧ True) ∧ ((↑l.length : Int) - IntKind.i64.wrap (x + (1 : Int))).toNat < ((↑l.length : Int) - x).toNat)) ((SV.v (Value.bool true) = SV.v (Value.bool true) ∧ True) ∧ (SV.h (1 : Nat) [oe, (0 : Nat)] = SV.h (1 : Nat) [oe, (0 : Nat)] ∧ True) ∧ (oe = oe ∧ ep = ep ∧ l = l) ∧ (SV.v (Value.int IntKind.i64 (↑l.length : Int)) = SV.v (Value.int IntKind.i64 (↑l.length : Int)) ∧ SV.v (Value.int IntKind.i64 (↑(nC l) : Int)) = SV.v (Value.int IntKind.i64 (↑(nC l) : Int)) ∧ SV.h (3 : Nat) [e, (0 : Nat)] = SV.h (3 : Nat) [e, (0 : Nat)] ∧ True) ∧ (l.length * nC l = l.length * nC l ∧ e = e ∧ flL l = flL l) ∧ True))))) (by kernel_rfl) ?_
  clear hp hφ
  have hR := hg.r1
  have hC := hg.c1
  have eta : ∀ y : C4, C4.mk y.g y.a y.gd y.m = y := fun _ => rfl
  simp only [br_iff, rq_iff, true_and, and_true, hg, beq_iff_eq, beq_eq_false_iff_ne, ne_eq, eta, decide_eq_true_eq, decide_eq_false_iff_not, bne_self_eq_false, Bool.false_eq_true, Bool.true_eq_false, true_implies, false_implies, II, implies_true]
  refine ⟨by omega, fun x hx hx2 => ⟨by omega, fun y hy => ⟨fun hy2 => ?_, fun hy2 => ?_⟩⟩⟩
  · have hb : inB l x y = true := by rw [inB_iff]; omega
    have hix := ix_bd (R := l.length) hx2 hy2 hy.1
    have hn : ((l.length * nC l : Nat) : Int) = (l.length : Int) * (nC l : Int) := Int.natCast_mul _ _
    have e : (flL l).getD (x * nC l + y).toNat C4.no = at2 l x y := by
      obtain ⟨i, rfl⟩ : ∃ i : Nat, x = i := ⟨x.toNat, by omega⟩
      obtain ⟨k, rfl⟩ : ∃ k : Nat, y = k := ⟨y.toNat, by omega⟩
      rw [← cast_ix, Int.toNat_natCast]
      exact flL_get (by omega) (by omega)
    rw [wrap64 (x := y + 1) (by omega) (by omega), e]
    simp only [hb, beq_self_eq_true, Bool.and_self, Bool.not_true, Bool.true_eq_false, Bool.false_eq_true, true_implies, false_implies, true_and, and_true]
    exact ⟨⟨flL_length l, by omega, by omega, by omega, by omega, by omega, by omega, by omega⟩, by omega, by omega⟩
  · rw [wrap64 (x := x + 1) (by omega) (by omega)]
    omega

/-! ### Places as numbers -/
theorem ahead_ix {C r c r2 c2 : Int} (h1 : 0 ≤ c) (h2 : c < C) (h3 : 0 ≤ c2) (h4 : c2 < C) : aheadB r c r2 c2 = decide (r * C + c < r2 * C + c2) := by
  rw [Bool.eq_iff_iff, aheadB_iff, decide_eq_true_eq]
  have key : ∀ x y : Int, x < y → x * C + C ≤ y * C := fun x y h => by
    have : (x + 1) * C ≤ y * C := Int.mul_le_mul_of_nonneg_right (by omega) (by omega)
    rwa [Int.add_mul, Int.one_mul] at this
  rcases Int.lt_trichotomy r r2 with h | h | h
  · have := key _ _ h
    exact ⟨fun _ => by omega, fun _ => .inl h⟩
  · subst h
    exact ⟨fun _ => by omega, fun _ => .inr ⟨rfl, by omega⟩⟩
  · have := key _ _ h
    exact ⟨fun _ => by omega, fun _ => by omega⟩
section
variable {l : List (List C4)} {fr fc tr tc : Int} {h : C4 → C4}
theorem tuOk_wr : tuOk l fr fc tr tc = (wrE l.length (nC l) fr fc tr tc == 0) := by
  rw [Bool.eq_iff_iff]
  unfold tuOk wrE
  have e : ∀ r c, inB l r c = inD l.length (nC l) r c := fun _ _ => rfl
  rw [e, e]
  cases h1 : inD l.length (nC l) fr fc
  · simp
  cases h2 : inD l.length (nC l) tr tc
  · simp
  rw [inD_iff] at h1 h2
  rw [ahead_ix h2.2.2.1 h2.2.2.2 h1.2.2.1 h1.2.2.2]
  by_cases h3 : tr * (nC l : Int) + tc < fr * (nC l : Int) + fc <;> simp [h3]
theorem tuE_wr (hk : tuOk l fr fc tr tc = false) : tuE l fr fc tr tc = wrE l.length (nC l) fr fc tr tc := by
  rw [tuOk_wr] at hk
  have hk : wrE l.length (nC l) fr fc tr tc ≠ 0 := by simpa using hk
  unfold tuE
  unfold wrE at hk ⊢
  have e : ∀ r c, inB l r c = inD l.length (nC l) r c := fun _ _ => rfl
  rw [e, e]
  split
  · rename_i hc
    rw [if_pos hc] at hk
    split at hk
    · rename_i h2; rw [if_pos h2]
    · exact absurd rfl hk
  · rfl
theorem rg_ix {C r c fr fc tr tc : Int} (h1 : 0 ≤ c) (h2 : c < C) (h3 : 0 ≤ fc) (h4 : fc < C) (h5 : 0 ≤ tc) (h6 : tc < C) : inRg fr fc tr tc r c = decide (fr * C + fc ≤ r * C + c ∧ r * C + c ≤ tr * C + tc) := by
  unfold inRg
  rw [ahead_ix h1 h2 h3 h4, ahead_ix h5 h6 h1 h2, Bool.eq_iff_iff]
  simp only [Bool.and_eq_true, Bool.not_eq_true', decide_eq_true_eq, decide_eq_false_iff_not]
  omega
theorem turnL_fl (hg : GW l) (hk : tuOk l fr fc tr tc = true) : flL (turnL l fr fc tr tc h) = doL (flL l) (fr * nC l + fc).toNat (tr * nC l + tc + 1).toNat h := by
  unfold turnL
  rw [flL_gridF (by have := hg.r0; omega)]
  unfold flF doL
  rw [flL_length]
  refine List.map_congr_left fun j hj => ?_
  obtain ⟨j1, j2, j3⟩ := ix_of (List.mem_range.1 hj)
  have hx : (flL l).getD j C4.no = fn l (j / nC l) (j % nC l) := by
    have := flL_get (l := l) j1 j2
    rwa [j3] at this
  have hjj : ((j : Nat) : Int) = ((j / nC l : Nat) : Int) * (nC l : Int) + ((j % nC l : Nat) : Int) := by rw [← cast_ix, j3]
  simp only [tuOk, Bool.and_eq_true, inB_iff] at hk
  unfold doF
  rw [hx]
  show tuX fr fc tr tc h _ _ (fn l _ _) = _
  unfold tuX
  rw [rg_ix (C := nC l) (by omega) (by omega) hk.1.2.2.1 hk.1.2.2.2 hk.2.1.2.2.1 hk.2.1.2.2.2, ← hjj]
  have hp : 0 ≤ fr * (nC l : Int) + fc := by
    have := Int.mul_nonneg hk.1.1 (show (0 : Int) ≤ nC l by omega)
    have := hk.1.2.2.1
    omega
  by_cases hc : fr * (nC l : Int) + fc ≤ j ∧ (j : Int) ≤ tr * (nC l : Int) + tc
  · rw [if_pos (decide_eq_true hc), if_pos (by omega)]
  · rw [if_neg (by rw [decide_eq_false hc]; simp), if_neg (by omega)]
theorem tuN_do (hg : GW l) (hk : tuOk l fr fc tr tc = true) : tuN l fr fc tr tc h l.length 0 = doN (flL l) (fr * nC l + fc).toNat (tr * nC l + tc + 1).toNat h := by
  have hk' := hk
  simp only [tuOk, Bool.and_eq_true, inB_iff] at hk
  have hlast := ix_bd (R := l.length) hk.2.1.2.1 hk.2.1.2.2.2 hk.2.1.2.2.1
  have hp : 0 ≤ fr * (nC l : Int) + fc := by
    have := Int.mul_nonneg hk.1.1 (show (0 : Int) ≤ nC l by omega)
    have := hk.1.2.2.1
    omega
  have hq : 0 ≤ tr * (nC l : Int) + tc := by
    have := Int.mul_nonneg hk.2.1.1 (show (0 : Int) ≤ nC l by omega)
    have := hk.2.1.2.2.1
    omega
  have hn : ((l.length * nC l : Nat) : Int) = (l.length : Int) * (nC l : Int) := Int.natCast_mul _ _
  unfold tuN cntP doN
  rw [Nat.add_zero]
  congr 1
  obtain ⟨d, hd⟩ : ∃ d, l.length * nC l = (tr * (nC l : Int) + tc + 1).toNat + d := ⟨l.length * nC l - (tr * (nC l : Int) + tc + 1).toNat, by omega⟩
  have key : ∀ j, j < l.length * nC l → tuP l fr fc tr tc h (j / nC l) (j % nC l) = (decide (fr * (nC l : Int) + fc ≤ j ∧ (j : Int) ≤ tr * (nC l : Int) + tc) && neC (h ((flL l).getD j C4.no)) ((flL l).getD j C4.no)) := fun j hj => by
    obtain ⟨j1, j2, j3⟩ := ix_of hj
    have hx : (flL l).getD j C4.no = fn l (j / nC l) (j % nC l) := by
      have := flL_get (l := l) j1 j2
      rwa [j3] at this
    have hjj : ((j : Nat) : Int) = ((j / nC l : Nat) : Int) * (nC l : Int) + ((j % nC l : Nat) : Int) := by rw [← cast_ix, j3]
    rw [hx]
    show neC (tuX fr fc tr tc h _ _ (fn l _ _)) (fn l _ _) = _
    unfold tuX
    rw [rg_ix (C := nC l) (by omega) (by omega) hk.1.2.2.1 hk.1.2.2.2 hk.2.1.2.2.1 hk.2.1.2.2.2, ← hjj]
    by_cases hc : fr * (nC l : Int) + fc ≤ j ∧ (j : Int) ≤ tr * (nC l : Int) + tc
    · rw [if_pos (decide_eq_true hc), decide_eq_true hc, Bool.true_and]
    · rw [if_neg (by rw [decide_eq_false hc]; simp), decide_eq_false hc, Bool.false_and, neC_no]
  rw [hd, List.range_add, List.countP_append]
  have h2 : (List.map (fun x => (tr * (nC l : Int) + tc + 1).toNat + x) (List.range d)).countP (fun j => tuP l fr fc tr tc h (j / nC l) (j % nC l)) = 0 := by
    rw [List.countP_eq_zero]
    intro j hj
    obtain ⟨i, hi, rfl⟩ := List.mem_map.1 hj
    have hi := List.mem_range.1 hi
    rw [key _ (by omega), decide_eq_false (by omega)]; simp
  rw [h2, Nat.add_zero]
  refine List.countP_congr fun j hj => ?_
  have hj := List.mem_range.1 hj
  rw [key _ (by omega)]
  have e : decide (fr * (nC l : Int) + fc ≤ j ∧ (j : Int) ≤ tr * (nC l : Int) + tc) = decide ((fr * (nC l : Int) + fc).toNat ≤ j) := by
    rw [decide_eq_decide]; omega
  rw [e]
theorem flL_fw (hg : GW l) : FW l.length (nC l) (flL l) (l.length * nC l) := by
  have := hg.r0; have := hg.r1; have := hg.c0; have := hg.c1
  exact ⟨by omega, by omega, by omega, by omega, flL_length l, Int.natCast_mul _ _⟩
end
end Go.Proofs.Ytdhhagangmkloaa
