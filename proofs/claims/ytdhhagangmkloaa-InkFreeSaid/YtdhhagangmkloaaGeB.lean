/- Contracts of layer 6: lines and cells that move. -/
import Derived.Test.YtdhhagangmkloaaGeA
set_option linter.unusedSimpArgs false
set_option linter.unusedVariables false
set_option linter.unusedSectionVars false
namespace Go.Proofs.Ytdhhagangmkloaa
open Go Go.Sym

def tabB6 : List (Nat × ACon Unit) := (50, lcGuarded) :: (28, lcField) :: tabA6
theorem tabB6_ok : LCs Try.prog tabB6 := ⟨ok_guarded, ok_field, tabA6_ok⟩
def upF (l : List (List C4)) (n : Int) (x : C4) : List (List C4) := rollL l 0 (l.length - 1) n x
def lcUp : ACon Unit := mkLC (decP (shCons (shP 0) (shCons shI (shOne shC))) shG) fun ((_, n, x), (oe, ⟨l, oe2, ep⟩)) => .ask (oe = oe2 ∧ GW l) (.one (.v (.int .i64 0)) (gbi 0 oe (ep + 1) (upF l n x)) [1])
set_option maxHeartbeats 4000000 in
theorem ok_up : ∀ I : Sym.Inv Unit, LCOk I Try.prog 54 lcUp := by
  refine lc_mk (fun _ => allCfg Try.prog [] tabB6 3) (fun _ _ => allCfg_ok mixed trivial tabB6_ok) (fun _ => rfl) (n := 80) Try.func54 ?_
  intro ⟨⟨_, n, x⟩, ⟨oe, ⟨l, oe2, ep⟩⟩⟩ hφ
  obtain ⟨⟨rfl, hg⟩, hp⟩ := id hφ
  refine kcast (B := (true = true ∧ (oe = oe ∧ GW l) ∧ true = true ∧ (oe = oe ∧ GW l) ∧ br (inB l (0 : Int) (0 : Int) && inB l (if (0 : Int) > IntKind.i64.wrap ((↑l.length : Int) - (1 : Int)) then (0 : Int) else IntKind.i64.wrap ((↑l.length : Int) - (1 : Int))) (0 : Int)) (br (decide ((if (0 : Int) > IntKind.i64.wrap ((↑l.length : Int) - (1 : Int)) then (0 : Int) else IntKind.i64.wrap ((↑l.length : Int) - (1 : Int))) < (0 : Int))) ((SV.v (Value.int IntKind.i64 (1 : Int)) = SV.v (Value.int IntKind.i64 (0 : Int)) ∧ True) ∧ (SV.h (1 : Nat) [oe, (0 : Nat)] = SV.h (1 : Nat) [oe, (0 : Nat)] ∧ True) ∧ (oe = oe ∧ ep = ep + (1 : Nat) ∧ l = upF l n x) ∧ True) ((SV.v (Value.int IntKind.i64 (0 : Int)) = SV.v (Value.int IntKind.i64 (0 : Int)) ∧ True) ∧ (SV.h (1 : Nat) [oe, (0 : Nat)] = SV.h (1 : Nat) [oe, (0 : Nat)] ∧ True) ∧ (oe = oe ∧ ep + (1 : Nat) = ep + (1 : Nat) ∧ rollL l (0 : Nat) (if (0 : Int) > IntKind.i64.wrap ((↑l.length : Int) - (1 : Int)) then (0 : Int) else IntKind.i64.wrap ((↑l.length : Int) - (1 : Int))).toNat n (C4.mk x.g x.a x.gd x.m) = upF l n x) ∧ True)) ((SV.v (Value.int IntKind.i64 (11 : Int)) = SV.v (Value.int IntKind.i64 (0 : Int)) ∧ True) ∧ (SV.h (1 : Nat) [oe, (0 : Nat)] = SV.h (1 : Nat) [oe, (0 : Nat)] ∧ True) ∧ (oe = oe ∧ ep = ep + (1 : Nat) ∧ l = upF l n x) ∧ True))) (by kernel_rfl) ?_
  clear hp hφ
  have h1 := hg.r0
  have h2 := hg.r1
  have h3 := hg.c0
  have e1 : (if (0 : Int) > IntKind.i64.wrap ((l.length : Int) - 1) then (0 : Int) else IntKind.i64.wrap ((l.length : Int) - 1)) = ((l.length - 1 : Nat) : Int) := by
    rw [wrap64 (by omega) (by omega), if_neg (by omega)]; omega
  have e2 : inB l 0 0 = true := by rw [inB_iff]; omega
  have e3 : inB l ((l.length - 1 : Nat) : Int) 0 = true := by rw [inB_iff]; omega
  have e4 : ¬ (((l.length - 1 : Nat) : Int) < 0) := by omega
  have e5 : ∀ y : C4, C4.mk y.g y.a y.gd y.m = y := fun _ => rfl
  simp only [e1]
  simp [br_iff, hg, e2, e3, e4, e5, upF]
def liC (l : List (List C4)) (row : Int) (q : Bool) : Bool := inB l row 0 && !(q && decide (gdN l row > 0))
def liL (l : List (List C4)) (row n : Int) (x : C4) (q : Bool) : List (List C4) := if liC l row q = true then rollL l row.toNat (l.length - 1) (minusF n) x else l
def liP (l : List (List C4)) (row : Int) (q : Bool) (ep : Nat) : Nat := if liC l row q = true then ep + 1 else ep
def lcLines : ACon Unit := mkLC (decP (shCons (shP 0) (shCons shI (shCons shI (shCons shC (shOne shB))))) shG) fun ((_, row, n, x, q), (oe, ⟨l, oe2, ep⟩)) => .ask (oe = oe2 ∧ GW l) (.one (.v (.int .i64 (gdE l row))) (gbi 0 oe (liP l row q ep) (liL l row n x q)) [1])
set_option maxHeartbeats 4000000 in
theorem ok_lines : ∀ I : Sym.Inv Unit, LCOk I Try.prog 52 lcLines := by
  refine lc_mk (fun _ => allCfg Try.prog [] tabB6 3) (fun _ _ => allCfg_ok mixed trivial tabB6_ok) (fun _ => rfl) (n := 80) Try.func52 ?_
  intro ⟨⟨_, row, n, x, q⟩, ⟨oe, ⟨l, oe2, ep⟩⟩⟩ hφ
  obtain ⟨⟨rfl, hg⟩, hp⟩ := id hφ
  refine kcast (B := (true = true ∧ (oe = oe ∧ GW l) ∧ br (gdE l row != (0 : Int)) ((SV.v (Value.int IntKind.i64 (gdE l row)) = SV.v (Value.int IntKind.i64 (gdE l row)) ∧ True) ∧ (SV.h (1 : Nat) [oe, (0 : Nat)] = SV.h (1 : Nat) [oe, (0 : Nat)] ∧ True) ∧ (oe = oe ∧ ep = liP l row q ep ∧ l = liL l row n x q) ∧ True) (br q (br (decide (gdV l row > (0 : Int))) ((SV.v (Value.int IntKind.i64 (gdE l row)) = SV.v (Value.int IntKind.i64 (gdE l row)) ∧ True) ∧ (SV.h (1 : Nat) [oe, (0 : Nat)] = SV.h (1 : Nat) [oe, (0 : Nat)] ∧ True) ∧ (oe = oe ∧ ep = liP l row q ep ∧ l = liL l row n x q) ∧ True) (true = true ∧ (oe = oe ∧ GW l) ∧ true = true ∧ true = true ∧ (oe = oe ∧ GW l) ∧ br (inB l row (0 : Int) && inB l (IntKind.i64.wrap ((↑l.length : Int) - (1 : Int))) (0 : Int)) (br (decide (IntKind.i64.wrap ((↑l.length : Int) - (1 : Int)) < row)) ((SV.v (Value.int IntKind.i64 (1 : Int)) = SV.v (Value.int IntKind.i64 (gdE l row)) ∧ True) ∧ (SV.h (1 : Nat) [oe, (0 : Nat)] = SV.h (1 : Nat) [oe, (0 : Nat)] ∧ True) ∧ (oe = oe ∧ ep = liP l row q ep ∧ l = liL l row n x q) ∧ True) ((SV.v (Value.int IntKind.i64 (0 : Int)) = SV.v (Value.int IntKind.i64 (gdE l row)) ∧ True) ∧ (SV.h (1 : Nat) [oe, (0 : Nat)] = SV.h (1 : Nat) [oe, (0 : Nat)] ∧ True) ∧ (oe = oe ∧ ep + (1 : Nat) = liP l row q ep ∧ rollL l row.toNat (IntKind.i64.wrap ((↑l.length : Int) - (1 : Int))).toNat (minusF n) (C4.mk x.g x.a x.gd x.m) = liL l row n x q) ∧ True)) ((SV.v (Value.int IntKind.i64 (11 : Int)) = SV.v (Value.int IntKind.i64 (gdE l row)) ∧ True) ∧ (SV.h (1 : Nat) [oe, (0 : Nat)] = SV.h (1 : Nat) [oe, (0 : Nat)] ∧ True) ∧ (oe = oe ∧ ep = liP l row q ep ∧ l = liL l row n x q) ∧ True))) (true = true ∧ (oe = oe ∧ GW l) ∧ true = true ∧ true = true ∧ (oe = oe ∧ GW l) ∧ br (inB l row (0 : Int) && inB l (IntKind.i64.wrap ((↑l.length : Int) - (1 : Int))) (0 : Int)) (br (decide (IntKind.i64.wrap ((↑l.length : Int) - (1 : Int)) < row)) ((SV.v (Value.int IntKind.i64 (1 : Int)) = SV.v (Value.int IntKind.i64 (gdE l row)) ∧ True) ∧ (SV.h (1 : Nat) [oe, (0 : Nat)] = SV.h (1 : Nat) [oe, (0 : Nat)] ∧ True) ∧ (oe = oe ∧ ep = liP l row q ep ∧ l = liL l row n x q) ∧ True) ((SV.v (Value.int IntKind.i64 (0 : Int)) = SV.v (Value.int IntKind.i64 (gdE l row)) ∧ True) ∧ (SV.h (1 : Nat) [oe, (0 : Nat)] = SV.h (1 : Nat) [oe, (0 : Nat)] ∧ True) ∧ (oe = oe ∧ ep + (1 : Nat) = liP l row q ep ∧ rollL l row.toNat (IntKind.i64.wrap ((↑l.length : Int) - (1 : Int))).toNat (minusF n) (C4.mk x.g x.a x.gd x.m) = liL l row n x q) ∧ True)) ((SV.v (Value.int IntKind.i64 (11 : Int)) = SV.v (Value.int IntKind.i64 (gdE l row)) ∧ True) ∧ (SV.h (1 : Nat) [oe, (0 : Nat)] = SV.h (1 : Nat) [oe, (0 : Nat)] ∧ True) ∧ (oe = oe ∧ ep = liP l row q ep ∧ l = liL l row n x q) ∧ True))))) (by kernel_rfl) ?_
  clear hp hφ
  have h1 := hg.r0
  have h2 := hg.r1
  have h3 := hg.c0
  have e1 : IntKind.i64.wrap ((l.length : Int) - 1) = ((l.length - 1 : Nat) : Int) := by
    rw [wrap64 (by omega) (by omega)]; omega
  have e5 : ∀ y : C4, C4.mk y.g y.a y.gd y.m = y := fun _ => rfl
  have e3 : inB l ((l.length - 1 : Nat) : Int) 0 = true := by rw [inB_iff]; omega
  cases hb : inB l row 0
  · have hE : gdE l row = 11 := by rw [gdE, hb]; rfl
    have hC : liC l row q = false := by rw [liC, hb]; rfl
    simp [br_iff, hg, hE, hC, liL, liP]
  · have hE : gdE l row = 0 := by rw [gdE, hb]; rfl
    have hV : gdV l row = gdN l row := by rw [gdV, hb]; rfl
    have hb' := inB_iff.1 hb
    have e4 : ¬ (((l.length - 1 : Nat) : Int) < row) := by omega
    simp only [e1]
    cases hC : liC l row q
    · rw [liC, hb, Bool.true_and, Bool.not_eq_false', Bool.and_eq_true, decide_eq_true_eq] at hC
      obtain ⟨rfl, hn⟩ := hC
      have hC' : liC l row true = false := by rw [liC, hb, decide_eq_true hn]; rfl
      simp [br_iff, hg, hE, hV, hC', liL, liP, hn]
    · have hC' := hC
      rw [liC, hb, Bool.true_and, Bool.not_eq_true', Bool.and_eq_false_iff, decide_eq_false_iff_not] at hC
      simp only [br_iff, hg, hE, hV, hC', hb, e3, e4, e5, liL, liP, decide_eq_true_eq, decide_eq_false_iff_not, bne_self_eq_false, Bool.false_eq_true, Bool.true_eq_false, Bool.and_self, false_implies, true_implies, true_and, and_true, if_true, Int.toNat_natCast, not_true_eq_false, not_false_eq_true, implies_true, and_self]
      intro hq hn
      rcases hC with h | h
      · rw [h] at hq; cases hq
      · exact absurd hn h
def chC (l : List (List C4)) (r c : Int) (q : Bool) : Bool := inB l r c && !(q && (at2 l r c).gd)
def chT (l : List (List C4)) (r c : Int) (q : Bool) : Int := if q = true then fdT l r c else nC l - 1
def chL (l : List (List C4)) (r c n : Int) (x : C4) (q : Bool) : List (List C4) := if chC l r c q = true then slide2 l r c (chT l r c q) (minusF n) x else l
def chE (l : List (List C4)) (r c : Int) : Int := if inB l r c = true then 0 else 11
def lcChars : ACon Unit := mkLC (decP (shCons (shP 0) (shCons shI2 (shCons shI (shCons shC (shOne shB))))) shG) fun ((_, (r, c), n, x, q), (oe, ⟨l, oe2, ep⟩)) => .ask (oe = oe2 ∧ GW l) (.one (.v (.int .i64 (chE l r c))) (gbi 0 oe ep (chL l r c n x q)) [1])
set_option maxHeartbeats 4000000 in
theorem ok_chars : ∀ I : Sym.Inv Unit, LCOk I Try.prog 32 lcChars := by
  refine lc_mk (fun _ => allCfg Try.prog [] tabB6 3) (fun _ _ => allCfg_ok mixed trivial tabB6_ok) (fun _ => rfl) (n := 80) Try.func32 ?_
  intro ⟨⟨_, ⟨r, c⟩, n, x, q⟩, ⟨oe, ⟨l, oe2, ep⟩⟩⟩ hφ
  obtain ⟨⟨rfl, hg⟩, hp⟩ := id hφ
  refine kcast (B := (true = true ∧ (oe = oe ∧ GW l) ∧ br q (true = true ∧ (oe = oe ∧ GW l) ∧ br (fdE l r c == (15 : Int)) ((SV.v (Value.int IntKind.i64 (0 : Int)) = SV.v (Value.int IntKind.i64 (chE l r c)) ∧ True) ∧ (SV.h (1 : Nat) [oe, (0 : Nat)] = SV.h (1 : Nat) [oe, (0 : Nat)] ∧ True) ∧ (oe = oe ∧ ep = ep ∧ l = chL l r c n x q) ∧ True) (true = true ∧ true = true ∧ (oe = oe ∧ GW l) ∧ br (inB l r c && inB l r (if (0 : Int) > fdVT l r c then (0 : Int) else fdVT l r c)) (br (decide ((if (0 : Int) > fdVT l r c then (0 : Int) else fdVT l r c) < c)) ((SV.v (Value.int IntKind.i64 (1 : Int)) = SV.v (Value.int IntKind.i64 (chE l r c)) ∧ True) ∧ (SV.h (1 : Nat) [oe, (0 : Nat)] = SV.h (1 : Nat) [oe, (0 : Nat)] ∧ True) ∧ (oe = oe ∧ ep = ep ∧ l = chL l r c n x q) ∧ True) ((SV.v (Value.int IntKind.i64 (0 : Int)) = SV.v (Value.int IntKind.i64 (chE l r c)) ∧ True) ∧ (SV.h (1 : Nat) [oe, (0 : Nat)] = SV.h (1 : Nat) [oe, (0 : Nat)] ∧ True) ∧ (oe = oe ∧ ep = ep ∧ slide2 l r c (if (0 : Int) > fdVT l r c then (0 : Int) else fdVT l r c) (minusF n) (C4.mk x.g x.a x.gd x.m) = chL l r c n x q) ∧ True)) ((SV.v (Value.int IntKind.i64 (11 : Int)) = SV.v (Value.int IntKind.i64 (chE l r c)) ∧ True) ∧ (SV.h (1 : Nat) [oe, (0 : Nat)] = SV.h (1 : Nat) [oe, (0 : Nat)] ∧ True) ∧ (oe = oe ∧ ep = ep ∧ l = chL l r c n x q) ∧ True))) (true = true ∧ true = true ∧ (oe = oe ∧ GW l) ∧ br (inB l r c && inB l r (if (0 : Int) > IntKind.i64.wrap ((↑(nC l) : Int) - (1 : Int)) then (0 : Int) else IntKind.i64.wrap ((↑(nC l) : Int) - (1 : Int)))) (br (decide ((if (0 : Int) > IntKind.i64.wrap ((↑(nC l) : Int) - (1 : Int)) then (0 : Int) else IntKind.i64.wrap ((↑(nC l) : Int) - (1 : Int))) < c)) ((SV.v (Value.int IntKind.i64 (1 : Int)) = SV.v (Value.int IntKind.i64 (chE l r c)) ∧ True) ∧ (SV.h (1 : Nat) [oe, (0 : Nat)] = SV.h (1 : Nat) [oe, (0 : Nat)] ∧ True) ∧ (oe = oe ∧ ep = ep ∧ l = chL l r c n x q) ∧ True) ((SV.v (Value.int IntKind.i64 (0 : Int)) = SV.v (Value.int IntKind.i64 (chE l r c)) ∧ True) ∧ (SV.h (1 : Nat) [oe, (0 : Nat)] = SV.h (1 : Nat) [oe, (0 : Nat)] ∧ True) ∧ (oe = oe ∧ ep = ep ∧ slide2 l r c (if (0 : Int) > IntKind.i64.wrap ((↑(nC l) : Int) - (1 : Int)) then (0 : Int) else IntKind.i64.wrap ((↑(nC l) : Int) - (1 : Int))) (minusF n) (C4.mk x.g x.a x.gd x.m) = chL l r c n x q) ∧ True)) ((SV.v (Value.int IntKind.i64 (11 : Int)) = SV.v (Value.int IntKind.i64 (chE l r c)) ∧ True) ∧ (SV.h (1 : Nat) [oe, (0 : Nat)] = SV.h (1 : Nat) [oe, (0 : Nat)] ∧ True) ∧ (oe = oe ∧ ep = ep ∧ l = chL l r c n x q) ∧ True)))) (by kernel_rfl) ?_
  clear hp hφ
  have h1 := hg.r0
  have h2 := hg.r1
  have h3 := hg.c0
  have h4 := hg.c1
  have e5 : ∀ y : C4, C4.mk y.g y.a y.gd y.m = y := fun _ => rfl
  have e1 : IntKind.i64.wrap ((nC l : Int) - 1) = ((nC l - 1 : Nat) : Int) := by
    rw [wrap64 (by omega) (by omega)]; omega
  simp only [e1, e5]
  cases hb : inB l r c
  · have hO : fdO l r c = false := by rw [fdO, hb]; rfl
    simp only [br_iff, hg, hb, hO, fdVF, fdVT, fdE, chE, chL, chC, Bool.false_and, Bool.and_false, Bool.false_eq_true, Bool.true_eq_false, false_implies, true_implies, true_and, and_true, if_false, implies_true, and_self, ite_self]
    exact fun _ h => absurd h (by decide)
  · have hb' := inB_iff.1 hb
    have hE : chE l r c = 0 := by rw [chE, hb]; rfl
    cases q
    · have hC : chC l r c false = true := by rw [chC, hb]; rfl
      have hT : chT l r c false = ((nC l - 1 : Nat) : Int) := by rw [chT, if_neg (by simp)]; omega
      have hm : (if (0 : Int) > ((nC l - 1 : Nat) : Int) then (0 : Int) else ((nC l - 1 : Nat) : Int)) = ((nC l - 1 : Nat) : Int) := if_neg (by omega)
      have hi : inB l r ((nC l - 1 : Nat) : Int) = true := by rw [inB_iff]; omega
      have hn : ¬ (((nC l - 1 : Nat) : Int) < c) := by omega
      simp only [br_iff, hg, hE, hm, hi, hn, chL, hC, hT, decide_false, Bool.and_self, Bool.false_eq_true, Bool.true_eq_false, false_implies, true_implies, true_and, and_true, if_true, implies_true, and_self]
    · cases hgd : (at2 l r c).gd
      · have hC : chC l r c true = true := by rw [chC, hb, hgd]; rfl
        have hT : chT l r c true = fdT l r c := rfl
        have hz := fdZ_le (gdc l r) (nC l - 1 - c.toNat) c.toNat
        have hfE : fdE l r c = 0 := by rw [fdE, if_pos hb, if_neg (by rw [hgd]; simp)]
        have hO : fdVT l r c = fdT l r c := by rw [fdVT, if_pos (by rw [fdO, hb, hgd]; rfl)]
        have h5 : c ≤ fdT l r c ∧ fdT l r c < nC l := by unfold fdT; omega
        have hm : (if (0 : Int) > fdT l r c then (0 : Int) else fdT l r c) = fdT l r c := if_neg (by omega)
        have hi : inB l r (fdT l r c) = true := by rw [inB_iff]; omega
        have hn : ¬ (fdT l r c < c) := by omega
        have h0 : ((0 : Int) == 15) = false := by decide
        simp only [br_iff, hg, hE, hfE, hO, hm, hi, hn, h0, chL, hC, hT, decide_false, Bool.and_self, Bool.false_eq_true, Bool.true_eq_false, false_implies, true_implies, true_and, and_true, if_true, implies_true, and_self]
      · have hC : chC l r c true = false := by rw [chC, hb, hgd]; rfl
        have hfE : fdE l r c = 15 := by rw [fdE, if_pos hb, if_pos hgd]
        have h0 : ((15 : Int) == 15) = true := by decide
        simp only [br_iff, hg, hE, hfE, h0, chL, hC, Bool.false_eq_true, Bool.true_eq_false, false_implies, true_implies, true_and, and_true, if_false, implies_true, and_self]
end Go.Proofs.Ytdhhagangmkloaa
