/- Contracts of layer 1: all rows. -/
import Derived.Test.YtpdhnmnjccnbmaaGrC
set_option linter.unusedSimpArgs false
set_option linter.unusedVariables false
set_option linter.unusedSectionVars false
namespace Go.Proofs.Ytpdhnmnjccnbmaa
open Go Go.Sym

/-- The first rows, and none. -/
def outL {α : Type} (l : List (List α)) (r : Nat) : List (List α) := l.take r ++ List.replicate (l.length - r) []
/-- The first rows, and the first things of the next one. -/
def cpL {α : Type} (l : List (List α)) (r k : Nat) : List (List α) := l.take r ++ (l.getD r []).take k :: List.replicate (l.length - r - 1) []
theorem outL_zero {α : Type} (l : List (List α)) : outL l 0 = List.replicate l.length [] := by simp [outL]
theorem outL_all {α : Type} (l : List (List α)) : outL l l.length = l := by simp [outL]
theorem cpL_zero {α : Type} {l : List (List α)} {r : Nat} (h : r < l.length) : cpL l r 0 = outL l r := by
  unfold cpL outL
  rw [show l.length - r = (l.length - r - 1) + 1 by omega, List.replicate_succ]; simp
theorem cpL_all {α : Type} {l : List (List α)} {r k : Nat} (h : r < l.length) (hk : (l.getD r []).length = k) : cpL l r k = outL l (r + 1) := by
  unfold cpL outL
  rw [← hk, List.take_length, List.take_succ_eq_append_getElem h, List.append_assoc]
  congr 1
  rw [List.getD, List.getElem?_eq_getElem h]
  simp; omega
theorem cpL_length {α : Type} {l : List (List α)} {r k : Nat} (h : r < l.length) : (cpL l r k).length = l.length := by simp [cpL]; omega
theorem cpL_get {α : Type} {l : List (List α)} {r k : Nat} (h : r < l.length) : (cpL l r k).getD r [] = (l.getD r []).take k := by
  have e : (l.take r).length = r := by simp; omega
  unfold cpL
  rw [List.getD, List.getElem?_append_right (by omega), e, Nat.sub_self]; rfl
theorem cpL_set {α : Type} {l : List (List α)} {r k : Nat} (h : r < l.length) (y : List α) : (cpL l r k).set r y = l.take r ++ y :: List.replicate (l.length - r - 1) [] := by
  have e : (l.take r).length = r := by simp; omega
  unfold cpL
  rw [List.set_append_right _ _ (by omega), e, Nat.sub_self]; rfl
theorem cpL_succ {l : List (List Int)} {r k : Nat} (h : r < l.length) (hk : k < (l.getD r []).length) : (cpL l r k).set r ((l.getD r []).take k ++ [(l.getD r []).getD k 0]) = cpL l r (k + 1) := by
  rw [cpL_set h]
  unfold cpL
  rw [List.take_succ_eq_append_getElem hk]
  have : (l.getD r []).getD k 0 = (l.getD r [])[k] := by rw [List.getD, List.getElem?_eq_getElem hk]; rfl
  rw [this]
theorem eLen (k : IntKind) (R : List (List Int)) : (Rws.i k R).len = R.length := rfl
theorem eNat (k : IntKind) (R : List (List Int)) (i : Nat) : (Rws.i k R).nAt i = (R.getD i []).length := rfl
theorem eSz (k : IntKind) (R : List (List Int)) : (Rws.i k R).sz = 1 := rfl
theorem eOne (v : Int) : intsOf (List.take 1 (List.drop 0 (setAll (List.map (fun i => SV.v (Value.int IntKind.i64 0).cells[i % 1]!) (List.range 1)) 0 [SV.v (Value.int IntKind.i64 v)]))) = [v] := rfl
def isOwn (H : List (SB Unit)) (b : Nat) : Bool := match H[b]? with
  | some (.own ..) => true
  | _ => false
def annRo (l : List (List Int)) : Ann Unit where
  α := Int
  φ _ r := 0 ≤ r ∧ r ≤ l.length
  μ _ r := ((l.length : Int) - r).toNat
  get st := getI st.tm 10
  f st r := tmpl [0, 1, 3, 9] [(10, .v (.int .i64 r))] [(3, .rows (.i .i64 (outL l r.toNat)) 3 63 0 (r.toNat * nC l + 1) none), (7, loopTm st.H 7 [4] [])] st
  fx st := match isOwn st.H 3 with
    | true => [.asRows 3 (some .i64) 3]
    | false => []
def annRi (l : List (List Int)) : Ann Unit where
  α := Int
  φ _ k := 0 ≤ k ∧ k ≤ nC l
  μ _ k := ((nC l : Int) - k).toNat
  get st := getI st.tm 15
  f st k := tmpl [0, 1, 3, 4, 9, 10, 14] [(15, .v (.int .i64 k))] [(3, .rows (.i .i64 (cpL l (tI st.tm 4).toNat k.toNat)) 3 63 0 ((tI st.tm 4).toNat * nC l + k.toNat + 1) none), (7, loopTm st.H 7 [4] [])] st
def lcRows1 : ACon Unit := mkLC (decP (shOne (shP 0)) shG) fun (_, (oe, ⟨l, oe2, ep⟩)) => .ask (oe = oe2 ∧ GW l) (.one (.h 3 [0, 0]) (gbi 0 oe ep l ++ [.gone, .rows (.i .i64 l) 3 63 0 (l.length * nC l + 1) none]) [])
def lcRows0 : ACon Unit := mkLC (decP (shOne shNilP) shHNil) fun _ => .one (.h 1 [0, 0]) [.gone, .own (.sv []) 0 63 1 0 true] []
set_option maxHeartbeats 4000000 in
theorem ok_rows1 : ∀ I : Sym.Inv Unit, LCOk I Try.prog 27 lcRows1 := by
  refine lc_mk (fun (_, (oe, ⟨l, oe2, ep⟩)) => allCfg Try.prog [] tabC2 3 [(193, annRo l), (385, annRi l)]) (fun _ _ => allCfg_ok mixed trivial tabC2_ok) (fun _ => rfl) (n := 80) Try.func27 ?_
  intro ⟨_, oe, ⟨l, oe2, ep⟩⟩ hφ
  obtain ⟨⟨rfl, hg⟩, hp⟩ := id hφ
  refine kcast (B := (true = true ∧ (oe = oe ∧ GW l) ∧ rq (decide ((0 : Int) ≤ (↑l.length : Int) ∧ (↑l.length : Int) ≤ (↑l.length : Int) ∧ (↑(24 : Nat) : Int) * (↑l.length : Int) ≤ (281474976710656 : Int) ∧ (↑l.length : Int) ≤ (9223372036854775807 : Int))) (true = true ∧ (oe = oe ∧ GW l) ∧ Nils (List.replicate (↑l.length : Int).toNat (SV.v (Value.slice none (0 : Nat) (0 : Nat)))) (↑l.length : Int).toNat ∧ (II (0 : Int) ≤ (0 : Int) ∧ (0 : Int) ≤ (↑l.length : Int)) ∧ ((SV.y (7 : Nat) = SV.y (7 : Nat) ∧ SV.p (5 : Nat) (0 : Nat) = SV.p (5 : Nat) (0 : Nat) ∧ SV.p (8 : Nat) (0 : Nat) = SV.p (8 : Nat) (0 : Nat) ∧ SV.v (Value.int IntKind.i64 (↑l.length : Int)) = SV.v (Value.int IntKind.i64 (↑l.length : Int)) ∧ SV.v (Value.int IntKind.i64 (0 : Int)) = SV.v (Value.int IntKind.i64 (0 : Int)) ∧ True) ∧ (SV.h (1 : Nat) [oe, (0 : Nat)] = SV.h (1 : Nat) [oe, (0 : Nat)] ∧ True) ∧ (oe = oe ∧ ep = ep ∧ l = l) ∧ (SV.v (Value.int IntKind.i64 (↑l.length : Int)) = SV.v (Value.int IntKind.i64 (↑l.length : Int)) ∧ SV.v (Value.int IntKind.i64 (↑(nC l) : Int)) = SV.v (Value.int IntKind.i64 (↑(nC l) : Int)) ∧ True) ∧ ((0 : Nat) = (0 : Nat) ∧ (1 : Nat) = (0 : Nat) * nC l + (1 : Nat) ∧ List.replicate (↑l.length : Int).toNat (LI []) = outL l (0 : Nat)) ∧ (SV.h (3 : Nat) [(0 : Nat), (0 : Nat)] = SV.h (3 : Nat) [(0 : Nat), (0 : Nat)] ∧ True) ∧ (SV.p (0 : Nat) (0 : Nat) = SV.p (0 : Nat) (0 : Nat) ∧ True) ∧ Obj.deferred (some []) = Obj.deferred (some []) ∧ ((SV.p (4 : Nat) (0 : Nat) = SV.p (4 : Nat) (0 : Nat) ∧ True) ∧ #[(14 : Nat), (15 : Nat)] = #[(14 : Nat), (15 : Nat)] ∧ codeAt Try.f27 [(1 : Nat), (1 : Nat), (1 : Nat), (0 : Nat), (1 : Nat), (0 : Nat), (0 : Nat)] = codeAt Try.f27 [(1 : Nat), (1 : Nat), (1 : Nat), (0 : Nat), (1 : Nat), (0 : Nat), (0 : Nat)] ∧ codeAt Try.f27 [(1 : Nat), (1 : Nat), (1 : Nat), (0 : Nat), (1 : Nat), (0 : Nat), (1 : Nat)] = codeAt Try.f27 [(1 : Nat), (1 : Nat), (1 : Nat), (0 : Nat), (1 : Nat), (0 : Nat), (1 : Nat)]) ∧ (SV.v (Value.int IntKind.i64 (↑l.length : Int)) = SV.v (Value.int IntKind.i64 (↑l.length : Int)) ∧ SV.v (Value.int IntKind.i64 (↑(nC l) : Int)) = SV.v (Value.int IntKind.i64 (↑(nC l) : Int)) ∧ True) ∧ True) ∧ ∀ (x : Int), (0 : Int) ≤ x ∧ x ≤ (↑l.length : Int) → br (decide (x < (↑l.length : Int))) ((II (0 : Int) ≤ (0 : Int) ∧ (0 : Int) ≤ (↑(nC l) : Int)) ∧ ((SV.y (7 : Nat) = SV.y (7 : Nat) ∧ SV.p (5 : Nat) (0 : Nat) = SV.p (5 : Nat) (0 : Nat) ∧ SV.p (8 : Nat) (0 : Nat) = SV.p (8 : Nat) (0 : Nat) ∧ SV.v (Value.int IntKind.i64 x) = SV.v (Value.int IntKind.i64 x) ∧ SV.v (Value.int IntKind.i64 (↑l.length : Int)) = SV.v (Value.int IntKind.i64 (↑l.length : Int)) ∧ SV.v (Value.int IntKind.i64 x) = SV.v (Value.int IntKind.i64 x) ∧ SV.v (Value.int IntKind.i64 (↑(nC l) : Int)) = SV.v (Value.int IntKind.i64 (↑(nC l) : Int)) ∧ SV.v (Value.int IntKind.i64 (0 : Int)) = SV.v (Value.int IntKind.i64 (0 : Int)) ∧ True) ∧ (SV.h (1 : Nat) [oe, (0 : Nat)] = SV.h (1 : Nat) [oe, (0 : Nat)] ∧ True) ∧ (oe = oe ∧ ep = ep ∧ l = l) ∧ (SV.v (Value.int IntKind.i64 (↑l.length : Int)) = SV.v (Value.int IntKind.i64 (↑l.length : Int)) ∧ SV.v (Value.int IntKind.i64 (↑(nC l) : Int)) = SV.v (Value.int IntKind.i64 (↑(nC l) : Int)) ∧ True) ∧ ((0 : Nat) = (0 : Nat) ∧ x.toNat * nC l + (1 : Nat) = x.toNat * nC l + (0 : Nat) + (1 : Nat) ∧ outL l x.toNat = cpL l x.toNat (0 : Nat)) ∧ (SV.h (3 : Nat) [(0 : Nat), (0 : Nat)] = SV.h (3 : Nat) [(0 : Nat), (0 : Nat)] ∧ True) ∧ (SV.p (0 : Nat) (0 : Nat) = SV.p (0 : Nat) (0 : Nat) ∧ True) ∧ Obj.deferred (some []) = Obj.deferred (some []) ∧ ((SV.p (4 : Nat) (0 : Nat) = SV.p (4 : Nat) (0 : Nat) ∧ True) ∧ #[(14 : Nat), (15 : Nat)] = #[(14 : Nat), (15 : Nat)] ∧ codeAt Try.f27 [(1 : Nat), (1 : Nat), (1 : Nat), (0 : Nat), (1 : Nat), (0 : Nat), (0 : Nat)] = codeAt Try.f27 [(1 : Nat), (1 : Nat), (1 : Nat), (0 : Nat), (1 : Nat), (0 : Nat), (0 : Nat)] ∧ codeAt Try.f27 [(1 : Nat), (1 : Nat), (1 : Nat), (0 : Nat), (1 : Nat), (0 : Nat), (1 : Nat)] = codeAt Try.f27 [(1 : Nat), (1 : Nat), (1 : Nat), (0 : Nat), (1 : Nat), (0 : Nat), (1 : Nat)]) ∧ (SV.v (Value.int IntKind.i64 (↑l.length : Int)) = SV.v (Value.int IntKind.i64 (↑l.length : Int)) ∧ SV.v (Value.int IntKind.i64 (↑(nC l) : Int)) = SV.v (Value.int IntKind.i64 (↑(nC l) : Int)) ∧ True) ∧ True) ∧ ∀ (x_1 : Int), (0 : Int) ≤ x_1 ∧ x_1 ≤ (↑(nC l) : Int) → br (decide (x_1 < (↑(nC l) : Int))) (rq (oe.beq oe && (Nat.beq (1 : Nat) (1 : Nat) && decide ((0 : Int) ≤ x ∧ x < (↑(Rws.i IntKind.i64 l).len : Int)))) (rq (oe.beq oe && x.toNat.blt (Rws.i IntKind.i64 l).len) (rq (ep.beq ep && x.toNat.blt (Rws.i IntKind.i64 l).len && ((Rws.i IntKind.i64 l).sz.beq (1 : Nat) && decide ((0 : Int) ≤ x_1 ∧ x_1 < (↑((Rws.i IntKind.i64 l).nAt x.toNat) : Int)))) (rq (ep.beq ep && x.toNat.blt (Rws.i IntKind.i64 l).len && x_1.toNat.blt (l.getD x.toNat (LI [])).length) (rq (true && (Nat.beq (1 : Nat) (1 : Nat) && decide ((0 : Int) ≤ x ∧ x < (↑(Rws.i IntKind.i64 (cpL l x.toNat x_1.toNat)).len : Int)))) (rq (true && x.toNat.blt (Rws.i IntKind.i64 (cpL l x.toNat x_1.toNat)).len) (rq (true && ((x.toNat * nC l + x_1.toNat + (1 : Nat)).beq (x.toNat * nC l + x_1.toNat + (1 : Nat)) && (x.toNat.blt (Rws.i IntKind.i64 (cpL l x.toNat x_1.toNat)).len && decide ((Rws.i IntKind.i64 (cpL l x.toNat x_1.toNat)).nAt x.toNat + (1 : Nat) ≤ (9223372036854775807 : Nat) ∧ ((Rws.i IntKind.i64 (cpL l x.toNat x_1.toNat)).nAt x.toNat + (1 : Nat)) * (8 : Nat) ≤ (140737488355328 : Nat))))) (rq (true && (Nat.beq (1 : Nat) (1 : Nat) && decide ((0 : Int) ≤ x ∧ x < (↑(Rws.i IntKind.i64 ((cpL l x.toNat x_1.toNat).set x.toNat ((cpL l x.toNat x_1.toNat).getD x.toNat (LI []) ++ intsOf (List.take (1 : Nat) (List.drop (0 : Nat) (setAll (List.map (fun i => SV.v (Value.int IntKind.i64 (0 : Int)).cells[i % (1 : Nat)]!) (List.range (1 : Nat))) (0 : Nat) [SV.v (Value.int IntKind.i64 ((l.getD x.toNat (LI [])).getD x_1.toNat (0 : Int)))])))))).len : Int)))) (rq (true && ((x.toNat * nC l + x_1.toNat + (1 : Nat) + (1 : Nat)).beq (x.toNat * nC l + x_1.toNat + (1 : Nat) + (1 : Nat)) && (x.toNat.beq x.toNat && (x.toNat.beq x.toNat && x.toNat.blt (Rws.i IntKind.i64 ((cpL l x.toNat x_1.toNat).set x.toNat ((cpL l x.toNat x_1.toNat).getD x.toNat (LI []) ++ intsOf (List.take (1 : Nat) (List.drop (0 : Nat) (setAll (List.map (fun i => SV.v (Value.int IntKind.i64 (0 : Int)).cells[i % (1 : Nat)]!) (List.range (1 : Nat))) (0 : Nat) [SV.v (Value.int IntKind.i64 ((l.getD x.toNat (LI [])).getD x_1.toNat (0 : Int)))])))))).len)))) (((0 : Int) ≤ IntKind.i64.wrap (x_1 + (1 : Int)) ∧ IntKind.i64.wrap (x_1 + (1 : Int)) ≤ (↑(nC l) : Int)) ∧ ((SV.y (7 : Nat) = SV.y (7 : Nat) ∧ SV.p (5 : Nat) (0 : Nat) = SV.p (5 : Nat) (0 : Nat) ∧ SV.p (8 : Nat) (0 : Nat) = SV.p (8 : Nat) (0 : Nat) ∧ SV.v (Value.int IntKind.i64 x) = SV.v (Value.int IntKind.i64 x) ∧ SV.v (Value.int IntKind.i64 (↑l.length : Int)) = SV.v (Value.int IntKind.i64 (↑l.length : Int)) ∧ SV.v (Value.int IntKind.i64 x) = SV.v (Value.int IntKind.i64 x) ∧ SV.v (Value.int IntKind.i64 (↑(nC l) : Int)) = SV.v (Value.int IntKind.i64 (↑(nC l) : Int)) ∧ SV.v (Value.int IntKind.i64 (IntKind.i64.wrap (x_1 + (1 : Int)))) = SV.v (Value.int IntKind.i64 (IntKind.i64.wrap (x_1 + (1 : Int)))) ∧ True) ∧ (SV.h (1 : Nat) [oe, (0 : Nat)] = SV.h (1 : Nat) [oe, (0 : Nat)] ∧ True) ∧ (oe = oe ∧ ep = ep ∧ l = l) ∧ (SV.v (Value.int IntKind.i64 (↑l.length : Int)) = SV.v (Value.int IntKind.i64 (↑l.length : Int)) ∧ SV.v (Value.int IntKind.i64 (↑(nC l) : Int)) = SV.v (Value.int IntKind.i64 (↑(nC l) : Int)) ∧ True) ∧ ((0 : Nat) = (0 : Nat) ∧ x.toNat * nC l + x_1.toNat + (1 : Nat) + (1 : Nat) = x.toNat * nC l + (IntKind.i64.wrap (x_1 + (1 : Int))).toNat + (1 : Nat) ∧ (cpL l x.toNat x_1.toNat).set x.toNat ((cpL l x.toNat x_1.toNat).getD x.toNat (LI []) ++ intsOf (List.take (1 : Nat) (List.drop (0 : Nat) (setAll (List.map (fun i => SV.v (Value.int IntKind.i64 (0 : Int)).cells[i % (1 : Nat)]!) (List.range (1 : Nat))) (0 : Nat) [SV.v (Value.int IntKind.i64 ((l.getD x.toNat (LI [])).getD x_1.toNat (0 : Int)))])))) = cpL l x.toNat (IntKind.i64.wrap (x_1 + (1 : Int))).toNat) ∧ (SV.h (3 : Nat) [(0 : Nat), (0 : Nat)] = SV.h (3 : Nat) [(0 : Nat), (0 : Nat)] ∧ True) ∧ (SV.p (0 : Nat) (0 : Nat) = SV.p (0 : Nat) (0 : Nat) ∧ True) ∧ Obj.deferred (some []) = Obj.deferred (some []) ∧ ((SV.p (4 : Nat) (0 : Nat) = SV.p (4 : Nat) (0 : Nat) ∧ True) ∧ #[(14 : Nat), (15 : Nat)] = #[(14 : Nat), (15 : Nat)] ∧ codeAt Try.f27 [(1 : Nat), (1 : Nat), (1 : Nat), (0 : Nat), (1 : Nat), (0 : Nat), (0 : Nat)] = codeAt Try.f27 [(1 : Nat), (1 : Nat), (1 : Nat), (0 : Nat), (1 : Nat), (0 : Nat), (0 : Nat)] ∧ codeAt Try.f27 [(1 : Nat), (1 : Nat), (1 : Nat), (0 : Nat), (1 : Nat), (0 : Nat), (1 : Nat)] = codeAt Try.f27 [(1 : Nat), (1 : Nat), (1 : Nat), (0 : Nat), (1 : Nat), (0 : Nat), (1 : Nat)]) ∧ (SV.v (Value.int IntKind.i64 (↑l.length : Int)) = SV.v (Value.int IntKind.i64 (↑l.length : Int)) ∧ SV.v (Value.int IntKind.i64 (↑(nC l) : Int)) = SV.v (Value.int IntKind.i64 (↑(nC l) : Int)) ∧ True) ∧ True) ∧ ((↑(nC l) : Int) - IntKind.i64.wrap (x_1 + (1 : Int))).toNat < ((↑(nC l) : Int) - x_1).toNat)))))))))) (((0 : Int) ≤ IntKind.i64.wrap (x + (1 : Int)) ∧ IntKind.i64.wrap (x + (1 : Int)) ≤ (↑l.length : Int)) ∧ ((SV.y (7 : Nat) = SV.y (7 : Nat) ∧ SV.p (5 : Nat) (0 : Nat) = SV.p (5 : Nat) (0 : Nat) ∧ SV.p (8 : Nat) (0 : Nat) = SV.p (8 : Nat) (0 : Nat) ∧ SV.v (Value.int IntKind.i64 (↑l.length : Int)) = SV.v (Value.int IntKind.i64 (↑l.length : Int)) ∧ SV.v (Value.int IntKind.i64 (IntKind.i64.wrap (x + (1 : Int)))) = SV.v (Value.int IntKind.i64 (IntKind.i64.wrap (x + (1 : Int)))) ∧ True) ∧ (SV.h (1 : Nat) [oe, (0 : Nat)] = SV.h (1 : Nat) [oe, (0 : Nat)] ∧ True) ∧ (oe = oe ∧ ep = ep ∧ l = l) ∧ (SV.v (Value.int IntKind.i64 (↑l.length : Int)) = SV.v (Value.int IntKind.i64 (↑l.length : Int)) ∧ SV.v (Value.int IntKind.i64 (↑(nC l) : Int)) = SV.v (Value.int IntKind.i64 (↑(nC l) : Int)) ∧ True) ∧ ((0 : Nat) = (0 : Nat) ∧ x.toNat * nC l + x_1.toNat + (1 : Nat) = (IntKind.i64.wrap (x + (1 : Int))).toNat * nC l + (1 : Nat) ∧ cpL l x.toNat x_1.toNat = outL l (IntKind.i64.wrap (x + (1 : Int))).toNat) ∧ (SV.h (3 : Nat) [(0 : Nat), (0 : Nat)] = SV.h (3 : Nat) [(0 : Nat), (0 : Nat)] ∧ True) ∧ (SV.p (0 : Nat) (0 : Nat) = SV.p (0 : Nat) (0 : Nat) ∧ True) ∧ Obj.deferred (some []) = Obj.deferred (some []) ∧ ((SV.p (4 : Nat) (0 : Nat) = SV.p (4 : Nat) (0 : Nat) ∧ True) ∧ #[(14 : Nat), (15 : Nat)] = #[(14 : Nat), (15 : Nat)] ∧ codeAt Try.f27 [(1 : Nat), (1 : Nat), (1 : Nat), (0 : Nat), (1 : Nat), (0 : Nat), (0 : Nat)] = codeAt Try.f27 [(1 : Nat), (1 : Nat), (1 : Nat), (0 : Nat), (1 : Nat), (0 : Nat), (0 : Nat)] ∧ codeAt Try.f27 [(1 : Nat), (1 : Nat), (1 : Nat), (0 : Nat), (1 : Nat), (0 : Nat), (1 : Nat)] = codeAt Try.f27 [(1 : Nat), (1 : Nat), (1 : Nat), (0 : Nat), (1 : Nat), (0 : Nat), (1 : Nat)]) ∧ (SV.v (Value.int IntKind.i64 (↑l.length : Int)) = SV.v (Value.int IntKind.i64 (↑l.length : Int)) ∧ SV.v (Value.int IntKind.i64 (↑(nC l) : Int)) = SV.v (Value.int IntKind.i64 (↑(nC l) : Int)) ∧ True) ∧ True) ∧ ((↑l.length : Int) - IntKind.i64.wrap (x + (1 : Int))).toNat < ((↑l.length : Int) - x).toNat)) ((SV.h (3 : Nat) [(0 : Nat), (0 : Nat)] = SV.h (3 : Nat) [(0 : Nat), (0 : Nat)] ∧ True) ∧ (SV.h (1 : Nat) [oe, (0 : Nat)] = SV.h (1 : Nat) [oe, (0 : Nat)] ∧ True) ∧ (oe = oe ∧ ep = ep ∧ l = l) ∧ True ∧ ((0 : Nat) = (0 : Nat) ∧ x.toNat * nC l + (1 : Nat) = l.length * nC l + (1 : Nat) ∧ outL l x.toNat = l) ∧ True)))) (by kernel_rfl) ?_
  clear hp hφ
  have hL := hg.r1
  have hC := hg.c1
  simp only [LI, II, LLI, eLen, eNat, eSz, nbeq, rq_iff, br_iff, hg, Bool.true_and, Bool.and_true, true_and, and_true, Bool.and_eq_true, Nat.ble_eq, Nat.blt_eq, decide_eq_true_eq, decide_eq_false_iff_not, Int.toNat_natCast]
  refine ⟨by omega, ⟨rfl⟩, by omega, ⟨by omega, (outL_zero l).symm⟩, fun r ⟨hr0, hr1⟩ => ⟨fun hlt => ?_, fun hge => ?_⟩⟩
  · have hr : r.toNat < l.length := by omega
    have hrow := hg.row hr
    refine ⟨by omega, (cpL_zero hr).symm, fun k ⟨hk0, hk1⟩ => ⟨fun hkl => ?_, fun hge => ?_⟩⟩
    · have hlen : (cpL l r.toNat k.toNat).length = l.length := cpL_length hr
      have hk : k.toNat < (l.getD r.toNat []).length := by omega
      have hs := cpL_succ hr hk
      have hlen2 : (cpL l r.toNat (k.toNat + 1)).length = l.length := cpL_length hr
      simp only [eOne, cpL_get hr, hlen, hs, hlen2, List.length_set, List.length_take]
      rw [wrap64 (x := k + 1) (by omega) (by omega)]
      have e1 : (k + 1).toNat = k.toNat + 1 := by omega
      rw [e1]
      exact ⟨decide_eq_true (by omega), hr, ⟨hr, decide_eq_true (by omega)⟩, ⟨hr, hk⟩, decide_eq_true (by omega), hr, ⟨hr, decide_eq_true (by omega)⟩, decide_eq_true (by omega), hr, by omega, ⟨by omega, rfl⟩, by omega⟩
    · obtain rfl : k = nC l := by omega
      rw [wrap64 (x := r + 1) (by omega) (by omega)]
      have e1 : (r + 1).toNat = r.toNat + 1 := by omega
      rw [e1]
      exact ⟨by omega, ⟨by rw [Nat.add_mul]; omega, cpL_all hr (by rw [hrow]; omega)⟩, by omega⟩
  · obtain rfl : r = l.length := by omega
    exact ⟨rfl, outL_all l⟩
set_option maxHeartbeats 4000000 in
theorem ok_rows0 : ∀ I : Sym.Inv Unit, LCOk I Try.prog 27 lcRows0 := by
  refine lc_mk (fun _ => allCfg Try.prog [] tabC2 3 []) (fun _ _ => allCfg_ok mixed trivial tabC2_ok) (fun _ => rfl) (n := 80) Try.func27 ?_
  intro ⟨_, _⟩ hφ
  refine kcast (B := (true = true ∧ true = true ∧ (SV.h (1 : Nat) [(0 : Nat), (0 : Nat)] = SV.h (1 : Nat) [(0 : Nat), (0 : Nat)] ∧ True) ∧ True ∧ ((0 : Nat) = (0 : Nat) ∧ (0 : Nat) = (0 : Nat) ∧ True) ∧ True)) (by kernel_rfl) ?_
  exact ⟨rfl, rfl, ⟨rfl, trivial⟩, trivial, ⟨rfl, rfl, trivial⟩, trivial⟩
def lcRows : ACon Unit := lcOr lcRows1 lcRows0
theorem ok_rows : ∀ I : Sym.Inv Unit, LCOk I Try.prog 27 lcRows := lcOr_ok ok_rows1 ok_rows0
def tabD : List (Nat × ACon Unit) := (27, lcRows) :: tabC2
theorem tabD_ok : LCs Try.prog tabD := ⟨ok_rows, tabC2_ok⟩

end Go.Proofs.Ytpdhnmnjccnbmaa
