/- Layer 1: all rows; rows that move: contracts. -/
import Derived.Test.YtcbjgpkbfmmdpaaDoorHaA
set_option linter.unusedSimpArgs false
set_option linter.unusedVariables false
set_option linter.unusedSectionVars false
namespace Go.Proofs.YtcbjgpkbfmmdpaaDoor
open Go Go.Sym
/-- A closure of a function. -/
def shF {α : Type} (g : Nat) (s : ShL α) : Sh α where
  enc a := .f (.func g) (s.enc a)
  dec x := match x with
    | .f fn l => match fn with
      | .func g' => match Nat.beq g' g with
        | true => s.dec l
        | false => none
      | _ => none
    | _ => none
  ok x a h := by
    split at h
    · split at h
      · split at h
        · rename_i hg
          rw [Nat.beq_eq] at hg
          subst hg
          rw [s.ok _ _ h]
        · cases h
      · cases h
    · cases h
def tabC : List (Nat × ACon Unit) := (29, lcAt) :: (86, lcSet) :: tabB
theorem tabC_ok : LCs Tryd.prog tabC := ⟨ok_at, ok_set, tabB_ok⟩

/-- The first rows, and none. -/
def outL {α : Type} (l : List (List α)) (r : Nat) : List (List α) := l.take r ++ List.replicate (l.length - r) []
/-- The first rows, and the first things of the next one. -/
def cpL {α : Type} (l : List (List α)) (r k : Nat) : List (List α) := l.take r ++ (l.getD r []).take k :: List.replicate (l.length - r - 1) []
theorem outL_zero {α : Type} (l : List (List α)) : outL l 0 = List.replicate l.length [] := by simp [outL]
theorem outL_all {α : Type} (l : List (List α)) : outL l l.length = l := by simp [outL]
theorem cpL_zero {α : Type} {l : List (List α)} {r : Nat} (h : r < l.length) : cpL l r 0 = outL l r := by
  unfold cpL outL
  rw [show l.length - r = (l.length - r - 1) + 1 by omega, List.replicate_succ]; simp
theorem cpL_all {α : Type} {l : List (List α)} {r k : Nat} (h : r < l.length) (hk : (l.getD r []).length = k) : cpL l r k = outL l (r + 1) := by
  unfold cpL outL
  rw [← hk, List.take_length, List.take_succ_eq_append_getElem h, List.append_assoc]
  congr 1
  rw [List.getD, List.getElem?_eq_getElem h]
  simp; omega
theorem cpL_length {α : Type} {l : List (List α)} {r k : Nat} (h : r < l.length) : (cpL l r k).length = l.length := by simp [cpL]; omega
theorem cpL_get {α : Type} {l : List (List α)} {r k : Nat} (h : r < l.length) : (cpL l r k).getD r [] = (l.getD r []).take k := by
  have e : (l.take r).length = r := by simp; omega
  unfold cpL
  rw [List.getD, List.getElem?_append_right (by omega), e, Nat.sub_self]; rfl
theorem cpL_set {α : Type} {l : List (List α)} {r k : Nat} (h : r < l.length) (y : List α) : (cpL l r k).set r y = l.take r ++ y :: List.replicate (l.length - r - 1) [] := by
  have e : (l.take r).length = r := by simp; omega
  unfold cpL
  rw [List.set_append_right _ _ (by omega), e, Nat.sub_self]; rfl
theorem cpL_succ {l : List (List C4)} {r k : Nat} (h : r < l.length) (hk : k < (l.getD r []).length) : (cpL l r k).set r ((l.getD r []).take k ++ [(l.getD r []).getD k C4.no]) = cpL l r (k + 1) := by
  rw [cpL_set h]
  unfold cpL
  rw [List.take_succ_eq_append_getElem hk]
  have : (l.getD r []).getD k C4.no = (l.getD r [])[k] := by rw [List.getD, List.getElem?_eq_getElem hk]; rfl
  rw [this]
theorem eLen (R : List (List C4)) : (Rws.c R).len = R.length := rfl
theorem eNat (R : List (List C4)) (i : Nat) : (Rws.c R).nAt i = (R.getD i []).length := rfl
theorem eSz (R : List (List C4)) : (Rws.c R).sz = 4 := rfl
def isOwn (H : List (SB Unit)) (b : Nat) : Bool := match H[b]? with
  | some (.own ..) => true
  | _ => false
def annRo (l : List (List C4)) : Ann Unit where
  α := Int
  φ _ r := 0 ≤ r ∧ r ≤ l.length
  μ _ r := ((l.length : Int) - r).toNat
  get st := getI st.tm 10
  f st r := tmpl [0, 1, 3, 9] [(10, .v (.int .i64 r))] [(3, .rows (.c (outL l r.toNat)) 40 47 0 (r.toNat * nC l + 1) none), (7, loopTm st.H 7 [4] [])] st
  fx st := match isOwn st.H 3 with
    | true => [.asRows 3 none 40]
    | false => []
def annRi (l : List (List C4)) : Ann Unit where
  α := Int
  φ _ k := 0 ≤ k ∧ k ≤ nC l
  μ _ k := ((nC l : Int) - k).toNat
  get st := getI st.tm 15
  f st k := tmpl [0, 1, 3, 4, 9, 10, 14] [(15, .v (.int .i64 k))] [(3, .rows (.c (cpL l (tI st.tm 4).toNat k.toNat)) 40 47 0 ((tI st.tm 4).toNat * nC l + k.toNat + 1) none), (7, loopTm st.H 7 [4] [])] st
def lcRows1 : ACon Unit := mkLC (decP (shOne (shP 0)) shG) fun (_, (oe, ⟨l, oe2, ep⟩)) => .ask (oe = oe2 ∧ GW l) (.one (.h 3 [0, 0]) (gbi 0 oe ep l ++ [.gone, .rows (.c l) 40 47 0 (l.length * nC l + 1) none]) [])
def lcRows0 : ACon Unit := mkLC (decP (shOne shNilP) shHNil) fun _ => .one (.h 1 [0, 0]) [.gone, .own (.sv []) 0 47 1 0 true] []
set_option maxHeartbeats 4000000 in
theorem ok_rows1 : ∀ I : Sym.Inv Unit, LCOk I Tryd.prog 30 lcRows1 := by
  refine lc_mk (fun (_, (oe, ⟨l, oe2, ep⟩)) => allCfg Tryd.prog [] tabC 3 [(193, annRo l), (385, annRi l)]) (fun _ _ => allCfg_ok mixed trivial tabC_ok) (fun _ => rfl) (n := 80) Tryd.func30 ?_
  intro ⟨_, oe, ⟨l, oe2, ep⟩⟩ hφ
  obtain ⟨⟨rfl, hg⟩, hp⟩ := id hφ
  refine kcast (B := (true = true ∧ (oe = oe ∧ GW l) ∧ rq (decide ((0 : Int) ≤ (↑l.length : Int) ∧ (↑l.length : Int) ≤ (↑l.length : Int) ∧ (↑(24 : Nat) : Int) * (↑l.length : Int) ≤ (281474976710656 : Int) ∧ (↑l.length : Int) ≤ (9223372036854775807 : Int))) (true = true ∧ (oe = oe ∧ GW l) ∧ Nils (List.replicate (↑l.length : Int).toNat (SV.v (Value.slice none (0 : Nat) (0 : Nat)))) (↑l.length : Int).toNat ∧ (II (0 : Int) ≤ (0 : Int) ∧ (0 : Int) ≤ (↑l.length : Int)) ∧ ((SV.y (7 : Nat) = SV.y (7 : Nat) ∧ SV.p (5 : Nat) (0 : Nat) = SV.p (5 : Nat) (0 : Nat) ∧ SV.p (8 : Nat) (0 : Nat) = SV.p (8 : Nat) (0 : Nat) ∧ SV.v (Value.int IntKind.i64 (↑l.length : Int)) = SV.v (Value.int IntKind.i64 (↑l.length : Int)) ∧ SV.v (Value.int IntKind.i64 (0 : Int)) = SV.v (Value.int IntKind.i64 (0 : Int)) ∧ True) ∧ (SV.h (1 : Nat) [oe, (0 : Nat)] = SV.h (1 : Nat) [oe, (0 : Nat)] ∧ True) ∧ (oe = oe ∧ ep = ep ∧ l = l) ∧ (SV.v (Value.int IntKind.i64 (↑l.length : Int)) = SV.v (Value.int IntKind.i64 (↑l.length : Int)) ∧ SV.v (Value.int IntKind.i64 (↑(nC l) : Int)) = SV.v (Value.int IntKind.i64 (↑(nC l) : Int)) ∧ True) ∧ ((0 : Nat) = (0 : Nat) ∧ (1 : Nat) = (0 : Nat) * nC l + (1 : Nat) ∧ List.replicate (↑l.length : Int).toNat [] = outL l (0 : Nat)) ∧ (SV.h (3 : Nat) [(0 : Nat), (0 : Nat)] = SV.h (3 : Nat) [(0 : Nat), (0 : Nat)] ∧ True) ∧ (SV.p (0 : Nat) (0 : Nat) = SV.p (0 : Nat) (0 : Nat) ∧ True) ∧ Obj.deferred (some []) = Obj.deferred (some []) ∧ ((SV.p (4 : Nat) (0 : Nat) = SV.p (4 : Nat) (0 : Nat) ∧ True) ∧ #[(14 : Nat), (15 : Nat)] = #[(14 : Nat), (15 : Nat)] ∧ codeAt Tryd.f30 [(1 : Nat), (1 : Nat), (1 : Nat), (0 : Nat), (1 : Nat), (0 : Nat), (0 : Nat)] = codeAt Tryd.f30 [(1 : Nat), (1 : Nat), (1 : Nat), (0 : Nat), (1 : Nat), (0 : Nat), (0 : Nat)] ∧ codeAt Tryd.f30 [(1 : Nat), (1 : Nat), (1 : Nat), (0 : Nat), (1 : Nat), (0 : Nat), (1 : Nat)] = codeAt Tryd.f30 [(1 : Nat), (1 : Nat), (1 : Nat), (0 : Nat), (1 : Nat), (0 : Nat), (1 : Nat)]) ∧ (SV.v (Value.int IntKind.i64 (↑l.length : Int)) = SV.v (Value.int IntKind.i64 (↑l.length : Int)) ∧ SV.v (Value.int IntKind.i64 (↑(nC l) : Int)) = SV.v (Value.int IntKind.i64 (↑(nC l) : Int)) ∧ True) ∧ True) ∧ ∀ (x : Int), (0 : Int) ≤ x ∧ x ≤ (↑l.length : Int) → br (decide (x < (↑l.length : Int))) ((II (0 : Int) ≤ (0 : Int) ∧ (0 : Int) ≤ (↑(nC l) : Int)) ∧ ((SV.y (7 : Nat) = SV.y (7 : Nat) ∧ SV.p (5 : Nat) (0 : Nat) = SV.p (5 : Nat) (0 : Nat) ∧ SV.p (8 : Nat) (0 : Nat) = SV.p (8 : Nat) (0 : Nat) ∧ SV.v (Value.int IntKind.i64 x) = SV.v (Value.int IntKind.i64 x) ∧ SV.v (Value.int IntKind.i64 (↑l.length : Int)) = SV.v (Value.int IntKind.i64 (↑l.length : Int)) ∧ SV.v (Value.int IntKind.i64 x) = SV.v (Value.int IntKind.i64 x) ∧ SV.v (Value.int IntKind.i64 (↑(nC l) : Int)) = SV.v (Value.int IntKind.i64 (↑(nC l) : Int)) ∧ SV.v (Value.int IntKind.i64 (0 : Int)) = SV.v (Value.int IntKind.i64 (0 : Int)) ∧ True) ∧ (SV.h (1 : Nat) [oe, (0 : Nat)] = SV.h (1 : Nat) [oe, (0 : Nat)] ∧ True) ∧ (oe = oe ∧ ep = ep ∧ l = l) ∧ (SV.v (Value.int IntKind.i64 (↑l.length : Int)) = SV.v (Value.int IntKind.i64 (↑l.length : Int)) ∧ SV.v (Value.int IntKind.i64 (↑(nC l) : Int)) = SV.v (Value.int IntKind.i64 (↑(nC l) : Int)) ∧ True) ∧ ((0 : Nat) = (0 : Nat) ∧ x.toNat * nC l + (1 : Nat) = x.toNat * nC l + (0 : Nat) + (1 : Nat) ∧ outL l x.toNat = cpL l x.toNat (0 : Nat)) ∧ (SV.h (3 : Nat) [(0 : Nat), (0 : Nat)] = SV.h (3 : Nat) [(0 : Nat), (0 : Nat)] ∧ True) ∧ (SV.p (0 : Nat) (0 : Nat) = SV.p (0 : Nat) (0 : Nat) ∧ True) ∧ Obj.deferred (some []) = Obj.deferred (some []) ∧ ((SV.p (4 : Nat) (0 : Nat) = SV.p (4 : Nat) (0 : Nat) ∧ True) ∧ #[(14 : Nat), (15 : Nat)] = #[(14 : Nat), (15 : Nat)] ∧ codeAt Tryd.f30 [(1 : Nat), (1 : Nat), (1 : Nat), (0 : Nat), (1 : Nat), (0 : Nat), (0 : Nat)] = codeAt Tryd.f30 [(1 : Nat), (1 : Nat), (1 : Nat), (0 : Nat), (1 : Nat), (0 : Nat), (0 : Nat)] ∧ codeAt Tryd.f30 [(1 : Nat), (1 : Nat), (1 : Nat), (0 : Nat), (1 : Nat), (0 : Nat), (1 : Nat)] = codeAt Tryd.f30 [(1 : Nat), (1 : Nat), (1 : Nat), (0 : Nat), (1 : Nat), (0 : Nat), (1 : Nat)]) ∧ (SV.v (Value.int IntKind.i64 (↑l.length : Int)) = SV.v (Value.int IntKind.i64 (↑l.length : Int)) ∧ SV.v (Value.int IntKind.i64 (↑(nC l) : Int)) = SV.v (Value.int IntKind.i64 (↑(nC l) : Int)) ∧ True) ∧ True) ∧ ∀ (x_1 : Int), (0 : Int) ≤ x_1 ∧ x_1 ≤ (↑(nC l) : Int) → br (decide (x_1 < (↑(nC l) : Int))) (rq (oe.beq oe && (Nat.beq (1 : Nat) (1 : Nat) && decide ((0 : Int) ≤ x ∧ x < (↑(Rws.c l).len : Int)))) (rq (oe.beq oe && x.toNat.blt (Rws.c l).len) (rq (ep.beq ep && x.toNat.blt (Rws.c l).len && ((Rws.c l).sz.beq (4 : Nat) && decide ((0 : Int) ≤ x_1 ∧ x_1 < (↑((Rws.c l).nAt x.toNat) : Int)))) (rq (ep.beq ep && x.toNat.blt (Rws.c l).len && x_1.toNat.blt (l.getD x.toNat []).length) (rq (true && (Nat.beq (1 : Nat) (1 : Nat) && decide ((0 : Int) ≤ x ∧ x < (↑(Rws.c (cpL l x.toNat x_1.toNat)).len : Int)))) (rq (true && x.toNat.blt (Rws.c (cpL l x.toNat x_1.toNat)).len) (rq (true && ((x.toNat * nC l + x_1.toNat + (1 : Nat)).beq (x.toNat * nC l + x_1.toNat + (1 : Nat)) && (x.toNat.blt (Rws.c (cpL l x.toNat x_1.toNat)).len && decide ((Rws.c (cpL l x.toNat x_1.toNat)).nAt x.toNat + (1 : Nat) ≤ (9223372036854775807 : Nat) ∧ ((Rws.c (cpL l x.toNat x_1.toNat)).nAt x.toNat + (1 : Nat)) * (32 : Nat) ≤ (140737488355328 : Nat))))) (rq (true && (Nat.beq (1 : Nat) (1 : Nat) && decide ((0 : Int) ≤ x ∧ x < (↑(Rws.c ((cpL l x.toNat x_1.toNat).set x.toNat ((cpL l x.toNat x_1.toNat).getD x.toNat [] ++ [C4.mk ((l.getD x.toNat []).getD x_1.toNat C4.no).g ((l.getD x.toNat []).getD x_1.toNat C4.no).a ((l.getD x.toNat []).getD x_1.toNat C4.no).gd ((l.getD x.toNat []).getD x_1.toNat C4.no).m]))).len : Int)))) (rq (true && ((x.toNat * nC l + x_1.toNat + (1 : Nat) + (1 : Nat)).beq (x.toNat * nC l + x_1.toNat + (1 : Nat) + (1 : Nat)) && (x.toNat.beq x.toNat && (x.toNat.beq x.toNat && x.toNat.blt (Rws.c ((cpL l x.toNat x_1.toNat).set x.toNat ((cpL l x.toNat x_1.toNat).getD x.toNat [] ++ [C4.mk ((l.getD x.toNat []).getD x_1.toNat C4.no).g ((l.getD x.toNat []).getD x_1.toNat C4.no).a ((l.getD x.toNat []).getD x_1.toNat C4.no).gd ((l.getD x.toNat []).getD x_1.toNat C4.no).m]))).len)))) (((0 : Int) ≤ IntKind.i64.wrap (x_1 + (1 : Int)) ∧ IntKind.i64.wrap (x_1 + (1 : Int)) ≤ (↑(nC l) : Int)) ∧ ((SV.y (7 : Nat) = SV.y (7 : Nat) ∧ SV.p (5 : Nat) (0 : Nat) = SV.p (5 : Nat) (0 : Nat) ∧ SV.p (8 : Nat) (0 : Nat) = SV.p (8 : Nat) (0 : Nat) ∧ SV.v (Value.int IntKind.i64 x) = SV.v (Value.int IntKind.i64 x) ∧ SV.v (Value.int IntKind.i64 (↑l.length : Int)) = SV.v (Value.int IntKind.i64 (↑l.length : Int)) ∧ SV.v (Value.int IntKind.i64 x) = SV.v (Value.int IntKind.i64 x) ∧ SV.v (Value.int IntKind.i64 (↑(nC l) : Int)) = SV.v (Value.int IntKind.i64 (↑(nC l) : Int)) ∧ SV.v (Value.int IntKind.i64 (IntKind.i64.wrap (x_1 + (1 : Int)))) = SV.v (Value.int IntKind.i64 (IntKind.i64.wrap (x_1 + (1 : Int)))) ∧ True) ∧ (SV.h (1 : Nat) [oe, (0 : Nat)] = SV.h (1 : Nat) [oe, (0 : Nat)] ∧ True) ∧ (oe = oe ∧ ep = ep ∧ l = l) ∧ (SV.v (Value.int IntKind.i64 (↑l.length : Int)) = SV.v (Value.int IntKind.i64 (↑l.length : Int)) ∧ SV.v (Value.int IntKind.i64 (↑(nC l) : Int)) = SV.v (Value.int IntKind.i64 (↑(nC l) : Int)) ∧ True) ∧ ((0 : Nat) = (0 : Nat) ∧ x.toNat * nC l + x_1.toNat + (1 : Nat) + (1 : Nat) = x.toNat * nC l + (IntKind.i64.wrap (x_1 + (1 : Int))).toNat + (1 : Nat) ∧ (cpL l x.toNat x_1.toNat).set x.toNat ((cpL l x.toNat x_1.toNat).getD x.toNat [] ++ [C4.mk ((l.getD x.toNat []).getD x_1.toNat C4.no).g ((l.getD x.toNat []).getD x_1.toNat C4.no).a ((l.getD x.toNat []).getD x_1.toNat C4.no).gd ((l.getD x.toNat []).getD x_1.toNat C4.no).m]) = cpL l x.toNat (IntKind.i64.wrap (x_1 + (1 : Int))).toNat) ∧ (SV.h (3 : Nat) [(0 : Nat), (0 : Nat)] = SV.h (3 : Nat) [(0 : Nat), (0 : Nat)] ∧ True) ∧ (SV.p (0 : Nat) (0 : Nat) = SV.p (0 : Nat) (0 : Nat) ∧ True) ∧ Obj.deferred (some []) = Obj.deferred (some []) ∧ ((SV.p (4 : Nat) (0 : Nat) = SV.p (4 : Nat) (0 : Nat) ∧ True) ∧ #[(14 : Nat), (15 : Nat)] = #[(14 : Nat), (15 : Nat)] ∧ codeAt Tryd.f30 [(1 : Nat), (1 : Nat), (1 : Nat), (0 : Nat), (1 : Nat), (0 : Nat), (0 : Nat)] = codeAt Tryd.f30 [(1 : Nat), (1 : Nat), (1 : Nat), (0 : Nat), (1 : Nat), (0 : Nat), (0 : Nat)] ∧ codeAt Tryd.f30 [(1 : Nat), (1 : Nat), (1 : Nat), (0 : Nat), (1 : Nat), (0 : Nat), (1 : Nat)] = codeAt Tryd.f30 [(1 : Nat), (1 : Nat), (1 : Nat), (0 : Nat), (1 : Nat), (0 : Nat), (1 : Nat)]) ∧ (SV.v (Value.int IntKind.i64 (↑l.length : Int)) = SV.v (Value.int IntKind.i64 (↑l.length : Int)) ∧ SV.v (Value.int IntKind.i64 (↑(nC l) : Int)) = SV.v (Value.int IntKind.i64 (↑(nC l) : Int)) ∧ True) ∧ True) ∧ ((↑(nC l) : Int) - IntKind.i64.wrap (x_1 + (1 : Int))).toNat < ((↑(nC l) : Int) - x_1).toNat)))))))))) (((0 : Int) ≤ IntKind.i64.wrap (x + (1 : Int)) ∧ IntKind.i64.wrap (x + (1 : Int)) ≤ (↑l.length : Int)) ∧ ((SV.y (7 : Nat) = SV.y (7 : Nat) ∧ SV.p (5 : Nat) (0 : Nat) = SV.p (5 : Nat) (0 : Nat) ∧ SV.p (8 : Nat) (0 : Nat) = SV.p (8 : Nat) (0 : Nat) ∧ SV.v (Value.int IntKind.i64 (↑l.length : Int)) = SV.v (Value.int IntKind.i64 (↑l.length : Int)) ∧ SV.v (Value.int IntKind.i64 (IntKind.i64.wrap (x + (1 : Int)))) = SV.v (Value.int IntKind.i64 (IntKind.i64.wrap (x + (1 : Int)))) ∧ True) ∧ (SV.h (1 : Nat) [oe, (0 : Nat)] = SV.h (1 : Nat) [oe, (0 : Nat)] ∧ True) ∧ (oe = oe ∧ ep = ep ∧ l = l) ∧ (SV.v (Value.int IntKind.i64 (↑l.length : Int)) = SV.v (Value.int IntKind.i64 (↑l.length : Int)) ∧ SV.v (Value.int IntKind.i64 (↑(nC l) : Int)) = SV.v (Value.int IntKind.i64 (↑(nC l) : Int)) ∧ True) ∧ ((0 : Nat) = (0 : Nat) ∧ x.toNat * nC l + x_1.toNat + (1 : Nat) = (IntKind.i64.wrap (x + (1 : Int))).toNat * nC l + (1 : Nat) ∧ cpL l x.toNat x_1.toNat = outL l (IntKind.i64.wrap (x + (1 : Int))).toNat) ∧ (SV.h (3 : Nat) [(0 : Nat), (0 : Nat)] = SV.h (3 : Nat) [(0 : Nat), (0 : Nat)] ∧ True) ∧ (SV.p (0 : Nat) (0 : Nat) = SV.p (0 : Nat) (0 : Nat) ∧ True) ∧ Obj.deferred (some []) = Obj.deferred (some []) ∧ ((SV.p (4 : Nat) (0 : Nat) = SV.p (4 : Nat) (0 : Nat) ∧ True) ∧ #[(14 : Nat), (15 : Nat)] = #[(14 : Nat), (15 : Nat)] ∧ codeAt Tryd.f30 [(1 : Nat), (1 : Nat), (1 : Nat), (0 : Nat), (1 : Nat), (0 : Nat), (0 : Nat)] = codeAt Tryd.f30 [(1 : Nat), (1 : Nat), (1 : Nat), (0 : Nat), (1 : Nat), (0 : Nat), (0 : Nat)] ∧ codeAt Tryd.f30 [(1 : Nat), (1 : Nat), (1 : Nat), (0 : Nat), (1 : Nat), (0 : Nat), (1 : Nat)] = codeAt Tryd.f30 [(1 : Nat), (1 : Nat), (1 : Nat), (0 : Nat), (1 : Nat), (0 : Nat), (1 : Nat)]) ∧ (SV.v (Value.int IntKind.i64 (↑l.length : Int)) = SV.v (Value.int IntKind.i64 (↑l.length : Int)) ∧ SV.v (Value.int IntKind.i64 (↑(nC l) : Int)) = SV.v (Value.int IntKind.i64 (↑(nC l) : Int)) ∧ True) ∧ True) ∧ ((↑l.length : Int) - IntKind.i64.wrap (x + (1 : Int))).toNat < ((↑l.length : Int) - x).toNat)) ((SV.h (3 : Nat) [(0 : Nat), (0 : Nat)] = SV.h (3 : Nat) [(0 : Nat), (0 : Nat)] ∧ True) ∧ (SV.h (1 : Nat) [oe, (0 : Nat)] = SV.h (1 : Nat) [oe, (0 : Nat)] ∧ True) ∧ (oe = oe ∧ ep = ep ∧ l = l) ∧ True ∧ ((0 : Nat) = (0 : Nat) ∧ x.toNat * nC l + (1 : Nat) = l.length * nC l + (1 : Nat) ∧ outL l x.toNat = l) ∧ True)))) (by kernel_rfl) ?_
  clear hp hφ
  have hL := hg.r1
  have hC := hg.c1
  simp only [LC4, II, LLC, eLen, eNat, eSz, nbeq, rq_iff, br_iff, hg, Bool.true_and, Bool.and_true, true_and, and_true, Bool.and_eq_true, Nat.ble_eq, Nat.blt_eq, decide_eq_true_eq, decide_eq_false_iff_not, Int.toNat_natCast]
  refine ⟨by omega, ⟨rfl⟩, by omega, ⟨by omega, (outL_zero l).symm⟩, fun r ⟨hr0, hr1⟩ => ⟨fun hlt => ?_, fun hge => ?_⟩⟩
  · have hr : r.toNat < l.length := by omega
    have hrow := hg.row hr
    refine ⟨by omega, (cpL_zero hr).symm, fun k ⟨hk0, hk1⟩ => ⟨fun hkl => ?_, fun hge => ?_⟩⟩
    · have hlen : (cpL l r.toNat k.toNat).length = l.length := cpL_length hr
      have hk : k.toNat < (l.getD r.toNat []).length := by omega
      have hs := cpL_succ hr hk
      have hlen2 : (cpL l r.toNat (k.toNat + 1)).length = l.length := cpL_length hr
      simp only [cpL_get hr, hlen, hs, hlen2, List.length_set, List.length_take]
      rw [wrap64 (x := k + 1) (by omega) (by omega)]
      have e1 : (k + 1).toNat = k.toNat + 1 := by omega
      rw [e1]
      exact ⟨decide_eq_true (by omega), hr, ⟨hr, decide_eq_true (by omega)⟩, ⟨hr, hk⟩, decide_eq_true (by omega), hr, ⟨hr, decide_eq_true (by omega)⟩, decide_eq_true (by omega), hr, by omega, ⟨by omega, rfl⟩, by omega⟩
    · obtain rfl : k = nC l := by omega
      rw [wrap64 (x := r + 1) (by omega) (by omega)]
      have e1 : (r + 1).toNat = r.toNat + 1 := by omega
      rw [e1]
      exact ⟨by omega, ⟨by rw [Nat.add_mul]; omega, cpL_all hr (by rw [hrow]; omega)⟩, by omega⟩
  · obtain rfl : r = l.length := by omega
    exact ⟨rfl, outL_all l⟩
set_option maxHeartbeats 4000000 in
theorem ok_rows0 : ∀ I : Sym.Inv Unit, LCOk I Tryd.prog 30 lcRows0 := by
  refine lc_mk (fun _ => allCfg Tryd.prog [] tabC 3 []) (fun _ _ => allCfg_ok mixed trivial tabC_ok) (fun _ => rfl) (n := 80) Tryd.func30 ?_
  intro ⟨_, _⟩ hφ
  refine kcast (B := (true = true ∧ true = true ∧ (SV.h (1 : Nat) [(0 : Nat), (0 : Nat)] = SV.h (1 : Nat) [(0 : Nat), (0 : Nat)] ∧ True) ∧ True ∧ ((0 : Nat) = (0 : Nat) ∧ (0 : Nat) = (0 : Nat) ∧ True) ∧ True)) (by kernel_rfl) ?_
  exact ⟨rfl, rfl, ⟨rfl, trivial⟩, trivial, ⟨rfl, rfl, trivial⟩, trivial⟩
def lcRows : ACon Unit := lcOr lcRows1 lcRows0
theorem ok_rows : ∀ I : Sym.Inv Unit, LCOk I Tryd.prog 30 lcRows := lcOr_ok ok_rows1 ok_rows0
def tabD : List (Nat × ACon Unit) := (30, lcRows) :: tabC
theorem tabD_ok : LCs Tryd.prog tabD := ⟨ok_rows, tabC_ok⟩


/-- A part of the outer row: the epoch, from where, how many. -/
def shOut (b : Nat) : Sh (Nat × Nat × Nat) where
  enc a := .h b [a.1, 0, a.2.1, a.2.2, 0]
  dec x := match x with
    | .h b' q => match Nat.beq b' b with
      | true => match q with
        | [oe, o, lo, len, z] => match o with
          | 0 => match z with
            | 0 => some (oe, lo, len)
            | _ => none
          | _ => none
        | _ => none
      | false => none
    | _ => none
  ok x a h := by
    split at h
    · split at h
      · rename_i hT
        rw [Nat.beq_eq] at hT
        subst hT
        split at h
        · split at h
          · split at h
            · simp only [Option.some.injEq] at h; subst h; rfl
            · cases h
          · cases h
        · cases h
      · cases h
    · cases h
/-- Headers that go to the front by n, and what fills the rest. -/
def limAt1 {α : Type} (lo len : Nat) (n : Int) (x : α) (i : Nat) : Nat ⊕ α := if n > (len : Int) - 1 - i ∨ n < -(i : Int) then .inr x else .inl (lo + (i + n).toNat)
def limL {α : Type} (lo len : Nat) (n : Int) (x : α) : List (Nat ⊕ α) := (List.range len).map (limAt1 lo len n x)
theorem limL_length {α : Type} (lo len : Nat) (n : Int) (x : α) : (limL lo len n x).length = len := by simp [limL]
theorem limL_succ {α : Type} {lo len : Nat} {n : Int} {x : α} {k : Int} (h0 : 0 ≤ k) (h1 : k < len) : (limL lo len n x).take (k + 1).toNat = (limL lo len n x).take k.toNat ++ [limAt1 lo len n x k.toNat] := by
  rw [show (k + 1).toNat = k.toNat + 1 by omega, List.take_succ_eq_append_getElem (by rw [limL_length]; omega)]
  simp [limL]
theorem limL_get {α : Type} {lo len : Nat} {n : Int} {x : α} {i : Nat} (h : i < len) : (limL lo len n x)[i]? = some (limAt1 lo len n x i) := by simp [limL, h]
theorem limL_fits {α : Type} {lo len N : Nat} {n : Int} {x : α} (h : lo + len ≤ N) {p j : Nat} (hp : p < N) (hj : ixAt (limL lo len n x) lo p = some j) :
    j < N ∧ ∀ p' j', p' < N → p ≠ p' → ixAt (limL lo len n x) lo p' = some j' → j ≠ j' := by
  have key : ∀ p j, p < N → ixAt (limL lo len n x) lo p = some j → (j = p ∧ (p < lo ∨ lo + len ≤ p)) ∨ (lo ≤ p ∧ p < lo + len ∧ (j : Int) = p + n ∧ lo ≤ j ∧ j < lo + len) := fun p j hp hj => by
    unfold ixAt at hj
    split at hj
    · rename_i hb
      rw [Nat.blt_eq] at hb
      simp only [Option.some.injEq] at hj
      exact .inl ⟨hj.symm, .inl hb⟩
    · rename_i hb
      have hb : ¬ p < lo := by rw [← Nat.blt_eq, hb]; simp
      by_cases hl : p - lo < len
      · rw [limL_get hl] at hj
        have hj2 : (match limAt1 lo len n x (p - lo) with
          | .inl j => some j
          | .inr _ => none) = some j := hj
        unfold limAt1 at hj2
        by_cases hc : n > (len : Int) - 1 - (p - lo : Nat) ∨ n < -((p - lo : Nat) : Int)
        · rw [if_pos hc] at hj2; cases hj2
        · rw [if_neg hc] at hj2
          simp only [Option.some.injEq] at hj2
          right
          omega
      · rw [List.getElem?_eq_none (by rw [limL_length]; omega)] at hj
        simp only [Option.some.injEq] at hj
        exact .inl ⟨hj.symm, .inr (by omega)⟩
  have h1 := key p j hp hj
  refine ⟨by omega, fun p' j' hp' hne hj' => ?_⟩
  have h2 := key p' j' hp' hj'
  omega
def annMR (lo len : Nat) (n : Int) (row : List C4) (ep : Nat) : Ann Unit where
  α := Int
  φ _ k := 0 ≤ k ∧ k ≤ len
  μ _ k := ((len : Int) - k).toNat
  get st := getI st.tm 14
  f st k := tmpl [0, 1, 2, 13] [(14, .v (.int .i64 k)), (7, .h 4 [k.toNat, 0])] [(4, .limbo 0 ep (.c ((limL lo len n row).take k.toNat)) 40 47 k.toNat)] st
  fx st := match isOwn st.H 4 with
    | true => [.asLimbo 4 0 none 40]
    | false => []
def lcMovR : ACon Unit := mkLC (decP (shCons (shOut 0) (shCons shI (shOne (shF 100 (shCons (shP 1) (shOne (shP 2))))))) (shHCons (shRowsC 40 47) (shHCons (shCells shCL 40) (shHCons (shCells (shOne (shP 3)) 77) (shHOne (shCells (shOne (shO 0)) 106))))))
  fun (((oe1, lo, len), n, _), (⟨l, oe, ep⟩, x, _, oe3)) => .ask (oe1 = oe ∧ oe3 = oe ∧ GW l ∧ lo + len ≤ l.length ∧ 0 < len) (.one (.h 4 [len, 0])
    [.rows (.c l) 40 47 oe ep none, .cells (recS x) 40, .cells [.p 3 0] 77, .cells [.h 0 [oe, 0]] 106, .limbo 0 ep (.c (limL lo len n (List.replicate (nC l) x))) 40 47 len] [])
set_option maxHeartbeats 4000000 in
theorem ok_movR : ∀ I : Sym.Inv Unit, LCOk I Tryd.prog 101 lcMovR := by
  refine lc_mk (fun (((oe1, lo, len), n, _), (⟨l, oe, ep⟩, x, _, oe3)) => allCfg Tryd.prog [] tabD 3 [(257, annMR lo len n (List.replicate (nC l) x) ep)]) (fun _ _ => allCfg_ok mixed trivial tabD_ok) (fun _ => rfl) (n := 80) Tryd.func101 ?_
  intro ⟨⟨⟨oe1, lo, len⟩, n, _⟩, ⟨l, oe, ep⟩, x, _, oe3⟩ hφ
  obtain ⟨⟨rfl, rfl, hg, h1, h2⟩, hp⟩ := id hφ
  refine kcast (B := (rq (oe3.beq oe3 && Nat.blt (0 : Nat) (Rws.c l).len) (rq (decide ((0 : Int) ≤ (0 : Int) ∧ (0 : Int) ≤ (↑len : Int) ∧ (↑(24 : Nat) : Int) * (↑len : Int) ≤ (281474976710656 : Int) ∧ (↑len : Int) ≤ (9223372036854775807 : Int))) (rq (oe3.beq oe3 && Nat.blt (0 : Nat) (Rws.c l).len) (NoRow [] (0 : Nat) ∧ (II (0 : Int) ≤ (0 : Int) ∧ (0 : Int) ≤ (↑len : Int)) ∧ ((SV.h (0 : Nat) [oe3, (0 : Nat), lo, len, (0 : Nat)] = SV.h (0 : Nat) [oe3, (0 : Nat), lo, len, (0 : Nat)] ∧ SV.v (Value.int IntKind.i64 n) = SV.v (Value.int IntKind.i64 n) ∧ SV.f (Fn.func (100 : Nat)) [SV.p (1 : Nat) (0 : Nat), SV.p (2 : Nat) (0 : Nat)] = SV.f (Fn.func (100 : Nat)) [SV.p (1 : Nat) (0 : Nat), SV.p (2 : Nat) (0 : Nat)] ∧ SV.h (4 : Nat) [(0 : Nat), (0 : Nat)] = SV.h (4 : Nat) [(0 : Nat), (0 : Nat)] ∧ SV.v (Value.int IntKind.i64 (↑len : Int)) = SV.v (Value.int IntKind.i64 (↑len : Int)) ∧ SV.v (Value.int IntKind.i64 (0 : Int)) = SV.v (Value.int IntKind.i64 (0 : Int)) ∧ True) ∧ (oe3 = oe3 ∧ ep = ep ∧ l = l) ∧ (SV.v (Value.int IntKind.i32 x.g) = SV.v (Value.int IntKind.i32 x.g) ∧ SV.v (Value.int IntKind.i64 x.a) = SV.v (Value.int IntKind.i64 x.a) ∧ SV.v (Value.bool x.gd) = SV.v (Value.bool x.gd) ∧ SV.v (Value.int IntKind.i64 x.m) = SV.v (Value.int IntKind.i64 x.m) ∧ True) ∧ (SV.p (3 : Nat) (0 : Nat) = SV.p (3 : Nat) (0 : Nat) ∧ True) ∧ (SV.h (0 : Nat) [oe3, (0 : Nat)] = SV.h (0 : Nat) [oe3, (0 : Nat)] ∧ True) ∧ (ep = ep ∧ (0 : Nat) = (0 : Nat) ∧ LJC [] = []) ∧ True) ∧ ∀ (x_1 : Int), (0 : Int) ≤ x_1 ∧ x_1 ≤ (↑len : Int) → br (decide (x_1 < (↑len : Int))) (rq (oe3.beq oe3 && Nat.blt (0 : Nat) (Rws.c l).len) (br (decide (n > IntKind.i64.wrap (IntKind.i64.wrap ((↑len : Int) - (1 : Int)) - x_1))) (rq (oe3.beq oe3 && (Nat.beq (1 : Nat) (1 : Nat) && decide ((0 : Int) ≤ (0 : Int) ∧ (0 : Int) < (↑(Rws.c l).len : Int)))) (rq (oe3.beq oe3 && Nat.blt (0 : Nat) (Rws.c l).len) (rq (ep.beq ep && Nat.blt (0 : Nat) (Rws.c l).len) (true = true ∧ ((1 : Int) ≤ (↑((Rws.c l).nAt (0 : Nat)) : Int) ∧ (↑((Rws.c l).nAt (0 : Nat)) : Int) ≤ (255 : Int)) ∧ rq (true && (x_1.toNat.beq x_1.toNat && (true && decide ((Lim.c (List.take x_1.toNat (limL lo len n (List.replicate (nC l) x)))).len + (1 : Nat) ≤ (9223372036854775807 : Nat) ∧ ((Lim.c (List.take x_1.toNat (limL lo len n (List.replicate (nC l) x)))).len + (1 : Nat)) * (24 : Nat) ≤ (140737488355328 : Nat))))) (((0 : Int) ≤ IntKind.i64.wrap (x_1 + (1 : Int)) ∧ IntKind.i64.wrap (x_1 + (1 : Int)) ≤ (↑len : Int)) ∧ ((SV.h (0 : Nat) [oe3, (0 : Nat), lo, len, (0 : Nat)] = SV.h (0 : Nat) [oe3, (0 : Nat), lo, len, (0 : Nat)] ∧ SV.v (Value.int IntKind.i64 n) = SV.v (Value.int IntKind.i64 n) ∧ SV.f (Fn.func (100 : Nat)) [SV.p (1 : Nat) (0 : Nat), SV.p (2 : Nat) (0 : Nat)] = SV.f (Fn.func (100 : Nat)) [SV.p (1 : Nat) (0 : Nat), SV.p (2 : Nat) (0 : Nat)] ∧ SV.h (4 : Nat) [x_1.toNat + (1 : Nat), (0 : Nat)] = SV.h (4 : Nat) [(IntKind.i64.wrap (x_1 + (1 : Int))).toNat, (0 : Nat)] ∧ SV.v (Value.int IntKind.i64 (↑len : Int)) = SV.v (Value.int IntKind.i64 (↑len : Int)) ∧ SV.v (Value.int IntKind.i64 (IntKind.i64.wrap (x_1 + (1 : Int)))) = SV.v (Value.int IntKind.i64 (IntKind.i64.wrap (x_1 + (1 : Int)))) ∧ True) ∧ (oe3 = oe3 ∧ ep = ep ∧ l = l) ∧ (SV.v (Value.int IntKind.i32 x.g) = SV.v (Value.int IntKind.i32 x.g) ∧ SV.v (Value.int IntKind.i64 x.a) = SV.v (Value.int IntKind.i64 x.a) ∧ SV.v (Value.bool x.gd) = SV.v (Value.bool x.gd) ∧ SV.v (Value.int IntKind.i64 x.m) = SV.v (Value.int IntKind.i64 x.m) ∧ True) ∧ (SV.p (3 : Nat) (0 : Nat) = SV.p (3 : Nat) (0 : Nat) ∧ True) ∧ (SV.h (0 : Nat) [oe3, (0 : Nat)] = SV.h (0 : Nat) [oe3, (0 : Nat)] ∧ True) ∧ (ep = ep ∧ x_1.toNat + (1 : Nat) = (IntKind.i64.wrap (x_1 + (1 : Int))).toNat ∧ List.take x_1.toNat (limL lo len n (List.replicate (nC l) x)) ++ [Sum.inr (List.replicate (↑((Rws.c l).nAt (0 : Nat)) : Int).toNat (C4.mk x.g x.a x.gd x.m))] = List.take (IntKind.i64.wrap (x_1 + (1 : Int))).toNat (limL lo len n (List.replicate (nC l) x))) ∧ True) ∧ ((↑len : Int) - IntKind.i64.wrap (x_1 + (1 : Int))).toNat < ((↑len : Int) - x_1).toNat))))) (br (decide (n < IntKind.i64.wrap ((0 : Int) - x_1))) (rq (oe3.beq oe3 && (Nat.beq (1 : Nat) (1 : Nat) && decide ((0 : Int) ≤ (0 : Int) ∧ (0 : Int) < (↑(Rws.c l).len : Int)))) (rq (oe3.beq oe3 && Nat.blt (0 : Nat) (Rws.c l).len) (rq (ep.beq ep && Nat.blt (0 : Nat) (Rws.c l).len) (true = true ∧ ((1 : Int) ≤ (↑((Rws.c l).nAt (0 : Nat)) : Int) ∧ (↑((Rws.c l).nAt (0 : Nat)) : Int) ≤ (255 : Int)) ∧ rq (true && (x_1.toNat.beq x_1.toNat && (true && decide ((Lim.c (List.take x_1.toNat (limL lo len n (List.replicate (nC l) x)))).len + (1 : Nat) ≤ (9223372036854775807 : Nat) ∧ ((Lim.c (List.take x_1.toNat (limL lo len n (List.replicate (nC l) x)))).len + (1 : Nat)) * (24 : Nat) ≤ (140737488355328 : Nat))))) (((0 : Int) ≤ IntKind.i64.wrap (x_1 + (1 : Int)) ∧ IntKind.i64.wrap (x_1 + (1 : Int)) ≤ (↑len : Int)) ∧ ((SV.h (0 : Nat) [oe3, (0 : Nat), lo, len, (0 : Nat)] = SV.h (0 : Nat) [oe3, (0 : Nat), lo, len, (0 : Nat)] ∧ SV.v (Value.int IntKind.i64 n) = SV.v (Value.int IntKind.i64 n) ∧ SV.f (Fn.func (100 : Nat)) [SV.p (1 : Nat) (0 : Nat), SV.p (2 : Nat) (0 : Nat)] = SV.f (Fn.func (100 : Nat)) [SV.p (1 : Nat) (0 : Nat), SV.p (2 : Nat) (0 : Nat)] ∧ SV.h (4 : Nat) [x_1.toNat + (1 : Nat), (0 : Nat)] = SV.h (4 : Nat) [(IntKind.i64.wrap (x_1 + (1 : Int))).toNat, (0 : Nat)] ∧ SV.v (Value.int IntKind.i64 (↑len : Int)) = SV.v (Value.int IntKind.i64 (↑len : Int)) ∧ SV.v (Value.int IntKind.i64 (IntKind.i64.wrap (x_1 + (1 : Int)))) = SV.v (Value.int IntKind.i64 (IntKind.i64.wrap (x_1 + (1 : Int)))) ∧ True) ∧ (oe3 = oe3 ∧ ep = ep ∧ l = l) ∧ (SV.v (Value.int IntKind.i32 x.g) = SV.v (Value.int IntKind.i32 x.g) ∧ SV.v (Value.int IntKind.i64 x.a) = SV.v (Value.int IntKind.i64 x.a) ∧ SV.v (Value.bool x.gd) = SV.v (Value.bool x.gd) ∧ SV.v (Value.int IntKind.i64 x.m) = SV.v (Value.int IntKind.i64 x.m) ∧ True) ∧ (SV.p (3 : Nat) (0 : Nat) = SV.p (3 : Nat) (0 : Nat) ∧ True) ∧ (SV.h (0 : Nat) [oe3, (0 : Nat)] = SV.h (0 : Nat) [oe3, (0 : Nat)] ∧ True) ∧ (ep = ep ∧ x_1.toNat + (1 : Nat) = (IntKind.i64.wrap (x_1 + (1 : Int))).toNat ∧ List.take x_1.toNat (limL lo len n (List.replicate (nC l) x)) ++ [Sum.inr (List.replicate (↑((Rws.c l).nAt (0 : Nat)) : Int).toNat (C4.mk x.g x.a x.gd x.m))] = List.take (IntKind.i64.wrap (x_1 + (1 : Int))).toNat (limL lo len n (List.replicate (nC l) x))) ∧ True) ∧ ((↑len : Int) - IntKind.i64.wrap (x_1 + (1 : Int))).toNat < ((↑len : Int) - x_1).toNat))))) (rq (oe3.beq oe3 && (Nat.beq (1 : Nat) (1 : Nat) && ((lo + len).ble (Rws.c l).len && decide ((0 : Int) ≤ IntKind.i64.wrap (x_1 + n) ∧ IntKind.i64.wrap (x_1 + n) < (↑len : Int))))) (rq (oe3.beq oe3 && (lo + (IntKind.i64.wrap (x_1 + n)).toNat).blt (Rws.c l).len) (rq (true && (x_1.toNat.beq x_1.toNat && (ep.beq ep && decide ((Lim.c (List.take x_1.toNat (limL lo len n (List.replicate (nC l) x)))).len + (1 : Nat) ≤ (9223372036854775807 : Nat) ∧ ((Lim.c (List.take x_1.toNat (limL lo len n (List.replicate (nC l) x)))).len + (1 : Nat)) * (24 : Nat) ≤ (140737488355328 : Nat))))) (((0 : Int) ≤ IntKind.i64.wrap (x_1 + (1 : Int)) ∧ IntKind.i64.wrap (x_1 + (1 : Int)) ≤ (↑len : Int)) ∧ ((SV.h (0 : Nat) [oe3, (0 : Nat), lo, len, (0 : Nat)] = SV.h (0 : Nat) [oe3, (0 : Nat), lo, len, (0 : Nat)] ∧ SV.v (Value.int IntKind.i64 n) = SV.v (Value.int IntKind.i64 n) ∧ SV.f (Fn.func (100 : Nat)) [SV.p (1 : Nat) (0 : Nat), SV.p (2 : Nat) (0 : Nat)] = SV.f (Fn.func (100 : Nat)) [SV.p (1 : Nat) (0 : Nat), SV.p (2 : Nat) (0 : Nat)] ∧ SV.h (4 : Nat) [x_1.toNat + (1 : Nat), (0 : Nat)] = SV.h (4 : Nat) [(IntKind.i64.wrap (x_1 + (1 : Int))).toNat, (0 : Nat)] ∧ SV.v (Value.int IntKind.i64 (↑len : Int)) = SV.v (Value.int IntKind.i64 (↑len : Int)) ∧ SV.v (Value.int IntKind.i64 (IntKind.i64.wrap (x_1 + (1 : Int)))) = SV.v (Value.int IntKind.i64 (IntKind.i64.wrap (x_1 + (1 : Int)))) ∧ True) ∧ (oe3 = oe3 ∧ ep = ep ∧ l = l) ∧ (SV.v (Value.int IntKind.i32 x.g) = SV.v (Value.int IntKind.i32 x.g) ∧ SV.v (Value.int IntKind.i64 x.a) = SV.v (Value.int IntKind.i64 x.a) ∧ SV.v (Value.bool x.gd) = SV.v (Value.bool x.gd) ∧ SV.v (Value.int IntKind.i64 x.m) = SV.v (Value.int IntKind.i64 x.m) ∧ True) ∧ (SV.p (3 : Nat) (0 : Nat) = SV.p (3 : Nat) (0 : Nat) ∧ True) ∧ (SV.h (0 : Nat) [oe3, (0 : Nat)] = SV.h (0 : Nat) [oe3, (0 : Nat)] ∧ True) ∧ (ep = ep ∧ x_1.toNat + (1 : Nat) = (IntKind.i64.wrap (x_1 + (1 : Int))).toNat ∧ List.take x_1.toNat (limL lo len n (List.replicate (nC l) x)) ++ [Sum.inl (lo + (IntKind.i64.wrap (x_1 + n)).toNat)] = List.take (IntKind.i64.wrap (x_1 + (1 : Int))).toNat (limL lo len n (List.replicate (nC l) x))) ∧ True) ∧ ((↑len : Int) - IntKind.i64.wrap (x_1 + (1 : Int))).toNat < ((↑len : Int) - x_1).toNat))))))) ((SV.h (4 : Nat) [x_1.toNat, (0 : Nat)] = SV.h (4 : Nat) [len, (0 : Nat)] ∧ True) ∧ (oe3 = oe3 ∧ ep = ep ∧ l = l) ∧ (SV.v (Value.int IntKind.i32 x.g) = SV.v (Value.int IntKind.i32 x.g) ∧ SV.v (Value.int IntKind.i64 x.a) = SV.v (Value.int IntKind.i64 x.a) ∧ SV.v (Value.bool x.gd) = SV.v (Value.bool x.gd) ∧ SV.v (Value.int IntKind.i64 x.m) = SV.v (Value.int IntKind.i64 x.m) ∧ True) ∧ (SV.p (3 : Nat) (0 : Nat) = SV.p (3 : Nat) (0 : Nat) ∧ True) ∧ (SV.h (0 : Nat) [oe3, (0 : Nat)] = SV.h (0 : Nat) [oe3, (0 : Nat)] ∧ True) ∧ (ep = ep ∧ x_1.toNat = len ∧ List.take x_1.toNat (limL lo len n (List.replicate (nC l) x)) = limL lo len n (List.replicate (nC l) x)) ∧ True)))))) (by kernel_rfl) ?_
  clear hp hφ
  have hL := hg.r1
  have hC := hg.c1
  have hC0 := hg.c0
  have e0 : (l.getD 0 []).length = nC l := rfl
  have eLim : ∀ k : Nat, k ≤ len → (Lim.c ((limL lo len n (List.replicate (nC l) x)).take k)).len = k := fun k hk => by
    show ((limL lo len n (List.replicate (nC l) x)).take k).length = k
    rw [List.length_take, limL_length]; omega
  simp only [LC4, II, LLC, LJC, eLen, eNat, eSz, e0, nbeq, rq_iff, br_iff, hg, Bool.true_and, Bool.and_true, true_and, and_true, Bool.and_eq_true, Nat.ble_eq, Nat.blt_eq, decide_eq_true_eq, decide_eq_false_iff_not, Int.toNat_natCast]
  refine ⟨by omega, by omega, by omega, ⟨rfl, rfl⟩, ⟨by omega, by omega⟩, fun k ⟨hk0, hk1⟩ => ⟨fun hlt => ⟨by omega, ?_⟩, fun hge => ?_⟩⟩
  · rw [wrap64 (x := (len : Int) - 1) (by omega) (by omega), wrap64 (x := (len : Int) - 1 - k) (by omega) (by omega), wrap64 (x := k + 1) (by omega) (by omega), wrap64 (x := 0 - k) (by omega) (by omega), eLim _ (by omega)]
    have hs := limL_succ (lo := lo) (len := len) (n := n) (x := List.replicate (nC l) x) hk0 (by omega)
    have e3 : k.toNat + 1 = (k + 1).toNat := by omega
    have e4 : ((k.toNat : Nat) : Int) = k := by omega
    rw [e3, hs]
    have eT : Int.toNat (nC l : Int) = nC l := by omega
    refine ⟨fun h5 => ?_, fun h5 => ⟨fun h6 => ?_, fun h6 => ?_⟩⟩
    · have : limAt1 lo len n (List.replicate (nC l) x) k.toNat = .inr (List.replicate (nC l) x) := if_pos (.inl (by rw [e4]; omega))
      rw [this]
      exact ⟨decide_eq_true (by omega), by omega, by omega, ⟨by omega, by omega⟩, ⟨by omega, by omega⟩, ⟨by omega, by omega⟩, ⟨rfl, rfl, rfl⟩, by omega⟩
    · have : limAt1 lo len n (List.replicate (nC l) x) k.toNat = .inr (List.replicate (nC l) x) := if_pos (.inr (by rw [e4]; omega))
      rw [this]
      exact ⟨decide_eq_true (by omega), by omega, by omega, ⟨by omega, by omega⟩, ⟨by omega, by omega⟩, ⟨by omega, by omega⟩, ⟨rfl, rfl, rfl⟩, by omega⟩
    · have : limAt1 lo len n (List.replicate (nC l) x) k.toNat = .inl (lo + (k + n).toNat) := by
        unfold limAt1
        rw [if_neg (by rw [e4]; omega), e4]
      rw [wrap64 (x := k + n) (by omega) (by omega), this]
      exact ⟨⟨by omega, by omega, by omega⟩, by omega, ⟨by omega, by omega⟩, ⟨by omega, by omega⟩, ⟨rfl, rfl, rfl⟩, by omega⟩
  · have hk : k = len := by omega
    subst hk
    have : (limL lo len n (List.replicate (nC l) x)).take (Int.toNat (len : Int)) = limL lo len n (List.replicate (nC l) x) := List.take_of_length_le (by rw [limL_length]; omega)
    rw [this]
    simp
def rollL (l : List (List C4)) (top bot : Nat) (n : Int) (x : C4) : List (List C4) := mrg l [] top (limL top (bot + 1 - top) n (List.replicate (nC l) x))
def lcRoll1 : ACon Unit := mkLC (decP (shCons (shP 0) (shCons shI (shCons shI (shCons shI (shOne shC))))) shG) fun ((_, t, b, n, x), (oe, ⟨l, oe2, ep⟩)) => .ask (oe = oe2 ∧ GW l) (.br (inB l t 0 && inB l b 0)
  (.br (decide (b < t)) (.one (.v (.int .i64 1)) (gbi 0 oe ep l) [1]) (.one (.v (.int .i64 0)) (gbi 0 oe (ep + 1) (rollL l t.toNat b.toNat n x)) [1])) (.one (.v (.int .i64 11)) (gbi 0 oe ep l) [1]))
def tabG : List (Nat × ACon Unit) := (101, lcMovR) :: tabD
theorem tabG_ok : LCs Tryd.prog tabG := ⟨ok_movR, tabD_ok⟩
set_option maxHeartbeats 4000000 in
theorem ok_roll1 : ∀ I : Sym.Inv Unit, LCOk I Tryd.prog 93 lcRoll1 := by
  refine lc_mk (fun _ => allCfg Tryd.prog [] tabG 3) (fun _ _ => allCfg_ok mixed trivial tabG_ok) (fun _ => rfl) (n := 80) Tryd.func93 ?_
  intro ⟨⟨_, t, b, n, x⟩, ⟨oe, ⟨l, oe2, ep⟩⟩⟩ hφ
  obtain ⟨⟨rfl, hg⟩, hp⟩ := id hφ
  refine kcast (B := (true = true ∧ (oe = oe ∧ GW l) ∧ br (inB l t (0 : Int) && inB l b (0 : Int)) (br (decide (b < t)) (br (inB l t (0 : Int) && inB l b (0 : Int)) (br (decide (b < t)) ((SV.v (Value.int IntKind.i64 (1 : Int)) = SV.v (Value.int IntKind.i64 (1 : Int)) ∧ True) ∧ (SV.h (1 : Nat) [oe, (0 : Nat)] = SV.h (1 : Nat) [oe, (0 : Nat)] ∧ True) ∧ (oe = oe ∧ ep = ep ∧ l = l) ∧ True) ((SV.v (Value.int IntKind.i64 (1 : Int)) = SV.v (Value.int IntKind.i64 (0 : Int)) ∧ True) ∧ (SV.h (1 : Nat) [oe, (0 : Nat)] = SV.h (1 : Nat) [oe, (0 : Nat)] ∧ True) ∧ (oe = oe ∧ ep = ep + (1 : Nat) ∧ l = rollL l t.toNat b.toNat n x) ∧ True)) ((SV.v (Value.int IntKind.i64 (1 : Int)) = SV.v (Value.int IntKind.i64 (11 : Int)) ∧ True) ∧ (SV.h (1 : Nat) [oe, (0 : Nat)] = SV.h (1 : Nat) [oe, (0 : Nat)] ∧ True) ∧ (oe = oe ∧ ep = ep ∧ l = l) ∧ True)) (rq (oe.beq oe && (true && decide ((0 : Int) ≤ t ∧ t ≤ (↑(Rws.c l).len : Int) ∧ (↑(Rws.c l).len : Int) ≤ (↑(Rws.c l).len : Int)))) (rq (oe.beq oe && (true && decide ((0 : Int) ≤ t ∧ t ≤ IntKind.i64.wrap (b + (1 : Int)) ∧ IntKind.i64.wrap (b + (1 : Int)) ≤ (↑(Rws.c l).len : Int)))) (true = true ∧ (oe = oe ∧ oe = oe ∧ GW l ∧ t.toNat + ((IntKind.i64.wrap (b + (1 : Int))).toNat - t.toNat) ≤ l.length ∧ (0 : Nat) < (IntKind.i64.wrap (b + (1 : Int))).toNat - t.toNat) ∧ rq (oe.beq oe && (ep.beq ep && (((IntKind.i64.wrap (b + (1 : Int))).toNat - t.toNat).beq ((IntKind.i64.wrap (b + (1 : Int))).toNat - t.toNat) && ((t.toNat + ((↑(Rws.c l).len : Int).toNat - t.toNat)).ble (Rws.c l).len && ((Lim.c (limL t.toNat ((IntKind.i64.wrap (b + (1 : Int))).toNat - t.toNat) n (List.replicate (nC l) (C4.mk x.g x.a x.gd x.m)))).len.ble ((↑(Rws.c l).len : Int).toNat - t.toNat) && (Nat.blt (0 : Nat) (Rws.c l).len && fitsB (Rws.c l).len t.toNat (Lim.c (limL t.toNat ((IntKind.i64.wrap (b + (1 : Int))).toNat - t.toNat) n (List.replicate (nC l) (C4.mk x.g x.a x.gd x.m)))))))))) ((oe = oe ∧ ep = ep ∧ l = l) ∧ [SV.h (1 : Nat) [oe, (0 : Nat)]] = [SV.h (1 : Nat) [oe, (0 : Nat)]] ∧ [SV.p (0 : Nat) (0 : Nat)] = [SV.p (0 : Nat) (0 : Nat)] ∧ br (inB l t (0 : Int) && inB l b (0 : Int)) (br (decide (b < t)) ((SV.v (Value.int IntKind.i64 (0 : Int)) = SV.v (Value.int IntKind.i64 (1 : Int)) ∧ True) ∧ (SV.h (1 : Nat) [oe, (0 : Nat)] = SV.h (1 : Nat) [oe, (0 : Nat)] ∧ True) ∧ (oe = oe ∧ ep + (1 : Nat) = ep ∧ mrg l [] t.toNat (limL t.toNat ((IntKind.i64.wrap (b + (1 : Int))).toNat - t.toNat) n (List.replicate (nC l) (C4.mk x.g x.a x.gd x.m))) = l) ∧ True) ((SV.v (Value.int IntKind.i64 (0 : Int)) = SV.v (Value.int IntKind.i64 (0 : Int)) ∧ True) ∧ (SV.h (1 : Nat) [oe, (0 : Nat)] = SV.h (1 : Nat) [oe, (0 : Nat)] ∧ True) ∧ (oe = oe ∧ ep + (1 : Nat) = ep + (1 : Nat) ∧ mrg l [] t.toNat (limL t.toNat ((IntKind.i64.wrap (b + (1 : Int))).toNat - t.toNat) n (List.replicate (nC l) (C4.mk x.g x.a x.gd x.m))) = rollL l t.toNat b.toNat n x) ∧ True)) ((SV.v (Value.int IntKind.i64 (0 : Int)) = SV.v (Value.int IntKind.i64 (11 : Int)) ∧ True) ∧ (SV.h (1 : Nat) [oe, (0 : Nat)] = SV.h (1 : Nat) [oe, (0 : Nat)] ∧ True) ∧ (oe = oe ∧ ep + (1 : Nat) = ep ∧ mrg l [] t.toNat (limL t.toNat ((IntKind.i64.wrap (b + (1 : Int))).toNat - t.toNat) n (List.replicate (nC l) (C4.mk x.g x.a x.gd x.m))) = l) ∧ True)))))) (br (inB l t (0 : Int) && inB l b (0 : Int)) (br (decide (b < t)) ((SV.v (Value.int IntKind.i64 (11 : Int)) = SV.v (Value.int IntKind.i64 (1 : Int)) ∧ True) ∧ (SV.h (1 : Nat) [oe, (0 : Nat)] = SV.h (1 : Nat) [oe, (0 : Nat)] ∧ True) ∧ (oe = oe ∧ ep = ep ∧ l = l) ∧ True) ((SV.v (Value.int IntKind.i64 (11 : Int)) = SV.v (Value.int IntKind.i64 (0 : Int)) ∧ True) ∧ (SV.h (1 : Nat) [oe, (0 : Nat)] = SV.h (1 : Nat) [oe, (0 : Nat)] ∧ True) ∧ (oe = oe ∧ ep = ep + (1 : Nat) ∧ l = rollL l t.toNat b.toNat n x) ∧ True)) ((SV.v (Value.int IntKind.i64 (11 : Int)) = SV.v (Value.int IntKind.i64 (11 : Int)) ∧ True) ∧ (SV.h (1 : Nat) [oe, (0 : Nat)] = SV.h (1 : Nat) [oe, (0 : Nat)] ∧ True) ∧ (oe = oe ∧ ep = ep ∧ l = l) ∧ True)))) (by kernel_rfl) ?_
  refine ⟨rfl, ⟨rfl, hg⟩, ?_⟩
  clear hp hφ
  have hg1 := hg.r1
  have hg2 := hg.c1
  cases h : inB l t 0 <;> cases h' : inB l b 0
  · simp only [br_iff, Bool.and_self, Bool.false_eq_true, false_implies, true_implies, true_and, and_true]
  · simp only [br_iff, Bool.false_and, Bool.false_eq_true, false_implies, true_implies, true_and, and_true]
  · simp only [br_iff, Bool.and_false, Bool.false_eq_true, false_implies, true_implies, true_and, and_true]
  rw [inB_iff] at h h'
  by_cases hba : b < t
  · simp only [br_iff, rq_iff, hba, decide_true, Bool.and_self, Bool.true_eq_false, false_implies, true_implies, true_and, and_true]
  have ew : IntKind.i64.wrap (b + 1) = b + 1 := wrap64 (by omega) (by omega)
  have e7 : (b + 1).toNat - t.toNat = b.toNat + 1 - t.toNat := by omega
  have eLim : (Lim.c (limL t.toNat (b.toNat + 1 - t.toNat) n (List.replicate (nC l) x))).len = b.toNat + 1 - t.toNat := limL_length _ _ _ _
  have hf : fitsB l.length t.toNat (Lim.c (limL t.toNat (b.toNat + 1 - t.toNat) n (List.replicate (nC l) x))) = true := fitsB_of fun p j hp hj => limL_fits (by omega) hp hj
  simp only [LC4, II, LLC, eLen, eNat, eSz, br_iff, rq_iff, nbeq, hba, hg, ew, e7, eLim, hf, decide_false, Bool.and_self, Bool.true_eq_false, Bool.false_eq_true, false_implies, true_implies, true_and, and_true, Bool.true_and, Bool.and_true, Bool.and_eq_true, Nat.ble_eq, Nat.blt_eq, decide_eq_true_eq]
  exact ⟨decide_eq_true (by omega), by omega, ⟨by omega, by omega⟩, ⟨by omega, by omega, by omega⟩, rfl⟩
def lcRoll0 : ACon Unit := mkLC (decP (shCons shNilP (shCons shI (shCons shI (shCons shI (shOne shC))))) shHNil) fun _ => .one (.v (.int .i64 2)) [] []
set_option maxHeartbeats 4000000 in
theorem ok_roll0 : ∀ I : Sym.Inv Unit, LCOk I Tryd.prog 93 lcRoll0 := by
  refine lc_mk (fun _ => allCfg Tryd.prog [] tabD 3) (fun _ _ => allCfg_ok mixed trivial tabD_ok) (fun _ => rfl) (n := 80) Tryd.func93 ?_
  intro ⟨⟨_, r, a, b, n⟩, _⟩ hφ
  refine kcast (B := (true = true ∧ (SV.v (Value.int IntKind.i64 (2 : Int)) = SV.v (Value.int IntKind.i64 (2 : Int)) ∧ True) ∧ True)) (by kernel_rfl) ?_
  exact ⟨rfl, ⟨rfl, trivial⟩, trivial⟩
def lcRoll : ACon Unit := lcOr lcRoll1 lcRoll0
theorem ok_roll : ∀ I : Sym.Inv Unit, LCOk I Tryd.prog 93 lcRoll := lcOr_ok ok_roll1 ok_roll0

end Go.Proofs.YtcbjgpkbfmmdpaaDoor
