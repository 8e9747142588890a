/- Contracts of layer 1: a new grid, and what is where. -/
import Derived.Test.YtpdhnmnjccnbmaaGrA
set_option linter.unusedSimpArgs false
set_option linter.unusedVariables false
set_option linter.unusedSectionVars false
namespace Go.Proofs.Ytpdhnmnjccnbmaa
open Go Go.Sym

/-! ### A new grid -/
def oeN (k : Nat) : Nat := match k with
  | 0 => 0
  | n + 1 => n + 2
def annN (a c : Nat) (x : Int) : Ann Unit where
  α := Int
  φ _ k := 0 ≤ k ∧ k ≤ a
  μ _ k := ((a : Int) - k).toNat
  get st := getI st.tm 17
  f st k := tmpl [1, 2, 7, 16] [(17, .v (.int .i64 k))] [(1, .cells [.h 2 [oeN k.toNat, 0]] 75), (2, .rows (.i .i64 (List.replicate k.toNat (List.replicate c x))) 3 63 (oeN k.toNat) (k.toNat + 1) none)] st
  fx st := match getC st.H 1 with
    | [x] => match nilS x with
      | true => [.nilCell 1 0 (.sv []) 63 1, .asRows 2 (some .i64) 3]
      | false => []
    | _ => []
def tabA : List (Nat × ACon Unit) := [(14, lcMay), (26, lcSize), (33, lcRep)]
theorem tabA_ok : LCs Try.prog tabA := ⟨ok_may, ok_size, ok_rep, trivial⟩
def newL (a b : Nat) (x : Int) : List (List Int) := List.replicate a (List.replicate b x)
def lcNew : ACon Unit := mkLC (decP (shCons shI2 (shOne shI)) shHNil) fun (((a, b), x), _) =>
  .br (mayB a b) (.one (.t [.p 1 0, .v (.int .i64 0)]) (.gone :: gbi 1 (a.toNat + 1) (a.toNat + 1) (newL a.toNat b.toNat x)) []) (.one (.t [.v (.pointer none), .v (.int .i64 10)]) [.gone] [])
set_option maxHeartbeats 4000000 in
theorem ok_new : ∀ I : Sym.Inv Unit, LCOk I Try.prog 13 lcNew := by
  refine lc_mk (fun (((a, b), x), _) => allCfg Try.prog [] tabA 0 [(449, annN a.toNat b.toNat x)]) (fun _ _ => allCfg_ok mixed trivial tabA_ok) (fun _ => rfl) (n := 80) Try.func13 ?_
  intro ⟨⟨⟨a, b⟩, x⟩, _⟩ hφ
  refine kcast (B := (true = true ∧ br (mayB a b) (Nils [] (0 : Nat) ∧ (II (0 : Int) ≤ (0 : Int) ∧ (0 : Int) ≤ (↑a.toNat : Int)) ∧ ((SV.v (Value.int IntKind.i64 x) = SV.v (Value.int IntKind.i64 x) ∧ SV.p (0 : Nat) (0 : Nat) = SV.p (0 : Nat) (0 : Nat) ∧ SV.p (1 : Nat) (0 : Nat) = SV.p (1 : Nat) (0 : Nat) ∧ SV.v (Value.int IntKind.i64 a) = SV.v (Value.int IntKind.i64 a) ∧ SV.v (Value.int IntKind.i64 (0 : Int)) = SV.v (Value.int IntKind.i64 (0 : Int)) ∧ True) ∧ (SV.v (Value.int IntKind.i64 a) = SV.v (Value.int IntKind.i64 a) ∧ SV.v (Value.int IntKind.i64 b) = SV.v (Value.int IntKind.i64 b) ∧ True) ∧ (SV.h (2 : Nat) [(0 : Nat), (0 : Nat)] = SV.h (2 : Nat) [(0 : Nat), (0 : Nat)] ∧ True) ∧ ((0 : Nat) = (0 : Nat) ∧ (1 : Nat) = (1 : Nat) ∧ LLI [] = []) ∧ True) ∧ ∀ (x_1 : Int), (0 : Int) ≤ x_1 ∧ x_1 ≤ (↑a.toNat : Int) → br (decide (x_1 < a)) (true = true ∧ ((1 : Int) ≤ b ∧ b ≤ (255 : Int)) ∧ rq (true && ((oeN x_1.toNat).beq (oeN x_1.toNat) && (true && decide ((Rws.i IntKind.i64 (List.replicate x_1.toNat (List.replicate b.toNat x))).len + (1 : Nat) ≤ (9223372036854775807 : Nat) ∧ ((Rws.i IntKind.i64 (List.replicate x_1.toNat (List.replicate b.toNat x))).len + (1 : Nat)) * (24 : Nat) ≤ (140737488355328 : Nat))))) (((0 : Int) ≤ IntKind.i64.wrap (x_1 + (1 : Int)) ∧ IntKind.i64.wrap (x_1 + (1 : Int)) ≤ (↑a.toNat : Int)) ∧ ((SV.v (Value.int IntKind.i64 x) = SV.v (Value.int IntKind.i64 x) ∧ SV.p (0 : Nat) (0 : Nat) = SV.p (0 : Nat) (0 : Nat) ∧ SV.p (1 : Nat) (0 : Nat) = SV.p (1 : Nat) (0 : Nat) ∧ SV.v (Value.int IntKind.i64 a) = SV.v (Value.int IntKind.i64 a) ∧ SV.v (Value.int IntKind.i64 (IntKind.i64.wrap (x_1 + (1 : Int)))) = SV.v (Value.int IntKind.i64 (IntKind.i64.wrap (x_1 + (1 : Int)))) ∧ True) ∧ (SV.v (Value.int IntKind.i64 a) = SV.v (Value.int IntKind.i64 a) ∧ SV.v (Value.int IntKind.i64 b) = SV.v (Value.int IntKind.i64 b) ∧ True) ∧ (SV.h (2 : Nat) [x_1.toNat + (1 : Nat) + (1 : Nat), (0 : Nat)] = SV.h (2 : Nat) [oeN (IntKind.i64.wrap (x_1 + (1 : Int))).toNat, (0 : Nat)] ∧ True) ∧ (x_1.toNat + (1 : Nat) + (1 : Nat) = oeN (IntKind.i64.wrap (x_1 + (1 : Int))).toNat ∧ x_1.toNat + (1 : Nat) + (1 : Nat) = (IntKind.i64.wrap (x_1 + (1 : Int))).toNat + (1 : Nat) ∧ List.replicate x_1.toNat (List.replicate b.toNat x) ++ [List.replicate b.toNat x] = List.replicate (IntKind.i64.wrap (x_1 + (1 : Int))).toNat (List.replicate b.toNat x)) ∧ True) ∧ ((↑a.toNat : Int) - IntKind.i64.wrap (x_1 + (1 : Int))).toNat < ((↑a.toNat : Int) - x_1).toNat)) (br (mayB a b) ((SV.t [SV.p (1 : Nat) (0 : Nat), SV.v (Value.int IntKind.i64 (0 : Int))] = SV.t [SV.p (1 : Nat) (0 : Nat), SV.v (Value.int IntKind.i64 (0 : Int))] ∧ True) ∧ True ∧ (SV.h (2 : Nat) [oeN x_1.toNat, (0 : Nat)] = SV.h (2 : Nat) [a.toNat + (1 : Nat), (0 : Nat)] ∧ True) ∧ (oeN x_1.toNat = a.toNat + (1 : Nat) ∧ x_1.toNat + (1 : Nat) = a.toNat + (1 : Nat) ∧ List.replicate x_1.toNat (List.replicate b.toNat x) = newL a.toNat b.toNat x) ∧ True) ((SV.t [SV.p (1 : Nat) (0 : Nat), SV.v (Value.int IntKind.i64 (0 : Int))] = SV.t [SV.v (Value.pointer none), SV.v (Value.int IntKind.i64 (10 : Int))] ∧ True) ∧ True ∧ True))) (br (mayB a b) ((SV.t [SV.v (Value.pointer none), SV.v (Value.int IntKind.i64 (10 : Int))] = SV.t [SV.p (1 : Nat) (0 : Nat), SV.v (Value.int IntKind.i64 (0 : Int))] ∧ True) ∧ True ∧ False) ((SV.t [SV.v (Value.pointer none), SV.v (Value.int IntKind.i64 (10 : Int))] = SV.t [SV.v (Value.pointer none), SV.v (Value.int IntKind.i64 (10 : Int))] ∧ True) ∧ True ∧ True)))) (by kernel_rfl) ?_
  refine ⟨rfl, ?_⟩
  cases h : mayB a b
  · exact ⟨⟨rfl, trivial⟩, trivial, trivial⟩
  · rw [mayB_iff] at h
    have hlen : ∀ n, (Rws.i IntKind.i64 (List.replicate n (List.replicate b.toNat x))).len = n := fun n => by simp [Rws.len]
    simp only [br_iff, rq_iff, nbeq, hlen, true_implies, false_implies, reduceCtorEq, true_and, and_true, Bool.true_and, Bool.and_true, decide_eq_true_eq, decide_eq_false_iff_not, Bool.true_eq_false, II]
    refine ⟨⟨rfl⟩, by omega, fun k ⟨hk0, hk1⟩ => ⟨fun hlt => ?_, fun hge => ?_⟩⟩
    · rw [wrap64 (x := k + 1) (by omega) (by omega)]
      have e : (k + 1).toNat = k.toNat + 1 := by omega
      rw [e]
      refine ⟨⟨by omega, by omega⟩, ⟨by omega, by omega⟩, ⟨by omega, by omega⟩, ⟨rfl, rfl, rfl, ?_⟩, by omega⟩
      show LLI _ = _
      rw [List.replicate_succ']
    · obtain rfl : k = a := by omega
      obtain ⟨n, rfl⟩ : ∃ n : Nat, k = ((n + 1 : Nat) : Int) := ⟨k.toNat - 1, by omega⟩
      exact ⟨rfl, rfl, rfl, rfl⟩

/-! ### What is there -/
def inB (l : List (List Int)) (r c : Int) : Bool := decide (0 ≤ r) && (decide (r < l.length) && (decide (0 ≤ c) && decide (c < nC l)))
theorem inB_iff {l : List (List Int)} {r c : Int} : inB l r c = true ↔ 0 ≤ r ∧ r < l.length ∧ 0 ≤ c ∧ c < nC l := by simp [inB]
abbrev shPos : ShB (Int × Int) := shCells (shCons shI (shOne shI)) 39
abbrev shPos2 : ShB (Int × Int × Int × Int) := shCells (shCons shI (shCons shI (shCons shI (shOne shI)))) 39
def posC (r c : Int) : SB Unit := .cells [.v (.int .i64 r), .v (.int .i64 c)] 39
def posC2 (r c r2 c2 : Int) : SB Unit := .cells [.v (.int .i64 r), .v (.int .i64 c), .v (.int .i64 r2), .v (.int .i64 c2)] 39
def shGP : ShH (GB × Int × Int) where
  enc a := shG.enc a.1 ++ [shPos.enc a.2]
  dec x := match x with
    | [p, q, r] => match shG.dec [p, q] with
      | some a => match shPos.dec r with
        | some b => some (a, b)
        | none => none
      | none => none
    | _ => none
  ok x a h := by
    split at h
    · split at h
      · rename_i h1
        split at h
        · rename_i h2
          simp only [Option.some.injEq] at h
          subst h
          rw [← shG.ok _ _ h1, shPos.ok _ _ h2]; rfl
        · cases h
      · cases h
    · cases h
def shGP2 : ShH (GB × Int × Int × Int × Int) where
  enc a := shG.enc a.1 ++ [shPos2.enc a.2]
  dec x := match x with
    | [p, q, r] => match shG.dec [p, q] with
      | some a => match shPos2.dec r with
        | some b => some (a, b)
        | none => none
      | none => none
    | _ => none
  ok x a h := by
    split at h
    · split at h
      · rename_i h1
        split at h
        · rename_i h2
          simp only [Option.some.injEq] at h
          subst h
          rw [← shG.ok _ _ h1, shPos2.ok _ _ h2]; rfl
        · cases h
      · cases h
    · cases h
def lcThere1 : ACon Unit := mkLC (decP (shCons (shP 0) (shOne (shBlk 2 1))) shGP) fun (_, ((oe, ⟨l, oe2, ep⟩), r, c)) => .ask (oe = oe2 ∧ GW l) (.br (inB l r c) (.one (.v (.int .i64 0)) (gbi 0 oe ep l ++ [posC r c]) []) (.one (.v (.int .i64 11)) (gbi 0 oe ep l ++ [posC r c]) []))
def lcThere2 : ACon Unit := mkLC (decP (shCons (shP 0) (shOne (shBlk 2 2))) shGP2) fun (_, ((oe, ⟨l, oe2, ep⟩), r, c, r2, c2)) => .ask (oe = oe2 ∧ GW l) (.br (inB l r c && inB l r2 c2) (.one (.v (.int .i64 0)) (gbi 0 oe ep l ++ [posC2 r c r2 c2]) []) (.one (.v (.int .i64 11)) (gbi 0 oe ep l ++ [posC2 r c r2 c2]) []))
def lcThereN1 : ACon Unit := mkLC (decP (shCons shNilP (shOne (shBlk 0 1))) (shHOne shPos)) fun (_, (r, c)) => .one (.v (.int .i64 2)) [posC r c] []
def lcThereN2 : ACon Unit := mkLC (decP (shCons shNilP (shOne (shBlk 0 2))) (shHOne shPos2)) fun (_, (r, c, r2, c2)) => .one (.v (.int .i64 2)) [posC2 r c r2 c2] []
set_option maxHeartbeats 4000000 in
theorem ok_there1 : ∀ I : Sym.Inv Unit, LCOk I Try.prog 41 lcThere1 := by
  refine lc_mk (fun _ => allCfg Try.prog [] tabA 3) (fun _ _ => allCfg_ok mixed trivial tabA_ok) (fun _ => rfl) (n := 80) Try.func41 ?_
  intro ⟨_, ⟨oe, ⟨l, oe2, ep⟩⟩, r, c⟩ hφ
  obtain ⟨⟨rfl, hg⟩, hp⟩ := id hφ
  refine kcast (B := (true = true ∧ (oe = oe ∧ GW l) ∧ br (decide (r < (0 : Int))) (br (inB l r c) ((SV.v (Value.int IntKind.i64 (11 : Int)) = SV.v (Value.int IntKind.i64 (0 : Int)) ∧ True) ∧ (SV.h (1 : Nat) [oe, (0 : Nat)] = SV.h (1 : Nat) [oe, (0 : Nat)] ∧ True) ∧ (oe = oe ∧ ep = ep ∧ l = l) ∧ (SV.v (Value.int IntKind.i64 r) = SV.v (Value.int IntKind.i64 r) ∧ SV.v (Value.int IntKind.i64 c) = SV.v (Value.int IntKind.i64 c) ∧ True) ∧ True) ((SV.v (Value.int IntKind.i64 (11 : Int)) = SV.v (Value.int IntKind.i64 (11 : Int)) ∧ True) ∧ (SV.h (1 : Nat) [oe, (0 : Nat)] = SV.h (1 : Nat) [oe, (0 : Nat)] ∧ True) ∧ (oe = oe ∧ ep = ep ∧ l = l) ∧ (SV.v (Value.int IntKind.i64 r) = SV.v (Value.int IntKind.i64 r) ∧ SV.v (Value.int IntKind.i64 c) = SV.v (Value.int IntKind.i64 c) ∧ True) ∧ True)) (br (decide (r ≥ (↑l.length : Int))) (br (inB l r c) ((SV.v (Value.int IntKind.i64 (11 : Int)) = SV.v (Value.int IntKind.i64 (0 : Int)) ∧ True) ∧ (SV.h (1 : Nat) [oe, (0 : Nat)] = SV.h (1 : Nat) [oe, (0 : Nat)] ∧ True) ∧ (oe = oe ∧ ep = ep ∧ l = l) ∧ (SV.v (Value.int IntKind.i64 r) = SV.v (Value.int IntKind.i64 r) ∧ SV.v (Value.int IntKind.i64 c) = SV.v (Value.int IntKind.i64 c) ∧ True) ∧ True) ((SV.v (Value.int IntKind.i64 (11 : Int)) = SV.v (Value.int IntKind.i64 (11 : Int)) ∧ True) ∧ (SV.h (1 : Nat) [oe, (0 : Nat)] = SV.h (1 : Nat) [oe, (0 : Nat)] ∧ True) ∧ (oe = oe ∧ ep = ep ∧ l = l) ∧ (SV.v (Value.int IntKind.i64 r) = SV.v (Value.int IntKind.i64 r) ∧ SV.v (Value.int IntKind.i64 c) = SV.v (Value.int IntKind.i64 c) ∧ True) ∧ True)) (br (decide (c < (0 : Int))) (br (inB l r c) ((SV.v (Value.int IntKind.i64 (11 : Int)) = SV.v (Value.int IntKind.i64 (0 : Int)) ∧ True) ∧ (SV.h (1 : Nat) [oe, (0 : Nat)] = SV.h (1 : Nat) [oe, (0 : Nat)] ∧ True) ∧ (oe = oe ∧ ep = ep ∧ l = l) ∧ (SV.v (Value.int IntKind.i64 r) = SV.v (Value.int IntKind.i64 r) ∧ SV.v (Value.int IntKind.i64 c) = SV.v (Value.int IntKind.i64 c) ∧ True) ∧ True) ((SV.v (Value.int IntKind.i64 (11 : Int)) = SV.v (Value.int IntKind.i64 (11 : Int)) ∧ True) ∧ (SV.h (1 : Nat) [oe, (0 : Nat)] = SV.h (1 : Nat) [oe, (0 : Nat)] ∧ True) ∧ (oe = oe ∧ ep = ep ∧ l = l) ∧ (SV.v (Value.int IntKind.i64 r) = SV.v (Value.int IntKind.i64 r) ∧ SV.v (Value.int IntKind.i64 c) = SV.v (Value.int IntKind.i64 c) ∧ True) ∧ True)) (br (decide (c ≥ (↑(nC l) : Int))) (br (inB l r c) ((SV.v (Value.int IntKind.i64 (11 : Int)) = SV.v (Value.int IntKind.i64 (0 : Int)) ∧ True) ∧ (SV.h (1 : Nat) [oe, (0 : Nat)] = SV.h (1 : Nat) [oe, (0 : Nat)] ∧ True) ∧ (oe = oe ∧ ep = ep ∧ l = l) ∧ (SV.v (Value.int IntKind.i64 r) = SV.v (Value.int IntKind.i64 r) ∧ SV.v (Value.int IntKind.i64 c) = SV.v (Value.int IntKind.i64 c) ∧ True) ∧ True) ((SV.v (Value.int IntKind.i64 (11 : Int)) = SV.v (Value.int IntKind.i64 (11 : Int)) ∧ True) ∧ (SV.h (1 : Nat) [oe, (0 : Nat)] = SV.h (1 : Nat) [oe, (0 : Nat)] ∧ True) ∧ (oe = oe ∧ ep = ep ∧ l = l) ∧ (SV.v (Value.int IntKind.i64 r) = SV.v (Value.int IntKind.i64 r) ∧ SV.v (Value.int IntKind.i64 c) = SV.v (Value.int IntKind.i64 c) ∧ True) ∧ True)) (br (inB l r c) ((SV.v (Value.int IntKind.i64 (0 : Int)) = SV.v (Value.int IntKind.i64 (0 : Int)) ∧ True) ∧ (SV.h (1 : Nat) [oe, (0 : Nat)] = SV.h (1 : Nat) [oe, (0 : Nat)] ∧ True) ∧ (oe = oe ∧ ep = ep ∧ l = l) ∧ (SV.v (Value.int IntKind.i64 r) = SV.v (Value.int IntKind.i64 r) ∧ SV.v (Value.int IntKind.i64 c) = SV.v (Value.int IntKind.i64 c) ∧ True) ∧ True) ((SV.v (Value.int IntKind.i64 (0 : Int)) = SV.v (Value.int IntKind.i64 (11 : Int)) ∧ True) ∧ (SV.h (1 : Nat) [oe, (0 : Nat)] = SV.h (1 : Nat) [oe, (0 : Nat)] ∧ True) ∧ (oe = oe ∧ ep = ep ∧ l = l) ∧ (SV.v (Value.int IntKind.i64 r) = SV.v (Value.int IntKind.i64 r) ∧ SV.v (Value.int IntKind.i64 c) = SV.v (Value.int IntKind.i64 c) ∧ True) ∧ True))))))) (by kernel_rfl) ?_
  refine ⟨rfl, ⟨rfl, hg⟩, ?_⟩
  clear hp hφ
  cases h : inB l r c
  · simp [br_iff]; simp [inB] at h; omega
  · rw [inB_iff] at h; simp [br_iff]; omega
set_option maxHeartbeats 4000000 in
theorem ok_there2 : ∀ I : Sym.Inv Unit, LCOk I Try.prog 41 lcThere2 := by
  refine lc_mk (fun _ => allCfg Try.prog [] tabA 3) (fun _ _ => allCfg_ok mixed trivial tabA_ok) (fun _ => rfl) (n := 80) Try.func41 ?_
  intro ⟨_, ⟨oe, ⟨l, oe2, ep⟩⟩, r, c, r2, c2⟩ hφ
  obtain ⟨⟨rfl, hg⟩, hp⟩ := id hφ
  refine kcast (B := (true = true ∧ (oe = oe ∧ GW l) ∧ br (decide (r < (0 : Int))) (br (inB l r c && inB l r2 c2) ((SV.v (Value.int IntKind.i64 (11 : Int)) = SV.v (Value.int IntKind.i64 (0 : Int)) ∧ True) ∧ (SV.h (1 : Nat) [oe, (0 : Nat)] = SV.h (1 : Nat) [oe, (0 : Nat)] ∧ True) ∧ (oe = oe ∧ ep = ep ∧ l = l) ∧ (SV.v (Value.int IntKind.i64 r) = SV.v (Value.int IntKind.i64 r) ∧ SV.v (Value.int IntKind.i64 c) = SV.v (Value.int IntKind.i64 c) ∧ SV.v (Value.int IntKind.i64 r2) = SV.v (Value.int IntKind.i64 r2) ∧ SV.v (Value.int IntKind.i64 c2) = SV.v (Value.int IntKind.i64 c2) ∧ True) ∧ True) ((SV.v (Value.int IntKind.i64 (11 : Int)) = SV.v (Value.int IntKind.i64 (11 : Int)) ∧ True) ∧ (SV.h (1 : Nat) [oe, (0 : Nat)] = SV.h (1 : Nat) [oe, (0 : Nat)] ∧ True) ∧ (oe = oe ∧ ep = ep ∧ l = l) ∧ (SV.v (Value.int IntKind.i64 r) = SV.v (Value.int IntKind.i64 r) ∧ SV.v (Value.int IntKind.i64 c) = SV.v (Value.int IntKind.i64 c) ∧ SV.v (Value.int IntKind.i64 r2) = SV.v (Value.int IntKind.i64 r2) ∧ SV.v (Value.int IntKind.i64 c2) = SV.v (Value.int IntKind.i64 c2) ∧ True) ∧ True)) (br (decide (r ≥ (↑l.length : Int))) (br (inB l r c && inB l r2 c2) ((SV.v (Value.int IntKind.i64 (11 : Int)) = SV.v (Value.int IntKind.i64 (0 : Int)) ∧ True) ∧ (SV.h (1 : Nat) [oe, (0 : Nat)] = SV.h (1 : Nat) [oe, (0 : Nat)] ∧ True) ∧ (oe = oe ∧ ep = ep ∧ l = l) ∧ (SV.v (Value.int IntKind.i64 r) = SV.v (Value.int IntKind.i64 r) ∧ SV.v (Value.int IntKind.i64 c) = SV.v (Value.int IntKind.i64 c) ∧ SV.v (Value.int IntKind.i64 r2) = SV.v (Value.int IntKind.i64 r2) ∧ SV.v (Value.int IntKind.i64 c2) = SV.v (Value.int IntKind.i64 c2) ∧ True) ∧ True) ((SV.v (Value.int IntKind.i64 (11 : Int)) = SV.v (Value.int IntKind.i64 (11 : Int)) ∧ True) ∧ (SV.h (1 : Nat) [oe, (0 : Nat)] = SV.h (1 : Nat) [oe, (0 : Nat)] ∧ True) ∧ (oe = oe ∧ ep = ep ∧ l = l) ∧ (SV.v (Value.int IntKind.i64 r) = SV.v (Value.int IntKind.i64 r) ∧ SV.v (Value.int IntKind.i64 c) = SV.v (Value.int IntKind.i64 c) ∧ SV.v (Value.int IntKind.i64 r2) = SV.v (Value.int IntKind.i64 r2) ∧ SV.v (Value.int IntKind.i64 c2) = SV.v (Value.int IntKind.i64 c2) ∧ True) ∧ True)) (br (decide (c < (0 : Int))) (br (inB l r c && inB l r2 c2) ((SV.v (Value.int IntKind.i64 (11 : Int)) = SV.v (Value.int IntKind.i64 (0 : Int)) ∧ True) ∧ (SV.h (1 : Nat) [oe, (0 : Nat)] = SV.h (1 : Nat) [oe, (0 : Nat)] ∧ True) ∧ (oe = oe ∧ ep = ep ∧ l = l) ∧ (SV.v (Value.int IntKind.i64 r) = SV.v (Value.int IntKind.i64 r) ∧ SV.v (Value.int IntKind.i64 c) = SV.v (Value.int IntKind.i64 c) ∧ SV.v (Value.int IntKind.i64 r2) = SV.v (Value.int IntKind.i64 r2) ∧ SV.v (Value.int IntKind.i64 c2) = SV.v (Value.int IntKind.i64 c2) ∧ True) ∧ True) ((SV.v (Value.int IntKind.i64 (11 : Int)) = SV.v (Value.int IntKind.i64 (11 : Int)) ∧ True) ∧ (SV.h (1 : Nat) [oe, (0 : Nat)] = SV.h (1 : Nat) [oe, (0 : Nat)] ∧ True) ∧ (oe = oe ∧ ep = ep ∧ l = l) ∧ (SV.v (Value.int IntKind.i64 r) = SV.v (Value.int IntKind.i64 r) ∧ SV.v (Value.int IntKind.i64 c) = SV.v (Value.int IntKind.i64 c) ∧ SV.v (Value.int IntKind.i64 r2) = SV.v (Value.int IntKind.i64 r2) ∧ SV.v (Value.int IntKind.i64 c2) = SV.v (Value.int IntKind.i64 c2) ∧ True) ∧ True)) (br (decide (c ≥ (↑(nC l) : Int))) (br (inB l r c && inB l r2 c2) ((SV.v (Value.int IntKind.i64 (11 : Int)) = SV.v (Value.int IntKind.i64 (0 : Int)) ∧ True) ∧ (SV.h (1 : Nat) [oe, (0 : Nat)] = SV.h (1 : Nat) [oe, (0 : Nat)] ∧ True) ∧ (oe = oe ∧ ep = ep ∧ l = l) ∧ (SV.v (Value.int IntKind.i64 r) = SV.v (Value.int IntKind.i64 r) ∧ SV.v (Value.int IntKind.i64 c) = SV.v (Value.int IntKind.i64 c) ∧ SV.v (Value.int IntKind.i64 r2) = SV.v (Value.int IntKind.i64 r2) ∧ SV.v (Value.int IntKind.i64 c2) = SV.v (Value.int IntKind.i64 c2) ∧ True) ∧ True) ((SV.v (Value.int IntKind.i64 (11 : Int)) = SV.v (Value.int IntKind.i64 (11 : Int)) ∧ True) ∧ (SV.h (1 : Nat) [oe, (0 : Nat)] = SV.h (1 : Nat) [oe, (0 : Nat)] ∧ True) ∧ (oe = oe ∧ ep = ep ∧ l = l) ∧ (SV.v (Value.int IntKind.i64 r) = SV.v (Value.int IntKind.i64 r) ∧ SV.v (Value.int IntKind.i64 c) = SV.v (Value.int IntKind.i64 c) ∧ SV.v (Value.int IntKind.i64 r2) = SV.v (Value.int IntKind.i64 r2) ∧ SV.v (Value.int IntKind.i64 c2) = SV.v (Value.int IntKind.i64 c2) ∧ True) ∧ True)) (br (decide (r2 < (0 : Int))) (br (inB l r c && inB l r2 c2) ((SV.v (Value.int IntKind.i64 (11 : Int)) = SV.v (Value.int IntKind.i64 (0 : Int)) ∧ True) ∧ (SV.h (1 : Nat) [oe, (0 : Nat)] = SV.h (1 : Nat) [oe, (0 : Nat)] ∧ True) ∧ (oe = oe ∧ ep = ep ∧ l = l) ∧ (SV.v (Value.int IntKind.i64 r) = SV.v (Value.int IntKind.i64 r) ∧ SV.v (Value.int IntKind.i64 c) = SV.v (Value.int IntKind.i64 c) ∧ SV.v (Value.int IntKind.i64 r2) = SV.v (Value.int IntKind.i64 r2) ∧ SV.v (Value.int IntKind.i64 c2) = SV.v (Value.int IntKind.i64 c2) ∧ True) ∧ True) ((SV.v (Value.int IntKind.i64 (11 : Int)) = SV.v (Value.int IntKind.i64 (11 : Int)) ∧ True) ∧ (SV.h (1 : Nat) [oe, (0 : Nat)] = SV.h (1 : Nat) [oe, (0 : Nat)] ∧ True) ∧ (oe = oe ∧ ep = ep ∧ l = l) ∧ (SV.v (Value.int IntKind.i64 r) = SV.v (Value.int IntKind.i64 r) ∧ SV.v (Value.int IntKind.i64 c) = SV.v (Value.int IntKind.i64 c) ∧ SV.v (Value.int IntKind.i64 r2) = SV.v (Value.int IntKind.i64 r2) ∧ SV.v (Value.int IntKind.i64 c2) = SV.v (Value.int IntKind.i64 c2) ∧ True) ∧ True)) (br (decide (r2 ≥ (↑l.length : Int))) (br (inB l r c && inB l r2 c2) ((SV.v (Value.int IntKind.i64 (11 : Int)) = SV.v (Value.int IntKind.i64 (0 : Int)) ∧ True) ∧ (SV.h (1 : Nat) [oe, (0 : Nat)] = SV.h (1 : Nat) [oe, (0 : Nat)] ∧ True) ∧ (oe = oe ∧ ep = ep ∧ l = l) ∧ (SV.v (Value.int IntKind.i64 r) = SV.v (Value.int IntKind.i64 r) ∧ SV.v (Value.int IntKind.i64 c) = SV.v (Value.int IntKind.i64 c) ∧ SV.v (Value.int IntKind.i64 r2) = SV.v (Value.int IntKind.i64 r2) ∧ SV.v (Value.int IntKind.i64 c2) = SV.v (Value.int IntKind.i64 c2) ∧ True) ∧ True) ((SV.v (Value.int IntKind.i64 (11 : Int)) = SV.v (Value.int IntKind.i64 (11 : Int)) ∧ True) ∧ (SV.h (1 : Nat) [oe, (0 : Nat)] = SV.h (1 : Nat) [oe, (0 : Nat)] ∧ True) ∧ (oe = oe ∧ ep = ep ∧ l = l) ∧ (SV.v (Value.int IntKind.i64 r) = SV.v (Value.int IntKind.i64 r) ∧ SV.v (Value.int IntKind.i64 c) = SV.v (Value.int IntKind.i64 c) ∧ SV.v (Value.int IntKind.i64 r2) = SV.v (Value.int IntKind.i64 r2) ∧ SV.v (Value.int IntKind.i64 c2) = SV.v (Value.int IntKind.i64 c2) ∧ True) ∧ True)) (br (decide (c2 < (0 : Int))) (br (inB l r c && inB l r2 c2) ((SV.v (Value.int IntKind.i64 (11 : Int)) = SV.v (Value.int IntKind.i64 (0 : Int)) ∧ True) ∧ (SV.h (1 : Nat) [oe, (0 : Nat)] = SV.h (1 : Nat) [oe, (0 : Nat)] ∧ True) ∧ (oe = oe ∧ ep = ep ∧ l = l) ∧ (SV.v (Value.int IntKind.i64 r) = SV.v (Value.int IntKind.i64 r) ∧ SV.v (Value.int IntKind.i64 c) = SV.v (Value.int IntKind.i64 c) ∧ SV.v (Value.int IntKind.i64 r2) = SV.v (Value.int IntKind.i64 r2) ∧ SV.v (Value.int IntKind.i64 c2) = SV.v (Value.int IntKind.i64 c2) ∧ True) ∧ True) ((SV.v (Value.int IntKind.i64 (11 : Int)) = SV.v (Value.int IntKind.i64 (11 : Int)) ∧ True) ∧ (SV.h (1 : Nat) [oe, (0 : Nat)] = SV.h (1 : Nat) [oe, (0 : Nat)] ∧ True) ∧ (oe = oe ∧ ep = ep ∧ l = l) ∧ (SV.v (Value.int IntKind.i64 r) = SV.v (Value.int IntKind.i64 r) ∧ SV.v (Value.int IntKind.i64 c) = SV.v (Value.int IntKind.i64 c) ∧ SV.v (Value.int IntKind.i64 r2) = SV.v (Value.int IntKind.i64 r2) ∧ SV.v (Value.int IntKind.i64 c2) = SV.v (Value.int IntKind.i64 c2) ∧ True) ∧ True)) (br (decide (c2 ≥ (↑(nC l) : Int))) (br (inB l r c && inB l r2 c2) ((SV.v (Value.int IntKind.i64 (11 : Int)) = SV.v (Value.int IntKind.i64 (0 : Int)) ∧ True) ∧ (SV.h (1 : Nat) [oe, (0 : Nat)] = SV.h (1 : Nat) [oe, (0 : Nat)] ∧ True) ∧ (oe = oe ∧ ep = ep ∧ l = l) ∧ (SV.v (Value.int IntKind.i64 r) = SV.v (Value.int IntKind.i64 r) ∧ SV.v (Value.int IntKind.i64 c) = SV.v (Value.int IntKind.i64 c) ∧ SV.v (Value.int IntKind.i64 r2) = SV.v (Value.int IntKind.i64 r2) ∧ SV.v (Value.int IntKind.i64 c2) = SV.v (Value.int IntKind.i64 c2) ∧ True) ∧ True) ((SV.v (Value.int IntKind.i64 (11 : Int)) = SV.v (Value.int IntKind.i64 (11 : Int)) ∧ True) ∧ (SV.h (1 : Nat) [oe, (0 : Nat)] = SV.h (1 : Nat) [oe, (0 : Nat)] ∧ True) ∧ (oe = oe ∧ ep = ep ∧ l = l) ∧ (SV.v (Value.int IntKind.i64 r) = SV.v (Value.int IntKind.i64 r) ∧ SV.v (Value.int IntKind.i64 c) = SV.v (Value.int IntKind.i64 c) ∧ SV.v (Value.int IntKind.i64 r2) = SV.v (Value.int IntKind.i64 r2) ∧ SV.v (Value.int IntKind.i64 c2) = SV.v (Value.int IntKind.i64 c2) ∧ True) ∧ True)) (br (inB l r c && inB l r2 c2) ((SV.v (Value.int IntKind.i64 (0 : Int)) = SV.v (Value.int IntKind.i64 (0 : Int)) ∧ True) ∧ (SV.h (1 : Nat) [oe, (0 : Nat)] = SV.h (1 : Nat) [oe, (0 : Nat)] ∧ True) ∧ (oe = oe ∧ ep = ep ∧ l = l) ∧ (SV.v (Value.int IntKind.i64 r) = SV.v (Value.int IntKind.i64 r) ∧ SV.v (Value.int IntKind.i64 c) = SV.v (Value.int IntKind.i64 c) ∧ SV.v (Value.int IntKind.i64 r2) = SV.v (Value.int IntKind.i64 r2) ∧ SV.v (Value.int IntKind.i64 c2) = SV.v (Value.int IntKind.i64 c2) ∧ True) ∧ True) ((SV.v (Value.int IntKind.i64 (0 : Int)) = SV.v (Value.int IntKind.i64 (11 : Int)) ∧ True) ∧ (SV.h (1 : Nat) [oe, (0 : Nat)] = SV.h (1 : Nat) [oe, (0 : Nat)] ∧ True) ∧ (oe = oe ∧ ep = ep ∧ l = l) ∧ (SV.v (Value.int IntKind.i64 r) = SV.v (Value.int IntKind.i64 r) ∧ SV.v (Value.int IntKind.i64 c) = SV.v (Value.int IntKind.i64 c) ∧ SV.v (Value.int IntKind.i64 r2) = SV.v (Value.int IntKind.i64 r2) ∧ SV.v (Value.int IntKind.i64 c2) = SV.v (Value.int IntKind.i64 c2) ∧ True) ∧ True))))))))))) (by kernel_rfl) ?_
  refine ⟨rfl, ⟨rfl, hg⟩, ?_⟩
  clear hp hφ
  cases h : inB l r c <;> cases h2 : inB l r2 c2
  · simp [br_iff]; simp [inB] at h; omega
  · rw [inB_iff] at h2; simp [br_iff]; simp [inB] at h; omega
  · rw [inB_iff] at h; simp [br_iff]; simp [inB] at h2; omega
  · rw [inB_iff] at h h2; simp [br_iff]; omega
set_option maxHeartbeats 4000000 in
theorem ok_thereN1 : ∀ I : Sym.Inv Unit, LCOk I Try.prog 41 lcThereN1 := by
  refine lc_mk (fun _ => allCfg Try.prog [] tabA 3) (fun _ _ => allCfg_ok mixed trivial tabA_ok) (fun _ => rfl) (n := 80) Try.func41 ?_
  intro ⟨_, r, c⟩ hφ
  refine kcast (B := ((SV.v (Value.int IntKind.i64 (2 : Int)) = SV.v (Value.int IntKind.i64 (2 : Int)) ∧ True) ∧ (SV.v (Value.int IntKind.i64 r) = SV.v (Value.int IntKind.i64 r) ∧ SV.v (Value.int IntKind.i64 c) = SV.v (Value.int IntKind.i64 c) ∧ True) ∧ True)) (by kernel_rfl) ?_
  exact ⟨⟨rfl, trivial⟩, ⟨rfl, rfl, trivial⟩, trivial⟩
set_option maxHeartbeats 4000000 in
theorem ok_thereN2 : ∀ I : Sym.Inv Unit, LCOk I Try.prog 41 lcThereN2 := by
  refine lc_mk (fun _ => allCfg Try.prog [] tabA 3) (fun _ _ => allCfg_ok mixed trivial tabA_ok) (fun _ => rfl) (n := 80) Try.func41 ?_
  intro ⟨_, r, c, r2, c2⟩ hφ
  refine kcast (B := ((SV.v (Value.int IntKind.i64 (2 : Int)) = SV.v (Value.int IntKind.i64 (2 : Int)) ∧ True) ∧ (SV.v (Value.int IntKind.i64 r) = SV.v (Value.int IntKind.i64 r) ∧ SV.v (Value.int IntKind.i64 c) = SV.v (Value.int IntKind.i64 c) ∧ SV.v (Value.int IntKind.i64 r2) = SV.v (Value.int IntKind.i64 r2) ∧ SV.v (Value.int IntKind.i64 c2) = SV.v (Value.int IntKind.i64 c2) ∧ True) ∧ True)) (by kernel_rfl) ?_
  exact ⟨⟨rfl, trivial⟩, ⟨rfl, rfl, rfl, rfl, trivial⟩, trivial⟩
def lcThere : ACon Unit := lcOr (lcOr lcThere1 lcThere2) (lcOr lcThereN1 lcThereN2)
theorem ok_there : ∀ I : Sym.Inv Unit, LCOk I Try.prog 41 lcThere := lcOr_ok (lcOr_ok ok_there1 ok_there2) (lcOr_ok ok_thereN1 ok_thereN2)
def tabB : List (Nat × ACon Unit) := (13, lcNew) :: (41, lcThere) :: tabA
theorem tabB_ok : LCs Try.prog tabB := ⟨ok_new, ok_there, tabA_ok⟩

/-! ### At, Set -/
def at2 (l : List (List Int)) (r c : Int) : Int := (l.getD r.toNat []).getD c.toNat 0
def set2 (l : List (List Int)) (r c x : Int) : List (List Int) := l.set r.toNat ((l.getD r.toNat []).set c.toNat x)
def lcAt1 : ACon Unit := mkLC (decP (shCons (shP 0) (shOne shI2)) shG) fun ((_, (r, c)), (oe, ⟨l, oe2, ep⟩)) => .ask (oe = oe2 ∧ GW l) (.br (inB l r c) (.one (.t [.v (.int .i64 (at2 l r c)), .v (.int .i64 0)]) (gbi 0 oe ep l) []) (.one (.t [.v (.int .i64 0), .v (.int .i64 11)]) (gbi 0 oe ep l) []))
def lcAt0 : ACon Unit := mkLC (decP (shCons shNilP (shOne shI2)) shHNil) fun _ => .one (.t [.v (.int .i64 0), .v (.int .i64 2)]) [] []
def lcSet1 : ACon Unit := mkLC (decP (shCons (shP 0) (shCons shI2 (shOne shI))) shG) fun ((_, (r, c), x), (oe, ⟨l, oe2, ep⟩)) => .ask (oe = oe2 ∧ GW l) (.br (inB l r c) (.one (.v (.int .i64 0)) (gbi 0 oe ep (set2 l r c x)) [1]) (.one (.v (.int .i64 11)) (gbi 0 oe ep l) [1]))
def lcSet0 : ACon Unit := mkLC (decP (shCons shNilP (shCons shI2 (shOne shI))) shHNil) fun _ => .one (.v (.int .i64 2)) [] []
set_option maxHeartbeats 4000000 in
theorem ok_at1 : ∀ I : Sym.Inv Unit, LCOk I Try.prog 18 lcAt1 := by
  refine lc_mk (fun _ => allCfg Try.prog [] tabB 3) (fun _ _ => allCfg_ok mixed trivial tabB_ok) (fun _ => rfl) (n := 80) Try.func18 ?_
  intro ⟨⟨_, r, c⟩, ⟨oe, ⟨l, oe2, ep⟩⟩⟩ hφ
  obtain ⟨⟨rfl, hg⟩, hp⟩ := id hφ
  refine kcast (B := (true = true ∧ (oe = oe ∧ GW l) ∧ br (inB l r c) (rq (oe.beq oe && (true && decide ((0 : Int) ≤ r ∧ r < (↑(Rws.i IntKind.i64 l).len : Int)))) (rq (oe.beq oe && r.toNat.blt (Rws.i IntKind.i64 l).len) (rq (ep.beq ep && r.toNat.blt (Rws.i IntKind.i64 l).len && ((Rws.i IntKind.i64 l).sz.beq (1 : Nat) && decide ((0 : Int) ≤ c ∧ c < (↑((Rws.i IntKind.i64 l).nAt r.toNat) : Int)))) (rq (ep.beq ep && r.toNat.blt (Rws.i IntKind.i64 l).len && c.toNat.blt (l.getD r.toNat (LI [])).length) (br (inB l r c) ((SV.t [SV.v (Value.int IntKind.i64 ((l.getD r.toNat (LI [])).getD c.toNat (0 : Int))), SV.v (Value.int IntKind.i64 (0 : Int))] = SV.t [SV.v (Value.int IntKind.i64 (at2 l r c)), SV.v (Value.int IntKind.i64 (0 : Int))] ∧ True) ∧ (SV.h (1 : Nat) [oe, (0 : Nat)] = SV.h (1 : Nat) [oe, (0 : Nat)] ∧ True) ∧ (oe = oe ∧ ep = ep ∧ l = l) ∧ True) ((SV.t [SV.v (Value.int IntKind.i64 ((l.getD r.toNat (LI [])).getD c.toNat (0 : Int))), SV.v (Value.int IntKind.i64 (0 : Int))] = SV.t [SV.v (Value.int IntKind.i64 (0 : Int)), SV.v (Value.int IntKind.i64 (11 : Int))] ∧ True) ∧ (SV.h (1 : Nat) [oe, (0 : Nat)] = SV.h (1 : Nat) [oe, (0 : Nat)] ∧ True) ∧ (oe = oe ∧ ep = ep ∧ l = l) ∧ True)))))) (br (inB l r c) ((SV.t [SV.v (Value.int IntKind.i64 (0 : Int)), SV.v (Value.int IntKind.i64 (11 : Int))] = SV.t [SV.v (Value.int IntKind.i64 (at2 l r c)), SV.v (Value.int IntKind.i64 (0 : Int))] ∧ True) ∧ (SV.h (1 : Nat) [oe, (0 : Nat)] = SV.h (1 : Nat) [oe, (0 : Nat)] ∧ True) ∧ (oe = oe ∧ ep = ep ∧ l = l) ∧ True) ((SV.t [SV.v (Value.int IntKind.i64 (0 : Int)), SV.v (Value.int IntKind.i64 (11 : Int))] = SV.t [SV.v (Value.int IntKind.i64 (0 : Int)), SV.v (Value.int IntKind.i64 (11 : Int))] ∧ True) ∧ (SV.h (1 : Nat) [oe, (0 : Nat)] = SV.h (1 : Nat) [oe, (0 : Nat)] ∧ True) ∧ (oe = oe ∧ ep = ep ∧ l = l) ∧ True)))) (by kernel_rfl) ?_
  refine ⟨rfl, ⟨rfl, hg⟩, ?_⟩
  clear hp hφ
  cases h : inB l r c
  · simp only [br_iff, Bool.false_eq_true, false_implies, true_implies, true_and, and_true]
  · rw [inB_iff] at h
    have hr : r.toNat < l.length := by omega
    have h1 : Nat.blt r.toNat (Rws.i IntKind.i64 l).len = true := by rw [Nat.blt_eq]; exact hr
    have h2 : Nat.blt c.toNat (l.getD r.toNat (LI [])).length = true := by rw [Nat.blt_eq, hg.row hr]; omega
    have h3 : ((Rws.i IntKind.i64 l).nAt r.toNat : Int) = nC l := by show ((l.getD r.toNat []).length : Int) = _; rw [hg.row hr]
    have h4 : ((Rws.i IntKind.i64 l).len : Int) = l.length := rfl
    have h5 : Nat.beq (Rws.i IntKind.i64 l).sz 1 = true := rfl
    simp only [br_iff, rq_iff, nbeq, h1, h2, h3, h4, h5, Bool.true_eq_false, false_implies, true_implies, true_and, and_true, Bool.true_and, Bool.and_true, decide_eq_true_eq]
    exact ⟨⟨by omega, by omega⟩, ⟨by omega, by omega⟩, rfl⟩
set_option maxHeartbeats 4000000 in
theorem ok_set1 : ∀ I : Sym.Inv Unit, LCOk I Try.prog 20 lcSet1 := by
  refine lc_mk (fun _ => allCfg Try.prog [] tabB 3) (fun _ _ => allCfg_ok mixed trivial tabB_ok) (fun _ => rfl) (n := 80) Try.func20 ?_
  intro ⟨⟨_, ⟨r, c⟩, x⟩, ⟨oe, ⟨l, oe2, ep⟩⟩⟩ hφ
  obtain ⟨⟨rfl, hg⟩, hp⟩ := id hφ
  refine kcast (B := (true = true ∧ (oe = oe ∧ GW l) ∧ br (inB l r c) (rq (oe.beq oe && (true && decide ((0 : Int) ≤ r ∧ r < (↑(Rws.i IntKind.i64 l).len : Int)))) (rq (oe.beq oe && r.toNat.blt (Rws.i IntKind.i64 l).len) (rq (ep.beq ep && r.toNat.blt (Rws.i IntKind.i64 l).len && ((Rws.i IntKind.i64 l).sz.beq (1 : Nat) && decide ((0 : Int) ≤ c ∧ c < (↑((Rws.i IntKind.i64 l).nAt r.toNat) : Int)))) (rq (ep.beq ep && r.toNat.blt (Rws.i IntKind.i64 l).len && c.toNat.blt (l.getD r.toNat (LI [])).length) (br (inB l r c) ((SV.v (Value.int IntKind.i64 (0 : Int)) = SV.v (Value.int IntKind.i64 (0 : Int)) ∧ True) ∧ (SV.h (1 : Nat) [oe, (0 : Nat)] = SV.h (1 : Nat) [oe, (0 : Nat)] ∧ True) ∧ (oe = oe ∧ ep = ep ∧ l.set r.toNat ((l.getD r.toNat (LI [])).set c.toNat x) = set2 l r c x) ∧ True) ((SV.v (Value.int IntKind.i64 (0 : Int)) = SV.v (Value.int IntKind.i64 (11 : Int)) ∧ True) ∧ (SV.h (1 : Nat) [oe, (0 : Nat)] = SV.h (1 : Nat) [oe, (0 : Nat)] ∧ True) ∧ (oe = oe ∧ ep = ep ∧ l.set r.toNat ((l.getD r.toNat (LI [])).set c.toNat x) = l) ∧ True)))))) (br (inB l r c) ((SV.v (Value.int IntKind.i64 (11 : Int)) = SV.v (Value.int IntKind.i64 (0 : Int)) ∧ True) ∧ (SV.h (1 : Nat) [oe, (0 : Nat)] = SV.h (1 : Nat) [oe, (0 : Nat)] ∧ True) ∧ (oe = oe ∧ ep = ep ∧ l = set2 l r c x) ∧ True) ((SV.v (Value.int IntKind.i64 (11 : Int)) = SV.v (Value.int IntKind.i64 (11 : Int)) ∧ True) ∧ (SV.h (1 : Nat) [oe, (0 : Nat)] = SV.h (1 : Nat) [oe, (0 : Nat)] ∧ True) ∧ (oe = oe ∧ ep = ep ∧ l = l) ∧ True)))) (by kernel_rfl) ?_
  refine ⟨rfl, ⟨rfl, hg⟩, ?_⟩
  clear hp hφ
  cases h : inB l r c
  · simp only [br_iff, Bool.false_eq_true, false_implies, true_implies, true_and, and_true]
  · rw [inB_iff] at h
    have hr : r.toNat < l.length := by omega
    have h1 : Nat.blt r.toNat (Rws.i IntKind.i64 l).len = true := by rw [Nat.blt_eq]; exact hr
    have h2 : Nat.blt c.toNat (l.getD r.toNat (LI [])).length = true := by rw [Nat.blt_eq, hg.row hr]; omega
    have h3 : ((Rws.i IntKind.i64 l).nAt r.toNat : Int) = nC l := by show ((l.getD r.toNat []).length : Int) = _; rw [hg.row hr]
    have h4 : ((Rws.i IntKind.i64 l).len : Int) = l.length := rfl
    have h5 : Nat.beq (Rws.i IntKind.i64 l).sz 1 = true := rfl
    simp only [br_iff, rq_iff, nbeq, h1, h2, h3, h4, h5, Bool.true_eq_false, false_implies, true_implies, true_and, and_true, Bool.true_and, Bool.and_true, decide_eq_true_eq]
    exact ⟨⟨by omega, by omega⟩, ⟨by omega, by omega⟩, rfl⟩
set_option maxHeartbeats 4000000 in
theorem ok_at0 : ∀ I : Sym.Inv Unit, LCOk I Try.prog 18 lcAt0 := by
  refine lc_mk (fun _ => allCfg Try.prog [] tabB 3) (fun _ _ => allCfg_ok mixed trivial tabB_ok) (fun _ => rfl) (n := 80) Try.func18 ?_
  intro ⟨⟨_, r, c⟩, _⟩ hφ
  refine kcast (B := (true = true ∧ (SV.t [SV.v (Value.int IntKind.i64 (0 : Int)), SV.v (Value.int IntKind.i64 (2 : Int))] = SV.t [SV.v (Value.int IntKind.i64 (0 : Int)), SV.v (Value.int IntKind.i64 (2 : Int))] ∧ True) ∧ True)) (by kernel_rfl) ?_
  exact ⟨rfl, ⟨rfl, trivial⟩, trivial⟩
set_option maxHeartbeats 4000000 in
theorem ok_set0 : ∀ I : Sym.Inv Unit, LCOk I Try.prog 20 lcSet0 := by
  refine lc_mk (fun _ => allCfg Try.prog [] tabB 3) (fun _ _ => allCfg_ok mixed trivial tabB_ok) (fun _ => rfl) (n := 80) Try.func20 ?_
  intro ⟨⟨_, ⟨r, c⟩, x⟩, _⟩ hφ
  refine kcast (B := (true = true ∧ (SV.v (Value.int IntKind.i64 (2 : Int)) = SV.v (Value.int IntKind.i64 (2 : Int)) ∧ True) ∧ True)) (by kernel_rfl) ?_
  exact ⟨rfl, ⟨rfl, trivial⟩, trivial⟩
def lcAt : ACon Unit := lcOr lcAt1 lcAt0
theorem ok_at : ∀ I : Sym.Inv Unit, LCOk I Try.prog 18 lcAt := lcOr_ok ok_at1 ok_at0
def lcSet : ACon Unit := lcOr lcSet1 lcSet0
theorem ok_set : ∀ I : Sym.Inv Unit, LCOk I Try.prog 20 lcSet := lcOr_ok ok_set1 ok_set0

end Go.Proofs.Ytpdhnmnjccnbmaa
