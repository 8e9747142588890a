/- Contracts of layer 11: bytes are fetched. -/
import Derived.Test.YtienakdnmhmglaaQuA
set_option linter.unusedSimpArgs false
set_option linter.unusedVariables false
set_option linter.unusedSectionVars false
namespace Go.Proofs.Ytienakdnmhmglaa
open Go Go.Sym

/-- A closure of a function. -/
def shF {α : Type} (g : Nat) (s : ShL α) : Sh α where
  enc a := .f (.func g) (s.enc a)
  dec x := match x with
    | .f fn l => match fn with
      | .func g' => match Nat.beq g' g with
        | true => s.dec l
        | false => none
      | _ => none
    | _ => none
  ok x a h := by
    split at h
    · split at h
      · split at h
        · rename_i hg
          rw [Nat.beq_eq] at hg
          subst hg
          rw [s.ok _ _ h]
        · cases h
      · cases h
    · cases h
/-- The first i bytes of a ring, from a place on. -/
def tk (xs : List Int) (fr : Int) (m : Nat) (i : Int) : List Int := (List.range i.toNat).map fun j : Nat => xs.getD ((fr + j) % m).toNat 0
theorem tk_length (xs : List Int) (fr : Int) (m : Nat) (i : Int) : (tk xs fr m i).length = i.toNat := by simp [tk]
theorem tk_succ {xs : List Int} {fr : Int} {m : Nat} {i : Int} (h : 0 ≤ i) : tk xs fr m (i + 1) = tk xs fr m i ++ [xs.getD ((fr + i) % m).toNat 0] := by
  unfold tk
  rw [show (i + 1).toNat = i.toNat + 1 by omega, List.range_succ, List.map_append]
  simp [show ((i.toNat : Nat) : Int) = i by omega]
theorem mod_start {fr : Int} {m : Nat} (h : 0 ≤ fr) (h' : fr < m ∨ (m = 0 ∧ fr = 0)) : fr = (fr + 0) % (m : Int) := by
  rcases h' with h' | ⟨rfl, rfl⟩
  · rw [Int.add_zero, Int.emod_eq_of_lt h h']
  · rfl
def annT (k fr n : Int) (ov : Bool) (xs : List Int) (m ep : Nat) : Ann Unit where
  α := Int
  φ _ i := 0 ≤ i ∧ i ≤ k
  μ _ i := (k - i).toNat
  get st := getI st.tm 6
  f st i := tmpl [0, 1, 2, 5] [(6, .v (.int .i64 i))] [(2, .cells [.h 3 [ep, 0], .v (.int .i64 ((fr + i) % m)), .v (.int .i64 (n - i)), .v (.bool ov)] 50), (4, .cells [.h 7 [i.toNat, 0]] 46), (6, loopTm st.H 6 [2] []), (7, .own (.ints .u8 (tk xs fr m i)) i.toNat 5 1 i.toNat false)] st
  fx st := match getC st.H 4 with
    | [x] => match nilS x with
      | true => [.nilCell 4 0 (.ints .u8 []) 5 1]
      | false => []
    | _ => []
abbrev CB := Int × Unit × QB
def shC : ShH CB := shHCons (shCells (shOne shI) 3) (shHCons (shCells (shOne (shP 2)) 57) (shQi 3))
def altCollect : Unit × Unit × CB → Alt Unit := fun (_, _, k, _, ((ep, fr, n, ov), ⟨xs, m, ep2⟩)) =>
  .ask (ep = ep2 ∧ QWf fr n xs m ∧ 0 ≤ k ∧ k ≤ n) (.one (.h 7 [k.toNat, 0])
    ([.gone, .gone] ++ bqi 3 ep ((fr + k) % m) (n - k) ov xs m ++ [.gone, .gone, .gone, .own (.ints .u8 (tk xs fr m k)) k.toNat 5 1 k.toNat false]) [0, 1, 2, 3])
def decC : List SV → List (SB Unit) → Option (Unit × Unit × CB) := decAH (shOne (shF 28 (shCons (shP 0) (shOne (shP 1))))) shC (fun a b => (a.1, a.2, b))
def lcCollect : ACon Unit := mkLC decC altCollect
set_option maxHeartbeats 4000000 in
theorem ok_collect : ∀ I : Sym.Inv Unit, LCOk I Try.prog 21 lcCollect := by
  refine lc_of_run (eA := fun a => (shOne (shF 28 (shCons (shP 0) (shOne (shP 1))))).enc (a.1, a.2.1)) (eH := fun a => shC.enc a.2.2) (decAH_ok (f := fun a b =>
        (a.1, a.2, b)) (g := fun c => ((c.1, c.2.1), c.2.2)) fun _ _ => rfl) (fun (_, _, k, _, ((ep, fr, n, ov), ⟨xs, m, _⟩)) => allCfg Try.prog [] [] 0 [(129, annT k
        fr n ov xs m ep)]) (fun _ _ => allCfg_ok mixed trivial trivial) (fun _ => rfl) (n := 60) Try.func21 ?_
  intro ⟨_, _, k, _, ⟨ep, fr, n, ov⟩, ⟨xs, m, ep2⟩⟩ hφ
  obtain ⟨⟨rfl, ⟨h1, h2, h3, h4, h5, h6, h7⟩, h8, h9⟩, _⟩ := id hφ
  refine kcast (B := ((II (0 : Int) ≤ (0 : Int) ∧ (0 : Int) ≤ k) ∧ ((SV.y (6 : Nat) = SV.y (6 : Nat) ∧ SV.p (0 : Nat) (0 : Nat) = SV.p (0 : Nat) (0 : Nat) ∧
        SV.p (1 : Nat) (0 : Nat) = SV.p (1 : Nat) (0 : Nat) ∧ SV.v (Value.int IntKind.i64 k) = SV.v (Value.int IntKind.i64 k) ∧ SV.v (Value.int IntKind.i64 (0 : Int)) =
        SV.v (Value.int IntKind.i64 (0 : Int)) ∧ True) ∧ (SV.v (Value.int IntKind.i64 k) = SV.v (Value.int IntKind.i64 k) ∧ True) ∧ (SV.p (2 : Nat) (0 : Nat) = SV.p (2
        : Nat) (0 : Nat) ∧ True) ∧ (SV.h (3 : Nat) [ep, (0 : Nat)] = SV.h (3 : Nat) [ep, (0 : Nat)] ∧ SV.v (Value.int IntKind.i64 fr) = SV.v (Value.int IntKind.i64 ((fr
        + (0 : Int)) % (↑m : Int))) ∧ SV.v (Value.int IntKind.i64 n) = SV.v (Value.int IntKind.i64 (n - (0 : Int))) ∧ SV.v (Value.bool ov) = SV.v (Value.bool ov) ∧
        True) ∧ (m = m ∧ ep = ep ∧ xs = xs) ∧ (SV.h (7 : Nat) [(0 : Nat), (0 : Nat)] = SV.h (7 : Nat) [(0 : Nat), (0 : Nat)] ∧ True) ∧ Obj.deferred (some []) =
        Obj.deferred (some []) ∧ ((SV.p (4 : Nat) (0 : Nat) = SV.p (4 : Nat) (0 : Nat) ∧ True) ∧ #[(7 : Nat)] = #[(7 : Nat)] ∧ codeAt Try.f27 [(1 : Nat), (0 : Nat), (1
        : Nat), (0 : Nat), (0 : Nat)] = codeAt Try.f27 [(1 : Nat), (0 : Nat), (1 : Nat), (0 : Nat), (0 : Nat)] ∧ codeAt Try.f27 [(1 : Nat), (0 : Nat), (1 : Nat), (0 :
        Nat), (1 : Nat)] = codeAt Try.f27 [(1 : Nat), (0 : Nat), (1 : Nat), (0 : Nat), (1 : Nat)]) ∧ ((0 : Nat) = (0 : Nat) ∧ (0 : Nat) = (0 : Nat) ∧ LI [] = tk xs fr m
        (0 : Int)) ∧ True) ∧ ∀ (x : Int), (0 : Int) ≤ x ∧ x ≤ k → br (decide (x < k)) (rq (ep.beq ep && (Nat.beq (1 : Nat) (1 : Nat) && decide ((0 : Int) ≤ (fr + x) %
        (↑m : Int) ∧ (fr + x) % (↑m : Int) < (↑m : Int)))) (rq (ep.beq ep && ((fr + x) % (↑m : Int)).toNat.blt xs.length) (rq (ep.beq ep) (rq (decide ((↑m : Int) ≠ (0 :
        Int))) (rq (x.toNat.beq x.toNat && (true && decide (x.toNat + (1 : Nat) ≤ (9223372036854775807 : Nat) ∧ (x.toNat + (1 : Nat)) * (1 : Nat) ≤ (140737488355328 :
        Nat)))) (((0 : Int) ≤ IntKind.i64.wrap (x + (1 : Int)) ∧ IntKind.i64.wrap (x + (1 : Int)) ≤ k) ∧ ((SV.y (6 : Nat) = SV.y (6 : Nat) ∧ SV.p (0 : Nat) (0 : Nat) =
        SV.p (0 : Nat) (0 : Nat) ∧ SV.p (1 : Nat) (0 : Nat) = SV.p (1 : Nat) (0 : Nat) ∧ SV.v (Value.int IntKind.i64 k) = SV.v (Value.int IntKind.i64 k) ∧ SV.v
        (Value.int IntKind.i64 (IntKind.i64.wrap (x + (1 : Int)))) = SV.v (Value.int IntKind.i64 (IntKind.i64.wrap (x + (1 : Int)))) ∧ True) ∧ (SV.v (Value.int
        IntKind.i64 k) = SV.v (Value.int IntKind.i64 k) ∧ True) ∧ (SV.p (2 : Nat) (0 : Nat) = SV.p (2 : Nat) (0 : Nat) ∧ True) ∧ (SV.h (3 : Nat) [ep, (0 : Nat)] = SV.h
        (3 : Nat) [ep, (0 : Nat)] ∧ SV.v (Value.int IntKind.i64 ((IntKind.i64.wrap ((fr + x) % (↑m : Int) + (1 : Int))).tmod (↑m : Int))) = SV.v (Value.int IntKind.i64
        ((fr + IntKind.i64.wrap (x + (1 : Int))) % (↑m : Int))) ∧ SV.v (Value.int IntKind.i64 (IntKind.i64.wrap (n - x - (1 : Int)))) = SV.v (Value.int IntKind.i64 (n -
        IntKind.i64.wrap (x + (1 : Int)))) ∧ SV.v (Value.bool ov) = SV.v (Value.bool ov) ∧ True) ∧ (m = m ∧ ep = ep ∧ xs = xs) ∧ (SV.h (7 : Nat) [x.toNat + (1 : Nat),
        (0 : Nat)] = SV.h (7 : Nat) [(IntKind.i64.wrap (x + (1 : Int))).toNat, (0 : Nat)] ∧ True) ∧ Obj.deferred (some []) = Obj.deferred (some []) ∧ ((SV.p (4 : Nat)
        (0 : Nat) = SV.p (4 : Nat) (0 : Nat) ∧ True) ∧ #[(7 : Nat)] = #[(7 : Nat)] ∧ codeAt Try.f27 [(1 : Nat), (0 : Nat), (1 : Nat), (0 : Nat), (0 : Nat)] = codeAt
        Try.f27 [(1 : Nat), (0 : Nat), (1 : Nat), (0 : Nat), (0 : Nat)] ∧ codeAt Try.f27 [(1 : Nat), (0 : Nat), (1 : Nat), (0 : Nat), (1 : Nat)] = codeAt Try.f27 [(1 :
        Nat), (0 : Nat), (1 : Nat), (0 : Nat), (1 : Nat)]) ∧ (x.toNat + (1 : Nat) = (IntKind.i64.wrap (x + (1 : Int))).toNat ∧ x.toNat + (1 : Nat) = (IntKind.i64.wrap
        (x + (1 : Int))).toNat ∧ tk xs fr m x ++ intsOf (List.take (1 : Nat) (List.drop (0 : Nat) (setAll (List.map (fun i => SV.v (Value.int IntKind.u8 (0 :
        Int)).cells[i % (1 : Nat)]!) (List.range (1 : Nat))) (0 : Nat) [SV.v (Value.int IntKind.u8 (xs.getD ((fr + x) % (↑m : Int)).toNat (0 : Int)))]))) = tk xs fr m
        (IntKind.i64.wrap (x + (1 : Int)))) ∧ True) ∧ (k - IntKind.i64.wrap (x + (1 : Int))).toNat < (k - x).toNat)))))) ((SV.h (7 : Nat) [x.toNat, (0 : Nat)] = SV.h (7
        : Nat) [k.toNat, (0 : Nat)] ∧ True) ∧ True ∧ True ∧ (SV.h (3 : Nat) [ep, (0 : Nat)] = SV.h (3 : Nat) [ep, (0 : Nat)] ∧ SV.v (Value.int IntKind.i64 ((fr + x) %
        (↑m : Int))) = SV.v (Value.int IntKind.i64 ((fr + k) % (↑m : Int))) ∧ SV.v (Value.int IntKind.i64 (n - x)) = SV.v (Value.int IntKind.i64 (n - k)) ∧ SV.v
        (Value.bool ov) = SV.v (Value.bool ov) ∧ True) ∧ (m = m ∧ ep = ep ∧ xs = xs) ∧ True ∧ True ∧ True ∧ (x.toNat = k.toNat ∧ x.toNat = k.toNat ∧ tk xs fr m x = tk
        xs fr m k) ∧ True))) (by kernel_rfl) ?_
  simp only [rq_iff, br_iff, nbeq, Bool.and_eq_true, decide_eq_true_eq, decide_eq_false_iff_not, Nat.blt_eq, true_and, and_true, SV.v.injEq, SV.h.injEq, SV.p.injEq, Value.int.injEq, Value.bool.injEq, List.cons.injEq, LI, II]
  refine ⟨⟨by omega, h8⟩, ⟨⟨mod_start h3 h4, by omega⟩, rfl⟩, fun x ⟨hx0, hxk⟩ => ⟨fun hlt => ?_, fun hge => ?_⟩⟩
  · have hm : 0 < (m : Int) := by omega
    have e1 := Int.emod_nonneg (fr + x) (by omega : (m : Int) ≠ 0)
    have e2 := Int.emod_lt_of_pos (fr + x) hm
    have e3 : ((fr + x) % (m : Int) + 1) % (m : Int) = (fr + (x + 1)) % (m : Int) := by rw [Int.emod_add_emod]; congr 1; omega
    rw [wrap64 (x := (fr + x) % (m : Int) + 1) (by omega) (by omega), wrap64 (x := x + 1) (by omega) (by omega), wrap64 (x := n - x - 1) (by omega) (by omega), tmod_emod (by omega), e3, tk_succ hx0]
    refine ⟨⟨e1, e2⟩, by omega, by omega, ⟨by omega, by omega⟩, ⟨by omega, by omega⟩, ⟨⟨rfl, by omega⟩, by omega, by omega, by omega, rfl⟩, ?_⟩
    show (k - (x + 1)).toNat < (k - x).toNat
    omega
  · have hxk : x = k := by omega
    subst hxk
    simp

end Go.Proofs.Ytienakdnmhmglaa
