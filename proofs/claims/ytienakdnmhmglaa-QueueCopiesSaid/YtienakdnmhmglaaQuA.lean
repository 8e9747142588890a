/- Contracts of layer 11: what is put into a ring, and a new queue. -/
import Derived.Test.YtienakdnmhmglaaChecked
import Derived.Test.YtienakdnmhmglaaVT
set_option linter.unusedSimpArgs false
set_option linter.unusedVariables false
set_option linter.unusedSectionVars false
namespace Go.Proofs.Ytienakdnmhmglaa
open Go Go.Sym

theorem mixed : Try.prog.follows .mixedOrders = true := by kernel_rfl
theorem br_t {b : Bool} {A B : Prop} (h : b = true) (hA : A) : br b A B := by subst h; exact hA
theorem br_f {b : Bool} {A B : Prop} (h : b = false) (hB : B) : br b A B := by subst h; exact hB
theorem rq_iff {b : Bool} {A : Prop} : rq b A ↔ (b = true ∧ A) := by cases b <;> simp [rq]
theorem br_iff {b : Bool} {A B : Prop} : br b A B ↔ ((b = true → A) ∧ (b = false → B)) := by cases b <;> simp [br]
theorem nbeq (n : Nat) : Nat.beq n n = true := by rw [Nat.beq_eq]
theorem tmod_emod {a : Int} {m : Nat} (h : 0 ≤ a) : a.tmod (m : Int) = a % (m : Int) := Int.tmod_eq_emod_of_nonneg h
theorem rq_t {b : Bool} {A : Prop} (h : b = true) (hA : A) : rq b A := by subst h; exact hA

/-! ### A queue: its object and its ring -/
abbrev QB := (Nat × Int × Int × Bool) × OI
def shQi (j : Nat) : ShH QB := shHCons (shCells (shCons (shO j) (shCons shI (shCons shI (shOne shB)))) 50) (shHOne (shOwnI .u8 5 true))
def shQ : ShH QB := shQi 1
/-- A ring that is sound: its length, its bytes, from where, and how many. -/
structure QWf (fr n : Int) (xs : List Int) (m : Nat) : Prop where
  len : xs.length = m
  most : m ≤ 4096
  fr0 : 0 ≤ fr
  frm : fr < m ∨ (m = 0 ∧ fr = 0)
  n0 : 0 ≤ n
  nm : n ≤ m
  bytes : ∀ x ∈ xs, 0 ≤ x ∧ x ≤ 255
def bqi (j ep : Nat) (fr n : Int) (ov : Bool) (xs : List Int) (m : Nat) : List (SB Unit) := (shQi j).enc ((ep, fr, n, ov), ⟨xs, m, ep⟩)
def bq (ep : Nat) (fr n : Int) (ov : Bool) (xs : List Int) (m : Nat) : List (SB Unit) := shQ.enc ((ep, fr, n, ov), ⟨xs, m, ep⟩)

def altPut : (Unit × Int) × QB → Alt Unit := fun (((), x), ((ep, fr, n, ov), ⟨xs, m, ep2⟩)) =>
  .ask (ep = ep2 ∧ QWf fr n xs m ∧ n < m ∧ 0 ≤ x ∧ x ≤ 255) (.one (.t []) (bq ep fr (n + 1) ov (xs.set ((fr + n) % m).toNat x) m) [0, 1])
def lcPut : ACon Unit := mkLC (decP (shCons (shP 0) (shOne (shInt .u8))) shQ) altPut
set_option maxHeartbeats 4000000 in
theorem ok_put : ∀ I : Sym.Inv Unit, LCOk I Try.prog 20 lcPut := by
  refine lc_mk (fun _ => allCfg Try.prog [] [] 0) (fun _ _ => allCfg_ok mixed trivial trivial) (fun _ => rfl) (n := 60) Try.func20 ?_
  intro ⟨⟨_, x⟩, ⟨ep, fr, n, ov⟩, ⟨xs, m, ep2⟩⟩ hφ
  obtain ⟨⟨rfl, ⟨h1, h2, h3, h4, h5, h6, h7⟩, h8, h9, h10⟩, _⟩ := id hφ
  refine kcast (B := (rq (ep.beq ep) (rq (decide ((↑m : Int) ≠ (0 : Int))) (rq (ep.beq ep && (true && decide ((0 : Int) ≤ (IntKind.i64.wrap (fr + n)).tmod (↑m :
        Int) ∧ (IntKind.i64.wrap (fr + n)).tmod (↑m : Int) < (↑m : Int)))) (rq (ep.beq ep && ((IntKind.i64.wrap (fr + n)).tmod (↑m : Int)).toNat.blt xs.length) ((SV.t
        [] = SV.t [] ∧ True) ∧ (SV.h (1 : Nat) [ep, (0 : Nat)] = SV.h (1 : Nat) [ep, (0 : Nat)] ∧ SV.v (Value.int IntKind.i64 fr) = SV.v (Value.int IntKind.i64 fr) ∧
        SV.v (Value.int IntKind.i64 (IntKind.i64.wrap (n + (1 : Int)))) = SV.v (Value.int IntKind.i64 (n + (1 : Int))) ∧ SV.v (Value.bool ov) = SV.v (Value.bool ov) ∧
        True) ∧ (m = m ∧ ep = ep ∧ xs.set ((IntKind.i64.wrap (fr + n)).tmod (↑m : Int)).toNat x = xs.set ((fr + n) % (↑m : Int)).toNat x) ∧ True)))))) (by kernel_rfl)
        ?_
  have hm : 0 < (m : Int) := by omega
  have e1 := Int.emod_nonneg (fr + n) (by omega : (m : Int) ≠ 0)
  have e2 := Int.emod_lt_of_pos (fr + n) hm
  rw [wrap64 (x := fr + n) (by omega) (by omega), wrap64 (x := n + 1) (by omega) (by omega), tmod_emod (a := fr + n) (by omega)]
  simp only [rq_iff, nbeq, Bool.and_eq_true, decide_eq_true_eq, Nat.blt_eq, true_and, and_true, h1]
  refine ⟨by omega, ⟨by omega, by omega⟩, by omega⟩

def altNew : Int × Unit → Alt Unit := fun (most, _) =>
  .br (decide (0 ≤ most) && decide (most ≤ 4096))
    (.one (.t [.p 1 0, .v (.int .i64 0)]) [.own (.ints .u8 (List.replicate most.toNat 0)) most.toNat 5 1 0 true, .cells [.h 0 [0, 0], .v (.int .i64 0), .v (.int .i64 0), .v (.bool false)] 50] [])
    (.one (.t [.v (.pointer none), .v (.int .i64 1)]) [] [])
def lcNew : ACon Unit := mkLC (decP (shOne shI) shHNil) altNew
set_option maxHeartbeats 4000000 in
theorem ok_new : ∀ I : Sym.Inv Unit, LCOk I Try.prog 9 lcNew := by
  refine lc_mk (fun _ => allCfg Try.prog [] [] 0) (fun _ _ => allCfg_ok mixed trivial trivial) (fun _ => rfl) (n := 60) Try.func9 ?_
  intro ⟨most, _⟩ hφ
  refine kcast (B := (br (decide (most < (0 : Int))) (br (decide ((0 : Int) ≤ most) && decide (most ≤ (4096 : Int))) ((SV.t [SV.v (Value.pointer none), SV.v
        (Value.int IntKind.i64 (1 : Int))] = SV.t [SV.p (1 : Nat) (0 : Nat), SV.v (Value.int IntKind.i64 (0 : Int))] ∧ True) ∧ False) ((SV.t [SV.v (Value.pointer none),
        SV.v (Value.int IntKind.i64 (1 : Int))] = SV.t [SV.v (Value.pointer none), SV.v (Value.int IntKind.i64 (1 : Int))] ∧ True) ∧ True)) (br (decide (most > (4096 :
        Int))) (br (decide ((0 : Int) ≤ most) && decide (most ≤ (4096 : Int))) ((SV.t [SV.v (Value.pointer none), SV.v (Value.int IntKind.i64 (1 : Int))] = SV.t [SV.p
        (1 : Nat) (0 : Nat), SV.v (Value.int IntKind.i64 (0 : Int))] ∧ True) ∧ False) ((SV.t [SV.v (Value.pointer none), SV.v (Value.int IntKind.i64 (1 : Int))] = SV.t
        [SV.v (Value.pointer none), SV.v (Value.int IntKind.i64 (1 : Int))] ∧ True) ∧ True)) (rq (decide ((0 : Int) ≤ most ∧ most ≤ most ∧ (1 : Int) * most ≤
        (281474976710656 : Int) ∧ most ≤ (9223372036854775807 : Int))) (br (decide ((0 : Int) ≤ most) && decide (most ≤ (4096 : Int))) ((SV.t [SV.p (1 : Nat) (0 : Nat),
        SV.v (Value.int IntKind.i64 (0 : Int))] = SV.t [SV.p (1 : Nat) (0 : Nat), SV.v (Value.int IntKind.i64 (0 : Int))] ∧ True) ∧ (most.toNat = most.toNat ∧ (0 : Nat)
        = (0 : Nat) ∧ List.replicate (most.toNat * (1 : Nat)) (0 : Int) = List.replicate most.toNat (0 : Int)) ∧ (SV.h (0 : Nat) [(0 : Nat), (0 : Nat)] = SV.h (0 : Nat)
        [(0 : Nat), (0 : Nat)] ∧ SV.v (Value.int IntKind.i64 (0 : Int)) = SV.v (Value.int IntKind.i64 (0 : Int)) ∧ SV.v (Value.int IntKind.i64 (0 : Int)) = SV.v
        (Value.int IntKind.i64 (0 : Int)) ∧ SV.v (Value.bool false) = SV.v (Value.bool false) ∧ True) ∧ True) ((SV.t [SV.p (1 : Nat) (0 : Nat), SV.v (Value.int
        IntKind.i64 (0 : Int))] = SV.t [SV.v (Value.pointer none), SV.v (Value.int IntKind.i64 (1 : Int))] ∧ True) ∧ True)))))) (by kernel_rfl) ?_
  simp only [br_iff, rq_iff, Bool.and_eq_true, Bool.and_eq_false_iff, decide_eq_true_eq, decide_eq_false_iff_not]
  by_cases h0 : most < 0
  · simp [h0] <;> omega
  · by_cases h1 : most > 4096
    · simp [h0, h1] <;> omega
    · simp [h0, h1] <;> omega

def altTaken : (Unit × Int) × QB → Alt Unit := fun (((), k), ((ep, fr, n, ov), ⟨xs, m, ep2⟩)) =>
  .ask (ep = ep2) (.one (.f (.func 28) [.p 3 0, .p 2 0]) (bq ep fr n ov xs m ++ [.cells [.p 0 0] 57, .cells [.v (.int .i64 k)] 3]) [])
def lcTaken : ACon Unit := mkLC (decP (shCons (shP 0) (shOne shI)) shQ) altTaken
set_option maxHeartbeats 4000000 in
theorem ok_taken : ∀ I : Sym.Inv Unit, LCOk I Try.prog 22 lcTaken := by
  refine lc_mk (fun _ => allCfg Try.prog [] [] 0) (fun _ _ => allCfg_ok mixed trivial trivial) (fun _ => rfl) (n := 60) Try.func22 ?_
  intro ⟨⟨_, k⟩, ⟨ep, fr, n, ov⟩, ⟨xs, m, ep2⟩⟩ hφ
  obtain ⟨rfl, _⟩ := id hφ
  refine kcast (B := ((SV.f (Fn.func (28 : Nat)) [SV.p (3 : Nat) (0 : Nat), SV.p (2 : Nat) (0 : Nat)] = SV.f (Fn.func (28 : Nat)) [SV.p (3 : Nat) (0 : Nat),
        SV.p (2 : Nat) (0 : Nat)] ∧ True) ∧ (SV.h (1 : Nat) [ep, (0 : Nat)] = SV.h (1 : Nat) [ep, (0 : Nat)] ∧ SV.v (Value.int IntKind.i64 fr) = SV.v (Value.int
        IntKind.i64 fr) ∧ SV.v (Value.int IntKind.i64 n) = SV.v (Value.int IntKind.i64 n) ∧ SV.v (Value.bool ov) = SV.v (Value.bool ov) ∧ True) ∧ (m = m ∧ ep = ep ∧ xs
        = xs) ∧ (SV.p (0 : Nat) (0 : Nat) = SV.p (0 : Nat) (0 : Nat) ∧ True) ∧ (SV.v (Value.int IntKind.i64 k) = SV.v (Value.int IntKind.i64 k) ∧ True) ∧ True)) (by
        kernel_rfl) ?_
  simp

end Go.Proofs.Ytienakdnmhmglaa
