/- Contracts of layer 11: the small calls, and the chapter's example. -/
import Derived.Test.YtienakdnmhmglaaQuE
set_option linter.unusedSimpArgs false
set_option linter.unusedVariables false
set_option linter.unusedSectionVars false
namespace Go.Proofs.Ytienakdnmhmglaa
open Go Go.Sym

def lcLen1 : ACon Unit := mkLC (decP (shOne (shP 0)) shQ) fun (_, ((ep, fr, n, ov), ⟨xs, m, ep2⟩)) => .ask (ep = ep2) (.one (.v (.int .i64 n)) (bq ep fr n ov xs m) [])
def lcLen0 : ACon Unit := mkLC (decP (shOne shNilP) shHNil) fun _ => .one (.v (.int .i64 0)) [] []
set_option maxHeartbeats 4000000 in
theorem ok_len1 : ∀ I : Sym.Inv Unit, LCOk I Try.prog 12 lcLen1 := by
  refine lc_mk (fun _ => allCfg Try.prog [] [] 0) (fun _ _ => allCfg_ok mixed trivial trivial) (fun _ => rfl) (n := 60) Try.func12 ?_
  intro ⟨_, ⟨ep, fr, n, ov⟩, ⟨xs, m, ep2⟩⟩ hφ
  obtain ⟨rfl, _⟩ := id hφ
  refine kcast (B := ((SV.v (Value.int IntKind.i64 n) = SV.v (Value.int IntKind.i64 n) ∧ True) ∧ (SV.h (1 : Nat) [ep, (0 : Nat)] = SV.h (1 : Nat) [ep, (0 :
        Nat)] ∧ SV.v (Value.int IntKind.i64 fr) = SV.v (Value.int IntKind.i64 fr) ∧ SV.v (Value.int IntKind.i64 n) = SV.v (Value.int IntKind.i64 n) ∧ SV.v (Value.bool
        ov) = SV.v (Value.bool ov) ∧ True) ∧ (m = m ∧ ep = ep ∧ xs = xs) ∧ True)) (by kernel_rfl) ?_
  simp
set_option maxHeartbeats 4000000 in
theorem ok_len0 : ∀ I : Sym.Inv Unit, LCOk I Try.prog 12 lcLen0 := by
  refine lc_mk (fun _ => allCfg Try.prog [] [] 0) (fun _ _ => allCfg_ok mixed trivial trivial) (fun _ => rfl) (n := 60) Try.func12 ?_
  intro ⟨_, _⟩ hφ
  refine kcast (B := ((SV.v (Value.int IntKind.i64 (0 : Int)) = SV.v (Value.int IntKind.i64 (0 : Int)) ∧ True) ∧ True)) (by kernel_rfl) ?_
  exact ⟨⟨rfl, trivial⟩, trivial⟩
def lcLen : ACon Unit := lcOr lcLen1 lcLen0
theorem ok_len : ∀ I : Sym.Inv Unit, LCOk I Try.prog 12 lcLen := lcOr_ok ok_len1 ok_len0

def lcOver1 : ACon Unit := mkLC (decP (shOne (shP 0)) shQ) fun (_, ((ep, fr, n, ov), ⟨xs, m, ep2⟩)) => .ask (ep = ep2) (.one (.v (.bool ov)) (bq ep fr n ov xs m) [])
def lcOver0 : ACon Unit := mkLC (decP (shOne shNilP) shHNil) fun _ => .one (.v (.bool false)) [] []
set_option maxHeartbeats 4000000 in
theorem ok_over1 : ∀ I : Sym.Inv Unit, LCOk I Try.prog 14 lcOver1 := by
  refine lc_mk (fun _ => allCfg Try.prog [] [] 0) (fun _ _ => allCfg_ok mixed trivial trivial) (fun _ => rfl) (n := 60) Try.func14 ?_
  intro ⟨_, ⟨ep, fr, n, ov⟩, ⟨xs, m, ep2⟩⟩ hφ
  obtain ⟨rfl, _⟩ := id hφ
  refine kcast (B := ((SV.v (Value.bool ov) = SV.v (Value.bool ov) ∧ True) ∧ (SV.h (1 : Nat) [ep, (0 : Nat)] = SV.h (1 : Nat) [ep, (0 : Nat)] ∧ SV.v (Value.int
        IntKind.i64 fr) = SV.v (Value.int IntKind.i64 fr) ∧ SV.v (Value.int IntKind.i64 n) = SV.v (Value.int IntKind.i64 n) ∧ SV.v (Value.bool ov) = SV.v (Value.bool
        ov) ∧ True) ∧ (m = m ∧ ep = ep ∧ xs = xs) ∧ True)) (by kernel_rfl) ?_
  simp
set_option maxHeartbeats 4000000 in
theorem ok_over0 : ∀ I : Sym.Inv Unit, LCOk I Try.prog 14 lcOver0 := by
  refine lc_mk (fun _ => allCfg Try.prog [] [] 0) (fun _ _ => allCfg_ok mixed trivial trivial) (fun _ => rfl) (n := 60) Try.func14 ?_
  intro ⟨_, _⟩ hφ
  refine kcast (B := ((SV.v (Value.bool false) = SV.v (Value.bool false) ∧ True) ∧ True)) (by kernel_rfl) ?_
  exact ⟨⟨rfl, trivial⟩, trivial⟩
def lcOver : ACon Unit := lcOr lcOver1 lcOver0
theorem ok_over : ∀ I : Sym.Inv Unit, LCOk I Try.prog 14 lcOver := lcOr_ok ok_over1 ok_over0

def lcClear1 : ACon Unit := mkLC (decP (shOne (shP 0)) shQ) fun (_, ((ep, fr, n, ov), ⟨xs, m, ep2⟩)) => .ask (ep = ep2 ∧ QWf fr n xs m) (.one (.t []) (bq ep ((fr + n) % m) 0 false xs m) [0, 1])
def lcClear0 : ACon Unit := mkLC (decP (shOne shNilP) shHNil) fun _ => .one (.t []) [] []
def qtab3 : List (Nat × ACon Unit) := (15, lcDrain) :: qtab2
theorem qtab3_ok : LCs Try.prog qtab3 := ⟨ok_drain, qtab2_ok⟩
set_option maxHeartbeats 4000000 in
theorem ok_clear1 : ∀ I : Sym.Inv Unit, LCOk I Try.prog 19 lcClear1 := by
  refine lc_mk (fun _ => allCfg Try.prog [] qtab3 0) (fun _ _ => allCfg_ok mixed trivial qtab3_ok) (fun _ => rfl) (n := 60) Try.func19 ?_
  intro ⟨_, ⟨ep, fr, n, ov⟩, ⟨xs, m, ep2⟩⟩ hφ
  obtain ⟨⟨rfl, hq⟩, _⟩ := id hφ
  refine kcast (B := (true = true ∧ (ep = ep ∧ QWf fr n xs m) ∧ (SV.t [] = SV.t [] ∧ True) ∧ (SV.h (1 : Nat) [ep, (0 : Nat)] = SV.h (1 : Nat) [ep, (0 : Nat)] ∧
        SV.v (Value.int IntKind.i64 ((fr + n) % (↑m : Int))) = SV.v (Value.int IntKind.i64 ((fr + n) % (↑m : Int))) ∧ SV.v (Value.int IntKind.i64 (0 : Int)) = SV.v
        (Value.int IntKind.i64 (0 : Int)) ∧ SV.v (Value.bool false) = SV.v (Value.bool false) ∧ True) ∧ (m = m ∧ ep = ep ∧ xs = xs) ∧ True)) (by kernel_rfl) ?_
  simp only [rq_iff, nbeq, Bool.and_eq_true, true_and, and_true]
  exact hq
set_option maxHeartbeats 4000000 in
theorem ok_clear0 : ∀ I : Sym.Inv Unit, LCOk I Try.prog 19 lcClear0 := by
  refine lc_mk (fun _ => allCfg Try.prog [] qtab3 0) (fun _ _ => allCfg_ok mixed trivial qtab3_ok) (fun _ => rfl) (n := 60) Try.func19 ?_
  intro ⟨_, _⟩ hφ
  refine kcast (B := (true = true ∧ (SV.t [] = SV.t [] ∧ True) ∧ True)) (by kernel_rfl) ?_
  exact ⟨rfl, ⟨rfl, trivial⟩, trivial⟩
def lcClear : ACon Unit := lcOr lcClear1 lcClear0
theorem ok_clear : ∀ I : Sym.Inv Unit, LCOk I Try.prog 19 lcClear := lcOr_ok ok_clear1 ok_clear0

def qtabA : List (Nat × ACon Unit) := (13, lcPush) :: (12, lcLen) :: (14, lcOver) :: (19, lcClear) :: (18, lcCopy) :: qtab3
theorem qtabA_ok : LCs Try.prog qtabA := ⟨ok_push, ok_len, ok_over, ok_clear, ok_copy, qtab3_ok⟩

def qwfB (fr n : Int) (xs : List Int) (m : Nat) : Bool :=
  Nat.beq xs.length m && Nat.ble m 4096 && decide (0 ≤ fr) && decide (fr < m) && decide (0 ≤ n) && decide (n ≤ m) && xs.all fun x => decide (0 ≤ x) && decide (x ≤ 255)
theorem qwf_of {fr n : Int} {xs : List Int} {m : Nat} (h : qwfB fr n xs m = true) : QWf fr n xs m := by
  simp only [qwfB, Bool.and_eq_true, Nat.beq_eq, Nat.ble_eq, decide_eq_true_eq, List.all_eq_true] at h
  obtain ⟨⟨⟨⟨⟨⟨h1, h2⟩, h3⟩, h4⟩, h5⟩, h6⟩, h7⟩ := h
  exact ⟨h1, h2, h3, .inl h4, h5, h6, h7⟩
def psAwake : PS := mkPS shNil (fun _ => True) fun _ => .v (.bool true)
set_option maxHeartbeats 4000000 in
theorem ok_awake : PureOk Try.prog 11 psAwake := by
  refine pureOk_all (fun _ => allCfg Try.prog [] qtabA 8) (fun _ _ => allCfg_ok mixed trivial qtabA_ok) (fun _ => rfl) (n := 80) Try.func11 (fun _ => rfl) (fun _ => rfl) ?_
  intro _ hφ
  refine kcast (B := (true = true ∧ true = true ∧ ((0 : Nat) = (0 : Nat) ∧ QWf (0 : Int) (0 : Int) (LI [(0 : Int), (0 : Int), (0 : Int)]) (3 : Nat) ∧ (2 : Nat)
        ≤ (1099511627776 : Nat)) ∧ true = true ∧ ((0 : Nat) = (0 : Nat) ∧ QWf (0 : Int) (2 : Int) (LI [(97 : Int), (98 : Int), (0 : Int)]) (3 : Nat) ∧ (2 : Nat) ≤
        (1099511627776 : Nat)) ∧ true = true ∧ (0 : Nat) = (0 : Nat) ∧ true = true ∧ ((0 : Nat) = (0 : Nat) ∧ QWf (0 : Int) (2 : Int) (LI [(97 : Int), (98 : Int), (0 :
        Int)]) (3 : Nat)) ∧ true = true ∧ ((0 : Nat) = (0 : Nat) ∧ QWf (1 : Int) (1 : Int) (LI [(97 : Int), (98 : Int), (0 : Int)]) (3 : Nat) ∧ (2 : Nat) ≤
        (1099511627776 : Nat)) ∧ true = true ∧ ((0 : Nat) = (0 : Nat) ∧ QWf (1 : Int) (3 : Int) (LI [(100 : Int), (98 : Int), (99 : Int)]) (3 : Nat)) ∧ SV.v (Value.bool
        true) = SV.v (Value.bool true))) (by kernel_rfl) ?_
  exact ⟨rfl, rfl, ⟨rfl, qwf_of (by kernel_rfl), by decide⟩, rfl, ⟨rfl, qwf_of (by kernel_rfl), by decide⟩, rfl, rfl, rfl, ⟨rfl, qwf_of (by kernel_rfl)⟩, rfl, ⟨rfl, qwf_of (by kernel_rfl), by decide⟩, rfl, ⟨rfl, qwf_of (by kernel_rfl)⟩, rfl⟩

end Go.Proofs.Ytienakdnmhmglaa
