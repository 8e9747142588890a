/- Contracts of layer 11: the calls of a queue. -/
import Derived.Test.YtienakdnmhmglaaQuB
set_option linter.unusedSimpArgs false
set_option linter.unusedVariables false
set_option linter.unusedSectionVars false
namespace Go.Proofs.Ytienakdnmhmglaa
open Go Go.Sym

def shNilP : Sh Unit where
  enc _ := .v (.pointer none)
  dec x := match x with
    | .v (.pointer none) => some ()
    | _ => none
  ok x a h := by
    split at h
    · rfl
    · cases h
/-- How many bytes are fetched. -/
def kq (k n : Int) : Int := if n < (if (0 : Int) > k then 0 else k) then n else if (0 : Int) > k then 0 else k
theorem kq_spec {k n : Int} (h : 0 ≤ n) : 0 ≤ kq k n ∧ kq k n ≤ n := by
  unfold kq
  split
  · omega
  · split <;> omega
theorem kq_all {n : Int} (h : 0 ≤ n) : kq n n = n := by
  unfold kq
  split
  · rfl
  · split <;> omega

def qtab : List (Nat × ACon Unit) := [(20, lcPut), (22, lcTaken), (21, lcCollect), (9, lcNew)]
theorem qtab_ok : LCs Try.prog qtab := ⟨ok_put, ok_taken, ok_collect, ok_new, trivial⟩

def altSome : (Unit × Int) × QB → Alt Unit := fun (((), k), ((ep, fr, n, ov), ⟨xs, m, ep2⟩)) =>
  .ask (ep = ep2 ∧ QWf fr n xs m) (.one (.v (.string (bytesOf (tk xs fr m (kq k n))))) (bq ep ((fr + kq k n) % m) (n - kq k n) ov xs m) [0, 1])
def lcSome1 : ACon Unit := mkLC (decP (shCons (shP 0) (shOne shI)) shQ) altSome
def lcSome0 : ACon Unit := mkLC (decP (shCons shNilP (shOne shI)) shHNil) fun _ => .one (.v (.string ByteArray.empty)) [] []
set_option maxHeartbeats 4000000 in
theorem ok_some1 : ∀ I : Sym.Inv Unit, LCOk I Try.prog 16 lcSome1 := by
  refine lc_mk (fun _ => allCfg Try.prog [] qtab 0) (fun _ _ => allCfg_ok mixed trivial qtab_ok) (fun _ => rfl) (n := 60) Try.func16 ?_
  intro ⟨⟨_, k⟩, ⟨ep, fr, n, ov⟩, ⟨xs, m, ep2⟩⟩ hφ
  obtain ⟨⟨rfl, hq⟩, _⟩ := id hφ
  refine kcast (B := (true = true ∧ ep = ep ∧ true = true ∧ (ep = ep ∧ QWf fr n xs m ∧ ((0 : Int) ≤ if n < if (0 : Int) > k then (0 : Int) else k then n else if
        (0 : Int) > k then (0 : Int) else k) ∧ (if n < if (0 : Int) > k then (0 : Int) else k then n else if (0 : Int) > k then (0 : Int) else k) ≤ n) ∧ rq ((if n < if
        (0 : Int) > k then (0 : Int) else k then n else if (0 : Int) > k then (0 : Int) else k).toNat.beq (if n < if (0 : Int) > k then (0 : Int) else k then n else if
        (0 : Int) > k then (0 : Int) else k).toNat && true && (tk xs fr m (if n < if (0 : Int) > k then (0 : Int) else k then n else if (0 : Int) > k then (0 : Int)
        else k)).length.beq (if n < if (0 : Int) > k then (0 : Int) else k then n else if (0 : Int) > k then (0 : Int) else k).toNat) ((SV.v (Value.string (bytesOf (tk
        xs fr m (if n < if (0 : Int) > k then (0 : Int) else k then n else if (0 : Int) > k then (0 : Int) else k)))) = SV.v (Value.string (bytesOf (tk xs fr m (kq k
        n)))) ∧ True) ∧ (SV.h (1 : Nat) [ep, (0 : Nat)] = SV.h (1 : Nat) [ep, (0 : Nat)] ∧ SV.v (Value.int IntKind.i64 ((fr + if n < if (0 : Int) > k then (0 : Int)
        else k then n else if (0 : Int) > k then (0 : Int) else k) % (↑m : Int))) = SV.v (Value.int IntKind.i64 ((fr + kq k n) % (↑m : Int))) ∧ SV.v (Value.int
        IntKind.i64 (n - if n < if (0 : Int) > k then (0 : Int) else k then n else if (0 : Int) > k then (0 : Int) else k)) = SV.v (Value.int IntKind.i64 (n - kq k n))
        ∧ SV.v (Value.bool ov) = SV.v (Value.bool ov) ∧ True) ∧ (m = m ∧ ep = ep ∧ xs = xs) ∧ True))) (by kernel_rfl) ?_
  have hk := kq_spec (k := k) hq.n0
  rw [show (if n < (if (0 : Int) > k then 0 else k) then n else if (0 : Int) > k then 0 else k) = kq k n from rfl]
  simp only [rq_iff, nbeq, Bool.and_eq_true, true_and, and_true]
  exact ⟨⟨hq, hk⟩, by simp [tk_length]⟩
set_option maxHeartbeats 4000000 in
theorem ok_some0 : ∀ I : Sym.Inv Unit, LCOk I Try.prog 16 lcSome0 := by
  refine lc_mk (fun _ => allCfg Try.prog [] qtab 0) (fun _ _ => allCfg_ok mixed trivial qtab_ok) (fun _ => rfl) (n := 60) Try.func16 ?_
  intro ⟨⟨_, k⟩, _⟩ hφ
  refine kcast (B := ((SV.v (Value.string { data := #[] }) = SV.v (Value.string ByteArray.empty) ∧ True) ∧ True)) (by kernel_rfl) ?_
  exact ⟨⟨rfl, trivial⟩, trivial⟩
def lcSome : ACon Unit := lcOr lcSome1 lcSome0
theorem ok_some : ∀ I : Sym.Inv Unit, LCOk I Try.prog 16 lcSome := lcOr_ok ok_some1 ok_some0

def altDrain : Unit × QB → Alt Unit := fun (_, ((ep, fr, n, ov), ⟨xs, m, ep2⟩)) =>
  .ask (ep = ep2 ∧ QWf fr n xs m) (.one (.v (.string (bytesOf (tk xs fr m n)))) (bq ep ((fr + n) % m) 0 false xs m) [0, 1])
def lcDrain1 : ACon Unit := mkLC (decP (shOne (shP 0)) shQ) altDrain
def lcDrain0 : ACon Unit := mkLC (decP (shOne shNilP) shHNil) fun _ => .one (.v (.string ByteArray.empty)) [] []
def qtab2 : List (Nat × ACon Unit) := (16, lcSome) :: qtab
theorem qtab2_ok : LCs Try.prog qtab2 := ⟨ok_some, qtab_ok⟩
set_option maxHeartbeats 4000000 in
theorem ok_drain1 : ∀ I : Sym.Inv Unit, LCOk I Try.prog 15 lcDrain1 := by
  refine lc_mk (fun _ => allCfg Try.prog [] qtab2 0) (fun _ _ => allCfg_ok mixed trivial qtab2_ok) (fun _ => rfl) (n := 60) Try.func15 ?_
  intro ⟨_, ⟨ep, fr, n, ov⟩, ⟨xs, m, ep2⟩⟩ hφ
  obtain ⟨⟨rfl, hq⟩, _⟩ := id hφ
  refine kcast (B := (true = true ∧ (ep = ep ∧ QWf fr n xs m) ∧ (SV.v (Value.string (bytesOf (tk xs fr m (kq n n)))) = SV.v (Value.string (bytesOf (tk xs fr m
        n))) ∧ True) ∧ (SV.h (1 : Nat) [ep, (0 : Nat)] = SV.h (1 : Nat) [ep, (0 : Nat)] ∧ SV.v (Value.int IntKind.i64 ((fr + kq n n) % (↑m : Int))) = SV.v (Value.int
        IntKind.i64 ((fr + n) % (↑m : Int))) ∧ SV.v (Value.int IntKind.i64 (n - kq n n)) = SV.v (Value.int IntKind.i64 (0 : Int)) ∧ SV.v (Value.bool false) = SV.v
        (Value.bool false) ∧ True) ∧ (m = m ∧ ep = ep ∧ xs = xs) ∧ True)) (by kernel_rfl) ?_
  have hk := kq_all hq.n0
  have hs := Int.sub_self n
  simp only [rq_iff, nbeq, Bool.and_eq_true, true_and, and_true, hk, hs]
  exact hq
set_option maxHeartbeats 4000000 in
theorem ok_drain0 : ∀ I : Sym.Inv Unit, LCOk I Try.prog 15 lcDrain0 := by
  refine lc_mk (fun _ => allCfg Try.prog [] qtab2 0) (fun _ _ => allCfg_ok mixed trivial qtab2_ok) (fun _ => rfl) (n := 60) Try.func15 ?_
  intro ⟨_, _⟩ hφ
  refine kcast (B := ((SV.v (Value.string { data := #[] }) = SV.v (Value.string ByteArray.empty) ∧ True) ∧ True)) (by kernel_rfl) ?_
  exact ⟨⟨rfl, trivial⟩, trivial⟩
def lcDrain : ACon Unit := lcOr lcDrain1 lcDrain0
theorem ok_drain : ∀ I : Sym.Inv Unit, LCOk I Try.prog 15 lcDrain := lcOr_ok ok_drain1 ok_drain0

def altClone : Nat × OI → Alt Unit := fun (ep, ⟨xs, m, ep2⟩) =>
  .ask (ep = ep2 ∧ xs.length = m ∧ m ≤ 4096) (.one (.h 2 [0, 0]) [.own (.ints .u8 xs) m 5 1 ep true, .gone, .own (.ints .u8 xs) m 5 1 0 true] [0])
def lcClone : ACon Unit := mkLC (decP (shOne (shO 0)) (shHOne (shOwnI .u8 5 true))) altClone
set_option maxHeartbeats 4000000 in
theorem ok_clone : ∀ I : Sym.Inv Unit, LCOk I Try.prog 26 lcClone := by
  refine lc_mk (fun _ => allCfg Try.prog [] [] 0) (fun _ _ => allCfg_ok mixed trivial trivial) (fun _ => rfl) (n := 60) Try.func26 ?_
  intro ⟨ep, ⟨xs, m, ep2⟩⟩ hφ
  obtain ⟨⟨rfl, h1, h2⟩, _⟩ := id hφ
  refine kcast (B := (rq (ep.beq ep) (rq (true && (ep.beq ep && true && decide ((0 : Nat) + m ≤ (9223372036854775807 : Nat) ∧ ((0 : Nat) + m) * (1 : Nat) ≤
        (140737488355328 : Nat)))) ((SV.h (2 : Nat) [(0 : Nat), (0 : Nat)] = SV.h (2 : Nat) [(0 : Nat), (0 : Nat)] ∧ True) ∧ (m = m ∧ ep = ep ∧ xs = xs) ∧ True ∧ ((0 :
        Nat) + m = m ∧ (0 : Nat) = (0 : Nat) ∧ LI [] ++ xs = xs) ∧ True)))) (by kernel_rfl) ?_
  simp only [rq_iff, nbeq, Bool.and_eq_true, true_and, and_true, decide_eq_true_eq]
  exact ⟨⟨by omega, by omega⟩, by omega, rfl⟩

def altCopy : Unit × QB → Alt Unit := fun (_, ((ep, fr, n, ov), ⟨xs, m, ep2⟩)) =>
  .ask (ep = ep2 ∧ QWf fr n xs m) (.one (.p 4 0) (bq ep fr n ov xs m ++ [.gone, .own (.ints .u8 xs) m 5 1 0 true, .cells [.h 3 [0, 0], .v (.int .i64 fr), .v (.int .i64 n), .v (.bool ov)] 50]) [0, 1])
def lcCopy1 : ACon Unit := mkLC (decP (shOne (shP 0)) shQ) altCopy
def lcCopy0 : ACon Unit := mkLC (decP (shOne shNilP) shHNil) fun _ => .one (.v (.pointer none)) [] []
set_option maxHeartbeats 4000000 in
theorem ok_copy1 : ∀ I : Sym.Inv Unit, LCOk I Try.prog 18 lcCopy1 := by
  refine lc_mk (fun _ => allCfg Try.prog [] [(26, lcClone)] 0) (fun _ _ => allCfg_ok mixed trivial ⟨ok_clone, trivial⟩) (fun _ => rfl) (n := 60) Try.func18 ?_
  intro ⟨_, ⟨ep, fr, n, ov⟩, ⟨xs, m, ep2⟩⟩ hφ
  obtain ⟨⟨rfl, hq⟩, _⟩ := id hφ
  refine kcast (B := (true = true ∧ (ep = ep ∧ xs.length = m ∧ m ≤ (4096 : Nat)) ∧ (SV.p (4 : Nat) (0 : Nat) = SV.p (4 : Nat) (0 : Nat) ∧ True) ∧ (SV.h (1 :
        Nat) [ep, (0 : Nat)] = SV.h (1 : Nat) [ep, (0 : Nat)] ∧ SV.v (Value.int IntKind.i64 fr) = SV.v (Value.int IntKind.i64 fr) ∧ SV.v (Value.int IntKind.i64 n) =
        SV.v (Value.int IntKind.i64 n) ∧ SV.v (Value.bool ov) = SV.v (Value.bool ov) ∧ True) ∧ (m = m ∧ ep = ep ∧ xs = xs) ∧ True ∧ (m = m ∧ (0 : Nat) = (0 : Nat) ∧ xs
        = xs) ∧ (SV.h (3 : Nat) [(0 : Nat), (0 : Nat)] = SV.h (3 : Nat) [(0 : Nat), (0 : Nat)] ∧ SV.v (Value.int IntKind.i64 fr) = SV.v (Value.int IntKind.i64 fr) ∧
        SV.v (Value.int IntKind.i64 n) = SV.v (Value.int IntKind.i64 n) ∧ SV.v (Value.bool ov) = SV.v (Value.bool ov) ∧ True) ∧ True)) (by kernel_rfl) ?_
  simp only [rq_iff, nbeq, Bool.and_eq_true, true_and, and_true, decide_eq_true_eq]
  exact ⟨hq.len, hq.most⟩
set_option maxHeartbeats 4000000 in
theorem ok_copy0 : ∀ I : Sym.Inv Unit, LCOk I Try.prog 18 lcCopy0 := by
  refine lc_mk (fun _ => allCfg Try.prog [] [] 0) (fun _ _ => allCfg_ok mixed trivial trivial) (fun _ => rfl) (n := 60) Try.func18 ?_
  intro ⟨_, _⟩ hφ
  refine kcast (B := ((SV.v (Value.pointer none) = SV.v (Value.pointer none) ∧ True) ∧ True)) (by kernel_rfl) ?_
  exact ⟨⟨rfl, trivial⟩, trivial⟩
def lcCopy : ACon Unit := lcOr lcCopy1 lcCopy0
theorem ok_copy : ∀ I : Sym.Inv Unit, LCOk I Try.prog 18 lcCopy := lcOr_ok ok_copy1 ok_copy0

end Go.Proofs.Ytienakdnmhmglaa
