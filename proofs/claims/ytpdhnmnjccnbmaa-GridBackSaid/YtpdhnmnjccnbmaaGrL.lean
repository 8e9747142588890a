/- Layer 1: contracts of the document's answer, and of Fill. -/
import Derived.Test.YtpdhnmnjccnbmaaGrK
set_option linter.unusedSimpArgs false
set_option linter.unusedVariables false
set_option linter.unusedSectionVars false
namespace Go.Proofs.Ytpdhnmnjccnbmaa
open Go Go.Sym

def shOwnF : ShB OI where
  enc a := .own (.ints .i64 a.xs) a.n 3 1 a.ep false
  dec x := match x with
    | .own c n T' sz ep nn' => match c with
      | .ints k xs => match decide (k = .i64) && (Nat.beq T' 3 && (Nat.beq sz 1 && (nn' == false))) with
        | true => some ⟨xs, n, ep⟩
        | false => none
      | _ => none
    | _ => none
  ok x a h := by
    split at h
    · split at h
      · split at h
        · rename_i hc
          simp only [Bool.and_eq_true, Nat.beq_eq, beq_iff_eq, decide_eq_true_eq] at hc
          obtain ⟨rfl, rfl, rfl, rfl⟩ := hc
          simp only [Option.some.injEq] at h
          subst h
          rfl
        · cases h
      · cases h
    · cases h
abbrev RB := (Int × Int × Nat) × OI
def shRefF (j : Nat) : ShH RB := shHCons (shCells (shCons shI (shCons shI (shOne (shO (j + 1))))) 67) (shHOne shOwnF)
def refF (j : Nat) (R C : Int) (xs : List Int) (n ep : Nat) : List (SB Unit) := (shRefF j).enc ((R, C, ep), ⟨xs, n, ep⟩)
/-- A list that is a grid. -/
structure FW (R C : Int) (xs : List Int) (n : Nat) : Prop where
  r0 : 1 ≤ R
  r1 : R ≤ 255
  c0 : 1 ≤ C
  c1 : C ≤ 255
  len : xs.length = n
  sz : (n : Int) = R * C
theorem mul_bd {r C : Int} (h0 : 0 ≤ r) (h1 : r ≤ 255) (h2 : 0 ≤ C) (h3 : C ≤ 255) : 0 ≤ r * C ∧ r * C ≤ 65025 :=
  ⟨Int.mul_nonneg h0 h2, Int.mul_le_mul h1 h3 h2 (by omega)⟩
theorem ix_bd {R C r c : Int} (h1 : r < R) (h3 : c < C) (h2 : 0 ≤ c) : r * C + c < R * C := by
  have : (r + 1) * C ≤ R * C := Int.mul_le_mul_of_nonneg_right (by omega) (by omega)
  rw [Int.add_mul, Int.one_mul] at this
  omega
theorem cast_ix (r C c : Nat) : ((r * C + c : Nat) : Int) = (r : Int) * C + c := by rw [Int.natCast_add, Int.natCast_mul]
theorem fw_fl {l : List (List Int)} (hg : GW l) : FW l.length (nC l) (flL l) (l.length * nC l) := by
  have := hg.r0; have := hg.r1; have := hg.c0; have := hg.c1
  exact ⟨by omega, by omega, by omega, by omega, flL_length l, Int.natCast_mul _ _⟩
def inD (R C r c : Int) : Bool := decide (0 ≤ r) && (decide (r < R) && (decide (0 ≤ c) && decide (c < C)))
theorem inD_iff {R C r c : Int} : inD R C r c = true ↔ 0 ≤ r ∧ r < R ∧ 0 ≤ c ∧ c < C := by simp [inD]
theorem inD_not {R C r c : Int} : inD R C r c = false ↔ ¬ (0 ≤ r ∧ r < R ∧ 0 ≤ c ∧ c < C) := by rw [← inD_iff]; simp
def lcThR : ACon Unit := mkLC (decP (shCons (shP 0) (shCons shI (shOne shI))) (shRefF 0)) fun ((_, r, c), ((R, C, ep), ⟨xs, n, ep2⟩)) => .ask (ep = ep2) (.one (.v (.bool (inD R C r c))) (refF 0 R C xs n ep) [])
set_option maxHeartbeats 4000000 in
theorem ok_thR : ∀ I : Sym.Inv Unit, LCOk I Try.prog 40 lcThR := by
  refine lc_mk (fun _ => allCfg Try.prog [] tabD 3) (fun _ _ => allCfg_ok mixed trivial tabD_ok) (fun _ => rfl) (n := 80) Try.func40 ?_
  intro ⟨⟨_, r, c⟩, ⟨R, C, ep⟩, ⟨xs, n, ep2⟩⟩ hφ
  obtain ⟨rfl, hp⟩ := id hφ
  refine kcast (B := (br (decide (r ≥ (0 : Int))) (br (decide (r < R)) (br (decide (c ≥ (0 : Int))) ((SV.v (Value.bool (decide (c < C))) = SV.v (Value.bool (inD R C r c)) ∧ True) ∧ (SV.v (Value.int IntKind.i64 R) = SV.v (Value.int IntKind.i64 R) ∧ SV.v (Value.int IntKind.i64 C) = SV.v (Value.int IntKind.i64 C) ∧ SV.h (1 : Nat) [ep, (0 : Nat)] = SV.h (1 : Nat) [ep, (0 : Nat)] ∧ True) ∧ (n = n ∧ ep = ep ∧ xs = xs) ∧ True) ((SV.v (Value.bool false) = SV.v (Value.bool (inD R C r c)) ∧ True) ∧ (SV.v (Value.int IntKind.i64 R) = SV.v (Value.int IntKind.i64 R) ∧ SV.v (Value.int IntKind.i64 C) = SV.v (Value.int IntKind.i64 C) ∧ SV.h (1 : Nat) [ep, (0 : Nat)] = SV.h (1 : Nat) [ep, (0 : Nat)] ∧ True) ∧ (n = n ∧ ep = ep ∧ xs = xs) ∧ True)) ((SV.v (Value.bool false) = SV.v (Value.bool (inD R C r c)) ∧ True) ∧ (SV.v (Value.int IntKind.i64 R) = SV.v (Value.int IntKind.i64 R) ∧ SV.v (Value.int IntKind.i64 C) = SV.v (Value.int IntKind.i64 C) ∧ SV.h (1 : Nat) [ep, (0 : Nat)] = SV.h (1 : Nat) [ep, (0 : Nat)] ∧ True) ∧ (n = n ∧ ep = ep ∧ xs = xs) ∧ True)) ((SV.v (Value.bool false) = SV.v (Value.bool (inD R C r c)) ∧ True) ∧ (SV.v (Value.int IntKind.i64 R) = SV.v (Value.int IntKind.i64 R) ∧ SV.v (Value.int IntKind.i64 C) = SV.v (Value.int IntKind.i64 C) ∧ SV.h (1 : Nat) [ep, (0 : Nat)] = SV.h (1 : Nat) [ep, (0 : Nat)] ∧ True) ∧ (n = n ∧ ep = ep ∧ xs = xs) ∧ True))) (by kernel_rfl) ?_
  clear hp hφ
  by_cases h1 : 0 ≤ r <;> by_cases h2 : r < R <;> by_cases h3 : 0 ≤ c <;> by_cases h4 : c < C <;> simp [br_iff, rq_iff, nbeq, inD, h1, h2, h3, h4]
def lcGet : ACon Unit := mkLC (decP (shCons (shP 0) (shCons shI (shOne shI))) (shRefF 0))
  fun ((_, i, k), ((R, C, ep), ⟨xs, n, ep2⟩)) => .ask (ep = ep2 ∧ FW R C xs n ∧ inD R C i k = true)
  (.one (.v (.int .i64 (xs.getD (i * C + k).toNat 0))) (refF 0 R C xs n ep) [])
set_option maxHeartbeats 4000000 in
theorem ok_get : ∀ I : Sym.Inv Unit, LCOk I Try.prog 34 lcGet := by
  refine lc_mk (fun _ => allCfg Try.prog [] tabD 3) (fun _ _ => allCfg_ok mixed trivial tabD_ok) (fun _ => rfl) (n := 80) Try.func34 ?_
  intro ⟨⟨_, i, k⟩, ⟨R, C, ep⟩, ⟨xs, n, ep2⟩⟩ hφ
  obtain ⟨⟨rfl, hw, hi⟩, hp⟩ := id hφ
  refine kcast (B := (rq (ep.beq ep && (true && decide ((0 : Int) ≤ IntKind.i64.wrap (IntKind.i64.wrap (i * C) + k) ∧ IntKind.i64.wrap (IntKind.i64.wrap (i * C) + k) < (↑n : Int)))) (rq (ep.beq ep && (IntKind.i64.wrap (IntKind.i64.wrap (i * C) + k)).toNat.blt xs.length) ((SV.v (Value.int IntKind.i64 (xs.getD (IntKind.i64.wrap (IntKind.i64.wrap (i * C) + k)).toNat (0 : Int))) = SV.v (Value.int IntKind.i64 (xs.getD (i * C + k).toNat (0 : Int))) ∧ True) ∧ (SV.v (Value.int IntKind.i64 R) = SV.v (Value.int IntKind.i64 R) ∧ SV.v (Value.int IntKind.i64 C) = SV.v (Value.int IntKind.i64 C) ∧ SV.h (1 : Nat) [ep, (0 : Nat)] = SV.h (1 : Nat) [ep, (0 : Nat)] ∧ True) ∧ (n = n ∧ ep = ep ∧ xs = xs) ∧ True)))) (by kernel_rfl) ?_
  clear hp hφ
  have hi := inD_iff.1 hi
  have h1 := hw.r0
  have h2 := hw.r1
  have h3 := hw.c0
  have h4 := hw.c1
  have h5 := hw.sz
  have hlen := hw.len
  obtain ⟨m1, m2⟩ := mul_bd (r := i) (C := C) (by omega) (by omega) (by omega) (by omega)
  have m3 := ix_bd (R := R) (C := C) hi.2.1 hi.2.2.2 hi.2.2.1
  rw [wrap64 (x := i * C) (by omega) (by omega), wrap64 (x := i * C + k) (by omega) (by omega)]
  simp only [rq_iff, nbeq, Bool.true_and, Bool.and_true, Bool.and_eq_true, Nat.blt_eq, decide_eq_true_eq, true_and, and_true]
  omega
def rsE (R C r c : Int) : Int := if inD R C r c = true then 0 else 11
def rsL (R C : Int) (xs : List Int) (r c x : Int) : List Int := if inD R C r c = true then xs.set (r * C + c).toNat x else xs
def lcRSet : ACon Unit := mkLC (decP (shCons (shP 0) (shCons shI (shCons shI (shOne shI)))) (shRefF 0))
  fun ((_, i, k, x), ((R, C, ep), ⟨xs, n, ep2⟩)) => .ask (ep = ep2 ∧ FW R C xs n) (.one (.v (.int .i64 (rsE R C i k))) (refF 0 R C (rsL R C xs i k x) n ep) [1])
set_option maxHeartbeats 4000000 in
theorem ok_rset : ∀ I : Sym.Inv Unit, LCOk I Try.prog 35 lcRSet := by
  refine lc_mk (fun _ => allCfg Try.prog [] [(40, lcThR)] 3) (fun _ _ => allCfg_ok mixed trivial ⟨ok_thR, trivial⟩) (fun _ => rfl) (n := 80) Try.func35 ?_
  intro ⟨⟨_, i, k, x⟩, ⟨R, C, ep⟩, ⟨xs, n, ep2⟩⟩ hφ
  obtain ⟨⟨rfl, hw⟩, hp⟩ := id hφ
  refine kcast (B := (true = true ∧ ep = ep ∧ br (!inD R C i k) ((SV.v (Value.int IntKind.i64 (11 : Int)) = SV.v (Value.int IntKind.i64 (rsE R C i k)) ∧ True) ∧ (SV.v (Value.int IntKind.i64 R) = SV.v (Value.int IntKind.i64 R) ∧ SV.v (Value.int IntKind.i64 C) = SV.v (Value.int IntKind.i64 C) ∧ SV.h (1 : Nat) [ep, (0 : Nat)] = SV.h (1 : Nat) [ep, (0 : Nat)] ∧ True) ∧ (n = n ∧ ep = ep ∧ xs = rsL R C xs i k x) ∧ True) (rq (ep.beq ep && (true && decide ((0 : Int) ≤ IntKind.i64.wrap (IntKind.i64.wrap (i * C) + k) ∧ IntKind.i64.wrap (IntKind.i64.wrap (i * C) + k) < (↑n : Int)))) (rq (ep.beq ep && (IntKind.i64.wrap (IntKind.i64.wrap (i * C) + k)).toNat.blt xs.length) ((SV.v (Value.int IntKind.i64 (0 : Int)) = SV.v (Value.int IntKind.i64 (rsE R C i k)) ∧ True) ∧ (SV.v (Value.int IntKind.i64 R) = SV.v (Value.int IntKind.i64 R) ∧ SV.v (Value.int IntKind.i64 C) = SV.v (Value.int IntKind.i64 C) ∧ SV.h (1 : Nat) [ep, (0 : Nat)] = SV.h (1 : Nat) [ep, (0 : Nat)] ∧ True) ∧ (n = n ∧ ep = ep ∧ xs.set (IntKind.i64.wrap (IntKind.i64.wrap (i * C) + k)).toNat x = rsL R C xs i k x) ∧ True))))) (by kernel_rfl) ?_
  clear hp hφ
  have h1 := hw.r0
  have h2 := hw.r1
  have h3 := hw.c0
  have h4 := hw.c1
  have h5 := hw.sz
  have hlen := hw.len
  cases hi : inD R C i k
  · simp [br_iff, rsE, rsL, hi]
  have hi' := inD_iff.1 hi
  obtain ⟨m1, m2⟩ := mul_bd (r := i) (C := C) (by omega) (by omega) (by omega) (by omega)
  have m3 := ix_bd (R := R) (C := C) hi'.2.1 hi'.2.2.2 hi'.2.2.1
  rw [wrap64 (x := i * C) (by omega) (by omega), wrap64 (x := i * C + k) (by omega) (by omega), rsE, rsL, if_pos hi, if_pos hi]
  simp only [II, br_iff, rq_iff, nbeq, Bool.not_true, Bool.true_eq_false, Bool.false_eq_true, false_implies, true_implies, Bool.true_and, Bool.and_true, Bool.and_eq_true, Nat.blt_eq, decide_eq_true_eq, true_and, and_true]
  omega
def tabK : List (Nat × ACon Unit) := (40, lcThR) :: (34, lcGet) :: (35, lcRSet) :: (10, lcRMay) :: tabD
theorem tabK_ok : LCs Try.prog tabK := ⟨ok_thR, ok_get, ok_rset, ok_rmay, tabD_ok⟩
/-! ### A grid is made -/
def annNw (R C x : Int) : Ann Unit where
  α := Int
  φ _ i := 0 ≤ i ∧ i ≤ R * C
  μ _ i := (R * C - i).toNat
  get st := getI st.tm 8
  f st i := tmpl [0, 1, 2, 7] [(8, .v (.int .i64 i))] [(0, .cells [.v (.int .i64 R), .v (.int .i64 C), .h 1 [i.toNat, 0]] 67), (1, .own (.ints .i64 (List.replicate i.toNat x)) i.toNat 3 1 i.toNat false)] st
  fx st := match nilAt (getC st.H 0) 2 with
    | true => [.nilCell 0 2 (.ints .i64 []) 3 1]
    | false => []
def lcRNew : ACon Unit := mkLC (decP (shCons shI (shCons shI (shOne shI))) shHNil) fun ((R, C, x), _) => .ask (mayB R C = true)
  (.one (.p 0 0) [.cells [.v (.int .i64 R), .v (.int .i64 C), .h 1 [(R * C).toNat, 0]] 67, .own (.ints .i64 (List.replicate (R * C).toNat x)) (R * C).toNat 3 1 (R * C).toNat false] [])
set_option maxHeartbeats 4000000 in
theorem ok_rnew : ∀ I : Sym.Inv Unit, LCOk I Try.prog 15 lcRNew := by
  refine lc_mk (fun ((R, C, x), _) => allCfg Try.prog [] [] 3 [(261, annNw R C x)]) (fun _ _ => allCfg_ok mixed trivial trivial) (fun _ => rfl) (n := 80) Try.func15 ?_
  intro ⟨⟨R, C, x⟩, _⟩ hφ
  obtain ⟨hm, hp⟩ := id hφ
  refine kcast (B := ((II (0 : Int) ≤ (0 : Int) ∧ (0 : Int) ≤ R * C) ∧ ((SV.v (Value.int IntKind.i64 R) = SV.v (Value.int IntKind.i64 R) ∧ SV.v (Value.int IntKind.i64 C) = SV.v (Value.int IntKind.i64 C) ∧ SV.v (Value.int IntKind.i64 x) = SV.v (Value.int IntKind.i64 x) ∧ SV.p (0 : Nat) (0 : Nat) = SV.p (0 : Nat) (0 : Nat) ∧ SV.v (Value.int IntKind.i64 (0 : Int)) = SV.v (Value.int IntKind.i64 (0 : Int)) ∧ True) ∧ (SV.v (Value.int IntKind.i64 R) = SV.v (Value.int IntKind.i64 R) ∧ SV.v (Value.int IntKind.i64 C) = SV.v (Value.int IntKind.i64 C) ∧ SV.h (1 : Nat) [(0 : Nat), (0 : Nat)] = SV.h (1 : Nat) [(0 : Nat), (0 : Nat)] ∧ True) ∧ ((0 : Nat) = (0 : Nat) ∧ (0 : Nat) = (0 : Nat) ∧ LI [] = List.replicate (0 : Nat) x) ∧ True) ∧ ∀ (x_1 : Int), (0 : Int) ≤ x_1 ∧ x_1 ≤ R * C → br (decide (x_1 < IntKind.i64.wrap (R * C))) (rq (x_1.toNat.beq x_1.toNat && (true && decide (x_1.toNat + (1 : Nat) ≤ (9223372036854775807 : Nat) ∧ (x_1.toNat + (1 : Nat)) * (8 : Nat) ≤ (140737488355328 : Nat)))) (((0 : Int) ≤ IntKind.i64.wrap (x_1 + (1 : Int)) ∧ IntKind.i64.wrap (x_1 + (1 : Int)) ≤ R * C) ∧ ((SV.v (Value.int IntKind.i64 R) = SV.v (Value.int IntKind.i64 R) ∧ SV.v (Value.int IntKind.i64 C) = SV.v (Value.int IntKind.i64 C) ∧ SV.v (Value.int IntKind.i64 x) = SV.v (Value.int IntKind.i64 x) ∧ SV.p (0 : Nat) (0 : Nat) = SV.p (0 : Nat) (0 : Nat) ∧ SV.v (Value.int IntKind.i64 (IntKind.i64.wrap (x_1 + (1 : Int)))) = SV.v (Value.int IntKind.i64 (IntKind.i64.wrap (x_1 + (1 : Int)))) ∧ True) ∧ (SV.v (Value.int IntKind.i64 R) = SV.v (Value.int IntKind.i64 R) ∧ SV.v (Value.int IntKind.i64 C) = SV.v (Value.int IntKind.i64 C) ∧ SV.h (1 : Nat) [x_1.toNat + (1 : Nat), (0 : Nat)] = SV.h (1 : Nat) [(IntKind.i64.wrap (x_1 + (1 : Int))).toNat, (0 : Nat)] ∧ True) ∧ (x_1.toNat + (1 : Nat) = (IntKind.i64.wrap (x_1 + (1 : Int))).toNat ∧ x_1.toNat + (1 : Nat) = (IntKind.i64.wrap (x_1 + (1 : Int))).toNat ∧ List.replicate x_1.toNat x ++ intsOf (List.take (1 : Nat) (List.drop (0 : Nat) (setAll (List.map (fun i => SV.v (Value.int IntKind.i64 (0 : Int)).cells[i % (1 : Nat)]!) (List.range (1 : Nat))) (0 : Nat) [SV.v (Value.int IntKind.i64 x)]))) = List.replicate (IntKind.i64.wrap (x_1 + (1 : Int))).toNat x) ∧ True) ∧ (R * C - IntKind.i64.wrap (x_1 + (1 : Int))).toNat < (R * C - x_1).toNat)) ((SV.p (0 : Nat) (0 : Nat) = SV.p (0 : Nat) (0 : Nat) ∧ True) ∧ (SV.v (Value.int IntKind.i64 R) = SV.v (Value.int IntKind.i64 R) ∧ SV.v (Value.int IntKind.i64 C) = SV.v (Value.int IntKind.i64 C) ∧ SV.h (1 : Nat) [x_1.toNat, (0 : Nat)] = SV.h (1 : Nat) [(R * C).toNat, (0 : Nat)] ∧ True) ∧ (x_1.toNat = (R * C).toNat ∧ x_1.toNat = (R * C).toNat ∧ List.replicate x_1.toNat x = List.replicate (R * C).toNat x) ∧ True))) (by kernel_rfl) ?_
  clear hp hφ
  rw [mayB_iff] at hm
  obtain ⟨m1, m2⟩ := mul_bd (r := R) (C := C) (by omega) (by omega) (by omega) (by omega)
  rw [wrap64 (x := R * C) (by omega) (by omega)]
  simp only [LI, II, br_iff, rq_iff, nbeq, Bool.true_and, Bool.and_true, Bool.and_eq_true, Nat.ble_eq, Nat.blt_eq, decide_eq_true_eq, decide_eq_false_iff_not, true_and, and_true, List.length_replicate]
  refine ⟨⟨Int.le_refl _, m1⟩, rfl, fun i ⟨i0, i1⟩ => ⟨fun h => ?_, fun h => ?_⟩⟩
  · rw [wrap64 (x := i + 1) (by omega) (by omega), show (i + 1).toNat = i.toNat + 1 by omega]
    refine ⟨by omega, by omega, ⟨rfl, rfl, rfl, ?_⟩, by omega⟩
    rw [List.replicate_succ']; rfl
  · obtain rfl : i = R * C := by omega
    exact ⟨rfl, rfl, rfl, rfl⟩
/-! ### A copy -/
def refC (R C : Int) (xs : List Int) (n : Nat) : List (SB Unit) := [.gone, .gone, .gone, .gone, .gone, .gone, .gone, .gone, .gone, .cells [.v (.int .i64 R), .v (.int .i64 C), .h 13 [0, 0]] 67, .gone, .own (.ints .i64 xs) n 3 1 0 false]
def lcRCopy : ACon Unit := mkLC (decP (shOne (shP 0)) (shRefF 0)) fun (_, ((R, C, ep), ⟨xs, n, ep2⟩)) => .ask (ep = ep2 ∧ FW R C xs n) (.one (.p 11 0) (refF 0 R C xs n ep ++ refC R C xs n) [])
set_option maxHeartbeats 4000000 in
theorem ok_rcopy : ∀ I : Sym.Inv Unit, LCOk I Try.prog 31 lcRCopy := by
  refine lc_mk (fun _ => allCfg Try.prog [] tabK 3) (fun _ _ => allCfg_ok mixed trivial tabK_ok) (fun _ => rfl) (n := 80) Try.func31 ?_
  intro ⟨_, ⟨R, C, ep⟩, ⟨xs, n, ep2⟩⟩ hφ
  obtain ⟨⟨rfl, hw⟩, hp⟩ := id hφ
  refine kcast (B := (rq (true && (ep.beq ep && true && decide ((0 : Nat) + n ≤ (9223372036854775807 : Nat) ∧ ((0 : Nat) + n) * (8 : Nat) ≤ (140737488355328 : Nat)))) ((SV.p (11 : Nat) (0 : Nat) = SV.p (11 : Nat) (0 : Nat) ∧ True) ∧ (SV.v (Value.int IntKind.i64 R) = SV.v (Value.int IntKind.i64 R) ∧ SV.v (Value.int IntKind.i64 C) = SV.v (Value.int IntKind.i64 C) ∧ SV.h (1 : Nat) [ep, (0 : Nat)] = SV.h (1 : Nat) [ep, (0 : Nat)] ∧ True) ∧ (n = n ∧ ep = ep ∧ xs = xs) ∧ True ∧ True ∧ True ∧ True ∧ True ∧ True ∧ True ∧ True ∧ True ∧ (SV.v (Value.int IntKind.i64 R) = SV.v (Value.int IntKind.i64 R) ∧ SV.v (Value.int IntKind.i64 C) = SV.v (Value.int IntKind.i64 C) ∧ SV.h (13 : Nat) [(0 : Nat), (0 : Nat)] = SV.h (13 : Nat) [(0 : Nat), (0 : Nat)] ∧ True) ∧ True ∧ ((0 : Nat) + n = n ∧ (0 : Nat) = (0 : Nat) ∧ LI [] ++ xs = xs) ∧ True))) (by kernel_rfl) ?_
  have h1 := hw.r0
  have h2 := hw.r1
  have h3 := hw.c0
  have h4 := hw.c1
  have h5 := hw.sz
  obtain ⟨m1, m2⟩ := mul_bd (r := R) (C := C) (by omega) (by omega) (by omega) (by omega)
  simp only [rq_iff, nbeq, Bool.true_and, Bool.and_true, decide_eq_true_eq, true_and, and_true]
  exact ⟨by omega, by omega, rfl⟩
/-! ### A part is filled -/
def rfE (R C ar ac br bc : Int) : Int := if (inD R C ar ac && inD R C br bc) = true then (if br * C + bc < ar * C + ac then 1 else 0) else 11
def rfL (R C : Int) (xs : List Int) (ar ac br bc x : Int) : List Int := if (inD R C ar ac && inD R C br bc) = true then (if br * C + bc < ar * C + ac then xs else fillR xs (ar * C + ac).toNat ((br * C + bc).toNat + 1 - (ar * C + ac).toNat) x) else xs
def annRf (C : Int) (xs : List Int) (n ep : Nat) (ar ac br bc x : Int) : Ann Unit where
  α := Int
  φ _ i := ar * C + ac ≤ i ∧ i ≤ br * C + bc + 1
  μ _ i := (br * C + bc + 1 - i).toNat
  get st := getI st.tm 11
  f st i := tmpl [0, 3, 9, 10] [(11, .v (.int .i64 i))] [(1, .own (.ints .i64 (fillR xs (ar * C + ac).toNat (i.toNat - (ar * C + ac).toNat) x)) n 3 1 ep false)] st
def lcRFill : ACon Unit := mkLC (decP (shCons (shP 0) (shCons shI2 (shCons shI2 (shOne shI)))) (shRefF 0))
  fun ((_, (ar, ac), (br, bc), x), ((R, C, ep), ⟨xs, n, ep2⟩)) => .ask (ep = ep2 ∧ FW R C xs n) (.one (.v (.int .i64 (rfE R C ar ac br bc))) (refF 0 R C (rfL R C xs ar ac br bc x) n ep) [1])
set_option maxHeartbeats 4000000 in
theorem ok_rfill : ∀ I : Sym.Inv Unit, LCOk I Try.prog 36 lcRFill := by
  refine lc_mk (fun ((_, (ar, ac), (br, bc), x), ((R, C, ep), ⟨xs, n, ep2⟩)) => allCfg Try.prog [] tabK 3 [(579, annRf C xs n ep ar ac br bc x)]) (fun _ _ => allCfg_ok mixed trivial tabK_ok) (fun _ => rfl) (n := 80) Try.func36 ?_
  intro ⟨⟨_, ⟨ar, ac⟩, ⟨br, bc⟩, x⟩, ⟨R, C, ep⟩, ⟨xs, n, ep2⟩⟩ hφ
  obtain ⟨⟨rfl, hw⟩, hp⟩ := id hφ
  refine kcast (B := (true = true ∧ ep = ep ∧ Sym.br (!inD R C ar ac) ((SV.v (Value.int IntKind.i64 (11 : Int)) = SV.v (Value.int IntKind.i64 (rfE R C ar ac br bc)) ∧ True) ∧ (SV.v (Value.int IntKind.i64 R) = SV.v (Value.int IntKind.i64 R) ∧ SV.v (Value.int IntKind.i64 C) = SV.v (Value.int IntKind.i64 C) ∧ SV.h (1 : Nat) [ep, (0 : Nat)] = SV.h (1 : Nat) [ep, (0 : Nat)] ∧ True) ∧ (n = n ∧ ep = ep ∧ xs = rfL R C xs ar ac br bc x) ∧ True) (true = true ∧ ep = ep ∧ Sym.br (!inD R C br bc) ((SV.v (Value.int IntKind.i64 (11 : Int)) = SV.v (Value.int IntKind.i64 (rfE R C ar ac br bc)) ∧ True) ∧ (SV.v (Value.int IntKind.i64 R) = SV.v (Value.int IntKind.i64 R) ∧ SV.v (Value.int IntKind.i64 C) = SV.v (Value.int IntKind.i64 C) ∧ SV.h (1 : Nat) [ep, (0 : Nat)] = SV.h (1 : Nat) [ep, (0 : Nat)] ∧ True) ∧ (n = n ∧ ep = ep ∧ xs = rfL R C xs ar ac br bc x) ∧ True) (Sym.br (decide (IntKind.i64.wrap (IntKind.i64.wrap (br * C) + bc) < IntKind.i64.wrap (IntKind.i64.wrap (ar * C) + ac))) ((SV.v (Value.int IntKind.i64 (1 : Int)) = SV.v (Value.int IntKind.i64 (rfE R C ar ac br bc)) ∧ True) ∧ (SV.v (Value.int IntKind.i64 R) = SV.v (Value.int IntKind.i64 R) ∧ SV.v (Value.int IntKind.i64 C) = SV.v (Value.int IntKind.i64 C) ∧ SV.h (1 : Nat) [ep, (0 : Nat)] = SV.h (1 : Nat) [ep, (0 : Nat)] ∧ True) ∧ (n = n ∧ ep = ep ∧ xs = rfL R C xs ar ac br bc x) ∧ True) ((ar * C + ac ≤ IntKind.i64.wrap (IntKind.i64.wrap (ar * C) + ac) ∧ IntKind.i64.wrap (IntKind.i64.wrap (ar * C) + ac) ≤ br * C + bc + (1 : Int)) ∧ ((SV.p (0 : Nat) (0 : Nat) = SV.p (0 : Nat) (0 : Nat) ∧ SV.v (Value.int IntKind.i64 x) = SV.v (Value.int IntKind.i64 x) ∧ SV.v (Value.int IntKind.i64 (IntKind.i64.wrap (IntKind.i64.wrap (ar * C) + ac))) = SV.v (Value.int IntKind.i64 (IntKind.i64.wrap (IntKind.i64.wrap (ar * C) + ac))) ∧ SV.v (Value.int IntKind.i64 (IntKind.i64.wrap (IntKind.i64.wrap (br * C) + bc))) = SV.v (Value.int IntKind.i64 (IntKind.i64.wrap (IntKind.i64.wrap (br * C) + bc))) ∧ SV.v (Value.int IntKind.i64 (IntKind.i64.wrap (IntKind.i64.wrap (ar * C) + ac))) = SV.v (Value.int IntKind.i64 (IntKind.i64.wrap (IntKind.i64.wrap (ar * C) + ac))) ∧ True) ∧ (SV.v (Value.int IntKind.i64 R) = SV.v (Value.int IntKind.i64 R) ∧ SV.v (Value.int IntKind.i64 C) = SV.v (Value.int IntKind.i64 C) ∧ SV.h (1 : Nat) [ep, (0 : Nat)] = SV.h (1 : Nat) [ep, (0 : Nat)] ∧ True) ∧ (n = n ∧ ep = ep ∧ xs = fillR xs (ar * C + ac).toNat ((IntKind.i64.wrap (IntKind.i64.wrap (ar * C) + ac)).toNat - (ar * C + ac).toNat) x) ∧ (SV.v (Value.int IntKind.i64 ar) = SV.v (Value.int IntKind.i64 ar) ∧ SV.v (Value.int IntKind.i64 ac) = SV.v (Value.int IntKind.i64 ac) ∧ True) ∧ (SV.v (Value.int IntKind.i64 br) = SV.v (Value.int IntKind.i64 br) ∧ SV.v (Value.int IntKind.i64 bc) = SV.v (Value.int IntKind.i64 bc) ∧ True) ∧ True) ∧ ∀ (x_1 : Int), ar * C + ac ≤ x_1 ∧ x_1 ≤ br * C + bc + (1 : Int) → Sym.br (decide (x_1 ≤ IntKind.i64.wrap (IntKind.i64.wrap (br * C) + bc))) (rq (ep.beq ep && (Nat.beq (1 : Nat) (1 : Nat) && decide ((0 : Int) ≤ x_1 ∧ x_1 < (↑n : Int)))) (rq (ep.beq ep && x_1.toNat.blt (fillR xs (ar * C + ac).toNat (x_1.toNat - (ar * C + ac).toNat) x).length) ((ar * C + ac ≤ IntKind.i64.wrap (x_1 + (1 : Int)) ∧ IntKind.i64.wrap (x_1 + (1 : Int)) ≤ br * C + bc + (1 : Int)) ∧ ((SV.p (0 : Nat) (0 : Nat) = SV.p (0 : Nat) (0 : Nat) ∧ SV.v (Value.int IntKind.i64 x) = SV.v (Value.int IntKind.i64 x) ∧ SV.v (Value.int IntKind.i64 (IntKind.i64.wrap (IntKind.i64.wrap (ar * C) + ac))) = SV.v (Value.int IntKind.i64 (IntKind.i64.wrap (IntKind.i64.wrap (ar * C) + ac))) ∧ SV.v (Value.int IntKind.i64 (IntKind.i64.wrap (IntKind.i64.wrap (br * C) + bc))) = SV.v (Value.int IntKind.i64 (IntKind.i64.wrap (IntKind.i64.wrap (br * C) + bc))) ∧ SV.v (Value.int IntKind.i64 (IntKind.i64.wrap (x_1 + (1 : Int)))) = SV.v (Value.int IntKind.i64 (IntKind.i64.wrap (x_1 + (1 : Int)))) ∧ True) ∧ (SV.v (Value.int IntKind.i64 R) = SV.v (Value.int IntKind.i64 R) ∧ SV.v (Value.int IntKind.i64 C) = SV.v (Value.int IntKind.i64 C) ∧ SV.h (1 : Nat) [ep, (0 : Nat)] = SV.h (1 : Nat) [ep, (0 : Nat)] ∧ True) ∧ (n = n ∧ ep = ep ∧ (fillR xs (ar * C + ac).toNat (x_1.toNat - (ar * C + ac).toNat) x).set x_1.toNat x = fillR xs (ar * C + ac).toNat ((IntKind.i64.wrap (x_1 + (1 : Int))).toNat - (ar * C + ac).toNat) x) ∧ (SV.v (Value.int IntKind.i64 ar) = SV.v (Value.int IntKind.i64 ar) ∧ SV.v (Value.int IntKind.i64 ac) = SV.v (Value.int IntKind.i64 ac) ∧ True) ∧ (SV.v (Value.int IntKind.i64 br) = SV.v (Value.int IntKind.i64 br) ∧ SV.v (Value.int IntKind.i64 bc) = SV.v (Value.int IntKind.i64 bc) ∧ True) ∧ True) ∧ (br * C + bc + (1 : Int) - IntKind.i64.wrap (x_1 + (1 : Int))).toNat < (br * C + bc + (1 : Int) - x_1).toNat))) ((SV.v (Value.int IntKind.i64 (0 : Int)) = SV.v (Value.int IntKind.i64 (rfE R C ar ac br bc)) ∧ True) ∧ (SV.v (Value.int IntKind.i64 R) = SV.v (Value.int IntKind.i64 R) ∧ SV.v (Value.int IntKind.i64 C) = SV.v (Value.int IntKind.i64 C) ∧ SV.h (1 : Nat) [ep, (0 : Nat)] = SV.h (1 : Nat) [ep, (0 : Nat)] ∧ True) ∧ (n = n ∧ ep = ep ∧ fillR xs (ar * C + ac).toNat (x_1.toNat - (ar * C + ac).toNat) x = rfL R C xs ar ac br bc x) ∧ True)))))) (by kernel_rfl) ?_
  clear hp hφ
  have h1 := hw.r0
  have h2 := hw.r1
  have h3 := hw.c0
  have h4 := hw.c1
  have h5 := hw.sz
  have hlen := hw.len
  simp only [LI, II, br_iff, rq_iff, nbeq, Bool.true_and, Bool.and_true, Bool.not_eq_true', Bool.not_eq_false', Bool.and_eq_true, Nat.ble_eq, Nat.blt_eq, decide_eq_true_eq, decide_eq_false_iff_not, true_and, and_true, List.length_replicate]
  cases i1 : inD R C ar ac
  · simp [rfE, rfL, i1]
  cases i2 : inD R C br bc
  · simp [rfE, rfL, i1, i2]
  have i1' := inD_iff.1 i1
  have i2' := inD_iff.1 i2
  obtain ⟨m1, m2⟩ := mul_bd (r := ar) (C := C) (by omega) (by omega) (by omega) (by omega)
  obtain ⟨m3, m4⟩ := mul_bd (r := br) (C := C) (by omega) (by omega) (by omega) (by omega)
  have k1 := ix_bd (R := R) (C := C) i1'.2.1 i1'.2.2.2 i1'.2.2.1
  have k2 := ix_bd (R := R) (C := C) i2'.2.1 i2'.2.2.2 i2'.2.2.1
  have hE : rfE R C ar ac br bc = if br * C + bc < ar * C + ac then 1 else 0 := by rw [rfE, i1, i2]; rfl
  have hL : rfL R C xs ar ac br bc x = if br * C + bc < ar * C + ac then xs else fillR xs (ar * C + ac).toNat ((br * C + bc).toNat + 1 - (ar * C + ac).toNat) x := by rw [rfL, i1, i2]; rfl
  rw [wrap64 (x := br * C) (by omega) (by omega), wrap64 (x := ar * C) (by omega) (by omega), wrap64 (x := br * C + bc) (by omega) (by omega), wrap64 (x := ar * C + ac) (by omega) (by omega), hE, hL]
  have f0 : 0 ≤ ar * C + ac := by omega
  have t0 : 0 ≤ br * C + bc := by omega
  have t1 : br * C + bc < n := by omega
  have t2 : (n : Int) ≤ 65025 := by
    have := (mul_bd (r := R) (C := C) (by omega) (by omega) (by omega) (by omega)).2
    omega
  clear k1 k2 hE hL
  generalize ar * C + ac = f at *
  generalize br * C + bc = t at *
  simp only [Bool.true_eq_false, false_implies, true_implies, true_and]
  refine ⟨fun h => by rw [if_pos h, if_pos h]; exact ⟨rfl, rfl⟩, fun h => ⟨by omega, by rw [Nat.sub_self, fillR_zero], fun k ⟨a1, a2⟩ => ⟨fun a3 => ?_, fun a3 => ?_⟩⟩⟩
  · have hl : (fillR xs f.toNat (k.toNat - f.toNat) x).length = n := by rw [fillR_length (by omega), hlen]
    have hs := fillR_succ (r := xs) (a := f.toNat) (k := k.toNat - f.toNat) (x := x) (by omega)
    rw [show f.toNat + (k.toNat - f.toNat) = k.toNat by omega] at hs
    rw [wrap64 (x := k + 1) (by omega) (by omega), hl, hs, show (k + 1).toNat - f.toNat = k.toNat - f.toNat + 1 by omega]
    exact ⟨by omega, by omega, by omega, rfl, by omega⟩
  · rw [if_neg h, if_neg h, show k.toNat - f.toNat = t.toNat + 1 - f.toNat by omega]
    exact ⟨rfl, rfl⟩
/-! ### Where all ways meet -/
/-- A bool is made, of which something is known. -/
def annJb (t : Nat) (keep : List Nat) (φ : St Unit → Bool → Prop) : Ann Unit where
  α := Bool
  φ := φ
  μ _ _ := 0
  get st := getB st.tm t
  f st b := tmpl keep [(t, .v (.bool b))] [] st
/-- A bool is made, which is known. -/
def annJk (t : Nat) (keep : List Nat) (b : Bool) : Ann Unit where
  α := Nat
  φ _ _ := True
  μ _ _ := 0
  get _ := some 0
  f st _ := tmpl keep [(t, .v (.bool b))] [] st
def annJ0 (keep : List Nat) : Ann Unit where
  α := Nat
  φ _ _ := True
  μ _ _ := 0
  get _ := some 0
  f st _ := tmpl keep [] [] st
/-- A number is made, of which something is known. -/
def annJi (t : Nat) (keep : List Nat) (φ : St Unit → Int → Prop) : Ann Unit where
  α := Int
  φ := φ
  μ _ _ := 0
  get st := getI st.tm t
  f st b := tmpl keep [(t, .v (.int .i64 b))] [] st
/-! ### Fill, of the program -/
def fiE (l : List (List Int)) (ar ac br bc : Int) : Int := if (inB l ar ac && inB l br bc) = true then (if (br < ar ∨ (br = ar ∧ bc < ac)) then 1 else 0) else 11
def fiL (l : List (List Int)) (ar ac br bc x : Int) : List (List Int) := if (inB l ar ac && inB l br bc) = true then (if (br < ar ∨ (br = ar ∧ bc < ac)) then l else fillG l ar ac br bc x) else l
def annFl (l : List (List Int)) (ar ac br bc x : Int) (oe ep : Nat) : Ann Unit where
  α := Int
  φ _ k := ar ≤ k ∧ k ≤ br + 1
  μ _ k := (br + 1 - k).toNat
  get st := getI st.tm 10
  f st k := tmpl [0, 3, 5, 6] [(10, .v (.int .i64 k))] [(1, .rows (.i .i64 (filA l ar ac br bc x k.toNat)) 3 63 oe ep none)] st
def lcFill1 : ACon Unit := mkLC (decP (shCons (shP 0) (shCons shI2 (shCons shI2 (shOne shI)))) shG) fun ((_, (ar, ac), (br, bc), x), (oe, ⟨l, oe2, ep⟩)) => .ask (oe = oe2 ∧ GW l) (.one (.v (.int .i64 (fiE l ar ac br bc))) (gbi 0 oe ep (fiL l ar ac br bc x)) [1])
set_option maxHeartbeats 4000000 in
theorem ok_fill1 : ∀ I : Sym.Inv Unit, LCOk I Try.prog 21 lcFill1 := by
  refine lc_mk (fun ((_, (ar, ac), (br, bc), x), (oe, ⟨l, oe2, ep⟩)) => allCfg Try.prog [] tabH 3 [(516, annFl l ar ac br bc x oe ep)] [(339, annJb 39 [0, 3, 5, 6] fun _ b => b = (decide (br < ar) || (decide (br = ar) && decide (bc < ac)))), (1000708, annJi 11 [0, 3, 5, 6, 10, 12] fun st v => v = if tI st.tm 10 = ar then ac else 0), (1000836, annJi 12 [0, 3, 5, 6, 10, 11] fun st v => v = if tI st.tm 10 = br then bc + 1 else nC l)]) (fun _ _ => allCfg_ok mixed trivial tabH_ok) (fun _ => rfl) (n := 80) Try.func21 ?_
  intro ⟨⟨_, ⟨ar, ac⟩, ⟨br, bc⟩, x⟩, ⟨oe, ⟨l, oe2, ep⟩⟩⟩ hφ
  obtain ⟨⟨rfl, hg⟩, hp⟩ := id hφ
  refine kcast (B := (true = true ∧ (oe = oe ∧ GW l) ∧ Sym.br (inB l ar ac && inB l br bc) (Sym.br (decide (br < ar)) (true = (decide (br < ar) || decide (br = ar) && decide (bc < ac)) ∧ (SV.p (0 : Nat) (0 : Nat) = SV.p (0 : Nat) (0 : Nat) ∧ SV.v (Value.int IntKind.i64 x) = SV.v (Value.int IntKind.i64 x) ∧ SV.p (2 : Nat) (0 : Nat) = SV.p (2 : Nat) (0 : Nat) ∧ SV.p (3 : Nat) (0 : Nat) = SV.p (3 : Nat) (0 : Nat) ∧ SV.v (Value.bool true) = SV.v (Value.bool true) ∧ True) ∧ (SV.h (1 : Nat) [oe, (0 : Nat)] = SV.h (1 : Nat) [oe, (0 : Nat)] ∧ True) ∧ (oe = oe ∧ ep = ep ∧ l = l) ∧ (SV.v (Value.int IntKind.i64 ar) = SV.v (Value.int IntKind.i64 ar) ∧ SV.v (Value.int IntKind.i64 ac) = SV.v (Value.int IntKind.i64 ac) ∧ True) ∧ (SV.v (Value.int IntKind.i64 br) = SV.v (Value.int IntKind.i64 br) ∧ SV.v (Value.int IntKind.i64 bc) = SV.v (Value.int IntKind.i64 bc) ∧ True) ∧ (SV.v (Value.int IntKind.i64 ar) = SV.v (Value.int IntKind.i64 ar) ∧ SV.v (Value.int IntKind.i64 ac) = SV.v (Value.int IntKind.i64 ac) ∧ SV.v (Value.int IntKind.i64 br) = SV.v (Value.int IntKind.i64 br) ∧ SV.v (Value.int IntKind.i64 bc) = SV.v (Value.int IntKind.i64 bc) ∧ True) ∧ True) (Sym.br (br == ar) (decide (bc < ac) = (decide (br < ar) || decide (br = ar) && decide (bc < ac)) ∧ (SV.p (0 : Nat) (0 : Nat) = SV.p (0 : Nat) (0 : Nat) ∧ SV.v (Value.int IntKind.i64 x) = SV.v (Value.int IntKind.i64 x) ∧ SV.p (2 : Nat) (0 : Nat) = SV.p (2 : Nat) (0 : Nat) ∧ SV.p (3 : Nat) (0 : Nat) = SV.p (3 : Nat) (0 : Nat) ∧ SV.v (Value.bool (decide (bc < ac))) = SV.v (Value.bool (decide (bc < ac))) ∧ True) ∧ (SV.h (1 : Nat) [oe, (0 : Nat)] = SV.h (1 : Nat) [oe, (0 : Nat)] ∧ True) ∧ (oe = oe ∧ ep = ep ∧ l = l) ∧ (SV.v (Value.int IntKind.i64 ar) = SV.v (Value.int IntKind.i64 ar) ∧ SV.v (Value.int IntKind.i64 ac) = SV.v (Value.int IntKind.i64 ac) ∧ True) ∧ (SV.v (Value.int IntKind.i64 br) = SV.v (Value.int IntKind.i64 br) ∧ SV.v (Value.int IntKind.i64 bc) = SV.v (Value.int IntKind.i64 bc) ∧ True) ∧ (SV.v (Value.int IntKind.i64 ar) = SV.v (Value.int IntKind.i64 ar) ∧ SV.v (Value.int IntKind.i64 ac) = SV.v (Value.int IntKind.i64 ac) ∧ SV.v (Value.int IntKind.i64 br) = SV.v (Value.int IntKind.i64 br) ∧ SV.v (Value.int IntKind.i64 bc) = SV.v (Value.int IntKind.i64 bc) ∧ True) ∧ True) (false = (decide (br < ar) || decide (br = ar) && decide (bc < ac)) ∧ (SV.p (0 : Nat) (0 : Nat) = SV.p (0 : Nat) (0 : Nat) ∧ SV.v (Value.int IntKind.i64 x) = SV.v (Value.int IntKind.i64 x) ∧ SV.p (2 : Nat) (0 : Nat) = SV.p (2 : Nat) (0 : Nat) ∧ SV.p (3 : Nat) (0 : Nat) = SV.p (3 : Nat) (0 : Nat) ∧ SV.v (Value.bool false) = SV.v (Value.bool false) ∧ True) ∧ (SV.h (1 : Nat) [oe, (0 : Nat)] = SV.h (1 : Nat) [oe, (0 : Nat)] ∧ True) ∧ (oe = oe ∧ ep = ep ∧ l = l) ∧ (SV.v (Value.int IntKind.i64 ar) = SV.v (Value.int IntKind.i64 ar) ∧ SV.v (Value.int IntKind.i64 ac) = SV.v (Value.int IntKind.i64 ac) ∧ True) ∧ (SV.v (Value.int IntKind.i64 br) = SV.v (Value.int IntKind.i64 br) ∧ SV.v (Value.int IntKind.i64 bc) = SV.v (Value.int IntKind.i64 bc) ∧ True) ∧ (SV.v (Value.int IntKind.i64 ar) = SV.v (Value.int IntKind.i64 ar) ∧ SV.v (Value.int IntKind.i64 ac) = SV.v (Value.int IntKind.i64 ac) ∧ SV.v (Value.int IntKind.i64 br) = SV.v (Value.int IntKind.i64 br) ∧ SV.v (Value.int IntKind.i64 bc) = SV.v (Value.int IntKind.i64 bc) ∧ True) ∧ True)) ∧ ∀ (x_1 : Bool), x_1 = (decide (br < ar) || decide (br = ar) && decide (bc < ac)) → Sym.br x_1 ((SV.v (Value.int IntKind.i64 (1 : Int)) = SV.v (Value.int IntKind.i64 (fiE l ar ac br bc)) ∧ True) ∧ (SV.h (1 : Nat) [oe, (0 : Nat)] = SV.h (1 : Nat) [oe, (0 : Nat)] ∧ True) ∧ (oe = oe ∧ ep = ep ∧ l = fiL l ar ac br bc x) ∧ True) ((ar ≤ ar ∧ ar ≤ br + (1 : Int)) ∧ ((SV.p (0 : Nat) (0 : Nat) = SV.p (0 : Nat) (0 : Nat) ∧ SV.v (Value.int IntKind.i64 x) = SV.v (Value.int IntKind.i64 x) ∧ SV.p (2 : Nat) (0 : Nat) = SV.p (2 : Nat) (0 : Nat) ∧ SV.p (3 : Nat) (0 : Nat) = SV.p (3 : Nat) (0 : Nat) ∧ SV.v (Value.int IntKind.i64 ar) = SV.v (Value.int IntKind.i64 ar) ∧ True) ∧ (SV.h (1 : Nat) [oe, (0 : Nat)] = SV.h (1 : Nat) [oe, (0 : Nat)] ∧ True) ∧ (oe = oe ∧ ep = ep ∧ l = filA l ar ac br bc x ar.toNat) ∧ (SV.v (Value.int IntKind.i64 ar) = SV.v (Value.int IntKind.i64 ar) ∧ SV.v (Value.int IntKind.i64 ac) = SV.v (Value.int IntKind.i64 ac) ∧ True) ∧ (SV.v (Value.int IntKind.i64 br) = SV.v (Value.int IntKind.i64 br) ∧ SV.v (Value.int IntKind.i64 bc) = SV.v (Value.int IntKind.i64 bc) ∧ True) ∧ (SV.v (Value.int IntKind.i64 ar) = SV.v (Value.int IntKind.i64 ar) ∧ SV.v (Value.int IntKind.i64 ac) = SV.v (Value.int IntKind.i64 ac) ∧ SV.v (Value.int IntKind.i64 br) = SV.v (Value.int IntKind.i64 br) ∧ SV.v (Value.int IntKind.i64 bc) = SV.v (Value.int IntKind.i64 bc) ∧ True) ∧ True) ∧ ∀ (x_2 : Int), ar ≤ x_2 ∧ x_2 ≤ br + (1 : Int) → Sym.br (decide (x_2 ≤ br)) (rq (oe.beq oe && (Nat.beq (1 : Nat) (1 : Nat) && decide ((0 : Int) ≤ x_2 ∧ x_2 < (↑(Rws.i IntKind.i64 (filA l ar ac br bc x x_2.toNat)).len : Int)))) (rq (oe.beq oe && x_2.toNat.blt (Rws.i IntKind.i64 (filA l ar ac br bc x x_2.toNat)).len) (rq (ep.beq ep && x_2.toNat.blt (Rws.i IntKind.i64 (filA l ar ac br bc x x_2.toNat)).len) (Sym.br (x_2 == ar) ((ac = if x_2 = ar then ac else (0 : Int)) ∧ (SV.p (0 : Nat) (0 : Nat) = SV.p (0 : Nat) (0 : Nat) ∧ SV.v (Value.int IntKind.i64 x) = SV.v (Value.int IntKind.i64 x) ∧ SV.p (2 : Nat) (0 : Nat) = SV.p (2 : Nat) (0 : Nat) ∧ SV.p (3 : Nat) (0 : Nat) = SV.p (3 : Nat) (0 : Nat) ∧ SV.v (Value.int IntKind.i64 x_2) = SV.v (Value.int IntKind.i64 x_2) ∧ SV.v (Value.int IntKind.i64 ac) = SV.v (Value.int IntKind.i64 ac) ∧ SV.v (Value.int IntKind.i64 (↑((Rws.i IntKind.i64 (filA l ar ac br bc x x_2.toNat)).nAt x_2.toNat) : Int)) = SV.v (Value.int IntKind.i64 (↑((Rws.i IntKind.i64 (filA l ar ac br bc x x_2.toNat)).nAt x_2.toNat) : Int)) ∧ True) ∧ (SV.h (1 : Nat) [oe, (0 : Nat)] = SV.h (1 : Nat) [oe, (0 : Nat)] ∧ True) ∧ (oe = oe ∧ ep = ep ∧ filA l ar ac br bc x x_2.toNat = filA l ar ac br bc x x_2.toNat) ∧ (SV.v (Value.int IntKind.i64 ar) = SV.v (Value.int IntKind.i64 ar) ∧ SV.v (Value.int IntKind.i64 ac) = SV.v (Value.int IntKind.i64 ac) ∧ True) ∧ (SV.v (Value.int IntKind.i64 br) = SV.v (Value.int IntKind.i64 br) ∧ SV.v (Value.int IntKind.i64 bc) = SV.v (Value.int IntKind.i64 bc) ∧ True) ∧ (SV.v (Value.int IntKind.i64 ar) = SV.v (Value.int IntKind.i64 ar) ∧ SV.v (Value.int IntKind.i64 ac) = SV.v (Value.int IntKind.i64 ac) ∧ SV.v (Value.int IntKind.i64 br) = SV.v (Value.int IntKind.i64 br) ∧ SV.v (Value.int IntKind.i64 bc) = SV.v (Value.int IntKind.i64 bc) ∧ True) ∧ True) (((0 : Int) = if x_2 = ar then ac else (0 : Int)) ∧ (SV.p (0 : Nat) (0 : Nat) = SV.p (0 : Nat) (0 : Nat) ∧ SV.v (Value.int IntKind.i64 x) = SV.v (Value.int IntKind.i64 x) ∧ SV.p (2 : Nat) (0 : Nat) = SV.p (2 : Nat) (0 : Nat) ∧ SV.p (3 : Nat) (0 : Nat) = SV.p (3 : Nat) (0 : Nat) ∧ SV.v (Value.int IntKind.i64 x_2) = SV.v (Value.int IntKind.i64 x_2) ∧ SV.v (Value.int IntKind.i64 (0 : Int)) = SV.v (Value.int IntKind.i64 (0 : Int)) ∧ SV.v (Value.int IntKind.i64 (↑((Rws.i IntKind.i64 (filA l ar ac br bc x x_2.toNat)).nAt x_2.toNat) : Int)) = SV.v (Value.int IntKind.i64 (↑((Rws.i IntKind.i64 (filA l ar ac br bc x x_2.toNat)).nAt x_2.toNat) : Int)) ∧ True) ∧ (SV.h (1 : Nat) [oe, (0 : Nat)] = SV.h (1 : Nat) [oe, (0 : Nat)] ∧ True) ∧ (oe = oe ∧ ep = ep ∧ filA l ar ac br bc x x_2.toNat = filA l ar ac br bc x x_2.toNat) ∧ (SV.v (Value.int IntKind.i64 ar) = SV.v (Value.int IntKind.i64 ar) ∧ SV.v (Value.int IntKind.i64 ac) = SV.v (Value.int IntKind.i64 ac) ∧ True) ∧ (SV.v (Value.int IntKind.i64 br) = SV.v (Value.int IntKind.i64 br) ∧ SV.v (Value.int IntKind.i64 bc) = SV.v (Value.int IntKind.i64 bc) ∧ True) ∧ (SV.v (Value.int IntKind.i64 ar) = SV.v (Value.int IntKind.i64 ar) ∧ SV.v (Value.int IntKind.i64 ac) = SV.v (Value.int IntKind.i64 ac) ∧ SV.v (Value.int IntKind.i64 br) = SV.v (Value.int IntKind.i64 br) ∧ SV.v (Value.int IntKind.i64 bc) = SV.v (Value.int IntKind.i64 bc) ∧ True) ∧ True) ∧ ∀ (x_3 : Int), (x_3 = if x_2 = ar then ac else (0 : Int)) → Sym.br (x_2 == br) ((IntKind.i64.wrap (bc + (1 : Int)) = if x_2 = br then bc + (1 : Int) else (↑(nC l) : Int)) ∧ (SV.p (0 : Nat) (0 : Nat) = SV.p (0 : Nat) (0 : Nat) ∧ SV.v (Value.int IntKind.i64 x) = SV.v (Value.int IntKind.i64 x) ∧ SV.p (2 : Nat) (0 : Nat) = SV.p (2 : Nat) (0 : Nat) ∧ SV.p (3 : Nat) (0 : Nat) = SV.p (3 : Nat) (0 : Nat) ∧ SV.v (Value.int IntKind.i64 x_2) = SV.v (Value.int IntKind.i64 x_2) ∧ SV.v (Value.int IntKind.i64 x_3) = SV.v (Value.int IntKind.i64 x_3) ∧ SV.v (Value.int IntKind.i64 (IntKind.i64.wrap (bc + (1 : Int)))) = SV.v (Value.int IntKind.i64 (IntKind.i64.wrap (bc + (1 : Int)))) ∧ True) ∧ (SV.h (1 : Nat) [oe, (0 : Nat)] = SV.h (1 : Nat) [oe, (0 : Nat)] ∧ True) ∧ (oe = oe ∧ ep = ep ∧ filA l ar ac br bc x x_2.toNat = filA l ar ac br bc x x_2.toNat) ∧ (SV.v (Value.int IntKind.i64 ar) = SV.v (Value.int IntKind.i64 ar) ∧ SV.v (Value.int IntKind.i64 ac) = SV.v (Value.int IntKind.i64 ac) ∧ True) ∧ (SV.v (Value.int IntKind.i64 br) = SV.v (Value.int IntKind.i64 br) ∧ SV.v (Value.int IntKind.i64 bc) = SV.v (Value.int IntKind.i64 bc) ∧ True) ∧ (SV.v (Value.int IntKind.i64 ar) = SV.v (Value.int IntKind.i64 ar) ∧ SV.v (Value.int IntKind.i64 ac) = SV.v (Value.int IntKind.i64 ac) ∧ SV.v (Value.int IntKind.i64 br) = SV.v (Value.int IntKind.i64 br) ∧ SV.v (Value.int IntKind.i64 bc) = SV.v (Value.int IntKind.i64 bc) ∧ True) ∧ True) (((↑((Rws.i IntKind.i64 (filA l ar ac br bc x x_2.toNat)).nAt x_2.toNat) : Int) = if x_2 = br then bc + (1 : Int) else (↑(nC l) : Int)) ∧ (SV.p (0 : Nat) (0 : Nat) = SV.p (0 : Nat) (0 : Nat) ∧ SV.v (Value.int IntKind.i64 x) = SV.v (Value.int IntKind.i64 x) ∧ SV.p (2 : Nat) (0 : Nat) = SV.p (2 : Nat) (0 : Nat) ∧ SV.p (3 : Nat) (0 : Nat) = SV.p (3 : Nat) (0 : Nat) ∧ SV.v (Value.int IntKind.i64 x_2) = SV.v (Value.int IntKind.i64 x_2) ∧ SV.v (Value.int IntKind.i64 x_3) = SV.v (Value.int IntKind.i64 x_3) ∧ SV.v (Value.int IntKind.i64 (↑((Rws.i IntKind.i64 (filA l ar ac br bc x x_2.toNat)).nAt x_2.toNat) : Int)) = SV.v (Value.int IntKind.i64 (↑((Rws.i IntKind.i64 (filA l ar ac br bc x x_2.toNat)).nAt x_2.toNat) : Int)) ∧ True) ∧ (SV.h (1 : Nat) [oe, (0 : Nat)] = SV.h (1 : Nat) [oe, (0 : Nat)] ∧ True) ∧ (oe = oe ∧ ep = ep ∧ filA l ar ac br bc x x_2.toNat = filA l ar ac br bc x x_2.toNat) ∧ (SV.v (Value.int IntKind.i64 ar) = SV.v (Value.int IntKind.i64 ar) ∧ SV.v (Value.int IntKind.i64 ac) = SV.v (Value.int IntKind.i64 ac) ∧ True) ∧ (SV.v (Value.int IntKind.i64 br) = SV.v (Value.int IntKind.i64 br) ∧ SV.v (Value.int IntKind.i64 bc) = SV.v (Value.int IntKind.i64 bc) ∧ True) ∧ (SV.v (Value.int IntKind.i64 ar) = SV.v (Value.int IntKind.i64 ar) ∧ SV.v (Value.int IntKind.i64 ac) = SV.v (Value.int IntKind.i64 ac) ∧ SV.v (Value.int IntKind.i64 br) = SV.v (Value.int IntKind.i64 br) ∧ SV.v (Value.int IntKind.i64 bc) = SV.v (Value.int IntKind.i64 bc) ∧ True) ∧ True) ∧ ∀ (x_4 : Int), (x_4 = if x_2 = br then bc + (1 : Int) else (↑(nC l) : Int)) → rq (oe.beq oe && (Nat.beq (1 : Nat) (1 : Nat) && decide ((0 : Int) ≤ x_2 ∧ x_2 < (↑(Rws.i IntKind.i64 (filA l ar ac br bc x x_2.toNat)).len : Int)))) (rq (oe.beq oe && x_2.toNat.blt (Rws.i IntKind.i64 (filA l ar ac br bc x x_2.toNat)).len) (rq (ep.beq ep && x_2.toNat.blt (Rws.i IntKind.i64 (filA l ar ac br bc x x_2.toNat)).len && ((Rws.i IntKind.i64 (filA l ar ac br bc x x_2.toNat)).sz.beq (1 : Nat) && decide ((0 : Int) ≤ x_3 ∧ x_3 ≤ x_4 ∧ x_4 ≤ (↑((Rws.i IntKind.i64 (filA l ar ac br bc x x_2.toNat)).nAt x_2.toNat) : Int)))) (true = true ∧ (ep = ep ∧ x_2.toNat < (filA l ar ac br bc x x_2.toNat).length ∧ x_3.toNat + (x_4.toNat - x_3.toNat) ≤ ((filA l ar ac br bc x x_2.toNat).getD x_2.toNat (LI [])).length ∧ ((filA l ar ac br bc x x_2.toNat).getD x_2.toNat (LI [])).length ≤ (255 : Nat) ∧ (0 : Nat) < x_4.toNat - x_3.toNat) ∧ (ar ≤ IntKind.i64.wrap (x_2 + (1 : Int)) ∧ IntKind.i64.wrap (x_2 + (1 : Int)) ≤ br + (1 : Int)) ∧ ((SV.p (0 : Nat) (0 : Nat) = SV.p (0 : Nat) (0 : Nat) ∧ SV.v (Value.int IntKind.i64 x) = SV.v (Value.int IntKind.i64 x) ∧ SV.p (2 : Nat) (0 : Nat) = SV.p (2 : Nat) (0 : Nat) ∧ SV.p (3 : Nat) (0 : Nat) = SV.p (3 : Nat) (0 : Nat) ∧ SV.v (Value.int IntKind.i64 (IntKind.i64.wrap (x_2 + (1 : Int)))) = SV.v (Value.int IntKind.i64 (IntKind.i64.wrap (x_2 + (1 : Int)))) ∧ True) ∧ (SV.h (1 : Nat) [oe, (0 : Nat)] = SV.h (1 : Nat) [oe, (0 : Nat)] ∧ True) ∧ (oe = oe ∧ ep = ep ∧ (filA l ar ac br bc x x_2.toNat).set x_2.toNat (fillR ((filA l ar ac br bc x x_2.toNat).getD x_2.toNat (LI [])) x_3.toNat (x_4.toNat - x_3.toNat) x) = filA l ar ac br bc x (IntKind.i64.wrap (x_2 + (1 : Int))).toNat) ∧ (SV.v (Value.int IntKind.i64 ar) = SV.v (Value.int IntKind.i64 ar) ∧ SV.v (Value.int IntKind.i64 ac) = SV.v (Value.int IntKind.i64 ac) ∧ True) ∧ (SV.v (Value.int IntKind.i64 br) = SV.v (Value.int IntKind.i64 br) ∧ SV.v (Value.int IntKind.i64 bc) = SV.v (Value.int IntKind.i64 bc) ∧ True) ∧ (SV.v (Value.int IntKind.i64 ar) = SV.v (Value.int IntKind.i64 ar) ∧ SV.v (Value.int IntKind.i64 ac) = SV.v (Value.int IntKind.i64 ac) ∧ SV.v (Value.int IntKind.i64 br) = SV.v (Value.int IntKind.i64 br) ∧ SV.v (Value.int IntKind.i64 bc) = SV.v (Value.int IntKind.i64 bc) ∧ True) ∧ True) ∧ (br + (1 : Int) - IntKind.i64.wrap (x_2 + (1 : Int))).toNat < (br + (1 : Int) - x_2).toNat))))))) ((SV.v (Value.int IntKind.i64 (0 : Int)) = SV.v (Value.int IntKind.i64 (fiE l ar ac br bc)) ∧ True) ∧ (SV.h (1 : Nat) [oe, (0 : Nat)] = SV.h (1 : Nat) [oe, (0 : Nat)] ∧ True) ∧ (oe = oe ∧ ep = ep ∧ filA l ar ac br bc x x_2.toNat = fiL l ar ac br bc x) ∧ True))) ((SV.v (Value.int IntKind.i64 (11 : Int)) = SV.v (Value.int IntKind.i64 (fiE l ar ac br bc)) ∧ True) ∧ (SV.h (1 : Nat) [oe, (0 : Nat)] = SV.h (1 : Nat) [oe, (0 : Nat)] ∧ True) ∧ (oe = oe ∧ ep = ep ∧ l = fiL l ar ac br bc x) ∧ True))) (by kernel_rfl) ?_
  clear hp hφ
  simp only [LI, II, LLI, eLen, eNat, eSz, br_iff, rq_iff, nbeq, Bool.true_and, Bool.and_true, Bool.not_eq_true', Bool.not_eq_false', Bool.and_eq_true, Nat.ble_eq, Nat.blt_eq, decide_eq_true_eq, decide_eq_false_iff_not, true_and, and_true]
  have hR := hg.r1
  have hC := hg.c1
  refine ⟨hg, fun ⟨i1, i2⟩ => ⟨⟨fun h => by simp [h], fun h => ⟨fun h2 => ?_, fun h2 => ?_⟩⟩, fun b hb => ?_⟩, fun h => ?_⟩
  · have h2 : br = ar := by simpa using h2
    simp [h2]
  · have h2 : br ≠ ar := by simpa using h2
    simp [h, h2]
  · have hE : fiE l ar ac br bc = if (br < ar ∨ (br = ar ∧ bc < ac)) then 1 else 0 := by rw [fiE, i1, i2]; rfl
    have hL : fiL l ar ac br bc x = if (br < ar ∨ (br = ar ∧ bc < ac)) then l else fillG l ar ac br bc x := by rw [fiL, i1, i2]; rfl
    rw [hE, hL]
    refine ⟨fun h => ?_, fun h => ?_⟩
    · have hP : br < ar ∨ (br = ar ∧ bc < ac) := by rw [h] at hb; simpa using hb.symm
      rw [if_pos hP, if_pos hP]; exact ⟨rfl, rfl⟩
    · have hP : ¬ (br < ar ∨ (br = ar ∧ bc < ac)) := fun hP => by
        rw [h] at hb
        have : (decide (br < ar) || decide (br = ar) && decide (bc < ac)) = true := by simpa using hP
        rw [this] at hb; cases hb
      rw [if_neg hP, if_neg hP]
      rw [inB_iff] at i1 i2
      refine ⟨by omega, (filA_zero hg (by omega)).symm, fun k ⟨a1, a2⟩ => ⟨fun a3 => ?_, fun a3 => ⟨rfl, filA_all (by omega)⟩⟩⟩
      obtain ⟨i, rfl⟩ : ∃ i : Nat, k = i := ⟨k.toNat, by omega⟩
      have hk : i < l.length := by omega
      simp only [Int.toNat_natCast, filA_length, filA_row hg hk, hg.row hk]
      refine ⟨decide_eq_true (by omega), hk, hk, ⟨fun h => by rw [if_pos (by simpa using h)], fun h => by rw [if_neg (by simpa using h)]⟩, fun a ha => ⟨⟨fun h => by rw [if_pos (by simpa using h), wrap64 (by omega) (by omega)], fun h => by rw [if_neg (by simpa using h)]⟩, fun b hb' => ?_⟩⟩
      have hab : 0 ≤ a ∧ a < b ∧ b ≤ nC l := by split at ha <;> split at hb' <;> omega
      have hs := filA_step (x := x) hg hk a1 a3 (a := a.toNat) (n := b.toNat - a.toNat) (by rw [← ha]; omega) (by rw [← hb']; omega) (by omega)
      rw [wrap64 (x := (i : Int) + 1) (by omega) (by omega), show ((i : Int) + 1).toNat = i + 1 by omega, hs]
      exact ⟨decide_eq_true (by omega), hk, ⟨hk, decide_eq_true (by omega)⟩, ⟨hk, by omega, by omega, by omega⟩, by omega, rfl, by omega⟩
  · rw [fiE, fiL, h]; exact ⟨rfl, rfl⟩
end Go.Proofs.Ytpdhnmnjccnbmaa
