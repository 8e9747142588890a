/- Layers 6 and 7: the document's answer, contracts; what is the same. -/
import Derived.Test.YtdhhagangmkloaaGcS
set_option linter.unusedSimpArgs false
set_option linter.unusedVariables false
set_option linter.unusedSectionVars false
namespace Go.Proofs.Ytdhhagangmkloaa
open Go Go.Sym

/-- A row of cells that is owned, and may be nil. -/
def shOwnF : ShB OC where
  enc a := .own (.recs a.xs) a.n 38 4 a.ep false
  dec x := match x with
    | .own c n T' sz ep nn' => match c with
      | .recs xs => match Nat.beq T' 38 && (Nat.beq sz 4 && (nn' == false)) with
        | true => some ⟨xs, n, ep⟩
        | false => none
      | _ => none
    | _ => none
  ok x a h := by
    split at h
    · split at h
      · split at h
        · rename_i hc
          simp only [Bool.and_eq_true, Nat.beq_eq, beq_iff_eq] at hc
          obtain ⟨rfl, rfl, rfl⟩ := hc
          simp only [Option.some.injEq] at h
          subst h
          rfl
        · cases h
      · cases h
    · cases h
abbrev RB := (Int × Int × Nat) × OC
def shRefF (j : Nat) : ShH RB := shHCons (shCells (shCons shI (shCons shI (shOne (shO (j + 1))))) 94) (shHOne shOwnF)
def refF (j : Nat) (R C : Int) (xs : List C4) (n ep : Nat) : List (SB Unit) := (shRefF j).enc ((R, C, ep), ⟨xs, n, ep⟩)
/-- A list that is a grid. -/
structure FW (R C : Int) (xs : List C4) (n : Nat) : Prop where
  r0 : 1 ≤ R
  r1 : R ≤ 255
  c0 : 1 ≤ C
  c1 : C ≤ 255
  len : xs.length = n
  sz : (n : Int) = R * C
theorem mul_bd {r C : Int} (h0 : 0 ≤ r) (h1 : r ≤ 255) (h2 : 0 ≤ C) (h3 : C ≤ 255) : 0 ≤ r * C ∧ r * C ≤ 65025 :=
  ⟨Int.mul_nonneg h0 h2, Int.mul_le_mul h1 h3 h2 (by omega)⟩
theorem ix_bd {R C r c : Int} (h1 : r < R) (h3 : c < C) (h2 : 0 ≤ c) : r * C + c < R * C := by
  have : (r + 1) * C ≤ R * C := Int.mul_le_mul_of_nonneg_right (by omega) (by omega)
  rw [Int.add_mul, Int.one_mul] at this
  omega
def inD (R C r c : Int) : Bool := decide (0 ≤ r) && (decide (r < R) && (decide (0 ≤ c) && decide (c < C)))
theorem inD_iff {R C r c : Int} : inD R C r c = true ↔ 0 ≤ r ∧ r < R ∧ 0 ≤ c ∧ c < C := by simp [inD]
theorem inD_not {R C r c : Int} : inD R C r c = false ↔ ¬ (0 ≤ r ∧ r < R ∧ 0 ≤ c ∧ c < C) := by rw [← inD_iff]; simp
def lcRAtF : ACon Unit := mkLC (decP (shCons (shP 0) (shCons shI (shOne shI))) (shRefF 0))
  fun ((_, i, k), ((R, C, ep), ⟨xs, n, ep2⟩)) => .ask (ep = ep2 ∧ xs.length = n ∧ 0 ≤ i ∧ 0 ≤ k ∧ i ≤ 255 ∧ 0 ≤ C ∧ C ≤ 255 ∧ k ≤ 255 ∧ i * C + k < n)
  (.one (cv (xs.getD (i * C + k).toNat C4.no)) (refF 0 R C xs n ep) [])
set_option maxHeartbeats 4000000 in
theorem ok_ratF : ∀ I : Sym.Inv Unit, LCOk I Try.prog 30 lcRAtF := by
  refine lc_mk (fun _ => allCfg Try.prog [] tabD 3) (fun _ _ => allCfg_ok mixed trivial tabD_ok) (fun _ => rfl) (n := 80) Try.func30 ?_
  intro ⟨⟨_, i, k⟩, ⟨R, C, ep⟩, ⟨xs, n, ep2⟩⟩ hφ
  obtain ⟨⟨rfl, h1, h2, h3, h4, h5, h6, h7, h8⟩, hp⟩ := id hφ
  refine kcast (B := (rq (ep.beq ep && (true && decide ((0 : Int) ≤ IntKind.i64.wrap (IntKind.i64.wrap (i * C) + k) ∧ IntKind.i64.wrap (IntKind.i64.wrap (i * C) + k) < (↑n : Int)))) (rq (ep.beq ep && (IntKind.i64.wrap (IntKind.i64.wrap (i * C) + k)).toNat.blt xs.length) ((SV.a [SV.v (Value.int IntKind.i32 (xs.getD (IntKind.i64.wrap (IntKind.i64.wrap (i * C) + k)).toNat C4.no).g), SV.v (Value.int IntKind.i64 (xs.getD (IntKind.i64.wrap (IntKind.i64.wrap (i * C) + k)).toNat C4.no).a), SV.v (Value.bool (xs.getD (IntKind.i64.wrap (IntKind.i64.wrap (i * C) + k)).toNat C4.no).gd), SV.v (Value.int IntKind.i64 (xs.getD (IntKind.i64.wrap (IntKind.i64.wrap (i * C) + k)).toNat C4.no).m)] = SV.a [SV.v (Value.int IntKind.i32 (xs.getD (i * C + k).toNat C4.no).g), SV.v (Value.int IntKind.i64 (xs.getD (i * C + k).toNat C4.no).a), SV.v (Value.bool (xs.getD (i * C + k).toNat C4.no).gd), SV.v (Value.int IntKind.i64 (xs.getD (i * C + k).toNat C4.no).m)] ∧ True) ∧ (SV.v (Value.int IntKind.i64 R) = SV.v (Value.int IntKind.i64 R) ∧ SV.v (Value.int IntKind.i64 C) = SV.v (Value.int IntKind.i64 C) ∧ SV.h (1 : Nat) [ep, (0 : Nat)] = SV.h (1 : Nat) [ep, (0 : Nat)] ∧ True) ∧ (n = n ∧ ep = ep ∧ xs = xs) ∧ True)))) (by kernel_rfl) ?_
  clear hp hφ
  have hm1 : 0 ≤ i * C := Int.mul_nonneg h2 h5
  have hm2 : i * C ≤ 255 * 255 := Int.mul_le_mul h4 h6 h5 (by omega)
  rw [wrap64 (x := i * C) (by omega) (by omega), wrap64 (x := i * C + k) (by omega) (by omega)]
  simp only [rq_iff, nbeq, Bool.true_and, Bool.and_true, Bool.and_eq_true, Nat.blt_eq, decide_eq_true_eq, true_and, and_true]
  exact ⟨⟨by omega, h8⟩, by omega⟩
def lcThR : ACon Unit := mkLC (decP (shCons (shP 0) (shOne shI2)) (shRefF 0)) fun ((_, (r, c)), ((R, C, ep), ⟨xs, n, ep2⟩)) => .ask (ep = ep2) (.one (.v (.bool (inD R C r c))) (refF 0 R C xs n ep) [])
set_option maxHeartbeats 4000000 in
theorem ok_thR : ∀ I : Sym.Inv Unit, LCOk I Try.prog 29 lcThR := by
  refine lc_mk (fun _ => allCfg Try.prog [] tabD 3) (fun _ _ => allCfg_ok mixed trivial tabD_ok) (fun _ => rfl) (n := 80) Try.func29 ?_
  intro ⟨⟨_, r, c⟩, ⟨R, C, ep⟩, ⟨xs, n, ep2⟩⟩ hφ
  obtain ⟨rfl, hp⟩ := id hφ
  refine kcast (B := (br (decide (r ≥ (0 : Int))) (br (decide (r < R)) (br (decide (c ≥ (0 : Int))) ((SV.v (Value.bool (decide (c < C))) = SV.v (Value.bool (inD R C r c)) ∧ True) ∧ (SV.v (Value.int IntKind.i64 R) = SV.v (Value.int IntKind.i64 R) ∧ SV.v (Value.int IntKind.i64 C) = SV.v (Value.int IntKind.i64 C) ∧ SV.h (1 : Nat) [ep, (0 : Nat)] = SV.h (1 : Nat) [ep, (0 : Nat)] ∧ True) ∧ (n = n ∧ ep = ep ∧ xs = xs) ∧ True) ((SV.v (Value.bool false) = SV.v (Value.bool (inD R C r c)) ∧ True) ∧ (SV.v (Value.int IntKind.i64 R) = SV.v (Value.int IntKind.i64 R) ∧ SV.v (Value.int IntKind.i64 C) = SV.v (Value.int IntKind.i64 C) ∧ SV.h (1 : Nat) [ep, (0 : Nat)] = SV.h (1 : Nat) [ep, (0 : Nat)] ∧ True) ∧ (n = n ∧ ep = ep ∧ xs = xs) ∧ True)) ((SV.v (Value.bool false) = SV.v (Value.bool (inD R C r c)) ∧ True) ∧ (SV.v (Value.int IntKind.i64 R) = SV.v (Value.int IntKind.i64 R) ∧ SV.v (Value.int IntKind.i64 C) = SV.v (Value.int IntKind.i64 C) ∧ SV.h (1 : Nat) [ep, (0 : Nat)] = SV.h (1 : Nat) [ep, (0 : Nat)] ∧ True) ∧ (n = n ∧ ep = ep ∧ xs = xs) ∧ True)) ((SV.v (Value.bool false) = SV.v (Value.bool (inD R C r c)) ∧ True) ∧ (SV.v (Value.int IntKind.i64 R) = SV.v (Value.int IntKind.i64 R) ∧ SV.v (Value.int IntKind.i64 C) = SV.v (Value.int IntKind.i64 C) ∧ SV.h (1 : Nat) [ep, (0 : Nat)] = SV.h (1 : Nat) [ep, (0 : Nat)] ∧ True) ∧ (n = n ∧ ep = ep ∧ xs = xs) ∧ True))) (by kernel_rfl) ?_
  clear hp hφ
  by_cases h1 : 0 ≤ r <;> by_cases h2 : r < R <;> by_cases h3 : 0 ≤ c <;> by_cases h4 : c < C <;> simp [br_iff, rq_iff, nbeq, inD, h1, h2, h3, h4]
def tabT0 : List (Nat × ACon Unit) := (29, lcThR) :: (30, lcRAtF) :: tabE
theorem tabT0_ok : LCs Try.prog tabT0 := ⟨ok_thR, ok_ratF, tabE_ok⟩
end Go.Proofs.Ytdhhagangmkloaa
