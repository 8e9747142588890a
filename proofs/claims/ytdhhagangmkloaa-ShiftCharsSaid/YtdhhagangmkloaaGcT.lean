/- Layers 6 and 7: the document's answer, contracts; what is the same. -/
import Derived.Test.YtdhhagangmkloaaGcR
import Derived.Test.YtdhhagangmkloaaGcS
set_option linter.unusedSimpArgs false
set_option linter.unusedVariables false
set_option linter.unusedSectionVars false
namespace Go.Proofs.Ytdhhagangmkloaa
open Go Go.Sym

/-- A row of cells that is owned, and may be nil. -/
def shOwnF : ShB OC where
  enc a := .own (.recs a.xs) a.n 38 4 a.ep false
  dec x := match x with
    | .own c n T' sz ep nn' => match c with
      | .recs xs => match Nat.beq T' 38 && (Nat.beq sz 4 && (nn' == false)) with
        | true => some ⟨xs, n, ep⟩
        | false => none
      | _ => none
    | _ => none
  ok x a h := by
    split at h
    · split at h
      · split at h
        · rename_i hc
          simp only [Bool.and_eq_true, Nat.beq_eq, beq_iff_eq] at hc
          obtain ⟨rfl, rfl, rfl⟩ := hc
          simp only [Option.some.injEq] at h
          subst h
          rfl
        · cases h
      · cases h
    · cases h
abbrev RB := (Int × Int × Nat) × OC
def shRefF (j : Nat) : ShH RB := shHCons (shCells (shCons shI (shCons shI (shOne (shO (j + 1))))) 94) (shHOne shOwnF)
def refF (j : Nat) (R C : Int) (xs : List C4) (n ep : Nat) : List (SB Unit) := (shRefF j).enc ((R, C, ep), ⟨xs, n, ep⟩)
/-- A list that is a grid. -/
structure FW (R C : Int) (xs : List C4) (n : Nat) : Prop where
  r0 : 1 ≤ R
  r1 : R ≤ 255
  c0 : 1 ≤ C
  c1 : C ≤ 255
  len : xs.length = n
  sz : (n : Int) = R * C
theorem mul_bd {r C : Int} (h0 : 0 ≤ r) (h1 : r ≤ 255) (h2 : 0 ≤ C) (h3 : C ≤ 255) : 0 ≤ r * C ∧ r * C ≤ 65025 :=
  ⟨Int.mul_nonneg h0 h2, Int.mul_le_mul h1 h3 h2 (by omega)⟩
theorem ix_bd {R C r c : Int} (h1 : r < R) (h3 : c < C) (h2 : 0 ≤ c) : r * C + c < R * C := by
  have : (r + 1) * C ≤ R * C := Int.mul_le_mul_of_nonneg_right (by omega) (by omega)
  rw [Int.add_mul, Int.one_mul] at this
  omega
def inD (R C r c : Int) : Bool := decide (0 ≤ r) && (decide (r < R) && (decide (0 ≤ c) && decide (c < C)))
theorem inD_iff {R C r c : Int} : inD R C r c = true ↔ 0 ≤ r ∧ r < R ∧ 0 ≤ c ∧ c < C := by simp [inD]
theorem inD_not {R C r c : Int} : inD R C r c = false ↔ ¬ (0 ≤ r ∧ r < R ∧ 0 ≤ c ∧ c < C) := by rw [← inD_iff]; simp
def lcRAtF : ACon Unit := mkLC (decP (shCons (shP 0) (shCons shI (shOne shI))) (shRefF 0))
  fun ((_, i, k), ((R, C, ep), ⟨xs, n, ep2⟩)) => .ask (ep = ep2 ∧ xs.length = n ∧ 0 ≤ i ∧ 0 ≤ k ∧ i ≤ 255 ∧ 0 ≤ C ∧ C ≤ 255 ∧ k ≤ 255 ∧ i * C + k < n)
  (.one (cv (xs.getD (i * C + k).toNat C4.no)) (refF 0 R C xs n ep) [])
set_option maxHeartbeats 4000000 in
theorem ok_ratF : ∀ I : Sym.Inv Unit, LCOk I Try.prog 30 lcRAtF := by
  refine lc_mk (fun _ => allCfg Try.prog [] tabD 3) (fun _ _ => allCfg_ok mixed trivial tabD_ok) (fun _ => rfl) (n := 80) Try.func30 ?_
  intro ⟨⟨_, i, k⟩, ⟨R, C, ep⟩, ⟨xs, n, ep2⟩⟩ hφ
  obtain ⟨⟨rfl, h1, h2, h3, h4, h5, h6, h7, h8⟩, hp⟩ := id hφ
  refine kcast (B := (rq (ep.beq ep && (true && decide ((0 : Int) ≤ IntKind.i64.wrap (IntKind.i64.wrap (i * C) + k) ∧ IntKind.i64.wrap (IntKind.i64.wrap (i * C) + k) < (↑n : Int)))) (rq (ep.beq ep && (IntKind.i64.wrap (IntKind.i64.wrap (i * C) + k)).toNat.blt xs.length) ((SV.a [SV.v (Value.int IntKind.i32 (xs.getD (IntKind.i64.wrap (IntKind.i64.wrap (i * C) + k)).toNat C4.no).g), SV.v (Value.int IntKind.i64 (xs.getD (IntKind.i64.wrap (IntKind.i64.wrap (i * C) + k)).toNat C4.no).a), SV.v (Value.bool (xs.getD (IntKind.i64.wrap (IntKind.i64.wrap (i * C) + k)).toNat C4.no).gd), SV.v (Value.int IntKind.i64 (xs.getD (IntKind.i64.wrap (IntKind.i64.wrap (i * C) + k)).toNat C4.no).m)] = SV.a [SV.v (Value.int IntKind.i32 (xs.getD (i * C + k).toNat C4.no).g), SV.v (Value.int IntKind.i64 (xs.getD (i * C + k).toNat C4.no).a), SV.v (Value.bool (xs.getD (i * C + k).toNat C4.no).gd), SV.v (Value.int IntKind.i64 (xs.getD (i * C + k).toNat C4.no).m)] ∧ True) ∧ (SV.v (Value.int IntKind.i64 R) = SV.v (Value.int IntKind.i64 R) ∧ SV.v (Value.int IntKind.i64 C) = SV.v (Value.int IntKind.i64 C) ∧ SV.h (1 : Nat) [ep, (0 : Nat)] = SV.h (1 : Nat) [ep, (0 : Nat)] ∧ True) ∧ (n = n ∧ ep = ep ∧ xs = xs) ∧ True)))) (by kernel_rfl) ?_
  clear hp hφ
  have hm1 : 0 ≤ i * C := Int.mul_nonneg h2 h5
  have hm2 : i * C ≤ 255 * 255 := Int.mul_le_mul h4 h6 h5 (by omega)
  rw [wrap64 (x := i * C) (by omega) (by omega), wrap64 (x := i * C + k) (by omega) (by omega)]
  simp only [rq_iff, nbeq, Bool.true_and, Bool.and_true, Bool.and_eq_true, Nat.blt_eq, decide_eq_true_eq, true_and, and_true]
  exact ⟨⟨by omega, h8⟩, by omega⟩
def lcThR : ACon Unit := mkLC (decP (shCons (shP 0) (shOne shI2)) (shRefF 0)) fun ((_, (r, c)), ((R, C, ep), ⟨xs, n, ep2⟩)) => .ask (ep = ep2) (.one (.v (.bool (inD R C r c))) (refF 0 R C xs n ep) [])
set_option maxHeartbeats 4000000 in
theorem ok_thR : ∀ I : Sym.Inv Unit, LCOk I Try.prog 29 lcThR := by
  refine lc_mk (fun _ => allCfg Try.prog [] tabD 3) (fun _ _ => allCfg_ok mixed trivial tabD_ok) (fun _ => rfl) (n := 80) Try.func29 ?_
  intro ⟨⟨_, r, c⟩, ⟨R, C, ep⟩, ⟨xs, n, ep2⟩⟩ hφ
  obtain ⟨rfl, hp⟩ := id hφ
  refine kcast (B := (br (decide (r ≥ (0 : Int))) (br (decide (r < R)) (br (decide (c ≥ (0 : Int))) ((SV.v (Value.bool (decide (c < C))) = SV.v (Value.bool (inD R C r c)) ∧ True) ∧ (SV.v (Value.int IntKind.i64 R) = SV.v (Value.int IntKind.i64 R) ∧ SV.v (Value.int IntKind.i64 C) = SV.v (Value.int IntKind.i64 C) ∧ SV.h (1 : Nat) [ep, (0 : Nat)] = SV.h (1 : Nat) [ep, (0 : Nat)] ∧ True) ∧ (n = n ∧ ep = ep ∧ xs = xs) ∧ True) ((SV.v (Value.bool false) = SV.v (Value.bool (inD R C r c)) ∧ True) ∧ (SV.v (Value.int IntKind.i64 R) = SV.v (Value.int IntKind.i64 R) ∧ SV.v (Value.int IntKind.i64 C) = SV.v (Value.int IntKind.i64 C) ∧ SV.h (1 : Nat) [ep, (0 : Nat)] = SV.h (1 : Nat) [ep, (0 : Nat)] ∧ True) ∧ (n = n ∧ ep = ep ∧ xs = xs) ∧ True)) ((SV.v (Value.bool false) = SV.v (Value.bool (inD R C r c)) ∧ True) ∧ (SV.v (Value.int IntKind.i64 R) = SV.v (Value.int IntKind.i64 R) ∧ SV.v (Value.int IntKind.i64 C) = SV.v (Value.int IntKind.i64 C) ∧ SV.h (1 : Nat) [ep, (0 : Nat)] = SV.h (1 : Nat) [ep, (0 : Nat)] ∧ True) ∧ (n = n ∧ ep = ep ∧ xs = xs) ∧ True)) ((SV.v (Value.bool false) = SV.v (Value.bool (inD R C r c)) ∧ True) ∧ (SV.v (Value.int IntKind.i64 R) = SV.v (Value.int IntKind.i64 R) ∧ SV.v (Value.int IntKind.i64 C) = SV.v (Value.int IntKind.i64 C) ∧ SV.h (1 : Nat) [ep, (0 : Nat)] = SV.h (1 : Nat) [ep, (0 : Nat)] ∧ True) ∧ (n = n ∧ ep = ep ∧ xs = xs) ∧ True))) (by kernel_rfl) ?_
  clear hp hφ
  by_cases h1 : 0 ≤ r <;> by_cases h2 : r < R <;> by_cases h3 : 0 ≤ c <;> by_cases h4 : c < C <;> simp [br_iff, rq_iff, nbeq, inD, h1, h2, h3, h4]
def wrE (R C fr fc tr tc : Int) : Int := if inD R C fr fc = true ∧ inD R C tr tc = true then (if tr * C + tc < fr * C + fc then 1 else 0) else 11
def tabT0 : List (Nat × ACon Unit) := (29, lcThR) :: (30, lcRAtF) :: tabQ
theorem tabT0_ok : LCs Try.prog tabT0 := ⟨ok_thR, ok_ratF, tabQ_ok⟩
def lcWrong : ACon Unit := mkLC (decP (shCons (shP 0) (shCons shI2 (shOne shI2))) (shRefF 0)) fun ((_, (fr, fc), (tr, tc)), ((R, C, ep), ⟨xs, n, ep2⟩)) => .ask (ep = ep2 ∧ FW R C xs n) (.one (.v (.int .i64 (wrE R C fr fc tr tc))) (refF 0 R C xs n ep) [])
set_option maxHeartbeats 4000000 in
theorem ok_wrong : ∀ I : Sym.Inv Unit, LCOk I Try.prog 99 lcWrong := by
  refine lc_mk (fun _ => allCfg Try.prog [] tabT0 3) (fun _ _ => allCfg_ok mixed trivial tabT0_ok) (fun _ => rfl) (n := 80) Try.func99 ?_
  intro ⟨⟨_, ⟨fr, fc⟩, ⟨tr, tc⟩⟩, ⟨R, C, ep⟩, ⟨xs, n, ep2⟩⟩ hφ
  obtain ⟨⟨rfl, hw⟩, hp⟩ := id hφ
  refine kcast (B := (true = true ∧ ep = ep ∧ br (!inD R C fr fc) ((SV.v (Value.int IntKind.i64 (11 : Int)) = SV.v (Value.int IntKind.i64 (wrE R C fr fc tr tc)) ∧ True) ∧ (SV.v (Value.int IntKind.i64 R) = SV.v (Value.int IntKind.i64 R) ∧ SV.v (Value.int IntKind.i64 C) = SV.v (Value.int IntKind.i64 C) ∧ SV.h (1 : Nat) [ep, (0 : Nat)] = SV.h (1 : Nat) [ep, (0 : Nat)] ∧ True) ∧ (n = n ∧ ep = ep ∧ xs = xs) ∧ True) (true = true ∧ ep = ep ∧ br (!inD R C tr tc) ((SV.v (Value.int IntKind.i64 (11 : Int)) = SV.v (Value.int IntKind.i64 (wrE R C fr fc tr tc)) ∧ True) ∧ (SV.v (Value.int IntKind.i64 R) = SV.v (Value.int IntKind.i64 R) ∧ SV.v (Value.int IntKind.i64 C) = SV.v (Value.int IntKind.i64 C) ∧ SV.h (1 : Nat) [ep, (0 : Nat)] = SV.h (1 : Nat) [ep, (0 : Nat)] ∧ True) ∧ (n = n ∧ ep = ep ∧ xs = xs) ∧ True) (br (decide (IntKind.i64.wrap (IntKind.i64.wrap (tr * C) + tc) < IntKind.i64.wrap (IntKind.i64.wrap (fr * C) + fc))) ((SV.v (Value.int IntKind.i64 (1 : Int)) = SV.v (Value.int IntKind.i64 (wrE R C fr fc tr tc)) ∧ True) ∧ (SV.v (Value.int IntKind.i64 R) = SV.v (Value.int IntKind.i64 R) ∧ SV.v (Value.int IntKind.i64 C) = SV.v (Value.int IntKind.i64 C) ∧ SV.h (1 : Nat) [ep, (0 : Nat)] = SV.h (1 : Nat) [ep, (0 : Nat)] ∧ True) ∧ (n = n ∧ ep = ep ∧ xs = xs) ∧ True) ((SV.v (Value.int IntKind.i64 (0 : Int)) = SV.v (Value.int IntKind.i64 (wrE R C fr fc tr tc)) ∧ True) ∧ (SV.v (Value.int IntKind.i64 R) = SV.v (Value.int IntKind.i64 R) ∧ SV.v (Value.int IntKind.i64 C) = SV.v (Value.int IntKind.i64 C) ∧ SV.h (1 : Nat) [ep, (0 : Nat)] = SV.h (1 : Nat) [ep, (0 : Nat)] ∧ True) ∧ (n = n ∧ ep = ep ∧ xs = xs) ∧ True))))) (by kernel_rfl) ?_
  clear hp hφ
  have := hw.r1
  have := hw.c1
  have := hw.c0
  unfold wrE
  cases h1 : inD R C fr fc
  · simp [br_iff]
  cases h2 : inD R C tr tc
  · simp [br_iff]
  rw [inD_iff] at h1 h2
  obtain ⟨a1, a2⟩ := mul_bd (r := fr) (C := C) (by omega) (by omega) (by omega) (by omega)
  obtain ⟨b1, b2⟩ := mul_bd (r := tr) (C := C) (by omega) (by omega) (by omega) (by omega)
  rw [wrap64 (x := fr * C) (by omega) (by omega), wrap64 (x := tr * C) (by omega) (by omega), wrap64 (x := fr * C + fc) (by omega) (by omega), wrap64 (x := tr * C + tc) (by omega) (by omega)]
  by_cases h3 : tr * C + tc < fr * C + fc <;> simp [br_iff, h3]
def turned (x c : C4) (how : Int) : C4 := if how = 1 then { x with a := c.a } else if how = 2 then { x with gd := c.gd } else c
def lcTurned : ACon Unit := mkLC (decP (shCons shC (shCons shC (shOne shI))) shHNil) fun ((x, c, how), _) => .one (cv (turned x c how)) [] []
set_option maxHeartbeats 4000000 in
theorem ok_turned : ∀ I : Sym.Inv Unit, LCOk I Try.prog 100 lcTurned := by
  refine lc_mk (fun _ => allCfg Try.prog [] tabQ 3) (fun _ _ => allCfg_ok mixed trivial tabQ_ok) (fun _ => rfl) (n := 80) Try.func100 ?_
  intro ⟨⟨x, c, how⟩, _⟩ hφ
  refine kcast (B := (br (how == (1 : Int)) ((SV.a [SV.v (Value.int IntKind.i32 x.g), SV.v (Value.int IntKind.i64 c.a), SV.v (Value.bool x.gd), SV.v (Value.int IntKind.i64 x.m)] = SV.a [SV.v (Value.int IntKind.i32 (turned x c how).g), SV.v (Value.int IntKind.i64 (turned x c how).a), SV.v (Value.bool (turned x c how).gd), SV.v (Value.int IntKind.i64 (turned x c how).m)] ∧ True) ∧ True) (br (how == (2 : Int)) ((SV.a [SV.v (Value.int IntKind.i32 x.g), SV.v (Value.int IntKind.i64 x.a), SV.v (Value.bool c.gd), SV.v (Value.int IntKind.i64 x.m)] = SV.a [SV.v (Value.int IntKind.i32 (turned x c how).g), SV.v (Value.int IntKind.i64 (turned x c how).a), SV.v (Value.bool (turned x c how).gd), SV.v (Value.int IntKind.i64 (turned x c how).m)] ∧ True) ∧ True) ((SV.a [SV.v (Value.int IntKind.i32 c.g), SV.v (Value.int IntKind.i64 c.a), SV.v (Value.bool c.gd), SV.v (Value.int IntKind.i64 c.m)] = SV.a [SV.v (Value.int IntKind.i32 (turned x c how).g), SV.v (Value.int IntKind.i64 (turned x c how).a), SV.v (Value.bool (turned x c how).gd), SV.v (Value.int IntKind.i64 (turned x c how).m)] ∧ True) ∧ True)))) (by kernel_rfl) ?_
  unfold turned
  by_cases h1 : how = 1
  · subst h1; simp [br_iff]
  by_cases h2 : how = 2
  · subst h2; simp [br_iff]
  simp [br_iff, h1, h2]

/-! ### Cells are turned, one by one -/
def doF (xs : List C4) (a i : Nat) (h : C4 → C4) (j : Nat) : C4 := if a ≤ j ∧ j < i then h (xs.getD j C4.no) else xs.getD j C4.no
def doL (xs : List C4) (a i : Nat) (h : C4 → C4) : List C4 := (List.range xs.length).map (doF xs a i h)
def doN (xs : List C4) (a i : Nat) (h : C4 → C4) : Nat := (List.range i).countP fun j => decide (a ≤ j) && neC (h (xs.getD j C4.no)) (xs.getD j C4.no)
section
variable {xs : List C4} {a i : Nat} {h : C4 → C4}
theorem doL_length : (doL xs a i h).length = xs.length := by simp [doL]
theorem doL_zero : doL xs a a h = xs := by
  apply List.ext_getElem
  · exact doL_length
  · intro j h1 h2
    simp only [doL, List.getElem_map, List.getElem_range, doF]
    rw [if_neg (by omega), List.getD, List.getElem?_eq_getElem h2]; rfl
theorem doL_at (hi : i < xs.length) : (doL xs a i h).getD i C4.no = xs.getD i C4.no := by
  simp only [doL]
  rw [List.getD, List.getElem?_map, List.getElem?_range hi]
  simp [doF]
theorem doL_step (ha : a ≤ i) (hi : i < xs.length) : (doL xs a i h).set i (h (xs.getD i C4.no)) = doL xs a (i + 1) h := by
  apply List.ext_getElem
  · simp [doL]
  · intro j h1 h2
    by_cases hj : i = j
    · subst hj
      rw [List.getElem_set_self]
      simp only [doL, List.getElem_map, List.getElem_range, doF]
      rw [if_pos (by omega)]
    · rw [List.getElem_set_ne hj]
      simp only [doL, List.getElem_map, List.getElem_range, doF]
      by_cases hc : a ≤ j ∧ j < i
      · rw [if_pos hc, if_pos (by omega)]
      · rw [if_neg hc, if_neg (by omega)]
theorem doL_keep (he : h (xs.getD i C4.no) = xs.getD i C4.no) : doL xs a i h = doL xs a (i + 1) h := by
  unfold doL
  refine List.map_congr_left fun j _ => ?_
  unfold doF
  by_cases hj : j = i
  · subst hj
    rw [if_neg (by omega)]
    split
    · exact he.symm
    · rfl
  · by_cases hc : a ≤ j ∧ j < i
    · rw [if_pos hc, if_pos (by omega)]
    · rw [if_neg hc, if_neg (by omega)]
theorem doN_zero : doN xs a a h = 0 := by
  unfold doN
  rw [List.countP_eq_zero]
  intro j hj
  have := List.mem_range.1 hj
  simp; omega
theorem doN_step (ha : a ≤ i) : doN xs a (i + 1) h = doN xs a i h + if neC (h (xs.getD i C4.no)) (xs.getD i C4.no) = true then 1 else 0 := by
  unfold doN
  rw [List.range_succ, List.countP_append]
  simp [List.countP_cons, ha]
theorem doN_le : doN xs a i h ≤ i := by
  unfold doN
  have := List.countP_le_length (p := fun j => decide (a ≤ j) && neC (h (xs.getD j C4.no)) (xs.getD j C4.no)) (l := List.range i)
  simpa using this
end
def hDo (c : C4) (how : Int) (g : Bool) (x : C4) : C4 := if g && x.gd then x else turned x c how
def annDo (xs : List C4) (n ep : Nat) (R C fr fc tr tc : Int) (c : C4) (how : Int) (g : Bool) : Ann Unit where
  α := Int
  φ _ i := fr * C + fc ≤ i ∧ i ≤ tr * C + tc + 1
  μ _ i := (tr * C + tc + 1 - i).toNat
  get st := getI st.tm 14
  f st i := tmpl [0, 3, 4, 6, 7] [(14, .v (.int .i64 i)), (13, .v (.int .i64 (doN xs (fr * C + fc).toNat i.toNat (hDo c how g))))] [(1, .own (.recs (doL xs (fr * C + fc).toNat i.toNat (hDo c how g))) n 38 4 ep false)] st
def tabT1 : List (Nat × ACon Unit) := (99, lcWrong) :: (100, lcTurned) :: tabT0
theorem tabT1_ok : LCs Try.prog tabT1 := ⟨ok_wrong, ok_turned, tabT0_ok⟩
def lcDo : ACon Unit := mkLC (decP (shCons (shP 0) (shCons (shA (shCons shI (shCons shI (shCons shI (shOne shI))))) (shCons shC (shCons shI (shOne shB))))) (shRefF 0)) fun ((_, (fr, fc, tr, tc), c, how, g), ((R, C, ep), ⟨xs, n, ep2⟩)) => .ask (ep = ep2 ∧ FW R C xs n)
  (.br (wrE R C fr fc tr tc == 0) (.one (.t [.v (.int .i64 (doN xs (fr * C + fc).toNat (tr * C + tc + 1).toNat (hDo c how g))), .v (.int .i64 0)]) (refF 0 R C (doL xs (fr * C + fc).toNat (tr * C + tc + 1).toNat (hDo c how g)) n ep) [1])
    (.one (.t [.v (.int .i64 0), .v (.int .i64 (wrE R C fr fc tr tc))]) (refF 0 R C xs n ep) [1]))
set_option maxHeartbeats 4000000 in
theorem ok_do : ∀ I : Sym.Inv Unit, LCOk I Try.prog 68 lcDo := by
  refine lc_mk (fun ((_, (fr, fc, tr, tc), c, how, g), ((R, C, ep), ⟨xs, n, ep2⟩)) => allCfg Try.prog [] tabT1 3 [(462, annDo xs n ep R C fr fc tr tc c how g)]) (fun _ _ => allCfg_ok mixed trivial tabT1_ok) (fun _ => rfl) (n := 80) Try.func68 ?_
  intro ⟨⟨_, ⟨fr, fc, tr, tc⟩, c, how, g⟩, ⟨R, C, ep⟩, ⟨xs, n, ep2⟩⟩ hφ
  obtain ⟨⟨rfl, hw⟩, hp⟩ := id hφ
  refine kcast (B := (true = true ∧ (ep = ep ∧ FW R C xs n) ∧ br (wrE R C fr fc tr tc != (0 : Int)) (br (wrE R C fr fc tr tc == (0 : Int)) ((SV.t [SV.v (Value.int IntKind.i64 (0 : Int)), SV.v (Value.int IntKind.i64 (wrE R C fr fc tr tc))] = SV.t [SV.v (Value.int IntKind.i64 (↑(doN xs (fr * C + fc).toNat (tr * C + tc + (1 : Int)).toNat (hDo c how g)) : Int)), SV.v (Value.int IntKind.i64 (0 : Int))] ∧ True) ∧ (SV.v (Value.int IntKind.i64 R) = SV.v (Value.int IntKind.i64 R) ∧ SV.v (Value.int IntKind.i64 C) = SV.v (Value.int IntKind.i64 C) ∧ SV.h (1 : Nat) [ep, (0 : Nat)] = SV.h (1 : Nat) [ep, (0 : Nat)] ∧ True) ∧ (n = n ∧ ep = ep ∧ xs = doL xs (fr * C + fc).toNat (tr * C + tc + (1 : Int)).toNat (hDo c how g)) ∧ True) ((SV.t [SV.v (Value.int IntKind.i64 (0 : Int)), SV.v (Value.int IntKind.i64 (wrE R C fr fc tr tc))] = SV.t [SV.v (Value.int IntKind.i64 (0 : Int)), SV.v (Value.int IntKind.i64 (wrE R C fr fc tr tc))] ∧ True) ∧ (SV.v (Value.int IntKind.i64 R) = SV.v (Value.int IntKind.i64 R) ∧ SV.v (Value.int IntKind.i64 C) = SV.v (Value.int IntKind.i64 C) ∧ SV.h (1 : Nat) [ep, (0 : Nat)] = SV.h (1 : Nat) [ep, (0 : Nat)] ∧ True) ∧ (n = n ∧ ep = ep ∧ xs = xs) ∧ True)) ((fr * C + fc ≤ IntKind.i64.wrap (IntKind.i64.wrap (fr * C) + fc) ∧ IntKind.i64.wrap (IntKind.i64.wrap (fr * C) + fc) ≤ tr * C + tc + (1 : Int)) ∧ ((SV.p (0 : Nat) (0 : Nat) = SV.p (0 : Nat) (0 : Nat) ∧ SV.v (Value.int IntKind.i64 how) = SV.v (Value.int IntKind.i64 how) ∧ SV.v (Value.bool g) = SV.v (Value.bool g) ∧ SV.p (2 : Nat) (0 : Nat) = SV.p (2 : Nat) (0 : Nat) ∧ SV.p (3 : Nat) (0 : Nat) = SV.p (3 : Nat) (0 : Nat) ∧ SV.v (Value.int IntKind.i64 (0 : Int)) = SV.v (Value.int IntKind.i64 (↑(doN xs (fr * C + fc).toNat (IntKind.i64.wrap (IntKind.i64.wrap (fr * C) + fc)).toNat (hDo c how g)) : Int)) ∧ SV.v (Value.int IntKind.i64 (IntKind.i64.wrap (IntKind.i64.wrap (fr * C) + fc))) = SV.v (Value.int IntKind.i64 (IntKind.i64.wrap (IntKind.i64.wrap (fr * C) + fc))) ∧ True) ∧ (SV.v (Value.int IntKind.i64 R) = SV.v (Value.int IntKind.i64 R) ∧ SV.v (Value.int IntKind.i64 C) = SV.v (Value.int IntKind.i64 C) ∧ SV.h (1 : Nat) [ep, (0 : Nat)] = SV.h (1 : Nat) [ep, (0 : Nat)] ∧ True) ∧ (n = n ∧ ep = ep ∧ xs = doL xs (fr * C + fc).toNat (IntKind.i64.wrap (IntKind.i64.wrap (fr * C) + fc)).toNat (hDo c how g)) ∧ (SV.v (Value.int IntKind.i64 fr) = SV.v (Value.int IntKind.i64 fr) ∧ SV.v (Value.int IntKind.i64 fc) = SV.v (Value.int IntKind.i64 fc) ∧ SV.v (Value.int IntKind.i64 tr) = SV.v (Value.int IntKind.i64 tr) ∧ SV.v (Value.int IntKind.i64 tc) = SV.v (Value.int IntKind.i64 tc) ∧ True) ∧ (SV.v (Value.int IntKind.i32 c.g) = SV.v (Value.int IntKind.i32 c.g) ∧ SV.v (Value.int IntKind.i64 c.a) = SV.v (Value.int IntKind.i64 c.a) ∧ SV.v (Value.bool c.gd) = SV.v (Value.bool c.gd) ∧ SV.v (Value.int IntKind.i64 c.m) = SV.v (Value.int IntKind.i64 c.m) ∧ True) ∧ True) ∧ ∀ (x : Int), fr * C + fc ≤ x ∧ x ≤ tr * C + tc + (1 : Int) → br (decide (x ≤ IntKind.i64.wrap (IntKind.i64.wrap (tr * C) + tc))) (br g (rq (ep.beq ep && (Nat.beq (4 : Nat) (4 : Nat) && decide ((0 : Int) ≤ x ∧ x < (↑n : Int)))) (rq (ep.beq ep && x.toNat.blt n) (rq (ep.beq ep && x.toNat.blt (doL xs (fr * C + fc).toNat x.toNat (hDo c how g)).length) (br ((doL xs (fr * C + fc).toNat x.toNat (hDo c how g)).getD x.toNat C4.no).gd ((fr * C + fc ≤ IntKind.i64.wrap (x + (1 : Int)) ∧ IntKind.i64.wrap (x + (1 : Int)) ≤ tr * C + tc + (1 : Int)) ∧ ((SV.p (0 : Nat) (0 : Nat) = SV.p (0 : Nat) (0 : Nat) ∧ SV.v (Value.int IntKind.i64 how) = SV.v (Value.int IntKind.i64 how) ∧ SV.v (Value.bool g) = SV.v (Value.bool g) ∧ SV.p (2 : Nat) (0 : Nat) = SV.p (2 : Nat) (0 : Nat) ∧ SV.p (3 : Nat) (0 : Nat) = SV.p (3 : Nat) (0 : Nat) ∧ SV.v (Value.int IntKind.i64 (↑(doN xs (fr * C + fc).toNat x.toNat (hDo c how g)) : Int)) = SV.v (Value.int IntKind.i64 (↑(doN xs (fr * C + fc).toNat (IntKind.i64.wrap (x + (1 : Int))).toNat (hDo c how g)) : Int)) ∧ SV.v (Value.int IntKind.i64 (IntKind.i64.wrap (x + (1 : Int)))) = SV.v (Value.int IntKind.i64 (IntKind.i64.wrap (x + (1 : Int)))) ∧ True) ∧ (SV.v (Value.int IntKind.i64 R) = SV.v (Value.int IntKind.i64 R) ∧ SV.v (Value.int IntKind.i64 C) = SV.v (Value.int IntKind.i64 C) ∧ SV.h (1 : Nat) [ep, (0 : Nat)] = SV.h (1 : Nat) [ep, (0 : Nat)] ∧ True) ∧ (n = n ∧ ep = ep ∧ doL xs (fr * C + fc).toNat x.toNat (hDo c how g) = doL xs (fr * C + fc).toNat (IntKind.i64.wrap (x + (1 : Int))).toNat (hDo c how g)) ∧ (SV.v (Value.int IntKind.i64 fr) = SV.v (Value.int IntKind.i64 fr) ∧ SV.v (Value.int IntKind.i64 fc) = SV.v (Value.int IntKind.i64 fc) ∧ SV.v (Value.int IntKind.i64 tr) = SV.v (Value.int IntKind.i64 tr) ∧ SV.v (Value.int IntKind.i64 tc) = SV.v (Value.int IntKind.i64 tc) ∧ True) ∧ (SV.v (Value.int IntKind.i32 c.g) = SV.v (Value.int IntKind.i32 c.g) ∧ SV.v (Value.int IntKind.i64 c.a) = SV.v (Value.int IntKind.i64 c.a) ∧ SV.v (Value.bool c.gd) = SV.v (Value.bool c.gd) ∧ SV.v (Value.int IntKind.i64 c.m) = SV.v (Value.int IntKind.i64 c.m) ∧ True) ∧ True) ∧ (tr * C + tc + (1 : Int) - IntKind.i64.wrap (x + (1 : Int))).toNat < (tr * C + tc + (1 : Int) - x).toNat) (rq (ep.beq ep && (Nat.beq (4 : Nat) (4 : Nat) && decide ((0 : Int) ≤ x ∧ x < (↑n : Int)))) (rq (ep.beq ep && x.toNat.blt (doL xs (fr * C + fc).toNat x.toNat (hDo c how g)).length) (true = true ∧ rq (ep.beq ep && (Nat.beq (4 : Nat) (4 : Nat) && decide ((0 : Int) ≤ x ∧ x < (↑n : Int)))) (rq (ep.beq ep && x.toNat.blt (doL xs (fr * C + fc).toNat x.toNat (hDo c how g)).length) (true = true ∧ rq (ep.beq ep && (Nat.beq (4 : Nat) (4 : Nat) && decide ((0 : Int) ≤ x ∧ x < (↑n : Int)))) (rq (ep.beq ep && x.toNat.blt (doL xs (fr * C + fc).toNat x.toNat (hDo c how g)).length) (br (!((turned (C4.mk ((doL xs (fr * C + fc).toNat x.toNat (hDo c how g)).getD x.toNat C4.no).g ((doL xs (fr * C + fc).toNat x.toNat (hDo c how g)).getD x.toNat C4.no).a ((doL xs (fr * C + fc).toNat x.toNat (hDo c how g)).getD x.toNat C4.no).gd ((doL xs (fr * C + fc).toNat x.toNat (hDo c how g)).getD x.toNat C4.no).m) (C4.mk c.g c.a c.gd c.m) how).g == ((doL xs (fr * C + fc).toNat x.toNat (hDo c how g)).getD x.toNat C4.no).g && ((turned (C4.mk ((doL xs (fr * C + fc).toNat x.toNat (hDo c how g)).getD x.toNat C4.no).g ((doL xs (fr * C + fc).toNat x.toNat (hDo c how g)).getD x.toNat C4.no).a ((doL xs (fr * C + fc).toNat x.toNat (hDo c how g)).getD x.toNat C4.no).gd ((doL xs (fr * C + fc).toNat x.toNat (hDo c how g)).getD x.toNat C4.no).m) (C4.mk c.g c.a c.gd c.m) how).a == ((doL xs (fr * C + fc).toNat x.toNat (hDo c how g)).getD x.toNat C4.no).a && ((turned (C4.mk ((doL xs (fr * C + fc).toNat x.toNat (hDo c how g)).getD x.toNat C4.no).g ((doL xs (fr * C + fc).toNat x.toNat (hDo c how g)).getD x.toNat C4.no).a ((doL xs (fr * C + fc).toNat x.toNat (hDo c how g)).getD x.toNat C4.no).gd ((doL xs (fr * C + fc).toNat x.toNat (hDo c how g)).getD x.toNat C4.no).m) (C4.mk c.g c.a c.gd c.m) how).gd == ((doL xs (fr * C + fc).toNat x.toNat (hDo c how g)).getD x.toNat C4.no).gd && ((turned (C4.mk ((doL xs (fr * C + fc).toNat x.toNat (hDo c how g)).getD x.toNat C4.no).g ((doL xs (fr * C + fc).toNat x.toNat (hDo c how g)).getD x.toNat C4.no).a ((doL xs (fr * C + fc).toNat x.toNat (hDo c how g)).getD x.toNat C4.no).gd ((doL xs (fr * C + fc).toNat x.toNat (hDo c how g)).getD x.toNat C4.no).m) (C4.mk c.g c.a c.gd c.m) how).m == ((doL xs (fr * C + fc).toNat x.toNat (hDo c how g)).getD x.toNat C4.no).m && true))))) (rq (ep.beq ep && (Nat.beq (4 : Nat) (4 : Nat) && decide ((0 : Int) ≤ x ∧ x < (↑n : Int)))) (rq (ep.beq ep && x.toNat.blt (doL xs (fr * C + fc).toNat x.toNat (hDo c how g)).length) ((fr * C + fc ≤ IntKind.i64.wrap (x + (1 : Int)) ∧ IntKind.i64.wrap (x + (1 : Int)) ≤ tr * C + tc + (1 : Int)) ∧ ((SV.p (0 : Nat) (0 : Nat) = SV.p (0 : Nat) (0 : Nat) ∧ SV.v (Value.int IntKind.i64 how) = SV.v (Value.int IntKind.i64 how) ∧ SV.v (Value.bool g) = SV.v (Value.bool g) ∧ SV.p (2 : Nat) (0 : Nat) = SV.p (2 : Nat) (0 : Nat) ∧ SV.p (3 : Nat) (0 : Nat) = SV.p (3 : Nat) (0 : Nat) ∧ SV.v (Value.int IntKind.i64 (IntKind.i64.wrap ((↑(doN xs (fr * C + fc).toNat x.toNat (hDo c how g)) : Int) + (1 : Int)))) = SV.v (Value.int IntKind.i64 (↑(doN xs (fr * C + fc).toNat (IntKind.i64.wrap (x + (1 : Int))).toNat (hDo c how g)) : Int)) ∧ SV.v (Value.int IntKind.i64 (IntKind.i64.wrap (x + (1 : Int)))) = SV.v (Value.int IntKind.i64 (IntKind.i64.wrap (x + (1 : Int)))) ∧ True) ∧ (SV.v (Value.int IntKind.i64 R) = SV.v (Value.int IntKind.i64 R) ∧ SV.v (Value.int IntKind.i64 C) = SV.v (Value.int IntKind.i64 C) ∧ SV.h (1 : Nat) [ep, (0 : Nat)] = SV.h (1 : Nat) [ep, (0 : Nat)] ∧ True) ∧ (n = n ∧ ep = ep ∧ (doL xs (fr * C + fc).toNat x.toNat (hDo c how g)).set x.toNat (C4.mk (turned (C4.mk ((doL xs (fr * C + fc).toNat x.toNat (hDo c how g)).getD x.toNat C4.no).g ((doL xs (fr * C + fc).toNat x.toNat (hDo c how g)).getD x.toNat C4.no).a ((doL xs (fr * C + fc).toNat x.toNat (hDo c how g)).getD x.toNat C4.no).gd ((doL xs (fr * C + fc).toNat x.toNat (hDo c how g)).getD x.toNat C4.no).m) (C4.mk c.g c.a c.gd c.m) how).g (turned (C4.mk ((doL xs (fr * C + fc).toNat x.toNat (hDo c how g)).getD x.toNat C4.no).g ((doL xs (fr * C + fc).toNat x.toNat (hDo c how g)).getD x.toNat C4.no).a ((doL xs (fr * C + fc).toNat x.toNat (hDo c how g)).getD x.toNat C4.no).gd ((doL xs (fr * C + fc).toNat x.toNat (hDo c how g)).getD x.toNat C4.no).m) (C4.mk c.g c.a c.gd c.m) how).a (turned (C4.mk ((doL xs (fr * C + fc).toNat x.toNat (hDo c how g)).getD x.toNat C4.no).g ((doL xs (fr * C + fc).toNat x.toNat (hDo c how g)).getD x.toNat C4.no).a ((doL xs (fr * C + fc).toNat x.toNat (hDo c how g)).getD x.toNat C4.no).gd ((doL xs (fr * C + fc).toNat x.toNat (hDo c how g)).getD x.toNat C4.no).m) (C4.mk c.g c.a c.gd c.m) how).gd (turned (C4.mk ((doL xs (fr * C + fc).toNat x.toNat (hDo c how g)).getD x.toNat C4.no).g ((doL xs (fr * C + fc).toNat x.toNat (hDo c how g)).getD x.toNat C4.no).a ((doL xs (fr * C + fc).toNat x.toNat (hDo c how g)).getD x.toNat C4.no).gd ((doL xs (fr * C + fc).toNat x.toNat (hDo c how g)).getD x.toNat C4.no).m) (C4.mk c.g c.a c.gd c.m) how).m) = doL xs (fr * C + fc).toNat (IntKind.i64.wrap (x + (1 : Int))).toNat (hDo c how g)) ∧ (SV.v (Value.int IntKind.i64 fr) = SV.v (Value.int IntKind.i64 fr) ∧ SV.v (Value.int IntKind.i64 fc) = SV.v (Value.int IntKind.i64 fc) ∧ SV.v (Value.int IntKind.i64 tr) = SV.v (Value.int IntKind.i64 tr) ∧ SV.v (Value.int IntKind.i64 tc) = SV.v (Value.int IntKind.i64 tc) ∧ True) ∧ (SV.v (Value.int IntKind.i32 c.g) = SV.v (Value.int IntKind.i32 c.g) ∧ SV.v (Value.int IntKind.i64 c.a) = SV.v (Value.int IntKind.i64 c.a) ∧ SV.v (Value.bool c.gd) = SV.v (Value.bool c.gd) ∧ SV.v (Value.int IntKind.i64 c.m) = SV.v (Value.int IntKind.i64 c.m) ∧ True) ∧ True) ∧ (tr * C + tc + (1 : Int) - IntKind.i64.wrap (x + (1 : Int))).toNat < (tr * C + tc + (1 : Int) - x).toNat))) (rq (ep.beq ep && (Nat.beq (4 : Nat) (4 : Nat) && decide ((0 : Int) ≤ x ∧ x < (↑n : Int)))) (rq (ep.beq ep && x.toNat.blt (doL xs (fr * C + fc).toNat x.toNat (hDo c how g)).length) ((fr * C + fc ≤ IntKind.i64.wrap (x + (1 : Int)) ∧ IntKind.i64.wrap (x + (1 : Int)) ≤ tr * C + tc + (1 : Int)) ∧ ((SV.p (0 : Nat) (0 : Nat) = SV.p (0 : Nat) (0 : Nat) ∧ SV.v (Value.int IntKind.i64 how) = SV.v (Value.int IntKind.i64 how) ∧ SV.v (Value.bool g) = SV.v (Value.bool g) ∧ SV.p (2 : Nat) (0 : Nat) = SV.p (2 : Nat) (0 : Nat) ∧ SV.p (3 : Nat) (0 : Nat) = SV.p (3 : Nat) (0 : Nat) ∧ SV.v (Value.int IntKind.i64 (↑(doN xs (fr * C + fc).toNat x.toNat (hDo c how g)) : Int)) = SV.v (Value.int IntKind.i64 (↑(doN xs (fr * C + fc).toNat (IntKind.i64.wrap (x + (1 : Int))).toNat (hDo c how g)) : Int)) ∧ SV.v (Value.int IntKind.i64 (IntKind.i64.wrap (x + (1 : Int)))) = SV.v (Value.int IntKind.i64 (IntKind.i64.wrap (x + (1 : Int)))) ∧ True) ∧ (SV.v (Value.int IntKind.i64 R) = SV.v (Value.int IntKind.i64 R) ∧ SV.v (Value.int IntKind.i64 C) = SV.v (Value.int IntKind.i64 C) ∧ SV.h (1 : Nat) [ep, (0 : Nat)] = SV.h (1 : Nat) [ep, (0 : Nat)] ∧ True) ∧ (n = n ∧ ep = ep ∧ (doL xs (fr * C + fc).toNat x.toNat (hDo c how g)).set x.toNat (C4.mk (turned (C4.mk ((doL xs (fr * C + fc).toNat x.toNat (hDo c how g)).getD x.toNat C4.no).g ((doL xs (fr * C + fc).toNat x.toNat (hDo c how g)).getD x.toNat C4.no).a ((doL xs (fr * C + fc).toNat x.toNat (hDo c how g)).getD x.toNat C4.no).gd ((doL xs (fr * C + fc).toNat x.toNat (hDo c how g)).getD x.toNat C4.no).m) (C4.mk c.g c.a c.gd c.m) how).g (turned (C4.mk ((doL xs (fr * C + fc).toNat x.toNat (hDo c how g)).getD x.toNat C4.no).g ((doL xs (fr * C + fc).toNat x.toNat (hDo c how g)).getD x.toNat C4.no).a ((doL xs (fr * C + fc).toNat x.toNat (hDo c how g)).getD x.toNat C4.no).gd ((doL xs (fr * C + fc).toNat x.toNat (hDo c how g)).getD x.toNat C4.no).m) (C4.mk c.g c.a c.gd c.m) how).a (turned (C4.mk ((doL xs (fr * C + fc).toNat x.toNat (hDo c how g)).getD x.toNat C4.no).g ((doL xs (fr * C + fc).toNat x.toNat (hDo c how g)).getD x.toNat C4.no).a ((doL xs (fr * C + fc).toNat x.toNat (hDo c how g)).getD x.toNat C4.no).gd ((doL xs (fr * C + fc).toNat x.toNat (hDo c how g)).getD x.toNat C4.no).m) (C4.mk c.g c.a c.gd c.m) how).gd (turned (C4.mk ((doL xs (fr * C + fc).toNat x.toNat (hDo c how g)).getD x.toNat C4.no).g ((doL xs (fr * C + fc).toNat x.toNat (hDo c how g)).getD x.toNat C4.no).a ((doL xs (fr * C + fc).toNat x.toNat (hDo c how g)).getD x.toNat C4.no).gd ((doL xs (fr * C + fc).toNat x.toNat (hDo c how g)).getD x.toNat C4.no).m) (C4.mk c.g c.a c.gd c.m) how).m) = doL xs (fr * C + fc).toNat (IntKind.i64.wrap (x + (1 : Int))).toNat (hDo c how g)) ∧ (SV.v (Value.int IntKind.i64 fr) = SV.v (Value.int IntKind.i64 fr) ∧ SV.v (Value.int IntKind.i64 fc) = SV.v (Value.int IntKind.i64 fc) ∧ SV.v (Value.int IntKind.i64 tr) = SV.v (Value.int IntKind.i64 tr) ∧ SV.v (Value.int IntKind.i64 tc) = SV.v (Value.int IntKind.i64 tc) ∧ True) ∧ (SV.v (Value.int IntKind.i32 c.g) = SV.v (Value.int IntKind.i32 c.g) ∧ SV.v (Value.int IntKind.i64 c.a) = SV.v (Value.int IntKind.i64 c.a) ∧ SV.v (Value.bool c.gd) = SV.v (Value.bool c.gd) ∧ SV.v (Value.int IntKind.i64 c.m) = SV.v (Value.int IntKind.i64 c.m) ∧ True) ∧ True) ∧ (tr * C + tc + (1 : Int) - IntKind.i64.wrap (x + (1 : Int))).toNat < (tr * C + tc + (1 : Int) - x).toNat)))))))))))))) (rq (ep.beq ep && (Nat.beq (4 : Nat) (4 : Nat) && decide ((0 : Int) ≤ x ∧ x < (↑n : Int)))) (rq (ep.beq ep && x.toNat.blt (doL xs (fr * C + fc).toNat x.toNat (hDo c how g)).length) (true = true ∧ rq (ep.beq ep && (Nat.beq (4 : Nat) (4 : Nat) && decide ((0 : Int) ≤ x ∧ x < (↑n : Int)))) (rq (ep.beq ep && x.toNat.blt (doL xs (fr * C + fc).toNat x.toNat (hDo c how g)).length) (true = true ∧ rq (ep.beq ep && (Nat.beq (4 : Nat) (4 : Nat) && decide ((0 : Int) ≤ x ∧ x < (↑n : Int)))) (rq (ep.beq ep && x.toNat.blt (doL xs (fr * C + fc).toNat x.toNat (hDo c how g)).length) (br (!((turned (C4.mk ((doL xs (fr * C + fc).toNat x.toNat (hDo c how g)).getD x.toNat C4.no).g ((doL xs (fr * C + fc).toNat x.toNat (hDo c how g)).getD x.toNat C4.no).a ((doL xs (fr * C + fc).toNat x.toNat (hDo c how g)).getD x.toNat C4.no).gd ((doL xs (fr * C + fc).toNat x.toNat (hDo c how g)).getD x.toNat C4.no).m) (C4.mk c.g c.a c.gd c.m) how).g == ((doL xs (fr * C + fc).toNat x.toNat (hDo c how g)).getD x.toNat C4.no).g && ((turned (C4.mk ((doL xs (fr * C + fc).toNat x.toNat (hDo c how g)).getD x.toNat C4.no).g ((doL xs (fr * C + fc).toNat x.toNat (hDo c how g)).getD x.toNat C4.no).a ((doL xs (fr * C + fc).toNat x.toNat (hDo c how g)).getD x.toNat C4.no).gd ((doL xs (fr * C + fc).toNat x.toNat (hDo c how g)).getD x.toNat C4.no).m) (C4.mk c.g c.a c.gd c.m) how).a == ((doL xs (fr * C + fc).toNat x.toNat (hDo c how g)).getD x.toNat C4.no).a && ((turned (C4.mk ((doL xs (fr * C + fc).toNat x.toNat (hDo c how g)).getD x.toNat C4.no).g ((doL xs (fr * C + fc).toNat x.toNat (hDo c how g)).getD x.toNat C4.no).a ((doL xs (fr * C + fc).toNat x.toNat (hDo c how g)).getD x.toNat C4.no).gd ((doL xs (fr * C + fc).toNat x.toNat (hDo c how g)).getD x.toNat C4.no).m) (C4.mk c.g c.a c.gd c.m) how).gd == ((doL xs (fr * C + fc).toNat x.toNat (hDo c how g)).getD x.toNat C4.no).gd && ((turned (C4.mk ((doL xs (fr * C + fc).toNat x.toNat (hDo c how g)).getD x.toNat C4.no).g ((doL xs (fr * C + fc).toNat x.toNat (hDo c how g)).getD x.toNat C4.no).a ((doL xs (fr * C + fc).toNat x.toNat (hDo c how g)).getD x.toNat C4.no).gd ((doL xs (fr * C + fc).toNat x.toNat (hDo c how g)).getD x.toNat C4.no).m) (C4.mk c.g c.a c.gd c.m) how).m == ((doL xs (fr * C + fc).toNat x.toNat (hDo c how g)).getD x.toNat C4.no).m && true))))) (rq (ep.beq ep && (Nat.beq (4 : Nat) (4 : Nat) && decide ((0 : Int) ≤ x ∧ x < (↑n : Int)))) (rq (ep.beq ep && x.toNat.blt (doL xs (fr * C + fc).toNat x.toNat (hDo c how g)).length) ((fr * C + fc ≤ IntKind.i64.wrap (x + (1 : Int)) ∧ IntKind.i64.wrap (x + (1 : Int)) ≤ tr * C + tc + (1 : Int)) ∧ ((SV.p (0 : Nat) (0 : Nat) = SV.p (0 : Nat) (0 : Nat) ∧ SV.v (Value.int IntKind.i64 how) = SV.v (Value.int IntKind.i64 how) ∧ SV.v (Value.bool g) = SV.v (Value.bool g) ∧ SV.p (2 : Nat) (0 : Nat) = SV.p (2 : Nat) (0 : Nat) ∧ SV.p (3 : Nat) (0 : Nat) = SV.p (3 : Nat) (0 : Nat) ∧ SV.v (Value.int IntKind.i64 (IntKind.i64.wrap ((↑(doN xs (fr * C + fc).toNat x.toNat (hDo c how g)) : Int) + (1 : Int)))) = SV.v (Value.int IntKind.i64 (↑(doN xs (fr * C + fc).toNat (IntKind.i64.wrap (x + (1 : Int))).toNat (hDo c how g)) : Int)) ∧ SV.v (Value.int IntKind.i64 (IntKind.i64.wrap (x + (1 : Int)))) = SV.v (Value.int IntKind.i64 (IntKind.i64.wrap (x + (1 : Int)))) ∧ True) ∧ (SV.v (Value.int IntKind.i64 R) = SV.v (Value.int IntKind.i64 R) ∧ SV.v (Value.int IntKind.i64 C) = SV.v (Value.int IntKind.i64 C) ∧ SV.h (1 : Nat) [ep, (0 : Nat)] = SV.h (1 : Nat) [ep, (0 : Nat)] ∧ True) ∧ (n = n ∧ ep = ep ∧ (doL xs (fr * C + fc).toNat x.toNat (hDo c how g)).set x.toNat (C4.mk (turned (C4.mk ((doL xs (fr * C + fc).toNat x.toNat (hDo c how g)).getD x.toNat C4.no).g ((doL xs (fr * C + fc).toNat x.toNat (hDo c how g)).getD x.toNat C4.no).a ((doL xs (fr * C + fc).toNat x.toNat (hDo c how g)).getD x.toNat C4.no).gd ((doL xs (fr * C + fc).toNat x.toNat (hDo c how g)).getD x.toNat C4.no).m) (C4.mk c.g c.a c.gd c.m) how).g (turned (C4.mk ((doL xs (fr * C + fc).toNat x.toNat (hDo c how g)).getD x.toNat C4.no).g ((doL xs (fr * C + fc).toNat x.toNat (hDo c how g)).getD x.toNat C4.no).a ((doL xs (fr * C + fc).toNat x.toNat (hDo c how g)).getD x.toNat C4.no).gd ((doL xs (fr * C + fc).toNat x.toNat (hDo c how g)).getD x.toNat C4.no).m) (C4.mk c.g c.a c.gd c.m) how).a (turned (C4.mk ((doL xs (fr * C + fc).toNat x.toNat (hDo c how g)).getD x.toNat C4.no).g ((doL xs (fr * C + fc).toNat x.toNat (hDo c how g)).getD x.toNat C4.no).a ((doL xs (fr * C + fc).toNat x.toNat (hDo c how g)).getD x.toNat C4.no).gd ((doL xs (fr * C + fc).toNat x.toNat (hDo c how g)).getD x.toNat C4.no).m) (C4.mk c.g c.a c.gd c.m) how).gd (turned (C4.mk ((doL xs (fr * C + fc).toNat x.toNat (hDo c how g)).getD x.toNat C4.no).g ((doL xs (fr * C + fc).toNat x.toNat (hDo c how g)).getD x.toNat C4.no).a ((doL xs (fr * C + fc).toNat x.toNat (hDo c how g)).getD x.toNat C4.no).gd ((doL xs (fr * C + fc).toNat x.toNat (hDo c how g)).getD x.toNat C4.no).m) (C4.mk c.g c.a c.gd c.m) how).m) = doL xs (fr * C + fc).toNat (IntKind.i64.wrap (x + (1 : Int))).toNat (hDo c how g)) ∧ (SV.v (Value.int IntKind.i64 fr) = SV.v (Value.int IntKind.i64 fr) ∧ SV.v (Value.int IntKind.i64 fc) = SV.v (Value.int IntKind.i64 fc) ∧ SV.v (Value.int IntKind.i64 tr) = SV.v (Value.int IntKind.i64 tr) ∧ SV.v (Value.int IntKind.i64 tc) = SV.v (Value.int IntKind.i64 tc) ∧ True) ∧ (SV.v (Value.int IntKind.i32 c.g) = SV.v (Value.int IntKind.i32 c.g) ∧ SV.v (Value.int IntKind.i64 c.a) = SV.v (Value.int IntKind.i64 c.a) ∧ SV.v (Value.bool c.gd) = SV.v (Value.bool c.gd) ∧ SV.v (Value.int IntKind.i64 c.m) = SV.v (Value.int IntKind.i64 c.m) ∧ True) ∧ True) ∧ (tr * C + tc + (1 : Int) - IntKind.i64.wrap (x + (1 : Int))).toNat < (tr * C + tc + (1 : Int) - x).toNat))) (rq (ep.beq ep && (Nat.beq (4 : Nat) (4 : Nat) && decide ((0 : Int) ≤ x ∧ x < (↑n : Int)))) (rq (ep.beq ep && x.toNat.blt (doL xs (fr * C + fc).toNat x.toNat (hDo c how g)).length) ((fr * C + fc ≤ IntKind.i64.wrap (x + (1 : Int)) ∧ IntKind.i64.wrap (x + (1 : Int)) ≤ tr * C + tc + (1 : Int)) ∧ ((SV.p (0 : Nat) (0 : Nat) = SV.p (0 : Nat) (0 : Nat) ∧ SV.v (Value.int IntKind.i64 how) = SV.v (Value.int IntKind.i64 how) ∧ SV.v (Value.bool g) = SV.v (Value.bool g) ∧ SV.p (2 : Nat) (0 : Nat) = SV.p (2 : Nat) (0 : Nat) ∧ SV.p (3 : Nat) (0 : Nat) = SV.p (3 : Nat) (0 : Nat) ∧ SV.v (Value.int IntKind.i64 (↑(doN xs (fr * C + fc).toNat x.toNat (hDo c how g)) : Int)) = SV.v (Value.int IntKind.i64 (↑(doN xs (fr * C + fc).toNat (IntKind.i64.wrap (x + (1 : Int))).toNat (hDo c how g)) : Int)) ∧ SV.v (Value.int IntKind.i64 (IntKind.i64.wrap (x + (1 : Int)))) = SV.v (Value.int IntKind.i64 (IntKind.i64.wrap (x + (1 : Int)))) ∧ True) ∧ (SV.v (Value.int IntKind.i64 R) = SV.v (Value.int IntKind.i64 R) ∧ SV.v (Value.int IntKind.i64 C) = SV.v (Value.int IntKind.i64 C) ∧ SV.h (1 : Nat) [ep, (0 : Nat)] = SV.h (1 : Nat) [ep, (0 : Nat)] ∧ True) ∧ (n = n ∧ ep = ep ∧ (doL xs (fr * C + fc).toNat x.toNat (hDo c how g)).set x.toNat (C4.mk (turned (C4.mk ((doL xs (fr * C + fc).toNat x.toNat (hDo c how g)).getD x.toNat C4.no).g ((doL xs (fr * C + fc).toNat x.toNat (hDo c how g)).getD x.toNat C4.no).a ((doL xs (fr * C + fc).toNat x.toNat (hDo c how g)).getD x.toNat C4.no).gd ((doL xs (fr * C + fc).toNat x.toNat (hDo c how g)).getD x.toNat C4.no).m) (C4.mk c.g c.a c.gd c.m) how).g (turned (C4.mk ((doL xs (fr * C + fc).toNat x.toNat (hDo c how g)).getD x.toNat C4.no).g ((doL xs (fr * C + fc).toNat x.toNat (hDo c how g)).getD x.toNat C4.no).a ((doL xs (fr * C + fc).toNat x.toNat (hDo c how g)).getD x.toNat C4.no).gd ((doL xs (fr * C + fc).toNat x.toNat (hDo c how g)).getD x.toNat C4.no).m) (C4.mk c.g c.a c.gd c.m) how).a (turned (C4.mk ((doL xs (fr * C + fc).toNat x.toNat (hDo c how g)).getD x.toNat C4.no).g ((doL xs (fr * C + fc).toNat x.toNat (hDo c how g)).getD x.toNat C4.no).a ((doL xs (fr * C + fc).toNat x.toNat (hDo c how g)).getD x.toNat C4.no).gd ((doL xs (fr * C + fc).toNat x.toNat (hDo c how g)).getD x.toNat C4.no).m) (C4.mk c.g c.a c.gd c.m) how).gd (turned (C4.mk ((doL xs (fr * C + fc).toNat x.toNat (hDo c how g)).getD x.toNat C4.no).g ((doL xs (fr * C + fc).toNat x.toNat (hDo c how g)).getD x.toNat C4.no).a ((doL xs (fr * C + fc).toNat x.toNat (hDo c how g)).getD x.toNat C4.no).gd ((doL xs (fr * C + fc).toNat x.toNat (hDo c how g)).getD x.toNat C4.no).m) (C4.mk c.g c.a c.gd c.m) how).m) = doL xs (fr * C + fc).toNat (IntKind.i64.wrap (x + (1 : Int))).toNat (hDo c how g)) ∧ (SV.v (Value.int IntKind.i64 fr) = SV.v (Value.int IntKind.i64 fr) ∧ SV.v (Value.int IntKind.i64 fc) = SV.v (Value.int IntKind.i64 fc) ∧ SV.v (Value.int IntKind.i64 tr) = SV.v (Value.int IntKind.i64 tr) ∧ SV.v (Value.int IntKind.i64 tc) = SV.v (Value.int IntKind.i64 tc) ∧ True) ∧ (SV.v (Value.int IntKind.i32 c.g) = SV.v (Value.int IntKind.i32 c.g) ∧ SV.v (Value.int IntKind.i64 c.a) = SV.v (Value.int IntKind.i64 c.a) ∧ SV.v (Value.bool c.gd) = SV.v (Value.bool c.gd) ∧ SV.v (Value.int IntKind.i64 c.m) = SV.v (Value.int IntKind.i64 c.m) ∧ True) ∧ True) ∧ (tr * C + tc + (1 : Int) - IntKind.i64.wrap (x + (1 : Int))).toNat < (tr * C + tc + (1 : Int) - x).toNat))))))))))) (br (wrE R C fr fc tr tc == (0 : Int)) ((SV.t [SV.v (Value.int IntKind.i64 (↑(doN xs (fr * C + fc).toNat x.toNat (hDo c how g)) : Int)), SV.v (Value.int IntKind.i64 (0 : Int))] = SV.t [SV.v (Value.int IntKind.i64 (↑(doN xs (fr * C + fc).toNat (tr * C + tc + (1 : Int)).toNat (hDo c how g)) : Int)), SV.v (Value.int IntKind.i64 (0 : Int))] ∧ True) ∧ (SV.v (Value.int IntKind.i64 R) = SV.v (Value.int IntKind.i64 R) ∧ SV.v (Value.int IntKind.i64 C) = SV.v (Value.int IntKind.i64 C) ∧ SV.h (1 : Nat) [ep, (0 : Nat)] = SV.h (1 : Nat) [ep, (0 : Nat)] ∧ True) ∧ (n = n ∧ ep = ep ∧ doL xs (fr * C + fc).toNat x.toNat (hDo c how g) = doL xs (fr * C + fc).toNat (tr * C + tc + (1 : Int)).toNat (hDo c how g)) ∧ True) ((SV.t [SV.v (Value.int IntKind.i64 (↑(doN xs (fr * C + fc).toNat x.toNat (hDo c how g)) : Int)), SV.v (Value.int IntKind.i64 (0 : Int))] = SV.t [SV.v (Value.int IntKind.i64 (0 : Int)), SV.v (Value.int IntKind.i64 (wrE R C fr fc tr tc))] ∧ True) ∧ (SV.v (Value.int IntKind.i64 R) = SV.v (Value.int IntKind.i64 R) ∧ SV.v (Value.int IntKind.i64 C) = SV.v (Value.int IntKind.i64 C) ∧ SV.h (1 : Nat) [ep, (0 : Nat)] = SV.h (1 : Nat) [ep, (0 : Nat)] ∧ True) ∧ (n = n ∧ ep = ep ∧ doL xs (fr * C + fc).toNat x.toNat (hDo c how g) = xs) ∧ True))))) (by kernel_rfl) ?_
  clear hp hφ
  cases hE : wrE R C fr fc tr tc == 0
  · simp only [hE, bne, Bool.not_false, br_iff, nbeq, Bool.true_eq_false, Bool.false_eq_true, true_implies, false_implies, true_and, and_true, hw]
  have hE' : wrE R C fr fc tr tc = 0 := by simpa using hE
  have hr := hw.r1
  have hc0 := hw.c0
  have hc := hw.c1
  have hsz := hw.sz
  have hlen := hw.len
  have hin : (0 ≤ fr ∧ fr < R ∧ 0 ≤ fc ∧ fc < C) ∧ (0 ≤ tr ∧ tr < R ∧ 0 ≤ tc ∧ tc < C) ∧ fr * C + fc ≤ tr * C + tc := by
    unfold wrE at hE'
    split at hE'
    · rename_i h1
      rw [inD_iff, inD_iff] at h1
      refine ⟨h1.1, h1.2, ?_⟩
      split at hE'
      · cases hE'
      · omega
    · cases hE'
  obtain ⟨hf, ht, hle⟩ := hin
  obtain ⟨a1, a2⟩ := mul_bd (r := fr) (C := C) (by omega) (by omega) (by omega) (by omega)
  obtain ⟨b1, b2⟩ := mul_bd (r := tr) (C := C) (by omega) (by omega) (by omega) (by omega)
  have b3 := ix_bd (R := R) ht.2.1 ht.2.2.2 ht.2.2.1
  have eta : ∀ y : C4, C4.mk y.g y.a y.gd y.m = y := fun _ => rfl
  rw [wrap64 (x := fr * C) (by omega) (by omega), wrap64 (x := tr * C) (by omega) (by omega), wrap64 (x := fr * C + fc) (by omega) (by omega), wrap64 (x := tr * C + tc) (by omega) (by omega)]
  simp only [hE, bne, Bool.not_true, br_iff, rq_iff, nbeq, Bool.true_eq_false, Bool.false_eq_true, true_implies, false_implies, true_and, and_true, hw, eta, doL_length, hlen, Bool.true_and, Bool.and_true, Bool.and_eq_true, Nat.ble_eq, Nat.blt_eq, decide_eq_true_eq, decide_eq_false_iff_not]
  refine ⟨by omega, ⟨by rw [doN_zero]; rfl, doL_zero.symm⟩, fun x ⟨x0, x1⟩ => ⟨fun hx => ?_, fun hx => ?_⟩⟩
  · have hxn : x.toNat < xs.length := by omega
    rw [doL_at hxn, wrap64 (x := x + 1) (by omega) (by omega)]
    have e1 : (x + 1).toNat = x.toNat + 1 := by omega
    have hax : (fr * C + fc).toNat ≤ x.toNat := by omega
    rw [e1]
    have hb := doN_le (xs := xs) (a := (fr * C + fc).toNat) (i := x.toNat) (h := hDo c how g)
    have hst := doL_step (h := hDo c how g) hax hxn
    have hsn := doN_step (xs := xs) (h := hDo c how g) hax
    have hkl := doL_keep (xs := xs) (a := (fr * C + fc).toNat) (i := x.toNat) (h := hDo c how g)
    simp only [← neC_eq]
    generalize xs.getD x.toNat C4.no = y at hst hsn hkl ⊢
    have stp : hDo c how g y = turned y c how → (neC (turned y c how) y = true → (0 ≤ x ∧ x < (n : Int)) ∧ x.toNat < n ∧ (fr * C + fc ≤ x + 1 ∧ x + 1 ≤ tr * C + tc + 1) ∧
        (SV.v (Value.int IntKind.i64 (IntKind.i64.wrap ((doN xs (fr * C + fc).toNat x.toNat (hDo c how g) : Int) + 1))) = SV.v (Value.int IntKind.i64 (doN xs (fr * C + fc).toNat (x.toNat + 1) (hDo c how g))) ∧
          (doL xs (fr * C + fc).toNat x.toNat (hDo c how g)).set x.toNat (turned y c how) = doL xs (fr * C + fc).toNat (x.toNat + 1) (hDo c how g)) ∧ (tr * C + tc + 1 - (x + 1)).toNat < (tr * C + tc + 1 - x).toNat) ∧
        (neC (turned y c how) y = false → (0 ≤ x ∧ x < (n : Int)) ∧ x.toNat < n ∧ (fr * C + fc ≤ x + 1 ∧ x + 1 ≤ tr * C + tc + 1) ∧
        (SV.v (Value.int IntKind.i64 (doN xs (fr * C + fc).toNat x.toNat (hDo c how g))) = SV.v (Value.int IntKind.i64 (doN xs (fr * C + fc).toNat (x.toNat + 1) (hDo c how g))) ∧
          (doL xs (fr * C + fc).toNat x.toNat (hDo c how g)).set x.toNat (turned y c how) = doL xs (fr * C + fc).toNat (x.toNat + 1) (hDo c how g)) ∧ (tr * C + tc + 1 - (x + 1)).toNat < (tr * C + tc + 1 - x).toNat) := fun hz => by
      rw [hz] at hst hsn
      refine ⟨fun hn => ⟨by omega, by omega, by omega, ⟨?_, hst⟩, by omega⟩, fun hn => ⟨by omega, by omega, by omega, ⟨?_, hst⟩, by omega⟩⟩
      · rw [hsn, if_pos hn, wrap64 (by omega) (by omega)]; rfl
      · rw [hsn, hn]; rfl
    refine ⟨fun hg => ⟨by omega, by omega, by omega, fun hgd => ?_, fun hgd => ?_⟩, fun hg => ?_⟩
    · have hz : hDo c how g y = y := by rw [hDo, hg, hgd]; rfl
      rw [hz, neC_no.2 rfl] at hsn
      exact ⟨by omega, ⟨by rw [hsn]; rfl, hkl hz⟩, by omega⟩
    · exact ⟨by omega, by omega, by omega, by omega, by omega, by omega, stp (by rw [hDo, hg, hgd]; rfl)⟩
    · exact ⟨by omega, by omega, by omega, by omega, by omega, by omega, stp (by rw [hDo, hg]; rfl)⟩
  · have : x = tr * C + tc + 1 := by omega
    subst this
    exact ⟨rfl, rfl⟩
end Go.Proofs.Ytdhhagangmkloaa
