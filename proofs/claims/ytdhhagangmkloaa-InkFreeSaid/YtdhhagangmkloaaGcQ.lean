/- Layer 7: cells that are turned, as a plain law. -/
import Derived.Test.YtdhhagangmkloaaGcM
set_option linter.unusedSimpArgs false
set_option linter.unusedVariables false
set_option linter.unusedSectionVars false
namespace Go.Proofs.Ytdhhagangmkloaa
open Go Go.Sym

def aheadB (r c r2 c2 : Int) : Bool := decide (r < r2) || (decide (r = r2) && decide (c < c2))
theorem aheadB_iff {r c r2 c2 : Int} : aheadB r c r2 c2 = true ↔ r < r2 ∨ (r = r2 ∧ c < c2) := by simp [aheadB]
def lcAhead : ACon Unit := mkLC (decP (shCons shI2 (shOne shI2)) shHNil) fun (((r, c), (r2, c2)), _) => .one (.v (.bool (aheadB r c r2 c2))) [] []
set_option maxHeartbeats 4000000 in
theorem ok_ahead : ∀ I : Sym.Inv Unit, LCOk I Try.prog 104 lcAhead := by
  refine lc_mk (fun _ => allCfg Try.prog [] [] 0) (fun _ _ => allCfg_ok mixed trivial trivial) (fun _ => rfl) (n := 60) Try.func104 ?_
  intro ⟨⟨⟨r, c⟩, ⟨r2, c2⟩⟩, _⟩ hφ
  refine kcast (B := (br (decide (r < r2)) ((SV.v (Value.bool true) = SV.v (Value.bool (aheadB r c r2 c2)) ∧ True) ∧ True) (br (r == r2) ((SV.v (Value.bool (decide (c < c2))) = SV.v (Value.bool (aheadB r c r2 c2)) ∧ True) ∧ True) ((SV.v (Value.bool false) = SV.v (Value.bool (aheadB r c r2 c2)) ∧ True) ∧ True)))) (by kernel_rfl) ?_
  simp only [br_iff, true_and, and_true, SV.v.injEq, Value.bool.injEq, aheadB, decide_eq_true_eq, decide_eq_false_iff_not, beq_iff_eq, beq_eq_false_iff_ne]
  by_cases h1 : r < r2 <;> by_cases h2 : r = r2 <;> by_cases h3 : c < c2 <;> simp [h1, h2, h3]
  all_goals omega

/-! ### Cells, cell by cell -/
def neC (x y : C4) : Bool := !(x.g == y.g && (x.a == y.a && (x.gd == y.gd && (x.m == y.m && true))))
theorem neC_no {x y : C4} : neC x y = false ↔ x = y := by
  cases x; cases y
  simp [neC]
theorem neC_iff {x y : C4} : neC x y = true ↔ x ≠ y := by
  rw [ne_eq, ← neC_no]; simp
/-- How many of the first places. -/
def cntP (C : Nat) (P : Nat → Nat → Bool) (n : Nat) : Nat := (List.range n).countP fun j => P (j / C) (j % C)
theorem cntP_zero (C : Nat) (P : Nat → Nat → Bool) : cntP C P 0 = 0 := rfl
theorem cntP_le (C : Nat) (P : Nat → Nat → Bool) (n : Nat) : cntP C P n ≤ n := by
  unfold cntP
  have := List.countP_le_length (p := fun j => P (j / C) (j % C)) (l := List.range n)
  simpa using this
theorem cntP_step {C : Nat} (P : Nat → Nat → Bool) {i k : Nat} (h : k < C) : cntP C P (i * C + k + 1) = cntP C P (i * C + k) + if P i k = true then 1 else 0 := by
  have e1 : (i * C + k) / C = i := by rw [Nat.add_comm, Nat.add_mul_div_right _ _ (by omega), Nat.div_eq_of_lt h]; omega
  have e2 : (i * C + k) % C = k := by rw [Nat.add_comm, Nat.add_mul_mod_self_right, Nat.mod_eq_of_lt h]
  unfold cntP
  rw [List.range_succ, List.countP_append]
  simp only [List.countP_cons, List.countP_nil, e1, e2, Nat.zero_add]
theorem cntP_congr {R C : Nat} {P Q : Nat → Nat → Bool} (h : ∀ r c, r < R → c < C → P r c = Q r c) : cntP C P (R * C) = cntP C Q (R * C) := by
  unfold cntP
  rcases Nat.eq_zero_or_pos C with hC | hC
  · subst hC; simp
  · rw [List.countP_eq_length_filter, List.countP_eq_length_filter]
    congr 1
    refine List.filter_congr fun j hj => ?_
    have hj := List.mem_range.1 hj
    exact h _ _ (Nat.div_lt_of_lt_mul (by rw [Nat.mul_comm]; exact hj)) (Nat.mod_lt _ hC)
theorem gridF_self {l : List (List C4)} (h : GW l) : gridF l.length (nC l) (fun r c => at2 l r c) = l := by
  unfold gridF
  apply List.ext_getElem
  · simp
  · intro i h1 h2
    have hi : i < l.length := h2
    have hrow := h.row hi
    have e : l.getD i [] = l[i] := by rw [List.getD, List.getElem?_eq_getElem hi]; rfl
    simp only [List.getElem_map, List.getElem_range]
    apply List.ext_getElem
    · simp; rw [e] at hrow; exact hrow.symm
    · intro j h3 h4
      simp only [List.getElem_map, List.getElem_range, at2, Int.toNat_natCast]
      rw [e, List.getD, List.getElem?_eq_getElem h4]; rfl

/-! ### A part is turned -/
def inRg (fr fc tr tc r c : Int) : Bool := !aheadB r c fr fc && !aheadB tr tc r c
def tuX (fr fc tr tc : Int) (h : C4 → C4) (r c : Int) (x : C4) : C4 := if inRg fr fc tr tc r c = true then h x else x
def tuAt (l : List (List C4)) (fr fc tr tc : Int) (h : C4 → C4) (i k r c : Nat) : C4 := if r < i ∨ (r = i ∧ c < k) then tuX fr fc tr tc h r c (at2 l r c) else at2 l r c
def tuG (l : List (List C4)) (fr fc tr tc : Int) (h : C4 → C4) (i k : Nat) : List (List C4) := gridF l.length (nC l) (tuAt l fr fc tr tc h i k)
def turnL (l : List (List C4)) (fr fc tr tc : Int) (h : C4 → C4) : List (List C4) := gridF l.length (nC l) fun r c => tuX fr fc tr tc h r c (at2 l r c)
def tuP (l : List (List C4)) (fr fc tr tc : Int) (h : C4 → C4) (r c : Nat) : Bool := neC (tuX fr fc tr tc h r c (at2 l r c)) (at2 l r c)
def tuN (l : List (List C4)) (fr fc tr tc : Int) (h : C4 → C4) (i k : Nat) : Int := (cntP (nC l) (tuP l fr fc tr tc h) (i * nC l + k) : Nat)
section
variable {l : List (List C4)} {fr fc tr tc : Int} {h : C4 → C4} {i k : Nat}
theorem tuG_length : (tuG l fr fc tr tc h i k).length = l.length := gridF_length _ _ _
theorem tuG_nC (hg : GW l) : nC (tuG l fr fc tr tc h i k) = nC l := gridF_nC (by have := hg.r0; omega)
theorem tuG_gw (hg : GW l) : GW (tuG l fr fc tr tc h i k) := gridF_gw hg.r0 hg.r1 hg.c0 hg.c1
theorem turnL_length : (turnL l fr fc tr tc h).length = l.length := gridF_length _ _ _
theorem turnL_nC (hg : GW l) : nC (turnL l fr fc tr tc h) = nC l := gridF_nC (by have := hg.r0; omega)
theorem turnL_gw (hg : GW l) : GW (turnL l fr fc tr tc h) := gridF_gw hg.r0 hg.r1 hg.c0 hg.c1
theorem turnL_at {r c : Nat} (hr : r < l.length) (hc : c < nC l) : at2 (turnL l fr fc tr tc h) r c = tuX fr fc tr tc h r c (at2 l r c) := gridF_at hr hc
theorem tuG_zero (hg : GW l) : tuG l fr fc tr tc h 0 0 = l := by
  refine Eq.trans (gridF_congr fun r c _ _ => ?_) (gridF_self hg)
  rw [tuAt, if_neg (by omega)]
theorem tuG_at (hi : i < l.length) (hk : k < nC l) : at2 (tuG l fr fc tr tc h i k) i k = at2 l i k := by
  rw [tuG, gridF_at hi hk, tuAt, if_neg (by omega)]
theorem tuG_step (hi : i < l.length) (hk : k < nC l) : set2 (tuG l fr fc tr tc h i k) i k (tuX fr fc tr tc h i k (at2 l i k)) = tuG l fr fc tr tc h i (k + 1) := by
  unfold tuG
  rw [gridF_set hi hk]
  refine gridF_congr fun r c _ _ => ?_
  unfold tuAt
  by_cases hrc : r = i ∧ c = k
  · obtain ⟨rfl, rfl⟩ := hrc
    rw [if_pos ⟨rfl, rfl⟩, if_pos (by omega)]
  · rw [if_neg hrc]
    by_cases h2 : r < i ∨ (r = i ∧ c < k)
    · rw [if_pos h2, if_pos (by omega)]
    · rw [if_neg h2, if_neg (by omega)]
theorem tuG_keep (he : tuX fr fc tr tc h i k (at2 l i k) = at2 l i k) : tuG l fr fc tr tc h i k = tuG l fr fc tr tc h i (k + 1) := by
  refine gridF_congr fun r c _ _ => ?_
  unfold tuAt
  by_cases hrc : r = i ∧ c = k
  · obtain ⟨rfl, rfl⟩ := hrc
    rw [if_neg (by omega), if_pos (by omega), he]
  · by_cases h2 : r < i ∨ (r = i ∧ c < k)
    · rw [if_pos h2, if_pos (by omega)]
    · rw [if_neg h2, if_neg (by omega)]
theorem tuG_next : tuG l fr fc tr tc h i (nC l) = tuG l fr fc tr tc h (i + 1) 0 := by
  refine gridF_congr fun r c _ hc => ?_
  unfold tuAt
  by_cases h2 : r < i ∨ (r = i ∧ c < nC l)
  · rw [if_pos h2, if_pos (by omega)]
  · rw [if_neg h2, if_neg (by omega)]
theorem tuG_all : tuG l fr fc tr tc h l.length 0 = turnL l fr fc tr tc h := by
  refine gridF_congr fun r c hr _ => ?_
  rw [tuAt, if_pos (by omega)]
theorem tuN_zero : tuN l fr fc tr tc h 0 0 = 0 := by unfold tuN; rw [Nat.zero_mul]; rfl
theorem tuN_step (hk : k < nC l) (hn : neC (tuX fr fc tr tc h i k (at2 l i k)) (at2 l i k) = true) : tuN l fr fc tr tc h i (k + 1) = tuN l fr fc tr tc h i k + 1 := by
  unfold tuN
  rw [← Nat.add_assoc, cntP_step _ hk, if_pos (show tuP l fr fc tr tc h i k = true from hn)]; rfl
theorem tuN_keep (hk : k < nC l) (he : tuX fr fc tr tc h i k (at2 l i k) = at2 l i k) : tuN l fr fc tr tc h i k = tuN l fr fc tr tc h i (k + 1) := by
  unfold tuN
  rw [← Nat.add_assoc, cntP_step _ hk, if_neg (by rw [tuP, he, neC_no.2 rfl]; decide)]; rfl
theorem tuN_next : tuN l fr fc tr tc h i (nC l) = tuN l fr fc tr tc h (i + 1) 0 := by
  unfold tuN
  rw [Nat.add_mul, Nat.one_mul, Nat.add_zero]
theorem tuN_bd (hg : GW l) (hi : i ≤ l.length) (hk : k ≤ nC l) : 0 ≤ tuN l fr fc tr tc h i k ∧ tuN l fr fc tr tc h i k ≤ 65536 := by
  have h1 := cntP_le (nC l) (tuP l fr fc tr tc h) (i * nC l + k)
  have h2 : i * nC l ≤ 255 * 255 := Nat.mul_le_mul (Nat.le_trans hi hg.r1) hg.c1
  have h3 := hg.c1
  unfold tuN
  omega
theorem tu_same (hg : GW l) {x y : Int} (hx : 0 ≤ x) (hx2 : x < l.length) (hy : 0 ≤ y) (hy2 : y < nC l) (he : tuX fr fc tr tc h x y (at2 l x y) = at2 l x y) :
    (0 ≤ IntKind.i64.wrap (y + 1) ∧ IntKind.i64.wrap (y + 1) ≤ (nC l : Int)) ∧ (tuG l fr fc tr tc h x.toNat y.toNat = tuG l fr fc tr tc h x.toNat (IntKind.i64.wrap (y + 1)).toNat ∧
      SV.v (Value.int .i64 (tuN l fr fc tr tc h x.toNat y.toNat)) = SV.v (Value.int .i64 (tuN l fr fc tr tc h x.toNat (IntKind.i64.wrap (y + 1)).toNat))) ∧ ((nC l : Int) - IntKind.i64.wrap (y + 1)).toNat < ((nC l : Int) - y).toNat := by
  have hC := hg.c1
  obtain ⟨i, rfl⟩ : ∃ i : Nat, x = i := ⟨x.toNat, by omega⟩
  obtain ⟨k, rfl⟩ : ∃ k : Nat, y = k := ⟨y.toNat, by omega⟩
  rw [wrap64 (by omega) (by omega)]
  have e1 : ((k : Int) + 1).toNat = k + 1 := by omega
  rw [e1, Int.toNat_natCast, Int.toNat_natCast, ← tuG_keep he, ← tuN_keep (by omega) he]
  exact ⟨by omega, ⟨rfl, rfl⟩, by omega⟩
theorem tu_new (hg : GW l) {x y : Int} (hx : 0 ≤ x) (hx2 : x < l.length) (hy : 0 ≤ y) (hy2 : y < nC l) {z : C4} (hz : z = h (at2 l x y)) (hin : inRg fr fc tr tc x y = true) (hne : neC z (at2 l x y) = true) :
    (0 ≤ IntKind.i64.wrap (y + 1) ∧ IntKind.i64.wrap (y + 1) ≤ (nC l : Int)) ∧ (set2 (tuG l fr fc tr tc h x.toNat y.toNat) x y z = tuG l fr fc tr tc h x.toNat (IntKind.i64.wrap (y + 1)).toNat ∧
      SV.v (Value.int .i64 (IntKind.i64.wrap (tuN l fr fc tr tc h x.toNat y.toNat + 1))) = SV.v (Value.int .i64 (tuN l fr fc tr tc h x.toNat (IntKind.i64.wrap (y + 1)).toNat))) ∧ ((nC l : Int) - IntKind.i64.wrap (y + 1)).toNat < ((nC l : Int) - y).toNat := by
  have hC := hg.c1
  obtain ⟨i, rfl⟩ : ∃ i : Nat, x = i := ⟨x.toNat, by omega⟩
  obtain ⟨k, rfl⟩ : ∃ k : Nat, y = k := ⟨y.toNat, by omega⟩
  have hX : tuX fr fc tr tc h i k (at2 l i k) = z := by rw [tuX, if_pos hin, hz]
  have hb := tuN_bd (fr := fr) (fc := fc) (tr := tr) (tc := tc) (h := h) (i := i) (k := k) hg (by omega) (by omega)
  rw [wrap64 (x := (k : Int) + 1) (by omega) (by omega)]
  have e1 : ((k : Int) + 1).toNat = k + 1 := by omega
  rw [e1, Int.toNat_natCast, Int.toNat_natCast, wrap64 (by omega) (by omega), tuN_step (by omega) (by rw [hX]; exact hne), ← hX, tuG_step (by omega) (by omega)]
  exact ⟨by omega, ⟨rfl, rfl⟩, by omega⟩
theorem tu_row (hg : GW l) {x : Int} (hx : 0 ≤ x) (hx2 : x < l.length) :
    (0 ≤ IntKind.i64.wrap (x + 1) ∧ IntKind.i64.wrap (x + 1) ≤ (l.length : Int)) ∧ (tuG l fr fc tr tc h x.toNat (nC l) = tuG l fr fc tr tc h (IntKind.i64.wrap (x + 1)).toNat 0 ∧
      SV.v (Value.int .i64 (tuN l fr fc tr tc h x.toNat (nC l))) = SV.v (Value.int .i64 (tuN l fr fc tr tc h (IntKind.i64.wrap (x + 1)).toNat 0))) ∧ ((l.length : Int) - IntKind.i64.wrap (x + 1)).toNat < ((l.length : Int) - x).toNat := by
  have hR := hg.r1
  rw [wrap64 (by omega) (by omega)]
  have e1 : (x + 1).toNat = x.toNat + 1 := by omega
  rw [e1, tuG_next, tuN_next]
  exact ⟨by omega, ⟨rfl, rfl⟩, by omega⟩
theorem tu_get (hg : GW l) {x y : Int} (hx : 0 ≤ x) (hx2 : x < l.length) (hy : 0 ≤ y) (hy2 : y < nC l) :
    ((tuG l fr fc tr tc h x.toNat y.toNat).getD x.toNat []).getD y.toNat C4.no = at2 l x y ∧ ((tuG l fr fc tr tc h x.toNat y.toNat).getD x.toNat []).length = nC l := by
  obtain ⟨i, rfl⟩ : ∃ i : Nat, x = i := ⟨x.toNat, by omega⟩
  obtain ⟨k, rfl⟩ : ∃ k : Nat, y = k := ⟨y.toNat, by omega⟩
  refine ⟨tuG_at (i := i) (k := k) (by omega) (by omega), ?_⟩
  rw [Int.toNat_natCast, (tuG_gw hg).row (by rw [tuG_length]; omega), tuG_nC hg]
theorem tu_out {x y : Int} (hf : aheadB x y fr fc = true) (X : C4) : tuX fr fc tr tc h x y X = X := by rw [tuX, inRg, hf]; rfl
theorem tu_out2 {x y : Int} (hf : aheadB tr tc x y = true) (X : C4) : tuX fr fc tr tc h x y X = X := by rw [tuX, inRg, hf]; simp
theorem tu_in {x y : Int} (h1 : aheadB x y fr fc = false) (h2 : aheadB tr tc x y = false) : inRg fr fc tr tc x y = true := by rw [inRg, h1, h2]; rfl
end
/-- Whether there is something to turn, and what is wrong otherwise. -/
def tuOk (l : List (List C4)) (fr fc tr tc : Int) : Bool := inB l fr fc && (inB l tr tc && !aheadB tr tc fr fc)
def tuE (l : List (List C4)) (fr fc tr tc : Int) : Int := if inB l fr fc = true ∧ inB l tr tc = true then 1 else 11
def hWipe (c : C4) (g : Bool) (x : C4) : C4 := if g && x.gd then x else c
def hDye (a : Int) (g : Bool) (x : C4) : C4 := if g && x.gd then x else { x with a := a }
def hShield (on : Bool) (x : C4) : C4 := { x with gd := on }
theorem neC_eq (x y : C4) : neC x y = !(x.g == y.g && (x.a == y.a && (x.gd == y.gd && x.m == y.m))) := by simp [neC]
def tabQ : List (Nat × ACon Unit) := (104, lcAhead) :: tabE
theorem tabQ_ok : LCs Try.prog tabQ := ⟨ok_ahead, tabE_ok⟩
end Go.Proofs.Ytdhhagangmkloaa
