/- Calls that come in, of any size that the form reaches: how Few counts them. -/
import Derived.Test.YtienakdnmhmglaaQuK
import Derived.Test.YtienakdnmhmglaaVWt
set_option linter.unusedSimpArgs false
set_option linter.unusedVariables false
set_option linter.unusedSectionVars false
namespace Go.Proofs.Ytienakdnmhmglaa
open Go Go.Sym

/-- What is known of calls that come in. -/
structure OpsR (l : List Opr) : Prop where
  len : l.length ≤ reachBytes
  each : ∀ o ∈ l, o.2.1.length ≤ reachBytes ∧ ∀ s ∈ o.2.1, s.size ≤ reachBytes
theorem ops_inR {ro : PH} {v : Value} (h : IT.den ro reachBytes (.sl [.i .i64, .sl [.s], .i .i64]) v) : ∃ l, OpsR l ∧ VV ro (opsIC l) v := by
  obtain ⟨l, h1, h2, h3⟩ := vv_sl (α := Opr) op0 (φ := fun o => o.2.1.length ≤ reachBytes ∧ ∀ s ∈ o.2.1, s.size ≤ reachBytes) (c := opIC) h fun vs hvs => by
    simp only [IT.dens, it_i] at hvs
    obtain ⟨_, _, rfl, ⟨a, rfl, _⟩, v, _, rfl, hL, _, _, rfl, ⟨n, rfl, _⟩, rfl⟩ := hvs
    obtain ⟨L, g1, g2, g3⟩ := vv_ss hL
    refine ⟨(a, L, n), ⟨g1, g2⟩, fun fo hf => ?_⟩
    simp only [List.length_cons, List.length_nil] at hf
    match fo, hf with
    | 0, _ => exact ⟨_, rfl, rfl⟩
    | 1, _ => exact ⟨_, rfl, g3⟩
    | 2, _ => exact ⟨_, rfl, rfl⟩
  exact ⟨l, ⟨h1, h2⟩, h3⟩
theorem OpsR.at {l : List Opr} (h : OpsR l) (i : Nat) : (l.getD i op0).2.1.length ≤ reachBytes ∧ ∀ s ∈ (l.getD i op0).2.1, s.size ≤ reachBytes := by
  rcases Nat.lt_or_ge i l.length with hi | hi
  · rw [List.getD, List.getElem?_eq_getElem hi]
    exact h.each _ (List.getElem_mem hi)
  · rw [List.getD, List.getElem?_eq_none hi]
    exact ⟨Nat.zero_le _, fun s hs => by simp [op0] at hs⟩
def sumK (L : List ByteArray) (k : Nat) : Nat := (bytesLs (L.take k)).length
def sumT (l : List Opr) (i : Nat) : Nat := ((l.take i).map fun o => (bytesLs o.2.1).length).sum
theorem bytesLs_app (a b : List ByteArray) : bytesLs (a ++ b) = bytesLs a ++ bytesLs b := by simp [bytesLs]
theorem sumK_succ {L : List ByteArray} {k : Nat} (h : k < L.length) : sumK L (k + 1) = sumK L k + (L.getD k ByteArray.empty).size := by
  unfold sumK
  rw [List.take_succ_eq_append_getElem h, bytesLs_app, List.length_append, List.getD, List.getElem?_eq_getElem h]
  simp [bytesLs, bytesL_length]
theorem sumK_all (L : List ByteArray) : sumK L L.length = (bytesLs L).length := by unfold sumK; rw [List.take_length]
theorem sumT_succ {l : List Opr} {i : Nat} (h : i < l.length) : sumT l (i + 1) = sumT l i + (bytesLs (l.getD i op0).2.1).length := by
  unfold sumT
  rw [List.take_succ_eq_append_getElem h, List.map_append, List.sum_append, List.getD, List.getElem?_eq_getElem h]
  simp
theorem sumK_le {L : List ByteArray} {B : Nat} (h : ∀ s ∈ L, s.size ≤ B) (k : Nat) : sumK L k ≤ L.length * B := by
  have h1 := bytesLs_bound (L := L.take k) (B := B) fun s hs => h s (List.mem_of_mem_take hs)
  have h2 : (L.take k).length * B ≤ L.length * B := Nat.mul_le_mul_right _ (by rw [List.length_take]; omega)
  exact Nat.le_trans h1 h2
/-- The count, as long as the calls are no more than 60. -/
structure FewI (l : List Opr) (i n : Int) : Prop where
  h : i ≤ 60 → n = sumT l i.toNat ∧ ∀ j : Nat, (j : Int) < i → (l.getD j op0).2.1.length ≤ 20
structure FewK (l : List Opr) (i n0 k n : Int) : Prop where
  h : i ≤ 59 → n = n0 + sumK (l.getD i.toNat op0).2.1 k.toNat
theorem few_zero (l : List Opr) : FewI l 0 0 := ⟨fun _ => ⟨rfl, fun j hj => by omega⟩⟩
theorem fewk_zero (l : List Opr) (i n : Int) : FewK l i n 0 n := ⟨fun _ => by simp [sumK, bytesLs]⟩
theorem sumT_le {l : List Opr} (hl : OpsR l) : ∀ {i : Nat}, i ≤ l.length → (∀ j : Nat, j < i → (l.getD j op0).2.1.length ≤ 20) → sumT l i ≤ i * (20 * reachBytes)
  | 0, _, _ => by simp [sumT]
  | i + 1, hi, h => by
    have ih := sumT_le hl (i := i) (by omega) fun j hj => h j (by omega)
    have h1 := bytesLs_bound (hl.at i).2
    have h2 : (l.getD i op0).2.1.length * reachBytes ≤ 20 * reachBytes := Nat.mul_le_mul_right _ (h i (by omega))
    rw [sumT_succ (by omega), Nat.succ_mul]
    omega
theorem fewk_next {l : List Opr} (hl : OpsR l) {i n0 k n : Int} (i0 : 0 ≤ i) (il : i < l.length) (hi : FewI l i n0) (h20 : (l.getD i.toNat op0).2.1.length ≤ 20) (k0 : 0 ≤ k) (kl : k < (l.getD i.toNat op0).2.1.length) (h : FewK l i n0 k n) :
    FewK l i n0 (IntKind.i64.wrap (k + 1)) (IntKind.i64.wrap (n + ((l.getD i.toNat op0).2.1.getD k.toNat ByteArray.empty).size)) := by
  refine ⟨fun h59 => ?_⟩
  obtain ⟨e1, e2⟩ := hi.h (by omega)
  have e3 := h.h h59
  have b1 := sumT_le hl (i := i.toNat) (by omega) fun j hj => e2 j (by omega)
  have b2 := sumK_le (hl.at i.toNat).2 (k.toNat + 1)
  have b3 : (l.getD i.toNat op0).2.1.length * reachBytes ≤ 20 * reachBytes := Nat.mul_le_mul_right _ h20
  have b4 : i.toNat * (20 * reachBytes) ≤ 59 * (20 * reachBytes) := Nat.mul_le_mul_right _ (by omega)
  have hs := sumK_succ (L := (l.getD i.toNat op0).2.1) (k := k.toNat) (by omega)
  have hr : reachBytes = 140737488351232 := rfl
  rw [hr] at b1 b2 b3 b4
  rw [wrap64 (x := k + 1) (by omega) (by omega), show (k + 1).toNat = k.toNat + 1 by omega, wrap64 (by omega) (by omega)]
  omega
theorem few_next {l : List Opr} {i n0 k n : Int} (i0 : 0 ≤ i) (il : i < l.length) (hl : l.length ≤ reachBytes) (hi : FewI l i n0) (h20 : (l.getD i.toNat op0).2.1.length ≤ 20) (k1 : k = (l.getD i.toNat op0).2.1.length) (h : FewK l i n0 k n) : FewI l (IntKind.i64.wrap (i + 1)) n := by
  have hr : reachBytes = 140737488351232 := rfl
  rw [hr] at hl
  rw [wrap64 (x := i + 1) (by omega) (by omega)]
  refine ⟨fun h60 => ?_⟩
  obtain ⟨e1, e2⟩ := hi.h (by omega)
  have e3 := h.h (by omega)
  have hs := sumT_succ (l := l) (i := i.toNat) (by omega)
  have hk := sumK_all (l.getD i.toNat op0).2.1
  rw [show k.toNat = (l.getD i.toNat op0).2.1.length by omega] at e3
  rw [show (i + 1).toNat = i.toNat + 1 by omega]
  refine ⟨by omega, fun j hj => ?_⟩
  by_cases hji : (j : Int) < i
  · exact e2 j hji
  · rw [show j = i.toNat by omega]; exact h20
theorem sumT_mem {l : List Opr} : ∀ {i j : Nat}, i ≤ l.length → j < i → (bytesLs (l.getD j op0).2.1).length ≤ sumT l i
  | 0, _, _, h => by omega
  | i + 1, j, hi, h => by
    rw [sumT_succ (by omega)]
    by_cases hj : j < i
    · have := sumT_mem (l := l) (i := i) (j := j) (by omega) hj
      omega
    · rw [show j = i by omega]; omega
theorem size_le_bytesLs {L : List ByteArray} {s : ByteArray} (h : s ∈ L) : s.size ≤ (bytesLs L).length := by
  induction L with
  | nil => simp at h
  | cons a r ih =>
    have e : (bytesLs (a :: r)).length = a.size + (bytesLs r).length := by simp [bytesLs, bytesL_length]
    rw [e]
    rcases List.mem_cons.1 h with rfl | h
    · omega
    · have := ih h; omega
/-- Calls that are few are small. -/
theorem few_ops {l : List Opr} {i n : Int} (hi : FewI l i n) (il : i = l.length) (l60 : (l.length : Int) ≤ 60) (n2 : n ≤ 20000) : OpsIn l := by
  obtain ⟨e1, e2⟩ := hi.h (by omega)
  rw [show i.toNat = l.length by omega] at e1
  refine ⟨by omega, fun o ho => ?_⟩
  obtain ⟨j, hj, rfl⟩ := List.mem_iff_getElem.1 ho
  have g : l.getD j op0 = l[j] := by rw [List.getD, List.getElem?_eq_getElem hj]; rfl
  have h1 := e2 j (by omega)
  have h2 := sumT_mem (l := l) (Nat.le_refl _) hj
  rw [g] at h1 h2
  exact ⟨by omega, fun s hs => by have := size_le_bytesLs hs; omega⟩
/-- The calls are counted. -/
def annF0 (l : List Opr) : Ann Unit where
  α := Int × Int
  φ _ x := 0 ≤ x.1 ∧ x.1 ≤ l.length ∧ FewI l x.1 x.2
  μ _ x := (l.length - x.1).toNat
  get st := match getI st.tm 4 with
    | some k => match getI st.tm 3 with
      | some n => some (k, n)
      | none => none
    | none => none
  f st x := tmpl [0] [(4, .v (.int .i64 x.1)), (3, .v (.int .i64 x.2))] [] st
def annF1 (l : List Opr) : Ann Unit where
  α := Int × Int
  φ st x := 0 ≤ x.1 ∧ x.1 ≤ (l.getD (tI st.tm 4).toNat op0).2.1.length ∧ FewK l (tI st.tm 4) (tI st.tm 3) x.1 x.2
  μ st x := ((l.getD (tI st.tm 4).toNat op0).2.1.length - x.1).toNat
  get st := match getI st.tm 5 with
    | some k => match getI st.tm 3 with
      | some n => some (k, n)
      | none => none
    | none => none
  f st x := tmpl [0, 4] [(5, .v (.int .i64 x.1)), (3, .v (.int .i64 x.2))] [] st
end Go.Proofs.Ytienakdnmhmglaa
