/- Bytes in a ring. -/
import Derived.Test.YtienakdnmhmglaaQuC
set_option linter.unusedSimpArgs false
set_option linter.unusedVariables false
set_option linter.unusedSectionVars false
namespace Go.Proofs.Ytienakdnmhmglaa
open Go Go.Sym

/-! ### Bytes put into a ring -/
def putL (m : Nat) : List Int → Int → List Int → List Int
  | xs, _, [] => xs
  | xs, s, b :: bs => putL m (xs.set (s % (m : Int)).toNat b) (s + 1) bs
theorem putL_length {m : Nat} : ∀ (bs xs : List Int) (s : Int), (putL m xs s bs).length = xs.length
  | [], _, _ => rfl
  | b :: bs, xs, s => by simp [putL, putL_length bs]
theorem putL_snoc {m : Nat} : ∀ (bs xs : List Int) (s b : Int), putL m xs s (bs ++ [b]) = (putL m xs s bs).set ((s + bs.length) % (m : Int)).toNat b
  | [], xs, s, b => by simp [putL]
  | c :: bs, xs, s, b => by
    simp only [List.cons_append, putL]
    rw [putL_snoc bs]
    have e : s + 1 + (bs.length : Int) = s + ((c :: bs).length : Nat) := by simp only [List.length_cons]; omega
    rw [e]
theorem putL_append {m : Nat} : ∀ (bs cs xs : List Int) (s : Int), putL m xs s (bs ++ cs) = putL m (putL m xs s bs) (s + bs.length) cs
  | [], cs, xs, s => by simp [putL]
  | b :: bs, cs, xs, s => by
    simp only [List.cons_append, putL]
    rw [putL_append bs]
    have e : s + 1 + (bs.length : Int) = s + ((b :: bs).length : Nat) := by simp only [List.length_cons]; omega
    rw [e]
def byteR (l : List Int) : Prop := ∀ x ∈ l, 0 ≤ x ∧ x ≤ 255
theorem QWf.put1 {fr n x : Int} {xs : List Int} {m : Nat} (h : QWf fr n xs m) (hn : n < m) (hx : 0 ≤ x ∧ x ≤ 255) : QWf fr (n + 1) (xs.set ((fr + n) % (m : Int)).toNat x) m ∧ tk (xs.set ((fr + n) % (m : Int)).toNat x) fr m (n + 1) = tk xs fr m n ++ [x] := by
  obtain ⟨h1, h2, h3, h4, h5, h6, h7⟩ := h
  have hm : 0 < (m : Int) := by omega
  have e1 := Int.emod_nonneg (fr + n) (by omega : (m : Int) ≠ 0)
  have e2 := Int.emod_lt_of_pos (fr + n) hm
  have hlt : ((fr + n) % (m : Int)).toNat < xs.length := by omega
  refine ⟨⟨by simp [h1], h2, h3, h4, by omega, by omega, fun y hy => ?_⟩, ?_⟩
  · rcases List.mem_or_eq_of_mem_set hy with hy | rfl
    · exact h7 y hy
    · exact hx
  · rw [tk_succ h5]
    have e3 : (xs.set ((fr + n) % (m : Int)).toNat x).getD ((fr + n) % (m : Int)).toNat 0 = x := by simp [List.getD, hlt]
    rw [e3]
    congr 1
    unfold tk
    refine List.map_congr_left fun j hj => ?_
    have hj : (j : Int) < n := by have := List.mem_range.1 hj; omega
    have e4 := Int.emod_nonneg (fr + j) (by omega : (m : Int) ≠ 0)
    have hne : ((fr + n) % (m : Int)).toNat ≠ ((fr + j) % (m : Int)).toNat := fun e => by
      have e5 : (fr + n) % (m : Int) = (fr + j) % (m : Int) := by omega
      have e6 := Int.emod_emod_of_dvd (fr + n) (Int.dvd_refl (m : Int))
      have h8 : (m : Int) ∣ ((fr + n) - (fr + j)) := Int.dvd_of_emod_eq_zero (by rw [Int.sub_emod, e5, Int.sub_self, Int.zero_emod])
      have h9 : fr + n - (fr + j) = n - j := by omega
      rw [h9] at h8
      have := Int.le_of_dvd (by omega) h8
      omega
    simp [List.getD, List.getElem?_set_ne hne]
theorem QWf.put {fr : Int} {m : Nat} : ∀ (bs : List Int) {n : Int} {xs : List Int}, QWf fr n xs m → n + bs.length ≤ m → byteR bs →
    QWf fr (n + bs.length) (putL m xs (fr + n) bs) m ∧ tk (putL m xs (fr + n) bs) fr m (n + bs.length) = tk xs fr m n ++ bs
  | [], n, xs, h, _, _ => by simp [putL, h]
  | b :: bs, n, xs, h, hl, hb => by
    simp only [List.length_cons] at hl
    obtain ⟨h1, h2⟩ := h.put1 (x := b) (by omega) (hb b List.mem_cons_self)
    obtain ⟨h3, h4⟩ := QWf.put bs h1 (by omega) fun x hx => hb x (List.mem_cons_of_mem _ hx)
    have e : fr + (n + 1) = fr + n + 1 := by omega
    rw [e] at h3 h4
    have e2 : n + 1 + (bs.length : Int) = n + ((b :: bs).length : Nat) := by simp only [List.length_cons]; omega
    rw [e2] at h3 h4
    refine ⟨h3, ?_⟩
    simp only [putL]
    rw [h4, h2]; simp
/-- The bytes of a text. -/
def bytesL (s : ByteArray) : List Int := s.data.toList.map fun b => (b.toNat : Int)
theorem bytesL_length (s : ByteArray) : (bytesL s).length = s.size := by simp [bytesL]
theorem bytesL_range (s : ByteArray) : byteR (bytesL s) := fun x hx => by
  simp only [bytesL, List.mem_map] at hx
  obtain ⟨b, _, rfl⟩ := hx
  have := b.toNat_lt
  omega
theorem byteR_take {l : List Int} (h : byteR l) (n : Nat) : byteR (l.take n) := fun x hx => h x (List.mem_of_mem_take hx)
theorem byteR_append {l r : List Int} (h : byteR l) (h' : byteR r) : byteR (l ++ r) := fun x hx => by
  rcases List.mem_append.1 hx with h1 | h1
  · exact h x h1
  · exact h' x h1
theorem bytesL_take_succ {s : ByteArray} {j : Int} (h0 : 0 ≤ j) (h : j < s.size) : (bytesL s).take (j + 1).toNat = (bytesL s).take j.toNat ++ [byteAt s j.toNat] := by
  rw [show (j + 1).toNat = j.toNat + 1 by omega, List.take_succ_eq_append_getElem (by rw [bytesL_length]; omega)]
  congr 1
  have hl : j.toNat < s.data.toList.length := by
    have := bytesL_length s
    simp only [bytesL, List.length_map] at this
    omega
  have hs : j.toNat < s.data.size := by simpa using hl
  simp only [bytesL, byteAt, List.getD, List.getElem_map, List.getElem?_eq_getElem hl, Option.getD_some]
theorem byteAt_range (s : ByteArray) (j : Nat) : 0 ≤ byteAt s j ∧ byteAt s j ≤ 255 := by
  unfold byteAt
  have := (s.data.toList.getD j 0).toNat_lt
  omega

end Go.Proofs.Ytienakdnmhmglaa
