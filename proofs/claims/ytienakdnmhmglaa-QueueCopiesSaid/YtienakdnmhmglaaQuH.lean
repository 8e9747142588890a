/- What a queue holds, in plain words. -/
import Derived.Test.YtienakdnmhmglaaQuF
import Derived.Test.YtienakdnmhmglaaVW
set_option linter.unusedSimpArgs false
set_option linter.unusedVariables false
set_option linter.unusedSectionVars false
namespace Go.Proofs.Ytienakdnmhmglaa
open Go Go.Sym

theorem QWf.get {fr n k : Int} {xs : List Int} {m : Nat} (h : QWf fr n xs m) (h0 : 0 ≤ k) (h1 : k ≤ n) : QWf ((fr + k) % m) (n - k) xs m := by
  obtain ⟨a1, a2, a3, a4, a5, a6, a7⟩ := h
  rcases Nat.eq_zero_or_pos m with rfl | hm
  · have : fr = 0 := by omega
    have : k = 0 := by omega
    subst_vars
    exact ⟨a1, a2, by simp, .inr ⟨rfl, by simp⟩, by omega, by omega, a7⟩
  · have e1 := Int.emod_nonneg (fr + k) (by omega : (m : Int) ≠ 0)
    have e2 := Int.emod_lt_of_pos (fr + k) (by omega : 0 < (m : Int))
    exact ⟨a1, a2, e1, .inl e2, by omega, by omega, a7⟩
theorem tk_add {fr n k : Int} {xs : List Int} {m : Nat} (h0 : 0 ≤ k) (h1 : k ≤ n) : tk xs fr m n = tk xs fr m k ++ tk xs ((fr + k) % m) m (n - k) := by
  unfold tk
  have e : n.toNat = k.toNat + (n - k).toNat := by omega
  rw [e, List.range_add, List.map_append, List.map_map]
  congr 1
  refine List.map_congr_left fun j _ => ?_
  simp only [Function.comp_apply]
  congr 2
  rw [Int.emod_add_emod]
  congr 1
  omega
theorem tk_zero (xs : List Int) (fr : Int) (m : Nat) : tk xs fr m 0 = [] := by simp [tk]
theorem bytesOf_append (l r : List Int) : bytesOf (l ++ r) = bytesOf l ++ bytesOf r := by
  apply ByteArray.ext; simp [bytesOf]
theorem bytesOf_bytesL (s : ByteArray) : bytesOf (bytesL s) = s := by
  apply ByteArray.ext
  simp only [bytesOf, bytesL, List.map_map]
  have : s.data.toList.map ((fun n : Int => UInt8.ofNat n.toNat) ∘ fun b : UInt8 => (b.toNat : Int)) = s.data.toList := by
    rw [List.map_congr_left (g := id) fun b _ => by simp]
    simp
  rw [this]
theorem bytesOf_size (l : List Int) : (bytesOf l).size = l.length := by
  simp [bytesOf, ByteArray.size]
theorem kq_ge {c n : Int} (h0 : 0 ≤ n) (h : n ≤ c) : kq c n = n := by
  unfold kq
  split <;> split <;> omega
theorem getD_le {L : List ByteArray} {B : Nat} (h : ∀ s ∈ L, s.size ≤ B) (i : Nat) : (L.getD i ByteArray.empty).size ≤ B := by
  rcases Nat.lt_or_ge i L.length with hi | hi
  · rw [List.getD, List.getElem?_eq_getElem hi]; exact h _ (List.getElem_mem hi)
  · rw [List.getD, List.getElem?_eq_none hi]; simp
theorem qwf_zero {m : Nat} (h0 : 0 < m) (h : m ≤ 4096) : QWf 0 0 (List.replicate m 0) m :=
  ⟨by simp, h, by omega, .inl (by omega), by omega, by omega, fun x hx => by have := (List.mem_replicate.1 hx).2; omega⟩
end Go.Proofs.Ytienakdnmhmglaa
