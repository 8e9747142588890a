/- Regions that draw their order of evaluation: sound. -/
import Derived.Test.YtienakdnmhmglaaVL
set_option linter.unusedSimpArgs false
set_option linter.unusedVariables false
set_option linter.unusedSectionVars false
namespace Go.Sym
open Go
variable {τ : Type} {I : Inv τ}

/-- An item that was not there is there. -/
theorem Models.fill {e : Env} {H : List (SB τ)} {Fr : PH} {w w' : World} (h : Models I e H Fr w) {i : Nat} (hi : H[i]? = some .gone) (he : e i = none) {b : SB τ} {r : Ref} {hn : PH}
    (hb : ItemOk I (ext e i r) b (some r) hn) (hold : Ext w w') (hnew : Sub hn w') (hfresh : ∀ k, hn k ≠ none → w.heap.size ≤ k) : Models I (ext e i r) (H.set i b) Fr w' := by
  obtain ⟨h0, hs, h1, h2, h3, h4, h5, h6⟩ := h
  have hlt : i < H.length := (List.getElem?_eq_some_iff.1 hi).1
  have hgi : hs i = emp := h1 i _ hi
  have hdn : ∀ (x : PH), Sub x w → Disj x hn := fun x hx k => by
    cases hk : x k with
    | none => exact .inl rfl
    | some o =>
      right
      have := lt_of_sub hx hk
      cases hq : hn k with
      | none => rfl
      | some o' => have := hfresh k (by rw [hq]; simp); omega
  refine ⟨h0.stay hold.stay, fun j => if j = i then hn else hs j, ?_, ?_, ?_, ?_, ?_, fun k o hk => hold.heap k o (h6 k o hk)⟩
  · intro j b' hj
    by_cases hji : j = i
    · subst hji
      simp [hlt] at hj
      subst hj
      simp only [if_true, ext_self]
      exact hb
    · rw [List.getElem?_set_ne (fun e => hji e.symm)] at hj
      simp only [hji, if_false]
      rw [ext_ne _ _ _ hji]
      exact (h1 j b' hj).mono I (le_ext he)
  · intro j hj
    have hj' : H.length ≤ j := by simpa using hj
    have hji : j ≠ i := by omega
    simp only [hji, if_false]
    rw [ext_ne _ _ _ hji]
    exact h2 j hj'
  · intro j k hjk
    by_cases hj : j = i
    · have hk : k ≠ i := by omega
      simp only [hj, hk, if_true, if_false]
      intro m; exact (hdn _ (h5 k) m).symm
    · by_cases hk : k = i
      · simp only [hj, hk, if_true, if_false]; exact hdn _ (h5 j)
      · simp only [hj, hk, if_false]; exact h3 j k hjk
  · intro j
    by_cases hj : j = i
    · simp only [hj, if_true]; intro m; exact (hdn _ h6 m).symm
    · simp only [hj, if_false]; exact h4 j
  · intro j k o hk
    by_cases hj : j = i
    · simp only [hj, if_true] at hk; exact hnew k o hk
    · simp only [hj, if_false] at hk; exact hold.heap k o (h5 j k o hk)

theorem Models.pad {e : Env} {H X : List (SB τ)} {Fr : PH} {w : World} (h : Models I e H Fr w) (hX : ∀ b ∈ X, b = .gone) : Models I e (H ++ X) Fr w := by
  obtain ⟨h0, hs, h1, h2, h3, h4, h5, h6⟩ := h
  refine ⟨h0, hs, fun i b hi => ?_, fun i hi => h2 i (by simp at hi; omega), h3, h4, h5, h6⟩
  by_cases hlt : i < H.length
  · rw [List.getElem?_append_left hlt] at hi; exact h1 i b hi
  · rw [List.getElem?_append_right (by omega)] at hi
    have := hX b (List.mem_of_getElem? hi)
    subst this
    exact (h2 i (by omega)).2

theorem heapA_low {H : List (SB τ)} {pad : Nat} {E : List (Ef τ)} {p : Nat → Bool} {i : Nat} (h : i < H.length) : (heapA H pad E p)[i]? = H[i]? := by
  unfold heapA; rw [List.getElem?_append_left h]
theorem itemA_off {E : List (Ef τ)} {p : Nat → Bool} {k : Nat} (h : p k = false) : itemA E p k = .gone := by simp [itemA, h]
theorem itemA_on {E : List (Ef τ)} {p : Nat → Bool} {k : Nat} {ef : Ef τ} (h : p k = true) (he : E[k]? = some ef) : itemA E p k = ef.nb := by simp [itemA, h, he]
theorem heapA_high {H : List (SB τ)} {pad : Nat} {E : List (Ef τ)} {p : Nat → Bool} {k : Nat} (h : k < pad) : (heapA H pad E p)[H.length + k]? = some (itemA E p k) := by
  unfold heapA
  rw [List.getElem?_append_right (by omega)]
  simp [h]
theorem heapA_length {H : List (SB τ)} {pad : Nat} {E : List (Ef τ)} {p : Nat → Bool} : (heapA H pad E p).length = H.length + pad := by simp [heapA]
theorem heapA_step {H : List (SB τ)} {pad : Nat} {E : List (Ef τ)} {p p' : Nat → Bool} {k : Nat} {ef : Ef τ} (he : E[k]? = some ef) (hp : ∀ j, p' j = (p j || Nat.beq j k)) (hk : p k = false) :
    heapA H pad E p' = if k < pad then (heapA H pad E p).set (H.length + k) ef.nb else heapA H pad E p := by
  have hne : ∀ j, j ≠ k → p' j = p j := fun j hj => by
    have : Nat.beq j k = false := by
      cases hb : Nat.beq j k with
      | false => rfl
      | true => rw [Nat.beq_eq] at hb; exact absurd hb hj
    rw [hp, this]; simp
  have hpk : p' k = true := by rw [hp]; simp
  refine List.ext_getElem? fun i => ?_
  by_cases hi : i < H.length
  · rw [heapA_low hi]
    split
    · rw [List.getElem?_set_ne (by omega), heapA_low hi]
    · rw [heapA_low hi]
  · obtain ⟨j, rfl⟩ : ∃ j, i = H.length + j := ⟨i - H.length, by omega⟩
    by_cases hj : j < pad
    · rw [heapA_high hj]
      by_cases hjk : j = k
      · subst hjk
        rw [if_pos hj]
        rw [List.getElem?_set_self (by rw [heapA_length]; omega)]
        rw [itemA_on hpk he]
      · rw [show itemA E p' j = itemA E p j by simp only [itemA, hne j hjk]]
        by_cases hkp : k < pad
        · rw [if_pos hkp, List.getElem?_set_ne (by omega), heapA_high hj]
        · rw [if_neg hkp, heapA_high hj]
    · rw [List.getElem?_eq_none (by rw [heapA_length]; omega)]
      split
      · rw [List.getElem?_set_ne (by omega), List.getElem?_eq_none (by rw [heapA_length]; omega)]
      · rw [List.getElem?_eq_none (by rw [heapA_length]; omega)]
theorem heapS_eq {H : List (SB τ)} {pad : Nat} {E : List (Ef τ)} {sto : Option (Nat × Nat × SB τ)} {p : Nat → Bool} : heapS H pad E sto p = match sto with
    | some (s, b, c) => if p s = true then (heapA H pad E p).set b c else heapA H pad E p
    | none => heapA H pad E p := by
  unfold heapS
  cases sto with
  | none => rfl
  | some x =>
    obtain ⟨s, b, c⟩ := x
    by_cases h : p s = true
    · simp only [h, if_true]
    · have h' : p s = false := by simpa using h
      simp only [h', Bool.false_eq_true, if_false]
theorem set_gone {α : Type} {l : List α} {i : Nat} {x : α} (h : l[i]? = some x) : l.set i x = l := set_eq_self fun y hy => by rw [h] at hy; cases hy; rfl

/-- How many operations are not carried out yet. -/
def left (n : Nat) (p : Nat → Bool) : Nat := ((List.range n).filter fun k => !p k).length
theorem filter_le {α : Type} {p q : α → Bool} : ∀ {l : List α}, (∀ x ∈ l, q x = true → p x = true) → (l.filter q).length ≤ (l.filter p).length
  | [], _ => by simp
  | x :: l, h => by
    have ih := filter_le (p := p) (q := q) (l := l) fun y hy => h y (List.mem_cons_of_mem _ hy)
    have hx := h x List.mem_cons_self
    cases hq : q x <;> cases hp : p x <;> simp [hq, hp] <;> first | omega | (rw [hq, hp] at hx; simp at hx)
theorem filter_lt {α : Type} {p q : α → Bool} : ∀ {l : List α} {y : α}, (∀ x ∈ l, q x = true → p x = true) → y ∈ l → p y = true → q y = false → (l.filter q).length < (l.filter p).length
  | [], _, _, hy, _, _ => by cases hy
  | x :: l, y, h, hy, hp, hq => by
    have hl := filter_le (p := p) (q := q) (l := l) fun z hz => h z (List.mem_cons_of_mem _ hz)
    rcases List.mem_cons.1 hy with rfl | hy
    · simp [hp, hq]; omega
    · have ih := filter_lt (l := l) (fun z hz => h z (List.mem_cons_of_mem _ hz)) hy hp hq
      have hx := h x List.mem_cons_self
      cases hq' : q x <;> cases hp' : p x <;> simp [hq', hp'] <;> first | omega | (rw [hq', hp'] at hx; simp at hx)

end Go.Sym
