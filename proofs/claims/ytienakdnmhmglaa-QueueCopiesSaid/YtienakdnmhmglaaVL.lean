/- Regions that draw their order of evaluation: whatever the order, the end is the one of the text's order. -/
import Derived.Test.YtienakdnmhmglaaVK
set_option linter.unusedSimpArgs false
set_option linter.unusedVariables false
set_option linter.unusedSectionVars false
namespace Go.Sym
open Go
variable {τ : Type} {I : Inv τ}

def foldT (ops : Array Oper) (E : List (Ef τ)) (Hl : Nat) (p : Nat → Bool) (tm0 : List SV) : Nat → List SV
  | 0 => tm0
  | m + 1 => match p m, ops[m]?, E[m]? with
    | true, some o, some ef => putS o.dst (ef.val (Hl + m)) (foldT ops E Hl p tm0 m)
    | _, _, _ => foldT ops E Hl p tm0 m

theorem putS_length (dst : Option Tmp) (x : SV) (tm : List SV) : (putS dst x tm).length = tm.length := by cases dst <;> simp [putS]
theorem foldT_length {ops : Array Oper} {E : List (Ef τ)} {Hl : Nat} {p : Nat → Bool} {tm0 : List SV} : ∀ m, (foldT ops E Hl p tm0 m).length = tm0.length
  | 0 => rfl
  | m + 1 => by unfold foldT; split <;> simp [putS_length, foldT_length m]
theorem putS_get (dst : Option Tmp) (x : SV) (tm : List SV) (t : Nat) : (putS dst x tm)[t]? = if dst = some t ∧ t < tm.length then some x else tm[t]? := by
  cases dst with
  | none => simp [putS]
  | some d =>
    simp only [putS, Option.some.injEq]
    by_cases h : d = t
    · subst h
      by_cases hl : d < tm.length
      · simp [hl]
      · simp [hl]
    · simp [h]
theorem foldT_slot {ops : Array Oper} {E : List (Ef τ)} {Hl : Nat} {p q : Nat → Bool} {tm0 : List SV} {t : Nat} : ∀ m, (∀ j o, j < m → ops[j]? = some o → o.dst = some t → p j = q j) →
    (foldT ops E Hl p tm0 m)[t]? = (foldT ops E Hl q tm0 m)[t]?
  | 0, _ => rfl
  | m + 1, h => by
    have ih := foldT_slot (E := E) (Hl := Hl) (tm0 := tm0) m fun j o hj => h j o (by omega)
    have hne : ∀ (r : Nat → Bool), (¬ ∃ o, ops[m]? = some o ∧ o.dst = some t) → (foldT ops E Hl r tm0 (m + 1))[t]? = (foldT ops E Hl r tm0 m)[t]? := by
      intro r hno
      rw [foldT]
      split
      · rename_i o ef hr ho he
        rw [putS_get, if_neg]
        rintro ⟨hd, _⟩
        exact hno ⟨o, ho, hd⟩
      · rfl
    by_cases hw : ∃ o, ops[m]? = some o ∧ o.dst = some t
    · obtain ⟨o, ho, hd⟩ := hw
      have hpq := h m o (by omega) ho hd
      rw [foldT, foldT, ← hpq, ho]
      cases hb : p m with
      | false => exact ih
      | true =>
        cases he : E[m]? with
        | none => exact ih
        | some ef =>
          simp only [putS_get, foldT_length, ih]
    · rw [hne p hw, hne q hw, ih]
theorem foldT_stop {ops : Array Oper} {E : List (Ef τ)} {Hl : Nat} {tm0 : List SV} {k : Nat} : ∀ m, k ≤ m → foldT ops E Hl (fun j => decide (j < k)) tm0 m = foldT ops E Hl (fun _ => true) tm0 k
  | 0, h => by have : k = 0 := by omega
               subst this; rfl
  | m + 1, h => by
    by_cases hk : k = m + 1
    · subst hk
      have : ∀ n, n ≤ m + 1 → foldT ops E Hl (fun j => decide (j < m + 1)) tm0 n = foldT ops E Hl (fun _ => true) tm0 n := by
        intro n
        induction n with
        | zero => intro _; rfl
        | succ n ih =>
          intro hn
          have e : decide (n < m + 1) = true := by simp; omega
          simp only [foldT, e, ih (by omega)]
      exact this _ (Nat.le_refl _)
    · rw [foldT]
      have e : decide (m < k) = false := by simp; omega
      simp only [e]
      exact foldT_stop m (by omega)
theorem facts_T {cfg : Cfg τ} {H : List (SB τ)} {pad : Nat} {ops : Array Oper} {tm0 : List SV} {n : Nat} {d : DSt τ} {T : Nat → List SV} (h : Facts cfg H pad ops tm0 n d T) (hn : n ≤ ops.size) :
    ∀ k, k ≤ n → T k = foldT ops d.E H.length (fun _ => true) tm0 k
  | 0, _ => h.start
  | k + 1, hk => by
    have ho : ops[k]? = some ops[k] := by simp [show k < ops.size by omega]
    obtain ⟨ef, b, h1, h2, _⟩ := h.step k _ (by omega) ho
    rw [h2, foldT]
    simp only [ho, h1]
    rw [facts_T h hn k (by omega)]

/-! ### What the edges give -/
theorem okD_edges {ops : Array Oper} (h : okD ops = true) {k : Nat} {o : Oper} (ho : ops[k]? = some o) : ∀ ed ∈ o.after.toList, Region.binds .any ed = true → ed.on < k := by
  unfold okD at h
  rw [List.all_eq_true] at h
  have := h (o, k) (by rw [List.mem_zipIdx_iff_getElem?]; simpa using ho)
  simp only [Bool.and_eq_true, List.all_eq_true] at this
  intro ed hed hb
  have := this.1 ed hed
  simp only [Bool.or_eq_true, Bool.not_eq_true', hb, Nat.blt_eq] at this
  rcases this with h | h
  · cases h
  · exact h
theorem okD_pair {ops : Array Oper} (h : okD ops = true) {k j : Nat} {ok oj : Oper} (hk : ops[k]? = some ok) (hj : ops[j]? = some oj) (hne : j ≠ k) {t : Tmp} (hd : oj.dst = some t) :
    (t ∈ ok.looksAt ops → (j < k ∧ edgeB ops k j = true) ∨ (k < j ∧ edgeB ops j k = true)) ∧ ok.dst ≠ some t := by
  unfold okD at h
  rw [List.all_eq_true] at h
  have := h (ok, k) (by rw [List.mem_zipIdx_iff_getElem?]; simpa using hk)
  simp only [Bool.and_eq_true, List.all_eq_true] at this
  have := this.2 (oj, j) (by rw [List.mem_zipIdx_iff_getElem?]; simpa using hj)
  simp only [Bool.or_eq_true, Nat.beq_eq] at this
  rcases this with h | h
  · exact absurd h hne
  · simp only [okPair, hd, Bool.and_eq_true, Bool.or_eq_true, Bool.not_eq_true', Nat.blt_eq] at h
    refine ⟨fun ht => ?_, fun he => ?_⟩
    · rcases h.1 with (h | h) | h
      · have : (ok.looksAt ops).contains t = true := by simpa using ht
        rw [this] at h; cases h
      · exact .inl h
      · exact .inr h
    · have := h.2
      rw [he] at this
      simp only [Bool.not_eq_true'] at this
      have h2 : Nat.beq t t = true := by rw [Nat.beq_eq]
      rw [h2] at this; cases this
theorem edge_dep {ops : Array Oper} {k j : Nat} (h : edgeB ops k j = true) : ∃ o ed, ops[k]? = some o ∧ ed ∈ o.after.toList ∧ Region.binds .any ed = true ∧ ed.on = j := by
  unfold edgeB at h
  split at h
  · rename_i o ho
    rw [List.any_eq_true] at h
    obtain ⟨ed, h1, h2⟩ := h
    simp only [Bool.and_eq_true, Nat.beq_eq] at h2
    exact ⟨o, ed, ho, h1, h2.1, h2.2⟩
  · cases h

/-- What has been carried out holds what it hangs on. -/
def Closed (ops : Array Oper) (p : Nat → Bool) : Prop := ∀ k o, ops[k]? = some o → p k = true → ∀ ed ∈ o.after.toList, Region.binds .any ed = true → p ed.on = true
theorem Closed.edge {ops : Array Oper} {p : Nat → Bool} (h : Closed ops p) {k j : Nat} (he : edgeB ops k j = true) (hk : p k = true) : p j = true := by
  obtain ⟨o, ed, ho, h1, h2, rfl⟩ := edge_dep he
  exact h k o ho hk ed h1 h2

/-- The slots that an operation looks at are as in the text's order. -/
theorem slots_read {cfg : Cfg τ} {H : List (SB τ)} {pad : Nat} {ops : Array Oper} {tm0 : List SV} {d : DSt τ} {T : Nat → List SV} (hf : Facts cfg H pad ops tm0 ops.size d T) (hok : okD ops = true)
    {p : Nat → Bool} (hcl : Closed ops p) {k : Nat} {o : Oper} (ho : ops[k]? = some o) (hk : p k = false) (hdeps : ∀ ed ∈ o.after.toList, Region.binds .any ed = true → p ed.on = true) {t : Tmp} (ht : t ∈ o.looksAt ops) :
    (foldT ops d.E H.length p tm0 ops.size)[t]? = (T k)[t]? := by
  have hkn : k < ops.size := (Array.getElem?_eq_some_iff.1 ho).1
  rw [facts_T hf (Nat.le_refl _) k (by omega), ← foldT_stop ops.size (by omega)]
  refine foldT_slot _ fun j oj hj hoj hd => ?_
  by_cases hjk : j = k
  · subst hjk; simp [hk]
  · rcases (okD_pair hok ho hoj hjk hd).1 ht with ⟨h1, h2⟩ | ⟨h1, h2⟩
    · obtain ⟨o', ed, ho', h3, h4, h5⟩ := edge_dep h2
      rw [ho] at ho'; cases ho'
      have := hdeps ed h3 h4
      rw [h5] at this
      simp [this, h1]
    · have : p j = false := by
        cases hp : p j with
        | false => rfl
        | true => rw [hcl.edge h2 hp] at hk; cases hk
      simp [this]; omega

theorem slots_put {ops : Array Oper} {E : List (Ef τ)} {Hl : Nat} {tm0 : List SV} (hok : okD ops = true) {p p' : Nat → Bool} {k : Nat} {o : Oper} {ef : Ef τ} (ho : ops[k]? = some o) (he : E[k]? = some ef) (hk : p k = false)
    (hp : ∀ j, p' j = (p j || Nat.beq j k)) : foldT ops E Hl p' tm0 ops.size = putS o.dst (ef.val (Hl + k)) (foldT ops E Hl p tm0 ops.size) := by
  have hkn : k < ops.size := (Array.getElem?_eq_some_iff.1 ho).1
  refine List.ext_getElem? fun t => ?_
  rw [putS_get, foldT_length]
  by_cases hd : o.dst = some t ∧ t < tm0.length
  · rw [if_pos hd]
    have e1 : (foldT ops E Hl p' tm0 ops.size)[t]? = (foldT ops E Hl (fun j => Nat.beq j k) tm0 ops.size)[t]? := by
      refine foldT_slot _ fun j oj _ hoj hdj => ?_
      by_cases hjk : j = k
      · subst hjk; rw [hp]; simp
      · exact absurd hd.1 (okD_pair hok ho hoj hjk hdj).2
    rw [e1]
    have key : ∀ m, k < m → (foldT ops E Hl (fun j => Nat.beq j k) tm0 m)[t]? = some (ef.val (Hl + k)) := by
      intro m hm
      induction m with
      | zero => omega
      | succ m ih =>
        by_cases hmk : m = k
        · subst hmk
          have : Nat.beq m m = true := by rw [Nat.beq_eq]
          simp only [foldT, this, ho, he]
          rw [putS_get, foldT_length, if_pos hd]
        · have : Nat.beq m k = false := by
            cases hb : Nat.beq m k with
            | false => rfl
            | true => rw [Nat.beq_eq] at hb; exact absurd hb hmk
          simp only [foldT, this]
          exact ih (by omega)
    exact key _ hkn
  · rw [if_neg hd]
    by_cases hlt : t < tm0.length
    · refine foldT_slot _ fun j oj _ hoj hdj => ?_
      have : j ≠ k := fun e => by subst e; rw [ho] at hoj; cases hoj; exact hd ⟨hdj, hlt⟩
      have hb : Nat.beq j k = false := by
        cases hb : Nat.beq j k with
        | false => rfl
        | true => rw [Nat.beq_eq] at hb; exact absurd hb this
      rw [hp, hb]; simp
    · rw [List.getElem?_eq_none (by rw [foldT_length]; omega), List.getElem?_eq_none (by rw [foldT_length]; omega)]

end Go.Sym
