/- Headers are copied back onto rows; the steps. -/
import Derived.Test.YtienakdnmhmglaaVOh
set_option linter.unusedSimpArgs false
set_option linter.unusedVariables false
set_option linter.unusedSectionVars false
namespace Go.Sym
open Go
variable {P : Program} {w : World} {τ : Type} {I : Inv τ}

/-! ### Rows, each with its part of the heap -/
theorem RowsOk.toF {T sz : Nat} : ∀ {us : List Value} {rs : List (Nat × List Value)} {h : PH}, RowsOk T sz us rs h → ∃ hf : Nat → PH, (∀ i v r, us[i]? = some v → rs[i]? = some r → RowOk v r.1 sz T r.2 (hf i)) ∧
    (∀ i j, i ≠ j → Disj (hf i) (hf j)) ∧ (∀ i k o, hf i k = some o → h k = some o)
  | [], [], h, _ => ⟨fun _ => emp, by simp, fun _ _ _ => emp_disj _, fun _ _ _ h => by simp [emp] at h⟩
  | [], _ :: _, _, h => h.elim
  | _ :: _, [], _, h => h.elim
  | u :: us, r0 :: rs, _, ⟨h1, h2, ho, hr, hd, e⟩ => by
    subst e
    obtain ⟨hf, a1, a2, a3⟩ := RowsOk.toF hr
    have hd' : ∀ i, Disj h1 (hf i) := fun i k => by
      cases hk : hf i k with
      | none => exact .inr rfl
      | some o =>
        rcases hd k with h | h
        · exact .inl h
        · rw [a3 i k o hk] at h; cases h
    refine ⟨fun i => match i with
      | 0 => h1
      | i + 1 => hf i, fun i v r hv hr' => ?_, fun i j hij => ?_, fun i k o hk => ?_⟩
    · cases i with
      | zero => simp only [List.getElem?_cons_zero, Option.some.injEq] at hv hr'; subst hv; subst hr'; exact ho
      | succ i => exact a1 i v r (by simpa using hv) (by simpa using hr')
    · cases i with
      | zero => cases j with
        | zero => exact absurd rfl hij
        | succ j => exact hd' j
      | succ i => cases j with
        | zero => exact (hd' i).symm
        | succ j => exact a2 i j (by omega)
    · cases i with
      | zero => exact join_sub_left hk
      | succ i => exact join_sub_right hd (a3 i k o hk)
theorem RowsOk.ofF {T sz : Nat} : ∀ {us : List Value} {rs : List (Nat × List Value)} {hf : Nat → PH}, us.length = rs.length → (∀ i v r, us[i]? = some v → rs[i]? = some r → RowOk v r.1 sz T r.2 (hf i)) →
    (∀ i j, i ≠ j → i < us.length → j < us.length → Disj (hf i) (hf j)) → ∃ h, RowsOk T sz us rs h ∧ ∀ k o, h k = some o → ∃ i, i < us.length ∧ hf i k = some o
  | [], [], _, _, _, _ => ⟨emp, rfl, fun k o h => by simp [emp] at h⟩
  | [], _ :: _, _, hl, _, _ => by simp at hl
  | _ :: _, [], _, hl, _, _ => by simp at hl
  | u :: us, r :: rs, hf, hl, h1, h2 => by
    obtain ⟨h, a1, a2⟩ := RowsOk.ofF (hf := fun i => hf (i + 1)) (us := us) (rs := rs) (by simpa using hl) (fun i v r hv hr => h1 (i + 1) v r (by simpa using hv) (by simpa using hr))
      (fun i j hij hi hj => h2 (i + 1) (j + 1) (by omega) (by simpa using hi) (by simpa using hj))
    have hd : Disj (hf 0) h := fun k => by
      cases hk : h k with
      | none => exact .inr rfl
      | some o =>
        obtain ⟨i, hi, hk'⟩ := a2 k o hk
        rcases h2 0 (i + 1) (by omega) (by simp) (by simpa using hi) k with h' | h'
        · exact .inl h'
        · rw [hk'] at h'; cases h'
    refine ⟨join (hf 0) h, ⟨hf 0, h, h1 0 u r rfl rfl, a1, hd, rfl⟩, fun k o hk => ?_⟩
    rcases join_some hk with h' | h'
    · exact ⟨0, by simp, h'⟩
    · obtain ⟨i, hi, h''⟩ := a2 k o h'
      exact ⟨i + 1, by simpa using hi, h''⟩
theorem LimOk.toF {T sz : Nat} {g : List Nat → Value} : ∀ {us : List Value} {rs : List (Nat ⊕ (Nat × List Value))} {h : PH}, LimOk T sz g us rs h → ∃ hf : Nat → PH, (∀ (i : Nat) (v : Value) (r : Nat × List Value), us[i]? = some v → rs[i]? = some (Sum.inr r) → RowOk v r.1 sz T r.2 (hf i)) ∧
    (∀ (i : Nat) (v : Value) (j : Nat), us[i]? = some v → rs[i]? = some (Sum.inl j) → v = g [1, j]) ∧ (∀ i j, i ≠ j → Disj (hf i) (hf j)) ∧ (∀ i k o, hf i k = some o → h k = some o)
  | [], [], h, _ => ⟨fun _ => emp, by simp, by simp, fun _ _ _ => emp_disj _, fun _ _ _ h => by simp [emp] at h⟩
  | [], _ :: _, _, h => h.elim
  | _ :: _, [], _, h => h.elim
  | u :: us, .inl j0 :: rs, h, ⟨h1, h2⟩ => by
    obtain ⟨hf, a1, a0, a2, a3⟩ := LimOk.toF h2
    refine ⟨fun i => match i with
      | 0 => emp
      | i + 1 => hf i, fun i v r hv hr' => ?_, fun i v j hv hr' => ?_, fun i j hij => ?_, fun i k o hk => ?_⟩
    · cases i with
      | zero => simp at hr'
      | succ i => exact a1 i v r (by simpa using hv) (by simpa using hr')
    · cases i with
      | zero => simp only [List.getElem?_cons_zero, Option.some.injEq, Sum.inl.injEq] at hv hr'; subst hv; subst hr'; exact h1
      | succ i => exact a0 i v j (by simpa using hv) (by simpa using hr')
    · cases i with
      | zero => exact emp_disj _
      | succ i => cases j with
        | zero => exact disj_emp _
        | succ j => exact a2 i j (by omega)
    · cases i with
      | zero => simp [emp] at hk
      | succ i => exact a3 i k o hk
  | u :: us, .inr r0 :: rs, _, ⟨h1, h2, ho, hr, hd, e⟩ => by
    subst e
    obtain ⟨hf, a1, a0, a2, a3⟩ := LimOk.toF hr
    have hd' : ∀ i, Disj h1 (hf i) := fun i k => by
      cases hk : hf i k with
      | none => exact .inr rfl
      | some o =>
        rcases hd k with h | h
        · exact .inl h
        · rw [a3 i k o hk] at h; cases h
    refine ⟨fun i => match i with
      | 0 => h1
      | i + 1 => hf i, fun i v r hv hr' => ?_, fun i v j hv hr' => ?_, fun i j hij => ?_, fun i k o hk => ?_⟩
    · cases i with
      | zero => simp only [List.getElem?_cons_zero, Option.some.injEq, Sum.inr.injEq] at hv hr'; subst hv; subst hr'; exact ho
      | succ i => exact a1 i v r (by simpa using hv) (by simpa using hr')
    · cases i with
      | zero => simp at hr'
      | succ i => exact a0 i v j (by simpa using hv) (by simpa using hr')
    · cases i with
      | zero => cases j with
        | zero => exact absurd rfl hij
        | succ j => exact hd' j
      | succ i => cases j with
        | zero => exact (hd' i).symm
        | succ j => exact a2 i j (by omega)
    · cases i with
      | zero => exact join_sub_left hk
      | succ i => exact join_sub_right hd (a3 i k o hk)

/-! ### Which row comes from where -/
def ixAt {α : Type} (L : List (Nat ⊕ α)) (lo p : Nat) : Option Nat :=
  match Nat.blt p lo with
  | true => some p
  | false => match L[p - lo]? with
    | none => some p
    | some x => match x with
      | .inl j => some j
      | .inr _ => none
def mrgAt {α : Type} (l : List α) (d : α) (lo : Nat) (L : List (Nat ⊕ α)) (p : Nat) : α :=
  match Nat.blt p lo with
  | true => l.getD p d
  | false => match L[p - lo]? with
    | none => l.getD p d
    | some x => match x with
      | .inl j => l.getD j d
      | .inr y => y
def mrg {α : Type} (l : List α) (d : α) (lo : Nat) (L : List (Nat ⊕ α)) : List α := (List.range l.length).map (mrgAt l d lo L)
theorem mrg_length {α : Type} (l : List α) (d : α) (lo : Nat) (L : List (Nat ⊕ α)) : (mrg l d lo L).length = l.length := by simp [mrg]
theorem ixAt_map {α β : Type} (f : α → β) (L : List (Nat ⊕ α)) (lo p : Nat) : ixAt (L.map (Sum.map id f)) lo p = ixAt L lo p := by
  unfold ixAt
  split
  · rfl
  · rw [List.getElem?_map]
    cases L[p - lo]? with
    | none => rfl
    | some x => cases x <;> rfl
theorem mrg_ok {α β : Type} (l : List α) (d : α) (lo : Nat) (L : List (Nat ⊕ α)) (f : α → β) {p : Nat} (hp : p < l.length) :
    (∀ j, ixAt L lo p = some j → j < l.length → ((mrg l d lo L).map f)[p]? = (l.map f)[j]?) ∧ (∀ r, lo ≤ p → (L.map (Sum.map id f))[p - lo]? = some (.inr r) → ((mrg l d lo L).map f)[p]? = some r) := by
  have h0 : ((mrg l d lo L).map f)[p]? = some (f (mrgAt l d lo L p)) := by simp [mrg, hp]
  rw [h0]
  refine ⟨fun j hj hlt => ?_, fun r hle hr => ?_⟩
  · unfold ixAt at hj
    unfold mrgAt
    split at hj
    · rename_i hb
      simp only [Option.some.injEq] at hj; subst hj
      simp [hb, List.getD, hp]
    · rename_i hb
      split at hj
      · rename_i hn
        simp only [Option.some.injEq] at hj; subst hj
        simp [hb, hn, List.getD, hp]
      · rename_i x hx
        cases x with
        | inl j' => simp only [Option.some.injEq] at hj; subst hj; simp [hb, hx, List.getD, hlt]
        | inr y => cases hj
  · have hb : Nat.blt p lo = false := by rw [← Bool.not_eq_true, Nat.blt_eq]; omega
    rw [List.getElem?_map] at hr
    unfold mrgAt
    cases hx : L[p - lo]? with
    | none => rw [hx] at hr; cases hr
    | some x =>
      rw [hx] at hr
      cases x with
      | inl j => simp at hr
      | inr y =>
        simp only [Option.map_some, Sum.map_inr, Option.some.injEq, Sum.inr.injEq] at hr
        subst hr
        simp [hb]
theorem Lim.rows_i (k : IntKind) (l : List (Nat ⊕ List Int)) : (Lim.i k l).rows = l.map (Sum.map id fun xs => (xs.length, xs.map (Value.int k))) := by
  simp only [Lim.rows]
  refine List.map_congr_left fun x _ => ?_
  cases x <;> rfl
theorem Lim.rows_c (l : List (Nat ⊕ List C4)) : (Lim.c l).rows = l.map (Sum.map id fun xs => (xs.length, cvals xs)) := by
  simp only [Lim.rows]
  refine List.map_congr_left fun x _ => ?_
  cases x <;> rfl
def Lim.ix (L : Lim) (lo p : Nat) : Option Nat :=
  match L with
  | .i _ l => ixAt l lo p
  | .c l => ixAt l lo p
theorem Lim.ix_rows (L : Lim) (lo p : Nat) : ixAt L.rows lo p = L.ix lo p := by
  cases L with
  | i k l => rw [Lim.rows_i, ixAt_map]; rfl
  | c l => rw [Lim.rows_c, ixAt_map]; rfl
def Lim.len (L : Lim) : Nat :=
  match L with
  | .i _ l => l.length
  | .c l => l.length
theorem Lim.len_rows (L : Lim) : L.rows.length = L.len := by
  cases L with
  | i k l => rw [Lim.rows_i, List.length_map]; rfl
  | c l => rw [Lim.rows_c, List.length_map]; rfl
def Rws.merge (R : Rws) (lo : Nat) (L : Lim) : Option Rws :=
  match R with
  | .i k l => match L with
    | .i k' l' => match decide (k = k') with
      | true => some (.i k (mrg l [] lo l'))
      | false => none
    | _ => none
  | .c l => match L with
    | .c l' => some (.c (mrg l [] lo l'))
    | _ => none
theorem Rws.merge_ok {R R' : Rws} {lo : Nat} {L : Lim} (h : R.merge lo L = some R') : R'.sz = R.sz ∧ L.sz = R.sz ∧ R'.len = R.len ∧ ∀ p, p < R.len →
    (∀ j, L.ix lo p = some j → j < R.len → R'.rows[p]? = R.rows[j]?) ∧ (∀ r, lo ≤ p → L.rows[p - lo]? = some (.inr r) → R'.rows[p]? = some r) := by
  cases R with
  | i k l =>
    cases L with
    | i k' l' =>
      simp only [Rws.merge] at h
      split at h
      · rename_i hk
        have hk := of_decide_eq_true hk
        subst hk
        simp only [Option.some.injEq] at h
        subst h
        refine ⟨rfl, rfl, by simp [Rws.len, mrg_length], fun p hp => ?_⟩
        rw [Lim.rows_i]
        exact mrg_ok l [] lo l' _ hp
      · cases h
    | c l' => simp [Rws.merge] at h
  | c l =>
    cases L with
    | c l' =>
      simp only [Rws.merge, Option.some.injEq] at h
      subst h
      refine ⟨rfl, rfl, by simp [Rws.len, mrg_length], fun p hp => ?_⟩
      rw [Lim.rows_c]
      exact mrg_ok l [] lo l' _ hp
    | i k' l' => simp [Rws.merge] at h
/-- No row is there twice. -/
def fitsB (N lo : Nat) (L : Lim) : Bool := (List.range N).all fun p => match L.ix lo p with
  | none => true
  | some j => Nat.blt j N && (List.range N).all fun p' => Nat.beq p p' || (match L.ix lo p' with
    | none => true
    | some j' => !(Nat.beq j j'))
theorem fitsB_ok {N lo : Nat} {L : Lim} (h : fitsB N lo L = true) {p j : Nat} (hp : p < N) (hj : L.ix lo p = some j) : j < N ∧ ∀ p' j', p' < N → p ≠ p' → L.ix lo p' = some j' → j ≠ j' := by
  simp only [fitsB, List.all_eq_true, List.mem_range] at h
  have h1 := h p hp
  rw [hj] at h1
  simp only [Bool.and_eq_true, Nat.blt_eq, List.all_eq_true, List.mem_range] at h1
  refine ⟨h1.1, fun p' j' hp' hne hj' e => ?_⟩
  have h2 := h1.2 p' hp'
  rw [hj', Bool.or_eq_true, Nat.beq_eq] at h2
  rcases h2 with h2 | h2
  · exact hne h2
  · subst e
    have : Nat.beq j j = true := by rw [Nat.beq_eq]
    simp [this] at h2
theorem fitsB_of {N lo : Nat} {L : Lim} (h : ∀ p j, p < N → L.ix lo p = some j → j < N ∧ ∀ p' j', p' < N → p ≠ p' → L.ix lo p' = some j' → j ≠ j') : fitsB N lo L = true := by
  simp only [fitsB, List.all_eq_true, List.mem_range]
  intro p hp
  cases hj : L.ix lo p with
  | none => rfl
  | some j =>
    obtain ⟨h1, h2⟩ := h p j hp hj
    simp only [Bool.and_eq_true, Nat.blt_eq, List.all_eq_true, List.mem_range, Bool.or_eq_true, Nat.beq_eq]
    refine ⟨h1, fun p' hp' => ?_⟩
    by_cases hpp : p = p'
    · exact .inl hpp
    · right
      cases hj' : L.ix lo p' with
      | none => rfl
      | some j' =>
        have := h2 p' j' hp' hpp hj'
        have h3 : Nat.beq j j' = false := by rw [← Bool.not_eq_true, Nat.beq_eq]; exact this
        simp [h3]
theorem spl_get {α : Type} (hs ul : List α) (lo p : Nat) (h : lo + ul.length ≤ hs.length) (hp : p < hs.length) :
    (hs.take lo ++ (ul ++ hs.drop (lo + ul.length)))[p]? = if p < lo then hs[p]? else if p - lo < ul.length then ul[p - lo]? else hs[p]? := by
  by_cases h1 : p < lo
  · rw [if_pos h1, List.getElem?_append_left (by simp; omega), List.getElem?_take_of_lt h1]
  · rw [if_neg h1, List.getElem?_append_right (by simp; omega)]
    have e : p - (List.take lo hs).length = p - lo := by simp; omega
    rw [e]
    by_cases h2 : p - lo < ul.length
    · rw [if_pos h2, List.getElem?_append_left h2]
    · rw [if_neg h2, List.getElem?_append_right (by omega), List.getElem?_drop]
      congr 1; omega
section
variable {e : Env} {H : List (SB τ)} {Fr : PH} {t ty TS : TypeId} {i : TypeInfo} {z : Value}
/-- Headers are copied onto rows. -/
theorem copyLim_ok {D D' : TypeId} (hD : P.underlying D = some (.slice TS)) (hsz : szT P TS = some 1) (hM : Models I e H Fr w) {b lb oe re le lo len : Nat} {R R' : Rws} {L : Lim} {T : TypeId}
    (hb : H[b]? = some (.rows R T TS oe re none)) (hl : H[lb]? = some (.limbo b re L T TS le)) (hbl : b ≠ lb) {r : List Nat} (hpart : partH R.len r = some (lo, len)) (hfit : lo + len ≤ R.len) (hlen : L.len ≤ len) (h0 : 0 < R.len)
    (hR : R.merge lo L = some R') (hfits : fitsB R.len lo L = true) {u v : Value} (hu : Den e (.h b (oe :: 0 :: r)) u) (hv : Den e (.h lb [le, 0]) v) :
    ∃ r' w' e', (Builtin.copy_ #[D, D'] ty #[u, v]).run P w = .ok r' w' ∧ Le e e' ∧ Models I e' ((H.set b (.rows R' T TS oe (re + 1) none)).set lb .gone) Fr w' ∧ r' = .int .i64 (L.len : Nat) := by
  obtain ⟨hn, hm, ⟨f, u0, us, hs, ho, hr, g1, g2, ⟨g3, ⟨g0, g3a, g3b⟩, g3c⟩, g4, g4', g5, g6, g7, rfl⟩, ⟨fl, ul, ls, hlo, hlr, fb, gb, k1, k2, k3, ka, kc, k4', k5, k6, k7, rfl⟩, hs1, hs2, hdis, hput⟩ := hM.take2 hb hl hbl
  have g4 : hs = us := g4
  subst g4
  rw [g1] at ka; cases ka
  rw [g2] at kc; cases kc
  obtain ⟨hu1, _⟩ := h_val hu g1 g3a
  rw [g3b] at hu1
  obtain ⟨hv1, _⟩ := h_val hv k1 k2
  have hv1 : v = ul := hv1
  subst hv1
  have hN : hs.length = R.len := by rw [g6.length, R.rows_length]
  have hLl : ls.length = L.len := by rw [k6.length, L.len_rows]
  obtain ⟨hso, hsr⟩ := (sub_join g7).1 hs1
  obtain ⟨hsl, hslr⟩ := (sub_join k7).1 hs2
  have hsrc : SrcIn w v ls.length 1 ls := by
    obtain ⟨q1, q2⟩ := k5
    refine ⟨q1, fun x hx => k4' x hx, ?_⟩
    rcases q2 with ⟨q2, q3, _⟩ | ⟨g, cap, rest, q2, rfl, _, _, q5⟩
    · exact .inl ⟨q2, q3⟩
    · refine .inr ⟨_, _, q2, fun j x hj => ?_⟩
      rw [add_none, cell_at (hsl g _ (single_self _ _))]
      have hj2 := (List.getElem?_eq_some_iff.1 hj).1
      simp [List.getElem?_append, hj2]
      rw [List.getElem?_eq_getElem hj2] at hj
      simpa using hj
  obtain ⟨e1, e2, e3, e4⟩ := Rws.merge_ok hR
  obtain ⟨_, ⟨rfl, h00, _⟩ | ⟨g, cap, rest, rfl, _, q7, _⟩⟩ := id g5
  · omega
  have hdst : ∃ bo dc, u = .slice (some ⟨g, bo, none⟩) len dc ∧ (0 < len → bo = lo * 1) := by
    unfold partH at hpart
    split at hpart
    · simp only [Option.some.injEq, Prod.mk.injEq] at hpart
      obtain ⟨rfl, rfl⟩ := hpart
      rw [← hN]
      exact ⟨0, cap, hu1, fun _ => by simp⟩
    · simp only [Option.some.injEq, Prod.mk.injEq] at hpart
      obtain ⟨rfl, rfl⟩ := hpart
      refine ⟨_, _, hu1, fun hl => ?_⟩
      rename_i lo' len' zz
      have hne : Nat.beq cap lo' = false := by rw [← Bool.not_eq_true, Nat.beq_eq]; omega
      rw [hne]; rfl
    · cases hpart
  obtain ⟨bo, dc, hd1, hd2⟩ := hdst
  obtain ⟨w', ho', p1, p2, p3⟩ := copy_ok (P := P) (D' := D') (ty := ty) hD hsz g5 hso hd1 hd2 (by rw [hN]; exact hfit) hsrc
  have hmin : Nat.min ls.length len = ls.length := Nat.min_eq_left (by omega)
  rw [hmin] at p1 p2
  simp only [Nat.mul_one, List.take_length] at p2
  generalize hnew : hs.take lo ++ (ls ++ hs.drop (lo + ls.length)) = hs' at p2
  have hN' : hs'.length = hs.length := by have := p2.1; omega
  have hget : ∀ p, p < hs.length → hs'[p]? = if p < lo then hs[p]? else if p - lo < ls.length then ls[p - lo]? else hs[p]? := fun p hp => by
    rw [← hnew]; exact spl_get hs ls lo p (by omega) hp
  obtain ⟨hf, a1, a2, a3⟩ := g6.toF
  obtain ⟨lf, b1, b0, b2, b3⟩ := k6.toF
  obtain ⟨hdis1, hdis2⟩ := disj_join.1 hdis.symm
  -- a row of before and one of the headers' own
  have hdfl : ∀ i j, Disj (hf i) (lf j) := fun i j k => by
    cases hk : hf i k with
    | none => exact .inl rfl
    | some o =>
      right
      cases hk' : lf j k with
      | none => rfl
      | some o' =>
        rcases hdis k with h | h
        · rw [join_none] at h; rw [a3 i k o hk] at h; cases h.2
        · rw [join_none] at h; rw [b3 j k o' hk'] at h; cases h.2
  have hall : ∀ p, p < hs.length → (∀ j, L.ix lo p = some j → j < hs.length ∧ hs'[p]? = hs[j]?) ∧ (L.ix lo p = none → ∃ r, lo ≤ p ∧ L.rows[p - lo]? = some (.inr r) ∧ hs'[p]? = ls[p - lo]? ∧ p - lo < ls.length) := fun p hp => by
    have hix := L.ix_rows lo p
    refine ⟨fun j hj => ?_, fun hj => ?_⟩
    · have hjN := (fitsB_ok hfits (by omega) hj).1
      refine ⟨by omega, ?_⟩
      rw [hget p hp]
      rw [hj] at hix
      unfold ixAt at hix
      split at hix
      · rename_i hb
        rw [Nat.blt_eq] at hb
        simp only [Option.some.injEq] at hix
        rw [if_pos hb, hix]
      · rename_i hb
        have hb : ¬ p < lo := by rw [← Nat.blt_eq, hb]; simp
        rw [if_neg hb]
        split at hix
        · rename_i hn
          have : ¬ p - lo < ls.length := by
            rw [k6.length]
            have := List.getElem?_eq_none_iff.1 hn
            omega
          simp only [Option.some.injEq] at hix
          rw [if_neg this, hix]
        · rename_i x hx
          cases x with
          | inr y => cases hix
          | inl j' =>
            simp only [Option.some.injEq] at hix
            subst hix
            have hlt : p - lo < ls.length := by rw [k6.length]; exact (List.getElem?_eq_some_iff.1 hx).1
            rw [if_pos hlt]
            have := b0 (p - lo) ls[p - lo] j' (List.getElem?_eq_getElem hlt) hx
            rw [List.getElem?_eq_getElem hlt, this]
            have hjl : j' < hs.length := by omega
            show some (rowRef R.sz (hs.getD j' undef) []) = hs[j']?
            rw [List.getD, List.getElem?_eq_getElem hjl]; rfl
    · rw [hj] at hix
      unfold ixAt at hix
      split at hix
      · cases hix
      · rename_i hb
        have hb : ¬ p < lo := by rw [← Nat.blt_eq, hb]; simp
        split at hix
        · cases hix
        · rename_i x hx
          cases x with
          | inl j' => cases hix
          | inr y =>
            have hlt : p - lo < ls.length := by rw [k6.length]; exact (List.getElem?_eq_some_iff.1 hx).1
            refine ⟨y, by omega, hx, ?_, hlt⟩
            rw [hget p hp, if_neg hb, if_pos hlt]
  obtain ⟨hr', c1, c2⟩ := RowsOk.ofF (T := T) (sz := R.sz) (us := hs') (rs := R'.rows) (hf := fun p => match L.ix lo p with
    | some j => hf j
    | none => lf (p - lo)) (by rw [R'.rows_length, e3]; omega) (fun p x r hx hr => by
      have hp : p < hs.length := by have := (List.getElem?_eq_some_iff.1 hx).1; omega
      obtain ⟨d1, d2⟩ := hall p hp
      obtain ⟨d3, d4⟩ := e4 p (by omega)
      cases hj : L.ix lo p with
      | some j =>
        obtain ⟨d5, d6⟩ := d1 j hj
        rw [d6] at hx
        rw [d3 j hj (by omega)] at hr
        exact a1 j x r hx hr
      | none =>
        obtain ⟨r1, d5, d6, d7, d8⟩ := d2 hj
        rw [d4 r1 d5 d6] at hr
        simp only [Option.some.injEq] at hr
        subst hr
        rw [d7] at hx
        have := b1 (p - lo) x r1 hx d6
        rw [e2] at this
        exact this) (fun p p' hpp hp hp' => by
      have hp : p < R.len := by omega
      have hp' : p' < R.len := by omega
      cases hj : L.ix lo p with
      | some j =>
        cases hj' : L.ix lo p' with
        | some j' => exact a2 j j' ((fitsB_ok hfits hp hj).2 p' j' hp' hpp hj')
        | none => exact hdfl j (p' - lo)
      | none =>
        cases hj' : L.ix lo p' with
        | some j' => exact (hdfl j' (p - lo)).symm
        | none =>
          obtain ⟨_, d5, _⟩ := (hall p (by omega)).2 hj
          obtain ⟨_, d5', _⟩ := (hall p' (by omega)).2 hj'
          exact b2 (p - lo) (p' - lo) (by omega))
  have hc : ∀ k o, hr' k = some o → hr k = some o ∨ hlr k = some o := fun k o hk => by
    obtain ⟨p, hp, hk'⟩ := c2 k o hk
    cases hj : L.ix lo p with
    | some j => simp only [hj] at hk'; exact .inl (a3 j k o hk')
    | none => simp only [hj] at hk'; exact .inr (b3 _ k o hk')
  have hcn : ∀ k, hr' k ≠ none → hr k ≠ none ∨ hlr k ≠ none := fun k hk => by
    cases ho : hr' k with
    | none => exact absurd ho hk
    | some o => rcases hc k o ho with h | h <;> simp [h]
  have hsub' : Sub hr' w := fun k o hk => by
    rcases hc k o hk with h | h
    · exact hsr k o h
    · exact hslr k o h
  have hdis' : Disj ho hr' := fun k => by
    cases hk : hr' k with
    | none => exact .inr rfl
    | some o =>
      left
      rcases hc k o hk with h | h
      · rcases g7 k with h' | h'
        · exact h'
        · rw [h] at h'; cases h'
      · rcases hdis k with h' | h'
        · exact (join_none.1 h').1
        · rw [join_none] at h'; rw [h] at h'; cases h'.2
  have hle := le_up (k := re + 1) (g := rowsRef R'.sz (.slice (some ⟨g, 0, none⟩) hs.length cap) hs') g1 (g3c _ (Nat.lt_succ_self _))
  have ht2 := p3.left hsub' hdis'
  refine ⟨_, w', _, p1, hle, hput (hn' := join ho' hr') (hm' := emp) hle (fun k hk1 hk2 => ext_ne _ _ _ hk1)
    ⟨_, _, hs', hs', ho', hr', ext_self _ _ _, up_self _ _ _, ⟨by omega, ⟨g0, up_keep (g3c _ (Nat.lt_succ_self _)) _ _ g3a, g3b⟩, up_none fun j hj => g3c j (by omega)⟩, rfl, fun x hx => ?_, by rw [hN']; exact p2, by rw [e1]; exact c1, p3.disj hsub' hdis', rfl⟩ rfl (disj_emp _) ?_, by simp [goInt, hLl]⟩
  · rw [← hnew] at hx
    rcases List.mem_append.1 hx with hx | hx
    · exact g4' x (List.mem_of_mem_take hx)
    · rcases List.mem_append.1 hx with hx | hx
      · exact k4' x hx
      · exact g4' x (List.mem_of_mem_drop hx)
  · rw [join_emp']
    refine ⟨ht2.sub, fun k hk => ?_, fun k o hk hn => ht2.keep k o hk ?_, ht2.stay⟩
    · rcases ht2.own k hk with h | h
      · left
        intro hn
        rw [join_none, join_none, join_none] at hn
        apply h
        rw [join_none]
        refine ⟨hn.1.1, ?_⟩
        cases hq : hr' k with
        | none => rfl
        | some o =>
          rcases hcn k (by rw [hq]; simp) with h' | h'
          · exact absurd hn.1.2 h'
          · exact absurd hn.2.2 h'
      · exact .inr h
    · rw [join_none, join_none, join_none] at hn
      rw [join_none]
      refine ⟨hn.1.1, ?_⟩
      cases hq : hr' k with
      | none => rfl
      | some o =>
        rcases hcn k (by rw [hq]; simp) with h' | h'
        · exact absurd hn.1.2 h'
        · exact absurd hn.2.2 h'
end

end Go.Sym
