/- Rows that are owned: what lies in the world, and how an item is turned. -/
import Derived.Test.YtienakdnmhmglaaVD
import Derived.Laws.OwnMore
import Derived.Laws.MakeOwn
set_option linter.unusedSimpArgs false
set_option linter.unusedVariables false
set_option linter.unusedSectionVars false
namespace Go.Sym
open Go
variable {P : Program} {w : World} {τ : Type} {I : Inv τ}

/-! ### Partial heaps, put together -/
theorem join_none {h h' : PH} {k : Nat} : join h h' k = none ↔ h k = none ∧ h' k = none := by
  unfold join
  cases h k <;> simp
theorem join_sub_left {h h' : PH} {k : Nat} {o : Obj} (hk : h k = some o) : join h h' k = some o := by simp [join, hk]
theorem join_sub_right {h h' : PH} (hd : Disj h h') {k : Nat} {o : Obj} (hk : h' k = some o) : join h h' k = some o := by
  rcases hd k with e | e
  · simp [join, e, hk]
  · rw [hk] at e; cases e
theorem join_some {h h' : PH} {k : Nat} {o : Obj} (hk : join h h' k = some o) : h k = some o ∨ h' k = some o := by
  unfold join at hk
  cases hq : h k with
  | none => rw [hq] at hk; exact .inr hk
  | some x => rw [hq] at hk; simp only [Option.some.injEq] at hk; subst hk; exact .inl rfl
theorem join_emp (h : PH) : join emp h = h := by funext k; simp [join, emp]
theorem join_emp' (h : PH) : join h emp = h := by funext k; unfold join emp; cases h k <;> rfl
theorem join_assoc (a b c : PH) : join (join a b) c = join a (join b c) := by
  funext k; unfold join; cases a k <;> rfl
theorem join_comm {a b : PH} (h : Disj a b) : join a b = join b a := by
  funext k
  unfold join
  rcases h k with e | e
  · rw [e]; cases b k <;> rfl
  · rw [e]; cases a k <;> rfl
theorem disj_join {a b c : PH} : Disj a (join b c) ↔ Disj a b ∧ Disj a c := by
  constructor
  · intro h
    refine ⟨fun k => ?_, fun k => ?_⟩
    · rcases h k with e | e
      · exact .inl e
      · exact .inr (join_none.1 e).1
    · rcases h k with e | e
      · exact .inl e
      · exact .inr (join_none.1 e).2
  · rintro ⟨h1, h2⟩ k
    rcases h1 k with e | e
    · exact .inl e
    · rcases h2 k with e' | e'
      · exact .inl e'
      · exact .inr (join_none.2 ⟨e, e'⟩)
theorem Disj.symm {a b : PH} (h : Disj a b) : Disj b a := fun k => (h k).symm
theorem sub_join {a b : PH} {w : World} (hd : Disj a b) : Sub (join a b) w ↔ Sub a w ∧ Sub b w := by
  constructor
  · intro h
    exact ⟨fun k o hk => h k o (join_sub_left hk), fun k o hk => h k o (join_sub_right hd hk)⟩
  · rintro ⟨h1, h2⟩ k o hk
    rcases join_some hk with e | e
    · exact h1 k o e
    · exact h2 k o e
theorem emp_disj (h : PH) : Disj emp h := fun _ => .inl rfl
theorem disj_emp (h : PH) : Disj h emp := fun _ => .inr rfl
theorem single_ne {n k : Nat} {o : Obj} : single n o k ≠ none ↔ k = n := by unfold single; split <;> simp_all
theorem sub_single {n : Nat} {o : Obj} (h : w.heap[n]? = some o) : Sub (single n o) w := fun k x hk => by
  unfold single at hk
  split at hk
  · rename_i e; subst e; simp only [Option.some.injEq] at hk; subst hk; exact h
  · cases hk
theorem single_self (n : Nat) (o : Obj) : single n o n = some o := by simp [single]

/-! ### One row in the world -/
def RowIn (w : World) (v : Value) (n sz : Nat) (T : TypeId) (vs : List Value) : Prop :=
  vs.length = n * sz ∧ ((v = .slice none 0 0 ∧ n = 0) ∨
    ∃ g cap rest, v = .slice (some ⟨g, 0, none⟩) n cap ∧ w.heap[g]? = some (.cells (vs ++ rest).toArray T (0, 0)) ∧ n ≤ cap ∧ cap ≤ maxLen ∧ (vs ++ rest).length = cap * sz)
theorem RowOk.in {v : Value} {n sz : Nat} {T : TypeId} {vs : List Value} {h : PH} (hr : RowOk v n sz T vs h) (hs : Sub h w) : RowIn w v n sz T vs := by
  obtain ⟨h1, ⟨h2, h3, _⟩ | ⟨g, cap, rest, h2, h3, h4⟩⟩ := hr
  · exact ⟨h1, .inl ⟨h2, h3⟩⟩
  · exact ⟨h1, .inr ⟨g, cap, rest, h2, hs g _ (by rw [h3]; exact single_self _ _), h4⟩⟩
theorem RowOk.one {v : Value} {n sz : Nat} {T : TypeId} {vs : List Value} {h : PH} (hr : RowOk v n sz T vs h) : v.oneCell' = true := by
  obtain ⟨h1, ⟨rfl, _⟩ | ⟨g, cap, rest, rfl, _⟩⟩ := hr <;> rfl
theorem RowIn.slice {v : Value} {n sz : Nat} {T : TypeId} {vs : List Value} (h : RowIn w v n sz T vs) : ∃ a cap, v = .slice a n cap := by
  obtain ⟨h1, ⟨rfl, rfl⟩ | ⟨g, cap, rest, rfl, _⟩⟩ := h
  · exact ⟨_, _, rfl⟩
  · exact ⟨_, _, rfl⟩
theorem Rws.rows_length (R : Rws) : R.rows.length = R.len := by cases R <;> simp [Rws.rows, Rws.len]
theorem RowsOk.length {T sz : Nat} : ∀ {us : List Value} {rs : List (Nat × List Value)} {h : PH}, RowsOk T sz us rs h → us.length = rs.length
  | [], [], _, _ => rfl
  | [], _ :: _, _, h => h.elim
  | _ :: _, [], _, h => h.elim
  | _ :: us, _ :: rs, _, ⟨_, _, _, h, _, _⟩ => by simp [RowsOk.length h]
/-- One of the rows, and the others. -/
theorem RowsOk.split {T sz : Nat} : ∀ {us : List Value} {rs : List (Nat × List Value)} {h : PH} {i : Nat} {r : Nat × List Value}, RowsOk T sz us rs h → rs[i]? = some r →
    ∃ v h1 h2, us[i]? = some v ∧ RowOk v r.1 sz T r.2 h1 ∧ Disj h1 h2 ∧ h = join h1 h2 ∧
      ∀ v' r' h1', RowOk v' r'.1 sz T r'.2 h1' → Disj h1' h2 → RowsOk T sz (us.set i v') (rs.set i r') (join h1' h2)
  | [], [], _, _, _, _, hi => by simp at hi
  | [], _ :: _, _, _, _, h, _ => h.elim
  | _ :: _, [], _, _, _, h, _ => h.elim
  | u :: us, r0 :: rs, _, 0, r, ⟨h1, h2, ho, hr, hd, e⟩, hi => by
    simp only [List.getElem?_cons_zero, Option.some.injEq] at hi
    subst hi
    exact ⟨u, h1, h2, rfl, ho, hd, e, fun v' r' h1' ho' hd' => ⟨h1', h2, ho', hr, hd', rfl⟩⟩
  | u :: us, r0 :: rs, _, i + 1, r, ⟨h1, h2, ho, hr, hd, e⟩, hi => by
    simp only [List.getElem?_cons_succ] at hi
    obtain ⟨v, k1, k2, g1, g2, g3, g4, g5⟩ := RowsOk.split hr hi
    subst g4
    rw [disj_join] at hd
    refine ⟨v, k1, join h1 k2, by simpa using g1, g2, disj_join.2 ⟨hd.1.symm, g3⟩, ?_, fun v' r' h1' ho' hd' => ?_⟩
    · rw [e, ← join_assoc, ← join_assoc, join_comm hd.1]
    · rw [disj_join] at hd'
      refine ⟨h1, join h1' k2, ho, g5 v' r' h1' ho' hd'.2, disj_join.2 ⟨hd'.1.symm, hd.2⟩, ?_⟩
      rw [← join_assoc, ← join_assoc, join_comm hd'.1]
theorem RowsOk.snoc {T sz : Nat} : ∀ {us : List Value} {rs : List (Nat × List Value)} {h h' : PH} {v : Value} {r : Nat × List Value}, RowsOk T sz us rs h → RowOk v r.1 sz T r.2 h' → Disj h h' →
    RowsOk T sz (us ++ [v]) (rs ++ [r]) (join h h')
  | [], [], h, h', v, r, e, ho, hd => by
    have e : h = emp := e
    subst e
    rw [join_emp]
    exact ⟨h', emp, ho, rfl, disj_emp _, (join_emp' _).symm⟩
  | [], _ :: _, _, _, _, _, h, _, _ => h.elim
  | _ :: _, [], _, _, _, _, h, _, _ => h.elim
  | u :: us, r0 :: rs, _, h', v, r, ⟨h1, h2, ho, hr, hd, e⟩, ho', hd' => by
    subst e
    rw [Go.Sym.join_assoc]
    have hd2 : Disj h1 h' ∧ Disj h2 h' := by
      have := disj_join.1 hd'.symm
      exact ⟨this.1.symm, this.2.symm⟩
    exact ⟨h1, join h2 h', ho, hr.snoc ho' hd2.2, disj_join.2 ⟨hd, hd2.1⟩, rfl⟩

/-! ### Handles -/
/-- A handle: the item, the epoch, which row (none: the outer one), and what of it. -/
def hsel (x : SV) : Option (Nat × Nat × Option Nat × List Nat) :=
  match x with
  | .h b p => match p with
    | ep :: q => match q with
      | t :: r => match t with
        | 0 => some (b, ep, none, r)
        | 1 => match r with
          | i :: r => some (b, ep, some i, r)
          | [] => none
        | _ => none
      | [] => none
    | [] => none
  | _ => none
def selQ (sel : Option Nat) (r : List Nat) : List Nat :=
  match sel with
  | none => 0 :: r
  | some i => 1 :: i :: r
def selP (ep : Nat) (sel : Option Nat) (r : List Nat) : List Nat := ep :: selQ sel r
theorem hsel_ok {x : SV} {b ep : Nat} {sel : Option Nat} {r : List Nat} (h : hsel x = some (b, ep, sel, r)) : x = .h b (selP ep sel r) := by
  unfold hsel at h
  split at h
  · split at h
    · split at h
      · split at h
        · simp only [Option.some.injEq, Prod.mk.injEq] at h; obtain ⟨rfl, rfl, rfl, rfl⟩ := h; rfl
        · split at h
          · simp only [Option.some.injEq, Prod.mk.injEq] at h; obtain ⟨rfl, rfl, rfl, rfl⟩ := h; rfl
          · cases h
        · cases h
      · cases h
    · cases h
  · cases h
def Rws.at (R : Rws) (i : Nat) : Cn :=
  match R with
  | .i k l => .ints k (l.getD i [])
  | .c l => .recs (l.getD i [])
def Rws.nAt (R : Rws) (i : Nat) : Nat :=
  match R with
  | .i _ l => (l.getD i []).length
  | .c l => (l.getD i []).length
/-- A row that a handle names: its content, how many elements, of how many cells. -/
def getR (H : List (SB τ)) (b ep : Nat) (sel : Option Nat) : Option (Bool × Cn × Nat × Nat × TypeId) :=
  match H[b]? with
  | some (.own c n T sz q _) => match sel with
    | none => some (Nat.beq q ep, c, n, sz, T)
    | some _ => none
  | some (.rows R T _ _ q _) => match sel with
    | some i => some (Nat.beq q ep && Nat.blt i R.len, R.at i, R.nAt i, R.sz, T)
    | none => none
  | _ => none
theorem Rws.rows_at (R : Rws) {i : Nat} (h : i < R.len) : ∃ r, R.rows[i]? = some r ∧ r.1 = R.nAt i ∧ ∀ e, (R.at i).den e r.2 := by
  cases R with
  | i k l =>
    simp only [Rws.len] at h
    refine ⟨(l[i].length, l[i].map (Value.int k)), by simp [Rws.rows, h], by simp [Rws.nAt, List.getD, h], fun e => ?_⟩
    simp [Rws.at, Cn.den, List.getD, h]
  | c l =>
    simp only [Rws.len] at h
    refine ⟨(l[i].length, cvals l[i]), by simp [Rws.rows, h], by simp [Rws.nAt, List.getD, h], fun e => ?_⟩
    simp [Rws.at, Cn.den, List.getD, h]
theorem den_h {e : Env} {b ep : Nat} {sel : Option Nat} {r : List Nat} {v : Value} (h : Den e (.h b (selP ep sel r)) v) :
    ∃ f g, e b = some (.hd f) ∧ f ep = some g ∧ v = g (selQ sel r) ∧ v.oneCell' = true := by
  simp only [Den] at h
  obtain ⟨f, h1, h2, h3⟩ := h
  simp only [selP, hdAt, Option.map_eq_some_iff] at h2
  obtain ⟨g, h4, h5⟩ := h2
  exact ⟨f, g, h1, h4, h5.symm, h3⟩
theorem h_den {e : Env} {b ep : Nat} {sel : Option Nat} {r : List Nat} {f : Nat → Option (List Nat → Value)} {g : List Nat → Value} (h1 : e b = some (.hd f)) (h2 : f ep = some g)
    (h3 : (g (selQ sel r)).oneCell' = true) : Den e (.h b (selP ep sel r)) (g (selQ sel r)) := by
  simp only [Den]
  exact ⟨f, h1, by simp [selP, hdAt, h2], h3⟩
/-- What the item of a row says. -/
theorem getR_ok {e : Env} {H : List (SB τ)} {Fr : PH} (hM : Models I e H Fr w) {b ep : Nat} {sel : Option Nat} {c : Bool} {cn : Cn} {n sz : Nat} {T : TypeId} (h : getR H b ep sel = some (c, cn, n, sz, T)) (hc : c = true) :
    ∃ f g u vs, e b = some (.hd f) ∧ f ep = some g ∧ (∀ r, g (selQ sel r) = rowRef sz u r) ∧ cn.den e vs ∧ RowIn w u n sz T vs ∧ u.oneCell' = true := by
  unfold getR at h
  split at h
  · rename_i c' n' T' sz' q nn hb
    split at h
    · simp only [Option.some.injEq, Prod.mk.injEq] at h
      obtain ⟨h1, rfl, rfl, rfl, rfl⟩ := h
      rw [hc, Nat.beq_eq] at h1
      subst h1
      obtain ⟨hn, ⟨f, v, vs, g1, g2, g3, g4, g5, g6⟩, hs⟩ := hM.item hb
      exact ⟨f, _, v, vs, g1, g2, fun _ => rfl, g4, g5.in hs, g5.one⟩
    · cases h
  · rename_i R T' TS oe q pd hb
    split at h
    · rename_i i
      simp only [Option.some.injEq, Prod.mk.injEq] at h
      obtain ⟨h1, rfl, rfl, rfl, rfl⟩ := h
      rw [hc, Bool.and_eq_true, Nat.beq_eq, Nat.blt_eq] at h1
      obtain ⟨rfl, h1⟩ := h1
      obtain ⟨hn, ⟨f, u, us, hs, ho, hr, g1, g2, g3, g4, g4', g5, g6, g7, rfl⟩, hs⟩ := hM.item hb
      obtain ⟨r, q1, q2, q3⟩ := R.rows_at h1
      obtain ⟨v, k1, k2, p1, p2, p3, rfl, _⟩ := g6.split q1
      rw [sub_join g7, sub_join p3] at hs
      refine ⟨f, _, v, r.2, g1, g2, fun r' => ?_, q3 e, ?_, p2.one⟩
      · show rowRef R.sz (us.getD i undef) r' = rowRef R.sz v r'
        rw [List.getD, p1]; rfl
      · rw [← q2]; exact p2.in hs.2.1
    · cases h
  · cases h

end Go.Sym
