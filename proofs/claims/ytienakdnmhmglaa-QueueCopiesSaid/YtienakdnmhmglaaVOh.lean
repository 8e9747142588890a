/- Rows of rows: rows are added, and grow; headers are kept aside, and copied back. -/
import Derived.Test.YtienakdnmhmglaaVOg
set_option linter.unusedSimpArgs false
set_option linter.unusedVariables false
set_option linter.unusedSectionVars false
namespace Go.Sym
open Go
variable {P : Program} {w : World} {τ : Type} {I : Inv τ}

/-! ### One row more -/
def Rws.snoc (R : Rws) (cn : Cn) : Option Rws :=
  match R with
  | .i k l => match cn with
    | .ints k' xs => match decide (k = k') with
      | true => some (.i k (l ++ [xs]))
      | false => none
    | _ => none
  | .c l => match cn with
    | .recs xs => some (.c (l ++ [xs]))
    | _ => none
theorem Rws.snoc_ok {R R' : Rws} {cn : Cn} (h : R.snoc cn = some R') : R'.sz = R.sz ∧ R'.len = R.len + 1 ∧ ∀ e vs, cn.den e vs → ∃ n, vs.length = n * R.sz ∧ R'.rows = R.rows ++ [(n, vs)] := by
  cases R with
  | i k l =>
    cases cn with
    | ints k' xs =>
      simp only [Rws.snoc] at h
      split at h
      · rename_i hk
        have hk := of_decide_eq_true hk
        subst hk
        simp only [Option.some.injEq] at h
        subst h
        refine ⟨rfl, by simp [Rws.len], fun e vs hd => ⟨xs.length, ?_, ?_⟩⟩
        · simp only [Cn.den] at hd; subst hd; simp [Rws.sz]
        · simp only [Cn.den] at hd; subst hd; simp [Rws.rows]
      · cases h
    | _ => simp [Rws.snoc] at h
  | c l =>
    cases cn with
    | recs xs =>
      simp only [Rws.snoc, Option.some.injEq] at h
      subst h
      refine ⟨rfl, by simp [Rws.len], fun e vs hd => ⟨xs.length, ?_, ?_⟩⟩
      · simp only [Cn.den] at hd; subst hd; simp [Rws.sz, cvals_length]
      · simp only [Cn.den] at hd; subst hd; simp [Rws.rows]
    | _ => simp [Rws.snoc] at h
def Lim.snocL (L : Lim) (j : Nat) : Lim :=
  match L with
  | .i k l => .i k (l ++ [.inl j])
  | .c l => .c (l ++ [.inl j])
theorem Lim.snocL_ok (L : Lim) (j : Nat) : (L.snocL j).sz = L.sz ∧ (L.snocL j).rows = L.rows ++ [.inl j] := by
  cases L <;> simp [Lim.snocL, Lim.sz, Lim.rows]
def Lim.snocR (L : Lim) (cn : Cn) : Option Lim :=
  match L with
  | .i k l => match cn with
    | .ints k' xs => match decide (k = k') with
      | true => some (.i k (l ++ [.inr xs]))
      | false => none
    | _ => none
  | .c l => match cn with
    | .recs xs => some (.c (l ++ [.inr xs]))
    | _ => none
theorem Lim.snocR_ok {L L' : Lim} {cn : Cn} (h : L.snocR cn = some L') : L'.sz = L.sz ∧ ∀ e vs, cn.den e vs → ∃ n, vs.length = n * L.sz ∧ L'.rows = L.rows ++ [.inr (n, vs)] := by
  cases L with
  | i k l =>
    cases cn with
    | ints k' xs =>
      simp only [Lim.snocR] at h
      split at h
      · rename_i hk
        have hk := of_decide_eq_true hk
        subst hk
        simp only [Option.some.injEq] at h
        subst h
        refine ⟨rfl, fun e vs hd => ⟨xs.length, ?_, ?_⟩⟩
        · simp only [Cn.den] at hd; subst hd; simp [Lim.sz]
        · simp only [Cn.den] at hd; subst hd; simp [Lim.rows]
      · cases h
    | _ => simp [Lim.snocR] at h
  | c l =>
    cases cn with
    | recs xs =>
      simp only [Lim.snocR, Option.some.injEq] at h
      subst h
      refine ⟨rfl, fun e vs hd => ⟨xs.length, ?_, ?_⟩⟩
      · simp only [Cn.den] at hd; subst hd; simp [Lim.sz, cvals_length]
      · simp only [Cn.den] at hd; subst hd; simp [Lim.rows]
    | _ => simp [Lim.snocR] at h
theorem LimOk.snocL {T sz : Nat} {g : List Nat → Value} {j : Nat} : ∀ {us : List Value} {rs : List (Nat ⊕ (Nat × List Value))} {h : PH}, LimOk T sz g us rs h → LimOk T sz g (us ++ [g [1, j]]) (rs ++ [.inl j]) h
  | [], [], _, h => ⟨rfl, h⟩
  | [], _ :: _, _, h => h.elim
  | _ :: _, [], _, h => h.elim
  | _ :: us, .inl _ :: rs, _, ⟨h1, h2⟩ => ⟨h1, h2.snocL⟩
  | _ :: us, .inr _ :: rs, _, ⟨h1, h2, ho, hr, hd, he⟩ => ⟨h1, h2, ho, hr.snocL, hd, he⟩
theorem LimOk.snocR {T sz : Nat} {g : List Nat → Value} {v : Value} {r : Nat × List Value} {h' : PH} : ∀ {us : List Value} {rs : List (Nat ⊕ (Nat × List Value))} {h : PH}, LimOk T sz g us rs h → RowOk v r.1 sz T r.2 h' → Disj h h' →
    LimOk T sz g (us ++ [v]) (rs ++ [.inr r]) (join h h')
  | [], [], h, e, ho, hd => by
    have e : h = emp := e
    subst e
    rw [join_emp]
    exact ⟨h', emp, ho, rfl, disj_emp _, (join_emp' _).symm⟩
  | [], _ :: _, _, h, _, _ => h.elim
  | _ :: _, [], _, h, _, _ => h.elim
  | _ :: us, .inl _ :: rs, _, ⟨h1, h2⟩, ho, hd => ⟨h1, h2.snocR ho hd⟩
  | _ :: us, .inr _ :: rs, _, ⟨h1, h2, ho1, hr, hd1, e⟩, ho, hd => by
    subst e
    rw [Go.Sym.join_assoc]
    have hd2 : Disj h1 h' ∧ Disj h2 h' := by
      have := disj_join.1 hd.symm
      exact ⟨this.1.symm, this.2.symm⟩
    exact ⟨h1, join h2 h', ho1, hr.snocR ho hd2.2, disj_join.2 ⟨hd1, hd2.1⟩, rfl⟩
theorem h_val {e : Env} {b ep : Nat} {p : List Nat} {f : Nat → Option (List Nat → Value)} {g : List Nat → Value} {v : Value} (hd : Den e (.h b (ep :: p)) v) (h1 : e b = some (.hd f)) (h2 : f ep = some g) : v = g p ∧ v.oneCell' = true := by
  simp only [Den] at hd
  obtain ⟨f', q1, q2, q3⟩ := hd
  rw [h1] at q1; cases q1
  simp only [hdAt, h2, Option.map_some, Option.some.injEq] at q2
  exact ⟨q2.symm, q3⟩
theorem h_of {e : Env} {b ep : Nat} {p : List Nat} {f : Nat → Option (List Nat → Value)} {g : List Nat → Value} {v : Value} (h1 : e b = some (.hd f)) (h2 : f ep = some g) (h3 : g p = v) (h4 : v.oneCell' = true) : Den e (.h b (ep :: p)) v := by
  simp only [Den]
  exact ⟨f, h1, by simp [hdAt, h2, h3], h4⟩
/-- What an item's answers are behind one epoch more. -/
def up (f : Nat → Option (List Nat → Value)) (k : Nat) (g : List Nat → Value) : Nat → Option (List Nat → Value) := fun j => if j = k then some g else f j
theorem up_self (f : Nat → Option (List Nat → Value)) (k : Nat) (g : List Nat → Value) : up f k g k = some g := by simp [up]
theorem up_keep {f : Nat → Option (List Nat → Value)} {k : Nat} {g : List Nat → Value} (h : f k = none) : ∀ j x, f j = some x → up f k g j = some x := fun j x hj => by
  have : j ≠ k := fun e => by subst e; rw [h] at hj; cases hj
  simp only [up, this, if_false]; exact hj
theorem up_none {f : Nat → Option (List Nat → Value)} {k : Nat} {g : List Nat → Value} (h : ∀ j, k ≤ j → f j = none) : ∀ j, k < j → up f k g j = none := fun j hj => by
  have : j ≠ k := by omega
  simp only [up, this, if_false]; exact h j (by omega)
theorem le_up {e : Env} {b k : Nat} {f : Nat → Option (List Nat → Value)} {g : List Nat → Value} (h : e b = some (.hd f)) (hf : f k = none) : Le e (ext e b (.hd (up f k g))) := le_grow h ⟨_, rfl, up_keep hf⟩

section
variable {e : Env} {H : List (SB τ)} {Fr : PH} {t ty TS : TypeId} {i : TypeInfo} {z : Value}
/-- A row of its own is put behind rows. -/
theorem addRow_ok (ht : P.underlying t = some (.slice TS)) (hi : P.info? TS = some i) (hz : i.zero = some z) (h1 : i.size = 1) (hzs : z.cells.size = 1) (hM : Models I e H Fr w) {b d oe re n sz q : Nat} {R R' : Rws} {T : TypeId} {cn : Cn} {nn : Bool}
    (hb : H[b]? = some (.rows R T TS oe re none)) (hd : H[d]? = some (.own cn n T sz q nn)) (hbd : b ≠ d) (hsz : sz = R.sz) (hR : R.snoc (asC P T cn) = some R') {u x y : Value} (hu : Den e (.h b [oe, 0]) u) (hy : Den e (.h d [q, 0]) y)
    (hx : SrcIn w x 1 1 [y]) (hl1 : R.len + 1 ≤ maxLen) (hl2 : (R.len + 1) * i.bytes ≤ 140737488355328) :
    ∃ r w' e', (Builtin.append_ #[t, t] ty #[u, x]).run P w = .ok r w' ∧ Le e e' ∧ Models I e' ((H.set b (.rows R' T TS (re + 1) (re + 1) none)).set d .gone) Fr w' ∧ Den e' (.h b [re + 1, 0]) r := by
  obtain ⟨hn, hm, ⟨f, u0, us, hs, ho, hr, g1, g2, ⟨g3, ⟨g0, g3a, g3b⟩, g3c⟩, g4, g4', g5, g6, g7, rfl⟩, ⟨fd, v, vs, k1, k2, k3, k4, k5, k6⟩, hs1, hs2, hdis, hput⟩ := hM.take2 hb hd hbd
  have g4 : hs = us := g4
  subst g4
  obtain ⟨rfl, _⟩ := h_val hu g1 g3a
  obtain ⟨hyv, hy1⟩ := h_val hy k1 k2
  have hyv : y = v := hyv
  subst hyv
  rw [show g0 [0] = u0 from g3b []] at *
  have hlen : hs.length = R.len := by rw [g6.length, R.rows_length]
  obtain ⟨hso, hsr⟩ := (sub_join g7).1 hs1
  have hdis' := disj_join.1 hdis.symm
  obtain ⟨v', w', ho', p1, p2, p3, p4⟩ := append_ok (P := P) (ty := ty) ht hi hz h1 hzs g5 hso hx (by omega) (by rw [hlen]; exact hl2)
  obtain ⟨e1, e2, e3⟩ := Rws.snoc_ok hR
  obtain ⟨m, e4, e5⟩ := e3 e vs (asC_ok k4)
  have hmn : m = n := by
    have h5 := k5.1
    rw [e4, hsz] at h5
    have hpos : 0 < R.sz := by cases R <;> simp [Rws.sz]
    exact Nat.eq_of_mul_eq_mul_right hpos h5
  subst hmn
  subst hsz
  have hle := le_up (k := re + 1) (g := rowsRef R'.sz v' (hs ++ [y])) g1 (g3c _ (Nat.lt_succ_self _))
  have hsub2 : Sub (join hr hm) w := (sub_join hdis'.2.symm).2 ⟨hsr, hs2⟩
  have hd2 : Disj ho (join hr hm) := disj_join.2 ⟨g7, hdis'.1.symm⟩
  refine ⟨v', w', _, p1, hle, hput (hn' := join ho' (join hr hm)) (hm' := emp) hle (fun k hk1 hk2 => ext_ne _ _ _ hk1)
    ⟨_, v', hs ++ [y], hs ++ [y], ho', join hr hm, ext_self _ _ _, up_self _ _ _, ⟨Nat.le_refl _, ⟨_, up_self _ _ _, fun p => rfl⟩, up_none fun j hj => g3c j (by omega)⟩, rfl, ?_, by simpa using p2, ?_, p3.disj hsub2 hd2, rfl⟩ rfl (disj_emp _) ?_, ?_⟩
  · intro x hx
    rcases List.mem_append.1 hx with hx | hx
    · exact g4' x hx
    · simp only [List.mem_singleton] at hx; subst hx; exact hy1
  · rw [e1, e5]
    exact g6.snoc (r := (m, vs)) k5 hdis'.2.symm
  · rw [join_emp', join_assoc]
    exact p3.left hsub2 hd2
  · exact h_of (ext_self _ _ _) (up_self _ _ _) rfl p2.one

/-- A row of its own is put behind headers. -/
theorem addLim_ok (ht : P.underlying t = some (.slice TS)) (hi : P.info? TS = some i) (hz : i.zero = some z) (h1 : i.size = 1) (hzs : z.cells.size = 1) (hM : Models I e H Fr w) {b d b0 q0 le n sz q : Nat} {L L' : Lim} {T : TypeId} {cn : Cn} {nn : Bool}
    (hb : H[b]? = some (.limbo b0 q0 L T TS le)) (hd : H[d]? = some (.own cn n T sz q nn)) (hbd : b ≠ d) (hsz : sz = L.sz) (hR : L.snocR (asC P T cn) = some L') {u x y : Value} (hu : Den e (.h b [le, 0]) u) (hy : Den e (.h d [q, 0]) y)
    (hx : SrcIn w x 1 1 [y]) (hl1 : L.rows.length + 1 ≤ maxLen) (hl2 : (L.rows.length + 1) * i.bytes ≤ 140737488355328) :
    ∃ r w' e', (Builtin.append_ #[t, t] ty #[u, x]).run P w = .ok r w' ∧ Le e e' ∧ Models I e' ((H.set b (.limbo b0 q0 L' T TS (le + 1))).set d .gone) Fr w' ∧ Den e' (.h b [le + 1, 0]) r := by
  obtain ⟨hn, hm, ⟨f, u0, us, ho, hr, fb, gb, g1, g2, g3c, ga, gc, g4', g5, g6, g7, rfl⟩, ⟨fd, v, vs, k1, k2, k3, k4, k5, k6⟩, hs1, hs2, hdis, hput⟩ := hM.take2 hb hd hbd
  obtain ⟨hu0, _⟩ := h_val hu g1 g2
  have hu0 : u = u0 := hu0
  subst hu0
  obtain ⟨hyv, hy1⟩ := h_val hy k1 k2
  have hyv : y = v := hyv
  subst hyv
  have hlen := g6.length
  obtain ⟨hso, hsr⟩ := (sub_join g7).1 hs1
  have hdis' := disj_join.1 hdis.symm
  obtain ⟨v', w', ho', p1, p2, p3, p4⟩ := append_ok (P := P) (ty := ty) ht hi hz h1 hzs g5 hso hx (by omega) (by rw [hlen]; exact hl2)
  obtain ⟨e1, e3⟩ := Lim.snocR_ok hR
  obtain ⟨m, e4, e5⟩ := e3 e vs (asC_ok k4)
  have hmn : m = n := by
    have h5 := k5.1
    rw [e4, hsz] at h5
    have hpos : 0 < L.sz := by cases L <;> simp [Lim.sz]
    exact Nat.eq_of_mul_eq_mul_right hpos h5
  subst hmn
  subst hsz
  have hle := le_up (k := le + 1) (g := ownRef 1 v') g1 (g3c _ (Nat.lt_succ_self _))
  have hsub2 : Sub (join hr hm) w := (sub_join hdis'.2.symm).2 ⟨hsr, hs2⟩
  have hd2 : Disj ho (join hr hm) := disj_join.2 ⟨g7, hdis'.1.symm⟩
  obtain ⟨fb', q1, q2⟩ := hle.hd ga
  refine ⟨v', w', _, p1, hle, hput (hn' := join ho' (join hr hm)) (hm' := emp) hle (fun k hk1 hk2 => ext_ne _ _ _ hk1)
    ⟨_, v', us ++ [y], ho', join hr hm, fb', gb, ext_self _ _ _, up_self _ _ _, up_none fun j hj => g3c j (by omega), q1, q2 _ _ gc, ?_, by simpa using p2, ?_, p3.disj hsub2 hd2, rfl⟩ rfl (disj_emp _) ?_, ?_⟩
  · intro x hx
    rcases List.mem_append.1 hx with hx | hx
    · exact g4' x hx
    · simp only [List.mem_singleton] at hx; subst hx; exact hy1
  · rw [e1, e5]
    exact g6.snocR (r := (m, vs)) k5 hdis'.2.symm
  · rw [join_emp', join_assoc]
    exact p3.left hsub2 hd2
  · exact h_of (ext_self _ _ _) (up_self _ _ _) rfl p2.one

/-- A row's header is put behind headers. -/
theorem addHdr_ok (ht : P.underlying t = some (.slice TS)) (hi : P.info? TS = some i) (hz : i.zero = some z) (h1 : i.size = 1) (hzs : z.cells.size = 1) (hM : Models I e H Fr w) {b b0 q0 le j : Nat} {L : Lim} {T : TypeId}
    (hb : H[b]? = some (.limbo b0 q0 L T TS le)) {u x y : Value} (hu : Den e (.h b [le, 0]) u) (hy : Den e (.h b0 [q0, 1, j]) y)
    (hx : SrcIn w x 1 1 [y]) (hl1 : L.rows.length + 1 ≤ maxLen) (hl2 : (L.rows.length + 1) * i.bytes ≤ 140737488355328) :
    ∃ r w' e', (Builtin.append_ #[t, t] ty #[u, x]).run P w = .ok r w' ∧ Le e e' ∧ Models I e' (H.set b (.limbo b0 q0 (L.snocL j) T TS (le + 1))) Fr w' ∧ Den e' (.h b [le + 1, 0]) r := by
  obtain ⟨hn, ⟨f, u0, us, ho, hr, fb, gb, g1, g2, g3c, ga, gc, g4', g5, g6, g7, rfl⟩, hs1, hput⟩ := hM.take hb
  obtain ⟨hu0, _⟩ := h_val hu g1 g2
  have hu0 : u = u0 := hu0
  subst hu0
  obtain ⟨rfl, hy1⟩ := h_val hy ga gc
  have hlen := g6.length
  obtain ⟨hso, hsr⟩ := (sub_join g7).1 hs1
  obtain ⟨v', w', ho', p1, p2, p3, p4⟩ := append_ok (P := P) (ty := ty) ht hi hz h1 hzs g5 hso hx (by omega) (by rw [hlen]; exact hl2)
  obtain ⟨e1, e3⟩ := L.snocL_ok j
  have hle := le_up (k := le + 1) (g := ownRef 1 v') g1 (g3c _ (Nat.lt_succ_self _))
  obtain ⟨fb', q1, q2⟩ := hle.hd ga
  refine ⟨v', w', _, p1, hle, hput (hn' := join ho' hr) hle (fun k hk1 => ext_ne _ _ _ hk1)
    ⟨_, v', us ++ [gb [1, j]], ho', hr, fb', gb, ext_self _ _ _, up_self _ _ _, up_none fun j hj => g3c j (by omega), q1, q2 _ _ gc, ?_, by simpa using p2, ?_, p3.disj hsr g7, rfl⟩ (p3.left hsr g7), ?_⟩
  · intro x hx
    rcases List.mem_append.1 hx with hx | hx
    · exact g4' x hx
    · simp only [List.mem_singleton] at hx; subst hx; exact hy1
  · rw [e1, e3]
    exact g6.snocL
  · exact h_of (ext_self _ _ _) (up_self _ _ _) rfl p2.one

/-- A row among rows grows: its header is not stored yet. -/
theorem growRow_ok {el : TypeId} (ht : P.underlying t = some (.slice el)) (hi : P.info? el = some i) (hz : i.zero = some z) (hzs : z.cells.size = i.size) (hM : Models I e H Fr w) {b oe re j m : Nat} {R R' : Rws} {f : Cn} {d : Cn}
    (hb : H[b]? = some (.rows R el TS oe re none)) (hj : j < R.len) (hsz : i.size = R.sz) (hadd : addC (asC P el (R.at j)) (asC P el d) = some f) (hR : R.setAt j f = some R') {u x : Value} (hu : Den e (.h b [re, 1, j]) u)
    {ns : List Value} (hdn : d.den e ns) (hx : SrcIn w x m i.size ns) (hl1 : R.nAt j + m ≤ maxLen) (hl2 : (R.nAt j + m) * i.bytes ≤ 140737488355328) :
    ∃ r w' e', (Builtin.append_ #[t, t] ty #[u, x]).run P w = .ok r w' ∧ Le e e' ∧ Models I e' (H.set b (.rows R' el TS oe (re + 1) (some j))) Fr w' ∧ Den e' (.h b [re + 1, 1, j]) r := by
  obtain ⟨hn, ⟨f0, u0, us, hs, ho, hr, g1, g2, ⟨g3, ⟨g0, g3a, g3b⟩, g3c⟩, g4, g4', g5, g6, g7, rfl⟩, hs1, hput⟩ := hM.take hb
  have g4 : hs = us := g4
  subst g4
  obtain ⟨hsel, _⟩ := h_val hu g1 g2
  obtain ⟨r0, q1, q2, q3⟩ := R.rows_at hj
  obtain ⟨v, k1, k2, a1, a2, a3, rfl, a4⟩ := g6.split q1
  have huv : u = v := by
    rw [hsel]
    show rowRef R.sz (hs.getD j undef) [] = v
    rw [List.getD, a1]; rfl
  subst huv
  obtain ⟨hso, hsr⟩ := (sub_join g7).1 hs1
  obtain ⟨hsk1, hsk2⟩ := (sub_join a3).1 hsr
  rw [q2] at a2
  rw [← hsz] at a2
  obtain ⟨v', w', h', p1, p2, p3, p4⟩ := append_ok (P := P) (ty := ty) ht hi hz rfl hzs a2 hsk1 hx hl1 hl2
  obtain ⟨e1, e2, e3⟩ := Rws.setAt_ok hR hj
  obtain ⟨n', e4, e5⟩ := e3 e (r0.2 ++ ns) (addC_ok hadd (asC_ok (q3 e)) (asC_ok hdn))
  have hn' : n' = R.nAt j + m := by
    have h5 := p2.1
    rw [e4, hsz] at h5
    have hpos : 0 < R.sz := by cases R <;> simp [Rws.sz]
    exact Nat.eq_of_mul_eq_mul_right hpos h5
  have hle := le_up (k := re + 1) (g := rowsRef R'.sz u0 (hs.set j v')) g1 (g3c _ (Nat.lt_succ_self _))
  have hd1 := disj_join.1 g7
  have ht2 := (p3.left hsk2 a3)
  have hd3 : Disj (join k1 k2) ho := g7.symm
  have hjl : j < hs.length := (List.getElem?_eq_some_iff.1 a1).1
  refine ⟨v', w', _, p1, hle, hput (hn' := join ho (join h' k2)) hle (fun k hk => ext_ne _ _ _ hk)
    ⟨_, u0, hs.set j v', hs, ho, join h' k2, ext_self _ _ _, up_self _ _ _, ⟨by omega, ⟨g0, up_keep (g3c _ (Nat.lt_succ_self _)) _ _ g3a, g3b⟩, up_none fun j hj => g3c j (by omega)⟩, ⟨by simp, fun k hk => (List.getElem?_set_ne (fun e => hk e.symm)).symm⟩, g4', g5, ?_, (ht2.disj hso hd3).symm, rfl⟩ (ht2.right hso hd3), ?_⟩
  · rw [e1, e5]
    refine a4 v' (n', r0.2 ++ ns) h' ?_ (p3.disj hsk2 a3)
    rw [hn', ← hsz]; exact p2
  · refine h_of (ext_self _ _ _) (up_self _ _ _) ?_ p2.one
    show rowRef R'.sz ((hs.set j v').getD j undef) [] = v'
    rw [List.getD, List.getElem?_set_self hjl]; rfl

/-- .. and is stored. -/
theorem putHdr_ok {U : TypeId} (hU : szT P U = some 1) (hM : Models I e H Fr w) {b oe re j : Nat} {R : Rws} {T : TypeId} (hb : H[b]? = some (.rows R T TS oe re (some j))) (hj : j < R.len) {u v : Value} (hu : Den e (.h b [oe, 0, j, 0]) u) (hv : Den e (.h b [re, 1, j]) v) :
    ∃ w', (Instr.storeAt U u v).run P w = .ok () w' ∧ Models I e (H.set b (.rows R T TS oe re none)) Fr w' := by
  obtain ⟨hn, ⟨f0, u0, us, hs, ho, hr, g1, g2, ⟨g3, ⟨g0, g3a, g3b⟩, g3c⟩, ⟨g4, g4b⟩, g4', g5, g6, g7, rfl⟩, hs1, hput⟩ := hM.take hb
  obtain ⟨hu1, _⟩ := h_val hu g1 g3a
  rw [g3b] at hu1
  obtain ⟨hv1, hv2⟩ := h_val hv g1 g2
  have hlen : us.length = R.len := by rw [g6.length, R.rows_length]
  have hjl : j < us.length := by omega
  have hvj : us[j]? = some v := by
    rw [List.getElem?_eq_getElem hjl]
    congr 1
    rw [hv1]
    symm
    show rowRef R.sz (us.getD j undef) [] = us[j]
    rw [List.getD, List.getElem?_eq_getElem hjl]; rfl
  obtain ⟨hso, hsr⟩ := (sub_join g7).1 hs1
  have hvc : v.cells.toList = [v] := by
    cases v <;> first | rfl | simp [Value.oneCell'] at hv2
  obtain ⟨_, ⟨rfl, h0, _⟩ | ⟨g, cap, rest, rfl, _⟩⟩ := id g5
  · omega
  · have hu1 : u = .pointer (some ⟨g, j * 1 + 0, none⟩) := hu1
    subst hu1
    obtain ⟨w', h', p1, p2, p3⟩ := store_ok (P := P) (off := j * 1 + 0) g5 hso (T := U) (v := v) (by rw [hvc]; exact hU) (by rw [hvc]; intro x hx; simp only [List.mem_singleton] at hx; subst hx; exact hv2) (by rw [hvc]; simp; omega)
    rw [hvc] at p2
    have hus : hs.take (j * 1 + 0) ++ [v] ++ hs.drop (j * 1 + 0 + [v].length) = us := by
      refine List.ext_getElem? fun k => ?_
      simp only [Nat.mul_one, Nat.add_zero, List.length_singleton]
      rcases Nat.lt_trichotomy k j with h | h | h
      · rw [List.getElem?_append_left (by simp; omega), List.getElem?_append_left (by simp; omega), List.getElem?_take_of_lt h]
        exact g4b k (by omega)
      · subst h
        rw [List.getElem?_append_left (by simp; omega), List.getElem?_append_right (by simp; omega)]
        simp only [List.length_take]
        rw [show k - min k hs.length = 0 by omega, hvj]
        rfl
      · rw [List.getElem?_append_right (by simp; omega), List.getElem?_drop]
        rw [← g4b k (by omega)]
        congr 1
        simp; omega
    rw [hus] at p2
    refine ⟨w', by simp only [Instr.storeAt, Instr.sureAddr, Sem.run_bind, Sem.run_pure, Result.andThen_ok, p1], hput (hn' := join h' hr) (Le.refl e) (fun _ _ => rfl) ⟨f0, _, us, us, h', hr, g1, g2, ⟨g3, ⟨g0, g3a, g3b⟩, g3c⟩, rfl, ?_, ?_, g6, p3.disj hsr g7, rfl⟩ (p3.left hsr g7)⟩
    · intro x hx
      obtain ⟨k, hk, rfl⟩ := List.getElem_of_mem hx
      by_cases hkj : k = j
      · subst hkj
        rw [List.getElem?_eq_getElem hk, Option.some.injEq] at hvj
        rw [hvj]; exact hv2
      · have := g4b k hkj
        rw [List.getElem?_eq_getElem hk] at this
        exact g4' _ (List.mem_of_getElem? this)
    · rw [← g4]; exact p2
end

end Go.Sym
