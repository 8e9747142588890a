/- Rows that are owned, and memory that is only read: the operations that leave the heap as it is. -/
import Derived.Test.YtienakdnmhmglaaVO
set_option linter.unusedSimpArgs false
set_option linter.unusedVariables false
set_option linter.unusedSectionVars false
namespace Go.Sym
open Go
variable {P : Program} {w : World} {τ : Type} {I : Inv τ}

/-- How many elements a handle's slice has, and of how many cells each. -/
def baseN (H : List (SB τ)) (b ep : Nat) (sel : Option Nat) : Option (Bool × Nat × Nat) :=
  match getR H b ep sel with
  | some (c, _, n, sz, _) => some (c, n, sz)
  | none => match sel with
    | none => match H[b]? with
      | some (.rows R _ _ q _ _) => some (Nat.beq q ep, R.len, 1)
      | some (.limbo _ _ L _ _ q) => some (Nat.beq q ep, L.rows.length, 1)
      | _ => none
    | some _ => none
def SliceIn (u : Value) (n : Nat) : Prop := (u = .slice none 0 0 ∧ n = 0) ∨ ∃ g cap, u = .slice (some ⟨g, 0, none⟩) n cap ∧ n ≤ cap ∧ cap ≤ maxLen
theorem RowIn.sliceIn {v : Value} {n sz : Nat} {T : TypeId} {vs : List Value} (h : RowIn w v n sz T vs) : SliceIn v n := by
  obtain ⟨_, h | ⟨g, cap, rest, h1, _, h2, h3, _⟩⟩ := h
  · exact .inl h
  · exact .inr ⟨g, cap, h1, h2, h3⟩
theorem RowOk.sliceIn {v : Value} {n sz : Nat} {T : TypeId} {vs : List Value} {h : PH} (hr : RowOk v n sz T vs h) : SliceIn v n := by
  obtain ⟨_, ⟨h, h', _⟩ | ⟨g, cap, rest, h1, _, h2, h3, _⟩⟩ := hr
  · exact .inl ⟨h, h'⟩
  · exact .inr ⟨g, cap, h1, h2, h3⟩
theorem hdrs_length {pd : Option Nat} {us hs : List Value} (h : hdrs pd us hs) : hs.length = us.length := by
  cases pd with
  | none => rw [show hs = us from h]
  | some i => exact h.1
theorem LimOk.length {T sz : Nat} {g : List Nat → Value} : ∀ {us : List Value} {rs : List (Nat ⊕ (Nat × List Value))} {h : PH}, LimOk T sz g us rs h → us.length = rs.length
  | [], [], _, _ => rfl
  | [], _ :: _, _, h => h.elim
  | _ :: _, [], _, h => h.elim
  | _ :: us, .inl _ :: rs, _, ⟨_, h⟩ => by simp [LimOk.length h]
  | _ :: us, .inr _ :: rs, _, ⟨_, _, _, h, _, _⟩ => by simp [LimOk.length h]
theorem baseN_ok {e : Env} {H : List (SB τ)} {Fr : PH} (hM : Models I e H Fr w) {b ep : Nat} {sel : Option Nat} {c : Bool} {n sz : Nat} (h : baseN H b ep sel = some (c, n, sz)) (hc : c = true) :
    ∃ f g u, e b = some (.hd f) ∧ f ep = some g ∧ (∀ r, g (selQ sel r) = rowRef sz u r) ∧ SliceIn u n := by
  unfold baseN at h
  split at h
  · rename_i c' cn n' sz' T hg
    simp only [Option.some.injEq, Prod.mk.injEq] at h
    obtain ⟨rfl, rfl, rfl⟩ := h
    obtain ⟨f, g, u, vs, h1, h2, h3, _, h5, _⟩ := getR_ok hM hg hc
    exact ⟨f, g, u, h1, h2, h3, h5.sliceIn⟩
  · split at h
    · split at h
      · rename_i R T' TS q re pd hb
        simp only [Option.some.injEq, Prod.mk.injEq] at h
        obtain ⟨h1, rfl, rfl⟩ := h
        rw [hc, Nat.beq_eq] at h1
        subst h1
        obtain ⟨hn, ⟨f, u, us, hs, ho, hr, g1, g2, ⟨_, ⟨g0, g2', g2''⟩, g3⟩, g4, g4', g5, g6, g7, rfl⟩, hs'⟩ := hM.item hb
        refine ⟨f, g0, u, g1, g2', fun r => g2'' r, ?_⟩
        rw [← R.rows_length, ← g6.length, ← hdrs_length g4]
        exact g5.sliceIn
      · rename_i b' q L T' TS q' hb
        simp only [Option.some.injEq, Prod.mk.injEq] at h
        obtain ⟨h1, rfl, rfl⟩ := h
        rw [hc, Nat.beq_eq] at h1
        subst h1
        obtain ⟨hn, ⟨f, u, us, ho, hr, fb, gb, g1, g2, g3, g4, g5, g5', g6, g7, g8, rfl⟩, hs'⟩ := hM.item hb
        refine ⟨f, _, u, g1, g2, fun r => rfl, ?_⟩
        rw [← g7.length]
        exact g6.sliceIn
      · cases h
    · cases h

/-! ### Symbolic cells of a screen -/
def recS (c : C4) : List SV := [.v (.int .i32 c.g), .v (.int .i64 c.a), .v (.bool c.gd), .v (.int .i64 c.m)]
theorem recS_den {e : Env} (c : C4) : DenL e (recS c) c.vals := by
  simp only [recS, C4.vals, DenL, Den]
  exact ⟨_, _, rfl, rfl, _, _, rfl, rfl, _, _, rfl, rfl, _, _, rfl, rfl, rfl⟩
theorem cvals_drop : ∀ (l : List C4) (i : Nat), (cvals l).drop (i * 4) = cvals (l.drop i)
  | l, 0 => by simp
  | [], i + 1 => by simp [cvals]
  | c :: l, i + 1 => by
    have h := cvals_drop l i
    simp only [cvals, List.flatMap_cons, List.drop_succ_cons] at h ⊢
    rw [show (i + 1) * 4 = c.vals.length + i * 4 by simp [C4.vals]; omega, ← List.drop_drop]
    simp [h]
theorem cvals_take : ∀ (l : List C4) (i : Nat), (cvals l).take (i * 4) = cvals (l.take i)
  | l, 0 => by simp [cvals]
  | [], i + 1 => by simp [cvals]
  | c :: l, i + 1 => by
    have h := cvals_take l i
    simp only [cvals, List.flatMap_cons, List.take_succ_cons] at h ⊢
    rw [List.take_append, show (i + 1) * 4 - c.vals.length = i * 4 by simp [C4.vals]; omega, h]
    congr 1
    rw [List.take_of_length_le]
    simp [C4.vals]; omega
theorem cvals_append (l r : List C4) : cvals (l ++ r) = cvals l ++ cvals r := by simp [cvals]
theorem cvals_get {l : List C4} {i : Nat} (h : i < l.length) (k : Nat) (hk : k < 4) : (cvals l)[i * 4 + k]? = (l[i]).vals[k]? := by
  have h1 : (cvals l)[i * 4 + k]? = ((cvals l).drop (i * 4))[k]? := by rw [List.getElem?_drop]
  rw [h1, cvals_drop, List.drop_eq_getElem_cons h]
  simp only [cvals, List.flatMap_cons]
  rw [List.getElem?_append_left (by simpa [C4.vals] using hk)]
theorem cvals_one {v : Value} {l : List C4} (h : v ∈ cvals l) : v.oneCell' = true := by
  unfold cvals at h
  rw [List.mem_flatMap] at h
  obtain ⟨c, _, h⟩ := h
  simp only [C4.vals, List.mem_cons, List.not_mem_nil, or_false] at h
  rcases h with rfl | rfl | rfl | rfl <;> rfl

/-! ### Reading a row -/
def fieldC (c : C4) (o : Nat) : Option SV :=
  match o with
  | 0 => some (.v (.int .i32 c.g))
  | 1 => some (.v (.int .i64 c.a))
  | 2 => some (.v (.bool c.gd))
  | 3 => some (.v (.int .i64 c.m))
  | _ => none
def readR (P : Program) (T : TypeId) (cn : Cn) (sz i o : Nat) : Option (Bool × SV) :=
  match cn with
  | .ints k xs => match aggT P T, Nat.beq sz 1, o with
    | some false, true, 0 => some (Nat.blt i xs.length, .v (.int k (xs.getD i 0)))
    | _, _, _ => none
  | .recs xs => match aggT P T, szT P T, Nat.beq sz 4 with
    | some true, some 4, true => match o with
      | 0 => some (Nat.blt i xs.length, .a (recS (xs.getD i C4.no)))
      | _ => none
    | some false, _, true => (fieldC (xs.getD i C4.no) o).map fun y => (Nat.blt i xs.length, y)
    | _, _, _ => none
  | .sv l => match Nat.blt 0 l.length with
    | true => (loadC P T (i * sz + o) l).map ((true, ·))
    | false => none
theorem loadC_prefix {T : TypeId} {o : Nat} {l l' : List SV} {x : SV} (h : loadC P T o l = some x) : loadC P T o (l ++ l') = some x := by
  unfold loadC at h ⊢
  split at h
  · rename_i k ha hs
    split at h
    · rename_i hb
      rw [Nat.ble_eq] at hb
      have hb' : Nat.ble (o + k) (l ++ l').length = true := by rw [Nat.ble_eq]; simp; omega
      simp only [hb']
      rw [List.drop_append_of_le_length (by omega), List.take_append_of_le_length (by simp; omega)]
      exact h
    · cases h
  · have hlt := (List.getElem?_eq_some_iff.1 h).1
    show (l ++ l')[o]? = some x
    rw [List.getElem?_append_left hlt]
    exact h
  · cases h
/-- A load of one cell. -/
theorem run_load_one {T : TypeId} {g o : Nat} {cs : Array Value} {T' : TypeId} {fz : Nat × Nat} {v : Value} (ha : aggT P T = some false) (hg : w.heap[g]? = some (.cells cs T' fz)) (hv : cs[o]? = some v) : (loadVar T ⟨g, o, none⟩).run P w = .ok v w := by
  have hc : w.cell? ⟨g, o, none⟩ = some v := by rw [cell_at hg]; exact hv
  simp only [loadVar, Sem.run_bind, run_aggT ha, Result.andThen_ok, Bool.false_eq_true, if_false, run_load, hc]
/-- A load of some cells. -/
theorem run_load_agg {T : TypeId} {g o n : Nat} {cs : Array Value} {T' : TypeId} {fz : Nat × Nat} {vs : List Value} (ha : aggT P T = some true) (hs : szT P T = some n) (hg : w.heap[g]? = some (.cells cs T' fz)) (hl : vs.length = n) (hv : ∀ j v, vs[j]? = some v → cs[o + j]? = some v) :
    (loadVar T ⟨g, o, none⟩).run P w = .ok (.agg vs.toArray) w := by
  have hl' := run_loadCells_list (P := P) w ⟨g, o, none⟩ vs (fun j v hj => by
    rw [add_none, cell_at hg]
    exact hv j v hj)
  rw [hl] at hl'
  simp only [loadVar, Sem.run_bind, run_aggT ha, Result.andThen_ok, if_true, run_szT hs, hl', Sem.run_pure]
theorem readR_ok {e : Env} {T : TypeId} {cn : Cn} {sz i o : Nat} {c : Bool} {x : SV} {u : Value} {n : Nat} {T' : TypeId} {vs : List Value} (h : readR P T cn sz i o = some (c, x)) (hc : c = true)
    (hd : cn.den e vs) (hr : RowIn w u n sz T' vs) : ∃ g cap v, u = .slice (some ⟨g, 0, none⟩) n cap ∧ (loadVar T ⟨g, i * sz + o, none⟩).run P w = .ok v w ∧ Den e x v := by
  have hblk : (0 < vs.length) → ∃ g cap rest, u = .slice (some ⟨g, 0, none⟩) n cap ∧ w.heap[g]? = some (.cells (vs ++ rest).toArray T' (0, 0)) := fun hpos => by
    obtain ⟨h1, ⟨_, rfl⟩ | ⟨g, cap, rest, h2, h3, _⟩⟩ := hr
    · simp at h1; simp [h1] at hpos
    · exact ⟨g, cap, rest, h2, h3⟩
  unfold readR at h
  split at h
  · rename_i k xs
    simp only [Cn.den] at hd
    subst hd
    split at h
    · rename_i ha hs
      rw [Nat.beq_eq] at hs
      subst hs
      simp only [Option.some.injEq, Prod.mk.injEq] at h
      obtain ⟨h1, rfl⟩ := h
      rw [hc, Nat.blt_eq] at h1
      obtain ⟨g, cap, rest, h2, h3⟩ := hblk (by simp; omega)
      refine ⟨g, cap, .int k (xs.getD i 0), h2, run_load_one ha h3 ?_, by simp [Den]⟩
      simp [List.getElem?_append, h1]
    · cases h
  · rename_i xs
    simp only [Cn.den] at hd
    subst hd
    split at h
    · rename_i ha hsz hs
      rw [Nat.beq_eq] at hs
      subst hs
      split at h
      · simp only [Option.some.injEq, Prod.mk.injEq] at h
        obtain ⟨h1, rfl⟩ := h
        rw [hc, Nat.blt_eq] at h1
        obtain ⟨g, cap, rest, h2, h3⟩ := hblk (by rw [cvals_length]; omega)
        refine ⟨g, cap, .agg (xs.getD i C4.no).vals.toArray, h2, run_load_agg ha hsz h3 rfl (fun j v hj => ?_), ?_⟩
        · have hj4 : j < 4 := by have := (List.getElem?_eq_some_iff.1 hj).1; simpa [C4.vals] using this
          have := cvals_get h1 j hj4
          simp only [List.getElem?_toArray, Nat.add_zero]
          rw [List.getElem?_append_left (by rw [cvals_length]; omega), this]
          simpa [List.getD, h1] using hj
        · simp only [Den]; exact ⟨_, recS_den _, rfl⟩
      · cases h
    · rename_i ha hs
      rw [Nat.beq_eq] at hs
      subst hs
      simp only [Option.map_eq_some_iff, Prod.mk.injEq] at h
      obtain ⟨y, hy, h1, rfl⟩ := h
      rw [hc, Nat.blt_eq] at h1
      obtain ⟨g, cap, rest, h2, h3⟩ := hblk (by rw [cvals_length]; omega)
      have key : ∀ k v, k < 4 → (xs.getD i C4.no).vals[k]? = some v → (cvals xs ++ rest).toArray[i * 4 + k]? = some v := fun k v hk hv => by
        have := cvals_get h1 k hk
        simp only [List.getElem?_toArray]
        rw [List.getElem?_append_left (by rw [cvals_length]; omega), this]
        simpa [List.getD, h1] using hv
      unfold fieldC at hy
      split at hy
      · simp only [Option.some.injEq] at hy; subst hy
        exact ⟨g, cap, _, h2, run_load_one ha h3 (key 0 _ (by omega) rfl), by simp [Den]⟩
      · simp only [Option.some.injEq] at hy; subst hy
        exact ⟨g, cap, _, h2, run_load_one ha h3 (key 1 _ (by omega) rfl), by simp [Den]⟩
      · simp only [Option.some.injEq] at hy; subst hy
        exact ⟨g, cap, _, h2, run_load_one ha h3 (key 2 _ (by omega) rfl), by simp [Den]⟩
      · simp only [Option.some.injEq] at hy; subst hy
        exact ⟨g, cap, _, h2, run_load_one ha h3 (key 3 _ (by omega) rfl), by simp [Den]⟩
      · cases hy
    · cases h
  · rename_i l
    split at h
    · rename_i hpos
      rw [Nat.blt_eq] at hpos
      simp only [Option.map_eq_some_iff, Prod.mk.injEq] at h
      obtain ⟨y, hy, _, rfl⟩ := h
      have hd : DenL e l vs := hd
      obtain ⟨g, cap, rest, h2, h3⟩ := hblk (by rw [← hd.length]; exact hpos)
      have hd2 : DenL e (l ++ List.replicate rest.length .any) (vs ++ rest) := hd.append (by
        clear h3
        induction rest with
        | nil => simp [DenL]
        | cons y r ih => simp only [List.length_cons, List.replicate_succ, DenL]; exact ⟨_, _, rfl, by simp [Den], ih⟩)
      obtain ⟨v, hv, hdv⟩ := loadC_ok (P := P) (loadC_prefix (l' := List.replicate rest.length .any) hy) hd2 h3
      exact ⟨g, cap, v, h2, hv, hdv⟩
    · cases h

end Go.Sym
