/- Rows that are owned: how they are written, and how they grow. -/
import Derived.Test.YtienakdnmhmglaaVOd
set_option linter.unusedSimpArgs false
set_option linter.unusedVariables false
set_option linter.unusedSectionVars false
namespace Go.Sym
open Go
variable {P : Program} {w : World} {τ : Type} {I : Inv τ}

/-- What an append comes to, at a row that nobody else looks at. -/
theorem append_any {t ty e : TypeId} {i : TypeInfo} {z : Value} {size : Nat} (ht : P.underlying t = some (.slice e)) (hi : P.info? e = some i) (hz : i.zero = some z)
    (hsize : i.size = size) (hzs : z.cells.size = size) {v : Value} {n : Nat} {xs : List Value} (hx : xs.length = n * size)
    (hv : (v = .slice none 0 0 ∧ n = 0) ∨ ∃ g cap rest, v = .slice (some ⟨g, 0, none⟩) n cap ∧ w.heap[g]? = some (.cells (xs ++ rest).toArray e (0, 0)) ∧ n ≤ cap ∧ cap ≤ maxLen ∧ (xs ++ rest).length = cap * size)
    {a : Addr} {m c : Nat} {news : List Value} (hl : news.length = m * size) (hnews : ∀ (j : Nat) u, news[j]? = some u → w.cell? (a.add j) = some u) (h1 : ∀ u ∈ news, u.oneCell' = true)
    (h63 : n + m ≤ maxLen) (hbytes : (n + m) * i.bytes ≤ 140737488355328) :
    ∃ v' w', (Builtin.append_ #[t, t] ty #[v, .slice (some a) m c]).run P w = .ok v' w' ∧
      ((v = .slice none 0 0 ∧ n = 0 ∧ m = 0 ∧ v' = .slice none 0 0 ∧ w' = w) ∨
       (∃ cap' rest, v' = .slice (some ⟨w.heap.size, 0, none⟩) (n + m) cap' ∧ w' = w.drew.alloc (.cells (xs ++ news ++ rest).toArray e) ∧ n + m ≤ cap' ∧ cap' ≤ maxLen ∧ (xs ++ news ++ rest).length = cap' * size) ∨
       (∃ g cap rest, v = .slice (some ⟨g, 0, none⟩) n cap ∧ v' = .slice (some ⟨g, 0, none⟩) (n + m) cap ∧ w' = w.setRow g (xs ++ news ++ rest).toArray ∧ n + m ≤ cap ∧ cap ≤ maxLen ∧ (xs ++ news ++ rest).length = cap * size)) := by
  subst hsize
  have hsmall : n + m ≤ 9223372036854775807 := by simp only [maxLen] at h63; omega
  have hzc : ∀ k, (Builtin.zeroCells z.cells k).toList.length = k * i.size := fun k => by
    rw [Array.length_toList, size_zeroCells, hzs]
  have hge : ∀ old, n + m ≤ grownCap w (n + m) old e := fun old => grownCap_ge w (n + m) old e
  have hcm : ∀ old, grownCap w (n + m) old e ≤ maxLen := fun old => grownCap_le_maxLen w (n + m) old e h63
  have hnew : ∀ old, (xs ++ news ++ (Builtin.zeroCells z.cells (grownCap w (n + m) old e - (n + m))).toList).length = grownCap w (n + m) old e * i.size := fun old => by
    rw [List.length_append, List.length_append, hzc, hx, hl, ← Nat.add_mul, ← Nat.add_mul]
    congr 1
    have := hge old
    omega
  have harr : ∀ old, xs.toArray ++ news.toArray ++ Builtin.zeroCells z.cells (grownCap w (n + m) old e - (n + m)) = (xs ++ news ++ (Builtin.zeroCells z.cells (grownCap w (n + m) old e - (n + m))).toList).toArray := fun old => by
    apply Array.toList_inj.1; simp
  rcases hv with ⟨rfl, rfl⟩ | ⟨g, cap, rest, rfl, hg, hnc, hcap, hcs⟩
  · have hxe : xs = [] := List.eq_nil_of_length_eq_zero (by simpa using hx)
    subst hxe
    by_cases hm : m = 0
    · subst hm
      have hn : news = [] := List.eq_nil_of_length_eq_zero (by simpa using hl)
      subst hn
      refine ⟨.slice none 0 0, w, ?_, .inl ⟨rfl, rfl, rfl, rfl, rfl⟩⟩
      simp [Builtin.append_, run_underlying ht, sizeOf, typeInfo, hi, Builtin.lenOf, Builtin.firstCells, loadCells, loadCellsFrom]
    · have hr := run_append_nil (P := P) w t ty e i z ht hi hz a m c news hl hnews (by omega) (by omega) (by simp only [Nat.zero_add] at hbytes; omega)
      refine ⟨_, _, hr, .inr (.inl ⟨grownCap w m 0 e, (Builtin.zeroCells z.cells (grownCap w m 0 e - m)).toList, by simp only [Nat.zero_add], ?_, ?_, ?_, ?_⟩)⟩
      · congr 1
        have := harr 0
        simp only [Nat.zero_add, List.nil_append] at this ⊢
        rw [← this]
        simp
      · have := hge 0; simpa using this
      · have := hcm 0; simpa using this
      · have := hnew 0; simpa using this
  · by_cases hroom : n + m ≤ cap
    · have hxl : xs.length + rest.length = cap * i.size := by simpa using hcs
      have hfit : n * i.size + news.length ≤ (xs ++ rest).toArray.size := by
        have h2 := Nat.mul_le_mul_right i.size hroom
        rw [Nat.add_mul] at h2
        simp; omega
      have hr := run_append_room (P := P) w t ty e i ht hi g n cap (xs ++ rest).toArray hg a m c news hl hnews h1 hroom hfit
      refine ⟨_, _, hr, .inr (.inr ⟨g, cap, rest.drop news.length, rfl, rfl, ?_, hroom, hcap, ?_⟩)⟩
      · congr 2
        have e1 : ((xs ++ rest).toArray.toList.take (n * i.size)) = xs := by rw [← hx]; simp
        have e2 : (xs ++ rest).toArray.toList.drop (n * i.size + news.length) = rest.drop news.length := by rw [← hx]; simp [List.drop_append]
        rw [e1, e2]
      · have h2 := Nat.mul_le_mul_right i.size hroom
        rw [Nat.add_mul] at h2
        simp; omega
    · have holds : ∀ (j : Nat) u, xs[j]? = some u → w.cell? ((⟨g, 0, none⟩ : Addr).add j) = some u := fun j u hj => by
        rw [add_none, cell_at hg]
        have hlt := (List.getElem?_eq_some_iff.1 hj).1
        simp only [Nat.zero_add, List.getElem?_toArray]
        rw [List.getElem?_append_left hlt]
        exact hj
      have hr := run_append_grow (P := P) w t ty e i z ht hi hz ⟨g, 0, none⟩ n cap xs hx holds a m c news hl hnews (by omega) (by omega) (growslice_fits (by omega) hbytes)
      exact ⟨_, _, hr, .inr (.inl ⟨_, (Builtin.zeroCells z.cells (grownCap w (n + m) cap e - (n + m))).toList, rfl, by rw [← harr], hge cap, hcm cap, hnew cap⟩)⟩

/-- An append of nothing. -/
theorem append_none {t ty e : TypeId} {i : TypeInfo} (ht : P.underlying t = some (.slice e)) (hi : P.info? e = some i) {v : Value} {n : Nat}
    (hv : (v = .slice none 0 0 ∧ n = 0) ∨ ∃ g cap, v = .slice (some ⟨g, 0, none⟩) n cap ∧ n ≤ cap) :
    (Builtin.append_ #[t, t] ty #[v, .slice none 0 0]).run P w = .ok v w := by
  rcases hv with ⟨rfl, rfl⟩ | ⟨g, cap, rfl, h⟩
  · simp [Builtin.append_, run_underlying ht, sizeOf, typeInfo, hi, Builtin.lenOf, Builtin.firstCells]
  · simp [Builtin.append_, run_underlying ht, sizeOf, typeInfo, hi, Builtin.lenOf, Builtin.firstCells, h, storeCells]


/-! ### What was a part's, and new blocks, is the part's again -/
structure Turned (w w' : World) (h h' : PH) : Prop where
  sub : Sub h' w'
  own : ∀ k, h' k ≠ none → h k ≠ none ∨ w.heap.size ≤ k
  keep : ∀ (k : Nat) (o : Obj), w.heap[k]? = some o → h k = none → w'.heap[k]? = some o
  stay : Stay w w'
theorem Turned.refl {h : PH} (hs : Sub h w) : Turned w w h h := ⟨hs, fun _ hk => .inl hk, fun _ _ hk _ => hk, Stay.refl w⟩
theorem Turned.disj {w' : World} {h h' x : PH} (ht : Turned w w' h h') (hx : Sub x w) (hd : Disj h x) : Disj h' x := fun k => by
  cases hk : x k with
  | none => exact .inr rfl
  | some o =>
    left
    have hlt := lt_of_sub hx hk
    cases hq : h' k with
    | none => rfl
    | some o' =>
      rcases ht.own k (by rw [hq]; simp) with h2 | h2
      · rcases hd k with h3 | h3
        · exact absurd h3 h2
        · rw [hk] at h3; cases h3
      · omega
theorem Turned.keeps {w' : World} {h h' x : PH} (ht : Turned w w' h h') (hx : Sub x w) (hd : Disj h x) : Sub x w' := fun k o hk => by
  refine ht.keep k o (hx k o hk) ?_
  rcases hd k with h3 | h3
  · exact h3
  · rw [hk] at h3; cases h3
theorem Turned.left {w' : World} {h h' x : PH} (ht : Turned w w' h h') (hx : Sub x w) (hd : Disj h x) : Turned w w' (join h x) (join h' x) := by
  refine ⟨(sub_join (ht.disj hx hd)).2 ⟨ht.sub, ht.keeps hx hd⟩, fun k hk => ?_, fun k o hk hn => ?_, ht.stay⟩
  · cases hq : x k with
    | some o => left; intro hn; rw [join_none] at hn; rw [hq] at hn; cases hn.2
    | none =>
      have : h' k ≠ none := fun e => hk (join_none.2 ⟨e, hq⟩)
      rcases ht.own k this with h2 | h2
      · left; intro hn; exact h2 (join_none.1 hn).1
      · exact .inr h2
  · exact ht.keep k o hk (join_none.1 hn).1
theorem Turned.right {w' : World} {h h' x : PH} (ht : Turned w w' h h') (hx : Sub x w) (hd : Disj h x) : Turned w w' (join x h) (join x h') := by
  have := ht.left hx hd
  rw [join_comm hd, join_comm (ht.disj hx hd)] at this
  exact this
/-- An item, taken out to be turned. -/
theorem Models.take {e : Env} {H : List (SB τ)} {Fr : PH} (hM : Models I e H Fr w) {i : Nat} {b : SB τ} (hi : H[i]? = some b) :
    ∃ hn, ItemOk I e b (e i) hn ∧ Sub hn w ∧ ∀ {e' : Env} {w' : World} {b' : SB τ} {hn' : PH}, Le e e' → (∀ j, j ≠ i → e' j = e j) → ItemOk I e' b' (e' i) hn' → Turned w w' hn hn' → Models I e' (H.set i b') Fr w' := by
  have hlt : i < H.length := (List.getElem?_eq_some_iff.1 hi).1
  obtain ⟨h0, hs, h1, h2, h3, h4, h5, h6⟩ := hM
  refine ⟨hs i, h1 i b hi, h5 i, fun {e' w' b' hn'} hle he hb ht => ?_⟩
  refine Models.turn0 (S := fun j => j = i) (hs := hs) (hs' := fun j => if j = i then hn' else hs j) h0 h1 h2 h3 h4 h5 h6 hle ht.stay (fun j hj => ⟨List.getElem?_set_ne (fun e => hj e.symm), he j hj⟩)
    (fun j hj => if_neg hj) (fun j b'' hj hb'' => ?_) (fun j hj hl => ?_) (fun j k hj hk hjk => ?_) (fun j hj => ?_) (fun j k hj hk => ?_) (fun k o hk hn => ?_)
  · subst hj
    simp [hlt] at hb''
    subst hb''
    simpa using hb
  · subst hj; simp at hl; omega
  · exact absurd (hj.trans hk.symm) hjk
  · subst hj; simpa using ht.sub
  · subst hj
    simp only [if_true] at hk
    rcases ht.own k hk with h5 | h5
    · exact .inl ⟨j, rfl, h5⟩
    · exact .inr h5
  · exact ht.keep k o hk (hn i rfl)
/-- Two items, taken out to be turned together. -/
theorem Models.take2 {e : Env} {H : List (SB τ)} {Fr : PH} (hM : Models I e H Fr w) {i j : Nat} {b c : SB τ} (hi : H[i]? = some b) (hj : H[j]? = some c) (hij : i ≠ j) :
    ∃ hn hm, ItemOk I e b (e i) hn ∧ ItemOk I e c (e j) hm ∧ Sub hn w ∧ Sub hm w ∧ Disj hn hm ∧ ∀ {e' : Env} {w' : World} {b' c' : SB τ} {hn' hm' : PH}, Le e e' → (∀ k, k ≠ i → k ≠ j → e' k = e k) →
      ItemOk I e' b' (e' i) hn' → ItemOk I e' c' (e' j) hm' → Disj hn' hm' → Turned w w' (join hn hm) (join hn' hm') → Models I e' ((H.set i b').set j c') Fr w' := by
  have hlt : i < H.length := (List.getElem?_eq_some_iff.1 hi).1
  have hlt' : j < H.length := (List.getElem?_eq_some_iff.1 hj).1
  obtain ⟨h0, hs, h1, h2, h3, h4, h5, h6⟩ := hM
  refine ⟨hs i, hs j, h1 i b hi, h1 j c hj, h5 i, h5 j, h3 i j hij, fun {e' w' b' c' hn' hm'} hle he hb hc hd ht => ?_⟩
  have hji : j ≠ i := fun e => hij e.symm
  refine Models.turn0 (S := fun k => k = i ∨ k = j) (hs := hs) (hs' := fun k => if k = i then hn' else if k = j then hm' else hs k) h0 h1 h2 h3 h4 h5 h6 hle ht.stay (fun k hk => ?_)
    (fun k hk => ?_) (fun k b'' hk hb'' => ?_) (fun k hk hl => ?_) (fun k l hk hl hkl => ?_) (fun k hk => ?_) (fun k m hk hn => ?_) (fun k o hk hn => ?_)
  · have hk1 : k ≠ i := fun e => hk (.inl e)
    have hk2 : k ≠ j := fun e => hk (.inr e)
    rw [List.getElem?_set_ne (fun e => hk2 e.symm), List.getElem?_set_ne (fun e => hk1 e.symm)]
    exact ⟨rfl, he k hk1 hk2⟩
  · have hk1 : k ≠ i := fun e => hk (.inl e)
    have hk2 : k ≠ j := fun e => hk (.inr e)
    simp only [hk1, hk2, if_false]
  · rcases hk with rfl | rfl
    · rw [List.getElem?_set_ne hji] at hb''
      simp [hlt] at hb''
      subst hb''
      simpa using hb
    · simp [hlt'] at hb''
      subst hb''
      simpa [hji] using hc
  · simp only [List.length_set] at hl; rcases hk with rfl | rfl <;> omega
  · rcases hk with rfl | rfl
    · rcases hl with rfl | rfl
      · exact absurd rfl hkl
      · simpa [hji] using hd
    · rcases hl with rfl | rfl
      · simpa [hji] using hd.symm
      · exact absurd rfl hkl
  · have hh := (sub_join hd).1 ht.sub
    rcases hk with rfl | rfl
    · simpa using hh.1
    · simpa [hji] using hh.2
  · have : join hn' hm' m ≠ none := by
      intro e
      rw [join_none] at e
      rcases hk with rfl | rfl
      · simp only [if_true] at hn; exact hn e.1
      · simp only [hji, if_false, if_true] at hn; exact hn e.2
    rcases ht.own m this with h7 | h7
    · left
      rcases Classical.em (hs i m = none) with h8 | h8
      · refine ⟨j, .inr rfl, fun h9 => h7 (join_none.2 ⟨h8, h9⟩)⟩
      · exact ⟨i, .inl rfl, h8⟩
    · exact .inr h7
  · exact ht.keep k o hk (join_none.2 ⟨hn i (.inl rfl), hn j (.inr rfl)⟩)

/-! ### A row grows -/
theorem append_ok {t ty el : TypeId} {i : TypeInfo} {z : Value} {sz : Nat} (ht : P.underlying t = some (.slice el)) (hi : P.info? el = some i) (hz : i.zero = some z)
    (hsize : i.size = sz) (hzs : z.cells.size = sz) {v : Value} {n : Nat} {xs : List Value} {h : PH} (hr : RowOk v n sz el xs h) (hsub : Sub h w)
    {u : Value} {m : Nat} {news : List Value} (hs : SrcIn w u m sz news) (h63 : n + m ≤ maxLen) (hbytes : (n + m) * i.bytes ≤ 140737488355328) :
    ∃ v' w' h', (Builtin.append_ #[t, t] ty #[v, u]).run P w = .ok v' w' ∧ RowOk v' (n + m) sz el (xs ++ news) h' ∧ Turned w w' h h' ∧ (v ≠ .slice none 0 0 ∨ 0 < m → v' ≠ .slice none 0 0) := by
  obtain ⟨hnl, hone, hsrc⟩ := hs
  have hxl := hr.1
  have hlen : (xs ++ news).length = (n + m) * sz := by rw [List.length_append, hxl, hnl, Nat.add_mul]
  rcases hsrc with ⟨rfl, rfl⟩ | ⟨a, cap0, rfl, hc⟩
  · have hn0 : news = [] := List.eq_nil_of_length_eq_zero (by simpa using hnl)
    subst hn0
    refine ⟨v, w, h, append_none (n := n) ht hi ?_, by simpa using hr, Turned.refl hsub, ?_⟩
    · obtain ⟨_, ⟨h1, h2, _⟩ | ⟨g, cap, rest, h1, h2, h3, _⟩⟩ := hr
      · exact .inl ⟨h1, h2⟩
      · exact .inr ⟨g, cap, h1, h3⟩
    · rintro (h1 | h1)
      · exact h1
      · omega
  · have hv : (v = .slice none 0 0 ∧ n = 0) ∨ ∃ g cap rest, v = .slice (some ⟨g, 0, none⟩) n cap ∧ w.heap[g]? = some (.cells (xs ++ rest).toArray el (0, 0)) ∧ n ≤ cap ∧ cap ≤ maxLen ∧ (xs ++ rest).length = cap * sz := (hr.in hsub).2
    obtain ⟨v', w', h1, h2⟩ := append_any (ty := ty) (c := cap0) ht hi hz hsize hzs hxl hv hnl hc hone h63 hbytes
    rcases h2 with ⟨rfl, rfl, rfl, rfl, rfl⟩ | ⟨cap', rest, rfl, rfl, h3, h4, h5⟩ | ⟨g, cap, rest, rfl, rfl, rfl, h3, h4, h5⟩
    · have hn0 : news = [] := List.eq_nil_of_length_eq_zero (by simpa using hnl)
      subst hn0
      refine ⟨_, _, h, h1, by simpa using hr, Turned.refl hsub, ?_⟩
      rintro (h6 | h6)
      · exact absurd rfl h6
      · omega
    · have hnew : (w.drew.alloc (.cells (xs ++ news ++ rest).toArray el)).heap[w.heap.size]? = some (.cells (xs ++ news ++ rest).toArray el (0, 0)) := by
        show (w.heap.push _)[w.heap.size]? = _; simp
      refine ⟨_, _, single w.heap.size (.cells (xs ++ news ++ rest).toArray el (0, 0)), h1, ⟨hlen, .inr ⟨_, cap', rest, rfl, rfl, h3, h4, h5⟩⟩, ⟨sub_single hnew, fun k hk => .inr (by rw [single_ne] at hk; omega), fun k o hk _ => (Ext.alloc w.drew _).heap k o hk, ⟨rfl, rfl⟩⟩, fun _ hh => by cases hh⟩
    · obtain ⟨_, ⟨h6, _⟩ | ⟨g', cap', rest', h6, h7, _⟩⟩ := hr
      · cases h6
      · cases h6
        have hg : w.heap[g]? = some (.cells (xs ++ rest').toArray el (0, 0)) := hsub g _ (by rw [h7]; exact single_self _ _)
        refine ⟨_, _, single g (.cells (xs ++ news ++ rest).toArray el (0, 0)), h1, ⟨hlen, .inr ⟨g, cap, rest, rfl, rfl, h3, h4, h5⟩⟩, ⟨sub_single (setRow_heap w g _ _ el (0, 0) hg), fun k hk => ?_, fun k o hk hn => ?_, stay_setRow w g _⟩, fun _ hh => by cases hh⟩
        · rw [single_ne] at hk
          left; rw [h7, hk, single_self]; simp
        · rw [setRow_other w g k]
          · exact hk
          · intro e; subst e; rw [h7, single_self] at hn; cases hn

/-! ### A row is written -/
theorem write_ok {T : TypeId} {g n cap sz : Nat} {vs vs' : List Value} {h : PH} (hr : RowOk (.slice (some ⟨g, 0, none⟩) n cap) n sz T vs h) (hsub : Sub h w) (hl : vs'.length = vs.length) :
    ∃ rest, w.heap[g]? = some (.cells (vs ++ rest).toArray T (0, 0)) ∧ ∃ h', RowOk (.slice (some ⟨g, 0, none⟩) n cap) n sz T vs' h' ∧ Turned w (w.setRow g (vs' ++ rest).toArray) h h' := by
  obtain ⟨h0, ⟨h1, _⟩ | ⟨g', cap', rest, h1, rfl, h2, h3, h4⟩⟩ := hr
  · cases h1
  · cases h1
    have hg : w.heap[g]? = some (.cells (vs ++ rest).toArray T (0, 0)) := hsub g _ (single_self _ _)
    refine ⟨rest, hg, single g (.cells (vs' ++ rest).toArray T (0, 0)), ⟨by rw [hl]; exact h0, .inr ⟨g, cap, rest, rfl, rfl, h2, h3, by simp at h4 ⊢; omega⟩⟩, ⟨sub_single (setRow_heap w g _ _ T (0, 0) hg), fun k hk => ?_, fun k o hk hn => ?_, stay_setRow w g _⟩⟩
    · rw [single_ne] at hk; left; rw [hk, single_self]; simp
    · rw [setRow_other w g k]
      · exact hk
      · intro e; subst e; rw [single_self] at hn; cases hn

def Rws.setAt (R : Rws) (i : Nat) (cn : Cn) : Option Rws :=
  match R with
  | .i k l => match cn with
    | .ints k' xs => match decide (k = k') with
      | true => some (.i k (l.set i xs))
      | false => none
    | _ => none
  | .c l => match cn with
    | .recs xs => some (.c (l.set i xs))
    | _ => none
theorem Rws.setAt_ok {R R' : Rws} {i : Nat} {cn : Cn} (h : R.setAt i cn = some R') (hi : i < R.len) : R'.sz = R.sz ∧ R'.len = R.len ∧ ∀ e vs, cn.den e vs → ∃ n, vs.length = n * R.sz ∧ R'.rows = R.rows.set i (n, vs) := by
  cases R with
  | i k l =>
    cases cn with
    | ints k' xs =>
      simp only [Rws.setAt] at h
      split at h
      · rename_i hk
        have hk := of_decide_eq_true hk
        subst hk
        simp only [Option.some.injEq] at h
        subst h
        refine ⟨rfl, by simp [Rws.len], fun e vs hd => ⟨xs.length, ?_, ?_⟩⟩
        · simp only [Cn.den] at hd; subst hd; simp [Rws.sz]
        · simp only [Cn.den] at hd; subst hd; simp only [Rws.rows]; rw [← set_map]
      · cases h
    | _ => simp [Rws.setAt] at h
  | c l =>
    cases cn with
    | recs xs =>
      simp only [Rws.setAt, Option.some.injEq] at h
      subst h
      refine ⟨rfl, by simp [Rws.len], fun e vs hd => ⟨xs.length, ?_, ?_⟩⟩
      · simp only [Cn.den] at hd; subst hd; simp [Rws.sz, cvals_length]
      · simp only [Cn.den] at hd; subst hd; simp only [Rws.rows]; rw [← set_map]
    | _ => simp [Rws.setAt] at h
def setR (H : List (SB τ)) (b : Nat) (sel : Option Nat) (cn : Cn) : Option (List (SB τ)) :=
  match H[b]? with
  | some (.own _ n T sz q nn) => match sel with
    | none => some (H.set b (.own cn n T sz q nn))
    | some _ => none
  | some (.rows R T TS oe q pd) => match sel with
    | some i => match R.setAt i cn with
      | some R' => some (H.set b (.rows R' T TS oe q pd))
      | none => none
    | none => none
  | _ => none
theorem getR_lens {e : Env} {H : List (SB τ)} {Fr : PH} (hM : Models I e H Fr w) {b ep : Nat} {sel : Option Nat} {c : Bool} {cn : Cn} {n sz : Nat} {T : TypeId} (h : getR H b ep sel = some (c, cn, n, sz, T)) (hc : c = true) :
    ∃ f g u vs h1, e b = some (.hd f) ∧ f ep = some g ∧ (∀ r, g (selQ sel r) = rowRef sz u r) ∧ cn.den e vs ∧ RowOk u n sz T vs h1 ∧ Sub h1 w ∧
      ∀ cn' H' vs' h1' w', setR H b sel cn' = some H' → cn'.den e vs' → RowOk u n sz T vs' h1' → Turned w w' h1 h1' → Models I e H' Fr w' := by
  unfold getR at h
  split at h
  · rename_i c' n' T' sz' q nn hb
    split at h
    · simp only [Option.some.injEq, Prod.mk.injEq] at h
      obtain ⟨h1, rfl, rfl, rfl, rfl⟩ := h
      rw [hc, Nat.beq_eq] at h1
      subst h1
      obtain ⟨hn, ⟨f, v, vs, g1, g2, g3, g4, g5, g6⟩, hs, hput⟩ := hM.take hb
      refine ⟨f, _, v, vs, hn, g1, g2, fun _ => rfl, g4, g5, hs, fun cn' H' vs' h1' w' hset hd hr ht => ?_⟩
      simp only [setR, hb, Option.some.injEq] at hset
      subst hset
      exact hput (Le.refl e) (fun _ _ => rfl) ⟨f, v, vs', g1, g2, g3, hd, hr, g6⟩ ht
    · cases h
  · rename_i R T' TS oe q pd hb
    split at h
    · rename_i i
      simp only [Option.some.injEq, Prod.mk.injEq] at h
      obtain ⟨h1, rfl, rfl, rfl, rfl⟩ := h
      rw [hc, Bool.and_eq_true, Nat.beq_eq, Nat.blt_eq] at h1
      obtain ⟨rfl, h1⟩ := h1
      obtain ⟨hn, ⟨f, u, us, hs, ho, hr, g1, g2, g3, g4, g4', g5, g6, g7, rfl⟩, hs, hput⟩ := hM.take hb
      obtain ⟨r, q1, q2, q3⟩ := R.rows_at h1
      obtain ⟨v, k1, k2, p1, p2, p3, rfl, p4⟩ := g6.split q1
      rw [sub_join g7, sub_join p3] at hs
      refine ⟨f, _, v, r.2, k1, g1, g2, fun r' => ?_, q3 e, ?_, hs.2.1, fun cn' H' vs' h1' w' hset hd hrow ht => ?_⟩
      · show rowRef R.sz (us.getD i undef) r' = rowRef R.sz v r'
        rw [List.getD, p1]; rfl
      · rw [← q2]; exact p2
      · simp only [setR, hb] at hset
        split at hset
        · rename_i R' hR
          simp only [Option.some.injEq] at hset
          subst hset
          obtain ⟨e1, e2, e3⟩ := Rws.setAt_ok hR h1
          obtain ⟨m, e4, e5⟩ := e3 e vs' hd
          have hm : m = R.nAt i := by
            have h5 := hrow.1
            rw [e4] at h5
            have hpos : 0 < R.sz := by cases R <;> simp [Rws.sz]
            exact Nat.eq_of_mul_eq_mul_right hpos h5
          have ht2 := (ht.left hs.2.2 p3)
          have g7' := disj_join.1 g7
          have hd3 : Disj (join k1 k2) ho := g7.symm
          have ht3 := ht2.right (x := ho) hs.1 hd3
          have hset2 : us.set i v = us := by
            refine List.ext_getElem? fun j => ?_
            by_cases hj : j = i
            · subst hj; rw [List.getElem?_set_self (List.getElem?_eq_some_iff.1 p1).1]; exact p1.symm
            · rw [List.getElem?_set_ne (fun e => hj e.symm)]
          refine hput (Le.refl e) (fun _ _ => rfl) ⟨f, u, us, _, ho, join h1' k2, g1, by rw [e1]; exact g2, g3, g4, g4', g5, ?_, ?_, rfl⟩ ht3
          · rw [e1, e5, ← hset2]
            exact p4 v (m, vs') h1' (by rw [hm]; exact hrow) (ht.disj hs.2.2 p3)
          · exact (ht2.disj hs.1 hd3).symm
        · cases hset
    · cases h
  · cases h

end Go.Sym
