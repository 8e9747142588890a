/- What is wanted of the texts HcD, HcE, HcF, HcQ, HcL, in one. -/
import Derived.Test.YtcbjgpkbfmmdpaaGreatDoorHpPe
import Derived.Test.YtcbjgpkbfmmdpaaGreatDoorHpPw
set_option linter.unusedSimpArgs false
set_option linter.unusedVariables false
set_option linter.unusedSectionVars false
namespace Go.Proofs.YtcbjgpkbfmmdpaaGreatDoor
open Go Go.Sym
structure Rel (fr : Int) (m : Nat) (s : Tm) (d : Dt) : Prop where
  ti : TI fr m s
  R : d.R = s.l.length
  C : d.C = nC s.l
  len : d.L.length = s.l.length * nC s.l
  row : d.row = s.r
  col : d.col = s.c
  G : d.G = s.G
  K : d.K = s.K
  Ho : d.Ho = s.Ho
  pre : d.pre = bytesOf s.pl
  one : s.pl.length = 1 → s.pl = [27]
  mo : d.mo = m
  ov : d.ov = s.ov
  out : d.out = bytesOf (tk s.xs fr m s.n)
  cell : ∀ r c : Nat, r < s.l.length → c < nC s.l → fn s.l r c = ⟨d.L.getD (r * nC s.l + c) 0, 0, false, 0⟩
theorem bytesOf_size (l : List Int) : (bytesOf l).size = l.length := by
  simp [bytesOf, ByteArray.size]
theorem bytesOf_append (l r : List Int) : bytesOf (l ++ r) = bytesOf l ++ bytesOf r := by
  apply ByteArray.ext; simp [bytesOf]
theorem bytesL_bytesOf {l : List Int} (h : byteR l) : bytesL (bytesOf l) = l := by
  simp only [bytesOf, bytesL, List.toList_toArray, List.map_map]
  conv => rhs; rw [← List.map_id l]
  refine List.map_congr_left fun x hx => ?_
  have := h x hx
  simp only [Function.comp_apply, id_eq]
  rw [UInt8.toNat_ofNat_of_lt' (by simp [UInt8.size]; omega)]
  omega
theorem idx_lt {R C r c : Nat} (h : r < R) (h' : c < C) : r * C + c < R * C := by
  have := Nat.mul_le_mul_right C (show r + 1 ≤ R from h)
  rw [Nat.succ_mul] at this
  omega
theorem idx_inj {C r c r' c' : Nat} (h : c < C) (h' : c' < C) (e : r * C + c = r' * C + c') : r = r' ∧ c = c' := by
  rcases Nat.lt_trichotomy r r' with h1 | h1 | h1
  · have := Nat.mul_le_mul_right C (show r + 1 ≤ r' from h1)
    rw [Nat.succ_mul] at this
    omega
  · subst h1; exact ⟨rfl, by omega⟩
  · have := Nat.mul_le_mul_right C (show r' + 1 ≤ r from h1)
    rw [Nat.succ_mul] at this
    omega
theorem idx_le {C r c r' c' : Nat} (h : c < C) (h' : c' < C) : r * C + c ≤ r' * C + c' ↔ r < r' ∨ (r = r' ∧ c ≤ c') := by
  constructor
  · intro hl
    rcases Nat.lt_trichotomy r r' with h1 | h1 | h1
    · exact Or.inl h1
    · subst h1; exact Or.inr ⟨rfl, by omega⟩
    · have := Nat.mul_le_mul_right C (show r' + 1 ≤ r from h1)
      rw [Nat.succ_mul] at this
      omega
  · rintro (h1 | ⟨rfl, h1⟩)
    · have := Nat.mul_le_mul_right C (show r + 1 ≤ r' from h1)
      rw [Nat.succ_mul] at this
      omega
    · omega
section
variable {fr : Int} {m : Nat} {s : Tm} {d : Dt}
theorem Rel.di (h : Rel fr m s d) : DI d := by
  have g := h.ti.gw
  have a0 := g.r0
  have a1 := g.r1
  have a2 := g.c0
  have a3 := g.c1
  have b0 := h.ti.r0
  have b1 := h.ti.r1
  have b2 := h.ti.c0
  have b3 := h.ti.c1
  have q := h.ti.q
  have q1 := q.most
  have q2 := q.n0
  have q3 := q.nm
  have p := h.ti.pl
  have e1 := h.R
  have e2 := h.C
  have e3 := h.row
  have e4 := h.col
  have e5 := h.mo
  refine ⟨by omega, by omega, by omega, by omega, ?_, by omega, by omega, by omega, by omega, ?_, ?_, by omega⟩
  · rw [h.len, e1, e2, Int.natCast_mul]
  · rw [h.pre, bytesOf_size]; exact p
  · rw [h.out, bytesOf_size, tk_length]; omega
theorem Rel.cur (h : Rel fr m s d) {r c r' c' : Int} (h0 : 0 ≤ r) (h1 : r < s.l.length) (h2 : 0 ≤ c) (h3 : c < nC s.l) (hr : r' = r) (hc : c' = c) : Rel fr m { s with r := r, c := c } { d with row := r', col := c' } :=
  ⟨(tp_cur h.ti h0 h1 h2 h3).ti, h.R, h.C, h.len, hr, hc, h.G, h.K, h.Ho, h.pre, h.one, h.mo, h.ov, h.out, h.cell⟩
theorem Rel.pend (h : Rel fr m s d) {pl : List Int} {pe : Nat} {pre : ByteArray} (hl : pl.length ≤ 3) (hb : byteR pl) (h1 : pl.length = 1 → pl = [27]) (hp : pre = bytesOf pl) : Rel fr m { s with pl := pl, pe := pe } { d with pre := pre } :=
  ⟨⟨h.ti.gw, h.ti.r0, h.ti.r1, h.ti.c0, h.ti.c1, h.ti.q, hl, hb⟩, h.R, h.C, h.len, h.row, h.col, h.G, h.K, h.Ho, hp, h1, h.mo, h.ov, h.out, h.cell⟩
theorem Rel.rows (h : Rel fr m s d) {l : List (List C4)} {ep le : Nat} {L : List Int} (hg : GW l ∧ l.length = s.l.length ∧ nC l = nC s.l) (hL : L.length = d.L.length)
    (hc : ∀ r c : Nat, r < s.l.length → c < nC s.l → fn l r c = ⟨L.getD (r * nC s.l + c) 0, 0, false, 0⟩) : Rel fr m { s with l := l, ep := ep } { d with L := L, le := le } := by
  obtain ⟨g1, g2, g3⟩ := hg
  refine ⟨(tp_rows h.ti ⟨g1, g2, g3⟩ ep).ti, ?_, ?_, ?_, h.row, h.col, h.G, h.K, h.Ho, h.pre, h.one, h.mo, h.ov, h.out, ?_⟩
  · show d.R = (l.length : Int); rw [g2]; exact h.R
  · show d.C = (nC l : Int); rw [g3]; exact h.C
  · show L.length = l.length * nC l; rw [g2, g3, hL]; exact h.len
  · intro r c hr hc'
    have hr : r < l.length := hr
    have hc' : c < nC l := hc'
    show fn l r c = ⟨L.getD (r * nC l + c) 0, 0, false, 0⟩
    rw [g3]
    exact hc r c (by omega) (by omega)
theorem Rel.mode (h : Rel fr m s d) {G K Ho G' K' Ho' : Bool} (h1 : G' = G) (h2 : K' = K) (h3 : Ho' = Ho) : Rel fr m { s with G := G, K := K, Ho := Ho } { d with G := G', K := K', Ho := Ho' } :=
  ⟨⟨h.ti.gw, h.ti.r0, h.ti.r1, h.ti.c0, h.ti.c1, h.ti.q, h.ti.pl, h.ti.pb⟩, h.R, h.C, h.len, h.row, h.col, h1, h2, h3, h.pre, h.one, h.mo, h.ov, h.out, h.cell⟩
theorem rel_ite {p : Prop} [Decidable p] {a b : Tm} {a' b' : Dt} (ha : p → Rel fr m a a') (hb : ¬ p → Rel fr m b b') : Rel fr m (if p then a else b) (if p then a' else b') := by
  by_cases h : p
  · rw [if_pos h, if_pos h]; exact ha h
  · rw [if_neg h, if_neg h]; exact hb h
theorem mx_near {x n : Int} (h0 : 0 ≤ x) (h1 : x < n) : mxI x = nearI (x + -1) n := by
  unfold mxI nearI
  repeat' split
  all_goals omega
theorem mn_near {x n : Int} (h0 : 0 ≤ x) (h1 : x < n) : mnI x n = nearI (x + 1) n := by
  unfold mnI nearI
  repeat' split
  all_goals omega
theorem z_near {x n : Int} (h0 : 0 ≤ x) (h1 : x < n) : x = nearI (x + 0) n := by
  rw [Int.add_zero, near_in h0 h1]
theorem Rel.st (h : Rel fr m s d) (x y : Int) {r' c' : Int} (hr : r' = nearI (s.r + x) s.l.length) (hc : c' = nearI (s.c + y) (nC s.l)) : Rel fr m (stT s x y) { d with row := r', col := c' } := by
  have h1 := near_bd (x := s.r + x) (rows0 h.ti)
  have h2 := near_bd (x := s.c + y) (cols0 h.ti)
  exact h.cur h1.1 h1.2 h2.1 h2.2 hr hc
theorem scN_at {L : List Int} {C : Int} {up : Bool} {j : Nat} (h : j < L.length) : (scN L C up L.length).getD j 0 = if 0 ≤ src C up j ∧ src C up j < L.length then L.getD (src C up j).toNat 0 else 32 := by
  unfold scN
  rw [List.getD, List.getElem?_map, List.getElem?_range h]
  simp only [Option.map_some, Option.getD_some]
  rw [if_pos h]
theorem Rel.up (h : Rel fr m s d) (ep le : Nat) : Rel fr m { s with l := upF s.l 1 blankC, ep := ep } { d with L := scN d.L d.C true d.L.length, le := le } := by
  refine h.rows (upF_gw h.ti.gw 1 blankC) (scN_length _ _ _ _) fun r c hr hc => ?_
  have hx := idx_lt hr hc
  have hlen := h.len
  have es : src d.C true (r * nC s.l + c) = ((r + 1) * nC s.l + c : Nat) := by
    unfold src
    rw [if_pos rfl, h.C, Nat.succ_mul]; omega
  rw [upF_at h.ti.gw hr hc, scN_at (by omega), es]
  unfold rollF
  rw [if_pos (show (0 : Int) ≤ r ∧ (r : Int) ≤ (s.l.length : Int) - 1 by omega)]
  by_cases hl : r + 1 < s.l.length
  · have hy := idx_lt hl hc
    rw [if_pos (show (1 : Int) ≤ (s.l.length : Int) - 1 - r ∧ (1 : Int) ≥ 0 - r by omega), if_pos ⟨by omega, by omega⟩, Int.toNat_natCast, show ((r : Int) + 1).toNat = r + 1 by omega]
    exact h.cell (r + 1) c hl hc
  · have : s.l.length * nC s.l ≤ (r + 1) * nC s.l := Nat.mul_le_mul_right _ (by omega)
    rw [if_neg (show ¬ ((1 : Int) ≤ (s.l.length : Int) - 1 - r ∧ (1 : Int) ≥ 0 - r) by omega), if_neg (fun hh => by have := hh.2; omega)]
    rfl
theorem Rel.down (h : Rel fr m s d) (ep le : Nat) : Rel fr m { s with l := upF s.l (-1) blankC, ep := ep } { d with L := scN d.L d.C false d.L.length, le := le } := by
  refine h.rows (upF_gw h.ti.gw (-1) blankC) (scN_length _ _ _ _) fun r c hr hc => ?_
  have hx := idx_lt hr hc
  have hlen := h.len
  rw [upF_at h.ti.gw hr hc, scN_at (by omega)]
  unfold rollF
  rw [if_pos (show (0 : Int) ≤ r ∧ (r : Int) ≤ (s.l.length : Int) - 1 by omega)]
  cases r with
  | zero =>
    have es : src d.C false (0 * nC s.l + c) = (c : Int) - nC s.l := by
      unfold src
      rw [if_neg (by decide), h.C, Nat.zero_mul, Nat.zero_add]
    rw [es, if_neg (show ¬ ((-1 : Int) ≤ (s.l.length : Int) - 1 - ((0 : Nat) : Int) ∧ (-1 : Int) ≥ 0 - ((0 : Nat) : Int)) by omega), if_neg (fun hh => by have := hh.1; omega)]
    rfl
  | succ r =>
    have es : src d.C false ((r + 1) * nC s.l + c) = (r * nC s.l + c : Nat) := by
      unfold src
      rw [if_neg (by decide), h.C, Nat.succ_mul]; omega
    have hy := idx_lt (show r < s.l.length by omega) hc
    rw [es, if_pos (show (-1 : Int) ≤ (s.l.length : Int) - 1 - ((r + 1 : Nat) : Int) ∧ (-1 : Int) ≥ 0 - ((r + 1 : Nat) : Int) by omega), if_pos ⟨by omega, by omega⟩, Int.toNat_natCast, show (((r + 1 : Nat) : Int) + -1).toNat = r by omega]
    exact h.cell r c (by omega) hc
theorem wpL_at {L : List Int} {a b : Int} {j : Nat} (h : j < L.length) : (wpL L a b).getD j 0 = if a ≤ (j : Int) ∧ (j : Int) < b then 32 else L.getD j 0 := by
  unfold wpL
  rw [List.getD, List.getElem?_map, List.getElem?_range h]
  simp only [Option.map_some, Option.getD_some]
theorem Rel.wipe (h : Rel fr m s d) {a b c e : Nat} (h0 : a < s.l.length) (h1 : b < nC s.l) (h2 : c < s.l.length) (h3 : e < nC s.l) (h4 : a * nC s.l + b ≤ c * nC s.l + e) {x y A B C' E : Int} (hA : A = a) (hB : B = b) (hC : C' = c) (hE : E = e) (hx : x = (a * nC s.l + b : Nat)) (hy : y = (c * nC s.l + e + 1 : Nat)) :
    Rel fr m { s with l := wiL s.l A B C' E blankC false } { d with L := wpL d.L x y } := by
  subst hA; subst hB; subst hC; subst hE
  have hok : tuOk s.l a b c e = true := by
    have := (idx_le h1 h3).1 h4
    have hh : aheadB (c : Int) e a b = false := by
      rw [Bool.eq_false_iff, Ne, aheadB_iff]; omega
    simp only [tuOk, inB, hh, Bool.not_false, Bool.and_true, Bool.and_eq_true, decide_eq_true_eq]
    omega
  refine h.rows (wi_gw h.ti.gw _ _ _ _ _ _) (wpL_length _ _ _) fun r k hr hk => ?_
  have hi := idx_lt hr hk
  have hlen := h.len
  rw [wpL_at (by omega)]
  unfold wiL
  rw [if_pos hok, show fn (turnL s.l a b c e (hWipe blankC false)) r k = _ from turnL_at hr hk]
  unfold tuX
  have hiff : inRg a b c e (r : Int) k = true ↔ x ≤ ((r * nC s.l + k : Nat) : Int) ∧ ((r * nC s.l + k : Nat) : Int) < y := by
    have i1 := idx_le (C := nC s.l) (r := a) (r' := r) h1 hk
    have i2 := idx_le (C := nC s.l) (r := r) (r' := c) hk h3
    have e1 : aheadB (r : Int) k a b = false ↔ a * nC s.l + b ≤ r * nC s.l + k := by
      rw [Bool.eq_false_iff, Ne, aheadB_iff, i1]; omega
    have e2 : aheadB (c : Int) e r k = false ↔ r * nC s.l + k ≤ c * nC s.l + e := by
      rw [Bool.eq_false_iff, Ne, aheadB_iff, i2]; omega
    simp only [inRg, Bool.and_eq_true, Bool.not_eq_true']
    rw [e1, e2, hx, hy]
    omega
  by_cases hc : inRg a b c e (r : Int) k = true
  · rw [if_pos hc, if_pos (hiff.1 hc)]
    rfl
  · rw [if_neg hc, if_neg (fun hh => hc (hiff.2 hh))]
    exact h.cell r k hr hk
theorem Rel.put (h : Rel fr m s d) (b : Int) : Rel fr m (puT s b) (puD d b) := by
  have r0 := h.ti.r0
  have r1 := h.ti.r1
  have c0 := h.ti.c0
  have c1 := h.ti.c1
  obtain ⟨rr, er⟩ : ∃ k : Nat, s.r = k := ⟨s.r.toNat, by omega⟩
  obtain ⟨cc, ec⟩ : ∃ k : Nat, s.c = k := ⟨s.c.toNat, by omega⟩
  have hr0 : rr < s.l.length := by omega
  have hc0 : cc < nC s.l := by omega
  have hi := idx_lt hr0 hc0
  have hlen := h.len
  have hidx : (d.row * d.C + d.col).toNat = rr * nC s.l + cc := by
    rw [h.row, h.C, h.col, er, ec, ← Int.natCast_mul]; omega
  have hc : Rel fr m { s with r := s.r, c := if s.c + 1 < nC s.l then s.c + 1 else s.c } { d with row := d.row, col := mnI d.col d.C } :=
    h.cur r0 r1 (by split <;> omega) (by split <;> omega) h.row (by rw [h.col, h.C]; unfold mnI; split <;> split <;> omega)
  have gg := tp_pu h.ti b
  have e : puT s b = { ({ s with r := s.r, c := if s.c + 1 < nC s.l then s.c + 1 else s.c } : Tm) with l := set2 s.l s.r s.c ⟨glT s.G b, 0, false, 0⟩, ep := s.ep } := rfl
  have e' : puD d b = { ({ d with row := d.row, col := mnI d.col d.C } : Dt) with L := d.L.set (d.row * d.C + d.col).toNat (ofT (if d.G = true then 3 else 1) b), le := d.le } := rfl
  rw [e, e']
  refine hc.rows ⟨gg.ti.gw, gg.le, gg.nc⟩ (by simp) fun r c hr hk => ?_
  have hr : r < s.l.length := hr
  have hk : c < nC s.l := hk
  show fn (set2 s.l s.r s.c ⟨glT s.G b, 0, false, 0⟩) r c = ⟨(d.L.set (d.row * d.C + d.col).toNat (ofT (if d.G = true then 3 else 1) b)).getD (r * nC s.l + c) 0, 0, false, 0⟩
  have hj := idx_lt hr hk
  rw [set2_eq h.ti.gw r0 r1 c0 c1, fn_gridF hr hk, hidx, h.G]
  unfold setF
  by_cases he : r = rr ∧ c = cc
  · obtain ⟨rfl, rfl⟩ := he
    rw [if_pos ⟨by omega, by omega⟩, List.getD, List.getElem?_set_self (by omega)]
    rfl
  · rw [if_neg (by omega), h.cell r c hr hk]
    have hne : ¬ rr * nC s.l + cc = r * nC s.l + c := fun hh => he (by have := idx_inj hc0 hk hh; omega)
    rw [List.getD, List.getD, List.getElem?_set_ne hne]
theorem Rel.z (h : Rel fr m s d) : Rel fr m (zT m fr s) (if (d.out.size : Int) + 3 > d.mo then { d with ov := true } else { d with out := d.out ++ repB }) := by
  have q := h.ti.q
  have q0 := q.n0
  have hs : (d.out.size : Int) = s.n := by rw [h.out, bytesOf_size, tk_length]; omega
  have hm := h.mo
  unfold zT
  by_cases hp : s.n + 3 > m
  · rw [if_pos hp, if_pos (by omega)]
    exact ⟨⟨h.ti.gw, h.ti.r0, h.ti.r1, h.ti.c0, h.ti.c1, h.ti.q, h.ti.pl, h.ti.pb⟩, h.R, h.C, h.len, h.row, h.col, h.G, h.K, h.Ho, h.pre, h.one, h.mo, rfl, h.out, h.cell⟩
  · rw [if_neg hp, if_neg (by omega)]
    have hq := QWf.put [27, 47, 75] q (by simp only [List.length_cons, List.length_nil]; omega) (fun x hx => by simp at hx; omega)
    refine ⟨⟨h.ti.gw, h.ti.r0, h.ti.r1, h.ti.c0, h.ti.c1, hq.1, h.ti.pl, h.ti.pb⟩, h.R, h.C, h.len, h.row, h.col, h.G, h.K, h.Ho, h.pre, h.one, h.mo, h.ov, ?_, h.cell⟩
    show d.out ++ repB = bytesOf (tk (putL m s.xs (fr + s.n) [27, 47, 75]) fr m (s.n + 3))
    rw [show tk (putL m s.xs (fr + s.n) [27, 47, 75]) fr m (s.n + 3) = tk s.xs fr m s.n ++ [27, 47, 75] from hq.2, bytesOf_append, h.out]
    rfl
theorem Rel.le (h : Rel fr m s d) (ep le : Nat) : Rel fr m { s with ep := ep } { d with le := le } :=
  ⟨⟨h.ti.gw, h.ti.r0, h.ti.r1, h.ti.c0, h.ti.c1, h.ti.q, h.ti.pl, h.ti.pb⟩, h.R, h.C, h.len, h.row, h.col, h.G, h.K, h.Ho, h.pre, h.one, h.mo, h.ov, h.out, h.cell⟩
theorem Rel.two (h : Rel fr m s d) (b : Int) : Rel fr m (twoT m fr s b) (twD d b) := by
  have r0 := h.ti.r0
  have r1 := h.ti.r1
  have c0 := h.ti.c0
  have c1 := h.ti.c1
  have a0 := rows0 h.ti
  have a1 := cols0 h.ti
  obtain ⟨rr, er⟩ : ∃ k : Nat, s.r = k := ⟨s.r.toNat, by omega⟩
  obtain ⟨cc, ec⟩ : ∃ k : Nat, s.c = k := ⟨s.c.toNat, by omega⟩
  have hr0 : rr < s.l.length := by omega
  have hc0 : cc < nC s.l := by omega
  have hlen := h.len
  have hidx : d.row * d.C + d.col = (rr * nC s.l + cc : Nat) := by
    rw [h.row, h.C, h.col, er, ec, ← Int.natCast_mul]; omega
  have hrow : d.row * d.C + d.C - 1 + 1 = (rr * nC s.l + (nC s.l - 1) + 1 : Nat) := by
    rw [h.row, h.C, er, ← Int.natCast_mul]; omega
  unfold twoT twD
  refine rel_ite (fun _ => h.st (-1) 0 (by rw [h.row]; exact mx_near r0 r1) (by rw [h.col]; exact z_near c0 c1)) (fun _ => ?_)
  refine rel_ite (fun _ => h.st 1 0 (by rw [h.row, h.R]; exact mn_near r0 r1) (by rw [h.col]; exact z_near c0 c1)) (fun _ => ?_)
  refine rel_ite (fun _ => h.st 0 1 (by rw [h.row]; exact z_near r0 r1) (by rw [h.col, h.C]; exact mn_near c0 c1)) (fun _ => ?_)
  refine rel_ite (fun _ => h.st 0 (-1) (by rw [h.row]; exact z_near r0 r1) (by rw [h.col]; exact mx_near c0 c1)) (fun _ => ?_)
  refine rel_ite (fun _ => ?_) (fun _ => ?_)
  · have n1 := near_bd (x := 0) a0
    have n2 := near_bd (x := 0) a1
    exact h.cur n1.1 n1.2 n2.1 n2.2 (near_in (Int.le_refl 0) (by omega)).symm (near_in (Int.le_refl 0) (by omega)).symm
  refine rel_ite (fun _ => ?_) (fun _ => ?_)
  · unfold ixT
    by_cases hz : s.r = 0
    · rw [if_pos hz, if_pos hz, if_pos (h.row.trans hz)]
      have e : nearI (s.r - 1) s.l.length = s.r := by
        rw [hz]; unfold nearI
        repeat' split
        all_goals omega
      rw [e]
      exact h.down (s.ep + 1) (d.le + 1)
    · rw [if_neg hz, if_neg hz, if_neg (fun hh => hz (h.row.symm.trans hh))]
      have e : nearI (s.r - 1) s.l.length = s.r - 1 := near_in (by omega) (by omega)
      rw [e]
      exact h.cur (by omega) (by omega) c0 c1 (by rw [h.row]) h.col
  refine rel_ite (fun _ => ?_) (fun _ => ?_)
  · unfold wpT wpD
    rw [near_in r0 r1, near_in c0 c1, near_in (x := (s.l.length : Int) - 1) (by omega) (by omega), near_in (x := (nC s.l : Int) - 1) (by omega) (by omega)]
    have hl : (s.l.length - 1) * nC s.l + (nC s.l - 1) + 1 = s.l.length * nC s.l := by
      have := Nat.succ_mul (s.l.length - 1) (nC s.l)
      rw [show (s.l.length - 1).succ = s.l.length by omega] at this
      omega
    exact h.wipe (a := rr) (b := cc) (c := s.l.length - 1) (e := nC s.l - 1) hr0 hc0 (by omega) (by omega) ((idx_le hc0 (by omega)).2 (by omega)) er ec (by omega) (by omega) hidx (by rw [hl]; omega)
  refine rel_ite (fun _ => ?_) (fun _ => ?_)
  · unfold wpT wpD
    rw [near_in r0 r1, near_in c0 c1, near_in (x := (nC s.l : Int) - 1) (by omega) (by omega)]
    exact h.wipe (a := rr) (b := cc) (c := rr) (e := nC s.l - 1) hr0 hc0 hr0 (by omega) ((idx_le hc0 (by omega)).2 (by omega)) er ec er (by omega) hidx hrow
  refine rel_ite (fun _ => h.mode rfl h.K h.Ho) (fun _ => ?_)
  refine rel_ite (fun _ => h.mode rfl h.K h.Ho) (fun _ => ?_)
  refine rel_ite (fun _ => h.mode h.G rfl h.Ho) (fun _ => ?_)
  refine rel_ite (fun _ => h.mode h.G rfl h.Ho) (fun _ => ?_)
  refine rel_ite (fun _ => h.mode h.G h.K rfl) (fun _ => ?_)
  refine rel_ite (fun _ => h.mode h.G h.K rfl) (fun _ => ?_)
  exact rel_ite (fun _ => h.z) (fun _ => h)
theorem Rel.ctl (h : Rel fr m s d) {b : Int} (hb : b ≠ 27) : Rel fr m (ctT s b) (ctD d b) := by
  have r0 := h.ti.r0
  have r1 := h.ti.r1
  have c0 := h.ti.c0
  have c1 := h.ti.c1
  have a0 := rows0 h.ti
  have a1 := cols0 h.ti
  unfold ctT ctD
  refine rel_ite (fun _ => h.st 0 (-1) (by rw [h.row]; exact z_near r0 r1) (by rw [h.col]; exact mx_near c0 c1)) (fun _ => ?_)
  refine rel_ite (fun _ => ?_) (fun _ => ?_)
  · have n2 := near_bd (x := if s.c - s.c % 8 + 8 > (nC s.l : Int) - 1 then s.c + 1 else s.c - s.c % 8 + 8) a1
    refine h.cur r0 r1 n2.1 n2.2 h.row ?_
    rw [h.col, h.C]
    have e2 := Int.emod_nonneg s.c (by omega : (8 : Int) ≠ 0)
    have e3 := Int.emod_lt_of_pos s.c (by omega : (0 : Int) < 8)
    unfold tbI
    by_cases hq : (nC s.l : Int) ≤ s.c - s.c % 8 + 8
    · rw [if_pos hq, if_pos (show s.c - s.c % 8 + 8 > (nC s.l : Int) - 1 by omega)]; exact mn_near c0 c1
    · rw [if_neg hq, if_neg (show ¬ s.c - s.c % 8 + 8 > (nC s.l : Int) - 1 by omega)]; exact (near_in (by omega) (by omega)).symm
  refine rel_ite (fun _ => ?_) (fun _ => ?_)
  · unfold fdT
    by_cases hz : s.r = (s.l.length : Int) - 1
    · rw [if_pos hz, if_pos (by rw [h.row, h.R]; exact hz)]
      have e : nearI (s.r + 1) s.l.length = s.r := by
        unfold nearI
        repeat' split
        all_goals omega
      rw [e]
      exact h.up (s.ep + 1) (d.le + 1)
    · rw [if_neg hz, if_neg (by rw [h.row, h.R]; exact hz)]
      have e : nearI (s.r + 1) s.l.length = s.r + 1 := near_in (by omega) (by omega)
      rw [e]
      exact (h.le (s.ep + 1) d.le).cur (by show (0 : Int) ≤ s.r + 1; omega) (by show s.r + 1 < (s.l.length : Int); omega) c0 c1 (by rw [h.row]) h.col
  refine rel_ite (fun _ => ?_) (fun _ => ?_)
  · have n1 := near_bd (x := s.r) a0
    have n2 := near_bd (x := 0) a1
    exact h.cur n1.1 n1.2 n2.1 n2.2 (by rw [h.row, near_in r0 r1]) (near_in (Int.le_refl 0) (by omega)).symm
  rw [if_neg hb]
  exact h
theorem Rel.byte (h : Rel fr m s d) {b : Int} (hb : 0 ≤ b ∧ b ≤ 255) : Rel fr m (byT m fr s b) (byD d b) := by
  have r0 := h.ti.r0
  have r1 := h.ti.r1
  have c0 := h.ti.c0
  have c1 := h.ti.c1
  have a0 := rows0 h.ti
  have a1 := cols0 h.ti
  have hpl := h.ti.pl
  have hs : d.pre.size = s.pl.length := by rw [h.pre, bytesOf_size]
  unfold byT byD
  by_cases h27 : b = 27
  · subst h27
    rw [if_neg (fun hh => by have := hh.2; omega), if_pos rfl, if_pos rfl]
    exact h.pend (by simp) (fun x hx => by simp at hx; omega) (fun _ => rfl) rfl
  rw [if_neg h27, if_neg h27, hs]
  by_cases h0 : s.pl.length = 0
  · rw [if_pos h0, if_neg (show ¬ 0 < s.pl.length by omega)]
    by_cases hx : b > 126
    · rw [if_pos ⟨h0, hx⟩, if_neg (by omega), if_neg (by omega)]
      exact h
    · rw [if_neg (fun hh => hx hh.2)]
      by_cases h32 : 32 ≤ b
      · rw [if_pos h32, if_pos ⟨h32, by omega⟩]
        exact h.put b
      · rw [if_neg h32, if_neg (fun hh => h32 hh.1), if_pos (by omega)]
        exact h.ctl h27
  rw [if_neg (fun hh => h0 hh.1), if_pos (show 0 < s.pl.length by omega), if_neg h0]
  unfold sqT
  by_cases h1 : s.pl.length = 1
  · rw [if_pos h1, if_pos h1]
    by_cases h89 : b = 89
    · subst h89
      rw [if_pos (Or.inl ⟨h1, rfl⟩), if_pos rfl, h.one h1]
      exact h.pend (by simp) (fun x hx => by simp at hx; omega) (fun hh => by simp at hh) rfl
    · rw [if_neg (fun hh => by rcases hh with ⟨_, hh⟩ | hh; · exact h89 hh
                               · omega), if_neg h89]
      exact (h.pend (pl := []) (pe := s.pe + 2) (by simp) (fun x hx => by simp at hx) (fun hh => by simp at hh) rfl).two b
  by_cases h2 : s.pl.length = 2
  · rw [if_pos (Or.inr h2), if_neg h1, if_pos h2]
    exact h.pend (by simp; omega) (byteR_append h.ti.pb (fun x hx => by simp at hx; omega)) (fun hh => by rw [List.length_append, h2] at hh; simp at hh) (by rw [bytesOf_append, h.pre])
  · rw [if_neg (fun hh => by rcases hh with ⟨hh, _⟩ | hh; · exact h1 hh
                             · exact h2 hh), if_neg h1, if_neg h1, if_neg h2]
    have e2 : byteAt d.pre 2 = s.pl.getD 2 0 := by
      have := bytesL_getD (t := d.pre) (j := 2) (by omega)
      rw [h.pre, bytesL_bytesOf h.ti.pb] at this
      rw [h.pre]; exact this.symm
    have hP := h.pend (pl := []) (pe := s.pe + 2) (pre := ByteArray.empty) (by simp) (fun x hx => by simp at hx) (fun hh => by simp at hh) rfl
    unfold plT
    rw [e2]
    refine hP.cur ?_ ?_ ?_ ?_ ?_ ?_
    · dsimp only
      split <;> omega
    · dsimp only
      split <;> omega
    · dsimp only
      split <;> (try split) <;> omega
    · dsimp only
      split <;> (try split) <;> omega
    · show (if 0 ≤ s.pl.getD 2 0 - 32 ∧ s.pl.getD 2 0 - 32 < d.R then s.pl.getD 2 0 - 32 else d.row) = if 0 ≤ s.pl.getD 2 0 - 32 ∧ s.pl.getD 2 0 - 32 ≤ (s.l.length : Int) - 1 then s.pl.getD 2 0 - 32 else s.r
      rw [h.R, h.row]
      split <;> split <;> omega
    · show (if 0 ≤ b - 32 then (if d.C - 1 < b - 32 then d.C - 1 else b - 32) else d.col) = if 0 ≤ b - 32 then (if (nC s.l : Int) - 1 < b - 32 then (nC s.l : Int) - 1 else b - 32) else s.c
      rw [h.C, h.col]
end
end Go.Proofs.YtcbjgpkbfmmdpaaGreatDoor
namespace Go.Proofs.YtcbjgpkbfmmdpaaGreatDoor
open Go Go.Sym
def feedD (d : Dt) (bs : List Int) : Dt := bs.foldl byD d
theorem feedD_append (d : Dt) (a b : List Int) : feedD d (a ++ b) = feedD (feedD d a) b := by simp [feedD]
theorem feedD_succ (d : Dt) {t : ByteArray} {i : Int} (h0 : 0 ≤ i) (h : i < t.size) : feedD d ((bytesL t).take (i + 1).toNat) = byD (feedD d ((bytesL t).take i.toNat)) (byteAt t i.toNat) := by
  rw [bytesL_take_succ h0 h, feedD_append]; rfl
def fdD (x : DR) (t : ByteArray) (i : Int) : Dt := feedD (dtS x) ((bytesL t).take i.toNat)
def fdDX (x : DR) (t : ByteArray) : Dt := feedD (dtS x) (bytesL t)
def annDF (F : Int → Dt) (t : ByteArray) : Ann Unit where
  α := Int
  φ _ i := 0 ≤ i ∧ i ≤ t.size ∧ DI (F i)
  μ _ i := (t.size - i).toNat
  get st := getI st.tm 4
  f st i := tmpl [0, 1] [(4, .v (.int .i64 i))] ((dtI 0 (F i)).zipIdx.map (fun p => (p.2, p.1))) st
def tabF12 : List (Nat × ACon Unit) := (28, lcDByte) :: []
theorem tabF12_ok : LCs Tryz.prog tabF12 := ⟨ok_dByte, trivial⟩
def lcDFeed : ACon Unit := mkLC (decP (shCons (shP 0) (shOne shStr)) (shDt 0)) fun ((_, t), x) => .ask (DA x ∧ t.size ≤ 1099511627776 ∧ ∀ i : Nat, DI (feedD (dtS x) ((bytesL t).take i))) (.one (.t []) (dtI 0 (fdDX x t)) [0, 1])
set_option maxHeartbeats 4000000 in
theorem ok_dFeed : ∀ I : Sym.Inv Unit, LCOk I Tryz.prog 11 lcDFeed := by
  refine lc_mk (fun ((_, t), x) => allCfg Tryz.prog [] tabF12 0 [(132, annDF (fdD x t) t)]) (fun _ _ => allCfg_ok mixed trivial tabF12_ok) (fun _ => rfl) (n := 60) Tryz.func11 ?_
  intro ⟨⟨_, t⟩, ⟨R, C, le2, row, col, G, K, Ho, pre, out, mo, ov⟩, ⟨L, n, le⟩⟩ hφ
  obtain ⟨⟨⟨rfl, rfl, hI⟩, hsz, hall⟩, hp⟩ := id hφ
  refine kcast (B := ((fun F : Int → Dt => (II (0 : Int) ≤ (0 : Int) ∧ (0 : Int) ≤ (↑t.size : Int) ∧ DI (F (0 : Int))) ∧ ((SV.p 0 0 = SV.p 0 0 ∧ vS t = vS t ∧ vI (0 : Int) = vI (0 : Int) ∧ True) ∧ (vI R = vI R ∧ vI C = vI C ∧ SV.h 1 [le2, 0] = SV.h 1 [le2, 0] ∧ vI row =
 vI row ∧ vI col = vI col ∧ vB G = vB G ∧ vB K = vB K ∧ vB Ho = vB Ho ∧ vS pre = vS pre ∧ vS out = vS out ∧ vI mo = vI mo ∧ vB ov = vB ov ∧ True) ∧ (L.length = L.length ∧ le2 = le2 ∧ L = L) ∧ True) ∧ ∀ (x : Int), (0 : Int) ≤ x ∧ x ≤ (↑t.size : Int) ∧
 DI (F x) → br (decide (x < (↑t.size : Int))) (rq (decide ((0 : Int) ≤ x ∧ x < (↑t.size : Int))) (true = true ∧ (DA (((F x).R, (F x).C, (F x).le, (F x).row, (F x).col, (F x).G, (F x).K, (F x).Ho, (F x).pre, (F x).out, (F x).mo, (F x).ov), OI.mk (F
 x).L (F x).L.length (F x).le) ∧ (0 : Int) ≤ byteAt t x.toNat ∧ byteAt t x.toNat ≤ (255 : Int)) ∧ ((0 : Int) ≤ IntKind.i64.wrap (x + (1 : Int)) ∧ IntKind.i64.wrap (x + (1 : Int)) ≤ (↑t.size : Int) ∧ DI (F (IntKind.i64.wrap (x + (1 : Int))))) ∧ ((SV.p
 0 0 = SV.p 0 0 ∧ vS t = vS t ∧ vI (IntKind.i64.wrap (x + (1 : Int))) = vI (IntKind.i64.wrap (x + (1 : Int))) ∧ True) ∧ (vI (byDX (((F x).R, (F x).C, (F x).le, (F x).row, (F x).col, (F x).G, (F x).K, (F x).Ho, (F x).pre, (F x).out, (F x).mo, (F
 x).ov), OI.mk (F x).L (F x).L.length (F x).le) (byteAt t x.toNat)).R = vI (F (IntKind.i64.wrap (x + (1 : Int)))).R ∧ vI (byDX (((F x).R, (F x).C, (F x).le, (F x).row, (F x).col, (F x).G, (F x).K, (F x).Ho, (F x).pre, (F x).out, (F x).mo, (F x).ov),
 OI.mk (F x).L (F x).L.length (F x).le) (byteAt t x.toNat)).C = vI (F (IntKind.i64.wrap (x + (1 : Int)))).C ∧ SV.h 1 [(byDX (((F x).R, (F x).C, (F x).le, (F x).row, (F x).col, (F x).G, (F x).K, (F x).Ho, (F x).pre, (F x).out, (F x).mo, (F x).ov),
 OI.mk (F x).L (F x).L.length (F x).le) (byteAt t x.toNat)).le, 0] = SV.h 1 [(F (IntKind.i64.wrap (x + (1 : Int)))).le, 0] ∧ vI (byDX (((F x).R, (F x).C, (F x).le, (F x).row, (F x).col, (F x).G, (F x).K, (F x).Ho, (F x).pre, (F x).out, (F x).mo, (F
 x).ov), OI.mk (F x).L (F x).L.length (F x).le) (byteAt t x.toNat)).row = vI (F (IntKind.i64.wrap (x + (1 : Int)))).row ∧ vI (byDX (((F x).R, (F x).C, (F x).le, (F x).row, (F x).col, (F x).G, (F x).K, (F x).Ho, (F x).pre, (F x).out, (F x).mo, (F
 x).ov), OI.mk (F x).L (F x).L.length (F x).le) (byteAt t x.toNat)).col = vI (F (IntKind.i64.wrap (x + (1 : Int)))).col ∧ vB (byDX (((F x).R, (F x).C, (F x).le, (F x).row, (F x).col, (F x).G, (F x).K, (F x).Ho, (F x).pre, (F x).out, (F x).mo, (F
 x).ov), OI.mk (F x).L (F x).L.length (F x).le) (byteAt t x.toNat)).G = vB (F (IntKind.i64.wrap (x + (1 : Int)))).G ∧ vB (byDX (((F x).R, (F x).C, (F x).le, (F x).row, (F x).col, (F x).G, (F x).K, (F x).Ho, (F x).pre, (F x).out, (F x).mo, (F x).ov),
 OI.mk (F x).L (F x).L.length (F x).le) (byteAt t x.toNat)).K = vB (F (IntKind.i64.wrap (x + (1 : Int)))).K ∧ vB (byDX (((F x).R, (F x).C, (F x).le, (F x).row, (F x).col, (F x).G, (F x).K, (F x).Ho, (F x).pre, (F x).out, (F x).mo, (F x).ov), OI.mk (F
 x).L (F x).L.length (F x).le) (byteAt t x.toNat)).Ho = vB (F (IntKind.i64.wrap (x + (1 : Int)))).Ho ∧ vS (byDX (((F x).R, (F x).C, (F x).le, (F x).row, (F x).col, (F x).G, (F x).K, (F x).Ho, (F x).pre, (F x).out, (F x).mo, (F x).ov), OI.mk (F x).L (F
 x).L.length (F x).le) (byteAt t x.toNat)).pre = vS (F (IntKind.i64.wrap (x + (1 : Int)))).pre ∧ vS (byDX (((F x).R, (F x).C, (F x).le, (F x).row, (F x).col, (F x).G, (F x).K, (F x).Ho, (F x).pre, (F x).out, (F x).mo, (F x).ov), OI.mk (F x).L (F
 x).L.length (F x).le) (byteAt t x.toNat)).out = vS (F (IntKind.i64.wrap (x + (1 : Int)))).out ∧ vI (byDX (((F x).R, (F x).C, (F x).le, (F x).row, (F x).col, (F x).G, (F x).K, (F x).Ho, (F x).pre, (F x).out, (F x).mo, (F x).ov), OI.mk (F x).L (F
 x).L.length (F x).le) (byteAt t x.toNat)).mo = vI (F (IntKind.i64.wrap (x + (1 : Int)))).mo ∧ vB (byDX (((F x).R, (F x).C, (F x).le, (F x).row, (F x).col, (F x).G, (F x).K, (F x).Ho, (F x).pre, (F x).out, (F x).mo, (F x).ov), OI.mk (F x).L (F
 x).L.length (F x).le) (byteAt t x.toNat)).ov = vB (F (IntKind.i64.wrap (x + (1 : Int)))).ov ∧ True) ∧ ((byDX (((F x).R, (F x).C, (F x).le, (F x).row, (F x).col, (F x).G, (F x).K, (F x).Ho, (F x).pre, (F x).out, (F x).mo, (F x).ov), OI.mk (F x).L (F
 x).L.length (F x).le) (byteAt t x.toNat)).L.length = (F (IntKind.i64.wrap (x + (1 : Int)))).L.length ∧ (byDX (((F x).R, (F x).C, (F x).le, (F x).row, (F x).col, (F x).G, (F x).K, (F x).Ho, (F x).pre, (F x).out, (F x).mo, (F x).ov), OI.mk (F x).L (F
 x).L.length (F x).le) (byteAt t x.toNat)).le = (F (IntKind.i64.wrap (x + (1 : Int)))).le ∧ (byDX (((F x).R, (F x).C, (F x).le, (F x).row, (F x).col, (F x).G, (F x).K, (F x).Ho, (F x).pre, (F x).out, (F x).mo, (F x).ov), OI.mk (F x).L (F x).L.length
 (F x).le) (byteAt t x.toNat)).L = (F (IntKind.i64.wrap (x + (1 : Int)))).L) ∧ True) ∧ ((↑t.size : Int) - IntKind.i64.wrap (x + (1 : Int))).toNat < ((↑t.size : Int) - x).toNat)) ((SV.t [] = SV.t [] ∧ True) ∧ (vI (F x).R = vI (fdDX ((R, C, le2, row,
 col, G, K, Ho, pre, out, mo, ov), OI.mk L L.length le2) t).R ∧ vI (F x).C = vI (fdDX ((R, C, le2, row, col, G, K, Ho, pre, out, mo, ov), OI.mk L L.length le2) t).C ∧ SV.h 1 [(F x).le, 0] = SV.h 1 [(fdDX ((R, C, le2, row, col, G, K, Ho, pre, out, mo,
 ov), OI.mk L L.length le2) t).le, 0] ∧ vI (F x).row = vI (fdDX ((R, C, le2, row, col, G, K, Ho, pre, out, mo, ov), OI.mk L L.length le2) t).row ∧ vI (F x).col = vI (fdDX ((R, C, le2, row, col, G, K, Ho, pre, out, mo, ov), OI.mk L L.length le2) t).col
 ∧ vB (F x).G = vB (fdDX ((R, C, le2, row, col, G, K, Ho, pre, out, mo, ov), OI.mk L L.length le2) t).G ∧ vB (F x).K = vB (fdDX ((R, C, le2, row, col, G, K, Ho, pre, out, mo, ov), OI.mk L L.length le2) t).K ∧ vB (F x).Ho = vB (fdDX ((R, C, le2, row,
 col, G, K, Ho, pre, out, mo, ov), OI.mk L L.length le2) t).Ho ∧ vS (F x).pre = vS (fdDX ((R, C, le2, row, col, G, K, Ho, pre, out, mo, ov), OI.mk L L.length le2) t).pre ∧ vS (F x).out = vS (fdDX ((R, C, le2, row, col, G, K, Ho, pre, out, mo, ov),
 OI.mk L L.length le2) t).out ∧ vI (F x).mo = vI (fdDX ((R, C, le2, row, col, G, K, Ho, pre, out, mo, ov), OI.mk L L.length le2) t).mo ∧ vB (F x).ov = vB (fdDX ((R, C, le2, row, col, G, K, Ho, pre, out, mo, ov), OI.mk L L.length le2) t).ov ∧ True) ∧
 ((F x).L.length = (fdDX ((R, C, le2, row, col, G, K, Ho, pre, out, mo, ov), OI.mk L L.length le2) t).L.length ∧ (F x).le = (fdDX ((R, C, le2, row, col, G, K, Ho, pre, out, mo, ov), OI.mk L L.length le2) t).le ∧ (F x).L = (fdDX ((R, C, le2, row, col,
 G, K, Ho, pre, out, mo, ov), OI.mk L L.length le2) t).L) ∧ True)) (fdD ((R, C, le2, row, col, G, K, Ho, pre, out, mo, ov), OI.mk L L.length le2) t))) (by kernel_rfl) ?_
  clear hp hφ
  generalize hF : fdD ((R, C, le2, row, col, G, K, Ho, pre, out, mo, ov), OI.mk L L.length le2) t = F
  have e0 : F 0 = ⟨R, C, L, le2, row, col, G, K, Ho, pre, out, mo, ov⟩ := by subst hF; rfl
  have eS : ∀ i : Int, 0 ≤ i → i < t.size → F (i + 1) = byD (F i) (byteAt t i.toNat) := by subst hF; exact fun i h0 h1 => feedD_succ _ h0 h1
  have eI : ∀ i : Int, DI (F i) := by subst hF; exact fun i => hall i.toNat
  have eE : F t.size = fdDX ((R, C, le2, row, col, G, K, Ho, pre, out, mo, ov), OI.mk L L.length le2) t := by
    subst hF
    show feedD _ ((bytesL t).take ((t.size : Nat) : Int).toNat) = _
    rw [Int.toNat_natCast, List.take_of_length_le (by rw [bytesL_length]; omega)]
    rfl
  have hby : ∀ (d : Dt) (b : Int), byDX ((d.R, d.C, d.le, d.row, d.col, d.G, d.K, d.Ho, d.pre, d.out, d.mo, d.ov), OI.mk d.L d.L.length d.le) b = byD d b := fun _ _ => rfl
  have hDA : ∀ d : Dt, DI d → DA ((d.R, d.C, d.le, d.row, d.col, d.G, d.K, d.Ho, d.pre, d.out, d.mo, d.ov), OI.mk d.L d.L.length d.le) := fun _ h => ⟨rfl, rfl, h⟩
  clear hF hall
  simp only [hby, br_iff, rq_iff, II, nbeq, Bool.true_and, decide_eq_true_eq, decide_eq_false_iff_not, Nat.blt_eq, true_and, and_true, and_self]
  refine ⟨⟨Int.le_refl 0, by omega, eI 0⟩, fun x ⟨hx0, hx1, hx2⟩ => ⟨fun hlt => ?_, fun hge => ?_⟩⟩
  · have hb := byteAt_range t x.toNat
    have hd := eI (x + 1)
    rw [eS x hx0 hlt] at hd
    rw [wrap64 (x := x + 1) (by omega) (by omega), eS x hx0 hlt]
    refine ⟨⟨hx0, hlt⟩, ⟨hDA _ hx2, hb⟩, ⟨by omega, by omega, hd⟩, ?_, by omega⟩
    repeat' (first | rfl | refine And.intro ?_ ?_)
  · obtain rfl : x = t.size := by omega
    rw [eE]
    repeat' (first | rfl | refine And.intro ?_ ?_)
structure SameR (d : Dt) (l : List (List C4)) : Prop where
  gw : GW l
  R : d.R = l.length
  C : d.C = nC l
  cell : ∀ r c : Nat, r < l.length → c < nC l → fn l r c = ⟨d.L.getD (r * nC l + c) 0, 0, false, 0⟩
def annRw (keep : List Nat) (slot : Nat) (N : Int) : Ann Unit where
  α := Int
  φ _ i := 0 ≤ i ∧ i ≤ N
  μ _ i := (N - i).toNat
  get st := getI st.tm slot
  f st i := tmpl keep [(slot, .v (.int .i64 i))] [] st
def shDS : ShH ((Int × Int × Nat × Int × Int × Bool × Bool × Bool × ByteArray × ByteArray × Int × Bool) × OI × RC) :=
  shHCons (shCells (shCons shI (shCons shI (shCons (shO 1) (shCons shI (shCons shI (shCons shB (shCons shB (shCons shB (shCons shStr (shCons shStr (shCons shI (shOne shB)))))))))))) 41) (shHCons (shOwnI .i32 21 true) (shHOne (shRowsC 45 105)))
def lcDSame : ACon Unit := mkLC (decP (shCons (shP 0) (shOne (shO 2))) shDS) fun ((_, e), (a, b, r)) => .ask (DA (a, b) ∧ e = r.oe ∧ SameR (dtS (a, b)) r.l) (.one (.v (.bool true)) (dtI 0 (dtS (a, b)) ++ [.rows (.c r.l) 45 105 r.oe r.ep none]) [])
set_option maxHeartbeats 4000000 in
theorem ok_dSame : ∀ I : Sym.Inv Unit, LCOk I Tryz.prog 29 lcDSame := by
  refine lc_mk (fun (_, (a, b, r)) => allCfg Tryz.prog [] [] 0 [(326, annRw [0, 1, 4] 5 (dtS (a, b)).R), (646, annRw [0, 1, 4, 5] 6 (dtS (a, b)).C)]) (fun _ _ => allCfg_ok mixed trivial trivial) (fun _ => rfl) (n := 60) Tryz.func29 ?_
  intro ⟨⟨_, e⟩, ⟨R, C, le2, row, col, G, K, Ho, pre, out, mo, ov⟩, ⟨L, n, le⟩, ⟨l, oe, ep⟩⟩ hφ
  obtain ⟨⟨⟨rfl, rfl, hI⟩, rfl, hS⟩, hp⟩ := id hφ
  refine kcast (B := (rq (e.beq e) (br ((↑(Rws.c l).len : Int) != R) ((vB false = vB true ∧ True) ∧ (vI R = vI R ∧ vI C = vI C ∧ SV.h 1 [le2, 0] = SV.h 1 [le2, 0] ∧ vI row = vI row ∧ vI col = vI col ∧ vB G = vB G ∧ vB K = vB K ∧ vB Ho = vB Ho ∧ vS pre = vS pre ∧ vS out =
 vS out ∧ vI mo = vI mo ∧ vB ov = vB ov ∧ True) ∧ (L.length = L.length ∧ le2 = le2 ∧ L = L) ∧ (e = e ∧ ep = ep ∧ l = l) ∧ True) ((II (0 : Int) ≤ (0 : Int) ∧ (0 : Int) ≤ R) ∧ ((SV.p 0 0 = SV.p 0 0 ∧ SV.h 2 [e, 0] = SV.h 2 [e, 0] ∧ vB false = vB false ∧
 vI (0 : Int) = vI (0 : Int) ∧ True) ∧ (vI R = vI R ∧ vI C = vI C ∧ SV.h 1 [le2, 0] = SV.h 1 [le2, 0] ∧ vI row = vI row ∧ vI col = vI col ∧ vB G = vB G ∧ vB K = vB K ∧ vB Ho = vB Ho ∧ vS pre = vS pre ∧ vS out = vS out ∧ vI mo = vI mo ∧ vB ov = vB ov ∧
 True) ∧ (L.length = L.length ∧ le2 = le2 ∧ L = L) ∧ (e = e ∧ ep = ep ∧ l = l) ∧ True) ∧ ∀ (x : Int), (0 : Int) ≤ x ∧ x ≤ R → br (decide (x < R)) (rq (e.beq e && (Nat.beq (1 : Nat) (1 : Nat) && decide ((0 : Int) ≤ x ∧ x < (↑(Rws.c l).len : Int)))) (rq
 (e.beq e && x.toNat.blt (Rws.c l).len) (rq (ep.beq ep && x.toNat.blt (Rws.c l).len) (br ((↑((Rws.c l).nAt x.toNat) : Int) != C) ((vB false = vB true ∧ True) ∧ (vI R = vI R ∧ vI C = vI C ∧ SV.h 1 [le2, 0] = SV.h 1 [le2, 0] ∧ vI row = vI row ∧ vI col =
 vI col ∧ vB G = vB G ∧ vB K = vB K ∧ vB Ho = vB Ho ∧ vS pre = vS pre ∧ vS out = vS out ∧ vI mo = vI mo ∧ vB ov = vB ov ∧ True) ∧ (L.length = L.length ∧ le2 = le2 ∧ L = L) ∧ (e = e ∧ ep = ep ∧ l = l) ∧ True) ((II (0 : Int) ≤ (0 : Int) ∧ (0 : Int) ≤ C)
 ∧ ((SV.p 0 0 = SV.p 0 0 ∧ SV.h 2 [e, 0] = SV.h 2 [e, 0] ∧ vB false = vB false ∧ vI x = vI x ∧ vI (0 : Int) = vI (0 : Int) ∧ True) ∧ (vI R = vI R ∧ vI C = vI C ∧ SV.h 1 [le2, 0] = SV.h 1 [le2, 0] ∧ vI row = vI row ∧ vI col = vI col ∧ vB G = vB G ∧ vB
 K = vB K ∧ vB Ho = vB Ho ∧ vS pre = vS pre ∧ vS out = vS out ∧ vI mo = vI mo ∧ vB ov = vB ov ∧ True) ∧ (L.length = L.length ∧ le2 = le2 ∧ L = L) ∧ (e = e ∧ ep = ep ∧ l = l) ∧ True) ∧ ∀ (x_1 : Int), (0 : Int) ≤ x_1 ∧ x_1 ≤ C → br (decide (x_1 < C))
 (rq (e.beq e && (Nat.beq (1 : Nat) (1 : Nat) && decide ((0 : Int) ≤ x ∧ x < (↑(Rws.c l).len : Int)))) (rq (e.beq e && x.toNat.blt (Rws.c l).len) (rq (ep.beq ep && x.toNat.blt (Rws.c l).len && ((Rws.c l).sz.beq (4 : Nat) && decide ((0 : Int) ≤ x_1 ∧
 x_1 < (↑((Rws.c l).nAt x.toNat) : Int)))) (rq (ep.beq ep && x.toNat.blt (Rws.c l).len && x_1.toNat.blt (l.getD x.toNat []).length) (rq (le2.beq le2 && (Nat.beq (1 : Nat) (1 : Nat) && decide ((0 : Int) ≤ IntKind.i64.wrap (IntKind.i64.wrap (x * C) +
 x_1) ∧ IntKind.i64.wrap (IntKind.i64.wrap (x * C) + x_1) < (↑L.length : Int)))) (rq (le2.beq le2 && (IntKind.i64.wrap (IntKind.i64.wrap (x * C) + x_1)).toNat.blt L.length) (br (!(((l.getD x.toNat []).getD x_1.toNat C4.no).g == L.getD
 (IntKind.i64.wrap (IntKind.i64.wrap (x * C) + x_1)).toNat (0 : Int) && (((l.getD x.toNat []).getD x_1.toNat C4.no).a == (0 : Int) && (((l.getD x.toNat []).getD x_1.toNat C4.no).gd == false && (((l.getD x.toNat []).getD x_1.toNat C4.no).m == (0 : Int)
 && true))))) ((vB false = vB true ∧ True) ∧ (vI R = vI R ∧ vI C = vI C ∧ SV.h 1 [le2, 0] = SV.h 1 [le2, 0] ∧ vI row = vI row ∧ vI col = vI col ∧ vB G = vB G ∧ vB K = vB K ∧ vB Ho = vB Ho ∧ vS pre = vS pre ∧ vS out = vS out ∧ vI mo = vI mo ∧ vB ov =
 vB ov ∧ True) ∧ (L.length = L.length ∧ le2 = le2 ∧ L = L) ∧ (e = e ∧ ep = ep ∧ l = l) ∧ True) (((0 : Int) ≤ IntKind.i64.wrap (x_1 + (1 : Int)) ∧ IntKind.i64.wrap (x_1 + (1 : Int)) ≤ C) ∧ ((SV.p 0 0 = SV.p 0 0 ∧ SV.h 2 [e, 0] = SV.h 2 [e, 0] ∧ vB
 false = vB false ∧ vI x = vI x ∧ vI (IntKind.i64.wrap (x_1 + (1 : Int))) = vI (IntKind.i64.wrap (x_1 + (1 : Int))) ∧ True) ∧ (vI R = vI R ∧ vI C = vI C ∧ SV.h 1 [le2, 0] = SV.h 1 [le2, 0] ∧ vI row = vI row ∧ vI col = vI col ∧ vB G = vB G ∧ vB K = vB
 K ∧ vB Ho = vB Ho ∧ vS pre = vS pre ∧ vS out = vS out ∧ vI mo = vI mo ∧ vB ov = vB ov ∧ True) ∧ (L.length = L.length ∧ le2 = le2 ∧ L = L) ∧ (e = e ∧ ep = ep ∧ l = l) ∧ True) ∧ (C - IntKind.i64.wrap (x_1 + (1 : Int))).toNat < (C - x_1).toNat))))))))
 (((0 : Int) ≤ IntKind.i64.wrap (x + (1 : Int)) ∧ IntKind.i64.wrap (x + (1 : Int)) ≤ R) ∧ ((SV.p 0 0 = SV.p 0 0 ∧ SV.h 2 [e, 0] = SV.h 2 [e, 0] ∧ vB false = vB false ∧ vI (IntKind.i64.wrap (x + (1 : Int))) = vI (IntKind.i64.wrap (x + (1 : Int))) ∧
 True) ∧ (vI R = vI R ∧ vI C = vI C ∧ SV.h 1 [le2, 0] = SV.h 1 [le2, 0] ∧ vI row = vI row ∧ vI col = vI col ∧ vB G = vB G ∧ vB K = vB K ∧ vB Ho = vB Ho ∧ vS pre = vS pre ∧ vS out = vS out ∧ vI mo = vI mo ∧ vB ov = vB ov ∧ True) ∧ (L.length = L.length
 ∧ le2 = le2 ∧ L = L) ∧ (e = e ∧ ep = ep ∧ l = l) ∧ True) ∧ (R - IntKind.i64.wrap (x + (1 : Int))).toNat < (R - x).toNat)))))) ((vB true = vB true ∧ True) ∧ (vI R = vI R ∧ vI C = vI C ∧ SV.h 1 [le2, 0] = SV.h 1 [le2, 0] ∧ vI row = vI row ∧ vI col = vI
 col ∧ vB G = vB G ∧ vB K = vB K ∧ vB Ho = vB Ho ∧ vS pre = vS pre ∧ vS out = vS out ∧ vI mo = vI mo ∧ vB ov = vB ov ∧ True) ∧ (L.length = L.length ∧ le2 = le2 ∧ L = L) ∧ (e = e ∧ ep = ep ∧ l = l) ∧ True))))) (by kernel_rfl) ?_
  clear hp hφ
  simp only [br_iff, rq_iff, II, nbeq, decide_eq_true_eq, decide_eq_false_iff_not, Nat.blt_eq, true_and, and_true, and_self]
  obtain ⟨hg, hR, hC, hc⟩ := hS
  simp only [dtS] at hg hR hC hc
  have r0 := hI.r0
  have r1 := hI.r1
  have c0 := hI.c0
  have c1 := hI.c1
  have hlen := hI.len
  simp only at r0 r1 c0 c1 hlen
  have hA := area r0 r1 c0 c1
  have hL : (Rws.c l).len = l.length := rfl
  have hNt : ∀ j : Nat, j < l.length → (Rws.c l).nAt j = nC l := fun j hj => hg.row hj
  have hZ : (Rws.c l).sz = 4 := rfl
  refine ⟨fun h => by rw [hL, hR] at h; simp at h, fun _ => ⟨⟨Int.le_refl 0, by omega⟩, fun x ⟨hx0, hx1⟩ => ⟨fun hlt => ?_, fun _ => trivial⟩⟩⟩
  have hj : x.toNat < l.length := by omega
  have hbl : x.toNat.blt l.length = true := by rw [Nat.blt_eq]; exact hj
  have hdx : decide (0 ≤ x ∧ x < (l.length : Int)) = true := decide_eq_true ⟨hx0, by omega⟩
  have hln : (l.getD x.toNat []).length = nC l := hNt _ hj
  simp only [hL, hNt _ hj, hZ, hln, hbl, hdx, Bool.true_and]
  refine ⟨trivial, trivial, trivial, fun h => by rw [hC] at h; simp at h, fun _ => ⟨⟨Int.le_refl 0, by omega⟩, fun y ⟨hy0, hy1⟩ => ⟨fun hly => ?_, fun hgy => ?_⟩⟩⟩
  · have hjy : y.toNat < nC l := by omega
    have hby : y.toNat.blt (nC l) = true := by rw [Nat.blt_eq]; exact hjy
    have hdy : decide (0 ≤ y ∧ y < ((nC l : Nat) : Int)) = true := decide_eq_true ⟨hy0, by omega⟩
    have hp := place hx0 hlt hy0 hly
    have hxc : 0 ≤ x * C := Int.mul_nonneg hx0 (by omega)
    have w1 : IntKind.i64.wrap (x * C) = x * C := wrap64 (by omega) (by omega)
    have w2 : IntKind.i64.wrap (x * C + y) = x * C + y := wrap64 (by omega) (by omega)
    have hi : (x * C + y).toNat = x.toNat * nC l + y.toNat := by
      obtain ⟨a, rfl⟩ : ∃ a : Nat, x = a := ⟨x.toNat, by omega⟩
      obtain ⟨b, rfl⟩ : ∃ b : Nat, y = b := ⟨y.toNat, by omega⟩
      rw [hC, ← Int.natCast_mul]
      simp only [Int.toNat_natCast]
      omega
    have hdi : decide (0 ≤ x * C + y ∧ x * C + y < (L.length : Int)) = true := decide_eq_true ⟨hp.1, by omega⟩
    have hbi : (x.toNat * nC l + y.toNat).blt L.length = true := by rw [Nat.blt_eq]; omega
    have hcell : (l.getD x.toNat []).getD y.toNat C4.no = ⟨L.getD (x.toNat * nC l + y.toNat) 0, 0, false, 0⟩ := hc x.toNat y.toNat hj hjy
    rw [w1, w2, hi, hdi, hbi, hby, hdy, hcell, wrap64 (x := y + 1) (by omega) (by omega)]
    refine ⟨trivial, trivial, rfl, rfl, rfl, rfl, fun h => by simp at h, fun _ => ⟨by omega, by omega⟩⟩
  · rw [wrap64 (x := x + 1) (by omega) (by omega)]
    exact ⟨by omega, by omega⟩
end Go.Proofs.YtcbjgpkbfmmdpaaGreatDoor
namespace Go.Proofs.YtcbjgpkbfmmdpaaGreatDoor
open Go Go.Sym
section
variable {fr : Int} {m : Nat}
theorem Rel.feed : ∀ (bs : List Int) {s : Tm} {d : Dt}, Rel fr m s d → byteR bs → Rel fr m (feedT m fr s bs) (feedD d bs)
  | [], _, _, h, _ => h
  | b :: bs, _, _, h, hb => Rel.feed bs (h.byte (hb b List.mem_cons_self)) (fun x hx => hb x (List.mem_cons_of_mem _ hx))
theorem Rel.same {s : Tm} {d : Dt} (h : Rel fr m s d) : SameR d s.l := ⟨h.ti.gw, h.R, h.C, h.cell⟩
theorem blankL {R C : Nat} {r c : Nat} (h : r < R) (h' : c < C) : (List.replicate (((R : Int) * (C : Int)).toNat) (32 : Int)).getD (r * C + c) 0 = 32 := by
  have := idx_lt h h'
  rw [← Int.natCast_mul, Int.toNat_natCast]
  simp [List.getD, this]
theorem Rel.reset {s : Tm} {d : Dt} (h : Rel fr m s d) : Rel fr m (rsT s) (rsD d) := by
  have r0 := h.ti.r0
  have r1 := h.ti.r1
  have c0 := h.ti.c0
  have c1 := h.ti.c1
  have a0 := rows0 h.ti
  have a1 := cols0 h.ti
  have hlen := h.len
  have h1 := (h.mode (G := false) (K := false) (Ho := false) rfl rfl rfl).pend (pl := []) (pe := s.pe + 1) (pre := ByteArray.empty) (by simp) (fun x hx => by simp at hx) (fun hh => by simp at hh) rfl
  have hl : (s.l.length - 1) * nC s.l + (nC s.l - 1) + 1 = s.l.length * nC s.l := by
    have := Nat.succ_mul (s.l.length - 1) (nC s.l)
    rw [show (s.l.length - 1).succ = s.l.length by omega] at this
    omega
  have hx : (0 : Int) = ((0 * nC s.l + 0 : Nat) : Int) := by simp
  have hy : d.R * d.C = (((s.l.length - 1) * nC s.l + (nC s.l - 1) + 1 : Nat) : Int) := by rw [hl, h.R, h.C, Int.natCast_mul]
  have h2 := h1.wipe (a := 0) (b := 0) (c := s.l.length - 1) (e := nC s.l - 1) (A := nearI 0 s.l.length) (B := nearI 0 (nC s.l)) (C' := nearI ((s.l.length : Int) - 1) s.l.length) (E := nearI ((nC s.l : Int) - 1) (nC s.l)) (by show 0 < s.l.length; omega) (by show 0 < nC s.l; omega) (by show s.l.length - 1 < s.l.length; omega) (by show nC s.l - 1 < nC s.l; omega) (by show 0 * nC s.l + 0 ≤ _; omega) (near_in (Int.le_refl 0) (by omega)) (near_in (Int.le_refl 0) (by omega)) (by rw [near_in (by omega) (by omega)]; omega) (by rw [near_in (by omega) (by omega)]; omega) hx hy
  have n1 := near_bd (x := 0) a0
  have n2 := near_bd (x := 0) a1
  have eL : (wiL s.l (nearI 0 s.l.length) (nearI 0 (nC s.l)) (nearI ((s.l.length : Int) - 1) s.l.length) (nearI ((nC s.l : Int) - 1) (nC s.l)) blankC false).length = s.l.length := (wi_gw h.ti.gw _ _ _ _ _ _).2.1
  have eC : nC (wiL s.l (nearI 0 s.l.length) (nearI 0 (nC s.l)) (nearI ((s.l.length : Int) - 1) s.l.length) (nearI ((nC s.l : Int) - 1) (nC s.l)) blankC false) = nC s.l := (wi_gw h.ti.gw _ _ _ _ _ _).2.2
  have h3 := h2.cur (r := nearI 0 s.l.length) (c := nearI 0 (nC s.l)) (r' := 0) (c' := 0) n1.1 (by show nearI 0 s.l.length < ((wiL s.l _ _ _ _ blankC false).length : Int); rw [eL]; exact n1.2) n2.1 (by show nearI 0 (nC s.l) < (nC (wiL s.l _ _ _ _ blankC false) : Int); rw [eC]; exact n2.2) (near_in (Int.le_refl 0) (by omega)).symm (near_in (Int.le_refl 0) (by omega)).symm
  have h4 := h3.le s.ep (d.le + 1)
  have ew : wpL d.L 0 (d.R * d.C) = List.replicate (d.R * d.C).toNat 32 := by
    apply List.ext_getElem
    · rw [wpL_length, List.length_replicate, h.R, h.C, ← Int.natCast_mul, Int.toNat_natCast]; exact h.len
    · intro i i1 i2
      rw [wpL_length] at i1
      have := wpL_at (L := d.L) (a := 0) (b := d.R * d.C) i1
      rw [List.getD, List.getElem?_eq_getElem (by rw [wpL_length]; exact i1), Option.getD_some, if_pos ⟨by omega, by rw [hy, hl]; omega⟩] at this
      rw [this, List.getElem_replicate]
  rw [ew] at h4
  have es : rsT s = { s with r := nearI 0 s.l.length, c := nearI 0 (nC s.l), G := false, K := false, Ho := false, pl := [], pe := s.pe + 1, l := wiL s.l (nearI 0 s.l.length) (nearI 0 (nC s.l)) (nearI ((s.l.length : Int) - 1) s.l.length) (nearI ((nC s.l : Int) - 1) (nC s.l)) blankC false } := by
    unfold rsT moT wpT
    simp only [eL, eC]
  rw [es]
  exact h4
theorem rel_new {a b mo : Int} (hm : mayB a b = true) (h0 : 0 ≤ mo) (h1 : mo ≤ 4096) : Rel 0 mo.toNat (newT a b mo) (newD a b mo) := by
  have hb := mayB_iff.1 hm
  have e1 : (newT a b mo).l.length = a.toNat := newL_length _ _ _
  have e2 : nC (newT a b mo).l = b.toNat := newL_nC (by omega)
  refine ⟨newT_ti hm h0 h1, ?_, ?_, ?_, rfl, rfl, rfl, rfl, rfl, rfl, fun hh => by simp [newT] at hh, ?_, rfl, ?_, ?_⟩
  · rw [e1]; show a = _; omega
  · rw [e2]; show b = _; omega
  · rw [e1, e2]
    show (List.replicate (a * b).toNat (32 : Int)).length = _
    rw [List.length_replicate, show a * b = ((a.toNat * b.toNat : Nat) : Int) by rw [Int.natCast_mul, Int.toNat_of_nonneg (by omega), Int.toNat_of_nonneg (by omega)], Int.toNat_natCast]
  · show mo = _; omega
  · show ByteArray.empty = bytesOf (tk _ 0 mo.toNat 0)
    rfl
  · intro r c hr hc
    rw [e1] at hr
    rw [e2] at hc
    have hL : (newD a b mo).L.getD (r * nC (newT a b mo).l + c) 0 = 32 := by
      rw [e2]
      show (List.replicate (a * b).toNat (32 : Int)).getD _ 0 = 32
      have := blankL hr hc
      rw [Int.toNat_of_nonneg (by omega), Int.toNat_of_nonneg (by omega)] at this
      exact this
    rw [hL]
    show fn (newL a.toNat b.toNat blankC) r c = _
    rw [newL_gridF, fn_gridF hr hc]
    rfl
end
end Go.Proofs.YtcbjgpkbfmmdpaaGreatDoor
namespace Go.Proofs.YtcbjgpkbfmmdpaaGreatDoor
open Go Go.Sym
def altTaken : (Unit × Int) × QB → Alt Unit := fun (((), k), ((ep, fr, n, ov), ⟨xs, m, ep2⟩)) =>
  .ask (ep = ep2) (.one (.f (.func 90) [.p 3 0, .p 2 0]) (bq ep fr n ov xs m ++ [.cells [.p 0 0] 133, .cells [.v (.int .i64 k)] 3]) [])
def lcTaken : ACon Unit := mkLC (decP (shCons (shP 0) (shOne shI)) shQ) altTaken
set_option maxHeartbeats 4000000 in
theorem ok_taken : ∀ I : Sym.Inv Unit, LCOk I Tryz.prog 57 lcTaken := by
  refine lc_mk (fun _ => allCfg Tryz.prog [] [] 0) (fun _ _ => allCfg_ok mixed trivial trivial) (fun _ => rfl) (n := 60) Tryz.func57 ?_
  intro ⟨⟨_, k⟩, ⟨ep, fr, n, ov⟩, ⟨xs, m, ep2⟩⟩ hφ
  obtain ⟨rfl, _⟩ := id hφ
  refine kcast (B := ((SV.f (Fn.func (90 : Nat)) [SV.p 3 0, SV.p 2 0] = SV.f (Fn.func (90 : Nat)) [SV.p 3 0, SV.p 2 0] ∧ True) ∧ (SV.h 1 [ep, 0] = SV.h 1 [ep, 0] ∧ vI fr = vI fr ∧ vI n = vI n ∧ vB ov = vB ov ∧ True) ∧ (m = m ∧ ep = ep ∧ xs = xs) ∧ (SV.p 0 0 = SV.p 0 0 ∧ True) ∧ (vI k = vI k ∧ True) ∧ True)) (by kernel_rfl) ?_
  simp
def annT (k fr n : Int) (ov : Bool) (xs : List Int) (m ep : Nat) : Ann Unit where
  α := Int
  φ _ i := 0 ≤ i ∧ i ≤ k
  μ _ i := (k - i).toNat
  get st := getI st.tm 6
  f st i := tmpl [0, 1, 2, 5] [(6, .v (.int .i64 i))] [(2, .cells [.h 3 [ep, 0], .v (.int .i64 ((fr + i) % m)), .v (.int .i64 (n - i)), .v (.bool ov)] 82), (4, .cells [.h 7 [i.toNat, 0]] 61), (6, loopTm st.H 6 [2] []), (7, .own (.ints .u8 (tk xs fr m i)) i.toNat 5 1 i.toNat false)] st
  fx st := match getC st.H 4 with
    | [x] => match nilS x with
      | true => [.nilCell 4 0 (.ints .u8 []) 5 1]
      | false => []
    | _ => []
abbrev CB := Int × Unit × QB
def shC : ShH CB := shHCons (shCells (shOne shI) 3) (shHCons (shCells (shOne (shP 2)) 133) (shQi 3))
def altCollect : Unit × Unit × CB → Alt Unit := fun (_, _, k, _, ((ep, fr, n, ov), ⟨xs, m, ep2⟩)) =>
  .ask (ep = ep2 ∧ QWf fr n xs m ∧ 0 ≤ k ∧ k ≤ n) (.one (.h 7 [k.toNat, 0])
    ([.gone, .gone] ++ bqi 3 ep ((fr + k) % m) (n - k) ov xs m ++ [.gone, .gone, .gone, .own (.ints .u8 (tk xs fr m k)) k.toNat 5 1 k.toNat false]) [0, 1, 2, 3])
def decC : List SV → List (SB Unit) → Option (Unit × Unit × CB) := decAH (shOne (shF 90 (shCons (shP 0) (shOne (shP 1))))) shC (fun a b => (a.1, a.2, b))
def lcCollect : ACon Unit := mkLC decC altCollect
set_option maxHeartbeats 4000000 in
theorem ok_collect : ∀ I : Sym.Inv Unit, LCOk I Tryz.prog 56 lcCollect := by
  refine lc_of_run (eA := fun a => (shOne (shF 90 (shCons (shP 0) (shOne (shP 1))))).enc (a.1, a.2.1)) (eH := fun a => shC.enc a.2.2) (decAH_ok (f := fun a b => (a.1, a.2, b)) (g := fun c => ((c.1, c.2.1), c.2.2)) fun _ _ => rfl) (fun (_, _, k, _,
   ((ep, fr, n, ov), ⟨xs, m, _⟩)) => allCfg Tryz.prog [] [] 0 [(129, annT k fr n ov xs m ep)]) (fun _ _ => allCfg_ok mixed trivial trivial) (fun _ => rfl) (n := 60) Tryz.func56 ?_
  intro ⟨_, _, k, _, ⟨ep, fr, n, ov⟩, ⟨xs, m, ep2⟩⟩ hφ
  obtain ⟨⟨rfl, ⟨h1, h2, h3, h4, h5, h6, h7⟩, h8, h9⟩, _⟩ := id hφ
  refine kcast (B := ((II (0 : Int) ≤ (0 : Int) ∧ (0 : Int) ≤ k) ∧ ((SV.y 6 = SV.y 6 ∧ SV.p 0 0 = SV.p 0 0 ∧ SV.p 1 0 = SV.p 1 0 ∧ vI k = vI k ∧ vI (0 : Int) = vI (0 : Int) ∧ True) ∧ (vI k = vI k ∧ True) ∧ (SV.p 2 0 = SV.p 2 0 ∧ True) ∧ (SV.h 3 [ep, 0] = SV.h 3 [ep, 0] ∧
 vI fr = vI ((fr + (0 : Int)) % (↑m : Int)) ∧ vI n = vI (n - (0 : Int)) ∧ vB ov = vB ov ∧ True) ∧ (m = m ∧ ep = ep ∧ xs = xs) ∧ (SV.h 7 [0, 0] = SV.h 7 [0, 0] ∧ True) ∧ Obj.deferred (some []) = Obj.deferred (some []) ∧ ((SV.p 4 0 = SV.p 4 0 ∧ True) ∧
 #[(7 : Nat)] = #[(7 : Nat)] ∧ codeAt Tryz.f89 [1, 0, 1, 0, 0] = codeAt Tryz.f89 [1, 0, 1, 0, 0] ∧ codeAt Tryz.f89 [1, 0, 1, 0, 1] = codeAt Tryz.f89 [1, 0, 1, 0, 1]) ∧ ((0 : Nat) = (0 : Nat) ∧ (0 : Nat) = (0 : Nat) ∧ LI [] = tk xs fr m (0 : Int)) ∧
 True) ∧ ∀ (x : Int), (0 : Int) ≤ x ∧ x ≤ k → br (decide (x < k)) (rq (ep.beq ep && (Nat.beq (1 : Nat) (1 : Nat) && decide ((0 : Int) ≤ (fr + x) % (↑m : Int) ∧ (fr + x) % (↑m : Int) < (↑m : Int)))) (rq (ep.beq ep && ((fr + x) % (↑m : Int)).toNat.blt
 xs.length) (rq (ep.beq ep) (rq (decide ((↑m : Int) ≠ (0 : Int))) (rq (x.toNat.beq x.toNat && (true && decide (x.toNat + (1 : Nat) ≤ (9223372036854775807 : Nat) ∧ (x.toNat + (1 : Nat)) * (1 : Nat) ≤ (140737488355328 : Nat)))) (((0 : Int) ≤
 IntKind.i64.wrap (x + (1 : Int)) ∧ IntKind.i64.wrap (x + (1 : Int)) ≤ k) ∧ ((SV.y 6 = SV.y 6 ∧ SV.p 0 0 = SV.p 0 0 ∧ SV.p 1 0 = SV.p 1 0 ∧ vI k = vI k ∧ vI (IntKind.i64.wrap (x + (1 : Int))) = vI (IntKind.i64.wrap (x + (1 : Int))) ∧ True) ∧ (vI k =
 vI k ∧ True) ∧ (SV.p 2 0 = SV.p 2 0 ∧ True) ∧ (SV.h 3 [ep, 0] = SV.h 3 [ep, 0] ∧ vI ((IntKind.i64.wrap ((fr + x) % (↑m : Int) + (1 : Int))).tmod (↑m : Int)) = vI ((fr + IntKind.i64.wrap (x + (1 : Int))) % (↑m : Int)) ∧ vI (IntKind.i64.wrap (n - x -
 (1 : Int))) = vI (n - IntKind.i64.wrap (x + (1 : Int))) ∧ vB ov = vB ov ∧ True) ∧ (m = m ∧ ep = ep ∧ xs = xs) ∧ (SV.h 7 [x.toNat + 1, 0] = SV.h 7 [(IntKind.i64.wrap (x + (1 : Int))).toNat, 0] ∧ True) ∧ Obj.deferred (some []) = Obj.deferred (some [])
 ∧ ((SV.p 4 0 = SV.p 4 0 ∧ True) ∧ #[(7 : Nat)] = #[(7 : Nat)] ∧ codeAt Tryz.f89 [1, 0, 1, 0, 0] = codeAt Tryz.f89 [1, 0, 1, 0, 0] ∧ codeAt Tryz.f89 [1, 0, 1, 0, 1] = codeAt Tryz.f89 [1, 0, 1, 0, 1]) ∧ (x.toNat + (1 : Nat) = (IntKind.i64.wrap (x + (1
 : Int))).toNat ∧ x.toNat + (1 : Nat) = (IntKind.i64.wrap (x + (1 : Int))).toNat ∧ tk xs fr m x ++ intsOf (List.take (1 : Nat) (List.drop (0 : Nat) (setAll (List.map (fun i => SV.v (Value.int IntKind.u8 (0 : Int)).cells[i % (1 : Nat)]!) (List.range (1
 : Nat))) (0 : Nat) [SV.v (Value.int IntKind.u8 (xs.getD ((fr + x) % (↑m : Int)).toNat (0 : Int)))]))) = tk xs fr m (IntKind.i64.wrap (x + (1 : Int)))) ∧ True) ∧ (k - IntKind.i64.wrap (x + (1 : Int))).toNat < (k - x).toNat)))))) ((SV.h 7 [x.toNat, 0]
 = SV.h 7 [k.toNat, 0] ∧ True) ∧ True ∧ True ∧ (SV.h 3 [ep, 0] = SV.h 3 [ep, 0] ∧ vI ((fr + x) % (↑m : Int)) = vI ((fr + k) % (↑m : Int)) ∧ vI (n - x) = vI (n - k) ∧ vB ov = vB ov ∧ True) ∧ (m = m ∧ ep = ep ∧ xs = xs) ∧ True ∧ True ∧ True ∧ (x.toNat =
 k.toNat ∧ x.toNat = k.toNat ∧ tk xs fr m x = tk xs fr m k) ∧ True))) (by kernel_rfl) ?_
  simp only [rq_iff, br_iff, nbeq, Bool.and_eq_true, decide_eq_true_eq, decide_eq_false_iff_not, Nat.blt_eq, true_and, and_true, SV.v.injEq, SV.h.injEq, SV.p.injEq, Value.int.injEq, Value.bool.injEq, List.cons.injEq, LI, II]
  refine ⟨⟨by omega, h8⟩, ⟨⟨mod_start h3 h4, by omega⟩, rfl⟩, fun x ⟨hx0, hxk⟩ => ⟨fun hlt => ?_, fun hge => ?_⟩⟩
  · have hm : 0 < (m : Int) := by omega
    have e1 := Int.emod_nonneg (fr + x) (by omega : (m : Int) ≠ 0)
    have e2 := Int.emod_lt_of_pos (fr + x) hm
    have e3 : ((fr + x) % (m : Int) + 1) % (m : Int) = (fr + (x + 1)) % (m : Int) := by rw [Int.emod_add_emod]; congr 1; omega
    rw [wrap64 (x := (fr + x) % (m : Int) + 1) (by omega) (by omega), wrap64 (x := x + 1) (by omega) (by omega), wrap64 (x := n - x - 1) (by omega) (by omega), tmod_emod (by omega), e3, tk_succ hx0]
    refine ⟨⟨e1, e2⟩, by omega, by omega, ⟨by omega, by omega⟩, ⟨by omega, by omega⟩, ⟨⟨rfl, by omega⟩, by omega, by omega, by omega, rfl⟩, ?_⟩
    show (k - (x + 1)).toNat < (k - x).toNat
    omega
  · have hxk : x = k := by omega
    subst hxk
    simp
def kq (k n : Int) : Int := if n < (if (0 : Int) > k then 0 else k) then n else if (0 : Int) > k then 0 else k
theorem kq_spec {k n : Int} (h : 0 ≤ n) : 0 ≤ kq k n ∧ kq k n ≤ n := by
  unfold kq
  split
  · omega
  · split <;> omega
theorem kq_all {n : Int} (h : 0 ≤ n) : kq n n = n := by
  unfold kq
  split
  · rfl
  · split <;> omega
def qtab1 : List (Nat × ACon Unit) := [(57, lcTaken), (56, lcCollect)]
theorem qtab1_ok : LCs Tryz.prog qtab1 := ⟨ok_taken, ok_collect, trivial⟩
def altSome : (Unit × Int) × QB → Alt Unit := fun (((), k), ((ep, fr, n, ov), ⟨xs, m, ep2⟩)) =>
  .ask (ep = ep2 ∧ QWf fr n xs m) (.one (.v (.string (bytesOf (tk xs fr m (kq k n))))) (bq ep ((fr + kq k n) % m) (n - kq k n) ov xs m) [0, 1])
def lcSome1 : ACon Unit := mkLC (decP (shCons (shP 0) (shOne shI)) shQ) altSome
set_option maxHeartbeats 4000000 in
theorem ok_some1 : ∀ I : Sym.Inv Unit, LCOk I Tryz.prog 33 lcSome1 := by
  refine lc_mk (fun _ => allCfg Tryz.prog [] qtab1 0) (fun _ _ => allCfg_ok mixed trivial qtab1_ok) (fun _ => rfl) (n := 60) Tryz.func33 ?_
  intro ⟨⟨_, k⟩, ⟨ep, fr, n, ov⟩, ⟨xs, m, ep2⟩⟩ hφ
  obtain ⟨⟨rfl, hq⟩, _⟩ := id hφ
  refine kcast (B := (true = true ∧ ep = ep ∧ true = true ∧ (ep = ep ∧ QWf fr n xs m ∧ ((0 : Int) ≤ if n < if (0 : Int) > k then (0 : Int) else k then n else if (0 : Int) > k then (0 : Int) else k) ∧ (if n < if (0 : Int) > k then (0 : Int) else k then n else if (0 : Int)
 > k then (0 : Int) else k) ≤ n) ∧ rq ((if n < if (0 : Int) > k then (0 : Int) else k then n else if (0 : Int) > k then (0 : Int) else k).toNat.beq (if n < if (0 : Int) > k then (0 : Int) else k then n else if (0 : Int) > k then (0 : Int) else
 k).toNat && true && (tk xs fr m (if n < if (0 : Int) > k then (0 : Int) else k then n else if (0 : Int) > k then (0 : Int) else k)).length.beq (if n < if (0 : Int) > k then (0 : Int) else k then n else if (0 : Int) > k then (0 : Int) else k).toNat)
 ((vS (bytesOf (tk xs fr m (if n < if (0 : Int) > k then (0 : Int) else k then n else if (0 : Int) > k then (0 : Int) else k))) = vS (bytesOf (tk xs fr m (kq k n))) ∧ True) ∧ (SV.h 1 [ep, 0] = SV.h 1 [ep, 0] ∧ vI ((fr + if n < if (0 : Int) > k then (0
 : Int) else k then n else if (0 : Int) > k then (0 : Int) else k) % (↑m : Int)) = vI ((fr + kq k n) % (↑m : Int)) ∧ vI (n - if n < if (0 : Int) > k then (0 : Int) else k then n else if (0 : Int) > k then (0 : Int) else k) = vI (n - kq k n) ∧ vB ov =
 vB ov ∧ True) ∧ (m = m ∧ ep = ep ∧ xs = xs) ∧ True))) (by kernel_rfl) ?_
  have hk := kq_spec (k := k) hq.n0
  rw [show (if n < (if (0 : Int) > k then 0 else k) then n else if (0 : Int) > k then 0 else k) = kq k n from rfl]
  simp only [rq_iff, nbeq, Bool.and_eq_true, true_and, and_true]
  exact ⟨⟨hq, hk⟩, by simp [tk_length]⟩
def qtab2 : List (Nat × ACon Unit) := (33, lcSome1) :: qtab1
theorem qtab2_ok : LCs Tryz.prog qtab2 := ⟨ok_some1, qtab1_ok⟩
def altDrain : Unit × QB → Alt Unit := fun (_, ((ep, fr, n, ov), ⟨xs, m, ep2⟩)) =>
  .ask (ep = ep2 ∧ QWf fr n xs m) (.one (.v (.string (bytesOf (tk xs fr m n)))) (bq ep ((fr + n) % m) 0 false xs m) [0, 1])
def lcDrain1 : ACon Unit := mkLC (decP (shOne (shP 0)) shQ) altDrain
set_option maxHeartbeats 4000000 in
theorem ok_drain1 : ∀ I : Sym.Inv Unit, LCOk I Tryz.prog 14 lcDrain1 := by
  refine lc_mk (fun _ => allCfg Tryz.prog [] qtab2 0) (fun _ _ => allCfg_ok mixed trivial qtab2_ok) (fun _ => rfl) (n := 60) Tryz.func14 ?_
  intro ⟨_, ⟨ep, fr, n, ov⟩, ⟨xs, m, ep2⟩⟩ hφ
  obtain ⟨⟨rfl, hq⟩, _⟩ := id hφ
  refine kcast (B := (true = true ∧ (ep = ep ∧ QWf fr n xs m) ∧ (vS (bytesOf (tk xs fr m (kq n n))) = vS (bytesOf (tk xs fr m n)) ∧ True) ∧ (SV.h 1 [ep, 0] = SV.h 1 [ep, 0] ∧ vI ((fr + kq n n) % (↑m : Int)) = vI ((fr + n) % (↑m : Int)) ∧ vI (n - kq n n) = vI (0 : Int) ∧ vB false = vB false ∧ True) ∧ (m = m ∧ ep = ep ∧ xs = xs) ∧ True)) (by kernel_rfl) ?_
  have hk := kq_all hq.n0
  have hs := Int.sub_self n
  simp only [rq_iff, nbeq, Bool.and_eq_true, true_and, and_true, hk, hs]
  exact hq
def lcOver1 : ACon Unit := mkLC (decP (shOne (shP 0)) shQ) fun (_, ((ep, fr, n, ov), ⟨xs, m, ep2⟩)) => .ask (ep = ep2) (.one (.v (.bool ov)) (bq ep fr n ov xs m) [])
set_option maxHeartbeats 4000000 in
theorem ok_over1 : ∀ I : Sym.Inv Unit, LCOk I Tryz.prog 13 lcOver1 := by
  refine lc_mk (fun _ => allCfg Tryz.prog [] [] 0) (fun _ _ => allCfg_ok mixed trivial trivial) (fun _ => rfl) (n := 60) Tryz.func13 ?_
  intro ⟨_, ⟨ep, fr, n, ov⟩, ⟨xs, m, ep2⟩⟩ hφ
  obtain ⟨rfl, _⟩ := id hφ
  refine kcast (B := ((vB ov = vB ov ∧ True) ∧ (SV.h 1 [ep, 0] = SV.h 1 [ep, 0] ∧ vI fr = vI fr ∧ vI n = vI n ∧ vB ov = vB ov ∧ True) ∧ (m = m ∧ ep = ep ∧ xs = xs) ∧ True)) (by kernel_rfl) ?_
  simp
end Go.Proofs.YtcbjgpkbfmmdpaaGreatDoor
namespace Go.Proofs.YtcbjgpkbfmmdpaaGreatDoor
open Go Go.Sym
def dOf (st : St Unit) (slot : Nat) : Nat := match st.tm[slot]? with
  | some (.p b _) => b
  | _ => 0
def dtOf (b : Nat) (H : List (SB Unit)) : Option Dt :=
  match H[b]?, H[b + 1]? with
  | some (.cells [.v (.int _ R), .v (.int _ C), .h _ [le, _], .v (.int _ row), .v (.int _ col), .v (.bool G), .v (.bool K), .v (.bool Ho), .v (.string pre), .v (.string out), .v (.int _ mo), .v (.bool ov)] _), some (.own (.ints _ L) _ _ _ _ _) =>
    some ⟨R, C, L, le, row, col, G, K, Ho, pre, out, mo, ov⟩
  | _, _ => none
def dmI (b : Nat) (d : Dt) : List (Nat × SB Unit) := [(b, .cells [.v (.int .i64 d.R), .v (.int .i64 d.C), .h (b + 1) [d.le, 0], .v (.int .i64 d.row), .v (.int .i64 d.col), .v (.bool d.G), .v (.bool d.K), .v (.bool d.Ho), .v (.string d.pre), .v (.string d.out), .v (.int .i64 d.mo), .v (.bool d.ov)] 41),
  (b + 1, .own (.ints .i32 d.L) d.L.length 21 1 d.le true)]
structure RelA (a b mo : Int) (s : Tm) (d : Dt) : Prop where
  rel : Rel 0 mo.toNat s d
  R : s.l.length = a.toNat
  C : nC s.l = b.toNat
def annPl (a b mo : Int) (L : List ByteArray) : Ann Unit where
  α := Int × Tm × Dt
  φ _ x := 0 ≤ x.1 ∧ x.1 ≤ L.length ∧ RelA a b mo x.2.1 x.2.2
  μ _ x := ((L.length : Int) - x.1).toNat
  get st := match getI st.tm 10, tmOf (wOf st 7) st.H, dtOf (dOf st 9) st.H with
    | some i, some s, some d => some (i, s, d)
    | _, _, _ => none
  f st x := tmpl [1, 2, 3, 6, 7, 9] [(10, .v (.int .i64 x.1))] (wmI (wOf st 7) (a.toNat + 1) 0 mo.toNat 0 x.2.1 ++ dmI (dOf st 9) x.2.2) st
def annPj (a b mo : Int) : Ann Unit where
  α := Tm × Dt
  φ _ x := RelA a b mo x.1 x.2
  μ _ _ := 0
  get st := match tmOf (wOf st 7) st.H, dtOf (dOf st 9) st.H with
    | some s, some d => some (s, d)
    | _, _ => none
  f st x := tmpl [1, 2, 3, 6, 7, 9, 10] [] (wmI (wOf st 7) (a.toNat + 1) 0 mo.toNat 0 x.1 ++ dmI (dOf st 9) x.2) st
def tabP12 : List (Nat × ACon Unit) := (8, lcTReset) :: (31, lcTModes) :: (32, lcTPend) :: (30, lcSRows) ::
  (7, lcDNew) :: (9, lcDReset) :: (11, lcDFeed) :: (29, lcDSame) ::
  (13, lcOver1) :: (14, lcDrain1) :: tabL12
theorem tabP12_ok : LCs Tryz.prog tabP12 := ⟨ok_tReset, ok_tModes, ok_tPend, ok_sRows, ok_dNew, ok_dReset, ok_dFeed, ok_dSame, ok_over1, ok_drain1, tabL12_ok⟩
noncomputable def cfgP (a b mo : Int) (L : List ByteArray) : Cfg Unit := allCfg Tryz.prog [] tabP12 0 [(580, annPl a b mo L)] [(1000837, annPj a b mo), (1094, annPj a b mo)]
theorem cfgP_ok (a b mo : Int) (L : List ByteArray) (I : Sym.Inv Unit) : CfgOk I (cfgP a b mo L) := allCfg_ok mixed trivial tabP12_ok
set_option maxHeartbeats 4000000 in
theorem run_plays (a b mo : Int) (L : List ByteArray) : Sym.Ask (bodyK Tryz.prog (run (cfgP a b mo L) 100) Tryz.f3 [.a [.v (.int .i64 a), .v (.int .i64 b)], .r 0 [], .v (.int .i64 mo)] [.inp (.ss L)] (fun y _ => y = .v (.bool true))) := by
  refine kcast (B := (br (decide (a ≥ (1 : Int))) (br (decide (a ≤ (30 : Int))) (br (decide (b ≥ (1 : Int))) (br (!decide (b ≤ (40 : Int))) (true = true ∧ vB true = vB true) (br (decide ((↑L.length : Int) > (20 : Int))) (true = true ∧ vB true = vB true) (br (decide (mo <
 (0 : Int))) (true = true ∧ vB true = vB true) (br (decide (mo > (4096 : Int))) (true = true ∧ vB true = vB true) (true = true ∧ (mayB a b = true ∧ (0 : Int) ≤ mo ∧ mo ≤ (4096 : Int)) ∧ true = true ∧ ((1 : Int) ≤ a ∧ a ≤ (255 : Int) ∧ (1 : Int) ≤ b ∧
 b ≤ (255 : Int)) ∧ (II (0 : Int) ≤ (0 : Int) ∧ (0 : Int) ≤ (↑L.length : Int) ∧ RelA a b mo (Tm.mk (0 : Int) (0 : Int) (newL a.toNat b.toNat blankC) (a.toNat + (1 : Nat)) false false false (0 : Int) false (List.replicate mo.toNat (0 : Int)) (0 : Nat)
 (LI [])) (Dt.mk a b (List.replicate (a * b).toNat (32 : Int)) (0 : Nat) (0 : Int) (0 : Int) false false false ByteArray.empty ByteArray.empty mo false)) ∧ ((SV.r (0 : Nat) [] = SV.r (0 : Nat) [] ∧ vI mo = vI mo ∧ SV.p 1 0 = SV.p 1 0 ∧ vB false = vB
 false ∧ SV.p 14 0 = SV.p 14 0 ∧ SV.p 16 0 = SV.p 16 0 ∧ vI (0 : Int) = vI (0 : Int) ∧ True) ∧ IC.ss L = IC.ss L ∧ (vI a = vI a ∧ vI b = vI b ∧ True) ∧ (vI a = vI a ∧ vI b = vI b ∧ True) ∧ True ∧ True ∧ True ∧ (SV.h 7 [a.toNat + 1, 0] = SV.h 7
 [a.toNat + 1, 0] ∧ True) ∧ (a.toNat + (1 : Nat) = a.toNat + (1 : Nat) ∧ a.toNat + (1 : Nat) = a.toNat + (1 : Nat) ∧ newL a.toNat b.toNat blankC = newL a.toNat b.toNat blankC) ∧ True ∧ True ∧ (vI (0 : Int) = vI (0 : Int) ∧ vI (0 : Int) = vI (0 : Int)
 ∧ vB false = vB false ∧ SV.p 6 0 = SV.p 6 0 ∧ True) ∧ (mo.toNat = mo.toNat ∧ (0 : Nat) = (0 : Nat) ∧ List.replicate mo.toNat (0 : Int) = List.replicate mo.toNat (0 : Int)) ∧ (SV.h 11 [0, 0] = SV.h 11 [0, 0] ∧ vI (0 : Int) = vI (0 : Int) ∧ vI (0 :
 Int) = vI (0 : Int) ∧ vB false = vB false ∧ True) ∧ (SV.p 10 0 = SV.p 10 0 ∧ SV.p 12 0 = SV.p 12 0 ∧ vB false = vB false ∧ vB false = vB false ∧ vB false = vB false ∧ SV.h 15 [0, 0] = SV.h 15 [0, 0] ∧ True) ∧ (SV.p 10 0 = SV.p 10 0 ∧ SV.p 12 0 = SV.p
 12 0 ∧ SV.p 13 0 = SV.p 13 0 ∧ True) ∧ ((0 : Nat) = (LI []).length ∧ (0 : Nat) = (0 : Nat) ∧ LI [] = LI []) ∧ (vI a = vI a ∧ vI b = vI b ∧ SV.h 17 [0, 0] = SV.h 17 [0, 0] ∧ vI (0 : Int) = vI (0 : Int) ∧ vI (0 : Int) = vI (0 : Int) ∧ vB false = vB
 false ∧ vB false = vB false ∧ vB false = vB false ∧ vS ByteArray.empty = vS ByteArray.empty ∧ vS ByteArray.empty = vS ByteArray.empty ∧ vI mo = vI mo ∧ vB false = vB false ∧ True) ∧ ((List.replicate (a * b).toNat (32 : Int)).length = (List.replicate
 (a * b).toNat (32 : Int)).length ∧ (0 : Nat) = (0 : Nat) ∧ List.replicate (a * b).toNat (32 : Int) = List.replicate (a * b).toNat (32 : Int)) ∧ True) ∧ ∀ (x : Int × Tm × Dt), (0 : Int) ≤ x.fst ∧ x.fst ≤ (↑L.length : Int) ∧ RelA a b mo x.snd.fst
 x.snd.snd → br (decide (x.fst < (↑L.length : Int))) (rq (true && (Nat.beq (1 : Nat) (1 : Nat) && (true && decide ((0 : Int) ≤ x.fst ∧ x.fst < (↑L.length : Int))))) (rq (true && (x.fst.toNat.blt L.length && true)) (br (decide ((↑(L.getD x.fst.toNat
 ByteArray.empty).size : Int) > (100 : Int))) (true = true ∧ vB true = vB true) (rq (true && (Nat.beq (1 : Nat) (1 : Nat) && (true && decide ((0 : Int) ≤ x.fst ∧ x.fst < (↑L.length : Int))))) (rq (true && (x.fst.toNat.blt L.length && true)) (br
 ((L.getD x.fst.toNat ByteArray.empty).toList == (ByteArray.mk #[]).toList) (true = true ∧ TA (((), (), x.snd.fst.G, x.snd.fst.K, x.snd.fst.Ho, x.snd.fst.pe), (x.snd.fst.r, x.snd.fst.c, false, (), ()), a.toNat + (1 : Nat), RC.mk x.snd.fst.l (a.toNat +
 (1 : Nat)) x.snd.fst.ep, ((0 : Nat), (0 : Int), x.snd.fst.n, x.snd.fst.ov), OI.mk x.snd.fst.xs mo.toNat (0 : Nat), OI.mk x.snd.fst.pl x.snd.fst.pl.length x.snd.fst.pe) ∧ true = true ∧ DA ((x.snd.snd.R, x.snd.snd.C, x.snd.snd.le, x.snd.snd.row,
 x.snd.snd.col, x.snd.snd.G, x.snd.snd.K, x.snd.snd.Ho, x.snd.snd.pre, x.snd.snd.out, x.snd.snd.mo, x.snd.snd.ov), OI.mk x.snd.snd.L x.snd.snd.L.length x.snd.snd.le) ∧ RelA a b mo (Tm.mk (nearI (0 : Int) (↑(wiL x.snd.fst.l (nearI (0 : Int)
 (↑x.snd.fst.l.length : Int)) (nearI (0 : Int) (↑(nC x.snd.fst.l) : Int)) (nearI ((↑x.snd.fst.l.length : Int) - (1 : Int)) (↑x.snd.fst.l.length : Int)) (nearI ((↑(nC x.snd.fst.l) : Int) - (1 : Int)) (↑(nC x.snd.fst.l) : Int)) blankC false).length :
 Int)) (nearI (0 : Int) (↑(nC (wiL x.snd.fst.l (nearI (0 : Int) (↑x.snd.fst.l.length : Int)) (nearI (0 : Int) (↑(nC x.snd.fst.l) : Int)) (nearI ((↑x.snd.fst.l.length : Int) - (1 : Int)) (↑x.snd.fst.l.length : Int)) (nearI ((↑(nC x.snd.fst.l) : Int) -
 (1 : Int)) (↑(nC x.snd.fst.l) : Int)) blankC false)) : Int)) (wiL x.snd.fst.l (nearI (0 : Int) (↑x.snd.fst.l.length : Int)) (nearI (0 : Int) (↑(nC x.snd.fst.l) : Int)) (nearI ((↑x.snd.fst.l.length : Int) - (1 : Int)) (↑x.snd.fst.l.length : Int))
 (nearI ((↑(nC x.snd.fst.l) : Int) - (1 : Int)) (↑(nC x.snd.fst.l) : Int)) blankC false) x.snd.fst.ep false false false x.snd.fst.n x.snd.fst.ov x.snd.fst.xs (x.snd.fst.pe + 1) (LI [])) (Dt.mk x.snd.snd.R x.snd.snd.C (List.replicate (x.snd.snd.R *
 x.snd.snd.C).toNat (32 : Int)) (x.snd.snd.le + 1) (0 : Int) (0 : Int) false false false ByteArray.empty x.snd.snd.out x.snd.snd.mo x.snd.snd.ov) ∧ (SV.r (0 : Nat) [] = SV.r (0 : Nat) [] ∧ vI mo = vI mo ∧ SV.p 1 0 = SV.p 1 0 ∧ vB false = vB false ∧
 SV.p 14 0 = SV.p 14 0 ∧ SV.p 16 0 = SV.p 16 0 ∧ vI x.fst = vI x.fst ∧ True) ∧ IC.ss L = IC.ss L ∧ (vI a = vI a ∧ vI b = vI b ∧ True) ∧ (vI a = vI a ∧ vI b = vI b ∧ True) ∧ True ∧ True ∧ True ∧ (SV.h 7 [a.toNat + 1, 0] = SV.h 7 [a.toNat + 1, 0] ∧
 True) ∧ (a.toNat + (1 : Nat) = a.toNat + (1 : Nat) ∧ x.snd.fst.ep = x.snd.fst.ep ∧ wiL x.snd.fst.l (nearI (0 : Int) (↑x.snd.fst.l.length : Int)) (nearI (0 : Int) (↑(nC x.snd.fst.l) : Int)) (nearI ((↑x.snd.fst.l.length : Int) - (1 : Int))
 (↑x.snd.fst.l.length : Int)) (nearI ((↑(nC x.snd.fst.l) : Int) - (1 : Int)) (↑(nC x.snd.fst.l) : Int)) blankC false = wiL x.snd.fst.l (nearI (0 : Int) (↑x.snd.fst.l.length : Int)) (nearI (0 : Int) (↑(nC x.snd.fst.l) : Int)) (nearI
 ((↑x.snd.fst.l.length : Int) - (1 : Int)) (↑x.snd.fst.l.length : Int)) (nearI ((↑(nC x.snd.fst.l) : Int) - (1 : Int)) (↑(nC x.snd.fst.l) : Int)) blankC false) ∧ True ∧ True ∧ (vI (nearI (0 : Int) (↑(wiL x.snd.fst.l (nearI (0 : Int)
 (↑x.snd.fst.l.length : Int)) (nearI (0 : Int) (↑(nC x.snd.fst.l) : Int)) (nearI ((↑x.snd.fst.l.length : Int) - (1 : Int)) (↑x.snd.fst.l.length : Int)) (nearI ((↑(nC x.snd.fst.l) : Int) - (1 : Int)) (↑(nC x.snd.fst.l) : Int)) blankC false).length :
 Int)) = vI (nearI (0 : Int) (↑(wiL x.snd.fst.l (nearI (0 : Int) (↑x.snd.fst.l.length : Int)) (nearI (0 : Int) (↑(nC x.snd.fst.l) : Int)) (nearI ((↑x.snd.fst.l.length : Int) - (1 : Int)) (↑x.snd.fst.l.length : Int)) (nearI ((↑(nC x.snd.fst.l) : Int) -
 (1 : Int)) (↑(nC x.snd.fst.l) : Int)) blankC false).length : Int)) ∧ vI (nearI (0 : Int) (↑(nC (wiL x.snd.fst.l (nearI (0 : Int) (↑x.snd.fst.l.length : Int)) (nearI (0 : Int) (↑(nC x.snd.fst.l) : Int)) (nearI ((↑x.snd.fst.l.length : Int) - (1 : Int))
 (↑x.snd.fst.l.length : Int)) (nearI ((↑(nC x.snd.fst.l) : Int) - (1 : Int)) (↑(nC x.snd.fst.l) : Int)) blankC false)) : Int)) = vI (nearI (0 : Int) (↑(nC (wiL x.snd.fst.l (nearI (0 : Int) (↑x.snd.fst.l.length : Int)) (nearI (0 : Int) (↑(nC
 x.snd.fst.l) : Int)) (nearI ((↑x.snd.fst.l.length : Int) - (1 : Int)) (↑x.snd.fst.l.length : Int)) (nearI ((↑(nC x.snd.fst.l) : Int) - (1 : Int)) (↑(nC x.snd.fst.l) : Int)) blankC false)) : Int)) ∧ vB false = vB false ∧ SV.p 6 0 = SV.p 6 0 ∧ True) ∧
 (mo.toNat = mo.toNat ∧ (0 : Nat) = (0 : Nat) ∧ x.snd.fst.xs = x.snd.fst.xs) ∧ (SV.h 11 [0, 0] = SV.h 11 [0, 0] ∧ vI (0 : Int) = vI (0 : Int) ∧ vI x.snd.fst.n = vI x.snd.fst.n ∧ vB x.snd.fst.ov = vB x.snd.fst.ov ∧ True) ∧ (SV.p 10 0 = SV.p 10 0 ∧ SV.p
 12 0 = SV.p 12 0 ∧ vB false = vB false ∧ vB false = vB false ∧ vB false = vB false ∧ SV.h 15 [x.snd.fst.pe + 1, 0] = SV.h 15 [x.snd.fst.pe + 1, 0] ∧ True) ∧ (SV.p 10 0 = SV.p 10 0 ∧ SV.p 12 0 = SV.p 12 0 ∧ SV.p 13 0 = SV.p 13 0 ∧ True) ∧ ((LI
 []).length = (LI []).length ∧ x.snd.fst.pe + 1 = x.snd.fst.pe + 1 ∧ LI [] = LI []) ∧ (vI x.snd.snd.R = vI x.snd.snd.R ∧ vI x.snd.snd.C = vI x.snd.snd.C ∧ SV.h 17 [x.snd.snd.le + 1, 0] = SV.h 17 [x.snd.snd.le + 1, 0] ∧ vI (0 : Int) = vI (0 : Int) ∧ vI
 (0 : Int) = vI (0 : Int) ∧ vB false = vB false ∧ vB false = vB false ∧ vB false = vB false ∧ vS ByteArray.empty = vS ByteArray.empty ∧ vS x.snd.snd.out = vS x.snd.snd.out ∧ vI x.snd.snd.mo = vI x.snd.snd.mo ∧ vB x.snd.snd.ov = vB x.snd.snd.ov ∧ True)
 ∧ ((List.replicate (x.snd.snd.R * x.snd.snd.C).toNat (32 : Int)).length = (List.replicate (x.snd.snd.R * x.snd.snd.C).toNat (32 : Int)).length ∧ x.snd.snd.le + 1 = x.snd.snd.le + 1 ∧ List.replicate (x.snd.snd.R * x.snd.snd.C).toNat (32 : Int) =
 List.replicate (x.snd.snd.R * x.snd.snd.C).toNat (32 : Int)) ∧ True) (RelA a b mo (Tm.mk x.snd.fst.r x.snd.fst.c x.snd.fst.l x.snd.fst.ep x.snd.fst.G x.snd.fst.K x.snd.fst.Ho x.snd.fst.n x.snd.fst.ov x.snd.fst.xs x.snd.fst.pe x.snd.fst.pl) (Dt.mk
 x.snd.snd.R x.snd.snd.C x.snd.snd.L x.snd.snd.le x.snd.snd.row x.snd.snd.col x.snd.snd.G x.snd.snd.K x.snd.snd.Ho x.snd.snd.pre x.snd.snd.out x.snd.snd.mo x.snd.snd.ov) ∧ (SV.r (0 : Nat) [] = SV.r (0 : Nat) [] ∧ vI mo = vI mo ∧ SV.p 1 0 = SV.p 1 0 ∧
 vB false = vB false ∧ SV.p 14 0 = SV.p 14 0 ∧ SV.p 16 0 = SV.p 16 0 ∧ vI x.fst = vI x.fst ∧ True) ∧ IC.ss L = IC.ss L ∧ (vI a = vI a ∧ vI b = vI b ∧ True) ∧ (vI a = vI a ∧ vI b = vI b ∧ True) ∧ True ∧ True ∧ True ∧ (SV.h 7 [a.toNat + 1, 0] = SV.h 7
 [a.toNat + 1, 0] ∧ True) ∧ (a.toNat + (1 : Nat) = a.toNat + (1 : Nat) ∧ x.snd.fst.ep = x.snd.fst.ep ∧ x.snd.fst.l = x.snd.fst.l) ∧ True ∧ True ∧ (vI x.snd.fst.r = vI x.snd.fst.r ∧ vI x.snd.fst.c = vI x.snd.fst.c ∧ vB false = vB false ∧ SV.p 6 0 =
 SV.p 6 0 ∧ True) ∧ (mo.toNat = mo.toNat ∧ (0 : Nat) = (0 : Nat) ∧ x.snd.fst.xs = x.snd.fst.xs) ∧ (SV.h 11 [0, 0] = SV.h 11 [0, 0] ∧ vI (0 : Int) = vI (0 : Int) ∧ vI x.snd.fst.n = vI x.snd.fst.n ∧ vB x.snd.fst.ov = vB x.snd.fst.ov ∧ True) ∧ (SV.p 10 0
 = SV.p 10 0 ∧ SV.p 12 0 = SV.p 12 0 ∧ vB x.snd.fst.G = vB x.snd.fst.G ∧ vB x.snd.fst.K = vB x.snd.fst.K ∧ vB x.snd.fst.Ho = vB x.snd.fst.Ho ∧ SV.h 15 [x.snd.fst.pe, 0] = SV.h 15 [x.snd.fst.pe, 0] ∧ True) ∧ (SV.p 10 0 = SV.p 10 0 ∧ SV.p 12 0 = SV.p 12
 0 ∧ SV.p 13 0 = SV.p 13 0 ∧ True) ∧ (x.snd.fst.pl.length = x.snd.fst.pl.length ∧ x.snd.fst.pe = x.snd.fst.pe ∧ x.snd.fst.pl = x.snd.fst.pl) ∧ (vI x.snd.snd.R = vI x.snd.snd.R ∧ vI x.snd.snd.C = vI x.snd.snd.C ∧ SV.h 17 [x.snd.snd.le, 0] = SV.h 17
 [x.snd.snd.le, 0] ∧ vI x.snd.snd.row = vI x.snd.snd.row ∧ vI x.snd.snd.col = vI x.snd.snd.col ∧ vB x.snd.snd.G = vB x.snd.snd.G ∧ vB x.snd.snd.K = vB x.snd.snd.K ∧ vB x.snd.snd.Ho = vB x.snd.snd.Ho ∧ vS x.snd.snd.pre = vS x.snd.snd.pre ∧ vS
 x.snd.snd.out = vS x.snd.snd.out ∧ vI x.snd.snd.mo = vI x.snd.snd.mo ∧ vB x.snd.snd.ov = vB x.snd.snd.ov ∧ True) ∧ (x.snd.snd.L.length = x.snd.snd.L.length ∧ x.snd.snd.le = x.snd.snd.le ∧ x.snd.snd.L = x.snd.snd.L) ∧ True))) ∧ ∀ (x_1 : Tm × Dt), RelA
 a b mo x_1.fst x_1.snd → rq (true && (Nat.beq (1 : Nat) (1 : Nat) && (true && decide ((0 : Int) ≤ x.fst ∧ x.fst < (↑L.length : Int))))) (rq (true && (x.fst.toNat.blt L.length && true)) (true = true ∧ (TA (((), (), x_1.fst.G, x_1.fst.K, x_1.fst.Ho,
 x_1.fst.pe), (x_1.fst.r, x_1.fst.c, false, (), ()), a.toNat + (1 : Nat), RC.mk x_1.fst.l (a.toNat + (1 : Nat)) x_1.fst.ep, ((0 : Nat), (0 : Int), x_1.fst.n, x_1.fst.ov), OI.mk x_1.fst.xs mo.toNat (0 : Nat), OI.mk x_1.fst.pl x_1.fst.pl.length
 x_1.fst.pe) ∧ (L.getD x.fst.toNat ByteArray.empty).size ≤ (1099511627776 : Nat)) ∧ rq (true && (Nat.beq (1 : Nat) (1 : Nat) && (true && decide ((0 : Int) ≤ x.fst ∧ x.fst < (↑L.length : Int))))) (rq (true && (x.fst.toNat.blt L.length && true)) (true =
 true ∧ (DA ((x_1.snd.R, x_1.snd.C, x_1.snd.le, x_1.snd.row, x_1.snd.col, x_1.snd.G, x_1.snd.K, x_1.snd.Ho, x_1.snd.pre, x_1.snd.out, x_1.snd.mo, x_1.snd.ov), OI.mk x_1.snd.L x_1.snd.L.length x_1.snd.le) ∧ (L.getD x.fst.toNat ByteArray.empty).size ≤
 (1099511627776 : Nat) ∧ ∀ (i : Nat), DI (feedD (dtS ((x_1.snd.R, x_1.snd.C, x_1.snd.le, x_1.snd.row, x_1.snd.col, x_1.snd.G, x_1.snd.K, x_1.snd.Ho, x_1.snd.pre, x_1.snd.out, x_1.snd.mo, x_1.snd.ov), OI.mk x_1.snd.L x_1.snd.L.length x_1.snd.le))
 (List.take i (bytesL (L.getD x.fst.toNat ByteArray.empty))))) ∧ RelA a b mo (Tm.mk (fdX (((), (), x_1.fst.G, x_1.fst.K, x_1.fst.Ho, x_1.fst.pe), (x_1.fst.r, x_1.fst.c, false, (), ()), a.toNat + (1 : Nat), RC.mk x_1.fst.l (a.toNat + (1 : Nat))
 x_1.fst.ep, ((0 : Nat), (0 : Int), x_1.fst.n, x_1.fst.ov), OI.mk x_1.fst.xs mo.toNat (0 : Nat), OI.mk x_1.fst.pl x_1.fst.pl.length x_1.fst.pe) (L.getD x.fst.toNat ByteArray.empty)).r (fdX (((), (), x_1.fst.G, x_1.fst.K, x_1.fst.Ho, x_1.fst.pe),
 (x_1.fst.r, x_1.fst.c, false, (), ()), a.toNat + (1 : Nat), RC.mk x_1.fst.l (a.toNat + (1 : Nat)) x_1.fst.ep, ((0 : Nat), (0 : Int), x_1.fst.n, x_1.fst.ov), OI.mk x_1.fst.xs mo.toNat (0 : Nat), OI.mk x_1.fst.pl x_1.fst.pl.length x_1.fst.pe) (L.getD
 x.fst.toNat ByteArray.empty)).c (fdX (((), (), x_1.fst.G, x_1.fst.K, x_1.fst.Ho, x_1.fst.pe), (x_1.fst.r, x_1.fst.c, false, (), ()), a.toNat + (1 : Nat), RC.mk x_1.fst.l (a.toNat + (1 : Nat)) x_1.fst.ep, ((0 : Nat), (0 : Int), x_1.fst.n, x_1.fst.ov),
 OI.mk x_1.fst.xs mo.toNat (0 : Nat), OI.mk x_1.fst.pl x_1.fst.pl.length x_1.fst.pe) (L.getD x.fst.toNat ByteArray.empty)).l (fdX (((), (), x_1.fst.G, x_1.fst.K, x_1.fst.Ho, x_1.fst.pe), (x_1.fst.r, x_1.fst.c, false, (), ()), a.toNat + (1 : Nat),
 RC.mk x_1.fst.l (a.toNat + (1 : Nat)) x_1.fst.ep, ((0 : Nat), (0 : Int), x_1.fst.n, x_1.fst.ov), OI.mk x_1.fst.xs mo.toNat (0 : Nat), OI.mk x_1.fst.pl x_1.fst.pl.length x_1.fst.pe) (L.getD x.fst.toNat ByteArray.empty)).ep (fdX (((), (), x_1.fst.G,
 x_1.fst.K, x_1.fst.Ho, x_1.fst.pe), (x_1.fst.r, x_1.fst.c, false, (), ()), a.toNat + (1 : Nat), RC.mk x_1.fst.l (a.toNat + (1 : Nat)) x_1.fst.ep, ((0 : Nat), (0 : Int), x_1.fst.n, x_1.fst.ov), OI.mk x_1.fst.xs mo.toNat (0 : Nat), OI.mk x_1.fst.pl
 x_1.fst.pl.length x_1.fst.pe) (L.getD x.fst.toNat ByteArray.empty)).G (fdX (((), (), x_1.fst.G, x_1.fst.K, x_1.fst.Ho, x_1.fst.pe), (x_1.fst.r, x_1.fst.c, false, (), ()), a.toNat + (1 : Nat), RC.mk x_1.fst.l (a.toNat + (1 : Nat)) x_1.fst.ep, ((0 :
 Nat), (0 : Int), x_1.fst.n, x_1.fst.ov), OI.mk x_1.fst.xs mo.toNat (0 : Nat), OI.mk x_1.fst.pl x_1.fst.pl.length x_1.fst.pe) (L.getD x.fst.toNat ByteArray.empty)).K (fdX (((), (), x_1.fst.G, x_1.fst.K, x_1.fst.Ho, x_1.fst.pe), (x_1.fst.r, x_1.fst.c,
 false, (), ()), a.toNat + (1 : Nat), RC.mk x_1.fst.l (a.toNat + (1 : Nat)) x_1.fst.ep, ((0 : Nat), (0 : Int), x_1.fst.n, x_1.fst.ov), OI.mk x_1.fst.xs mo.toNat (0 : Nat), OI.mk x_1.fst.pl x_1.fst.pl.length x_1.fst.pe) (L.getD x.fst.toNat
 ByteArray.empty)).Ho (fdX (((), (), x_1.fst.G, x_1.fst.K, x_1.fst.Ho, x_1.fst.pe), (x_1.fst.r, x_1.fst.c, false, (), ()), a.toNat + (1 : Nat), RC.mk x_1.fst.l (a.toNat + (1 : Nat)) x_1.fst.ep, ((0 : Nat), (0 : Int), x_1.fst.n, x_1.fst.ov), OI.mk
 x_1.fst.xs mo.toNat (0 : Nat), OI.mk x_1.fst.pl x_1.fst.pl.length x_1.fst.pe) (L.getD x.fst.toNat ByteArray.empty)).n (fdX (((), (), x_1.fst.G, x_1.fst.K, x_1.fst.Ho, x_1.fst.pe), (x_1.fst.r, x_1.fst.c, false, (), ()), a.toNat + (1 : Nat), RC.mk
 x_1.fst.l (a.toNat + (1 : Nat)) x_1.fst.ep, ((0 : Nat), (0 : Int), x_1.fst.n, x_1.fst.ov), OI.mk x_1.fst.xs mo.toNat (0 : Nat), OI.mk x_1.fst.pl x_1.fst.pl.length x_1.fst.pe) (L.getD x.fst.toNat ByteArray.empty)).ov (fdX (((), (), x_1.fst.G,
 x_1.fst.K, x_1.fst.Ho, x_1.fst.pe), (x_1.fst.r, x_1.fst.c, false, (), ()), a.toNat + (1 : Nat), RC.mk x_1.fst.l (a.toNat + (1 : Nat)) x_1.fst.ep, ((0 : Nat), (0 : Int), x_1.fst.n, x_1.fst.ov), OI.mk x_1.fst.xs mo.toNat (0 : Nat), OI.mk x_1.fst.pl
 x_1.fst.pl.length x_1.fst.pe) (L.getD x.fst.toNat ByteArray.empty)).xs (fdX (((), (), x_1.fst.G, x_1.fst.K, x_1.fst.Ho, x_1.fst.pe), (x_1.fst.r, x_1.fst.c, false, (), ()), a.toNat + (1 : Nat), RC.mk x_1.fst.l (a.toNat + (1 : Nat)) x_1.fst.ep, ((0 :
 Nat), (0 : Int), x_1.fst.n, x_1.fst.ov), OI.mk x_1.fst.xs mo.toNat (0 : Nat), OI.mk x_1.fst.pl x_1.fst.pl.length x_1.fst.pe) (L.getD x.fst.toNat ByteArray.empty)).pe (fdX (((), (), x_1.fst.G, x_1.fst.K, x_1.fst.Ho, x_1.fst.pe), (x_1.fst.r, x_1.fst.c,
 false, (), ()), a.toNat + (1 : Nat), RC.mk x_1.fst.l (a.toNat + (1 : Nat)) x_1.fst.ep, ((0 : Nat), (0 : Int), x_1.fst.n, x_1.fst.ov), OI.mk x_1.fst.xs mo.toNat (0 : Nat), OI.mk x_1.fst.pl x_1.fst.pl.length x_1.fst.pe) (L.getD x.fst.toNat
 ByteArray.empty)).pl) (Dt.mk (fdDX ((x_1.snd.R, x_1.snd.C, x_1.snd.le, x_1.snd.row, x_1.snd.col, x_1.snd.G, x_1.snd.K, x_1.snd.Ho, x_1.snd.pre, x_1.snd.out, x_1.snd.mo, x_1.snd.ov), OI.mk x_1.snd.L x_1.snd.L.length x_1.snd.le) (L.getD x.fst.toNat
 ByteArray.empty)).R (fdDX ((x_1.snd.R, x_1.snd.C, x_1.snd.le, x_1.snd.row, x_1.snd.col, x_1.snd.G, x_1.snd.K, x_1.snd.Ho, x_1.snd.pre, x_1.snd.out, x_1.snd.mo, x_1.snd.ov), OI.mk x_1.snd.L x_1.snd.L.length x_1.snd.le) (L.getD x.fst.toNat
 ByteArray.empty)).C (fdDX ((x_1.snd.R, x_1.snd.C, x_1.snd.le, x_1.snd.row, x_1.snd.col, x_1.snd.G, x_1.snd.K, x_1.snd.Ho, x_1.snd.pre, x_1.snd.out, x_1.snd.mo, x_1.snd.ov), OI.mk x_1.snd.L x_1.snd.L.length x_1.snd.le) (L.getD x.fst.toNat
 ByteArray.empty)).L (fdDX ((x_1.snd.R, x_1.snd.C, x_1.snd.le, x_1.snd.row, x_1.snd.col, x_1.snd.G, x_1.snd.K, x_1.snd.Ho, x_1.snd.pre, x_1.snd.out, x_1.snd.mo, x_1.snd.ov), OI.mk x_1.snd.L x_1.snd.L.length x_1.snd.le) (L.getD x.fst.toNat
 ByteArray.empty)).le (fdDX ((x_1.snd.R, x_1.snd.C, x_1.snd.le, x_1.snd.row, x_1.snd.col, x_1.snd.G, x_1.snd.K, x_1.snd.Ho, x_1.snd.pre, x_1.snd.out, x_1.snd.mo, x_1.snd.ov), OI.mk x_1.snd.L x_1.snd.L.length x_1.snd.le) (L.getD x.fst.toNat
 ByteArray.empty)).row (fdDX ((x_1.snd.R, x_1.snd.C, x_1.snd.le, x_1.snd.row, x_1.snd.col, x_1.snd.G, x_1.snd.K, x_1.snd.Ho, x_1.snd.pre, x_1.snd.out, x_1.snd.mo, x_1.snd.ov), OI.mk x_1.snd.L x_1.snd.L.length x_1.snd.le) (L.getD x.fst.toNat
 ByteArray.empty)).col (fdDX ((x_1.snd.R, x_1.snd.C, x_1.snd.le, x_1.snd.row, x_1.snd.col, x_1.snd.G, x_1.snd.K, x_1.snd.Ho, x_1.snd.pre, x_1.snd.out, x_1.snd.mo, x_1.snd.ov), OI.mk x_1.snd.L x_1.snd.L.length x_1.snd.le) (L.getD x.fst.toNat
 ByteArray.empty)).G (fdDX ((x_1.snd.R, x_1.snd.C, x_1.snd.le, x_1.snd.row, x_1.snd.col, x_1.snd.G, x_1.snd.K, x_1.snd.Ho, x_1.snd.pre, x_1.snd.out, x_1.snd.mo, x_1.snd.ov), OI.mk x_1.snd.L x_1.snd.L.length x_1.snd.le) (L.getD x.fst.toNat
 ByteArray.empty)).K (fdDX ((x_1.snd.R, x_1.snd.C, x_1.snd.le, x_1.snd.row, x_1.snd.col, x_1.snd.G, x_1.snd.K, x_1.snd.Ho, x_1.snd.pre, x_1.snd.out, x_1.snd.mo, x_1.snd.ov), OI.mk x_1.snd.L x_1.snd.L.length x_1.snd.le) (L.getD x.fst.toNat
 ByteArray.empty)).Ho (fdDX ((x_1.snd.R, x_1.snd.C, x_1.snd.le, x_1.snd.row, x_1.snd.col, x_1.snd.G, x_1.snd.K, x_1.snd.Ho, x_1.snd.pre, x_1.snd.out, x_1.snd.mo, x_1.snd.ov), OI.mk x_1.snd.L x_1.snd.L.length x_1.snd.le) (L.getD x.fst.toNat
 ByteArray.empty)).pre (fdDX ((x_1.snd.R, x_1.snd.C, x_1.snd.le, x_1.snd.row, x_1.snd.col, x_1.snd.G, x_1.snd.K, x_1.snd.Ho, x_1.snd.pre, x_1.snd.out, x_1.snd.mo, x_1.snd.ov), OI.mk x_1.snd.L x_1.snd.L.length x_1.snd.le) (L.getD x.fst.toNat
 ByteArray.empty)).out (fdDX ((x_1.snd.R, x_1.snd.C, x_1.snd.le, x_1.snd.row, x_1.snd.col, x_1.snd.G, x_1.snd.K, x_1.snd.Ho, x_1.snd.pre, x_1.snd.out, x_1.snd.mo, x_1.snd.ov), OI.mk x_1.snd.L x_1.snd.L.length x_1.snd.le) (L.getD x.fst.toNat
 ByteArray.empty)).mo (fdDX ((x_1.snd.R, x_1.snd.C, x_1.snd.le, x_1.snd.row, x_1.snd.col, x_1.snd.G, x_1.snd.K, x_1.snd.Ho, x_1.snd.pre, x_1.snd.out, x_1.snd.mo, x_1.snd.ov), OI.mk x_1.snd.L x_1.snd.L.length x_1.snd.le) (L.getD x.fst.toNat
 ByteArray.empty)).ov) ∧ (SV.r (0 : Nat) [] = SV.r (0 : Nat) [] ∧ vI mo = vI mo ∧ SV.p 1 0 = SV.p 1 0 ∧ vB false = vB false ∧ SV.p 14 0 = SV.p 14 0 ∧ SV.p 16 0 = SV.p 16 0 ∧ vI x.fst = vI x.fst ∧ True) ∧ IC.ss L = IC.ss L ∧ (vI a = vI a ∧ vI b = vI b
 ∧ True) ∧ (vI a = vI a ∧ vI b = vI b ∧ True) ∧ True ∧ True ∧ True ∧ (SV.h 7 [a.toNat + 1, 0] = SV.h 7 [a.toNat + 1, 0] ∧ True) ∧ (a.toNat + (1 : Nat) = a.toNat + (1 : Nat) ∧ (fdX (((), (), x_1.fst.G, x_1.fst.K, x_1.fst.Ho, x_1.fst.pe), (x_1.fst.r,
 x_1.fst.c, false, (), ()), a.toNat + (1 : Nat), RC.mk x_1.fst.l (a.toNat + (1 : Nat)) x_1.fst.ep, ((0 : Nat), (0 : Int), x_1.fst.n, x_1.fst.ov), OI.mk x_1.fst.xs mo.toNat (0 : Nat), OI.mk x_1.fst.pl x_1.fst.pl.length x_1.fst.pe) (L.getD x.fst.toNat
 ByteArray.empty)).ep = (fdX (((), (), x_1.fst.G, x_1.fst.K, x_1.fst.Ho, x_1.fst.pe), (x_1.fst.r, x_1.fst.c, false, (), ()), a.toNat + (1 : Nat), RC.mk x_1.fst.l (a.toNat + (1 : Nat)) x_1.fst.ep, ((0 : Nat), (0 : Int), x_1.fst.n, x_1.fst.ov), OI.mk
 x_1.fst.xs mo.toNat (0 : Nat), OI.mk x_1.fst.pl x_1.fst.pl.length x_1.fst.pe) (L.getD x.fst.toNat ByteArray.empty)).ep ∧ (fdX (((), (), x_1.fst.G, x_1.fst.K, x_1.fst.Ho, x_1.fst.pe), (x_1.fst.r, x_1.fst.c, false, (), ()), a.toNat + (1 : Nat), RC.mk
 x_1.fst.l (a.toNat + (1 : Nat)) x_1.fst.ep, ((0 : Nat), (0 : Int), x_1.fst.n, x_1.fst.ov), OI.mk x_1.fst.xs mo.toNat (0 : Nat), OI.mk x_1.fst.pl x_1.fst.pl.length x_1.fst.pe) (L.getD x.fst.toNat ByteArray.empty)).l = (fdX (((), (), x_1.fst.G,
 x_1.fst.K, x_1.fst.Ho, x_1.fst.pe), (x_1.fst.r, x_1.fst.c, false, (), ()), a.toNat + (1 : Nat), RC.mk x_1.fst.l (a.toNat + (1 : Nat)) x_1.fst.ep, ((0 : Nat), (0 : Int), x_1.fst.n, x_1.fst.ov), OI.mk x_1.fst.xs mo.toNat (0 : Nat), OI.mk x_1.fst.pl
 x_1.fst.pl.length x_1.fst.pe) (L.getD x.fst.toNat ByteArray.empty)).l) ∧ True ∧ True ∧ (vI (fdX (((), (), x_1.fst.G, x_1.fst.K, x_1.fst.Ho, x_1.fst.pe), (x_1.fst.r, x_1.fst.c, false, (), ()), a.toNat + (1 : Nat), RC.mk x_1.fst.l (a.toNat + (1 : Nat))
 x_1.fst.ep, ((0 : Nat), (0 : Int), x_1.fst.n, x_1.fst.ov), OI.mk x_1.fst.xs mo.toNat (0 : Nat), OI.mk x_1.fst.pl x_1.fst.pl.length x_1.fst.pe) (L.getD x.fst.toNat ByteArray.empty)).r = vI (fdX (((), (), x_1.fst.G, x_1.fst.K, x_1.fst.Ho, x_1.fst.pe),
 (x_1.fst.r, x_1.fst.c, false, (), ()), a.toNat + (1 : Nat), RC.mk x_1.fst.l (a.toNat + (1 : Nat)) x_1.fst.ep, ((0 : Nat), (0 : Int), x_1.fst.n, x_1.fst.ov), OI.mk x_1.fst.xs mo.toNat (0 : Nat), OI.mk x_1.fst.pl x_1.fst.pl.length x_1.fst.pe) (L.getD
 x.fst.toNat ByteArray.empty)).r ∧ vI (fdX (((), (), x_1.fst.G, x_1.fst.K, x_1.fst.Ho, x_1.fst.pe), (x_1.fst.r, x_1.fst.c, false, (), ()), a.toNat + (1 : Nat), RC.mk x_1.fst.l (a.toNat + (1 : Nat)) x_1.fst.ep, ((0 : Nat), (0 : Int), x_1.fst.n,
 x_1.fst.ov), OI.mk x_1.fst.xs mo.toNat (0 : Nat), OI.mk x_1.fst.pl x_1.fst.pl.length x_1.fst.pe) (L.getD x.fst.toNat ByteArray.empty)).c = vI (fdX (((), (), x_1.fst.G, x_1.fst.K, x_1.fst.Ho, x_1.fst.pe), (x_1.fst.r, x_1.fst.c, false, (), ()), a.toNat
 + (1 : Nat), RC.mk x_1.fst.l (a.toNat + (1 : Nat)) x_1.fst.ep, ((0 : Nat), (0 : Int), x_1.fst.n, x_1.fst.ov), OI.mk x_1.fst.xs mo.toNat (0 : Nat), OI.mk x_1.fst.pl x_1.fst.pl.length x_1.fst.pe) (L.getD x.fst.toNat ByteArray.empty)).c ∧ vB false = vB
 false ∧ SV.p 6 0 = SV.p 6 0 ∧ True) ∧ (mo.toNat = mo.toNat ∧ (0 : Nat) = (0 : Nat) ∧ (fdX (((), (), x_1.fst.G, x_1.fst.K, x_1.fst.Ho, x_1.fst.pe), (x_1.fst.r, x_1.fst.c, false, (), ()), a.toNat + (1 : Nat), RC.mk x_1.fst.l (a.toNat + (1 : Nat))
 x_1.fst.ep, ((0 : Nat), (0 : Int), x_1.fst.n, x_1.fst.ov), OI.mk x_1.fst.xs mo.toNat (0 : Nat), OI.mk x_1.fst.pl x_1.fst.pl.length x_1.fst.pe) (L.getD x.fst.toNat ByteArray.empty)).xs = (fdX (((), (), x_1.fst.G, x_1.fst.K, x_1.fst.Ho, x_1.fst.pe),
 (x_1.fst.r, x_1.fst.c, false, (), ()), a.toNat + (1 : Nat), RC.mk x_1.fst.l (a.toNat + (1 : Nat)) x_1.fst.ep, ((0 : Nat), (0 : Int), x_1.fst.n, x_1.fst.ov), OI.mk x_1.fst.xs mo.toNat (0 : Nat), OI.mk x_1.fst.pl x_1.fst.pl.length x_1.fst.pe) (L.getD
 x.fst.toNat ByteArray.empty)).xs) ∧ (SV.h 11 [0, 0] = SV.h 11 [0, 0] ∧ vI (0 : Int) = vI (0 : Int) ∧ vI (fdX (((), (), x_1.fst.G, x_1.fst.K, x_1.fst.Ho, x_1.fst.pe), (x_1.fst.r, x_1.fst.c, false, (), ()), a.toNat + (1 : Nat), RC.mk x_1.fst.l (a.toNat
 + (1 : Nat)) x_1.fst.ep, ((0 : Nat), (0 : Int), x_1.fst.n, x_1.fst.ov), OI.mk x_1.fst.xs mo.toNat (0 : Nat), OI.mk x_1.fst.pl x_1.fst.pl.length x_1.fst.pe) (L.getD x.fst.toNat ByteArray.empty)).n = vI (fdX (((), (), x_1.fst.G, x_1.fst.K, x_1.fst.Ho,
 x_1.fst.pe), (x_1.fst.r, x_1.fst.c, false, (), ()), a.toNat + (1 : Nat), RC.mk x_1.fst.l (a.toNat + (1 : Nat)) x_1.fst.ep, ((0 : Nat), (0 : Int), x_1.fst.n, x_1.fst.ov), OI.mk x_1.fst.xs mo.toNat (0 : Nat), OI.mk x_1.fst.pl x_1.fst.pl.length
 x_1.fst.pe) (L.getD x.fst.toNat ByteArray.empty)).n ∧ vB (fdX (((), (), x_1.fst.G, x_1.fst.K, x_1.fst.Ho, x_1.fst.pe), (x_1.fst.r, x_1.fst.c, false, (), ()), a.toNat + (1 : Nat), RC.mk x_1.fst.l (a.toNat + (1 : Nat)) x_1.fst.ep, ((0 : Nat), (0 :
 Int), x_1.fst.n, x_1.fst.ov), OI.mk x_1.fst.xs mo.toNat (0 : Nat), OI.mk x_1.fst.pl x_1.fst.pl.length x_1.fst.pe) (L.getD x.fst.toNat ByteArray.empty)).ov = vB (fdX (((), (), x_1.fst.G, x_1.fst.K, x_1.fst.Ho, x_1.fst.pe), (x_1.fst.r, x_1.fst.c,
 false, (), ()), a.toNat + (1 : Nat), RC.mk x_1.fst.l (a.toNat + (1 : Nat)) x_1.fst.ep, ((0 : Nat), (0 : Int), x_1.fst.n, x_1.fst.ov), OI.mk x_1.fst.xs mo.toNat (0 : Nat), OI.mk x_1.fst.pl x_1.fst.pl.length x_1.fst.pe) (L.getD x.fst.toNat
 ByteArray.empty)).ov ∧ True) ∧ (SV.p 10 0 = SV.p 10 0 ∧ SV.p 12 0 = SV.p 12 0 ∧ vB (fdX (((), (), x_1.fst.G, x_1.fst.K, x_1.fst.Ho, x_1.fst.pe), (x_1.fst.r, x_1.fst.c, false, (), ()), a.toNat + (1 : Nat), RC.mk x_1.fst.l (a.toNat + (1 : Nat))
 x_1.fst.ep, ((0 : Nat), (0 : Int), x_1.fst.n, x_1.fst.ov), OI.mk x_1.fst.xs mo.toNat (0 : Nat), OI.mk x_1.fst.pl x_1.fst.pl.length x_1.fst.pe) (L.getD x.fst.toNat ByteArray.empty)).G = vB (fdX (((), (), x_1.fst.G, x_1.fst.K, x_1.fst.Ho, x_1.fst.pe),
 (x_1.fst.r, x_1.fst.c, false, (), ()), a.toNat + (1 : Nat), RC.mk x_1.fst.l (a.toNat + (1 : Nat)) x_1.fst.ep, ((0 : Nat), (0 : Int), x_1.fst.n, x_1.fst.ov), OI.mk x_1.fst.xs mo.toNat (0 : Nat), OI.mk x_1.fst.pl x_1.fst.pl.length x_1.fst.pe) (L.getD
 x.fst.toNat ByteArray.empty)).G ∧ vB (fdX (((), (), x_1.fst.G, x_1.fst.K, x_1.fst.Ho, x_1.fst.pe), (x_1.fst.r, x_1.fst.c, false, (), ()), a.toNat + (1 : Nat), RC.mk x_1.fst.l (a.toNat + (1 : Nat)) x_1.fst.ep, ((0 : Nat), (0 : Int), x_1.fst.n,
 x_1.fst.ov), OI.mk x_1.fst.xs mo.toNat (0 : Nat), OI.mk x_1.fst.pl x_1.fst.pl.length x_1.fst.pe) (L.getD x.fst.toNat ByteArray.empty)).K = vB (fdX (((), (), x_1.fst.G, x_1.fst.K, x_1.fst.Ho, x_1.fst.pe), (x_1.fst.r, x_1.fst.c, false, (), ()), a.toNat
 + (1 : Nat), RC.mk x_1.fst.l (a.toNat + (1 : Nat)) x_1.fst.ep, ((0 : Nat), (0 : Int), x_1.fst.n, x_1.fst.ov), OI.mk x_1.fst.xs mo.toNat (0 : Nat), OI.mk x_1.fst.pl x_1.fst.pl.length x_1.fst.pe) (L.getD x.fst.toNat ByteArray.empty)).K ∧ vB (fdX (((),
 (), x_1.fst.G, x_1.fst.K, x_1.fst.Ho, x_1.fst.pe), (x_1.fst.r, x_1.fst.c, false, (), ()), a.toNat + (1 : Nat), RC.mk x_1.fst.l (a.toNat + (1 : Nat)) x_1.fst.ep, ((0 : Nat), (0 : Int), x_1.fst.n, x_1.fst.ov), OI.mk x_1.fst.xs mo.toNat (0 : Nat), OI.mk
 x_1.fst.pl x_1.fst.pl.length x_1.fst.pe) (L.getD x.fst.toNat ByteArray.empty)).Ho = vB (fdX (((), (), x_1.fst.G, x_1.fst.K, x_1.fst.Ho, x_1.fst.pe), (x_1.fst.r, x_1.fst.c, false, (), ()), a.toNat + (1 : Nat), RC.mk x_1.fst.l (a.toNat + (1 : Nat))
 x_1.fst.ep, ((0 : Nat), (0 : Int), x_1.fst.n, x_1.fst.ov), OI.mk x_1.fst.xs mo.toNat (0 : Nat), OI.mk x_1.fst.pl x_1.fst.pl.length x_1.fst.pe) (L.getD x.fst.toNat ByteArray.empty)).Ho ∧ SV.h 15 [(fdX (((), (), x_1.fst.G, x_1.fst.K, x_1.fst.Ho,
 x_1.fst.pe), (x_1.fst.r, x_1.fst.c, false, (), ()), a.toNat + 1, RC.mk x_1.fst.l (a.toNat + 1) x_1.fst.ep, (0, (0 : Int), x_1.fst.n, x_1.fst.ov), OI.mk x_1.fst.xs mo.toNat 0, OI.mk x_1.fst.pl x_1.fst.pl.length x_1.fst.pe) (L.getD x.fst.toNat
 ByteArray.empty)).pe, 0] = SV.h 15 [(fdX (((), (), x_1.fst.G, x_1.fst.K, x_1.fst.Ho, x_1.fst.pe), (x_1.fst.r, x_1.fst.c, false, (), ()), a.toNat + 1, RC.mk x_1.fst.l (a.toNat + 1) x_1.fst.ep, (0, (0 : Int), x_1.fst.n, x_1.fst.ov), OI.mk x_1.fst.xs
 mo.toNat 0, OI.mk x_1.fst.pl x_1.fst.pl.length x_1.fst.pe) (L.getD x.fst.toNat ByteArray.empty)).pe, 0] ∧ True) ∧ (SV.p 10 0 = SV.p 10 0 ∧ SV.p 12 0 = SV.p 12 0 ∧ SV.p 13 0 = SV.p 13 0 ∧ True) ∧ ((fdX (((), (), x_1.fst.G, x_1.fst.K, x_1.fst.Ho,
 x_1.fst.pe), (x_1.fst.r, x_1.fst.c, false, (), ()), a.toNat + (1 : Nat), RC.mk x_1.fst.l (a.toNat + (1 : Nat)) x_1.fst.ep, ((0 : Nat), (0 : Int), x_1.fst.n, x_1.fst.ov), OI.mk x_1.fst.xs mo.toNat (0 : Nat), OI.mk x_1.fst.pl x_1.fst.pl.length
 x_1.fst.pe) (L.getD x.fst.toNat ByteArray.empty)).pl.length = (fdX (((), (), x_1.fst.G, x_1.fst.K, x_1.fst.Ho, x_1.fst.pe), (x_1.fst.r, x_1.fst.c, false, (), ()), a.toNat + (1 : Nat), RC.mk x_1.fst.l (a.toNat + (1 : Nat)) x_1.fst.ep, ((0 : Nat), (0 :
 Int), x_1.fst.n, x_1.fst.ov), OI.mk x_1.fst.xs mo.toNat (0 : Nat), OI.mk x_1.fst.pl x_1.fst.pl.length x_1.fst.pe) (L.getD x.fst.toNat ByteArray.empty)).pl.length ∧ (fdX (((), (), x_1.fst.G, x_1.fst.K, x_1.fst.Ho, x_1.fst.pe), (x_1.fst.r, x_1.fst.c,
 false, (), ()), a.toNat + (1 : Nat), RC.mk x_1.fst.l (a.toNat + (1 : Nat)) x_1.fst.ep, ((0 : Nat), (0 : Int), x_1.fst.n, x_1.fst.ov), OI.mk x_1.fst.xs mo.toNat (0 : Nat), OI.mk x_1.fst.pl x_1.fst.pl.length x_1.fst.pe) (L.getD x.fst.toNat
 ByteArray.empty)).pe = (fdX (((), (), x_1.fst.G, x_1.fst.K, x_1.fst.Ho, x_1.fst.pe), (x_1.fst.r, x_1.fst.c, false, (), ()), a.toNat + (1 : Nat), RC.mk x_1.fst.l (a.toNat + (1 : Nat)) x_1.fst.ep, ((0 : Nat), (0 : Int), x_1.fst.n, x_1.fst.ov), OI.mk
 x_1.fst.xs mo.toNat (0 : Nat), OI.mk x_1.fst.pl x_1.fst.pl.length x_1.fst.pe) (L.getD x.fst.toNat ByteArray.empty)).pe ∧ (fdX (((), (), x_1.fst.G, x_1.fst.K, x_1.fst.Ho, x_1.fst.pe), (x_1.fst.r, x_1.fst.c, false, (), ()), a.toNat + (1 : Nat), RC.mk
 x_1.fst.l (a.toNat + (1 : Nat)) x_1.fst.ep, ((0 : Nat), (0 : Int), x_1.fst.n, x_1.fst.ov), OI.mk x_1.fst.xs mo.toNat (0 : Nat), OI.mk x_1.fst.pl x_1.fst.pl.length x_1.fst.pe) (L.getD x.fst.toNat ByteArray.empty)).pl = (fdX (((), (), x_1.fst.G,
 x_1.fst.K, x_1.fst.Ho, x_1.fst.pe), (x_1.fst.r, x_1.fst.c, false, (), ()), a.toNat + (1 : Nat), RC.mk x_1.fst.l (a.toNat + (1 : Nat)) x_1.fst.ep, ((0 : Nat), (0 : Int), x_1.fst.n, x_1.fst.ov), OI.mk x_1.fst.xs mo.toNat (0 : Nat), OI.mk x_1.fst.pl
 x_1.fst.pl.length x_1.fst.pe) (L.getD x.fst.toNat ByteArray.empty)).pl) ∧ (vI (fdDX ((x_1.snd.R, x_1.snd.C, x_1.snd.le, x_1.snd.row, x_1.snd.col, x_1.snd.G, x_1.snd.K, x_1.snd.Ho, x_1.snd.pre, x_1.snd.out, x_1.snd.mo, x_1.snd.ov), OI.mk x_1.snd.L
 x_1.snd.L.length x_1.snd.le) (L.getD x.fst.toNat ByteArray.empty)).R = vI (fdDX ((x_1.snd.R, x_1.snd.C, x_1.snd.le, x_1.snd.row, x_1.snd.col, x_1.snd.G, x_1.snd.K, x_1.snd.Ho, x_1.snd.pre, x_1.snd.out, x_1.snd.mo, x_1.snd.ov), OI.mk x_1.snd.L
 x_1.snd.L.length x_1.snd.le) (L.getD x.fst.toNat ByteArray.empty)).R ∧ vI (fdDX ((x_1.snd.R, x_1.snd.C, x_1.snd.le, x_1.snd.row, x_1.snd.col, x_1.snd.G, x_1.snd.K, x_1.snd.Ho, x_1.snd.pre, x_1.snd.out, x_1.snd.mo, x_1.snd.ov), OI.mk x_1.snd.L
 x_1.snd.L.length x_1.snd.le) (L.getD x.fst.toNat ByteArray.empty)).C = vI (fdDX ((x_1.snd.R, x_1.snd.C, x_1.snd.le, x_1.snd.row, x_1.snd.col, x_1.snd.G, x_1.snd.K, x_1.snd.Ho, x_1.snd.pre, x_1.snd.out, x_1.snd.mo, x_1.snd.ov), OI.mk x_1.snd.L
 x_1.snd.L.length x_1.snd.le) (L.getD x.fst.toNat ByteArray.empty)).C ∧ SV.h 17 [(fdDX ((x_1.snd.R, x_1.snd.C, x_1.snd.le, x_1.snd.row, x_1.snd.col, x_1.snd.G, x_1.snd.K, x_1.snd.Ho, x_1.snd.pre, x_1.snd.out, x_1.snd.mo, x_1.snd.ov), OI.mk x_1.snd.L
 x_1.snd.L.length x_1.snd.le) (L.getD x.fst.toNat ByteArray.empty)).le, 0] = SV.h 17 [(fdDX ((x_1.snd.R, x_1.snd.C, x_1.snd.le, x_1.snd.row, x_1.snd.col, x_1.snd.G, x_1.snd.K, x_1.snd.Ho, x_1.snd.pre, x_1.snd.out, x_1.snd.mo, x_1.snd.ov), OI.mk
 x_1.snd.L x_1.snd.L.length x_1.snd.le) (L.getD x.fst.toNat ByteArray.empty)).le, 0] ∧ vI (fdDX ((x_1.snd.R, x_1.snd.C, x_1.snd.le, x_1.snd.row, x_1.snd.col, x_1.snd.G, x_1.snd.K, x_1.snd.Ho, x_1.snd.pre, x_1.snd.out, x_1.snd.mo, x_1.snd.ov), OI.mk
 x_1.snd.L x_1.snd.L.length x_1.snd.le) (L.getD x.fst.toNat ByteArray.empty)).row = vI (fdDX ((x_1.snd.R, x_1.snd.C, x_1.snd.le, x_1.snd.row, x_1.snd.col, x_1.snd.G, x_1.snd.K, x_1.snd.Ho, x_1.snd.pre, x_1.snd.out, x_1.snd.mo, x_1.snd.ov), OI.mk
 x_1.snd.L x_1.snd.L.length x_1.snd.le) (L.getD x.fst.toNat ByteArray.empty)).row ∧ vI (fdDX ((x_1.snd.R, x_1.snd.C, x_1.snd.le, x_1.snd.row, x_1.snd.col, x_1.snd.G, x_1.snd.K, x_1.snd.Ho, x_1.snd.pre, x_1.snd.out, x_1.snd.mo, x_1.snd.ov), OI.mk
 x_1.snd.L x_1.snd.L.length x_1.snd.le) (L.getD x.fst.toNat ByteArray.empty)).col = vI (fdDX ((x_1.snd.R, x_1.snd.C, x_1.snd.le, x_1.snd.row, x_1.snd.col, x_1.snd.G, x_1.snd.K, x_1.snd.Ho, x_1.snd.pre, x_1.snd.out, x_1.snd.mo, x_1.snd.ov), OI.mk
 x_1.snd.L x_1.snd.L.length x_1.snd.le) (L.getD x.fst.toNat ByteArray.empty)).col ∧ vB (fdDX ((x_1.snd.R, x_1.snd.C, x_1.snd.le, x_1.snd.row, x_1.snd.col, x_1.snd.G, x_1.snd.K, x_1.snd.Ho, x_1.snd.pre, x_1.snd.out, x_1.snd.mo, x_1.snd.ov), OI.mk
 x_1.snd.L x_1.snd.L.length x_1.snd.le) (L.getD x.fst.toNat ByteArray.empty)).G = vB (fdDX ((x_1.snd.R, x_1.snd.C, x_1.snd.le, x_1.snd.row, x_1.snd.col, x_1.snd.G, x_1.snd.K, x_1.snd.Ho, x_1.snd.pre, x_1.snd.out, x_1.snd.mo, x_1.snd.ov), OI.mk
 x_1.snd.L x_1.snd.L.length x_1.snd.le) (L.getD x.fst.toNat ByteArray.empty)).G ∧ vB (fdDX ((x_1.snd.R, x_1.snd.C, x_1.snd.le, x_1.snd.row, x_1.snd.col, x_1.snd.G, x_1.snd.K, x_1.snd.Ho, x_1.snd.pre, x_1.snd.out, x_1.snd.mo, x_1.snd.ov), OI.mk
 x_1.snd.L x_1.snd.L.length x_1.snd.le) (L.getD x.fst.toNat ByteArray.empty)).K = vB (fdDX ((x_1.snd.R, x_1.snd.C, x_1.snd.le, x_1.snd.row, x_1.snd.col, x_1.snd.G, x_1.snd.K, x_1.snd.Ho, x_1.snd.pre, x_1.snd.out, x_1.snd.mo, x_1.snd.ov), OI.mk
 x_1.snd.L x_1.snd.L.length x_1.snd.le) (L.getD x.fst.toNat ByteArray.empty)).K ∧ vB (fdDX ((x_1.snd.R, x_1.snd.C, x_1.snd.le, x_1.snd.row, x_1.snd.col, x_1.snd.G, x_1.snd.K, x_1.snd.Ho, x_1.snd.pre, x_1.snd.out, x_1.snd.mo, x_1.snd.ov), OI.mk
 x_1.snd.L x_1.snd.L.length x_1.snd.le) (L.getD x.fst.toNat ByteArray.empty)).Ho = vB (fdDX ((x_1.snd.R, x_1.snd.C, x_1.snd.le, x_1.snd.row, x_1.snd.col, x_1.snd.G, x_1.snd.K, x_1.snd.Ho, x_1.snd.pre, x_1.snd.out, x_1.snd.mo, x_1.snd.ov), OI.mk
 x_1.snd.L x_1.snd.L.length x_1.snd.le) (L.getD x.fst.toNat ByteArray.empty)).Ho ∧ vS (fdDX ((x_1.snd.R, x_1.snd.C, x_1.snd.le, x_1.snd.row, x_1.snd.col, x_1.snd.G, x_1.snd.K, x_1.snd.Ho, x_1.snd.pre, x_1.snd.out, x_1.snd.mo, x_1.snd.ov), OI.mk
 x_1.snd.L x_1.snd.L.length x_1.snd.le) (L.getD x.fst.toNat ByteArray.empty)).pre = vS (fdDX ((x_1.snd.R, x_1.snd.C, x_1.snd.le, x_1.snd.row, x_1.snd.col, x_1.snd.G, x_1.snd.K, x_1.snd.Ho, x_1.snd.pre, x_1.snd.out, x_1.snd.mo, x_1.snd.ov), OI.mk
 x_1.snd.L x_1.snd.L.length x_1.snd.le) (L.getD x.fst.toNat ByteArray.empty)).pre ∧ vS (fdDX ((x_1.snd.R, x_1.snd.C, x_1.snd.le, x_1.snd.row, x_1.snd.col, x_1.snd.G, x_1.snd.K, x_1.snd.Ho, x_1.snd.pre, x_1.snd.out, x_1.snd.mo, x_1.snd.ov), OI.mk
 x_1.snd.L x_1.snd.L.length x_1.snd.le) (L.getD x.fst.toNat ByteArray.empty)).out = vS (fdDX ((x_1.snd.R, x_1.snd.C, x_1.snd.le, x_1.snd.row, x_1.snd.col, x_1.snd.G, x_1.snd.K, x_1.snd.Ho, x_1.snd.pre, x_1.snd.out, x_1.snd.mo, x_1.snd.ov), OI.mk
 x_1.snd.L x_1.snd.L.length x_1.snd.le) (L.getD x.fst.toNat ByteArray.empty)).out ∧ vI (fdDX ((x_1.snd.R, x_1.snd.C, x_1.snd.le, x_1.snd.row, x_1.snd.col, x_1.snd.G, x_1.snd.K, x_1.snd.Ho, x_1.snd.pre, x_1.snd.out, x_1.snd.mo, x_1.snd.ov), OI.mk
 x_1.snd.L x_1.snd.L.length x_1.snd.le) (L.getD x.fst.toNat ByteArray.empty)).mo = vI (fdDX ((x_1.snd.R, x_1.snd.C, x_1.snd.le, x_1.snd.row, x_1.snd.col, x_1.snd.G, x_1.snd.K, x_1.snd.Ho, x_1.snd.pre, x_1.snd.out, x_1.snd.mo, x_1.snd.ov), OI.mk
 x_1.snd.L x_1.snd.L.length x_1.snd.le) (L.getD x.fst.toNat ByteArray.empty)).mo ∧ vB (fdDX ((x_1.snd.R, x_1.snd.C, x_1.snd.le, x_1.snd.row, x_1.snd.col, x_1.snd.G, x_1.snd.K, x_1.snd.Ho, x_1.snd.pre, x_1.snd.out, x_1.snd.mo, x_1.snd.ov), OI.mk
 x_1.snd.L x_1.snd.L.length x_1.snd.le) (L.getD x.fst.toNat ByteArray.empty)).ov = vB (fdDX ((x_1.snd.R, x_1.snd.C, x_1.snd.le, x_1.snd.row, x_1.snd.col, x_1.snd.G, x_1.snd.K, x_1.snd.Ho, x_1.snd.pre, x_1.snd.out, x_1.snd.mo, x_1.snd.ov), OI.mk
 x_1.snd.L x_1.snd.L.length x_1.snd.le) (L.getD x.fst.toNat ByteArray.empty)).ov ∧ True) ∧ ((fdDX ((x_1.snd.R, x_1.snd.C, x_1.snd.le, x_1.snd.row, x_1.snd.col, x_1.snd.G, x_1.snd.K, x_1.snd.Ho, x_1.snd.pre, x_1.snd.out, x_1.snd.mo, x_1.snd.ov), OI.mk
 x_1.snd.L x_1.snd.L.length x_1.snd.le) (L.getD x.fst.toNat ByteArray.empty)).L.length = (fdDX ((x_1.snd.R, x_1.snd.C, x_1.snd.le, x_1.snd.row, x_1.snd.col, x_1.snd.G, x_1.snd.K, x_1.snd.Ho, x_1.snd.pre, x_1.snd.out, x_1.snd.mo, x_1.snd.ov), OI.mk
 x_1.snd.L x_1.snd.L.length x_1.snd.le) (L.getD x.fst.toNat ByteArray.empty)).L.length ∧ (fdDX ((x_1.snd.R, x_1.snd.C, x_1.snd.le, x_1.snd.row, x_1.snd.col, x_1.snd.G, x_1.snd.K, x_1.snd.Ho, x_1.snd.pre, x_1.snd.out, x_1.snd.mo, x_1.snd.ov), OI.mk
 x_1.snd.L x_1.snd.L.length x_1.snd.le) (L.getD x.fst.toNat ByteArray.empty)).le = (fdDX ((x_1.snd.R, x_1.snd.C, x_1.snd.le, x_1.snd.row, x_1.snd.col, x_1.snd.G, x_1.snd.K, x_1.snd.Ho, x_1.snd.pre, x_1.snd.out, x_1.snd.mo, x_1.snd.ov), OI.mk x_1.snd.L
 x_1.snd.L.length x_1.snd.le) (L.getD x.fst.toNat ByteArray.empty)).le ∧ (fdDX ((x_1.snd.R, x_1.snd.C, x_1.snd.le, x_1.snd.row, x_1.snd.col, x_1.snd.G, x_1.snd.K, x_1.snd.Ho, x_1.snd.pre, x_1.snd.out, x_1.snd.mo, x_1.snd.ov), OI.mk x_1.snd.L
 x_1.snd.L.length x_1.snd.le) (L.getD x.fst.toNat ByteArray.empty)).L = (fdDX ((x_1.snd.R, x_1.snd.C, x_1.snd.le, x_1.snd.row, x_1.snd.col, x_1.snd.G, x_1.snd.K, x_1.snd.Ho, x_1.snd.pre, x_1.snd.out, x_1.snd.mo, x_1.snd.ov), OI.mk x_1.snd.L
 x_1.snd.L.length x_1.snd.le) (L.getD x.fst.toNat ByteArray.empty)).L) ∧ True)) ∧ ∀ (x_2 : Tm × Dt), RelA a b mo x_2.fst x_2.snd → true = true ∧ true = true ∧ (a.toNat + (1 : Nat) = a.toNat + (1 : Nat) ∧ GW x_2.fst.l) ∧ true = true ∧ (DA ((x_2.snd.R,
 x_2.snd.C, x_2.snd.le, x_2.snd.row, x_2.snd.col, x_2.snd.G, x_2.snd.K, x_2.snd.Ho, x_2.snd.pre, x_2.snd.out, x_2.snd.mo, x_2.snd.ov), OI.mk x_2.snd.L x_2.snd.L.length x_2.snd.le) ∧ (0 : Nat) = (0 : Nat) ∧ SameR (dtS ((x_2.snd.R, x_2.snd.C,
 x_2.snd.le, x_2.snd.row, x_2.snd.col, x_2.snd.G, x_2.snd.K, x_2.snd.Ho, x_2.snd.pre, x_2.snd.out, x_2.snd.mo, x_2.snd.ov), OI.mk x_2.snd.L x_2.snd.L.length x_2.snd.le)) x_2.fst.l) ∧ br (x_2.fst.r == x_2.snd.row && (x_2.fst.c == x_2.snd.col && true))
 (true = true ∧ TA (((), (), x_2.fst.G, x_2.fst.K, x_2.fst.Ho, x_2.fst.pe), (x_2.fst.r, x_2.fst.c, false, (), ()), a.toNat + (1 : Nat), RC.mk x_2.fst.l (a.toNat + (1 : Nat)) x_2.fst.ep, ((0 : Nat), (0 : Int), x_2.fst.n, x_2.fst.ov), OI.mk x_2.fst.xs
 mo.toNat (0 : Nat), OI.mk x_2.fst.pl x_2.fst.pl.length x_2.fst.pe) ∧ br (x_2.fst.G == x_2.snd.G && (x_2.fst.K == x_2.snd.K && (x_2.fst.Ho == x_2.snd.Ho && true))) (true = true ∧ TA (((), (), x_2.fst.G, x_2.fst.K, x_2.fst.Ho, x_2.fst.pe), (x_2.fst.r,
 x_2.fst.c, false, (), ()), a.toNat + (1 : Nat), RC.mk x_2.fst.l (a.toNat + (1 : Nat)) x_2.fst.ep, ((0 : Nat), (0 : Int), x_2.fst.n, x_2.fst.ov), OI.mk x_2.fst.xs mo.toNat (0 : Nat), OI.mk x_2.fst.pl x_2.fst.pl.length x_2.fst.pe) ∧ br (!(bytesOf
 x_2.fst.pl).toList == x_2.snd.pre.toList) (vB false = vB true) (((0 : Int) ≤ IntKind.i64.wrap (x.fst + (1 : Int)) ∧ IntKind.i64.wrap (x.fst + (1 : Int)) ≤ (↑L.length : Int) ∧ RelA a b mo (Tm.mk x_2.fst.r x_2.fst.c x_2.fst.l x_2.fst.ep x_2.fst.G
 x_2.fst.K x_2.fst.Ho x_2.fst.n x_2.fst.ov x_2.fst.xs x_2.fst.pe x_2.fst.pl) (Dt.mk x_2.snd.R x_2.snd.C x_2.snd.L x_2.snd.le x_2.snd.row x_2.snd.col x_2.snd.G x_2.snd.K x_2.snd.Ho x_2.snd.pre x_2.snd.out x_2.snd.mo x_2.snd.ov)) ∧ ((SV.r (0 : Nat) [] =
 SV.r (0 : Nat) [] ∧ vI mo = vI mo ∧ SV.p 1 0 = SV.p 1 0 ∧ vB false = vB false ∧ SV.p 14 0 = SV.p 14 0 ∧ SV.p 16 0 = SV.p 16 0 ∧ vI (IntKind.i64.wrap (x.fst + (1 : Int))) = vI (IntKind.i64.wrap (x.fst + (1 : Int))) ∧ True) ∧ IC.ss L = IC.ss L ∧ (vI a
 = vI a ∧ vI b = vI b ∧ True) ∧ (vI a = vI a ∧ vI b = vI b ∧ True) ∧ True ∧ True ∧ True ∧ (SV.h 7 [a.toNat + 1, 0] = SV.h 7 [a.toNat + 1, 0] ∧ True) ∧ (a.toNat + (1 : Nat) = a.toNat + (1 : Nat) ∧ x_2.fst.ep = x_2.fst.ep ∧ x_2.fst.l = x_2.fst.l) ∧ True
 ∧ True ∧ (vI x_2.fst.r = vI x_2.fst.r ∧ vI x_2.fst.c = vI x_2.fst.c ∧ vB false = vB false ∧ SV.p 6 0 = SV.p 6 0 ∧ True) ∧ (mo.toNat = mo.toNat ∧ (0 : Nat) = (0 : Nat) ∧ x_2.fst.xs = x_2.fst.xs) ∧ (SV.h 11 [0, 0] = SV.h 11 [0, 0] ∧ vI (0 : Int) = vI
 (0 : Int) ∧ vI x_2.fst.n = vI x_2.fst.n ∧ vB x_2.fst.ov = vB x_2.fst.ov ∧ True) ∧ (SV.p 10 0 = SV.p 10 0 ∧ SV.p 12 0 = SV.p 12 0 ∧ vB x_2.fst.G = vB x_2.fst.G ∧ vB x_2.fst.K = vB x_2.fst.K ∧ vB x_2.fst.Ho = vB x_2.fst.Ho ∧ SV.h 15 [x_2.fst.pe, 0] =
 SV.h 15 [x_2.fst.pe, 0] ∧ True) ∧ (SV.p 10 0 = SV.p 10 0 ∧ SV.p 12 0 = SV.p 12 0 ∧ SV.p 13 0 = SV.p 13 0 ∧ True) ∧ (x_2.fst.pl.length = x_2.fst.pl.length ∧ x_2.fst.pe = x_2.fst.pe ∧ x_2.fst.pl = x_2.fst.pl) ∧ (vI x_2.snd.R = vI x_2.snd.R ∧ vI
 x_2.snd.C = vI x_2.snd.C ∧ SV.h 17 [x_2.snd.le, 0] = SV.h 17 [x_2.snd.le, 0] ∧ vI x_2.snd.row = vI x_2.snd.row ∧ vI x_2.snd.col = vI x_2.snd.col ∧ vB x_2.snd.G = vB x_2.snd.G ∧ vB x_2.snd.K = vB x_2.snd.K ∧ vB x_2.snd.Ho = vB x_2.snd.Ho ∧ vS
 x_2.snd.pre = vS x_2.snd.pre ∧ vS x_2.snd.out = vS x_2.snd.out ∧ vI x_2.snd.mo = vI x_2.snd.mo ∧ vB x_2.snd.ov = vB x_2.snd.ov ∧ True) ∧ (x_2.snd.L.length = x_2.snd.L.length ∧ x_2.snd.le = x_2.snd.le ∧ x_2.snd.L = x_2.snd.L) ∧ True) ∧ ((↑L.length :
 Int) - IntKind.i64.wrap (x.fst + (1 : Int))).toNat < ((↑L.length : Int) - x.fst).toNat)) (vB false = vB true)) (vB false = vB true))))))) (true = true ∧ (0 : Nat) = (0 : Nat) ∧ br (x.snd.fst.ov == x.snd.snd.ov) (true = true ∧ ((0 : Nat) = (0 : Nat) ∧
 QWf (0 : Int) x.snd.fst.n x.snd.fst.xs mo.toNat) ∧ br ((bytesOf (tk x.snd.fst.xs (0 : Int) mo.toNat x.snd.fst.n)).toList == x.snd.snd.out.toList) (true = true ∧ vB true = vB true) (vB false = vB true)) (vB false = vB true))))))) (true = true ∧ vB
 true = vB true)) (true = true ∧ vB true = vB true)) (true = true ∧ vB true = vB true))) (by
   kernel_rfl) ?_
  have hfd : ∀ (x : Tm) (u : ByteArray), fdX (((), (), x.G, x.K, x.Ho, x.pe), (x.r, x.c, false, (), ()), a.toNat + 1, RC.mk x.l (a.toNat + 1) x.ep, (0, 0, x.n, x.ov), OI.mk x.xs mo.toNat 0, OI.mk x.pl x.pl.length x.pe) u = feedT mo.toNat 0 x (bytesL u) := fun _ _ => rfl
  have hfdD : ∀ (d : Dt) (u : ByteArray), fdDX ((d.R, d.C, d.le, d.row, d.col, d.G, d.K, d.Ho, d.pre, d.out, d.mo, d.ov), OI.mk d.L d.L.length d.le) u = feedD d (bytesL u) := fun _ _ => rfl
  have hTA : ∀ x : Tm, TI 0 mo.toNat x → TA (((), (), x.G, x.K, x.Ho, x.pe), (x.r, x.c, false, (), ()), a.toNat + 1, RC.mk x.l (a.toNat + 1) x.ep, (0, 0, x.n, x.ov), OI.mk x.xs mo.toNat 0, OI.mk x.pl x.pl.length x.pe) := fun _ h => ⟨rfl, rfl, rfl, rfl, rfl, h⟩
  have hDA : ∀ d : Dt, DI d → DA ((d.R, d.C, d.le, d.row, d.col, d.G, d.K, d.Ho, d.pre, d.out, d.mo, d.ov), OI.mk d.L d.L.length d.le) := fun _ h => ⟨rfl, rfl, h⟩
  simp only [hfd, hfdD]
  simp only [br_iff, rq_iff, nbeq, II, true_and, and_true, and_self, implies_true, decide_eq_true_eq, decide_eq_false_iff_not, Bool.not_eq_true', Bool.not_eq_false']
  intro ha1 ha2 hb1 hb2 hL20 hm0 hm1
  have hm : mayB a b = true := mayB_iff.2 (by omega)
  have hN : RelA a b mo (newT a b mo) (newD a b mo) := ⟨rel_new hm (by omega) (by omega), newL_length _ _ _, newL_nC (by omega)⟩
  refine ⟨⟨hm, by omega, by omega⟩, ⟨by omega, by omega, by omega, by omega⟩, ⟨Int.le_refl 0, by omega, hN⟩, rfl, fun ⟨i, s, d⟩ ⟨hi0, hi1, hr⟩ => ?_⟩
  dsimp only at hi0 hi1 hr ⊢
  refine ⟨fun hlt => ?_, fun hge => ?_⟩
  · have hbl : i.toNat.blt L.length = true := by rw [Nat.blt_eq]; omega
    have hdx : decide (0 ≤ i ∧ i < (L.length : Int)) = true := decide_eq_true ⟨hi0, hlt⟩
    simp only [hbl, hdx, Bool.true_and, Bool.and_true]
    generalize L.getD i.toNat ByteArray.empty = t
    refine ⟨trivial, trivial, fun h100 => ⟨⟨trivial, trivial, fun _ => ⟨hTA _ hr.rel.ti, hDA _ hr.rel.di, ?_⟩, fun _ => hr⟩, fun ⟨s1, d1⟩ hr1 => ?_⟩⟩
    · have hrs : RelA a b mo (rsT s) (rsD d) := ⟨hr.rel.reset, ((wi_gw hr.rel.ti.gw _ _ _ _ blankC false).2.1).trans hr.R, ((wi_gw hr.rel.ti.gw _ _ _ _ blankC false).2.2).trans hr.C⟩
      exact hrs
    · dsimp only at hr1 ⊢
      have htp := tp_feed (bytesL t) hr1.rel.ti (bytesL_range t)
      refine ⟨trivial, trivial, ⟨hTA _ hr1.rel.ti, by omega⟩, ⟨trivial, trivial, ⟨hDA _ hr1.rel.di, by omega, fun j => ?_⟩, ?_⟩, fun ⟨s2, d2⟩ hr2 => ?_⟩
      · exact (hr1.rel.feed _ (byteR_take (bytesL_range t) j)).di
      · have hf : RelA a b mo (feedT mo.toNat 0 s1 (bytesL t)) (feedD d1 (bytesL t)) := ⟨hr1.rel.feed _ (bytesL_range t), htp.le.trans hr1.R, htp.nc.trans hr1.C⟩
        exact hf
      · dsimp only at hr2 ⊢
        rw [wrap64 (x := i + 1) (by omega) (by omega)]
        refine ⟨hr2.rel.ti.gw, ⟨hDA _ hr2.rel.di, hr2.rel.same⟩, fun _ => ⟨hTA _ hr2.rel.ti, fun _ => ⟨hTA _ hr2.rel.ti, fun h => ?_, fun _ => ⟨⟨by omega, by omega, hr2⟩, by omega⟩⟩, fun h => ?_⟩, fun h => ?_⟩
        · rw [hr2.rel.pre] at h; simp at h
        · rw [hr2.rel.G, hr2.rel.K, hr2.rel.Ho] at h; simp at h
        · rw [hr2.rel.row, hr2.rel.col] at h; simp at h
  · refine ⟨fun _ => ⟨hr.rel.ti.q, fun h => ?_⟩, fun h => ?_⟩
    · rw [hr.rel.out] at h; simp at h
    · rw [hr.rel.ov] at h; simp at h
theorem law_plays {W : World} {vs : List Value} (hG : Gw W) (hp : IPDens (wholeH W) maxLen [.agg [.i .i64, .i .i64], .one (.sl [.s]), .one (.i .i64)] vs) : Calls Tryz.prog 3 vs.toArray W fun en W' => en = .returned (.bool true) ∧ Ext W W' := by
  simp only [IPDens, IP.den, IT.dens, it_s, it_i] at hp
  obtain ⟨_, _, rfl, ⟨us, rfl, _, _, rfl, ⟨a, rfl, _⟩, _, _, rfl, ⟨b, rfl, _⟩, rfl⟩, v, _, rfl, hL, _, _, rfl, ⟨mo, rfl, _⟩, rfl⟩ := hp
  obtain ⟨L, h1, _, h2⟩ := vv_ss hL
  refine law_run (cfgP_ok a b mo L) rfl Tryz.func3 [(.ss L, v)] (by simpa using h2) ?_ (run_plays a b mo L) hG
  exact dl_cons (den_a (dl_cons den_v (dl_cons den_v dl_nil))) (dl_cons (den_r (l := [(.ss L, v)]) rfl h2.1) (dl_cons den_v dl_nil))
end Go.Proofs.YtcbjgpkbfmmdpaaGreatDoor
