/- Layer 1: contracts of the document's answer: rows that move, rows that slide, other sizes. -/
import Derived.Test.YtpdhnmnjccnbmaaGrL
set_option linter.unusedSimpArgs false
set_option linter.unusedVariables false
set_option linter.unusedSectionVars false
namespace Go.Proofs.Ytpdhnmnjccnbmaa
open Go Go.Sym

/-- The first places have moved. -/
def rwA (f g : Nat → Nat → Int) (top : Int) (r k r' c' : Nat) : Int := if top ≤ r' ∧ (r' < r ∨ (r' = r ∧ c' < k)) then g r' c' else f r' c'
section
variable {f g : Nat → Nat → Int} {top : Int} {R C r k : Nat}
theorem rwA_zero (ht : 0 ≤ top) : flF R C (rwA f g top top.toNat 0) = flF R C f := by
  refine flF_congr fun r' c' _ _ => ?_
  rw [rwA, if_neg (by omega)]
theorem rwA_step (hr : r < R) (hk : k < C) (ht : top ≤ r) : (flF R C (rwA f g top r k)).set (r * C + k) (g r k) = flF R C (rwA f g top r (k + 1)) := by
  rw [flF_set hr hk]
  refine flF_congr fun r' c' _ _ => ?_
  unfold rwA
  by_cases h : r' = r ∧ c' = k
  · obtain ⟨rfl, rfl⟩ := h
    rw [if_pos ⟨rfl, rfl⟩, if_pos (by omega)]
  · rw [if_neg h]
    by_cases h2 : top ≤ r' ∧ (r' < r ∨ (r' = r ∧ c' < k))
    · rw [if_pos h2, if_pos (by omega)]
    · rw [if_neg h2, if_neg (by omega)]
theorem rwA_next : flF R C (rwA f g top r C) = flF R C (rwA f g top (r + 1) 0) := by
  refine flF_congr fun r' c' _ hc => ?_
  unfold rwA
  by_cases h2 : top ≤ r' ∧ (r' < r ∨ (r' = r ∧ c' < C))
  · rw [if_pos h2, if_pos (by omega)]
  · rw [if_neg h2, if_neg (by omega)]
theorem rwA_all (h : ∀ r' c' : Nat, (r' : Int) < top → g r' c' = f r' c') : flF R C (rwA f g top R 0) = flF R C g := by
  refine flF_congr fun r' c' hr _ => ?_
  unfold rwA
  by_cases h2 : top ≤ r'
  · rw [if_pos (by omega)]
  · rw [if_neg (by omega), h _ _ (by omega)]
end
def cwA (f g : Nat → Nat → Int) (r c : Int) (k r' c' : Nat) : Int := if r' = r ∧ c ≤ c' ∧ c' < k then g r' c' else f r' c'
section
variable {f g : Nat → Nat → Int} {R C r k : Nat} {c : Int}
theorem cwA_zero (hc : 0 ≤ c) : flF R C (cwA f g r c c.toNat) = flF R C f := by
  refine flF_congr fun r' c' _ _ => ?_
  rw [cwA, if_neg (by omega)]
theorem cwA_step (hr : r < R) (hk : k < C) (hc : c ≤ k) : (flF R C (cwA f g r c k)).set (r * C + k) (g r k) = flF R C (cwA f g r c (k + 1)) := by
  rw [flF_set hr hk]
  refine flF_congr fun r' c' _ _ => ?_
  unfold cwA
  by_cases h : r' = r ∧ c' = k
  · obtain ⟨rfl, rfl⟩ := h
    rw [if_pos ⟨rfl, rfl⟩, if_pos (by omega)]
  · rw [if_neg h]
    by_cases h2 : (r' : Int) = r ∧ c ≤ c' ∧ c' < k
    · rw [if_pos h2, if_pos (by omega)]
    · rw [if_neg h2, if_neg (by omega)]
theorem cwA_all {to : Int} (hk : (k : Int) = to + 1) (h : ∀ r' c' : Nat, ¬ (r' = r ∧ c ≤ c' ∧ (c' : Int) ≤ to) → g r' c' = f r' c') : flF R C (cwA f g r c k) = flF R C g := by
  refine flF_congr fun r' c' _ _ => ?_
  unfold cwA
  by_cases h2 : (r' : Int) = r ∧ c ≤ c' ∧ c' < k
  · rw [if_pos h2]
  · rw [if_neg h2, h _ _ (by omega)]
end

theorem rwA_upto {f g : Nat → Nat → Int} {top bot : Int} {R C k : Nat} (hk : bot < k) (h : ∀ r' c' : Nat, ¬ (top ≤ r' ∧ (r' : Int) ≤ bot) → g r' c' = f r' c') : flF R C (rwA f g top k 0) = flF R C g := by
  refine flF_congr fun r' c' hr _ => ?_
  unfold rwA
  by_cases h2 : top ≤ r' ∧ (r' < k ∨ (r' = k ∧ c' < 0))
  · rw [if_pos h2]
  · rw [if_neg h2, h _ _ (by omega)]
theorem fw_of {R C : Int} {xs : List Int} {m : Nat} (hw : FW R C xs m) (f : Nat → Nat → Int) : FW R C (flF R.toNat C.toNat f) m :=
  ⟨hw.r0, hw.r1, hw.c0, hw.c1, by
    have := hw.r0; have := hw.c0
    rw [flF_length]
    exact Int.ofNat_inj.1 (by rw [Int.natCast_mul, Int.toNat_of_nonneg (by omega), Int.toNat_of_nonneg (by omega), hw.sz]), hw.sz⟩
theorem fw_un {R C : Int} {xs : List Int} {m : Nat} (hw : FW R C xs m) : flF R.toNat C.toNat (un C.toNat xs) = xs := flF_un (by
    have := (fw_of hw fun _ _ => 0).len
    rw [flF_length] at this
    rw [this, hw.len])
theorem ix_toNat {C r c : Int} (r0 : 0 ≤ r) (C0 : 0 ≤ C) (c0 : 0 ≤ c) : (r * C + c).toNat = r.toNat * C.toNat + c.toNat := by
  rw [Int.toNat_add (Int.mul_nonneg r0 C0) c0, Int.toNat_mul r0 C0]
theorem un_at {C r c : Int} (xs : List Int) (r0 : 0 ≤ r) (C0 : 0 ≤ C) (c0 : 0 ≤ c) : xs.getD (r * C + c).toNat 0 = un C.toNat xs r.toNat c.toNat := by
  rw [ix_toNat r0 C0 c0]; rfl
theorem rs_set {R C r c v : Int} {xs : List Int} (hi : inD R C r c = true) : rsL R C xs r c v = xs.set (r.toNat * C.toNat + c.toNat) v := by
  have h := inD_iff.1 hi
  rw [rsL, if_pos hi, ix_toNat h.1 (by omega) h.2.2.1]
def tabM : List (Nat × ACon Unit) := (31, lcRCopy) :: (36, lcRFill) :: (15, lcRNew) :: tabK
theorem tabM_ok : LCs Try.prog tabM := ⟨ok_rcopy, ok_rfill, ok_rnew, tabK_ok⟩
/-! ### Rows move -/
def rrC (R C t b : Int) : Bool := (inD R C t 0 && inD R C b 0) && !decide (b < t)
def rrE (R C t b : Int) : Int := if (inD R C t 0 && inD R C b 0) = true then (if b < t then 1 else 0) else 11
def rrL (R C : Int) (xs : List Int) (t b n x : Int) : List Int := if rrC R C t b = true then flF R.toNat C.toNat (rollF (un C.toNat xs) t b n x) else xs
def rmA (R C : Int) (xs : List Int) (t b n x : Int) (r k : Nat) : List Int := flF R.toNat C.toNat (rwA (un C.toNat xs) (rollF (un C.toNat xs) t b n x) t r k)
def annQ1 (R C : Int) (xs : List Int) (m ep : Nat) (t b n x : Int) : Ann Unit where
  α := Int
  φ _ r := t ≤ r ∧ r ≤ b + 1
  μ _ r := (b + 1 - r).toNat
  get st := getI st.tm 12
  f st r := tmpl [0, 1, 2, 3, 4, 11] [(12, .v (.int .i64 r))] [(1, .own (.ints .i64 (rmA R C xs t b n x r.toNat 0)) m 3 1 ep false)] st
def annQ2 (R C : Int) (xs : List Int) (m ep : Nat) (t b n x : Int) : Ann Unit where
  α := Int
  φ _ k := 0 ≤ k ∧ k ≤ C
  μ _ k := (C - k).toNat
  get st := getI st.tm 13
  f st k := tmpl [0, 1, 2, 3, 4, 11, 12] [(13, .v (.int .i64 k))] [(1, .own (.ints .i64 (rmA R C xs t b n x (tI st.tm 12).toNat k.toNat)) m 3 1 ep false)] st
def lcRRoll : ACon Unit := mkLC (decP (shCons (shP 0) (shCons shI (shCons shI (shCons shI (shOne shI))))) (shRefF 0)) fun ((_, t, b, n, x), ((R, C, ep), ⟨xs, m, ep2⟩)) => .ask (ep = ep2 ∧ FW R C xs m) (.one (.v (.int .i64 (rrE R C t b))) (refF 0 R C (rrL R C xs t b n x) m ep) [1])
set_option maxHeartbeats 4000000 in
theorem ok_rroll : ∀ I : Sym.Inv Unit, LCOk I Try.prog 37 lcRRoll := by
  refine lc_mk (fun ((_, t, b, n, x), ((R, C, ep), ⟨xs, m, ep2⟩)) => allCfg Try.prog [] tabM 3 [(515, annQ1 R C xs m ep t b n x), (710, annQ2 R C xs m ep t b n x)] [(1000908, annJi 14 [0, 1, 2, 3, 4, 11, 12, 13] fun st v => v = rollF (un C.toNat xs) t b n x (tI st.tm 12).toNat (tI st.tm 13).toNat)]) (fun _ _ => allCfg_ok mixed trivial tabM_ok) (fun _ => rfl) (n := 80) Try.func37 ?_
  intro ⟨⟨_, t, b, n, x⟩, ⟨R, C, ep⟩, ⟨xs, m, ep2⟩⟩ hφ
  obtain ⟨⟨rfl, hw⟩, hp⟩ := id hφ
  refine kcast (B := (true = true ∧ ep = ep ∧ br (!inD R C t (0 : Int)) ((SV.v (Value.int IntKind.i64 (11 : Int)) = SV.v (Value.int IntKind.i64 (rrE R C t b)) ∧ True) ∧ (SV.v (Value.int IntKind.i64 R) = SV.v (Value.int IntKind.i64 R) ∧ SV.v (Value.int IntKind.i64 C) = SV.v (Value.int IntKind.i64 C) ∧ SV.h (1 : Nat) [ep, (0 : Nat)] = SV.h (1 : Nat) [ep, (0 : Nat)] ∧ True) ∧ (m = m ∧ ep = ep ∧ xs = rrL R C xs t b n x) ∧ True) (true = true ∧ ep = ep ∧ br (!inD R C b (0 : Int)) ((SV.v (Value.int IntKind.i64 (11 : Int)) = SV.v (Value.int IntKind.i64 (rrE R C t b)) ∧ True) ∧ (SV.v (Value.int IntKind.i64 R) = SV.v (Value.int IntKind.i64 R) ∧ SV.v (Value.int IntKind.i64 C) = SV.v (Value.int IntKind.i64 C) ∧ SV.h (1 : Nat) [ep, (0 : Nat)] = SV.h (1 : Nat) [ep, (0 : Nat)] ∧ True) ∧ (m = m ∧ ep = ep ∧ xs = rrL R C xs t b n x) ∧ True) (br (decide (b < t)) ((SV.v (Value.int IntKind.i64 (1 : Int)) = SV.v (Value.int IntKind.i64 (rrE R C t b)) ∧ True) ∧ (SV.v (Value.int IntKind.i64 R) = SV.v (Value.int IntKind.i64 R) ∧ SV.v (Value.int IntKind.i64 C) = SV.v (Value.int IntKind.i64 C) ∧ SV.h (1 : Nat) [ep, (0 : Nat)] = SV.h (1 : Nat) [ep, (0 : Nat)] ∧ True) ∧ (m = m ∧ ep = ep ∧ xs = rrL R C xs t b n x) ∧ True) (true = true ∧ (ep = ep ∧ FW R C xs m) ∧ (t ≤ t ∧ t ≤ b + (1 : Int)) ∧ ((SV.p (0 : Nat) (0 : Nat) = SV.p (0 : Nat) (0 : Nat) ∧ SV.v (Value.int IntKind.i64 t) = SV.v (Value.int IntKind.i64 t) ∧ SV.v (Value.int IntKind.i64 b) = SV.v (Value.int IntKind.i64 b) ∧ SV.v (Value.int IntKind.i64 n) = SV.v (Value.int IntKind.i64 n) ∧ SV.v (Value.int IntKind.i64 x) = SV.v (Value.int IntKind.i64 x) ∧ SV.p (11 : Nat) (0 : Nat) = SV.p (11 : Nat) (0 : Nat) ∧ SV.v (Value.int IntKind.i64 t) = SV.v (Value.int IntKind.i64 t) ∧ True) ∧ (SV.v (Value.int IntKind.i64 R) = SV.v (Value.int IntKind.i64 R) ∧ SV.v (Value.int IntKind.i64 C) = SV.v (Value.int IntKind.i64 C) ∧ SV.h (1 : Nat) [ep, (0 : Nat)] = SV.h (1 : Nat) [ep, (0 : Nat)] ∧ True) ∧ (m = m ∧ ep = ep ∧ xs = rmA R C xs t b n x t.toNat (0 : Nat)) ∧ True ∧ True ∧ True ∧ True ∧ True ∧ True ∧ True ∧ True ∧ True ∧ (SV.v (Value.int IntKind.i64 R) = SV.v (Value.int IntKind.i64 R) ∧ SV.v (Value.int IntKind.i64 C) = SV.v (Value.int IntKind.i64 C) ∧ SV.h (13 : Nat) [(0 : Nat), (0 : Nat)] = SV.h (13 : Nat) [(0 : Nat), (0 : Nat)] ∧ True) ∧ True ∧ (m = m ∧ (0 : Nat) = (0 : Nat) ∧ xs = xs) ∧ True) ∧ ∀ (x_1 : Int), t ≤ x_1 ∧ x_1 ≤ b + (1 : Int) → br (decide (x_1 ≤ b)) ((II (0 : Int) ≤ (0 : Int) ∧ (0 : Int) ≤ C) ∧ ((SV.p (0 : Nat) (0 : Nat) = SV.p (0 : Nat) (0 : Nat) ∧ SV.v (Value.int IntKind.i64 t) = SV.v (Value.int IntKind.i64 t) ∧ SV.v (Value.int IntKind.i64 b) = SV.v (Value.int IntKind.i64 b) ∧ SV.v (Value.int IntKind.i64 n) = SV.v (Value.int IntKind.i64 n) ∧ SV.v (Value.int IntKind.i64 x) = SV.v (Value.int IntKind.i64 x) ∧ SV.p (11 : Nat) (0 : Nat) = SV.p (11 : Nat) (0 : Nat) ∧ SV.v (Value.int IntKind.i64 x_1) = SV.v (Value.int IntKind.i64 x_1) ∧ SV.v (Value.int IntKind.i64 (0 : Int)) = SV.v (Value.int IntKind.i64 (0 : Int)) ∧ True) ∧ (SV.v (Value.int IntKind.i64 R) = SV.v (Value.int IntKind.i64 R) ∧ SV.v (Value.int IntKind.i64 C) = SV.v (Value.int IntKind.i64 C) ∧ SV.h (1 : Nat) [ep, (0 : Nat)] = SV.h (1 : Nat) [ep, (0 : Nat)] ∧ True) ∧ (m = m ∧ ep = ep ∧ rmA R C xs t b n x x_1.toNat (0 : Nat) = rmA R C xs t b n x x_1.toNat (0 : Nat)) ∧ True ∧ True ∧ True ∧ True ∧ True ∧ True ∧ True ∧ True ∧ True ∧ (SV.v (Value.int IntKind.i64 R) = SV.v (Value.int IntKind.i64 R) ∧ SV.v (Value.int IntKind.i64 C) = SV.v (Value.int IntKind.i64 C) ∧ SV.h (13 : Nat) [(0 : Nat), (0 : Nat)] = SV.h (13 : Nat) [(0 : Nat), (0 : Nat)] ∧ True) ∧ True ∧ (m = m ∧ (0 : Nat) = (0 : Nat) ∧ xs = xs) ∧ True) ∧ ∀ (x_2 : Int), (0 : Int) ≤ x_2 ∧ x_2 ≤ C → br (decide (x_2 < C)) (br (decide (n ≤ IntKind.i64.wrap (b - x_1))) (br (decide (n ≥ IntKind.i64.wrap (t - x_1))) (true = true ∧ ((0 : Nat) = (0 : Nat) ∧ FW R C xs m ∧ inD R C (IntKind.i64.wrap (x_1 + n)) x_2 = true) ∧ xs.getD (IntKind.i64.wrap (x_1 + n) * C + x_2).toNat (0 : Int) = rollF (un C.toNat xs) t b n x x_1.toNat x_2.toNat ∧ (SV.p (0 : Nat) (0 : Nat) = SV.p (0 : Nat) (0 : Nat) ∧ SV.v (Value.int IntKind.i64 t) = SV.v (Value.int IntKind.i64 t) ∧ SV.v (Value.int IntKind.i64 b) = SV.v (Value.int IntKind.i64 b) ∧ SV.v (Value.int IntKind.i64 n) = SV.v (Value.int IntKind.i64 n) ∧ SV.v (Value.int IntKind.i64 x) = SV.v (Value.int IntKind.i64 x) ∧ SV.p (11 : Nat) (0 : Nat) = SV.p (11 : Nat) (0 : Nat) ∧ SV.v (Value.int IntKind.i64 x_1) = SV.v (Value.int IntKind.i64 x_1) ∧ SV.v (Value.int IntKind.i64 x_2) = SV.v (Value.int IntKind.i64 x_2) ∧ SV.v (Value.int IntKind.i64 (xs.getD (IntKind.i64.wrap (x_1 + n) * C + x_2).toNat (0 : Int))) = SV.v (Value.int IntKind.i64 (xs.getD (IntKind.i64.wrap (x_1 + n) * C + x_2).toNat (0 : Int))) ∧ True) ∧ (SV.v (Value.int IntKind.i64 R) = SV.v (Value.int IntKind.i64 R) ∧ SV.v (Value.int IntKind.i64 C) = SV.v (Value.int IntKind.i64 C) ∧ SV.h (1 : Nat) [ep, (0 : Nat)] = SV.h (1 : Nat) [ep, (0 : Nat)] ∧ True) ∧ (m = m ∧ ep = ep ∧ rmA R C xs t b n x x_1.toNat x_2.toNat = rmA R C xs t b n x x_1.toNat x_2.toNat) ∧ True ∧ True ∧ True ∧ True ∧ True ∧ True ∧ True ∧ True ∧ True ∧ (SV.v (Value.int IntKind.i64 R) = SV.v (Value.int IntKind.i64 R) ∧ SV.v (Value.int IntKind.i64 C) = SV.v (Value.int IntKind.i64 C) ∧ SV.h (13 : Nat) [(0 : Nat), (0 : Nat)] = SV.h (13 : Nat) [(0 : Nat), (0 : Nat)] ∧ True) ∧ True ∧ (m = m ∧ (0 : Nat) = (0 : Nat) ∧ xs = xs) ∧ True) (x = rollF (un C.toNat xs) t b n x x_1.toNat x_2.toNat ∧ (SV.p (0 : Nat) (0 : Nat) = SV.p (0 : Nat) (0 : Nat) ∧ SV.v (Value.int IntKind.i64 t) = SV.v (Value.int IntKind.i64 t) ∧ SV.v (Value.int IntKind.i64 b) = SV.v (Value.int IntKind.i64 b) ∧ SV.v (Value.int IntKind.i64 n) = SV.v (Value.int IntKind.i64 n) ∧ SV.v (Value.int IntKind.i64 x) = SV.v (Value.int IntKind.i64 x) ∧ SV.p (11 : Nat) (0 : Nat) = SV.p (11 : Nat) (0 : Nat) ∧ SV.v (Value.int IntKind.i64 x_1) = SV.v (Value.int IntKind.i64 x_1) ∧ SV.v (Value.int IntKind.i64 x_2) = SV.v (Value.int IntKind.i64 x_2) ∧ SV.v (Value.int IntKind.i64 x) = SV.v (Value.int IntKind.i64 x) ∧ True) ∧ (SV.v (Value.int IntKind.i64 R) = SV.v (Value.int IntKind.i64 R) ∧ SV.v (Value.int IntKind.i64 C) = SV.v (Value.int IntKind.i64 C) ∧ SV.h (1 : Nat) [ep, (0 : Nat)] = SV.h (1 : Nat) [ep, (0 : Nat)] ∧ True) ∧ (m = m ∧ ep = ep ∧ rmA R C xs t b n x x_1.toNat x_2.toNat = rmA R C xs t b n x x_1.toNat x_2.toNat) ∧ True ∧ True ∧ True ∧ True ∧ True ∧ True ∧ True ∧ True ∧ True ∧ (SV.v (Value.int IntKind.i64 R) = SV.v (Value.int IntKind.i64 R) ∧ SV.v (Value.int IntKind.i64 C) = SV.v (Value.int IntKind.i64 C) ∧ SV.h (13 : Nat) [(0 : Nat), (0 : Nat)] = SV.h (13 : Nat) [(0 : Nat), (0 : Nat)] ∧ True) ∧ True ∧ (m = m ∧ (0 : Nat) = (0 : Nat) ∧ xs = xs) ∧ True)) (x = rollF (un C.toNat xs) t b n x x_1.toNat x_2.toNat ∧ (SV.p (0 : Nat) (0 : Nat) = SV.p (0 : Nat) (0 : Nat) ∧ SV.v (Value.int IntKind.i64 t) = SV.v (Value.int IntKind.i64 t) ∧ SV.v (Value.int IntKind.i64 b) = SV.v (Value.int IntKind.i64 b) ∧ SV.v (Value.int IntKind.i64 n) = SV.v (Value.int IntKind.i64 n) ∧ SV.v (Value.int IntKind.i64 x) = SV.v (Value.int IntKind.i64 x) ∧ SV.p (11 : Nat) (0 : Nat) = SV.p (11 : Nat) (0 : Nat) ∧ SV.v (Value.int IntKind.i64 x_1) = SV.v (Value.int IntKind.i64 x_1) ∧ SV.v (Value.int IntKind.i64 x_2) = SV.v (Value.int IntKind.i64 x_2) ∧ SV.v (Value.int IntKind.i64 x) = SV.v (Value.int IntKind.i64 x) ∧ True) ∧ (SV.v (Value.int IntKind.i64 R) = SV.v (Value.int IntKind.i64 R) ∧ SV.v (Value.int IntKind.i64 C) = SV.v (Value.int IntKind.i64 C) ∧ SV.h (1 : Nat) [ep, (0 : Nat)] = SV.h (1 : Nat) [ep, (0 : Nat)] ∧ True) ∧ (m = m ∧ ep = ep ∧ rmA R C xs t b n x x_1.toNat x_2.toNat = rmA R C xs t b n x x_1.toNat x_2.toNat) ∧ True ∧ True ∧ True ∧ True ∧ True ∧ True ∧ True ∧ True ∧ True ∧ (SV.v (Value.int IntKind.i64 R) = SV.v (Value.int IntKind.i64 R) ∧ SV.v (Value.int IntKind.i64 C) = SV.v (Value.int IntKind.i64 C) ∧ SV.h (13 : Nat) [(0 : Nat), (0 : Nat)] = SV.h (13 : Nat) [(0 : Nat), (0 : Nat)] ∧ True) ∧ True ∧ (m = m ∧ (0 : Nat) = (0 : Nat) ∧ xs = xs) ∧ True) ∧ ∀ (x_3 : Int), x_3 = rollF (un C.toNat xs) t b n x x_1.toNat x_2.toNat → true = true ∧ (ep = ep ∧ FW R C (rmA R C xs t b n x x_1.toNat x_2.toNat) m) ∧ ((0 : Int) ≤ IntKind.i64.wrap (x_2 + (1 : Int)) ∧ IntKind.i64.wrap (x_2 + (1 : Int)) ≤ C) ∧ ((SV.p (0 : Nat) (0 : Nat) = SV.p (0 : Nat) (0 : Nat) ∧ SV.v (Value.int IntKind.i64 t) = SV.v (Value.int IntKind.i64 t) ∧ SV.v (Value.int IntKind.i64 b) = SV.v (Value.int IntKind.i64 b) ∧ SV.v (Value.int IntKind.i64 n) = SV.v (Value.int IntKind.i64 n) ∧ SV.v (Value.int IntKind.i64 x) = SV.v (Value.int IntKind.i64 x) ∧ SV.p (11 : Nat) (0 : Nat) = SV.p (11 : Nat) (0 : Nat) ∧ SV.v (Value.int IntKind.i64 x_1) = SV.v (Value.int IntKind.i64 x_1) ∧ SV.v (Value.int IntKind.i64 (IntKind.i64.wrap (x_2 + (1 : Int)))) = SV.v (Value.int IntKind.i64 (IntKind.i64.wrap (x_2 + (1 : Int)))) ∧ True) ∧ (SV.v (Value.int IntKind.i64 R) = SV.v (Value.int IntKind.i64 R) ∧ SV.v (Value.int IntKind.i64 C) = SV.v (Value.int IntKind.i64 C) ∧ SV.h (1 : Nat) [ep, (0 : Nat)] = SV.h (1 : Nat) [ep, (0 : Nat)] ∧ True) ∧ (m = m ∧ ep = ep ∧ rsL R C (rmA R C xs t b n x x_1.toNat x_2.toNat) x_1 x_2 x_3 = rmA R C xs t b n x x_1.toNat (IntKind.i64.wrap (x_2 + (1 : Int))).toNat) ∧ True ∧ True ∧ True ∧ True ∧ True ∧ True ∧ True ∧ True ∧ True ∧ (SV.v (Value.int IntKind.i64 R) = SV.v (Value.int IntKind.i64 R) ∧ SV.v (Value.int IntKind.i64 C) = SV.v (Value.int IntKind.i64 C) ∧ SV.h (13 : Nat) [(0 : Nat), (0 : Nat)] = SV.h (13 : Nat) [(0 : Nat), (0 : Nat)] ∧ True) ∧ True ∧ (m = m ∧ (0 : Nat) = (0 : Nat) ∧ xs = xs) ∧ True) ∧ (C - IntKind.i64.wrap (x_2 + (1 : Int))).toNat < (C - x_2).toNat) ((t ≤ IntKind.i64.wrap (x_1 + (1 : Int)) ∧ IntKind.i64.wrap (x_1 + (1 : Int)) ≤ b + (1 : Int)) ∧ ((SV.p (0 : Nat) (0 : Nat) = SV.p (0 : Nat) (0 : Nat) ∧ SV.v (Value.int IntKind.i64 t) = SV.v (Value.int IntKind.i64 t) ∧ SV.v (Value.int IntKind.i64 b) = SV.v (Value.int IntKind.i64 b) ∧ SV.v (Value.int IntKind.i64 n) = SV.v (Value.int IntKind.i64 n) ∧ SV.v (Value.int IntKind.i64 x) = SV.v (Value.int IntKind.i64 x) ∧ SV.p (11 : Nat) (0 : Nat) = SV.p (11 : Nat) (0 : Nat) ∧ SV.v (Value.int IntKind.i64 (IntKind.i64.wrap (x_1 + (1 : Int)))) = SV.v (Value.int IntKind.i64 (IntKind.i64.wrap (x_1 + (1 : Int)))) ∧ True) ∧ (SV.v (Value.int IntKind.i64 R) = SV.v (Value.int IntKind.i64 R) ∧ SV.v (Value.int IntKind.i64 C) = SV.v (Value.int IntKind.i64 C) ∧ SV.h (1 : Nat) [ep, (0 : Nat)] = SV.h (1 : Nat) [ep, (0 : Nat)] ∧ True) ∧ (m = m ∧ ep = ep ∧ rmA R C xs t b n x x_1.toNat x_2.toNat = rmA R C xs t b n x (IntKind.i64.wrap (x_1 + (1 : Int))).toNat (0 : Nat)) ∧ True ∧ True ∧ True ∧ True ∧ True ∧ True ∧ True ∧ True ∧ True ∧ (SV.v (Value.int IntKind.i64 R) = SV.v (Value.int IntKind.i64 R) ∧ SV.v (Value.int IntKind.i64 C) = SV.v (Value.int IntKind.i64 C) ∧ SV.h (13 : Nat) [(0 : Nat), (0 : Nat)] = SV.h (13 : Nat) [(0 : Nat), (0 : Nat)] ∧ True) ∧ True ∧ (m = m ∧ (0 : Nat) = (0 : Nat) ∧ xs = xs) ∧ True) ∧ (b + (1 : Int) - IntKind.i64.wrap (x_1 + (1 : Int))).toNat < (b + (1 : Int) - x_1).toNat)) ((SV.v (Value.int IntKind.i64 (0 : Int)) = SV.v (Value.int IntKind.i64 (rrE R C t b)) ∧ True) ∧ (SV.v (Value.int IntKind.i64 R) = SV.v (Value.int IntKind.i64 R) ∧ SV.v (Value.int IntKind.i64 C) = SV.v (Value.int IntKind.i64 C) ∧ SV.h (1 : Nat) [ep, (0 : Nat)] = SV.h (1 : Nat) [ep, (0 : Nat)] ∧ True) ∧ (m = m ∧ ep = ep ∧ rmA R C xs t b n x x_1.toNat (0 : Nat) = rrL R C xs t b n x) ∧ True)))))) (by kernel_rfl) ?_
  clear hp hφ
  have h1 := hw.r0
  have h2 := hw.r1
  have h3 := hw.c0
  have h4 := hw.c1
  have h5 := hw.sz
  have hlen := hw.len
  simp only [LI, II, ge_iff_le, hw, br_iff, rq_iff, nbeq, hlen, true_and, and_true, true_implies, Bool.true_and, Bool.and_true, Bool.and_eq_true, Bool.not_eq_true', Bool.not_eq_false', Nat.ble_eq, Nat.blt_eq, decide_eq_true_eq, decide_eq_false_iff_not]
  cases i1 : inD R C t 0
  · simp [rrE, rrL, rrC, i1]
  cases i2 : inD R C b 0
  · simp [rrE, rrL, rrC, i1, i2]
  have i1' := inD_iff.1 i1
  have i2' := inD_iff.1 i2
  have hE : rrE R C t b = if b < t then 1 else 0 := by rw [rrE, i1, i2]; rfl
  have hL : rrL R C xs t b n x = if b < t then xs else flF R.toNat C.toNat (rollF (un C.toNat xs) t b n x) := by
    unfold rrL rrC
    rw [i1, i2]
    by_cases h : b < t <;> simp [h]
  rw [hE, hL]
  simp only [Bool.true_eq_false, false_implies, true_implies, true_and]
  refine ⟨fun h => by rw [if_pos h, if_pos h]; exact ⟨rfl, rfl⟩, fun h => ⟨by omega, by unfold rmA; rw [rwA_zero i1'.1, fw_un hw], fun r ⟨r0, r1⟩ => ⟨fun r2 => ⟨by omega, fun k ⟨k0, k1⟩ => ⟨fun k2 => ?_, fun k2 => ?_⟩⟩, fun r2 => ?_⟩⟩⟩
  · have hin : inD R C r k = true := inD_iff.2 (by omega)
    rw [wrap64 (x := b - r) (by omega) (by omega), wrap64 (x := t - r) (by omega) (by omega), wrap64 (x := k + 1) (by omega) (by omega), show (k + 1).toNat = k.toNat + 1 by omega]
    refine ⟨⟨fun c1 => ⟨fun c2 => ?_, fun c2 => ?_⟩, fun c1 => ?_⟩, fun v hv => ⟨fw_of hw _, by omega, ?_, by omega⟩⟩
    · rw [wrap64 (x := r + n) (by omega) (by omega), un_at xs (by omega) (by omega) k0, rollF, if_pos (by omega), if_pos (by omega), show ((r.toNat : Nat) : Int) + n = r + n by omega]
      exact ⟨inD_iff.2 (by omega), rfl⟩
    · rw [rollF, if_pos (by omega), if_neg (by omega)]
    · rw [rollF, if_pos (by omega), if_neg (by omega)]
    · rw [hv, rs_set hin]
      exact rwA_step (by omega) (by omega) (by omega)
  · rw [wrap64 (x := r + 1) (by omega) (by omega), show (r + 1).toNat = r.toNat + 1 by omega, show k.toNat = C.toNat by omega]
    exact ⟨by omega, rwA_next, by omega⟩
  · rw [if_neg h, if_neg h]
    exact ⟨rfl, rwA_upto (bot := b) (by omega) fun r' c' h => by rw [rollF, if_neg h]⟩
/-! ### A row slides -/
def rlC (R C w a b : Int) : Bool := (inD R C w a && inD R C w b) && !decide (b < a)
def rlE (R C w a b : Int) : Int := if (inD R C w a && inD R C w b) = true then (if b < a then 1 else 0) else 11
def rlL (R C : Int) (xs : List Int) (w a b n x : Int) : List Int := if rlC R C w a b = true then flF R.toNat C.toNat (slideF (un C.toNat xs) w a b n x) else xs
def smA (R C : Int) (xs : List Int) (w a b n x : Int) (k : Nat) : List Int := flF R.toNat C.toNat (cwA (un C.toNat xs) (slideF (un C.toNat xs) w a b n x) w a k)
def annQ3 (R C : Int) (xs : List Int) (m ep : Nat) (w a b n x : Int) : Ann Unit where
  α := Int
  φ _ k := a ≤ k ∧ k ≤ b + 1
  μ _ k := (b + 1 - k).toNat
  get st := getI st.tm 14
  f st k := tmpl [0, 1, 2, 3, 4, 5, 13] [(14, .v (.int .i64 k))] [(1, .own (.ints .i64 (smA R C xs w a b n x k.toNat)) m 3 1 ep false)] st
def lcRSlide : ACon Unit := mkLC (decP (shCons (shP 0) (shCons shI (shCons shI (shCons shI (shCons shI (shOne shI)))))) (shRefF 0)) fun ((_, w, a, b, n, x), ((R, C, ep), ⟨xs, m, ep2⟩)) => .ask (ep = ep2 ∧ FW R C xs m) (.one (.v (.int .i64 (rlE R C w a b))) (refF 0 R C (rlL R C xs w a b n x) m ep) [1])
set_option maxHeartbeats 4000000 in
theorem ok_rslide : ∀ I : Sym.Inv Unit, LCOk I Try.prog 38 lcRSlide := by
  refine lc_mk (fun ((_, w, a, b, n, x), ((R, C, ep), ⟨xs, m, ep2⟩)) => allCfg Try.prog [] tabM 3 [(515, annQ3 R C xs m ep w a b n x)] [(1000716, annJi 15 [0, 1, 2, 3, 4, 5, 13, 14] fun st v => v = slideF (un C.toNat xs) w a b n x w.toNat (tI st.tm 14).toNat)]) (fun _ _ => allCfg_ok mixed trivial tabM_ok) (fun _ => rfl) (n := 80) Try.func38 ?_
  intro ⟨⟨_, w, a, b, n, x⟩, ⟨R, C, ep⟩, ⟨xs, m, ep2⟩⟩ hφ
  obtain ⟨⟨rfl, hw⟩, hp⟩ := id hφ
  refine kcast (B := (true = true ∧ ep = ep ∧ br (!inD R C w a) ((SV.v (Value.int IntKind.i64 (11 : Int)) = SV.v (Value.int IntKind.i64 (rlE R C w a b)) ∧ True) ∧ (SV.v (Value.int IntKind.i64 R) = SV.v (Value.int IntKind.i64 R) ∧ SV.v (Value.int IntKind.i64 C) = SV.v (Value.int IntKind.i64 C) ∧ SV.h (1 : Nat) [ep, (0 : Nat)] = SV.h (1 : Nat) [ep, (0 : Nat)] ∧ True) ∧ (m = m ∧ ep = ep ∧ xs = rlL R C xs w a b n x) ∧ True) (true = true ∧ ep = ep ∧ br (!inD R C w b) ((SV.v (Value.int IntKind.i64 (11 : Int)) = SV.v (Value.int IntKind.i64 (rlE R C w a b)) ∧ True) ∧ (SV.v (Value.int IntKind.i64 R) = SV.v (Value.int IntKind.i64 R) ∧ SV.v (Value.int IntKind.i64 C) = SV.v (Value.int IntKind.i64 C) ∧ SV.h (1 : Nat) [ep, (0 : Nat)] = SV.h (1 : Nat) [ep, (0 : Nat)] ∧ True) ∧ (m = m ∧ ep = ep ∧ xs = rlL R C xs w a b n x) ∧ True) (br (decide (b < a)) ((SV.v (Value.int IntKind.i64 (1 : Int)) = SV.v (Value.int IntKind.i64 (rlE R C w a b)) ∧ True) ∧ (SV.v (Value.int IntKind.i64 R) = SV.v (Value.int IntKind.i64 R) ∧ SV.v (Value.int IntKind.i64 C) = SV.v (Value.int IntKind.i64 C) ∧ SV.h (1 : Nat) [ep, (0 : Nat)] = SV.h (1 : Nat) [ep, (0 : Nat)] ∧ True) ∧ (m = m ∧ ep = ep ∧ xs = rlL R C xs w a b n x) ∧ True) (true = true ∧ (ep = ep ∧ FW R C xs m) ∧ (a ≤ a ∧ a ≤ b + (1 : Int)) ∧ ((SV.p (0 : Nat) (0 : Nat) = SV.p (0 : Nat) (0 : Nat) ∧ SV.v (Value.int IntKind.i64 w) = SV.v (Value.int IntKind.i64 w) ∧ SV.v (Value.int IntKind.i64 a) = SV.v (Value.int IntKind.i64 a) ∧ SV.v (Value.int IntKind.i64 b) = SV.v (Value.int IntKind.i64 b) ∧ SV.v (Value.int IntKind.i64 n) = SV.v (Value.int IntKind.i64 n) ∧ SV.v (Value.int IntKind.i64 x) = SV.v (Value.int IntKind.i64 x) ∧ SV.p (11 : Nat) (0 : Nat) = SV.p (11 : Nat) (0 : Nat) ∧ SV.v (Value.int IntKind.i64 a) = SV.v (Value.int IntKind.i64 a) ∧ True) ∧ (SV.v (Value.int IntKind.i64 R) = SV.v (Value.int IntKind.i64 R) ∧ SV.v (Value.int IntKind.i64 C) = SV.v (Value.int IntKind.i64 C) ∧ SV.h (1 : Nat) [ep, (0 : Nat)] = SV.h (1 : Nat) [ep, (0 : Nat)] ∧ True) ∧ (m = m ∧ ep = ep ∧ xs = smA R C xs w a b n x a.toNat) ∧ True ∧ True ∧ True ∧ True ∧ True ∧ True ∧ True ∧ True ∧ True ∧ (SV.v (Value.int IntKind.i64 R) = SV.v (Value.int IntKind.i64 R) ∧ SV.v (Value.int IntKind.i64 C) = SV.v (Value.int IntKind.i64 C) ∧ SV.h (13 : Nat) [(0 : Nat), (0 : Nat)] = SV.h (13 : Nat) [(0 : Nat), (0 : Nat)] ∧ True) ∧ True ∧ (m = m ∧ (0 : Nat) = (0 : Nat) ∧ xs = xs) ∧ True) ∧ ∀ (x_1 : Int), a ≤ x_1 ∧ x_1 ≤ b + (1 : Int) → br (decide (x_1 ≤ b)) (br (decide (n ≤ IntKind.i64.wrap (b - x_1))) (br (decide (n ≥ IntKind.i64.wrap (a - x_1))) (true = true ∧ ((0 : Nat) = (0 : Nat) ∧ FW R C xs m ∧ inD R C w (IntKind.i64.wrap (x_1 + n)) = true) ∧ xs.getD (w * C + IntKind.i64.wrap (x_1 + n)).toNat (0 : Int) = slideF (un C.toNat xs) w a b n x w.toNat x_1.toNat ∧ (SV.p (0 : Nat) (0 : Nat) = SV.p (0 : Nat) (0 : Nat) ∧ SV.v (Value.int IntKind.i64 w) = SV.v (Value.int IntKind.i64 w) ∧ SV.v (Value.int IntKind.i64 a) = SV.v (Value.int IntKind.i64 a) ∧ SV.v (Value.int IntKind.i64 b) = SV.v (Value.int IntKind.i64 b) ∧ SV.v (Value.int IntKind.i64 n) = SV.v (Value.int IntKind.i64 n) ∧ SV.v (Value.int IntKind.i64 x) = SV.v (Value.int IntKind.i64 x) ∧ SV.p (11 : Nat) (0 : Nat) = SV.p (11 : Nat) (0 : Nat) ∧ SV.v (Value.int IntKind.i64 x_1) = SV.v (Value.int IntKind.i64 x_1) ∧ SV.v (Value.int IntKind.i64 (xs.getD (w * C + IntKind.i64.wrap (x_1 + n)).toNat (0 : Int))) = SV.v (Value.int IntKind.i64 (xs.getD (w * C + IntKind.i64.wrap (x_1 + n)).toNat (0 : Int))) ∧ True) ∧ (SV.v (Value.int IntKind.i64 R) = SV.v (Value.int IntKind.i64 R) ∧ SV.v (Value.int IntKind.i64 C) = SV.v (Value.int IntKind.i64 C) ∧ SV.h (1 : Nat) [ep, (0 : Nat)] = SV.h (1 : Nat) [ep, (0 : Nat)] ∧ True) ∧ (m = m ∧ ep = ep ∧ smA R C xs w a b n x x_1.toNat = smA R C xs w a b n x x_1.toNat) ∧ True ∧ True ∧ True ∧ True ∧ True ∧ True ∧ True ∧ True ∧ True ∧ (SV.v (Value.int IntKind.i64 R) = SV.v (Value.int IntKind.i64 R) ∧ SV.v (Value.int IntKind.i64 C) = SV.v (Value.int IntKind.i64 C) ∧ SV.h (13 : Nat) [(0 : Nat), (0 : Nat)] = SV.h (13 : Nat) [(0 : Nat), (0 : Nat)] ∧ True) ∧ True ∧ (m = m ∧ (0 : Nat) = (0 : Nat) ∧ xs = xs) ∧ True) (x = slideF (un C.toNat xs) w a b n x w.toNat x_1.toNat ∧ (SV.p (0 : Nat) (0 : Nat) = SV.p (0 : Nat) (0 : Nat) ∧ SV.v (Value.int IntKind.i64 w) = SV.v (Value.int IntKind.i64 w) ∧ SV.v (Value.int IntKind.i64 a) = SV.v (Value.int IntKind.i64 a) ∧ SV.v (Value.int IntKind.i64 b) = SV.v (Value.int IntKind.i64 b) ∧ SV.v (Value.int IntKind.i64 n) = SV.v (Value.int IntKind.i64 n) ∧ SV.v (Value.int IntKind.i64 x) = SV.v (Value.int IntKind.i64 x) ∧ SV.p (11 : Nat) (0 : Nat) = SV.p (11 : Nat) (0 : Nat) ∧ SV.v (Value.int IntKind.i64 x_1) = SV.v (Value.int IntKind.i64 x_1) ∧ SV.v (Value.int IntKind.i64 x) = SV.v (Value.int IntKind.i64 x) ∧ True) ∧ (SV.v (Value.int IntKind.i64 R) = SV.v (Value.int IntKind.i64 R) ∧ SV.v (Value.int IntKind.i64 C) = SV.v (Value.int IntKind.i64 C) ∧ SV.h (1 : Nat) [ep, (0 : Nat)] = SV.h (1 : Nat) [ep, (0 : Nat)] ∧ True) ∧ (m = m ∧ ep = ep ∧ smA R C xs w a b n x x_1.toNat = smA R C xs w a b n x x_1.toNat) ∧ True ∧ True ∧ True ∧ True ∧ True ∧ True ∧ True ∧ True ∧ True ∧ (SV.v (Value.int IntKind.i64 R) = SV.v (Value.int IntKind.i64 R) ∧ SV.v (Value.int IntKind.i64 C) = SV.v (Value.int IntKind.i64 C) ∧ SV.h (13 : Nat) [(0 : Nat), (0 : Nat)] = SV.h (13 : Nat) [(0 : Nat), (0 : Nat)] ∧ True) ∧ True ∧ (m = m ∧ (0 : Nat) = (0 : Nat) ∧ xs = xs) ∧ True)) (x = slideF (un C.toNat xs) w a b n x w.toNat x_1.toNat ∧ (SV.p (0 : Nat) (0 : Nat) = SV.p (0 : Nat) (0 : Nat) ∧ SV.v (Value.int IntKind.i64 w) = SV.v (Value.int IntKind.i64 w) ∧ SV.v (Value.int IntKind.i64 a) = SV.v (Value.int IntKind.i64 a) ∧ SV.v (Value.int IntKind.i64 b) = SV.v (Value.int IntKind.i64 b) ∧ SV.v (Value.int IntKind.i64 n) = SV.v (Value.int IntKind.i64 n) ∧ SV.v (Value.int IntKind.i64 x) = SV.v (Value.int IntKind.i64 x) ∧ SV.p (11 : Nat) (0 : Nat) = SV.p (11 : Nat) (0 : Nat) ∧ SV.v (Value.int IntKind.i64 x_1) = SV.v (Value.int IntKind.i64 x_1) ∧ SV.v (Value.int IntKind.i64 x) = SV.v (Value.int IntKind.i64 x) ∧ True) ∧ (SV.v (Value.int IntKind.i64 R) = SV.v (Value.int IntKind.i64 R) ∧ SV.v (Value.int IntKind.i64 C) = SV.v (Value.int IntKind.i64 C) ∧ SV.h (1 : Nat) [ep, (0 : Nat)] = SV.h (1 : Nat) [ep, (0 : Nat)] ∧ True) ∧ (m = m ∧ ep = ep ∧ smA R C xs w a b n x x_1.toNat = smA R C xs w a b n x x_1.toNat) ∧ True ∧ True ∧ True ∧ True ∧ True ∧ True ∧ True ∧ True ∧ True ∧ (SV.v (Value.int IntKind.i64 R) = SV.v (Value.int IntKind.i64 R) ∧ SV.v (Value.int IntKind.i64 C) = SV.v (Value.int IntKind.i64 C) ∧ SV.h (13 : Nat) [(0 : Nat), (0 : Nat)] = SV.h (13 : Nat) [(0 : Nat), (0 : Nat)] ∧ True) ∧ True ∧ (m = m ∧ (0 : Nat) = (0 : Nat) ∧ xs = xs) ∧ True) ∧ ∀ (x_2 : Int), x_2 = slideF (un C.toNat xs) w a b n x w.toNat x_1.toNat → true = true ∧ (ep = ep ∧ FW R C (smA R C xs w a b n x x_1.toNat) m) ∧ (a ≤ IntKind.i64.wrap (x_1 + (1 : Int)) ∧ IntKind.i64.wrap (x_1 + (1 : Int)) ≤ b + (1 : Int)) ∧ ((SV.p (0 : Nat) (0 : Nat) = SV.p (0 : Nat) (0 : Nat) ∧ SV.v (Value.int IntKind.i64 w) = SV.v (Value.int IntKind.i64 w) ∧ SV.v (Value.int IntKind.i64 a) = SV.v (Value.int IntKind.i64 a) ∧ SV.v (Value.int IntKind.i64 b) = SV.v (Value.int IntKind.i64 b) ∧ SV.v (Value.int IntKind.i64 n) = SV.v (Value.int IntKind.i64 n) ∧ SV.v (Value.int IntKind.i64 x) = SV.v (Value.int IntKind.i64 x) ∧ SV.p (11 : Nat) (0 : Nat) = SV.p (11 : Nat) (0 : Nat) ∧ SV.v (Value.int IntKind.i64 (IntKind.i64.wrap (x_1 + (1 : Int)))) = SV.v (Value.int IntKind.i64 (IntKind.i64.wrap (x_1 + (1 : Int)))) ∧ True) ∧ (SV.v (Value.int IntKind.i64 R) = SV.v (Value.int IntKind.i64 R) ∧ SV.v (Value.int IntKind.i64 C) = SV.v (Value.int IntKind.i64 C) ∧ SV.h (1 : Nat) [ep, (0 : Nat)] = SV.h (1 : Nat) [ep, (0 : Nat)] ∧ True) ∧ (m = m ∧ ep = ep ∧ rsL R C (smA R C xs w a b n x x_1.toNat) w x_1 x_2 = smA R C xs w a b n x (IntKind.i64.wrap (x_1 + (1 : Int))).toNat) ∧ True ∧ True ∧ True ∧ True ∧ True ∧ True ∧ True ∧ True ∧ True ∧ (SV.v (Value.int IntKind.i64 R) = SV.v (Value.int IntKind.i64 R) ∧ SV.v (Value.int IntKind.i64 C) = SV.v (Value.int IntKind.i64 C) ∧ SV.h (13 : Nat) [(0 : Nat), (0 : Nat)] = SV.h (13 : Nat) [(0 : Nat), (0 : Nat)] ∧ True) ∧ True ∧ (m = m ∧ (0 : Nat) = (0 : Nat) ∧ xs = xs) ∧ True) ∧ (b + (1 : Int) - IntKind.i64.wrap (x_1 + (1 : Int))).toNat < (b + (1 : Int) - x_1).toNat) ((SV.v (Value.int IntKind.i64 (0 : Int)) = SV.v (Value.int IntKind.i64 (rlE R C w a b)) ∧ True) ∧ (SV.v (Value.int IntKind.i64 R) = SV.v (Value.int IntKind.i64 R) ∧ SV.v (Value.int IntKind.i64 C) = SV.v (Value.int IntKind.i64 C) ∧ SV.h (1 : Nat) [ep, (0 : Nat)] = SV.h (1 : Nat) [ep, (0 : Nat)] ∧ True) ∧ (m = m ∧ ep = ep ∧ smA R C xs w a b n x x_1.toNat = rlL R C xs w a b n x) ∧ True)))))) (by kernel_rfl) ?_
  clear hp hφ
  have h1 := hw.r0
  have h2 := hw.r1
  have h3 := hw.c0
  have h4 := hw.c1
  have h5 := hw.sz
  have hlen := hw.len
  simp only [LI, II, ge_iff_le, hw, br_iff, rq_iff, nbeq, hlen, true_and, and_true, true_implies, Bool.true_and, Bool.and_true, Bool.and_eq_true, Bool.not_eq_true', Bool.not_eq_false', Nat.ble_eq, Nat.blt_eq, decide_eq_true_eq, decide_eq_false_iff_not]
  cases i1 : inD R C w a
  · simp [rlE, rlL, rlC, i1]
  cases i2 : inD R C w b
  · simp [rlE, rlL, rlC, i1, i2]
  have i1' := inD_iff.1 i1
  have i2' := inD_iff.1 i2
  have hE : rlE R C w a b = if b < a then 1 else 0 := by rw [rlE, i1, i2]; rfl
  have hL : rlL R C xs w a b n x = if b < a then xs else flF R.toNat C.toNat (slideF (un C.toNat xs) w a b n x) := by
    unfold rlL rlC
    rw [i1, i2]
    by_cases h : b < a <;> simp [h]
  rw [hE, hL]
  obtain ⟨i, rfl⟩ : ∃ i : Nat, w = i := ⟨w.toNat, by omega⟩
  simp only [Bool.true_eq_false, false_implies, true_implies, true_and, Int.toNat_natCast]
  refine ⟨fun h => by rw [if_pos h, if_pos h]; exact ⟨rfl, rfl⟩, fun h => ⟨by omega, by unfold smA; rw [cwA_zero (by omega), fw_un hw], fun k ⟨k0, k1⟩ => ⟨fun k2 => ?_, fun k2 => ?_⟩⟩⟩
  · have hin : inD R C i k = true := inD_iff.2 (by omega)
    rw [wrap64 (x := b - k) (by omega) (by omega), wrap64 (x := a - k) (by omega) (by omega), wrap64 (x := k + 1) (by omega) (by omega), show (k + 1).toNat = k.toNat + 1 by omega]
    refine ⟨⟨fun c1 => ⟨fun c2 => ?_, fun c2 => ?_⟩, fun c1 => ?_⟩, fun v hv => ⟨fw_of hw _, by omega, ?_, by omega⟩⟩
    · rw [wrap64 (x := k + n) (by omega) (by omega), un_at xs (by omega) (by omega) (by omega), slideF, if_pos (by omega), if_pos (by omega), show ((k.toNat : Nat) : Int) + n = k + n by omega, Int.toNat_natCast]
      exact ⟨inD_iff.2 (by omega), rfl⟩
    · rw [slideF, if_pos (by omega), if_neg (by omega)]
    · rw [slideF, if_pos (by omega), if_neg (by omega)]
    · rw [hv, rs_set hin, Int.toNat_natCast]
      exact cwA_step (by omega) (by omega) (by omega)
  · rw [if_neg h, if_neg h]
    exact ⟨rfl, cwA_all (to := b) (by omega) fun r' c' h => by rw [slideF, if_neg (by omega)]⟩
/-! ### Other sizes -/
def rzF (R C : Int) (xs : List Int) (x : Int) (r c : Nat) : Int := if (r : Int) < R ∧ (c : Int) < C then un C.toNat xs r c else x
def rzA (R C : Int) (xs : List Int) (a b x : Int) (r k : Nat) : List Int := flF a.toNat b.toNat fun r' c' => if r' < r ∨ (r' = r ∧ c' < k) then rzF R C xs x r' c' else x
def annZ1 (R C : Int) (xs : List Int) (a b x : Int) : Ann Unit where
  α := Int
  φ _ r := 0 ≤ r ∧ r ≤ a ∧ r ≤ R
  μ _ r := (a - r).toNat
  get st := getI st.tm 10
  f st r := tmpl [0, 1, 2, 3, 9] [(10, .v (.int .i64 r))] [(3, .own (.ints .i64 (rzA R C xs a b x r.toNat 0)) (a * b).toNat 3 1 (a * b).toNat false)] st
def annZ2 (R C : Int) (xs : List Int) (a b x : Int) : Ann Unit where
  α := Int
  φ _ k := 0 ≤ k ∧ k ≤ b ∧ k ≤ C
  μ _ k := (b - k).toNat
  get st := getI st.tm 11
  f st k := tmpl [0, 1, 2, 3, 9, 10] [(11, .v (.int .i64 k))] [(3, .own (.ints .i64 (rzA R C xs a b x (tI st.tm 10).toNat k.toNat)) (a * b).toNat 3 1 (a * b).toNat false)] st
theorem flF_const (R C : Nat) (x : Int) : flF R C (fun _ _ => x) = List.replicate (R * C) x := by
  unfold flF
  apply List.ext_getElem <;> simp
def rzL (R C : Int) (xs : List Int) (a b x : Int) : List Int := flF a.toNat b.toNat (rzF R C xs x)
def lcRRes : ACon Unit := mkLC (decP (shCons (shP 0) (shCons shI (shCons shI (shOne shI)))) (shRefF 0)) fun ((_, a, b, x), ((R, C, ep), ⟨xs, m, ep2⟩)) => .ask (ep = ep2 ∧ FW R C xs m ∧ mayB a b = true)
  (.one (.p 2 0) (refF 0 R C xs m ep ++ [.cells [.v (.int .i64 a), .v (.int .i64 b), .h 3 [(a * b).toNat, 0]] 67, .own (.ints .i64 (rzL R C xs a b x)) (a * b).toNat 3 1 (a * b).toNat false]) [])
set_option maxHeartbeats 4000000 in
theorem ok_rres : ∀ I : Sym.Inv Unit, LCOk I Try.prog 39 lcRRes := by
  refine lc_mk (fun ((_, a, b, x), ((R, C, ep), ⟨xs, m, ep2⟩)) => allCfg Try.prog [] tabM 3 [(267, annZ1 R C xs a b x), (459, annZ2 R C xs a b x)]) (fun _ _ => allCfg_ok mixed trivial tabM_ok) (fun _ => rfl) (n := 80) Try.func39 ?_
  intro ⟨⟨_, a, b, x⟩, ⟨R, C, ep⟩, ⟨xs, m, ep2⟩⟩ hφ
  obtain ⟨⟨rfl, hw, hm⟩, hp⟩ := id hφ
  refine kcast (B := (true = true ∧ mayB a b = true ∧ (II (0 : Int) ≤ (0 : Int) ∧ (0 : Int) ≤ a ∧ (0 : Int) ≤ R) ∧ ((SV.p (0 : Nat) (0 : Nat) = SV.p (0 : Nat) (0 : Nat) ∧ SV.v (Value.int IntKind.i64 a) = SV.v (Value.int IntKind.i64 a) ∧ SV.v (Value.int IntKind.i64 b) = SV.v (Value.int IntKind.i64 b) ∧ SV.v (Value.int IntKind.i64 x) = SV.v (Value.int IntKind.i64 x) ∧ SV.p (2 : Nat) (0 : Nat) = SV.p (2 : Nat) (0 : Nat) ∧ SV.v (Value.int IntKind.i64 (0 : Int)) = SV.v (Value.int IntKind.i64 (0 : Int)) ∧ True) ∧ (SV.v (Value.int IntKind.i64 R) = SV.v (Value.int IntKind.i64 R) ∧ SV.v (Value.int IntKind.i64 C) = SV.v (Value.int IntKind.i64 C) ∧ SV.h (1 : Nat) [ep, (0 : Nat)] = SV.h (1 : Nat) [ep, (0 : Nat)] ∧ True) ∧ (m = m ∧ ep = ep ∧ xs = xs) ∧ (SV.v (Value.int IntKind.i64 a) = SV.v (Value.int IntKind.i64 a) ∧ SV.v (Value.int IntKind.i64 b) = SV.v (Value.int IntKind.i64 b) ∧ SV.h (3 : Nat) [(a * b).toNat, (0 : Nat)] = SV.h (3 : Nat) [(a * b).toNat, (0 : Nat)] ∧ True) ∧ ((a * b).toNat = (a * b).toNat ∧ (a * b).toNat = (a * b).toNat ∧ List.replicate (a * b).toNat x = rzA R C xs a b x (0 : Nat) (0 : Nat)) ∧ True) ∧ ∀ (x_1 : Int), (0 : Int) ≤ x_1 ∧ x_1 ≤ a ∧ x_1 ≤ R → br (decide (x_1 < a)) (br (decide (x_1 < R)) ((II (0 : Int) ≤ (0 : Int) ∧ (0 : Int) ≤ b ∧ (0 : Int) ≤ C) ∧ ((SV.p (0 : Nat) (0 : Nat) = SV.p (0 : Nat) (0 : Nat) ∧ SV.v (Value.int IntKind.i64 a) = SV.v (Value.int IntKind.i64 a) ∧ SV.v (Value.int IntKind.i64 b) = SV.v (Value.int IntKind.i64 b) ∧ SV.v (Value.int IntKind.i64 x) = SV.v (Value.int IntKind.i64 x) ∧ SV.p (2 : Nat) (0 : Nat) = SV.p (2 : Nat) (0 : Nat) ∧ SV.v (Value.int IntKind.i64 x_1) = SV.v (Value.int IntKind.i64 x_1) ∧ SV.v (Value.int IntKind.i64 (0 : Int)) = SV.v (Value.int IntKind.i64 (0 : Int)) ∧ True) ∧ (SV.v (Value.int IntKind.i64 R) = SV.v (Value.int IntKind.i64 R) ∧ SV.v (Value.int IntKind.i64 C) = SV.v (Value.int IntKind.i64 C) ∧ SV.h (1 : Nat) [ep, (0 : Nat)] = SV.h (1 : Nat) [ep, (0 : Nat)] ∧ True) ∧ (m = m ∧ ep = ep ∧ xs = xs) ∧ (SV.v (Value.int IntKind.i64 a) = SV.v (Value.int IntKind.i64 a) ∧ SV.v (Value.int IntKind.i64 b) = SV.v (Value.int IntKind.i64 b) ∧ SV.h (3 : Nat) [(a * b).toNat, (0 : Nat)] = SV.h (3 : Nat) [(a * b).toNat, (0 : Nat)] ∧ True) ∧ ((a * b).toNat = (a * b).toNat ∧ (a * b).toNat = (a * b).toNat ∧ rzA R C xs a b x x_1.toNat (0 : Nat) = rzA R C xs a b x x_1.toNat (0 : Nat)) ∧ True) ∧ ∀ (x_2 : Int), (0 : Int) ≤ x_2 ∧ x_2 ≤ b ∧ x_2 ≤ C → br (decide (x_2 < b)) (br (decide (x_2 < C)) (true = true ∧ (ep = ep ∧ FW R C xs m ∧ inD R C x_1 x_2 = true) ∧ true = true ∧ ((a * b).toNat = (a * b).toNat ∧ FW a b (rzA R C xs a b x x_1.toNat x_2.toNat) (a * b).toNat) ∧ ((0 : Int) ≤ IntKind.i64.wrap (x_2 + (1 : Int)) ∧ IntKind.i64.wrap (x_2 + (1 : Int)) ≤ b ∧ IntKind.i64.wrap (x_2 + (1 : Int)) ≤ C) ∧ ((SV.p (0 : Nat) (0 : Nat) = SV.p (0 : Nat) (0 : Nat) ∧ SV.v (Value.int IntKind.i64 a) = SV.v (Value.int IntKind.i64 a) ∧ SV.v (Value.int IntKind.i64 b) = SV.v (Value.int IntKind.i64 b) ∧ SV.v (Value.int IntKind.i64 x) = SV.v (Value.int IntKind.i64 x) ∧ SV.p (2 : Nat) (0 : Nat) = SV.p (2 : Nat) (0 : Nat) ∧ SV.v (Value.int IntKind.i64 x_1) = SV.v (Value.int IntKind.i64 x_1) ∧ SV.v (Value.int IntKind.i64 (IntKind.i64.wrap (x_2 + (1 : Int)))) = SV.v (Value.int IntKind.i64 (IntKind.i64.wrap (x_2 + (1 : Int)))) ∧ True) ∧ (SV.v (Value.int IntKind.i64 R) = SV.v (Value.int IntKind.i64 R) ∧ SV.v (Value.int IntKind.i64 C) = SV.v (Value.int IntKind.i64 C) ∧ SV.h (1 : Nat) [ep, (0 : Nat)] = SV.h (1 : Nat) [ep, (0 : Nat)] ∧ True) ∧ (m = m ∧ ep = ep ∧ xs = xs) ∧ (SV.v (Value.int IntKind.i64 a) = SV.v (Value.int IntKind.i64 a) ∧ SV.v (Value.int IntKind.i64 b) = SV.v (Value.int IntKind.i64 b) ∧ SV.h (3 : Nat) [(a * b).toNat, (0 : Nat)] = SV.h (3 : Nat) [(a * b).toNat, (0 : Nat)] ∧ True) ∧ ((a * b).toNat = (a * b).toNat ∧ (a * b).toNat = (a * b).toNat ∧ rsL a b (rzA R C xs a b x x_1.toNat x_2.toNat) x_1 x_2 (xs.getD (x_1 * C + x_2).toNat (0 : Int)) = rzA R C xs a b x x_1.toNat (IntKind.i64.wrap (x_2 + (1 : Int))).toNat) ∧ True) ∧ (b - IntKind.i64.wrap (x_2 + (1 : Int))).toNat < (b - x_2).toNat) (((0 : Int) ≤ IntKind.i64.wrap (x_1 + (1 : Int)) ∧ IntKind.i64.wrap (x_1 + (1 : Int)) ≤ a ∧ IntKind.i64.wrap (x_1 + (1 : Int)) ≤ R) ∧ ((SV.p (0 : Nat) (0 : Nat) = SV.p (0 : Nat) (0 : Nat) ∧ SV.v (Value.int IntKind.i64 a) = SV.v (Value.int IntKind.i64 a) ∧ SV.v (Value.int IntKind.i64 b) = SV.v (Value.int IntKind.i64 b) ∧ SV.v (Value.int IntKind.i64 x) = SV.v (Value.int IntKind.i64 x) ∧ SV.p (2 : Nat) (0 : Nat) = SV.p (2 : Nat) (0 : Nat) ∧ SV.v (Value.int IntKind.i64 (IntKind.i64.wrap (x_1 + (1 : Int)))) = SV.v (Value.int IntKind.i64 (IntKind.i64.wrap (x_1 + (1 : Int)))) ∧ True) ∧ (SV.v (Value.int IntKind.i64 R) = SV.v (Value.int IntKind.i64 R) ∧ SV.v (Value.int IntKind.i64 C) = SV.v (Value.int IntKind.i64 C) ∧ SV.h (1 : Nat) [ep, (0 : Nat)] = SV.h (1 : Nat) [ep, (0 : Nat)] ∧ True) ∧ (m = m ∧ ep = ep ∧ xs = xs) ∧ (SV.v (Value.int IntKind.i64 a) = SV.v (Value.int IntKind.i64 a) ∧ SV.v (Value.int IntKind.i64 b) = SV.v (Value.int IntKind.i64 b) ∧ SV.h (3 : Nat) [(a * b).toNat, (0 : Nat)] = SV.h (3 : Nat) [(a * b).toNat, (0 : Nat)] ∧ True) ∧ ((a * b).toNat = (a * b).toNat ∧ (a * b).toNat = (a * b).toNat ∧ rzA R C xs a b x x_1.toNat x_2.toNat = rzA R C xs a b x (IntKind.i64.wrap (x_1 + (1 : Int))).toNat (0 : Nat)) ∧ True) ∧ (a - IntKind.i64.wrap (x_1 + (1 : Int))).toNat < (a - x_1).toNat)) (((0 : Int) ≤ IntKind.i64.wrap (x_1 + (1 : Int)) ∧ IntKind.i64.wrap (x_1 + (1 : Int)) ≤ a ∧ IntKind.i64.wrap (x_1 + (1 : Int)) ≤ R) ∧ ((SV.p (0 : Nat) (0 : Nat) = SV.p (0 : Nat) (0 : Nat) ∧ SV.v (Value.int IntKind.i64 a) = SV.v (Value.int IntKind.i64 a) ∧ SV.v (Value.int IntKind.i64 b) = SV.v (Value.int IntKind.i64 b) ∧ SV.v (Value.int IntKind.i64 x) = SV.v (Value.int IntKind.i64 x) ∧ SV.p (2 : Nat) (0 : Nat) = SV.p (2 : Nat) (0 : Nat) ∧ SV.v (Value.int IntKind.i64 (IntKind.i64.wrap (x_1 + (1 : Int)))) = SV.v (Value.int IntKind.i64 (IntKind.i64.wrap (x_1 + (1 : Int)))) ∧ True) ∧ (SV.v (Value.int IntKind.i64 R) = SV.v (Value.int IntKind.i64 R) ∧ SV.v (Value.int IntKind.i64 C) = SV.v (Value.int IntKind.i64 C) ∧ SV.h (1 : Nat) [ep, (0 : Nat)] = SV.h (1 : Nat) [ep, (0 : Nat)] ∧ True) ∧ (m = m ∧ ep = ep ∧ xs = xs) ∧ (SV.v (Value.int IntKind.i64 a) = SV.v (Value.int IntKind.i64 a) ∧ SV.v (Value.int IntKind.i64 b) = SV.v (Value.int IntKind.i64 b) ∧ SV.h (3 : Nat) [(a * b).toNat, (0 : Nat)] = SV.h (3 : Nat) [(a * b).toNat, (0 : Nat)] ∧ True) ∧ ((a * b).toNat = (a * b).toNat ∧ (a * b).toNat = (a * b).toNat ∧ rzA R C xs a b x x_1.toNat x_2.toNat = rzA R C xs a b x (IntKind.i64.wrap (x_1 + (1 : Int))).toNat (0 : Nat)) ∧ True) ∧ (a - IntKind.i64.wrap (x_1 + (1 : Int))).toNat < (a - x_1).toNat)) ((SV.p (2 : Nat) (0 : Nat) = SV.p (2 : Nat) (0 : Nat) ∧ True) ∧ (SV.v (Value.int IntKind.i64 R) = SV.v (Value.int IntKind.i64 R) ∧ SV.v (Value.int IntKind.i64 C) = SV.v (Value.int IntKind.i64 C) ∧ SV.h (1 : Nat) [ep, (0 : Nat)] = SV.h (1 : Nat) [ep, (0 : Nat)] ∧ True) ∧ (m = m ∧ ep = ep ∧ xs = xs) ∧ (SV.v (Value.int IntKind.i64 a) = SV.v (Value.int IntKind.i64 a) ∧ SV.v (Value.int IntKind.i64 b) = SV.v (Value.int IntKind.i64 b) ∧ SV.h (3 : Nat) [(a * b).toNat, (0 : Nat)] = SV.h (3 : Nat) [(a * b).toNat, (0 : Nat)] ∧ True) ∧ ((a * b).toNat = (a * b).toNat ∧ (a * b).toNat = (a * b).toNat ∧ rzA R C xs a b x x_1.toNat (0 : Nat) = rzL R C xs a b x) ∧ True)) ((SV.p (2 : Nat) (0 : Nat) = SV.p (2 : Nat) (0 : Nat) ∧ True) ∧ (SV.v (Value.int IntKind.i64 R) = SV.v (Value.int IntKind.i64 R) ∧ SV.v (Value.int IntKind.i64 C) = SV.v (Value.int IntKind.i64 C) ∧ SV.h (1 : Nat) [ep, (0 : Nat)] = SV.h (1 : Nat) [ep, (0 : Nat)] ∧ True) ∧ (m = m ∧ ep = ep ∧ xs = xs) ∧ (SV.v (Value.int IntKind.i64 a) = SV.v (Value.int IntKind.i64 a) ∧ SV.v (Value.int IntKind.i64 b) = SV.v (Value.int IntKind.i64 b) ∧ SV.h (3 : Nat) [(a * b).toNat, (0 : Nat)] = SV.h (3 : Nat) [(a * b).toNat, (0 : Nat)] ∧ True) ∧ ((a * b).toNat = (a * b).toNat ∧ (a * b).toNat = (a * b).toNat ∧ rzA R C xs a b x x_1.toNat (0 : Nat) = rzL R C xs a b x) ∧ True))) (by kernel_rfl) ?_
  clear hp hφ
  have h1 := hw.r0
  have h2 := hw.r1
  have h3 := hw.c0
  have h4 := hw.c1
  have h5 := hw.sz
  have hlen := hw.len
  simp only [LI, II, ge_iff_le, hw, br_iff, rq_iff, nbeq, hlen, true_and, and_true, true_implies, Bool.true_and, Bool.and_true, Bool.and_eq_true, Bool.not_eq_true', Bool.not_eq_false', Nat.ble_eq, Nat.blt_eq, decide_eq_true_eq, decide_eq_false_iff_not]
  have hm' := mayB_iff.1 hm
  have hab : (a * b).toNat = a.toNat * b.toNat := Int.toNat_mul (by omega) (by omega)
  have hAw : ∀ r k, FW a b (rzA R C xs a b x r k) (a * b).toNat := fun r k =>
    ⟨by omega, by omega, by omega, by omega, by unfold rzA; rw [flF_length, hab], by rw [Int.toNat_of_nonneg (Int.mul_nonneg (by omega) (by omega))]⟩
  have hnx : ∀ r k : Int, 0 ≤ r → (¬ k < C ∨ ¬ k < b) → rzA R C xs a b x r.toNat k.toNat = rzA R C xs a b x (r + 1).toNat 0 := fun r k r0 hk => by
    rw [show (r + 1).toNat = r.toNat + 1 by omega]
    refine flF_congr fun r' c' hr hc => ?_
    by_cases h : r' < r.toNat ∨ (r' = r.toNat ∧ c' < k.toNat)
    · rw [if_pos h, if_pos (by omega)]
    · rw [if_neg h]
      by_cases h2 : r' < r.toNat + 1 ∨ (r' = r.toNat + 1 ∧ c' < 0)
      · rw [if_pos h2, rzF, if_neg (by omega)]
      · rw [if_neg h2]
  have hfin : ∀ r : Int, 0 ≤ r → (¬ r < a ∨ ¬ r < R) → rzA R C xs a b x r.toNat 0 = rzL R C xs a b x := fun r r0 hr2 => by
    refine flF_congr fun r' c' hr hc => ?_
    by_cases h : r' < r.toNat ∨ (r' = r.toNat ∧ c' < 0)
    · rw [if_pos h]
    · rw [if_neg h, rzF, if_neg (by omega)]
  refine ⟨hm, by omega, ?_, fun r ⟨r0, r1, r2⟩ => ⟨fun r3 => ⟨fun r4 => ⟨by omega, fun k ⟨k0, k1, k2⟩ => ⟨fun k3 => ⟨fun k4 => ?_, fun k4 => ?_⟩, fun k3 => ?_⟩⟩, fun r4 => hfin r r0 (.inr r4)⟩, fun r3 => hfin r r0 (.inl r3)⟩⟩
  · unfold rzA
    rw [hab, ← flF_const]
    refine flF_congr fun r' c' _ _ => ?_
    rw [if_neg (by omega)]
  · have hin : inD R C r k = true := inD_iff.2 (by omega)
    have hin2 : inD a b r k = true := inD_iff.2 (by omega)
    rw [wrap64 (x := k + 1) (by omega) (by omega), rs_set hin2, un_at xs r0 (by omega) k0, show (k + 1).toNat = k.toNat + 1 by omega]
    refine ⟨hin, hAw _ _, by omega, ?_, by omega⟩
    unfold rzA
    rw [flF_set (by omega) (by omega)]
    refine flF_congr fun r' c' _ _ => ?_
    by_cases h : r' = r.toNat ∧ c' = k.toNat
    · obtain ⟨rfl, rfl⟩ := h
      rw [if_pos ⟨rfl, rfl⟩, if_pos (by omega), rzF, if_pos (by omega)]
    · rw [if_neg h]
      by_cases h2 : r' < r.toNat ∨ (r' = r.toNat ∧ c' < k.toNat)
      · rw [if_pos h2, if_pos (by omega)]
      · rw [if_neg h2, if_neg (by omega)]
  · rw [wrap64 (x := r + 1) (by omega) (by omega)]
    exact ⟨by omega, hnx r k r0 (.inl k4), by omega⟩
  · rw [wrap64 (x := r + 1) (by omega) (by omega)]
    exact ⟨by omega, hnx r k r0 (.inr k3), by omega⟩
end Go.Proofs.Ytpdhnmnjccnbmaa
