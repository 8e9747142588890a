/- Layer 6: the document's answer, contracts: rows and cells that move. -/
import Derived.Test.YtdhhagangmkloaaGeC
set_option linter.unusedSimpArgs false
set_option linter.unusedVariables false
set_option linter.unusedSectionVars false
namespace Go.Proofs.Ytdhhagangmkloaa
open Go Go.Sym

def tabD6 : List (Nat × ACon Unit) := (51, lcRGuarded) :: (31, lcRField) :: tabC6
theorem tabD6_ok : LCs Try.prog tabD6 := ⟨ok_rguarded, ok_rfield, tabC6_ok⟩
/-- The first places have moved. -/
def rwA (f g : Nat → Nat → C4) (top : Int) (r k r' c' : Nat) : C4 := if top ≤ r' ∧ (r' < r ∨ (r' = r ∧ c' < k)) then g r' c' else f r' c'
section
variable {f g : Nat → Nat → C4} {top : Int} {R C r k : Nat}
theorem rwA_zero (ht : 0 ≤ top) : flF R C (rwA f g top top.toNat 0) = flF R C f := by
  refine flF_congr fun r' c' _ _ => ?_
  rw [rwA, if_neg (by omega)]
theorem rwA_step (hr : r < R) (hk : k < C) (ht : top ≤ r) : (flF R C (rwA f g top r k)).set (r * C + k) (g r k) = flF R C (rwA f g top r (k + 1)) := by
  rw [flF_set hr hk]
  refine flF_congr fun r' c' _ _ => ?_
  unfold rwA
  by_cases h : r' = r ∧ c' = k
  · obtain ⟨rfl, rfl⟩ := h
    rw [if_pos ⟨rfl, rfl⟩, if_pos (by omega)]
  · rw [if_neg h]
    by_cases h2 : top ≤ r' ∧ (r' < r ∨ (r' = r ∧ c' < k))
    · rw [if_pos h2, if_pos (by omega)]
    · rw [if_neg h2, if_neg (by omega)]
theorem rwA_next : flF R C (rwA f g top r C) = flF R C (rwA f g top (r + 1) 0) := by
  refine flF_congr fun r' c' _ hc => ?_
  unfold rwA
  by_cases h2 : top ≤ r' ∧ (r' < r ∨ (r' = r ∧ c' < C))
  · rw [if_pos h2, if_pos (by omega)]
  · rw [if_neg h2, if_neg (by omega)]
theorem rwA_all (h : ∀ r' c' : Nat, (r' : Int) < top → g r' c' = f r' c') : flF R C (rwA f g top R 0) = flF R C g := by
  refine flF_congr fun r' c' hr _ => ?_
  unfold rwA
  by_cases h2 : top ≤ r'
  · rw [if_pos (by omega)]
  · rw [if_neg (by omega), h _ _ (by omega)]
end
def rmF (R C : Int) (xs : List C4) (top n : Int) (x : C4) : Nat → Nat → C4 := rollF (un C.toNat xs) top (R - 1) n x
def rmL (R C : Int) (xs : List C4) (top n : Int) (x : C4) : List C4 := flF R.toNat C.toNat (rmF R C xs top n x)
def rmA (R C : Int) (xs : List C4) (top n : Int) (x : C4) (r k : Nat) : List C4 := flF R.toNat C.toNat (rwA (un C.toNat xs) (rmF R C xs top n x) top r k)
def annQ1 (R C : Int) (xs : List C4) (m ep : Nat) (top n : Int) (x : C4) : Ann Unit where
  α := Int
  φ _ r := top ≤ r ∧ r ≤ R
  μ _ r := (R - r).toNat
  get st := getI st.tm 9
  f st r := tmpl [0, 1, 2, 7, 8] [(9, .v (.int .i64 r))] [(1, .own (.recs (rmA R C xs top n x r.toNat 0)) m 38 4 ep false)] st
def annQ2 (R C : Int) (xs : List C4) (m ep : Nat) (top n : Int) (x : C4) : Ann Unit where
  α := Int
  φ _ k := 0 ≤ k ∧ k ≤ C
  μ _ k := (C - k).toNat
  get st := getI st.tm 10
  f st k := tmpl [0, 1, 2, 7, 8, 9] [(10, .v (.int .i64 k))] [(1, .own (.recs (rmA R C xs top n x (tI st.tm 9).toNat k.toNat)) m 38 4 ep false)] st
def lcRRows : ACon Unit := mkLC (decP (shCons (shP 0) (shCons shI (shCons shI (shOne shC)))) (shRefF 0)) fun ((_, top, n, x), ((R, C, ep), ⟨xs, m, ep2⟩)) => .ask (ep = ep2 ∧ FW R C xs m ∧ 0 ≤ top ∧ top < R) (.one (.t []) (refF 0 R C (rmL R C xs top n x) m ep) [1])
set_option maxHeartbeats 4000000 in
theorem ok_rrows : ∀ I : Sym.Inv Unit, LCOk I Try.prog 90 lcRRows := by
  refine lc_mk (fun ((_, top, n, x), ((R, C, ep), ⟨xs, m, ep2⟩)) => allCfg Try.prog [] tabD6 3 [(262, annQ1 R C xs m ep top n x), (454, annQ2 R C xs m ep top n x)]) (fun _ _ => allCfg_ok mixed trivial tabD6_ok) (fun _ => rfl) (n := 80) Try.func90 ?_
  intro ⟨⟨_, top, n, x⟩, ⟨R, C, ep⟩, ⟨xs, m, ep2⟩⟩ hφ
  obtain ⟨⟨rfl, hw, hr0, hr1⟩, hp⟩ := id hφ
  refine kcast (B := (true = true ∧ (ep = ep ∧ FW R C xs m) ∧ (top ≤ top ∧ top ≤ R) ∧ ((SV.p (0 : Nat) (0 : Nat) = SV.p (0 : Nat) (0 : Nat) ∧ SV.v (Value.int IntKind.i64 top) = SV.v (Value.int IntKind.i64 top) ∧ SV.v (Value.int IntKind.i64 n) = SV.v (Value.int IntKind.i64 n) ∧ SV.p (2 : Nat) (0 : Nat) = SV.p (2 : Nat) (0 : Nat) ∧ SV.p (12 : Nat) (0 : Nat) = SV.p (12 : Nat) (0 : Nat) ∧ SV.v (Value.int IntKind.i64 top) = SV.v (Value.int IntKind.i64 top) ∧ True) ∧ (SV.v (Value.int IntKind.i64 R) = SV.v (Value.int IntKind.i64 R) ∧ SV.v (Value.int IntKind.i64 C) = SV.v (Value.int IntKind.i64 C) ∧ SV.h (1 : Nat) [ep, (0 : Nat)] = SV.h (1 : Nat) [ep, (0 : Nat)] ∧ True) ∧ (m = m ∧ ep = ep ∧ xs = rmA R C xs top n x top.toNat (0 : Nat)) ∧ (SV.v (Value.int IntKind.i32 x.g) = SV.v (Value.int IntKind.i32 x.g) ∧ SV.v (Value.int IntKind.i64 x.a) = SV.v (Value.int IntKind.i64 x.a) ∧ SV.v (Value.bool x.gd) = SV.v (Value.bool x.gd) ∧ SV.v (Value.int IntKind.i64 x.m) = SV.v (Value.int IntKind.i64 x.m) ∧ True) ∧ True ∧ True ∧ True ∧ True ∧ True ∧ True ∧ True ∧ True ∧ True ∧ (SV.v (Value.int IntKind.i64 R) = SV.v (Value.int IntKind.i64 R) ∧ SV.v (Value.int IntKind.i64 C) = SV.v (Value.int IntKind.i64 C) ∧ SV.h (14 : Nat) [(0 : Nat), (0 : Nat)] = SV.h (14 : Nat) [(0 : Nat), (0 : Nat)] ∧ True) ∧ True ∧ (m = m ∧ (0 : Nat) = (0 : Nat) ∧ xs = xs) ∧ True) ∧ ∀ (x_1 : Int), top ≤ x_1 ∧ x_1 ≤ R → br (decide (x_1 < R)) ((II (0 : Int) ≤ (0 : Int) ∧ (0 : Int) ≤ C) ∧ ((SV.p (0 : Nat) (0 : Nat) = SV.p (0 : Nat) (0 : Nat) ∧ SV.v (Value.int IntKind.i64 top) = SV.v (Value.int IntKind.i64 top) ∧ SV.v (Value.int IntKind.i64 n) = SV.v (Value.int IntKind.i64 n) ∧ SV.p (2 : Nat) (0 : Nat) = SV.p (2 : Nat) (0 : Nat) ∧ SV.p (12 : Nat) (0 : Nat) = SV.p (12 : Nat) (0 : Nat) ∧ SV.v (Value.int IntKind.i64 x_1) = SV.v (Value.int IntKind.i64 x_1) ∧ SV.v (Value.int IntKind.i64 (0 : Int)) = SV.v (Value.int IntKind.i64 (0 : Int)) ∧ True) ∧ (SV.v (Value.int IntKind.i64 R) = SV.v (Value.int IntKind.i64 R) ∧ SV.v (Value.int IntKind.i64 C) = SV.v (Value.int IntKind.i64 C) ∧ SV.h (1 : Nat) [ep, (0 : Nat)] = SV.h (1 : Nat) [ep, (0 : Nat)] ∧ True) ∧ (m = m ∧ ep = ep ∧ rmA R C xs top n x x_1.toNat (0 : Nat) = rmA R C xs top n x x_1.toNat (0 : Nat)) ∧ (SV.v (Value.int IntKind.i32 x.g) = SV.v (Value.int IntKind.i32 x.g) ∧ SV.v (Value.int IntKind.i64 x.a) = SV.v (Value.int IntKind.i64 x.a) ∧ SV.v (Value.bool x.gd) = SV.v (Value.bool x.gd) ∧ SV.v (Value.int IntKind.i64 x.m) = SV.v (Value.int IntKind.i64 x.m) ∧ True) ∧ True ∧ True ∧ True ∧ True ∧ True ∧ True ∧ True ∧ True ∧ True ∧ (SV.v (Value.int IntKind.i64 R) = SV.v (Value.int IntKind.i64 R) ∧ SV.v (Value.int IntKind.i64 C) = SV.v (Value.int IntKind.i64 C) ∧ SV.h (14 : Nat) [(0 : Nat), (0 : Nat)] = SV.h (14 : Nat) [(0 : Nat), (0 : Nat)] ∧ True) ∧ True ∧ (m = m ∧ (0 : Nat) = (0 : Nat) ∧ xs = xs) ∧ True) ∧ ∀ (x_2 : Int), (0 : Int) ≤ x_2 ∧ x_2 ≤ C → br (decide (x_2 < C)) (br (decide (n ≤ IntKind.i64.wrap (IntKind.i64.wrap (R - (1 : Int)) - x_1))) (br (decide (n ≥ IntKind.i64.wrap (top - x_1))) (true = true ∧ ((0 : Nat) = (0 : Nat) ∧ xs.length = m ∧ (0 : Int) ≤ IntKind.i64.wrap (x_1 + n) ∧ (0 : Int) ≤ x_2 ∧ IntKind.i64.wrap (x_1 + n) ≤ (255 : Int) ∧ (0 : Int) ≤ C ∧ C ≤ (255 : Int) ∧ x_2 ≤ (255 : Int) ∧ IntKind.i64.wrap (x_1 + n) * C + x_2 < (↑m : Int)) ∧ rq (ep.beq ep && (Nat.beq (4 : Nat) (4 : Nat) && decide ((0 : Int) ≤ IntKind.i64.wrap (IntKind.i64.wrap (x_1 * C) + x_2) ∧ IntKind.i64.wrap (IntKind.i64.wrap (x_1 * C) + x_2) < (↑m : Int)))) (rq (ep.beq ep && (IntKind.i64.wrap (IntKind.i64.wrap (x_1 * C) + x_2)).toNat.blt (rmA R C xs top n x x_1.toNat x_2.toNat).length) (((0 : Int) ≤ IntKind.i64.wrap (x_2 + (1 : Int)) ∧ IntKind.i64.wrap (x_2 + (1 : Int)) ≤ C) ∧ ((SV.p (0 : Nat) (0 : Nat) = SV.p (0 : Nat) (0 : Nat) ∧ SV.v (Value.int IntKind.i64 top) = SV.v (Value.int IntKind.i64 top) ∧ SV.v (Value.int IntKind.i64 n) = SV.v (Value.int IntKind.i64 n) ∧ SV.p (2 : Nat) (0 : Nat) = SV.p (2 : Nat) (0 : Nat) ∧ SV.p (12 : Nat) (0 : Nat) = SV.p (12 : Nat) (0 : Nat) ∧ SV.v (Value.int IntKind.i64 x_1) = SV.v (Value.int IntKind.i64 x_1) ∧ SV.v (Value.int IntKind.i64 (IntKind.i64.wrap (x_2 + (1 : Int)))) = SV.v (Value.int IntKind.i64 (IntKind.i64.wrap (x_2 + (1 : Int)))) ∧ True) ∧ (SV.v (Value.int IntKind.i64 R) = SV.v (Value.int IntKind.i64 R) ∧ SV.v (Value.int IntKind.i64 C) = SV.v (Value.int IntKind.i64 C) ∧ SV.h (1 : Nat) [ep, (0 : Nat)] = SV.h (1 : Nat) [ep, (0 : Nat)] ∧ True) ∧ (m = m ∧ ep = ep ∧ (rmA R C xs top n x x_1.toNat x_2.toNat).set (IntKind.i64.wrap (IntKind.i64.wrap (x_1 * C) + x_2)).toNat (C4.mk (xs.getD (IntKind.i64.wrap (x_1 + n) * C + x_2).toNat C4.no).g (xs.getD (IntKind.i64.wrap (x_1 + n) * C + x_2).toNat C4.no).a (xs.getD (IntKind.i64.wrap (x_1 + n) * C + x_2).toNat C4.no).gd (xs.getD (IntKind.i64.wrap (x_1 + n) * C + x_2).toNat C4.no).m) = rmA R C xs top n x x_1.toNat (IntKind.i64.wrap (x_2 + (1 : Int))).toNat) ∧ (SV.v (Value.int IntKind.i32 x.g) = SV.v (Value.int IntKind.i32 x.g) ∧ SV.v (Value.int IntKind.i64 x.a) = SV.v (Value.int IntKind.i64 x.a) ∧ SV.v (Value.bool x.gd) = SV.v (Value.bool x.gd) ∧ SV.v (Value.int IntKind.i64 x.m) = SV.v (Value.int IntKind.i64 x.m) ∧ True) ∧ True ∧ True ∧ True ∧ True ∧ True ∧ True ∧ True ∧ True ∧ True ∧ (SV.v (Value.int IntKind.i64 R) = SV.v (Value.int IntKind.i64 R) ∧ SV.v (Value.int IntKind.i64 C) = SV.v (Value.int IntKind.i64 C) ∧ SV.h (14 : Nat) [(0 : Nat), (0 : Nat)] = SV.h (14 : Nat) [(0 : Nat), (0 : Nat)] ∧ True) ∧ True ∧ (m = m ∧ (0 : Nat) = (0 : Nat) ∧ xs = xs) ∧ True) ∧ (C - IntKind.i64.wrap (x_2 + (1 : Int))).toNat < (C - x_2).toNat))) (rq (ep.beq ep && (Nat.beq (4 : Nat) (4 : Nat) && decide ((0 : Int) ≤ IntKind.i64.wrap (IntKind.i64.wrap (x_1 * C) + x_2) ∧ IntKind.i64.wrap (IntKind.i64.wrap (x_1 * C) + x_2) < (↑m : Int)))) (rq (ep.beq ep && (IntKind.i64.wrap (IntKind.i64.wrap (x_1 * C) + x_2)).toNat.blt (rmA R C xs top n x x_1.toNat x_2.toNat).length) (((0 : Int) ≤ IntKind.i64.wrap (x_2 + (1 : Int)) ∧ IntKind.i64.wrap (x_2 + (1 : Int)) ≤ C) ∧ ((SV.p (0 : Nat) (0 : Nat) = SV.p (0 : Nat) (0 : Nat) ∧ SV.v (Value.int IntKind.i64 top) = SV.v (Value.int IntKind.i64 top) ∧ SV.v (Value.int IntKind.i64 n) = SV.v (Value.int IntKind.i64 n) ∧ SV.p (2 : Nat) (0 : Nat) = SV.p (2 : Nat) (0 : Nat) ∧ SV.p (12 : Nat) (0 : Nat) = SV.p (12 : Nat) (0 : Nat) ∧ SV.v (Value.int IntKind.i64 x_1) = SV.v (Value.int IntKind.i64 x_1) ∧ SV.v (Value.int IntKind.i64 (IntKind.i64.wrap (x_2 + (1 : Int)))) = SV.v (Value.int IntKind.i64 (IntKind.i64.wrap (x_2 + (1 : Int)))) ∧ True) ∧ (SV.v (Value.int IntKind.i64 R) = SV.v (Value.int IntKind.i64 R) ∧ SV.v (Value.int IntKind.i64 C) = SV.v (Value.int IntKind.i64 C) ∧ SV.h (1 : Nat) [ep, (0 : Nat)] = SV.h (1 : Nat) [ep, (0 : Nat)] ∧ True) ∧ (m = m ∧ ep = ep ∧ (rmA R C xs top n x x_1.toNat x_2.toNat).set (IntKind.i64.wrap (IntKind.i64.wrap (x_1 * C) + x_2)).toNat (C4.mk x.g x.a x.gd x.m) = rmA R C xs top n x x_1.toNat (IntKind.i64.wrap (x_2 + (1 : Int))).toNat) ∧ (SV.v (Value.int IntKind.i32 x.g) = SV.v (Value.int IntKind.i32 x.g) ∧ SV.v (Value.int IntKind.i64 x.a) = SV.v (Value.int IntKind.i64 x.a) ∧ SV.v (Value.bool x.gd) = SV.v (Value.bool x.gd) ∧ SV.v (Value.int IntKind.i64 x.m) = SV.v (Value.int IntKind.i64 x.m) ∧ True) ∧ True ∧ True ∧ True ∧ True ∧ True ∧ True ∧ True ∧ True ∧ True ∧ (SV.v (Value.int IntKind.i64 R) = SV.v (Value.int IntKind.i64 R) ∧ SV.v (Value.int IntKind.i64 C) = SV.v (Value.int IntKind.i64 C) ∧ SV.h (14 : Nat) [(0 : Nat), (0 : Nat)] = SV.h (14 : Nat) [(0 : Nat), (0 : Nat)] ∧ True) ∧ True ∧ (m = m ∧ (0 : Nat) = (0 : Nat) ∧ xs = xs) ∧ True) ∧ (C - IntKind.i64.wrap (x_2 + (1 : Int))).toNat < (C - x_2).toNat)))) (rq (ep.beq ep && (Nat.beq (4 : Nat) (4 : Nat) && decide ((0 : Int) ≤ IntKind.i64.wrap (IntKind.i64.wrap (x_1 * C) + x_2) ∧ IntKind.i64.wrap (IntKind.i64.wrap (x_1 * C) + x_2) < (↑m : Int)))) (rq (ep.beq ep && (IntKind.i64.wrap (IntKind.i64.wrap (x_1 * C) + x_2)).toNat.blt (rmA R C xs top n x x_1.toNat x_2.toNat).length) (((0 : Int) ≤ IntKind.i64.wrap (x_2 + (1 : Int)) ∧ IntKind.i64.wrap (x_2 + (1 : Int)) ≤ C) ∧ ((SV.p (0 : Nat) (0 : Nat) = SV.p (0 : Nat) (0 : Nat) ∧ SV.v (Value.int IntKind.i64 top) = SV.v (Value.int IntKind.i64 top) ∧ SV.v (Value.int IntKind.i64 n) = SV.v (Value.int IntKind.i64 n) ∧ SV.p (2 : Nat) (0 : Nat) = SV.p (2 : Nat) (0 : Nat) ∧ SV.p (12 : Nat) (0 : Nat) = SV.p (12 : Nat) (0 : Nat) ∧ SV.v (Value.int IntKind.i64 x_1) = SV.v (Value.int IntKind.i64 x_1) ∧ SV.v (Value.int IntKind.i64 (IntKind.i64.wrap (x_2 + (1 : Int)))) = SV.v (Value.int IntKind.i64 (IntKind.i64.wrap (x_2 + (1 : Int)))) ∧ True) ∧ (SV.v (Value.int IntKind.i64 R) = SV.v (Value.int IntKind.i64 R) ∧ SV.v (Value.int IntKind.i64 C) = SV.v (Value.int IntKind.i64 C) ∧ SV.h (1 : Nat) [ep, (0 : Nat)] = SV.h (1 : Nat) [ep, (0 : Nat)] ∧ True) ∧ (m = m ∧ ep = ep ∧ (rmA R C xs top n x x_1.toNat x_2.toNat).set (IntKind.i64.wrap (IntKind.i64.wrap (x_1 * C) + x_2)).toNat (C4.mk x.g x.a x.gd x.m) = rmA R C xs top n x x_1.toNat (IntKind.i64.wrap (x_2 + (1 : Int))).toNat) ∧ (SV.v (Value.int IntKind.i32 x.g) = SV.v (Value.int IntKind.i32 x.g) ∧ SV.v (Value.int IntKind.i64 x.a) = SV.v (Value.int IntKind.i64 x.a) ∧ SV.v (Value.bool x.gd) = SV.v (Value.bool x.gd) ∧ SV.v (Value.int IntKind.i64 x.m) = SV.v (Value.int IntKind.i64 x.m) ∧ True) ∧ True ∧ True ∧ True ∧ True ∧ True ∧ True ∧ True ∧ True ∧ True ∧ (SV.v (Value.int IntKind.i64 R) = SV.v (Value.int IntKind.i64 R) ∧ SV.v (Value.int IntKind.i64 C) = SV.v (Value.int IntKind.i64 C) ∧ SV.h (14 : Nat) [(0 : Nat), (0 : Nat)] = SV.h (14 : Nat) [(0 : Nat), (0 : Nat)] ∧ True) ∧ True ∧ (m = m ∧ (0 : Nat) = (0 : Nat) ∧ xs = xs) ∧ True) ∧ (C - IntKind.i64.wrap (x_2 + (1 : Int))).toNat < (C - x_2).toNat)))) ((top ≤ IntKind.i64.wrap (x_1 + (1 : Int)) ∧ IntKind.i64.wrap (x_1 + (1 : Int)) ≤ R) ∧ ((SV.p (0 : Nat) (0 : Nat) = SV.p (0 : Nat) (0 : Nat) ∧ SV.v (Value.int IntKind.i64 top) = SV.v (Value.int IntKind.i64 top) ∧ SV.v (Value.int IntKind.i64 n) = SV.v (Value.int IntKind.i64 n) ∧ SV.p (2 : Nat) (0 : Nat) = SV.p (2 : Nat) (0 : Nat) ∧ SV.p (12 : Nat) (0 : Nat) = SV.p (12 : Nat) (0 : Nat) ∧ SV.v (Value.int IntKind.i64 (IntKind.i64.wrap (x_1 + (1 : Int)))) = SV.v (Value.int IntKind.i64 (IntKind.i64.wrap (x_1 + (1 : Int)))) ∧ True) ∧ (SV.v (Value.int IntKind.i64 R) = SV.v (Value.int IntKind.i64 R) ∧ SV.v (Value.int IntKind.i64 C) = SV.v (Value.int IntKind.i64 C) ∧ SV.h (1 : Nat) [ep, (0 : Nat)] = SV.h (1 : Nat) [ep, (0 : Nat)] ∧ True) ∧ (m = m ∧ ep = ep ∧ rmA R C xs top n x x_1.toNat x_2.toNat = rmA R C xs top n x (IntKind.i64.wrap (x_1 + (1 : Int))).toNat (0 : Nat)) ∧ (SV.v (Value.int IntKind.i32 x.g) = SV.v (Value.int IntKind.i32 x.g) ∧ SV.v (Value.int IntKind.i64 x.a) = SV.v (Value.int IntKind.i64 x.a) ∧ SV.v (Value.bool x.gd) = SV.v (Value.bool x.gd) ∧ SV.v (Value.int IntKind.i64 x.m) = SV.v (Value.int IntKind.i64 x.m) ∧ True) ∧ True ∧ True ∧ True ∧ True ∧ True ∧ True ∧ True ∧ True ∧ True ∧ (SV.v (Value.int IntKind.i64 R) = SV.v (Value.int IntKind.i64 R) ∧ SV.v (Value.int IntKind.i64 C) = SV.v (Value.int IntKind.i64 C) ∧ SV.h (14 : Nat) [(0 : Nat), (0 : Nat)] = SV.h (14 : Nat) [(0 : Nat), (0 : Nat)] ∧ True) ∧ True ∧ (m = m ∧ (0 : Nat) = (0 : Nat) ∧ xs = xs) ∧ True) ∧ (R - IntKind.i64.wrap (x_1 + (1 : Int))).toNat < (R - x_1).toNat)) ((SV.t [] = SV.t [] ∧ True) ∧ (SV.v (Value.int IntKind.i64 R) = SV.v (Value.int IntKind.i64 R) ∧ SV.v (Value.int IntKind.i64 C) = SV.v (Value.int IntKind.i64 C) ∧ SV.h (1 : Nat) [ep, (0 : Nat)] = SV.h (1 : Nat) [ep, (0 : Nat)] ∧ True) ∧ (m = m ∧ ep = ep ∧ rmA R C xs top n x x_1.toNat (0 : Nat) = rmL R C xs top n x) ∧ True))) (by kernel_rfl) ?_
  clear hp hφ
  have h1 := hw.r0
  have h2 := hw.r1
  have h3 := hw.c0
  have h4 := hw.c1
  have h5 := hw.sz
  have hlen := hw.len
  have eta : ∀ y : C4, C4.mk y.g y.a y.gd y.m = y := fun _ => rfl
  simp only [II, ge_iff_le, hw, br_iff, rq_iff, nbeq, hlen, eta, true_and, and_true, true_implies, Bool.true_and, Bool.and_true, Bool.and_eq_true, Bool.not_eq_true', Bool.not_eq_false', Nat.ble_eq, Nat.blt_eq, decide_eq_true_eq, decide_eq_false_iff_not]
  obtain ⟨Rn, rfl⟩ : ∃ Rn : Nat, R = Rn := ⟨R.toNat, by omega⟩
  obtain ⟨Cn, rfl⟩ : ∃ Cn : Nat, C = Cn := ⟨C.toNat, by omega⟩
  have hlen' : xs.length = Rn * Cn := by rw [hlen]; exact Int.ofNat_inj.1 (by rw [h5, Int.natCast_mul])
  have hself : flF Rn Cn (un Cn xs) = xs := flF_un hlen'
  have hA : ∀ r k, rmA Rn Cn xs top n x r k = flF Rn Cn (rwA (un Cn xs) (rollF (un Cn xs) top ((Rn : Int) - 1) n x) top r k) := fun r k => by
    unfold rmA rmF
    rw [Int.toNat_natCast, Int.toNat_natCast]
  have hAl : ∀ r k, (rmA Rn Cn xs top n x r k).length = m := fun r k => by rw [hA, flF_length, ← hlen', hlen]
  refine ⟨by omega, by rw [hA, rwA_zero hr0, hself], fun r ⟨r0, r1⟩ => ⟨fun r2 => ⟨by omega, fun k ⟨k0, k1⟩ => ⟨fun k2 => ?_, fun k2 => ?_⟩⟩, fun r2 => ?_⟩⟩
  · obtain ⟨i, rfl⟩ : ∃ i : Nat, r = i := ⟨r.toNat, by omega⟩
    obtain ⟨j, rfl⟩ : ∃ j : Nat, k = j := ⟨k.toNat, by omega⟩
    obtain ⟨m1, m2⟩ := mul_bd (r := i) (C := Cn) (by omega) (by omega) (by omega) (by omega)
    have m3 := ix_bd (R := Rn) (C := Cn) r2 k2 k0
    rw [wrap64 (x := (i : Int) * Cn) (by omega) (by omega), wrap64 (x := (i : Int) * Cn + j) (by omega) (by omega), wrap64 (x := (Rn : Int) - 1) (by omega) (by omega), wrap64 (x := (Rn : Int) - 1 - i) (by omega) (by omega), wrap64 (x := top - i) (by omega) (by omega), wrap64 (x := (j : Int) + 1) (by omega) (by omega)]
    have e1 : ((i : Int) * Cn + j).toNat = i * Cn + j := by rw [← cast_ix, Int.toNat_natCast]
    have e2 : ((j : Int) + 1).toNat = j + 1 := by omega
    have hst := fun y (hy : y = rollF (un Cn xs) top ((Rn : Int) - 1) n x i j) => rwA_step (f := un Cn xs) (g := rollF (un Cn xs) top ((Rn : Int) - 1) n x) (top := top) (R := Rn) (C := Cn) (r := i) (k := j) (by omega) (by omega) r0
    have hset : ∀ y, y = rollF (un Cn xs) top ((Rn : Int) - 1) n x i j → (rmA Rn Cn xs top n x i j).set (i * Cn + j) y = rmA Rn Cn xs top n x i (j + 1) := fun y hy => by
      rw [hy, hA, hA]; exact hst _ rfl
    simp only [e1, e2, hAl, Int.toNat_natCast]
    refine ⟨fun a1 => ⟨fun a2 => ?_, fun a2 => ?_⟩, fun a1 => ?_⟩
    · rw [wrap64 (x := (i : Int) + n) (by omega) (by omega)]
      have m4 := ix_bd (R := Rn) (C := Cn) (r := (i : Int) + n) (by omega) k2 k0
      refine ⟨⟨by omega, by omega, by omega, by omega, by omega, by omega, by omega⟩, by omega, by omega, by omega, hset _ ?_, by omega⟩
      rw [rollF, if_pos (by omega), if_pos (by omega)]
      obtain ⟨w, hw⟩ : ∃ w : Nat, (i : Int) + n = w := ⟨((i : Int) + n).toNat, by omega⟩
      rw [hw, ← cast_ix, Int.toNat_natCast, Int.toNat_natCast]; rfl
    · refine ⟨by omega, by omega, by omega, hset _ ?_, by omega⟩
      rw [rollF, if_pos (by omega), if_neg (by omega)]
    · refine ⟨by omega, by omega, by omega, hset _ ?_, by omega⟩
      rw [rollF, if_pos (by omega), if_neg (by omega)]
  · have hk : k = Cn := by omega
    subst hk
    rw [wrap64 (x := r + 1) (by omega) (by omega)]
    have e2 : (r + 1).toNat = r.toNat + 1 := by omega
    rw [Int.toNat_natCast, e2, hA, hA, rwA_next]
    exact ⟨by omega, rfl, by omega⟩
  · have hk : r = Rn := by omega
    subst hk
    rw [Int.toNat_natCast, hA, rwA_all fun r' c' h => by rw [rollF, if_neg (by omega)]]
    unfold rmL rmF
    rw [Int.toNat_natCast, Int.toNat_natCast]
def tabD7 : List (Nat × ACon Unit) := (90, lcRRows) :: tabD6
theorem tabD7_ok : LCs Try.prog tabD7 := ⟨ok_rrows, tabD6_ok⟩
def lcRUp : ACon Unit := mkLC (decP (shCons (shP 0) (shCons shI (shOne shC))) (shRefF 0)) fun ((_, n, x), ((R, C, ep), ⟨xs, m, ep2⟩)) => .ask (ep = ep2 ∧ FW R C xs m) (.one (.t []) (refF 0 R C (rmL R C xs 0 n x) m ep) [1])
set_option maxHeartbeats 4000000 in
theorem ok_rup : ∀ I : Sym.Inv Unit, LCOk I Try.prog 55 lcRUp := by
  refine lc_mk (fun _ => allCfg Try.prog [] tabD7 3) (fun _ _ => allCfg_ok mixed trivial tabD7_ok) (fun _ => rfl) (n := 80) Try.func55 ?_
  intro ⟨⟨_, n, x⟩, ⟨R, C, ep⟩, ⟨xs, m, ep2⟩⟩ hφ
  obtain ⟨⟨rfl, hw⟩, hp⟩ := id hφ
  refine kcast (B := (true = true ∧ (ep = ep ∧ FW R C xs m ∧ II (0 : Int) ≤ (0 : Int) ∧ (0 : Int) < R) ∧ (SV.t [] = SV.t [] ∧ True) ∧ (SV.v (Value.int IntKind.i64 R) = SV.v (Value.int IntKind.i64 R) ∧ SV.v (Value.int IntKind.i64 C) = SV.v (Value.int IntKind.i64 C) ∧ SV.h (1 : Nat) [ep, (0 : Nat)] = SV.h (1 : Nat) [ep, (0 : Nat)] ∧ True) ∧ (m = m ∧ ep = ep ∧ rmL R C xs (0 : Int) n (C4.mk x.g x.a x.gd x.m) = rmL R C xs (0 : Int) n x) ∧ True)) (by kernel_rfl) ?_
  clear hp hφ
  have h1 := hw.r0
  have eta : ∀ y : C4, C4.mk y.g y.a y.gd y.m = y := fun _ => rfl
  simp only [II, hw, eta, true_and, and_true]
  omega
def lrC (R C : Int) (xs : List C4) (m : Nat) (row : Int) (q : Bool) : Bool := (decide (0 ≤ row) && decide (row < R)) && !(q && decide (gdRK xs (row * C).toNat m ≠ 0))
def lrL (R C : Int) (xs : List C4) (m : Nat) (row n : Int) (x : C4) (q : Bool) : List C4 := if lrC R C xs m row q = true then rmL R C xs row (minusR n) x else xs
def lrE (R row : Int) : Int := if (decide (0 ≤ row) && decide (row < R)) = true then 0 else 11
def lcRLines : ACon Unit := mkLC (decP (shCons (shP 0) (shCons shI (shCons shI (shCons shC (shOne shB))))) (shRefF 0)) fun ((_, row, n, x, q), ((R, C, ep), ⟨xs, m, ep2⟩)) => .ask (ep = ep2 ∧ FW R C xs m) (.one (.v (.int .i64 (lrE R row))) (refF 0 R C (lrL R C xs m row n x q) m ep) [1])
set_option maxHeartbeats 4000000 in
theorem ok_rlines : ∀ I : Sym.Inv Unit, LCOk I Try.prog 53 lcRLines := by
  refine lc_mk (fun _ => allCfg Try.prog [] tabD7 3) (fun _ _ => allCfg_ok mixed trivial tabD7_ok) (fun _ => rfl) (n := 80) Try.func53 ?_
  intro ⟨⟨_, row, n, x, q⟩, ⟨R, C, ep⟩, ⟨xs, m, ep2⟩⟩ hφ
  obtain ⟨⟨rfl, hw⟩, hp⟩ := id hφ
  refine kcast (B := (br (decide (row < (0 : Int))) ((SV.v (Value.int IntKind.i64 (11 : Int)) = SV.v (Value.int IntKind.i64 (lrE R row)) ∧ True) ∧ (SV.v (Value.int IntKind.i64 R) = SV.v (Value.int IntKind.i64 R) ∧ SV.v (Value.int IntKind.i64 C) = SV.v (Value.int IntKind.i64 C) ∧ SV.h (1 : Nat) [ep, (0 : Nat)] = SV.h (1 : Nat) [ep, (0 : Nat)] ∧ True) ∧ (m = m ∧ ep = ep ∧ xs = lrL R C xs m row n x q) ∧ True) (br (decide (row ≥ R)) ((SV.v (Value.int IntKind.i64 (11 : Int)) = SV.v (Value.int IntKind.i64 (lrE R row)) ∧ True) ∧ (SV.v (Value.int IntKind.i64 R) = SV.v (Value.int IntKind.i64 R) ∧ SV.v (Value.int IntKind.i64 C) = SV.v (Value.int IntKind.i64 C) ∧ SV.h (1 : Nat) [ep, (0 : Nat)] = SV.h (1 : Nat) [ep, (0 : Nat)] ∧ True) ∧ (m = m ∧ ep = ep ∧ xs = lrL R C xs m row n x q) ∧ True) (br (!q) (true = true ∧ true = true ∧ (ep = ep ∧ FW R C xs m ∧ (0 : Int) ≤ row ∧ row < R) ∧ (SV.v (Value.int IntKind.i64 (0 : Int)) = SV.v (Value.int IntKind.i64 (lrE R row)) ∧ True) ∧ (SV.v (Value.int IntKind.i64 R) = SV.v (Value.int IntKind.i64 R) ∧ SV.v (Value.int IntKind.i64 C) = SV.v (Value.int IntKind.i64 C) ∧ SV.h (1 : Nat) [ep, (0 : Nat)] = SV.h (1 : Nat) [ep, (0 : Nat)] ∧ True) ∧ (m = m ∧ ep = ep ∧ rmL R C xs row (minusR n) (C4.mk x.g x.a x.gd x.m) = lrL R C xs m row n x q) ∧ True) (true = true ∧ (ep = ep ∧ FW R C xs m ∧ (0 : Int) ≤ row ∧ row < R) ∧ br (gdRK xs (row * C).toNat m == (0 : Int)) (true = true ∧ true = true ∧ (ep = ep ∧ FW R C xs m ∧ (0 : Int) ≤ row ∧ row < R) ∧ (SV.v (Value.int IntKind.i64 (0 : Int)) = SV.v (Value.int IntKind.i64 (lrE R row)) ∧ True) ∧ (SV.v (Value.int IntKind.i64 R) = SV.v (Value.int IntKind.i64 R) ∧ SV.v (Value.int IntKind.i64 C) = SV.v (Value.int IntKind.i64 C) ∧ SV.h (1 : Nat) [ep, (0 : Nat)] = SV.h (1 : Nat) [ep, (0 : Nat)] ∧ True) ∧ (m = m ∧ ep = ep ∧ rmL R C xs row (minusR n) (C4.mk x.g x.a x.gd x.m) = lrL R C xs m row n x q) ∧ True) ((SV.v (Value.int IntKind.i64 (0 : Int)) = SV.v (Value.int IntKind.i64 (lrE R row)) ∧ True) ∧ (SV.v (Value.int IntKind.i64 R) = SV.v (Value.int IntKind.i64 R) ∧ SV.v (Value.int IntKind.i64 C) = SV.v (Value.int IntKind.i64 C) ∧ SV.h (1 : Nat) [ep, (0 : Nat)] = SV.h (1 : Nat) [ep, (0 : Nat)] ∧ True) ∧ (m = m ∧ ep = ep ∧ xs = lrL R C xs m row n x q) ∧ True)))))) (by kernel_rfl) ?_
  clear hp hφ
  have eta : ∀ y : C4, C4.mk y.g y.a y.gd y.m = y := fun _ => rfl
  simp only [II, hw, eta, br_iff, rq_iff, nbeq, true_and, and_true, true_implies, Bool.true_and, Bool.and_true, Bool.and_eq_true, Bool.not_eq_true', Bool.not_eq_false', decide_eq_true_eq, decide_eq_false_iff_not]
  have eF : ¬ (0 ≤ row ∧ row < R) → lrE R row = 11 ∧ lrL R C xs m row n x q = xs := fun h => by
    have e : (decide (0 ≤ row) && decide (row < R)) = false := by
      rw [Bool.and_eq_false_iff, decide_eq_false_iff_not, decide_eq_false_iff_not]; omega
    rw [lrE, lrL, lrC, e]
    exact ⟨rfl, rfl⟩
  have eT : 0 ≤ row ∧ row < R → lrE R row = 0 ∧ lrC R C xs m row q = !(q && decide (gdRK xs (row * C).toNat m ≠ 0)) := fun h => by
    have e : (decide (0 ≤ row) && decide (row < R)) = true := by
      rw [Bool.and_eq_true, decide_eq_true_eq, decide_eq_true_eq]; exact h
    rw [lrE, lrC, e, Bool.true_and]
    exact ⟨rfl, rfl⟩
  refine ⟨fun a1 => ?_, fun a1 => ⟨fun a2 => ?_, fun a2 => ⟨fun a3 => ?_, fun a3 => ⟨by omega, fun a4 => ?_, fun a4 => ?_⟩⟩⟩⟩
  · obtain ⟨b1, b2⟩ := eF (by omega)
    rw [b1, b2]; exact ⟨rfl, rfl⟩
  · obtain ⟨b1, b2⟩ := eF (by omega)
    rw [b1, b2]; exact ⟨rfl, rfl⟩
  · obtain ⟨b1, b2⟩ := eT (by omega)
    rw [b1, lrL, b2, a3]
    exact ⟨by omega, rfl, rfl⟩
  · obtain ⟨b1, b2⟩ := eT (by omega)
    have a5 : gdRK xs (row * C).toNat m = 0 := by simpa using a4
    rw [b1, lrL, b2, a3, a5]
    exact ⟨by omega, rfl, rfl⟩
  · obtain ⟨b1, b2⟩ := eT (by omega)
    have a5 : gdRK xs (row * C).toNat m ≠ 0 := by simpa using a4
    rw [b1, lrL, b2, a3, decide_eq_true a5]
    exact ⟨rfl, rfl⟩

/-! ### Cells that move -/
def cwA (f g : Nat → Nat → C4) (r c : Int) (k r' c' : Nat) : C4 := if r' = r ∧ c ≤ c' ∧ c' < k then g r' c' else f r' c'
section
variable {f g : Nat → Nat → C4} {R C r k : Nat} {c : Int}
theorem cwA_zero (hc : 0 ≤ c) : flF R C (cwA f g r c c.toNat) = flF R C f := by
  refine flF_congr fun r' c' _ _ => ?_
  rw [cwA, if_neg (by omega)]
theorem cwA_step (hr : r < R) (hk : k < C) (hc : c ≤ k) : (flF R C (cwA f g r c k)).set (r * C + k) (g r k) = flF R C (cwA f g r c (k + 1)) := by
  rw [flF_set hr hk]
  refine flF_congr fun r' c' _ _ => ?_
  unfold cwA
  by_cases h : r' = r ∧ c' = k
  · obtain ⟨rfl, rfl⟩ := h
    rw [if_pos ⟨rfl, rfl⟩, if_pos (by omega)]
  · rw [if_neg h]
    by_cases h2 : (r' : Int) = r ∧ c ≤ c' ∧ c' < k
    · rw [if_pos h2, if_pos (by omega)]
    · rw [if_neg h2, if_neg (by omega)]
theorem cwA_all {to : Int} (hk : (k : Int) = to + 1) (h : ∀ r' c' : Nat, ¬ (r' = r ∧ c ≤ c' ∧ (c' : Int) ≤ to) → g r' c' = f r' c') : flF R C (cwA f g r c k) = flF R C g := by
  refine flF_congr fun r' c' _ _ => ?_
  unfold cwA
  by_cases h2 : (r' : Int) = r ∧ c ≤ c' ∧ c' < k
  · rw [if_pos h2]
  · rw [if_neg h2, h _ _ (by omega)]
end
def smL (R C : Int) (xs : List C4) (r c to n : Int) (x : C4) : List C4 := flF R.toNat C.toNat (slideF (un C.toNat xs) r c to n x)
def smA (R C : Int) (xs : List C4) (r c to n : Int) (x : C4) (k : Nat) : List C4 := flF R.toNat C.toNat (cwA (un C.toNat xs) (slideF (un C.toNat xs) r c to n x) r c k)
def rcT (C : Int) (xs : List C4) (r c : Int) (q : Bool) : Int := if q = true then fdRT C xs r c else C - 1
def annQ3 (R C : Int) (xs : List C4) (m ep : Nat) (r c n : Int) (x : C4) (q : Bool) : Ann Unit where
  α := Int
  φ _ k := c ≤ k ∧ k ≤ rcT C xs r c q + 1
  μ _ k := (rcT C xs r c q + 1 - k).toNat
  get st := getI st.tm 14
  f st k := tmpl [0, 6, 8, 11, 12, 13] [(14, .v (.int .i64 k))] [(1, .own (.recs (smA R C xs r c (rcT C xs r c q) (minusR n) x k.toNat)) m 38 4 ep false)] st
def rcC (R C : Int) (xs : List C4) (r c : Int) (q : Bool) : Bool := inD R C r c && !(q && (gdr C xs r c.toNat))
def rcL (R C : Int) (xs : List C4) (r c n : Int) (x : C4) (q : Bool) : List C4 := if rcC R C xs r c q = true then smL R C xs r c (rcT C xs r c q) (minusR n) x else xs
def rcE (R C r c : Int) : Int := if inD R C r c = true then 0 else 11
def lcRChars : ACon Unit := mkLC (decP (shCons (shP 0) (shCons shI2 (shCons shI (shCons shC (shOne shB))))) (shRefF 0)) fun ((_, (r, c), n, x, q), ((R, C, ep), ⟨xs, m, ep2⟩)) => .ask (ep = ep2 ∧ FW R C xs m) (.one (.v (.int .i64 (rcE R C r c))) (refF 0 R C (rcL R C xs r c n x q) m ep) [1])
set_option maxHeartbeats 4000000 in
theorem ok_rchars : ∀ I : Sym.Inv Unit, LCOk I Try.prog 34 lcRChars := by
  refine lc_mk (fun ((_, (r, c), n, x, q), ((R, C, ep), ⟨xs, m, ep2⟩)) => allCfg Try.prog [] tabD7 3 [(771, annQ3 R C xs m ep r c n x q)]) (fun _ _ => allCfg_ok mixed trivial tabD7_ok) (fun _ => rfl) (n := 80) Try.func34 ?_
  intro ⟨⟨_, ⟨r, c⟩, n, x, q⟩, ⟨R, C, ep⟩, ⟨xs, m, ep2⟩⟩ hφ
  obtain ⟨⟨rfl, hw⟩, hp⟩ := id hφ
  refine kcast (B := (true = true ∧ ep = ep ∧ br (!inD R C r c) ((SV.v (Value.int IntKind.i64 (11 : Int)) = SV.v (Value.int IntKind.i64 (rcE R C r c)) ∧ True) ∧ (SV.v (Value.int IntKind.i64 R) = SV.v (Value.int IntKind.i64 R) ∧ SV.v (Value.int IntKind.i64 C) = SV.v (Value.int IntKind.i64 C) ∧ SV.h (1 : Nat) [ep, (0 : Nat)] = SV.h (1 : Nat) [ep, (0 : Nat)] ∧ True) ∧ (m = m ∧ ep = ep ∧ xs = rcL R C xs r c n x q) ∧ True) (br q (true = true ∧ (ep = ep ∧ xs.length = m ∧ (0 : Int) ≤ r ∧ (0 : Int) ≤ c ∧ r ≤ (255 : Int) ∧ (0 : Int) ≤ C ∧ C ≤ (255 : Int) ∧ c ≤ (255 : Int) ∧ r * C + c < (↑m : Int)) ∧ br (xs.getD (r * C + c).toNat C4.no).gd ((SV.v (Value.int IntKind.i64 (0 : Int)) = SV.v (Value.int IntKind.i64 (rcE R C r c)) ∧ True) ∧ (SV.v (Value.int IntKind.i64 R) = SV.v (Value.int IntKind.i64 R) ∧ SV.v (Value.int IntKind.i64 C) = SV.v (Value.int IntKind.i64 C) ∧ SV.h (1 : Nat) [ep, (0 : Nat)] = SV.h (1 : Nat) [ep, (0 : Nat)] ∧ True) ∧ (m = m ∧ ep = ep ∧ xs = rcL R C xs r c n x q) ∧ True) (true = true ∧ (ep = ep ∧ FW R C xs m ∧ inD R C r c = true) ∧ true = true ∧ (ep = ep ∧ FW R C xs m) ∧ true = true ∧ (c ≤ c ∧ c ≤ rcT C xs r c q + (1 : Int)) ∧ ((SV.p (0 : Nat) (0 : Nat) = SV.p (0 : Nat) (0 : Nat) ∧ SV.p (2 : Nat) (0 : Nat) = SV.p (2 : Nat) (0 : Nat) ∧ SV.p (3 : Nat) (0 : Nat) = SV.p (3 : Nat) (0 : Nat) ∧ SV.v (Value.int IntKind.i64 (fdRT C xs r c)) = SV.v (Value.int IntKind.i64 (fdRT C xs r c)) ∧ SV.p (13 : Nat) (0 : Nat) = SV.p (13 : Nat) (0 : Nat) ∧ SV.v (Value.int IntKind.i64 (minusR n)) = SV.v (Value.int IntKind.i64 (minusR n)) ∧ SV.v (Value.int IntKind.i64 c) = SV.v (Value.int IntKind.i64 c) ∧ True) ∧ (SV.v (Value.int IntKind.i64 R) = SV.v (Value.int IntKind.i64 R) ∧ SV.v (Value.int IntKind.i64 C) = SV.v (Value.int IntKind.i64 C) ∧ SV.h (1 : Nat) [ep, (0 : Nat)] = SV.h (1 : Nat) [ep, (0 : Nat)] ∧ True) ∧ (m = m ∧ ep = ep ∧ xs = smA R C xs r c (rcT C xs r c q) (minusR n) x c.toNat) ∧ (SV.v (Value.int IntKind.i64 r) = SV.v (Value.int IntKind.i64 r) ∧ SV.v (Value.int IntKind.i64 c) = SV.v (Value.int IntKind.i64 c) ∧ True) ∧ (SV.v (Value.int IntKind.i32 x.g) = SV.v (Value.int IntKind.i32 x.g) ∧ SV.v (Value.int IntKind.i64 x.a) = SV.v (Value.int IntKind.i64 x.a) ∧ SV.v (Value.bool x.gd) = SV.v (Value.bool x.gd) ∧ SV.v (Value.int IntKind.i64 x.m) = SV.v (Value.int IntKind.i64 x.m) ∧ True) ∧ True ∧ True ∧ True ∧ True ∧ True ∧ True ∧ True ∧ True ∧ True ∧ (SV.v (Value.int IntKind.i64 R) = SV.v (Value.int IntKind.i64 R) ∧ SV.v (Value.int IntKind.i64 C) = SV.v (Value.int IntKind.i64 C) ∧ SV.h (15 : Nat) [(0 : Nat), (0 : Nat)] = SV.h (15 : Nat) [(0 : Nat), (0 : Nat)] ∧ True) ∧ True ∧ (m = m ∧ (0 : Nat) = (0 : Nat) ∧ xs = xs) ∧ True) ∧ ∀ (x_1 : Int), c ≤ x_1 ∧ x_1 ≤ rcT C xs r c q + (1 : Int) → br (decide (x_1 ≤ fdRT C xs r c)) (br (decide (minusR n ≤ IntKind.i64.wrap (fdRT C xs r c - x_1))) (br (decide (minusR n ≥ IntKind.i64.wrap (c - x_1))) (true = true ∧ ((0 : Nat) = (0 : Nat) ∧ xs.length = m ∧ (0 : Int) ≤ r ∧ (0 : Int) ≤ IntKind.i64.wrap (x_1 + minusR n) ∧ r ≤ (255 : Int) ∧ (0 : Int) ≤ C ∧ C ≤ (255 : Int) ∧ IntKind.i64.wrap (x_1 + minusR n) ≤ (255 : Int) ∧ r * C + IntKind.i64.wrap (x_1 + minusR n) < (↑m : Int)) ∧ rq (ep.beq ep && (Nat.beq (4 : Nat) (4 : Nat) && decide ((0 : Int) ≤ IntKind.i64.wrap (IntKind.i64.wrap (r * C) + x_1) ∧ IntKind.i64.wrap (IntKind.i64.wrap (r * C) + x_1) < (↑m : Int)))) (rq (ep.beq ep && (IntKind.i64.wrap (IntKind.i64.wrap (r * C) + x_1)).toNat.blt (smA R C xs r c (rcT C xs r c q) (minusR n) x x_1.toNat).length) ((c ≤ IntKind.i64.wrap (x_1 + (1 : Int)) ∧ IntKind.i64.wrap (x_1 + (1 : Int)) ≤ rcT C xs r c q + (1 : Int)) ∧ ((SV.p (0 : Nat) (0 : Nat) = SV.p (0 : Nat) (0 : Nat) ∧ SV.p (2 : Nat) (0 : Nat) = SV.p (2 : Nat) (0 : Nat) ∧ SV.p (3 : Nat) (0 : Nat) = SV.p (3 : Nat) (0 : Nat) ∧ SV.v (Value.int IntKind.i64 (fdRT C xs r c)) = SV.v (Value.int IntKind.i64 (fdRT C xs r c)) ∧ SV.p (13 : Nat) (0 : Nat) = SV.p (13 : Nat) (0 : Nat) ∧ SV.v (Value.int IntKind.i64 (minusR n)) = SV.v (Value.int IntKind.i64 (minusR n)) ∧ SV.v (Value.int IntKind.i64 (IntKind.i64.wrap (x_1 + (1 : Int)))) = SV.v (Value.int IntKind.i64 (IntKind.i64.wrap (x_1 + (1 : Int)))) ∧ True) ∧ (SV.v (Value.int IntKind.i64 R) = SV.v (Value.int IntKind.i64 R) ∧ SV.v (Value.int IntKind.i64 C) = SV.v (Value.int IntKind.i64 C) ∧ SV.h (1 : Nat) [ep, (0 : Nat)] = SV.h (1 : Nat) [ep, (0 : Nat)] ∧ True) ∧ (m = m ∧ ep = ep ∧ (smA R C xs r c (rcT C xs r c q) (minusR n) x x_1.toNat).set (IntKind.i64.wrap (IntKind.i64.wrap (r * C) + x_1)).toNat (C4.mk (xs.getD (r * C + IntKind.i64.wrap (x_1 + minusR n)).toNat C4.no).g (xs.getD (r * C + IntKind.i64.wrap (x_1 + minusR n)).toNat C4.no).a (xs.getD (r * C + IntKind.i64.wrap (x_1 + minusR n)).toNat C4.no).gd (xs.getD (r * C + IntKind.i64.wrap (x_1 + minusR n)).toNat C4.no).m) = smA R C xs r c (rcT C xs r c q) (minusR n) x (IntKind.i64.wrap (x_1 + (1 : Int))).toNat) ∧ (SV.v (Value.int IntKind.i64 r) = SV.v (Value.int IntKind.i64 r) ∧ SV.v (Value.int IntKind.i64 c) = SV.v (Value.int IntKind.i64 c) ∧ True) ∧ (SV.v (Value.int IntKind.i32 x.g) = SV.v (Value.int IntKind.i32 x.g) ∧ SV.v (Value.int IntKind.i64 x.a) = SV.v (Value.int IntKind.i64 x.a) ∧ SV.v (Value.bool x.gd) = SV.v (Value.bool x.gd) ∧ SV.v (Value.int IntKind.i64 x.m) = SV.v (Value.int IntKind.i64 x.m) ∧ True) ∧ True ∧ True ∧ True ∧ True ∧ True ∧ True ∧ True ∧ True ∧ True ∧ (SV.v (Value.int IntKind.i64 R) = SV.v (Value.int IntKind.i64 R) ∧ SV.v (Value.int IntKind.i64 C) = SV.v (Value.int IntKind.i64 C) ∧ SV.h (15 : Nat) [(0 : Nat), (0 : Nat)] = SV.h (15 : Nat) [(0 : Nat), (0 : Nat)] ∧ True) ∧ True ∧ (m = m ∧ (0 : Nat) = (0 : Nat) ∧ xs = xs) ∧ True) ∧ (rcT C xs r c q + (1 : Int) - IntKind.i64.wrap (x_1 + (1 : Int))).toNat < (rcT C xs r c q + (1 : Int) - x_1).toNat))) (rq (ep.beq ep && (Nat.beq (4 : Nat) (4 : Nat) && decide ((0 : Int) ≤ IntKind.i64.wrap (IntKind.i64.wrap (r * C) + x_1) ∧ IntKind.i64.wrap (IntKind.i64.wrap (r * C) + x_1) < (↑m : Int)))) (rq (ep.beq ep && (IntKind.i64.wrap (IntKind.i64.wrap (r * C) + x_1)).toNat.blt (smA R C xs r c (rcT C xs r c q) (minusR n) x x_1.toNat).length) ((c ≤ IntKind.i64.wrap (x_1 + (1 : Int)) ∧ IntKind.i64.wrap (x_1 + (1 : Int)) ≤ rcT C xs r c q + (1 : Int)) ∧ ((SV.p (0 : Nat) (0 : Nat) = SV.p (0 : Nat) (0 : Nat) ∧ SV.p (2 : Nat) (0 : Nat) = SV.p (2 : Nat) (0 : Nat) ∧ SV.p (3 : Nat) (0 : Nat) = SV.p (3 : Nat) (0 : Nat) ∧ SV.v (Value.int IntKind.i64 (fdRT C xs r c)) = SV.v (Value.int IntKind.i64 (fdRT C xs r c)) ∧ SV.p (13 : Nat) (0 : Nat) = SV.p (13 : Nat) (0 : Nat) ∧ SV.v (Value.int IntKind.i64 (minusR n)) = SV.v (Value.int IntKind.i64 (minusR n)) ∧ SV.v (Value.int IntKind.i64 (IntKind.i64.wrap (x_1 + (1 : Int)))) = SV.v (Value.int IntKind.i64 (IntKind.i64.wrap (x_1 + (1 : Int)))) ∧ True) ∧ (SV.v (Value.int IntKind.i64 R) = SV.v (Value.int IntKind.i64 R) ∧ SV.v (Value.int IntKind.i64 C) = SV.v (Value.int IntKind.i64 C) ∧ SV.h (1 : Nat) [ep, (0 : Nat)] = SV.h (1 : Nat) [ep, (0 : Nat)] ∧ True) ∧ (m = m ∧ ep = ep ∧ (smA R C xs r c (rcT C xs r c q) (minusR n) x x_1.toNat).set (IntKind.i64.wrap (IntKind.i64.wrap (r * C) + x_1)).toNat (C4.mk x.g x.a x.gd x.m) = smA R C xs r c (rcT C xs r c q) (minusR n) x (IntKind.i64.wrap (x_1 + (1 : Int))).toNat) ∧ (SV.v (Value.int IntKind.i64 r) = SV.v (Value.int IntKind.i64 r) ∧ SV.v (Value.int IntKind.i64 c) = SV.v (Value.int IntKind.i64 c) ∧ True) ∧ (SV.v (Value.int IntKind.i32 x.g) = SV.v (Value.int IntKind.i32 x.g) ∧ SV.v (Value.int IntKind.i64 x.a) = SV.v (Value.int IntKind.i64 x.a) ∧ SV.v (Value.bool x.gd) = SV.v (Value.bool x.gd) ∧ SV.v (Value.int IntKind.i64 x.m) = SV.v (Value.int IntKind.i64 x.m) ∧ True) ∧ True ∧ True ∧ True ∧ True ∧ True ∧ True ∧ True ∧ True ∧ True ∧ (SV.v (Value.int IntKind.i64 R) = SV.v (Value.int IntKind.i64 R) ∧ SV.v (Value.int IntKind.i64 C) = SV.v (Value.int IntKind.i64 C) ∧ SV.h (15 : Nat) [(0 : Nat), (0 : Nat)] = SV.h (15 : Nat) [(0 : Nat), (0 : Nat)] ∧ True) ∧ True ∧ (m = m ∧ (0 : Nat) = (0 : Nat) ∧ xs = xs) ∧ True) ∧ (rcT C xs r c q + (1 : Int) - IntKind.i64.wrap (x_1 + (1 : Int))).toNat < (rcT C xs r c q + (1 : Int) - x_1).toNat)))) (rq (ep.beq ep && (Nat.beq (4 : Nat) (4 : Nat) && decide ((0 : Int) ≤ IntKind.i64.wrap (IntKind.i64.wrap (r * C) + x_1) ∧ IntKind.i64.wrap (IntKind.i64.wrap (r * C) + x_1) < (↑m : Int)))) (rq (ep.beq ep && (IntKind.i64.wrap (IntKind.i64.wrap (r * C) + x_1)).toNat.blt (smA R C xs r c (rcT C xs r c q) (minusR n) x x_1.toNat).length) ((c ≤ IntKind.i64.wrap (x_1 + (1 : Int)) ∧ IntKind.i64.wrap (x_1 + (1 : Int)) ≤ rcT C xs r c q + (1 : Int)) ∧ ((SV.p (0 : Nat) (0 : Nat) = SV.p (0 : Nat) (0 : Nat) ∧ SV.p (2 : Nat) (0 : Nat) = SV.p (2 : Nat) (0 : Nat) ∧ SV.p (3 : Nat) (0 : Nat) = SV.p (3 : Nat) (0 : Nat) ∧ SV.v (Value.int IntKind.i64 (fdRT C xs r c)) = SV.v (Value.int IntKind.i64 (fdRT C xs r c)) ∧ SV.p (13 : Nat) (0 : Nat) = SV.p (13 : Nat) (0 : Nat) ∧ SV.v (Value.int IntKind.i64 (minusR n)) = SV.v (Value.int IntKind.i64 (minusR n)) ∧ SV.v (Value.int IntKind.i64 (IntKind.i64.wrap (x_1 + (1 : Int)))) = SV.v (Value.int IntKind.i64 (IntKind.i64.wrap (x_1 + (1 : Int)))) ∧ True) ∧ (SV.v (Value.int IntKind.i64 R) = SV.v (Value.int IntKind.i64 R) ∧ SV.v (Value.int IntKind.i64 C) = SV.v (Value.int IntKind.i64 C) ∧ SV.h (1 : Nat) [ep, (0 : Nat)] = SV.h (1 : Nat) [ep, (0 : Nat)] ∧ True) ∧ (m = m ∧ ep = ep ∧ (smA R C xs r c (rcT C xs r c q) (minusR n) x x_1.toNat).set (IntKind.i64.wrap (IntKind.i64.wrap (r * C) + x_1)).toNat (C4.mk x.g x.a x.gd x.m) = smA R C xs r c (rcT C xs r c q) (minusR n) x (IntKind.i64.wrap (x_1 + (1 : Int))).toNat) ∧ (SV.v (Value.int IntKind.i64 r) = SV.v (Value.int IntKind.i64 r) ∧ SV.v (Value.int IntKind.i64 c) = SV.v (Value.int IntKind.i64 c) ∧ True) ∧ (SV.v (Value.int IntKind.i32 x.g) = SV.v (Value.int IntKind.i32 x.g) ∧ SV.v (Value.int IntKind.i64 x.a) = SV.v (Value.int IntKind.i64 x.a) ∧ SV.v (Value.bool x.gd) = SV.v (Value.bool x.gd) ∧ SV.v (Value.int IntKind.i64 x.m) = SV.v (Value.int IntKind.i64 x.m) ∧ True) ∧ True ∧ True ∧ True ∧ True ∧ True ∧ True ∧ True ∧ True ∧ True ∧ (SV.v (Value.int IntKind.i64 R) = SV.v (Value.int IntKind.i64 R) ∧ SV.v (Value.int IntKind.i64 C) = SV.v (Value.int IntKind.i64 C) ∧ SV.h (15 : Nat) [(0 : Nat), (0 : Nat)] = SV.h (15 : Nat) [(0 : Nat), (0 : Nat)] ∧ True) ∧ True ∧ (m = m ∧ (0 : Nat) = (0 : Nat) ∧ xs = xs) ∧ True) ∧ (rcT C xs r c q + (1 : Int) - IntKind.i64.wrap (x_1 + (1 : Int))).toNat < (rcT C xs r c q + (1 : Int) - x_1).toNat)))) ((SV.v (Value.int IntKind.i64 (0 : Int)) = SV.v (Value.int IntKind.i64 (rcE R C r c)) ∧ True) ∧ (SV.v (Value.int IntKind.i64 R) = SV.v (Value.int IntKind.i64 R) ∧ SV.v (Value.int IntKind.i64 C) = SV.v (Value.int IntKind.i64 C) ∧ SV.h (1 : Nat) [ep, (0 : Nat)] = SV.h (1 : Nat) [ep, (0 : Nat)] ∧ True) ∧ (m = m ∧ ep = ep ∧ smA R C xs r c (rcT C xs r c q) (minusR n) x x_1.toNat = rcL R C xs r c n x q) ∧ True))) (true = true ∧ (ep = ep ∧ FW R C xs m) ∧ true = true ∧ (c ≤ c ∧ c ≤ rcT C xs r c q + (1 : Int)) ∧ ((SV.p (0 : Nat) (0 : Nat) = SV.p (0 : Nat) (0 : Nat) ∧ SV.p (2 : Nat) (0 : Nat) = SV.p (2 : Nat) (0 : Nat) ∧ SV.p (3 : Nat) (0 : Nat) = SV.p (3 : Nat) (0 : Nat) ∧ SV.v (Value.int IntKind.i64 (IntKind.i64.wrap (C - (1 : Int)))) = SV.v (Value.int IntKind.i64 (IntKind.i64.wrap (C - (1 : Int)))) ∧ SV.p (13 : Nat) (0 : Nat) = SV.p (13 : Nat) (0 : Nat) ∧ SV.v (Value.int IntKind.i64 (minusR n)) = SV.v (Value.int IntKind.i64 (minusR n)) ∧ SV.v (Value.int IntKind.i64 c) = SV.v (Value.int IntKind.i64 c) ∧ True) ∧ (SV.v (Value.int IntKind.i64 R) = SV.v (Value.int IntKind.i64 R) ∧ SV.v (Value.int IntKind.i64 C) = SV.v (Value.int IntKind.i64 C) ∧ SV.h (1 : Nat) [ep, (0 : Nat)] = SV.h (1 : Nat) [ep, (0 : Nat)] ∧ True) ∧ (m = m ∧ ep = ep ∧ xs = smA R C xs r c (rcT C xs r c q) (minusR n) x c.toNat) ∧ (SV.v (Value.int IntKind.i64 r) = SV.v (Value.int IntKind.i64 r) ∧ SV.v (Value.int IntKind.i64 c) = SV.v (Value.int IntKind.i64 c) ∧ True) ∧ (SV.v (Value.int IntKind.i32 x.g) = SV.v (Value.int IntKind.i32 x.g) ∧ SV.v (Value.int IntKind.i64 x.a) = SV.v (Value.int IntKind.i64 x.a) ∧ SV.v (Value.bool x.gd) = SV.v (Value.bool x.gd) ∧ SV.v (Value.int IntKind.i64 x.m) = SV.v (Value.int IntKind.i64 x.m) ∧ True) ∧ True ∧ True ∧ True ∧ True ∧ True ∧ True ∧ True ∧ True ∧ True ∧ (SV.v (Value.int IntKind.i64 R) = SV.v (Value.int IntKind.i64 R) ∧ SV.v (Value.int IntKind.i64 C) = SV.v (Value.int IntKind.i64 C) ∧ SV.h (15 : Nat) [(0 : Nat), (0 : Nat)] = SV.h (15 : Nat) [(0 : Nat), (0 : Nat)] ∧ True) ∧ True ∧ (m = m ∧ (0 : Nat) = (0 : Nat) ∧ xs = xs) ∧ True) ∧ ∀ (x_1 : Int), c ≤ x_1 ∧ x_1 ≤ rcT C xs r c q + (1 : Int) → br (decide (x_1 ≤ IntKind.i64.wrap (C - (1 : Int)))) (br (decide (minusR n ≤ IntKind.i64.wrap (IntKind.i64.wrap (C - (1 : Int)) - x_1))) (br (decide (minusR n ≥ IntKind.i64.wrap (c - x_1))) (true = true ∧ ((0 : Nat) = (0 : Nat) ∧ xs.length = m ∧ (0 : Int) ≤ r ∧ (0 : Int) ≤ IntKind.i64.wrap (x_1 + minusR n) ∧ r ≤ (255 : Int) ∧ (0 : Int) ≤ C ∧ C ≤ (255 : Int) ∧ IntKind.i64.wrap (x_1 + minusR n) ≤ (255 : Int) ∧ r * C + IntKind.i64.wrap (x_1 + minusR n) < (↑m : Int)) ∧ rq (ep.beq ep && (Nat.beq (4 : Nat) (4 : Nat) && decide ((0 : Int) ≤ IntKind.i64.wrap (IntKind.i64.wrap (r * C) + x_1) ∧ IntKind.i64.wrap (IntKind.i64.wrap (r * C) + x_1) < (↑m : Int)))) (rq (ep.beq ep && (IntKind.i64.wrap (IntKind.i64.wrap (r * C) + x_1)).toNat.blt (smA R C xs r c (rcT C xs r c q) (minusR n) x x_1.toNat).length) ((c ≤ IntKind.i64.wrap (x_1 + (1 : Int)) ∧ IntKind.i64.wrap (x_1 + (1 : Int)) ≤ rcT C xs r c q + (1 : Int)) ∧ ((SV.p (0 : Nat) (0 : Nat) = SV.p (0 : Nat) (0 : Nat) ∧ SV.p (2 : Nat) (0 : Nat) = SV.p (2 : Nat) (0 : Nat) ∧ SV.p (3 : Nat) (0 : Nat) = SV.p (3 : Nat) (0 : Nat) ∧ SV.v (Value.int IntKind.i64 (IntKind.i64.wrap (C - (1 : Int)))) = SV.v (Value.int IntKind.i64 (IntKind.i64.wrap (C - (1 : Int)))) ∧ SV.p (13 : Nat) (0 : Nat) = SV.p (13 : Nat) (0 : Nat) ∧ SV.v (Value.int IntKind.i64 (minusR n)) = SV.v (Value.int IntKind.i64 (minusR n)) ∧ SV.v (Value.int IntKind.i64 (IntKind.i64.wrap (x_1 + (1 : Int)))) = SV.v (Value.int IntKind.i64 (IntKind.i64.wrap (x_1 + (1 : Int)))) ∧ True) ∧ (SV.v (Value.int IntKind.i64 R) = SV.v (Value.int IntKind.i64 R) ∧ SV.v (Value.int IntKind.i64 C) = SV.v (Value.int IntKind.i64 C) ∧ SV.h (1 : Nat) [ep, (0 : Nat)] = SV.h (1 : Nat) [ep, (0 : Nat)] ∧ True) ∧ (m = m ∧ ep = ep ∧ (smA R C xs r c (rcT C xs r c q) (minusR n) x x_1.toNat).set (IntKind.i64.wrap (IntKind.i64.wrap (r * C) + x_1)).toNat (C4.mk (xs.getD (r * C + IntKind.i64.wrap (x_1 + minusR n)).toNat C4.no).g (xs.getD (r * C + IntKind.i64.wrap (x_1 + minusR n)).toNat C4.no).a (xs.getD (r * C + IntKind.i64.wrap (x_1 + minusR n)).toNat C4.no).gd (xs.getD (r * C + IntKind.i64.wrap (x_1 + minusR n)).toNat C4.no).m) = smA R C xs r c (rcT C xs r c q) (minusR n) x (IntKind.i64.wrap (x_1 + (1 : Int))).toNat) ∧ (SV.v (Value.int IntKind.i64 r) = SV.v (Value.int IntKind.i64 r) ∧ SV.v (Value.int IntKind.i64 c) = SV.v (Value.int IntKind.i64 c) ∧ True) ∧ (SV.v (Value.int IntKind.i32 x.g) = SV.v (Value.int IntKind.i32 x.g) ∧ SV.v (Value.int IntKind.i64 x.a) = SV.v (Value.int IntKind.i64 x.a) ∧ SV.v (Value.bool x.gd) = SV.v (Value.bool x.gd) ∧ SV.v (Value.int IntKind.i64 x.m) = SV.v (Value.int IntKind.i64 x.m) ∧ True) ∧ True ∧ True ∧ True ∧ True ∧ True ∧ True ∧ True ∧ True ∧ True ∧ (SV.v (Value.int IntKind.i64 R) = SV.v (Value.int IntKind.i64 R) ∧ SV.v (Value.int IntKind.i64 C) = SV.v (Value.int IntKind.i64 C) ∧ SV.h (15 : Nat) [(0 : Nat), (0 : Nat)] = SV.h (15 : Nat) [(0 : Nat), (0 : Nat)] ∧ True) ∧ True ∧ (m = m ∧ (0 : Nat) = (0 : Nat) ∧ xs = xs) ∧ True) ∧ (rcT C xs r c q + (1 : Int) - IntKind.i64.wrap (x_1 + (1 : Int))).toNat < (rcT C xs r c q + (1 : Int) - x_1).toNat))) (rq (ep.beq ep && (Nat.beq (4 : Nat) (4 : Nat) && decide ((0 : Int) ≤ IntKind.i64.wrap (IntKind.i64.wrap (r * C) + x_1) ∧ IntKind.i64.wrap (IntKind.i64.wrap (r * C) + x_1) < (↑m : Int)))) (rq (ep.beq ep && (IntKind.i64.wrap (IntKind.i64.wrap (r * C) + x_1)).toNat.blt (smA R C xs r c (rcT C xs r c q) (minusR n) x x_1.toNat).length) ((c ≤ IntKind.i64.wrap (x_1 + (1 : Int)) ∧ IntKind.i64.wrap (x_1 + (1 : Int)) ≤ rcT C xs r c q + (1 : Int)) ∧ ((SV.p (0 : Nat) (0 : Nat) = SV.p (0 : Nat) (0 : Nat) ∧ SV.p (2 : Nat) (0 : Nat) = SV.p (2 : Nat) (0 : Nat) ∧ SV.p (3 : Nat) (0 : Nat) = SV.p (3 : Nat) (0 : Nat) ∧ SV.v (Value.int IntKind.i64 (IntKind.i64.wrap (C - (1 : Int)))) = SV.v (Value.int IntKind.i64 (IntKind.i64.wrap (C - (1 : Int)))) ∧ SV.p (13 : Nat) (0 : Nat) = SV.p (13 : Nat) (0 : Nat) ∧ SV.v (Value.int IntKind.i64 (minusR n)) = SV.v (Value.int IntKind.i64 (minusR n)) ∧ SV.v (Value.int IntKind.i64 (IntKind.i64.wrap (x_1 + (1 : Int)))) = SV.v (Value.int IntKind.i64 (IntKind.i64.wrap (x_1 + (1 : Int)))) ∧ True) ∧ (SV.v (Value.int IntKind.i64 R) = SV.v (Value.int IntKind.i64 R) ∧ SV.v (Value.int IntKind.i64 C) = SV.v (Value.int IntKind.i64 C) ∧ SV.h (1 : Nat) [ep, (0 : Nat)] = SV.h (1 : Nat) [ep, (0 : Nat)] ∧ True) ∧ (m = m ∧ ep = ep ∧ (smA R C xs r c (rcT C xs r c q) (minusR n) x x_1.toNat).set (IntKind.i64.wrap (IntKind.i64.wrap (r * C) + x_1)).toNat (C4.mk x.g x.a x.gd x.m) = smA R C xs r c (rcT C xs r c q) (minusR n) x (IntKind.i64.wrap (x_1 + (1 : Int))).toNat) ∧ (SV.v (Value.int IntKind.i64 r) = SV.v (Value.int IntKind.i64 r) ∧ SV.v (Value.int IntKind.i64 c) = SV.v (Value.int IntKind.i64 c) ∧ True) ∧ (SV.v (Value.int IntKind.i32 x.g) = SV.v (Value.int IntKind.i32 x.g) ∧ SV.v (Value.int IntKind.i64 x.a) = SV.v (Value.int IntKind.i64 x.a) ∧ SV.v (Value.bool x.gd) = SV.v (Value.bool x.gd) ∧ SV.v (Value.int IntKind.i64 x.m) = SV.v (Value.int IntKind.i64 x.m) ∧ True) ∧ True ∧ True ∧ True ∧ True ∧ True ∧ True ∧ True ∧ True ∧ True ∧ (SV.v (Value.int IntKind.i64 R) = SV.v (Value.int IntKind.i64 R) ∧ SV.v (Value.int IntKind.i64 C) = SV.v (Value.int IntKind.i64 C) ∧ SV.h (15 : Nat) [(0 : Nat), (0 : Nat)] = SV.h (15 : Nat) [(0 : Nat), (0 : Nat)] ∧ True) ∧ True ∧ (m = m ∧ (0 : Nat) = (0 : Nat) ∧ xs = xs) ∧ True) ∧ (rcT C xs r c q + (1 : Int) - IntKind.i64.wrap (x_1 + (1 : Int))).toNat < (rcT C xs r c q + (1 : Int) - x_1).toNat)))) (rq (ep.beq ep && (Nat.beq (4 : Nat) (4 : Nat) && decide ((0 : Int) ≤ IntKind.i64.wrap (IntKind.i64.wrap (r * C) + x_1) ∧ IntKind.i64.wrap (IntKind.i64.wrap (r * C) + x_1) < (↑m : Int)))) (rq (ep.beq ep && (IntKind.i64.wrap (IntKind.i64.wrap (r * C) + x_1)).toNat.blt (smA R C xs r c (rcT C xs r c q) (minusR n) x x_1.toNat).length) ((c ≤ IntKind.i64.wrap (x_1 + (1 : Int)) ∧ IntKind.i64.wrap (x_1 + (1 : Int)) ≤ rcT C xs r c q + (1 : Int)) ∧ ((SV.p (0 : Nat) (0 : Nat) = SV.p (0 : Nat) (0 : Nat) ∧ SV.p (2 : Nat) (0 : Nat) = SV.p (2 : Nat) (0 : Nat) ∧ SV.p (3 : Nat) (0 : Nat) = SV.p (3 : Nat) (0 : Nat) ∧ SV.v (Value.int IntKind.i64 (IntKind.i64.wrap (C - (1 : Int)))) = SV.v (Value.int IntKind.i64 (IntKind.i64.wrap (C - (1 : Int)))) ∧ SV.p (13 : Nat) (0 : Nat) = SV.p (13 : Nat) (0 : Nat) ∧ SV.v (Value.int IntKind.i64 (minusR n)) = SV.v (Value.int IntKind.i64 (minusR n)) ∧ SV.v (Value.int IntKind.i64 (IntKind.i64.wrap (x_1 + (1 : Int)))) = SV.v (Value.int IntKind.i64 (IntKind.i64.wrap (x_1 + (1 : Int)))) ∧ True) ∧ (SV.v (Value.int IntKind.i64 R) = SV.v (Value.int IntKind.i64 R) ∧ SV.v (Value.int IntKind.i64 C) = SV.v (Value.int IntKind.i64 C) ∧ SV.h (1 : Nat) [ep, (0 : Nat)] = SV.h (1 : Nat) [ep, (0 : Nat)] ∧ True) ∧ (m = m ∧ ep = ep ∧ (smA R C xs r c (rcT C xs r c q) (minusR n) x x_1.toNat).set (IntKind.i64.wrap (IntKind.i64.wrap (r * C) + x_1)).toNat (C4.mk x.g x.a x.gd x.m) = smA R C xs r c (rcT C xs r c q) (minusR n) x (IntKind.i64.wrap (x_1 + (1 : Int))).toNat) ∧ (SV.v (Value.int IntKind.i64 r) = SV.v (Value.int IntKind.i64 r) ∧ SV.v (Value.int IntKind.i64 c) = SV.v (Value.int IntKind.i64 c) ∧ True) ∧ (SV.v (Value.int IntKind.i32 x.g) = SV.v (Value.int IntKind.i32 x.g) ∧ SV.v (Value.int IntKind.i64 x.a) = SV.v (Value.int IntKind.i64 x.a) ∧ SV.v (Value.bool x.gd) = SV.v (Value.bool x.gd) ∧ SV.v (Value.int IntKind.i64 x.m) = SV.v (Value.int IntKind.i64 x.m) ∧ True) ∧ True ∧ True ∧ True ∧ True ∧ True ∧ True ∧ True ∧ True ∧ True ∧ (SV.v (Value.int IntKind.i64 R) = SV.v (Value.int IntKind.i64 R) ∧ SV.v (Value.int IntKind.i64 C) = SV.v (Value.int IntKind.i64 C) ∧ SV.h (15 : Nat) [(0 : Nat), (0 : Nat)] = SV.h (15 : Nat) [(0 : Nat), (0 : Nat)] ∧ True) ∧ True ∧ (m = m ∧ (0 : Nat) = (0 : Nat) ∧ xs = xs) ∧ True) ∧ (rcT C xs r c q + (1 : Int) - IntKind.i64.wrap (x_1 + (1 : Int))).toNat < (rcT C xs r c q + (1 : Int) - x_1).toNat)))) ((SV.v (Value.int IntKind.i64 (0 : Int)) = SV.v (Value.int IntKind.i64 (rcE R C r c)) ∧ True) ∧ (SV.v (Value.int IntKind.i64 R) = SV.v (Value.int IntKind.i64 R) ∧ SV.v (Value.int IntKind.i64 C) = SV.v (Value.int IntKind.i64 C) ∧ SV.h (1 : Nat) [ep, (0 : Nat)] = SV.h (1 : Nat) [ep, (0 : Nat)] ∧ True) ∧ (m = m ∧ ep = ep ∧ smA R C xs r c (rcT C xs r c q) (minusR n) x x_1.toNat = rcL R C xs r c n x q) ∧ True))))) (by kernel_rfl) ?_
  clear hp hφ
  have h1 := hw.r0
  have h2 := hw.r1
  have h3 := hw.c0
  have h4 := hw.c1
  have h5 := hw.sz
  have hlen := hw.len
  have eta : ∀ y : C4, C4.mk y.g y.a y.gd y.m = y := fun _ => rfl
  simp only [II, hw, hlen, eta, ge_iff_le, br_iff, rq_iff, nbeq, true_and, and_true, true_implies, Bool.true_and, Bool.and_true, Bool.and_eq_true, Bool.not_eq_true', Bool.not_eq_false', Nat.blt_eq, decide_eq_true_eq, decide_eq_false_iff_not]
  have hg : 0 ≤ r → 0 ≤ c → (xs.getD (r * C + c).toNat C4.no).gd = gdr C xs r c.toNat := fun r0 c0 => by
    have e : (r * C + c).toNat = r.toNat * C.toNat + c.toNat := by
      rw [Int.toNat_add (Int.mul_nonneg r0 (by omega)) c0, Int.toNat_mul (by omega) (by omega)]
    rw [e]; rfl
  cases hi : inD R C r c
  · have hE : rcE R C r c = 11 := by rw [rcE, hi]; rfl
    have hL : rcL R C xs r c n x q = xs := by rw [rcL, rcC, hi]; rfl
    rw [hE, hL]
    exact ⟨fun _ => ⟨rfl, rfl⟩, fun h => by cases h⟩
  have hE : rcE R C r c = 0 := by rw [rcE, hi]; rfl
  have hin := inD_iff.1 hi
  obtain ⟨m1, m2⟩ := mul_bd (r := r) (C := C) (by omega) (by omega) (by omega) (by omega)
  obtain ⟨m3, m4⟩ := mul_bd (r := R) (C := C) (by omega) (by omega) (by omega) (by omega)
  have m5 := ix_bd (R := R) (C := C) hin.2.1 hin.2.2.2 hin.2.2.1
  have hg := hg hin.1 hin.2.2.1
  have hz := fdZ_le (gdr C xs r) (C.toNat - 1 - c.toNat) c.toNat
  have hto1 : c ≤ fdRT C xs r c ∧ fdRT C xs r c < C := by unfold fdRT; omega
  rw [hE, hg, wrap64 (x := r * C) (by omega) (by omega), wrap64 (x := C - 1) (by omega) (by omega)]
  have hmR : -1000 ≤ minusR n ∧ minusR n ≤ 1000 := by unfold minusR; split <;> (try split) <;> omega
  have gen : ∀ to : Int, c ≤ to → to < C → ∀ k : Nat, c ≤ k → (k : Int) ≤ to → ∀ y, y = slideF (un C.toNat xs) r c to (minusR n) x r.toNat k → (smA R C xs r c to (minusR n) x k).set (r * C + k).toNat y = smA R C xs r c to (minusR n) x (k + 1) := fun to t0 t1 k k0 k1 y hy => by
    obtain ⟨i, rfl⟩ : ∃ i : Nat, r = i := ⟨r.toNat, by omega⟩
    obtain ⟨Rn, rfl⟩ : ∃ Rn : Nat, R = Rn := ⟨R.toNat, by omega⟩
    obtain ⟨Cn, rfl⟩ : ∃ Cn : Nat, C = Cn := ⟨C.toNat, by omega⟩
    subst hy
    unfold smA
    rw [Int.toNat_natCast, Int.toNat_natCast, ← cast_ix, Int.toNat_natCast, Int.toNat_natCast]
    exact cwA_step (by omega) (by omega) k0
  have hAl : ∀ to k, (smA R C xs r c to (minusR n) x k).length = m := fun to k => by
    unfold smA
    rw [flF_length]
    exact Int.ofNat_inj.1 (by rw [Int.natCast_mul, Int.toNat_of_nonneg (by omega), Int.toNat_of_nonneg (by omega), h5])
  have hz0 : ∀ to, xs = smA R C xs r c to (minusR n) x c.toNat := fun to => by
    obtain ⟨i, rfl⟩ : ∃ i : Nat, r = i := ⟨r.toNat, by omega⟩
    unfold smA
    rw [cwA_zero hin.2.2.1]
    refine (flF_un ?_).symm
    have := hAl to 0
    unfold smA at this
    rw [flF_length] at this
    omega
  have hfin : ∀ to k : Int, to + 1 = k → c ≤ k → smA R C xs r c to (minusR n) x k.toNat = smL R C xs r c to (minusR n) x := fun to k hk h0 => by
    obtain ⟨i, rfl⟩ : ∃ i : Nat, r = i := ⟨r.toNat, by omega⟩
    exact cwA_all (to := to) (by omega) fun r' c' h => by rw [slideF, if_neg (by omega)]
  have hold : ∀ y : Int, 0 ≤ y → xs.getD (r * C + y).toNat C4.no = un C.toNat xs r.toNat y.toNat := fun y y0 => by
    have e : (r * C + y).toNat = r.toNat * C.toNat + y.toNat := by
      rw [Int.toNat_add (by omega) y0, Int.toNat_mul (by omega) (by omega)]
    rw [e]; rfl
  refine ⟨(fun h => by cases h), fun _ => ⟨fun hq => ⟨by omega, fun hgd => ⟨rfl, ?_⟩, fun hgd => ⟨rfl, ?_⟩⟩, fun hq => ?_⟩⟩
  · rw [rcL, rcC, hi, hq, hgd]; rfl
  · have hL : rcL R C xs r c n x q = smL R C xs r c (fdRT C xs r c) (minusR n) x := by rw [rcL, rcC, hi, hq, hgd]; rfl
    have hT : rcT C xs r c q = fdRT C xs r c := by rw [rcT, hq]; rfl
    rw [hT, hL]
    generalize fdRT C xs r c = to at *
    have t0 := hto1.1
    have t1 := hto1.2
    refine ⟨by omega, hz0 to, fun k ⟨k0, k1⟩ => ⟨fun k2 => ?_, fun k2 => ⟨rfl, hfin _ _ (by omega) k0⟩⟩⟩
    have hs := gen to t0 t1 k.toNat (by omega) (by omega)
    have ek : ((k.toNat : Nat) : Int) = k := by omega
    have e1 : (k + 1).toNat = k.toNat + 1 := by omega
    have m6 := ix_bd (R := R) (C := C) (c := k) hin.2.1 (by omega) (by omega)
    rw [ek] at hs
    rw [wrap64 (x := to - k) (by omega) (by omega), wrap64 (x := c - k) (by omega) (by omega), wrap64 (x := k + minusR n) (by omega) (by omega), wrap64 (x := r * C + k) (by omega) (by omega), wrap64 (x := k + 1) (by omega) (by omega), e1, hAl]
    refine ⟨fun b1 => ⟨fun b2 => ?_, fun b2 => ?_⟩, fun b1 => ?_⟩
    · have m7 := ix_bd (R := R) (C := C) (c := k + minusR n) hin.2.1 (by omega) (by omega)
      refine ⟨by omega, by omega, by omega, by omega, hs _ ?_, by omega⟩
      rw [hold _ (by omega), slideF, if_pos (by omega), if_pos (by omega), ek]
    · refine ⟨by omega, by omega, by omega, hs _ ?_, by omega⟩
      rw [slideF, if_pos (by omega), if_neg (by omega)]
    · refine ⟨by omega, by omega, by omega, hs _ ?_, by omega⟩
      rw [slideF, if_pos (by omega), if_neg (by omega)]
  · have hL : rcL R C xs r c n x q = smL R C xs r c (C - 1) (minusR n) x := by rw [rcL, rcC, hi, hq]; rfl
    have hT : rcT C xs r c q = C - 1 := by rw [rcT, hq]; rfl
    rw [hT, hL]
    obtain ⟨to, hto⟩ : ∃ to, C - 1 = to := ⟨_, rfl⟩
    rw [hto]
    have t0 : c ≤ to := by omega
    have t1 : to < C := by omega
    refine ⟨by omega, hz0 to, fun k ⟨k0, k1⟩ => ⟨fun k2 => ?_, fun k2 => ⟨rfl, hfin _ _ (by omega) k0⟩⟩⟩
    have hs := gen to t0 t1 k.toNat (by omega) (by omega)
    have ek : ((k.toNat : Nat) : Int) = k := by omega
    have e1 : (k + 1).toNat = k.toNat + 1 := by omega
    have m6 := ix_bd (R := R) (C := C) (c := k) hin.2.1 (by omega) (by omega)
    rw [ek] at hs
    rw [wrap64 (x := to - k) (by omega) (by omega), wrap64 (x := c - k) (by omega) (by omega), wrap64 (x := k + minusR n) (by omega) (by omega), wrap64 (x := r * C + k) (by omega) (by omega), wrap64 (x := k + 1) (by omega) (by omega), e1, hAl]
    refine ⟨fun b1 => ⟨fun b2 => ?_, fun b2 => ?_⟩, fun b1 => ?_⟩
    · have m7 := ix_bd (R := R) (C := C) (c := k + minusR n) hin.2.1 (by omega) (by omega)
      refine ⟨by omega, by omega, by omega, by omega, hs _ ?_, by omega⟩
      rw [hold _ (by omega), slideF, if_pos (by omega), if_pos (by omega), ek]
    · refine ⟨by omega, by omega, by omega, hs _ ?_, by omega⟩
      rw [slideF, if_pos (by omega), if_neg (by omega)]
    · refine ⟨by omega, by omega, by omega, hs _ ?_, by omega⟩
      rw [slideF, if_pos (by omega), if_neg (by omega)]
end Go.Proofs.Ytdhhagangmkloaa
