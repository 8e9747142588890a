/- Laws of layer 2 answer true. -/
import Derived.Test.YtgpfdajjkalloaaGlyD
set_option linter.unusedSimpArgs false
set_option linter.unusedVariables false
set_option linter.unusedSectionVars false
namespace Go.Proofs.Ytgpfdajjkalloaa
open Go Go.Sym

def dist : List Int → Bool
  | [] => true
  | x :: xs => xs.all (fun y => y != x) && dist xs
theorem dist_ne : ∀ {l : List Int} {i j : Nat} {x y : Int}, dist l = true → i < j → l[i]? = some x → l[j]? = some y → x ≠ y
  | [], _, _, _, _, _, _, h, _ => by simp at h
  | z :: l, 0, j + 1, x, y, hd, _, hx, hy => by
    simp only [dist, Bool.and_eq_true, List.all_eq_true, bne_iff_ne] at hd
    simp at hx
    subst hx
    exact fun e => hd.1 y (List.mem_of_getElem? (by simpa using hy)) e.symm
  | z :: l, i + 1, j + 1, x, y, hd, hij, hx, hy => by
    simp only [dist, Bool.and_eq_true] at hd
    exact dist_ne hd.2 (Nat.lt_of_succ_lt_succ hij) (by simpa using hx) (by simpa using hy)
theorem cp_dist : dist ((tabL 2).set 32 (-1)) = true := by kernel_rfl
theorem cp_all : ∀ n : Nat, n < 256 → (ofT 2 (n : Int) == 65533) = false := by decide +kernel
theorem cp_at {n : Nat} (h : n < 256) (h32 : n ≠ 32) : ((tabL 2).set 32 (-1))[n]? = some (ofT 2 (n : Int)) := by
  rw [List.getElem?_set_ne (fun e => h32 e.symm)]
  unfold tabL
  rw [List.getElem?_map, List.getElem?_range h]
  rfl
theorem cp_ne {n m : Nat} (hn : n < 256) (hm : m < 256) (h1 : n ≠ 32) (h2 : m ≠ 32) (h : n ≠ m) : ofT 2 (n : Int) ≠ ofT 2 (m : Int) := by
  rcases Nat.lt_or_gt_of_ne h with hlt | hlt
  · exact dist_ne cp_dist hlt (cp_at hn h1) (cp_at hm h2)
  · exact fun e => dist_ne cp_dist hlt (cp_at hm h2) (cp_at hn h1) e.symm
theorem cp_eq {a b : Int} (ha0 : 0 ≤ a) (ha1 : a ≤ 255) (hb0 : 0 ≤ b) (hb1 : b ≤ 255) :
    (ofT 2 a == ofT 2 b) = decide (a = b ∨ ((a = 0 ∨ a = 32) ∧ (b = 0 ∨ b = 32))) := by
  obtain ⟨n, hn, rfl⟩ := byte_nat ⟨ha0, ha1⟩
  obtain ⟨m, hm, rfl⟩ := byte_nat ⟨hb0, hb1⟩
  have e32 : ofT 2 ((32 : Nat) : Int) = 32 := by decide +kernel
  have e0 : ofT 2 ((0 : Nat) : Int) = 32 := by decide +kernel
  rw [Bool.eq_iff_iff, beq_iff_eq, decide_eq_true_eq]
  by_cases h1 : n = 32
  · subst h1
    by_cases h2 : m = 32
    · subst h2; simp
    · by_cases h3 : m = 0
      · subst h3; rw [e32, e0]; simp
      · have := cp_ne (n := 0) (m := m) (by omega) hm (by omega) h2 (fun e => h3 e.symm)
        rw [e0] at this
        rw [e32]
        constructor
        · intro h; exact absurd h this
        · intro h; omega
  · by_cases h2 : m = 32
    · subst h2
      by_cases h3 : n = 0
      · subst h3; rw [e32, e0]; simp
      · have := cp_ne (n := n) (m := 0) hn (by omega) h1 (by omega) h3
        rw [e0] at this
        rw [e32]
        constructor
        · intro h; exact absurd h this
        · intro h; omega
    · by_cases h3 : n = m
      · subst h3; simp
      · have := cp_ne hn hm h1 h2 h3
        constructor
        · intro h; exact absurd h this
        · intro h; omega

set_option maxHeartbeats 4000000 in
theorem law_codes : PureOk Try.prog 6 psLC := by
  refine pureOk_mk (cfg := pureCfg Try.prog [(11, psOf), (13, psBack), (15, psTurn), (10, psOf), (14, psRBack), (12, psAwake)] 8) (τ := Empty) (fun _ => pureCfg_ok mixed ⟨ok_Of, ok_back, ok_turn, ok_rOf, ok_rBack, ok_awake, trivial⟩) (n := 60) Try.func6 (fun _ => by kernel_rfl) (fun _ => by kernel_rfl) ?_
  intro ⟨a, b⟩ hφ
  obtain ⟨⟨ha0, ha1⟩, hb0, hb1⟩ : u8 a ∧ u8 b := hφ
  refine kcast (B := ((0 ≤ a ∧ a ≤ 255) ∧ (0 ≤ b ∧ b ≤ 255) ∧ br (a == 0) (br (b == 0) (br (ofT 2 a == 65533) (SV.v (Value.bool false) = SV.v (Value.bool true)) (br (a == b) (br (!(ofT 2 a == ofT 2 b) == true) (SV.v (Value.bool false) = SV.v (Value.bool true)) (br (decide (a ≥ 128)) ((0 ≤ a ∧ a ≤ 255) ∧ br (ofT 1 a != 65533) (SV.v (Value.bool false) = SV.v (Value.bool true)) ((0 ≤ a ∧ a ≤ 255) ∧ br (ofT 3 a != 65533) (SV.v (Value.bool false) = SV.v (Value.bool true)) ((0 ≤ a ∧ a ≤ 255) ∧ br (ofT 4 a != 65533) (SV.v (Value.bool false) = SV.v (Value.bool true)) ((0 ≤ a.tmod 128 ∧ a.tmod 128 ≤ 255) ∧ (0 ≤ IntKind.u8.wrap (a.tmod 128 + 128) ∧ IntKind.u8.wrap (a.tmod 128 + 128) ≤ 255) ∧ br (ofT 5 (a.tmod 128) == ofT 5 (IntKind.u8.wrap (a.tmod 128 + 128))) (True ∧ SV.v (Value.bool true) = SV.v (Value.bool true)) (SV.v (Value.bool false) = SV.v (Value.bool true)))))) ((0 ≤ a.tmod 128 ∧ a.tmod 128 ≤ 255) ∧ (0 ≤ IntKind.u8.wrap (a.tmod 128 + 128) ∧ IntKind.u8.wrap (a.tmod 128 + 128) ≤ 255) ∧ br (ofT 5 (a.tmod 128) == ofT 5 (IntKind.u8.wrap (a.tmod 128 + 128))) (True ∧ SV.v (Value.bool true) = SV.v (Value.bool true)) (SV.v (Value.bool false) = SV.v (Value.bool true))))) (br (!(ofT 2 a == ofT 2 b) == true) (SV.v (Value.bool false) = SV.v (Value.bool true)) (br (decide (a ≥ 128)) ((0 ≤ a ∧ a ≤ 255) ∧ br (ofT 1 a != 65533) (SV.v (Value.bool false) = SV.v (Value.bool true)) ((0 ≤ a ∧ a ≤ 255) ∧ br (ofT 3 a != 65533) (SV.v (Value.bool false) = SV.v (Value.bool true)) ((0 ≤ a ∧ a ≤ 255) ∧ br (ofT 4 a != 65533) (SV.v (Value.bool false) = SV.v (Value.bool true)) ((0 ≤ a.tmod 128 ∧ a.tmod 128 ≤ 255) ∧ (0 ≤ IntKind.u8.wrap (a.tmod 128 + 128) ∧ IntKind.u8.wrap (a.tmod 128 + 128) ≤ 255) ∧ br (ofT 5 (a.tmod 128) == ofT 5 (IntKind.u8.wrap (a.tmod 128 + 128))) (True ∧ SV.v (Value.bool true) = SV.v (Value.bool true)) (SV.v (Value.bool false) = SV.v (Value.bool true)))))) ((0 ≤ a.tmod 128 ∧ a.tmod 128 ≤ 255) ∧ (0 ≤ IntKind.u8.wrap (a.tmod 128 + 128) ∧ IntKind.u8.wrap (a.tmod 128 + 128) ≤ 255) ∧ br (ofT 5 (a.tmod 128) == ofT 5 (IntKind.u8.wrap (a.tmod 128 + 128))) (True ∧ SV.v (Value.bool true) = SV.v (Value.bool true)) (SV.v (Value.bool false) = SV.v (Value.bool true))))))) (br (ofT 2 a == 65533) (SV.v (Value.bool false) = SV.v (Value.bool true)) (br (a == b) (br (!(ofT 2 a == ofT 2 b) == true) (SV.v (Value.bool false) = SV.v (Value.bool true)) (br (decide (a ≥ 128)) ((0 ≤ a ∧ a ≤ 255) ∧ br (ofT 1 a != 65533) (SV.v (Value.bool false) = SV.v (Value.bool true)) ((0 ≤ a ∧ a ≤ 255) ∧ br (ofT 3 a != 65533) (SV.v (Value.bool false) = SV.v (Value.bool true)) ((0 ≤ a ∧ a ≤ 255) ∧ br (ofT 4 a != 65533) (SV.v (Value.bool false) = SV.v (Value.bool true)) ((0 ≤ a.tmod 128 ∧ a.tmod 128 ≤ 255) ∧ (0 ≤ IntKind.u8.wrap (a.tmod 128 + 128) ∧ IntKind.u8.wrap (a.tmod 128 + 128) ≤ 255) ∧ br (ofT 5 (a.tmod 128) == ofT 5 (IntKind.u8.wrap (a.tmod 128 + 128))) (True ∧ SV.v (Value.bool true) = SV.v (Value.bool true)) (SV.v (Value.bool false) = SV.v (Value.bool true)))))) ((0 ≤ a.tmod 128 ∧ a.tmod 128 ≤ 255) ∧ (0 ≤ IntKind.u8.wrap (a.tmod 128 + 128) ∧ IntKind.u8.wrap (a.tmod 128 + 128) ≤ 255) ∧ br (ofT 5 (a.tmod 128) == ofT 5 (IntKind.u8.wrap (a.tmod 128 + 128))) (True ∧ SV.v (Value.bool true) = SV.v (Value.bool true)) (SV.v (Value.bool false) = SV.v (Value.bool true))))) (br (!(ofT 2 a == ofT 2 b) == (b == 32)) (SV.v (Value.bool false) = SV.v (Value.bool true)) (br (decide (a ≥ 128)) ((0 ≤ a ∧ a ≤ 255) ∧ br (ofT 1 a != 65533) (SV.v (Value.bool false) = SV.v (Value.bool true)) ((0 ≤ a ∧ a ≤ 255) ∧ br (ofT 3 a != 65533) (SV.v (Value.bool false) = SV.v (Value.bool true)) ((0 ≤ a ∧ a ≤ 255) ∧ br (ofT 4 a != 65533) (SV.v (Value.bool false) = SV.v (Value.bool true)) ((0 ≤ a.tmod 128 ∧ a.tmod 128 ≤ 255) ∧ (0 ≤ IntKind.u8.wrap (a.tmod 128 + 128) ∧ IntKind.u8.wrap (a.tmod 128 + 128) ≤ 255) ∧ br (ofT 5 (a.tmod 128) == ofT 5 (IntKind.u8.wrap (a.tmod 128 + 128))) (True ∧ SV.v (Value.bool true) = SV.v (Value.bool true)) (SV.v (Value.bool false) = SV.v (Value.bool true)))))) ((0 ≤ a.tmod 128 ∧ a.tmod 128 ≤ 255) ∧ (0 ≤ IntKind.u8.wrap (a.tmod 128 + 128) ∧ IntKind.u8.wrap (a.tmod 128 + 128) ≤ 255) ∧ br (ofT 5 (a.tmod 128) == ofT 5 (IntKind.u8.wrap (a.tmod 128 + 128))) (True ∧ SV.v (Value.bool true) = SV.v (Value.bool true)) (SV.v (Value.bool false) = SV.v (Value.bool true)))))))) (br (a == 32) (br (b == 0) (br (ofT 2 a == 65533) (SV.v (Value.bool false) = SV.v (Value.bool true)) (br (a == b) (br (!(ofT 2 a == ofT 2 b) == true) (SV.v (Value.bool false) = SV.v (Value.bool true)) (br (decide (a ≥ 128)) ((0 ≤ a ∧ a ≤ 255) ∧ br (ofT 1 a != 65533) (SV.v (Value.bool false) = SV.v (Value.bool true)) ((0 ≤ a ∧ a ≤ 255) ∧ br (ofT 3 a != 65533) (SV.v (Value.bool false) = SV.v (Value.bool true)) ((0 ≤ a ∧ a ≤ 255) ∧ br (ofT 4 a != 65533) (SV.v (Value.bool false) = SV.v (Value.bool true)) ((0 ≤ a.tmod 128 ∧ a.tmod 128 ≤ 255) ∧ (0 ≤ IntKind.u8.wrap (a.tmod 128 + 128) ∧ IntKind.u8.wrap (a.tmod 128 + 128) ≤ 255) ∧ br (ofT 5 (a.tmod 128) == ofT 5 (IntKind.u8.wrap (a.tmod 128 + 128))) (True ∧ SV.v (Value.bool true) = SV.v (Value.bool true)) (SV.v (Value.bool false) = SV.v (Value.bool true)))))) ((0 ≤ a.tmod 128 ∧ a.tmod 128 ≤ 255) ∧ (0 ≤ IntKind.u8.wrap (a.tmod 128 + 128) ∧ IntKind.u8.wrap (a.tmod 128 + 128) ≤ 255) ∧ br (ofT 5 (a.tmod 128) == ofT 5 (IntKind.u8.wrap (a.tmod 128 + 128))) (True ∧ SV.v (Value.bool true) = SV.v (Value.bool true)) (SV.v (Value.bool false) = SV.v (Value.bool true))))) (br (!(ofT 2 a == ofT 2 b) == true) (SV.v (Value.bool false) = SV.v (Value.bool true)) (br (decide (a ≥ 128)) ((0 ≤ a ∧ a ≤ 255) ∧ br (ofT 1 a != 65533) (SV.v (Value.bool false) = SV.v (Value.bool true)) ((0 ≤ a ∧ a ≤ 255) ∧ br (ofT 3 a != 65533) (SV.v (Value.bool false) = SV.v (Value.bool true)) ((0 ≤ a ∧ a ≤ 255) ∧ br (ofT 4 a != 65533) (SV.v (Value.bool false) = SV.v (Value.bool true)) ((0 ≤ a.tmod 128 ∧ a.tmod 128 ≤ 255) ∧ (0 ≤ IntKind.u8.wrap (a.tmod 128 + 128) ∧ IntKind.u8.wrap (a.tmod 128 + 128) ≤ 255) ∧ br (ofT 5 (a.tmod 128) == ofT 5 (IntKind.u8.wrap (a.tmod 128 + 128))) (True ∧ SV.v (Value.bool true) = SV.v (Value.bool true)) (SV.v (Value.bool false) = SV.v (Value.bool true)))))) ((0 ≤ a.tmod 128 ∧ a.tmod 128 ≤ 255) ∧ (0 ≤ IntKind.u8.wrap (a.tmod 128 + 128) ∧ IntKind.u8.wrap (a.tmod 128 + 128) ≤ 255) ∧ br (ofT 5 (a.tmod 128) == ofT 5 (IntKind.u8.wrap (a.tmod 128 + 128))) (True ∧ SV.v (Value.bool true) = SV.v (Value.bool true)) (SV.v (Value.bool false) = SV.v (Value.bool true))))))) (br (ofT 2 a == 65533) (SV.v (Value.bool false) = SV.v (Value.bool true)) (br (a == b) (br (!(ofT 2 a == ofT 2 b) == true) (SV.v (Value.bool false) = SV.v (Value.bool true)) (br (decide (a ≥ 128)) ((0 ≤ a ∧ a ≤ 255) ∧ br (ofT 1 a != 65533) (SV.v (Value.bool false) = SV.v (Value.bool true)) ((0 ≤ a ∧ a ≤ 255) ∧ br (ofT 3 a != 65533) (SV.v (Value.bool false) = SV.v (Value.bool true)) ((0 ≤ a ∧ a ≤ 255) ∧ br (ofT 4 a != 65533) (SV.v (Value.bool false) = SV.v (Value.bool true)) ((0 ≤ a.tmod 128 ∧ a.tmod 128 ≤ 255) ∧ (0 ≤ IntKind.u8.wrap (a.tmod 128 + 128) ∧ IntKind.u8.wrap (a.tmod 128 + 128) ≤ 255) ∧ br (ofT 5 (a.tmod 128) == ofT 5 (IntKind.u8.wrap (a.tmod 128 + 128))) (True ∧ SV.v (Value.bool true) = SV.v (Value.bool true)) (SV.v (Value.bool false) = SV.v (Value.bool true)))))) ((0 ≤ a.tmod 128 ∧ a.tmod 128 ≤ 255) ∧ (0 ≤ IntKind.u8.wrap (a.tmod 128 + 128) ∧ IntKind.u8.wrap (a.tmod 128 + 128) ≤ 255) ∧ br (ofT 5 (a.tmod 128) == ofT 5 (IntKind.u8.wrap (a.tmod 128 + 128))) (True ∧ SV.v (Value.bool true) = SV.v (Value.bool true)) (SV.v (Value.bool false) = SV.v (Value.bool true))))) (br (!(ofT 2 a == ofT 2 b) == (b == 32)) (SV.v (Value.bool false) = SV.v (Value.bool true)) (br (decide (a ≥ 128)) ((0 ≤ a ∧ a ≤ 255) ∧ br (ofT 1 a != 65533) (SV.v (Value.bool false) = SV.v (Value.bool true)) ((0 ≤ a ∧ a ≤ 255) ∧ br (ofT 3 a != 65533) (SV.v (Value.bool false) = SV.v (Value.bool true)) ((0 ≤ a ∧ a ≤ 255) ∧ br (ofT 4 a != 65533) (SV.v (Value.bool false) = SV.v (Value.bool true)) ((0 ≤ a.tmod 128 ∧ a.tmod 128 ≤ 255) ∧ (0 ≤ IntKind.u8.wrap (a.tmod 128 + 128) ∧ IntKind.u8.wrap (a.tmod 128 + 128) ≤ 255) ∧ br (ofT 5 (a.tmod 128) == ofT 5 (IntKind.u8.wrap (a.tmod 128 + 128))) (True ∧ SV.v (Value.bool true) = SV.v (Value.bool true)) (SV.v (Value.bool false) = SV.v (Value.bool true)))))) ((0 ≤ a.tmod 128 ∧ a.tmod 128 ≤ 255) ∧ (0 ≤ IntKind.u8.wrap (a.tmod 128 + 128) ∧ IntKind.u8.wrap (a.tmod 128 + 128) ≤ 255) ∧ br (ofT 5 (a.tmod 128) == ofT 5 (IntKind.u8.wrap (a.tmod 128 + 128))) (True ∧ SV.v (Value.bool true) = SV.v (Value.bool true)) (SV.v (Value.bool false) = SV.v (Value.bool true)))))))) (br (ofT 2 a == 65533) (SV.v (Value.bool false) = SV.v (Value.bool true)) (br (a == b) (br (!(ofT 2 a == ofT 2 b) == true) (SV.v (Value.bool false) = SV.v (Value.bool true)) (br (decide (a ≥ 128)) ((0 ≤ a ∧ a ≤ 255) ∧ br (ofT 1 a != 65533) (SV.v (Value.bool false) = SV.v (Value.bool true)) ((0 ≤ a ∧ a ≤ 255) ∧ br (ofT 3 a != 65533) (SV.v (Value.bool false) = SV.v (Value.bool true)) ((0 ≤ a ∧ a ≤ 255) ∧ br (ofT 4 a != 65533) (SV.v (Value.bool false) = SV.v (Value.bool true)) ((0 ≤ a.tmod 128 ∧ a.tmod 128 ≤ 255) ∧ (0 ≤ IntKind.u8.wrap (a.tmod 128 + 128) ∧ IntKind.u8.wrap (a.tmod 128 + 128) ≤ 255) ∧ br (ofT 5 (a.tmod 128) == ofT 5 (IntKind.u8.wrap (a.tmod 128 + 128))) (True ∧ SV.v (Value.bool true) = SV.v (Value.bool true)) (SV.v (Value.bool false) = SV.v (Value.bool true)))))) ((0 ≤ a.tmod 128 ∧ a.tmod 128 ≤ 255) ∧ (0 ≤ IntKind.u8.wrap (a.tmod 128 + 128) ∧ IntKind.u8.wrap (a.tmod 128 + 128) ≤ 255) ∧ br (ofT 5 (a.tmod 128) == ofT 5 (IntKind.u8.wrap (a.tmod 128 + 128))) (True ∧ SV.v (Value.bool true) = SV.v (Value.bool true)) (SV.v (Value.bool false) = SV.v (Value.bool true))))) (br (!(ofT 2 a == ofT 2 b) == false) (SV.v (Value.bool false) = SV.v (Value.bool true)) (br (decide (a ≥ 128)) ((0 ≤ a ∧ a ≤ 255) ∧ br (ofT 1 a != 65533) (SV.v (Value.bool false) = SV.v (Value.bool true)) ((0 ≤ a ∧ a ≤ 255) ∧ br (ofT 3 a != 65533) (SV.v (Value.bool false) = SV.v (Value.bool true)) ((0 ≤ a ∧ a ≤ 255) ∧ br (ofT 4 a != 65533) (SV.v (Value.bool false) = SV.v (Value.bool true)) ((0 ≤ a.tmod 128 ∧ a.tmod 128 ≤ 255) ∧ (0 ≤ IntKind.u8.wrap (a.tmod 128 + 128) ∧ IntKind.u8.wrap (a.tmod 128 + 128) ≤ 255) ∧ br (ofT 5 (a.tmod 128) == ofT 5 (IntKind.u8.wrap (a.tmod 128 + 128))) (True ∧ SV.v (Value.bool true) = SV.v (Value.bool true)) (SV.v (Value.bool false) = SV.v (Value.bool true)))))) ((0 ≤ a.tmod 128 ∧ a.tmod 128 ≤ 255) ∧ (0 ≤ IntKind.u8.wrap (a.tmod 128 + 128) ∧ IntKind.u8.wrap (a.tmod 128 + 128) ≤ 255) ∧ br (ofT 5 (a.tmod 128) == ofT 5 (IntKind.u8.wrap (a.tmod 128 + 128))) (True ∧ SV.v (Value.bool true) = SV.v (Value.bool true)) (SV.v (Value.bool false) = SV.v (Value.bool true)))))))))) (by kernel_rfl) ?_
  have f1 : (ofT 2 a == 65533) = false := by
    obtain ⟨n, hn, rfl⟩ := byte_nat ⟨ha0, ha1⟩
    exact cp_all n hn
  have f2 := cp_eq ha0 ha1 hb0 hb1
  have f3 : 128 ≤ a → (ofT 1 a != 65533) = false ∧ (ofT 3 a != 65533) = false ∧ (ofT 4 a != 65533) = false := fun h => by
    have hp : plainT a = 65533 := by unfold plainT; rw [if_neg (by omega)]
    refine ⟨?_, ?_, ?_⟩
    · unfold ofT; simp [hp]
    · unfold ofT; simp [hp, show ¬ a ≤ 96 by omega, show ¬ a ≤ 126 by omega]
    · unfold ofT; simp [hp, show ¬ a ≤ 63 by omega]
  have hm : 0 ≤ a.tmod 128 ∧ a.tmod 128 < 128 := ⟨Int.tmod_nonneg _ ha0, Int.tmod_lt_of_pos _ (by omega)⟩
  have f5 : (ofT 5 (a.tmod 128) == ofT 5 (a.tmod 128 + 128)) = true := by
    unfold ofT
    simp [show ¬ 128 ≤ a.tmod 128 by omega, show 128 ≤ a.tmod 128 + 128 by omega]
  rw [wrap_u8 (x := a.tmod 128 + 128) (by omega) (by omega), f1, f2, f5]
  generalize a.tmod 128 = m at *
  generalize (ofT 1 a != 65533) = q1 at *
  generalize (ofT 3 a != 65533) = q3 at *
  generalize (ofT 4 a != 65533) = q4 at *
  clear f1 f2 f5
  refine ⟨⟨ha0, ha1⟩, ⟨hb0, hb1⟩, ?_⟩
  repeat' (first | refine br_intro (fun _ => ?_) (fun _ => ?_) | refine And.intro ?_ ?_)
  all_goals first | exact trivial | rfl | omega | (exfalso; by_cases p1 : a = 0 <;> by_cases p2 : a = 32 <;> by_cases p3 : b = 0 <;> by_cases p4 : b = 32 <;> by_cases p5 : a = b <;> (first | omega | (simp [p1, p2, p3, p4, p5] at *; done) | (simp [p1, p2, p3, p4, p5] at *; omega) | (simp_all; done) | (simp_all; omega)))


end Go.Proofs.Ytgpfdajjkalloaa
