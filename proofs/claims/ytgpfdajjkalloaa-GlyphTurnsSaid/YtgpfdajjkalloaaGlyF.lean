/- Laws of layer 2 answer true. -/
import Derived.Test.YtgpfdajjkalloaaGlyD
set_option linter.unusedSimpArgs false
set_option linter.unusedVariables false
set_option linter.unusedSectionVars false
namespace Go.Proofs.Ytgpfdajjkalloaa
open Go Go.Sym

theorem plain_back {b : Int} (h0 : 0 ≤ b) (h1 : b ≤ 255) : backT 1 b = if 32 ≤ b ∧ b ≤ 126 then b else -1 := by
  have e : ∀ n : Nat, hit 1 b n = true → (32 ≤ (n : Int) ∧ (n : Int) ≤ 126) ∧ (n : Int) = b := fun n hn => by
    unfold hit ofT plainT at hn
    simp only [if_true, Bool.and_eq_true, beq_iff_eq] at hn
    obtain ⟨hn, _⟩ := hn
    split at hn
    · rename_i h; exact ⟨h, hn⟩
    · omega
  split
  · rename_i h
    have hs : hit 1 b b.toNat = true := by
      rw [hit_nat h0]; unfold ofT plainT; simp [h.1, h.2]; omega
    rw [back_some (n := b.toNat) (by omega) hs (fun j hj => by
      cases hh : hit 1 b j with
      | false => rfl
      | true => have := e j hh; omega)]
    omega
  · rename_i h
    refine back_none fun j _ => ?_
    cases hh : hit 1 b j with
    | false => rfl
    | true => have := e j hh; omega
theorem caps {b : Int} (h0 : 64 ≤ b) (h1 : b ≤ 90) : ofT 1 b = b ∧ ofT 2 b = b ∧ ofT 3 b = b ∧ ofT 4 b = b ∧ ofT 5 b = b := by
  have hp : plainT b = b := by unfold plainT; rw [if_pos (by omega)]
  refine ⟨?_, ?_, ?_, ?_, ?_⟩
  · unfold ofT; simp [hp]
  · unfold ofT; simp [hp, show ¬ b = 0 by omega, show ¬ b < 32 by omega, show ¬ b = 127 by omega, show ¬ b = 255 by omega, show ¬ 128 ≤ b by omega]
  · unfold ofT; simp [hp, show ¬ 94 ≤ b by omega, show ¬ 97 ≤ b by omega]
  · unfold ofT; simp [hp, show ¬ b ≤ 63 by omega]
  · unfold ofT; simp [hp, show ¬ 128 ≤ b by omega, show ¬ 97 ≤ b by omega]

structure KSet (k : Int) : Prop where
  l : 1 ≤ k
  u : k ≤ 6
def annK : Ann Empty where
  α := Int
  φ := KSet
  μ k := (6 - k).toNat
  get st := getI st.tm 10
  f st k := tmpl [0, 1, 2, 4] [(10, .v (.int .i64 k))] [] st
theorem kset_next {k : Int} (h : KSet k) (h5 : k ≤ 5) : KSet (IntKind.wrap .i64 (k + 1)) := by
  have := h.l
  rw [wrap64 (by omega) (by omega)]; exact ⟨by omega, by omega⟩
theorem kset_mu {k : Int} (h : KSet k) (h5 : k ≤ 5) : (6 - IntKind.wrap .i64 (k + 1)).toNat < (6 - k).toNat := by
  have := h.l
  rw [wrap64 (by omega) (by omega)]; omega

set_option maxHeartbeats 4000000 in
theorem law_turns : PureOk Try.prog 5 psLT := by
  refine pureOk_mk (cfg := pureCfg Try.prog [(11, psOf), (13, psBack), (15, psTurn), (10, psOf), (14, psRBack), (12, psAwake)] 8 [(706, annK)]) (τ := Empty) (fun _ => pureCfg_ok mixed ⟨ok_Of, ok_back, ok_turn, ok_rOf, ok_rBack, ok_awake, trivial⟩) (n := 60) Try.func5 (fun _ => by kernel_rfl) (fun _ => by kernel_rfl) ?_
  intro ⟨⟨s, t⟩, b⟩ hφ
  obtain ⟨_, _, hb0, hb1⟩ : i64 s ∧ i64 t ∧ u8 b := hφ
  refine kcast (B := ((0 ≤ b ∧ b ≤ 255) ∧ True ∧ br (!decide (0 ≤ backT (s, t).fst (ofT (s, t).fst b)) == (ofT (s, t).fst b != 65533)) (SV.v (Value.bool false) = SV.v (Value.bool true)) (br (decide (0 ≤ backT (s, t).fst (ofT (s, t).fst b))) ((0 ≤ max 0 (backT (s, t).fst (ofT (s, t).fst b)) ∧ max 0 (backT (s, t).fst (ofT (s, t).fst b)) ≤ 255) ∧ br (ofT (s, t).fst (max 0 (backT (s, t).fst (ofT (s, t).fst b))) != ofT (s, t).fst b) (SV.v (Value.bool false) = SV.v (Value.bool true)) (br (decide (max 0 (backT (s, t).fst (ofT (s, t).fst b)) > b)) (SV.v (Value.bool false) = SV.v (Value.bool true)) ((0 ≤ b ∧ b ≤ 255) ∧ br (decide (0 ≤ backT (s, t).snd (ofT (s, t).fst b))) ((0 ≤ max 0 (backT (s, t).snd (ofT (s, t).fst b)) ∧ max 0 (backT (s, t).snd (ofT (s, t).fst b)) ≤ 255) ∧ br (ofT (s, t).snd (max 0 (backT (s, t).snd (ofT (s, t).fst b))) != ofT (s, t).fst b) (SV.v (Value.bool false) = SV.v (Value.bool true)) (br (decide (b ≥ 64)) (br (decide (b ≤ 90)) (KSet 1 ∧ ((SV.a [SV.v (Value.int IntKind.i64 (s, t).fst), SV.v (Value.int IntKind.i64 (s, t).snd)] = SV.a [SV.v (Value.int IntKind.i64 (s, t).fst), SV.v (Value.int IntKind.i64 (s, t).snd)] ∧ SV.v (Value.int IntKind.u8 b) = SV.v (Value.int IntKind.u8 b) ∧ SV.p 0 0 = SV.p 0 0 ∧ SV.v (Value.bool false) = SV.v (Value.bool false) ∧ SV.v (Value.int IntKind.i64 1) = SV.v (Value.int IntKind.i64 1) ∧ True) ∧ (SV.v (Value.int IntKind.i64 (s, t).fst) = SV.v (Value.int IntKind.i64 (s, t).fst) ∧ SV.v (Value.int IntKind.i64 (s, t).snd) = SV.v (Value.int IntKind.i64 (s, t).snd) ∧ True) ∧ True) ∧ ∀ (x : Int), KSet x → br (decide (x ≤ 5)) ((0 ≤ b ∧ b ≤ 255) ∧ br (ofT x b != IntKind.i32.wrap b) (SV.v (Value.bool false) = SV.v (Value.bool true)) (KSet (IntKind.i64.wrap (x + 1)) ∧ ((SV.a [SV.v (Value.int IntKind.i64 (s, t).fst), SV.v (Value.int IntKind.i64 (s, t).snd)] = SV.a [SV.v (Value.int IntKind.i64 (s, t).fst), SV.v (Value.int IntKind.i64 (s, t).snd)] ∧ SV.v (Value.int IntKind.u8 b) = SV.v (Value.int IntKind.u8 b) ∧ SV.p 0 0 = SV.p 0 0 ∧ SV.v (Value.bool false) = SV.v (Value.bool false) ∧ SV.v (Value.int IntKind.i64 (IntKind.i64.wrap (x + 1))) = SV.v (Value.int IntKind.i64 (IntKind.i64.wrap (x + 1))) ∧ True) ∧ (SV.v (Value.int IntKind.i64 (s, t).fst) = SV.v (Value.int IntKind.i64 (s, t).fst) ∧ SV.v (Value.int IntKind.i64 (s, t).snd) = SV.v (Value.int IntKind.i64 (s, t).snd) ∧ True) ∧ True) ∧ annK.μ (IntKind.i64.wrap (x + 1)) < annK.μ x)) (True ∧ br (decide (b ≥ 32)) (br (decide (0 ≤ backT 1 (IntKind.i32.wrap b)) == decide (b ≤ 126)) (br (!decide (0 ≤ backT 1 (IntKind.i32.wrap b))) (True ∧ SV.v (Value.bool true) = SV.v (Value.bool true)) (br (max 0 (backT 1 (IntKind.i32.wrap b)) == b) (True ∧ SV.v (Value.bool true) = SV.v (Value.bool true)) (SV.v (Value.bool false) = SV.v (Value.bool true)))) (SV.v (Value.bool false) = SV.v (Value.bool true))) (br (decide (0 ≤ backT 1 (IntKind.i32.wrap b)) == false) (br (!decide (0 ≤ backT 1 (IntKind.i32.wrap b))) (True ∧ SV.v (Value.bool true) = SV.v (Value.bool true)) (br (max 0 (backT 1 (IntKind.i32.wrap b)) == b) (True ∧ SV.v (Value.bool true) = SV.v (Value.bool true)) (SV.v (Value.bool false) = SV.v (Value.bool true)))) (SV.v (Value.bool false) = SV.v (Value.bool true))))) (True ∧ br (decide (b ≥ 32)) (br (decide (0 ≤ backT 1 (IntKind.i32.wrap b)) == decide (b ≤ 126)) (br (!decide (0 ≤ backT 1 (IntKind.i32.wrap b))) (True ∧ SV.v (Value.bool true) = SV.v (Value.bool true)) (br (max 0 (backT 1 (IntKind.i32.wrap b)) == b) (True ∧ SV.v (Value.bool true) = SV.v (Value.bool true)) (SV.v (Value.bool false) = SV.v (Value.bool true)))) (SV.v (Value.bool false) = SV.v (Value.bool true))) (br (decide (0 ≤ backT 1 (IntKind.i32.wrap b)) == false) (br (!decide (0 ≤ backT 1 (IntKind.i32.wrap b))) (True ∧ SV.v (Value.bool true) = SV.v (Value.bool true)) (br (max 0 (backT 1 (IntKind.i32.wrap b)) == b) (True ∧ SV.v (Value.bool true) = SV.v (Value.bool true)) (SV.v (Value.bool false) = SV.v (Value.bool true)))) (SV.v (Value.bool false) = SV.v (Value.bool true))))) (True ∧ br (decide (b ≥ 32)) (br (decide (0 ≤ backT 1 (IntKind.i32.wrap b)) == decide (b ≤ 126)) (br (!decide (0 ≤ backT 1 (IntKind.i32.wrap b))) (True ∧ SV.v (Value.bool true) = SV.v (Value.bool true)) (br (max 0 (backT 1 (IntKind.i32.wrap b)) == b) (True ∧ SV.v (Value.bool true) = SV.v (Value.bool true)) (SV.v (Value.bool false) = SV.v (Value.bool true)))) (SV.v (Value.bool false) = SV.v (Value.bool true))) (br (decide (0 ≤ backT 1 (IntKind.i32.wrap b)) == false) (br (!decide (0 ≤ backT 1 (IntKind.i32.wrap b))) (True ∧ SV.v (Value.bool true) = SV.v (Value.bool true)) (br (max 0 (backT 1 (IntKind.i32.wrap b)) == b) (True ∧ SV.v (Value.bool true) = SV.v (Value.bool true)) (SV.v (Value.bool false) = SV.v (Value.bool true)))) (SV.v (Value.bool false) = SV.v (Value.bool true)))))) (br (decide (b ≥ 64)) (br (decide (b ≤ 90)) (KSet 1 ∧ ((SV.a [SV.v (Value.int IntKind.i64 (s, t).fst), SV.v (Value.int IntKind.i64 (s, t).snd)] = SV.a [SV.v (Value.int IntKind.i64 (s, t).fst), SV.v (Value.int IntKind.i64 (s, t).snd)] ∧ SV.v (Value.int IntKind.u8 b) = SV.v (Value.int IntKind.u8 b) ∧ SV.p 0 0 = SV.p 0 0 ∧ SV.v (Value.bool false) = SV.v (Value.bool false) ∧ SV.v (Value.int IntKind.i64 1) = SV.v (Value.int IntKind.i64 1) ∧ True) ∧ (SV.v (Value.int IntKind.i64 (s, t).fst) = SV.v (Value.int IntKind.i64 (s, t).fst) ∧ SV.v (Value.int IntKind.i64 (s, t).snd) = SV.v (Value.int IntKind.i64 (s, t).snd) ∧ True) ∧ True) ∧ ∀ (x : Int), KSet x → br (decide (x ≤ 5)) ((0 ≤ b ∧ b ≤ 255) ∧ br (ofT x b != IntKind.i32.wrap b) (SV.v (Value.bool false) = SV.v (Value.bool true)) (KSet (IntKind.i64.wrap (x + 1)) ∧ ((SV.a [SV.v (Value.int IntKind.i64 (s, t).fst), SV.v (Value.int IntKind.i64 (s, t).snd)] = SV.a [SV.v (Value.int IntKind.i64 (s, t).fst), SV.v (Value.int IntKind.i64 (s, t).snd)] ∧ SV.v (Value.int IntKind.u8 b) = SV.v (Value.int IntKind.u8 b) ∧ SV.p 0 0 = SV.p 0 0 ∧ SV.v (Value.bool false) = SV.v (Value.bool false) ∧ SV.v (Value.int IntKind.i64 (IntKind.i64.wrap (x + 1))) = SV.v (Value.int IntKind.i64 (IntKind.i64.wrap (x + 1))) ∧ True) ∧ (SV.v (Value.int IntKind.i64 (s, t).fst) = SV.v (Value.int IntKind.i64 (s, t).fst) ∧ SV.v (Value.int IntKind.i64 (s, t).snd) = SV.v (Value.int IntKind.i64 (s, t).snd) ∧ True) ∧ True) ∧ annK.μ (IntKind.i64.wrap (x + 1)) < annK.μ x)) (True ∧ br (decide (b ≥ 32)) (br (decide (0 ≤ backT 1 (IntKind.i32.wrap b)) == decide (b ≤ 126)) (br (!decide (0 ≤ backT 1 (IntKind.i32.wrap b))) (True ∧ SV.v (Value.bool true) = SV.v (Value.bool true)) (br (max 0 (backT 1 (IntKind.i32.wrap b)) == b) (True ∧ SV.v (Value.bool true) = SV.v (Value.bool true)) (SV.v (Value.bool false) = SV.v (Value.bool true)))) (SV.v (Value.bool false) = SV.v (Value.bool true))) (br (decide (0 ≤ backT 1 (IntKind.i32.wrap b)) == false) (br (!decide (0 ≤ backT 1 (IntKind.i32.wrap b))) (True ∧ SV.v (Value.bool true) = SV.v (Value.bool true)) (br (max 0 (backT 1 (IntKind.i32.wrap b)) == b) (True ∧ SV.v (Value.bool true) = SV.v (Value.bool true)) (SV.v (Value.bool false) = SV.v (Value.bool true)))) (SV.v (Value.bool false) = SV.v (Value.bool true))))) (True ∧ br (decide (b ≥ 32)) (br (decide (0 ≤ backT 1 (IntKind.i32.wrap b)) == decide (b ≤ 126)) (br (!decide (0 ≤ backT 1 (IntKind.i32.wrap b))) (True ∧ SV.v (Value.bool true) = SV.v (Value.bool true)) (br (max 0 (backT 1 (IntKind.i32.wrap b)) == b) (True ∧ SV.v (Value.bool true) = SV.v (Value.bool true)) (SV.v (Value.bool false) = SV.v (Value.bool true)))) (SV.v (Value.bool false) = SV.v (Value.bool true))) (br (decide (0 ≤ backT 1 (IntKind.i32.wrap b)) == false) (br (!decide (0 ≤ backT 1 (IntKind.i32.wrap b))) (True ∧ SV.v (Value.bool true) = SV.v (Value.bool true)) (br (max 0 (backT 1 (IntKind.i32.wrap b)) == b) (True ∧ SV.v (Value.bool true) = SV.v (Value.bool true)) (SV.v (Value.bool false) = SV.v (Value.bool true)))) (SV.v (Value.bool false) = SV.v (Value.bool true))))) (True ∧ br (decide (b ≥ 32)) (br (decide (0 ≤ backT 1 (IntKind.i32.wrap b)) == decide (b ≤ 126)) (br (!decide (0 ≤ backT 1 (IntKind.i32.wrap b))) (True ∧ SV.v (Value.bool true) = SV.v (Value.bool true)) (br (max 0 (backT 1 (IntKind.i32.wrap b)) == b) (True ∧ SV.v (Value.bool true) = SV.v (Value.bool true)) (SV.v (Value.bool false) = SV.v (Value.bool true)))) (SV.v (Value.bool false) = SV.v (Value.bool true))) (br (decide (0 ≤ backT 1 (IntKind.i32.wrap b)) == false) (br (!decide (0 ≤ backT 1 (IntKind.i32.wrap b))) (True ∧ SV.v (Value.bool true) = SV.v (Value.bool true)) (br (max 0 (backT 1 (IntKind.i32.wrap b)) == b) (True ∧ SV.v (Value.bool true) = SV.v (Value.bool true)) (SV.v (Value.bool false) = SV.v (Value.bool true)))) (SV.v (Value.bool false) = SV.v (Value.bool true)))))))) ((0 ≤ b ∧ b ≤ 255) ∧ br (decide (0 ≤ backT (s, t).snd (ofT (s, t).fst b))) ((0 ≤ max 0 (backT (s, t).snd (ofT (s, t).fst b)) ∧ max 0 (backT (s, t).snd (ofT (s, t).fst b)) ≤ 255) ∧ br (ofT (s, t).snd (max 0 (backT (s, t).snd (ofT (s, t).fst b))) != ofT (s, t).fst b) (SV.v (Value.bool false) = SV.v (Value.bool true)) (br (decide (b ≥ 64)) (br (decide (b ≤ 90)) (KSet 1 ∧ ((SV.a [SV.v (Value.int IntKind.i64 (s, t).fst), SV.v (Value.int IntKind.i64 (s, t).snd)] = SV.a [SV.v (Value.int IntKind.i64 (s, t).fst), SV.v (Value.int IntKind.i64 (s, t).snd)] ∧ SV.v (Value.int IntKind.u8 b) = SV.v (Value.int IntKind.u8 b) ∧ SV.p 0 0 = SV.p 0 0 ∧ SV.v (Value.bool false) = SV.v (Value.bool false) ∧ SV.v (Value.int IntKind.i64 1) = SV.v (Value.int IntKind.i64 1) ∧ True) ∧ (SV.v (Value.int IntKind.i64 (s, t).fst) = SV.v (Value.int IntKind.i64 (s, t).fst) ∧ SV.v (Value.int IntKind.i64 (s, t).snd) = SV.v (Value.int IntKind.i64 (s, t).snd) ∧ True) ∧ True) ∧ ∀ (x : Int), KSet x → br (decide (x ≤ 5)) ((0 ≤ b ∧ b ≤ 255) ∧ br (ofT x b != IntKind.i32.wrap b) (SV.v (Value.bool false) = SV.v (Value.bool true)) (KSet (IntKind.i64.wrap (x + 1)) ∧ ((SV.a [SV.v (Value.int IntKind.i64 (s, t).fst), SV.v (Value.int IntKind.i64 (s, t).snd)] = SV.a [SV.v (Value.int IntKind.i64 (s, t).fst), SV.v (Value.int IntKind.i64 (s, t).snd)] ∧ SV.v (Value.int IntKind.u8 b) = SV.v (Value.int IntKind.u8 b) ∧ SV.p 0 0 = SV.p 0 0 ∧ SV.v (Value.bool false) = SV.v (Value.bool false) ∧ SV.v (Value.int IntKind.i64 (IntKind.i64.wrap (x + 1))) = SV.v (Value.int IntKind.i64 (IntKind.i64.wrap (x + 1))) ∧ True) ∧ (SV.v (Value.int IntKind.i64 (s, t).fst) = SV.v (Value.int IntKind.i64 (s, t).fst) ∧ SV.v (Value.int IntKind.i64 (s, t).snd) = SV.v (Value.int IntKind.i64 (s, t).snd) ∧ True) ∧ True) ∧ annK.μ (IntKind.i64.wrap (x + 1)) < annK.μ x)) (True ∧ br (decide (b ≥ 32)) (br (decide (0 ≤ backT 1 (IntKind.i32.wrap b)) == decide (b ≤ 126)) (br (!decide (0 ≤ backT 1 (IntKind.i32.wrap b))) (True ∧ SV.v (Value.bool true) = SV.v (Value.bool true)) (br (max 0 (backT 1 (IntKind.i32.wrap b)) == b) (True ∧ SV.v (Value.bool true) = SV.v (Value.bool true)) (SV.v (Value.bool false) = SV.v (Value.bool true)))) (SV.v (Value.bool false) = SV.v (Value.bool true))) (br (decide (0 ≤ backT 1 (IntKind.i32.wrap b)) == false) (br (!decide (0 ≤ backT 1 (IntKind.i32.wrap b))) (True ∧ SV.v (Value.bool true) = SV.v (Value.bool true)) (br (max 0 (backT 1 (IntKind.i32.wrap b)) == b) (True ∧ SV.v (Value.bool true) = SV.v (Value.bool true)) (SV.v (Value.bool false) = SV.v (Value.bool true)))) (SV.v (Value.bool false) = SV.v (Value.bool true))))) (True ∧ br (decide (b ≥ 32)) (br (decide (0 ≤ backT 1 (IntKind.i32.wrap b)) == decide (b ≤ 126)) (br (!decide (0 ≤ backT 1 (IntKind.i32.wrap b))) (True ∧ SV.v (Value.bool true) = SV.v (Value.bool true)) (br (max 0 (backT 1 (IntKind.i32.wrap b)) == b) (True ∧ SV.v (Value.bool true) = SV.v (Value.bool true)) (SV.v (Value.bool false) = SV.v (Value.bool true)))) (SV.v (Value.bool false) = SV.v (Value.bool true))) (br (decide (0 ≤ backT 1 (IntKind.i32.wrap b)) == false) (br (!decide (0 ≤ backT 1 (IntKind.i32.wrap b))) (True ∧ SV.v (Value.bool true) = SV.v (Value.bool true)) (br (max 0 (backT 1 (IntKind.i32.wrap b)) == b) (True ∧ SV.v (Value.bool true) = SV.v (Value.bool true)) (SV.v (Value.bool false) = SV.v (Value.bool true)))) (SV.v (Value.bool false) = SV.v (Value.bool true))))) (True ∧ br (decide (b ≥ 32)) (br (decide (0 ≤ backT 1 (IntKind.i32.wrap b)) == decide (b ≤ 126)) (br (!decide (0 ≤ backT 1 (IntKind.i32.wrap b))) (True ∧ SV.v (Value.bool true) = SV.v (Value.bool true)) (br (max 0 (backT 1 (IntKind.i32.wrap b)) == b) (True ∧ SV.v (Value.bool true) = SV.v (Value.bool true)) (SV.v (Value.bool false) = SV.v (Value.bool true)))) (SV.v (Value.bool false) = SV.v (Value.bool true))) (br (decide (0 ≤ backT 1 (IntKind.i32.wrap b)) == false) (br (!decide (0 ≤ backT 1 (IntKind.i32.wrap b))) (True ∧ SV.v (Value.bool true) = SV.v (Value.bool true)) (br (max 0 (backT 1 (IntKind.i32.wrap b)) == b) (True ∧ SV.v (Value.bool true) = SV.v (Value.bool true)) (SV.v (Value.bool false) = SV.v (Value.bool true)))) (SV.v (Value.bool false) = SV.v (Value.bool true)))))) (br (decide (b ≥ 64)) (br (decide (b ≤ 90)) (KSet 1 ∧ ((SV.a [SV.v (Value.int IntKind.i64 (s, t).fst), SV.v (Value.int IntKind.i64 (s, t).snd)] = SV.a [SV.v (Value.int IntKind.i64 (s, t).fst), SV.v (Value.int IntKind.i64 (s, t).snd)] ∧ SV.v (Value.int IntKind.u8 b) = SV.v (Value.int IntKind.u8 b) ∧ SV.p 0 0 = SV.p 0 0 ∧ SV.v (Value.bool false) = SV.v (Value.bool false) ∧ SV.v (Value.int IntKind.i64 1) = SV.v (Value.int IntKind.i64 1) ∧ True) ∧ (SV.v (Value.int IntKind.i64 (s, t).fst) = SV.v (Value.int IntKind.i64 (s, t).fst) ∧ SV.v (Value.int IntKind.i64 (s, t).snd) = SV.v (Value.int IntKind.i64 (s, t).snd) ∧ True) ∧ True) ∧ ∀ (x : Int), KSet x → br (decide (x ≤ 5)) ((0 ≤ b ∧ b ≤ 255) ∧ br (ofT x b != IntKind.i32.wrap b) (SV.v (Value.bool false) = SV.v (Value.bool true)) (KSet (IntKind.i64.wrap (x + 1)) ∧ ((SV.a [SV.v (Value.int IntKind.i64 (s, t).fst), SV.v (Value.int IntKind.i64 (s, t).snd)] = SV.a [SV.v (Value.int IntKind.i64 (s, t).fst), SV.v (Value.int IntKind.i64 (s, t).snd)] ∧ SV.v (Value.int IntKind.u8 b) = SV.v (Value.int IntKind.u8 b) ∧ SV.p 0 0 = SV.p 0 0 ∧ SV.v (Value.bool false) = SV.v (Value.bool false) ∧ SV.v (Value.int IntKind.i64 (IntKind.i64.wrap (x + 1))) = SV.v (Value.int IntKind.i64 (IntKind.i64.wrap (x + 1))) ∧ True) ∧ (SV.v (Value.int IntKind.i64 (s, t).fst) = SV.v (Value.int IntKind.i64 (s, t).fst) ∧ SV.v (Value.int IntKind.i64 (s, t).snd) = SV.v (Value.int IntKind.i64 (s, t).snd) ∧ True) ∧ True) ∧ annK.μ (IntKind.i64.wrap (x + 1)) < annK.μ x)) (True ∧ br (decide (b ≥ 32)) (br (decide (0 ≤ backT 1 (IntKind.i32.wrap b)) == decide (b ≤ 126)) (br (!decide (0 ≤ backT 1 (IntKind.i32.wrap b))) (True ∧ SV.v (Value.bool true) = SV.v (Value.bool true)) (br (max 0 (backT 1 (IntKind.i32.wrap b)) == b) (True ∧ SV.v (Value.bool true) = SV.v (Value.bool true)) (SV.v (Value.bool false) = SV.v (Value.bool true)))) (SV.v (Value.bool false) = SV.v (Value.bool true))) (br (decide (0 ≤ backT 1 (IntKind.i32.wrap b)) == false) (br (!decide (0 ≤ backT 1 (IntKind.i32.wrap b))) (True ∧ SV.v (Value.bool true) = SV.v (Value.bool true)) (br (max 0 (backT 1 (IntKind.i32.wrap b)) == b) (True ∧ SV.v (Value.bool true) = SV.v (Value.bool true)) (SV.v (Value.bool false) = SV.v (Value.bool true)))) (SV.v (Value.bool false) = SV.v (Value.bool true))))) (True ∧ br (decide (b ≥ 32)) (br (decide (0 ≤ backT 1 (IntKind.i32.wrap b)) == decide (b ≤ 126)) (br (!decide (0 ≤ backT 1 (IntKind.i32.wrap b))) (True ∧ SV.v (Value.bool true) = SV.v (Value.bool true)) (br (max 0 (backT 1 (IntKind.i32.wrap b)) == b) (True ∧ SV.v (Value.bool true) = SV.v (Value.bool true)) (SV.v (Value.bool false) = SV.v (Value.bool true)))) (SV.v (Value.bool false) = SV.v (Value.bool true))) (br (decide (0 ≤ backT 1 (IntKind.i32.wrap b)) == false) (br (!decide (0 ≤ backT 1 (IntKind.i32.wrap b))) (True ∧ SV.v (Value.bool true) = SV.v (Value.bool true)) (br (max 0 (backT 1 (IntKind.i32.wrap b)) == b) (True ∧ SV.v (Value.bool true) = SV.v (Value.bool true)) (SV.v (Value.bool false) = SV.v (Value.bool true)))) (SV.v (Value.bool false) = SV.v (Value.bool true))))) (True ∧ br (decide (b ≥ 32)) (br (decide (0 ≤ backT 1 (IntKind.i32.wrap b)) == decide (b ≤ 126)) (br (!decide (0 ≤ backT 1 (IntKind.i32.wrap b))) (True ∧ SV.v (Value.bool true) = SV.v (Value.bool true)) (br (max 0 (backT 1 (IntKind.i32.wrap b)) == b) (True ∧ SV.v (Value.bool true) = SV.v (Value.bool true)) (SV.v (Value.bool false) = SV.v (Value.bool true)))) (SV.v (Value.bool false) = SV.v (Value.bool true))) (br (decide (0 ≤ backT 1 (IntKind.i32.wrap b)) == false) (br (!decide (0 ≤ backT 1 (IntKind.i32.wrap b))) (True ∧ SV.v (Value.bool true) = SV.v (Value.bool true)) (br (max 0 (backT 1 (IntKind.i32.wrap b)) == b) (True ∧ SV.v (Value.bool true) = SV.v (Value.bool true)) (SV.v (Value.bool false) = SV.v (Value.bool true)))) (SV.v (Value.bool false) = SV.v (Value.bool true))))))))) (by kernel_rfl) ?_
  dsimp only
  have hX : (backT s (ofT s b) = -1 ∧ ofT s b = 65533) ∨ (0 ≤ backT s (ofT s b) ∧ backT s (ofT s b) ≤ b ∧ ofT s (backT s (ofT s b)) = ofT s b ∧ ofT s b ≠ 65533) := by
    by_cases hr : ofT s b = 65533
    · left; rw [hr]; exact ⟨back_none fun j _ => by simp [hit], rfl⟩
    · right
      have hself : hit s (ofT s b) b.toNat = true := by rw [hit_nat hb0]; simp [hr]
      rcases back_spec s (ofT s b) with ⟨_, h⟩ | ⟨n, h1, h2, h3, h4⟩
      · rw [h b.toNat (by omega)] at hself; cases hself
      · rw [h2]
        refine ⟨by omega, ?_, by unfold hit at h3; simp at h3; exact h3.1, hr⟩
        by_cases hlt : b.toNat < n
        · rw [h4 _ hlt] at hself; cases hself
        · omega
  have hY : (backT t (ofT s b) = -1) ∨ (0 ≤ backT t (ofT s b) ∧ backT t (ofT s b) ≤ 255 ∧ ofT t (backT t (ofT s b)) = ofT s b) := by
    rcases back_spec t (ofT s b) with ⟨h, _⟩ | ⟨n, h1, h2, h3, _⟩
    · exact .inl h
    · right; rw [h2]; refine ⟨by omega, by omega, by unfold hit at h3; simp at h3; exact h3.1⟩
  have hZ := plain_back hb0 hb1
  have hw : IntKind.wrap .i32 b = b := IntWalk.i32_in b ⟨by omega, by omega⟩
  rw [hw, hZ]
  generalize backT s (ofT s b) = X at *
  generalize backT t (ofT s b) = Y at *
  have hYr : 0 ≤ max 0 Y ∧ max 0 Y ≤ 255 := by omega
  have hY2 : 0 ≤ Y → (ofT t (max 0 Y) != ofT s b) = false := fun h => by
    rcases hY with h1 | ⟨h1, h2, h3⟩
    · omega
    · rw [show max 0 Y = Y by omega, h3]; simp
  have hc : b ≥ 64 → b ≤ 90 → ∀ k : Int, 1 ≤ k → k ≤ 5 → (ofT k b != b) = false := fun h1 h2 k k1 k2 => by
    have hc := caps h1 h2
    obtain rfl | rfl | rfl | rfl | rfl : k = 1 ∨ k = 2 ∨ k = 3 ∨ k = 4 ∨ k = 5 := by omega
    · rw [hc.1]; simp
    · rw [hc.2.1]; simp
    · rw [hc.2.2.1]; simp
    · rw [hc.2.2.2.1]; simp
    · rw [hc.2.2.2.2]; simp
  refine ⟨⟨hb0, hb1⟩, trivial, br_f ?_ (br_intro (fun h => ⟨⟨by omega, by omega⟩, br_f ?_ (br_f ?_ ?_)⟩) (fun h => ?_))⟩
  · rcases hX with ⟨h1, h2⟩ | ⟨h1, h2, h3, h4⟩
    · rw [h1, h2]; rfl
    · simp [h1, h4]
  · have h := of_decide_eq_true h
    rcases hX with ⟨h1, _⟩ | ⟨h1, h2, h3, h4⟩
    · omega
    · rw [show max 0 X = X by omega, h3]; simp
  · have h := of_decide_eq_true h
    rcases hX with ⟨h1, _⟩ | ⟨h1, h2, h3, h4⟩
    · omega
    · simp; omega
  all_goals clear h
  all_goals (refine ⟨⟨hb0, hb1⟩, br_intro (fun h => ⟨hYr, br_f (hY2 (of_decide_eq_true h)) ?_⟩) (fun h => ?_)⟩)
  all_goals clear h
  all_goals (refine br_intro (fun h1 => br_intro (fun h2 => ⟨⟨by omega, by omega⟩, ?_, fun (k : Int) hk => br_intro (fun hlt => ⟨⟨hb0, hb1⟩, br_f (hc (of_decide_eq_true h1) (of_decide_eq_true h2) k hk.l (of_decide_eq_true hlt)) ⟨kset_next hk (of_decide_eq_true hlt), ?_, kset_mu hk (of_decide_eq_true hlt)⟩⟩) (fun hlt => ?_)⟩) (fun h2 => ?_)) (fun h1 => ?_))
  all_goals try (repeat' (first | exact trivial | refine And.intro ?_ ?_ | rfl)); done
  all_goals (refine ⟨trivial, br_intro (fun h32 => ?_) (fun h32 => ?_)⟩)
  all_goals (by_cases hp : 32 ≤ b ∧ b ≤ 126)
  all_goals (first | rw [if_pos hp] | rw [if_neg hp])
  all_goals (refine br_t ?_ (br_intro (fun _ => ⟨trivial, rfl⟩) (fun h3 => br_t ?_ ⟨trivial, rfl⟩)))
  all_goals (simp only [decide_eq_true_eq, decide_eq_false_iff_not, Bool.not_eq_false', beq_iff_eq, decide_eq_decide] at *)
  all_goals first | omega | (simp; omega) | (simp [hp.1, hp.2] <;> omega)


end Go.Proofs.Ytgpfdajjkalloaa
