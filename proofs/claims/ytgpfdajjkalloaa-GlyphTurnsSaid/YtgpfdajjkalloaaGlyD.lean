/- The laws of layer 2 answer true: back, turns. -/
import Derived.Test.YtgpfdajjkalloaaGlyC
set_option linter.unusedSimpArgs false
set_option linter.unusedVariables false
set_option linter.unusedSectionVars false
namespace Go.Proofs.Ytgpfdajjkalloaa
open Go Go.Sym

def i64 (x : Int) : Prop := -9223372036854775808 ≤ x ∧ x ≤ 9223372036854775807
def i32 (x : Int) : Prop := -2147483648 ≤ x ∧ x ≤ 2147483647
def u8 (x : Int) : Prop := 0 ≤ x ∧ x ≤ 255
def psAwake : PS := mkPS shNil (fun _ => True) (fun _ => .v (.bool true))
def psLB : PS := mkPS (shCons (shA (shCons shI (shOne shI))) (shCons shR (shOne shU8))) (fun ((s, t), r, b) => i64 s ∧ i64 t ∧ i32 r ∧ u8 b) (fun _ => .v (.bool true))
def psLT : PS := mkPS (shCons (shA (shCons shI (shOne shI))) (shOne shU8)) (fun ((s, t), b) => i64 s ∧ i64 t ∧ u8 b) (fun _ => .v (.bool true))
def psLC : PS := mkPS (shCons shU8 (shOne shU8)) (fun (a, b) => u8 a ∧ u8 b) (fun _ => .v (.bool true))
theorem back_spec (set r : Int) : (backT set r = -1 ∧ ∀ j, j < 256 → hit set r j = false) ∨ ∃ n, n < 256 ∧ backT set r = (n : Nat) ∧ hit set r n = true ∧ ∀ j, j < n → hit set r j = false := by
  unfold backT
  cases h : (List.range 256).find? (hit set r) with
  | none =>
    left
    rw [List.find?_eq_none] at h
    exact ⟨rfl, fun j hj => by simpa using h j (List.mem_range.2 hj)⟩
  | some n =>
    right
    rw [List.find?_eq_some_iff_append] at h
    obtain ⟨h1, l1, l2, h2, h3⟩ := h
    have hn : n < 256 := by
      have : n ∈ List.range 256 := by rw [h2]; simp
      exact List.mem_range.1 this
    refine ⟨n, hn, rfl, h1, fun j hj => ?_⟩
    have hidx : l1.length = n := by
      have h4 : (List.range 256)[l1.length]? = some n := by rw [h2]; simp
      have h5 : l1.length < 256 := by
        have := (List.getElem?_eq_some_iff.1 h4).1
        simpa using this
      rw [List.getElem?_range h5] at h4
      simpa using h4
    have : j ∈ l1 := by
      have h4 : (List.range 256)[j]? = some j := List.getElem?_range (by omega)
      rw [h2, List.getElem?_append_left (by omega)] at h4
      exact List.mem_of_getElem? h4
    simpa using h3 j this

set_option maxHeartbeats 4000000 in
theorem ok_awake : PureOk Try.prog 12 psAwake := by
  refine pureOk_mk (cfg := pureCfg Try.prog [(11, psOf), (13, psBack), (15, psTurn)] 0) (τ := Empty) (fun _ => pureCfg_ok mixed ⟨ok_Of, ok_back, ok_turn, trivial⟩) (n := 60) Try.func12 (fun _ => by kernel_rfl) (fun _ => by kernel_rfl) ?_
  intro a _
  refine kcast (B := (True ∧ (II 0 ≤ 97 ∧ II 97 ≤ 255) ∧ (II 0 ≤ 219 ∧ II 219 ≤ 255) ∧ (II 0 ≤ 225 ∧ II 225 ≤ 255) ∧ SV.v (Value.bool true) = SV.v (Value.bool true))) (by kernel_rfl) ?_
  repeat' (first | exact trivial | refine And.intro ?_ ?_ | decide | rfl)

end Go.Proofs.Ytgpfdajjkalloaa
