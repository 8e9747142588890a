/- The law of rules, as its row says it. -/
import Derived.Test.YtgnplgbknfnibaaRows
import Derived.Test.YtgnplgbknfnibaaSymQ
import Derived.Test.YtgnplgbknfnibaaCaH
import Derived.WalkKit
set_option linter.unusedSimpArgs false
set_option linter.unusedVariables false
set_option linter.unusedSectionVars false
namespace Go.Proofs.Ytgnplgbknfnibaa
open Go Go.Sym
theorem own : ownKnob Try.prog.godebug = none := by kernel_rfl
theorem laidOut : laidOutB Try.prog = true := by kernel_rfl

namespace carryRules
open Go.ChangeShapes Go.WideShapes Go.ChangeAt Go.RowKit
set_option maxRecDepth 100000 in
theorem lifted (os : Os) (started : os.Started) (H : Type) (enc : TypeId × Value → H) :
    ReturnsInHanded {} Try.checked os 5 .any (Rows.carryRulesSpec.pre6 enc Try.prog Try.f5 Rows.carryRulesRow.domain false) (Rows.carryRulesSpec.post enc Try.prog Try.f5 false true false false) := by
  refine returnsInHanded_of_change (C := Try.checked) own started (by kernel_rfl) Try.func5
    (ChangeSpec.witness6 (enc := enc) (C := Try.checked) false ⟨#[], #[.int .i64 0, .int .i32 0], []⟩ 8 (by kernel_rfl) (by kernel_rfl) (by kernel_rfl) (by kernel_rfl)) ?_
  intro W base args ds gs before hval0 hW hcnd _
  have hval : ∀ (j : Nat) t v, Try.f5.params[j]? = some t → args[j]? = some v → Value.okWide Try.prog W .any base t v := hval0
  have hW' := hW
  obtain ⟨p, q, hA0, hV, rfl, hfz, hnd⟩ := hW
  have hA : DataW.TrodAll enc Try.prog W 0 (fun _ => true) true Try.f5.params.toList args.toList ds p := hA0
  obtain ⟨rfl, rfl⟩ := trodVars_none hV
  have hp := pdens_of (w := W) (r := .any) (base := base) (show plsOf Try.prog Try.f5.params.toList = some [.one (.i .i64), .one (.i .i32)] by kernel_rfl) (trodAll_len hA) (fun i t v h1 h2 => hval i t v (by rw [← Array.getElem?_toList]; exact h1) (by rw [← Array.getElem?_toList]; exact h2))
  simp only [PDens, PL.den, LDens, Leaf.den, min_i64, max_i64, min_i32, max_i32, min_u8, max_u8] at hp
  obtain ⟨_, _, hargs, ⟨p, rfl, pl, pu⟩, ⟨_, _, rfl, ⟨g, rfl, gl, gu⟩, rfl⟩⟩ := hp
  have hst : ∀ W', Ext W W' → _ := fun W' hext => args_stay laidOut hext (by kernel_rfl) hA
  have hdl0 : ds.length = 2 := trodAll_dlen hA
  obtain ⟨d0, e0, rfl, hdl1⟩ := len_succ hdl0
  obtain ⟨d1, e1, rfl, hdl2⟩ := len_succ hdl1
  obtain rfl := len_zero hdl2
  obtain ⟨args⟩ := args
  clear hval0 hval hA0
  refine (pureOk_use law_rules (p, g) rfl (by simp only [i64, i32]; omega) (w := W) (vs := args) ?_).mono fun e W' ⟨v, he, hd, hext⟩ => ?_
  · simp only at hargs
    subst hargs
    simp [Den, DenL, noE, shCons, shOne, shA, shI, shB, shInt, shR, shC]
  subst he
  simp only [Den] at hd
  subst hd
  exact ⟨_, rfl, _, _, _, [], _, [], hW', trodAll_mk1 (shut_bool Try.underlying4 _), hst W' hext, rfl, ext_frame hext _, fun h => by cases h⟩

theorem over : Rows.carryRulesRow.holds Try.pinned (OpenSpec.ofChange Rows.carryRulesSpec) :=
  OpenClaim.holds_of_wide 5 Try.f5 rfl rfl rfl rfl rfl rfl rfl ⟨rfl, rfl, rfl, rfl, rfl⟩ rfl rfl rfl rfl rfl (by kernel_rfl) Try.func5 (by kernel_rfl)
    (of_decide_eq_true (by kernel_rfl)) (by unfold Func.isWrapper; first | (rw [if_pos (by decide +kernel)]; kernel_rfl) | (rw [if_neg (by decide +kernel)]; exact ⟨rfl, rfl⟩))
    (fun os started H enc _ => lifted os started H enc)

/-- The statement. -/
theorem proved : Rows.CarryRulesSaid := over
#print axioms proved
end carryRules

end Go.Proofs.Ytgnplgbknfnibaa
