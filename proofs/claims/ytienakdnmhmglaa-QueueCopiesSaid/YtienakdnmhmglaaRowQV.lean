/- The law of copies, as its row says it. -/
import Derived.Test.YtienakdnmhmglaaRows
import Derived.Test.YtienakdnmhmglaaVWt
import Derived.Test.YtienakdnmhmglaaQuV
import Derived.WalkKit
import Derived.JoinedCond
set_option linter.unusedSimpArgs false
set_option linter.unusedVariables false
set_option linter.unusedSectionVars false
namespace Go.Proofs.Ytienakdnmhmglaa
open Go Go.Sym
theorem own : ownKnob Try.prog.godebug = none := by kernel_rfl
theorem laidOut : laidOutB Try.prog = true := by kernel_rfl

namespace queueCopies
open Go.ChangeShapes Go.WideShapes Go.ChangeAt Go.RowKit
set_option maxRecDepth 100000 in
theorem lifted (os : Os) (started : os.Started) (H : Type) (enc : TypeId × Value → H) :
    ReturnsInHanded {} Try.checked os 7 .any (Rows.queueCopiesSpec.pre6 enc Try.prog Try.f7 Rows.queueCopiesRow.domain false) (Rows.queueCopiesSpec.post enc Try.prog Try.f7 false true false false) := by
  refine returnsInHanded_of_change_sized (C := Try.checked) own started (by kernel_rfl) Try.func7
    (ChangeSpec.witness6 (enc := enc) (C := Try.checked) false ⟨#[], #[.int .i64 0, .slice none 0 0, .slice none 0 0], []⟩ 8 (by kernel_rfl) (by kernel_rfl) (by kernel_rfl) (by kernel_rfl)) ?_
  intro W base args ds gs before hval0 hW hcnd hz _
  have hval : ∀ (j : Nat) t v, Try.f7.params[j]? = some t → args[j]? = some v → Value.okWide Try.prog W .any base t v := hval0
  have hW' := hW
  obtain ⟨p, q, hA0, hV, rfl, hfz, hnd⟩ := hW
  have hA : DataW.TrodAll enc Try.prog W 0 (fun _ => true) true Try.f7.params.toList args.toList ds p := hA0
  have hq := qr_of2 (S := [3, 22, 31, 29, 9]) (ts := Try.f7.params.toList) (fun t ht => List.contains_iff_mem.1 (List.all_eq_true.1 (show Try.f7.params.toList.all (fun t => ([3, 22, 31, 29, 9] : List TypeId).contains t) = true by kernel_rfl) t ht)) hz
  have hB := bulk_reach (H := H) (P := Try.prog) (S := [3, 22, 31, 29, 9]) (by kernel_rfl)
  obtain ⟨rfl, rfl⟩ := trodVars_none hV
  have hp := ips_ofT hB (r := .any) (b0 := base) (show ipsOf Try.prog Try.f7.params.toList = some [.one (.i .i64), .one (.sl [.i .i64, .sl [.s], .i .i64]), .one (.sl [.i .i64, .sl [.s], .i .i64])] by kernel_rfl) hA (fun i t v h1 h2 => hval i t v (by rw [← Array.getElem?_toList]; exact h1) (by rw [← Array.getElem?_toList]; exact h2)) hq
  have hst : ∀ W', Ext W W' → _ := fun W' hext => args_stay laidOut hext (by kernel_rfl) hA
  have hdl0 : ds.length = 3 := trodAll_dlen hA
  obtain ⟨d0, e0, rfl, hdl1⟩ := len_succ hdl0
  obtain ⟨d1, e1, rfl, hdl2⟩ := len_succ hdl1
  obtain ⟨d2, e2, rfl, hdl3⟩ := len_succ hdl2
  obtain rfl := len_zero hdl3
  obtain ⟨args⟩ := args
  clear hval0 hval hA0
  refine (law_copies hp).mono fun e W' ⟨he, hext⟩ => ?_
  subst he
  exact ⟨_, rfl, _, _, _, [], _, [], hW', trodAll_mk1 (shut_bool Try.underlying4 _), hst W' hext, rfl, ext_frame hext _, fun h => by cases h⟩

theorem over : Rows.queueCopiesRow.holds Try.pinned (OpenSpec.ofChange Rows.queueCopiesSpec) :=
  OpenClaim.holds_of_wide 7 Try.f7 rfl rfl rfl rfl rfl rfl rfl ⟨rfl, rfl, rfl, rfl, rfl⟩ rfl rfl rfl rfl rfl (by kernel_rfl) Try.func7 (by kernel_rfl)
    (of_decide_eq_true (by kernel_rfl)) (by unfold Func.isWrapper; first | (rw [if_pos (by decide +kernel)]; kernel_rfl) | (rw [if_neg (by decide +kernel)]; exact ⟨rfl, rfl⟩))
    (fun os started H enc _ => lifted os started H enc)

/-- The statement. -/
theorem proved : Rows.QueueCopiesSaid := over
#print axioms proved
end queueCopies

end Go.Proofs.Ytienakdnmhmglaa
