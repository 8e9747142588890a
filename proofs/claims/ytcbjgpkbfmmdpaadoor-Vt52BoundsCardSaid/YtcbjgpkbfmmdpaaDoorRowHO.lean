/- No bytes lead the cursor out of the screen: whatever the size and the texts, the law answers true; the blank cell reads as the program lays it. -/
import Derived.Test.YtcbjgpkbfmmdpaaDoorRows
import Derived.Test.YtcbjgpkbfmmdpaaDoorCards
import Derived.Test.YtcbjgpkbfmmdpaaDoorTie
import Derived.Test.YtcbjgpkbfmmdpaaDoorHpOr
import Derived.Test.YtcbjgpkbfmmdpaaDoorHpOd
import Derived.SevenTiedAt
set_option linter.unusedSimpArgs false
set_option linter.unusedVariables false
set_option linter.unusedSectionVars false
namespace Go.Proofs.YtcbjgpkbfmmdpaaDoor
open Go Go.Sym

namespace vt52Bounds
open Go.ChangeShapes Go.WideShapes Go.ChangeAt Go.RowKit
set_option maxRecDepth 100000 in
theorem lifted (os : Os) (started : os.Started) (H : Type) (enc : TypeId × Value → H) :
    ReturnsInHanded {} Tryd.checked os 6 .any (fun w args => (Rows.vt52BoundsSpec.pre enc Tryd.prog Tryd.f6 Rows.vt52BoundsRow.domain false w args ∧ laidMetH Tryd.prog laidL w) ∧ sizedMet enc Tryd.prog Tryd.f6 (OpenSpec.ofChange Rows.vt52BoundsSpec) false w args)
      (Rows.vt52BoundsSpec.post enc Tryd.prog Tryd.f6 false true false false) := by
  refine returnsInHanded_of_change_and (C := Tryd.checked) (X := fun w _ => laidMetH Tryd.prog laidL w) (fun _ _ _ hh h => h.of_heap hh) own started (by kernel_rfl) Tryd.func6
    (ChangeSpec.witness_shaped (enc := enc) (C := Tryd.checked) (os := os) (X := fun w _ => laidMetH Tryd.prog laidL w) false (World.laidAll Tryd.prog os laidL) #[.agg #[.int .i64 0, .int .i64 0], .string ByteArray.empty, .string ByteArray.empty] 8 (World.laidAll_os _ _ _)
      (World.shaped_of_ZipB (by kernel_rfl) (by kernel_rfl)) (by kernel_rfl) (by kernel_rfl) (by kernel_rfl)
      (by rw [MakeChecks.laidMetH_plain _ _ _ (by kernel_rfl)]; exact laidMet_laidAll _ (by kernel_rfl) (by kernel_rfl))) ?_
  intro W base args ds gs before hval0 hW _ _ hL _
  have hval : ∀ (j : Nat) t v, Tryd.f6.params[j]? = some t → args[j]? = some v → Value.okWide Tryd.prog W .any base t v := hval0
  have hW' := hW
  obtain ⟨p, q, hA0, hV, rfl, hfz, hnd⟩ := hW
  have hA : DataW.TrodAll enc Tryd.prog W 0 (fun _ => true) true Tryd.f6.params.toList args.toList ds p := hA0
  have hq : ∀ d ∈ ds, (fun _ : DataW H => True) d := fun _ _ => trivial
  have hB := bulk_true (H := H)
  obtain ⟨rfl, rfl⟩ := trodVars_none hV
  have hp := ips_of hB (r := .any) (b0 := base) (show ipsOf Tryd.prog Tryd.f6.params.toList = some [.agg [.i .i64, .i .i64], .one .s, .one .s] by kernel_rfl) hA (fun i t v h1 h2 => hval i t v (by rw [← Array.getElem?_toList]; exact h1) (by rw [← Array.getElem?_toList]; exact h2)) hq
  have hst : ∀ W', Ext W W' → _ := fun W' hext => args_stay laidOut hext (by kernel_rfl) hA
  have hdl0 : ds.length = 3 := trodAll_dlen hA
  obtain ⟨d0, e0, rfl, hdl1⟩ := len_succ hdl0
  obtain ⟨d1, e1, rfl, hdl2⟩ := len_succ hdl1
  obtain ⟨d2, e2, rfl, hdl3⟩ := len_succ hdl2
  obtain rfl := len_zero hdl3
  obtain ⟨args⟩ := args
  clear hval0 hval hA0
  refine (law_bounds (gw_of_laid hL) hp).mono fun e W' ⟨he, hext⟩ => ?_
  subst he
  exact ⟨_, rfl, _, _, _, [], _, [], hW', trodAll_mk1 (shut_bool Tryd.underlying4 _), hst W' hext, rfl, ext_frame hext _, fun h => by cases h⟩

theorem over : Rows.vt52BoundsRow.holds Tryd.pinned (OpenSpec.ofChange Rows.vt52BoundsSpec) :=
  OpenClaim.holds_of_wide 6 Tryd.f6 rfl rfl rfl rfl rfl rfl rfl ⟨rfl, rfl, rfl, rfl, rfl⟩ rfl rfl rfl rfl rfl (by kernel_rfl) Tryd.func6 (by kernel_rfl)
    (of_decide_eq_true (by kernel_rfl)) (by unfold Func.isWrapper; first | (rw [if_pos (by decide +kernel)]; kernel_rfl) | (rw [if_neg (by decide +kernel)]; exact ⟨rfl, rfl⟩))
    (fun os started H enc _ => lifted os started H enc)

/-- The statement: the tied card. -/
theorem proved : Rows.Vt52BoundsCardSaid :=
  Claim7.holds_tied_plain_at .later [] [.data] true (true, "2d652a5adef837a59280de86bccb36a74da6408755754df45bb631ee5a2ef855") false
    over (fun _ h => by cases h) (by kernel_rfl) (fun _ h => by cases h) vt52Bounds_row_tie rfl ⟨rfl, rfl⟩ (by kernel_rfl) rfl
    (fun f fn hf hfn => by
      obtain rfl : f = 6 := Option.some.inj ((show Tryd.prog.funcNamed "vizard/vizardlaw12.Vt52Bounds" = some 6 by kernel_rfl).symm.trans hf) |>.symm
      obtain rfl : fn = Tryd.f6 := (Option.some.inj (Tryd.func6.symm.trans hfn)).symm
      exact ⟨by kernel_rfl, fun j t ht => by
        rw [Tryd.params6] at ht
        have hm : t ∈ [23, 9, 9] := by simpa using Array.mem_of_getElem? ht
        have hall : ([23, 9, 9].all fun u => !Tryd.prog.wantsStandIn u) = true := by kernel_rfl
        exact (show Tryd.prog.wantsStandIn t = false by simpa using List.all_eq_true.1 hall t hm)⟩)
    (by kernel_rfl)
#print axioms proved
end vt52Bounds

end Go.Proofs.YtcbjgpkbfmmdpaaDoor
