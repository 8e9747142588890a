/- Bytes do what the document says: whatever the size, the texts and the bound, the law answers true; the blank cell reads as the program lays it. -/
import Derived.Test.YtcbjgpkbfmmdpaaGreatDoorRows
import Derived.Test.YtcbjgpkbfmmdpaaGreatDoorCards
import Derived.Test.YtcbjgpkbfmmdpaaGreatDoorTie
import Derived.Test.YtcbjgpkbfmmdpaaGreatDoorHpPr
import Derived.Test.YtcbjgpkbfmmdpaaGreatDoorHpPf
import Derived.SevenTiedAt
set_option linter.unusedSimpArgs false
set_option linter.unusedVariables false
set_option linter.unusedSectionVars false
namespace Go.Proofs.YtcbjgpkbfmmdpaaGreatDoor
open Go Go.Sym

namespace vt52Plays
open Go.ChangeShapes Go.WideShapes Go.ChangeAt Go.RowKit
set_option maxRecDepth 100000 in
theorem lifted (os : Os) (started : os.Started) (H : Type) (enc : TypeId × Value → H) :
    ReturnsInHanded {} Tryz.checked os 3 .any (fun w args => (Rows.vt52PlaysSpec.pre enc Tryz.prog Tryz.f3 Rows.vt52PlaysRow.domain false w args ∧ laidMetH Tryz.prog laidL w) ∧ sizedMet enc Tryz.prog Tryz.f3 (OpenSpec.ofChange Rows.vt52PlaysSpec) false w args)
      (Rows.vt52PlaysSpec.post enc Tryz.prog Tryz.f3 false true false false) := by
  refine returnsInHanded_of_change_and (C := Tryz.checked) (X := fun w _ => laidMetH Tryz.prog laidL w) (fun _ _ _ hh h => h.of_heap hh) own started (by kernel_rfl) Tryz.func3
    (ChangeSpec.witness_shaped (enc := enc) (C := Tryz.checked) (os := os) (X := fun w _ => laidMetH Tryz.prog laidL w) false (World.laidAll Tryz.prog os laidL) #[.agg #[.int .i64 0, .int .i64 0], .slice none 0 0, .int .i64 0] 8 (World.laidAll_os _ _ _)
      (World.shaped_of_ZipB (by kernel_rfl) (by kernel_rfl)) (by kernel_rfl) (by kernel_rfl) (by kernel_rfl)
      (by rw [MakeChecks.laidMetH_plain _ _ _ (by kernel_rfl)]; exact laidMet_laidAll _ (by kernel_rfl) (by kernel_rfl))) ?_
  intro W base args ds gs before hval0 hW _ _ hL _
  have hval : ∀ (j : Nat) t v, Tryz.f3.params[j]? = some t → args[j]? = some v → Value.okWide Tryz.prog W .any base t v := hval0
  have hW' := hW
  obtain ⟨p, q, hA0, hV, rfl, hfz, hnd⟩ := hW
  have hA : DataW.TrodAll enc Tryz.prog W 0 (fun _ => true) true Tryz.f3.params.toList args.toList ds p := hA0
  have hq : ∀ d ∈ ds, (fun _ : DataW H => True) d := fun _ _ => trivial
  have hB := bulk_true (H := H)
  obtain ⟨rfl, rfl⟩ := trodVars_none hV
  have hp := ips_of hB (r := .any) (b0 := base) (show ipsOf Tryz.prog Tryz.f3.params.toList = some [.agg [.i .i64, .i .i64], .one (.sl [.s]), .one (.i .i64)] by kernel_rfl) hA (fun i t v h1 h2 => hval i t v (by rw [← Array.getElem?_toList]; exact h1) (by rw [← Array.getElem?_toList]; exact h2)) hq
  have hst : ∀ W', Ext W W' → _ := fun W' hext => args_stay laidOut hext (by kernel_rfl) hA
  have hdl0 : ds.length = 3 := trodAll_dlen hA
  obtain ⟨d0, e0, rfl, hdl1⟩ := len_succ hdl0
  obtain ⟨d1, e1, rfl, hdl2⟩ := len_succ hdl1
  obtain ⟨d2, e2, rfl, hdl3⟩ := len_succ hdl2
  obtain rfl := len_zero hdl3
  obtain ⟨args⟩ := args
  clear hval0 hval hA0
  refine (law_plays (gw_of_laid hL) hp).mono fun e W' ⟨he, hext⟩ => ?_
  subst he
  exact ⟨_, rfl, _, _, _, [], _, [], hW', trodAll_mk1 (shut_bool Tryz.underlying4 _), hst W' hext, rfl, ext_frame hext _, fun h => by cases h⟩

theorem over : Rows.vt52PlaysRow.holds Tryz.pinned (OpenSpec.ofChange Rows.vt52PlaysSpec) :=
  OpenClaim.holds_of_wide 3 Tryz.f3 rfl rfl rfl rfl rfl rfl rfl ⟨rfl, rfl, rfl, rfl, rfl⟩ rfl rfl rfl rfl rfl (by kernel_rfl) Tryz.func3 (by kernel_rfl)
    (of_decide_eq_true (by kernel_rfl)) (by unfold Func.isWrapper; first | (rw [if_pos (by decide +kernel)]; kernel_rfl) | (rw [if_neg (by decide +kernel)]; exact ⟨rfl, rfl⟩))
    (fun os started H enc _ => lifted os started H enc)

/-- The statement: the tied card. -/
theorem proved : Rows.Vt52PlaysCardSaid :=
  Claim7.holds_tied_plain_at .later [] [.data] true (true, "5a28c5485297aed35a35c376b2b2623706c04a3718ce399453b7aa1d9a1c6cc1") false
    over (fun _ h => by cases h) (by kernel_rfl) (fun _ h => by cases h) vt52Plays_row_tie rfl ⟨rfl, rfl⟩ (by kernel_rfl) rfl
    (fun f fn hf hfn => by
      obtain rfl : f = 3 := Option.some.inj ((show Tryz.prog.funcNamed "vizard/vizardlaw12.Vt52Plays" = some 3 by kernel_rfl).symm.trans hf) |>.symm
      obtain rfl : fn = Tryz.f3 := (Option.some.inj (Tryz.func3.symm.trans hfn)).symm
      exact ⟨by kernel_rfl, fun j t ht => by
        rw [Tryz.params3] at ht
        have hm : t ∈ [23, 24, 3] := by simpa using Array.mem_of_getElem? ht
        have hall : ([23, 24, 3].all fun u => !Tryz.prog.wantsStandIn u) = true := by kernel_rfl
        exact (show Tryz.prog.wantsStandIn t = false by simpa using List.all_eq_true.1 hall t hm)⟩)
    (by kernel_rfl)
#print axioms proved
end vt52Plays

end Go.Proofs.YtcbjgpkbfmmdpaaGreatDoor
