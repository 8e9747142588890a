/- The law of a nil grid, run. -/
import Derived.Test.YtpdhnmnjccnbmaaGrE
import Derived.Test.YtpdhnmnjccnbmaaVW
set_option linter.unusedSimpArgs false
set_option linter.unusedVariables false
set_option linter.unusedSectionVars false
namespace Go.Proofs.Ytpdhnmnjccnbmaa
open Go Go.Sym

noncomputable def cfgNil : Cfg Unit := allCfg Try.prog ptab tabN 4
set_option maxHeartbeats 4000000 in
theorem run_nil (ask ar ac br bc N X : Int) : Sym.Ask (bodyK Try.prog (run cfgNil 80) Try.f4 [.a [.v (.int .i64 ask), .v (.int .i64 ar), .v (.int .i64 ac), .v (.int .i64 br), .v (.int .i64 bc), .v (.int .i64 N), .v (.int .i64 X)]] [] (fun y _ => y = .v (.bool true))) := by
  refine kcast (B := (Sym.br (ask == (4 : Int)) (true = true ∧ Sym.br (mayB br bc) (Sym.br (decide (br > (12 : Int))) (True ∧ SV.v (Value.bool true) = SV.v (Value.bool true)) (Sym.br (decide (bc > (20 : Int))) (True ∧ SV.v (Value.bool true) = SV.v (Value.bool true)) (true = true ∧ true = true ∧ true = true ∧ true = true ∧ true = true ∧ true = true ∧ true = true ∧ true = true ∧ true = true ∧ true = true ∧ true = true ∧ True ∧ SV.v (Value.bool true) = SV.v (Value.bool true)))) (true = true ∧ true = true ∧ true = true ∧ true = true ∧ true = true ∧ true = true ∧ true = true ∧ true = true ∧ true = true ∧ true = true ∧ true = true ∧ True ∧ SV.v (Value.bool true) = SV.v (Value.bool true))) (true = true ∧ true = true ∧ true = true ∧ true = true ∧ true = true ∧ true = true ∧ true = true ∧ true = true ∧ true = true ∧ true = true ∧ true = true ∧ True ∧ SV.v (Value.bool true) = SV.v (Value.bool true)))) (by kernel_rfl) ?_
  simp [br_iff]
theorem law_nil {W : World} {vs : List Value} (hp : IPDens (wholeH W) maxLen [.agg [.i .i64, .i .i64, .i .i64, .i .i64, .i .i64, .i .i64, .i .i64]] vs) : Calls Try.prog 4 vs.toArray W fun en W' => en = .returned (.bool true) ∧ Ext W W' := by
  simp only [IPDens, IP.den, IT.dens, it_i] at hp
  obtain ⟨_, _, rfl, ⟨us, rfl, _, _, rfl, ⟨n1, rfl, _⟩, _, _, rfl, ⟨n2, rfl, _⟩, _, _, rfl, ⟨n3, rfl, _⟩, _, _, rfl, ⟨n4, rfl, _⟩, _, _, rfl, ⟨n5, rfl, _⟩, _, _, rfl, ⟨n6, rfl, _⟩, _, _, rfl, ⟨n7, rfl, _⟩, rfl⟩, rfl⟩ := hp
  refine law_run (fun I => allCfg_ok mixed ptab_ok tabN_ok) rfl Try.func4 [] (by simp) ?_ (run_nil n1 n2 n3 n4 n5 n6 n7)
  exact dl_cons (den_a (dl_cons den_v (dl_cons den_v (dl_cons den_v (dl_cons den_v (dl_cons den_v (dl_cons den_v (dl_cons den_v dl_nil)))))))) dl_nil
end Go.Proofs.Ytpdhnmnjccnbmaa
