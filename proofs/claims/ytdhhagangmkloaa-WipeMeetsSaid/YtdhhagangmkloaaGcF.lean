/- The law of a nil grid, of layer 7, run. -/
import Derived.Test.YtdhhagangmkloaaGcE
import Derived.Test.YtdhhagangmkloaaVW
set_option linter.unusedSimpArgs false
set_option linter.unusedVariables false
set_option linter.unusedSectionVars false
namespace Go.Proofs.Ytdhhagangmkloaa
open Go Go.Sym

def ptab07 : List (Nat × PS) := [(22, psAwake)]
theorem ptab07_ok : Pures Try.prog ptab07 := ⟨ok_awake07, trivial⟩
noncomputable def cfg07 : Cfg Unit := allCfg Try.prog ptab07 tabE 4
abbrev vI (n : Int) : SV := .v (.int .i64 n)
set_option maxHeartbeats 4000000 in
theorem run_wnil (ask ar ac br bc g a m : Int) (gd q : Bool) : Sym.Ask (bodyK Try.prog (run cfg07 80) Try.f4 [.a [.v (.int .i64 ask), .v (.int .i64 ar), .v (.int .i64 ac), .v (.int .i64 br), .v (.int .i64 bc), .v (.int .i32 g), .v (.int .i64 a), .v (.bool gd), .v (.int .i64 m), .v (.bool q)]] [] (fun y _ => y = .v (.bool true))) := by
  refine kcast (B := (Sym.br (ask == (0 : Int)) (true = true ∧ True ∧ SV.v (Value.bool true) = SV.v (Value.bool true)) (Sym.br (ask == (1 : Int)) (true = true ∧ True ∧ SV.v (Value.bool true) = SV.v (Value.bool true)) (true = true ∧ True ∧ SV.v (Value.bool true) = SV.v (Value.bool true))))) (by kernel_rfl) ?_
  simp [br_iff]
theorem law_wnil {W : World} {vs : List Value} (hp : IPDens (wholeH W) maxLen [.agg [.i .i64, .i .i64, .i .i64, .i .i64, .i .i64, .i .i32, .i .i64, .b, .i .i64, .b]] vs) : Calls Try.prog 4 vs.toArray W fun en W' => en = .returned (.bool true) ∧ Ext W W' := by
  simp only [IPDens, IP.den, IT.dens, it_i, it_b] at hp
  obtain ⟨_, _, rfl, ⟨us, rfl, _, _, rfl, ⟨n1, rfl, _⟩, _, _, rfl, ⟨n2, rfl, _⟩, _, _, rfl, ⟨n3, rfl, _⟩, _, _, rfl, ⟨n4, rfl, _⟩, _, _, rfl, ⟨n5, rfl, _⟩, _, _, rfl, ⟨n6, rfl, _⟩, _, _, rfl, ⟨n7, rfl, _⟩, _, _, rfl, ⟨n8, rfl⟩, _, _, rfl, ⟨n9, rfl, _⟩, _, _, rfl, ⟨n10, rfl⟩, rfl⟩, rfl⟩ := hp
  refine law_run (fun I => allCfg_ok mixed ptab07_ok tabE_ok) rfl Try.func4 [] (by simp) ?_ (run_wnil n1 n2 n3 n4 n5 n6 n7 n9 n8 n10)
  exact dl_cons (den_a (dl_cons den_v (dl_cons den_v (dl_cons den_v (dl_cons den_v (dl_cons den_v (dl_cons den_v (dl_cons den_v (dl_cons den_v (dl_cons den_v (dl_cons den_v dl_nil))))))))))) dl_nil
end Go.Proofs.Ytdhhagangmkloaa
