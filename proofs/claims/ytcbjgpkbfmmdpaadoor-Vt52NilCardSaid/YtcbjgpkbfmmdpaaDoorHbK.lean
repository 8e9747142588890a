/- The law of a nil terminal, run. -/
import Derived.Test.YtcbjgpkbfmmdpaaDoorHbJ
import Derived.Test.YtcbjgpkbfmmdpaaDoorVW
set_option linter.unusedSimpArgs false
set_option linter.unusedVariables false
set_option linter.unusedSectionVars false
namespace Go.Proofs.YtcbjgpkbfmmdpaaDoor
open Go Go.Sym

def tabN12 : List (Nat × ACon Unit) := (10, lcMade) :: (9, lcAwake) :: []
theorem tabN12_ok : LCs Tryd.prog tabN12 := ⟨ok_made, ok_awake, trivial⟩
noncomputable def cfgN : Cfg Unit := allCfg Tryd.prog [] tabN12 0
theorem cfgN_ok (I : Sym.Inv Unit) : CfgOk I cfgN := allCfg_ok mixed trivial tabN12_ok
set_option maxHeartbeats 4000000 in
theorem run_nil (s : ByteArray) : Sym.Ask (bodyK Tryd.prog (run cfgN 80) Tryd.f7 [.v (.string s)] [] (fun y _ => y = .v (.bool true))) := by
  refine kcast (B := (true = true ∧ (true = true ∧ II (0 : Int) ≤ (2 : Int) ∧ II (2 : Int) ≤ (4096 : Int)) ∧ br (decide ((↑s.size : Int) > (100 : Int))) (true =
        true ∧ SV.v (Value.bool true) = SV.v (Value.bool true)) (true = true ∧ SV.v (Value.bool true) = SV.v (Value.bool true)))) (by kernel_rfl) ?_
  simp [br_iff, II]
theorem law_nil {W : World} {vs : List Value} (hG : Gw W) (hp : IPDens (wholeH W) maxLen [.one .s] vs) : Calls Tryd.prog 7 vs.toArray W fun en W' => en = .returned (.bool true) ∧ Ext W W' := by
  simp only [IPDens, IP.den, it_s] at hp
  obtain ⟨_, _, rfl, ⟨s, rfl, hs⟩, rfl⟩ := hp
  refine law_run cfgN_ok rfl Tryd.func7 [] (by simp) ?_ (run_nil s) hG
  exact dl_cons den_v dl_nil
end Go.Proofs.YtcbjgpkbfmmdpaaDoor
