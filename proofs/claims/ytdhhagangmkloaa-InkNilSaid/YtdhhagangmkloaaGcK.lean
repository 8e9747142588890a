/- The law of a nil grid, of layer 8, run. -/
import Derived.Test.YtdhhagangmkloaaGcJ
import Derived.Test.YtdhhagangmkloaaVW
set_option linter.unusedSimpArgs false
set_option linter.unusedVariables false
set_option linter.unusedSectionVars false
namespace Go.Proofs.Ytdhhagangmkloaa
open Go Go.Sym

def ptab08 : List (Nat × PS) := [(43, psAwake)]
theorem ptab08_ok : Pures Try.prog ptab08 := ⟨ok_awake08, trivial⟩
noncomputable def cfg08 : Cfg Unit := allCfg Try.prog ptab08 tabO 4
set_option maxHeartbeats 4000000 in
theorem run_inil (r c w : Int) (q : Bool) (s : ByteArray) : Sym.Ask (bodyK Try.prog (run cfg08 80) Try.f19 [.a [.v (.int .i64 r), .v (.int .i64 c), .v (.bool q), .v (.int .i64 w), .v (.string s)]] [] (fun y _ => y = .v (.bool true))) := by
  refine kcast (B := (br (decide ((↑s.size : Int) > (60 : Int))) (True ∧ SV.v (Value.bool true) = SV.v (Value.bool true)) (true = true ∧ true = true ∧ (II (0 : Int) ≤ (120 : Int) ∧ II (120 : Int) ≤ (255 : Int)) ∧ true = true ∧ true = true ∧ (II (0 : Int) ≤ (120 : Int) ∧ II (120 : Int) ≤ (255 : Int)) ∧ true = true ∧ (II (0 : Int) ≤ (32 : Int) ∧ II (32 : Int) ≤ (255 : Int)) ∧ true = true ∧ true = true ∧ true = true ∧ (II (0 : Int) ≤ (120 : Int) ∧ II (120 : Int) ≤ (255 : Int)) ∧ true = true ∧ (II (0 : Int) ≤ (32 : Int) ∧ II (32 : Int) ≤ (255 : Int)) ∧ true = true ∧ true = true ∧ true = true ∧ s.size ≤ (60 : Nat) ∧ true = true ∧ (II (0 : Int) ≤ (32 : Int) ∧ II (32 : Int) ≤ (255 : Int)) ∧ true = true ∧ true = true ∧ true = true ∧ s.size ≤ (60 : Nat) ∧ true = true ∧ (II (0 : Int) ≤ (32 : Int) ∧ II (32 : Int) ≤ (255 : Int)) ∧ true = true ∧ true = true ∧ true = true ∧ true = true ∧ true = true ∧ false = false ∧ true = true ∧ true = true ∧ true = true ∧ true = true ∧ false = false ∧ True ∧ SV.v (Value.bool true) = SV.v (Value.bool true)))) (by kernel_rfl) ?_
  simp only [br_iff, II, decide_eq_true_eq, decide_eq_false_iff_not, true_and, and_true, implies_true, and_self]
  intro h
  have : s.size ≤ 60 := by omega
  simp [this]
theorem law_inil {W : World} {vs : List Value} (hp : IPDens (wholeH W) maxLen [.agg [.i .i64, .i .i64, .b, .i .i64, .s]] vs) : Calls Try.prog 19 vs.toArray W fun en W' => en = .returned (.bool true) ∧ Ext W W' := by
  simp only [IPDens, IP.den, IT.dens, it_i, it_b, it_s] at hp
  obtain ⟨_, _, rfl, ⟨us, rfl, _, _, rfl, ⟨n1, rfl, _⟩, _, _, rfl, ⟨n2, rfl, _⟩, _, _, rfl, ⟨q, rfl⟩, _, _, rfl, ⟨n3, rfl, _⟩, _, _, rfl, ⟨s, rfl, _⟩, rfl⟩, rfl⟩ := hp
  refine law_run (fun I => allCfg_ok mixed ptab08_ok tabO_ok) rfl Try.func19 [] (by simp) ?_ (run_inil n1 n2 n3 q s)
  exact dl_cons (den_a (dl_cons den_v (dl_cons den_v (dl_cons den_v (dl_cons den_v (dl_cons den_v dl_nil)))))) dl_nil
end Go.Proofs.Ytdhhagangmkloaa
