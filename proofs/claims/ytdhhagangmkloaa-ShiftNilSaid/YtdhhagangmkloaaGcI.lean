/- The law of a nil grid, of layer 6, run. -/
import Derived.Test.YtdhhagangmkloaaGcH
import Derived.Test.YtdhhagangmkloaaVW
set_option linter.unusedSimpArgs false
set_option linter.unusedVariables false
set_option linter.unusedSectionVars false
namespace Go.Proofs.Ytdhhagangmkloaa
open Go Go.Sym

def lcUp0 : ACon Unit := mkLC (decP (shCons shNilP (shCons shI (shOne shC))) shHNil) fun _ => .one (.v (.int .i64 2)) [] []
def lcLines0 : ACon Unit := mkLC (decP (shCons shNilP (shCons shI (shCons shI (shCons shC (shOne shB))))) shHNil) fun _ => .one (.v (.int .i64 2)) [] []
def lcChars0 : ACon Unit := mkLC (decP (shCons shNilP (shCons shI2 (shCons shI (shCons shC (shOne shB))))) shHNil) fun _ => .one (.v (.int .i64 2)) [] []
set_option maxHeartbeats 4000000 in
theorem ok_up0 : ∀ I : Sym.Inv Unit, LCOk I Try.prog 54 lcUp0 := by
  refine lc_mk (fun _ => allCfg Try.prog [] tabI 3) (fun _ _ => allCfg_ok mixed trivial tabI_ok) (fun _ => rfl) (n := 80) Try.func54 ?_
  intro ⟨⟨_, n, x⟩, _⟩ hφ
  refine kcast (B := (true = true ∧ true = true ∧ (SV.v (Value.int IntKind.i64 (2 : Int)) = SV.v (Value.int IntKind.i64 (2 : Int)) ∧ True) ∧ True)) (by kernel_rfl) ?_
  simp [br_iff]
set_option maxHeartbeats 4000000 in
theorem ok_lines0 : ∀ I : Sym.Inv Unit, LCOk I Try.prog 52 lcLines0 := by
  refine lc_mk (fun _ => allCfg Try.prog [] tabI 3) (fun _ _ => allCfg_ok mixed trivial tabI_ok) (fun _ => rfl) (n := 80) Try.func52 ?_
  intro ⟨⟨_, r, n, x, q⟩, _⟩ hφ
  refine kcast (B := (true = true ∧ (SV.v (Value.int IntKind.i64 (2 : Int)) = SV.v (Value.int IntKind.i64 (2 : Int)) ∧ True) ∧ True)) (by kernel_rfl) ?_
  simp [br_iff]
set_option maxHeartbeats 4000000 in
theorem ok_chars0 : ∀ I : Sym.Inv Unit, LCOk I Try.prog 32 lcChars0 := by
  refine lc_mk (fun _ => allCfg Try.prog [] tabI 3) (fun _ _ => allCfg_ok mixed trivial tabI_ok) (fun _ => rfl) (n := 80) Try.func32 ?_
  intro ⟨⟨_, ⟨r, c⟩, n, x, q⟩, _⟩ hφ
  refine kcast (B := (true = true ∧ br q (true = true ∧ true = true ∧ true = true ∧ (SV.v (Value.int IntKind.i64 (2 : Int)) = SV.v (Value.int IntKind.i64 (2 : Int)) ∧ True) ∧ True) (true = true ∧ true = true ∧ (SV.v (Value.int IntKind.i64 (2 : Int)) = SV.v (Value.int IntKind.i64 (2 : Int)) ∧ True) ∧ True))) (by kernel_rfl) ?_
  simp [br_iff]
def tabK : List (Nat × ACon Unit) := (54, lcUp0) :: (52, lcLines0) :: (32, lcChars0) :: tabI
theorem tabK_ok : LCs Try.prog tabK := ⟨ok_up0, ok_lines0, ok_chars0, tabI_ok⟩
def ptab06 : List (Nat × PS) := [(27, psAwake)]
theorem ptab06_ok : Pures Try.prog ptab06 := ⟨ok_awake06, trivial⟩
noncomputable def cfg06 : Cfg Unit := allCfg Try.prog ptab06 tabK 4
set_option maxHeartbeats 4000000 in
theorem run_snil (r c n : Int) : Sym.Ask (bodyK Try.prog (run cfg06 80) Try.f12 [.a [.v (.int .i64 r), .v (.int .i64 c)], .v (.int .i64 n)] [] (fun y _ => y = .v (.bool true))) := by
  refine kcast (B := (true = true ∧ true = true ∧ true = true ∧ (II (0 : Int) ≤ (32 : Int) ∧ II (32 : Int) ≤ (255 : Int)) ∧ true = true ∧ true = true ∧ (II (0 : Int) ≤ (32 : Int) ∧ II (32 : Int) ≤ (255 : Int)) ∧ true = true ∧ true = true ∧ (II (0 : Int) ≤ (32 : Int) ∧ II (32 : Int) ≤ (255 : Int)) ∧ true = true ∧ true = true ∧ (II (0 : Int) ≤ (32 : Int) ∧ II (32 : Int) ≤ (255 : Int)) ∧ true = true ∧ True ∧ SV.v (Value.bool true) = SV.v (Value.bool true))) (by kernel_rfl) ?_
  simp [II]
theorem law_snil {W : World} {vs : List Value} (hp : IPDens (wholeH W) maxLen [.agg [.i .i64, .i .i64], .one (.i .i64)] vs) : Calls Try.prog 12 vs.toArray W fun en W' => en = .returned (.bool true) ∧ Ext W W' := by
  simp only [IPDens, IP.den, IT.dens, it_i] at hp
  obtain ⟨_, _, rfl, ⟨us, rfl, _, _, rfl, ⟨n1, rfl, _⟩, _, _, rfl, ⟨n2, rfl, _⟩, rfl⟩, _, _, rfl, ⟨n3, rfl, _⟩, rfl⟩ := hp
  refine law_run (fun I => allCfg_ok mixed ptab06_ok tabK_ok) rfl Try.func12 [] (by simp) ?_ (run_snil n1 n2 n3)
  exact dl_cons (den_a (dl_cons den_v (dl_cons den_v dl_nil))) (dl_cons den_v dl_nil)
end Go.Proofs.Ytdhhagangmkloaa
