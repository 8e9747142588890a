/- The law of a nil queue, run. -/
import Derived.Test.YtienakdnmhmglaaQuF
import Derived.Test.YtienakdnmhmglaaVW
set_option linter.unusedSimpArgs false
set_option linter.unusedVariables false
set_option linter.unusedSectionVars false
namespace Go.Proofs.Ytienakdnmhmglaa
open Go Go.Sym

/-- The bytes of a call's texts are counted: whatever they are. -/
def annF1 : Ann Unit where
  α := Int × Int
  φ st x := 0 ≤ x.1 ∧ x.1 ≤ (xS st.H 0).length
  μ st x := ((xS st.H 0).length - x.1).toNat
  get st := match getI st.tm 5 with
    | some k => match getI st.tm 3 with
      | some n => some (k, n)
      | none => none
    | none => none
  f st x := tmpl [0, 4] [(5, .v (.int .i64 x.1)), (3, .v (.int .i64 x.2))] [] st
def ptab : List (Nat × PS) := [(11, psAwake)]
theorem ptab_ok : Pures Try.prog ptab := ⟨ok_awake, trivial⟩
noncomputable def cfgNil : Cfg Unit := allCfg Try.prog ptab qtabA 4 [(584, annF1)]
set_option maxHeartbeats 4000000 in
theorem run_nil (ask N : Int) (L : List ByteArray) (hL : (L.length : Int) ≤ 9223372036854775807) : Sym.Ask (bodyK Try.prog (run cfgNil 80) Try.f8 [.a [.v (.int .i64 ask), .r 0 [], .v (.int .i64 N)]] [.inp (.ss L)] (fun y _ => y = .v (.bool true))) := by
  refine kcast (B := (br (decide ((↑L.length : Int) > (20 : Int))) (True ∧ SV.v (Value.bool true) = SV.v (Value.bool true)) ((II (0 : Int) ≤ (0 : Int) ∧ (0 : Int) ≤ (↑L.length : Int)) ∧ ((SV.s (2 : Nat) (0 : Nat) (1 : Nat) (1 : Nat) = SV.s (2 : Nat) (0 : Nat) (1 : Nat) (1 : Nat) ∧ SV.v (Value.int IntKind.i64 (0 : Int)) = SV.v (Value.int IntKind.i64 (0 : Int)) ∧ SV.v (Value.int IntKind.i64 (0 : Int)) = SV.v (Value.int IntKind.i64 (0 : Int)) ∧ SV.v (Value.int IntKind.i64 (0 : Int)) = SV.v (Value.int IntKind.i64 (0 : Int)) ∧ True) ∧ IC.ss L = IC.ss L ∧ (SV.v (Value.int IntKind.i64 ask) = SV.v (Value.int IntKind.i64 ask) ∧ SV.r (0 : Nat) [] = SV.r (0 : Nat) [] ∧ SV.v (Value.int IntKind.i64 N) = SV.v (Value.int IntKind.i64 N) ∧ True) ∧ (SV.v (Value.int IntKind.i64 ask) = SV.v (Value.int IntKind.i64 ask) ∧ SV.r (0 : Nat) [] = SV.r (0 : Nat) [] ∧ SV.v (Value.int IntKind.i64 N) = SV.v (Value.int IntKind.i64 N) ∧ True) ∧ True) ∧ ∀ (x : Int × Int), (0 : Int) ≤ x.fst ∧ x.fst ≤ (↑L.length : Int) → br (decide (x.fst < (↑L.length : Int))) (rq (true && (true && (true && decide ((0 : Int) ≤ x.fst ∧ x.fst < (↑L.length : Int))))) (rq (true && (x.fst.toNat.blt L.length && true)) (((0 : Int) ≤ IntKind.i64.wrap (x.fst + (1 : Int)) ∧ IntKind.i64.wrap (x.fst + (1 : Int)) ≤ (↑L.length : Int)) ∧ ((SV.s (2 : Nat) (0 : Nat) (1 : Nat) (1 : Nat) = SV.s (2 : Nat) (0 : Nat) (1 : Nat) (1 : Nat) ∧ SV.v (Value.int IntKind.i64 (IntKind.i64.wrap (x.snd + (↑(L.getD x.fst.toNat ByteArray.empty).size : Int)))) = SV.v (Value.int IntKind.i64 (IntKind.i64.wrap (x.snd + (↑(L.getD x.fst.toNat ByteArray.empty).size : Int)))) ∧ SV.v (Value.int IntKind.i64 (0 : Int)) = SV.v (Value.int IntKind.i64 (0 : Int)) ∧ SV.v (Value.int IntKind.i64 (IntKind.i64.wrap (x.fst + (1 : Int)))) = SV.v (Value.int IntKind.i64 (IntKind.i64.wrap (x.fst + (1 : Int)))) ∧ True) ∧ IC.ss L = IC.ss L ∧ (SV.v (Value.int IntKind.i64 ask) = SV.v (Value.int IntKind.i64 ask) ∧ SV.r (0 : Nat) [] = SV.r (0 : Nat) [] ∧ SV.v (Value.int IntKind.i64 N) = SV.v (Value.int IntKind.i64 N) ∧ True) ∧ (SV.v (Value.int IntKind.i64 ask) = SV.v (Value.int IntKind.i64 ask) ∧ SV.r (0 : Nat) [] = SV.r (0 : Nat) [] ∧ SV.v (Value.int IntKind.i64 N) = SV.v (Value.int IntKind.i64 N) ∧ True) ∧ True) ∧ ((↑L.length : Int) - IntKind.i64.wrap (x.fst + (1 : Int))).toNat < ((↑L.length : Int) - x.fst).toNat))) (br (!decide (x.snd ≤ (20000 : Int))) (True ∧ SV.v (Value.bool true) = SV.v (Value.bool true)) (true = true ∧ true = true ∧ true = true ∧ true = true ∧ true = true ∧ true = true ∧ true = true ∧ True ∧ SV.v (Value.bool true) = SV.v (Value.bool true)))))) (by kernel_rfl) ?_
  simp only [rq_iff, br_iff, nbeq, Nat.blt_eq, true_and, and_true, and_self, reduceCtorEq, false_implies, implies_true, Bool.and_eq_true, decide_eq_true_eq, decide_eq_false_iff_not, II, Bool.false_eq_true, Bool.true_eq_false]
  refine fun _ => ⟨by omega, fun x ⟨h0, h1⟩ h2 => ?_⟩
  rw [wrap64 (x := x.1 + 1) (by omega) (by omega)]
  omega

theorem law_nil {W : World} {vs : List Value} (hp : IPDens (wholeH W) maxLen [.agg [.i .i64, .sl [.s], .i .i64]] vs) : Calls Try.prog 8 vs.toArray W fun en W' => en = .returned (.bool true) ∧ Ext W W' := by
  simp only [IPDens, IP.den, IT.dens, it_i] at hp
  obtain ⟨_, _, rfl, ⟨us, rfl, _, _, rfl, ⟨ask, rfl, _⟩, v, _, rfl, hL, _, _, rfl, ⟨N, rfl, _⟩, rfl⟩, rfl⟩ := hp
  obtain ⟨L, h1, _, h2⟩ := vv_ss hL
  refine law_run (fun I => allCfg_ok mixed ptab_ok qtabA_ok) rfl Try.func8 [(.ss L, v)] (by simpa using h2) ?_ (run_nil ask N L (by have : maxLen = 9223372036854775807 := rfl; omega))
  exact dl_cons (den_a (dl_cons den_v (dl_cons (den_r (l := [(.ss L, v)]) rfl h2.1) (dl_cons den_v dl_nil)))) dl_nil
end Go.Proofs.Ytienakdnmhmglaa
