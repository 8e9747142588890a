/- The law of a text's glyphs, run. -/
import Derived.Test.YtgpfdajjkalloaaGtF
import Derived.Test.YtgpfdajjkalloaaVW
set_option linter.unusedSimpArgs false
set_option linter.unusedVariables false
set_option linter.unusedSectionVars false
namespace Go.Proofs.Ytgpfdajjkalloaa
open Go Go.Sym

/-- The document's text grows glyph by glyph. -/
def annGx (set : Int) (s : ByteArray) : Ann Unit where
  α := Int
  φ _ i := 0 ≤ i ∧ i ≤ s.size
  μ _ i := ((s.size : Int) - i).toNat
  get st := getI st.tm 6
  f st i := tmpl [0, 1, 4] [(5, .v (.string (bytesOf (txL set s i.toNat)))), (6, .v (.int .i64 i))] [] st
noncomputable def cfgGx (set : Int) (s : ByteArray) : Cfg Unit := allCfg Try.prog purG tabH 0 [(388, annGx set s)]
theorem cfgGx_ok (set : Int) (s : ByteArray) (I : Sym.Inv Unit) : CfgOk I (cfgGx set s) := allCfg_ok mixed purG_ok tabH_ok
set_option maxHeartbeats 4000000 in
theorem run_text (set : Int) (s : ByteArray) : Sym.Ask (bodyK Try.prog (run (cfgGx set s) 80) Try.f7 [.v (.int .i64 set), .v (.string s)] [] (fun y _ => y = .v (.bool true))) := by
  refine kcast (B := (br (decide ((↑s.size : Int) > (300 : Int))) (true = true ∧ SV.v (Value.bool true) = SV.v (Value.bool true)) ((II (0 : Int) ≤ (0 : Int) ∧ (0 : Int) ≤ (↑s.size : Int)) ∧ ((SV.v (Value.int IntKind.i64 set) = SV.v (Value.int
   IntKind.i64 set) ∧ SV.v (Value.string s) = SV.v (Value.string s) ∧ SV.v (Value.bool false) = SV.v (Value.bool false) ∧ SV.v (Value.string (ByteArray.mk #[])) = SV.v (Value.string (bytesOf (txL set s (0 : Nat)))) ∧ SV.v (Value.int IntKind.i64 (0 :
   Int)) = SV.v (Value.int IntKind.i64 (0 : Int)) ∧ True) ∧ True) ∧ ∀ (x : Int), (0 : Int) ≤ x ∧ x ≤ (↑s.size : Int) → br (decide (x < (↑s.size : Int))) (rq (decide ((0 : Int) ≤ x ∧ x < (↑s.size : Int))) (((0 : Int) ≤ byteAt s x.toNat ∧ byteAt s x.toNat
   ≤ (255 : Int)) ∧ rq (((bytesOf (txL set s x.toNat)).size + (Utf8.encode (ofT set (byteAt s x.toNat))).size).ble (9223372036854775807 : Nat)) (((0 : Int) ≤ IntKind.i64.wrap (x + (1 : Int)) ∧ IntKind.i64.wrap (x + (1 : Int)) ≤ (↑s.size : Int)) ∧ ((SV.v
   (Value.int IntKind.i64 set) = SV.v (Value.int IntKind.i64 set) ∧ SV.v (Value.string s) = SV.v (Value.string s) ∧ SV.v (Value.bool false) = SV.v (Value.bool false) ∧ SV.v (Value.string (bytesOf (txL set s x.toNat) ++ Utf8.encode (ofT set (byteAt s
   x.toNat)))) = SV.v (Value.string (bytesOf (txL set s (IntKind.i64.wrap (x + (1 : Int))).toNat))) ∧ SV.v (Value.int IntKind.i64 (IntKind.i64.wrap (x + (1 : Int)))) = SV.v (Value.int IntKind.i64 (IntKind.i64.wrap (x + (1 : Int)))) ∧ True) ∧ True) ∧
   ((↑s.size : Int) - IntKind.i64.wrap (x + (1 : Int))).toNat < ((↑s.size : Int) - x).toNat))) (true = true ∧ s.size ≤ (1099511627 : Nat) ∧ br ((bytesOf (txL set s s.size)).toList == (bytesOf (txL set s x.toNat)).toList) (true = true ∧ SV.v (Value.bool
   true) = SV.v (Value.bool true)) (SV.v (Value.bool false) = SV.v (Value.bool true)))))) (by kernel_rfl) ?_
  simp only [rq_iff, br_iff, II, nbeq, decide_eq_true_eq, decide_eq_false_iff_not, true_and, and_true, and_self, implies_true]
  refine fun h300 => ⟨⟨Int.le_refl 0, by omega⟩, rfl, fun x ⟨hx0, hx1⟩ => ⟨fun hlt => ?_, fun hge => ?_⟩⟩
  · have hb := byteAt_range s x.toNat
    have hr := rune_of set hb
    have hl := txL_len set s x.toNat
    have he := encR_len (ofT set (byteAt s x.toNat))
    have hs : (Utf8.encode (ofT set (byteAt s x.toNat))).size = (encR (ofT set (byteAt s x.toNat))).length := by rw [← bytesOf_encR hr, bytesOf_size]
    have h2 : bytesOf (txL set s x.toNat) ++ Utf8.encode (ofT set (byteAt s x.toNat)) = bytesOf (txL set s (x + 1).toNat) := by
      rw [show (x + 1).toNat = x.toNat + 1 by omega, txL_succ, bytesOf_append, bytesOf_encR hr]
    rw [wrap64 (x := x + 1) (by omega) (by omega), h2, hs, bytesOf_size]
    exact ⟨⟨hx0, hlt⟩, hb, Nat.ble_eq_true_of_le (by omega), ⟨by omega, by omega⟩, rfl, by omega⟩
  · rw [show x.toNat = s.size by omega]
    exact ⟨by omega, fun h => by simp at h⟩
theorem law_text {W : World} {vs : List Value} (hp : IPDens (wholeH W) maxLen [.one (.i .i64), .one .s] vs) : Calls Try.prog 7 vs.toArray W fun en W' => en = .returned (.bool true) ∧ Ext W W' := by
  simp only [IPDens, IP.den, IT.dens, it_s, it_i] at hp
  obtain ⟨_, _, rfl, ⟨set, rfl, _⟩, _, _, rfl, ⟨s, rfl, _⟩, rfl⟩ := hp
  refine law_run (cfgGx_ok set s) rfl Try.func7 [] (by simp) ?_ (run_text set s)
  exact dl_cons den_v (dl_cons den_v dl_nil)
end Go.Proofs.Ytgpfdajjkalloaa
