/- What both laws of layer 2 ask at their end: a contract. -/
import Derived.Test.YtgpfdajjkalloaaGtE
set_option linter.unusedSimpArgs false
set_option linter.unusedVariables false
set_option linter.unusedSectionVars false
namespace Go.Proofs.Ytgpfdajjkalloaa
open Go Go.Sym

def purG : List (Nat × PS) := [(11, psOf), (10, psROf)]
theorem purG_ok : Pures Try.prog purG := ⟨ok_Of, ok_rOf, trivial⟩
def tabG : List (Nat × ACon Unit) := [(13, lcBack), (16, lcText)]
theorem tabG_ok : LCs Try.prog tabG := ⟨ok_back, ok_text, trivial⟩
def lcAwake : ACon Unit := mkLC (decP shNil shHNil) fun _ => .one (.v (.bool true)) [] []
set_option maxHeartbeats 4000000 in
theorem ok_awake : ∀ I : Sym.Inv Unit, LCOk I Try.prog 12 lcAwake := by
  refine lc_mk (fun _ => allCfg Try.prog purG tabG 0) (fun _ _ => allCfg_ok mixed purG_ok tabG_ok) (fun _ => rfl) (n := 80) Try.func12 ?_
  intro ⟨_, _⟩ hφ
  refine kcast (B := (true = true ∧ (II (0 : Int) ≤ (97 : Int) ∧ II (97 : Int) ≤ (255 : Int)) ∧ true = true ∧ (II (0 : Int) ≤ (219 : Int) ∧ II (219 : Int) ≤ (255 : Int)) ∧ (II (0 : Int) ≤ (225 : Int) ∧ II (225 : Int) ≤ (255 : Int)) ∧ (SV.v (Value.bool true) = SV.v (Value.bool true) ∧ True) ∧ True)) (by kernel_rfl) ?_
  exact ⟨rfl, ⟨by decide, by decide⟩, rfl, ⟨by decide, by decide⟩, ⟨by decide, by decide⟩, ⟨rfl, trivial⟩, trivial⟩
def tabH : List (Nat × ACon Unit) := (12, lcAwake) :: tabG
theorem tabH_ok : LCs Try.prog tabH := ⟨ok_awake, tabG_ok⟩
/-! ### Plain: a rune's bytes are what the conversion makes -/
theorem bytesOf_append (l r : List Int) : bytesOf (l ++ r) = bytesOf l ++ bytesOf r := by
  apply ByteArray.ext; simp [bytesOf]
theorem bytesOf_size (l : List Int) : (bytesOf l).size = l.length := by
  simp [bytesOf, ByteArray.size]
theorem bytesOf_encR {r : Int} (h : RuneOk r) : bytesOf (encR r) = Utf8.encode r := by
  obtain ⟨h0, h1, h2⟩ := h
  obtain ⟨n, rfl⟩ : ∃ n : Nat, r = n := ⟨r.toNat, by omega⟩
  apply ByteArray.ext
  apply Array.toList_inj.1
  unfold encR
  by_cases c1 : n < 128
  · rw [if_pos (by omega), Go.Extern.FmtText.enc1 n c1]
    simp [bytesOf]
  · rw [if_neg (by omega)]
    by_cases c2 : n < 2048
    · rw [if_pos (by omega), Go.Extern.FmtText.enc2 n c1 c2]
      simp only [bytesOf, List.map_cons, List.map_nil, List.cons.injEq, and_true]
      exact ⟨congrArg UInt8.ofNat (by omega), congrArg UInt8.ofNat (by omega)⟩
    · rw [if_neg (by omega), Go.Extern.FmtText.enc3 n c2 (by omega) (by omega)]
      simp only [bytesOf, List.map_cons, List.map_nil, List.cons.injEq, and_true]
      exact ⟨congrArg UInt8.ofNat (by omega), congrArg UInt8.ofNat (by omega), congrArg UInt8.ofNat (by omega)⟩
end Go.Proofs.Ytgpfdajjkalloaa
