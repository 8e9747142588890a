/- The law of joins of texts of glyphs, run. -/
import Derived.Test.YtgpfdajjkalloaaGtF
import Derived.Test.YtgpfdajjkalloaaVW
import Derived.Lib.TrimUEq
set_option linter.unusedSimpArgs false
set_option linter.unusedVariables false
set_option linter.unusedSectionVars false
namespace Go.Proofs.Ytgpfdajjkalloaa
open Go Go.Sym

/-! ### Plain: what a rune's bytes are read as -/
def u8s (l : List Int) : List UInt8 := l.map fun n => UInt8.ofNat n.toNat
theorem bytesOf_list (l : List Int) : (bytesOf l).data.toList = u8s l := by simp [bytesOf, u8s]
theorem u8_nat {x : Int} (h : 0 ≤ x ∧ x ≤ 255) : (UInt8.ofNat x.toNat).toNat = x.toNat := UInt8.toNat_ofNat_of_lt' (by simp [UInt8.size]; omega)
theorem getD_pre {L M : List Int} {k : Nat} : (u8s (L ++ M)).getD (L.length + k) 0 = (u8s M).getD k 0 := by
  simp [u8s, List.getD, List.getElem?_append_right]
/-- The width of what is read is the width of what was written. -/
theorem dec_len {L R : List Int} {r : Int} (h : RuneOk r) : (Utf8.decode (bytesOf (L ++ (encR r ++ R))) L.length).2 = (encR r).length := by
  obtain ⟨h0, h1, h2⟩ := h
  rw [Lib.decode_N, bytesOf_list]
  have g0 := getD_pre (L := L) (M := encR r ++ R) (k := 0)
  have g1 := getD_pre (L := L) (M := encR r ++ R) (k := 1)
  have g2 := getD_pre (L := L) (M := encR r ++ R) (k := 2)
  have g3 := getD_pre (L := L) (M := encR r ++ R) (k := 3)
  rw [Nat.add_zero] at g0
  rw [g0, g1, g2, g3]
  have hl : (u8s (L ++ (encR r ++ R))).length - L.length = (encR r).length + R.length := by simp [u8s]
  rw [hl]
  generalize ((u8s (encR r ++ R)).getD 3 0).toNat = b3
  unfold encR
  by_cases c1 : r ≤ 127
  · rw [if_pos c1]
    have e0 : ((u8s ([r] ++ R)).getD 0 0).toNat = r.toNat := u8_nat (x := r) ⟨h0, by omega⟩
    rw [e0]
    unfold Lib.decodeN
    rw [if_pos (by omega)]
    rfl
  · rw [if_neg c1]
    by_cases c2 : r ≤ 2047
    · rw [if_pos c2]
      have e0 : ((u8s ([192 + r / 64, 128 + r % 64] ++ R)).getD 0 0).toNat = (192 + r / 64).toNat := u8_nat ⟨by omega, by omega⟩
      have e1 : ((u8s ([192 + r / 64, 128 + r % 64] ++ R)).getD 1 0).toNat = (128 + r % 64).toNat := u8_nat ⟨by omega, by omega⟩
      rw [e0, e1]
      generalize ((u8s ([192 + r / 64, 128 + r % 64] ++ R)).getD 2 0).toNat = b2
      unfold Lib.decodeN
      simp only [List.length_cons, List.length_nil]
      rw [if_neg (by omega), if_pos ⟨by omega, by omega, by omega⟩, if_pos (by omega)]
    · rw [if_neg c2]
      have e0 : ((u8s ([224 + r / 4096, 128 + r / 64 % 64, 128 + r % 64] ++ R)).getD 0 0).toNat = (224 + r / 4096).toNat := u8_nat ⟨by omega, by omega⟩
      have e1 : ((u8s ([224 + r / 4096, 128 + r / 64 % 64, 128 + r % 64] ++ R)).getD 1 0).toNat = (128 + r / 64 % 64).toNat := u8_nat ⟨by omega, by omega⟩
      have e2 : ((u8s ([224 + r / 4096, 128 + r / 64 % 64, 128 + r % 64] ++ R)).getD 2 0).toNat = (128 + r % 64).toNat := u8_nat ⟨by omega, by omega⟩
      rw [e0, e1, e2]
      unfold Lib.decodeN
      simp only [List.length_cons, List.length_nil]
      rw [if_neg (by omega), if_neg (by omega), if_pos ⟨by omega, ⟨by omega, by omega⟩, by omega, by omega⟩, if_pos (by omega)]
theorem txL_append (set : Int) (s : ByteArray) (i : Nat) : ∀ k : Nat, ∃ R, txL set s (i + k) = txL set s i ++ R
  | 0 => ⟨[], by simp⟩
  | k + 1 => by
    obtain ⟨R, h⟩ := txL_append set s i k
    exact ⟨R ++ encR (ofT set (byteAt s (i + k))), by rw [← Nat.add_assoc, txL_succ, h, List.append_assoc]⟩
/-- A step of the loop over a text of glyphs. -/
theorem tx_step (set : Int) (s : ByteArray) {i n : Nat} (h : i < n) : (Utf8.decode (bytesOf (txL set s n)) (txL set s i).length).2 = (encR (ofT set (byteAt s i))).length := by
  obtain ⟨R, hR⟩ := txL_append set s (i + 1) (n - (i + 1))
  rw [show i + 1 + (n - (i + 1)) = n by omega] at hR
  rw [hR, txL_succ, List.append_assoc]
  exact dec_len (rune_of set (byteAt_range s i))
theorem txL_lt (set : Int) (s : ByteArray) {i n : Nat} (h : i < n) : (txL set s i).length < (txL set s n).length := by
  obtain ⟨R, hR⟩ := txL_append set s (i + 1) (n - (i + 1))
  rw [show i + 1 + (n - (i + 1)) = n by omega] at hR
  have := encR_len (ofT set (byteAt s i))
  rw [hR, txL_succ, List.length_append, List.length_append]
  omega
/-- Glyphs of two texts, one behind the other. -/
theorem byteAt_left {s t : ByteArray} {j : Nat} (h : j < s.size) : byteAt (s ++ t) j = byteAt s j := by
  have h' : j < s.data.toList.length := by simpa using h
  unfold byteAt
  rw [ByteArray.data_append, Array.toList_append, List.getD, List.getD, List.getElem?_append_left h']
theorem byteAt_right {s t : ByteArray} {j : Nat} : byteAt (s ++ t) (s.size + j) = byteAt t j := by
  have h' : s.size = s.data.toList.length := by simp
  unfold byteAt
  rw [ByteArray.data_append, Array.toList_append, List.getD, List.getD, h', List.getElem?_append_right (by omega), Nat.add_sub_cancel_left]
theorem txL_left (set : Int) (s t : ByteArray) : ∀ i : Nat, i ≤ s.size → txL set (s ++ t) i = txL set s i
  | 0, _ => rfl
  | i + 1, h => by rw [txL_succ, txL_succ, txL_left set s t i (by omega), byteAt_left (by omega)]
theorem txL_right (set : Int) (s t : ByteArray) : ∀ i : Nat, txL set (s ++ t) (s.size + i) = txL set s s.size ++ txL set t i
  | 0 => by rw [Nat.add_zero, txL_left set s t s.size (Nat.le_refl _)]; simp [txL]
  | i + 1 => by rw [← Nat.add_assoc, txL_succ, txL_right set s t i, byteAt_right, txL_succ, List.append_assoc]
theorem txL_join (set : Int) (s t : ByteArray) : txL set (s ++ t) (s ++ t).size = txL set s s.size ++ txL set t t.size := by
  rw [ByteArray.size_append]; exact txL_right set s t t.size

/-! ### The law -/
def itB (st : St Unit) : Nat := match st.tm[(20 : Nat)]? with
  | some (.p b _) => b
  | _ => 0
def annGj (set : Int) (s : ByteArray) : Ann Unit where
  α := Int
  φ _ i := 0 ≤ i ∧ i ≤ s.size
  μ _ i := ((s.size : Int) - i).toNat
  get st := getI st.tm 7
  f st i := tmpl [0, 1, 2, 6, 20] [(7, .v (.int .i64 i))] [(itB st, .obj (.stringIter (bytesOf (txL set s s.size)) (txL set s i.toNat).length))] st
noncomputable def cfgGj (set : Int) (s : ByteArray) : Cfg Unit := allCfg Try.prog purG tabH 0 [(386, annGj set s)]
theorem cfgGj_ok (set : Int) (s : ByteArray) (I : Sym.Inv Unit) : CfgOk I (cfgGj set s) := allCfg_ok mixed purG_ok tabH_ok
set_option maxHeartbeats 4000000 in
theorem run_gjoins (set : Int) (s t : ByteArray) : Sym.Ask (bodyK Try.prog (run (cfgGj set s) 80) Try.f8 [.v (.int .i64 set), .v (.string s), .v (.string t)] [] (fun y _ => y = .v (.bool true))) := by
  refine kcast (B := (br (decide ((↑s.size : Int) > (300 : Int))) (true = true ∧ SV.v (Value.bool true) = SV.v (Value.bool true)) (br (decide ((↑t.size : Int) > (300 : Int))) (true = true ∧ SV.v (Value.bool true) = SV.v (Value.bool true)) (true =
   true ∧ s.size ≤ (1099511627 : Nat) ∧ (II (0 : Int) ≤ (0 : Int) ∧ (0 : Int) ≤ (↑s.size : Int)) ∧ ((SV.v (Value.int IntKind.i64 set) = SV.v (Value.int IntKind.i64 set) ∧ SV.v (Value.string s) = SV.v (Value.string s) ∧ SV.v (Value.string t) = SV.v
   (Value.string t) ∧ SV.v (Value.bool false) = SV.v (Value.bool false) ∧ SV.v (Value.int IntKind.i64 (0 : Int)) = SV.v (Value.int IntKind.i64 (0 : Int)) ∧ SV.p (0 : Nat) (0 : Nat) = SV.p (0 : Nat) (0 : Nat) ∧ True) ∧ Obj.stringIter (bytesOf (txL set s
   s.size)) (0 : Nat) = Obj.stringIter (bytesOf (txL set s s.size)) (0 : Nat) ∧ True) ∧ ∀ (x : Int), (0 : Int) ≤ x ∧ x ≤ (↑s.size : Int) → br ((txL set s x.toNat).length.blt (bytesOf (txL set s s.size)).size) (((0 : Int) ≤ IntKind.i64.wrap (x + (1 :
   Int)) ∧ IntKind.i64.wrap (x + (1 : Int)) ≤ (↑s.size : Int)) ∧ ((SV.v (Value.int IntKind.i64 set) = SV.v (Value.int IntKind.i64 set) ∧ SV.v (Value.string s) = SV.v (Value.string s) ∧ SV.v (Value.string t) = SV.v (Value.string t) ∧ SV.v (Value.bool
   false) = SV.v (Value.bool false) ∧ SV.v (Value.int IntKind.i64 (IntKind.i64.wrap (x + (1 : Int)))) = SV.v (Value.int IntKind.i64 (IntKind.i64.wrap (x + (1 : Int)))) ∧ SV.p (0 : Nat) (0 : Nat) = SV.p (0 : Nat) (0 : Nat) ∧ True) ∧ Obj.stringIter
   (bytesOf (txL set s s.size)) ((txL set s x.toNat).length + decW (bytesOf (txL set s s.size)) (txL set s x.toNat).length) = Obj.stringIter (bytesOf (txL set s s.size)) (txL set s (IntKind.i64.wrap (x + (1 : Int))).toNat).length ∧ True) ∧ ((↑s.size : Int) - IntKind.i64.wrap (x + (1 : Int))).toNat < ((↑s.size :
   Int) - x).toNat) (rq ((s.size + t.size).ble (9223372036854775807 : Nat)) (true = true ∧ (s ++ t).size ≤ (1099511627 : Nat) ∧ true = true ∧ s.size ≤ (1099511627 : Nat) ∧ true = true ∧ t.size ≤ (1099511627 : Nat) ∧ rq (((bytesOf (txL set s
   s.size)).size + (bytesOf (txL set t t.size)).size).ble (9223372036854775807 : Nat)) (br ((bytesOf (txL set (s ++ t) (s ++ t).size)).toList == (bytesOf (txL set s s.size) ++ bytesOf (txL set t t.size)).toList) (br (x == (↑s.size : Int)) (true = true ∧
   SV.v (Value.bool true) = SV.v (Value.bool true)) (SV.v (Value.bool false) = SV.v (Value.bool true))) (SV.v (Value.bool false) = SV.v (Value.bool true))))))))) (by kernel_rfl) ?_
  simp only [rq_iff, br_iff, II, nbeq, decide_eq_true_eq, decide_eq_false_iff_not, true_and, and_true, and_self, implies_true, Nat.blt_eq, bytesOf_size]
  refine fun hs ht => ⟨by omega, ⟨Int.le_refl 0, by omega⟩, fun x ⟨hx0, hx1⟩ => ⟨fun hlt => ?_, fun hge => ?_⟩⟩
  · have hi : x.toNat < s.size := by
      rcases Nat.lt_or_ge x.toNat s.size with h | h
      · exact h
      · rw [show x.toNat = s.size by omega] at hlt
        omega
    have h1 := tx_step set s hi
    have h2 := txL_succ set s x.toNat
    have h3 : (txL set s x.toNat).length + decW (bytesOf (txL set s s.size)) (txL set s x.toNat).length = (txL set s (x + 1).toNat).length := by
      rw [decW_eq, h1, show (x + 1).toNat = x.toNat + 1 by omega, h2, List.length_append]
    rw [wrap64 (x := x + 1) (by omega) (by omega), h3]
    exact ⟨⟨by omega, by omega⟩, rfl, by omega⟩
  · have hx : x = s.size := by
      rcases Int.lt_or_le x s.size with h | h
      · have := txL_lt set s (i := x.toNat) (n := s.size) (by omega)
        have hge : ¬ (txL set s x.toNat).length < (txL set s s.size).length := by
          intro hh
          rw [← Bool.not_eq_true, Nat.blt_eq] at hge
          exact hge hh
        omega
      · omega
    have l1 := txL_len set s s.size
    have l2 := txL_len set t t.size
    rw [txL_join, bytesOf_append]
    refine ⟨Nat.ble_eq_true_of_le (by omega), by rw [ByteArray.size_append]; omega, by omega, by omega, Nat.ble_eq_true_of_le (by omega), fun _ => fun h => ?_, fun h => by simp at h⟩
    subst hx
    simp at h
theorem law_gjoins {W : World} {vs : List Value} (hp : IPDens (wholeH W) maxLen [.one (.i .i64), .one .s, .one .s] vs) : Calls Try.prog 8 vs.toArray W fun en W' => en = .returned (.bool true) ∧ Ext W W' := by
  simp only [IPDens, IP.den, IT.dens, it_s, it_i] at hp
  obtain ⟨_, _, rfl, ⟨set, rfl, _⟩, _, _, rfl, ⟨s, rfl, _⟩, _, _, rfl, ⟨t, rfl, _⟩, rfl⟩ := hp
  refine law_run (cfgGj_ok set s) rfl Try.func8 [] (by simp) ?_ (run_gjoins set s t)
  exact dl_cons den_v (dl_cons den_v (dl_cons den_v dl_nil))
end Go.Proofs.Ytgpfdajjkalloaa
