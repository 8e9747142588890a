/- The glyphs of a text: a contract. -/
import Derived.Test.YtgpfdajjkalloaaGtB
set_option linter.unusedSimpArgs false
set_option linter.unusedVariables false
set_option linter.unusedSectionVars false
namespace Go.Proofs.Ytgpfdajjkalloaa
open Go Go.Sym

def lcStr0 : ACon Unit := mkLC (decP (shOne (shP 0)) shBld0) fun _ => .one (.v (.string ByteArray.empty)) [.cells [.v (.pointer none), .v (.slice none 0 0)] 47] []
set_option maxHeartbeats 4000000 in
theorem ok_str0 : ∀ I : Sym.Inv Unit, LCOk I Try.prog 24 lcStr0 := by
  refine lc_mk (fun _ => allCfg Try.prog [] [] 0) (fun _ _ => allCfg_ok mixed trivial trivial) (fun _ => rfl) (n := 60) Try.func24 ?_
  intro ⟨_, _, _⟩ hφ
  refine kcast (B := ((SV.v (Value.string ByteArray.empty) = SV.v (Value.string ByteArray.empty) ∧ True) ∧ (SV.v (Value.pointer none) = SV.v (Value.pointer none) ∧ SV.v (Value.slice none (0 : Nat) (0 : Nat)) = SV.v (Value.slice none (0 : Nat) (0 : Nat)) ∧ True) ∧ True)) (by kernel_rfl) ?_
  simp [rq_iff]
def lcStr1 : ACon Unit := mkLC (decP (shOne (shP 0)) shBld1) fun (_, ((_, ep), ⟨xs, n, ep2⟩)) => .ask (ep = ep2 ∧ n = xs.length ∧ 1 ≤ xs.length ∧ xs.length ≤ 1099511627776 ∧ byteB xs = true) (.one (.v (.string (bytesOf xs))) [.cells [.p 0 0, .h 1 [ep, 0]] 47, .gone] [1])
set_option maxHeartbeats 4000000 in
theorem ok_str1 : ∀ I : Sym.Inv Unit, LCOk I Try.prog 24 lcStr1 := by
  refine lc_mk (fun _ => allCfg Try.prog [] [] 0) (fun _ _ => allCfg_ok mixed trivial trivial) (fun _ => rfl) (n := 60) Try.func24 ?_
  intro ⟨_, ⟨_, ep⟩, ⟨xs, n, ep2⟩⟩ hφ
  obtain ⟨⟨rfl, rfl, h1, h2, hb⟩, _⟩ := id hφ
  refine kcast (B := (rq (ep.beq ep && Nat.blt (0 : Nat) xs.length) (rq (ep.beq ep) (rq (ep.beq ep && (Nat.blt (0 : Nat) xs.length && (decide ((↑xs.length : Int) = (↑xs.length : Int)) && (byteB xs && decide (xs.length ≤ (9223372036854775807 :
   Nat)))))) ((SV.v (Value.string (bytesOf xs)) = SV.v (Value.string (bytesOf xs)) ∧ True) ∧ (SV.p (0 : Nat) (0 : Nat) = SV.p (0 : Nat) (0 : Nat) ∧ SV.h (1 : Nat) [ep, (0 : Nat)] = SV.h (1 : Nat) [ep, (0 : Nat)] ∧ True) ∧ True ∧ True))))) (by
   kernel_rfl) ?_
  simp only [rq_iff, nbeq, hb, Bool.and_eq_true, Nat.blt_eq, decide_eq_true_eq, true_and, and_true, and_self]
  omega
/-- The bytes of the first glyphs of a text. -/
def txL (set : Int) (s : ByteArray) (i : Nat) : List Int := (List.range i).flatMap fun j => encR (ofT set (byteAt s j))
theorem txL_succ (set : Int) (s : ByteArray) (i : Nat) : txL set s (i + 1) = txL set s i ++ encR (ofT set (byteAt s i)) := by
  simp [txL, List.range_succ]
theorem byteAt_range (s : ByteArray) (j : Nat) : 0 ≤ byteAt s j ∧ byteAt s j ≤ 255 := by
  unfold byteAt
  have := (s.data.toList.getD j 0).toNat_lt
  omega
instance (r : Int) : Decidable (RuneOk r) := by unfold RuneOk; infer_instance
theorem ok_k1 : ∀ n : Nat, n < 256 → RuneOk (ofT 1 n) := by decide +kernel
theorem ok_k2 : ∀ n : Nat, n < 256 → RuneOk (ofT 2 n) := by decide +kernel
theorem ok_k3 : ∀ n : Nat, n < 256 → RuneOk (ofT 3 n) := by decide +kernel
theorem ok_k4 : ∀ n : Nat, n < 256 → RuneOk (ofT 4 n) := by decide +kernel
theorem ok_k5 : ∀ n : Nat, n < 256 → RuneOk (ofT 5 n) := by decide +kernel
theorem rune_of (set : Int) {b : Int} (h : 0 ≤ b ∧ b ≤ 255) : RuneOk (ofT set b) := by
  obtain ⟨n, hn, rfl⟩ := byte_nat h
  by_cases h1 : set = 1
  · subst h1; exact ok_k1 n hn
  by_cases h2 : set = 2
  · subst h2; exact ok_k2 n hn
  by_cases h3 : set = 3
  · subst h3; exact ok_k3 n hn
  by_cases h4 : set = 4
  · subst h4; exact ok_k4 n hn
  by_cases h5 : set = 5
  · subst h5; exact ok_k5 n hn
  rw [show ofT set n = 65533 by simp [ofT, h1, h2, h3, h4, h5]]
  decide
theorem encR_len (r : Int) : 1 ≤ (encR r).length ∧ (encR r).length ≤ 3 := by
  unfold encR
  split
  · simp
  · split <;> simp
theorem encR_bytes {r : Int} (h : RuneOk r) : ∀ x ∈ encR r, 0 ≤ x ∧ x ≤ 255 := by
  obtain ⟨h0, h1, h2⟩ := h
  unfold encR
  intro x hx
  split at hx
  · simp at hx; omega
  · split at hx
    · simp at hx; omega
    · simp at hx; omega
theorem txL_len (set : Int) (s : ByteArray) : ∀ i : Nat, i ≤ (txL set s i).length ∧ (txL set s i).length ≤ 3 * i
  | 0 => by simp [txL]
  | i + 1 => by
    have := txL_len set s i
    have := encR_len (ofT set (byteAt s i))
    rw [txL_succ, List.length_append]
    omega
theorem txL_bytes (set : Int) (s : ByteArray) (i : Nat) : byteB (txL set s i) = true := by
  unfold byteB
  rw [List.all_eq_true]
  intro x hx
  simp only [txL, List.mem_flatMap] at hx
  obtain ⟨j, _, hx⟩ := hx
  exact decide_eq_true (encR_bytes (rune_of set (byteAt_range s j)) x hx)
theorem tab_at2 (set : Int) (s : ByteArray) (j : Nat) : (tabL2 set).getD (0 + (byteAt s j).toNat * 1) 0 = ofT set (byteAt s j) := getD_tab rfl (byteAt_range s j).1 (byteAt_range s j).2
def bldB (st : St Unit) : Nat := match st.tm[(6 : Nat)]? with
  | some (.p b _) => b
  | _ => 0
def bldQ (st : St Unit) : Nat := match st.H[bldB st]? with
  | some (.cells l _) => match l with
    | [_, .h q _] => q
    | _ => 0
  | _ => 0
/-- The epoch of what is written. -/
def bldE (st : St Unit) : Option Nat := match st.H[bldB st]? with
  | some (.cells l _) => match l with
    | [_, .h _ p] => match p with
      | [e, _] => some e
      | _ => none
    | _ => none
  | _ => none
def annTx (set : Int) (s : ByteArray) : Ann Unit where
  α := Int × Nat
  φ _ x := 1 ≤ x.1 ∧ x.1 ≤ s.size
  μ _ x := ((s.size : Int) - x.1).toNat
  get st := match getI st.tm 12, bldE st with
    | some i, some e => some (i, e)
    | _, _ => none
  f st x := tmpl [1, 5, 6, 11] [(12, .v (.int .i64 x.1))] [(bldB st, .cells [.p (bldB st) 0, .h (bldQ st) [x.2, 0]] 47), (bldQ st, .own (.ints .u8 (txL set s x.1.toNat)) (txL set s x.1.toNat).length 5 1 x.2 false)] st
  on st := match st.H[bldB st]? with
    | some (.cells l _) => match l with
      | .p _ _ :: _ => true
      | _ => false
    | _ => false
def tabTx : List (Nat × ACon Unit) := [(18, lcOfT), (23, lcOr lcWr1 lcWr0), (24, lcOr lcStr1 lcStr0)]
theorem tabTx_ok : LCs Try.prog tabTx := ⟨ok_ofT, lcOr_ok ok_wr1 ok_wr0, lcOr_ok ok_str1 ok_str0, trivial⟩
def lcText : ACon Unit := mkLC (decP (shCons shI (shOne shStr)) shHNil) fun ((set, s), _) => .ask (s.size ≤ 1099511627) (.one (.v (.string (bytesOf (txL set s s.size)))) [] [])
set_option maxHeartbeats 4000000 in
theorem ok_text : ∀ I : Sym.Inv Unit, LCOk I Try.prog 16 lcText := by
  refine lc_mk (fun ((set, s), _) => allCfg Try.prog [] tabTx 1 [(321, annTx set s)]) (fun _ _ => allCfg_ok mixed trivial tabTx_ok) (fun _ => rfl) (n := 80) Try.func16 ?_
  intro ⟨⟨set, s⟩, _⟩ hφ
  obtain ⟨hs, _⟩ := id hφ
  refine kcast (B := (true = true ∧ br (decide ((0 : Int) < (↑s.size : Int))) (rq (decide ((0 : Int) ≤ (0 : Int) ∧ (0 : Int) < (↑s.size : Int))) (rq (decide ((0 : Int) ≤ byteAt s (0 : Nat) ∧ byteAt s (0 : Nat) < (256 : Int))) (rq (((0 : Nat) +
   (byteAt s (0 : Nat)).toNat * (1 : Nat)).blt (256 : Nat)) (true = true ∧ RuneOk ((tabL2 set).getD ((0 : Nat) + (byteAt s (0 : Nat)).toNat * (1 : Nat)) (0 : Int)) ∧ (II (1 : Int) ≤ (1 : Int) ∧ (1 : Int) ≤ (↑s.size : Int)) ∧ ((SV.v (Value.string s) =
   SV.v (Value.string s) ∧ SV.p (0 : Nat) (0 : Nat) = SV.p (0 : Nat) (0 : Nat) ∧ SV.p (1 : Nat) (0 : Nat) = SV.p (1 : Nat) (0 : Nat) ∧ SV.v (Value.int IntKind.i64 (↑s.size : Int)) = SV.v (Value.int IntKind.i64 (↑s.size : Int)) ∧ SV.v (Value.int
   IntKind.i64 (1 : Int)) = SV.v (Value.int IntKind.i64 (1 : Int)) ∧ True) ∧ tabL2 set = tabL2 set ∧ (SV.p (1 : Nat) (0 : Nat) = SV.p (1 : Nat) (0 : Nat) ∧ SV.h (3 : Nat) [(0 : Nat), (0 : Nat)] = SV.h (3 : Nat) [(0 : Nat), (0 : Nat)] ∧ True) ∧ True ∧
   ((encR ((tabL2 set).getD ((0 : Nat) + (byteAt s (0 : Nat)).toNat * (1 : Nat)) (0 : Int))).length = (txL set s (1 : Nat)).length ∧ (0 : Nat) = (0 : Nat) ∧ encR ((tabL2 set).getD ((0 : Nat) + (byteAt s (0 : Nat)).toNat * (1 : Nat)) (0 : Int)) = txL set
   s (1 : Nat)) ∧ True) ∧ ∀ (x : Int × Nat), (1 : Int) ≤ x.fst ∧ x.fst ≤ (↑s.size : Int) → br (decide (x.fst < (↑s.size : Int))) (rq (decide ((0 : Int) ≤ x.fst ∧ x.fst < (↑s.size : Int))) (rq (decide ((0 : Int) ≤ byteAt s x.fst.toNat ∧ byteAt s
   x.fst.toNat < (256 : Int))) (rq (((0 : Nat) + (byteAt s x.fst.toNat).toNat * (1 : Nat)).blt (256 : Nat)) (true = true ∧ (RuneOk ((tabL2 set).getD ((0 : Nat) + (byteAt s x.fst.toNat).toNat * (1 : Nat)) (0 : Int)) ∧ x.snd = x.snd ∧ (txL set s
   x.fst.toNat).length = (txL set s x.fst.toNat).length ∧ (txL set s x.fst.toNat).length ≤ (1099511627776 : Nat)) ∧ ((1 : Int) ≤ IntKind.i64.wrap (x.fst + (1 : Int)) ∧ IntKind.i64.wrap (x.fst + (1 : Int)) ≤ (↑s.size : Int)) ∧ ((SV.v (Value.string s) =
   SV.v (Value.string s) ∧ SV.p (0 : Nat) (0 : Nat) = SV.p (0 : Nat) (0 : Nat) ∧ SV.p (1 : Nat) (0 : Nat) = SV.p (1 : Nat) (0 : Nat) ∧ SV.v (Value.int IntKind.i64 (↑s.size : Int)) = SV.v (Value.int IntKind.i64 (↑s.size : Int)) ∧ SV.v (Value.int
   IntKind.i64 (IntKind.i64.wrap (x.fst + (1 : Int)))) = SV.v (Value.int IntKind.i64 (IntKind.i64.wrap (x.fst + (1 : Int)))) ∧ True) ∧ tabL2 set = tabL2 set ∧ (SV.p (1 : Nat) (0 : Nat) = SV.p (1 : Nat) (0 : Nat) ∧ SV.h (3 : Nat) [x.snd + (1 : Nat), (0 :
   Nat)] = SV.h (3 : Nat) [x.snd + (1 : Nat), (0 : Nat)] ∧ True) ∧ True ∧ ((txL set s x.fst.toNat).length + (encR ((tabL2 set).getD ((0 : Nat) + (byteAt s x.fst.toNat).toNat * (1 : Nat)) (0 : Int))).length = (txL set s (IntKind.i64.wrap (x.fst + (1 :
   Int))).toNat).length ∧ x.snd + (1 : Nat) = x.snd + (1 : Nat) ∧ txL set s x.fst.toNat ++ encR ((tabL2 set).getD ((0 : Nat) + (byteAt s x.fst.toNat).toNat * (1 : Nat)) (0 : Int)) = txL set s (IntKind.i64.wrap (x.fst + (1 : Int))).toNat) ∧ True) ∧
   ((↑s.size : Int) - IntKind.i64.wrap (x.fst + (1 : Int))).toNat < ((↑s.size : Int) - x.fst).toNat)))) (true = true ∧ (x.snd = x.snd ∧ (txL set s x.fst.toNat).length = (txL set s x.fst.toNat).length ∧ (1 : Nat) ≤ (txL set s x.fst.toNat).length ∧ (txL
   set s x.fst.toNat).length ≤ (1099511627776 : Nat) ∧ byteB (txL set s x.fst.toNat) = true) ∧ (SV.v (Value.string (bytesOf (txL set s x.fst.toNat))) = SV.v (Value.string (bytesOf (txL set s s.size))) ∧ True) ∧ True))))) (true = true ∧ (SV.v
   (Value.string ByteArray.empty) = SV.v (Value.string (bytesOf (txL set s s.size))) ∧ True) ∧ True))) (by kernel_rfl) ?_
  have hbr := fun j => byteAt_range s j
  have hlen := txL_len set s
  simp only [tab_at2, rq_iff, br_iff, II, nbeq, Bool.true_and, decide_eq_true_eq, decide_eq_false_iff_not, Nat.blt_eq, true_and, and_true, and_self]
  have e1 : txL set s 1 = encR (ofT set (byteAt s 0)) := by rw [show (1 : Nat) = 0 + 1 from rfl, txL_succ]; simp [txL]
  refine ⟨fun h0 => ⟨⟨by omega, h0⟩, by have := hbr 0; omega, by have := hbr 0; omega, rune_of set (hbr 0), by omega, ⟨by rw [e1], e1.symm⟩, fun x ⟨hx0, hx1⟩ => ⟨fun hlt => ?_, fun hge => ?_⟩⟩, fun h0 => ?_⟩
  · have hb := hbr x.1.toNat
    have hl := hlen x.1.toNat
    have hs2 : txL set s (x.1 + 1).toNat = txL set s x.1.toNat ++ encR (ofT set (byteAt s x.1.toNat)) := by
      rw [show (x.1 + 1).toNat = x.1.toNat + 1 by omega, txL_succ]
    rw [wrap64 (x := x.1 + 1) (by omega) (by omega), hs2]
    exact ⟨⟨by omega, hlt⟩, by omega, by omega, ⟨rune_of set hb, by omega⟩, ⟨by omega, by omega⟩, ⟨by rw [List.length_append], rfl⟩, by omega⟩
  · have hl := hlen x.1.toNat
    rw [show x.1.toNat = s.size by omega] at hl ⊢
    exact ⟨⟨by omega, by omega, txL_bytes set s _⟩, rfl⟩
  · have : s.size = 0 := by omega
    rw [this]
    rfl
end Go.Proofs.Ytgpfdajjkalloaa
