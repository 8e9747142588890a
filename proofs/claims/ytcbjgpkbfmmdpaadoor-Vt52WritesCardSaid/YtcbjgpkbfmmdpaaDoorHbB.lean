/- Layer 11: a queue, as far as layer 12 has it: contracts. -/
import Derived.Test.YtcbjgpkbfmmdpaaDoorHbA
set_option linter.unusedSimpArgs false
set_option linter.unusedVariables false
set_option linter.unusedSectionVars false
namespace Go.Proofs.YtcbjgpkbfmmdpaaDoor
open Go Go.Sym
theorem tmod_emod {a : Int} {m : Nat} (h : 0 ≤ a) : a.tmod (m : Int) = a % (m : Int) := Int.tmod_eq_emod_of_nonneg h
/-! ### A queue: its object and its ring -/
abbrev QB := (Nat × Int × Int × Bool) × OI
def shQi (j : Nat) : ShH QB := shHCons (shCells (shCons (shO j) (shCons shI (shCons shI (shOne shB)))) 96) (shHOne (shOwnI .u8 5 true))
def shQ : ShH QB := shQi 1
/-- A ring that is sound: its length, its bytes, from where, and how many. -/
structure QWf (fr n : Int) (xs : List Int) (m : Nat) : Prop where
  len : xs.length = m
  most : m ≤ 4096
  fr0 : 0 ≤ fr
  frm : fr < m ∨ (m = 0 ∧ fr = 0)
  n0 : 0 ≤ n
  nm : n ≤ m
  bytes : ∀ x ∈ xs, 0 ≤ x ∧ x ≤ 255
def bqi (j ep : Nat) (fr n : Int) (ov : Bool) (xs : List Int) (m : Nat) : List (SB Unit) := (shQi j).enc ((ep, fr, n, ov), ⟨xs, m, ep⟩)
def bq (ep : Nat) (fr n : Int) (ov : Bool) (xs : List Int) (m : Nat) : List (SB Unit) := shQ.enc ((ep, fr, n, ov), ⟨xs, m, ep⟩)
def altQput : (Unit × Int) × QB → Alt Unit := fun (((), x), ((ep, fr, n, ov), ⟨xs, m, ep2⟩)) =>
  .ask (ep = ep2 ∧ QWf fr n xs m ∧ n < m ∧ 0 ≤ x ∧ x ≤ 255) (.one (.t []) (bq ep fr (n + 1) ov (xs.set ((fr + n) % m).toNat x) m) [0, 1])
def lcQput : ACon Unit := mkLC (decP (shCons (shP 0) (shOne (shInt .u8))) shQ) altQput
set_option maxHeartbeats 4000000 in
theorem ok_qput : ∀ I : Sym.Inv Unit, LCOk I Tryd.prog 84 lcQput := by
  refine lc_mk (fun _ => allCfg Tryd.prog [] [] 0) (fun _ _ => allCfg_ok mixed trivial trivial) (fun _ => rfl) (n := 60) Tryd.func84 ?_
  intro ⟨⟨_, x⟩, ⟨ep, fr, n, ov⟩, ⟨xs, m, ep2⟩⟩ hφ
  obtain ⟨⟨rfl, ⟨h1, h2, h3, h4, h5, h6, h7⟩, h8, h9, h10⟩, _⟩ := id hφ
  refine kcast (B := (rq (ep.beq ep) (rq (decide ((↑m : Int) ≠ (0 : Int))) (rq (ep.beq ep && (true && decide ((0 : Int) ≤ (IntKind.i64.wrap (fr + n)).tmod (↑m : Int) ∧ (IntKind.i64.wrap (fr + n)).tmod (↑m : Int) < (↑m : Int)))) (rq (ep.beq ep && ((IntKind.i64.wrap (fr + n)).tmod (↑m : Int)).toNat.blt xs.length) ((SV.t [] = SV.t [] ∧ True) ∧ (SV.h (1 : Nat) [ep, (0 : Nat)] = SV.h (1 : Nat) [ep, (0 : Nat)] ∧ SV.v (Value.int IntKind.i64 fr) = SV.v (Value.int IntKind.i64 fr) ∧ SV.v (Value.int IntKind.i64 (IntKind.i64.wrap (n + (1 : Int)))) = SV.v (Value.int IntKind.i64 (n + (1 : Int))) ∧ SV.v (Value.bool ov) = SV.v (Value.bool ov) ∧ True) ∧ (m = m ∧ ep = ep ∧ xs.set ((IntKind.i64.wrap (fr + n)).tmod (↑m : Int)).toNat x = xs.set ((fr + n) % (↑m : Int)).toNat x) ∧ True)))))) (by kernel_rfl) ?_
  have hm : 0 < (m : Int) := by omega
  have e1 := Int.emod_nonneg (fr + n) (by omega : (m : Int) ≠ 0)
  have e2 := Int.emod_lt_of_pos (fr + n) hm
  rw [wrap64 (x := fr + n) (by omega) (by omega), wrap64 (x := n + 1) (by omega) (by omega), tmod_emod (a := fr + n) (by omega)]
  simp only [rq_iff, nbeq, Bool.and_eq_true, decide_eq_true_eq, Nat.blt_eq, true_and, and_true, h1]
  refine ⟨by omega, ⟨by omega, by omega⟩, by omega⟩
def altQnew : Int × Unit → Alt Unit := fun (most, _) =>
  .br (decide (0 ≤ most) && decide (most ≤ 4096))
    (.one (.t [.p 1 0, .v (.int .i64 0)]) [.own (.ints .u8 (List.replicate most.toNat 0)) most.toNat 5 1 0 true, .cells [.h 0 [0, 0], .v (.int .i64 0), .v (.int .i64 0), .v (.bool false)] 96] [])
    (.one (.t [.v (.pointer none), .v (.int .i64 1)]) [] [])
def lcQnew : ACon Unit := mkLC (decP (shOne shI) shHNil) altQnew
set_option maxHeartbeats 4000000 in
theorem ok_qnew : ∀ I : Sym.Inv Unit, LCOk I Tryd.prog 23 lcQnew := by
  refine lc_mk (fun _ => allCfg Tryd.prog [] [] 0) (fun _ _ => allCfg_ok mixed trivial trivial) (fun _ => rfl) (n := 60) Tryd.func23 ?_
  intro ⟨most, _⟩ hφ
  refine kcast (B := (br (decide (most < (0 : Int))) (br (decide ((0 : Int) ≤ most) && decide (most ≤ (4096 : Int))) ((SV.t [SV.v (Value.pointer none), SV.v (Value.int IntKind.i64 (1 : Int))] = SV.t [SV.p (1 : Nat) (0 : Nat), SV.v (Value.int IntKind.i64 (0 : Int))] ∧ True) ∧ False) ((SV.t [SV.v (Value.pointer none), SV.v (Value.int IntKind.i64 (1 : Int))] = SV.t [SV.v (Value.pointer none), SV.v (Value.int IntKind.i64 (1 : Int))] ∧ True) ∧ True)) (br (decide (most > (4096 : Int))) (br (decide ((0 : Int) ≤ most) && decide (most ≤ (4096 : Int))) ((SV.t [SV.v (Value.pointer none), SV.v (Value.int IntKind.i64 (1 : Int))] = SV.t [SV.p (1 : Nat) (0 : Nat), SV.v (Value.int IntKind.i64 (0 : Int))] ∧ True) ∧ False) ((SV.t [SV.v (Value.pointer none), SV.v (Value.int IntKind.i64 (1 : Int))] = SV.t [SV.v (Value.pointer none), SV.v (Value.int IntKind.i64 (1 : Int))] ∧ True) ∧ True)) (rq (decide ((0 : Int) ≤ most ∧ most ≤ most ∧ (1 : Int) * most ≤ (281474976710656 : Int) ∧ most ≤ (9223372036854775807 : Int))) (br (decide ((0 : Int) ≤ most) && decide (most ≤ (4096 : Int))) ((SV.t [SV.p (1 : Nat) (0 : Nat), SV.v (Value.int IntKind.i64 (0 : Int))] = SV.t [SV.p (1 : Nat) (0 : Nat), SV.v (Value.int IntKind.i64 (0 : Int))] ∧ True) ∧ (most.toNat = most.toNat ∧ (0 : Nat) = (0 : Nat) ∧ List.replicate (most.toNat * (1 : Nat)) (0 : Int) = List.replicate most.toNat (0 : Int)) ∧ (SV.h (0 : Nat) [(0 : Nat), (0 : Nat)] = SV.h (0 : Nat) [(0 : Nat), (0 : Nat)] ∧ SV.v (Value.int IntKind.i64 (0 : Int)) = SV.v (Value.int IntKind.i64 (0 : Int)) ∧ SV.v (Value.int IntKind.i64 (0 : Int)) = SV.v (Value.int IntKind.i64 (0 : Int)) ∧ SV.v (Value.bool false) = SV.v (Value.bool false) ∧ True) ∧ True) ((SV.t [SV.p (1 : Nat) (0 : Nat), SV.v (Value.int IntKind.i64 (0 : Int))] = SV.t [SV.v (Value.pointer none), SV.v (Value.int IntKind.i64 (1 : Int))] ∧ True) ∧ True)))))) (by kernel_rfl) ?_
  simp only [br_iff, rq_iff, Bool.and_eq_true, Bool.and_eq_false_iff, decide_eq_true_eq, decide_eq_false_iff_not]
  by_cases h0 : most < 0
  · simp [h0] <;> omega
  · by_cases h1 : most > 4096
    · simp [h0, h1] <;> omega
    · simp [h0, h1] <;> omega
/-- The first i bytes of a ring, from a place on. -/
def tk (xs : List Int) (fr : Int) (m : Nat) (i : Int) : List Int := (List.range i.toNat).map fun j : Nat => xs.getD ((fr + j) % m).toNat 0
theorem tk_length (xs : List Int) (fr : Int) (m : Nat) (i : Int) : (tk xs fr m i).length = i.toNat := by simp [tk]
theorem tk_succ {xs : List Int} {fr : Int} {m : Nat} {i : Int} (h : 0 ≤ i) : tk xs fr m (i + 1) = tk xs fr m i ++ [xs.getD ((fr + i) % m).toNat 0] := by
  unfold tk
  rw [show (i + 1).toNat = i.toNat + 1 by omega, List.range_succ, List.map_append]
  simp [show ((i.toNat : Nat) : Int) = i by omega]
theorem mod_start {fr : Int} {m : Nat} (h : 0 ≤ fr) (h' : fr < m ∨ (m = 0 ∧ fr = 0)) : fr = (fr + 0) % (m : Int) := by
  rcases h' with h' | ⟨rfl, rfl⟩
  · rw [Int.add_zero, Int.emod_eq_of_lt h h']
  · rfl
def qtab : List (Nat × ACon Unit) := [(84, lcQput)]
theorem qtab_ok : LCs Tryd.prog qtab := ⟨ok_qput, trivial⟩

/-! ### Bytes put into a ring -/
def putL (m : Nat) : List Int → Int → List Int → List Int
  | xs, _, [] => xs
  | xs, s, b :: bs => putL m (xs.set (s % (m : Int)).toNat b) (s + 1) bs
theorem putL_length {m : Nat} : ∀ (bs xs : List Int) (s : Int), (putL m xs s bs).length = xs.length
  | [], _, _ => rfl
  | b :: bs, xs, s => by simp [putL, putL_length bs]
theorem putL_snoc {m : Nat} : ∀ (bs xs : List Int) (s b : Int), putL m xs s (bs ++ [b]) = (putL m xs s bs).set ((s + bs.length) % (m : Int)).toNat b
  | [], xs, s, b => by simp [putL]
  | c :: bs, xs, s, b => by
    simp only [List.cons_append, putL]
    rw [putL_snoc bs]
    have e : s + 1 + (bs.length : Int) = s + ((c :: bs).length : Nat) := by simp only [List.length_cons]; omega
    rw [e]
theorem putL_append {m : Nat} : ∀ (bs cs xs : List Int) (s : Int), putL m xs s (bs ++ cs) = putL m (putL m xs s bs) (s + bs.length) cs
  | [], cs, xs, s => by simp [putL]
  | b :: bs, cs, xs, s => by
    simp only [List.cons_append, putL]
    rw [putL_append bs]
    have e : s + 1 + (bs.length : Int) = s + ((b :: bs).length : Nat) := by simp only [List.length_cons]; omega
    rw [e]
def byteR (l : List Int) : Prop := ∀ x ∈ l, 0 ≤ x ∧ x ≤ 255
theorem QWf.put1 {fr n x : Int} {xs : List Int} {m : Nat} (h : QWf fr n xs m) (hn : n < m) (hx : 0 ≤ x ∧ x ≤ 255) : QWf fr (n + 1) (xs.set ((fr + n) % (m : Int)).toNat x) m ∧ tk (xs.set ((fr + n) % (m : Int)).toNat x) fr m (n + 1) = tk xs fr m n ++ [x] := by
  obtain ⟨h1, h2, h3, h4, h5, h6, h7⟩ := h
  have hm : 0 < (m : Int) := by omega
  have e1 := Int.emod_nonneg (fr + n) (by omega : (m : Int) ≠ 0)
  have e2 := Int.emod_lt_of_pos (fr + n) hm
  have hlt : ((fr + n) % (m : Int)).toNat < xs.length := by omega
  refine ⟨⟨by simp [h1], h2, h3, h4, by omega, by omega, fun y hy => ?_⟩, ?_⟩
  · rcases List.mem_or_eq_of_mem_set hy with hy | rfl
    · exact h7 y hy
    · exact hx
  · rw [tk_succ h5]
    have e3 : (xs.set ((fr + n) % (m : Int)).toNat x).getD ((fr + n) % (m : Int)).toNat 0 = x := by simp [List.getD, hlt]
    rw [e3]
    congr 1
    unfold tk
    refine List.map_congr_left fun j hj => ?_
    have hj : (j : Int) < n := by have := List.mem_range.1 hj; omega
    have e4 := Int.emod_nonneg (fr + j) (by omega : (m : Int) ≠ 0)
    have hne : ((fr + n) % (m : Int)).toNat ≠ ((fr + j) % (m : Int)).toNat := fun e => by
      have e5 : (fr + n) % (m : Int) = (fr + j) % (m : Int) := by omega
      have e6 := Int.emod_emod_of_dvd (fr + n) (Int.dvd_refl (m : Int))
      have h8 : (m : Int) ∣ ((fr + n) - (fr + j)) := Int.dvd_of_emod_eq_zero (by rw [Int.sub_emod, e5, Int.sub_self, Int.zero_emod])
      have h9 : fr + n - (fr + j) = n - j := by omega
      rw [h9] at h8
      have := Int.le_of_dvd (by omega) h8
      omega
    simp [List.getD, List.getElem?_set_ne hne]
theorem QWf.put {fr : Int} {m : Nat} : ∀ (bs : List Int) {n : Int} {xs : List Int}, QWf fr n xs m → n + bs.length ≤ m → byteR bs →
    QWf fr (n + bs.length) (putL m xs (fr + n) bs) m ∧ tk (putL m xs (fr + n) bs) fr m (n + bs.length) = tk xs fr m n ++ bs
  | [], n, xs, h, _, _ => by simp [putL, h]
  | b :: bs, n, xs, h, hl, hb => by
    simp only [List.length_cons] at hl
    obtain ⟨h1, h2⟩ := h.put1 (x := b) (by omega) (hb b List.mem_cons_self)
    obtain ⟨h3, h4⟩ := QWf.put bs h1 (by omega) fun x hx => hb x (List.mem_cons_of_mem _ hx)
    have e : fr + (n + 1) = fr + n + 1 := by omega
    rw [e] at h3 h4
    have e2 : n + 1 + (bs.length : Int) = n + ((b :: bs).length : Nat) := by simp only [List.length_cons]; omega
    rw [e2] at h3 h4
    refine ⟨h3, ?_⟩
    simp only [putL]
    rw [h4, h2]; simp
/-- The bytes of a text. -/
def bytesL (s : ByteArray) : List Int := s.data.toList.map fun b => (b.toNat : Int)
theorem bytesL_length (s : ByteArray) : (bytesL s).length = s.size := by simp [bytesL]
theorem bytesL_range (s : ByteArray) : byteR (bytesL s) := fun x hx => by
  simp only [bytesL, List.mem_map] at hx
  obtain ⟨b, _, rfl⟩ := hx
  have := b.toNat_lt
  omega
theorem byteR_take {l : List Int} (h : byteR l) (n : Nat) : byteR (l.take n) := fun x hx => h x (List.mem_of_mem_take hx)
theorem byteR_append {l r : List Int} (h : byteR l) (h' : byteR r) : byteR (l ++ r) := fun x hx => by
  rcases List.mem_append.1 hx with h1 | h1
  · exact h x h1
  · exact h' x h1
theorem bytesL_take_succ {s : ByteArray} {j : Int} (h0 : 0 ≤ j) (h : j < s.size) : (bytesL s).take (j + 1).toNat = (bytesL s).take j.toNat ++ [byteAt s j.toNat] := by
  rw [show (j + 1).toNat = j.toNat + 1 by omega, List.take_succ_eq_append_getElem (by rw [bytesL_length]; omega)]
  congr 1
  have hl : j.toNat < s.data.toList.length := by
    have := bytesL_length s
    simp only [bytesL, List.length_map] at this
    omega
  have hs : j.toNat < s.data.size := by simpa using hl
  simp only [bytesL, byteAt, List.getD, List.getElem_map, List.getElem?_eq_getElem hl, Option.getD_some]
theorem byteAt_range (s : ByteArray) (j : Nat) : 0 ≤ byteAt s j ∧ byteAt s j ≤ 255 := by
  unfold byteAt
  have := (s.data.toList.getD j 0).toNat_lt
  omega

/-- Bytes of one text are put, one by one. -/
def annB (m ep : Nat) : Ann Unit where
  α := Int
  φ st j := 0 ≤ j ∧ j ≤ (tS st.tm 9).size
  μ st j := ((tS st.tm 9).size - j).toNat
  get st := getI st.tm 48
  f st j := tmpl [0, 9, 40, 41, 42, 47] [(48, .v (.int .i64 j))] [(0, .cells [cAt st.H 0 0, cAt st.H 0 1, .v (.int .i64 (cI st.H 0 2 + j)), cAt st.H 0 3] 96),
    (1, .own (.ints .u8 (putL m (xI st.H 1) (cI st.H 0 1 + cI st.H 0 2) ((bytesL (tS st.tm 9)).take j.toNat))) m 5 1 ep true)] st
def shOneS : ShH ByteArray := shHOne (shCells (shOne shStr) 9)
def shQ1 : ShH (((Nat × Int × Int × Bool) × OI × ByteArray)) := shHCons (shCells (shCons (shO 1) (shCons shI (shCons shI (shOne shB)))) 96) (shHCons (shOwnI .u8 5 true) shOneS)
def altPush1 : (Unit × Unit) × ((Nat × Int × Int × Bool) × OI × ByteArray) → Alt Unit := fun (_, ((ep, fr, n, ov), ⟨xs, m, ep2⟩, s)) =>
  .ask (ep = ep2 ∧ QWf fr n xs m ∧ s.size ≤ 1099511627776) (.br (decide (n + s.size > m))
    (.one (.v (.bool false)) (bq ep fr n true xs m ++ [.cells [.v (.string s)] 9]) [0, 1])
    (.one (.v (.bool true)) (bq ep fr (n + s.size) ov (putL m xs (fr + n) (bytesL s)) m ++ [.cells [.v (.string s)] 9]) [0, 1]))
def lcPush1 : ACon Unit := mkLC (decP (shCons (shP 0) (shOne (shBlk 2 1))) shQ1) altPush1
set_option maxHeartbeats 4000000 in
theorem ok_push1 : ∀ I : Sym.Inv Unit, LCOk I Tryd.prog 75 lcPush1 := by
  refine lc_mk (fun (_, ((ep, fr, n, ov), ⟨xs, m, ep2⟩, s)) => allCfg Tryd.prog [] qtab 3 [(1089, annB m ep)]) (fun _ _ => allCfg_ok mixed trivial qtab_ok) (fun _ => rfl) (n := 60) Tryd.func75 ?_
  intro ⟨_, ⟨ep, fr, n, ov⟩, ⟨xs, m, ep2⟩, s⟩ hφ
  obtain ⟨⟨rfl, hq, hs⟩, _⟩ := id hφ
  refine kcast (B := (rq (ep.beq ep) (br (decide (IntKind.i64.wrap (n + (↑s.size : Int)) > (↑m : Int))) (br (decide (n + (↑s.size : Int) > (↑m : Int))) ((SV.v (Value.bool false) = SV.v (Value.bool false) ∧ True) ∧ (SV.h (1 : Nat) [ep, (0 : Nat)] = SV.h (1 : Nat) [ep, (0 : Nat)] ∧ SV.v (Value.int IntKind.i64 fr) = SV.v (Value.int IntKind.i64 fr) ∧ SV.v (Value.int IntKind.i64 n) = SV.v (Value.int IntKind.i64 n) ∧ SV.v (Value.bool true) = SV.v (Value.bool true) ∧ True) ∧ (m = m ∧ ep = ep ∧ xs = xs) ∧ (SV.v (Value.string s) = SV.v (Value.string s) ∧ True) ∧ True) ((SV.v (Value.bool false) = SV.v (Value.bool true) ∧ True) ∧ (SV.h (1 : Nat) [ep, (0 : Nat)] = SV.h (1 : Nat) [ep, (0 : Nat)] ∧ SV.v (Value.int IntKind.i64 fr) = SV.v (Value.int IntKind.i64 fr) ∧ SV.v (Value.int IntKind.i64 n) = SV.v (Value.int IntKind.i64 (n + (↑s.size : Int))) ∧ SV.v (Value.bool true) = SV.v (Value.bool ov) ∧ True) ∧ (m = m ∧ ep = ep ∧ xs = putL m xs (fr + n) (bytesL s)) ∧ (SV.v (Value.string s) = SV.v (Value.string s) ∧ True) ∧ True)) ((II (0 : Int) ≤ (0 : Int) ∧ (0 : Int) ≤ (↑s.size : Int)) ∧ ((SV.p (0 : Nat) (0 : Nat) = SV.p (0 : Nat) (0 : Nat) ∧ SV.v (Value.string s) = SV.v (Value.string s) ∧ SV.s (2 : Nat) (0 : Nat) (1 : Nat) (1 : Nat) = SV.s (2 : Nat) (0 : Nat) (1 : Nat) (1 : Nat) ∧ SV.v (Value.int IntKind.i64 (1 : Int)) = SV.v (Value.int IntKind.i64 (1 : Int)) ∧ SV.v (Value.int IntKind.i64 (0 : Int)) = SV.v (Value.int IntKind.i64 (0 : Int)) ∧ SV.v (Value.int IntKind.i64 (↑s.size : Int)) = SV.v (Value.int IntKind.i64 (↑s.size : Int)) ∧ SV.v (Value.int IntKind.i64 (0 : Int)) = SV.v (Value.int IntKind.i64 (0 : Int)) ∧ True) ∧ (SV.h (1 : Nat) [ep, (0 : Nat)] = SV.h (1 : Nat) [ep, (0 : Nat)] ∧ SV.v (Value.int IntKind.i64 fr) = SV.v (Value.int IntKind.i64 fr) ∧ SV.v (Value.int IntKind.i64 n) = SV.v (Value.int IntKind.i64 (n + (0 : Int))) ∧ SV.v (Value.bool ov) = SV.v (Value.bool ov) ∧ True) ∧ (m = m ∧ ep = ep ∧ xs = putL m xs (fr + n) (List.take (0 : Nat) (bytesL s))) ∧ (SV.v (Value.string s) = SV.v (Value.string s) ∧ True) ∧ True) ∧ ∀ (x : Int), (0 : Int) ≤ x ∧ x ≤ (↑s.size : Int) → br (decide (x < (↑s.size : Int))) (rq (decide ((0 : Int) ≤ x ∧ x < (↑s.size : Int))) (true = true ∧ (ep = ep ∧ QWf fr (n + x) (putL m xs (fr + n) (List.take x.toNat (bytesL s))) m ∧ n + x < (↑m : Int) ∧ (0 : Int) ≤ byteAt s x.toNat ∧ byteAt s x.toNat ≤ (255 : Int)) ∧ ((0 : Int) ≤ IntKind.i64.wrap (x + (1 : Int)) ∧ IntKind.i64.wrap (x + (1 : Int)) ≤ (↑s.size : Int)) ∧ ((SV.p (0 : Nat) (0 : Nat) = SV.p (0 : Nat) (0 : Nat) ∧ SV.v (Value.string s) = SV.v (Value.string s) ∧ SV.s (2 : Nat) (0 : Nat) (1 : Nat) (1 : Nat) = SV.s (2 : Nat) (0 : Nat) (1 : Nat) (1 : Nat) ∧ SV.v (Value.int IntKind.i64 (1 : Int)) = SV.v (Value.int IntKind.i64 (1 : Int)) ∧ SV.v (Value.int IntKind.i64 (0 : Int)) = SV.v (Value.int IntKind.i64 (0 : Int)) ∧ SV.v (Value.int IntKind.i64 (↑s.size : Int)) = SV.v (Value.int IntKind.i64 (↑s.size : Int)) ∧ SV.v (Value.int IntKind.i64 (IntKind.i64.wrap (x + (1 : Int)))) = SV.v (Value.int IntKind.i64 (IntKind.i64.wrap (x + (1 : Int)))) ∧ True) ∧ (SV.h (1 : Nat) [ep, (0 : Nat)] = SV.h (1 : Nat) [ep, (0 : Nat)] ∧ SV.v (Value.int IntKind.i64 fr) = SV.v (Value.int IntKind.i64 fr) ∧ SV.v (Value.int IntKind.i64 (n + x + (1 : Int))) = SV.v (Value.int IntKind.i64 (n + IntKind.i64.wrap (x + (1 : Int)))) ∧ SV.v (Value.bool ov) = SV.v (Value.bool ov) ∧ True) ∧ (m = m ∧ ep = ep ∧ (putL m xs (fr + n) (List.take x.toNat (bytesL s))).set ((fr + (n + x)) % (↑m : Int)).toNat (byteAt s x.toNat) = putL m xs (fr + n) (List.take (IntKind.i64.wrap (x + (1 : Int))).toNat (bytesL s))) ∧ (SV.v (Value.string s) = SV.v (Value.string s) ∧ True) ∧ True) ∧ ((↑s.size : Int) - IntKind.i64.wrap (x + (1 : Int))).toNat < ((↑s.size : Int) - x).toNat)) (br (decide (n + (↑s.size : Int) > (↑m : Int))) ((SV.v (Value.bool true) = SV.v (Value.bool false) ∧ True) ∧ (SV.h (1 : Nat) [ep, (0 : Nat)] = SV.h (1 : Nat) [ep, (0 : Nat)] ∧ SV.v (Value.int IntKind.i64 fr) = SV.v (Value.int IntKind.i64 fr) ∧ SV.v (Value.int IntKind.i64 (n + x)) = SV.v (Value.int IntKind.i64 n) ∧ SV.v (Value.bool ov) = SV.v (Value.bool true) ∧ True) ∧ (m = m ∧ ep = ep ∧ putL m xs (fr + n) (List.take x.toNat (bytesL s)) = xs) ∧ (SV.v (Value.string s) = SV.v (Value.string s) ∧ True) ∧ True) ((SV.v (Value.bool true) = SV.v (Value.bool true) ∧ True) ∧ (SV.h (1 : Nat) [ep, (0 : Nat)] = SV.h (1 : Nat) [ep, (0 : Nat)] ∧ SV.v (Value.int IntKind.i64 fr) = SV.v (Value.int IntKind.i64 fr) ∧ SV.v (Value.int IntKind.i64 (n + x)) = SV.v (Value.int IntKind.i64 (n + (↑s.size : Int))) ∧ SV.v (Value.bool ov) = SV.v (Value.bool ov) ∧ True) ∧ (m = m ∧ ep = ep ∧ putL m xs (fr + n) (List.take x.toNat (bytesL s)) = putL m xs (fr + n) (bytesL s)) ∧ (SV.v (Value.string s) = SV.v (Value.string s) ∧ True) ∧ True)))))) (by kernel_rfl) ?_
  obtain ⟨h1, h2, h3, h4, h5, h6, h7⟩ := id hq
  have hsz : (s.size : Int) ≤ 1099511627776 := by omega
  rw [wrap64 (x := n + (s.size : Int)) (by omega) (by omega)]
  by_cases hgt : n + (s.size : Int) > m
  · simp only [rq_iff, br_iff, nbeq, hgt, decide_true, true_and, and_true, reduceCtorEq, false_implies, true_implies, Bool.true_eq_false]
  · simp only [rq_iff, br_iff, nbeq, hgt, decide_false, Bool.false_eq_true, true_and, and_true, reduceCtorEq, false_implies, true_implies, Bool.and_eq_true, decide_eq_true_eq, decide_eq_false_iff_not, SV.v.injEq, Value.int.injEq, II]
    refine ⟨⟨by omega, by omega⟩, ⟨by omega, rfl⟩, fun x ⟨hx0, hx1⟩ => ⟨fun hlt => ?_, fun hge => ?_⟩⟩
    · have hlen : (((bytesL s).take x.toNat).length : Int) = x := by rw [List.length_take, bytesL_length]; omega
      obtain ⟨q1, q2⟩ := hq.put ((bytesL s).take x.toNat) (by omega) (byteR_take (bytesL_range s) _)
      rw [hlen] at q1
      rw [wrap64 (x := x + 1) (by omega) (by omega), bytesL_take_succ hx0 hlt, putL_snoc, hlen]
      refine ⟨⟨hx0, hlt⟩, ⟨q1, by omega, byteAt_range _ _⟩, ⟨by omega, by omega⟩, ⟨by omega, ?_⟩, by omega⟩
      rw [show fr + (n + x) = fr + n + x by omega]
    · have hx : x = s.size := by omega
      subst hx
      refine ⟨rfl, ?_⟩
      rw [List.take_of_length_le (by rw [bytesL_length]; omega)]
end Go.Proofs.YtcbjgpkbfmmdpaaDoor
