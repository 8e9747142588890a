/- Contracts of layer 11: texts are taken. -/
import Derived.Test.YtienakdnmhmglaaQuP
set_option linter.unusedSimpArgs false
set_option linter.unusedVariables false
set_option linter.unusedSectionVars false
namespace Go.Proofs.Ytienakdnmhmglaa
open Go Go.Sym

/-- Bytes of one text are put, one by one. -/
def annB (m ep : Nat) : Ann Unit where
  α := Int
  φ st j := 0 ≤ j ∧ j ≤ (tS st.tm 9).size
  μ st j := ((tS st.tm 9).size - j).toNat
  get st := getI st.tm 48
  f st j := tmpl [0, 9, 40, 41, 42, 47] [(48, .v (.int .i64 j))] [(0, .cells [cAt st.H 0 0, cAt st.H 0 1, .v (.int .i64 (cI st.H 0 2 + j)), cAt st.H 0 3] 50),
    (1, .own (.ints .u8 (putL m (xI st.H 1) (cI st.H 0 1 + cI st.H 0 2) ((bytesL (tS st.tm 9)).take j.toNat))) m 5 1 ep true)] st

def shOneS : ShH ByteArray := shHOne (shCells (shOne shStr) 9)
/-- A slice that is a block of its own. -/
def shBlk (b len : Nat) : Sh Unit where
  enc _ := .s b 0 len len
  dec x := match x with
    | .s b' o l c => match Nat.beq b' b && (Nat.beq o 0 && (Nat.beq l len && Nat.beq c len)) with
      | true => some ()
      | false => none
    | _ => none
  ok x a h := by
    split at h
    · split at h
      · rename_i hT
        simp only [Bool.and_eq_true, Nat.beq_eq] at hT
        obtain ⟨rfl, rfl, rfl, rfl⟩ := hT
        rfl
      · cases h
    · cases h
def shQ1 : ShH (((Nat × Int × Int × Bool) × OI × ByteArray)) := shHCons (shCells (shCons (shO 1) (shCons shI (shCons shI (shOne shB)))) 50) (shHCons (shOwnI .u8 5 true) shOneS)
def altPush1 : (Unit × Unit) × ((Nat × Int × Int × Bool) × OI × ByteArray) → Alt Unit := fun (_, ((ep, fr, n, ov), ⟨xs, m, ep2⟩, s)) =>
  .ask (ep = ep2 ∧ QWf fr n xs m ∧ s.size ≤ 1099511627776) (.br (decide (n + s.size > m))
    (.one (.v (.bool false)) (bq ep fr n true xs m ++ [.cells [.v (.string s)] 9]) [0, 1])
    (.one (.v (.bool true)) (bq ep fr (n + s.size) ov (putL m xs (fr + n) (bytesL s)) m ++ [.cells [.v (.string s)] 9]) [0, 1]))
def lcPush1 : ACon Unit := mkLC (decP (shCons (shP 0) (shOne (shBlk 2 1))) shQ1) altPush1
set_option maxHeartbeats 4000000 in
theorem ok_push1 : ∀ I : Sym.Inv Unit, LCOk I Try.prog 13 lcPush1 := by
  refine lc_mk (fun (_, ((ep, fr, n, ov), ⟨xs, m, ep2⟩, s)) => allCfg Try.prog [] qtab 3 [(1089, annB m ep)]) (fun _ _ => allCfg_ok mixed trivial qtab_ok) (fun _ => rfl) (n := 60) Try.func13 ?_
  intro ⟨_, ⟨ep, fr, n, ov⟩, ⟨xs, m, ep2⟩, s⟩ hφ
  obtain ⟨⟨rfl, hq, hs⟩, _⟩ := id hφ
  refine kcast (B := (rq (ep.beq ep) (br (decide (IntKind.i64.wrap (n + (↑s.size : Int)) > (↑m : Int))) (br (decide (n + (↑s.size : Int) > (↑m : Int))) ((SV.v
        (Value.bool false) = SV.v (Value.bool false) ∧ True) ∧ (SV.h (1 : Nat) [ep, (0 : Nat)] = SV.h (1 : Nat) [ep, (0 : Nat)] ∧ SV.v (Value.int IntKind.i64 fr) = SV.v
        (Value.int IntKind.i64 fr) ∧ SV.v (Value.int IntKind.i64 n) = SV.v (Value.int IntKind.i64 n) ∧ SV.v (Value.bool true) = SV.v (Value.bool true) ∧ True) ∧ (m = m
        ∧ ep = ep ∧ xs = xs) ∧ (SV.v (Value.string s) = SV.v (Value.string s) ∧ True) ∧ True) ((SV.v (Value.bool false) = SV.v (Value.bool true) ∧ True) ∧ (SV.h (1 :
        Nat) [ep, (0 : Nat)] = SV.h (1 : Nat) [ep, (0 : Nat)] ∧ SV.v (Value.int IntKind.i64 fr) = SV.v (Value.int IntKind.i64 fr) ∧ SV.v (Value.int IntKind.i64 n) =
        SV.v (Value.int IntKind.i64 (n + (↑s.size : Int))) ∧ SV.v (Value.bool true) = SV.v (Value.bool ov) ∧ True) ∧ (m = m ∧ ep = ep ∧ xs = putL m xs (fr + n) (bytesL
        s)) ∧ (SV.v (Value.string s) = SV.v (Value.string s) ∧ True) ∧ True)) ((II (0 : Int) ≤ (0 : Int) ∧ (0 : Int) ≤ (↑s.size : Int)) ∧ ((SV.p (0 : Nat) (0 : Nat) =
        SV.p (0 : Nat) (0 : Nat) ∧ SV.v (Value.string s) = SV.v (Value.string s) ∧ SV.s (2 : Nat) (0 : Nat) (1 : Nat) (1 : Nat) = SV.s (2 : Nat) (0 : Nat) (1 : Nat) (1
        : Nat) ∧ SV.v (Value.int IntKind.i64 (1 : Int)) = SV.v (Value.int IntKind.i64 (1 : Int)) ∧ SV.v (Value.int IntKind.i64 (0 : Int)) = SV.v (Value.int IntKind.i64
        (0 : Int)) ∧ SV.v (Value.int IntKind.i64 (↑s.size : Int)) = SV.v (Value.int IntKind.i64 (↑s.size : Int)) ∧ SV.v (Value.int IntKind.i64 (0 : Int)) = SV.v
        (Value.int IntKind.i64 (0 : Int)) ∧ True) ∧ (SV.h (1 : Nat) [ep, (0 : Nat)] = SV.h (1 : Nat) [ep, (0 : Nat)] ∧ SV.v (Value.int IntKind.i64 fr) = SV.v (Value.int
        IntKind.i64 fr) ∧ SV.v (Value.int IntKind.i64 n) = SV.v (Value.int IntKind.i64 (n + (0 : Int))) ∧ SV.v (Value.bool ov) = SV.v (Value.bool ov) ∧ True) ∧ (m = m ∧
        ep = ep ∧ xs = putL m xs (fr + n) (List.take (0 : Nat) (bytesL s))) ∧ (SV.v (Value.string s) = SV.v (Value.string s) ∧ True) ∧ True) ∧ ∀ (x : Int), (0 : Int) ≤
        x ∧ x ≤ (↑s.size : Int) → br (decide (x < (↑s.size : Int))) (rq (decide ((0 : Int) ≤ x ∧ x < (↑s.size : Int))) (true = true ∧ (ep = ep ∧ QWf fr (n + x) (putL m
        xs (fr + n) (List.take x.toNat (bytesL s))) m ∧ n + x < (↑m : Int) ∧ (0 : Int) ≤ byteAt s x.toNat ∧ byteAt s x.toNat ≤ (255 : Int)) ∧ ((0 : Int) ≤
        IntKind.i64.wrap (x + (1 : Int)) ∧ IntKind.i64.wrap (x + (1 : Int)) ≤ (↑s.size : Int)) ∧ ((SV.p (0 : Nat) (0 : Nat) = SV.p (0 : Nat) (0 : Nat) ∧ SV.v
        (Value.string s) = SV.v (Value.string s) ∧ SV.s (2 : Nat) (0 : Nat) (1 : Nat) (1 : Nat) = SV.s (2 : Nat) (0 : Nat) (1 : Nat) (1 : Nat) ∧ SV.v (Value.int
        IntKind.i64 (1 : Int)) = SV.v (Value.int IntKind.i64 (1 : Int)) ∧ SV.v (Value.int IntKind.i64 (0 : Int)) = SV.v (Value.int IntKind.i64 (0 : Int)) ∧ SV.v
        (Value.int IntKind.i64 (↑s.size : Int)) = SV.v (Value.int IntKind.i64 (↑s.size : Int)) ∧ SV.v (Value.int IntKind.i64 (IntKind.i64.wrap (x + (1 : Int)))) = SV.v
        (Value.int IntKind.i64 (IntKind.i64.wrap (x + (1 : Int)))) ∧ True) ∧ (SV.h (1 : Nat) [ep, (0 : Nat)] = SV.h (1 : Nat) [ep, (0 : Nat)] ∧ SV.v (Value.int
        IntKind.i64 fr) = SV.v (Value.int IntKind.i64 fr) ∧ SV.v (Value.int IntKind.i64 (n + x + (1 : Int))) = SV.v (Value.int IntKind.i64 (n + IntKind.i64.wrap (x + (1
        : Int)))) ∧ SV.v (Value.bool ov) = SV.v (Value.bool ov) ∧ True) ∧ (m = m ∧ ep = ep ∧ (putL m xs (fr + n) (List.take x.toNat (bytesL s))).set ((fr + (n + x)) %
        (↑m : Int)).toNat (byteAt s x.toNat) = putL m xs (fr + n) (List.take (IntKind.i64.wrap (x + (1 : Int))).toNat (bytesL s))) ∧ (SV.v (Value.string s) = SV.v
        (Value.string s) ∧ True) ∧ True) ∧ ((↑s.size : Int) - IntKind.i64.wrap (x + (1 : Int))).toNat < ((↑s.size : Int) - x).toNat)) (br (decide (n + (↑s.size : Int) >
        (↑m : Int))) ((SV.v (Value.bool true) = SV.v (Value.bool false) ∧ True) ∧ (SV.h (1 : Nat) [ep, (0 : Nat)] = SV.h (1 : Nat) [ep, (0 : Nat)] ∧ SV.v (Value.int
        IntKind.i64 fr) = SV.v (Value.int IntKind.i64 fr) ∧ SV.v (Value.int IntKind.i64 (n + x)) = SV.v (Value.int IntKind.i64 n) ∧ SV.v (Value.bool ov) = SV.v
        (Value.bool true) ∧ True) ∧ (m = m ∧ ep = ep ∧ putL m xs (fr + n) (List.take x.toNat (bytesL s)) = xs) ∧ (SV.v (Value.string s) = SV.v (Value.string s) ∧ True)
        ∧ True) ((SV.v (Value.bool true) = SV.v (Value.bool true) ∧ True) ∧ (SV.h (1 : Nat) [ep, (0 : Nat)] = SV.h (1 : Nat) [ep, (0 : Nat)] ∧ SV.v (Value.int
        IntKind.i64 fr) = SV.v (Value.int IntKind.i64 fr) ∧ SV.v (Value.int IntKind.i64 (n + x)) = SV.v (Value.int IntKind.i64 (n + (↑s.size : Int))) ∧ SV.v (Value.bool
        ov) = SV.v (Value.bool ov) ∧ True) ∧ (m = m ∧ ep = ep ∧ putL m xs (fr + n) (List.take x.toNat (bytesL s)) = putL m xs (fr + n) (bytesL s)) ∧ (SV.v (Value.string
        s) = SV.v (Value.string s) ∧ True) ∧ True)))))) (by kernel_rfl) ?_
  obtain ⟨h1, h2, h3, h4, h5, h6, h7⟩ := id hq
  have hsz : (s.size : Int) ≤ 1099511627776 := by omega
  rw [wrap64 (x := n + (s.size : Int)) (by omega) (by omega)]
  by_cases hgt : n + (s.size : Int) > m
  · simp only [rq_iff, br_iff, nbeq, hgt, decide_true, true_and, and_true, reduceCtorEq, false_implies, true_implies, Bool.true_eq_false]
  · simp only [rq_iff, br_iff, nbeq, hgt, decide_false, Bool.false_eq_true, true_and, and_true, reduceCtorEq, false_implies, true_implies, Bool.and_eq_true, decide_eq_true_eq, decide_eq_false_iff_not, SV.v.injEq, Value.int.injEq, II]
    refine ⟨⟨by omega, by omega⟩, ⟨by omega, rfl⟩, fun x ⟨hx0, hx1⟩ => ⟨fun hlt => ?_, fun hge => ?_⟩⟩
    · have hlen : (((bytesL s).take x.toNat).length : Int) = x := by rw [List.length_take, bytesL_length]; omega
      obtain ⟨q1, q2⟩ := hq.put ((bytesL s).take x.toNat) (by omega) (byteR_take (bytesL_range s) _)
      rw [hlen] at q1
      rw [wrap64 (x := x + 1) (by omega) (by omega), bytesL_take_succ hx0 hlt, putL_snoc, hlen]
      refine ⟨⟨hx0, hlt⟩, ⟨q1, by omega, byteAt_range _ _⟩, ⟨by omega, by omega⟩, ⟨by omega, ?_⟩, by omega⟩
      rw [show fr + (n + x) = fr + n + x by omega]
    · have hx : x = s.size := by omega
      subst hx
      refine ⟨rfl, ?_⟩
      rw [List.take_of_length_le (by rw [bytesL_length]; omega)]

end Go.Proofs.Ytienakdnmhmglaa
