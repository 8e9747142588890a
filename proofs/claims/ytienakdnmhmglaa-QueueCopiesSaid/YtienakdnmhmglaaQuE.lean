/- Contracts of layer 11: several texts are taken. -/
import Derived.Test.YtienakdnmhmglaaQuD
set_option linter.unusedSimpArgs false
set_option linter.unusedVariables false
set_option linter.unusedSectionVars false
namespace Go.Proofs.Ytienakdnmhmglaa
open Go Go.Sym

def bytesLs (L : List ByteArray) : List Int := (L.map bytesL).flatten
theorem bytesLs_take_succ {L : List ByteArray} {i : Int} (h0 : 0 ≤ i) (h : i < L.length) : bytesLs (L.take (i + 1).toNat) = bytesLs (L.take i.toNat) ++ bytesL (L.getD i.toNat ByteArray.empty) := by
  have hl : i.toNat < L.length := by omega
  rw [show (i + 1).toNat = i.toNat + 1 by omega, List.take_succ_eq_append_getElem hl]
  have e : L.getD i.toNat ByteArray.empty = L[i.toNat] := by rw [List.getD, List.getElem?_eq_getElem hl]; rfl
  rw [e, bytesLs, List.map_append, List.flatten_append]
  simp [bytesLs]
theorem bytesLs_le {L : List ByteArray} (n : Nat) : (bytesLs (L.take n)).length ≤ (bytesLs L).length := by
  have : bytesLs L = bytesLs (L.take n) ++ bytesLs (L.drop n) := by
    unfold bytesLs
    rw [← List.flatten_append, ← List.map_append, List.take_append_drop]
  rw [this]; simp
theorem bytesLs_range (L : List ByteArray) : byteR (bytesLs L) := fun x hx => by
  simp only [bytesLs, List.mem_flatten, List.mem_map] at hx
  obtain ⟨l, ⟨s, _, rfl⟩, h⟩ := hx
  exact bytesL_range s x h
def annS1 : Ann Unit where
  α := Int
  φ st i := 0 ≤ i ∧ i ≤ (xS st.H 2).length
  μ st i := ((xS st.H 2).length - i).toNat
  get st := getI st.tm 20
  f st i := tmpl [0, 1, 18, 19] [(20, .v (.int .i64 i)), (5, .v (.int .i64 (tI st.tm 5 + (bytesLs ((xS st.H 2).take i.toNat)).length)))] [] st
def annS2 (m ep : Nat) : Ann Unit where
  α := Int
  φ st i := 0 ≤ i ∧ i ≤ (xS st.H 2).length
  μ st i := ((xS st.H 2).length - i).toNat
  get st := getI st.tm 42
  f st i := tmpl [0, 40, 41] [(42, .v (.int .i64 i))] [(0, .cells [cAt st.H 0 0, cAt st.H 0 1, .v (.int .i64 (cI st.H 0 2 + (bytesLs ((xS st.H 2).take i.toNat)).length)), cAt st.H 0 3] 50),
    (1, .own (.ints .u8 (putL m (xI st.H 1) (cI st.H 0 1 + cI st.H 0 2) (bytesLs ((xS st.H 2).take i.toNat)))) m 5 1 ep true)] st
def shQS : ShH ((Nat × Int × Int × Bool) × OI × List ByteArray) := shHCons (shCells (shCons (shO 1) (shCons shI (shCons shI (shOne shB)))) 50) (shHCons (shOwnI .u8 5 true) (shHOne shSS))
def altPushS : (Unit × Unit) × ((Nat × Int × Int × Bool) × OI × List ByteArray) → Alt Unit := fun (_, ((ep, fr, n, ov), ⟨xs, m, ep2⟩, L)) =>
  .ask (ep = ep2 ∧ QWf fr n xs m ∧ L.length ≤ 1099511627776 ∧ (bytesLs L).length ≤ 1099511627776) (.br (decide (n + (bytesLs L).length > m))
    (.one (.v (.bool false)) (bq ep fr n true xs m ++ [.inp (.ss L)]) [0, 1])
    (.one (.v (.bool true)) (bq ep fr (n + (bytesLs L).length) ov (putL m xs (fr + n) (bytesLs L)) m ++ [.inp (.ss L)]) [0, 1]))
def lcPushS : ACon Unit := mkLC (decP (shCons (shP 0) (shOne (shR 2))) shQS) altPushS
set_option maxHeartbeats 4000000 in
theorem ok_pushS : ∀ I : Sym.Inv Unit, LCOk I Try.prog 13 lcPushS := by
  refine lc_mk (fun (_, ((ep, fr, n, ov), ⟨xs, m, ep2⟩, L)) => allCfg Try.prog [] qtab 0 [(385, annS1), (897, annS2 m ep), (1089, annB m ep)]) (fun _ _ => allCfg_ok mixed trivial qtab_ok) (fun _ => rfl) (n := 60) Try.func13 ?_
  intro ⟨_, ⟨ep, fr, n, ov⟩, ⟨xs, m, ep2⟩, L⟩ hφ
  obtain ⟨⟨rfl, hq, hl, hs⟩, _⟩ := id hφ
  refine kcast (B := ((II (0 : Int) ≤ (0 : Int) ∧ (0 : Int) ≤ (↑L.length : Int)) ∧ ((SV.p (0 : Nat) (0 : Nat) = SV.p (0 : Nat) (0 : Nat) ∧ SV.r (2 : Nat) [] =
        SV.r (2 : Nat) [] ∧ SV.v (Value.int IntKind.i64 n) = SV.v (Value.int IntKind.i64 (n + (↑(bytesLs (List.take (0 : Nat) L)).length : Int))) ∧ SV.r (2 : Nat) [] =
        SV.r (2 : Nat) [] ∧ SV.v (Value.int IntKind.i64 (↑L.length : Int)) = SV.v (Value.int IntKind.i64 (↑L.length : Int)) ∧ SV.v (Value.int IntKind.i64 (0 : Int)) =
        SV.v (Value.int IntKind.i64 (0 : Int)) ∧ True) ∧ (SV.h (1 : Nat) [ep, (0 : Nat)] = SV.h (1 : Nat) [ep, (0 : Nat)] ∧ SV.v (Value.int IntKind.i64 fr) = SV.v
        (Value.int IntKind.i64 fr) ∧ SV.v (Value.int IntKind.i64 n) = SV.v (Value.int IntKind.i64 n) ∧ SV.v (Value.bool ov) = SV.v (Value.bool ov) ∧ True) ∧ (m = m ∧ ep
        = ep ∧ xs = xs) ∧ IC.ss L = IC.ss L ∧ True) ∧ ∀ (x : Int), (0 : Int) ≤ x ∧ x ≤ (↑L.length : Int) → br (decide (x < (↑L.length : Int))) (rq (true && (Nat.beq (1
        : Nat) (1 : Nat) && (true && decide ((0 : Int) ≤ x ∧ x < (↑L.length : Int))))) (rq (true && (x.toNat.blt L.length && true)) (((0 : Int) ≤ IntKind.i64.wrap (x +
        (1 : Int)) ∧ IntKind.i64.wrap (x + (1 : Int)) ≤ (↑L.length : Int)) ∧ ((SV.p (0 : Nat) (0 : Nat) = SV.p (0 : Nat) (0 : Nat) ∧ SV.r (2 : Nat) [] = SV.r (2 : Nat)
        [] ∧ SV.v (Value.int IntKind.i64 (IntKind.i64.wrap (n + (↑(bytesLs (List.take x.toNat L)).length : Int) + (↑(L.getD x.toNat ByteArray.empty).size : Int)))) =
        SV.v (Value.int IntKind.i64 (n + (↑(bytesLs (List.take (IntKind.i64.wrap (x + (1 : Int))).toNat L)).length : Int))) ∧ SV.r (2 : Nat) [] = SV.r (2 : Nat) [] ∧
        SV.v (Value.int IntKind.i64 (↑L.length : Int)) = SV.v (Value.int IntKind.i64 (↑L.length : Int)) ∧ SV.v (Value.int IntKind.i64 (IntKind.i64.wrap (x + (1 :
        Int)))) = SV.v (Value.int IntKind.i64 (IntKind.i64.wrap (x + (1 : Int)))) ∧ True) ∧ (SV.h (1 : Nat) [ep, (0 : Nat)] = SV.h (1 : Nat) [ep, (0 : Nat)] ∧ SV.v
        (Value.int IntKind.i64 fr) = SV.v (Value.int IntKind.i64 fr) ∧ SV.v (Value.int IntKind.i64 n) = SV.v (Value.int IntKind.i64 n) ∧ SV.v (Value.bool ov) = SV.v
        (Value.bool ov) ∧ True) ∧ (m = m ∧ ep = ep ∧ xs = xs) ∧ IC.ss L = IC.ss L ∧ True) ∧ ((↑L.length : Int) - IntKind.i64.wrap (x + (1 : Int))).toNat < ((↑L.length :
        Int) - x).toNat))) (rq (ep.beq ep) (br (decide (n + (↑(bytesLs (List.take x.toNat L)).length : Int) > (↑m : Int))) (br (decide (n + (↑(bytesLs L).length : Int)
        > (↑m : Int))) ((SV.v (Value.bool false) = SV.v (Value.bool false) ∧ True) ∧ (SV.h (1 : Nat) [ep, (0 : Nat)] = SV.h (1 : Nat) [ep, (0 : Nat)] ∧ SV.v (Value.int
        IntKind.i64 fr) = SV.v (Value.int IntKind.i64 fr) ∧ SV.v (Value.int IntKind.i64 n) = SV.v (Value.int IntKind.i64 n) ∧ SV.v (Value.bool true) = SV.v (Value.bool
        true) ∧ True) ∧ (m = m ∧ ep = ep ∧ xs = xs) ∧ IC.ss L = IC.ss L ∧ True) ((SV.v (Value.bool false) = SV.v (Value.bool true) ∧ True) ∧ (SV.h (1 : Nat) [ep, (0 :
        Nat)] = SV.h (1 : Nat) [ep, (0 : Nat)] ∧ SV.v (Value.int IntKind.i64 fr) = SV.v (Value.int IntKind.i64 fr) ∧ SV.v (Value.int IntKind.i64 n) = SV.v (Value.int
        IntKind.i64 (n + (↑(bytesLs L).length : Int))) ∧ SV.v (Value.bool true) = SV.v (Value.bool ov) ∧ True) ∧ (m = m ∧ ep = ep ∧ xs = putL m xs (fr + n) (bytesLs L))
        ∧ IC.ss L = IC.ss L ∧ True)) ((II (0 : Int) ≤ (0 : Int) ∧ (0 : Int) ≤ (↑L.length : Int)) ∧ ((SV.p (0 : Nat) (0 : Nat) = SV.p (0 : Nat) (0 : Nat) ∧ SV.r (2 :
        Nat) [] = SV.r (2 : Nat) [] ∧ SV.v (Value.int IntKind.i64 (↑L.length : Int)) = SV.v (Value.int IntKind.i64 (↑L.length : Int)) ∧ SV.v (Value.int IntKind.i64 (0 :
        Int)) = SV.v (Value.int IntKind.i64 (0 : Int)) ∧ True) ∧ (SV.h (1 : Nat) [ep, (0 : Nat)] = SV.h (1 : Nat) [ep, (0 : Nat)] ∧ SV.v (Value.int IntKind.i64 fr) =
        SV.v (Value.int IntKind.i64 fr) ∧ SV.v (Value.int IntKind.i64 n) = SV.v (Value.int IntKind.i64 (n + (↑(bytesLs (List.take (0 : Nat) L)).length : Int))) ∧ SV.v
        (Value.bool ov) = SV.v (Value.bool ov) ∧ True) ∧ (m = m ∧ ep = ep ∧ xs = putL m xs (fr + n) (bytesLs (List.take (0 : Nat) L))) ∧ IC.ss L = IC.ss L ∧ True) ∧ ∀
        (x : Int), (0 : Int) ≤ x ∧ x ≤ (↑L.length : Int) → br (decide (x < (↑L.length : Int))) (rq (true && (Nat.beq (1 : Nat) (1 : Nat) && (true && decide ((0 : Int) ≤
        x ∧ x < (↑L.length : Int))))) (rq (true && (x.toNat.blt L.length && true)) ((II (0 : Int) ≤ (0 : Int) ∧ (0 : Int) ≤ (↑(L.getD x.toNat ByteArray.empty).size :
        Int)) ∧ ((SV.p (0 : Nat) (0 : Nat) = SV.p (0 : Nat) (0 : Nat) ∧ SV.v (Value.string (L.getD x.toNat ByteArray.empty)) = SV.v (Value.string (L.getD x.toNat
        ByteArray.empty)) ∧ SV.r (2 : Nat) [] = SV.r (2 : Nat) [] ∧ SV.v (Value.int IntKind.i64 (↑L.length : Int)) = SV.v (Value.int IntKind.i64 (↑L.length : Int)) ∧
        SV.v (Value.int IntKind.i64 x) = SV.v (Value.int IntKind.i64 x) ∧ SV.v (Value.int IntKind.i64 (↑(L.getD x.toNat ByteArray.empty).size : Int)) = SV.v (Value.int
        IntKind.i64 (↑(L.getD x.toNat ByteArray.empty).size : Int)) ∧ SV.v (Value.int IntKind.i64 (0 : Int)) = SV.v (Value.int IntKind.i64 (0 : Int)) ∧ True) ∧ (SV.h (1
        : Nat) [ep, (0 : Nat)] = SV.h (1 : Nat) [ep, (0 : Nat)] ∧ SV.v (Value.int IntKind.i64 fr) = SV.v (Value.int IntKind.i64 fr) ∧ SV.v (Value.int IntKind.i64 (n +
        (↑(bytesLs (List.take x.toNat L)).length : Int))) = SV.v (Value.int IntKind.i64 (n + (↑(bytesLs (List.take x.toNat L)).length : Int) + (0 : Int))) ∧ SV.v
        (Value.bool ov) = SV.v (Value.bool ov) ∧ True) ∧ (m = m ∧ ep = ep ∧ putL m xs (fr + n) (bytesLs (List.take x.toNat L)) = putL m (putL m xs (fr + n) (bytesLs
        (List.take x.toNat L))) (fr + (n + (↑(bytesLs (List.take x.toNat L)).length : Int))) (List.take (0 : Nat) (bytesL (L.getD x.toNat ByteArray.empty)))) ∧ IC.ss L
        = IC.ss L ∧ True) ∧ ∀ (x_1 : Int), (0 : Int) ≤ x_1 ∧ x_1 ≤ (↑(L.getD x.toNat ByteArray.empty).size : Int) → br (decide (x_1 < (↑(L.getD x.toNat
        ByteArray.empty).size : Int))) (rq (decide ((0 : Int) ≤ x_1 ∧ x_1 < (↑(L.getD x.toNat ByteArray.empty).size : Int))) (true = true ∧ (ep = ep ∧ QWf fr (n +
        (↑(bytesLs (List.take x.toNat L)).length : Int) + x_1) (putL m (putL m xs (fr + n) (bytesLs (List.take x.toNat L))) (fr + (n + (↑(bytesLs (List.take x.toNat
        L)).length : Int))) (List.take x_1.toNat (bytesL (L.getD x.toNat ByteArray.empty)))) m ∧ n + (↑(bytesLs (List.take x.toNat L)).length : Int) + x_1 < (↑m : Int)
        ∧ (0 : Int) ≤ byteAt (L.getD x.toNat ByteArray.empty) x_1.toNat ∧ byteAt (L.getD x.toNat ByteArray.empty) x_1.toNat ≤ (255 : Int)) ∧ ((0 : Int) ≤
        IntKind.i64.wrap (x_1 + (1 : Int)) ∧ IntKind.i64.wrap (x_1 + (1 : Int)) ≤ (↑(L.getD x.toNat ByteArray.empty).size : Int)) ∧ ((SV.p (0 : Nat) (0 : Nat) = SV.p (0
        : Nat) (0 : Nat) ∧ SV.v (Value.string (L.getD x.toNat ByteArray.empty)) = SV.v (Value.string (L.getD x.toNat ByteArray.empty)) ∧ SV.r (2 : Nat) [] = SV.r (2 :
        Nat) [] ∧ SV.v (Value.int IntKind.i64 (↑L.length : Int)) = SV.v (Value.int IntKind.i64 (↑L.length : Int)) ∧ SV.v (Value.int IntKind.i64 x) = SV.v (Value.int
        IntKind.i64 x) ∧ SV.v (Value.int IntKind.i64 (↑(L.getD x.toNat ByteArray.empty).size : Int)) = SV.v (Value.int IntKind.i64 (↑(L.getD x.toNat
        ByteArray.empty).size : Int)) ∧ SV.v (Value.int IntKind.i64 (IntKind.i64.wrap (x_1 + (1 : Int)))) = SV.v (Value.int IntKind.i64 (IntKind.i64.wrap (x_1 + (1 :
        Int)))) ∧ True) ∧ (SV.h (1 : Nat) [ep, (0 : Nat)] = SV.h (1 : Nat) [ep, (0 : Nat)] ∧ SV.v (Value.int IntKind.i64 fr) = SV.v (Value.int IntKind.i64 fr) ∧ SV.v
        (Value.int IntKind.i64 (n + (↑(bytesLs (List.take x.toNat L)).length : Int) + x_1 + (1 : Int))) = SV.v (Value.int IntKind.i64 (n + (↑(bytesLs (List.take x.toNat
        L)).length : Int) + IntKind.i64.wrap (x_1 + (1 : Int)))) ∧ SV.v (Value.bool ov) = SV.v (Value.bool ov) ∧ True) ∧ (m = m ∧ ep = ep ∧ (putL m (putL m xs (fr + n)
        (bytesLs (List.take x.toNat L))) (fr + (n + (↑(bytesLs (List.take x.toNat L)).length : Int))) (List.take x_1.toNat (bytesL (L.getD x.toNat
        ByteArray.empty)))).set ((fr + (n + (↑(bytesLs (List.take x.toNat L)).length : Int) + x_1)) % (↑m : Int)).toNat (byteAt (L.getD x.toNat ByteArray.empty)
        x_1.toNat) = putL m (putL m xs (fr + n) (bytesLs (List.take x.toNat L))) (fr + (n + (↑(bytesLs (List.take x.toNat L)).length : Int))) (List.take
        (IntKind.i64.wrap (x_1 + (1 : Int))).toNat (bytesL (L.getD x.toNat ByteArray.empty)))) ∧ IC.ss L = IC.ss L ∧ True) ∧ ((↑(L.getD x.toNat ByteArray.empty).size :
        Int) - IntKind.i64.wrap (x_1 + (1 : Int))).toNat < ((↑(L.getD x.toNat ByteArray.empty).size : Int) - x_1).toNat)) (((0 : Int) ≤ IntKind.i64.wrap (x + (1 : Int))
        ∧ IntKind.i64.wrap (x + (1 : Int)) ≤ (↑L.length : Int)) ∧ ((SV.p (0 : Nat) (0 : Nat) = SV.p (0 : Nat) (0 : Nat) ∧ SV.r (2 : Nat) [] = SV.r (2 : Nat) [] ∧ SV.v
        (Value.int IntKind.i64 (↑L.length : Int)) = SV.v (Value.int IntKind.i64 (↑L.length : Int)) ∧ SV.v (Value.int IntKind.i64 (IntKind.i64.wrap (x + (1 : Int)))) =
        SV.v (Value.int IntKind.i64 (IntKind.i64.wrap (x + (1 : Int)))) ∧ True) ∧ (SV.h (1 : Nat) [ep, (0 : Nat)] = SV.h (1 : Nat) [ep, (0 : Nat)] ∧ SV.v (Value.int
        IntKind.i64 fr) = SV.v (Value.int IntKind.i64 fr) ∧ SV.v (Value.int IntKind.i64 (n + (↑(bytesLs (List.take x.toNat L)).length : Int) + x_1)) = SV.v (Value.int
        IntKind.i64 (n + (↑(bytesLs (List.take (IntKind.i64.wrap (x + (1 : Int))).toNat L)).length : Int))) ∧ SV.v (Value.bool ov) = SV.v (Value.bool ov) ∧ True) ∧ (m =
        m ∧ ep = ep ∧ putL m (putL m xs (fr + n) (bytesLs (List.take x.toNat L))) (fr + (n + (↑(bytesLs (List.take x.toNat L)).length : Int))) (List.take x_1.toNat
        (bytesL (L.getD x.toNat ByteArray.empty))) = putL m xs (fr + n) (bytesLs (List.take (IntKind.i64.wrap (x + (1 : Int))).toNat L))) ∧ IC.ss L = IC.ss L ∧ True) ∧
        ((↑L.length : Int) - IntKind.i64.wrap (x + (1 : Int))).toNat < ((↑L.length : Int) - x).toNat)))) (br (decide (n + (↑(bytesLs L).length : Int) > (↑m : Int)))
        ((SV.v (Value.bool true) = SV.v (Value.bool false) ∧ True) ∧ (SV.h (1 : Nat) [ep, (0 : Nat)] = SV.h (1 : Nat) [ep, (0 : Nat)] ∧ SV.v (Value.int IntKind.i64 fr)
        = SV.v (Value.int IntKind.i64 fr) ∧ SV.v (Value.int IntKind.i64 (n + (↑(bytesLs (List.take x.toNat L)).length : Int))) = SV.v (Value.int IntKind.i64 n) ∧ SV.v
        (Value.bool ov) = SV.v (Value.bool true) ∧ True) ∧ (m = m ∧ ep = ep ∧ putL m xs (fr + n) (bytesLs (List.take x.toNat L)) = xs) ∧ IC.ss L = IC.ss L ∧ True)
        ((SV.v (Value.bool true) = SV.v (Value.bool true) ∧ True) ∧ (SV.h (1 : Nat) [ep, (0 : Nat)] = SV.h (1 : Nat) [ep, (0 : Nat)] ∧ SV.v (Value.int IntKind.i64 fr) =
        SV.v (Value.int IntKind.i64 fr) ∧ SV.v (Value.int IntKind.i64 (n + (↑(bytesLs (List.take x.toNat L)).length : Int))) = SV.v (Value.int IntKind.i64 (n +
        (↑(bytesLs L).length : Int))) ∧ SV.v (Value.bool ov) = SV.v (Value.bool ov) ∧ True) ∧ (m = m ∧ ep = ep ∧ putL m xs (fr + n) (bytesLs (List.take x.toNat L)) =
        putL m xs (fr + n) (bytesLs L)) ∧ IC.ss L = IC.ss L ∧ True))))))) (by kernel_rfl) ?_
  obtain ⟨h1, h2, h3, h4, h5, h6, h7⟩ := id hq
  have hL : (L.length : Int) ≤ 1099511627776 := by omega
  have hB : ((bytesLs L).length : Int) ≤ 1099511627776 := by omega
  have hle : ∀ k : Nat, ((bytesLs (L.take k)).length : Int) ≤ (bytesLs L).length := fun k => by have := bytesLs_le (L := L) k; omega
  simp only [rq_iff, br_iff, nbeq, Nat.blt_eq, true_and, and_true, reduceCtorEq, false_implies, true_implies, Bool.and_eq_true, decide_eq_true_eq, decide_eq_false_iff_not, SV.v.injEq, Value.int.injEq, Value.bool.injEq, II, Bool.false_eq_true, Bool.true_eq_false]
  refine ⟨⟨by omega, by omega⟩, by simp [bytesLs], fun x ⟨hx0, hx1⟩ => ⟨fun hlt => ?_, fun hge => ?_⟩⟩
  · have e1 := bytesLs_take_succ hx0 hlt
    have e2 := hle (x + 1).toNat
    have e3 := hle x.toNat
    have e4 : ((bytesLs (L.take (x + 1).toNat)).length : Int) = (bytesLs (L.take x.toNat)).length + (L.getD x.toNat ByteArray.empty).size := by rw [e1, List.length_append, bytesL_length]; omega
    rw [wrap64 (x := x + 1) (by omega) (by omega)]
    rw [wrap64 (by omega) (by omega)]
    refine ⟨⟨hx0, hlt⟩, by omega, ⟨by omega, by omega⟩, by omega, by omega⟩
  · have hx : x = L.length := by omega
    subst hx
    have e0 : L.take ((L.length : Nat) : Int).toNat = L := List.take_of_length_le (by omega)
    rw [e0]
    refine ⟨fun hgt => ⟨fun _ => trivial, fun hh => absurd hgt hh⟩, fun hgt => ⟨⟨by omega, by omega⟩, ⟨by simp [bytesLs], by simp [bytesLs, putL]⟩, fun x ⟨hx0, hx1⟩ => ⟨fun hlt => ?_, fun hge => ?_⟩⟩⟩
    · have e1 := bytesLs_take_succ hx0 hlt
      have e2 := hle (x + 1).toNat
      have e3 := hle x.toNat
      generalize hs' : L.getD x.toNat ByteArray.empty = s at *
      have e4 : ((bytesLs (L.take (x + 1).toNat)).length : Int) = (bytesLs (L.take x.toNat)).length + s.size := by rw [e1, List.length_append, bytesL_length]; omega
      obtain ⟨q1, _⟩ := hq.put (bytesLs (L.take x.toNat)) (by omega) (fun y hy => bytesLs_range _ y hy)
      have hs64 : (s.size : Int) ≤ 1099511627776 := by omega
      refine ⟨⟨hx0, hlt⟩, by omega, ⟨by omega, by omega⟩, ⟨by omega, rfl⟩, fun y ⟨hy0, hy1⟩ => ⟨fun hylt => ?_, fun hyge => ?_⟩⟩
      · have hlen : (((bytesL s).take y.toNat).length : Int) = y := by rw [List.length_take, bytesL_length]; omega
        obtain ⟨q2, _⟩ := q1.put ((bytesL s).take y.toNat) (by omega) (byteR_take (bytesL_range s) _)
        rw [hlen] at q2
        rw [wrap64 (x := y + 1) (by omega) (by omega), bytesL_take_succ hy0 hylt, putL_snoc, hlen]
        refine ⟨⟨hy0, hylt⟩, ⟨q2, by omega, byteAt_range _ _⟩, ⟨by omega, by omega⟩, ⟨by omega, ?_⟩, by omega⟩
        rw [show fr + (n + ((bytesLs (L.take x.toNat)).length : Int) + y) = fr + (n + ((bytesLs (L.take x.toNat)).length : Int)) + y by omega]
      · have hy : y = s.size := by omega
        subst hy
        rw [wrap64 (x := x + 1) (by omega) (by omega)]
        refine ⟨⟨by omega, by omega⟩, ⟨by omega, ?_⟩, by omega⟩
        have e5 : (bytesL s).take ((s.size : Nat) : Int).toNat = bytesL s := List.take_of_length_le (by rw [bytesL_length]; omega)
        rw [e1, putL_append, e5]
        rw [show fr + (n + ((bytesLs (L.take x.toNat)).length : Int)) = fr + n + ((bytesLs (L.take x.toNat)).length : Int) by omega]
    · have hx : x = L.length := by omega
      subst hx
      rw [e0]
      exact ⟨fun hh => absurd hh hgt, fun _ => ⟨rfl, rfl⟩⟩
def lcPush0 : ACon Unit := mkLC (decP (shCons shNilP (shOne (shR 0))) (shHOne shSS)) fun (_, L) => .one (.v (.bool false)) [.inp (.ss L)] []
set_option maxHeartbeats 4000000 in
theorem ok_push0 : ∀ I : Sym.Inv Unit, LCOk I Try.prog 13 lcPush0 := by
  refine lc_mk (fun _ => allCfg Try.prog [] qtab 0) (fun _ _ => allCfg_ok mixed trivial qtab_ok) (fun _ => rfl) (n := 60) Try.func13 ?_
  intro ⟨_, L⟩ hφ
  refine kcast (B := ((SV.v (Value.bool false) = SV.v (Value.bool false) ∧ True) ∧ IC.ss L = IC.ss L ∧ True)) (by kernel_rfl) ?_
  exact ⟨⟨rfl, trivial⟩, rfl, trivial⟩
def lcPush : ACon Unit := lcOr lcPush1 (lcOr lcPushS lcPush0)
theorem ok_push : ∀ I : Sym.Inv Unit, LCOk I Try.prog 13 lcPush := lcOr_ok ok_push1 (lcOr_ok ok_pushS ok_push0)

end Go.Proofs.Ytienakdnmhmglaa
