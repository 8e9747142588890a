/- The law of order, run. -/
import Derived.Test.YtienakdnmhmglaaQuS
set_option linter.unusedSimpArgs false
set_option linter.unusedVariables false
set_option linter.unusedSectionVars false
namespace Go.Proofs.Ytienakdnmhmglaa
open Go Go.Sym

/-- Calls: the state is the place, the queue, and what was fetched; what was taken is what was fetched and what the queue holds. -/
def annO (most : Int) (l : List Opr) : Ann Unit where
  α := Int × Int × Int × Bool × List Int × ByteArray
  φ _ x := 0 ≤ x.1 ∧ x.1 ≤ l.length ∧ QWf x.2.1 x.2.2.1 x.2.2.2.2.1 most.toNat ∧ (x.2.2.2.2.2.size : Int) ≤ x.1 * 4096
  μ _ x := (l.length - x.1).toNat
  get st := match getI st.tm 9 with
    | some i => match cAt st.H 2 3 with
      | .v (.bool ov) => some (i, cI st.H 2 1, cI st.H 2 2, ov, xI st.H 1, tS st.tm 8)
      | _ => none
    | none => none
  f st x := tmpl [0, 1, 5] [(9, .v (.int .i64 x.1)), (8, .v (.string x.2.2.2.2.2)), (7, .v (.string (x.2.2.2.2.2 ++ bytesOf (tk x.2.2.2.2.1 x.2.1 most.toNat x.2.2.1))))]
    [(1, .own (.ints .u8 x.2.2.2.2.1) most.toNat 5 1 0 true), (2, .cells [.h 1 [0, 0], .v (.int .i64 x.2.1), .v (.int .i64 x.2.2.1), .v (.bool x.2.2.2.1)] 50)] st
/-- The texts of a call, joined. -/
def annO1 (l : List Opr) : Ann Unit where
  α := Int
  φ st k := 0 ≤ k ∧ k ≤ (l.getD (tI st.tm 9).toNat op0).2.1.length
  μ st k := ((l.getD (tI st.tm 9).toNat op0).2.1.length - k).toNat
  get st := getI st.tm 13
  f st k := tmpl [0, 1, 5, 7, 8, 9, 10, 11] [(13, .v (.int .i64 k)), (12, .v (.string (catS ((l.getD (tI st.tm 9).toNat op0).2.1.take k.toNat))))] [] st
noncomputable def cfgOrder (most : Int) (l : List Opr) : Cfg Unit := allCfg Try.prog ptab' qtabX 0 [(260, annF0 l), (584, annF1 l), (516, annO most l), (1285, annO1 l)]
set_option maxHeartbeats 4000000 in
theorem run_order (most : Int) (l : List Opr) (hr : OpsR l) : Sym.Ask (bodyK Try.prog (run (cfgOrder most l) 80) Try.f3 [.v (.int .i64 most), .r 0 []] [.inp (opsIC l)] (fun y _ => y = .v (.bool true))) := by
  refine kcast (B := (true = true ∧ br (decide ((0 : Int) ≤ most) && decide (most ≤ (4096 : Int))) ((II (0 : Int) ≤ (0 : Int) ∧ (0 : Int) ≤ (↑l.length : Int) ∧ FewI l (0 : Int) (0 : Int)) ∧ ((SV.r (0 : Nat) [] = SV.r (0 : Nat) [] ∧ SV.v (Value.int
   IntKind.i64 (0 : Int)) = SV.v (Value.int IntKind.i64 (0 : Int)) ∧ SV.v (Value.int IntKind.i64 (0 : Int)) = SV.v (Value.int IntKind.i64 (0 : Int)) ∧ True) ∧ opsIC l = opsIC l ∧ (most.toNat = most.toNat ∧ (0 : Nat) = (0 : Nat) ∧ List.replicate
   most.toNat (0 : Int) = List.replicate most.toNat (0 : Int)) ∧ (SV.h (1 : Nat) [(0 : Nat), (0 : Nat)] = SV.h (1 : Nat) [(0 : Nat), (0 : Nat)] ∧ SV.v (Value.int IntKind.i64 (0 : Int)) = SV.v (Value.int IntKind.i64 (0 : Int)) ∧ SV.v (Value.int
   IntKind.i64 (0 : Int)) = SV.v (Value.int IntKind.i64 (0 : Int)) ∧ SV.v (Value.bool false) = SV.v (Value.bool false) ∧ True) ∧ True) ∧ ∀ (x : Int × Int), (0 : Int) ≤ x.fst ∧ x.fst ≤ (↑l.length : Int) ∧ FewI l x.fst x.snd → br (decide (x.fst <
   (↑l.length : Int))) (rq (true && (Nat.beq (3 : Nat) (3 : Nat) && (true && decide ((0 : Int) ≤ x.fst ∧ x.fst < (↑l.length : Int))))) (rq (true && (x.fst.toNat.blt l.length && true)) (rq (true && (x.fst.toNat.blt l.length && true)) (rq (x.fst.toNat.blt
   l.length && true) (br (decide ((↑(l.getD x.fst.toNat op0).snd.fst.length : Int) > (20 : Int))) (True ∧ SV.v (Value.bool true) = SV.v (Value.bool true)) ((II (0 : Int) ≤ (0 : Int) ∧ (0 : Int) ≤ (↑(l.getD x.fst.toNat op0).snd.fst.length : Int) ∧ FewK l
   x.fst x.snd (0 : Int) x.snd) ∧ ((SV.r (0 : Nat) [] = SV.r (0 : Nat) [] ∧ SV.v (Value.int IntKind.i64 x.snd) = SV.v (Value.int IntKind.i64 x.snd) ∧ SV.v (Value.int IntKind.i64 x.fst) = SV.v (Value.int IntKind.i64 x.fst) ∧ SV.v (Value.int IntKind.i64
   (0 : Int)) = SV.v (Value.int IntKind.i64 (0 : Int)) ∧ True) ∧ opsIC l = opsIC l ∧ (most.toNat = most.toNat ∧ (0 : Nat) = (0 : Nat) ∧ List.replicate most.toNat (0 : Int) = List.replicate most.toNat (0 : Int)) ∧ (SV.h (1 : Nat) [(0 : Nat), (0 : Nat)] =
   SV.h (1 : Nat) [(0 : Nat), (0 : Nat)] ∧ SV.v (Value.int IntKind.i64 (0 : Int)) = SV.v (Value.int IntKind.i64 (0 : Int)) ∧ SV.v (Value.int IntKind.i64 (0 : Int)) = SV.v (Value.int IntKind.i64 (0 : Int)) ∧ SV.v (Value.bool false) = SV.v (Value.bool
   false) ∧ True) ∧ True) ∧ ∀ (x_1 : Int × Int), (0 : Int) ≤ x_1.fst ∧ x_1.fst ≤ (↑(l.getD x.fst.toNat op0).snd.fst.length : Int) ∧ FewK l x.fst x.snd x_1.fst x_1.snd → rq (true && (Nat.beq (3 : Nat) (3 : Nat) && (true && decide ((0 : Int) ≤ x.fst ∧
   x.fst < (↑l.length : Int))))) (rq (true && (x.fst.toNat.blt l.length && true)) (rq (true && (x.fst.toNat.blt l.length && true)) (rq (x.fst.toNat.blt l.length && true) (br (decide (x_1.fst < (↑(l.getD x.fst.toNat op0).snd.fst.length : Int))) (rq (true
   && (Nat.beq (3 : Nat) (3 : Nat) && (true && decide ((0 : Int) ≤ x.fst ∧ x.fst < (↑l.length : Int))))) (rq (true && (x.fst.toNat.blt l.length && true)) (rq (true && (x.fst.toNat.blt l.length && true)) (rq (x.fst.toNat.blt l.length && true && (Nat.beq
   (1 : Nat) (1 : Nat) && (true && decide ((0 : Int) ≤ x_1.fst ∧ x_1.fst < (↑(l.getD x.fst.toNat op0).snd.fst.length : Int))))) (rq (x.fst.toNat.blt l.length && true && (x_1.fst.toNat.blt (l.getD x.fst.toNat op0).snd.fst.length && true)) (((0 : Int) ≤
   IntKind.i64.wrap (x_1.fst + (1 : Int)) ∧ IntKind.i64.wrap (x_1.fst + (1 : Int)) ≤ (↑(l.getD x.fst.toNat op0).snd.fst.length : Int) ∧ FewK l x.fst x.snd (IntKind.i64.wrap (x_1.fst + (1 : Int))) (IntKind.i64.wrap (x_1.snd + (↑((l.getD x.fst.toNat
   op0).snd.fst.getD x_1.fst.toNat ByteArray.empty).size : Int)))) ∧ ((SV.r (0 : Nat) [] = SV.r (0 : Nat) [] ∧ SV.v (Value.int IntKind.i64 (IntKind.i64.wrap (x_1.snd + (↑((l.getD x.fst.toNat op0).snd.fst.getD x_1.fst.toNat ByteArray.empty).size :
   Int)))) = SV.v (Value.int IntKind.i64 (IntKind.i64.wrap (x_1.snd + (↑((l.getD x.fst.toNat op0).snd.fst.getD x_1.fst.toNat ByteArray.empty).size : Int)))) ∧ SV.v (Value.int IntKind.i64 x.fst) = SV.v (Value.int IntKind.i64 x.fst) ∧ SV.v (Value.int
   IntKind.i64 (IntKind.i64.wrap (x_1.fst + (1 : Int)))) = SV.v (Value.int IntKind.i64 (IntKind.i64.wrap (x_1.fst + (1 : Int)))) ∧ True) ∧ opsIC l = opsIC l ∧ (most.toNat = most.toNat ∧ (0 : Nat) = (0 : Nat) ∧ List.replicate most.toNat (0 : Int) =
   List.replicate most.toNat (0 : Int)) ∧ (SV.h (1 : Nat) [(0 : Nat), (0 : Nat)] = SV.h (1 : Nat) [(0 : Nat), (0 : Nat)] ∧ SV.v (Value.int IntKind.i64 (0 : Int)) = SV.v (Value.int IntKind.i64 (0 : Int)) ∧ SV.v (Value.int IntKind.i64 (0 : Int)) = SV.v
   (Value.int IntKind.i64 (0 : Int)) ∧ SV.v (Value.bool false) = SV.v (Value.bool false) ∧ True) ∧ True) ∧ ((↑(l.getD x.fst.toNat op0).snd.fst.length : Int) - IntKind.i64.wrap (x_1.fst + (1 : Int))).toNat < ((↑(l.getD x.fst.toNat op0).snd.fst.length :
   Int) - x_1.fst).toNat)))))) (((0 : Int) ≤ IntKind.i64.wrap (x.fst + (1 : Int)) ∧ IntKind.i64.wrap (x.fst + (1 : Int)) ≤ (↑l.length : Int) ∧ FewI l (IntKind.i64.wrap (x.fst + (1 : Int))) x_1.snd) ∧ ((SV.r (0 : Nat) [] = SV.r (0 : Nat) [] ∧ SV.v
   (Value.int IntKind.i64 x_1.snd) = SV.v (Value.int IntKind.i64 x_1.snd) ∧ SV.v (Value.int IntKind.i64 (IntKind.i64.wrap (x.fst + (1 : Int)))) = SV.v (Value.int IntKind.i64 (IntKind.i64.wrap (x.fst + (1 : Int)))) ∧ True) ∧ opsIC l = opsIC l ∧
   (most.toNat = most.toNat ∧ (0 : Nat) = (0 : Nat) ∧ List.replicate most.toNat (0 : Int) = List.replicate most.toNat (0 : Int)) ∧ (SV.h (1 : Nat) [(0 : Nat), (0 : Nat)] = SV.h (1 : Nat) [(0 : Nat), (0 : Nat)] ∧ SV.v (Value.int IntKind.i64 (0 : Int)) =
   SV.v (Value.int IntKind.i64 (0 : Int)) ∧ SV.v (Value.int IntKind.i64 (0 : Int)) = SV.v (Value.int IntKind.i64 (0 : Int)) ∧ SV.v (Value.bool false) = SV.v (Value.bool false) ∧ True) ∧ True) ∧ ((↑l.length : Int) - IntKind.i64.wrap (x.fst + (1 :
   Int))).toNat < ((↑l.length : Int) - x.fst).toNat))))))))))) (br (decide ((↑l.length : Int) ≤ (60 : Int))) (br (!decide (x.snd ≤ (20000 : Int))) (True ∧ SV.v (Value.bool true) = SV.v (Value.bool true)) ((II (0 : Int) ≤ (0 : Int) ∧ (0 : Int) ≤
   (↑l.length : Int) ∧ QWf (0 : Int) (0 : Int) (List.replicate most.toNat (0 : Int)) most.toNat ∧ II (↑(ByteArray.mk #[]).size : Int) ≤ (0 : Int) * (4096 : Int)) ∧ ((SV.v (Value.int IntKind.i64 most) = SV.v (Value.int IntKind.i64 most) ∧ SV.r (0 : Nat)
   [] = SV.r (0 : Nat) [] ∧ SV.p (2 : Nat) (0 : Nat) = SV.p (2 : Nat) (0 : Nat) ∧ SV.v (Value.string (ByteArray.mk #[])) = SV.v (Value.string (ByteArray.mk #[] ++ bytesOf (tk (List.replicate most.toNat (0 : Int)) (0 : Int) most.toNat (0 : Int)))) ∧ SV.v
   (Value.string (ByteArray.mk #[])) = SV.v (Value.string (ByteArray.mk #[])) ∧ SV.v (Value.int IntKind.i64 (0 : Int)) = SV.v (Value.int IntKind.i64 (0 : Int)) ∧ True) ∧ opsIC l = opsIC l ∧ (most.toNat = most.toNat ∧ (0 : Nat) = (0 : Nat) ∧
   List.replicate most.toNat (0 : Int) = List.replicate most.toNat (0 : Int)) ∧ (SV.h (1 : Nat) [(0 : Nat), (0 : Nat)] = SV.h (1 : Nat) [(0 : Nat), (0 : Nat)] ∧ SV.v (Value.int IntKind.i64 (0 : Int)) = SV.v (Value.int IntKind.i64 (0 : Int)) ∧ SV.v
   (Value.int IntKind.i64 (0 : Int)) = SV.v (Value.int IntKind.i64 (0 : Int)) ∧ SV.v (Value.bool false) = SV.v (Value.bool false) ∧ True) ∧ True) ∧ ∀ (x : Int × Int × Int × Bool × List Int × ByteArray), (0 : Int) ≤ x.fst ∧ x.fst ≤ (↑l.length : Int) ∧
   QWf x.snd.fst x.snd.snd.fst x.snd.snd.snd.snd.fst most.toNat ∧ (↑x.snd.snd.snd.snd.snd.size : Int) ≤ x.fst * (4096 : Int) → br (decide (x.fst < (↑l.length : Int))) (rq (true && (Nat.beq (3 : Nat) (3 : Nat) && (true && decide ((0 : Int) ≤ x.fst ∧
   x.fst < (↑l.length : Int))))) (rq (true && (x.fst.toNat.blt l.length && (Nat.ble (3 : Nat) (3 : Nat) && Nat.blt (0 : Nat) (3 : Nat)))) (true = true ∧ (0 : Nat) = (0 : Nat) ∧ br ((l.getD x.fst.toNat op0).fst == (0 : Int)) ((II (0 : Int) ≤ (0 : Int) ∧
   (0 : Int) ≤ (↑(l.getD x.fst.toNat op0).snd.fst.length : Int)) ∧ ((SV.v (Value.int IntKind.i64 most) = SV.v (Value.int IntKind.i64 most) ∧ SV.r (0 : Nat) [] = SV.r (0 : Nat) [] ∧ SV.p (2 : Nat) (0 : Nat) = SV.p (2 : Nat) (0 : Nat) ∧ SV.v (Value.string
   (x.snd.snd.snd.snd.snd ++ bytesOf (tk x.snd.snd.snd.snd.fst x.snd.fst most.toNat x.snd.snd.fst))) = SV.v (Value.string (x.snd.snd.snd.snd.snd ++ bytesOf (tk x.snd.snd.snd.snd.fst x.snd.fst most.toNat x.snd.snd.fst))) ∧ SV.v (Value.string
   x.snd.snd.snd.snd.snd) = SV.v (Value.string x.snd.snd.snd.snd.snd) ∧ SV.v (Value.int IntKind.i64 x.fst) = SV.v (Value.int IntKind.i64 x.fst) ∧ SV.p (3 : Nat) (0 : Nat) = SV.p (3 : Nat) (0 : Nat) ∧ SV.v (Value.int IntKind.i64 x.snd.snd.fst) = SV.v
   (Value.int IntKind.i64 x.snd.snd.fst) ∧ SV.v (Value.string (ByteArray.mk #[])) = SV.v (Value.string (catS (List.take (0 : Nat) (l.getD x.fst.toNat op0).snd.fst))) ∧ SV.v (Value.int IntKind.i64 (0 : Int)) = SV.v (Value.int IntKind.i64 (0 : Int)) ∧
   True) ∧ opsIC l = opsIC l ∧ (most.toNat = most.toNat ∧ (0 : Nat) = (0 : Nat) ∧ x.snd.snd.snd.snd.fst = x.snd.snd.snd.snd.fst) ∧ (SV.h (1 : Nat) [(0 : Nat), (0 : Nat)] = SV.h (1 : Nat) [(0 : Nat), (0 : Nat)] ∧ SV.v (Value.int IntKind.i64 x.snd.fst) =
   SV.v (Value.int IntKind.i64 x.snd.fst) ∧ SV.v (Value.int IntKind.i64 x.snd.snd.fst) = SV.v (Value.int IntKind.i64 x.snd.snd.fst) ∧ SV.v (Value.bool x.snd.snd.snd.fst) = SV.v (Value.bool x.snd.snd.snd.fst) ∧ True) ∧ (SV.v (Value.int IntKind.i64
   (l.getD x.fst.toNat op0).fst) = SV.v (Value.int IntKind.i64 (l.getD x.fst.toNat op0).fst) ∧ SV.r (0 : Nat) [x.fst.toNat, (1 : Nat)] = SV.r (0 : Nat) [x.fst.toNat, (1 : Nat)] ∧ SV.v (Value.int IntKind.i64 (l.getD x.fst.toNat op0).snd.snd) = SV.v
   (Value.int IntKind.i64 (l.getD x.fst.toNat op0).snd.snd) ∧ True) ∧ True) ∧ ∀ (x_1 : Int), (0 : Int) ≤ x_1 ∧ x_1 ≤ (↑(l.getD x.fst.toNat op0).snd.fst.length : Int) → rq (x.fst.toNat.blt l.length && true) (br (decide (x_1 < (↑(l.getD x.fst.toNat
   op0).snd.fst.length : Int))) (rq (x.fst.toNat.blt l.length && true && (Nat.beq (1 : Nat) (1 : Nat) && (true && decide ((0 : Int) ≤ x_1 ∧ x_1 < (↑(l.getD x.fst.toNat op0).snd.fst.length : Int))))) (rq (x.fst.toNat.blt l.length && true &&
   (x_1.toNat.blt (l.getD x.fst.toNat op0).snd.fst.length && true)) (rq (((catS (List.take x_1.toNat (l.getD x.fst.toNat op0).snd.fst)).size + ((l.getD x.fst.toNat op0).snd.fst.getD x_1.toNat ByteArray.empty).size).ble (9223372036854775807 : Nat)) (((0
   : Int) ≤ IntKind.i64.wrap (x_1 + (1 : Int)) ∧ IntKind.i64.wrap (x_1 + (1 : Int)) ≤ (↑(l.getD x.fst.toNat op0).snd.fst.length : Int)) ∧ ((SV.v (Value.int IntKind.i64 most) = SV.v (Value.int IntKind.i64 most) ∧ SV.r (0 : Nat) [] = SV.r (0 : Nat) [] ∧
   SV.p (2 : Nat) (0 : Nat) = SV.p (2 : Nat) (0 : Nat) ∧ SV.v (Value.string (x.snd.snd.snd.snd.snd ++ bytesOf (tk x.snd.snd.snd.snd.fst x.snd.fst most.toNat x.snd.snd.fst))) = SV.v (Value.string (x.snd.snd.snd.snd.snd ++ bytesOf (tk
   x.snd.snd.snd.snd.fst x.snd.fst most.toNat x.snd.snd.fst))) ∧ SV.v (Value.string x.snd.snd.snd.snd.snd) = SV.v (Value.string x.snd.snd.snd.snd.snd) ∧ SV.v (Value.int IntKind.i64 x.fst) = SV.v (Value.int IntKind.i64 x.fst) ∧ SV.p (3 : Nat) (0 : Nat) =
   SV.p (3 : Nat) (0 : Nat) ∧ SV.v (Value.int IntKind.i64 x.snd.snd.fst) = SV.v (Value.int IntKind.i64 x.snd.snd.fst) ∧ SV.v (Value.string (catS (List.take x_1.toNat (l.getD x.fst.toNat op0).snd.fst) ++ (l.getD x.fst.toNat op0).snd.fst.getD x_1.toNat
   ByteArray.empty)) = SV.v (Value.string (catS (List.take (IntKind.i64.wrap (x_1 + (1 : Int))).toNat (l.getD x.fst.toNat op0).snd.fst))) ∧ SV.v (Value.int IntKind.i64 (IntKind.i64.wrap (x_1 + (1 : Int)))) = SV.v (Value.int IntKind.i64 (IntKind.i64.wrap
   (x_1 + (1 : Int)))) ∧ True) ∧ opsIC l = opsIC l ∧ (most.toNat = most.toNat ∧ (0 : Nat) = (0 : Nat) ∧ x.snd.snd.snd.snd.fst = x.snd.snd.snd.snd.fst) ∧ (SV.h (1 : Nat) [(0 : Nat), (0 : Nat)] = SV.h (1 : Nat) [(0 : Nat), (0 : Nat)] ∧ SV.v (Value.int
   IntKind.i64 x.snd.fst) = SV.v (Value.int IntKind.i64 x.snd.fst) ∧ SV.v (Value.int IntKind.i64 x.snd.snd.fst) = SV.v (Value.int IntKind.i64 x.snd.snd.fst) ∧ SV.v (Value.bool x.snd.snd.snd.fst) = SV.v (Value.bool x.snd.snd.snd.fst) ∧ True) ∧ (SV.v
   (Value.int IntKind.i64 (l.getD x.fst.toNat op0).fst) = SV.v (Value.int IntKind.i64 (l.getD x.fst.toNat op0).fst) ∧ SV.r (0 : Nat) [x.fst.toNat, (1 : Nat)] = SV.r (0 : Nat) [x.fst.toNat, (1 : Nat)] ∧ SV.v (Value.int IntKind.i64 (l.getD x.fst.toNat
   op0).snd.snd) = SV.v (Value.int IntKind.i64 (l.getD x.fst.toNat op0).snd.snd) ∧ True) ∧ True) ∧ ((↑(l.getD x.fst.toNat op0).snd.fst.length : Int) - IntKind.i64.wrap (x_1 + (1 : Int))).toNat < ((↑(l.getD x.fst.toNat op0).snd.fst.length : Int) -
   x_1).toNat)))) ((true && (x.fst.toNat.blt l.length && true && true && true)) = true ∧ ((0 : Nat) = (0 : Nat) ∧ QWf x.snd.fst x.snd.snd.fst x.snd.snd.snd.snd.fst most.toNat ∧ (l.getD x.fst.toNat op0).snd.fst.length ≤ (1099511627776 : Nat) ∧ (bytesLs
   (l.getD x.fst.toNat op0).snd.fst).length ≤ (1099511627776 : Nat)) ∧ br (decide (x.snd.snd.fst + (↑(bytesLs (l.getD x.fst.toNat op0).snd.fst).length : Int) > (↑most.toNat : Int))) (br (!false == decide (IntKind.i64.wrap (x.snd.snd.fst + (↑(catS
   (List.take x_1.toNat (l.getD x.fst.toNat op0).snd.fst)).size : Int)) ≤ most)) (SV.v (Value.bool false) = SV.v (Value.bool true)) (true = true ∧ (0 : Nat) = (0 : Nat) ∧ br (x.snd.snd.fst != x.snd.snd.fst) (SV.v (Value.bool false) = SV.v (Value.bool
   true)) (true = true ∧ (0 : Nat) = (0 : Nat) ∧ true = true ∧ (0 : Nat) = (0 : Nat) ∧ br (decide (x.snd.snd.fst > most)) (SV.v (Value.bool false) = SV.v (Value.bool true)) (true = true ∧ (0 : Nat) = (0 : Nat) ∧ br (x.snd.snd.fst != IntKind.i64.wrap
   ((↑(x.snd.snd.snd.snd.snd ++ bytesOf (tk x.snd.snd.snd.snd.fst x.snd.fst most.toNat x.snd.snd.fst)).size : Int) - (↑x.snd.snd.snd.snd.snd.size : Int))) (SV.v (Value.bool false) = SV.v (Value.bool true)) (br (decide ((↑x.snd.snd.snd.snd.snd.size :
   Int) > (↑(x.snd.snd.snd.snd.snd ++ bytesOf (tk x.snd.snd.snd.snd.fst x.snd.fst most.toNat x.snd.snd.fst)).size : Int))) (SV.v (Value.bool false) = SV.v (Value.bool true)) (rq (decide ((0 : Int) ≤ (0 : Int) ∧ (0 : Int) ≤ (↑x.snd.snd.snd.snd.snd.size :
   Int) ∧ (↑x.snd.snd.snd.snd.snd.size : Int) ≤ (↑(x.snd.snd.snd.snd.snd ++ bytesOf (tk x.snd.snd.snd.snd.fst x.snd.fst most.toNat x.snd.snd.fst)).size : Int))) (br (!((x.snd.snd.snd.snd.snd ++ bytesOf (tk x.snd.snd.snd.snd.fst x.snd.fst most.toNat
   x.snd.snd.fst)).extract (0 : Nat) (↑x.snd.snd.snd.snd.snd.size : Int).toNat).toList == x.snd.snd.snd.snd.snd.toList) (SV.v (Value.bool false) = SV.v (Value.bool true)) (((0 : Int) ≤ IntKind.i64.wrap (x.fst + (1 : Int)) ∧ IntKind.i64.wrap (x.fst + (1
   : Int)) ≤ (↑l.length : Int) ∧ QWf x.snd.fst x.snd.snd.fst x.snd.snd.snd.snd.fst most.toNat ∧ (↑x.snd.snd.snd.snd.snd.size : Int) ≤ IntKind.i64.wrap (x.fst + (1 : Int)) * (4096 : Int)) ∧ ((SV.v (Value.int IntKind.i64 most) = SV.v (Value.int
   IntKind.i64 most) ∧ SV.r (0 : Nat) [] = SV.r (0 : Nat) [] ∧ SV.p (2 : Nat) (0 : Nat) = SV.p (2 : Nat) (0 : Nat) ∧ SV.v (Value.string (x.snd.snd.snd.snd.snd ++ bytesOf (tk x.snd.snd.snd.snd.fst x.snd.fst most.toNat x.snd.snd.fst))) = SV.v
   (Value.string (x.snd.snd.snd.snd.snd ++ bytesOf (tk x.snd.snd.snd.snd.fst x.snd.fst most.toNat x.snd.snd.fst))) ∧ SV.v (Value.string x.snd.snd.snd.snd.snd) = SV.v (Value.string x.snd.snd.snd.snd.snd) ∧ SV.v (Value.int IntKind.i64 (IntKind.i64.wrap
   (x.fst + (1 : Int)))) = SV.v (Value.int IntKind.i64 (IntKind.i64.wrap (x.fst + (1 : Int)))) ∧ True) ∧ opsIC l = opsIC l ∧ (most.toNat = most.toNat ∧ (0 : Nat) = (0 : Nat) ∧ x.snd.snd.snd.snd.fst = x.snd.snd.snd.snd.fst) ∧ (SV.h (1 : Nat) [(0 : Nat),
   (0 : Nat)] = SV.h (1 : Nat) [(0 : Nat), (0 : Nat)] ∧ SV.v (Value.int IntKind.i64 x.snd.fst) = SV.v (Value.int IntKind.i64 x.snd.fst) ∧ SV.v (Value.int IntKind.i64 x.snd.snd.fst) = SV.v (Value.int IntKind.i64 x.snd.snd.fst) ∧ SV.v (Value.bool true) =
   SV.v (Value.bool true) ∧ True) ∧ True) ∧ ((↑l.length : Int) - IntKind.i64.wrap (x.fst + (1 : Int))).toNat < ((↑l.length : Int) - x.fst).toNat)))))))) (br (!true == decide (IntKind.i64.wrap (x.snd.snd.fst + (↑(catS (List.take x_1.toNat (l.getD
   x.fst.toNat op0).snd.fst)).size : Int)) ≤ most)) (SV.v (Value.bool false) = SV.v (Value.bool true)) (rq (((x.snd.snd.snd.snd.snd ++ bytesOf (tk x.snd.snd.snd.snd.fst x.snd.fst most.toNat x.snd.snd.fst)).size + (catS (List.take x_1.toNat (l.getD
   x.fst.toNat op0).snd.fst)).size).ble (9223372036854775807 : Nat)) (true = true ∧ (0 : Nat) = (0 : Nat) ∧ br (decide (x.snd.snd.fst + (↑(bytesLs (l.getD x.fst.toNat op0).snd.fst).length : Int) > most)) (SV.v (Value.bool false) = SV.v (Value.bool
   true)) (true = true ∧ (0 : Nat) = (0 : Nat) ∧ br (x.snd.snd.fst + (↑(bytesLs (l.getD x.fst.toNat op0).snd.fst).length : Int) != IntKind.i64.wrap ((↑(x.snd.snd.snd.snd.snd ++ bytesOf (tk x.snd.snd.snd.snd.fst x.snd.fst most.toNat x.snd.snd.fst) ++
   catS (List.take x_1.toNat (l.getD x.fst.toNat op0).snd.fst)).size : Int) - (↑x.snd.snd.snd.snd.snd.size : Int))) (SV.v (Value.bool false) = SV.v (Value.bool true)) (br (decide ((↑x.snd.snd.snd.snd.snd.size : Int) > (↑(x.snd.snd.snd.snd.snd ++ bytesOf
   (tk x.snd.snd.snd.snd.fst x.snd.fst most.toNat x.snd.snd.fst) ++ catS (List.take x_1.toNat (l.getD x.fst.toNat op0).snd.fst)).size : Int))) (SV.v (Value.bool false) = SV.v (Value.bool true)) (rq (decide ((0 : Int) ≤ (0 : Int) ∧ (0 : Int) ≤
   (↑x.snd.snd.snd.snd.snd.size : Int) ∧ (↑x.snd.snd.snd.snd.snd.size : Int) ≤ (↑(x.snd.snd.snd.snd.snd ++ bytesOf (tk x.snd.snd.snd.snd.fst x.snd.fst most.toNat x.snd.snd.fst) ++ catS (List.take x_1.toNat (l.getD x.fst.toNat op0).snd.fst)).size :
   Int))) (br (!((x.snd.snd.snd.snd.snd ++ bytesOf (tk x.snd.snd.snd.snd.fst x.snd.fst most.toNat x.snd.snd.fst) ++ catS (List.take x_1.toNat (l.getD x.fst.toNat op0).snd.fst)).extract (0 : Nat) (↑x.snd.snd.snd.snd.snd.size : Int).toNat).toList ==
   x.snd.snd.snd.snd.snd.toList) (SV.v (Value.bool false) = SV.v (Value.bool true)) (((0 : Int) ≤ IntKind.i64.wrap (x.fst + (1 : Int)) ∧ IntKind.i64.wrap (x.fst + (1 : Int)) ≤ (↑l.length : Int) ∧ QWf x.snd.fst (x.snd.snd.fst + (↑(bytesLs (l.getD
   x.fst.toNat op0).snd.fst).length : Int)) (putL most.toNat x.snd.snd.snd.snd.fst (x.snd.fst + x.snd.snd.fst) (bytesLs (l.getD x.fst.toNat op0).snd.fst)) most.toNat ∧ (↑x.snd.snd.snd.snd.snd.size : Int) ≤ IntKind.i64.wrap (x.fst + (1 : Int)) * (4096 :
   Int)) ∧ ((SV.v (Value.int IntKind.i64 most) = SV.v (Value.int IntKind.i64 most) ∧ SV.r (0 : Nat) [] = SV.r (0 : Nat) [] ∧ SV.p (2 : Nat) (0 : Nat) = SV.p (2 : Nat) (0 : Nat) ∧ SV.v (Value.string (x.snd.snd.snd.snd.snd ++ bytesOf (tk
   x.snd.snd.snd.snd.fst x.snd.fst most.toNat x.snd.snd.fst) ++ catS (List.take x_1.toNat (l.getD x.fst.toNat op0).snd.fst))) = SV.v (Value.string (x.snd.snd.snd.snd.snd ++ bytesOf (tk (putL most.toNat x.snd.snd.snd.snd.fst (x.snd.fst + x.snd.snd.fst)
   (bytesLs (l.getD x.fst.toNat op0).snd.fst)) x.snd.fst most.toNat (x.snd.snd.fst + (↑(bytesLs (l.getD x.fst.toNat op0).snd.fst).length : Int))))) ∧ SV.v (Value.string x.snd.snd.snd.snd.snd) = SV.v (Value.string x.snd.snd.snd.snd.snd) ∧ SV.v (Value.int
   IntKind.i64 (IntKind.i64.wrap (x.fst + (1 : Int)))) = SV.v (Value.int IntKind.i64 (IntKind.i64.wrap (x.fst + (1 : Int)))) ∧ True) ∧ opsIC l = opsIC l ∧ (most.toNat = most.toNat ∧ (0 : Nat) = (0 : Nat) ∧ putL most.toNat x.snd.snd.snd.snd.fst
   (x.snd.fst + x.snd.snd.fst) (bytesLs (l.getD x.fst.toNat op0).snd.fst) = putL most.toNat x.snd.snd.snd.snd.fst (x.snd.fst + x.snd.snd.fst) (bytesLs (l.getD x.fst.toNat op0).snd.fst)) ∧ (SV.h (1 : Nat) [(0 : Nat), (0 : Nat)] = SV.h (1 : Nat) [(0 :
   Nat), (0 : Nat)] ∧ SV.v (Value.int IntKind.i64 x.snd.fst) = SV.v (Value.int IntKind.i64 x.snd.fst) ∧ SV.v (Value.int IntKind.i64 (x.snd.snd.fst + (↑(bytesLs (l.getD x.fst.toNat op0).snd.fst).length : Int))) = SV.v (Value.int IntKind.i64
   (x.snd.snd.fst + (↑(bytesLs (l.getD x.fst.toNat op0).snd.fst).length : Int))) ∧ SV.v (Value.bool x.snd.snd.snd.fst) = SV.v (Value.bool x.snd.snd.snd.fst) ∧ True) ∧ True) ∧ ((↑l.length : Int) - IntKind.i64.wrap (x.fst + (1 : Int))).toNat < ((↑l.length
   : Int) - x.fst).toNat))))))))))) (br ((l.getD x.fst.toNat op0).fst == (1 : Int)) (true = true ∧ ((0 : Nat) = (0 : Nat) ∧ QWf x.snd.fst x.snd.snd.fst x.snd.snd.snd.snd.fst most.toNat) ∧ rq ((x.snd.snd.snd.snd.snd.size + (bytesOf (tk
   x.snd.snd.snd.snd.fst x.snd.fst most.toNat x.snd.snd.fst)).size).ble (9223372036854775807 : Nat)) (true = true ∧ (0 : Nat) = (0 : Nat) ∧ true = true ∧ (0 : Nat) = (0 : Nat) ∧ true = true ∧ (0 : Nat) = (0 : Nat) ∧ br (decide ((0 : Int) > most)) (SV.v
   (Value.bool false) = SV.v (Value.bool true)) (true = true ∧ (0 : Nat) = (0 : Nat) ∧ br ((0 : Int) != IntKind.i64.wrap ((↑(x.snd.snd.snd.snd.snd ++ bytesOf (tk x.snd.snd.snd.snd.fst x.snd.fst most.toNat x.snd.snd.fst)).size : Int) -
   (↑(x.snd.snd.snd.snd.snd ++ bytesOf (tk x.snd.snd.snd.snd.fst x.snd.fst most.toNat x.snd.snd.fst)).size : Int))) (SV.v (Value.bool false) = SV.v (Value.bool true)) (br (decide ((↑(x.snd.snd.snd.snd.snd ++ bytesOf (tk x.snd.snd.snd.snd.fst x.snd.fst
   most.toNat x.snd.snd.fst)).size : Int) > (↑(x.snd.snd.snd.snd.snd ++ bytesOf (tk x.snd.snd.snd.snd.fst x.snd.fst most.toNat x.snd.snd.fst)).size : Int))) (SV.v (Value.bool false) = SV.v (Value.bool true)) (rq (decide ((0 : Int) ≤ (0 : Int) ∧ (0 :
   Int) ≤ (↑(x.snd.snd.snd.snd.snd ++ bytesOf (tk x.snd.snd.snd.snd.fst x.snd.fst most.toNat x.snd.snd.fst)).size : Int) ∧ (↑(x.snd.snd.snd.snd.snd ++ bytesOf (tk x.snd.snd.snd.snd.fst x.snd.fst most.toNat x.snd.snd.fst)).size : Int) ≤
   (↑(x.snd.snd.snd.snd.snd ++ bytesOf (tk x.snd.snd.snd.snd.fst x.snd.fst most.toNat x.snd.snd.fst)).size : Int))) (br (!((x.snd.snd.snd.snd.snd ++ bytesOf (tk x.snd.snd.snd.snd.fst x.snd.fst most.toNat x.snd.snd.fst)).extract (0 : Nat)
   (↑(x.snd.snd.snd.snd.snd ++ bytesOf (tk x.snd.snd.snd.snd.fst x.snd.fst most.toNat x.snd.snd.fst)).size : Int).toNat).toList == (x.snd.snd.snd.snd.snd ++ bytesOf (tk x.snd.snd.snd.snd.fst x.snd.fst most.toNat x.snd.snd.fst)).toList) (SV.v (Value.bool
   false) = SV.v (Value.bool true)) (((0 : Int) ≤ IntKind.i64.wrap (x.fst + (1 : Int)) ∧ IntKind.i64.wrap (x.fst + (1 : Int)) ≤ (↑l.length : Int) ∧ QWf ((x.snd.fst + x.snd.snd.fst) % (↑most.toNat : Int)) (0 : Int) x.snd.snd.snd.snd.fst most.toNat ∧
   (↑(x.snd.snd.snd.snd.snd ++ bytesOf (tk x.snd.snd.snd.snd.fst x.snd.fst most.toNat x.snd.snd.fst)).size : Int) ≤ IntKind.i64.wrap (x.fst + (1 : Int)) * (4096 : Int)) ∧ ((SV.v (Value.int IntKind.i64 most) = SV.v (Value.int IntKind.i64 most) ∧ SV.r (0
   : Nat) [] = SV.r (0 : Nat) [] ∧ SV.p (2 : Nat) (0 : Nat) = SV.p (2 : Nat) (0 : Nat) ∧ SV.v (Value.string (x.snd.snd.snd.snd.snd ++ bytesOf (tk x.snd.snd.snd.snd.fst x.snd.fst most.toNat x.snd.snd.fst))) = SV.v (Value.string (x.snd.snd.snd.snd.snd ++
   bytesOf (tk x.snd.snd.snd.snd.fst x.snd.fst most.toNat x.snd.snd.fst) ++ bytesOf (tk x.snd.snd.snd.snd.fst ((x.snd.fst + x.snd.snd.fst) % (↑most.toNat : Int)) most.toNat (0 : Int)))) ∧ SV.v (Value.string (x.snd.snd.snd.snd.snd ++ bytesOf (tk
   x.snd.snd.snd.snd.fst x.snd.fst most.toNat x.snd.snd.fst))) = SV.v (Value.string (x.snd.snd.snd.snd.snd ++ bytesOf (tk x.snd.snd.snd.snd.fst x.snd.fst most.toNat x.snd.snd.fst))) ∧ SV.v (Value.int IntKind.i64 (IntKind.i64.wrap (x.fst + (1 : Int)))) =
   SV.v (Value.int IntKind.i64 (IntKind.i64.wrap (x.fst + (1 : Int)))) ∧ True) ∧ opsIC l = opsIC l ∧ (most.toNat = most.toNat ∧ (0 : Nat) = (0 : Nat) ∧ x.snd.snd.snd.snd.fst = x.snd.snd.snd.snd.fst) ∧ (SV.h (1 : Nat) [(0 : Nat), (0 : Nat)] = SV.h (1 :
   Nat) [(0 : Nat), (0 : Nat)] ∧ SV.v (Value.int IntKind.i64 ((x.snd.fst + x.snd.snd.fst) % (↑most.toNat : Int))) = SV.v (Value.int IntKind.i64 ((x.snd.fst + x.snd.snd.fst) % (↑most.toNat : Int))) ∧ SV.v (Value.int IntKind.i64 (0 : Int)) = SV.v
   (Value.int IntKind.i64 (0 : Int)) ∧ SV.v (Value.bool false) = SV.v (Value.bool false) ∧ True) ∧ True) ∧ ((↑l.length : Int) - IntKind.i64.wrap (x.fst + (1 : Int))).toNat < ((↑l.length : Int) - x.fst).toNat))))))) (true = true ∧ ((0 : Nat) = (0 : Nat)
   ∧ QWf x.snd.fst x.snd.snd.fst x.snd.snd.snd.snd.fst most.toNat) ∧ br (decide ((↑(bytesOf (tk x.snd.snd.snd.snd.fst x.snd.fst most.toNat (kq (l.getD x.fst.toNat op0).snd.snd x.snd.snd.fst))).size : Int) > if (0 : Int) > (l.getD x.fst.toNat
   op0).snd.snd then (0 : Int) else (l.getD x.fst.toNat op0).snd.snd)) (SV.v (Value.bool false) = SV.v (Value.bool true)) (true = true ∧ (0 : Nat) = (0 : Nat) ∧ br ((↑(bytesOf (tk x.snd.snd.snd.snd.fst x.snd.fst most.toNat (kq (l.getD x.fst.toNat
   op0).snd.snd x.snd.snd.fst))).size : Int) != IntKind.i64.wrap (x.snd.snd.fst - (x.snd.snd.fst - kq (l.getD x.fst.toNat op0).snd.snd x.snd.snd.fst))) (SV.v (Value.bool false) = SV.v (Value.bool true)) (rq ((x.snd.snd.snd.snd.snd.size + (bytesOf (tk
   x.snd.snd.snd.snd.fst x.snd.fst most.toNat (kq (l.getD x.fst.toNat op0).snd.snd x.snd.snd.fst))).size).ble (9223372036854775807 : Nat)) (true = true ∧ (0 : Nat) = (0 : Nat) ∧ br (decide (x.snd.snd.fst - kq (l.getD x.fst.toNat op0).snd.snd
   x.snd.snd.fst > most)) (SV.v (Value.bool false) = SV.v (Value.bool true)) (true = true ∧ (0 : Nat) = (0 : Nat) ∧ br (x.snd.snd.fst - kq (l.getD x.fst.toNat op0).snd.snd x.snd.snd.fst != IntKind.i64.wrap ((↑(x.snd.snd.snd.snd.snd ++ bytesOf (tk
   x.snd.snd.snd.snd.fst x.snd.fst most.toNat x.snd.snd.fst)).size : Int) - (↑(x.snd.snd.snd.snd.snd ++ bytesOf (tk x.snd.snd.snd.snd.fst x.snd.fst most.toNat (kq (l.getD x.fst.toNat op0).snd.snd x.snd.snd.fst))).size : Int))) (SV.v (Value.bool false) =
   SV.v (Value.bool true)) (br (decide ((↑(x.snd.snd.snd.snd.snd ++ bytesOf (tk x.snd.snd.snd.snd.fst x.snd.fst most.toNat (kq (l.getD x.fst.toNat op0).snd.snd x.snd.snd.fst))).size : Int) > (↑(x.snd.snd.snd.snd.snd ++ bytesOf (tk x.snd.snd.snd.snd.fst
   x.snd.fst most.toNat x.snd.snd.fst)).size : Int))) (SV.v (Value.bool false) = SV.v (Value.bool true)) (rq (decide ((0 : Int) ≤ (0 : Int) ∧ (0 : Int) ≤ (↑(x.snd.snd.snd.snd.snd ++ bytesOf (tk x.snd.snd.snd.snd.fst x.snd.fst most.toNat (kq (l.getD
   x.fst.toNat op0).snd.snd x.snd.snd.fst))).size : Int) ∧ (↑(x.snd.snd.snd.snd.snd ++ bytesOf (tk x.snd.snd.snd.snd.fst x.snd.fst most.toNat (kq (l.getD x.fst.toNat op0).snd.snd x.snd.snd.fst))).size : Int) ≤ (↑(x.snd.snd.snd.snd.snd ++ bytesOf (tk
   x.snd.snd.snd.snd.fst x.snd.fst most.toNat x.snd.snd.fst)).size : Int))) (br (!((x.snd.snd.snd.snd.snd ++ bytesOf (tk x.snd.snd.snd.snd.fst x.snd.fst most.toNat x.snd.snd.fst)).extract (0 : Nat) (↑(x.snd.snd.snd.snd.snd ++ bytesOf (tk
   x.snd.snd.snd.snd.fst x.snd.fst most.toNat (kq (l.getD x.fst.toNat op0).snd.snd x.snd.snd.fst))).size : Int).toNat).toList == (x.snd.snd.snd.snd.snd ++ bytesOf (tk x.snd.snd.snd.snd.fst x.snd.fst most.toNat (kq (l.getD x.fst.toNat op0).snd.snd
   x.snd.snd.fst))).toList) (SV.v (Value.bool false) = SV.v (Value.bool true)) (((0 : Int) ≤ IntKind.i64.wrap (x.fst + (1 : Int)) ∧ IntKind.i64.wrap (x.fst + (1 : Int)) ≤ (↑l.length : Int) ∧ QWf ((x.snd.fst + kq (l.getD x.fst.toNat op0).snd.snd
   x.snd.snd.fst) % (↑most.toNat : Int)) (x.snd.snd.fst - kq (l.getD x.fst.toNat op0).snd.snd x.snd.snd.fst) x.snd.snd.snd.snd.fst most.toNat ∧ (↑(x.snd.snd.snd.snd.snd ++ bytesOf (tk x.snd.snd.snd.snd.fst x.snd.fst most.toNat (kq (l.getD x.fst.toNat
   op0).snd.snd x.snd.snd.fst))).size : Int) ≤ IntKind.i64.wrap (x.fst + (1 : Int)) * (4096 : Int)) ∧ ((SV.v (Value.int IntKind.i64 most) = SV.v (Value.int IntKind.i64 most) ∧ SV.r (0 : Nat) [] = SV.r (0 : Nat) [] ∧ SV.p (2 : Nat) (0 : Nat) = SV.p (2 :
   Nat) (0 : Nat) ∧ SV.v (Value.string (x.snd.snd.snd.snd.snd ++ bytesOf (tk x.snd.snd.snd.snd.fst x.snd.fst most.toNat x.snd.snd.fst))) = SV.v (Value.string (x.snd.snd.snd.snd.snd ++ bytesOf (tk x.snd.snd.snd.snd.fst x.snd.fst most.toNat (kq (l.getD
   x.fst.toNat op0).snd.snd x.snd.snd.fst)) ++ bytesOf (tk x.snd.snd.snd.snd.fst ((x.snd.fst + kq (l.getD x.fst.toNat op0).snd.snd x.snd.snd.fst) % (↑most.toNat : Int)) most.toNat (x.snd.snd.fst - kq (l.getD x.fst.toNat op0).snd.snd x.snd.snd.fst)))) ∧
   SV.v (Value.string (x.snd.snd.snd.snd.snd ++ bytesOf (tk x.snd.snd.snd.snd.fst x.snd.fst most.toNat (kq (l.getD x.fst.toNat op0).snd.snd x.snd.snd.fst)))) = SV.v (Value.string (x.snd.snd.snd.snd.snd ++ bytesOf (tk x.snd.snd.snd.snd.fst x.snd.fst
   most.toNat (kq (l.getD x.fst.toNat op0).snd.snd x.snd.snd.fst)))) ∧ SV.v (Value.int IntKind.i64 (IntKind.i64.wrap (x.fst + (1 : Int)))) = SV.v (Value.int IntKind.i64 (IntKind.i64.wrap (x.fst + (1 : Int)))) ∧ True) ∧ opsIC l = opsIC l ∧ (most.toNat =
   most.toNat ∧ (0 : Nat) = (0 : Nat) ∧ x.snd.snd.snd.snd.fst = x.snd.snd.snd.snd.fst) ∧ (SV.h (1 : Nat) [(0 : Nat), (0 : Nat)] = SV.h (1 : Nat) [(0 : Nat), (0 : Nat)] ∧ SV.v (Value.int IntKind.i64 ((x.snd.fst + kq (l.getD x.fst.toNat op0).snd.snd
   x.snd.snd.fst) % (↑most.toNat : Int))) = SV.v (Value.int IntKind.i64 ((x.snd.fst + kq (l.getD x.fst.toNat op0).snd.snd x.snd.snd.fst) % (↑most.toNat : Int))) ∧ SV.v (Value.int IntKind.i64 (x.snd.snd.fst - kq (l.getD x.fst.toNat op0).snd.snd
   x.snd.snd.fst)) = SV.v (Value.int IntKind.i64 (x.snd.snd.fst - kq (l.getD x.fst.toNat op0).snd.snd x.snd.snd.fst)) ∧ SV.v (Value.bool x.snd.snd.snd.fst) = SV.v (Value.bool x.snd.snd.snd.fst) ∧ True) ∧ True) ∧ ((↑l.length : Int) - IntKind.i64.wrap
   (x.fst + (1 : Int))).toNat < ((↑l.length : Int) - x.fst).toNat))))))))))))) (true = true ∧ ((0 : Nat) = (0 : Nat) ∧ QWf x.snd.fst x.snd.snd.fst x.snd.snd.snd.snd.fst most.toNat) ∧ rq ((x.snd.snd.snd.snd.snd.size + (bytesOf (tk x.snd.snd.snd.snd.fst
   x.snd.fst most.toNat x.snd.snd.fst)).size).ble (9223372036854775807 : Nat)) (br ((x.snd.snd.snd.snd.snd ++ bytesOf (tk x.snd.snd.snd.snd.fst x.snd.fst most.toNat x.snd.snd.fst)).toList == (x.snd.snd.snd.snd.snd ++ bytesOf (tk x.snd.snd.snd.snd.fst
   x.snd.fst most.toNat x.snd.snd.fst)).toList) (True ∧ SV.v (Value.bool true) = SV.v (Value.bool true)) (SV.v (Value.bool false) = SV.v (Value.bool true)))))) (True ∧ SV.v (Value.bool true) = SV.v (Value.bool true)))) (True ∧ SV.v (Value.bool true) =
   SV.v (Value.bool true)))) (by kernel_rfl) ?_
  simp only [rq_iff, br_iff, nbeq, Nat.blt_eq, true_and, and_true, and_self, reduceCtorEq, false_implies, true_implies, implies_true, Bool.and_eq_true, Bool.and_eq_false_iff, decide_eq_true_eq, decide_eq_false_iff_not, II, SV.v.injEq,
   Value.bool.injEq, Value.string.injEq, Value.int.injEq, Bool.false_eq_true, Bool.true_eq_false, Bool.not_eq_true', bne_iff_ne, ne_eq, bne_eq_false_iff_eq, beq_iff_eq, beq_eq_false_iff_ne, bytesOf_size, tk_length, Nat.le_refl, Nat.ble_eq,
   Nat.zero_lt_succ, not_true_eq_false, not_false_eq_true, ba_size]
  have hlen := hr.len
  rw [show reachBytes = 140737488351232 from rfl] at hlen
  refine fun ⟨m0, m1⟩ => ⟨⟨by omega, by omega, few_zero l⟩, fun x ⟨x0, x1, xf⟩ => ⟨fun xl => ⟨⟨x0, xl⟩, by omega, by omega, by omega, fun h20 => ⟨⟨by omega, by omega, fewk_zero l _ _⟩, fun y ⟨y0, y1, yf⟩ => ⟨⟨x0, xl⟩, by omega, by omega, by omega, fun yl => ?_, fun yl => ?_⟩⟩⟩, fun xl l60 n2 => ?_⟩⟩
  · have hb := (hr.at x.1.toNat).1
    rw [show reachBytes = 140737488351232 from rfl] at hb
    have hw : IntKind.i64.wrap (y.1 + 1) = y.1 + 1 := wrap64 (by omega) (by omega)
    have hf := fewk_next hr x0 xl xf (by omega) y0 yl yf
    exact ⟨⟨x0, xl⟩, by omega, by omega, ⟨by omega, y0, yl⟩, ⟨by omega, by omega⟩, ⟨by omega, by omega, hf⟩, by omega⟩
  · have hw : IntKind.i64.wrap (x.1 + 1) = x.1 + 1 := wrap64 (by omega) (by omega)
    have hf := few_next x0 xl hr.len xf (by omega) (by omega) yf
    exact ⟨⟨by omega, by omega, hf⟩, by omega⟩
  · have hl : OpsIn l := few_ops xf (by omega) l60 (by simpa using n2)
    have hlen := hl.len
    refine ⟨⟨by omega, by omega, qwf_new (by omega), by decide⟩, by rw [tk_zero]; rfl, fun z ⟨z0, z1, hq, hg⟩ => ?_⟩
    obtain ⟨i, fr, n, ov, xs, got⟩ := z
    have hat := hl.at i.toNat
    generalize ho : l.getD i.toNat op0 = o at *
    obtain ⟨ask, LL, N⟩ := o
    simp only at z0 z1 hq hg hat ⊢
    have hn0 := hq.n0
    have hnm := hq.nm
    refine ⟨fun zl => ?_, fun _ => ⟨hq, by omega⟩⟩
    rw [wrap64 (x := i + 1) (by omega) (by omega)]
    have hz : QWf ((fr + n) % (most.toNat : Int)) 0 xs most.toNat := by
      have := hq.get hn0 (Int.le_refl _)
      rwa [Int.sub_self] at this
    refine ⟨⟨z0, zl⟩, by omega, fun a0 => ⟨⟨by omega, by omega⟩, by rw [List.take_zero]; rfl, fun k ⟨k0, k1⟩ => ⟨by omega, fun kl => ?_, fun kl => ?_⟩⟩, fun a0 => ⟨fun a1 => ?_, fun a1 => ?_⟩⟩
    · have e1 := bytesLs_take_succ k0 kl
      have e2 := bytesLs_le (L := LL) (k + 1).toNat
      have e4 : (bytesLs (LL.take (k + 1).toNat)).length = (bytesLs (LL.take k.toNat)).length + (LL.getD k.toNat ByteArray.empty).size := by rw [e1, List.length_append, bytesL_length]
      rw [wrap64 (x := k + 1) (by omega) (by omega)]
      simp only [catS_size]
      exact ⟨⟨by omega, k0, kl⟩, ⟨by omega, by omega⟩, by omega, ⟨by omega, by omega⟩, (catS_succ k0 kl).symm, by omega⟩
    · have e0 : LL.take k.toNat = LL := List.take_of_length_le (by omega)
      rw [e0]
      simp only [catS_size]
      rw [wrap64 (x := n + ((bytesLs LL).length : Int)) (by omega) (by omega)]
      refine ⟨by omega, ⟨hq, by omega, hat.2⟩, fun hgt => ?_, fun hgt => ?_⟩
      · have hd : decide (n + ((bytesLs LL).length : Int) ≤ most) = false := by simp; omega
        have hx := ba_left got (bytesOf (tk xs fr most.toNat n)) got.size rfl
        rw [wrap64 (x := ((got.size + n.toNat : Nat) : Int) - got.size) (by omega) (by omega)]
        simp only [hd, hx, Int.toNat_natCast, not_true_eq_false, false_implies, true_and, true_implies, beq_self_eq_true, Bool.not_true, Bool.not_false, implies_true]
        exact ⟨fun h => by omega, fun _ => ⟨fun h => by omega, fun _ => ⟨fun h => by omega, fun _ => ⟨⟨by omega, by omega, by omega⟩, ⟨by omega, by omega, hq, by omega⟩, by omega⟩⟩⟩⟩
      · have hd : decide (n + ((bytesLs LL).length : Int) ≤ most) = true := by simp; omega
        have hx : (got ++ bytesOf (tk xs fr most.toNat n) ++ catS LL).extract 0 got.size = got := by rw [ba_assoc]; exact ba_left _ _ _ rfl
        obtain ⟨q1, q2⟩ := hq.put (bytesLs LL) (by omega) (bytesLs_range LL)
        have q3 : got ++ bytesOf (tk xs fr most.toNat n) ++ catS LL = got ++ bytesOf (tk (putL most.toNat xs (fr + n) (bytesLs LL)) fr most.toNat (n + (bytesLs LL).length)) := by
          rw [q2, bytesOf_append, ba_assoc]; rfl
        rw [wrap64 (x := ((got.size + n.toNat + (bytesLs LL).length : Nat) : Int) - got.size) (by omega) (by omega)]
        simp only [hd, hx, Int.toNat_natCast, not_true_eq_false, false_implies, true_and, true_implies, beq_self_eq_true, Bool.not_true, Bool.not_false, implies_true]
        exact ⟨by omega, fun h => by omega, fun _ => ⟨fun h => by omega, fun _ => ⟨fun h => by omega, fun _ => ⟨⟨by omega, by omega, by omega⟩, ⟨by omega, by omega, q1, by omega⟩, q3, by omega⟩⟩⟩⟩
    · have hs : (got ++ bytesOf (tk xs fr most.toNat n)).size = got.size + n.toNat := by rw [ba_size, bytesOf_size, tk_length]
      have hx : (got ++ bytesOf (tk xs fr most.toNat n)).extract 0 (got.size + n.toNat) = got ++ bytesOf (tk xs fr most.toNat n) := by rw [← hs]; exact ba_all _
      have he : got ++ bytesOf (tk xs fr most.toNat n) = got ++ bytesOf (tk xs fr most.toNat n) ++ bytesOf (tk xs ((fr + n) % (most.toNat : Int)) most.toNat 0) := by rw [tk_zero]; exact (ba_empty _).symm
      rw [Int.sub_self, wrap64 (x := 0) (by omega) (by omega)]
      simp only [hx, Int.toNat_natCast, not_true_eq_false, false_implies, true_and, true_implies, beq_self_eq_true, Bool.not_true, Bool.not_false, implies_true]
      exact ⟨hq, by omega, fun h => by omega, fun _ => ⟨fun h => by omega, fun _ => ⟨⟨by omega, by omega, by omega⟩, ⟨by omega, by omega, hz, by omega⟩, he, by omega⟩⟩⟩
    · have hk := kq_spec (k := N) hn0
      have hkN : kq N n ≤ if 0 > N then 0 else N := by unfold kq; split <;> omega
      have eK : bytesOf (tk xs fr most.toNat n) = bytesOf (tk xs fr most.toNat (kq N n)) ++ bytesOf (tk xs ((fr + kq N n) % most.toNat) most.toNat (n - kq N n)) := by
        rw [← bytesOf_append, ← tk_add hk.1 hk.2]
      have he : got ++ bytesOf (tk xs fr most.toNat n) = got ++ bytesOf (tk xs fr most.toNat (kq N n)) ++ bytesOf (tk xs ((fr + kq N n) % most.toNat) most.toNat (n - kq N n)) := by rw [eK, ba_assoc]
      have hx : (got ++ bytesOf (tk xs fr most.toNat n)).extract 0 (got.size + (kq N n).toNat) = got ++ bytesOf (tk xs fr most.toNat (kq N n)) := by
        rw [he]; refine ba_left _ _ _ ?_; rw [ba_size, bytesOf_size, tk_length]
      have hq2 := hq.get hk.1 hk.2
      generalize kq N n = kk at *
      rw [wrap64 (x := n - (n - kk)) (by omega) (by omega), wrap64 (x := ((got.size + n.toNat : Nat) : Int) - ((got.size + kk.toNat : Nat) : Int)) (by omega) (by omega)]
      simp only [hx, Int.toNat_natCast, not_true_eq_false, false_implies, true_and, true_implies, beq_self_eq_true, Bool.not_true, Bool.not_false, implies_true]
      exact ⟨hq, fun h => by omega, fun _ => ⟨fun h => by omega, fun _ => ⟨by omega, fun h => by omega, fun _ => ⟨fun h => by omega, fun _ => ⟨fun h => by omega, fun _ => ⟨⟨by omega, by omega, by omega⟩, ⟨by omega, by omega, hq2, by omega⟩, he, by omega⟩⟩⟩⟩⟩⟩
theorem law_order {W : World} {vs : List Value} (hp : IPDens (wholeH W) reachBytes [.one (.i .i64), .one (.sl [.i .i64, .sl [.s], .i .i64])] vs) : Calls Try.prog 3 vs.toArray W fun en W' => en = .returned (.bool true) ∧ Ext W W' := by
  simp only [IPDens, IP.den, it_i] at hp
  obtain ⟨_, _, rfl, ⟨most, rfl, _⟩, v, _, rfl, hL, rfl⟩ := hp
  obtain ⟨l, h1, h2⟩ := ops_inR hL
  refine law_run (fun I => allCfg_ok mixed ptab'_ok qtabX_ok) rfl Try.func3 [(opsIC l, v)] (by simpa using h2) ?_ (run_order most l h1)
  exact dl_cons den_v (dl_cons (den_r (l := [(opsIC l, v)]) rfl h2.1) dl_nil)
end Go.Proofs.Ytienakdnmhmglaa
