/- The law of plays, run. -/
import Derived.Test.YtienakdnmhmglaaQuS
set_option linter.unusedSimpArgs false
set_option linter.unusedVariables false
set_option linter.unusedSectionVars false
namespace Go.Proofs.Ytienakdnmhmglaa
open Go Go.Sym

def annP (most : Int) (l : List Opr) : Ann Unit where
  α := Int × Int × Int × Bool × List Int
  φ _ x := 0 ≤ x.1 ∧ x.1 ≤ l.length ∧ QWf x.2.1 x.2.2.1 x.2.2.2.2 most.toNat
  μ _ x := (l.length - x.1).toNat
  get st := match getI st.tm 8 with
    | some i => match cAt st.H 2 3 with
      | .v (.bool ov) => some (i, cI st.H 2 1, cI st.H 2 2, ov, xI st.H 1)
      | _ => none
    | none => none
  f st x := tmpl [0, 1, 5, 7] [(8, .v (.int .i64 x.1))] [(1, .own (.ints .u8 x.2.2.2.2) most.toNat 5 1 0 true), (2, .cells [.h 1 [0, 0], .v (.int .i64 x.2.1), .v (.int .i64 x.2.2.1), .v (.bool x.2.2.2.1)] 50),
    (3, shX.enc (bytesOf (tk x.2.2.2.2 x.2.1 most.toNat x.2.2.1), most, x.2.2.2.1))] st
noncomputable def cfgPlays (most : Int) (l : List Opr) : Cfg Unit := allCfg Try.prog ptab' qtabL 0 [(260, annF0 l), (584, annF1 l), (580, annP most l)]
set_option maxHeartbeats 4000000 in
theorem run_plays (most : Int) (l : List Opr) (hr : OpsR l) : Sym.Ask (bodyK Try.prog (run (cfgPlays most l) 80) Try.f6 [.v (.int .i64 most), .r 0 []] [.inp (opsIC l)] (fun y _ => y = .v (.bool true))) := by
  refine kcast (B := (true = true ∧ br (decide ((0 : Int) ≤ most) && decide (most ≤ (4096 : Int))) (br (decide (most < (0 : Int))) (SV.v (Value.bool false) = SV.v (Value.bool true)) (br (decide (most > (4096 : Int))) (SV.v (Value.bool false) = SV.v
   (Value.bool true)) ((II (0 : Int) ≤ (0 : Int) ∧ (0 : Int) ≤ (↑l.length : Int) ∧ FewI l (0 : Int) (0 : Int)) ∧ ((SV.r (0 : Nat) [] = SV.r (0 : Nat) [] ∧ SV.v (Value.int IntKind.i64 (0 : Int)) = SV.v (Value.int IntKind.i64 (0 : Int)) ∧ SV.v (Value.int
   IntKind.i64 (0 : Int)) = SV.v (Value.int IntKind.i64 (0 : Int)) ∧ True) ∧ opsIC l = opsIC l ∧ (most.toNat = most.toNat ∧ (0 : Nat) = (0 : Nat) ∧ List.replicate most.toNat (0 : Int) = List.replicate most.toNat (0 : Int)) ∧ (SV.h (1 : Nat) [(0 : Nat),
   (0 : Nat)] = SV.h (1 : Nat) [(0 : Nat), (0 : Nat)] ∧ SV.v (Value.int IntKind.i64 (0 : Int)) = SV.v (Value.int IntKind.i64 (0 : Int)) ∧ SV.v (Value.int IntKind.i64 (0 : Int)) = SV.v (Value.int IntKind.i64 (0 : Int)) ∧ SV.v (Value.bool false) = SV.v
   (Value.bool false) ∧ True) ∧ True) ∧ ∀ (x : Int × Int), (0 : Int) ≤ x.fst ∧ x.fst ≤ (↑l.length : Int) ∧ FewI l x.fst x.snd → br (decide (x.fst < (↑l.length : Int))) (rq (true && (Nat.beq (3 : Nat) (3 : Nat) && (true && decide ((0 : Int) ≤ x.fst ∧
   x.fst < (↑l.length : Int))))) (rq (true && (x.fst.toNat.blt l.length && true)) (rq (true && (x.fst.toNat.blt l.length && true)) (rq (x.fst.toNat.blt l.length && true) (br (decide ((↑(l.getD x.fst.toNat op0).snd.fst.length : Int) > (20 : Int))) (True
   ∧ SV.v (Value.bool true) = SV.v (Value.bool true)) ((II (0 : Int) ≤ (0 : Int) ∧ (0 : Int) ≤ (↑(l.getD x.fst.toNat op0).snd.fst.length : Int) ∧ FewK l x.fst x.snd (0 : Int) x.snd) ∧ ((SV.r (0 : Nat) [] = SV.r (0 : Nat) [] ∧ SV.v (Value.int IntKind.i64
   x.snd) = SV.v (Value.int IntKind.i64 x.snd) ∧ SV.v (Value.int IntKind.i64 x.fst) = SV.v (Value.int IntKind.i64 x.fst) ∧ SV.v (Value.int IntKind.i64 (0 : Int)) = SV.v (Value.int IntKind.i64 (0 : Int)) ∧ True) ∧ opsIC l = opsIC l ∧ (most.toNat =
   most.toNat ∧ (0 : Nat) = (0 : Nat) ∧ List.replicate most.toNat (0 : Int) = List.replicate most.toNat (0 : Int)) ∧ (SV.h (1 : Nat) [(0 : Nat), (0 : Nat)] = SV.h (1 : Nat) [(0 : Nat), (0 : Nat)] ∧ SV.v (Value.int IntKind.i64 (0 : Int)) = SV.v
   (Value.int IntKind.i64 (0 : Int)) ∧ SV.v (Value.int IntKind.i64 (0 : Int)) = SV.v (Value.int IntKind.i64 (0 : Int)) ∧ SV.v (Value.bool false) = SV.v (Value.bool false) ∧ True) ∧ True) ∧ ∀ (x_1 : Int × Int), (0 : Int) ≤ x_1.fst ∧ x_1.fst ≤ (↑(l.getD
   x.fst.toNat op0).snd.fst.length : Int) ∧ FewK l x.fst x.snd x_1.fst x_1.snd → rq (true && (Nat.beq (3 : Nat) (3 : Nat) && (true && decide ((0 : Int) ≤ x.fst ∧ x.fst < (↑l.length : Int))))) (rq (true && (x.fst.toNat.blt l.length && true)) (rq (true &&
   (x.fst.toNat.blt l.length && true)) (rq (x.fst.toNat.blt l.length && true) (br (decide (x_1.fst < (↑(l.getD x.fst.toNat op0).snd.fst.length : Int))) (rq (true && (Nat.beq (3 : Nat) (3 : Nat) && (true && decide ((0 : Int) ≤ x.fst ∧ x.fst < (↑l.length
   : Int))))) (rq (true && (x.fst.toNat.blt l.length && true)) (rq (true && (x.fst.toNat.blt l.length && true)) (rq (x.fst.toNat.blt l.length && true && (Nat.beq (1 : Nat) (1 : Nat) && (true && decide ((0 : Int) ≤ x_1.fst ∧ x_1.fst < (↑(l.getD
   x.fst.toNat op0).snd.fst.length : Int))))) (rq (x.fst.toNat.blt l.length && true && (x_1.fst.toNat.blt (l.getD x.fst.toNat op0).snd.fst.length && true)) (((0 : Int) ≤ IntKind.i64.wrap (x_1.fst + (1 : Int)) ∧ IntKind.i64.wrap (x_1.fst + (1 : Int)) ≤
   (↑(l.getD x.fst.toNat op0).snd.fst.length : Int) ∧ FewK l x.fst x.snd (IntKind.i64.wrap (x_1.fst + (1 : Int))) (IntKind.i64.wrap (x_1.snd + (↑((l.getD x.fst.toNat op0).snd.fst.getD x_1.fst.toNat ByteArray.empty).size : Int)))) ∧ ((SV.r (0 : Nat) [] =
   SV.r (0 : Nat) [] ∧ SV.v (Value.int IntKind.i64 (IntKind.i64.wrap (x_1.snd + (↑((l.getD x.fst.toNat op0).snd.fst.getD x_1.fst.toNat ByteArray.empty).size : Int)))) = SV.v (Value.int IntKind.i64 (IntKind.i64.wrap (x_1.snd + (↑((l.getD x.fst.toNat
   op0).snd.fst.getD x_1.fst.toNat ByteArray.empty).size : Int)))) ∧ SV.v (Value.int IntKind.i64 x.fst) = SV.v (Value.int IntKind.i64 x.fst) ∧ SV.v (Value.int IntKind.i64 (IntKind.i64.wrap (x_1.fst + (1 : Int)))) = SV.v (Value.int IntKind.i64
   (IntKind.i64.wrap (x_1.fst + (1 : Int)))) ∧ True) ∧ opsIC l = opsIC l ∧ (most.toNat = most.toNat ∧ (0 : Nat) = (0 : Nat) ∧ List.replicate most.toNat (0 : Int) = List.replicate most.toNat (0 : Int)) ∧ (SV.h (1 : Nat) [(0 : Nat), (0 : Nat)] = SV.h (1 :
   Nat) [(0 : Nat), (0 : Nat)] ∧ SV.v (Value.int IntKind.i64 (0 : Int)) = SV.v (Value.int IntKind.i64 (0 : Int)) ∧ SV.v (Value.int IntKind.i64 (0 : Int)) = SV.v (Value.int IntKind.i64 (0 : Int)) ∧ SV.v (Value.bool false) = SV.v (Value.bool false) ∧
   True) ∧ True) ∧ ((↑(l.getD x.fst.toNat op0).snd.fst.length : Int) - IntKind.i64.wrap (x_1.fst + (1 : Int))).toNat < ((↑(l.getD x.fst.toNat op0).snd.fst.length : Int) - x_1.fst).toNat)))))) (((0 : Int) ≤ IntKind.i64.wrap (x.fst + (1 : Int)) ∧
   IntKind.i64.wrap (x.fst + (1 : Int)) ≤ (↑l.length : Int) ∧ FewI l (IntKind.i64.wrap (x.fst + (1 : Int))) x_1.snd) ∧ ((SV.r (0 : Nat) [] = SV.r (0 : Nat) [] ∧ SV.v (Value.int IntKind.i64 x_1.snd) = SV.v (Value.int IntKind.i64 x_1.snd) ∧ SV.v
   (Value.int IntKind.i64 (IntKind.i64.wrap (x.fst + (1 : Int)))) = SV.v (Value.int IntKind.i64 (IntKind.i64.wrap (x.fst + (1 : Int)))) ∧ True) ∧ opsIC l = opsIC l ∧ (most.toNat = most.toNat ∧ (0 : Nat) = (0 : Nat) ∧ List.replicate most.toNat (0 : Int)
   = List.replicate most.toNat (0 : Int)) ∧ (SV.h (1 : Nat) [(0 : Nat), (0 : Nat)] = SV.h (1 : Nat) [(0 : Nat), (0 : Nat)] ∧ SV.v (Value.int IntKind.i64 (0 : Int)) = SV.v (Value.int IntKind.i64 (0 : Int)) ∧ SV.v (Value.int IntKind.i64 (0 : Int)) = SV.v
   (Value.int IntKind.i64 (0 : Int)) ∧ SV.v (Value.bool false) = SV.v (Value.bool false) ∧ True) ∧ True) ∧ ((↑l.length : Int) - IntKind.i64.wrap (x.fst + (1 : Int))).toNat < ((↑l.length : Int) - x.fst).toNat))))))))))) (br (decide ((↑l.length : Int) ≤
   (60 : Int))) (br (!decide (x.snd ≤ (20000 : Int))) (True ∧ SV.v (Value.bool true) = SV.v (Value.bool true)) ((II (0 : Int) ≤ (0 : Int) ∧ (0 : Int) ≤ (↑l.length : Int) ∧ QWf (0 : Int) (0 : Int) (List.replicate most.toNat (0 : Int)) most.toNat) ∧
   ((SV.v (Value.int IntKind.i64 most) = SV.v (Value.int IntKind.i64 most) ∧ SV.r (0 : Nat) [] = SV.r (0 : Nat) [] ∧ SV.p (2 : Nat) (0 : Nat) = SV.p (2 : Nat) (0 : Nat) ∧ SV.p (3 : Nat) (0 : Nat) = SV.p (3 : Nat) (0 : Nat) ∧ SV.v (Value.int IntKind.i64
   (0 : Int)) = SV.v (Value.int IntKind.i64 (0 : Int)) ∧ True) ∧ opsIC l = opsIC l ∧ (most.toNat = most.toNat ∧ (0 : Nat) = (0 : Nat) ∧ List.replicate most.toNat (0 : Int) = List.replicate most.toNat (0 : Int)) ∧ (SV.h (1 : Nat) [(0 : Nat), (0 : Nat)] =
   SV.h (1 : Nat) [(0 : Nat), (0 : Nat)] ∧ SV.v (Value.int IntKind.i64 (0 : Int)) = SV.v (Value.int IntKind.i64 (0 : Int)) ∧ SV.v (Value.int IntKind.i64 (0 : Int)) = SV.v (Value.int IntKind.i64 (0 : Int)) ∧ SV.v (Value.bool false) = SV.v (Value.bool
   false) ∧ True) ∧ (SV.v (Value.string (ByteArray.mk #[])) = SV.v (Value.string (bytesOf (tk (List.replicate most.toNat (0 : Int)) (0 : Int) most.toNat (0 : Int)))) ∧ SV.v (Value.int IntKind.i64 most) = SV.v (Value.int IntKind.i64 most) ∧ SV.v
   (Value.bool false) = SV.v (Value.bool false) ∧ True) ∧ True) ∧ ∀ (x : Int × Int × Int × Bool × List Int), (0 : Int) ≤ x.fst ∧ x.fst ≤ (↑l.length : Int) ∧ QWf x.snd.fst x.snd.snd.fst x.snd.snd.snd.snd most.toNat → br (decide (x.fst < (↑l.length :
   Int))) (rq (true && (Nat.beq (3 : Nat) (3 : Nat) && (true && decide ((0 : Int) ≤ x.fst ∧ x.fst < (↑l.length : Int))))) (rq (true && (x.fst.toNat.blt l.length && (Nat.ble (3 : Nat) (3 : Nat) && Nat.blt (0 : Nat) (3 : Nat)))) ((true && (true &&
   (x.fst.toNat.blt l.length && true && true && true))) = true ∧ ((0 : Nat) = (0 : Nat) ∧ QWf x.snd.fst x.snd.snd.fst x.snd.snd.snd.snd most.toNat ∧ bytesOf (tk x.snd.snd.snd.snd x.snd.fst most.toNat x.snd.snd.fst) = bytesOf (tk x.snd.snd.snd.snd
   x.snd.fst most.toNat x.snd.snd.fst) ∧ x.snd.snd.snd.fst = x.snd.snd.snd.fst ∧ most = (↑most.toNat : Int) ∧ (l.getD x.fst.toNat op0).snd.fst.length ≤ (1099511627776 : Nat) ∧ (bytesLs (l.getD x.fst.toNat op0).snd.fst).length ≤ (1099511627776 : Nat)) ∧
   br ((l.getD x.fst.toNat op0).fst == (0 : Int)) (br (decide (x.snd.snd.fst + (↑(bytesLs (l.getD x.fst.toNat op0).snd.fst).length : Int) > (↑most.toNat : Int))) (true = true ∧ (0 : Nat) = (0 : Nat) ∧ br (x.snd.snd.fst != (↑(bytesOf (tk
   x.snd.snd.snd.snd x.snd.fst most.toNat x.snd.snd.fst)).size : Int)) (SV.v (Value.bool false) = SV.v (Value.bool true)) (true = true ∧ (0 : Nat) = (0 : Nat) ∧ ((0 : Int) ≤ IntKind.i64.wrap (x.fst + (1 : Int)) ∧ IntKind.i64.wrap (x.fst + (1 : Int)) ≤
   (↑l.length : Int) ∧ QWf x.snd.fst x.snd.snd.fst x.snd.snd.snd.snd most.toNat) ∧ ((SV.v (Value.int IntKind.i64 most) = SV.v (Value.int IntKind.i64 most) ∧ SV.r (0 : Nat) [] = SV.r (0 : Nat) [] ∧ SV.p (2 : Nat) (0 : Nat) = SV.p (2 : Nat) (0 : Nat) ∧
   SV.p (3 : Nat) (0 : Nat) = SV.p (3 : Nat) (0 : Nat) ∧ SV.v (Value.int IntKind.i64 (IntKind.i64.wrap (x.fst + (1 : Int)))) = SV.v (Value.int IntKind.i64 (IntKind.i64.wrap (x.fst + (1 : Int)))) ∧ True) ∧ opsIC l = opsIC l ∧ (most.toNat = most.toNat ∧
   (0 : Nat) = (0 : Nat) ∧ x.snd.snd.snd.snd = x.snd.snd.snd.snd) ∧ (SV.h (1 : Nat) [(0 : Nat), (0 : Nat)] = SV.h (1 : Nat) [(0 : Nat), (0 : Nat)] ∧ SV.v (Value.int IntKind.i64 x.snd.fst) = SV.v (Value.int IntKind.i64 x.snd.fst) ∧ SV.v (Value.int
   IntKind.i64 x.snd.snd.fst) = SV.v (Value.int IntKind.i64 x.snd.snd.fst) ∧ SV.v (Value.bool true) = SV.v (Value.bool true) ∧ True) ∧ (SV.v (Value.string (bytesOf (tk x.snd.snd.snd.snd x.snd.fst most.toNat x.snd.snd.fst))) = SV.v (Value.string (bytesOf
   (tk x.snd.snd.snd.snd x.snd.fst most.toNat x.snd.snd.fst))) ∧ SV.v (Value.int IntKind.i64 most) = SV.v (Value.int IntKind.i64 most) ∧ SV.v (Value.bool true) = SV.v (Value.bool true) ∧ True) ∧ True) ∧ ((↑l.length : Int) - IntKind.i64.wrap (x.fst + (1
   : Int))).toNat < ((↑l.length : Int) - x.fst).toNat)) (true = true ∧ (0 : Nat) = (0 : Nat) ∧ br (x.snd.snd.fst + (↑(bytesLs (l.getD x.fst.toNat op0).snd.fst).length : Int) != (↑(bytesOf (tk (putL most.toNat x.snd.snd.snd.snd (x.snd.fst +
   x.snd.snd.fst) (bytesLs (l.getD x.fst.toNat op0).snd.fst)) x.snd.fst most.toNat (x.snd.snd.fst + (↑(bytesLs (l.getD x.fst.toNat op0).snd.fst).length : Int)))).size : Int)) (SV.v (Value.bool false) = SV.v (Value.bool true)) (true = true ∧ (0 : Nat) =
   (0 : Nat) ∧ br (!x.snd.snd.snd.fst == x.snd.snd.snd.fst) (SV.v (Value.bool false) = SV.v (Value.bool true)) (((0 : Int) ≤ IntKind.i64.wrap (x.fst + (1 : Int)) ∧ IntKind.i64.wrap (x.fst + (1 : Int)) ≤ (↑l.length : Int) ∧ QWf x.snd.fst (x.snd.snd.fst +
   (↑(bytesLs (l.getD x.fst.toNat op0).snd.fst).length : Int)) (putL most.toNat x.snd.snd.snd.snd (x.snd.fst + x.snd.snd.fst) (bytesLs (l.getD x.fst.toNat op0).snd.fst)) most.toNat) ∧ ((SV.v (Value.int IntKind.i64 most) = SV.v (Value.int IntKind.i64
   most) ∧ SV.r (0 : Nat) [] = SV.r (0 : Nat) [] ∧ SV.p (2 : Nat) (0 : Nat) = SV.p (2 : Nat) (0 : Nat) ∧ SV.p (3 : Nat) (0 : Nat) = SV.p (3 : Nat) (0 : Nat) ∧ SV.v (Value.int IntKind.i64 (IntKind.i64.wrap (x.fst + (1 : Int)))) = SV.v (Value.int
   IntKind.i64 (IntKind.i64.wrap (x.fst + (1 : Int)))) ∧ True) ∧ opsIC l = opsIC l ∧ (most.toNat = most.toNat ∧ (0 : Nat) = (0 : Nat) ∧ putL most.toNat x.snd.snd.snd.snd (x.snd.fst + x.snd.snd.fst) (bytesLs (l.getD x.fst.toNat op0).snd.fst) = putL
   most.toNat x.snd.snd.snd.snd (x.snd.fst + x.snd.snd.fst) (bytesLs (l.getD x.fst.toNat op0).snd.fst)) ∧ (SV.h (1 : Nat) [(0 : Nat), (0 : Nat)] = SV.h (1 : Nat) [(0 : Nat), (0 : Nat)] ∧ SV.v (Value.int IntKind.i64 x.snd.fst) = SV.v (Value.int
   IntKind.i64 x.snd.fst) ∧ SV.v (Value.int IntKind.i64 (x.snd.snd.fst + (↑(bytesLs (l.getD x.fst.toNat op0).snd.fst).length : Int))) = SV.v (Value.int IntKind.i64 (x.snd.snd.fst + (↑(bytesLs (l.getD x.fst.toNat op0).snd.fst).length : Int))) ∧ SV.v
   (Value.bool x.snd.snd.snd.fst) = SV.v (Value.bool x.snd.snd.snd.fst) ∧ True) ∧ (SV.v (Value.string (bytesOf (tk (putL most.toNat x.snd.snd.snd.snd (x.snd.fst + x.snd.snd.fst) (bytesLs (l.getD x.fst.toNat op0).snd.fst)) x.snd.fst most.toNat
   (x.snd.snd.fst + (↑(bytesLs (l.getD x.fst.toNat op0).snd.fst).length : Int))))) = SV.v (Value.string (bytesOf (tk (putL most.toNat x.snd.snd.snd.snd (x.snd.fst + x.snd.snd.fst) (bytesLs (l.getD x.fst.toNat op0).snd.fst)) x.snd.fst most.toNat
   (x.snd.snd.fst + (↑(bytesLs (l.getD x.fst.toNat op0).snd.fst).length : Int))))) ∧ SV.v (Value.int IntKind.i64 most) = SV.v (Value.int IntKind.i64 most) ∧ SV.v (Value.bool x.snd.snd.snd.fst) = SV.v (Value.bool x.snd.snd.snd.fst) ∧ True) ∧ True) ∧
   ((↑l.length : Int) - IntKind.i64.wrap (x.fst + (1 : Int))).toNat < ((↑l.length : Int) - x.fst).toNat)))) (br ((l.getD x.fst.toNat op0).fst == (1 : Int)) (true = true ∧ (0 : Nat) = (0 : Nat) ∧ true = true ∧ (0 : Nat) = (0 : Nat) ∧ ((0 : Int) ≤
   IntKind.i64.wrap (x.fst + (1 : Int)) ∧ IntKind.i64.wrap (x.fst + (1 : Int)) ≤ (↑l.length : Int) ∧ QWf ((x.snd.fst + x.snd.snd.fst) % (↑most.toNat : Int)) (0 : Int) x.snd.snd.snd.snd most.toNat) ∧ ((SV.v (Value.int IntKind.i64 most) = SV.v (Value.int
   IntKind.i64 most) ∧ SV.r (0 : Nat) [] = SV.r (0 : Nat) [] ∧ SV.p (2 : Nat) (0 : Nat) = SV.p (2 : Nat) (0 : Nat) ∧ SV.p (3 : Nat) (0 : Nat) = SV.p (3 : Nat) (0 : Nat) ∧ SV.v (Value.int IntKind.i64 (IntKind.i64.wrap (x.fst + (1 : Int)))) = SV.v
   (Value.int IntKind.i64 (IntKind.i64.wrap (x.fst + (1 : Int)))) ∧ True) ∧ opsIC l = opsIC l ∧ (most.toNat = most.toNat ∧ (0 : Nat) = (0 : Nat) ∧ x.snd.snd.snd.snd = x.snd.snd.snd.snd) ∧ (SV.h (1 : Nat) [(0 : Nat), (0 : Nat)] = SV.h (1 : Nat) [(0 :
   Nat), (0 : Nat)] ∧ SV.v (Value.int IntKind.i64 ((x.snd.fst + x.snd.snd.fst) % (↑most.toNat : Int))) = SV.v (Value.int IntKind.i64 ((x.snd.fst + x.snd.snd.fst) % (↑most.toNat : Int))) ∧ SV.v (Value.int IntKind.i64 (0 : Int)) = SV.v (Value.int
   IntKind.i64 (0 : Int)) ∧ SV.v (Value.bool false) = SV.v (Value.bool false) ∧ True) ∧ (SV.v (Value.string (bytesOf (tk x.snd.snd.snd.snd ((x.snd.fst + x.snd.snd.fst) % (↑most.toNat : Int)) most.toNat (0 : Int)))) = SV.v (Value.string (bytesOf (tk
   x.snd.snd.snd.snd ((x.snd.fst + x.snd.snd.fst) % (↑most.toNat : Int)) most.toNat (0 : Int)))) ∧ SV.v (Value.int IntKind.i64 most) = SV.v (Value.int IntKind.i64 most) ∧ SV.v (Value.bool false) = SV.v (Value.bool false) ∧ True) ∧ True) ∧ ((↑l.length :
   Int) - IntKind.i64.wrap (x.fst + (1 : Int))).toNat < ((↑l.length : Int) - x.fst).toNat) (br ((l.getD x.fst.toNat op0).fst == (3 : Int)) (true = true ∧ (0 : Nat) = (0 : Nat) ∧ true = true ∧ (0 : Nat) = (0 : Nat) ∧ ((0 : Int) ≤ IntKind.i64.wrap (x.fst
   + (1 : Int)) ∧ IntKind.i64.wrap (x.fst + (1 : Int)) ≤ (↑l.length : Int) ∧ QWf ((x.snd.fst + x.snd.snd.fst) % (↑most.toNat : Int)) (0 : Int) x.snd.snd.snd.snd most.toNat) ∧ ((SV.v (Value.int IntKind.i64 most) = SV.v (Value.int IntKind.i64 most) ∧ SV.r
   (0 : Nat) [] = SV.r (0 : Nat) [] ∧ SV.p (2 : Nat) (0 : Nat) = SV.p (2 : Nat) (0 : Nat) ∧ SV.p (3 : Nat) (0 : Nat) = SV.p (3 : Nat) (0 : Nat) ∧ SV.v (Value.int IntKind.i64 (IntKind.i64.wrap (x.fst + (1 : Int)))) = SV.v (Value.int IntKind.i64
   (IntKind.i64.wrap (x.fst + (1 : Int)))) ∧ True) ∧ opsIC l = opsIC l ∧ (most.toNat = most.toNat ∧ (0 : Nat) = (0 : Nat) ∧ x.snd.snd.snd.snd = x.snd.snd.snd.snd) ∧ (SV.h (1 : Nat) [(0 : Nat), (0 : Nat)] = SV.h (1 : Nat) [(0 : Nat), (0 : Nat)] ∧ SV.v
   (Value.int IntKind.i64 ((x.snd.fst + x.snd.snd.fst) % (↑most.toNat : Int))) = SV.v (Value.int IntKind.i64 ((x.snd.fst + x.snd.snd.fst) % (↑most.toNat : Int))) ∧ SV.v (Value.int IntKind.i64 (0 : Int)) = SV.v (Value.int IntKind.i64 (0 : Int)) ∧ SV.v
   (Value.bool false) = SV.v (Value.bool false) ∧ True) ∧ (SV.v (Value.string (bytesOf (tk x.snd.snd.snd.snd ((x.snd.fst + x.snd.snd.fst) % (↑most.toNat : Int)) most.toNat (0 : Int)))) = SV.v (Value.string (bytesOf (tk x.snd.snd.snd.snd ((x.snd.fst +
   x.snd.snd.fst) % (↑most.toNat : Int)) most.toNat (0 : Int)))) ∧ SV.v (Value.int IntKind.i64 most) = SV.v (Value.int IntKind.i64 most) ∧ SV.v (Value.bool false) = SV.v (Value.bool false) ∧ True) ∧ True) ∧ ((↑l.length : Int) - IntKind.i64.wrap (x.fst +
   (1 : Int))).toNat < ((↑l.length : Int) - x.fst).toNat) (true = true ∧ (0 : Nat) = (0 : Nat) ∧ br (x.snd.snd.fst - kq (l.getD x.fst.toNat op0).snd.snd x.snd.snd.fst != (↑(bytesOf (tk x.snd.snd.snd.snd ((x.snd.fst + kq (l.getD x.fst.toNat op0).snd.snd
   x.snd.snd.fst) % (↑most.toNat : Int)) most.toNat (x.snd.snd.fst - kq (l.getD x.fst.toNat op0).snd.snd x.snd.snd.fst))).size : Int)) (SV.v (Value.bool false) = SV.v (Value.bool true)) (true = true ∧ (0 : Nat) = (0 : Nat) ∧ br (!x.snd.snd.snd.fst ==
   x.snd.snd.snd.fst) (SV.v (Value.bool false) = SV.v (Value.bool true)) (((0 : Int) ≤ IntKind.i64.wrap (x.fst + (1 : Int)) ∧ IntKind.i64.wrap (x.fst + (1 : Int)) ≤ (↑l.length : Int) ∧ QWf ((x.snd.fst + kq (l.getD x.fst.toNat op0).snd.snd x.snd.snd.fst)
   % (↑most.toNat : Int)) (x.snd.snd.fst - kq (l.getD x.fst.toNat op0).snd.snd x.snd.snd.fst) x.snd.snd.snd.snd most.toNat) ∧ ((SV.v (Value.int IntKind.i64 most) = SV.v (Value.int IntKind.i64 most) ∧ SV.r (0 : Nat) [] = SV.r (0 : Nat) [] ∧ SV.p (2 :
   Nat) (0 : Nat) = SV.p (2 : Nat) (0 : Nat) ∧ SV.p (3 : Nat) (0 : Nat) = SV.p (3 : Nat) (0 : Nat) ∧ SV.v (Value.int IntKind.i64 (IntKind.i64.wrap (x.fst + (1 : Int)))) = SV.v (Value.int IntKind.i64 (IntKind.i64.wrap (x.fst + (1 : Int)))) ∧ True) ∧
   opsIC l = opsIC l ∧ (most.toNat = most.toNat ∧ (0 : Nat) = (0 : Nat) ∧ x.snd.snd.snd.snd = x.snd.snd.snd.snd) ∧ (SV.h (1 : Nat) [(0 : Nat), (0 : Nat)] = SV.h (1 : Nat) [(0 : Nat), (0 : Nat)] ∧ SV.v (Value.int IntKind.i64 ((x.snd.fst + kq (l.getD
   x.fst.toNat op0).snd.snd x.snd.snd.fst) % (↑most.toNat : Int))) = SV.v (Value.int IntKind.i64 ((x.snd.fst + kq (l.getD x.fst.toNat op0).snd.snd x.snd.snd.fst) % (↑most.toNat : Int))) ∧ SV.v (Value.int IntKind.i64 (x.snd.snd.fst - kq (l.getD
   x.fst.toNat op0).snd.snd x.snd.snd.fst)) = SV.v (Value.int IntKind.i64 (x.snd.snd.fst - kq (l.getD x.fst.toNat op0).snd.snd x.snd.snd.fst)) ∧ SV.v (Value.bool x.snd.snd.snd.fst) = SV.v (Value.bool x.snd.snd.snd.fst) ∧ True) ∧ (SV.v (Value.string
   (bytesOf (tk x.snd.snd.snd.snd ((x.snd.fst + kq (l.getD x.fst.toNat op0).snd.snd x.snd.snd.fst) % (↑most.toNat : Int)) most.toNat (x.snd.snd.fst - kq (l.getD x.fst.toNat op0).snd.snd x.snd.snd.fst)))) = SV.v (Value.string (bytesOf (tk
   x.snd.snd.snd.snd ((x.snd.fst + kq (l.getD x.fst.toNat op0).snd.snd x.snd.snd.fst) % (↑most.toNat : Int)) most.toNat (x.snd.snd.fst - kq (l.getD x.fst.toNat op0).snd.snd x.snd.snd.fst)))) ∧ SV.v (Value.int IntKind.i64 most) = SV.v (Value.int
   IntKind.i64 most) ∧ SV.v (Value.bool x.snd.snd.snd.fst) = SV.v (Value.bool x.snd.snd.snd.fst) ∧ True) ∧ True) ∧ ((↑l.length : Int) - IntKind.i64.wrap (x.fst + (1 : Int))).toNat < ((↑l.length : Int) - x.fst).toNat)))))))) (True ∧ SV.v (Value.bool
   true) = SV.v (Value.bool true)))) (True ∧ SV.v (Value.bool true) = SV.v (Value.bool true)))))) (br (decide (most < (0 : Int))) (True ∧ SV.v (Value.bool true) = SV.v (Value.bool true)) (br (decide (most > (4096 : Int))) (True ∧ SV.v (Value.bool true)
   = SV.v (Value.bool true)) (SV.v (Value.bool false) = SV.v (Value.bool true)))))) (by kernel_rfl) ?_
  simp only [rq_iff, br_iff, nbeq, Nat.blt_eq, true_and, and_true, and_self, reduceCtorEq, false_implies, true_implies, implies_true, Bool.and_eq_true, Bool.and_eq_false_iff, decide_eq_true_eq, decide_eq_false_iff_not, II, SV.v.injEq,
   Value.bool.injEq, Value.string.injEq, Value.int.injEq, Bool.false_eq_true, Bool.true_eq_false, Bool.not_eq_true', bne_iff_ne, ne_eq, bne_eq_false_iff_eq, beq_iff_eq, beq_eq_false_iff_ne, bytesOf_size, tk_length, Nat.le_refl, Nat.ble_eq,
   Nat.zero_lt_succ, not_true_eq_false, not_false_eq_true]
  have hlen := hr.len
  rw [show reachBytes = 140737488351232 from rfl] at hlen
  refine ⟨fun ⟨m0, m1⟩ => ⟨fun h => by omega, fun _ => ⟨fun h => by omega, fun _ => ⟨⟨by omega, by omega, few_zero l⟩, fun x ⟨x0, x1, xf⟩ => ⟨fun xl => ⟨⟨x0, xl⟩, by omega, by omega, by omega, fun h20 => ⟨⟨by omega, by omega, fewk_zero l _ _⟩, fun y ⟨y0, y1, yf⟩ => ⟨⟨x0, xl⟩, by omega, by omega, by omega, fun yl => ?_, fun yl => ?_⟩⟩⟩, fun xl l60 n2 => ?_⟩⟩⟩⟩, fun h1 h2 h3 => by omega⟩
  · have hb := (hr.at x.1.toNat).1
    rw [show reachBytes = 140737488351232 from rfl] at hb
    have hw : IntKind.i64.wrap (y.1 + 1) = y.1 + 1 := wrap64 (by omega) (by omega)
    have hf := fewk_next hr x0 xl xf (by omega) y0 yl yf
    exact ⟨⟨x0, xl⟩, by omega, by omega, ⟨by omega, y0, yl⟩, ⟨by omega, by omega⟩, ⟨by omega, by omega, hf⟩, by omega⟩
  · have hw : IntKind.i64.wrap (x.1 + 1) = x.1 + 1 := wrap64 (by omega) (by omega)
    have hf := few_next x0 xl hr.len xf (by omega) (by omega) yf
    exact ⟨⟨by omega, by omega, hf⟩, by omega⟩
  · have hl : OpsIn l := few_ops xf (by omega) l60 (by simpa using n2)
    have hlen := hl.len
    refine ⟨⟨by omega, by omega, qwf_new (by omega)⟩, by rw [tk_zero]; rfl, fun z ⟨z0, z1, hq⟩ zl => ?_⟩
    have hat := hl.at z.1.toNat
    rw [wrap64 (x := z.1 + 1) (by omega) (by omega)]
    have hn0 := hq.n0
    have hk := kq_spec (k := (l.getD z.1.toNat op0).2.2) hn0
    have hz : QWf ((z.2.1 + z.2.2.1) % (most.toNat : Int)) 0 z.2.2.2.2 most.toNat := by
      have := hq.get hn0 (Int.le_refl _)
      rwa [Int.sub_self] at this
    exact ⟨⟨z0, zl⟩, by omega, by omega, ⟨hq, by omega, by omega, hat.2⟩, fun _ => ⟨fun hgt => ⟨fun h => by omega, fun _ => ⟨⟨by omega, by omega, hq⟩, by omega⟩⟩, fun hgt => ⟨fun h => by omega, fun _ _ => ⟨⟨by omega, by omega, (hq.put _ (by omega) (bytesLs_range _)).1⟩, by omega⟩⟩⟩,
      fun _ => ⟨fun _ => ⟨⟨by omega, by omega, hz⟩, by omega⟩, fun _ => ⟨fun _ => ⟨⟨by omega, by omega, hz⟩, by omega⟩, fun _ => ⟨fun h => by omega, fun _ _ => ⟨⟨by omega, by omega, hq.get hk.1 hk.2⟩, by omega⟩⟩⟩⟩⟩
theorem law_plays {W : World} {vs : List Value} (hp : IPDens (wholeH W) reachBytes [.one (.i .i64), .one (.sl [.i .i64, .sl [.s], .i .i64])] vs) : Calls Try.prog 6 vs.toArray W fun en W' => en = .returned (.bool true) ∧ Ext W W' := by
  simp only [IPDens, IP.den, it_i] at hp
  obtain ⟨_, _, rfl, ⟨most, rfl, _⟩, v, _, rfl, hL, rfl⟩ := hp
  obtain ⟨l, h1, h2⟩ := ops_inR hL
  refine law_run (fun I => allCfg_ok mixed ptab'_ok qtabL_ok) rfl Try.func6 [(opsIC l, v)] (by simpa using h2) ?_ (run_plays most l h1)
  exact dl_cons den_v (dl_cons (den_r (l := [(opsIC l, v)]) rfl h2.1) dl_nil)
end Go.Proofs.Ytienakdnmhmglaa
