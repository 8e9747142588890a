/- Layer 12: bytes are fed to a terminal: contract. -/
import Derived.Test.YtcbjgpkbfmmdpaaDoorHbH
set_option linter.unusedSimpArgs false
set_option linter.unusedVariables false
set_option linter.unusedSectionVars false
namespace Go.Proofs.YtcbjgpkbfmmdpaaDoor
open Go Go.Sym

/-- Bytes of a text are fed, one by one. -/
def fdF (x : TR) (t : ByteArray) (i : Int) : Tm := feedT (trM x) (trF x) (tmS x) ((bytesL t).take i.toNat)
def annFd (j oe qe m : Nat) (fr : Int) (F : Int → Tm) (t : ByteArray) : Ann Unit where
  α := Int
  φ _ i := 0 ≤ i ∧ i ≤ t.size
  μ _ i := (t.size - i).toNat
  get st := getI st.tm 8
  f st i := tmpl [0, 1, 2, 7] [(8, .v (.int .i64 i))] (((tmI j oe qe m fr (F i)).zipIdx j).map (fun p => (p.2, p.1)) ++ [(getY st.tm 0, loopTm st.H (getY st.tm 0) [2] [])]) st
  fx st := match getC st.H j with
    | [_, _, _, _, _, .s b _ _ _] => [.adopt (j + 6) b]
    | _ => []
def tabV12 : List (Nat × ACon Unit) := (25, lcTSeq) :: (28, lcPlay4) :: (27, lcCtl) :: tabU12
theorem tabV12_ok : LCs Tryd.prog tabV12 := ⟨ok_tSeq, ok_play4, ok_ctl, tabU12_ok⟩
/-- All bytes of a text are fed. -/
def fdX (x : TR) (t : ByteArray) : Tm := feedT (trM x) (trF x) (tmS x) (bytesL t)
def lcTFeed : ACon Unit := mkLC (decP (shCons (shP 0) (shOne shStr)) (shTm 0)) fun ((_, t), x) => .ask (TA x ∧ t.size ≤ 1099511627776) (.one (.t []) (tmE 0 x (fdX x t)) [0, 1, 3, 4, 5, 6])
set_option maxHeartbeats 4000000 in
theorem ok_tFeed : ∀ I : Sym.Inv Unit, LCOk I Tryd.prog 11 lcTFeed := by
  refine lc_mk (fun ((_, t), x) => allCfg Tryd.prog purT tabV12 0 [(129, annFd 0 x.2.2.1 x.2.2.2.2.1.1 (trM x) (trF x) (fdF x t) t)]) (fun _ _ => allCfg_ok mixed purT_ok tabV12_ok) (fun _ => rfl) (n := 90) Tryd.func11 ?_
  intro ⟨⟨u0, t⟩, ⟨u1, u2, G, K, Ho, pe⟩, ⟨r, c, p, u3, u4⟩, oe, ⟨l, oe2, ep⟩, ⟨qe, fr, n, ov⟩, ⟨xs, m, qe2⟩, ⟨pl, pn, pe2⟩⟩ hφ
  obtain ⟨⟨⟨rfl, rfl, rfl, rfl, rfl, hI⟩, hsz⟩, hp⟩ := id hφ
  refine kcast (B := ((fun F : Int → Tm => (II (0 : Int) ≤ (0 : Int) ∧ (0 : Int) ≤ (↑t.size : Int)) ∧ ((SV.y (11 : Nat) = SV.y (11 : Nat) ∧ SV.p (9 : Nat) (0 : Nat) = SV.p (9 : Nat) (0 : Nat) ∧ SV.p (8 : Nat) (0 : Nat) = SV.p (8 : Nat) (0 : Nat) ∧
   SV.v (Value.int IntKind.i64 (↑t.size : Int)) = SV.v (Value.int IntKind.i64 (↑t.size : Int)) ∧ SV.v (Value.int IntKind.i64 (0 : Int)) = SV.v (Value.int IntKind.i64 (0 : Int)) ∧ True) ∧ (SV.p (1 : Nat) (0 : Nat) = SV.p (1 : Nat) (0 : Nat) ∧ SV.p (4 :
   Nat) (0 : Nat) = SV.p (4 : Nat) (0 : Nat) ∧ SV.v (Value.bool G) = SV.v (Value.bool G) ∧ SV.v (Value.bool K) = SV.v (Value.bool K) ∧ SV.v (Value.bool Ho) = SV.v (Value.bool Ho) ∧ SV.h (6 : Nat) [pe, (0 : Nat)] = SV.h (6 : Nat) [pe, (0 : Nat)] ∧ True)
   ∧ (SV.v (Value.int IntKind.i64 r) = SV.v (Value.int IntKind.i64 r) ∧ SV.v (Value.int IntKind.i64 c) = SV.v (Value.int IntKind.i64 c) ∧ SV.v (Value.bool false) = SV.v (Value.bool false) ∧ SV.p (2 : Nat) (0 : Nat) = SV.p (2 : Nat) (0 : Nat) ∧ True) ∧
   (SV.h (3 : Nat) [oe, (0 : Nat)] = SV.h (3 : Nat) [oe, (0 : Nat)] ∧ True) ∧ (oe = oe ∧ ep = ep ∧ l = l) ∧ (SV.h (5 : Nat) [qe, (0 : Nat)] = SV.h (5 : Nat) [qe, (0 : Nat)] ∧ SV.v (Value.int IntKind.i64 fr) = SV.v (Value.int IntKind.i64 (trF ((u1, u2,
   G, K, Ho, pe), (r, c, false, u3, u4), oe, RC.mk l oe ep, (qe, fr, n, ov), OI.mk xs m qe, OI.mk pl pl.length pe))) ∧ SV.v (Value.int IntKind.i64 n) = SV.v (Value.int IntKind.i64 n) ∧ SV.v (Value.bool ov) = SV.v (Value.bool ov) ∧ True) ∧ (m = trM ((u1,
   u2, G, K, Ho, pe), (r, c, false, u3, u4), oe, RC.mk l oe ep, (qe, fr, n, ov), OI.mk xs m qe, OI.mk pl pl.length pe) ∧ qe = qe ∧ xs = xs) ∧ (pl.length = pl.length ∧ pe = pe ∧ pl = pl) ∧ (SV.p (0 : Nat) (0 : Nat) = SV.p (0 : Nat) (0 : Nat) ∧ True) ∧
   (SV.p (0 : Nat) (0 : Nat) = SV.p (0 : Nat) (0 : Nat) ∧ True) ∧ (SV.v (Value.string t) = SV.v (Value.string t) ∧ True) ∧ Obj.deferred (some []) = Obj.deferred (some []) ∧ ((SV.p (7 : Nat) (0 : Nat) = SV.p (7 : Nat) (0 : Nat) ∧ True) ∧ #[(10 : Nat)] =
   #[(10 : Nat)] ∧ codeAt Tryd.f11 [(1 : Nat), (1 : Nat), (1 : Nat), (0 : Nat), (0 : Nat)] = codeAt Tryd.f11 [(1 : Nat), (1 : Nat), (1 : Nat), (0 : Nat), (0 : Nat)] ∧ codeAt Tryd.f11 [(1 : Nat), (1 : Nat), (1 : Nat), (0 : Nat), (1 : Nat)] = codeAt
   Tryd.f11 [(1 : Nat), (1 : Nat), (1 : Nat), (0 : Nat), (1 : Nat)]) ∧ True) ∧ ∀ (x : Int), (0 : Int) ≤ x ∧ x ≤ (↑t.size : Int) → br (decide (x < (↑t.size : Int))) (rq (decide ((0 : Int) ≤ x ∧ x < (↑t.size : Int))) (rq ((F x).pe.beq (F x).pe) (br ((↑(F
   x).pl.length : Int) == (0 : Int)) (br (decide (byteAt t x.toNat > (126 : Int))) (((0 : Int) ≤ IntKind.i64.wrap (x + (1 : Int)) ∧ IntKind.i64.wrap (x + (1 : Int)) ≤ (↑t.size : Int)) ∧ ((SV.y (11 : Nat) = SV.y (11 : Nat) ∧ SV.p (9 : Nat) (0 : Nat) =
   SV.p (9 : Nat) (0 : Nat) ∧ SV.p (8 : Nat) (0 : Nat) = SV.p (8 : Nat) (0 : Nat) ∧ SV.v (Value.int IntKind.i64 (↑t.size : Int)) = SV.v (Value.int IntKind.i64 (↑t.size : Int)) ∧ SV.v (Value.int IntKind.i64 (IntKind.i64.wrap (x + (1 : Int)))) = SV.v
   (Value.int IntKind.i64 (IntKind.i64.wrap (x + (1 : Int)))) ∧ True) ∧ (SV.p (1 : Nat) (0 : Nat) = SV.p (1 : Nat) (0 : Nat) ∧ SV.p (4 : Nat) (0 : Nat) = SV.p (4 : Nat) (0 : Nat) ∧ SV.v (Value.bool (F x).G) = SV.v (Value.bool (F (IntKind.i64.wrap (x +
   (1 : Int)))).G) ∧ SV.v (Value.bool (F x).K) = SV.v (Value.bool (F (IntKind.i64.wrap (x + (1 : Int)))).K) ∧ SV.v (Value.bool (F x).Ho) = SV.v (Value.bool (F (IntKind.i64.wrap (x + (1 : Int)))).Ho) ∧ SV.h (6 : Nat) [(F x).pe, (0 : Nat)] = SV.h (6 :
   Nat) [(F (IntKind.i64.wrap (x + (1 : Int)))).pe, (0 : Nat)] ∧ True) ∧ (SV.v (Value.int IntKind.i64 (F x).r) = SV.v (Value.int IntKind.i64 (F (IntKind.i64.wrap (x + (1 : Int)))).r) ∧ SV.v (Value.int IntKind.i64 (F x).c) = SV.v (Value.int IntKind.i64
   (F (IntKind.i64.wrap (x + (1 : Int)))).c) ∧ SV.v (Value.bool false) = SV.v (Value.bool false) ∧ SV.p (2 : Nat) (0 : Nat) = SV.p (2 : Nat) (0 : Nat) ∧ True) ∧ (SV.h (3 : Nat) [oe, (0 : Nat)] = SV.h (3 : Nat) [oe, (0 : Nat)] ∧ True) ∧ (oe = oe ∧ (F
   x).ep = (F (IntKind.i64.wrap (x + (1 : Int)))).ep ∧ (F x).l = (F (IntKind.i64.wrap (x + (1 : Int)))).l) ∧ (SV.h (5 : Nat) [qe, (0 : Nat)] = SV.h (5 : Nat) [qe, (0 : Nat)] ∧ SV.v (Value.int IntKind.i64 (trF ((u1, u2, G, K, Ho, pe), (r, c, false, u3,
   u4), oe, RC.mk l oe ep, (qe, fr, n, ov), OI.mk xs m qe, OI.mk pl pl.length pe))) = SV.v (Value.int IntKind.i64 (trF ((u1, u2, G, K, Ho, pe), (r, c, false, u3, u4), oe, RC.mk l oe ep, (qe, fr, n, ov), OI.mk xs m qe, OI.mk pl pl.length pe))) ∧ SV.v
   (Value.int IntKind.i64 (F x).n) = SV.v (Value.int IntKind.i64 (F (IntKind.i64.wrap (x + (1 : Int)))).n) ∧ SV.v (Value.bool (F x).ov) = SV.v (Value.bool (F (IntKind.i64.wrap (x + (1 : Int)))).ov) ∧ True) ∧ (trM ((u1, u2, G, K, Ho, pe), (r, c, false,
   u3, u4), oe, RC.mk l oe ep, (qe, fr, n, ov), OI.mk xs m qe, OI.mk pl pl.length pe) = trM ((u1, u2, G, K, Ho, pe), (r, c, false, u3, u4), oe, RC.mk l oe ep, (qe, fr, n, ov), OI.mk xs m qe, OI.mk pl pl.length pe) ∧ qe = qe ∧ (F x).xs = (F
   (IntKind.i64.wrap (x + (1 : Int)))).xs) ∧ ((F x).pl.length = (F (IntKind.i64.wrap (x + (1 : Int)))).pl.length ∧ (F x).pe = (F (IntKind.i64.wrap (x + (1 : Int)))).pe ∧ (F x).pl = (F (IntKind.i64.wrap (x + (1 : Int)))).pl) ∧ (SV.p (0 : Nat) (0 : Nat) =
   SV.p (0 : Nat) (0 : Nat) ∧ True) ∧ (SV.p (0 : Nat) (0 : Nat) = SV.p (0 : Nat) (0 : Nat) ∧ True) ∧ (SV.v (Value.string t) = SV.v (Value.string t) ∧ True) ∧ Obj.deferred (some []) = Obj.deferred (some []) ∧ ((SV.p (7 : Nat) (0 : Nat) = SV.p (7 : Nat)
   (0 : Nat) ∧ True) ∧ #[(10 : Nat)] = #[(10 : Nat)] ∧ codeAt Tryd.f11 [(1 : Nat), (1 : Nat), (1 : Nat), (0 : Nat), (0 : Nat)] = codeAt Tryd.f11 [(1 : Nat), (1 : Nat), (1 : Nat), (0 : Nat), (0 : Nat)] ∧ codeAt Tryd.f11 [(1 : Nat), (1 : Nat), (1 : Nat),
   (0 : Nat), (1 : Nat)] = codeAt Tryd.f11 [(1 : Nat), (1 : Nat), (1 : Nat), (0 : Nat), (1 : Nat)]) ∧ True) ∧ ((↑t.size : Int) - IntKind.i64.wrap (x + (1 : Int))).toNat < ((↑t.size : Int) - x).toNat) (rq (decide ((0 : Int) ≤ x ∧ x < (↑t.size : Int)))
   (br (byteAt t x.toNat == (27 : Int)) (((0 : Int) ≤ IntKind.i64.wrap (x + (1 : Int)) ∧ IntKind.i64.wrap (x + (1 : Int)) ≤ (↑t.size : Int)) ∧ ((SV.y (11 : Nat) = SV.y (11 : Nat) ∧ SV.p (9 : Nat) (0 : Nat) = SV.p (9 : Nat) (0 : Nat) ∧ SV.p (8 : Nat) (0
   : Nat) = SV.p (8 : Nat) (0 : Nat) ∧ SV.v (Value.int IntKind.i64 (↑t.size : Int)) = SV.v (Value.int IntKind.i64 (↑t.size : Int)) ∧ SV.v (Value.int IntKind.i64 (IntKind.i64.wrap (x + (1 : Int)))) = SV.v (Value.int IntKind.i64 (IntKind.i64.wrap (x + (1
   : Int)))) ∧ True) ∧ (SV.p (1 : Nat) (0 : Nat) = SV.p (1 : Nat) (0 : Nat) ∧ SV.p (4 : Nat) (0 : Nat) = SV.p (4 : Nat) (0 : Nat) ∧ SV.v (Value.bool (F x).G) = SV.v (Value.bool (F (IntKind.i64.wrap (x + (1 : Int)))).G) ∧ SV.v (Value.bool (F x).K) = SV.v
   (Value.bool (F (IntKind.i64.wrap (x + (1 : Int)))).K) ∧ SV.v (Value.bool (F x).Ho) = SV.v (Value.bool (F (IntKind.i64.wrap (x + (1 : Int)))).Ho) ∧ SV.h (6 : Nat) [(F x).pe + (1 : Nat), (0 : Nat)] = SV.h (6 : Nat) [(F (IntKind.i64.wrap (x + (1 :
   Int)))).pe, (0 : Nat)] ∧ True) ∧ (SV.v (Value.int IntKind.i64 (F x).r) = SV.v (Value.int IntKind.i64 (F (IntKind.i64.wrap (x + (1 : Int)))).r) ∧ SV.v (Value.int IntKind.i64 (F x).c) = SV.v (Value.int IntKind.i64 (F (IntKind.i64.wrap (x + (1 :
   Int)))).c) ∧ SV.v (Value.bool false) = SV.v (Value.bool false) ∧ SV.p (2 : Nat) (0 : Nat) = SV.p (2 : Nat) (0 : Nat) ∧ True) ∧ (SV.h (3 : Nat) [oe, (0 : Nat)] = SV.h (3 : Nat) [oe, (0 : Nat)] ∧ True) ∧ (oe = oe ∧ (F x).ep = (F (IntKind.i64.wrap (x +
   (1 : Int)))).ep ∧ (F x).l = (F (IntKind.i64.wrap (x + (1 : Int)))).l) ∧ (SV.h (5 : Nat) [qe, (0 : Nat)] = SV.h (5 : Nat) [qe, (0 : Nat)] ∧ SV.v (Value.int IntKind.i64 (trF ((u1, u2, G, K, Ho, pe), (r, c, false, u3, u4), oe, RC.mk l oe ep, (qe, fr, n,
   ov), OI.mk xs m qe, OI.mk pl pl.length pe))) = SV.v (Value.int IntKind.i64 (trF ((u1, u2, G, K, Ho, pe), (r, c, false, u3, u4), oe, RC.mk l oe ep, (qe, fr, n, ov), OI.mk xs m qe, OI.mk pl pl.length pe))) ∧ SV.v (Value.int IntKind.i64 (F x).n) = SV.v
   (Value.int IntKind.i64 (F (IntKind.i64.wrap (x + (1 : Int)))).n) ∧ SV.v (Value.bool (F x).ov) = SV.v (Value.bool (F (IntKind.i64.wrap (x + (1 : Int)))).ov) ∧ True) ∧ (trM ((u1, u2, G, K, Ho, pe), (r, c, false, u3, u4), oe, RC.mk l oe ep, (qe, fr, n,
   ov), OI.mk xs m qe, OI.mk pl pl.length pe) = trM ((u1, u2, G, K, Ho, pe), (r, c, false, u3, u4), oe, RC.mk l oe ep, (qe, fr, n, ov), OI.mk xs m qe, OI.mk pl pl.length pe) ∧ qe = qe ∧ (F x).xs = (F (IntKind.i64.wrap (x + (1 : Int)))).xs) ∧ ((1 : Nat)
   = (F (IntKind.i64.wrap (x + (1 : Int)))).pl.length ∧ (F x).pe + (1 : Nat) = (F (IntKind.i64.wrap (x + (1 : Int)))).pe ∧ LI [(27 : Int)] = (F (IntKind.i64.wrap (x + (1 : Int)))).pl) ∧ (SV.p (0 : Nat) (0 : Nat) = SV.p (0 : Nat) (0 : Nat) ∧ True) ∧
   (SV.p (0 : Nat) (0 : Nat) = SV.p (0 : Nat) (0 : Nat) ∧ True) ∧ (SV.v (Value.string t) = SV.v (Value.string t) ∧ True) ∧ Obj.deferred (some []) = Obj.deferred (some []) ∧ ((SV.p (7 : Nat) (0 : Nat) = SV.p (7 : Nat) (0 : Nat) ∧ True) ∧ #[(10 : Nat)] =
   #[(10 : Nat)] ∧ codeAt Tryd.f11 [(1 : Nat), (1 : Nat), (1 : Nat), (0 : Nat), (0 : Nat)] = codeAt Tryd.f11 [(1 : Nat), (1 : Nat), (1 : Nat), (0 : Nat), (0 : Nat)] ∧ codeAt Tryd.f11 [(1 : Nat), (1 : Nat), (1 : Nat), (0 : Nat), (1 : Nat)] = codeAt
   Tryd.f11 [(1 : Nat), (1 : Nat), (1 : Nat), (0 : Nat), (1 : Nat)]) ∧ True) ∧ ((↑t.size : Int) - IntKind.i64.wrap (x + (1 : Int))).toNat < ((↑t.size : Int) - x).toNat) (rq ((F x).pe.beq (F x).pe) (br (decide ((↑(F x).pl.length : Int) > (0 : Int)))
   (true = true ∧ (TA (((), (), (F x).G, (F x).K, (F x).Ho, (F x).pe), ((F x).r, (F x).c, false, (), ()), oe, RC.mk (F x).l oe (F x).ep, (qe, trF ((u1, u2, G, K, Ho, pe), (r, c, false, u3, u4), oe, RC.mk l oe ep, (qe, fr, n, ov), OI.mk xs m qe, OI.mk pl
   pl.length pe), (F x).n, (F x).ov), OI.mk (F x).xs (trM ((u1, u2, G, K, Ho, pe), (r, c, false, u3, u4), oe, RC.mk l oe ep, (qe, fr, n, ov), OI.mk xs m qe, OI.mk pl pl.length pe)) qe, OI.mk (F x).pl (F x).pl.length (F x).pe) ∧ (0 : Int) ≤ byteAt t
   x.toNat ∧ byteAt t x.toNat ≤ (255 : Int) ∧ (1 : Nat) ≤ (F x).pl.length) ∧ ((0 : Int) ≤ IntKind.i64.wrap (x + (1 : Int)) ∧ IntKind.i64.wrap (x + (1 : Int)) ≤ (↑t.size : Int)) ∧ ((SV.y (11 : Nat) = SV.y (11 : Nat) ∧ SV.p (9 : Nat) (0 : Nat) = SV.p (9 :
   Nat) (0 : Nat) ∧ SV.p (8 : Nat) (0 : Nat) = SV.p (8 : Nat) (0 : Nat) ∧ SV.v (Value.int IntKind.i64 (↑t.size : Int)) = SV.v (Value.int IntKind.i64 (↑t.size : Int)) ∧ SV.v (Value.int IntKind.i64 (IntKind.i64.wrap (x + (1 : Int)))) = SV.v (Value.int
   IntKind.i64 (IntKind.i64.wrap (x + (1 : Int)))) ∧ True) ∧ (SV.p (1 : Nat) (0 : Nat) = SV.p (1 : Nat) (0 : Nat) ∧ SV.p (4 : Nat) (0 : Nat) = SV.p (4 : Nat) (0 : Nat) ∧ SV.v (Value.bool (sqX (((), (), (F x).G, (F x).K, (F x).Ho, (F x).pe), ((F x).r, (F
   x).c, false, (), ()), oe, RC.mk (F x).l oe (F x).ep, (qe, trF ((u1, u2, G, K, Ho, pe), (r, c, false, u3, u4), oe, RC.mk l oe ep, (qe, fr, n, ov), OI.mk xs m qe, OI.mk pl pl.length pe), (F x).n, (F x).ov), OI.mk (F x).xs (trM ((u1, u2, G, K, Ho, pe),
   (r, c, false, u3, u4), oe, RC.mk l oe ep, (qe, fr, n, ov), OI.mk xs m qe, OI.mk pl pl.length pe)) qe, OI.mk (F x).pl (F x).pl.length (F x).pe) (byteAt t x.toNat)).G) = SV.v (Value.bool (F (IntKind.i64.wrap (x + (1 : Int)))).G) ∧ SV.v (Value.bool (sqX
   (((), (), (F x).G, (F x).K, (F x).Ho, (F x).pe), ((F x).r, (F x).c, false, (), ()), oe, RC.mk (F x).l oe (F x).ep, (qe, trF ((u1, u2, G, K, Ho, pe), (r, c, false, u3, u4), oe, RC.mk l oe ep, (qe, fr, n, ov), OI.mk xs m qe, OI.mk pl pl.length pe), (F
   x).n, (F x).ov), OI.mk (F x).xs (trM ((u1, u2, G, K, Ho, pe), (r, c, false, u3, u4), oe, RC.mk l oe ep, (qe, fr, n, ov), OI.mk xs m qe, OI.mk pl pl.length pe)) qe, OI.mk (F x).pl (F x).pl.length (F x).pe) (byteAt t x.toNat)).K) = SV.v (Value.bool (F
   (IntKind.i64.wrap (x + (1 : Int)))).K) ∧ SV.v (Value.bool (sqX (((), (), (F x).G, (F x).K, (F x).Ho, (F x).pe), ((F x).r, (F x).c, false, (), ()), oe, RC.mk (F x).l oe (F x).ep, (qe, trF ((u1, u2, G, K, Ho, pe), (r, c, false, u3, u4), oe, RC.mk l oe
   ep, (qe, fr, n, ov), OI.mk xs m qe, OI.mk pl pl.length pe), (F x).n, (F x).ov), OI.mk (F x).xs (trM ((u1, u2, G, K, Ho, pe), (r, c, false, u3, u4), oe, RC.mk l oe ep, (qe, fr, n, ov), OI.mk xs m qe, OI.mk pl pl.length pe)) qe, OI.mk (F x).pl (F
   x).pl.length (F x).pe) (byteAt t x.toNat)).Ho) = SV.v (Value.bool (F (IntKind.i64.wrap (x + (1 : Int)))).Ho) ∧ SV.h (6 : Nat) [(sqX (((), (), (F x).G, (F x).K, (F x).Ho, (F x).pe), ((F x).r, (F x).c, false, (), ()), oe, RC.mk (F x).l oe (F x).ep,
   (qe, trF ((u1, u2, G, K, Ho, pe), (r, c, false, u3, u4), oe, RC.mk l oe ep, (qe, fr, n, ov), OI.mk xs m qe, OI.mk pl pl.length pe), (F x).n, (F x).ov), OI.mk (F x).xs (trM ((u1, u2, G, K, Ho, pe), (r, c, false, u3, u4), oe, RC.mk l oe ep, (qe, fr, n,
   ov), OI.mk xs m qe, OI.mk pl pl.length pe)) qe, OI.mk (F x).pl (F x).pl.length (F x).pe) (byteAt t x.toNat)).pe, (0 : Nat)] = SV.h (6 : Nat) [(F (IntKind.i64.wrap (x + (1 : Int)))).pe, (0 : Nat)] ∧ True) ∧ (SV.v (Value.int IntKind.i64 (sqX (((), (),
   (F x).G, (F x).K, (F x).Ho, (F x).pe), ((F x).r, (F x).c, false, (), ()), oe, RC.mk (F x).l oe (F x).ep, (qe, trF ((u1, u2, G, K, Ho, pe), (r, c, false, u3, u4), oe, RC.mk l oe ep, (qe, fr, n, ov), OI.mk xs m qe, OI.mk pl pl.length pe), (F x).n, (F
   x).ov), OI.mk (F x).xs (trM ((u1, u2, G, K, Ho, pe), (r, c, false, u3, u4), oe, RC.mk l oe ep, (qe, fr, n, ov), OI.mk xs m qe, OI.mk pl pl.length pe)) qe, OI.mk (F x).pl (F x).pl.length (F x).pe) (byteAt t x.toNat)).r) = SV.v (Value.int IntKind.i64
   (F (IntKind.i64.wrap (x + (1 : Int)))).r) ∧ SV.v (Value.int IntKind.i64 (sqX (((), (), (F x).G, (F x).K, (F x).Ho, (F x).pe), ((F x).r, (F x).c, false, (), ()), oe, RC.mk (F x).l oe (F x).ep, (qe, trF ((u1, u2, G, K, Ho, pe), (r, c, false, u3, u4),
   oe, RC.mk l oe ep, (qe, fr, n, ov), OI.mk xs m qe, OI.mk pl pl.length pe), (F x).n, (F x).ov), OI.mk (F x).xs (trM ((u1, u2, G, K, Ho, pe), (r, c, false, u3, u4), oe, RC.mk l oe ep, (qe, fr, n, ov), OI.mk xs m qe, OI.mk pl pl.length pe)) qe, OI.mk (F
   x).pl (F x).pl.length (F x).pe) (byteAt t x.toNat)).c) = SV.v (Value.int IntKind.i64 (F (IntKind.i64.wrap (x + (1 : Int)))).c) ∧ SV.v (Value.bool false) = SV.v (Value.bool false) ∧ SV.p (2 : Nat) (0 : Nat) = SV.p (2 : Nat) (0 : Nat) ∧ True) ∧ (SV.h
   (3 : Nat) [oe, (0 : Nat)] = SV.h (3 : Nat) [oe, (0 : Nat)] ∧ True) ∧ (oe = oe ∧ (sqX (((), (), (F x).G, (F x).K, (F x).Ho, (F x).pe), ((F x).r, (F x).c, false, (), ()), oe, RC.mk (F x).l oe (F x).ep, (qe, trF ((u1, u2, G, K, Ho, pe), (r, c, false,
   u3, u4), oe, RC.mk l oe ep, (qe, fr, n, ov), OI.mk xs m qe, OI.mk pl pl.length pe), (F x).n, (F x).ov), OI.mk (F x).xs (trM ((u1, u2, G, K, Ho, pe), (r, c, false, u3, u4), oe, RC.mk l oe ep, (qe, fr, n, ov), OI.mk xs m qe, OI.mk pl pl.length pe)) qe,
   OI.mk (F x).pl (F x).pl.length (F x).pe) (byteAt t x.toNat)).ep = (F (IntKind.i64.wrap (x + (1 : Int)))).ep ∧ (sqX (((), (), (F x).G, (F x).K, (F x).Ho, (F x).pe), ((F x).r, (F x).c, false, (), ()), oe, RC.mk (F x).l oe (F x).ep, (qe, trF ((u1, u2,
   G, K, Ho, pe), (r, c, false, u3, u4), oe, RC.mk l oe ep, (qe, fr, n, ov), OI.mk xs m qe, OI.mk pl pl.length pe), (F x).n, (F x).ov), OI.mk (F x).xs (trM ((u1, u2, G, K, Ho, pe), (r, c, false, u3, u4), oe, RC.mk l oe ep, (qe, fr, n, ov), OI.mk xs m
   qe, OI.mk pl pl.length pe)) qe, OI.mk (F x).pl (F x).pl.length (F x).pe) (byteAt t x.toNat)).l = (F (IntKind.i64.wrap (x + (1 : Int)))).l) ∧ (SV.h (5 : Nat) [qe, (0 : Nat)] = SV.h (5 : Nat) [qe, (0 : Nat)] ∧ SV.v (Value.int IntKind.i64 (trF ((u1, u2,
   G, K, Ho, pe), (r, c, false, u3, u4), oe, RC.mk l oe ep, (qe, fr, n, ov), OI.mk xs m qe, OI.mk pl pl.length pe))) = SV.v (Value.int IntKind.i64 (trF ((u1, u2, G, K, Ho, pe), (r, c, false, u3, u4), oe, RC.mk l oe ep, (qe, fr, n, ov), OI.mk xs m qe,
   OI.mk pl pl.length pe))) ∧ SV.v (Value.int IntKind.i64 (sqX (((), (), (F x).G, (F x).K, (F x).Ho, (F x).pe), ((F x).r, (F x).c, false, (), ()), oe, RC.mk (F x).l oe (F x).ep, (qe, trF ((u1, u2, G, K, Ho, pe), (r, c, false, u3, u4), oe, RC.mk l oe ep,
   (qe, fr, n, ov), OI.mk xs m qe, OI.mk pl pl.length pe), (F x).n, (F x).ov), OI.mk (F x).xs (trM ((u1, u2, G, K, Ho, pe), (r, c, false, u3, u4), oe, RC.mk l oe ep, (qe, fr, n, ov), OI.mk xs m qe, OI.mk pl pl.length pe)) qe, OI.mk (F x).pl (F
   x).pl.length (F x).pe) (byteAt t x.toNat)).n) = SV.v (Value.int IntKind.i64 (F (IntKind.i64.wrap (x + (1 : Int)))).n) ∧ SV.v (Value.bool (sqX (((), (), (F x).G, (F x).K, (F x).Ho, (F x).pe), ((F x).r, (F x).c, false, (), ()), oe, RC.mk (F x).l oe (F
   x).ep, (qe, trF ((u1, u2, G, K, Ho, pe), (r, c, false, u3, u4), oe, RC.mk l oe ep, (qe, fr, n, ov), OI.mk xs m qe, OI.mk pl pl.length pe), (F x).n, (F x).ov), OI.mk (F x).xs (trM ((u1, u2, G, K, Ho, pe), (r, c, false, u3, u4), oe, RC.mk l oe ep, (qe,
   fr, n, ov), OI.mk xs m qe, OI.mk pl pl.length pe)) qe, OI.mk (F x).pl (F x).pl.length (F x).pe) (byteAt t x.toNat)).ov) = SV.v (Value.bool (F (IntKind.i64.wrap (x + (1 : Int)))).ov) ∧ True) ∧ (trM ((u1, u2, G, K, Ho, pe), (r, c, false, u3, u4), oe,
   RC.mk l oe ep, (qe, fr, n, ov), OI.mk xs m qe, OI.mk pl pl.length pe) = trM ((u1, u2, G, K, Ho, pe), (r, c, false, u3, u4), oe, RC.mk l oe ep, (qe, fr, n, ov), OI.mk xs m qe, OI.mk pl pl.length pe) ∧ qe = qe ∧ (sqX (((), (), (F x).G, (F x).K, (F
   x).Ho, (F x).pe), ((F x).r, (F x).c, false, (), ()), oe, RC.mk (F x).l oe (F x).ep, (qe, trF ((u1, u2, G, K, Ho, pe), (r, c, false, u3, u4), oe, RC.mk l oe ep, (qe, fr, n, ov), OI.mk xs m qe, OI.mk pl pl.length pe), (F x).n, (F x).ov), OI.mk (F x).xs
   (trM ((u1, u2, G, K, Ho, pe), (r, c, false, u3, u4), oe, RC.mk l oe ep, (qe, fr, n, ov), OI.mk xs m qe, OI.mk pl pl.length pe)) qe, OI.mk (F x).pl (F x).pl.length (F x).pe) (byteAt t x.toNat)).xs = (F (IntKind.i64.wrap (x + (1 : Int)))).xs) ∧ ((sqX
   (((), (), (F x).G, (F x).K, (F x).Ho, (F x).pe), ((F x).r, (F x).c, false, (), ()), oe, RC.mk (F x).l oe (F x).ep, (qe, trF ((u1, u2, G, K, Ho, pe), (r, c, false, u3, u4), oe, RC.mk l oe ep, (qe, fr, n, ov), OI.mk xs m qe, OI.mk pl pl.length pe), (F
   x).n, (F x).ov), OI.mk (F x).xs (trM ((u1, u2, G, K, Ho, pe), (r, c, false, u3, u4), oe, RC.mk l oe ep, (qe, fr, n, ov), OI.mk xs m qe, OI.mk pl pl.length pe)) qe, OI.mk (F x).pl (F x).pl.length (F x).pe) (byteAt t x.toNat)).pl.length = (F
   (IntKind.i64.wrap (x + (1 : Int)))).pl.length ∧ (sqX (((), (), (F x).G, (F x).K, (F x).Ho, (F x).pe), ((F x).r, (F x).c, false, (), ()), oe, RC.mk (F x).l oe (F x).ep, (qe, trF ((u1, u2, G, K, Ho, pe), (r, c, false, u3, u4), oe, RC.mk l oe ep, (qe,
   fr, n, ov), OI.mk xs m qe, OI.mk pl pl.length pe), (F x).n, (F x).ov), OI.mk (F x).xs (trM ((u1, u2, G, K, Ho, pe), (r, c, false, u3, u4), oe, RC.mk l oe ep, (qe, fr, n, ov), OI.mk xs m qe, OI.mk pl pl.length pe)) qe, OI.mk (F x).pl (F x).pl.length
   (F x).pe) (byteAt t x.toNat)).pe = (F (IntKind.i64.wrap (x + (1 : Int)))).pe ∧ (sqX (((), (), (F x).G, (F x).K, (F x).Ho, (F x).pe), ((F x).r, (F x).c, false, (), ()), oe, RC.mk (F x).l oe (F x).ep, (qe, trF ((u1, u2, G, K, Ho, pe), (r, c, false, u3,
   u4), oe, RC.mk l oe ep, (qe, fr, n, ov), OI.mk xs m qe, OI.mk pl pl.length pe), (F x).n, (F x).ov), OI.mk (F x).xs (trM ((u1, u2, G, K, Ho, pe), (r, c, false, u3, u4), oe, RC.mk l oe ep, (qe, fr, n, ov), OI.mk xs m qe, OI.mk pl pl.length pe)) qe,
   OI.mk (F x).pl (F x).pl.length (F x).pe) (byteAt t x.toNat)).pl = (F (IntKind.i64.wrap (x + (1 : Int)))).pl) ∧ (SV.p (0 : Nat) (0 : Nat) = SV.p (0 : Nat) (0 : Nat) ∧ True) ∧ (SV.p (0 : Nat) (0 : Nat) = SV.p (0 : Nat) (0 : Nat) ∧ True) ∧ (SV.v
   (Value.string t) = SV.v (Value.string t) ∧ True) ∧ Obj.deferred (some []) = Obj.deferred (some []) ∧ ((SV.p (7 : Nat) (0 : Nat) = SV.p (7 : Nat) (0 : Nat) ∧ True) ∧ #[(10 : Nat)] = #[(10 : Nat)] ∧ codeAt Tryd.f11 [(1 : Nat), (1 : Nat), (1 : Nat), (0
   : Nat), (0 : Nat)] = codeAt Tryd.f11 [(1 : Nat), (1 : Nat), (1 : Nat), (0 : Nat), (0 : Nat)] ∧ codeAt Tryd.f11 [(1 : Nat), (1 : Nat), (1 : Nat), (0 : Nat), (1 : Nat)] = codeAt Tryd.f11 [(1 : Nat), (1 : Nat), (1 : Nat), (0 : Nat), (1 : Nat)]) ∧ True)
   ∧ ((↑t.size : Int) - IntKind.i64.wrap (x + (1 : Int))).toNat < ((↑t.size : Int) - x).toNat) (br (decide (byteAt t x.toNat ≥ (32 : Int))) (true = true ∧ (TA (((), (), (F x).G, (F x).K, (F x).Ho, (F x).pe), ((F x).r, (F x).c, false, (), ()), oe, RC.mk
   (F x).l oe (F x).ep, (qe, trF ((u1, u2, G, K, Ho, pe), (r, c, false, u3, u4), oe, RC.mk l oe ep, (qe, fr, n, ov), OI.mk xs m qe, OI.mk pl pl.length pe), (F x).n, (F x).ov), OI.mk (F x).xs (trM ((u1, u2, G, K, Ho, pe), (r, c, false, u3, u4), oe, RC.mk
   l oe ep, (qe, fr, n, ov), OI.mk xs m qe, OI.mk pl pl.length pe)) qe, OI.mk (F x).pl (F x).pl.length (F x).pe) ∧ (0 : Int) ≤ byteAt t x.toNat ∧ byteAt t x.toNat ≤ (255 : Int)) ∧ ((0 : Int) ≤ IntKind.i64.wrap (x + (1 : Int)) ∧ IntKind.i64.wrap (x + (1
   : Int)) ≤ (↑t.size : Int)) ∧ ((SV.y (11 : Nat) = SV.y (11 : Nat) ∧ SV.p (9 : Nat) (0 : Nat) = SV.p (9 : Nat) (0 : Nat) ∧ SV.p (8 : Nat) (0 : Nat) = SV.p (8 : Nat) (0 : Nat) ∧ SV.v (Value.int IntKind.i64 (↑t.size : Int)) = SV.v (Value.int IntKind.i64
   (↑t.size : Int)) ∧ SV.v (Value.int IntKind.i64 (IntKind.i64.wrap (x + (1 : Int)))) = SV.v (Value.int IntKind.i64 (IntKind.i64.wrap (x + (1 : Int)))) ∧ True) ∧ (SV.p (1 : Nat) (0 : Nat) = SV.p (1 : Nat) (0 : Nat) ∧ SV.p (4 : Nat) (0 : Nat) = SV.p (4 :
   Nat) (0 : Nat) ∧ SV.v (Value.bool (F x).G) = SV.v (Value.bool (F (IntKind.i64.wrap (x + (1 : Int)))).G) ∧ SV.v (Value.bool (F x).K) = SV.v (Value.bool (F (IntKind.i64.wrap (x + (1 : Int)))).K) ∧ SV.v (Value.bool (F x).Ho) = SV.v (Value.bool (F
   (IntKind.i64.wrap (x + (1 : Int)))).Ho) ∧ SV.h (6 : Nat) [(F x).pe, (0 : Nat)] = SV.h (6 : Nat) [(F (IntKind.i64.wrap (x + (1 : Int)))).pe, (0 : Nat)] ∧ True) ∧ (SV.v (Value.int IntKind.i64 (F x).r) = SV.v (Value.int IntKind.i64 (F (IntKind.i64.wrap
   (x + (1 : Int)))).r) ∧ SV.v (Value.int IntKind.i64 (if (F x).c + (1 : Int) < (↑(nC (F x).l) : Int) then (F x).c + (1 : Int) else (F x).c)) = SV.v (Value.int IntKind.i64 (F (IntKind.i64.wrap (x + (1 : Int)))).c) ∧ SV.v (Value.bool false) = SV.v
   (Value.bool false) ∧ SV.p (2 : Nat) (0 : Nat) = SV.p (2 : Nat) (0 : Nat) ∧ True) ∧ (SV.h (3 : Nat) [oe, (0 : Nat)] = SV.h (3 : Nat) [oe, (0 : Nat)] ∧ True) ∧ (oe = oe ∧ (F x).ep = (F (IntKind.i64.wrap (x + (1 : Int)))).ep ∧ set2 (F x).l (F x).r (F
   x).c (C4.mk (glT (F x).G (byteAt t x.toNat)) (0 : Int) false (0 : Int)) = (F (IntKind.i64.wrap (x + (1 : Int)))).l) ∧ (SV.h (5 : Nat) [qe, (0 : Nat)] = SV.h (5 : Nat) [qe, (0 : Nat)] ∧ SV.v (Value.int IntKind.i64 (trF ((u1, u2, G, K, Ho, pe), (r, c,
   false, u3, u4), oe, RC.mk l oe ep, (qe, fr, n, ov), OI.mk xs m qe, OI.mk pl pl.length pe))) = SV.v (Value.int IntKind.i64 (trF ((u1, u2, G, K, Ho, pe), (r, c, false, u3, u4), oe, RC.mk l oe ep, (qe, fr, n, ov), OI.mk xs m qe, OI.mk pl pl.length pe)))
   ∧ SV.v (Value.int IntKind.i64 (F x).n) = SV.v (Value.int IntKind.i64 (F (IntKind.i64.wrap (x + (1 : Int)))).n) ∧ SV.v (Value.bool (F x).ov) = SV.v (Value.bool (F (IntKind.i64.wrap (x + (1 : Int)))).ov) ∧ True) ∧ (trM ((u1, u2, G, K, Ho, pe), (r, c,
   false, u3, u4), oe, RC.mk l oe ep, (qe, fr, n, ov), OI.mk xs m qe, OI.mk pl pl.length pe) = trM ((u1, u2, G, K, Ho, pe), (r, c, false, u3, u4), oe, RC.mk l oe ep, (qe, fr, n, ov), OI.mk xs m qe, OI.mk pl pl.length pe) ∧ qe = qe ∧ (F x).xs = (F
   (IntKind.i64.wrap (x + (1 : Int)))).xs) ∧ ((F x).pl.length = (F (IntKind.i64.wrap (x + (1 : Int)))).pl.length ∧ (F x).pe = (F (IntKind.i64.wrap (x + (1 : Int)))).pe ∧ (F x).pl = (F (IntKind.i64.wrap (x + (1 : Int)))).pl) ∧ (SV.p (0 : Nat) (0 : Nat) =
   SV.p (0 : Nat) (0 : Nat) ∧ True) ∧ (SV.p (0 : Nat) (0 : Nat) = SV.p (0 : Nat) (0 : Nat) ∧ True) ∧ (SV.v (Value.string t) = SV.v (Value.string t) ∧ True) ∧ Obj.deferred (some []) = Obj.deferred (some []) ∧ ((SV.p (7 : Nat) (0 : Nat) = SV.p (7 : Nat)
   (0 : Nat) ∧ True) ∧ #[(10 : Nat)] = #[(10 : Nat)] ∧ codeAt Tryd.f11 [(1 : Nat), (1 : Nat), (1 : Nat), (0 : Nat), (0 : Nat)] = codeAt Tryd.f11 [(1 : Nat), (1 : Nat), (1 : Nat), (0 : Nat), (0 : Nat)] ∧ codeAt Tryd.f11 [(1 : Nat), (1 : Nat), (1 : Nat),
   (0 : Nat), (1 : Nat)] = codeAt Tryd.f11 [(1 : Nat), (1 : Nat), (1 : Nat), (0 : Nat), (1 : Nat)]) ∧ True) ∧ ((↑t.size : Int) - IntKind.i64.wrap (x + (1 : Int))).toNat < ((↑t.size : Int) - x).toNat) (true = true ∧ true = true ∧ (TA (((), (), (F x).G,
   (F x).K, (F x).Ho, (F x).pe), ((F x).r, (F x).c, false, (), ()), oe, RC.mk (F x).l oe (F x).ep, (qe, trF ((u1, u2, G, K, Ho, pe), (r, c, false, u3, u4), oe, RC.mk l oe ep, (qe, fr, n, ov), OI.mk xs m qe, OI.mk pl pl.length pe), (F x).n, (F x).ov),
   OI.mk (F x).xs (trM ((u1, u2, G, K, Ho, pe), (r, c, false, u3, u4), oe, RC.mk l oe ep, (qe, fr, n, ov), OI.mk xs m qe, OI.mk pl pl.length pe)) qe, OI.mk (F x).pl (F x).pl.length (F x).pe) ∧ (0 : Int) ≤ byteAt t x.toNat ∧ byteAt t x.toNat ≤ (255 :
   Int)) ∧ ((0 : Int) ≤ IntKind.i64.wrap (x + (1 : Int)) ∧ IntKind.i64.wrap (x + (1 : Int)) ≤ (↑t.size : Int)) ∧ ((SV.y (11 : Nat) = SV.y (11 : Nat) ∧ SV.p (9 : Nat) (0 : Nat) = SV.p (9 : Nat) (0 : Nat) ∧ SV.p (8 : Nat) (0 : Nat) = SV.p (8 : Nat) (0 :
   Nat) ∧ SV.v (Value.int IntKind.i64 (↑t.size : Int)) = SV.v (Value.int IntKind.i64 (↑t.size : Int)) ∧ SV.v (Value.int IntKind.i64 (IntKind.i64.wrap (x + (1 : Int)))) = SV.v (Value.int IntKind.i64 (IntKind.i64.wrap (x + (1 : Int)))) ∧ True) ∧ (SV.p (1
   : Nat) (0 : Nat) = SV.p (1 : Nat) (0 : Nat) ∧ SV.p (4 : Nat) (0 : Nat) = SV.p (4 : Nat) (0 : Nat) ∧ SV.v (Value.bool (ctX (((), (), (F x).G, (F x).K, (F x).Ho, (F x).pe), ((F x).r, (F x).c, false, (), ()), oe, RC.mk (F x).l oe (F x).ep, (qe, trF
   ((u1, u2, G, K, Ho, pe), (r, c, false, u3, u4), oe, RC.mk l oe ep, (qe, fr, n, ov), OI.mk xs m qe, OI.mk pl pl.length pe), (F x).n, (F x).ov), OI.mk (F x).xs (trM ((u1, u2, G, K, Ho, pe), (r, c, false, u3, u4), oe, RC.mk l oe ep, (qe, fr, n, ov),
   OI.mk xs m qe, OI.mk pl pl.length pe)) qe, OI.mk (F x).pl (F x).pl.length (F x).pe) (byteAt t x.toNat)).G) = SV.v (Value.bool (F (IntKind.i64.wrap (x + (1 : Int)))).G) ∧ SV.v (Value.bool (ctX (((), (), (F x).G, (F x).K, (F x).Ho, (F x).pe), ((F x).r,
   (F x).c, false, (), ()), oe, RC.mk (F x).l oe (F x).ep, (qe, trF ((u1, u2, G, K, Ho, pe), (r, c, false, u3, u4), oe, RC.mk l oe ep, (qe, fr, n, ov), OI.mk xs m qe, OI.mk pl pl.length pe), (F x).n, (F x).ov), OI.mk (F x).xs (trM ((u1, u2, G, K, Ho,
   pe), (r, c, false, u3, u4), oe, RC.mk l oe ep, (qe, fr, n, ov), OI.mk xs m qe, OI.mk pl pl.length pe)) qe, OI.mk (F x).pl (F x).pl.length (F x).pe) (byteAt t x.toNat)).K) = SV.v (Value.bool (F (IntKind.i64.wrap (x + (1 : Int)))).K) ∧ SV.v (Value.bool
   (ctX (((), (), (F x).G, (F x).K, (F x).Ho, (F x).pe), ((F x).r, (F x).c, false, (), ()), oe, RC.mk (F x).l oe (F x).ep, (qe, trF ((u1, u2, G, K, Ho, pe), (r, c, false, u3, u4), oe, RC.mk l oe ep, (qe, fr, n, ov), OI.mk xs m qe, OI.mk pl pl.length
   pe), (F x).n, (F x).ov), OI.mk (F x).xs (trM ((u1, u2, G, K, Ho, pe), (r, c, false, u3, u4), oe, RC.mk l oe ep, (qe, fr, n, ov), OI.mk xs m qe, OI.mk pl pl.length pe)) qe, OI.mk (F x).pl (F x).pl.length (F x).pe) (byteAt t x.toNat)).Ho) = SV.v
   (Value.bool (F (IntKind.i64.wrap (x + (1 : Int)))).Ho) ∧ SV.h (6 : Nat) [(ctX (((), (), (F x).G, (F x).K, (F x).Ho, (F x).pe), ((F x).r, (F x).c, false, (), ()), oe, RC.mk (F x).l oe (F x).ep, (qe, trF ((u1, u2, G, K, Ho, pe), (r, c, false, u3, u4),
   oe, RC.mk l oe ep, (qe, fr, n, ov), OI.mk xs m qe, OI.mk pl pl.length pe), (F x).n, (F x).ov), OI.mk (F x).xs (trM ((u1, u2, G, K, Ho, pe), (r, c, false, u3, u4), oe, RC.mk l oe ep, (qe, fr, n, ov), OI.mk xs m qe, OI.mk pl pl.length pe)) qe, OI.mk (F
   x).pl (F x).pl.length (F x).pe) (byteAt t x.toNat)).pe, (0 : Nat)] = SV.h (6 : Nat) [(F (IntKind.i64.wrap (x + (1 : Int)))).pe, (0 : Nat)] ∧ True) ∧ (SV.v (Value.int IntKind.i64 (ctX (((), (), (F x).G, (F x).K, (F x).Ho, (F x).pe), ((F x).r, (F x).c,
   false, (), ()), oe, RC.mk (F x).l oe (F x).ep, (qe, trF ((u1, u2, G, K, Ho, pe), (r, c, false, u3, u4), oe, RC.mk l oe ep, (qe, fr, n, ov), OI.mk xs m qe, OI.mk pl pl.length pe), (F x).n, (F x).ov), OI.mk (F x).xs (trM ((u1, u2, G, K, Ho, pe), (r, c,
   false, u3, u4), oe, RC.mk l oe ep, (qe, fr, n, ov), OI.mk xs m qe, OI.mk pl pl.length pe)) qe, OI.mk (F x).pl (F x).pl.length (F x).pe) (byteAt t x.toNat)).r) = SV.v (Value.int IntKind.i64 (F (IntKind.i64.wrap (x + (1 : Int)))).r) ∧ SV.v (Value.int
   IntKind.i64 (ctX (((), (), (F x).G, (F x).K, (F x).Ho, (F x).pe), ((F x).r, (F x).c, false, (), ()), oe, RC.mk (F x).l oe (F x).ep, (qe, trF ((u1, u2, G, K, Ho, pe), (r, c, false, u3, u4), oe, RC.mk l oe ep, (qe, fr, n, ov), OI.mk xs m qe, OI.mk pl
   pl.length pe), (F x).n, (F x).ov), OI.mk (F x).xs (trM ((u1, u2, G, K, Ho, pe), (r, c, false, u3, u4), oe, RC.mk l oe ep, (qe, fr, n, ov), OI.mk xs m qe, OI.mk pl pl.length pe)) qe, OI.mk (F x).pl (F x).pl.length (F x).pe) (byteAt t x.toNat)).c) =
   SV.v (Value.int IntKind.i64 (F (IntKind.i64.wrap (x + (1 : Int)))).c) ∧ SV.v (Value.bool false) = SV.v (Value.bool false) ∧ SV.p (2 : Nat) (0 : Nat) = SV.p (2 : Nat) (0 : Nat) ∧ True) ∧ (SV.h (3 : Nat) [oe, (0 : Nat)] = SV.h (3 : Nat) [oe, (0 : Nat)]
   ∧ True) ∧ (oe = oe ∧ (ctX (((), (), (F x).G, (F x).K, (F x).Ho, (F x).pe), ((F x).r, (F x).c, false, (), ()), oe, RC.mk (F x).l oe (F x).ep, (qe, trF ((u1, u2, G, K, Ho, pe), (r, c, false, u3, u4), oe, RC.mk l oe ep, (qe, fr, n, ov), OI.mk xs m qe,
   OI.mk pl pl.length pe), (F x).n, (F x).ov), OI.mk (F x).xs (trM ((u1, u2, G, K, Ho, pe), (r, c, false, u3, u4), oe, RC.mk l oe ep, (qe, fr, n, ov), OI.mk xs m qe, OI.mk pl pl.length pe)) qe, OI.mk (F x).pl (F x).pl.length (F x).pe) (byteAt t
   x.toNat)).ep = (F (IntKind.i64.wrap (x + (1 : Int)))).ep ∧ (ctX (((), (), (F x).G, (F x).K, (F x).Ho, (F x).pe), ((F x).r, (F x).c, false, (), ()), oe, RC.mk (F x).l oe (F x).ep, (qe, trF ((u1, u2, G, K, Ho, pe), (r, c, false, u3, u4), oe, RC.mk l oe
   ep, (qe, fr, n, ov), OI.mk xs m qe, OI.mk pl pl.length pe), (F x).n, (F x).ov), OI.mk (F x).xs (trM ((u1, u2, G, K, Ho, pe), (r, c, false, u3, u4), oe, RC.mk l oe ep, (qe, fr, n, ov), OI.mk xs m qe, OI.mk pl pl.length pe)) qe, OI.mk (F x).pl (F
   x).pl.length (F x).pe) (byteAt t x.toNat)).l = (F (IntKind.i64.wrap (x + (1 : Int)))).l) ∧ (SV.h (5 : Nat) [qe, (0 : Nat)] = SV.h (5 : Nat) [qe, (0 : Nat)] ∧ SV.v (Value.int IntKind.i64 (trF ((u1, u2, G, K, Ho, pe), (r, c, false, u3, u4), oe, RC.mk l
   oe ep, (qe, fr, n, ov), OI.mk xs m qe, OI.mk pl pl.length pe))) = SV.v (Value.int IntKind.i64 (trF ((u1, u2, G, K, Ho, pe), (r, c, false, u3, u4), oe, RC.mk l oe ep, (qe, fr, n, ov), OI.mk xs m qe, OI.mk pl pl.length pe))) ∧ SV.v (Value.int
   IntKind.i64 (ctX (((), (), (F x).G, (F x).K, (F x).Ho, (F x).pe), ((F x).r, (F x).c, false, (), ()), oe, RC.mk (F x).l oe (F x).ep, (qe, trF ((u1, u2, G, K, Ho, pe), (r, c, false, u3, u4), oe, RC.mk l oe ep, (qe, fr, n, ov), OI.mk xs m qe, OI.mk pl
   pl.length pe), (F x).n, (F x).ov), OI.mk (F x).xs (trM ((u1, u2, G, K, Ho, pe), (r, c, false, u3, u4), oe, RC.mk l oe ep, (qe, fr, n, ov), OI.mk xs m qe, OI.mk pl pl.length pe)) qe, OI.mk (F x).pl (F x).pl.length (F x).pe) (byteAt t x.toNat)).n) =
   SV.v (Value.int IntKind.i64 (F (IntKind.i64.wrap (x + (1 : Int)))).n) ∧ SV.v (Value.bool (ctX (((), (), (F x).G, (F x).K, (F x).Ho, (F x).pe), ((F x).r, (F x).c, false, (), ()), oe, RC.mk (F x).l oe (F x).ep, (qe, trF ((u1, u2, G, K, Ho, pe), (r, c,
   false, u3, u4), oe, RC.mk l oe ep, (qe, fr, n, ov), OI.mk xs m qe, OI.mk pl pl.length pe), (F x).n, (F x).ov), OI.mk (F x).xs (trM ((u1, u2, G, K, Ho, pe), (r, c, false, u3, u4), oe, RC.mk l oe ep, (qe, fr, n, ov), OI.mk xs m qe, OI.mk pl pl.length
   pe)) qe, OI.mk (F x).pl (F x).pl.length (F x).pe) (byteAt t x.toNat)).ov) = SV.v (Value.bool (F (IntKind.i64.wrap (x + (1 : Int)))).ov) ∧ True) ∧ (trM ((u1, u2, G, K, Ho, pe), (r, c, false, u3, u4), oe, RC.mk l oe ep, (qe, fr, n, ov), OI.mk xs m qe,
   OI.mk pl pl.length pe) = trM ((u1, u2, G, K, Ho, pe), (r, c, false, u3, u4), oe, RC.mk l oe ep, (qe, fr, n, ov), OI.mk xs m qe, OI.mk pl pl.length pe) ∧ qe = qe ∧ (ctX (((), (), (F x).G, (F x).K, (F x).Ho, (F x).pe), ((F x).r, (F x).c, false, (),
   ()), oe, RC.mk (F x).l oe (F x).ep, (qe, trF ((u1, u2, G, K, Ho, pe), (r, c, false, u3, u4), oe, RC.mk l oe ep, (qe, fr, n, ov), OI.mk xs m qe, OI.mk pl pl.length pe), (F x).n, (F x).ov), OI.mk (F x).xs (trM ((u1, u2, G, K, Ho, pe), (r, c, false, u3,
   u4), oe, RC.mk l oe ep, (qe, fr, n, ov), OI.mk xs m qe, OI.mk pl pl.length pe)) qe, OI.mk (F x).pl (F x).pl.length (F x).pe) (byteAt t x.toNat)).xs = (F (IntKind.i64.wrap (x + (1 : Int)))).xs) ∧ ((ctX (((), (), (F x).G, (F x).K, (F x).Ho, (F x).pe),
   ((F x).r, (F x).c, false, (), ()), oe, RC.mk (F x).l oe (F x).ep, (qe, trF ((u1, u2, G, K, Ho, pe), (r, c, false, u3, u4), oe, RC.mk l oe ep, (qe, fr, n, ov), OI.mk xs m qe, OI.mk pl pl.length pe), (F x).n, (F x).ov), OI.mk (F x).xs (trM ((u1, u2, G,
   K, Ho, pe), (r, c, false, u3, u4), oe, RC.mk l oe ep, (qe, fr, n, ov), OI.mk xs m qe, OI.mk pl pl.length pe)) qe, OI.mk (F x).pl (F x).pl.length (F x).pe) (byteAt t x.toNat)).pl.length = (F (IntKind.i64.wrap (x + (1 : Int)))).pl.length ∧ (ctX (((),
   (), (F x).G, (F x).K, (F x).Ho, (F x).pe), ((F x).r, (F x).c, false, (), ()), oe, RC.mk (F x).l oe (F x).ep, (qe, trF ((u1, u2, G, K, Ho, pe), (r, c, false, u3, u4), oe, RC.mk l oe ep, (qe, fr, n, ov), OI.mk xs m qe, OI.mk pl pl.length pe), (F x).n,
   (F x).ov), OI.mk (F x).xs (trM ((u1, u2, G, K, Ho, pe), (r, c, false, u3, u4), oe, RC.mk l oe ep, (qe, fr, n, ov), OI.mk xs m qe, OI.mk pl pl.length pe)) qe, OI.mk (F x).pl (F x).pl.length (F x).pe) (byteAt t x.toNat)).pe = (F (IntKind.i64.wrap (x +
   (1 : Int)))).pe ∧ (ctX (((), (), (F x).G, (F x).K, (F x).Ho, (F x).pe), ((F x).r, (F x).c, false, (), ()), oe, RC.mk (F x).l oe (F x).ep, (qe, trF ((u1, u2, G, K, Ho, pe), (r, c, false, u3, u4), oe, RC.mk l oe ep, (qe, fr, n, ov), OI.mk xs m qe,
   OI.mk pl pl.length pe), (F x).n, (F x).ov), OI.mk (F x).xs (trM ((u1, u2, G, K, Ho, pe), (r, c, false, u3, u4), oe, RC.mk l oe ep, (qe, fr, n, ov), OI.mk xs m qe, OI.mk pl pl.length pe)) qe, OI.mk (F x).pl (F x).pl.length (F x).pe) (byteAt t
   x.toNat)).pl = (F (IntKind.i64.wrap (x + (1 : Int)))).pl) ∧ (SV.p (0 : Nat) (0 : Nat) = SV.p (0 : Nat) (0 : Nat) ∧ True) ∧ (SV.p (0 : Nat) (0 : Nat) = SV.p (0 : Nat) (0 : Nat) ∧ True) ∧ (SV.v (Value.string t) = SV.v (Value.string t) ∧ True) ∧
   Obj.deferred (some []) = Obj.deferred (some []) ∧ ((SV.p (7 : Nat) (0 : Nat) = SV.p (7 : Nat) (0 : Nat) ∧ True) ∧ #[(10 : Nat)] = #[(10 : Nat)] ∧ codeAt Tryd.f11 [(1 : Nat), (1 : Nat), (1 : Nat), (0 : Nat), (0 : Nat)] = codeAt Tryd.f11 [(1 : Nat), (1
   : Nat), (1 : Nat), (0 : Nat), (0 : Nat)] ∧ codeAt Tryd.f11 [(1 : Nat), (1 : Nat), (1 : Nat), (0 : Nat), (1 : Nat)] = codeAt Tryd.f11 [(1 : Nat), (1 : Nat), (1 : Nat), (0 : Nat), (1 : Nat)]) ∧ True) ∧ ((↑t.size : Int) - IntKind.i64.wrap (x + (1 :
   Int))).toNat < ((↑t.size : Int) - x).toNat))))))) (rq (decide ((0 : Int) ≤ x ∧ x < (↑t.size : Int))) (br (byteAt t x.toNat == (27 : Int)) (((0 : Int) ≤ IntKind.i64.wrap (x + (1 : Int)) ∧ IntKind.i64.wrap (x + (1 : Int)) ≤ (↑t.size : Int)) ∧ ((SV.y
   (11 : Nat) = SV.y (11 : Nat) ∧ SV.p (9 : Nat) (0 : Nat) = SV.p (9 : Nat) (0 : Nat) ∧ SV.p (8 : Nat) (0 : Nat) = SV.p (8 : Nat) (0 : Nat) ∧ SV.v (Value.int IntKind.i64 (↑t.size : Int)) = SV.v (Value.int IntKind.i64 (↑t.size : Int)) ∧ SV.v (Value.int
   IntKind.i64 (IntKind.i64.wrap (x + (1 : Int)))) = SV.v (Value.int IntKind.i64 (IntKind.i64.wrap (x + (1 : Int)))) ∧ True) ∧ (SV.p (1 : Nat) (0 : Nat) = SV.p (1 : Nat) (0 : Nat) ∧ SV.p (4 : Nat) (0 : Nat) = SV.p (4 : Nat) (0 : Nat) ∧ SV.v (Value.bool
   (F x).G) = SV.v (Value.bool (F (IntKind.i64.wrap (x + (1 : Int)))).G) ∧ SV.v (Value.bool (F x).K) = SV.v (Value.bool (F (IntKind.i64.wrap (x + (1 : Int)))).K) ∧ SV.v (Value.bool (F x).Ho) = SV.v (Value.bool (F (IntKind.i64.wrap (x + (1 : Int)))).Ho)
   ∧ SV.h (6 : Nat) [(F x).pe + (1 : Nat), (0 : Nat)] = SV.h (6 : Nat) [(F (IntKind.i64.wrap (x + (1 : Int)))).pe, (0 : Nat)] ∧ True) ∧ (SV.v (Value.int IntKind.i64 (F x).r) = SV.v (Value.int IntKind.i64 (F (IntKind.i64.wrap (x + (1 : Int)))).r) ∧ SV.v
   (Value.int IntKind.i64 (F x).c) = SV.v (Value.int IntKind.i64 (F (IntKind.i64.wrap (x + (1 : Int)))).c) ∧ SV.v (Value.bool false) = SV.v (Value.bool false) ∧ SV.p (2 : Nat) (0 : Nat) = SV.p (2 : Nat) (0 : Nat) ∧ True) ∧ (SV.h (3 : Nat) [oe, (0 :
   Nat)] = SV.h (3 : Nat) [oe, (0 : Nat)] ∧ True) ∧ (oe = oe ∧ (F x).ep = (F (IntKind.i64.wrap (x + (1 : Int)))).ep ∧ (F x).l = (F (IntKind.i64.wrap (x + (1 : Int)))).l) ∧ (SV.h (5 : Nat) [qe, (0 : Nat)] = SV.h (5 : Nat) [qe, (0 : Nat)] ∧ SV.v
   (Value.int IntKind.i64 (trF ((u1, u2, G, K, Ho, pe), (r, c, false, u3, u4), oe, RC.mk l oe ep, (qe, fr, n, ov), OI.mk xs m qe, OI.mk pl pl.length pe))) = SV.v (Value.int IntKind.i64 (trF ((u1, u2, G, K, Ho, pe), (r, c, false, u3, u4), oe, RC.mk l oe
   ep, (qe, fr, n, ov), OI.mk xs m qe, OI.mk pl pl.length pe))) ∧ SV.v (Value.int IntKind.i64 (F x).n) = SV.v (Value.int IntKind.i64 (F (IntKind.i64.wrap (x + (1 : Int)))).n) ∧ SV.v (Value.bool (F x).ov) = SV.v (Value.bool (F (IntKind.i64.wrap (x + (1 :
   Int)))).ov) ∧ True) ∧ (trM ((u1, u2, G, K, Ho, pe), (r, c, false, u3, u4), oe, RC.mk l oe ep, (qe, fr, n, ov), OI.mk xs m qe, OI.mk pl pl.length pe) = trM ((u1, u2, G, K, Ho, pe), (r, c, false, u3, u4), oe, RC.mk l oe ep, (qe, fr, n, ov), OI.mk xs m
   qe, OI.mk pl pl.length pe) ∧ qe = qe ∧ (F x).xs = (F (IntKind.i64.wrap (x + (1 : Int)))).xs) ∧ ((1 : Nat) = (F (IntKind.i64.wrap (x + (1 : Int)))).pl.length ∧ (F x).pe + (1 : Nat) = (F (IntKind.i64.wrap (x + (1 : Int)))).pe ∧ LI [(27 : Int)] = (F
   (IntKind.i64.wrap (x + (1 : Int)))).pl) ∧ (SV.p (0 : Nat) (0 : Nat) = SV.p (0 : Nat) (0 : Nat) ∧ True) ∧ (SV.p (0 : Nat) (0 : Nat) = SV.p (0 : Nat) (0 : Nat) ∧ True) ∧ (SV.v (Value.string t) = SV.v (Value.string t) ∧ True) ∧ Obj.deferred (some []) =
   Obj.deferred (some []) ∧ ((SV.p (7 : Nat) (0 : Nat) = SV.p (7 : Nat) (0 : Nat) ∧ True) ∧ #[(10 : Nat)] = #[(10 : Nat)] ∧ codeAt Tryd.f11 [(1 : Nat), (1 : Nat), (1 : Nat), (0 : Nat), (0 : Nat)] = codeAt Tryd.f11 [(1 : Nat), (1 : Nat), (1 : Nat), (0 :
   Nat), (0 : Nat)] ∧ codeAt Tryd.f11 [(1 : Nat), (1 : Nat), (1 : Nat), (0 : Nat), (1 : Nat)] = codeAt Tryd.f11 [(1 : Nat), (1 : Nat), (1 : Nat), (0 : Nat), (1 : Nat)]) ∧ True) ∧ ((↑t.size : Int) - IntKind.i64.wrap (x + (1 : Int))).toNat < ((↑t.size :
   Int) - x).toNat) (rq ((F x).pe.beq (F x).pe) (br (decide ((↑(F x).pl.length : Int) > (0 : Int))) (true = true ∧ (TA (((), (), (F x).G, (F x).K, (F x).Ho, (F x).pe), ((F x).r, (F x).c, false, (), ()), oe, RC.mk (F x).l oe (F x).ep, (qe, trF ((u1, u2,
   G, K, Ho, pe), (r, c, false, u3, u4), oe, RC.mk l oe ep, (qe, fr, n, ov), OI.mk xs m qe, OI.mk pl pl.length pe), (F x).n, (F x).ov), OI.mk (F x).xs (trM ((u1, u2, G, K, Ho, pe), (r, c, false, u3, u4), oe, RC.mk l oe ep, (qe, fr, n, ov), OI.mk xs m
   qe, OI.mk pl pl.length pe)) qe, OI.mk (F x).pl (F x).pl.length (F x).pe) ∧ (0 : Int) ≤ byteAt t x.toNat ∧ byteAt t x.toNat ≤ (255 : Int) ∧ (1 : Nat) ≤ (F x).pl.length) ∧ ((0 : Int) ≤ IntKind.i64.wrap (x + (1 : Int)) ∧ IntKind.i64.wrap (x + (1 : Int))
   ≤ (↑t.size : Int)) ∧ ((SV.y (11 : Nat) = SV.y (11 : Nat) ∧ SV.p (9 : Nat) (0 : Nat) = SV.p (9 : Nat) (0 : Nat) ∧ SV.p (8 : Nat) (0 : Nat) = SV.p (8 : Nat) (0 : Nat) ∧ SV.v (Value.int IntKind.i64 (↑t.size : Int)) = SV.v (Value.int IntKind.i64 (↑t.size
   : Int)) ∧ SV.v (Value.int IntKind.i64 (IntKind.i64.wrap (x + (1 : Int)))) = SV.v (Value.int IntKind.i64 (IntKind.i64.wrap (x + (1 : Int)))) ∧ True) ∧ (SV.p (1 : Nat) (0 : Nat) = SV.p (1 : Nat) (0 : Nat) ∧ SV.p (4 : Nat) (0 : Nat) = SV.p (4 : Nat) (0
   : Nat) ∧ SV.v (Value.bool (sqX (((), (), (F x).G, (F x).K, (F x).Ho, (F x).pe), ((F x).r, (F x).c, false, (), ()), oe, RC.mk (F x).l oe (F x).ep, (qe, trF ((u1, u2, G, K, Ho, pe), (r, c, false, u3, u4), oe, RC.mk l oe ep, (qe, fr, n, ov), OI.mk xs m
   qe, OI.mk pl pl.length pe), (F x).n, (F x).ov), OI.mk (F x).xs (trM ((u1, u2, G, K, Ho, pe), (r, c, false, u3, u4), oe, RC.mk l oe ep, (qe, fr, n, ov), OI.mk xs m qe, OI.mk pl pl.length pe)) qe, OI.mk (F x).pl (F x).pl.length (F x).pe) (byteAt t
   x.toNat)).G) = SV.v (Value.bool (F (IntKind.i64.wrap (x + (1 : Int)))).G) ∧ SV.v (Value.bool (sqX (((), (), (F x).G, (F x).K, (F x).Ho, (F x).pe), ((F x).r, (F x).c, false, (), ()), oe, RC.mk (F x).l oe (F x).ep, (qe, trF ((u1, u2, G, K, Ho, pe), (r,
   c, false, u3, u4), oe, RC.mk l oe ep, (qe, fr, n, ov), OI.mk xs m qe, OI.mk pl pl.length pe), (F x).n, (F x).ov), OI.mk (F x).xs (trM ((u1, u2, G, K, Ho, pe), (r, c, false, u3, u4), oe, RC.mk l oe ep, (qe, fr, n, ov), OI.mk xs m qe, OI.mk pl
   pl.length pe)) qe, OI.mk (F x).pl (F x).pl.length (F x).pe) (byteAt t x.toNat)).K) = SV.v (Value.bool (F (IntKind.i64.wrap (x + (1 : Int)))).K) ∧ SV.v (Value.bool (sqX (((), (), (F x).G, (F x).K, (F x).Ho, (F x).pe), ((F x).r, (F x).c, false, (),
   ()), oe, RC.mk (F x).l oe (F x).ep, (qe, trF ((u1, u2, G, K, Ho, pe), (r, c, false, u3, u4), oe, RC.mk l oe ep, (qe, fr, n, ov), OI.mk xs m qe, OI.mk pl pl.length pe), (F x).n, (F x).ov), OI.mk (F x).xs (trM ((u1, u2, G, K, Ho, pe), (r, c, false, u3,
   u4), oe, RC.mk l oe ep, (qe, fr, n, ov), OI.mk xs m qe, OI.mk pl pl.length pe)) qe, OI.mk (F x).pl (F x).pl.length (F x).pe) (byteAt t x.toNat)).Ho) = SV.v (Value.bool (F (IntKind.i64.wrap (x + (1 : Int)))).Ho) ∧ SV.h (6 : Nat) [(sqX (((), (), (F
   x).G, (F x).K, (F x).Ho, (F x).pe), ((F x).r, (F x).c, false, (), ()), oe, RC.mk (F x).l oe (F x).ep, (qe, trF ((u1, u2, G, K, Ho, pe), (r, c, false, u3, u4), oe, RC.mk l oe ep, (qe, fr, n, ov), OI.mk xs m qe, OI.mk pl pl.length pe), (F x).n, (F
   x).ov), OI.mk (F x).xs (trM ((u1, u2, G, K, Ho, pe), (r, c, false, u3, u4), oe, RC.mk l oe ep, (qe, fr, n, ov), OI.mk xs m qe, OI.mk pl pl.length pe)) qe, OI.mk (F x).pl (F x).pl.length (F x).pe) (byteAt t x.toNat)).pe, (0 : Nat)] = SV.h (6 : Nat)
   [(F (IntKind.i64.wrap (x + (1 : Int)))).pe, (0 : Nat)] ∧ True) ∧ (SV.v (Value.int IntKind.i64 (sqX (((), (), (F x).G, (F x).K, (F x).Ho, (F x).pe), ((F x).r, (F x).c, false, (), ()), oe, RC.mk (F x).l oe (F x).ep, (qe, trF ((u1, u2, G, K, Ho, pe),
   (r, c, false, u3, u4), oe, RC.mk l oe ep, (qe, fr, n, ov), OI.mk xs m qe, OI.mk pl pl.length pe), (F x).n, (F x).ov), OI.mk (F x).xs (trM ((u1, u2, G, K, Ho, pe), (r, c, false, u3, u4), oe, RC.mk l oe ep, (qe, fr, n, ov), OI.mk xs m qe, OI.mk pl
   pl.length pe)) qe, OI.mk (F x).pl (F x).pl.length (F x).pe) (byteAt t x.toNat)).r) = SV.v (Value.int IntKind.i64 (F (IntKind.i64.wrap (x + (1 : Int)))).r) ∧ SV.v (Value.int IntKind.i64 (sqX (((), (), (F x).G, (F x).K, (F x).Ho, (F x).pe), ((F x).r,
   (F x).c, false, (), ()), oe, RC.mk (F x).l oe (F x).ep, (qe, trF ((u1, u2, G, K, Ho, pe), (r, c, false, u3, u4), oe, RC.mk l oe ep, (qe, fr, n, ov), OI.mk xs m qe, OI.mk pl pl.length pe), (F x).n, (F x).ov), OI.mk (F x).xs (trM ((u1, u2, G, K, Ho,
   pe), (r, c, false, u3, u4), oe, RC.mk l oe ep, (qe, fr, n, ov), OI.mk xs m qe, OI.mk pl pl.length pe)) qe, OI.mk (F x).pl (F x).pl.length (F x).pe) (byteAt t x.toNat)).c) = SV.v (Value.int IntKind.i64 (F (IntKind.i64.wrap (x + (1 : Int)))).c) ∧ SV.v
   (Value.bool false) = SV.v (Value.bool false) ∧ SV.p (2 : Nat) (0 : Nat) = SV.p (2 : Nat) (0 : Nat) ∧ True) ∧ (SV.h (3 : Nat) [oe, (0 : Nat)] = SV.h (3 : Nat) [oe, (0 : Nat)] ∧ True) ∧ (oe = oe ∧ (sqX (((), (), (F x).G, (F x).K, (F x).Ho, (F x).pe),
   ((F x).r, (F x).c, false, (), ()), oe, RC.mk (F x).l oe (F x).ep, (qe, trF ((u1, u2, G, K, Ho, pe), (r, c, false, u3, u4), oe, RC.mk l oe ep, (qe, fr, n, ov), OI.mk xs m qe, OI.mk pl pl.length pe), (F x).n, (F x).ov), OI.mk (F x).xs (trM ((u1, u2, G,
   K, Ho, pe), (r, c, false, u3, u4), oe, RC.mk l oe ep, (qe, fr, n, ov), OI.mk xs m qe, OI.mk pl pl.length pe)) qe, OI.mk (F x).pl (F x).pl.length (F x).pe) (byteAt t x.toNat)).ep = (F (IntKind.i64.wrap (x + (1 : Int)))).ep ∧ (sqX (((), (), (F x).G, (F
   x).K, (F x).Ho, (F x).pe), ((F x).r, (F x).c, false, (), ()), oe, RC.mk (F x).l oe (F x).ep, (qe, trF ((u1, u2, G, K, Ho, pe), (r, c, false, u3, u4), oe, RC.mk l oe ep, (qe, fr, n, ov), OI.mk xs m qe, OI.mk pl pl.length pe), (F x).n, (F x).ov), OI.mk
   (F x).xs (trM ((u1, u2, G, K, Ho, pe), (r, c, false, u3, u4), oe, RC.mk l oe ep, (qe, fr, n, ov), OI.mk xs m qe, OI.mk pl pl.length pe)) qe, OI.mk (F x).pl (F x).pl.length (F x).pe) (byteAt t x.toNat)).l = (F (IntKind.i64.wrap (x + (1 : Int)))).l) ∧
   (SV.h (5 : Nat) [qe, (0 : Nat)] = SV.h (5 : Nat) [qe, (0 : Nat)] ∧ SV.v (Value.int IntKind.i64 (trF ((u1, u2, G, K, Ho, pe), (r, c, false, u3, u4), oe, RC.mk l oe ep, (qe, fr, n, ov), OI.mk xs m qe, OI.mk pl pl.length pe))) = SV.v (Value.int
   IntKind.i64 (trF ((u1, u2, G, K, Ho, pe), (r, c, false, u3, u4), oe, RC.mk l oe ep, (qe, fr, n, ov), OI.mk xs m qe, OI.mk pl pl.length pe))) ∧ SV.v (Value.int IntKind.i64 (sqX (((), (), (F x).G, (F x).K, (F x).Ho, (F x).pe), ((F x).r, (F x).c, false,
   (), ()), oe, RC.mk (F x).l oe (F x).ep, (qe, trF ((u1, u2, G, K, Ho, pe), (r, c, false, u3, u4), oe, RC.mk l oe ep, (qe, fr, n, ov), OI.mk xs m qe, OI.mk pl pl.length pe), (F x).n, (F x).ov), OI.mk (F x).xs (trM ((u1, u2, G, K, Ho, pe), (r, c, false,
   u3, u4), oe, RC.mk l oe ep, (qe, fr, n, ov), OI.mk xs m qe, OI.mk pl pl.length pe)) qe, OI.mk (F x).pl (F x).pl.length (F x).pe) (byteAt t x.toNat)).n) = SV.v (Value.int IntKind.i64 (F (IntKind.i64.wrap (x + (1 : Int)))).n) ∧ SV.v (Value.bool (sqX
   (((), (), (F x).G, (F x).K, (F x).Ho, (F x).pe), ((F x).r, (F x).c, false, (), ()), oe, RC.mk (F x).l oe (F x).ep, (qe, trF ((u1, u2, G, K, Ho, pe), (r, c, false, u3, u4), oe, RC.mk l oe ep, (qe, fr, n, ov), OI.mk xs m qe, OI.mk pl pl.length pe), (F
   x).n, (F x).ov), OI.mk (F x).xs (trM ((u1, u2, G, K, Ho, pe), (r, c, false, u3, u4), oe, RC.mk l oe ep, (qe, fr, n, ov), OI.mk xs m qe, OI.mk pl pl.length pe)) qe, OI.mk (F x).pl (F x).pl.length (F x).pe) (byteAt t x.toNat)).ov) = SV.v (Value.bool (F
   (IntKind.i64.wrap (x + (1 : Int)))).ov) ∧ True) ∧ (trM ((u1, u2, G, K, Ho, pe), (r, c, false, u3, u4), oe, RC.mk l oe ep, (qe, fr, n, ov), OI.mk xs m qe, OI.mk pl pl.length pe) = trM ((u1, u2, G, K, Ho, pe), (r, c, false, u3, u4), oe, RC.mk l oe ep,
   (qe, fr, n, ov), OI.mk xs m qe, OI.mk pl pl.length pe) ∧ qe = qe ∧ (sqX (((), (), (F x).G, (F x).K, (F x).Ho, (F x).pe), ((F x).r, (F x).c, false, (), ()), oe, RC.mk (F x).l oe (F x).ep, (qe, trF ((u1, u2, G, K, Ho, pe), (r, c, false, u3, u4), oe,
   RC.mk l oe ep, (qe, fr, n, ov), OI.mk xs m qe, OI.mk pl pl.length pe), (F x).n, (F x).ov), OI.mk (F x).xs (trM ((u1, u2, G, K, Ho, pe), (r, c, false, u3, u4), oe, RC.mk l oe ep, (qe, fr, n, ov), OI.mk xs m qe, OI.mk pl pl.length pe)) qe, OI.mk (F
   x).pl (F x).pl.length (F x).pe) (byteAt t x.toNat)).xs = (F (IntKind.i64.wrap (x + (1 : Int)))).xs) ∧ ((sqX (((), (), (F x).G, (F x).K, (F x).Ho, (F x).pe), ((F x).r, (F x).c, false, (), ()), oe, RC.mk (F x).l oe (F x).ep, (qe, trF ((u1, u2, G, K,
   Ho, pe), (r, c, false, u3, u4), oe, RC.mk l oe ep, (qe, fr, n, ov), OI.mk xs m qe, OI.mk pl pl.length pe), (F x).n, (F x).ov), OI.mk (F x).xs (trM ((u1, u2, G, K, Ho, pe), (r, c, false, u3, u4), oe, RC.mk l oe ep, (qe, fr, n, ov), OI.mk xs m qe,
   OI.mk pl pl.length pe)) qe, OI.mk (F x).pl (F x).pl.length (F x).pe) (byteAt t x.toNat)).pl.length = (F (IntKind.i64.wrap (x + (1 : Int)))).pl.length ∧ (sqX (((), (), (F x).G, (F x).K, (F x).Ho, (F x).pe), ((F x).r, (F x).c, false, (), ()), oe, RC.mk
   (F x).l oe (F x).ep, (qe, trF ((u1, u2, G, K, Ho, pe), (r, c, false, u3, u4), oe, RC.mk l oe ep, (qe, fr, n, ov), OI.mk xs m qe, OI.mk pl pl.length pe), (F x).n, (F x).ov), OI.mk (F x).xs (trM ((u1, u2, G, K, Ho, pe), (r, c, false, u3, u4), oe, RC.mk
   l oe ep, (qe, fr, n, ov), OI.mk xs m qe, OI.mk pl pl.length pe)) qe, OI.mk (F x).pl (F x).pl.length (F x).pe) (byteAt t x.toNat)).pe = (F (IntKind.i64.wrap (x + (1 : Int)))).pe ∧ (sqX (((), (), (F x).G, (F x).K, (F x).Ho, (F x).pe), ((F x).r, (F
   x).c, false, (), ()), oe, RC.mk (F x).l oe (F x).ep, (qe, trF ((u1, u2, G, K, Ho, pe), (r, c, false, u3, u4), oe, RC.mk l oe ep, (qe, fr, n, ov), OI.mk xs m qe, OI.mk pl pl.length pe), (F x).n, (F x).ov), OI.mk (F x).xs (trM ((u1, u2, G, K, Ho, pe),
   (r, c, false, u3, u4), oe, RC.mk l oe ep, (qe, fr, n, ov), OI.mk xs m qe, OI.mk pl pl.length pe)) qe, OI.mk (F x).pl (F x).pl.length (F x).pe) (byteAt t x.toNat)).pl = (F (IntKind.i64.wrap (x + (1 : Int)))).pl) ∧ (SV.p (0 : Nat) (0 : Nat) = SV.p (0 :
   Nat) (0 : Nat) ∧ True) ∧ (SV.p (0 : Nat) (0 : Nat) = SV.p (0 : Nat) (0 : Nat) ∧ True) ∧ (SV.v (Value.string t) = SV.v (Value.string t) ∧ True) ∧ Obj.deferred (some []) = Obj.deferred (some []) ∧ ((SV.p (7 : Nat) (0 : Nat) = SV.p (7 : Nat) (0 : Nat) ∧
   True) ∧ #[(10 : Nat)] = #[(10 : Nat)] ∧ codeAt Tryd.f11 [(1 : Nat), (1 : Nat), (1 : Nat), (0 : Nat), (0 : Nat)] = codeAt Tryd.f11 [(1 : Nat), (1 : Nat), (1 : Nat), (0 : Nat), (0 : Nat)] ∧ codeAt Tryd.f11 [(1 : Nat), (1 : Nat), (1 : Nat), (0 : Nat),
   (1 : Nat)] = codeAt Tryd.f11 [(1 : Nat), (1 : Nat), (1 : Nat), (0 : Nat), (1 : Nat)]) ∧ True) ∧ ((↑t.size : Int) - IntKind.i64.wrap (x + (1 : Int))).toNat < ((↑t.size : Int) - x).toNat) (br (decide (byteAt t x.toNat ≥ (32 : Int))) (true = true ∧ (TA
   (((), (), (F x).G, (F x).K, (F x).Ho, (F x).pe), ((F x).r, (F x).c, false, (), ()), oe, RC.mk (F x).l oe (F x).ep, (qe, trF ((u1, u2, G, K, Ho, pe), (r, c, false, u3, u4), oe, RC.mk l oe ep, (qe, fr, n, ov), OI.mk xs m qe, OI.mk pl pl.length pe), (F
   x).n, (F x).ov), OI.mk (F x).xs (trM ((u1, u2, G, K, Ho, pe), (r, c, false, u3, u4), oe, RC.mk l oe ep, (qe, fr, n, ov), OI.mk xs m qe, OI.mk pl pl.length pe)) qe, OI.mk (F x).pl (F x).pl.length (F x).pe) ∧ (0 : Int) ≤ byteAt t x.toNat ∧ byteAt t
   x.toNat ≤ (255 : Int)) ∧ ((0 : Int) ≤ IntKind.i64.wrap (x + (1 : Int)) ∧ IntKind.i64.wrap (x + (1 : Int)) ≤ (↑t.size : Int)) ∧ ((SV.y (11 : Nat) = SV.y (11 : Nat) ∧ SV.p (9 : Nat) (0 : Nat) = SV.p (9 : Nat) (0 : Nat) ∧ SV.p (8 : Nat) (0 : Nat) = SV.p
   (8 : Nat) (0 : Nat) ∧ SV.v (Value.int IntKind.i64 (↑t.size : Int)) = SV.v (Value.int IntKind.i64 (↑t.size : Int)) ∧ SV.v (Value.int IntKind.i64 (IntKind.i64.wrap (x + (1 : Int)))) = SV.v (Value.int IntKind.i64 (IntKind.i64.wrap (x + (1 : Int)))) ∧
   True) ∧ (SV.p (1 : Nat) (0 : Nat) = SV.p (1 : Nat) (0 : Nat) ∧ SV.p (4 : Nat) (0 : Nat) = SV.p (4 : Nat) (0 : Nat) ∧ SV.v (Value.bool (F x).G) = SV.v (Value.bool (F (IntKind.i64.wrap (x + (1 : Int)))).G) ∧ SV.v (Value.bool (F x).K) = SV.v (Value.bool
   (F (IntKind.i64.wrap (x + (1 : Int)))).K) ∧ SV.v (Value.bool (F x).Ho) = SV.v (Value.bool (F (IntKind.i64.wrap (x + (1 : Int)))).Ho) ∧ SV.h (6 : Nat) [(F x).pe, (0 : Nat)] = SV.h (6 : Nat) [(F (IntKind.i64.wrap (x + (1 : Int)))).pe, (0 : Nat)] ∧
   True) ∧ (SV.v (Value.int IntKind.i64 (F x).r) = SV.v (Value.int IntKind.i64 (F (IntKind.i64.wrap (x + (1 : Int)))).r) ∧ SV.v (Value.int IntKind.i64 (if (F x).c + (1 : Int) < (↑(nC (F x).l) : Int) then (F x).c + (1 : Int) else (F x).c)) = SV.v
   (Value.int IntKind.i64 (F (IntKind.i64.wrap (x + (1 : Int)))).c) ∧ SV.v (Value.bool false) = SV.v (Value.bool false) ∧ SV.p (2 : Nat) (0 : Nat) = SV.p (2 : Nat) (0 : Nat) ∧ True) ∧ (SV.h (3 : Nat) [oe, (0 : Nat)] = SV.h (3 : Nat) [oe, (0 : Nat)] ∧
   True) ∧ (oe = oe ∧ (F x).ep = (F (IntKind.i64.wrap (x + (1 : Int)))).ep ∧ set2 (F x).l (F x).r (F x).c (C4.mk (glT (F x).G (byteAt t x.toNat)) (0 : Int) false (0 : Int)) = (F (IntKind.i64.wrap (x + (1 : Int)))).l) ∧ (SV.h (5 : Nat) [qe, (0 : Nat)] =
   SV.h (5 : Nat) [qe, (0 : Nat)] ∧ SV.v (Value.int IntKind.i64 (trF ((u1, u2, G, K, Ho, pe), (r, c, false, u3, u4), oe, RC.mk l oe ep, (qe, fr, n, ov), OI.mk xs m qe, OI.mk pl pl.length pe))) = SV.v (Value.int IntKind.i64 (trF ((u1, u2, G, K, Ho, pe),
   (r, c, false, u3, u4), oe, RC.mk l oe ep, (qe, fr, n, ov), OI.mk xs m qe, OI.mk pl pl.length pe))) ∧ SV.v (Value.int IntKind.i64 (F x).n) = SV.v (Value.int IntKind.i64 (F (IntKind.i64.wrap (x + (1 : Int)))).n) ∧ SV.v (Value.bool (F x).ov) = SV.v
   (Value.bool (F (IntKind.i64.wrap (x + (1 : Int)))).ov) ∧ True) ∧ (trM ((u1, u2, G, K, Ho, pe), (r, c, false, u3, u4), oe, RC.mk l oe ep, (qe, fr, n, ov), OI.mk xs m qe, OI.mk pl pl.length pe) = trM ((u1, u2, G, K, Ho, pe), (r, c, false, u3, u4), oe,
   RC.mk l oe ep, (qe, fr, n, ov), OI.mk xs m qe, OI.mk pl pl.length pe) ∧ qe = qe ∧ (F x).xs = (F (IntKind.i64.wrap (x + (1 : Int)))).xs) ∧ ((F x).pl.length = (F (IntKind.i64.wrap (x + (1 : Int)))).pl.length ∧ (F x).pe = (F (IntKind.i64.wrap (x + (1 :
   Int)))).pe ∧ (F x).pl = (F (IntKind.i64.wrap (x + (1 : Int)))).pl) ∧ (SV.p (0 : Nat) (0 : Nat) = SV.p (0 : Nat) (0 : Nat) ∧ True) ∧ (SV.p (0 : Nat) (0 : Nat) = SV.p (0 : Nat) (0 : Nat) ∧ True) ∧ (SV.v (Value.string t) = SV.v (Value.string t) ∧ True)
   ∧ Obj.deferred (some []) = Obj.deferred (some []) ∧ ((SV.p (7 : Nat) (0 : Nat) = SV.p (7 : Nat) (0 : Nat) ∧ True) ∧ #[(10 : Nat)] = #[(10 : Nat)] ∧ codeAt Tryd.f11 [(1 : Nat), (1 : Nat), (1 : Nat), (0 : Nat), (0 : Nat)] = codeAt Tryd.f11 [(1 : Nat),
   (1 : Nat), (1 : Nat), (0 : Nat), (0 : Nat)] ∧ codeAt Tryd.f11 [(1 : Nat), (1 : Nat), (1 : Nat), (0 : Nat), (1 : Nat)] = codeAt Tryd.f11 [(1 : Nat), (1 : Nat), (1 : Nat), (0 : Nat), (1 : Nat)]) ∧ True) ∧ ((↑t.size : Int) - IntKind.i64.wrap (x + (1 :
   Int))).toNat < ((↑t.size : Int) - x).toNat) (true = true ∧ true = true ∧ (TA (((), (), (F x).G, (F x).K, (F x).Ho, (F x).pe), ((F x).r, (F x).c, false, (), ()), oe, RC.mk (F x).l oe (F x).ep, (qe, trF ((u1, u2, G, K, Ho, pe), (r, c, false, u3, u4),
   oe, RC.mk l oe ep, (qe, fr, n, ov), OI.mk xs m qe, OI.mk pl pl.length pe), (F x).n, (F x).ov), OI.mk (F x).xs (trM ((u1, u2, G, K, Ho, pe), (r, c, false, u3, u4), oe, RC.mk l oe ep, (qe, fr, n, ov), OI.mk xs m qe, OI.mk pl pl.length pe)) qe, OI.mk (F
   x).pl (F x).pl.length (F x).pe) ∧ (0 : Int) ≤ byteAt t x.toNat ∧ byteAt t x.toNat ≤ (255 : Int)) ∧ ((0 : Int) ≤ IntKind.i64.wrap (x + (1 : Int)) ∧ IntKind.i64.wrap (x + (1 : Int)) ≤ (↑t.size : Int)) ∧ ((SV.y (11 : Nat) = SV.y (11 : Nat) ∧ SV.p (9 :
   Nat) (0 : Nat) = SV.p (9 : Nat) (0 : Nat) ∧ SV.p (8 : Nat) (0 : Nat) = SV.p (8 : Nat) (0 : Nat) ∧ SV.v (Value.int IntKind.i64 (↑t.size : Int)) = SV.v (Value.int IntKind.i64 (↑t.size : Int)) ∧ SV.v (Value.int IntKind.i64 (IntKind.i64.wrap (x + (1 :
   Int)))) = SV.v (Value.int IntKind.i64 (IntKind.i64.wrap (x + (1 : Int)))) ∧ True) ∧ (SV.p (1 : Nat) (0 : Nat) = SV.p (1 : Nat) (0 : Nat) ∧ SV.p (4 : Nat) (0 : Nat) = SV.p (4 : Nat) (0 : Nat) ∧ SV.v (Value.bool (ctX (((), (), (F x).G, (F x).K, (F
   x).Ho, (F x).pe), ((F x).r, (F x).c, false, (), ()), oe, RC.mk (F x).l oe (F x).ep, (qe, trF ((u1, u2, G, K, Ho, pe), (r, c, false, u3, u4), oe, RC.mk l oe ep, (qe, fr, n, ov), OI.mk xs m qe, OI.mk pl pl.length pe), (F x).n, (F x).ov), OI.mk (F x).xs
   (trM ((u1, u2, G, K, Ho, pe), (r, c, false, u3, u4), oe, RC.mk l oe ep, (qe, fr, n, ov), OI.mk xs m qe, OI.mk pl pl.length pe)) qe, OI.mk (F x).pl (F x).pl.length (F x).pe) (byteAt t x.toNat)).G) = SV.v (Value.bool (F (IntKind.i64.wrap (x + (1 :
   Int)))).G) ∧ SV.v (Value.bool (ctX (((), (), (F x).G, (F x).K, (F x).Ho, (F x).pe), ((F x).r, (F x).c, false, (), ()), oe, RC.mk (F x).l oe (F x).ep, (qe, trF ((u1, u2, G, K, Ho, pe), (r, c, false, u3, u4), oe, RC.mk l oe ep, (qe, fr, n, ov), OI.mk
   xs m qe, OI.mk pl pl.length pe), (F x).n, (F x).ov), OI.mk (F x).xs (trM ((u1, u2, G, K, Ho, pe), (r, c, false, u3, u4), oe, RC.mk l oe ep, (qe, fr, n, ov), OI.mk xs m qe, OI.mk pl pl.length pe)) qe, OI.mk (F x).pl (F x).pl.length (F x).pe) (byteAt t
   x.toNat)).K) = SV.v (Value.bool (F (IntKind.i64.wrap (x + (1 : Int)))).K) ∧ SV.v (Value.bool (ctX (((), (), (F x).G, (F x).K, (F x).Ho, (F x).pe), ((F x).r, (F x).c, false, (), ()), oe, RC.mk (F x).l oe (F x).ep, (qe, trF ((u1, u2, G, K, Ho, pe), (r,
   c, false, u3, u4), oe, RC.mk l oe ep, (qe, fr, n, ov), OI.mk xs m qe, OI.mk pl pl.length pe), (F x).n, (F x).ov), OI.mk (F x).xs (trM ((u1, u2, G, K, Ho, pe), (r, c, false, u3, u4), oe, RC.mk l oe ep, (qe, fr, n, ov), OI.mk xs m qe, OI.mk pl
   pl.length pe)) qe, OI.mk (F x).pl (F x).pl.length (F x).pe) (byteAt t x.toNat)).Ho) = SV.v (Value.bool (F (IntKind.i64.wrap (x + (1 : Int)))).Ho) ∧ SV.h (6 : Nat) [(ctX (((), (), (F x).G, (F x).K, (F x).Ho, (F x).pe), ((F x).r, (F x).c, false, (),
   ()), oe, RC.mk (F x).l oe (F x).ep, (qe, trF ((u1, u2, G, K, Ho, pe), (r, c, false, u3, u4), oe, RC.mk l oe ep, (qe, fr, n, ov), OI.mk xs m qe, OI.mk pl pl.length pe), (F x).n, (F x).ov), OI.mk (F x).xs (trM ((u1, u2, G, K, Ho, pe), (r, c, false, u3,
   u4), oe, RC.mk l oe ep, (qe, fr, n, ov), OI.mk xs m qe, OI.mk pl pl.length pe)) qe, OI.mk (F x).pl (F x).pl.length (F x).pe) (byteAt t x.toNat)).pe, (0 : Nat)] = SV.h (6 : Nat) [(F (IntKind.i64.wrap (x + (1 : Int)))).pe, (0 : Nat)] ∧ True) ∧ (SV.v
   (Value.int IntKind.i64 (ctX (((), (), (F x).G, (F x).K, (F x).Ho, (F x).pe), ((F x).r, (F x).c, false, (), ()), oe, RC.mk (F x).l oe (F x).ep, (qe, trF ((u1, u2, G, K, Ho, pe), (r, c, false, u3, u4), oe, RC.mk l oe ep, (qe, fr, n, ov), OI.mk xs m qe,
   OI.mk pl pl.length pe), (F x).n, (F x).ov), OI.mk (F x).xs (trM ((u1, u2, G, K, Ho, pe), (r, c, false, u3, u4), oe, RC.mk l oe ep, (qe, fr, n, ov), OI.mk xs m qe, OI.mk pl pl.length pe)) qe, OI.mk (F x).pl (F x).pl.length (F x).pe) (byteAt t
   x.toNat)).r) = SV.v (Value.int IntKind.i64 (F (IntKind.i64.wrap (x + (1 : Int)))).r) ∧ SV.v (Value.int IntKind.i64 (ctX (((), (), (F x).G, (F x).K, (F x).Ho, (F x).pe), ((F x).r, (F x).c, false, (), ()), oe, RC.mk (F x).l oe (F x).ep, (qe, trF ((u1,
   u2, G, K, Ho, pe), (r, c, false, u3, u4), oe, RC.mk l oe ep, (qe, fr, n, ov), OI.mk xs m qe, OI.mk pl pl.length pe), (F x).n, (F x).ov), OI.mk (F x).xs (trM ((u1, u2, G, K, Ho, pe), (r, c, false, u3, u4), oe, RC.mk l oe ep, (qe, fr, n, ov), OI.mk xs
   m qe, OI.mk pl pl.length pe)) qe, OI.mk (F x).pl (F x).pl.length (F x).pe) (byteAt t x.toNat)).c) = SV.v (Value.int IntKind.i64 (F (IntKind.i64.wrap (x + (1 : Int)))).c) ∧ SV.v (Value.bool false) = SV.v (Value.bool false) ∧ SV.p (2 : Nat) (0 : Nat) =
   SV.p (2 : Nat) (0 : Nat) ∧ True) ∧ (SV.h (3 : Nat) [oe, (0 : Nat)] = SV.h (3 : Nat) [oe, (0 : Nat)] ∧ True) ∧ (oe = oe ∧ (ctX (((), (), (F x).G, (F x).K, (F x).Ho, (F x).pe), ((F x).r, (F x).c, false, (), ()), oe, RC.mk (F x).l oe (F x).ep, (qe, trF
   ((u1, u2, G, K, Ho, pe), (r, c, false, u3, u4), oe, RC.mk l oe ep, (qe, fr, n, ov), OI.mk xs m qe, OI.mk pl pl.length pe), (F x).n, (F x).ov), OI.mk (F x).xs (trM ((u1, u2, G, K, Ho, pe), (r, c, false, u3, u4), oe, RC.mk l oe ep, (qe, fr, n, ov),
   OI.mk xs m qe, OI.mk pl pl.length pe)) qe, OI.mk (F x).pl (F x).pl.length (F x).pe) (byteAt t x.toNat)).ep = (F (IntKind.i64.wrap (x + (1 : Int)))).ep ∧ (ctX (((), (), (F x).G, (F x).K, (F x).Ho, (F x).pe), ((F x).r, (F x).c, false, (), ()), oe,
   RC.mk (F x).l oe (F x).ep, (qe, trF ((u1, u2, G, K, Ho, pe), (r, c, false, u3, u4), oe, RC.mk l oe ep, (qe, fr, n, ov), OI.mk xs m qe, OI.mk pl pl.length pe), (F x).n, (F x).ov), OI.mk (F x).xs (trM ((u1, u2, G, K, Ho, pe), (r, c, false, u3, u4), oe,
   RC.mk l oe ep, (qe, fr, n, ov), OI.mk xs m qe, OI.mk pl pl.length pe)) qe, OI.mk (F x).pl (F x).pl.length (F x).pe) (byteAt t x.toNat)).l = (F (IntKind.i64.wrap (x + (1 : Int)))).l) ∧ (SV.h (5 : Nat) [qe, (0 : Nat)] = SV.h (5 : Nat) [qe, (0 : Nat)] ∧
   SV.v (Value.int IntKind.i64 (trF ((u1, u2, G, K, Ho, pe), (r, c, false, u3, u4), oe, RC.mk l oe ep, (qe, fr, n, ov), OI.mk xs m qe, OI.mk pl pl.length pe))) = SV.v (Value.int IntKind.i64 (trF ((u1, u2, G, K, Ho, pe), (r, c, false, u3, u4), oe, RC.mk
   l oe ep, (qe, fr, n, ov), OI.mk xs m qe, OI.mk pl pl.length pe))) ∧ SV.v (Value.int IntKind.i64 (ctX (((), (), (F x).G, (F x).K, (F x).Ho, (F x).pe), ((F x).r, (F x).c, false, (), ()), oe, RC.mk (F x).l oe (F x).ep, (qe, trF ((u1, u2, G, K, Ho, pe),
   (r, c, false, u3, u4), oe, RC.mk l oe ep, (qe, fr, n, ov), OI.mk xs m qe, OI.mk pl pl.length pe), (F x).n, (F x).ov), OI.mk (F x).xs (trM ((u1, u2, G, K, Ho, pe), (r, c, false, u3, u4), oe, RC.mk l oe ep, (qe, fr, n, ov), OI.mk xs m qe, OI.mk pl
   pl.length pe)) qe, OI.mk (F x).pl (F x).pl.length (F x).pe) (byteAt t x.toNat)).n) = SV.v (Value.int IntKind.i64 (F (IntKind.i64.wrap (x + (1 : Int)))).n) ∧ SV.v (Value.bool (ctX (((), (), (F x).G, (F x).K, (F x).Ho, (F x).pe), ((F x).r, (F x).c,
   false, (), ()), oe, RC.mk (F x).l oe (F x).ep, (qe, trF ((u1, u2, G, K, Ho, pe), (r, c, false, u3, u4), oe, RC.mk l oe ep, (qe, fr, n, ov), OI.mk xs m qe, OI.mk pl pl.length pe), (F x).n, (F x).ov), OI.mk (F x).xs (trM ((u1, u2, G, K, Ho, pe), (r, c,
   false, u3, u4), oe, RC.mk l oe ep, (qe, fr, n, ov), OI.mk xs m qe, OI.mk pl pl.length pe)) qe, OI.mk (F x).pl (F x).pl.length (F x).pe) (byteAt t x.toNat)).ov) = SV.v (Value.bool (F (IntKind.i64.wrap (x + (1 : Int)))).ov) ∧ True) ∧ (trM ((u1, u2, G,
   K, Ho, pe), (r, c, false, u3, u4), oe, RC.mk l oe ep, (qe, fr, n, ov), OI.mk xs m qe, OI.mk pl pl.length pe) = trM ((u1, u2, G, K, Ho, pe), (r, c, false, u3, u4), oe, RC.mk l oe ep, (qe, fr, n, ov), OI.mk xs m qe, OI.mk pl pl.length pe) ∧ qe = qe ∧
   (ctX (((), (), (F x).G, (F x).K, (F x).Ho, (F x).pe), ((F x).r, (F x).c, false, (), ()), oe, RC.mk (F x).l oe (F x).ep, (qe, trF ((u1, u2, G, K, Ho, pe), (r, c, false, u3, u4), oe, RC.mk l oe ep, (qe, fr, n, ov), OI.mk xs m qe, OI.mk pl pl.length
   pe), (F x).n, (F x).ov), OI.mk (F x).xs (trM ((u1, u2, G, K, Ho, pe), (r, c, false, u3, u4), oe, RC.mk l oe ep, (qe, fr, n, ov), OI.mk xs m qe, OI.mk pl pl.length pe)) qe, OI.mk (F x).pl (F x).pl.length (F x).pe) (byteAt t x.toNat)).xs = (F
   (IntKind.i64.wrap (x + (1 : Int)))).xs) ∧ ((ctX (((), (), (F x).G, (F x).K, (F x).Ho, (F x).pe), ((F x).r, (F x).c, false, (), ()), oe, RC.mk (F x).l oe (F x).ep, (qe, trF ((u1, u2, G, K, Ho, pe), (r, c, false, u3, u4), oe, RC.mk l oe ep, (qe, fr, n,
   ov), OI.mk xs m qe, OI.mk pl pl.length pe), (F x).n, (F x).ov), OI.mk (F x).xs (trM ((u1, u2, G, K, Ho, pe), (r, c, false, u3, u4), oe, RC.mk l oe ep, (qe, fr, n, ov), OI.mk xs m qe, OI.mk pl pl.length pe)) qe, OI.mk (F x).pl (F x).pl.length (F
   x).pe) (byteAt t x.toNat)).pl.length = (F (IntKind.i64.wrap (x + (1 : Int)))).pl.length ∧ (ctX (((), (), (F x).G, (F x).K, (F x).Ho, (F x).pe), ((F x).r, (F x).c, false, (), ()), oe, RC.mk (F x).l oe (F x).ep, (qe, trF ((u1, u2, G, K, Ho, pe), (r, c,
   false, u3, u4), oe, RC.mk l oe ep, (qe, fr, n, ov), OI.mk xs m qe, OI.mk pl pl.length pe), (F x).n, (F x).ov), OI.mk (F x).xs (trM ((u1, u2, G, K, Ho, pe), (r, c, false, u3, u4), oe, RC.mk l oe ep, (qe, fr, n, ov), OI.mk xs m qe, OI.mk pl pl.length
   pe)) qe, OI.mk (F x).pl (F x).pl.length (F x).pe) (byteAt t x.toNat)).pe = (F (IntKind.i64.wrap (x + (1 : Int)))).pe ∧ (ctX (((), (), (F x).G, (F x).K, (F x).Ho, (F x).pe), ((F x).r, (F x).c, false, (), ()), oe, RC.mk (F x).l oe (F x).ep, (qe, trF
   ((u1, u2, G, K, Ho, pe), (r, c, false, u3, u4), oe, RC.mk l oe ep, (qe, fr, n, ov), OI.mk xs m qe, OI.mk pl pl.length pe), (F x).n, (F x).ov), OI.mk (F x).xs (trM ((u1, u2, G, K, Ho, pe), (r, c, false, u3, u4), oe, RC.mk l oe ep, (qe, fr, n, ov),
   OI.mk xs m qe, OI.mk pl pl.length pe)) qe, OI.mk (F x).pl (F x).pl.length (F x).pe) (byteAt t x.toNat)).pl = (F (IntKind.i64.wrap (x + (1 : Int)))).pl) ∧ (SV.p (0 : Nat) (0 : Nat) = SV.p (0 : Nat) (0 : Nat) ∧ True) ∧ (SV.p (0 : Nat) (0 : Nat) = SV.p
   (0 : Nat) (0 : Nat) ∧ True) ∧ (SV.v (Value.string t) = SV.v (Value.string t) ∧ True) ∧ Obj.deferred (some []) = Obj.deferred (some []) ∧ ((SV.p (7 : Nat) (0 : Nat) = SV.p (7 : Nat) (0 : Nat) ∧ True) ∧ #[(10 : Nat)] = #[(10 : Nat)] ∧ codeAt Tryd.f11
   [(1 : Nat), (1 : Nat), (1 : Nat), (0 : Nat), (0 : Nat)] = codeAt Tryd.f11 [(1 : Nat), (1 : Nat), (1 : Nat), (0 : Nat), (0 : Nat)] ∧ codeAt Tryd.f11 [(1 : Nat), (1 : Nat), (1 : Nat), (0 : Nat), (1 : Nat)] = codeAt Tryd.f11 [(1 : Nat), (1 : Nat), (1 :
   Nat), (0 : Nat), (1 : Nat)]) ∧ True) ∧ ((↑t.size : Int) - IntKind.i64.wrap (x + (1 : Int))).toNat < ((↑t.size : Int) - x).toNat))))))))) ((SV.t [] = SV.t [] ∧ True) ∧ (SV.p (1 : Nat) (0 : Nat) = SV.p (1 : Nat) (0 : Nat) ∧ SV.p (4 : Nat) (0 : Nat) =
   SV.p (4 : Nat) (0 : Nat) ∧ SV.v (Value.bool (F x).G) = SV.v (Value.bool (fdX ((u1, u2, G, K, Ho, pe), (r, c, false, u3, u4), oe, RC.mk l oe ep, (qe, fr, n, ov), OI.mk xs m qe, OI.mk pl pl.length pe) t).G) ∧ SV.v (Value.bool (F x).K) = SV.v
   (Value.bool (fdX ((u1, u2, G, K, Ho, pe), (r, c, false, u3, u4), oe, RC.mk l oe ep, (qe, fr, n, ov), OI.mk xs m qe, OI.mk pl pl.length pe) t).K) ∧ SV.v (Value.bool (F x).Ho) = SV.v (Value.bool (fdX ((u1, u2, G, K, Ho, pe), (r, c, false, u3, u4), oe,
   RC.mk l oe ep, (qe, fr, n, ov), OI.mk xs m qe, OI.mk pl pl.length pe) t).Ho) ∧ SV.h (6 : Nat) [(F x).pe, (0 : Nat)] = SV.h (6 : Nat) [(fdX ((u1, u2, G, K, Ho, pe), (r, c, false, u3, u4), oe, RC.mk l oe ep, (qe, fr, n, ov), OI.mk xs m qe, OI.mk pl
   pl.length pe) t).pe, (0 : Nat)] ∧ True) ∧ (SV.v (Value.int IntKind.i64 (F x).r) = SV.v (Value.int IntKind.i64 (fdX ((u1, u2, G, K, Ho, pe), (r, c, false, u3, u4), oe, RC.mk l oe ep, (qe, fr, n, ov), OI.mk xs m qe, OI.mk pl pl.length pe) t).r) ∧ SV.v
   (Value.int IntKind.i64 (F x).c) = SV.v (Value.int IntKind.i64 (fdX ((u1, u2, G, K, Ho, pe), (r, c, false, u3, u4), oe, RC.mk l oe ep, (qe, fr, n, ov), OI.mk xs m qe, OI.mk pl pl.length pe) t).c) ∧ SV.v (Value.bool false) = SV.v (Value.bool false) ∧
   SV.p (2 : Nat) (0 : Nat) = SV.p (2 : Nat) (0 : Nat) ∧ True) ∧ (SV.h (3 : Nat) [oe, (0 : Nat)] = SV.h (3 : Nat) [oe, (0 : Nat)] ∧ True) ∧ (oe = oe ∧ (F x).ep = (fdX ((u1, u2, G, K, Ho, pe), (r, c, false, u3, u4), oe, RC.mk l oe ep, (qe, fr, n, ov),
   OI.mk xs m qe, OI.mk pl pl.length pe) t).ep ∧ (F x).l = (fdX ((u1, u2, G, K, Ho, pe), (r, c, false, u3, u4), oe, RC.mk l oe ep, (qe, fr, n, ov), OI.mk xs m qe, OI.mk pl pl.length pe) t).l) ∧ (SV.h (5 : Nat) [qe, (0 : Nat)] = SV.h (5 : Nat) [qe, (0 :
   Nat)] ∧ SV.v (Value.int IntKind.i64 (trF ((u1, u2, G, K, Ho, pe), (r, c, false, u3, u4), oe, RC.mk l oe ep, (qe, fr, n, ov), OI.mk xs m qe, OI.mk pl pl.length pe))) = SV.v (Value.int IntKind.i64 fr) ∧ SV.v (Value.int IntKind.i64 (F x).n) = SV.v
   (Value.int IntKind.i64 (fdX ((u1, u2, G, K, Ho, pe), (r, c, false, u3, u4), oe, RC.mk l oe ep, (qe, fr, n, ov), OI.mk xs m qe, OI.mk pl pl.length pe) t).n) ∧ SV.v (Value.bool (F x).ov) = SV.v (Value.bool (fdX ((u1, u2, G, K, Ho, pe), (r, c, false,
   u3, u4), oe, RC.mk l oe ep, (qe, fr, n, ov), OI.mk xs m qe, OI.mk pl pl.length pe) t).ov) ∧ True) ∧ (trM ((u1, u2, G, K, Ho, pe), (r, c, false, u3, u4), oe, RC.mk l oe ep, (qe, fr, n, ov), OI.mk xs m qe, OI.mk pl pl.length pe) = m ∧ qe = qe ∧ (F
   x).xs = (fdX ((u1, u2, G, K, Ho, pe), (r, c, false, u3, u4), oe, RC.mk l oe ep, (qe, fr, n, ov), OI.mk xs m qe, OI.mk pl pl.length pe) t).xs) ∧ ((F x).pl.length = (fdX ((u1, u2, G, K, Ho, pe), (r, c, false, u3, u4), oe, RC.mk l oe ep, (qe, fr, n,
   ov), OI.mk xs m qe, OI.mk pl pl.length pe) t).pl.length ∧ (F x).pe = (fdX ((u1, u2, G, K, Ho, pe), (r, c, false, u3, u4), oe, RC.mk l oe ep, (qe, fr, n, ov), OI.mk xs m qe, OI.mk pl pl.length pe) t).pe ∧ (F x).pl = (fdX ((u1, u2, G, K, Ho, pe), (r,
   c, false, u3, u4), oe, RC.mk l oe ep, (qe, fr, n, ov), OI.mk xs m qe, OI.mk pl pl.length pe) t).pl) ∧ True)) (fdF ((u1, u2, G, K, Ho, pe), (r, c, false, u3, u4), oe, RC.mk l oe ep, (qe, fr, n, ov), OI.mk xs m qe, OI.mk pl pl.length pe) t))) (by
   kernel_rfl) ?_
  clear hp hφ
  have hb := bytesL_range t
  generalize hF : fdF ((u1, u2, G, K, Ho, pe), (r, c, false, u3, u4), oe, RC.mk l oe ep, (qe, fr, n, ov), OI.mk xs m qe, OI.mk pl pl.length pe) t = F
  have eS : ∀ i : Int, 0 ≤ i → i < t.size → F (i + 1) = byT m fr (F i) (byteAt t i.toNat) := by subst hF; exact fun i h0 h1 => feedT_succ _ _ _ h0 h1
  have eT : ∀ i : Int, TI fr m (F i) := by subst hF; exact fun i => (tp_feed _ hI (byteR_take hb _)).ti
  have eE : F t.size = fdX ((u1, u2, G, K, Ho, pe), (r, c, false, u3, u4), oe, RC.mk l oe ep, (qe, fr, n, ov), OI.mk xs m qe, OI.mk pl pl.length pe) t := by subst hF; exact feedT_all _ _ _ _
  clear hF
  simp only [trM, trF, tmS]
  refine ⟨by simp, by simp, fun x hx => ?_⟩
  obtain ⟨hx0, hx1⟩ : (0 : Int) ≤ x ∧ (x : Int) ≤ t.size := hx
  have hT := eT x
  refine br_intro (fun hlt => ?_) (fun hge => ?_)
  · have hlt : x < (t.size : Int) := of_decide_eq_true hlt
    have e := eS x hx0 hlt
    have hbx := byteAt_range t x.toNat
    have hxr : (decide (0 ≤ x ∧ x < (t.size : Int))) = true := decide_eq_true ⟨hx0, hlt⟩
    rw [wrap64 (x := x + 1) (by omega) (by omega), e]
    have hmu : ((t.size : Int) - (x + 1)).toNat < ((t.size : Int) - x).toNat := by omega
    have hbd : 0 ≤ x + 1 ∧ x + 1 ≤ (t.size : Int) := by omega
    clear eS eT eE
    generalize byteAt t x.toNat = b at hbx ⊢
    generalize F x = s at hT ⊢
    obtain ⟨r, c, l, ep, G, K, Ho, n, ov, xs, pe, pl⟩ := s
    have hTA : TA (((), (), G, K, Ho, pe), (r, c, false, (), ()), oe, RC.mk l oe ep, (qe, fr, n, ov), OI.mk xs m qe, OI.mk pl pl.length pe) := ⟨rfl, rfl, rfl, rfl, rfl, hT⟩
    have hsq : sqX (((), (), G, K, Ho, pe), (r, c, false, (), ()), oe, RC.mk l oe ep, (qe, fr, n, ov), OI.mk xs m qe, OI.mk pl pl.length pe) b = sqT m fr ⟨r, c, l, ep, G, K, Ho, n, ov, xs, pe, pl⟩ b := rfl
    have hct : ctX (((), (), G, K, Ho, pe), (r, c, false, (), ()), oe, RC.mk l oe ep, (qe, fr, n, ov), OI.mk xs m qe, OI.mk pl pl.length pe) b = ctT ⟨r, c, l, ep, G, K, Ho, n, ov, xs, pe, pl⟩ b := rfl
    simp only [hsq, hct]
    have h27 : byT m fr ⟨r, c, l, ep, G, K, Ho, n, ov, xs, pe, pl⟩ b = if pl.length = 0 ∧ b > 126 then ⟨r, c, l, ep, G, K, Ho, n, ov, xs, pe, pl⟩ else if b = 27 then ⟨r, c, l, ep, G, K, Ho, n, ov, xs, pe + 1, [27]⟩ else if 0 < pl.length then sqT m fr
     ⟨r, c, l, ep, G, K, Ho, n, ov, xs, pe, pl⟩ b else if 32 ≤ b then puT ⟨r, c, l, ep, G, K, Ho, n, ov, xs, pe, pl⟩ b else ctT ⟨r, c, l, ep, G, K, Ho, n, ov, xs, pe, pl⟩ b := rfl
    generalize byT m fr ⟨r, c, l, ep, G, K, Ho, n, ov, xs, pe, pl⟩ b = B at h27 ⊢
    have hY : ∀ {P1 P2 P3 P4 : Prop}, ¬ (pl.length = 0 ∧ b > 126) → (b = 27 → B = ⟨r, c, l, ep, G, K, Ho, n, ov, xs, pe + 1, [27]⟩ → P1) → (0 < pl.length → B = sqT m fr ⟨r, c, l, ep, G, K, Ho, n, ov, xs, pe, pl⟩ b → P2) → (pl.length = 0 → B = puT ⟨r, c, l, ep, G, K, Ho, n, ov, xs, pe, pl⟩ b → P3) → (pl.length = 0 → B = ctT ⟨r, c, l, ep, G, K, Ho, n, ov, xs, pe, pl⟩ b → P4) →
        br (b == 27) P1 (rq (Nat.beq pe pe) (br (decide ((pl.length : Int) > 0)) P2 (br (decide (b ≥ 32)) P3 P4))) := by
      intro P1 P2 P3 P4 h1 q1 q2 q3 q4
      rw [if_neg h1] at h27
      refine br_intro (fun h3 => ?_) (fun h3 => rq_t (by simp) (br_intro (fun h4 => ?_) (fun h4 => br_intro (fun h5 => ?_) (fun h5 => ?_))))
      · have h3 : b = 27 := by simpa using h3
        exact q1 h3 (by rw [h27, if_pos h3])
      · have h3 : ¬ b = 27 := by simpa using h3
        have h4 : 0 < pl.length := by simpa using h4
        exact q2 h4 (by rw [h27, if_neg h3, if_pos h4])
      · have h3 : ¬ b = 27 := by simpa using h3
        have h4 : pl.length = 0 := by have : ¬ (pl.length : Int) > 0 := of_decide_eq_false h4; omega
        have h5 : b ≥ 32 := of_decide_eq_true h5
        exact q3 h4 (by rw [h27, if_neg h3, if_neg (by omega), if_pos h5])
      · have h3 : ¬ b = 27 := by simpa using h3
        have h4 : pl.length = 0 := by have : ¬ (pl.length : Int) > 0 := of_decide_eq_false h4; omega
        have h5 : ¬ b ≥ 32 := of_decide_eq_false h5
        exact q4 h4 (by rw [h27, if_neg h3, if_neg (by omega), if_neg h5])
    refine rq_t hxr (rq_t (by simp) (br_intro (fun h1 => br_intro (fun h2 => ?_) (fun h2 => rq_t hxr (hY ?_ ?_ ?_ ?_ ?_))) (fun h1 => rq_t hxr (hY ?_ ?_ ?_ ?_ ?_))))
    · have h1 : pl.length = 0 := by simpa using h1
      have h2 : b > 126 := of_decide_eq_true h2
      rw [if_pos ⟨h1, h2⟩] at h27
      clear hY hsq hct hTA
      subst h27
      simp [hmu, hbd]
    · have h2 : ¬ b > 126 := of_decide_eq_false h2
      exact fun h => h2 h.2
    · intro _ hB
      clear hY hsq hct hTA h27
      subst hB
      simp [hmu, hbd]
    · intro h5 hB
      clear hY hsq hct h27
      rw [hB]
      have h7 : 1 ≤ pl.length := h5
      simp [hTA, hmu, hbd, hbx, h7]
    · intro h5 hB
      clear hY hsq hct h27
      subst hB
      simp [puT, hTA, hmu, hbd, hbx]
    · intro h5 hB
      clear hY hsq hct h27
      subst hB
      simp [hTA, hmu, hbd, hbx]
    · have h1 : ¬ pl.length = 0 := by simpa using h1
      exact fun h => h1 h.1
    · intro _ hB
      clear hY hsq hct hTA h27
      subst hB
      simp [hmu, hbd]
    · intro h5 hB
      clear hY hsq hct h27
      rw [hB]
      have h7 : 1 ≤ pl.length := h5
      simp [hTA, hmu, hbd, hbx, h7]
    · intro h5 hB
      clear hY hsq hct h27
      subst hB
      simp [puT, hTA, hmu, hbd, hbx]
    · intro h5 hB
      clear hY hsq hct h27
      subst hB
      simp [hTA, hmu, hbd, hbx]
  · have hge : ¬ (x : Int) < (t.size : Int) := of_decide_eq_false hge
    obtain rfl : x = (t.size : Int) := by omega
    rw [eE]
    simp
end Go.Proofs.YtcbjgpkbfmmdpaaDoor
