/- Layer 12: a byte of a sequence: contract. -/
import Derived.Test.YtcbjgpkbfmmdpaaDoorHbE
set_option linter.unusedSimpArgs false
set_option linter.unusedVariables false
set_option linter.unusedSectionVars false
namespace Go.Proofs.YtcbjgpkbfmmdpaaDoor
open Go Go.Sym

/-- The reply, if there is room. -/
def zT (m : Nat) (fr : Int) (s : Tm) : Tm := if s.n + 3 > m then { s with ov := true } else { s with n := s.n + 3, xs := putL m s.xs (fr + s.n) [27, 47, 75] }
/-- The byte behind an ESC. -/
def twoT (m : Nat) (fr : Int) (s : Tm) (b : Int) : Tm :=
  if b = 65 then stT s (-1) 0
  else if b = 66 then stT s 1 0
  else if b = 67 then stT s 0 1
  else if b = 68 then stT s 0 (-1)
  else if b = 72 then moT s 0 0
  else if b = 73 then ixT s
  else if b = 74 then wpT s s.r s.c ((s.l.length : Int) - 1) ((nC s.l : Int) - 1)
  else if b = 75 then wpT s s.r s.c s.r ((nC s.l : Int) - 1)
  else if b = 70 then { s with G := true }
  else if b = 71 then { s with G := false }
  else if b = 61 then { s with K := true }
  else if b = 62 then { s with K := false }
  else if b = 91 then { s with Ho := true }
  else if b = 92 then { s with Ho := false }
  else if b = 90 then zT m fr s
  else s
def sqT (m : Nat) (fr : Int) (s : Tm) (b : Int) : Tm :=
  if (s.pl.length = 1 ∧ b = 89) ∨ s.pl.length = 2 then { s with pl := s.pl ++ [b], pe := s.pe + 1 }
  else if s.pl.length = 1 then twoT m fr { s with pl := [], pe := s.pe + 2 } b
  else plT { s with pl := [], pe := s.pe + 2 } (s.pl.getD 2 0 - 32) (b - 32)
/-- What is pending is nothing: seen as the next epoch of its item. -/
def annNil (keep : List Nat) (G K Ho : Bool) (e : Nat) : Ann Unit where
  α := Nat
  φ _ _ := True
  μ _ _ := 0
  get _ := some 0
  f st _ := tmpl keep [] [(0, .cells [.p 1 0, .p 4 0, .v (.bool G), .v (.bool K), .v (.bool Ho), .h 6 [e, 0]] 69), (6, .own (.ints .u8 []) 0 5 1 e false)] st
  fx _ := [.nilInto 0 5 6]
def tabU12 : List (Nat × ACon Unit) := (44, lcTTab) :: (65, lcTIdx) :: (40, lcTPlace) :: (26, lcTPut) :: (75, lcPush1) :: tabT12
theorem tabU12_ok : LCs Tryd.prog tabU12 := ⟨ok_tTab, ok_tIdx, ok_tPlace, ok_tPut, ok_push1, tabT12_ok⟩
def trM (x : TR) : Nat := match x with
  | (_, _, _, _, _, ⟨_, m, _⟩, _) => m
def trF (x : TR) : Int := match x with
  | (_, _, _, _, (_, fr, _, _), _, _) => fr
def sqX (x : TR) (b : Int) : Tm := sqT (trM x) (trF x) (tmS x) b
def lcTSeq : ACon Unit := mkLC (decP (shCons (shP 0) (shOne (shInt .u8))) (shTm 0)) fun ((_, b), x) => .ask (TA x ∧ 0 ≤ b ∧ b ≤ 255 ∧ 1 ≤ (tmS x).pl.length) (.one (.t []) (tmE 0 x (sqX x b)) [0, 1, 3, 4, 5, 6])
set_option maxHeartbeats 4000000 in
theorem ok_tSeq : ∀ I : Sym.Inv Unit, LCOk I Tryd.prog 25 lcTSeq := by
  refine lc_mk (fun (_, x) => allCfg Tryd.prog purT tabU12 20 [] [(388, annNil [0, 1] (tmS x).G (tmS x).K (tmS x).Ho ((tmS x).pe + 2)), (580, annNil [0, 1, 5] (tmS x).G (tmS x).K (tmS x).Ho ((tmS x).pe + 2))]) (fun _ _ => allCfg_ok mixed purT_ok tabU12_ok) (fun _ => rfl) (n := 90) Tryd.func25 ?_
  intro ⟨⟨u0, b⟩, ⟨u1, u2, G, K, Ho, pe⟩, ⟨r, c, p, u3, u4⟩, oe, ⟨l, oe2, ep⟩, ⟨qe, fr, n, ov⟩, ⟨xs, m, qe2⟩, ⟨pl, pn, pe2⟩⟩ hφ
  obtain ⟨⟨⟨rfl, rfl, rfl, rfl, rfl, hI⟩, hb0, hb1, hl1⟩, hp⟩ := id hφ
  refine kcast (B := ((fun S : Tm => rq (pe.beq pe && (true && decide (pl.length + (1 : Nat) ≤ (9223372036854775807 : Nat) ∧ (pl.length + (1 : Nat)) * (1 : Nat) ≤ (140737488355328 : Nat)))) (rq ((pe + (1 : Nat)).beq (pe + (1 : Nat))) (br
   ((↑(pl.length + (1 : Nat)) : Int) == (2 : Int)) (br (b == (89 : Int)) ((SV.t [] = SV.t [] ∧ True) ∧ (SV.p (1 : Nat) (0 : Nat) = SV.p (1 : Nat) (0 : Nat) ∧ SV.p (4 : Nat) (0 : Nat) = SV.p (4 : Nat) (0 : Nat) ∧ SV.v (Value.bool G) = SV.v (Value.bool
   S.G) ∧ SV.v (Value.bool K) = SV.v (Value.bool S.K) ∧ SV.v (Value.bool Ho) = SV.v (Value.bool S.Ho) ∧ SV.h (6 : Nat) [pe + (1 : Nat), (0 : Nat)] = SV.h (6 : Nat) [S.pe, (0 : Nat)] ∧ True) ∧ (SV.v (Value.int IntKind.i64 r) = SV.v (Value.int IntKind.i64
   S.r) ∧ SV.v (Value.int IntKind.i64 c) = SV.v (Value.int IntKind.i64 S.c) ∧ SV.v (Value.bool false) = SV.v (Value.bool false) ∧ SV.p (2 : Nat) (0 : Nat) = SV.p (2 : Nat) (0 : Nat) ∧ True) ∧ (SV.h (3 : Nat) [oe, (0 : Nat)] = SV.h (3 : Nat) [oe, (0 :
   Nat)] ∧ True) ∧ (oe = oe ∧ ep = S.ep ∧ l = S.l) ∧ (SV.h (5 : Nat) [qe, (0 : Nat)] = SV.h (5 : Nat) [qe, (0 : Nat)] ∧ SV.v (Value.int IntKind.i64 fr) = SV.v (Value.int IntKind.i64 fr) ∧ SV.v (Value.int IntKind.i64 n) = SV.v (Value.int IntKind.i64 S.n)
   ∧ SV.v (Value.bool ov) = SV.v (Value.bool S.ov) ∧ True) ∧ (m = m ∧ qe = qe ∧ xs = S.xs) ∧ (pl.length + (1 : Nat) = S.pl.length ∧ pe + (1 : Nat) = S.pe ∧ pl ++ intsOf (List.take (1 : Nat) (List.drop (0 : Nat) (setAll (List.map (fun i => SV.v
   (Value.int IntKind.u8 (0 : Int)).cells[i % (1 : Nat)]!) (List.range (1 : Nat))) (0 : Nat) [SV.v (Value.int IntKind.u8 b)]))) = S.pl) ∧ True) (br ((↑(pl.length + (1 : Nat)) : Int) == (3 : Int)) ((SV.t [] = SV.t [] ∧ True) ∧ (SV.p (1 : Nat) (0 : Nat) =
   SV.p (1 : Nat) (0 : Nat) ∧ SV.p (4 : Nat) (0 : Nat) = SV.p (4 : Nat) (0 : Nat) ∧ SV.v (Value.bool G) = SV.v (Value.bool S.G) ∧ SV.v (Value.bool K) = SV.v (Value.bool S.K) ∧ SV.v (Value.bool Ho) = SV.v (Value.bool S.Ho) ∧ SV.h (6 : Nat) [pe + (1 :
   Nat), (0 : Nat)] = SV.h (6 : Nat) [S.pe, (0 : Nat)] ∧ True) ∧ (SV.v (Value.int IntKind.i64 r) = SV.v (Value.int IntKind.i64 S.r) ∧ SV.v (Value.int IntKind.i64 c) = SV.v (Value.int IntKind.i64 S.c) ∧ SV.v (Value.bool false) = SV.v (Value.bool false) ∧
   SV.p (2 : Nat) (0 : Nat) = SV.p (2 : Nat) (0 : Nat) ∧ True) ∧ (SV.h (3 : Nat) [oe, (0 : Nat)] = SV.h (3 : Nat) [oe, (0 : Nat)] ∧ True) ∧ (oe = oe ∧ ep = S.ep ∧ l = S.l) ∧ (SV.h (5 : Nat) [qe, (0 : Nat)] = SV.h (5 : Nat) [qe, (0 : Nat)] ∧ SV.v
   (Value.int IntKind.i64 fr) = SV.v (Value.int IntKind.i64 fr) ∧ SV.v (Value.int IntKind.i64 n) = SV.v (Value.int IntKind.i64 S.n) ∧ SV.v (Value.bool ov) = SV.v (Value.bool S.ov) ∧ True) ∧ (m = m ∧ qe = qe ∧ xs = S.xs) ∧ (pl.length + (1 : Nat) =
   S.pl.length ∧ pe + (1 : Nat) = S.pe ∧ pl ++ intsOf (List.take (1 : Nat) (List.drop (0 : Nat) (setAll (List.map (fun i => SV.v (Value.int IntKind.u8 (0 : Int)).cells[i % (1 : Nat)]!) (List.range (1 : Nat))) (0 : Nat) [SV.v (Value.int IntKind.u8 b)])))
   = S.pl) ∧ True) (br ((↑(pl.length + (1 : Nat)) : Int) == (2 : Int)) ((True ∧ (SV.p (0 : Nat) (0 : Nat) = SV.p (0 : Nat) (0 : Nat) ∧ SV.v (Value.int IntKind.u8 b) = SV.v (Value.int IntKind.u8 b) ∧ True) ∧ (SV.p (1 : Nat) (0 : Nat) = SV.p (1 : Nat) (0
   : Nat) ∧ SV.p (4 : Nat) (0 : Nat) = SV.p (4 : Nat) (0 : Nat) ∧ SV.v (Value.bool G) = SV.v (Value.bool G) ∧ SV.v (Value.bool K) = SV.v (Value.bool K) ∧ SV.v (Value.bool Ho) = SV.v (Value.bool Ho) ∧ SV.h (6 : Nat) [pe + (1 : Nat) + (1 : Nat), (0 :
   Nat)] = SV.h (6 : Nat) [pe + (2 : Nat), (0 : Nat)] ∧ True) ∧ (SV.v (Value.int IntKind.i64 r) = SV.v (Value.int IntKind.i64 r) ∧ SV.v (Value.int IntKind.i64 c) = SV.v (Value.int IntKind.i64 c) ∧ SV.v (Value.bool false) = SV.v (Value.bool false) ∧ SV.p
   (2 : Nat) (0 : Nat) = SV.p (2 : Nat) (0 : Nat) ∧ True) ∧ (SV.h (3 : Nat) [oe, (0 : Nat)] = SV.h (3 : Nat) [oe, (0 : Nat)] ∧ True) ∧ (oe = oe ∧ ep = ep ∧ l = l) ∧ (SV.h (5 : Nat) [qe, (0 : Nat)] = SV.h (5 : Nat) [qe, (0 : Nat)] ∧ SV.v (Value.int
   IntKind.i64 fr) = SV.v (Value.int IntKind.i64 fr) ∧ SV.v (Value.int IntKind.i64 n) = SV.v (Value.int IntKind.i64 n) ∧ SV.v (Value.bool ov) = SV.v (Value.bool ov) ∧ True) ∧ (m = m ∧ qe = qe ∧ xs = xs) ∧ ((0 : Nat) = (0 : Nat) ∧ pe + (1 : Nat) + (1 :
   Nat) = pe + (2 : Nat) ∧ LI [] = LI []) ∧ (SV.v (Value.int IntKind.u8 b) = SV.v (Value.int IntKind.u8 b) ∧ True) ∧ True) ∧ ∀ (x : Nat), True → br ((65 : Int) == b) (true = true ∧ (oe = oe ∧ GW l) ∧ (SV.t [] = SV.t [] ∧ True) ∧ (SV.p (1 : Nat) (0 :
   Nat) = SV.p (1 : Nat) (0 : Nat) ∧ SV.p (4 : Nat) (0 : Nat) = SV.p (4 : Nat) (0 : Nat) ∧ SV.v (Value.bool G) = SV.v (Value.bool S.G) ∧ SV.v (Value.bool K) = SV.v (Value.bool S.K) ∧ SV.v (Value.bool Ho) = SV.v (Value.bool S.Ho) ∧ SV.h (6 : Nat) [pe +
   (2 : Nat), (0 : Nat)] = SV.h (6 : Nat) [S.pe, (0 : Nat)] ∧ True) ∧ (SV.v (Value.int IntKind.i64 (stI r (-1 : Int) (↑l.length : Int))) = SV.v (Value.int IntKind.i64 S.r) ∧ SV.v (Value.int IntKind.i64 (stI c (0 : Int) (↑(nC l) : Int))) = SV.v
   (Value.int IntKind.i64 S.c) ∧ SV.v (Value.bool false) = SV.v (Value.bool false) ∧ SV.p (2 : Nat) (0 : Nat) = SV.p (2 : Nat) (0 : Nat) ∧ True) ∧ (SV.h (3 : Nat) [oe, (0 : Nat)] = SV.h (3 : Nat) [oe, (0 : Nat)] ∧ True) ∧ (oe = oe ∧ ep = S.ep ∧ l = S.l)
   ∧ (SV.h (5 : Nat) [qe, (0 : Nat)] = SV.h (5 : Nat) [qe, (0 : Nat)] ∧ SV.v (Value.int IntKind.i64 fr) = SV.v (Value.int IntKind.i64 fr) ∧ SV.v (Value.int IntKind.i64 n) = SV.v (Value.int IntKind.i64 S.n) ∧ SV.v (Value.bool ov) = SV.v (Value.bool S.ov)
   ∧ True) ∧ (m = m ∧ qe = qe ∧ xs = S.xs) ∧ ((0 : Nat) = S.pl.length ∧ pe + (2 : Nat) = S.pe ∧ LI [] = S.pl) ∧ True) (br ((66 : Int) == b) (true = true ∧ (oe = oe ∧ GW l) ∧ (SV.t [] = SV.t [] ∧ True) ∧ (SV.p (1 : Nat) (0 : Nat) = SV.p (1 : Nat) (0 :
   Nat) ∧ SV.p (4 : Nat) (0 : Nat) = SV.p (4 : Nat) (0 : Nat) ∧ SV.v (Value.bool G) = SV.v (Value.bool S.G) ∧ SV.v (Value.bool K) = SV.v (Value.bool S.K) ∧ SV.v (Value.bool Ho) = SV.v (Value.bool S.Ho) ∧ SV.h (6 : Nat) [pe + (2 : Nat), (0 : Nat)] = SV.h
   (6 : Nat) [S.pe, (0 : Nat)] ∧ True) ∧ (SV.v (Value.int IntKind.i64 (stI r (1 : Int) (↑l.length : Int))) = SV.v (Value.int IntKind.i64 S.r) ∧ SV.v (Value.int IntKind.i64 (stI c (0 : Int) (↑(nC l) : Int))) = SV.v (Value.int IntKind.i64 S.c) ∧ SV.v
   (Value.bool false) = SV.v (Value.bool false) ∧ SV.p (2 : Nat) (0 : Nat) = SV.p (2 : Nat) (0 : Nat) ∧ True) ∧ (SV.h (3 : Nat) [oe, (0 : Nat)] = SV.h (3 : Nat) [oe, (0 : Nat)] ∧ True) ∧ (oe = oe ∧ ep = S.ep ∧ l = S.l) ∧ (SV.h (5 : Nat) [qe, (0 : Nat)]
   = SV.h (5 : Nat) [qe, (0 : Nat)] ∧ SV.v (Value.int IntKind.i64 fr) = SV.v (Value.int IntKind.i64 fr) ∧ SV.v (Value.int IntKind.i64 n) = SV.v (Value.int IntKind.i64 S.n) ∧ SV.v (Value.bool ov) = SV.v (Value.bool S.ov) ∧ True) ∧ (m = m ∧ qe = qe ∧ xs =
   S.xs) ∧ ((0 : Nat) = S.pl.length ∧ pe + (2 : Nat) = S.pe ∧ LI [] = S.pl) ∧ True) (br ((67 : Int) == b) (true = true ∧ (oe = oe ∧ GW l) ∧ (SV.t [] = SV.t [] ∧ True) ∧ (SV.p (1 : Nat) (0 : Nat) = SV.p (1 : Nat) (0 : Nat) ∧ SV.p (4 : Nat) (0 : Nat) =
   SV.p (4 : Nat) (0 : Nat) ∧ SV.v (Value.bool G) = SV.v (Value.bool S.G) ∧ SV.v (Value.bool K) = SV.v (Value.bool S.K) ∧ SV.v (Value.bool Ho) = SV.v (Value.bool S.Ho) ∧ SV.h (6 : Nat) [pe + (2 : Nat), (0 : Nat)] = SV.h (6 : Nat) [S.pe, (0 : Nat)] ∧
   True) ∧ (SV.v (Value.int IntKind.i64 (stI r (0 : Int) (↑l.length : Int))) = SV.v (Value.int IntKind.i64 S.r) ∧ SV.v (Value.int IntKind.i64 (stI c (1 : Int) (↑(nC l) : Int))) = SV.v (Value.int IntKind.i64 S.c) ∧ SV.v (Value.bool false) = SV.v
   (Value.bool false) ∧ SV.p (2 : Nat) (0 : Nat) = SV.p (2 : Nat) (0 : Nat) ∧ True) ∧ (SV.h (3 : Nat) [oe, (0 : Nat)] = SV.h (3 : Nat) [oe, (0 : Nat)] ∧ True) ∧ (oe = oe ∧ ep = S.ep ∧ l = S.l) ∧ (SV.h (5 : Nat) [qe, (0 : Nat)] = SV.h (5 : Nat) [qe, (0 :
   Nat)] ∧ SV.v (Value.int IntKind.i64 fr) = SV.v (Value.int IntKind.i64 fr) ∧ SV.v (Value.int IntKind.i64 n) = SV.v (Value.int IntKind.i64 S.n) ∧ SV.v (Value.bool ov) = SV.v (Value.bool S.ov) ∧ True) ∧ (m = m ∧ qe = qe ∧ xs = S.xs) ∧ ((0 : Nat) =
   S.pl.length ∧ pe + (2 : Nat) = S.pe ∧ LI [] = S.pl) ∧ True) (br ((68 : Int) == b) (true = true ∧ (oe = oe ∧ GW l) ∧ (SV.t [] = SV.t [] ∧ True) ∧ (SV.p (1 : Nat) (0 : Nat) = SV.p (1 : Nat) (0 : Nat) ∧ SV.p (4 : Nat) (0 : Nat) = SV.p (4 : Nat) (0 :
   Nat) ∧ SV.v (Value.bool G) = SV.v (Value.bool S.G) ∧ SV.v (Value.bool K) = SV.v (Value.bool S.K) ∧ SV.v (Value.bool Ho) = SV.v (Value.bool S.Ho) ∧ SV.h (6 : Nat) [pe + (2 : Nat), (0 : Nat)] = SV.h (6 : Nat) [S.pe, (0 : Nat)] ∧ True) ∧ (SV.v
   (Value.int IntKind.i64 (stI r (0 : Int) (↑l.length : Int))) = SV.v (Value.int IntKind.i64 S.r) ∧ SV.v (Value.int IntKind.i64 (stI c (-1 : Int) (↑(nC l) : Int))) = SV.v (Value.int IntKind.i64 S.c) ∧ SV.v (Value.bool false) = SV.v (Value.bool false) ∧
   SV.p (2 : Nat) (0 : Nat) = SV.p (2 : Nat) (0 : Nat) ∧ True) ∧ (SV.h (3 : Nat) [oe, (0 : Nat)] = SV.h (3 : Nat) [oe, (0 : Nat)] ∧ True) ∧ (oe = oe ∧ ep = S.ep ∧ l = S.l) ∧ (SV.h (5 : Nat) [qe, (0 : Nat)] = SV.h (5 : Nat) [qe, (0 : Nat)] ∧ SV.v
   (Value.int IntKind.i64 fr) = SV.v (Value.int IntKind.i64 fr) ∧ SV.v (Value.int IntKind.i64 n) = SV.v (Value.int IntKind.i64 S.n) ∧ SV.v (Value.bool ov) = SV.v (Value.bool S.ov) ∧ True) ∧ (m = m ∧ qe = qe ∧ xs = S.xs) ∧ ((0 : Nat) = S.pl.length ∧ pe +
   (2 : Nat) = S.pe ∧ LI [] = S.pl) ∧ True) (br ((72 : Int) == b) (true = true ∧ (oe = oe ∧ GW l) ∧ (SV.t [] = SV.t [] ∧ True) ∧ (SV.p (1 : Nat) (0 : Nat) = SV.p (1 : Nat) (0 : Nat) ∧ SV.p (4 : Nat) (0 : Nat) = SV.p (4 : Nat) (0 : Nat) ∧ SV.v
   (Value.bool G) = SV.v (Value.bool S.G) ∧ SV.v (Value.bool K) = SV.v (Value.bool S.K) ∧ SV.v (Value.bool Ho) = SV.v (Value.bool S.Ho) ∧ SV.h (6 : Nat) [pe + (2 : Nat), (0 : Nat)] = SV.h (6 : Nat) [S.pe, (0 : Nat)] ∧ True) ∧ (SV.v (Value.int
   IntKind.i64 (nearI (0 : Int) (↑l.length : Int))) = SV.v (Value.int IntKind.i64 S.r) ∧ SV.v (Value.int IntKind.i64 (nearI (0 : Int) (↑(nC l) : Int))) = SV.v (Value.int IntKind.i64 S.c) ∧ SV.v (Value.bool false) = SV.v (Value.bool false) ∧ SV.p (2 :
   Nat) (0 : Nat) = SV.p (2 : Nat) (0 : Nat) ∧ True) ∧ (SV.h (3 : Nat) [oe, (0 : Nat)] = SV.h (3 : Nat) [oe, (0 : Nat)] ∧ True) ∧ (oe = oe ∧ ep = S.ep ∧ l = S.l) ∧ (SV.h (5 : Nat) [qe, (0 : Nat)] = SV.h (5 : Nat) [qe, (0 : Nat)] ∧ SV.v (Value.int
   IntKind.i64 fr) = SV.v (Value.int IntKind.i64 fr) ∧ SV.v (Value.int IntKind.i64 n) = SV.v (Value.int IntKind.i64 S.n) ∧ SV.v (Value.bool ov) = SV.v (Value.bool S.ov) ∧ True) ∧ (m = m ∧ qe = qe ∧ xs = S.xs) ∧ ((0 : Nat) = S.pl.length ∧ pe + (2 : Nat)
   = S.pe ∧ LI [] = S.pl) ∧ True) (br ((73 : Int) == b) (true = true ∧ TA (((), (), G, K, Ho, pe + (2 : Nat)), (r, c, false, (), ()), oe, RC.mk l oe ep, (qe, fr, n, ov), OI.mk xs m qe, OI.mk (LI []) (0 : Nat) (pe + (2 : Nat))) ∧ (SV.t [] = SV.t [] ∧
   True) ∧ (SV.p (1 : Nat) (0 : Nat) = SV.p (1 : Nat) (0 : Nat) ∧ SV.p (4 : Nat) (0 : Nat) = SV.p (4 : Nat) (0 : Nat) ∧ SV.v (Value.bool G) = SV.v (Value.bool S.G) ∧ SV.v (Value.bool K) = SV.v (Value.bool S.K) ∧ SV.v (Value.bool Ho) = SV.v (Value.bool
   S.Ho) ∧ SV.h (6 : Nat) [pe + (2 : Nat), (0 : Nat)] = SV.h (6 : Nat) [S.pe, (0 : Nat)] ∧ True) ∧ (SV.v (Value.int IntKind.i64 (nearI (r - (1 : Int)) (↑l.length : Int))) = SV.v (Value.int IntKind.i64 S.r) ∧ SV.v (Value.int IntKind.i64 c) = SV.v
   (Value.int IntKind.i64 S.c) ∧ SV.v (Value.bool false) = SV.v (Value.bool false) ∧ SV.p (2 : Nat) (0 : Nat) = SV.p (2 : Nat) (0 : Nat) ∧ True) ∧ (SV.h (3 : Nat) [oe, (0 : Nat)] = SV.h (3 : Nat) [oe, (0 : Nat)] ∧ True) ∧ (oe = oe ∧ (if r = (0 : Int)
   then ep + (1 : Nat) else ep) = S.ep ∧ (if r = (0 : Int) then upF l (-1 : Int) blankC else l) = S.l) ∧ (SV.h (5 : Nat) [qe, (0 : Nat)] = SV.h (5 : Nat) [qe, (0 : Nat)] ∧ SV.v (Value.int IntKind.i64 fr) = SV.v (Value.int IntKind.i64 fr) ∧ SV.v
   (Value.int IntKind.i64 n) = SV.v (Value.int IntKind.i64 S.n) ∧ SV.v (Value.bool ov) = SV.v (Value.bool S.ov) ∧ True) ∧ (m = m ∧ qe = qe ∧ xs = S.xs) ∧ ((LI []).length = S.pl.length ∧ pe + (2 : Nat) = S.pe ∧ LI [] = S.pl) ∧ True) (br ((74 : Int) == b)
   (true = true ∧ TA (((), (), G, K, Ho, pe + (2 : Nat)), (r, c, false, (), ()), oe, RC.mk l oe ep, (qe, fr, n, ov), OI.mk xs m qe, OI.mk (LI []) (0 : Nat) (pe + (2 : Nat))) ∧ true = true ∧ TA (((), (), G, K, Ho, pe + (2 : Nat)), (r, c, false, (), ()),
   oe, RC.mk l oe ep, (qe, fr, n, ov), OI.mk xs m qe, OI.mk (LI []) (LI []).length (pe + (2 : Nat))) ∧ true = true ∧ TA (((), (), G, K, Ho, pe + (2 : Nat)), (r, c, false, (), ()), oe, RC.mk l oe ep, (qe, fr, n, ov), OI.mk xs m qe, OI.mk (LI []) (LI
   []).length (pe + (2 : Nat))) ∧ (SV.t [] = SV.t [] ∧ True) ∧ (SV.p (1 : Nat) (0 : Nat) = SV.p (1 : Nat) (0 : Nat) ∧ SV.p (4 : Nat) (0 : Nat) = SV.p (4 : Nat) (0 : Nat) ∧ SV.v (Value.bool G) = SV.v (Value.bool S.G) ∧ SV.v (Value.bool K) = SV.v
   (Value.bool S.K) ∧ SV.v (Value.bool Ho) = SV.v (Value.bool S.Ho) ∧ SV.h (6 : Nat) [pe + (2 : Nat), (0 : Nat)] = SV.h (6 : Nat) [S.pe, (0 : Nat)] ∧ True) ∧ (SV.v (Value.int IntKind.i64 r) = SV.v (Value.int IntKind.i64 S.r) ∧ SV.v (Value.int
   IntKind.i64 c) = SV.v (Value.int IntKind.i64 S.c) ∧ SV.v (Value.bool false) = SV.v (Value.bool false) ∧ SV.p (2 : Nat) (0 : Nat) = SV.p (2 : Nat) (0 : Nat) ∧ True) ∧ (SV.h (3 : Nat) [oe, (0 : Nat)] = SV.h (3 : Nat) [oe, (0 : Nat)] ∧ True) ∧ (oe = oe
   ∧ ep = S.ep ∧ wiL l (nearI r (↑l.length : Int)) (nearI c (↑(nC l) : Int)) (nearI ((↑l.length : Int) - (1 : Int)) (↑l.length : Int)) (nearI ((↑(nC l) : Int) - (1 : Int)) (↑(nC l) : Int)) blankC false = S.l) ∧ (SV.h (5 : Nat) [qe, (0 : Nat)] = SV.h (5
   : Nat) [qe, (0 : Nat)] ∧ SV.v (Value.int IntKind.i64 fr) = SV.v (Value.int IntKind.i64 fr) ∧ SV.v (Value.int IntKind.i64 n) = SV.v (Value.int IntKind.i64 S.n) ∧ SV.v (Value.bool ov) = SV.v (Value.bool S.ov) ∧ True) ∧ (m = m ∧ qe = qe ∧ xs = S.xs) ∧
   ((LI []).length = S.pl.length ∧ pe + (2 : Nat) = S.pe ∧ LI [] = S.pl) ∧ True) (br ((75 : Int) == b) (true = true ∧ TA (((), (), G, K, Ho, pe + (2 : Nat)), (r, c, false, (), ()), oe, RC.mk l oe ep, (qe, fr, n, ov), OI.mk xs m qe, OI.mk (LI []) (0 :
   Nat) (pe + (2 : Nat))) ∧ true = true ∧ TA (((), (), G, K, Ho, pe + (2 : Nat)), (r, c, false, (), ()), oe, RC.mk l oe ep, (qe, fr, n, ov), OI.mk xs m qe, OI.mk (LI []) (LI []).length (pe + (2 : Nat))) ∧ true = true ∧ TA (((), (), G, K, Ho, pe + (2 :
   Nat)), (r, c, false, (), ()), oe, RC.mk l oe ep, (qe, fr, n, ov), OI.mk xs m qe, OI.mk (LI []) (LI []).length (pe + (2 : Nat))) ∧ true = true ∧ TA (((), (), G, K, Ho, pe + (2 : Nat)), (r, c, false, (), ()), oe, RC.mk l oe ep, (qe, fr, n, ov), OI.mk
   xs m qe, OI.mk (LI []) (LI []).length (pe + (2 : Nat))) ∧ (SV.t [] = SV.t [] ∧ True) ∧ (SV.p (1 : Nat) (0 : Nat) = SV.p (1 : Nat) (0 : Nat) ∧ SV.p (4 : Nat) (0 : Nat) = SV.p (4 : Nat) (0 : Nat) ∧ SV.v (Value.bool G) = SV.v (Value.bool S.G) ∧ SV.v
   (Value.bool K) = SV.v (Value.bool S.K) ∧ SV.v (Value.bool Ho) = SV.v (Value.bool S.Ho) ∧ SV.h (6 : Nat) [pe + (2 : Nat), (0 : Nat)] = SV.h (6 : Nat) [S.pe, (0 : Nat)] ∧ True) ∧ (SV.v (Value.int IntKind.i64 r) = SV.v (Value.int IntKind.i64 S.r) ∧ SV.v
   (Value.int IntKind.i64 c) = SV.v (Value.int IntKind.i64 S.c) ∧ SV.v (Value.bool false) = SV.v (Value.bool false) ∧ SV.p (2 : Nat) (0 : Nat) = SV.p (2 : Nat) (0 : Nat) ∧ True) ∧ (SV.h (3 : Nat) [oe, (0 : Nat)] = SV.h (3 : Nat) [oe, (0 : Nat)] ∧ True)
   ∧ (oe = oe ∧ ep = S.ep ∧ wiL l (nearI r (↑l.length : Int)) (nearI c (↑(nC l) : Int)) (nearI r (↑l.length : Int)) (nearI ((↑(nC l) : Int) - (1 : Int)) (↑(nC l) : Int)) blankC false = S.l) ∧ (SV.h (5 : Nat) [qe, (0 : Nat)] = SV.h (5 : Nat) [qe, (0 :
   Nat)] ∧ SV.v (Value.int IntKind.i64 fr) = SV.v (Value.int IntKind.i64 fr) ∧ SV.v (Value.int IntKind.i64 n) = SV.v (Value.int IntKind.i64 S.n) ∧ SV.v (Value.bool ov) = SV.v (Value.bool S.ov) ∧ True) ∧ (m = m ∧ qe = qe ∧ xs = S.xs) ∧ ((LI []).length =
   S.pl.length ∧ pe + (2 : Nat) = S.pe ∧ LI [] = S.pl) ∧ True) (br ((70 : Int) == b) ((SV.t [] = SV.t [] ∧ True) ∧ (SV.p (1 : Nat) (0 : Nat) = SV.p (1 : Nat) (0 : Nat) ∧ SV.p (4 : Nat) (0 : Nat) = SV.p (4 : Nat) (0 : Nat) ∧ SV.v (Value.bool true) = SV.v
   (Value.bool S.G) ∧ SV.v (Value.bool K) = SV.v (Value.bool S.K) ∧ SV.v (Value.bool Ho) = SV.v (Value.bool S.Ho) ∧ SV.h (6 : Nat) [pe + (2 : Nat), (0 : Nat)] = SV.h (6 : Nat) [S.pe, (0 : Nat)] ∧ True) ∧ (SV.v (Value.int IntKind.i64 r) = SV.v (Value.int
   IntKind.i64 S.r) ∧ SV.v (Value.int IntKind.i64 c) = SV.v (Value.int IntKind.i64 S.c) ∧ SV.v (Value.bool false) = SV.v (Value.bool false) ∧ SV.p (2 : Nat) (0 : Nat) = SV.p (2 : Nat) (0 : Nat) ∧ True) ∧ (SV.h (3 : Nat) [oe, (0 : Nat)] = SV.h (3 : Nat)
   [oe, (0 : Nat)] ∧ True) ∧ (oe = oe ∧ ep = S.ep ∧ l = S.l) ∧ (SV.h (5 : Nat) [qe, (0 : Nat)] = SV.h (5 : Nat) [qe, (0 : Nat)] ∧ SV.v (Value.int IntKind.i64 fr) = SV.v (Value.int IntKind.i64 fr) ∧ SV.v (Value.int IntKind.i64 n) = SV.v (Value.int
   IntKind.i64 S.n) ∧ SV.v (Value.bool ov) = SV.v (Value.bool S.ov) ∧ True) ∧ (m = m ∧ qe = qe ∧ xs = S.xs) ∧ ((0 : Nat) = S.pl.length ∧ pe + (2 : Nat) = S.pe ∧ LI [] = S.pl) ∧ True) (br ((71 : Int) == b) ((SV.t [] = SV.t [] ∧ True) ∧ (SV.p (1 : Nat) (0
   : Nat) = SV.p (1 : Nat) (0 : Nat) ∧ SV.p (4 : Nat) (0 : Nat) = SV.p (4 : Nat) (0 : Nat) ∧ SV.v (Value.bool false) = SV.v (Value.bool S.G) ∧ SV.v (Value.bool K) = SV.v (Value.bool S.K) ∧ SV.v (Value.bool Ho) = SV.v (Value.bool S.Ho) ∧ SV.h (6 : Nat)
   [pe + (2 : Nat), (0 : Nat)] = SV.h (6 : Nat) [S.pe, (0 : Nat)] ∧ True) ∧ (SV.v (Value.int IntKind.i64 r) = SV.v (Value.int IntKind.i64 S.r) ∧ SV.v (Value.int IntKind.i64 c) = SV.v (Value.int IntKind.i64 S.c) ∧ SV.v (Value.bool false) = SV.v
   (Value.bool false) ∧ SV.p (2 : Nat) (0 : Nat) = SV.p (2 : Nat) (0 : Nat) ∧ True) ∧ (SV.h (3 : Nat) [oe, (0 : Nat)] = SV.h (3 : Nat) [oe, (0 : Nat)] ∧ True) ∧ (oe = oe ∧ ep = S.ep ∧ l = S.l) ∧ (SV.h (5 : Nat) [qe, (0 : Nat)] = SV.h (5 : Nat) [qe, (0 :
   Nat)] ∧ SV.v (Value.int IntKind.i64 fr) = SV.v (Value.int IntKind.i64 fr) ∧ SV.v (Value.int IntKind.i64 n) = SV.v (Value.int IntKind.i64 S.n) ∧ SV.v (Value.bool ov) = SV.v (Value.bool S.ov) ∧ True) ∧ (m = m ∧ qe = qe ∧ xs = S.xs) ∧ ((0 : Nat) =
   S.pl.length ∧ pe + (2 : Nat) = S.pe ∧ LI [] = S.pl) ∧ True) (br ((61 : Int) == b) ((SV.t [] = SV.t [] ∧ True) ∧ (SV.p (1 : Nat) (0 : Nat) = SV.p (1 : Nat) (0 : Nat) ∧ SV.p (4 : Nat) (0 : Nat) = SV.p (4 : Nat) (0 : Nat) ∧ SV.v (Value.bool G) = SV.v
   (Value.bool S.G) ∧ SV.v (Value.bool true) = SV.v (Value.bool S.K) ∧ SV.v (Value.bool Ho) = SV.v (Value.bool S.Ho) ∧ SV.h (6 : Nat) [pe + (2 : Nat), (0 : Nat)] = SV.h (6 : Nat) [S.pe, (0 : Nat)] ∧ True) ∧ (SV.v (Value.int IntKind.i64 r) = SV.v
   (Value.int IntKind.i64 S.r) ∧ SV.v (Value.int IntKind.i64 c) = SV.v (Value.int IntKind.i64 S.c) ∧ SV.v (Value.bool false) = SV.v (Value.bool false) ∧ SV.p (2 : Nat) (0 : Nat) = SV.p (2 : Nat) (0 : Nat) ∧ True) ∧ (SV.h (3 : Nat) [oe, (0 : Nat)] = SV.h
   (3 : Nat) [oe, (0 : Nat)] ∧ True) ∧ (oe = oe ∧ ep = S.ep ∧ l = S.l) ∧ (SV.h (5 : Nat) [qe, (0 : Nat)] = SV.h (5 : Nat) [qe, (0 : Nat)] ∧ SV.v (Value.int IntKind.i64 fr) = SV.v (Value.int IntKind.i64 fr) ∧ SV.v (Value.int IntKind.i64 n) = SV.v
   (Value.int IntKind.i64 S.n) ∧ SV.v (Value.bool ov) = SV.v (Value.bool S.ov) ∧ True) ∧ (m = m ∧ qe = qe ∧ xs = S.xs) ∧ ((0 : Nat) = S.pl.length ∧ pe + (2 : Nat) = S.pe ∧ LI [] = S.pl) ∧ True) (br ((62 : Int) == b) ((SV.t [] = SV.t [] ∧ True) ∧ (SV.p
   (1 : Nat) (0 : Nat) = SV.p (1 : Nat) (0 : Nat) ∧ SV.p (4 : Nat) (0 : Nat) = SV.p (4 : Nat) (0 : Nat) ∧ SV.v (Value.bool G) = SV.v (Value.bool S.G) ∧ SV.v (Value.bool false) = SV.v (Value.bool S.K) ∧ SV.v (Value.bool Ho) = SV.v (Value.bool S.Ho) ∧
   SV.h (6 : Nat) [pe + (2 : Nat), (0 : Nat)] = SV.h (6 : Nat) [S.pe, (0 : Nat)] ∧ True) ∧ (SV.v (Value.int IntKind.i64 r) = SV.v (Value.int IntKind.i64 S.r) ∧ SV.v (Value.int IntKind.i64 c) = SV.v (Value.int IntKind.i64 S.c) ∧ SV.v (Value.bool false) =
   SV.v (Value.bool false) ∧ SV.p (2 : Nat) (0 : Nat) = SV.p (2 : Nat) (0 : Nat) ∧ True) ∧ (SV.h (3 : Nat) [oe, (0 : Nat)] = SV.h (3 : Nat) [oe, (0 : Nat)] ∧ True) ∧ (oe = oe ∧ ep = S.ep ∧ l = S.l) ∧ (SV.h (5 : Nat) [qe, (0 : Nat)] = SV.h (5 : Nat) [qe,
   (0 : Nat)] ∧ SV.v (Value.int IntKind.i64 fr) = SV.v (Value.int IntKind.i64 fr) ∧ SV.v (Value.int IntKind.i64 n) = SV.v (Value.int IntKind.i64 S.n) ∧ SV.v (Value.bool ov) = SV.v (Value.bool S.ov) ∧ True) ∧ (m = m ∧ qe = qe ∧ xs = S.xs) ∧ ((0 : Nat) =
   S.pl.length ∧ pe + (2 : Nat) = S.pe ∧ LI [] = S.pl) ∧ True) (br ((91 : Int) == b) ((SV.t [] = SV.t [] ∧ True) ∧ (SV.p (1 : Nat) (0 : Nat) = SV.p (1 : Nat) (0 : Nat) ∧ SV.p (4 : Nat) (0 : Nat) = SV.p (4 : Nat) (0 : Nat) ∧ SV.v (Value.bool G) = SV.v
   (Value.bool S.G) ∧ SV.v (Value.bool K) = SV.v (Value.bool S.K) ∧ SV.v (Value.bool true) = SV.v (Value.bool S.Ho) ∧ SV.h (6 : Nat) [pe + (2 : Nat), (0 : Nat)] = SV.h (6 : Nat) [S.pe, (0 : Nat)] ∧ True) ∧ (SV.v (Value.int IntKind.i64 r) = SV.v
   (Value.int IntKind.i64 S.r) ∧ SV.v (Value.int IntKind.i64 c) = SV.v (Value.int IntKind.i64 S.c) ∧ SV.v (Value.bool false) = SV.v (Value.bool false) ∧ SV.p (2 : Nat) (0 : Nat) = SV.p (2 : Nat) (0 : Nat) ∧ True) ∧ (SV.h (3 : Nat) [oe, (0 : Nat)] = SV.h
   (3 : Nat) [oe, (0 : Nat)] ∧ True) ∧ (oe = oe ∧ ep = S.ep ∧ l = S.l) ∧ (SV.h (5 : Nat) [qe, (0 : Nat)] = SV.h (5 : Nat) [qe, (0 : Nat)] ∧ SV.v (Value.int IntKind.i64 fr) = SV.v (Value.int IntKind.i64 fr) ∧ SV.v (Value.int IntKind.i64 n) = SV.v
   (Value.int IntKind.i64 S.n) ∧ SV.v (Value.bool ov) = SV.v (Value.bool S.ov) ∧ True) ∧ (m = m ∧ qe = qe ∧ xs = S.xs) ∧ ((0 : Nat) = S.pl.length ∧ pe + (2 : Nat) = S.pe ∧ LI [] = S.pl) ∧ True) (br ((92 : Int) == b) ((SV.t [] = SV.t [] ∧ True) ∧ (SV.p
   (1 : Nat) (0 : Nat) = SV.p (1 : Nat) (0 : Nat) ∧ SV.p (4 : Nat) (0 : Nat) = SV.p (4 : Nat) (0 : Nat) ∧ SV.v (Value.bool G) = SV.v (Value.bool S.G) ∧ SV.v (Value.bool K) = SV.v (Value.bool S.K) ∧ SV.v (Value.bool false) = SV.v (Value.bool S.Ho) ∧ SV.h
   (6 : Nat) [pe + (2 : Nat), (0 : Nat)] = SV.h (6 : Nat) [S.pe, (0 : Nat)] ∧ True) ∧ (SV.v (Value.int IntKind.i64 r) = SV.v (Value.int IntKind.i64 S.r) ∧ SV.v (Value.int IntKind.i64 c) = SV.v (Value.int IntKind.i64 S.c) ∧ SV.v (Value.bool false) = SV.v
   (Value.bool false) ∧ SV.p (2 : Nat) (0 : Nat) = SV.p (2 : Nat) (0 : Nat) ∧ True) ∧ (SV.h (3 : Nat) [oe, (0 : Nat)] = SV.h (3 : Nat) [oe, (0 : Nat)] ∧ True) ∧ (oe = oe ∧ ep = S.ep ∧ l = S.l) ∧ (SV.h (5 : Nat) [qe, (0 : Nat)] = SV.h (5 : Nat) [qe, (0 :
   Nat)] ∧ SV.v (Value.int IntKind.i64 fr) = SV.v (Value.int IntKind.i64 fr) ∧ SV.v (Value.int IntKind.i64 n) = SV.v (Value.int IntKind.i64 S.n) ∧ SV.v (Value.bool ov) = SV.v (Value.bool S.ov) ∧ True) ∧ (m = m ∧ qe = qe ∧ xs = S.xs) ∧ ((0 : Nat) =
   S.pl.length ∧ pe + (2 : Nat) = S.pe ∧ LI [] = S.pl) ∧ True) (br ((90 : Int) == b) (true = true ∧ (qe = qe ∧ QWf fr n xs m ∧ (3 : Nat) ≤ (1099511627776 : Nat)) ∧ br (decide (n + (3 : Int) > (↑m : Int))) ((SV.t [] = SV.t [] ∧ True) ∧ (SV.p (1 : Nat) (0
   : Nat) = SV.p (1 : Nat) (0 : Nat) ∧ SV.p (4 : Nat) (0 : Nat) = SV.p (4 : Nat) (0 : Nat) ∧ SV.v (Value.bool G) = SV.v (Value.bool S.G) ∧ SV.v (Value.bool K) = SV.v (Value.bool S.K) ∧ SV.v (Value.bool Ho) = SV.v (Value.bool S.Ho) ∧ SV.h (6 : Nat) [pe +
   (2 : Nat), (0 : Nat)] = SV.h (6 : Nat) [S.pe, (0 : Nat)] ∧ True) ∧ (SV.v (Value.int IntKind.i64 r) = SV.v (Value.int IntKind.i64 S.r) ∧ SV.v (Value.int IntKind.i64 c) = SV.v (Value.int IntKind.i64 S.c) ∧ SV.v (Value.bool false) = SV.v (Value.bool
   false) ∧ SV.p (2 : Nat) (0 : Nat) = SV.p (2 : Nat) (0 : Nat) ∧ True) ∧ (SV.h (3 : Nat) [oe, (0 : Nat)] = SV.h (3 : Nat) [oe, (0 : Nat)] ∧ True) ∧ (oe = oe ∧ ep = S.ep ∧ l = S.l) ∧ (SV.h (5 : Nat) [qe, (0 : Nat)] = SV.h (5 : Nat) [qe, (0 : Nat)] ∧
   SV.v (Value.int IntKind.i64 fr) = SV.v (Value.int IntKind.i64 fr) ∧ SV.v (Value.int IntKind.i64 n) = SV.v (Value.int IntKind.i64 S.n) ∧ SV.v (Value.bool true) = SV.v (Value.bool S.ov) ∧ True) ∧ (m = m ∧ qe = qe ∧ xs = S.xs) ∧ ((0 : Nat) = S.pl.length
   ∧ pe + (2 : Nat) = S.pe ∧ LI [] = S.pl) ∧ True) ((SV.t [] = SV.t [] ∧ True) ∧ (SV.p (1 : Nat) (0 : Nat) = SV.p (1 : Nat) (0 : Nat) ∧ SV.p (4 : Nat) (0 : Nat) = SV.p (4 : Nat) (0 : Nat) ∧ SV.v (Value.bool G) = SV.v (Value.bool S.G) ∧ SV.v (Value.bool
   K) = SV.v (Value.bool S.K) ∧ SV.v (Value.bool Ho) = SV.v (Value.bool S.Ho) ∧ SV.h (6 : Nat) [pe + (2 : Nat), (0 : Nat)] = SV.h (6 : Nat) [S.pe, (0 : Nat)] ∧ True) ∧ (SV.v (Value.int IntKind.i64 r) = SV.v (Value.int IntKind.i64 S.r) ∧ SV.v (Value.int
   IntKind.i64 c) = SV.v (Value.int IntKind.i64 S.c) ∧ SV.v (Value.bool false) = SV.v (Value.bool false) ∧ SV.p (2 : Nat) (0 : Nat) = SV.p (2 : Nat) (0 : Nat) ∧ True) ∧ (SV.h (3 : Nat) [oe, (0 : Nat)] = SV.h (3 : Nat) [oe, (0 : Nat)] ∧ True) ∧ (oe = oe
   ∧ ep = S.ep ∧ l = S.l) ∧ (SV.h (5 : Nat) [qe, (0 : Nat)] = SV.h (5 : Nat) [qe, (0 : Nat)] ∧ SV.v (Value.int IntKind.i64 fr) = SV.v (Value.int IntKind.i64 fr) ∧ SV.v (Value.int IntKind.i64 (n + (3 : Int))) = SV.v (Value.int IntKind.i64 S.n) ∧ SV.v
   (Value.bool ov) = SV.v (Value.bool S.ov) ∧ True) ∧ (m = m ∧ qe = qe ∧ putL m xs (fr + n) (LI [(27 : Int), (47 : Int), (75 : Int)]) = S.xs) ∧ ((0 : Nat) = S.pl.length ∧ pe + (2 : Nat) = S.pe ∧ LI [] = S.pl) ∧ True)) ((SV.t [] = SV.t [] ∧ True) ∧ (SV.p
   (1 : Nat) (0 : Nat) = SV.p (1 : Nat) (0 : Nat) ∧ SV.p (4 : Nat) (0 : Nat) = SV.p (4 : Nat) (0 : Nat) ∧ SV.v (Value.bool G) = SV.v (Value.bool S.G) ∧ SV.v (Value.bool K) = SV.v (Value.bool S.K) ∧ SV.v (Value.bool Ho) = SV.v (Value.bool S.Ho) ∧ SV.h (6
   : Nat) [pe + (2 : Nat), (0 : Nat)] = SV.h (6 : Nat) [S.pe, (0 : Nat)] ∧ True) ∧ (SV.v (Value.int IntKind.i64 r) = SV.v (Value.int IntKind.i64 S.r) ∧ SV.v (Value.int IntKind.i64 c) = SV.v (Value.int IntKind.i64 S.c) ∧ SV.v (Value.bool false) = SV.v
   (Value.bool false) ∧ SV.p (2 : Nat) (0 : Nat) = SV.p (2 : Nat) (0 : Nat) ∧ True) ∧ (SV.h (3 : Nat) [oe, (0 : Nat)] = SV.h (3 : Nat) [oe, (0 : Nat)] ∧ True) ∧ (oe = oe ∧ ep = S.ep ∧ l = S.l) ∧ (SV.h (5 : Nat) [qe, (0 : Nat)] = SV.h (5 : Nat) [qe, (0 :
   Nat)] ∧ SV.v (Value.int IntKind.i64 fr) = SV.v (Value.int IntKind.i64 fr) ∧ SV.v (Value.int IntKind.i64 n) = SV.v (Value.int IntKind.i64 S.n) ∧ SV.v (Value.bool ov) = SV.v (Value.bool S.ov) ∧ True) ∧ (m = m ∧ qe = qe ∧ xs = S.xs) ∧ ((0 : Nat) =
   S.pl.length ∧ pe + (2 : Nat) = S.pe ∧ LI [] = S.pl) ∧ True)))))))))))))))) (rq ((pe + (1 : Nat)).beq (pe + (1 : Nat)) && (Nat.beq (1 : Nat) (1 : Nat) && decide ((0 : Int) ≤ (2 : Int) ∧ (2 : Int) < (↑(pl.length + (1 : Nat)) : Int)))) (rq ((pe + (1 :
   Nat)).beq (pe + (1 : Nat)) && Nat.blt (2 : Nat) (pl ++ intsOf (List.take (1 : Nat) (List.drop (0 : Nat) (setAll (List.map (fun i => SV.v (Value.int IntKind.u8 (0 : Int)).cells[i % (1 : Nat)]!) (List.range (1 : Nat))) (0 : Nat) [SV.v (Value.int
   IntKind.u8 b)])))).length) ((True ∧ (SV.p (0 : Nat) (0 : Nat) = SV.p (0 : Nat) (0 : Nat) ∧ SV.v (Value.int IntKind.u8 b) = SV.v (Value.int IntKind.u8 b) ∧ SV.v (Value.int IntKind.u8 ((pl ++ intsOf (List.take (1 : Nat) (List.drop (0 : Nat) (setAll
   (List.map (fun i => SV.v (Value.int IntKind.u8 (0 : Int)).cells[i % (1 : Nat)]!) (List.range (1 : Nat))) (0 : Nat) [SV.v (Value.int IntKind.u8 b)])))).getD (2 : Nat) (0 : Int))) = SV.v (Value.int IntKind.u8 ((pl ++ intsOf (List.take (1 : Nat)
   (List.drop (0 : Nat) (setAll (List.map (fun i => SV.v (Value.int IntKind.u8 (0 : Int)).cells[i % (1 : Nat)]!) (List.range (1 : Nat))) (0 : Nat) [SV.v (Value.int IntKind.u8 b)])))).getD (2 : Nat) (0 : Int))) ∧ True) ∧ (SV.p (1 : Nat) (0 : Nat) = SV.p
   (1 : Nat) (0 : Nat) ∧ SV.p (4 : Nat) (0 : Nat) = SV.p (4 : Nat) (0 : Nat) ∧ SV.v (Value.bool G) = SV.v (Value.bool G) ∧ SV.v (Value.bool K) = SV.v (Value.bool K) ∧ SV.v (Value.bool Ho) = SV.v (Value.bool Ho) ∧ SV.h (6 : Nat) [pe + (1 : Nat) + (1 :
   Nat), (0 : Nat)] = SV.h (6 : Nat) [pe + (2 : Nat), (0 : Nat)] ∧ True) ∧ (SV.v (Value.int IntKind.i64 r) = SV.v (Value.int IntKind.i64 r) ∧ SV.v (Value.int IntKind.i64 c) = SV.v (Value.int IntKind.i64 c) ∧ SV.v (Value.bool false) = SV.v (Value.bool
   false) ∧ SV.p (2 : Nat) (0 : Nat) = SV.p (2 : Nat) (0 : Nat) ∧ True) ∧ (SV.h (3 : Nat) [oe, (0 : Nat)] = SV.h (3 : Nat) [oe, (0 : Nat)] ∧ True) ∧ (oe = oe ∧ ep = ep ∧ l = l) ∧ (SV.h (5 : Nat) [qe, (0 : Nat)] = SV.h (5 : Nat) [qe, (0 : Nat)] ∧ SV.v
   (Value.int IntKind.i64 fr) = SV.v (Value.int IntKind.i64 fr) ∧ SV.v (Value.int IntKind.i64 n) = SV.v (Value.int IntKind.i64 n) ∧ SV.v (Value.bool ov) = SV.v (Value.bool ov) ∧ True) ∧ (m = m ∧ qe = qe ∧ xs = xs) ∧ ((0 : Nat) = (0 : Nat) ∧ pe + (1 :
   Nat) + (1 : Nat) = pe + (2 : Nat) ∧ LI [] = LI []) ∧ (SV.v (Value.int IntKind.u8 b) = SV.v (Value.int IntKind.u8 b) ∧ True) ∧ True) ∧ ∀ (x : Nat), True → true = true ∧ TA (((), (), G, K, Ho, pe + (2 : Nat)), (r, c, false, (), ()), oe, RC.mk l oe ep,
   (qe, fr, n, ov), OI.mk xs m qe, OI.mk (LI []) (0 : Nat) (pe + (2 : Nat))) ∧ (SV.t [] = SV.t [] ∧ True) ∧ (SV.p (1 : Nat) (0 : Nat) = SV.p (1 : Nat) (0 : Nat) ∧ SV.p (4 : Nat) (0 : Nat) = SV.p (4 : Nat) (0 : Nat) ∧ SV.v (Value.bool G) = SV.v
   (Value.bool S.G) ∧ SV.v (Value.bool K) = SV.v (Value.bool S.K) ∧ SV.v (Value.bool Ho) = SV.v (Value.bool S.Ho) ∧ SV.h (6 : Nat) [pe + (2 : Nat), (0 : Nat)] = SV.h (6 : Nat) [S.pe, (0 : Nat)] ∧ True) ∧ (SV.v (Value.int IntKind.i64 (if (0 : Int) ≤
   IntKind.i64.wrap (IntKind.i64.wrap ((pl ++ intsOf (List.take (1 : Nat) (List.drop (0 : Nat) (setAll (List.map (fun i => SV.v (Value.int IntKind.u8 (0 : Int)).cells[i % (1 : Nat)]!) (List.range (1 : Nat))) (0 : Nat) [SV.v (Value.int IntKind.u8
   b)])))).getD (2 : Nat) (0 : Int)) - (32 : Int)) ∧ IntKind.i64.wrap (IntKind.i64.wrap ((pl ++ intsOf (List.take (1 : Nat) (List.drop (0 : Nat) (setAll (List.map (fun i => SV.v (Value.int IntKind.u8 (0 : Int)).cells[i % (1 : Nat)]!) (List.range (1 :
   Nat))) (0 : Nat) [SV.v (Value.int IntKind.u8 b)])))).getD (2 : Nat) (0 : Int)) - (32 : Int)) ≤ (↑l.length : Int) - (1 : Int) then IntKind.i64.wrap (IntKind.i64.wrap ((pl ++ intsOf (List.take (1 : Nat) (List.drop (0 : Nat) (setAll (List.map (fun i =>
   SV.v (Value.int IntKind.u8 (0 : Int)).cells[i % (1 : Nat)]!) (List.range (1 : Nat))) (0 : Nat) [SV.v (Value.int IntKind.u8 b)])))).getD (2 : Nat) (0 : Int)) - (32 : Int)) else r)) = SV.v (Value.int IntKind.i64 S.r) ∧ SV.v (Value.int IntKind.i64 (if
   (0 : Int) ≤ IntKind.i64.wrap (IntKind.i64.wrap b - (32 : Int)) then if (↑(nC l) : Int) - (1 : Int) < IntKind.i64.wrap (IntKind.i64.wrap b - (32 : Int)) then (↑(nC l) : Int) - (1 : Int) else IntKind.i64.wrap (IntKind.i64.wrap b - (32 : Int)) else c))
   = SV.v (Value.int IntKind.i64 S.c) ∧ SV.v (Value.bool false) = SV.v (Value.bool false) ∧ SV.p (2 : Nat) (0 : Nat) = SV.p (2 : Nat) (0 : Nat) ∧ True) ∧ (SV.h (3 : Nat) [oe, (0 : Nat)] = SV.h (3 : Nat) [oe, (0 : Nat)] ∧ True) ∧ (oe = oe ∧ ep = S.ep ∧ l
   = S.l) ∧ (SV.h (5 : Nat) [qe, (0 : Nat)] = SV.h (5 : Nat) [qe, (0 : Nat)] ∧ SV.v (Value.int IntKind.i64 fr) = SV.v (Value.int IntKind.i64 fr) ∧ SV.v (Value.int IntKind.i64 n) = SV.v (Value.int IntKind.i64 S.n) ∧ SV.v (Value.bool ov) = SV.v
   (Value.bool S.ov) ∧ True) ∧ (m = m ∧ qe = qe ∧ xs = S.xs) ∧ ((LI []).length = S.pl.length ∧ pe + (2 : Nat) = S.pe ∧ LI [] = S.pl) ∧ True)))))) (br ((↑(pl.length + (1 : Nat)) : Int) == (3 : Int)) ((SV.t [] = SV.t [] ∧ True) ∧ (SV.p (1 : Nat) (0 : Nat)
   = SV.p (1 : Nat) (0 : Nat) ∧ SV.p (4 : Nat) (0 : Nat) = SV.p (4 : Nat) (0 : Nat) ∧ SV.v (Value.bool G) = SV.v (Value.bool S.G) ∧ SV.v (Value.bool K) = SV.v (Value.bool S.K) ∧ SV.v (Value.bool Ho) = SV.v (Value.bool S.Ho) ∧ SV.h (6 : Nat) [pe + (1 :
   Nat), (0 : Nat)] = SV.h (6 : Nat) [S.pe, (0 : Nat)] ∧ True) ∧ (SV.v (Value.int IntKind.i64 r) = SV.v (Value.int IntKind.i64 S.r) ∧ SV.v (Value.int IntKind.i64 c) = SV.v (Value.int IntKind.i64 S.c) ∧ SV.v (Value.bool false) = SV.v (Value.bool false) ∧
   SV.p (2 : Nat) (0 : Nat) = SV.p (2 : Nat) (0 : Nat) ∧ True) ∧ (SV.h (3 : Nat) [oe, (0 : Nat)] = SV.h (3 : Nat) [oe, (0 : Nat)] ∧ True) ∧ (oe = oe ∧ ep = S.ep ∧ l = S.l) ∧ (SV.h (5 : Nat) [qe, (0 : Nat)] = SV.h (5 : Nat) [qe, (0 : Nat)] ∧ SV.v
   (Value.int IntKind.i64 fr) = SV.v (Value.int IntKind.i64 fr) ∧ SV.v (Value.int IntKind.i64 n) = SV.v (Value.int IntKind.i64 S.n) ∧ SV.v (Value.bool ov) = SV.v (Value.bool S.ov) ∧ True) ∧ (m = m ∧ qe = qe ∧ xs = S.xs) ∧ (pl.length + (1 : Nat) =
   S.pl.length ∧ pe + (1 : Nat) = S.pe ∧ pl ++ intsOf (List.take (1 : Nat) (List.drop (0 : Nat) (setAll (List.map (fun i => SV.v (Value.int IntKind.u8 (0 : Int)).cells[i % (1 : Nat)]!) (List.range (1 : Nat))) (0 : Nat) [SV.v (Value.int IntKind.u8 b)])))
   = S.pl) ∧ True) (br ((↑(pl.length + (1 : Nat)) : Int) == (2 : Int)) ((True ∧ (SV.p (0 : Nat) (0 : Nat) = SV.p (0 : Nat) (0 : Nat) ∧ SV.v (Value.int IntKind.u8 b) = SV.v (Value.int IntKind.u8 b) ∧ True) ∧ (SV.p (1 : Nat) (0 : Nat) = SV.p (1 : Nat) (0
   : Nat) ∧ SV.p (4 : Nat) (0 : Nat) = SV.p (4 : Nat) (0 : Nat) ∧ SV.v (Value.bool G) = SV.v (Value.bool G) ∧ SV.v (Value.bool K) = SV.v (Value.bool K) ∧ SV.v (Value.bool Ho) = SV.v (Value.bool Ho) ∧ SV.h (6 : Nat) [pe + (1 : Nat) + (1 : Nat), (0 :
   Nat)] = SV.h (6 : Nat) [pe + (2 : Nat), (0 : Nat)] ∧ True) ∧ (SV.v (Value.int IntKind.i64 r) = SV.v (Value.int IntKind.i64 r) ∧ SV.v (Value.int IntKind.i64 c) = SV.v (Value.int IntKind.i64 c) ∧ SV.v (Value.bool false) = SV.v (Value.bool false) ∧ SV.p
   (2 : Nat) (0 : Nat) = SV.p (2 : Nat) (0 : Nat) ∧ True) ∧ (SV.h (3 : Nat) [oe, (0 : Nat)] = SV.h (3 : Nat) [oe, (0 : Nat)] ∧ True) ∧ (oe = oe ∧ ep = ep ∧ l = l) ∧ (SV.h (5 : Nat) [qe, (0 : Nat)] = SV.h (5 : Nat) [qe, (0 : Nat)] ∧ SV.v (Value.int
   IntKind.i64 fr) = SV.v (Value.int IntKind.i64 fr) ∧ SV.v (Value.int IntKind.i64 n) = SV.v (Value.int IntKind.i64 n) ∧ SV.v (Value.bool ov) = SV.v (Value.bool ov) ∧ True) ∧ (m = m ∧ qe = qe ∧ xs = xs) ∧ ((0 : Nat) = (0 : Nat) ∧ pe + (1 : Nat) + (1 :
   Nat) = pe + (2 : Nat) ∧ LI [] = LI []) ∧ (SV.v (Value.int IntKind.u8 b) = SV.v (Value.int IntKind.u8 b) ∧ True) ∧ True) ∧ ∀ (x : Nat), True → br ((65 : Int) == b) (true = true ∧ (oe = oe ∧ GW l) ∧ (SV.t [] = SV.t [] ∧ True) ∧ (SV.p (1 : Nat) (0 :
   Nat) = SV.p (1 : Nat) (0 : Nat) ∧ SV.p (4 : Nat) (0 : Nat) = SV.p (4 : Nat) (0 : Nat) ∧ SV.v (Value.bool G) = SV.v (Value.bool S.G) ∧ SV.v (Value.bool K) = SV.v (Value.bool S.K) ∧ SV.v (Value.bool Ho) = SV.v (Value.bool S.Ho) ∧ SV.h (6 : Nat) [pe +
   (2 : Nat), (0 : Nat)] = SV.h (6 : Nat) [S.pe, (0 : Nat)] ∧ True) ∧ (SV.v (Value.int IntKind.i64 (stI r (-1 : Int) (↑l.length : Int))) = SV.v (Value.int IntKind.i64 S.r) ∧ SV.v (Value.int IntKind.i64 (stI c (0 : Int) (↑(nC l) : Int))) = SV.v
   (Value.int IntKind.i64 S.c) ∧ SV.v (Value.bool false) = SV.v (Value.bool false) ∧ SV.p (2 : Nat) (0 : Nat) = SV.p (2 : Nat) (0 : Nat) ∧ True) ∧ (SV.h (3 : Nat) [oe, (0 : Nat)] = SV.h (3 : Nat) [oe, (0 : Nat)] ∧ True) ∧ (oe = oe ∧ ep = S.ep ∧ l = S.l)
   ∧ (SV.h (5 : Nat) [qe, (0 : Nat)] = SV.h (5 : Nat) [qe, (0 : Nat)] ∧ SV.v (Value.int IntKind.i64 fr) = SV.v (Value.int IntKind.i64 fr) ∧ SV.v (Value.int IntKind.i64 n) = SV.v (Value.int IntKind.i64 S.n) ∧ SV.v (Value.bool ov) = SV.v (Value.bool S.ov)
   ∧ True) ∧ (m = m ∧ qe = qe ∧ xs = S.xs) ∧ ((0 : Nat) = S.pl.length ∧ pe + (2 : Nat) = S.pe ∧ LI [] = S.pl) ∧ True) (br ((66 : Int) == b) (true = true ∧ (oe = oe ∧ GW l) ∧ (SV.t [] = SV.t [] ∧ True) ∧ (SV.p (1 : Nat) (0 : Nat) = SV.p (1 : Nat) (0 :
   Nat) ∧ SV.p (4 : Nat) (0 : Nat) = SV.p (4 : Nat) (0 : Nat) ∧ SV.v (Value.bool G) = SV.v (Value.bool S.G) ∧ SV.v (Value.bool K) = SV.v (Value.bool S.K) ∧ SV.v (Value.bool Ho) = SV.v (Value.bool S.Ho) ∧ SV.h (6 : Nat) [pe + (2 : Nat), (0 : Nat)] = SV.h
   (6 : Nat) [S.pe, (0 : Nat)] ∧ True) ∧ (SV.v (Value.int IntKind.i64 (stI r (1 : Int) (↑l.length : Int))) = SV.v (Value.int IntKind.i64 S.r) ∧ SV.v (Value.int IntKind.i64 (stI c (0 : Int) (↑(nC l) : Int))) = SV.v (Value.int IntKind.i64 S.c) ∧ SV.v
   (Value.bool false) = SV.v (Value.bool false) ∧ SV.p (2 : Nat) (0 : Nat) = SV.p (2 : Nat) (0 : Nat) ∧ True) ∧ (SV.h (3 : Nat) [oe, (0 : Nat)] = SV.h (3 : Nat) [oe, (0 : Nat)] ∧ True) ∧ (oe = oe ∧ ep = S.ep ∧ l = S.l) ∧ (SV.h (5 : Nat) [qe, (0 : Nat)]
   = SV.h (5 : Nat) [qe, (0 : Nat)] ∧ SV.v (Value.int IntKind.i64 fr) = SV.v (Value.int IntKind.i64 fr) ∧ SV.v (Value.int IntKind.i64 n) = SV.v (Value.int IntKind.i64 S.n) ∧ SV.v (Value.bool ov) = SV.v (Value.bool S.ov) ∧ True) ∧ (m = m ∧ qe = qe ∧ xs =
   S.xs) ∧ ((0 : Nat) = S.pl.length ∧ pe + (2 : Nat) = S.pe ∧ LI [] = S.pl) ∧ True) (br ((67 : Int) == b) (true = true ∧ (oe = oe ∧ GW l) ∧ (SV.t [] = SV.t [] ∧ True) ∧ (SV.p (1 : Nat) (0 : Nat) = SV.p (1 : Nat) (0 : Nat) ∧ SV.p (4 : Nat) (0 : Nat) =
   SV.p (4 : Nat) (0 : Nat) ∧ SV.v (Value.bool G) = SV.v (Value.bool S.G) ∧ SV.v (Value.bool K) = SV.v (Value.bool S.K) ∧ SV.v (Value.bool Ho) = SV.v (Value.bool S.Ho) ∧ SV.h (6 : Nat) [pe + (2 : Nat), (0 : Nat)] = SV.h (6 : Nat) [S.pe, (0 : Nat)] ∧
   True) ∧ (SV.v (Value.int IntKind.i64 (stI r (0 : Int) (↑l.length : Int))) = SV.v (Value.int IntKind.i64 S.r) ∧ SV.v (Value.int IntKind.i64 (stI c (1 : Int) (↑(nC l) : Int))) = SV.v (Value.int IntKind.i64 S.c) ∧ SV.v (Value.bool false) = SV.v
   (Value.bool false) ∧ SV.p (2 : Nat) (0 : Nat) = SV.p (2 : Nat) (0 : Nat) ∧ True) ∧ (SV.h (3 : Nat) [oe, (0 : Nat)] = SV.h (3 : Nat) [oe, (0 : Nat)] ∧ True) ∧ (oe = oe ∧ ep = S.ep ∧ l = S.l) ∧ (SV.h (5 : Nat) [qe, (0 : Nat)] = SV.h (5 : Nat) [qe, (0 :
   Nat)] ∧ SV.v (Value.int IntKind.i64 fr) = SV.v (Value.int IntKind.i64 fr) ∧ SV.v (Value.int IntKind.i64 n) = SV.v (Value.int IntKind.i64 S.n) ∧ SV.v (Value.bool ov) = SV.v (Value.bool S.ov) ∧ True) ∧ (m = m ∧ qe = qe ∧ xs = S.xs) ∧ ((0 : Nat) =
   S.pl.length ∧ pe + (2 : Nat) = S.pe ∧ LI [] = S.pl) ∧ True) (br ((68 : Int) == b) (true = true ∧ (oe = oe ∧ GW l) ∧ (SV.t [] = SV.t [] ∧ True) ∧ (SV.p (1 : Nat) (0 : Nat) = SV.p (1 : Nat) (0 : Nat) ∧ SV.p (4 : Nat) (0 : Nat) = SV.p (4 : Nat) (0 :
   Nat) ∧ SV.v (Value.bool G) = SV.v (Value.bool S.G) ∧ SV.v (Value.bool K) = SV.v (Value.bool S.K) ∧ SV.v (Value.bool Ho) = SV.v (Value.bool S.Ho) ∧ SV.h (6 : Nat) [pe + (2 : Nat), (0 : Nat)] = SV.h (6 : Nat) [S.pe, (0 : Nat)] ∧ True) ∧ (SV.v
   (Value.int IntKind.i64 (stI r (0 : Int) (↑l.length : Int))) = SV.v (Value.int IntKind.i64 S.r) ∧ SV.v (Value.int IntKind.i64 (stI c (-1 : Int) (↑(nC l) : Int))) = SV.v (Value.int IntKind.i64 S.c) ∧ SV.v (Value.bool false) = SV.v (Value.bool false) ∧
   SV.p (2 : Nat) (0 : Nat) = SV.p (2 : Nat) (0 : Nat) ∧ True) ∧ (SV.h (3 : Nat) [oe, (0 : Nat)] = SV.h (3 : Nat) [oe, (0 : Nat)] ∧ True) ∧ (oe = oe ∧ ep = S.ep ∧ l = S.l) ∧ (SV.h (5 : Nat) [qe, (0 : Nat)] = SV.h (5 : Nat) [qe, (0 : Nat)] ∧ SV.v
   (Value.int IntKind.i64 fr) = SV.v (Value.int IntKind.i64 fr) ∧ SV.v (Value.int IntKind.i64 n) = SV.v (Value.int IntKind.i64 S.n) ∧ SV.v (Value.bool ov) = SV.v (Value.bool S.ov) ∧ True) ∧ (m = m ∧ qe = qe ∧ xs = S.xs) ∧ ((0 : Nat) = S.pl.length ∧ pe +
   (2 : Nat) = S.pe ∧ LI [] = S.pl) ∧ True) (br ((72 : Int) == b) (true = true ∧ (oe = oe ∧ GW l) ∧ (SV.t [] = SV.t [] ∧ True) ∧ (SV.p (1 : Nat) (0 : Nat) = SV.p (1 : Nat) (0 : Nat) ∧ SV.p (4 : Nat) (0 : Nat) = SV.p (4 : Nat) (0 : Nat) ∧ SV.v
   (Value.bool G) = SV.v (Value.bool S.G) ∧ SV.v (Value.bool K) = SV.v (Value.bool S.K) ∧ SV.v (Value.bool Ho) = SV.v (Value.bool S.Ho) ∧ SV.h (6 : Nat) [pe + (2 : Nat), (0 : Nat)] = SV.h (6 : Nat) [S.pe, (0 : Nat)] ∧ True) ∧ (SV.v (Value.int
   IntKind.i64 (nearI (0 : Int) (↑l.length : Int))) = SV.v (Value.int IntKind.i64 S.r) ∧ SV.v (Value.int IntKind.i64 (nearI (0 : Int) (↑(nC l) : Int))) = SV.v (Value.int IntKind.i64 S.c) ∧ SV.v (Value.bool false) = SV.v (Value.bool false) ∧ SV.p (2 :
   Nat) (0 : Nat) = SV.p (2 : Nat) (0 : Nat) ∧ True) ∧ (SV.h (3 : Nat) [oe, (0 : Nat)] = SV.h (3 : Nat) [oe, (0 : Nat)] ∧ True) ∧ (oe = oe ∧ ep = S.ep ∧ l = S.l) ∧ (SV.h (5 : Nat) [qe, (0 : Nat)] = SV.h (5 : Nat) [qe, (0 : Nat)] ∧ SV.v (Value.int
   IntKind.i64 fr) = SV.v (Value.int IntKind.i64 fr) ∧ SV.v (Value.int IntKind.i64 n) = SV.v (Value.int IntKind.i64 S.n) ∧ SV.v (Value.bool ov) = SV.v (Value.bool S.ov) ∧ True) ∧ (m = m ∧ qe = qe ∧ xs = S.xs) ∧ ((0 : Nat) = S.pl.length ∧ pe + (2 : Nat)
   = S.pe ∧ LI [] = S.pl) ∧ True) (br ((73 : Int) == b) (true = true ∧ TA (((), (), G, K, Ho, pe + (2 : Nat)), (r, c, false, (), ()), oe, RC.mk l oe ep, (qe, fr, n, ov), OI.mk xs m qe, OI.mk (LI []) (0 : Nat) (pe + (2 : Nat))) ∧ (SV.t [] = SV.t [] ∧
   True) ∧ (SV.p (1 : Nat) (0 : Nat) = SV.p (1 : Nat) (0 : Nat) ∧ SV.p (4 : Nat) (0 : Nat) = SV.p (4 : Nat) (0 : Nat) ∧ SV.v (Value.bool G) = SV.v (Value.bool S.G) ∧ SV.v (Value.bool K) = SV.v (Value.bool S.K) ∧ SV.v (Value.bool Ho) = SV.v (Value.bool
   S.Ho) ∧ SV.h (6 : Nat) [pe + (2 : Nat), (0 : Nat)] = SV.h (6 : Nat) [S.pe, (0 : Nat)] ∧ True) ∧ (SV.v (Value.int IntKind.i64 (nearI (r - (1 : Int)) (↑l.length : Int))) = SV.v (Value.int IntKind.i64 S.r) ∧ SV.v (Value.int IntKind.i64 c) = SV.v
   (Value.int IntKind.i64 S.c) ∧ SV.v (Value.bool false) = SV.v (Value.bool false) ∧ SV.p (2 : Nat) (0 : Nat) = SV.p (2 : Nat) (0 : Nat) ∧ True) ∧ (SV.h (3 : Nat) [oe, (0 : Nat)] = SV.h (3 : Nat) [oe, (0 : Nat)] ∧ True) ∧ (oe = oe ∧ (if r = (0 : Int)
   then ep + (1 : Nat) else ep) = S.ep ∧ (if r = (0 : Int) then upF l (-1 : Int) blankC else l) = S.l) ∧ (SV.h (5 : Nat) [qe, (0 : Nat)] = SV.h (5 : Nat) [qe, (0 : Nat)] ∧ SV.v (Value.int IntKind.i64 fr) = SV.v (Value.int IntKind.i64 fr) ∧ SV.v
   (Value.int IntKind.i64 n) = SV.v (Value.int IntKind.i64 S.n) ∧ SV.v (Value.bool ov) = SV.v (Value.bool S.ov) ∧ True) ∧ (m = m ∧ qe = qe ∧ xs = S.xs) ∧ ((LI []).length = S.pl.length ∧ pe + (2 : Nat) = S.pe ∧ LI [] = S.pl) ∧ True) (br ((74 : Int) == b)
   (true = true ∧ TA (((), (), G, K, Ho, pe + (2 : Nat)), (r, c, false, (), ()), oe, RC.mk l oe ep, (qe, fr, n, ov), OI.mk xs m qe, OI.mk (LI []) (0 : Nat) (pe + (2 : Nat))) ∧ true = true ∧ TA (((), (), G, K, Ho, pe + (2 : Nat)), (r, c, false, (), ()),
   oe, RC.mk l oe ep, (qe, fr, n, ov), OI.mk xs m qe, OI.mk (LI []) (LI []).length (pe + (2 : Nat))) ∧ true = true ∧ TA (((), (), G, K, Ho, pe + (2 : Nat)), (r, c, false, (), ()), oe, RC.mk l oe ep, (qe, fr, n, ov), OI.mk xs m qe, OI.mk (LI []) (LI
   []).length (pe + (2 : Nat))) ∧ (SV.t [] = SV.t [] ∧ True) ∧ (SV.p (1 : Nat) (0 : Nat) = SV.p (1 : Nat) (0 : Nat) ∧ SV.p (4 : Nat) (0 : Nat) = SV.p (4 : Nat) (0 : Nat) ∧ SV.v (Value.bool G) = SV.v (Value.bool S.G) ∧ SV.v (Value.bool K) = SV.v
   (Value.bool S.K) ∧ SV.v (Value.bool Ho) = SV.v (Value.bool S.Ho) ∧ SV.h (6 : Nat) [pe + (2 : Nat), (0 : Nat)] = SV.h (6 : Nat) [S.pe, (0 : Nat)] ∧ True) ∧ (SV.v (Value.int IntKind.i64 r) = SV.v (Value.int IntKind.i64 S.r) ∧ SV.v (Value.int
   IntKind.i64 c) = SV.v (Value.int IntKind.i64 S.c) ∧ SV.v (Value.bool false) = SV.v (Value.bool false) ∧ SV.p (2 : Nat) (0 : Nat) = SV.p (2 : Nat) (0 : Nat) ∧ True) ∧ (SV.h (3 : Nat) [oe, (0 : Nat)] = SV.h (3 : Nat) [oe, (0 : Nat)] ∧ True) ∧ (oe = oe
   ∧ ep = S.ep ∧ wiL l (nearI r (↑l.length : Int)) (nearI c (↑(nC l) : Int)) (nearI ((↑l.length : Int) - (1 : Int)) (↑l.length : Int)) (nearI ((↑(nC l) : Int) - (1 : Int)) (↑(nC l) : Int)) blankC false = S.l) ∧ (SV.h (5 : Nat) [qe, (0 : Nat)] = SV.h (5
   : Nat) [qe, (0 : Nat)] ∧ SV.v (Value.int IntKind.i64 fr) = SV.v (Value.int IntKind.i64 fr) ∧ SV.v (Value.int IntKind.i64 n) = SV.v (Value.int IntKind.i64 S.n) ∧ SV.v (Value.bool ov) = SV.v (Value.bool S.ov) ∧ True) ∧ (m = m ∧ qe = qe ∧ xs = S.xs) ∧
   ((LI []).length = S.pl.length ∧ pe + (2 : Nat) = S.pe ∧ LI [] = S.pl) ∧ True) (br ((75 : Int) == b) (true = true ∧ TA (((), (), G, K, Ho, pe + (2 : Nat)), (r, c, false, (), ()), oe, RC.mk l oe ep, (qe, fr, n, ov), OI.mk xs m qe, OI.mk (LI []) (0 :
   Nat) (pe + (2 : Nat))) ∧ true = true ∧ TA (((), (), G, K, Ho, pe + (2 : Nat)), (r, c, false, (), ()), oe, RC.mk l oe ep, (qe, fr, n, ov), OI.mk xs m qe, OI.mk (LI []) (LI []).length (pe + (2 : Nat))) ∧ true = true ∧ TA (((), (), G, K, Ho, pe + (2 :
   Nat)), (r, c, false, (), ()), oe, RC.mk l oe ep, (qe, fr, n, ov), OI.mk xs m qe, OI.mk (LI []) (LI []).length (pe + (2 : Nat))) ∧ true = true ∧ TA (((), (), G, K, Ho, pe + (2 : Nat)), (r, c, false, (), ()), oe, RC.mk l oe ep, (qe, fr, n, ov), OI.mk
   xs m qe, OI.mk (LI []) (LI []).length (pe + (2 : Nat))) ∧ (SV.t [] = SV.t [] ∧ True) ∧ (SV.p (1 : Nat) (0 : Nat) = SV.p (1 : Nat) (0 : Nat) ∧ SV.p (4 : Nat) (0 : Nat) = SV.p (4 : Nat) (0 : Nat) ∧ SV.v (Value.bool G) = SV.v (Value.bool S.G) ∧ SV.v
   (Value.bool K) = SV.v (Value.bool S.K) ∧ SV.v (Value.bool Ho) = SV.v (Value.bool S.Ho) ∧ SV.h (6 : Nat) [pe + (2 : Nat), (0 : Nat)] = SV.h (6 : Nat) [S.pe, (0 : Nat)] ∧ True) ∧ (SV.v (Value.int IntKind.i64 r) = SV.v (Value.int IntKind.i64 S.r) ∧ SV.v
   (Value.int IntKind.i64 c) = SV.v (Value.int IntKind.i64 S.c) ∧ SV.v (Value.bool false) = SV.v (Value.bool false) ∧ SV.p (2 : Nat) (0 : Nat) = SV.p (2 : Nat) (0 : Nat) ∧ True) ∧ (SV.h (3 : Nat) [oe, (0 : Nat)] = SV.h (3 : Nat) [oe, (0 : Nat)] ∧ True)
   ∧ (oe = oe ∧ ep = S.ep ∧ wiL l (nearI r (↑l.length : Int)) (nearI c (↑(nC l) : Int)) (nearI r (↑l.length : Int)) (nearI ((↑(nC l) : Int) - (1 : Int)) (↑(nC l) : Int)) blankC false = S.l) ∧ (SV.h (5 : Nat) [qe, (0 : Nat)] = SV.h (5 : Nat) [qe, (0 :
   Nat)] ∧ SV.v (Value.int IntKind.i64 fr) = SV.v (Value.int IntKind.i64 fr) ∧ SV.v (Value.int IntKind.i64 n) = SV.v (Value.int IntKind.i64 S.n) ∧ SV.v (Value.bool ov) = SV.v (Value.bool S.ov) ∧ True) ∧ (m = m ∧ qe = qe ∧ xs = S.xs) ∧ ((LI []).length =
   S.pl.length ∧ pe + (2 : Nat) = S.pe ∧ LI [] = S.pl) ∧ True) (br ((70 : Int) == b) ((SV.t [] = SV.t [] ∧ True) ∧ (SV.p (1 : Nat) (0 : Nat) = SV.p (1 : Nat) (0 : Nat) ∧ SV.p (4 : Nat) (0 : Nat) = SV.p (4 : Nat) (0 : Nat) ∧ SV.v (Value.bool true) = SV.v
   (Value.bool S.G) ∧ SV.v (Value.bool K) = SV.v (Value.bool S.K) ∧ SV.v (Value.bool Ho) = SV.v (Value.bool S.Ho) ∧ SV.h (6 : Nat) [pe + (2 : Nat), (0 : Nat)] = SV.h (6 : Nat) [S.pe, (0 : Nat)] ∧ True) ∧ (SV.v (Value.int IntKind.i64 r) = SV.v (Value.int
   IntKind.i64 S.r) ∧ SV.v (Value.int IntKind.i64 c) = SV.v (Value.int IntKind.i64 S.c) ∧ SV.v (Value.bool false) = SV.v (Value.bool false) ∧ SV.p (2 : Nat) (0 : Nat) = SV.p (2 : Nat) (0 : Nat) ∧ True) ∧ (SV.h (3 : Nat) [oe, (0 : Nat)] = SV.h (3 : Nat)
   [oe, (0 : Nat)] ∧ True) ∧ (oe = oe ∧ ep = S.ep ∧ l = S.l) ∧ (SV.h (5 : Nat) [qe, (0 : Nat)] = SV.h (5 : Nat) [qe, (0 : Nat)] ∧ SV.v (Value.int IntKind.i64 fr) = SV.v (Value.int IntKind.i64 fr) ∧ SV.v (Value.int IntKind.i64 n) = SV.v (Value.int
   IntKind.i64 S.n) ∧ SV.v (Value.bool ov) = SV.v (Value.bool S.ov) ∧ True) ∧ (m = m ∧ qe = qe ∧ xs = S.xs) ∧ ((0 : Nat) = S.pl.length ∧ pe + (2 : Nat) = S.pe ∧ LI [] = S.pl) ∧ True) (br ((71 : Int) == b) ((SV.t [] = SV.t [] ∧ True) ∧ (SV.p (1 : Nat) (0
   : Nat) = SV.p (1 : Nat) (0 : Nat) ∧ SV.p (4 : Nat) (0 : Nat) = SV.p (4 : Nat) (0 : Nat) ∧ SV.v (Value.bool false) = SV.v (Value.bool S.G) ∧ SV.v (Value.bool K) = SV.v (Value.bool S.K) ∧ SV.v (Value.bool Ho) = SV.v (Value.bool S.Ho) ∧ SV.h (6 : Nat)
   [pe + (2 : Nat), (0 : Nat)] = SV.h (6 : Nat) [S.pe, (0 : Nat)] ∧ True) ∧ (SV.v (Value.int IntKind.i64 r) = SV.v (Value.int IntKind.i64 S.r) ∧ SV.v (Value.int IntKind.i64 c) = SV.v (Value.int IntKind.i64 S.c) ∧ SV.v (Value.bool false) = SV.v
   (Value.bool false) ∧ SV.p (2 : Nat) (0 : Nat) = SV.p (2 : Nat) (0 : Nat) ∧ True) ∧ (SV.h (3 : Nat) [oe, (0 : Nat)] = SV.h (3 : Nat) [oe, (0 : Nat)] ∧ True) ∧ (oe = oe ∧ ep = S.ep ∧ l = S.l) ∧ (SV.h (5 : Nat) [qe, (0 : Nat)] = SV.h (5 : Nat) [qe, (0 :
   Nat)] ∧ SV.v (Value.int IntKind.i64 fr) = SV.v (Value.int IntKind.i64 fr) ∧ SV.v (Value.int IntKind.i64 n) = SV.v (Value.int IntKind.i64 S.n) ∧ SV.v (Value.bool ov) = SV.v (Value.bool S.ov) ∧ True) ∧ (m = m ∧ qe = qe ∧ xs = S.xs) ∧ ((0 : Nat) =
   S.pl.length ∧ pe + (2 : Nat) = S.pe ∧ LI [] = S.pl) ∧ True) (br ((61 : Int) == b) ((SV.t [] = SV.t [] ∧ True) ∧ (SV.p (1 : Nat) (0 : Nat) = SV.p (1 : Nat) (0 : Nat) ∧ SV.p (4 : Nat) (0 : Nat) = SV.p (4 : Nat) (0 : Nat) ∧ SV.v (Value.bool G) = SV.v
   (Value.bool S.G) ∧ SV.v (Value.bool true) = SV.v (Value.bool S.K) ∧ SV.v (Value.bool Ho) = SV.v (Value.bool S.Ho) ∧ SV.h (6 : Nat) [pe + (2 : Nat), (0 : Nat)] = SV.h (6 : Nat) [S.pe, (0 : Nat)] ∧ True) ∧ (SV.v (Value.int IntKind.i64 r) = SV.v
   (Value.int IntKind.i64 S.r) ∧ SV.v (Value.int IntKind.i64 c) = SV.v (Value.int IntKind.i64 S.c) ∧ SV.v (Value.bool false) = SV.v (Value.bool false) ∧ SV.p (2 : Nat) (0 : Nat) = SV.p (2 : Nat) (0 : Nat) ∧ True) ∧ (SV.h (3 : Nat) [oe, (0 : Nat)] = SV.h
   (3 : Nat) [oe, (0 : Nat)] ∧ True) ∧ (oe = oe ∧ ep = S.ep ∧ l = S.l) ∧ (SV.h (5 : Nat) [qe, (0 : Nat)] = SV.h (5 : Nat) [qe, (0 : Nat)] ∧ SV.v (Value.int IntKind.i64 fr) = SV.v (Value.int IntKind.i64 fr) ∧ SV.v (Value.int IntKind.i64 n) = SV.v
   (Value.int IntKind.i64 S.n) ∧ SV.v (Value.bool ov) = SV.v (Value.bool S.ov) ∧ True) ∧ (m = m ∧ qe = qe ∧ xs = S.xs) ∧ ((0 : Nat) = S.pl.length ∧ pe + (2 : Nat) = S.pe ∧ LI [] = S.pl) ∧ True) (br ((62 : Int) == b) ((SV.t [] = SV.t [] ∧ True) ∧ (SV.p
   (1 : Nat) (0 : Nat) = SV.p (1 : Nat) (0 : Nat) ∧ SV.p (4 : Nat) (0 : Nat) = SV.p (4 : Nat) (0 : Nat) ∧ SV.v (Value.bool G) = SV.v (Value.bool S.G) ∧ SV.v (Value.bool false) = SV.v (Value.bool S.K) ∧ SV.v (Value.bool Ho) = SV.v (Value.bool S.Ho) ∧
   SV.h (6 : Nat) [pe + (2 : Nat), (0 : Nat)] = SV.h (6 : Nat) [S.pe, (0 : Nat)] ∧ True) ∧ (SV.v (Value.int IntKind.i64 r) = SV.v (Value.int IntKind.i64 S.r) ∧ SV.v (Value.int IntKind.i64 c) = SV.v (Value.int IntKind.i64 S.c) ∧ SV.v (Value.bool false) =
   SV.v (Value.bool false) ∧ SV.p (2 : Nat) (0 : Nat) = SV.p (2 : Nat) (0 : Nat) ∧ True) ∧ (SV.h (3 : Nat) [oe, (0 : Nat)] = SV.h (3 : Nat) [oe, (0 : Nat)] ∧ True) ∧ (oe = oe ∧ ep = S.ep ∧ l = S.l) ∧ (SV.h (5 : Nat) [qe, (0 : Nat)] = SV.h (5 : Nat) [qe,
   (0 : Nat)] ∧ SV.v (Value.int IntKind.i64 fr) = SV.v (Value.int IntKind.i64 fr) ∧ SV.v (Value.int IntKind.i64 n) = SV.v (Value.int IntKind.i64 S.n) ∧ SV.v (Value.bool ov) = SV.v (Value.bool S.ov) ∧ True) ∧ (m = m ∧ qe = qe ∧ xs = S.xs) ∧ ((0 : Nat) =
   S.pl.length ∧ pe + (2 : Nat) = S.pe ∧ LI [] = S.pl) ∧ True) (br ((91 : Int) == b) ((SV.t [] = SV.t [] ∧ True) ∧ (SV.p (1 : Nat) (0 : Nat) = SV.p (1 : Nat) (0 : Nat) ∧ SV.p (4 : Nat) (0 : Nat) = SV.p (4 : Nat) (0 : Nat) ∧ SV.v (Value.bool G) = SV.v
   (Value.bool S.G) ∧ SV.v (Value.bool K) = SV.v (Value.bool S.K) ∧ SV.v (Value.bool true) = SV.v (Value.bool S.Ho) ∧ SV.h (6 : Nat) [pe + (2 : Nat), (0 : Nat)] = SV.h (6 : Nat) [S.pe, (0 : Nat)] ∧ True) ∧ (SV.v (Value.int IntKind.i64 r) = SV.v
   (Value.int IntKind.i64 S.r) ∧ SV.v (Value.int IntKind.i64 c) = SV.v (Value.int IntKind.i64 S.c) ∧ SV.v (Value.bool false) = SV.v (Value.bool false) ∧ SV.p (2 : Nat) (0 : Nat) = SV.p (2 : Nat) (0 : Nat) ∧ True) ∧ (SV.h (3 : Nat) [oe, (0 : Nat)] = SV.h
   (3 : Nat) [oe, (0 : Nat)] ∧ True) ∧ (oe = oe ∧ ep = S.ep ∧ l = S.l) ∧ (SV.h (5 : Nat) [qe, (0 : Nat)] = SV.h (5 : Nat) [qe, (0 : Nat)] ∧ SV.v (Value.int IntKind.i64 fr) = SV.v (Value.int IntKind.i64 fr) ∧ SV.v (Value.int IntKind.i64 n) = SV.v
   (Value.int IntKind.i64 S.n) ∧ SV.v (Value.bool ov) = SV.v (Value.bool S.ov) ∧ True) ∧ (m = m ∧ qe = qe ∧ xs = S.xs) ∧ ((0 : Nat) = S.pl.length ∧ pe + (2 : Nat) = S.pe ∧ LI [] = S.pl) ∧ True) (br ((92 : Int) == b) ((SV.t [] = SV.t [] ∧ True) ∧ (SV.p
   (1 : Nat) (0 : Nat) = SV.p (1 : Nat) (0 : Nat) ∧ SV.p (4 : Nat) (0 : Nat) = SV.p (4 : Nat) (0 : Nat) ∧ SV.v (Value.bool G) = SV.v (Value.bool S.G) ∧ SV.v (Value.bool K) = SV.v (Value.bool S.K) ∧ SV.v (Value.bool false) = SV.v (Value.bool S.Ho) ∧ SV.h
   (6 : Nat) [pe + (2 : Nat), (0 : Nat)] = SV.h (6 : Nat) [S.pe, (0 : Nat)] ∧ True) ∧ (SV.v (Value.int IntKind.i64 r) = SV.v (Value.int IntKind.i64 S.r) ∧ SV.v (Value.int IntKind.i64 c) = SV.v (Value.int IntKind.i64 S.c) ∧ SV.v (Value.bool false) = SV.v
   (Value.bool false) ∧ SV.p (2 : Nat) (0 : Nat) = SV.p (2 : Nat) (0 : Nat) ∧ True) ∧ (SV.h (3 : Nat) [oe, (0 : Nat)] = SV.h (3 : Nat) [oe, (0 : Nat)] ∧ True) ∧ (oe = oe ∧ ep = S.ep ∧ l = S.l) ∧ (SV.h (5 : Nat) [qe, (0 : Nat)] = SV.h (5 : Nat) [qe, (0 :
   Nat)] ∧ SV.v (Value.int IntKind.i64 fr) = SV.v (Value.int IntKind.i64 fr) ∧ SV.v (Value.int IntKind.i64 n) = SV.v (Value.int IntKind.i64 S.n) ∧ SV.v (Value.bool ov) = SV.v (Value.bool S.ov) ∧ True) ∧ (m = m ∧ qe = qe ∧ xs = S.xs) ∧ ((0 : Nat) =
   S.pl.length ∧ pe + (2 : Nat) = S.pe ∧ LI [] = S.pl) ∧ True) (br ((90 : Int) == b) (true = true ∧ (qe = qe ∧ QWf fr n xs m ∧ (3 : Nat) ≤ (1099511627776 : Nat)) ∧ br (decide (n + (3 : Int) > (↑m : Int))) ((SV.t [] = SV.t [] ∧ True) ∧ (SV.p (1 : Nat) (0
   : Nat) = SV.p (1 : Nat) (0 : Nat) ∧ SV.p (4 : Nat) (0 : Nat) = SV.p (4 : Nat) (0 : Nat) ∧ SV.v (Value.bool G) = SV.v (Value.bool S.G) ∧ SV.v (Value.bool K) = SV.v (Value.bool S.K) ∧ SV.v (Value.bool Ho) = SV.v (Value.bool S.Ho) ∧ SV.h (6 : Nat) [pe +
   (2 : Nat), (0 : Nat)] = SV.h (6 : Nat) [S.pe, (0 : Nat)] ∧ True) ∧ (SV.v (Value.int IntKind.i64 r) = SV.v (Value.int IntKind.i64 S.r) ∧ SV.v (Value.int IntKind.i64 c) = SV.v (Value.int IntKind.i64 S.c) ∧ SV.v (Value.bool false) = SV.v (Value.bool
   false) ∧ SV.p (2 : Nat) (0 : Nat) = SV.p (2 : Nat) (0 : Nat) ∧ True) ∧ (SV.h (3 : Nat) [oe, (0 : Nat)] = SV.h (3 : Nat) [oe, (0 : Nat)] ∧ True) ∧ (oe = oe ∧ ep = S.ep ∧ l = S.l) ∧ (SV.h (5 : Nat) [qe, (0 : Nat)] = SV.h (5 : Nat) [qe, (0 : Nat)] ∧
   SV.v (Value.int IntKind.i64 fr) = SV.v (Value.int IntKind.i64 fr) ∧ SV.v (Value.int IntKind.i64 n) = SV.v (Value.int IntKind.i64 S.n) ∧ SV.v (Value.bool true) = SV.v (Value.bool S.ov) ∧ True) ∧ (m = m ∧ qe = qe ∧ xs = S.xs) ∧ ((0 : Nat) = S.pl.length
   ∧ pe + (2 : Nat) = S.pe ∧ LI [] = S.pl) ∧ True) ((SV.t [] = SV.t [] ∧ True) ∧ (SV.p (1 : Nat) (0 : Nat) = SV.p (1 : Nat) (0 : Nat) ∧ SV.p (4 : Nat) (0 : Nat) = SV.p (4 : Nat) (0 : Nat) ∧ SV.v (Value.bool G) = SV.v (Value.bool S.G) ∧ SV.v (Value.bool
   K) = SV.v (Value.bool S.K) ∧ SV.v (Value.bool Ho) = SV.v (Value.bool S.Ho) ∧ SV.h (6 : Nat) [pe + (2 : Nat), (0 : Nat)] = SV.h (6 : Nat) [S.pe, (0 : Nat)] ∧ True) ∧ (SV.v (Value.int IntKind.i64 r) = SV.v (Value.int IntKind.i64 S.r) ∧ SV.v (Value.int
   IntKind.i64 c) = SV.v (Value.int IntKind.i64 S.c) ∧ SV.v (Value.bool false) = SV.v (Value.bool false) ∧ SV.p (2 : Nat) (0 : Nat) = SV.p (2 : Nat) (0 : Nat) ∧ True) ∧ (SV.h (3 : Nat) [oe, (0 : Nat)] = SV.h (3 : Nat) [oe, (0 : Nat)] ∧ True) ∧ (oe = oe
   ∧ ep = S.ep ∧ l = S.l) ∧ (SV.h (5 : Nat) [qe, (0 : Nat)] = SV.h (5 : Nat) [qe, (0 : Nat)] ∧ SV.v (Value.int IntKind.i64 fr) = SV.v (Value.int IntKind.i64 fr) ∧ SV.v (Value.int IntKind.i64 (n + (3 : Int))) = SV.v (Value.int IntKind.i64 S.n) ∧ SV.v
   (Value.bool ov) = SV.v (Value.bool S.ov) ∧ True) ∧ (m = m ∧ qe = qe ∧ putL m xs (fr + n) (LI [(27 : Int), (47 : Int), (75 : Int)]) = S.xs) ∧ ((0 : Nat) = S.pl.length ∧ pe + (2 : Nat) = S.pe ∧ LI [] = S.pl) ∧ True)) ((SV.t [] = SV.t [] ∧ True) ∧ (SV.p
   (1 : Nat) (0 : Nat) = SV.p (1 : Nat) (0 : Nat) ∧ SV.p (4 : Nat) (0 : Nat) = SV.p (4 : Nat) (0 : Nat) ∧ SV.v (Value.bool G) = SV.v (Value.bool S.G) ∧ SV.v (Value.bool K) = SV.v (Value.bool S.K) ∧ SV.v (Value.bool Ho) = SV.v (Value.bool S.Ho) ∧ SV.h (6
   : Nat) [pe + (2 : Nat), (0 : Nat)] = SV.h (6 : Nat) [S.pe, (0 : Nat)] ∧ True) ∧ (SV.v (Value.int IntKind.i64 r) = SV.v (Value.int IntKind.i64 S.r) ∧ SV.v (Value.int IntKind.i64 c) = SV.v (Value.int IntKind.i64 S.c) ∧ SV.v (Value.bool false) = SV.v
   (Value.bool false) ∧ SV.p (2 : Nat) (0 : Nat) = SV.p (2 : Nat) (0 : Nat) ∧ True) ∧ (SV.h (3 : Nat) [oe, (0 : Nat)] = SV.h (3 : Nat) [oe, (0 : Nat)] ∧ True) ∧ (oe = oe ∧ ep = S.ep ∧ l = S.l) ∧ (SV.h (5 : Nat) [qe, (0 : Nat)] = SV.h (5 : Nat) [qe, (0 :
   Nat)] ∧ SV.v (Value.int IntKind.i64 fr) = SV.v (Value.int IntKind.i64 fr) ∧ SV.v (Value.int IntKind.i64 n) = SV.v (Value.int IntKind.i64 S.n) ∧ SV.v (Value.bool ov) = SV.v (Value.bool S.ov) ∧ True) ∧ (m = m ∧ qe = qe ∧ xs = S.xs) ∧ ((0 : Nat) =
   S.pl.length ∧ pe + (2 : Nat) = S.pe ∧ LI [] = S.pl) ∧ True)))))))))))))))) (rq ((pe + (1 : Nat)).beq (pe + (1 : Nat)) && (Nat.beq (1 : Nat) (1 : Nat) && decide ((0 : Int) ≤ (2 : Int) ∧ (2 : Int) < (↑(pl.length + (1 : Nat)) : Int)))) (rq ((pe + (1 :
   Nat)).beq (pe + (1 : Nat)) && Nat.blt (2 : Nat) (pl ++ intsOf (List.take (1 : Nat) (List.drop (0 : Nat) (setAll (List.map (fun i => SV.v (Value.int IntKind.u8 (0 : Int)).cells[i % (1 : Nat)]!) (List.range (1 : Nat))) (0 : Nat) [SV.v (Value.int
   IntKind.u8 b)])))).length) ((True ∧ (SV.p (0 : Nat) (0 : Nat) = SV.p (0 : Nat) (0 : Nat) ∧ SV.v (Value.int IntKind.u8 b) = SV.v (Value.int IntKind.u8 b) ∧ SV.v (Value.int IntKind.u8 ((pl ++ intsOf (List.take (1 : Nat) (List.drop (0 : Nat) (setAll
   (List.map (fun i => SV.v (Value.int IntKind.u8 (0 : Int)).cells[i % (1 : Nat)]!) (List.range (1 : Nat))) (0 : Nat) [SV.v (Value.int IntKind.u8 b)])))).getD (2 : Nat) (0 : Int))) = SV.v (Value.int IntKind.u8 ((pl ++ intsOf (List.take (1 : Nat)
   (List.drop (0 : Nat) (setAll (List.map (fun i => SV.v (Value.int IntKind.u8 (0 : Int)).cells[i % (1 : Nat)]!) (List.range (1 : Nat))) (0 : Nat) [SV.v (Value.int IntKind.u8 b)])))).getD (2 : Nat) (0 : Int))) ∧ True) ∧ (SV.p (1 : Nat) (0 : Nat) = SV.p
   (1 : Nat) (0 : Nat) ∧ SV.p (4 : Nat) (0 : Nat) = SV.p (4 : Nat) (0 : Nat) ∧ SV.v (Value.bool G) = SV.v (Value.bool G) ∧ SV.v (Value.bool K) = SV.v (Value.bool K) ∧ SV.v (Value.bool Ho) = SV.v (Value.bool Ho) ∧ SV.h (6 : Nat) [pe + (1 : Nat) + (1 :
   Nat), (0 : Nat)] = SV.h (6 : Nat) [pe + (2 : Nat), (0 : Nat)] ∧ True) ∧ (SV.v (Value.int IntKind.i64 r) = SV.v (Value.int IntKind.i64 r) ∧ SV.v (Value.int IntKind.i64 c) = SV.v (Value.int IntKind.i64 c) ∧ SV.v (Value.bool false) = SV.v (Value.bool
   false) ∧ SV.p (2 : Nat) (0 : Nat) = SV.p (2 : Nat) (0 : Nat) ∧ True) ∧ (SV.h (3 : Nat) [oe, (0 : Nat)] = SV.h (3 : Nat) [oe, (0 : Nat)] ∧ True) ∧ (oe = oe ∧ ep = ep ∧ l = l) ∧ (SV.h (5 : Nat) [qe, (0 : Nat)] = SV.h (5 : Nat) [qe, (0 : Nat)] ∧ SV.v
   (Value.int IntKind.i64 fr) = SV.v (Value.int IntKind.i64 fr) ∧ SV.v (Value.int IntKind.i64 n) = SV.v (Value.int IntKind.i64 n) ∧ SV.v (Value.bool ov) = SV.v (Value.bool ov) ∧ True) ∧ (m = m ∧ qe = qe ∧ xs = xs) ∧ ((0 : Nat) = (0 : Nat) ∧ pe + (1 :
   Nat) + (1 : Nat) = pe + (2 : Nat) ∧ LI [] = LI []) ∧ (SV.v (Value.int IntKind.u8 b) = SV.v (Value.int IntKind.u8 b) ∧ True) ∧ True) ∧ ∀ (x : Nat), True → true = true ∧ TA (((), (), G, K, Ho, pe + (2 : Nat)), (r, c, false, (), ()), oe, RC.mk l oe ep,
   (qe, fr, n, ov), OI.mk xs m qe, OI.mk (LI []) (0 : Nat) (pe + (2 : Nat))) ∧ (SV.t [] = SV.t [] ∧ True) ∧ (SV.p (1 : Nat) (0 : Nat) = SV.p (1 : Nat) (0 : Nat) ∧ SV.p (4 : Nat) (0 : Nat) = SV.p (4 : Nat) (0 : Nat) ∧ SV.v (Value.bool G) = SV.v
   (Value.bool S.G) ∧ SV.v (Value.bool K) = SV.v (Value.bool S.K) ∧ SV.v (Value.bool Ho) = SV.v (Value.bool S.Ho) ∧ SV.h (6 : Nat) [pe + (2 : Nat), (0 : Nat)] = SV.h (6 : Nat) [S.pe, (0 : Nat)] ∧ True) ∧ (SV.v (Value.int IntKind.i64 (if (0 : Int) ≤
   IntKind.i64.wrap (IntKind.i64.wrap ((pl ++ intsOf (List.take (1 : Nat) (List.drop (0 : Nat) (setAll (List.map (fun i => SV.v (Value.int IntKind.u8 (0 : Int)).cells[i % (1 : Nat)]!) (List.range (1 : Nat))) (0 : Nat) [SV.v (Value.int IntKind.u8
   b)])))).getD (2 : Nat) (0 : Int)) - (32 : Int)) ∧ IntKind.i64.wrap (IntKind.i64.wrap ((pl ++ intsOf (List.take (1 : Nat) (List.drop (0 : Nat) (setAll (List.map (fun i => SV.v (Value.int IntKind.u8 (0 : Int)).cells[i % (1 : Nat)]!) (List.range (1 :
   Nat))) (0 : Nat) [SV.v (Value.int IntKind.u8 b)])))).getD (2 : Nat) (0 : Int)) - (32 : Int)) ≤ (↑l.length : Int) - (1 : Int) then IntKind.i64.wrap (IntKind.i64.wrap ((pl ++ intsOf (List.take (1 : Nat) (List.drop (0 : Nat) (setAll (List.map (fun i =>
   SV.v (Value.int IntKind.u8 (0 : Int)).cells[i % (1 : Nat)]!) (List.range (1 : Nat))) (0 : Nat) [SV.v (Value.int IntKind.u8 b)])))).getD (2 : Nat) (0 : Int)) - (32 : Int)) else r)) = SV.v (Value.int IntKind.i64 S.r) ∧ SV.v (Value.int IntKind.i64 (if
   (0 : Int) ≤ IntKind.i64.wrap (IntKind.i64.wrap b - (32 : Int)) then if (↑(nC l) : Int) - (1 : Int) < IntKind.i64.wrap (IntKind.i64.wrap b - (32 : Int)) then (↑(nC l) : Int) - (1 : Int) else IntKind.i64.wrap (IntKind.i64.wrap b - (32 : Int)) else c))
   = SV.v (Value.int IntKind.i64 S.c) ∧ SV.v (Value.bool false) = SV.v (Value.bool false) ∧ SV.p (2 : Nat) (0 : Nat) = SV.p (2 : Nat) (0 : Nat) ∧ True) ∧ (SV.h (3 : Nat) [oe, (0 : Nat)] = SV.h (3 : Nat) [oe, (0 : Nat)] ∧ True) ∧ (oe = oe ∧ ep = S.ep ∧ l
   = S.l) ∧ (SV.h (5 : Nat) [qe, (0 : Nat)] = SV.h (5 : Nat) [qe, (0 : Nat)] ∧ SV.v (Value.int IntKind.i64 fr) = SV.v (Value.int IntKind.i64 fr) ∧ SV.v (Value.int IntKind.i64 n) = SV.v (Value.int IntKind.i64 S.n) ∧ SV.v (Value.bool ov) = SV.v
   (Value.bool S.ov) ∧ True) ∧ (m = m ∧ qe = qe ∧ xs = S.xs) ∧ ((LI []).length = S.pl.length ∧ pe + (2 : Nat) = S.pe ∧ LI [] = S.pl) ∧ True)))))))) (sqX ((u1, u2, G, K, Ho, pe), (r, c, false, u3, u4), oe, RC.mk l oe ep, (qe, fr, n, ov), OI.mk xs m qe,
   OI.mk pl pl.length pe) b))) (by kernel_rfl) ?_
  clear hp hφ
  obtain ⟨hg, r0, r1, c0, c1, hq, hl, hb⟩ := id hI
  simp only [tmS] at hg r0 r1 c0 c1 hq hl hb hl1
  have hT : TA (((), (), G, K, Ho, pe + 2), (r, c, false, (), ()), oe, RC.mk l oe ep, (qe, fr, n, ov), OI.mk xs m qe, OI.mk [] 0 (pe + 2)) := ⟨rfl, rfl, rfl, rfl, rfl, hg, r0, r1, c0, c1, hq, by simp, fun x hx => by simp at hx⟩
  have n1 : nearI r l.length = r := near_in r0 r1
  have n2 : nearI c (nC l) = c := near_in c0 c1
  have s1 : stI r (-1) l.length = nearI (r + -1) l.length := st_in r0 r1 (by omega) (by omega)
  have s2 : stI r 1 l.length = nearI (r + 1) l.length := st_in r0 r1 (by omega) (by omega)
  have s3 : stI r 0 l.length = r := by rw [st_in r0 r1 (by omega) (by omega), Int.add_zero, n1]
  have s4 : stI c 0 (nC l) = c := by rw [st_in c0 c1 (by omega) (by omega), Int.add_zero, n2]
  have s5 : stI c 1 (nC l) = nearI (c + 1) (nC l) := st_in c0 c1 (by omega) (by omega)
  have s6 : stI c (-1) (nC l) = nearI (c + -1) (nC l) := st_in c0 c1 (by omega) (by omega)
  match pl, hl1, hl, hb, hI with
  | [], hl1, _, _, _ => simp at hl1
  | [x], _, _, hb, hI =>
    have kk : ∀ z : Int, intsOf (List.take 1 (setAll [SV.v (Value.int IntKind.u8 0).cells[0]!] 0 [SV.v (Value.int IntKind.u8 z)])) = [z] := fun _ => rfl
    by_cases h89 : b = 89
    · subst h89
      simp [br_iff, rq_iff, nbeq, sqX, sqT, twoT, tmS, trM, trF, hg, hT, n1, n2, s1, s2, s3, s4, s5, s6, stT, moT, zT, kk]
    by_cases h65 : b = 65
    · subst h65
      simp [br_iff, rq_iff, nbeq, sqX, sqT, twoT, tmS, trM, trF, hg, hT, n1, n2, s1, s2, s3, s4, s5, s6, stT, moT, zT, wpT, ixT, kk]
    by_cases h66 : b = 66
    · subst h66
      simp [br_iff, rq_iff, nbeq, sqX, sqT, twoT, tmS, trM, trF, hg, hT, n1, n2, s1, s2, s3, s4, s5, s6, stT, moT, zT, wpT, ixT, kk]
    by_cases h67 : b = 67
    · subst h67
      simp [br_iff, rq_iff, nbeq, sqX, sqT, twoT, tmS, trM, trF, hg, hT, n1, n2, s1, s2, s3, s4, s5, s6, stT, moT, zT, wpT, ixT, kk]
    by_cases h68 : b = 68
    · subst h68
      simp [br_iff, rq_iff, nbeq, sqX, sqT, twoT, tmS, trM, trF, hg, hT, n1, n2, s1, s2, s3, s4, s5, s6, stT, moT, zT, wpT, ixT, kk]
    by_cases h72 : b = 72
    · subst h72
      simp [br_iff, rq_iff, nbeq, sqX, sqT, twoT, tmS, trM, trF, hg, hT, n1, n2, s1, s2, s3, s4, s5, s6, stT, moT, zT, wpT, ixT, kk]
    by_cases h73 : b = 73
    · subst h73
      by_cases hr : r = 0
      · subst hr
        simp [br_iff, rq_iff, nbeq, sqX, sqT, twoT, tmS, trM, trF, hg, hT, n1, n2, s1, s2, s3, s4, s5, s6, stT, moT, zT, wpT, ixT, kk]
      · simp [br_iff, rq_iff, nbeq, sqX, sqT, twoT, tmS, trM, trF, hg, hT, n1, n2, s1, s2, s3, s4, s5, s6, stT, moT, zT, wpT, ixT, kk, hr]
    by_cases h74 : b = 74
    · subst h74
      simp [br_iff, rq_iff, nbeq, sqX, sqT, twoT, tmS, trM, trF, hg, hT, n1, n2, s1, s2, s3, s4, s5, s6, stT, moT, zT, wpT, ixT, kk]
    by_cases h75 : b = 75
    · subst h75
      simp [br_iff, rq_iff, nbeq, sqX, sqT, twoT, tmS, trM, trF, hg, hT, n1, n2, s1, s2, s3, s4, s5, s6, stT, moT, zT, wpT, ixT, kk]
    by_cases h70 : b = 70
    · subst h70
      simp [br_iff, rq_iff, nbeq, sqX, sqT, twoT, tmS, trM, trF, hg, hT, n1, n2, s1, s2, s3, s4, s5, s6, stT, moT, zT, wpT, ixT, kk]
    by_cases h71 : b = 71
    · subst h71
      simp [br_iff, rq_iff, nbeq, sqX, sqT, twoT, tmS, trM, trF, hg, hT, n1, n2, s1, s2, s3, s4, s5, s6, stT, moT, zT, wpT, ixT, kk]
    by_cases h61 : b = 61
    · subst h61
      simp [br_iff, rq_iff, nbeq, sqX, sqT, twoT, tmS, trM, trF, hg, hT, n1, n2, s1, s2, s3, s4, s5, s6, stT, moT, zT, wpT, ixT, kk]
    by_cases h62 : b = 62
    · subst h62
      simp [br_iff, rq_iff, nbeq, sqX, sqT, twoT, tmS, trM, trF, hg, hT, n1, n2, s1, s2, s3, s4, s5, s6, stT, moT, zT, wpT, ixT, kk]
    by_cases h91 : b = 91
    · subst h91
      simp [br_iff, rq_iff, nbeq, sqX, sqT, twoT, tmS, trM, trF, hg, hT, n1, n2, s1, s2, s3, s4, s5, s6, stT, moT, zT, wpT, ixT, kk]
    by_cases h92 : b = 92
    · subst h92
      simp [br_iff, rq_iff, nbeq, sqX, sqT, twoT, tmS, trM, trF, hg, hT, n1, n2, s1, s2, s3, s4, s5, s6, stT, moT, zT, wpT, ixT, kk]
    by_cases h90 : b = 90
    · subst h90
      simp [br_iff, rq_iff, nbeq, sqX, sqT, twoT, tmS, trM, trF, hg, hT, n1, n2, s1, s2, s3, s4, s5, s6, stT, moT, zT, wpT, ixT, kk]
      refine ⟨hq, fun hz => ?_, fun hz => ?_⟩
      · simp [hz]
      · simp [show ¬ (m : Int) < n + 3 by omega]
    have q : ∀ v : Int, b ≠ v → v ≠ b := fun v h e => h e.symm
    simp [br_iff, rq_iff, nbeq, sqX, sqT, twoT, tmS, trM, trF, hg, hT, n1, n2, s1, s2, s3, s4, s5, s6, stT, moT, zT, kk, h89, h65, q _ h65, h66, q _ h66, h67, q _ h67, h68, q _ h68, h72, q _ h72, h73, q _ h73, h74, q _ h74, h75, q _ h75, h70, q _ h70, h71, q _ h71, h61, q _ h61, h62, q _ h62, h91, q _ h91, h92, q _ h92, h90, q _ h90]
  | [x, y], _, _, hb, hI => simp [br_iff, rq_iff, nbeq, sqX, sqT, tmS, trM, trF]; rfl
  | [x, y, z], _, _, hb, hI =>
    have hz := hb z (by simp)
    have w1 : IntKind.i64.wrap z = z := wrap64 (by omega) (by omega)
    have w2 : IntKind.i64.wrap (z - 32) = z - 32 := wrap64 (by omega) (by omega)
    have w3 : IntKind.i64.wrap b = b := wrap64 (by omega) (by omega)
    have w4 : IntKind.i64.wrap (b - 32) = b - 32 := wrap64 (by omega) (by omega)
    simp [br_iff, rq_iff, nbeq, sqX, sqT, twoT, tmS, trM, trF, hg, hT, n1, n2, s1, s2, s3, s4, s5, s6, stT, moT, zT, w1, w2, w3, w4, plT]
    by_cases h5 : 32 ≤ b <;> by_cases h6 : (nC l : Int) - 1 < b - 32 <;> simp [h5, h6]
  | x :: y :: z :: w :: q, _, hl, _, _ => simp at hl
end Go.Proofs.YtcbjgpkbfmmdpaaDoor
