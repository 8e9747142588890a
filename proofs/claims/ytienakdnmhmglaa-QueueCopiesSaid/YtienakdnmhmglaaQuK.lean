/- A call is done with both queues. -/
import Derived.Test.YtienakdnmhmglaaQuJ
set_option linter.unusedSimpArgs false
set_option linter.unusedVariables false
set_option linter.unusedSectionVars false
namespace Go.Proofs.Ytienakdnmhmglaa
open Go Go.Sym

theorem ba_left (a b : ByteArray) (k : Nat) (h : a.size = k) : (a ++ b).extract 0 k = a := by
  subst h
  rw [ByteArray.extract_append, Nat.zero_sub, Nat.sub_self, ByteArray.extract_zero_size, ByteArray.extract_same, ByteArray.append_empty]
theorem ba_right (a b : ByteArray) (k : Nat) (h : a.size = k) : (a ++ b).extract k (a ++ b).size = b := by
  subst h
  rw [ByteArray.extract_append, ByteArray.size_append, Nat.sub_self, Nat.add_sub_cancel_left, ByteArray.extract_zero_size]
  have : a.extract a.size (a.size + b.size) = ByteArray.empty := by
    rw [ByteArray.extract_eq_empty_iff]; omega
  rw [this, ByteArray.empty_append]
theorem qwf_new {m : Nat} (h : m ≤ 4096) : QWf 0 0 (List.replicate m 0) m :=
  ⟨by simp, h, by omega, by omega, by omega, by omega, fun x hx => by have := (List.mem_replicate.1 hx).2; omega⟩
/-- A call: what is asked, the texts, a number. -/
abbrev Opr := Int × List ByteArray × Int
abbrev op0 : Opr := (0, [], 0)
def opIC (o : Opr) (fo : Nat) : IC := match fo with
  | 0 => .pl (.int .i64 o.1)
  | 1 => .ss o.2.1
  | _ => .pl (.int .i64 o.2.2)
def opsIC (l : List Opr) : IC := .sl l.length 3 fun i fo => opIC (l.getD i op0) fo
def ptab' : List (Nat × PS) := [(11, psAwake)]
theorem ptab'_ok : Pures Try.prog ptab' := ⟨ok_awake, trivial⟩
def qtabX : List (Nat × ACon Unit) := (23, lcXPush) :: (25, lcXSome) :: (24, lcXDrain) :: qtabA
theorem qtabX_ok : LCs Try.prog qtabX := ⟨ok_xpush, ok_xsome, ok_xdrain, qtabA_ok⟩
/-- What both hold. -/
def both (ep : Nat) (fr n : Int) (ov : Bool) (xs : List Int) (m : Nat) (most : Int) (L : List ByteArray) : List (SB Unit) :=
  [.cells [.h 1 [ep, 0], .v (.int .i64 fr), .v (.int .i64 n), .v (.bool ov)] 50, .own (.ints .u8 xs) m 5 1 ep true, shX.enc (bytesOf (tk xs fr m n), most, ov), .inp (.ss L)]
abbrev DB := (Nat × Int × Int × Bool) × OI × XB × List ByteArray
def shDo : ShH DB := shHCons (shCells (shCons (shO 1) (shCons shI (shCons shI (shOne shB)))) 50) (shHCons (shOwnI .u8 5 true) (shHCons shX (shHOne shSS)))
def altDoes : (Unit × Unit × Int × Unit × Int) × DB → Alt Unit := fun ((_, _, ask, _, N), ((ep, fr, n, ov), ⟨xs, m, ep2⟩, (s, most, xov), L)) =>
  .ask (ep = ep2 ∧ QWf fr n xs m ∧ s = bytesOf (tk xs fr m n) ∧ xov = ov ∧ most = m ∧ L.length ≤ 1099511627776 ∧ (bytesLs L).length ≤ 1099511627776)
    (.br (ask == 0)
      (.br (decide (n + (bytesLs L).length > m)) (.one (.v (.bool true)) (both ep fr n true xs m most L) [0, 1, 2])
        (.one (.v (.bool true)) (both ep fr (n + (bytesLs L).length) ov (putL m xs (fr + n) (bytesLs L)) m most L) [0, 1, 2]))
      (.br (ask == 1) (.one (.v (.bool true)) (both ep ((fr + n) % m) 0 false xs m most L) [0, 1, 2])
        (.br (ask == 3) (.one (.v (.bool true)) (both ep ((fr + n) % m) 0 false xs m most L) [0, 1, 2])
          (.one (.v (.bool true)) (both ep ((fr + kq N n) % m) (n - kq N n) ov xs m most L) [0, 1, 2]))))
def lcDoes : ACon Unit := mkLC (decP (shCons (shP 0) (shCons (shP 2) (shOne (shA (shCons shI (shCons (shR 3) (shOne shI))))))) shDo) altDoes
set_option maxHeartbeats 4000000 in
theorem ok_does : ∀ I : Sym.Inv Unit, LCOk I Try.prog 17 lcDoes := by
  refine lc_mk (fun _ => allCfg Try.prog [] qtabX 0) (fun _ _ => allCfg_ok mixed trivial qtabX_ok) (fun _ => rfl) (n := 60) Try.func17 ?_
  intro ⟨⟨_, _, ask, _, N⟩, ⟨ep, fr, n, ov⟩, ⟨xs, m, ep2⟩, ⟨s, most, xov⟩, L⟩ hφ
  obtain ⟨⟨rfl, hq, rfl, rfl, rfl, hl, hB⟩, _⟩ := id hφ
  refine kcast (B := (br (ask == (0 : Int)) (true = true ∧ (ep = ep ∧ QWf fr n xs m ∧ L.length ≤ (1099511627776 : Nat) ∧ (bytesLs L).length ≤ (1099511627776 : Nat)) ∧ br (decide (n + (↑(bytesLs L).length : Int) > (↑m : Int))) (true = true ∧ (L.length
   ≤ (1099511627776 : Nat) ∧ (bytesOf (tk xs fr m n)).size ≤ (1099511627776 : Nat) ∧ (bytesLs L).length ≤ (1099511627776 : Nat)) ∧ br (decide ((↑(bytesOf (tk xs fr m n)).size : Int) + (↑(bytesLs L).length : Int) > (↑m : Int))) (br (ask == (0 : Int)) (br
   (decide (n + (↑(bytesLs L).length : Int) > (↑m : Int))) ((SV.v (Value.bool true) = SV.v (Value.bool true) ∧ True) ∧ (SV.h (1 : Nat) [ep, (0 : Nat)] = SV.h (1 : Nat) [ep, (0 : Nat)] ∧ SV.v (Value.int IntKind.i64 fr) = SV.v (Value.int IntKind.i64 fr) ∧
   SV.v (Value.int IntKind.i64 n) = SV.v (Value.int IntKind.i64 n) ∧ SV.v (Value.bool true) = SV.v (Value.bool true) ∧ True) ∧ (m = m ∧ ep = ep ∧ xs = xs) ∧ (SV.v (Value.string (bytesOf (tk xs fr m n))) = SV.v (Value.string (bytesOf (tk xs fr m n))) ∧
   SV.v (Value.int IntKind.i64 (↑m : Int)) = SV.v (Value.int IntKind.i64 (↑m : Int)) ∧ SV.v (Value.bool true) = SV.v (Value.bool true) ∧ True) ∧ IC.ss L = IC.ss L ∧ True) ((SV.v (Value.bool true) = SV.v (Value.bool true) ∧ True) ∧ (SV.h (1 : Nat) [ep,
   (0 : Nat)] = SV.h (1 : Nat) [ep, (0 : Nat)] ∧ SV.v (Value.int IntKind.i64 fr) = SV.v (Value.int IntKind.i64 fr) ∧ SV.v (Value.int IntKind.i64 n) = SV.v (Value.int IntKind.i64 (n + (↑(bytesLs L).length : Int))) ∧ SV.v (Value.bool true) = SV.v
   (Value.bool xov) ∧ True) ∧ (m = m ∧ ep = ep ∧ xs = putL m xs (fr + n) (bytesLs L)) ∧ (SV.v (Value.string (bytesOf (tk xs fr m n))) = SV.v (Value.string (bytesOf (tk (putL m xs (fr + n) (bytesLs L)) fr m (n + (↑(bytesLs L).length : Int))))) ∧ SV.v
   (Value.int IntKind.i64 (↑m : Int)) = SV.v (Value.int IntKind.i64 (↑m : Int)) ∧ SV.v (Value.bool true) = SV.v (Value.bool xov) ∧ True) ∧ IC.ss L = IC.ss L ∧ True)) (br (ask == (1 : Int)) ((SV.v (Value.bool true) = SV.v (Value.bool true) ∧ True) ∧
   (SV.h (1 : Nat) [ep, (0 : Nat)] = SV.h (1 : Nat) [ep, (0 : Nat)] ∧ SV.v (Value.int IntKind.i64 fr) = SV.v (Value.int IntKind.i64 ((fr + n) % (↑m : Int))) ∧ SV.v (Value.int IntKind.i64 n) = SV.v (Value.int IntKind.i64 (0 : Int)) ∧ SV.v (Value.bool
   true) = SV.v (Value.bool false) ∧ True) ∧ (m = m ∧ ep = ep ∧ xs = xs) ∧ (SV.v (Value.string (bytesOf (tk xs fr m n))) = SV.v (Value.string (bytesOf (tk xs ((fr + n) % (↑m : Int)) m (0 : Int)))) ∧ SV.v (Value.int IntKind.i64 (↑m : Int)) = SV.v
   (Value.int IntKind.i64 (↑m : Int)) ∧ SV.v (Value.bool true) = SV.v (Value.bool false) ∧ True) ∧ IC.ss L = IC.ss L ∧ True) (br (ask == (3 : Int)) ((SV.v (Value.bool true) = SV.v (Value.bool true) ∧ True) ∧ (SV.h (1 : Nat) [ep, (0 : Nat)] = SV.h (1 :
   Nat) [ep, (0 : Nat)] ∧ SV.v (Value.int IntKind.i64 fr) = SV.v (Value.int IntKind.i64 ((fr + n) % (↑m : Int))) ∧ SV.v (Value.int IntKind.i64 n) = SV.v (Value.int IntKind.i64 (0 : Int)) ∧ SV.v (Value.bool true) = SV.v (Value.bool false) ∧ True) ∧ (m =
   m ∧ ep = ep ∧ xs = xs) ∧ (SV.v (Value.string (bytesOf (tk xs fr m n))) = SV.v (Value.string (bytesOf (tk xs ((fr + n) % (↑m : Int)) m (0 : Int)))) ∧ SV.v (Value.int IntKind.i64 (↑m : Int)) = SV.v (Value.int IntKind.i64 (↑m : Int)) ∧ SV.v (Value.bool
   true) = SV.v (Value.bool false) ∧ True) ∧ IC.ss L = IC.ss L ∧ True) ((SV.v (Value.bool true) = SV.v (Value.bool true) ∧ True) ∧ (SV.h (1 : Nat) [ep, (0 : Nat)] = SV.h (1 : Nat) [ep, (0 : Nat)] ∧ SV.v (Value.int IntKind.i64 fr) = SV.v (Value.int
   IntKind.i64 ((fr + kq N n) % (↑m : Int))) ∧ SV.v (Value.int IntKind.i64 n) = SV.v (Value.int IntKind.i64 (n - kq N n)) ∧ SV.v (Value.bool true) = SV.v (Value.bool xov) ∧ True) ∧ (m = m ∧ ep = ep ∧ xs = xs) ∧ (SV.v (Value.string (bytesOf (tk xs fr m
   n))) = SV.v (Value.string (bytesOf (tk xs ((fr + kq N n) % (↑m : Int)) m (n - kq N n)))) ∧ SV.v (Value.int IntKind.i64 (↑m : Int)) = SV.v (Value.int IntKind.i64 (↑m : Int)) ∧ SV.v (Value.bool true) = SV.v (Value.bool xov) ∧ True) ∧ IC.ss L = IC.ss L
   ∧ True)))) (br (ask == (0 : Int)) (br (decide (n + (↑(bytesLs L).length : Int) > (↑m : Int))) ((SV.v (Value.bool false) = SV.v (Value.bool true) ∧ True) ∧ (SV.h (1 : Nat) [ep, (0 : Nat)] = SV.h (1 : Nat) [ep, (0 : Nat)] ∧ SV.v (Value.int IntKind.i64
   fr) = SV.v (Value.int IntKind.i64 fr) ∧ SV.v (Value.int IntKind.i64 n) = SV.v (Value.int IntKind.i64 n) ∧ SV.v (Value.bool true) = SV.v (Value.bool true) ∧ True) ∧ (m = m ∧ ep = ep ∧ xs = xs) ∧ (SV.v (Value.string (bytesOf (tk xs fr m n) ++ catS L))
   = SV.v (Value.string (bytesOf (tk xs fr m n))) ∧ SV.v (Value.int IntKind.i64 (↑m : Int)) = SV.v (Value.int IntKind.i64 (↑m : Int)) ∧ SV.v (Value.bool xov) = SV.v (Value.bool true) ∧ True) ∧ IC.ss L = IC.ss L ∧ True) ((SV.v (Value.bool false) = SV.v
   (Value.bool true) ∧ True) ∧ (SV.h (1 : Nat) [ep, (0 : Nat)] = SV.h (1 : Nat) [ep, (0 : Nat)] ∧ SV.v (Value.int IntKind.i64 fr) = SV.v (Value.int IntKind.i64 fr) ∧ SV.v (Value.int IntKind.i64 n) = SV.v (Value.int IntKind.i64 (n + (↑(bytesLs L).length
   : Int))) ∧ SV.v (Value.bool true) = SV.v (Value.bool xov) ∧ True) ∧ (m = m ∧ ep = ep ∧ xs = putL m xs (fr + n) (bytesLs L)) ∧ (SV.v (Value.string (bytesOf (tk xs fr m n) ++ catS L)) = SV.v (Value.string (bytesOf (tk (putL m xs (fr + n) (bytesLs L))
   fr m (n + (↑(bytesLs L).length : Int))))) ∧ SV.v (Value.int IntKind.i64 (↑m : Int)) = SV.v (Value.int IntKind.i64 (↑m : Int)) ∧ SV.v (Value.bool xov) = SV.v (Value.bool xov) ∧ True) ∧ IC.ss L = IC.ss L ∧ True)) (br (ask == (1 : Int)) ((SV.v
   (Value.bool false) = SV.v (Value.bool true) ∧ True) ∧ (SV.h (1 : Nat) [ep, (0 : Nat)] = SV.h (1 : Nat) [ep, (0 : Nat)] ∧ SV.v (Value.int IntKind.i64 fr) = SV.v (Value.int IntKind.i64 ((fr + n) % (↑m : Int))) ∧ SV.v (Value.int IntKind.i64 n) = SV.v
   (Value.int IntKind.i64 (0 : Int)) ∧ SV.v (Value.bool true) = SV.v (Value.bool false) ∧ True) ∧ (m = m ∧ ep = ep ∧ xs = xs) ∧ (SV.v (Value.string (bytesOf (tk xs fr m n) ++ catS L)) = SV.v (Value.string (bytesOf (tk xs ((fr + n) % (↑m : Int)) m (0 :
   Int)))) ∧ SV.v (Value.int IntKind.i64 (↑m : Int)) = SV.v (Value.int IntKind.i64 (↑m : Int)) ∧ SV.v (Value.bool xov) = SV.v (Value.bool false) ∧ True) ∧ IC.ss L = IC.ss L ∧ True) (br (ask == (3 : Int)) ((SV.v (Value.bool false) = SV.v (Value.bool
   true) ∧ True) ∧ (SV.h (1 : Nat) [ep, (0 : Nat)] = SV.h (1 : Nat) [ep, (0 : Nat)] ∧ SV.v (Value.int IntKind.i64 fr) = SV.v (Value.int IntKind.i64 ((fr + n) % (↑m : Int))) ∧ SV.v (Value.int IntKind.i64 n) = SV.v (Value.int IntKind.i64 (0 : Int)) ∧ SV.v
   (Value.bool true) = SV.v (Value.bool false) ∧ True) ∧ (m = m ∧ ep = ep ∧ xs = xs) ∧ (SV.v (Value.string (bytesOf (tk xs fr m n) ++ catS L)) = SV.v (Value.string (bytesOf (tk xs ((fr + n) % (↑m : Int)) m (0 : Int)))) ∧ SV.v (Value.int IntKind.i64 (↑m
   : Int)) = SV.v (Value.int IntKind.i64 (↑m : Int)) ∧ SV.v (Value.bool xov) = SV.v (Value.bool false) ∧ True) ∧ IC.ss L = IC.ss L ∧ True) ((SV.v (Value.bool false) = SV.v (Value.bool true) ∧ True) ∧ (SV.h (1 : Nat) [ep, (0 : Nat)] = SV.h (1 : Nat) [ep,
   (0 : Nat)] ∧ SV.v (Value.int IntKind.i64 fr) = SV.v (Value.int IntKind.i64 ((fr + kq N n) % (↑m : Int))) ∧ SV.v (Value.int IntKind.i64 n) = SV.v (Value.int IntKind.i64 (n - kq N n)) ∧ SV.v (Value.bool true) = SV.v (Value.bool xov) ∧ True) ∧ (m = m ∧
   ep = ep ∧ xs = xs) ∧ (SV.v (Value.string (bytesOf (tk xs fr m n) ++ catS L)) = SV.v (Value.string (bytesOf (tk xs ((fr + kq N n) % (↑m : Int)) m (n - kq N n)))) ∧ SV.v (Value.int IntKind.i64 (↑m : Int)) = SV.v (Value.int IntKind.i64 (↑m : Int)) ∧
   SV.v (Value.bool xov) = SV.v (Value.bool xov) ∧ True) ∧ IC.ss L = IC.ss L ∧ True))))) (true = true ∧ (L.length ≤ (1099511627776 : Nat) ∧ (bytesOf (tk xs fr m n)).size ≤ (1099511627776 : Nat) ∧ (bytesLs L).length ≤ (1099511627776 : Nat)) ∧ br (decide
   ((↑(bytesOf (tk xs fr m n)).size : Int) + (↑(bytesLs L).length : Int) > (↑m : Int))) (br (ask == (0 : Int)) (br (decide (n + (↑(bytesLs L).length : Int) > (↑m : Int))) ((SV.v (Value.bool false) = SV.v (Value.bool true) ∧ True) ∧ (SV.h (1 : Nat) [ep,
   (0 : Nat)] = SV.h (1 : Nat) [ep, (0 : Nat)] ∧ SV.v (Value.int IntKind.i64 fr) = SV.v (Value.int IntKind.i64 fr) ∧ SV.v (Value.int IntKind.i64 (n + (↑(bytesLs L).length : Int))) = SV.v (Value.int IntKind.i64 n) ∧ SV.v (Value.bool xov) = SV.v
   (Value.bool true) ∧ True) ∧ (m = m ∧ ep = ep ∧ putL m xs (fr + n) (bytesLs L) = xs) ∧ (SV.v (Value.string (bytesOf (tk xs fr m n))) = SV.v (Value.string (bytesOf (tk xs fr m n))) ∧ SV.v (Value.int IntKind.i64 (↑m : Int)) = SV.v (Value.int IntKind.i64
   (↑m : Int)) ∧ SV.v (Value.bool true) = SV.v (Value.bool true) ∧ True) ∧ IC.ss L = IC.ss L ∧ True) ((SV.v (Value.bool false) = SV.v (Value.bool true) ∧ True) ∧ (SV.h (1 : Nat) [ep, (0 : Nat)] = SV.h (1 : Nat) [ep, (0 : Nat)] ∧ SV.v (Value.int
   IntKind.i64 fr) = SV.v (Value.int IntKind.i64 fr) ∧ SV.v (Value.int IntKind.i64 (n + (↑(bytesLs L).length : Int))) = SV.v (Value.int IntKind.i64 (n + (↑(bytesLs L).length : Int))) ∧ SV.v (Value.bool xov) = SV.v (Value.bool xov) ∧ True) ∧ (m = m ∧ ep
   = ep ∧ putL m xs (fr + n) (bytesLs L) = putL m xs (fr + n) (bytesLs L)) ∧ (SV.v (Value.string (bytesOf (tk xs fr m n))) = SV.v (Value.string (bytesOf (tk (putL m xs (fr + n) (bytesLs L)) fr m (n + (↑(bytesLs L).length : Int))))) ∧ SV.v (Value.int
   IntKind.i64 (↑m : Int)) = SV.v (Value.int IntKind.i64 (↑m : Int)) ∧ SV.v (Value.bool true) = SV.v (Value.bool xov) ∧ True) ∧ IC.ss L = IC.ss L ∧ True)) (br (ask == (1 : Int)) ((SV.v (Value.bool false) = SV.v (Value.bool true) ∧ True) ∧ (SV.h (1 :
   Nat) [ep, (0 : Nat)] = SV.h (1 : Nat) [ep, (0 : Nat)] ∧ SV.v (Value.int IntKind.i64 fr) = SV.v (Value.int IntKind.i64 ((fr + n) % (↑m : Int))) ∧ SV.v (Value.int IntKind.i64 (n + (↑(bytesLs L).length : Int))) = SV.v (Value.int IntKind.i64 (0 : Int)) ∧
   SV.v (Value.bool xov) = SV.v (Value.bool false) ∧ True) ∧ (m = m ∧ ep = ep ∧ putL m xs (fr + n) (bytesLs L) = xs) ∧ (SV.v (Value.string (bytesOf (tk xs fr m n))) = SV.v (Value.string (bytesOf (tk xs ((fr + n) % (↑m : Int)) m (0 : Int)))) ∧ SV.v
   (Value.int IntKind.i64 (↑m : Int)) = SV.v (Value.int IntKind.i64 (↑m : Int)) ∧ SV.v (Value.bool true) = SV.v (Value.bool false) ∧ True) ∧ IC.ss L = IC.ss L ∧ True) (br (ask == (3 : Int)) ((SV.v (Value.bool false) = SV.v (Value.bool true) ∧ True) ∧
   (SV.h (1 : Nat) [ep, (0 : Nat)] = SV.h (1 : Nat) [ep, (0 : Nat)] ∧ SV.v (Value.int IntKind.i64 fr) = SV.v (Value.int IntKind.i64 ((fr + n) % (↑m : Int))) ∧ SV.v (Value.int IntKind.i64 (n + (↑(bytesLs L).length : Int))) = SV.v (Value.int IntKind.i64
   (0 : Int)) ∧ SV.v (Value.bool xov) = SV.v (Value.bool false) ∧ True) ∧ (m = m ∧ ep = ep ∧ putL m xs (fr + n) (bytesLs L) = xs) ∧ (SV.v (Value.string (bytesOf (tk xs fr m n))) = SV.v (Value.string (bytesOf (tk xs ((fr + n) % (↑m : Int)) m (0 : Int))))
   ∧ SV.v (Value.int IntKind.i64 (↑m : Int)) = SV.v (Value.int IntKind.i64 (↑m : Int)) ∧ SV.v (Value.bool true) = SV.v (Value.bool false) ∧ True) ∧ IC.ss L = IC.ss L ∧ True) ((SV.v (Value.bool false) = SV.v (Value.bool true) ∧ True) ∧ (SV.h (1 : Nat)
   [ep, (0 : Nat)] = SV.h (1 : Nat) [ep, (0 : Nat)] ∧ SV.v (Value.int IntKind.i64 fr) = SV.v (Value.int IntKind.i64 ((fr + kq N n) % (↑m : Int))) ∧ SV.v (Value.int IntKind.i64 (n + (↑(bytesLs L).length : Int))) = SV.v (Value.int IntKind.i64 (n - kq N
   n)) ∧ SV.v (Value.bool xov) = SV.v (Value.bool xov) ∧ True) ∧ (m = m ∧ ep = ep ∧ putL m xs (fr + n) (bytesLs L) = xs) ∧ (SV.v (Value.string (bytesOf (tk xs fr m n))) = SV.v (Value.string (bytesOf (tk xs ((fr + kq N n) % (↑m : Int)) m (n - kq N n))))
   ∧ SV.v (Value.int IntKind.i64 (↑m : Int)) = SV.v (Value.int IntKind.i64 (↑m : Int)) ∧ SV.v (Value.bool true) = SV.v (Value.bool xov) ∧ True) ∧ IC.ss L = IC.ss L ∧ True)))) (br (ask == (0 : Int)) (br (decide (n + (↑(bytesLs L).length : Int) > (↑m :
   Int))) ((SV.v (Value.bool true) = SV.v (Value.bool true) ∧ True) ∧ (SV.h (1 : Nat) [ep, (0 : Nat)] = SV.h (1 : Nat) [ep, (0 : Nat)] ∧ SV.v (Value.int IntKind.i64 fr) = SV.v (Value.int IntKind.i64 fr) ∧ SV.v (Value.int IntKind.i64 (n + (↑(bytesLs
   L).length : Int))) = SV.v (Value.int IntKind.i64 n) ∧ SV.v (Value.bool xov) = SV.v (Value.bool true) ∧ True) ∧ (m = m ∧ ep = ep ∧ putL m xs (fr + n) (bytesLs L) = xs) ∧ (SV.v (Value.string (bytesOf (tk xs fr m n) ++ catS L)) = SV.v (Value.string
   (bytesOf (tk xs fr m n))) ∧ SV.v (Value.int IntKind.i64 (↑m : Int)) = SV.v (Value.int IntKind.i64 (↑m : Int)) ∧ SV.v (Value.bool xov) = SV.v (Value.bool true) ∧ True) ∧ IC.ss L = IC.ss L ∧ True) ((SV.v (Value.bool true) = SV.v (Value.bool true) ∧
   True) ∧ (SV.h (1 : Nat) [ep, (0 : Nat)] = SV.h (1 : Nat) [ep, (0 : Nat)] ∧ SV.v (Value.int IntKind.i64 fr) = SV.v (Value.int IntKind.i64 fr) ∧ SV.v (Value.int IntKind.i64 (n + (↑(bytesLs L).length : Int))) = SV.v (Value.int IntKind.i64 (n +
   (↑(bytesLs L).length : Int))) ∧ SV.v (Value.bool xov) = SV.v (Value.bool xov) ∧ True) ∧ (m = m ∧ ep = ep ∧ putL m xs (fr + n) (bytesLs L) = putL m xs (fr + n) (bytesLs L)) ∧ (SV.v (Value.string (bytesOf (tk xs fr m n) ++ catS L)) = SV.v (Value.string
   (bytesOf (tk (putL m xs (fr + n) (bytesLs L)) fr m (n + (↑(bytesLs L).length : Int))))) ∧ SV.v (Value.int IntKind.i64 (↑m : Int)) = SV.v (Value.int IntKind.i64 (↑m : Int)) ∧ SV.v (Value.bool xov) = SV.v (Value.bool xov) ∧ True) ∧ IC.ss L = IC.ss L ∧
   True)) (br (ask == (1 : Int)) ((SV.v (Value.bool true) = SV.v (Value.bool true) ∧ True) ∧ (SV.h (1 : Nat) [ep, (0 : Nat)] = SV.h (1 : Nat) [ep, (0 : Nat)] ∧ SV.v (Value.int IntKind.i64 fr) = SV.v (Value.int IntKind.i64 ((fr + n) % (↑m : Int))) ∧ SV.v
   (Value.int IntKind.i64 (n + (↑(bytesLs L).length : Int))) = SV.v (Value.int IntKind.i64 (0 : Int)) ∧ SV.v (Value.bool xov) = SV.v (Value.bool false) ∧ True) ∧ (m = m ∧ ep = ep ∧ putL m xs (fr + n) (bytesLs L) = xs) ∧ (SV.v (Value.string (bytesOf (tk
   xs fr m n) ++ catS L)) = SV.v (Value.string (bytesOf (tk xs ((fr + n) % (↑m : Int)) m (0 : Int)))) ∧ SV.v (Value.int IntKind.i64 (↑m : Int)) = SV.v (Value.int IntKind.i64 (↑m : Int)) ∧ SV.v (Value.bool xov) = SV.v (Value.bool false) ∧ True) ∧ IC.ss L
   = IC.ss L ∧ True) (br (ask == (3 : Int)) ((SV.v (Value.bool true) = SV.v (Value.bool true) ∧ True) ∧ (SV.h (1 : Nat) [ep, (0 : Nat)] = SV.h (1 : Nat) [ep, (0 : Nat)] ∧ SV.v (Value.int IntKind.i64 fr) = SV.v (Value.int IntKind.i64 ((fr + n) % (↑m :
   Int))) ∧ SV.v (Value.int IntKind.i64 (n + (↑(bytesLs L).length : Int))) = SV.v (Value.int IntKind.i64 (0 : Int)) ∧ SV.v (Value.bool xov) = SV.v (Value.bool false) ∧ True) ∧ (m = m ∧ ep = ep ∧ putL m xs (fr + n) (bytesLs L) = xs) ∧ (SV.v (Value.string
   (bytesOf (tk xs fr m n) ++ catS L)) = SV.v (Value.string (bytesOf (tk xs ((fr + n) % (↑m : Int)) m (0 : Int)))) ∧ SV.v (Value.int IntKind.i64 (↑m : Int)) = SV.v (Value.int IntKind.i64 (↑m : Int)) ∧ SV.v (Value.bool xov) = SV.v (Value.bool false) ∧
   True) ∧ IC.ss L = IC.ss L ∧ True) ((SV.v (Value.bool true) = SV.v (Value.bool true) ∧ True) ∧ (SV.h (1 : Nat) [ep, (0 : Nat)] = SV.h (1 : Nat) [ep, (0 : Nat)] ∧ SV.v (Value.int IntKind.i64 fr) = SV.v (Value.int IntKind.i64 ((fr + kq N n) % (↑m :
   Int))) ∧ SV.v (Value.int IntKind.i64 (n + (↑(bytesLs L).length : Int))) = SV.v (Value.int IntKind.i64 (n - kq N n)) ∧ SV.v (Value.bool xov) = SV.v (Value.bool xov) ∧ True) ∧ (m = m ∧ ep = ep ∧ putL m xs (fr + n) (bytesLs L) = xs) ∧ (SV.v
   (Value.string (bytesOf (tk xs fr m n) ++ catS L)) = SV.v (Value.string (bytesOf (tk xs ((fr + kq N n) % (↑m : Int)) m (n - kq N n)))) ∧ SV.v (Value.int IntKind.i64 (↑m : Int)) = SV.v (Value.int IntKind.i64 (↑m : Int)) ∧ SV.v (Value.bool xov) = SV.v
   (Value.bool xov) ∧ True) ∧ IC.ss L = IC.ss L ∧ True)))))) (br (ask == (1 : Int)) (true = true ∧ (ep = ep ∧ QWf fr n xs m) ∧ true = true ∧ (bytesOf (tk xs fr m n)).size ≤ (1099511627776 : Nat) ∧ br (ask == (0 : Int)) (br (decide (n + (↑(bytesLs
   L).length : Int) > (↑m : Int))) ((SV.v (Value.bool ((bytesOf (tk xs fr m n)).toList == (bytesOf (tk xs fr m n)).toList)) = SV.v (Value.bool true) ∧ True) ∧ (SV.h (1 : Nat) [ep, (0 : Nat)] = SV.h (1 : Nat) [ep, (0 : Nat)] ∧ SV.v (Value.int IntKind.i64
   ((fr + n) % (↑m : Int))) = SV.v (Value.int IntKind.i64 fr) ∧ SV.v (Value.int IntKind.i64 (0 : Int)) = SV.v (Value.int IntKind.i64 n) ∧ SV.v (Value.bool false) = SV.v (Value.bool true) ∧ True) ∧ (m = m ∧ ep = ep ∧ xs = xs) ∧ (SV.v (Value.string
   ByteArray.empty) = SV.v (Value.string (bytesOf (tk xs fr m n))) ∧ SV.v (Value.int IntKind.i64 (↑m : Int)) = SV.v (Value.int IntKind.i64 (↑m : Int)) ∧ SV.v (Value.bool false) = SV.v (Value.bool true) ∧ True) ∧ IC.ss L = IC.ss L ∧ True) ((SV.v
   (Value.bool ((bytesOf (tk xs fr m n)).toList == (bytesOf (tk xs fr m n)).toList)) = SV.v (Value.bool true) ∧ True) ∧ (SV.h (1 : Nat) [ep, (0 : Nat)] = SV.h (1 : Nat) [ep, (0 : Nat)] ∧ SV.v (Value.int IntKind.i64 ((fr + n) % (↑m : Int))) = SV.v
   (Value.int IntKind.i64 fr) ∧ SV.v (Value.int IntKind.i64 (0 : Int)) = SV.v (Value.int IntKind.i64 (n + (↑(bytesLs L).length : Int))) ∧ SV.v (Value.bool false) = SV.v (Value.bool xov) ∧ True) ∧ (m = m ∧ ep = ep ∧ xs = putL m xs (fr + n) (bytesLs L)) ∧
   (SV.v (Value.string ByteArray.empty) = SV.v (Value.string (bytesOf (tk (putL m xs (fr + n) (bytesLs L)) fr m (n + (↑(bytesLs L).length : Int))))) ∧ SV.v (Value.int IntKind.i64 (↑m : Int)) = SV.v (Value.int IntKind.i64 (↑m : Int)) ∧ SV.v (Value.bool
   false) = SV.v (Value.bool xov) ∧ True) ∧ IC.ss L = IC.ss L ∧ True)) (br (ask == (1 : Int)) ((SV.v (Value.bool ((bytesOf (tk xs fr m n)).toList == (bytesOf (tk xs fr m n)).toList)) = SV.v (Value.bool true) ∧ True) ∧ (SV.h (1 : Nat) [ep, (0 : Nat)] =
   SV.h (1 : Nat) [ep, (0 : Nat)] ∧ SV.v (Value.int IntKind.i64 ((fr + n) % (↑m : Int))) = SV.v (Value.int IntKind.i64 ((fr + n) % (↑m : Int))) ∧ SV.v (Value.int IntKind.i64 (0 : Int)) = SV.v (Value.int IntKind.i64 (0 : Int)) ∧ SV.v (Value.bool false) =
   SV.v (Value.bool false) ∧ True) ∧ (m = m ∧ ep = ep ∧ xs = xs) ∧ (SV.v (Value.string ByteArray.empty) = SV.v (Value.string (bytesOf (tk xs ((fr + n) % (↑m : Int)) m (0 : Int)))) ∧ SV.v (Value.int IntKind.i64 (↑m : Int)) = SV.v (Value.int IntKind.i64
   (↑m : Int)) ∧ SV.v (Value.bool false) = SV.v (Value.bool false) ∧ True) ∧ IC.ss L = IC.ss L ∧ True) (br (ask == (3 : Int)) ((SV.v (Value.bool ((bytesOf (tk xs fr m n)).toList == (bytesOf (tk xs fr m n)).toList)) = SV.v (Value.bool true) ∧ True) ∧
   (SV.h (1 : Nat) [ep, (0 : Nat)] = SV.h (1 : Nat) [ep, (0 : Nat)] ∧ SV.v (Value.int IntKind.i64 ((fr + n) % (↑m : Int))) = SV.v (Value.int IntKind.i64 ((fr + n) % (↑m : Int))) ∧ SV.v (Value.int IntKind.i64 (0 : Int)) = SV.v (Value.int IntKind.i64 (0 :
   Int)) ∧ SV.v (Value.bool false) = SV.v (Value.bool false) ∧ True) ∧ (m = m ∧ ep = ep ∧ xs = xs) ∧ (SV.v (Value.string ByteArray.empty) = SV.v (Value.string (bytesOf (tk xs ((fr + n) % (↑m : Int)) m (0 : Int)))) ∧ SV.v (Value.int IntKind.i64 (↑m :
   Int)) = SV.v (Value.int IntKind.i64 (↑m : Int)) ∧ SV.v (Value.bool false) = SV.v (Value.bool false) ∧ True) ∧ IC.ss L = IC.ss L ∧ True) ((SV.v (Value.bool ((bytesOf (tk xs fr m n)).toList == (bytesOf (tk xs fr m n)).toList)) = SV.v (Value.bool true)
   ∧ True) ∧ (SV.h (1 : Nat) [ep, (0 : Nat)] = SV.h (1 : Nat) [ep, (0 : Nat)] ∧ SV.v (Value.int IntKind.i64 ((fr + n) % (↑m : Int))) = SV.v (Value.int IntKind.i64 ((fr + kq N n) % (↑m : Int))) ∧ SV.v (Value.int IntKind.i64 (0 : Int)) = SV.v (Value.int
   IntKind.i64 (n - kq N n)) ∧ SV.v (Value.bool false) = SV.v (Value.bool xov) ∧ True) ∧ (m = m ∧ ep = ep ∧ xs = xs) ∧ (SV.v (Value.string ByteArray.empty) = SV.v (Value.string (bytesOf (tk xs ((fr + kq N n) % (↑m : Int)) m (n - kq N n)))) ∧ SV.v
   (Value.int IntKind.i64 (↑m : Int)) = SV.v (Value.int IntKind.i64 (↑m : Int)) ∧ SV.v (Value.bool false) = SV.v (Value.bool xov) ∧ True) ∧ IC.ss L = IC.ss L ∧ True)))) (br (ask == (3 : Int)) (true = true ∧ (ep = ep ∧ QWf fr n xs m) ∧ true = true ∧
   (bytesOf (tk xs fr m n)).size ≤ (1099511627776 : Nat) ∧ br (ask == (0 : Int)) (br (decide (n + (↑(bytesLs L).length : Int) > (↑m : Int))) ((SV.v (Value.bool true) = SV.v (Value.bool true) ∧ True) ∧ (SV.h (1 : Nat) [ep, (0 : Nat)] = SV.h (1 : Nat)
   [ep, (0 : Nat)] ∧ SV.v (Value.int IntKind.i64 ((fr + n) % (↑m : Int))) = SV.v (Value.int IntKind.i64 fr) ∧ SV.v (Value.int IntKind.i64 (0 : Int)) = SV.v (Value.int IntKind.i64 n) ∧ SV.v (Value.bool false) = SV.v (Value.bool true) ∧ True) ∧ (m = m ∧
   ep = ep ∧ xs = xs) ∧ (SV.v (Value.string ByteArray.empty) = SV.v (Value.string (bytesOf (tk xs fr m n))) ∧ SV.v (Value.int IntKind.i64 (↑m : Int)) = SV.v (Value.int IntKind.i64 (↑m : Int)) ∧ SV.v (Value.bool false) = SV.v (Value.bool true) ∧ True) ∧
   IC.ss L = IC.ss L ∧ True) ((SV.v (Value.bool true) = SV.v (Value.bool true) ∧ True) ∧ (SV.h (1 : Nat) [ep, (0 : Nat)] = SV.h (1 : Nat) [ep, (0 : Nat)] ∧ SV.v (Value.int IntKind.i64 ((fr + n) % (↑m : Int))) = SV.v (Value.int IntKind.i64 fr) ∧ SV.v
   (Value.int IntKind.i64 (0 : Int)) = SV.v (Value.int IntKind.i64 (n + (↑(bytesLs L).length : Int))) ∧ SV.v (Value.bool false) = SV.v (Value.bool xov) ∧ True) ∧ (m = m ∧ ep = ep ∧ xs = putL m xs (fr + n) (bytesLs L)) ∧ (SV.v (Value.string
   ByteArray.empty) = SV.v (Value.string (bytesOf (tk (putL m xs (fr + n) (bytesLs L)) fr m (n + (↑(bytesLs L).length : Int))))) ∧ SV.v (Value.int IntKind.i64 (↑m : Int)) = SV.v (Value.int IntKind.i64 (↑m : Int)) ∧ SV.v (Value.bool false) = SV.v
   (Value.bool xov) ∧ True) ∧ IC.ss L = IC.ss L ∧ True)) (br (ask == (1 : Int)) ((SV.v (Value.bool true) = SV.v (Value.bool true) ∧ True) ∧ (SV.h (1 : Nat) [ep, (0 : Nat)] = SV.h (1 : Nat) [ep, (0 : Nat)] ∧ SV.v (Value.int IntKind.i64 ((fr + n) % (↑m :
   Int))) = SV.v (Value.int IntKind.i64 ((fr + n) % (↑m : Int))) ∧ SV.v (Value.int IntKind.i64 (0 : Int)) = SV.v (Value.int IntKind.i64 (0 : Int)) ∧ SV.v (Value.bool false) = SV.v (Value.bool false) ∧ True) ∧ (m = m ∧ ep = ep ∧ xs = xs) ∧ (SV.v
   (Value.string ByteArray.empty) = SV.v (Value.string (bytesOf (tk xs ((fr + n) % (↑m : Int)) m (0 : Int)))) ∧ SV.v (Value.int IntKind.i64 (↑m : Int)) = SV.v (Value.int IntKind.i64 (↑m : Int)) ∧ SV.v (Value.bool false) = SV.v (Value.bool false) ∧ True)
   ∧ IC.ss L = IC.ss L ∧ True) (br (ask == (3 : Int)) ((SV.v (Value.bool true) = SV.v (Value.bool true) ∧ True) ∧ (SV.h (1 : Nat) [ep, (0 : Nat)] = SV.h (1 : Nat) [ep, (0 : Nat)] ∧ SV.v (Value.int IntKind.i64 ((fr + n) % (↑m : Int))) = SV.v (Value.int
   IntKind.i64 ((fr + n) % (↑m : Int))) ∧ SV.v (Value.int IntKind.i64 (0 : Int)) = SV.v (Value.int IntKind.i64 (0 : Int)) ∧ SV.v (Value.bool false) = SV.v (Value.bool false) ∧ True) ∧ (m = m ∧ ep = ep ∧ xs = xs) ∧ (SV.v (Value.string ByteArray.empty) =
   SV.v (Value.string (bytesOf (tk xs ((fr + n) % (↑m : Int)) m (0 : Int)))) ∧ SV.v (Value.int IntKind.i64 (↑m : Int)) = SV.v (Value.int IntKind.i64 (↑m : Int)) ∧ SV.v (Value.bool false) = SV.v (Value.bool false) ∧ True) ∧ IC.ss L = IC.ss L ∧ True)
   ((SV.v (Value.bool true) = SV.v (Value.bool true) ∧ True) ∧ (SV.h (1 : Nat) [ep, (0 : Nat)] = SV.h (1 : Nat) [ep, (0 : Nat)] ∧ SV.v (Value.int IntKind.i64 ((fr + n) % (↑m : Int))) = SV.v (Value.int IntKind.i64 ((fr + kq N n) % (↑m : Int))) ∧ SV.v
   (Value.int IntKind.i64 (0 : Int)) = SV.v (Value.int IntKind.i64 (n - kq N n)) ∧ SV.v (Value.bool false) = SV.v (Value.bool xov) ∧ True) ∧ (m = m ∧ ep = ep ∧ xs = xs) ∧ (SV.v (Value.string ByteArray.empty) = SV.v (Value.string (bytesOf (tk xs ((fr +
   kq N n) % (↑m : Int)) m (n - kq N n)))) ∧ SV.v (Value.int IntKind.i64 (↑m : Int)) = SV.v (Value.int IntKind.i64 (↑m : Int)) ∧ SV.v (Value.bool false) = SV.v (Value.bool xov) ∧ True) ∧ IC.ss L = IC.ss L ∧ True)))) (true = true ∧ (ep = ep ∧ QWf fr n xs
   m) ∧ true = true ∧ (bytesOf (tk xs fr m n)).size ≤ (1099511627776 : Nat) ∧ br (ask == (0 : Int)) (br (decide (n + (↑(bytesLs L).length : Int) > (↑m : Int))) ((SV.v (Value.bool ((bytesOf (tk xs fr m (kq N n))).toList == ((bytesOf (tk xs fr m
   n)).extract (0 : Nat) (kq N (↑(bytesOf (tk xs fr m n)).size : Int)).toNat).toList)) = SV.v (Value.bool true) ∧ True) ∧ (SV.h (1 : Nat) [ep, (0 : Nat)] = SV.h (1 : Nat) [ep, (0 : Nat)] ∧ SV.v (Value.int IntKind.i64 ((fr + kq N n) % (↑m : Int))) = SV.v
   (Value.int IntKind.i64 fr) ∧ SV.v (Value.int IntKind.i64 (n - kq N n)) = SV.v (Value.int IntKind.i64 n) ∧ SV.v (Value.bool xov) = SV.v (Value.bool true) ∧ True) ∧ (m = m ∧ ep = ep ∧ xs = xs) ∧ (SV.v (Value.string ((bytesOf (tk xs fr m n)).extract (kq
   N (↑(bytesOf (tk xs fr m n)).size : Int)).toNat (bytesOf (tk xs fr m n)).size)) = SV.v (Value.string (bytesOf (tk xs fr m n))) ∧ SV.v (Value.int IntKind.i64 (↑m : Int)) = SV.v (Value.int IntKind.i64 (↑m : Int)) ∧ SV.v (Value.bool xov) = SV.v
   (Value.bool true) ∧ True) ∧ IC.ss L = IC.ss L ∧ True) ((SV.v (Value.bool ((bytesOf (tk xs fr m (kq N n))).toList == ((bytesOf (tk xs fr m n)).extract (0 : Nat) (kq N (↑(bytesOf (tk xs fr m n)).size : Int)).toNat).toList)) = SV.v (Value.bool true) ∧
   True) ∧ (SV.h (1 : Nat) [ep, (0 : Nat)] = SV.h (1 : Nat) [ep, (0 : Nat)] ∧ SV.v (Value.int IntKind.i64 ((fr + kq N n) % (↑m : Int))) = SV.v (Value.int IntKind.i64 fr) ∧ SV.v (Value.int IntKind.i64 (n - kq N n)) = SV.v (Value.int IntKind.i64 (n +
   (↑(bytesLs L).length : Int))) ∧ SV.v (Value.bool xov) = SV.v (Value.bool xov) ∧ True) ∧ (m = m ∧ ep = ep ∧ xs = putL m xs (fr + n) (bytesLs L)) ∧ (SV.v (Value.string ((bytesOf (tk xs fr m n)).extract (kq N (↑(bytesOf (tk xs fr m n)).size :
   Int)).toNat (bytesOf (tk xs fr m n)).size)) = SV.v (Value.string (bytesOf (tk (putL m xs (fr + n) (bytesLs L)) fr m (n + (↑(bytesLs L).length : Int))))) ∧ SV.v (Value.int IntKind.i64 (↑m : Int)) = SV.v (Value.int IntKind.i64 (↑m : Int)) ∧ SV.v
   (Value.bool xov) = SV.v (Value.bool xov) ∧ True) ∧ IC.ss L = IC.ss L ∧ True)) (br (ask == (1 : Int)) ((SV.v (Value.bool ((bytesOf (tk xs fr m (kq N n))).toList == ((bytesOf (tk xs fr m n)).extract (0 : Nat) (kq N (↑(bytesOf (tk xs fr m n)).size :
   Int)).toNat).toList)) = SV.v (Value.bool true) ∧ True) ∧ (SV.h (1 : Nat) [ep, (0 : Nat)] = SV.h (1 : Nat) [ep, (0 : Nat)] ∧ SV.v (Value.int IntKind.i64 ((fr + kq N n) % (↑m : Int))) = SV.v (Value.int IntKind.i64 ((fr + n) % (↑m : Int))) ∧ SV.v
   (Value.int IntKind.i64 (n - kq N n)) = SV.v (Value.int IntKind.i64 (0 : Int)) ∧ SV.v (Value.bool xov) = SV.v (Value.bool false) ∧ True) ∧ (m = m ∧ ep = ep ∧ xs = xs) ∧ (SV.v (Value.string ((bytesOf (tk xs fr m n)).extract (kq N (↑(bytesOf (tk xs fr m
   n)).size : Int)).toNat (bytesOf (tk xs fr m n)).size)) = SV.v (Value.string (bytesOf (tk xs ((fr + n) % (↑m : Int)) m (0 : Int)))) ∧ SV.v (Value.int IntKind.i64 (↑m : Int)) = SV.v (Value.int IntKind.i64 (↑m : Int)) ∧ SV.v (Value.bool xov) = SV.v
   (Value.bool false) ∧ True) ∧ IC.ss L = IC.ss L ∧ True) (br (ask == (3 : Int)) ((SV.v (Value.bool ((bytesOf (tk xs fr m (kq N n))).toList == ((bytesOf (tk xs fr m n)).extract (0 : Nat) (kq N (↑(bytesOf (tk xs fr m n)).size : Int)).toNat).toList)) =
   SV.v (Value.bool true) ∧ True) ∧ (SV.h (1 : Nat) [ep, (0 : Nat)] = SV.h (1 : Nat) [ep, (0 : Nat)] ∧ SV.v (Value.int IntKind.i64 ((fr + kq N n) % (↑m : Int))) = SV.v (Value.int IntKind.i64 ((fr + n) % (↑m : Int))) ∧ SV.v (Value.int IntKind.i64 (n - kq
   N n)) = SV.v (Value.int IntKind.i64 (0 : Int)) ∧ SV.v (Value.bool xov) = SV.v (Value.bool false) ∧ True) ∧ (m = m ∧ ep = ep ∧ xs = xs) ∧ (SV.v (Value.string ((bytesOf (tk xs fr m n)).extract (kq N (↑(bytesOf (tk xs fr m n)).size : Int)).toNat
   (bytesOf (tk xs fr m n)).size)) = SV.v (Value.string (bytesOf (tk xs ((fr + n) % (↑m : Int)) m (0 : Int)))) ∧ SV.v (Value.int IntKind.i64 (↑m : Int)) = SV.v (Value.int IntKind.i64 (↑m : Int)) ∧ SV.v (Value.bool xov) = SV.v (Value.bool false) ∧ True)
   ∧ IC.ss L = IC.ss L ∧ True) ((SV.v (Value.bool ((bytesOf (tk xs fr m (kq N n))).toList == ((bytesOf (tk xs fr m n)).extract (0 : Nat) (kq N (↑(bytesOf (tk xs fr m n)).size : Int)).toNat).toList)) = SV.v (Value.bool true) ∧ True) ∧ (SV.h (1 : Nat)
   [ep, (0 : Nat)] = SV.h (1 : Nat) [ep, (0 : Nat)] ∧ SV.v (Value.int IntKind.i64 ((fr + kq N n) % (↑m : Int))) = SV.v (Value.int IntKind.i64 ((fr + kq N n) % (↑m : Int))) ∧ SV.v (Value.int IntKind.i64 (n - kq N n)) = SV.v (Value.int IntKind.i64 (n - kq
   N n)) ∧ SV.v (Value.bool xov) = SV.v (Value.bool xov) ∧ True) ∧ (m = m ∧ ep = ep ∧ xs = xs) ∧ (SV.v (Value.string ((bytesOf (tk xs fr m n)).extract (kq N (↑(bytesOf (tk xs fr m n)).size : Int)).toNat (bytesOf (tk xs fr m n)).size)) = SV.v
   (Value.string (bytesOf (tk xs ((fr + kq N n) % (↑m : Int)) m (n - kq N n)))) ∧ SV.v (Value.int IntKind.i64 (↑m : Int)) = SV.v (Value.int IntKind.i64 (↑m : Int)) ∧ SV.v (Value.bool xov) = SV.v (Value.bool xov) ∧ True) ∧ IC.ss L = IC.ss L ∧
   True)))))))) (by kernel_rfl) ?_
  have hn0 := hq.n0
  have hnm := hq.nm
  have hm := hq.most
  have hsz : ((bytesOf (tk xs fr m n)).size : Int) = n := by rw [bytesOf_size, tk_length]; omega
  have hsz' : (bytesOf (tk xs fr m n)).size = n.toNat := by omega
  have hk := kq_spec (k := N) hn0
  have eK : bytesOf (tk xs fr m n) = bytesOf (tk xs fr m (kq N n)) ++ bytesOf (tk xs ((fr + kq N n) % m) m (n - kq N n)) := by
    rw [← bytesOf_append, ← tk_add hk.1 hk.2]
  have eK1 : (bytesOf (tk xs fr m n)).extract 0 (kq N n).toNat = bytesOf (tk xs fr m (kq N n)) := by
    rw [eK]; refine ba_left _ _ _ ?_; rw [bytesOf_size, tk_length]
  have eK2 : (bytesOf (tk xs fr m n)).extract (kq N n).toNat (bytesOf (tk xs fr m n)).size = bytesOf (tk xs ((fr + kq N n) % m) m (n - kq N n)) := by
    rw [eK]; refine ba_right _ _ _ ?_; rw [bytesOf_size, tk_length]
  have e00 : ByteArray.empty = bytesOf (tk xs ((fr + n) % m) m 0) := by rw [tk_zero]; rfl
  by_cases a0 : ask = 0
  · subst a0
    by_cases hgt : n + ((bytesLs L).length : Int) > m
    · simp only [br_iff, rq_iff, hsz, hgt, decide_true, beq_self_eq_true, true_implies, Bool.true_eq_false, false_implies, and_true, true_and, SV.v.injEq, Value.bool.injEq]
      exact ⟨⟨hq, hl, hB⟩, hl, by omega, hB⟩
    · obtain ⟨q1, q2⟩ := hq.put (bytesLs L) (by omega) (bytesLs_range L)
      have q3 : bytesOf (tk xs fr m n) ++ catS L = bytesOf (tk (putL m xs (fr + n) (bytesLs L)) fr m (n + (bytesLs L).length)) := by rw [q2, bytesOf_append]; rfl
      simp only [br_iff, rq_iff, hsz, hgt, decide_false, beq_self_eq_true, true_implies, Bool.true_eq_false, Bool.false_eq_true, false_implies, and_true, true_and, SV.v.injEq, Value.bool.injEq, q3]
      exact ⟨⟨hq, hl, hB⟩, hl, by omega, hB⟩
  · have b0 : (ask == 0) = false := by simpa using a0
    by_cases a1 : ask = 1
    · subst a1
      simp only [br_iff, rq_iff, hsz, b0, beq_self_eq_true, true_implies, Bool.true_eq_false, Bool.false_eq_true, false_implies, and_true, true_and, SV.v.injEq, Value.bool.injEq, Value.string.injEq]
      exact ⟨hq, by omega, e00⟩
    · have b1 : (ask == 1) = false := by simpa using a1
      by_cases a3 : ask = 3
      · subst a3
        simp only [br_iff, rq_iff, hsz, b0, b1, beq_self_eq_true, true_implies, Bool.true_eq_false, Bool.false_eq_true, false_implies, and_true, true_and, SV.v.injEq, Value.bool.injEq, Value.string.injEq]
        exact ⟨hq, by omega, e00⟩
      · have b3 : (ask == 3) = false := by simpa using a3
        simp only [br_iff, rq_iff, hsz, b0, b1, b3, beq_self_eq_true, true_implies, Bool.true_eq_false, Bool.false_eq_true, false_implies, and_true, true_and, SV.v.injEq, Value.bool.injEq, Value.string.injEq, eK1, eK2]
        exact ⟨hq, by omega⟩
def qtabL : List (Nat × ACon Unit) := (17, lcDoes) :: qtabX
theorem qtabL_ok : LCs Try.prog qtabL := ⟨ok_does, qtabX_ok⟩
/-- The calls are counted: whatever comes out. -/
def annW0 (l : List Opr) : Ann Unit where
  α := Int × Int
  φ _ x := 0 ≤ x.1 ∧ x.1 ≤ l.length
  μ _ x := (l.length - x.1).toNat
  get st := match getI st.tm 4 with
    | some k => match getI st.tm 3 with
      | some n => some (k, n)
      | none => none
    | none => none
  f st x := tmpl [0] [(4, .v (.int .i64 x.1)), (3, .v (.int .i64 x.2))] [] st
def annW1 (l : List Opr) : Ann Unit where
  α := Int × Int
  φ st x := 0 ≤ x.1 ∧ x.1 ≤ (l.getD (tI st.tm 4).toNat op0).2.1.length
  μ st x := ((l.getD (tI st.tm 4).toNat op0).2.1.length - x.1).toNat
  get st := match getI st.tm 5 with
    | some k => match getI st.tm 3 with
      | some n => some (k, n)
      | none => none
    | none => none
  f st x := tmpl [0, 4] [(5, .v (.int .i64 x.1)), (3, .v (.int .i64 x.2))] [] st
/-- What is known of calls that come in. -/
structure OpsIn (l : List Opr) : Prop where
  len : l.length ≤ 1048576
  each : ∀ o ∈ l, o.2.1.length ≤ 1048576 ∧ ∀ s ∈ o.2.1, s.size ≤ 1048576
theorem bytesLs_bound {L : List ByteArray} {B : Nat} (h : ∀ s ∈ L, s.size ≤ B) : (bytesLs L).length ≤ L.length * B := by
  induction L with
  | nil => simp [bytesLs]
  | cons a r ih =>
    have h1 := ih fun s hs => h s (List.mem_cons_of_mem _ hs)
    have h2 := h a List.mem_cons_self
    have e : (bytesLs (a :: r)).length = a.size + (bytesLs r).length := by simp [bytesLs, bytesL_length]
    rw [e, List.length_cons, Nat.succ_mul]
    omega
theorem OpsIn.at {l : List Opr} (h : OpsIn l) (i : Nat) : (l.getD i op0).2.1.length ≤ 1048576 ∧ (bytesLs (l.getD i op0).2.1).length ≤ 1099511627776 := by
  have key : (l.getD i op0).2.1.length ≤ 1048576 ∧ ∀ s ∈ (l.getD i op0).2.1, s.size ≤ 1048576 := by
    rcases Nat.lt_or_ge i l.length with hi | hi
    · rw [List.getD, List.getElem?_eq_getElem hi]
      exact h.each _ (List.getElem_mem hi)
    · rw [List.getD, List.getElem?_eq_none hi]
      exact ⟨by simp, fun s hs => by simp at hs⟩
  refine ⟨key.1, Nat.le_trans (bytesLs_bound key.2) ?_⟩
  have := Nat.mul_le_mul_right 1048576 key.1
  omega
theorem ops_in {ro : PH} {v : Value} (h : IT.den ro 1048576 (.sl [.i .i64, .sl [.s], .i .i64]) v) : ∃ l, OpsIn l ∧ VV ro (opsIC l) v := by
  obtain ⟨l, h1, h2, h3⟩ := vv_sl (α := Opr) op0 (φ := fun o => o.2.1.length ≤ 1048576 ∧ ∀ s ∈ o.2.1, s.size ≤ 1048576) (c := opIC) h fun vs hvs => by
    simp only [IT.dens, it_i] at hvs
    obtain ⟨_, _, rfl, ⟨a, rfl, _⟩, v, _, rfl, hL, _, _, rfl, ⟨n, rfl, _⟩, rfl⟩ := hvs
    obtain ⟨L, g1, g2, g3⟩ := vv_ss hL
    refine ⟨(a, L, n), ⟨g1, g2⟩, fun fo hf => ?_⟩
    simp only [List.length_cons, List.length_nil] at hf
    match fo, hf with
    | 0, _ => exact ⟨_, rfl, rfl⟩
    | 1, _ => exact ⟨_, rfl, g3⟩
    | 2, _ => exact ⟨_, rfl, rfl⟩
  exact ⟨l, ⟨h1, h2⟩, h3⟩
end Go.Proofs.Ytienakdnmhmglaa
