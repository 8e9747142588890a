/- Contracts of layer 11: the document's queue. -/
import Derived.Test.YtienakdnmhmglaaQuH
set_option linter.unusedSimpArgs false
set_option linter.unusedVariables false
set_option linter.unusedSectionVars false
namespace Go.Proofs.Ytienakdnmhmglaa
open Go Go.Sym

/-- The document's queue: an object of three cells. -/
abbrev XB := ByteArray × Int × Bool
def shX : ShB XB := shCells (shCons shStr (shCons shI (shOne shB))) 41
def catS (L : List ByteArray) : ByteArray := bytesOf (bytesLs L)
theorem catS_nil : catS [] = ByteArray.empty := rfl
theorem catS_size (L : List ByteArray) : (catS L).size = (bytesLs L).length := bytesOf_size _
theorem catS_succ {L : List ByteArray} {i : Int} (h0 : 0 ≤ i) (h : i < L.length) : catS (L.take (i + 1).toNat) = catS (L.take i.toNat) ++ L.getD i.toNat ByteArray.empty := by
  rw [catS, bytesLs_take_succ h0 h, bytesOf_append, bytesOf_bytesL]; rfl
theorem ba_empty (s : ByteArray) : s ++ ByteArray.empty = s := ByteArray.append_empty
theorem ba_assoc (s t u : ByteArray) : s ++ t ++ u = s ++ (t ++ u) := ByteArray.append_assoc
theorem ba_size (s t : ByteArray) : (s ++ t).size = s.size + t.size := ByteArray.size_append
theorem ba_all (s : ByteArray) : s.extract 0 s.size = s := ByteArray.extract_zero_size
theorem ba_none (s : ByteArray) : s.extract s.size s.size = ByteArray.empty := ByteArray.extract_same
def annX1 : Ann Unit where
  α := Int
  φ st i := 0 ≤ i ∧ i ≤ (xS st.H 1).length
  μ st i := ((xS st.H 1).length - i).toNat
  get st := getI st.tm 6
  f st i := tmpl [0, 1] [(6, .v (.int .i64 i)), (5, .v (.string (tS st.tm 5 ++ catS ((xS st.H 1).take i.toNat))))] [] st
def shXS : ShH (XB × List ByteArray) := shHCons shX (shHOne shSS)
def altXPush : (Unit × Unit) × (XB × List ByteArray) → Alt Unit := fun (_, ((s, most, ov), L)) =>
  .ask (L.length ≤ 1099511627776 ∧ s.size ≤ 1099511627776 ∧ (bytesLs L).length ≤ 1099511627776) (.br (decide ((s.size : Int) + (bytesLs L).length > most))
    (.one (.v (.bool false)) [shX.enc (s, most, true), .inp (.ss L)] [0])
    (.one (.v (.bool true)) [shX.enc (s ++ catS L, most, ov), .inp (.ss L)] [0]))
def lcXPush : ACon Unit := mkLC (decP (shCons (shP 0) (shOne (shR 1))) shXS) altXPush
set_option maxHeartbeats 4000000 in
theorem ok_xpush : ∀ I : Sym.Inv Unit, LCOk I Try.prog 23 lcXPush := by
  refine lc_mk (fun _ => allCfg Try.prog [] [] 0 [(260, annX1)]) (fun _ _ => allCfg_ok mixed trivial trivial) (fun _ => rfl) (n := 60) Try.func23 ?_
  intro ⟨_, ⟨s, most, ov⟩, L⟩ hφ
  refine kcast (B := ((II (0 : Int) ≤ (0 : Int) ∧ (0 : Int) ≤ (↑L.length : Int)) ∧ ((SV.p (0 : Nat) (0 : Nat) = SV.p (0 : Nat) (0 : Nat) ∧ SV.r (1 : Nat) [] = SV.r (1 : Nat) [] ∧ SV.v (Value.string s) = SV.v (Value.string (s ++ catS (List.take (0 :
   Nat) L))) ∧ SV.v (Value.int IntKind.i64 (0 : Int)) = SV.v (Value.int IntKind.i64 (0 : Int)) ∧ True) ∧ (SV.v (Value.string s) = SV.v (Value.string s) ∧ SV.v (Value.int IntKind.i64 most) = SV.v (Value.int IntKind.i64 most) ∧ SV.v (Value.bool ov) = SV.v
   (Value.bool ov) ∧ True) ∧ IC.ss L = IC.ss L ∧ True) ∧ ∀ (x : Int), (0 : Int) ≤ x ∧ x ≤ (↑L.length : Int) → br (decide (x < (↑L.length : Int))) (rq (true && (true && (true && decide ((0 : Int) ≤ x ∧ x < (↑L.length : Int))))) (rq (true && (x.toNat.blt
   L.length && true)) (rq (((s ++ catS (List.take x.toNat L)).size + (L.getD x.toNat ByteArray.empty).size).ble (9223372036854775807 : Nat)) (((0 : Int) ≤ IntKind.i64.wrap (x + (1 : Int)) ∧ IntKind.i64.wrap (x + (1 : Int)) ≤ (↑L.length : Int)) ∧ ((SV.p
   (0 : Nat) (0 : Nat) = SV.p (0 : Nat) (0 : Nat) ∧ SV.r (1 : Nat) [] = SV.r (1 : Nat) [] ∧ SV.v (Value.string (s ++ catS (List.take x.toNat L) ++ L.getD x.toNat ByteArray.empty)) = SV.v (Value.string (s ++ catS (List.take (IntKind.i64.wrap (x + (1 :
   Int))).toNat L))) ∧ SV.v (Value.int IntKind.i64 (IntKind.i64.wrap (x + (1 : Int)))) = SV.v (Value.int IntKind.i64 (IntKind.i64.wrap (x + (1 : Int)))) ∧ True) ∧ (SV.v (Value.string s) = SV.v (Value.string s) ∧ SV.v (Value.int IntKind.i64 most) = SV.v
   (Value.int IntKind.i64 most) ∧ SV.v (Value.bool ov) = SV.v (Value.bool ov) ∧ True) ∧ IC.ss L = IC.ss L ∧ True) ∧ ((↑L.length : Int) - IntKind.i64.wrap (x + (1 : Int))).toNat < ((↑L.length : Int) - x).toNat)))) (br (decide ((↑(s ++ catS (List.take
   x.toNat L)).size : Int) > most)) (br (decide ((↑s.size : Int) + (↑(bytesLs L).length : Int) > most)) ((SV.v (Value.bool false) = SV.v (Value.bool false) ∧ True) ∧ (SV.v (Value.string s) = SV.v (Value.string s) ∧ SV.v (Value.int IntKind.i64 most) =
   SV.v (Value.int IntKind.i64 most) ∧ SV.v (Value.bool true) = SV.v (Value.bool true) ∧ True) ∧ IC.ss L = IC.ss L ∧ True) ((SV.v (Value.bool false) = SV.v (Value.bool true) ∧ True) ∧ (SV.v (Value.string s) = SV.v (Value.string (s ++ catS L)) ∧ SV.v
   (Value.int IntKind.i64 most) = SV.v (Value.int IntKind.i64 most) ∧ SV.v (Value.bool true) = SV.v (Value.bool ov) ∧ True) ∧ IC.ss L = IC.ss L ∧ True)) (br (decide ((↑s.size : Int) + (↑(bytesLs L).length : Int) > most)) ((SV.v (Value.bool true) = SV.v
   (Value.bool false) ∧ True) ∧ (SV.v (Value.string (s ++ catS (List.take x.toNat L))) = SV.v (Value.string s) ∧ SV.v (Value.int IntKind.i64 most) = SV.v (Value.int IntKind.i64 most) ∧ SV.v (Value.bool ov) = SV.v (Value.bool true) ∧ True) ∧ IC.ss L =
   IC.ss L ∧ True) ((SV.v (Value.bool true) = SV.v (Value.bool true) ∧ True) ∧ (SV.v (Value.string (s ++ catS (List.take x.toNat L))) = SV.v (Value.string (s ++ catS L)) ∧ SV.v (Value.int IntKind.i64 most) = SV.v (Value.int IntKind.i64 most) ∧ SV.v
   (Value.bool ov) = SV.v (Value.bool ov) ∧ True) ∧ IC.ss L = IC.ss L ∧ True))))) (by kernel_rfl) ?_
  obtain ⟨⟨hl, hs, hB⟩, _⟩ := id hφ
  have hle : ∀ k : Nat, (bytesLs (L.take k)).length ≤ (bytesLs L).length := fun k => bytesLs_le (L := L) k
  simp only [rq_iff, br_iff, nbeq, Nat.blt_eq, Nat.ble_eq, true_and, and_true, reduceCtorEq, false_implies, true_implies, Bool.and_eq_true, decide_eq_true_eq, decide_eq_false_iff_not, SV.v.injEq, Value.int.injEq, Value.bool.injEq, Value.string.injEq, II, Bool.false_eq_true, Bool.true_eq_false, ba_size, catS_size]
  refine ⟨⟨by omega, by omega⟩, by rw [List.take_zero, catS_nil, ba_empty], fun x ⟨hx0, hx1⟩ => ⟨fun hlt => ?_, fun hge => ?_⟩⟩
  · have e1 := bytesLs_take_succ hx0 hlt
    have e2 := hle (x + 1).toNat
    have e4 : (bytesLs (L.take (x + 1).toNat)).length = (bytesLs (L.take x.toNat)).length + (L.getD x.toNat ByteArray.empty).size := by rw [e1, List.length_append, bytesL_length]
    rw [wrap64 (x := x + 1) (by omega) (by omega), catS_succ hx0 hlt, ba_assoc]
    exact ⟨⟨hx0, hlt⟩, by omega, by omega, ⟨by omega, by omega⟩, rfl, by omega⟩
  · have e0 : L.take x.toNat = L := List.take_of_length_le (by omega)
    rw [e0]
    refine ⟨fun h => ⟨fun _ => trivial, fun h' => by omega⟩, fun h => ⟨fun h' => by omega, fun _ => rfl⟩⟩
def altXSome : (Unit × Int) × XB → Alt Unit := fun ((_, k), (s, most, ov)) =>
  .ask (s.size ≤ 1099511627776) (.one (.v (.string (s.extract 0 (kq k s.size).toNat))) [shX.enc (s.extract (kq k s.size).toNat s.size, most, ov)] [0])
def lcXSome : ACon Unit := mkLC (decP (shCons (shP 0) (shOne shI)) (shHOne shX)) altXSome
set_option maxHeartbeats 4000000 in
theorem ok_xsome : ∀ I : Sym.Inv Unit, LCOk I Try.prog 25 lcXSome := by
  refine lc_mk (fun _ => allCfg Try.prog [] [] 0) (fun _ _ => allCfg_ok mixed trivial trivial) (fun _ => rfl) (n := 60) Try.func25 ?_
  intro ⟨⟨_, k⟩, s, most, ov⟩ hφ
  refine kcast (B := (rq (decide ((0 : Int) ≤ (0 : Int) ∧ ((0 : Int) ≤ if (↑s.size : Int) < if (0 : Int) > k then (0 : Int) else k then (↑s.size : Int) else if (0 : Int) > k then (0 : Int) else k) ∧ (if (↑s.size : Int) < if (0 : Int) > k then (0 :
   Int) else k then (↑s.size : Int) else if (0 : Int) > k then (0 : Int) else k) ≤ (↑s.size : Int))) (rq (decide (((0 : Int) ≤ if (↑s.size : Int) < if (0 : Int) > k then (0 : Int) else k then (↑s.size : Int) else if (0 : Int) > k then (0 : Int) else k)
   ∧ (if (↑s.size : Int) < if (0 : Int) > k then (0 : Int) else k then (↑s.size : Int) else if (0 : Int) > k then (0 : Int) else k) ≤ (↑s.size : Int) ∧ (↑s.size : Int) ≤ (↑s.size : Int))) ((SV.v (Value.string (s.extract (0 : Nat) (if (↑s.size : Int) <
   if (0 : Int) > k then (0 : Int) else k then (↑s.size : Int) else if (0 : Int) > k then (0 : Int) else k).toNat)) = SV.v (Value.string (s.extract (0 : Nat) (kq k (↑s.size : Int)).toNat)) ∧ True) ∧ (SV.v (Value.string (s.extract (if (↑s.size : Int) <
   if (0 : Int) > k then (0 : Int) else k then (↑s.size : Int) else if (0 : Int) > k then (0 : Int) else k).toNat (↑s.size : Int).toNat)) = SV.v (Value.string (s.extract (kq k (↑s.size : Int)).toNat s.size)) ∧ SV.v (Value.int IntKind.i64 most) = SV.v
   (Value.int IntKind.i64 most) ∧ SV.v (Value.bool ov) = SV.v (Value.bool ov) ∧ True) ∧ True)))) (by kernel_rfl) ?_
  obtain ⟨hs, _⟩ := id hφ
  rw [show (if (s.size : Int) < (if (0 : Int) > k then 0 else k) then (s.size : Int) else if (0 : Int) > k then 0 else k) = kq k s.size from rfl]
  have hk := kq_spec (k := k) (n := s.size) (by omega)
  simp only [rq_iff, decide_eq_true_eq, true_and, and_true]
  exact ⟨⟨by omega, hk.1, hk.2⟩, ⟨hk.1, hk.2, by omega⟩, rfl⟩
def altXDrain : Unit × XB → Alt Unit := fun (_, (s, most, ov)) =>
  .ask (s.size ≤ 1099511627776) (.one (.v (.string s)) [shX.enc (ByteArray.empty, most, false)] [0])
def lcXDrain : ACon Unit := mkLC (decP (shOne (shP 0)) (shHOne shX)) altXDrain
set_option maxHeartbeats 4000000 in
theorem ok_xdrain : ∀ I : Sym.Inv Unit, LCOk I Try.prog 24 lcXDrain := by
  refine lc_mk (fun _ => allCfg Try.prog [] [(25, lcXSome)] 0) (fun _ _ => allCfg_ok mixed trivial ⟨ok_xsome, trivial⟩) (fun _ => rfl) (n := 60) Try.func24 ?_
  intro ⟨_, s, most, ov⟩ hφ
  refine kcast (B := (true = true ∧ s.size ≤ (1099511627776 : Nat) ∧ (SV.v (Value.string (s.extract (0 : Nat) (kq (↑s.size : Int) (↑s.size : Int)).toNat)) = SV.v (Value.string s) ∧ True) ∧ (SV.v (Value.string (s.extract (kq (↑s.size : Int) (↑s.size :
   Int)).toNat s.size)) = SV.v (Value.string ByteArray.empty) ∧ SV.v (Value.int IntKind.i64 most) = SV.v (Value.int IntKind.i64 most) ∧ SV.v (Value.bool false) = SV.v (Value.bool false) ∧ True) ∧ True)) (by kernel_rfl) ?_
  obtain ⟨hs, _⟩ := id hφ
  have hk := kq_all (n := s.size) (by omega)
  have e : ((s.size : Int)).toNat = s.size := by omega
  simp only [hk, e, ba_all, ba_none]
  simp [hs]
end Go.Proofs.Ytienakdnmhmglaa
