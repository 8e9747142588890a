/- Contracts of layer 1: a part of a row moves. -/
import Derived.Test.YtpdhnmnjccnbmaaGrB
set_option linter.unusedSimpArgs false
set_option linter.unusedVariables false
set_option linter.unusedSectionVars false
namespace Go.Proofs.Ytpdhnmnjccnbmaa
open Go Go.Sym

/-- A closure of a function. -/
def shF {α : Type} (g : Nat) (s : ShL α) : Sh α where
  enc a := .f (.func g) (s.enc a)
  dec x := match x with
    | .f fn l => match fn with
      | .func g' => match Nat.beq g' g with
        | true => s.dec l
        | false => none
      | _ => none
    | _ => none
  ok x a h := by
    split at h
    · split at h
      · split at h
        · rename_i hg
          rw [Nat.beq_eq] at hg
          subst hg
          rw [s.ok _ _ h]
        · cases h
      · cases h
    · cases h
/-- A part of one of the rows: the epoch, the row, from where, how many. -/
def shSub (b : Nat) : Sh (Nat × Nat × Nat × Nat) where
  enc a := .h b [a.1, 1, a.2.1, a.2.2.1, a.2.2.2, 0]
  dec x := match x with
    | .h b' q => match Nat.beq b' b with
      | true => match q with
        | [ep, o, r, lo, len, z] => match o with
          | 1 => match z with
            | 0 => some (ep, r, lo, len)
            | _ => none
          | _ => none
        | _ => none
      | false => none
    | _ => none
  ok x a h := by
    split at h
    · split at h
      · rename_i hT
        rw [Nat.beq_eq] at hT
        subst hT
        split at h
        · split at h
          · split at h
            · simp only [Option.some.injEq] at h; subst h; rfl
            · cases h
          · cases h
        · cases h
      · cases h
    · cases h
/-- Things that go to the front by n, and what fills the rest. -/
def mvAt {α : Type} (l : List α) (d : α) (n : Int) (x : α) (i : Nat) : α := if n > (l.length : Int) - 1 - i ∨ n < -(i : Int) then x else l.getD (i + n).toNat d
def movedL {α : Type} (l : List α) (d : α) (n : Int) (x : α) : List α := (List.range l.length).map (mvAt l d n x)
theorem movedL_length {α : Type} (l : List α) (d : α) (n : Int) (x : α) : (movedL l d n x).length = l.length := by simp [movedL]
theorem movedL_succ {α : Type} {l : List α} {d : α} {n : Int} {x : α} {k : Int} (h0 : 0 ≤ k) (h1 : k < l.length) : (movedL l d n x).take (k + 1).toNat = (movedL l d n x).take k.toNat ++ [mvAt l d n x k.toNat] := by
  rw [show (k + 1).toNat = k.toNat + 1 by omega, List.take_succ_eq_append_getElem (by rw [movedL_length]; omega)]
  simp [movedL]
def part {α : Type} (r : List α) (a b : Nat) : List α := (r.drop a).take (b + 1 - a)
def slideL (r : List Int) (a b : Nat) (n x : Int) : List Int := r.take a ++ (movedL (part r a b) 0 n x ++ r.drop (a + (b + 1 - a)))
def annM (p : List Int) (n x : Int) : Ann Unit where
  α := Int
  φ _ k := 0 ≤ k ∧ k ≤ p.length
  μ _ k := ((p.length : Int) - k).toNat
  get st := getI st.tm 14
  f st k := tmpl [0, 1, 2, 13] [(14, .v (.int .i64 k)), (7, .h 2 [k.toNat, 0])] [(2, .own (.ints .i64 ((movedL p 0 n x).take k.toNat)) k.toNat 3 1 k.toNat true)] st
def lcMov : ACon Unit := mkLC (decP (shCons (shSub 0) (shCons shI (shOne (shF 47 (shOne (shP 1)))))) (shHCons (shRowsI .i64 3 63) (shHOne (shCells (shOne shI) 3))))
  fun (((ep, r, lo, len), n, _), (⟨l, oe, ep2⟩, x)) => .ask (ep = ep2 ∧ r < l.length ∧ lo + len ≤ (l.getD r []).length ∧ (l.getD r []).length ≤ 255 ∧ 0 < len) (.one (.h 2 [len, 0])
    [.rows (.i .i64 l) 3 63 oe ep none, .cells [.v (.int .i64 x)] 3, .own (.ints .i64 (movedL (((l.getD r []).drop lo).take len) 0 n x)) len 3 1 len true] [])
set_option maxHeartbeats 4000000 in
theorem ok_mov : ∀ I : Sym.Inv Unit, LCOk I Try.prog 46 lcMov := by
  refine lc_mk (fun (((ep, r, lo, len), n, _), (⟨l, oe, ep2⟩, x)) => allCfg Try.prog [] tabB 3 [(257, annM (((l.getD r []).drop lo).take len) n x)]) (fun _ _ => allCfg_ok mixed trivial tabB_ok) (fun _ => rfl) (n := 80) Try.func46 ?_
  intro ⟨⟨⟨ep, r, lo, len⟩, n, _⟩, ⟨l, oe, ep2⟩, x⟩ hφ
  obtain ⟨⟨rfl, h1, h2, h3, h4⟩, hp⟩ := id hφ
  refine kcast (B := (rq (ep.beq ep && r.blt (Rws.i IntKind.i64 l).len && Nat.blt (0 : Nat) ((Rws.i IntKind.i64 l).nAt r)) (rq (decide ((0 : Int) ≤ (0 : Int) ∧ (0 : Int) ≤ (↑len : Int) ∧ (↑(8 : Nat) : Int) * (↑len : Int) ≤ (281474976710656 : Int) ∧ (↑len : Int) ≤ (9223372036854775807 : Int))) (rq (ep.beq ep && r.blt (Rws.i IntKind.i64 l).len && Nat.blt (0 : Nat) ((Rws.i IntKind.i64 l).nAt r)) ((II (0 : Int) ≤ (0 : Int) ∧ (0 : Int) ≤ (↑(List.take len (List.drop lo (l.getD r (LI [])))).length : Int)) ∧ ((SV.h (0 : Nat) [ep, (1 : Nat), r, lo, len, (0 : Nat)] = SV.h (0 : Nat) [ep, (1 : Nat), r, lo, len, (0 : Nat)] ∧ SV.v (Value.int IntKind.i64 n) = SV.v (Value.int IntKind.i64 n) ∧ SV.f (Fn.func (47 : Nat)) [SV.p (1 : Nat) (0 : Nat)] = SV.f (Fn.func (47 : Nat)) [SV.p (1 : Nat) (0 : Nat)] ∧ SV.h (2 : Nat) [(0 : Nat), (0 : Nat)] = SV.h (2 : Nat) [(0 : Nat), (0 : Nat)] ∧ SV.v (Value.int IntKind.i64 (↑len : Int)) = SV.v (Value.int IntKind.i64 (↑len : Int)) ∧ SV.v (Value.int IntKind.i64 (0 : Int)) = SV.v (Value.int IntKind.i64 (0 : Int)) ∧ True) ∧ (oe = oe ∧ ep = ep ∧ l = l) ∧ (SV.v (Value.int IntKind.i64 x) = SV.v (Value.int IntKind.i64 x) ∧ True) ∧ ((0 : Nat) = (0 : Nat) ∧ (0 : Nat) = (0 : Nat) ∧ List.replicate (0 : Nat) (0 : Int) = List.take (0 : Nat) (movedL (List.take len (List.drop lo (l.getD r (LI [])))) (0 : Int) n x)) ∧ True) ∧ ∀ (x_1 : Int), (0 : Int) ≤ x_1 ∧ x_1 ≤ (↑(List.take len (List.drop lo (l.getD r (LI [])))).length : Int) → br (decide (x_1 < (↑len : Int))) (rq (ep.beq ep && r.blt (Rws.i IntKind.i64 l).len && Nat.blt (0 : Nat) ((Rws.i IntKind.i64 l).nAt r)) (br (decide (n > IntKind.i64.wrap (IntKind.i64.wrap ((↑len : Int) - (1 : Int)) - x_1))) (rq (x_1.toNat.beq x_1.toNat && (true && decide (x_1.toNat + (1 : Nat) ≤ (9223372036854775807 : Nat) ∧ (x_1.toNat + (1 : Nat)) * (8 : Nat) ≤ (140737488355328 : Nat)))) (((0 : Int) ≤ IntKind.i64.wrap (x_1 + (1 : Int)) ∧ IntKind.i64.wrap (x_1 + (1 : Int)) ≤ (↑(List.take len (List.drop lo (l.getD r (LI [])))).length : Int)) ∧ ((SV.h (0 : Nat) [ep, (1 : Nat), r, lo, len, (0 : Nat)] = SV.h (0 : Nat) [ep, (1 : Nat), r, lo, len, (0 : Nat)] ∧ SV.v (Value.int IntKind.i64 n) = SV.v (Value.int IntKind.i64 n) ∧ SV.f (Fn.func (47 : Nat)) [SV.p (1 : Nat) (0 : Nat)] = SV.f (Fn.func (47 : Nat)) [SV.p (1 : Nat) (0 : Nat)] ∧ SV.h (2 : Nat) [x_1.toNat + (1 : Nat), (0 : Nat)] = SV.h (2 : Nat) [(IntKind.i64.wrap (x_1 + (1 : Int))).toNat, (0 : Nat)] ∧ SV.v (Value.int IntKind.i64 (↑len : Int)) = SV.v (Value.int IntKind.i64 (↑len : Int)) ∧ SV.v (Value.int IntKind.i64 (IntKind.i64.wrap (x_1 + (1 : Int)))) = SV.v (Value.int IntKind.i64 (IntKind.i64.wrap (x_1 + (1 : Int)))) ∧ True) ∧ (oe = oe ∧ ep = ep ∧ l = l) ∧ (SV.v (Value.int IntKind.i64 x) = SV.v (Value.int IntKind.i64 x) ∧ True) ∧ (x_1.toNat + (1 : Nat) = (IntKind.i64.wrap (x_1 + (1 : Int))).toNat ∧ x_1.toNat + (1 : Nat) = (IntKind.i64.wrap (x_1 + (1 : Int))).toNat ∧ List.take x_1.toNat (movedL (List.take len (List.drop lo (l.getD r (LI [])))) (0 : Int) n x) ++ intsOf (List.take (1 : Nat) (List.drop (0 : Nat) (setAll (List.map (fun i => SV.v (Value.int IntKind.i64 (0 : Int)).cells[i % (1 : Nat)]!) (List.range (1 : Nat))) (0 : Nat) [SV.v (Value.int IntKind.i64 x)]))) = List.take (IntKind.i64.wrap (x_1 + (1 : Int))).toNat (movedL (List.take len (List.drop lo (l.getD r (LI [])))) (0 : Int) n x)) ∧ True) ∧ ((↑(List.take len (List.drop lo (l.getD r (LI [])))).length : Int) - IntKind.i64.wrap (x_1 + (1 : Int))).toNat < ((↑(List.take len (List.drop lo (l.getD r (LI [])))).length : Int) - x_1).toNat)) (br (decide (n < IntKind.i64.wrap ((0 : Int) - x_1))) (rq (x_1.toNat.beq x_1.toNat && (true && decide (x_1.toNat + (1 : Nat) ≤ (9223372036854775807 : Nat) ∧ (x_1.toNat + (1 : Nat)) * (8 : Nat) ≤ (140737488355328 : Nat)))) (((0 : Int) ≤ IntKind.i64.wrap (x_1 + (1 : Int)) ∧ IntKind.i64.wrap (x_1 + (1 : Int)) ≤ (↑(List.take len (List.drop lo (l.getD r (LI [])))).length : Int)) ∧ ((SV.h (0 : Nat) [ep, (1 : Nat), r, lo, len, (0 : Nat)] = SV.h (0 : Nat) [ep, (1 : Nat), r, lo, len, (0 : Nat)] ∧ SV.v (Value.int IntKind.i64 n) = SV.v (Value.int IntKind.i64 n) ∧ SV.f (Fn.func (47 : Nat)) [SV.p (1 : Nat) (0 : Nat)] = SV.f (Fn.func (47 : Nat)) [SV.p (1 : Nat) (0 : Nat)] ∧ SV.h (2 : Nat) [x_1.toNat + (1 : Nat), (0 : Nat)] = SV.h (2 : Nat) [(IntKind.i64.wrap (x_1 + (1 : Int))).toNat, (0 : Nat)] ∧ SV.v (Value.int IntKind.i64 (↑len : Int)) = SV.v (Value.int IntKind.i64 (↑len : Int)) ∧ SV.v (Value.int IntKind.i64 (IntKind.i64.wrap (x_1 + (1 : Int)))) = SV.v (Value.int IntKind.i64 (IntKind.i64.wrap (x_1 + (1 : Int)))) ∧ True) ∧ (oe = oe ∧ ep = ep ∧ l = l) ∧ (SV.v (Value.int IntKind.i64 x) = SV.v (Value.int IntKind.i64 x) ∧ True) ∧ (x_1.toNat + (1 : Nat) = (IntKind.i64.wrap (x_1 + (1 : Int))).toNat ∧ x_1.toNat + (1 : Nat) = (IntKind.i64.wrap (x_1 + (1 : Int))).toNat ∧ List.take x_1.toNat (movedL (List.take len (List.drop lo (l.getD r (LI [])))) (0 : Int) n x) ++ intsOf (List.take (1 : Nat) (List.drop (0 : Nat) (setAll (List.map (fun i => SV.v (Value.int IntKind.i64 (0 : Int)).cells[i % (1 : Nat)]!) (List.range (1 : Nat))) (0 : Nat) [SV.v (Value.int IntKind.i64 x)]))) = List.take (IntKind.i64.wrap (x_1 + (1 : Int))).toNat (movedL (List.take len (List.drop lo (l.getD r (LI [])))) (0 : Int) n x)) ∧ True) ∧ ((↑(List.take len (List.drop lo (l.getD r (LI [])))).length : Int) - IntKind.i64.wrap (x_1 + (1 : Int))).toNat < ((↑(List.take len (List.drop lo (l.getD r (LI [])))).length : Int) - x_1).toNat)) (rq (ep.beq ep && r.blt (Rws.i IntKind.i64 l).len && ((Rws.i IntKind.i64 l).sz.beq (1 : Nat) && ((lo + len).ble ((Rws.i IntKind.i64 l).nAt r) && decide ((0 : Int) ≤ IntKind.i64.wrap (x_1 + n) ∧ IntKind.i64.wrap (x_1 + n) < (↑len : Int))))) (rq (ep.beq ep && r.blt (Rws.i IntKind.i64 l).len && (lo + (IntKind.i64.wrap (x_1 + n)).toNat).blt (l.getD r (LI [])).length) (rq (x_1.toNat.beq x_1.toNat && (true && decide (x_1.toNat + (1 : Nat) ≤ (9223372036854775807 : Nat) ∧ (x_1.toNat + (1 : Nat)) * (8 : Nat) ≤ (140737488355328 : Nat)))) (((0 : Int) ≤ IntKind.i64.wrap (x_1 + (1 : Int)) ∧ IntKind.i64.wrap (x_1 + (1 : Int)) ≤ (↑(List.take len (List.drop lo (l.getD r (LI [])))).length : Int)) ∧ ((SV.h (0 : Nat) [ep, (1 : Nat), r, lo, len, (0 : Nat)] = SV.h (0 : Nat) [ep, (1 : Nat), r, lo, len, (0 : Nat)] ∧ SV.v (Value.int IntKind.i64 n) = SV.v (Value.int IntKind.i64 n) ∧ SV.f (Fn.func (47 : Nat)) [SV.p (1 : Nat) (0 : Nat)] = SV.f (Fn.func (47 : Nat)) [SV.p (1 : Nat) (0 : Nat)] ∧ SV.h (2 : Nat) [x_1.toNat + (1 : Nat), (0 : Nat)] = SV.h (2 : Nat) [(IntKind.i64.wrap (x_1 + (1 : Int))).toNat, (0 : Nat)] ∧ SV.v (Value.int IntKind.i64 (↑len : Int)) = SV.v (Value.int IntKind.i64 (↑len : Int)) ∧ SV.v (Value.int IntKind.i64 (IntKind.i64.wrap (x_1 + (1 : Int)))) = SV.v (Value.int IntKind.i64 (IntKind.i64.wrap (x_1 + (1 : Int)))) ∧ True) ∧ (oe = oe ∧ ep = ep ∧ l = l) ∧ (SV.v (Value.int IntKind.i64 x) = SV.v (Value.int IntKind.i64 x) ∧ True) ∧ (x_1.toNat + (1 : Nat) = (IntKind.i64.wrap (x_1 + (1 : Int))).toNat ∧ x_1.toNat + (1 : Nat) = (IntKind.i64.wrap (x_1 + (1 : Int))).toNat ∧ List.take x_1.toNat (movedL (List.take len (List.drop lo (l.getD r (LI [])))) (0 : Int) n x) ++ intsOf (List.take (1 : Nat) (List.drop (0 : Nat) (setAll (List.map (fun i => SV.v (Value.int IntKind.i64 (0 : Int)).cells[i % (1 : Nat)]!) (List.range (1 : Nat))) (0 : Nat) [SV.v (Value.int IntKind.i64 ((l.getD r (LI [])).getD (lo + (IntKind.i64.wrap (x_1 + n)).toNat) (0 : Int)))]))) = List.take (IntKind.i64.wrap (x_1 + (1 : Int))).toNat (movedL (List.take len (List.drop lo (l.getD r (LI [])))) (0 : Int) n x)) ∧ True) ∧ ((↑(List.take len (List.drop lo (l.getD r (LI [])))).length : Int) - IntKind.i64.wrap (x_1 + (1 : Int))).toNat < ((↑(List.take len (List.drop lo (l.getD r (LI [])))).length : Int) - x_1).toNat))))))) ((SV.h (2 : Nat) [x_1.toNat, (0 : Nat)] = SV.h (2 : Nat) [len, (0 : Nat)] ∧ True) ∧ (oe = oe ∧ ep = ep ∧ l = l) ∧ (SV.v (Value.int IntKind.i64 x) = SV.v (Value.int IntKind.i64 x) ∧ True) ∧ (x_1.toNat = len ∧ x_1.toNat = len ∧ List.take x_1.toNat (movedL (List.take len (List.drop lo (l.getD r (LI [])))) (0 : Int) n x) = movedL (List.take len (List.drop lo (l.getD r (LI [])))) (0 : Int) n x) ∧ True)))))) (by kernel_rfl) ?_
  clear hp hφ
  have b1 : Nat.blt r (Rws.i IntKind.i64 l).len = true := by rw [Nat.blt_eq]; exact h1
  have e1 : (Rws.i IntKind.i64 l).nAt r = (l.getD r []).length := rfl
  have e2 : Nat.beq (Rws.i IntKind.i64 l).sz 1 = true := rfl
  have hpl : (((l.getD r []).drop lo).take len).length = len := by rw [List.length_take, List.length_drop]; omega
  have hget : ∀ j, j < len → (((l.getD r []).drop lo).take len).getD j 0 = (l.getD r []).getD (lo + j) 0 := fun j hj => by
    rw [List.getD, List.getElem?_take_of_lt hj, List.getElem?_drop]; rfl
  simp only [LI, II, b1, e1, e2]
  generalize hpp : ((l.getD r []).drop lo).take len = p at hpl hget ⊢
  simp only [rq_iff, br_iff, nbeq, hpl, Bool.true_and, Bool.and_true, true_and, and_true, Bool.and_eq_true, Nat.ble_eq, Nat.blt_eq, decide_eq_true_eq, decide_eq_false_iff_not]
  refine ⟨by omega, by omega, by omega, ⟨by omega, by omega⟩, rfl, fun k ⟨hk0, hk1⟩ => ⟨fun hlt => ⟨by omega, ?_⟩, fun hge => ?_⟩⟩
  · rw [wrap64 (x := (len : Int) - 1) (by omega) (by omega), wrap64 (x := (len : Int) - 1 - k) (by omega) (by omega), wrap64 (x := k + 1) (by omega) (by omega), wrap64 (x := 0 - k) (by omega) (by omega)]
    have hs := movedL_succ (l := p) (d := 0) (n := n) (x := x) hk0 (by omega)
    have e3 : k.toNat + 1 = (k + 1).toNat := by omega
    have e4 : ((k.toNat : Nat) : Int) = k := by omega
    rw [e3, hs]
    refine ⟨fun h5 => ?_, fun h5 => ⟨fun h6 => ?_, fun h6 => ?_⟩⟩
    · have : mvAt p 0 n x k.toNat = x := if_pos (.inl (by rw [hpl, e4]; omega))
      rw [this]
      exact ⟨⟨by omega, by omega⟩, ⟨by omega, by omega⟩, ⟨rfl, rfl, rfl, rfl⟩, by omega⟩
    · have : mvAt p 0 n x k.toNat = x := if_pos (.inr (by rw [e4]; omega))
      rw [this]
      exact ⟨⟨by omega, by omega⟩, ⟨by omega, by omega⟩, ⟨rfl, rfl, rfl, rfl⟩, by omega⟩
    · have : mvAt p 0 n x k.toNat = (l.getD r []).getD (lo + (k + n).toNat) 0 := by
        unfold mvAt
        rw [if_neg (by rw [hpl, e4]; omega), e4]
        exact hget _ (by omega)
      rw [wrap64 (x := k + n) (by omega) (by omega), this]
      exact ⟨⟨by omega, by omega, by omega⟩, by omega, ⟨by omega, by omega⟩, ⟨by omega, by omega⟩, ⟨rfl, rfl, rfl, rfl⟩, by omega⟩
  · have hk : k = len := by omega
    subst hk
    have : (movedL p 0 n x).take (Int.toNat (len : Int)) = movedL p 0 n x := List.take_of_length_le (by rw [movedL_length, hpl]; omega)
    rw [this]
    simp
def tabC : List (Nat × ACon Unit) := (46, lcMov) :: (18, lcAt) :: (20, lcSet) :: tabB
theorem tabC_ok : LCs Try.prog tabC := ⟨ok_mov, ok_at, ok_set, tabB_ok⟩

def slide2 (l : List (List Int)) (r a b n x : Int) : List (List Int) := l.set r.toNat (slideL (l.getD r.toNat []) a.toNat b.toNat n x)
def lcSlide1 : ACon Unit := mkLC (decP (shCons (shP 0) (shCons shI (shCons shI (shCons shI (shCons shI (shOne shI)))))) shG) fun ((_, r, a, b, n, x), (oe, ⟨l, oe2, ep⟩)) => .ask (oe = oe2 ∧ GW l) (.br (inB l r a && inB l r b)
  (.br (decide (b < a)) (.one (.v (.int .i64 1)) (gbi 0 oe ep l) [1]) (.one (.v (.int .i64 0)) (gbi 0 oe ep (slide2 l r a b n x)) [1])) (.one (.v (.int .i64 11)) (gbi 0 oe ep l) [1]))
def lcSlide0 : ACon Unit := mkLC (decP (shCons shNilP (shCons shI (shCons shI (shCons shI (shCons shI (shOne shI)))))) shHNil) fun _ => .one (.v (.int .i64 2)) [] []
set_option maxHeartbeats 4000000 in
theorem ok_slide1 : ∀ I : Sym.Inv Unit, LCOk I Try.prog 23 lcSlide1 := by
  refine lc_mk (fun _ => allCfg Try.prog [] tabC 3) (fun _ _ => allCfg_ok mixed trivial tabC_ok) (fun _ => rfl) (n := 80) Try.func23 ?_
  intro ⟨⟨_, r, a, b, n, x⟩, ⟨oe, ⟨l, oe2, ep⟩⟩⟩ hφ
  obtain ⟨⟨rfl, hg⟩, hp⟩ := id hφ
  refine kcast (B := (true = true ∧ (oe = oe ∧ GW l) ∧ br (inB l r a && inB l r b) (br (decide (b < a)) (br (inB l r a && inB l r b) (br (decide (b < a)) ((SV.v (Value.int IntKind.i64 (1 : Int)) = SV.v (Value.int IntKind.i64 (1 : Int)) ∧ True) ∧ (SV.h (1 : Nat) [oe, (0 : Nat)] = SV.h (1 : Nat) [oe, (0 : Nat)] ∧ True) ∧ (oe = oe ∧ ep = ep ∧ l = l) ∧ True) ((SV.v (Value.int IntKind.i64 (1 : Int)) = SV.v (Value.int IntKind.i64 (0 : Int)) ∧ True) ∧ (SV.h (1 : Nat) [oe, (0 : Nat)] = SV.h (1 : Nat) [oe, (0 : Nat)] ∧ True) ∧ (oe = oe ∧ ep = ep ∧ l = slide2 l r a b n x) ∧ True)) ((SV.v (Value.int IntKind.i64 (1 : Int)) = SV.v (Value.int IntKind.i64 (11 : Int)) ∧ True) ∧ (SV.h (1 : Nat) [oe, (0 : Nat)] = SV.h (1 : Nat) [oe, (0 : Nat)] ∧ True) ∧ (oe = oe ∧ ep = ep ∧ l = l) ∧ True)) (rq (oe.beq oe && (true && decide ((0 : Int) ≤ r ∧ r < (↑(Rws.i IntKind.i64 l).len : Int)))) (rq (oe.beq oe && r.toNat.blt (Rws.i IntKind.i64 l).len) (rq (ep.beq ep && r.toNat.blt (Rws.i IntKind.i64 l).len && ((Rws.i IntKind.i64 l).sz.beq (1 : Nat) && decide ((0 : Int) ≤ a ∧ a ≤ (↑((Rws.i IntKind.i64 l).nAt r.toNat) : Int) ∧ (↑((Rws.i IntKind.i64 l).nAt r.toNat) : Int) ≤ (↑((Rws.i IntKind.i64 l).nAt r.toNat) : Int)))) (rq (oe.beq oe && (true && decide ((0 : Int) ≤ r ∧ r < (↑(Rws.i IntKind.i64 l).len : Int)))) (rq (oe.beq oe && r.toNat.blt (Rws.i IntKind.i64 l).len) (rq (ep.beq ep && r.toNat.blt (Rws.i IntKind.i64 l).len && ((Rws.i IntKind.i64 l).sz.beq (1 : Nat) && decide ((0 : Int) ≤ a ∧ a ≤ IntKind.i64.wrap (b + (1 : Int)) ∧ IntKind.i64.wrap (b + (1 : Int)) ≤ (↑((Rws.i IntKind.i64 l).nAt r.toNat) : Int)))) (true = true ∧ (ep = ep ∧ r.toNat < l.length ∧ a.toNat + ((IntKind.i64.wrap (b + (1 : Int))).toNat - a.toNat) ≤ (l.getD r.toNat (LI [])).length ∧ (l.getD r.toNat (LI [])).length ≤ (255 : Nat) ∧ (0 : Nat) < (IntKind.i64.wrap (b + (1 : Int))).toNat - a.toNat) ∧ rq (ep.beq ep && r.toNat.blt (Rws.i IntKind.i64 l).len && (((IntKind.i64.wrap (b + (1 : Int))).toNat - a.toNat).beq ((IntKind.i64.wrap (b + (1 : Int))).toNat - a.toNat) && Nat.beq (1 : Nat) (Rws.i IntKind.i64 l).sz && (szN ((Rws.i IntKind.i64 l).at r.toNat) (Rws.i IntKind.i64 l).sz && ((Rws.i IntKind.i64 l).sz.beq (1 : Nat) && (true && ((a.toNat + ((↑((Rws.i IntKind.i64 l).nAt r.toNat) : Int).toNat - a.toNat)).ble ((Rws.i IntKind.i64 l).nAt r.toNat) && Nat.blt (0 : Nat) ((Rws.i IntKind.i64 l).nAt r.toNat))))))) ((oe = oe ∧ ep = ep ∧ l = l) ∧ (oe = oe ∧ ep = ep ∧ l = l) ∧ (oe = oe ∧ ep = ep ∧ l = l) ∧ br (inB l r a && inB l r b) (br (decide (b < a)) ((SV.v (Value.int IntKind.i64 (0 : Int)) = SV.v (Value.int IntKind.i64 (1 : Int)) ∧ True) ∧ (SV.h (1 : Nat) [oe, (0 : Nat)] = SV.h (1 : Nat) [oe, (0 : Nat)] ∧ True) ∧ (oe = oe ∧ ep = ep ∧ l.set r.toNat (List.take a.toNat (l.getD r.toNat (LI [])) ++ (List.take (((IntKind.i64.wrap (b + (1 : Int))).toNat - a.toNat).min ((↑((Rws.i IntKind.i64 l).nAt r.toNat) : Int).toNat - a.toNat)) (movedL (List.take ((IntKind.i64.wrap (b + (1 : Int))).toNat - a.toNat) (List.drop a.toNat (l.getD r.toNat (LI [])))) (0 : Int) n x) ++ List.drop (a.toNat + ((IntKind.i64.wrap (b + (1 : Int))).toNat - a.toNat).min ((↑((Rws.i IntKind.i64 l).nAt r.toNat) : Int).toNat - a.toNat)) (l.getD r.toNat (LI [])))) = l) ∧ True) ((SV.v (Value.int IntKind.i64 (0 : Int)) = SV.v (Value.int IntKind.i64 (0 : Int)) ∧ True) ∧ (SV.h (1 : Nat) [oe, (0 : Nat)] = SV.h (1 : Nat) [oe, (0 : Nat)] ∧ True) ∧ (oe = oe ∧ ep = ep ∧ l.set r.toNat (List.take a.toNat (l.getD r.toNat (LI [])) ++ (List.take (((IntKind.i64.wrap (b + (1 : Int))).toNat - a.toNat).min ((↑((Rws.i IntKind.i64 l).nAt r.toNat) : Int).toNat - a.toNat)) (movedL (List.take ((IntKind.i64.wrap (b + (1 : Int))).toNat - a.toNat) (List.drop a.toNat (l.getD r.toNat (LI [])))) (0 : Int) n x) ++ List.drop (a.toNat + ((IntKind.i64.wrap (b + (1 : Int))).toNat - a.toNat).min ((↑((Rws.i IntKind.i64 l).nAt r.toNat) : Int).toNat - a.toNat)) (l.getD r.toNat (LI [])))) = slide2 l r a b n x) ∧ True)) ((SV.v (Value.int IntKind.i64 (0 : Int)) = SV.v (Value.int IntKind.i64 (11 : Int)) ∧ True) ∧ (SV.h (1 : Nat) [oe, (0 : Nat)] = SV.h (1 : Nat) [oe, (0 : Nat)] ∧ True) ∧ (oe = oe ∧ ep = ep ∧ l.set r.toNat (List.take a.toNat (l.getD r.toNat (LI [])) ++ (List.take (((IntKind.i64.wrap (b + (1 : Int))).toNat - a.toNat).min ((↑((Rws.i IntKind.i64 l).nAt r.toNat) : Int).toNat - a.toNat)) (movedL (List.take ((IntKind.i64.wrap (b + (1 : Int))).toNat - a.toNat) (List.drop a.toNat (l.getD r.toNat (LI [])))) (0 : Int) n x) ++ List.drop (a.toNat + ((IntKind.i64.wrap (b + (1 : Int))).toNat - a.toNat).min ((↑((Rws.i IntKind.i64 l).nAt r.toNat) : Int).toNat - a.toNat)) (l.getD r.toNat (LI [])))) = l) ∧ True)))))))))) (br (inB l r a && inB l r b) (br (decide (b < a)) ((SV.v (Value.int IntKind.i64 (11 : Int)) = SV.v (Value.int IntKind.i64 (1 : Int)) ∧ True) ∧ (SV.h (1 : Nat) [oe, (0 : Nat)] = SV.h (1 : Nat) [oe, (0 : Nat)] ∧ True) ∧ (oe = oe ∧ ep = ep ∧ l = l) ∧ True) ((SV.v (Value.int IntKind.i64 (11 : Int)) = SV.v (Value.int IntKind.i64 (0 : Int)) ∧ True) ∧ (SV.h (1 : Nat) [oe, (0 : Nat)] = SV.h (1 : Nat) [oe, (0 : Nat)] ∧ True) ∧ (oe = oe ∧ ep = ep ∧ l = slide2 l r a b n x) ∧ True)) ((SV.v (Value.int IntKind.i64 (11 : Int)) = SV.v (Value.int IntKind.i64 (11 : Int)) ∧ True) ∧ (SV.h (1 : Nat) [oe, (0 : Nat)] = SV.h (1 : Nat) [oe, (0 : Nat)] ∧ True) ∧ (oe = oe ∧ ep = ep ∧ l = l) ∧ True)))) (by kernel_rfl) ?_
  refine ⟨rfl, ⟨rfl, hg⟩, ?_⟩
  clear hp hφ
  have hg1 := hg.r1
  have hg2 := hg.c1
  cases h : inB l r a <;> cases h' : inB l r b
  · simp only [br_iff, Bool.and_self, Bool.false_eq_true, false_implies, true_implies, true_and, and_true]
  · simp only [br_iff, Bool.false_and, Bool.false_eq_true, false_implies, true_implies, true_and, and_true]
  · simp only [br_iff, Bool.and_false, Bool.false_eq_true, false_implies, true_implies, true_and, and_true]
  rw [inB_iff] at h h'
  by_cases hba : b < a
  · simp only [br_iff, rq_iff, hba, decide_true, Bool.and_self, Bool.true_eq_false, false_implies, true_implies, true_and, and_true]
  have hr : r.toNat < l.length := by omega
  have hrow := hg.row hr
  have b1 : Nat.blt r.toNat (Rws.i IntKind.i64 l).len = true := by rw [Nat.blt_eq]; exact hr
  have e1 : (Rws.i IntKind.i64 l).nAt r.toNat = nC l := hrow
  have e2 : Nat.beq (Rws.i IntKind.i64 l).sz 1 = true := rfl
  have e3 : (Rws.i IntKind.i64 l).sz = 1 := rfl
  have e4 : ((Rws.i IntKind.i64 l).len : Int) = l.length := rfl
  have ew : IntKind.i64.wrap (b + 1) = b + 1 := wrap64 (by omega) (by omega)
  simp only [LI, II, br_iff, rq_iff, nbeq, hba, b1, e1, e2, e3, e4, ew, hrow, decide_false, Bool.and_self, Bool.true_eq_false, Bool.false_eq_true, false_implies, true_implies, true_and, and_true, Bool.true_and, Bool.and_true, Bool.and_eq_true, Nat.ble_eq, Nat.blt_eq, decide_eq_true_eq, szN_ints]
  have e5 : szN ((Rws.i IntKind.i64 l).at r.toNat) 1 = true := rfl
  have e7 : (b + 1).toNat - a.toNat = b.toNat + 1 - a.toNat := by omega
  have e6 : Nat.min (b.toNat + 1 - a.toNat) (Int.toNat (nC l : Int) - a.toNat) = b.toNat + 1 - a.toNat := by
    show min (b.toNat + 1 - a.toNat) (Int.toNat (nC l : Int) - a.toNat) = _
    omega
  simp only [e5, e7]
  refine ⟨by omega, by omega, by omega, by omega, ⟨hr, by omega, by omega, by omega⟩, ⟨trivial, by omega, by omega⟩, ?_⟩
  rw [e6, List.take_of_length_le (l := movedL _ _ _ _) (by rw [movedL_length, List.length_take]; omega)]
  rfl
set_option maxHeartbeats 4000000 in
theorem ok_slide0 : ∀ I : Sym.Inv Unit, LCOk I Try.prog 23 lcSlide0 := by
  refine lc_mk (fun _ => allCfg Try.prog [] tabB 3) (fun _ _ => allCfg_ok mixed trivial tabB_ok) (fun _ => rfl) (n := 80) Try.func23 ?_
  intro ⟨⟨_, r, a, b, n, x⟩, _⟩ hφ
  refine kcast (B := (true = true ∧ (SV.v (Value.int IntKind.i64 (2 : Int)) = SV.v (Value.int IntKind.i64 (2 : Int)) ∧ True) ∧ True)) (by kernel_rfl) ?_
  exact ⟨rfl, ⟨rfl, trivial⟩, trivial⟩
def lcSlide : ACon Unit := lcOr lcSlide1 lcSlide0
theorem ok_slide : ∀ I : Sym.Inv Unit, LCOk I Try.prog 23 lcSlide := lcOr_ok ok_slide1 ok_slide0
def tabC2 : List (Nat × ACon Unit) := (23, lcSlide) :: tabC
theorem tabC2_ok : LCs Try.prog tabC2 := ⟨ok_slide, tabC_ok⟩

end Go.Proofs.Ytpdhnmnjccnbmaa
