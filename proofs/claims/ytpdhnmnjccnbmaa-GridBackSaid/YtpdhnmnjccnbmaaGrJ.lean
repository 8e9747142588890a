/- Layer 1: whether two grids are the same. -/
import Derived.Test.YtpdhnmnjccnbmaaGrI
set_option linter.unusedSimpArgs false
set_option linter.unusedVariables false
set_option linter.unusedSectionVars false
namespace Go.Sym
open Go
/-- A function as a value. -/
def shFn (g : Nat) : Sh Unit where
  enc _ := .v (.func (.func g) #[] #[])
  dec x := match x with
    | .v y => match y with
      | .func fn a c => match fn with
        | .func g' => match Nat.beq g' g && (Nat.beq a.size 0 && Nat.beq c.size 0) with
          | true => some ()
          | false => none
        | _ => none
      | _ => none
    | _ => none
  ok x a h := by
    split at h
    · split at h
      · split at h
        · split at h
          · rename_i hc
            simp only [Bool.and_eq_true, Nat.beq_eq, Array.size_eq_zero_iff] at hc
            obtain ⟨rfl, rfl, rfl⟩ := hc
            rfl
          · cases h
        · cases h
      · cases h
    · cases h
/-- One of the rows: the epoch, and which. -/
def shRw (b : Nat) : Sh (Nat × Nat) where
  enc a := .h b [a.1, 1, a.2]
  dec x := match x with
    | .h b' q => match Nat.beq b' b with
      | true => match q with
        | [ep, o, i] => match o with
          | 1 => some (ep, i)
          | _ => none
        | _ => none
      | false => none
    | _ => none
  ok x a h := by
    split at h
    · split at h
      · rename_i hT
        rw [Nat.beq_eq] at hT
        subst hT
        split at h
        · split at h
          · simp only [Option.some.injEq] at h; subst h; rfl
          · cases h
        · cases h
      · cases h
    · cases h
end Go.Sym
namespace Go.Proofs.Ytpdhnmnjccnbmaa
open Go Go.Sym

theorem neI_no {x y : Int} : (x != y) = false ↔ x = y := by simp
abbrev neI (x y : Int) : Bool := x != y
/-! ### Rows that are the same -/
def eqL (a b : List Int) : Bool := decide (a.length = b.length) && (List.range a.length).all fun j => !neI (a.getD j 0) (b.getD j 0)
theorem eqL_iff {a b : List Int} : eqL a b = true ↔ a = b := by
  unfold eqL
  rw [Bool.and_eq_true, decide_eq_true_eq, List.all_eq_true]
  constructor
  · intro ⟨h1, h2⟩
    apply List.ext_getElem h1
    intro i h3 h4
    have := h2 i (List.mem_range.2 h3)
    rw [Bool.not_eq_true', neI_no, List.getD, List.getD, List.getElem?_eq_getElem h3, List.getElem?_eq_getElem h4] at this
    exact this
  · rintro rfl
    exact ⟨rfl, fun j _ => by simp⟩
def annEq (a b : List Int) : Ann Unit where
  α := Int
  φ _ k := 0 ≤ k ∧ k ≤ a.length ∧ ∀ j : Nat, j < k.toNat → a.getD j 0 = b.getD j 0
  μ _ k := ((a.length : Int) - k).toNat
  get st := getI st.tm 13
  f st k := tmpl [0, 1, 12] [(13, .v (.int .i64 k))] [] st
abbrev sh2R : ShH (RI × RI) := shHCons (shRowsI .i64 3 63) (shHOne (shRowsI .i64 3 63))
def rw2 (l m : List (List Int)) (oe ep oe2 ep2 : Nat) : List (SB Unit) := [.rows (.i .i64 l) 3 63 oe ep none, .rows (.i .i64 m) 3 63 oe2 ep2 none]
def lcEqual : ACon Unit := mkLC (decP (shCons (shRw 0) (shOne (shRw 1))) sh2R) fun (((ep, i), (ep2, j)), (⟨l, oe, e⟩, ⟨m, oe2, e2⟩)) => .ask (ep = e ∧ ep2 = e2 ∧ i < l.length ∧ j < m.length ∧ (l.getD i []).length ≤ 255 ∧ (m.getD j []).length ≤ 255)
  (.one (.v (.bool (eqL (l.getD i []) (m.getD j [])))) (rw2 l m oe ep oe2 ep2) [])
set_option maxHeartbeats 4000000 in
theorem ok_equal : ∀ I : Sym.Inv Unit, LCOk I Try.prog 49 lcEqual := by
  refine lc_mk (fun (((ep, i), (ep2, j)), (⟨l, oe, e⟩, ⟨m, oe2, e2⟩)) => allCfg Try.prog [] tabD 3 [(321, annEq (l.getD i []) (m.getD j []))]) (fun _ _ => allCfg_ok mixed trivial tabD_ok) (fun _ => rfl) (n := 80) Try.func49 ?_
  intro ⟨⟨⟨ep, i⟩, ep2, j⟩, ⟨l, oe, e⟩, ⟨m, oe2, e2⟩⟩ hφ
  obtain ⟨⟨rfl, rfl, h1, h2, h3, h4⟩, hp⟩ := id hφ
  refine kcast (B := (rq (ep.beq ep && i.blt (Rws.i IntKind.i64 l).len) (rq (ep2.beq ep2 && j.blt (Rws.i IntKind.i64 m).len) (br ((↑((Rws.i IntKind.i64 l).nAt i) : Int) != (↑((Rws.i IntKind.i64 m).nAt j) : Int)) ((SV.v (Value.bool false) = SV.v (Value.bool (eqL (l.getD i (LI [])) (m.getD j (LI [])))) ∧ True) ∧ (oe = oe ∧ ep = ep ∧ l = l) ∧ (oe2 = oe2 ∧ ep2 = ep2 ∧ m = m) ∧ True) (rq (ep.beq ep && i.blt (Rws.i IntKind.i64 l).len) ((II (0 : Int) ≤ (0 : Int) ∧ (0 : Int) ≤ (↑(l.getD i (LI [])).length : Int) ∧ ∀ (j_1 : Nat), j_1 < (0 : Nat) → (l.getD i (LI [])).getD j_1 (0 : Int) = (m.getD j (LI [])).getD j_1 (0 : Int)) ∧ ((SV.h (0 : Nat) [ep, (1 : Nat), i] = SV.h (0 : Nat) [ep, (1 : Nat), i] ∧ SV.h (1 : Nat) [ep2, (1 : Nat), j] = SV.h (1 : Nat) [ep2, (1 : Nat), j] ∧ SV.v (Value.int IntKind.i64 (↑((Rws.i IntKind.i64 l).nAt i) : Int)) = SV.v (Value.int IntKind.i64 (↑((Rws.i IntKind.i64 l).nAt i) : Int)) ∧ SV.v (Value.int IntKind.i64 (0 : Int)) = SV.v (Value.int IntKind.i64 (0 : Int)) ∧ True) ∧ (oe = oe ∧ ep = ep ∧ l = l) ∧ (oe2 = oe2 ∧ ep2 = ep2 ∧ m = m) ∧ True) ∧ ∀ (x : Int), ((0 : Int) ≤ x ∧ x ≤ (↑(l.getD i (LI [])).length : Int) ∧ ∀ (j_1 : Nat), j_1 < x.toNat → (l.getD i (LI [])).getD j_1 (0 : Int) = (m.getD j (LI [])).getD j_1 (0 : Int)) → br (decide (x < (↑((Rws.i IntKind.i64 l).nAt i) : Int))) (rq (ep.beq ep && i.blt (Rws.i IntKind.i64 l).len && ((Rws.i IntKind.i64 l).sz.beq (1 : Nat) && decide ((0 : Int) ≤ x ∧ x < (↑((Rws.i IntKind.i64 l).nAt i) : Int)))) (rq (ep.beq ep && i.blt (Rws.i IntKind.i64 l).len && x.toNat.blt (l.getD i (LI [])).length) (rq (ep2.beq ep2 && j.blt (Rws.i IntKind.i64 m).len && ((Rws.i IntKind.i64 m).sz.beq (1 : Nat) && decide ((0 : Int) ≤ x ∧ x < (↑((Rws.i IntKind.i64 m).nAt j) : Int)))) (rq (ep2.beq ep2 && j.blt (Rws.i IntKind.i64 m).len && x.toNat.blt (m.getD j (LI [])).length) (br ((l.getD i (LI [])).getD x.toNat (0 : Int) != (m.getD j (LI [])).getD x.toNat (0 : Int)) ((SV.v (Value.bool false) = SV.v (Value.bool (eqL (l.getD i (LI [])) (m.getD j (LI [])))) ∧ True) ∧ (oe = oe ∧ ep = ep ∧ l = l) ∧ (oe2 = oe2 ∧ ep2 = ep2 ∧ m = m) ∧ True) (((0 : Int) ≤ IntKind.i64.wrap (x + (1 : Int)) ∧ IntKind.i64.wrap (x + (1 : Int)) ≤ (↑(l.getD i (LI [])).length : Int) ∧ ∀ (j_1 : Nat), j_1 < (IntKind.i64.wrap (x + (1 : Int))).toNat → (l.getD i (LI [])).getD j_1 (0 : Int) = (m.getD j (LI [])).getD j_1 (0 : Int)) ∧ ((SV.h (0 : Nat) [ep, (1 : Nat), i] = SV.h (0 : Nat) [ep, (1 : Nat), i] ∧ SV.h (1 : Nat) [ep2, (1 : Nat), j] = SV.h (1 : Nat) [ep2, (1 : Nat), j] ∧ SV.v (Value.int IntKind.i64 (↑((Rws.i IntKind.i64 l).nAt i) : Int)) = SV.v (Value.int IntKind.i64 (↑((Rws.i IntKind.i64 l).nAt i) : Int)) ∧ SV.v (Value.int IntKind.i64 (IntKind.i64.wrap (x + (1 : Int)))) = SV.v (Value.int IntKind.i64 (IntKind.i64.wrap (x + (1 : Int)))) ∧ True) ∧ (oe = oe ∧ ep = ep ∧ l = l) ∧ (oe2 = oe2 ∧ ep2 = ep2 ∧ m = m) ∧ True) ∧ ((↑(l.getD i (LI [])).length : Int) - IntKind.i64.wrap (x + (1 : Int))).toNat < ((↑(l.getD i (LI [])).length : Int) - x).toNat)))))) ((SV.v (Value.bool true) = SV.v (Value.bool (eqL (l.getD i (LI [])) (m.getD j (LI [])))) ∧ True) ∧ (oe = oe ∧ ep = ep ∧ l = l) ∧ (oe2 = oe2 ∧ ep2 = ep2 ∧ m = m) ∧ True))))))) (by kernel_rfl) ?_
  clear hp hφ
  simp only [LI, II, nbeq, rq_iff, br_iff, Bool.and_eq_true, decide_eq_true_eq, decide_eq_false_iff_not]
  simp only [eLen, eNat, eSz, nbeq, Bool.true_and, Bool.and_true, true_and, and_true, Bool.and_eq_true, Nat.ble_eq, Nat.blt_eq, bne_iff_ne, bne_eq_false_iff_eq, ne_eq, SV.v.injEq, Value.bool.injEq]
  generalize l.getD i [] = a at *
  generalize m.getD j [] = b at *
  refine ⟨h1, h2, fun hne => ?_, fun he => ⟨h1, ⟨by omega, by omega, fun j hj => by omega⟩, fun x ⟨x0, x1, hx⟩ => ⟨fun hlt => ?_, fun hge => ?_⟩⟩⟩
  · exact (Bool.eq_false_iff.2 fun h => hne (by rw [eqL_iff.1 h])).symm
  · have hl : a.length = b.length := by omega
    refine ⟨⟨h1, by omega⟩, ⟨h1, by omega⟩, ⟨h2, by omega⟩, ⟨h2, by omega⟩, fun hne => ?_, fun he => ?_⟩
    · exact (Bool.eq_false_iff.2 fun h => hne (by rw [eqL_iff.1 h])).symm
    · rw [wrap64 (x := x + 1) (by omega) (by omega)]
      refine ⟨⟨by omega, by omega, fun j hj => ?_⟩, by omega⟩
      rcases Nat.lt_or_ge j x.toNat with h | h
      · exact hx j h
      · obtain rfl : j = x.toNat := by omega
        exact he
  · refine (eqL_iff.2 (List.ext_getElem (by omega) fun j g1 g2 => ?_)).symm
    have := hx j (by omega)
    rw [List.getD, List.getD, List.getElem?_eq_getElem g1, List.getElem?_eq_getElem g2] at this
    exact this
def annEf (l m : List (List Int)) : Ann Unit where
  α := Int
  φ _ k := 0 ≤ k ∧ k ≤ l.length ∧ ∀ j : Nat, j < k.toNat → l.getD j [] = m.getD j []
  μ _ k := ((l.length : Int) - k).toNat
  get st := getI st.tm 17
  f st k := tmpl [0, 1, 2, 15, 16] [(17, .v (.int .i64 k))] [] st
def eqG (l m : List (List Int)) : Bool := decide (l.length = m.length) && (List.range l.length).all fun j => eqL (l.getD j []) (m.getD j [])
theorem eqG_iff {a b : List (List Int)} : eqG a b = true ↔ a = b := by
  unfold eqG
  rw [Bool.and_eq_true, decide_eq_true_eq, List.all_eq_true]
  constructor
  · intro ⟨h1, h2⟩
    apply List.ext_getElem h1
    intro i h3 h4
    have := h2 i (List.mem_range.2 h3)
    rw [eqL_iff, List.getD, List.getD, List.getElem?_eq_getElem h3, List.getElem?_eq_getElem h4] at this
    exact this
  · rintro rfl
    exact ⟨rfl, fun j _ => eqL_iff.2 rfl⟩
def tabEq : List (Nat × ACon Unit) := (49, lcEqual) :: tabD
theorem tabEq_ok : LCs Try.prog tabEq := ⟨ok_equal, tabD_ok⟩
/-- A slice of an item's outer row. -/
def lcEqF : ACon Unit := mkLC (decP (shCons (shO 0) (shCons (shO 1) (shOne (shFn 49)))) sh2R) fun ((a, b, _), (⟨l, oe, e⟩, ⟨m, oe2, e2⟩)) => .ask (a = oe ∧ b = oe2 ∧ GW l ∧ GW m)
  (.one (.v (.bool (eqG l m))) (rw2 l m oe e oe2 e2) [])
set_option maxHeartbeats 4000000 in
theorem ok_eqF : ∀ I : Sym.Inv Unit, LCOk I Try.prog 48 lcEqF := by
  refine lc_mk (fun (_, (⟨l, oe, e⟩, ⟨m, oe2, e2⟩)) => allCfg Try.prog [] tabEq 3 [(321, annEf l m)]) (fun _ _ => allCfg_ok mixed trivial tabEq_ok) (fun _ => rfl) (n := 80) Try.func48 ?_
  intro ⟨⟨a, b, _⟩, ⟨l, oe, e⟩, ⟨m, oe2, e2⟩⟩ hφ
  obtain ⟨⟨rfl, rfl, hg, hm⟩, hp⟩ := id hφ
  refine kcast (B := (rq (a.beq a) (rq (b.beq b) (br ((↑(Rws.i IntKind.i64 l).len : Int) != (↑(Rws.i IntKind.i64 m).len : Int)) ((SV.v (Value.bool false) = SV.v (Value.bool (eqG l m)) ∧ True) ∧ (a = a ∧ e = e ∧ l = l) ∧ (b = b ∧ e2 = e2 ∧ m = m) ∧ True) (rq (a.beq a) ((II (0 : Int) ≤ (0 : Int) ∧ (0 : Int) ≤ (↑l.length : Int) ∧ ∀ (j : Nat), j < (0 : Nat) → l.getD j (LI []) = m.getD j (LI [])) ∧ ((SV.h (0 : Nat) [a, (0 : Nat)] = SV.h (0 : Nat) [a, (0 : Nat)] ∧ SV.h (1 : Nat) [b, (0 : Nat)] = SV.h (1 : Nat) [b, (0 : Nat)] ∧ SV.v (Value.func (Fn.func (49 : Nat)) #[] #[]) = SV.v (Value.func (Fn.func (49 : Nat)) #[] #[]) ∧ SV.h (0 : Nat) [a, (0 : Nat)] = SV.h (0 : Nat) [a, (0 : Nat)] ∧ SV.v (Value.int IntKind.i64 (↑(Rws.i IntKind.i64 l).len : Int)) = SV.v (Value.int IntKind.i64 (↑(Rws.i IntKind.i64 l).len : Int)) ∧ SV.v (Value.int IntKind.i64 (0 : Int)) = SV.v (Value.int IntKind.i64 (0 : Int)) ∧ True) ∧ (a = a ∧ e = e ∧ l = l) ∧ (b = b ∧ e2 = e2 ∧ m = m) ∧ True) ∧ ∀ (x : Int), ((0 : Int) ≤ x ∧ x ≤ (↑l.length : Int) ∧ ∀ (j : Nat), j < x.toNat → l.getD j (LI []) = m.getD j (LI [])) → br (decide (x < (↑(Rws.i IntKind.i64 l).len : Int))) (rq (a.beq a && (Nat.beq (1 : Nat) (1 : Nat) && decide ((0 : Int) ≤ x ∧ x < (↑(Rws.i IntKind.i64 l).len : Int)))) (rq (a.beq a && x.toNat.blt (Rws.i IntKind.i64 l).len) (rq (b.beq b && (Nat.beq (1 : Nat) (1 : Nat) && decide ((0 : Int) ≤ x ∧ x < (↑(Rws.i IntKind.i64 m).len : Int)))) (rq (b.beq b && x.toNat.blt (Rws.i IntKind.i64 m).len) (true = true ∧ (e = e ∧ e2 = e2 ∧ x.toNat < l.length ∧ x.toNat < m.length ∧ (l.getD x.toNat (LI [])).length ≤ (255 : Nat) ∧ (m.getD x.toNat (LI [])).length ≤ (255 : Nat)) ∧ br (!eqL (l.getD x.toNat (LI [])) (m.getD x.toNat (LI []))) ((SV.v (Value.bool false) = SV.v (Value.bool (eqG l m)) ∧ True) ∧ (a = a ∧ e = e ∧ l = l) ∧ (b = b ∧ e2 = e2 ∧ m = m) ∧ True) (((0 : Int) ≤ IntKind.i64.wrap (x + (1 : Int)) ∧ IntKind.i64.wrap (x + (1 : Int)) ≤ (↑l.length : Int) ∧ ∀ (j : Nat), j < (IntKind.i64.wrap (x + (1 : Int))).toNat → l.getD j (LI []) = m.getD j (LI [])) ∧ ((SV.h (0 : Nat) [a, (0 : Nat)] = SV.h (0 : Nat) [a, (0 : Nat)] ∧ SV.h (1 : Nat) [b, (0 : Nat)] = SV.h (1 : Nat) [b, (0 : Nat)] ∧ SV.v (Value.func (Fn.func (49 : Nat)) #[] #[]) = SV.v (Value.func (Fn.func (49 : Nat)) #[] #[]) ∧ SV.h (0 : Nat) [a, (0 : Nat)] = SV.h (0 : Nat) [a, (0 : Nat)] ∧ SV.v (Value.int IntKind.i64 (↑(Rws.i IntKind.i64 l).len : Int)) = SV.v (Value.int IntKind.i64 (↑(Rws.i IntKind.i64 l).len : Int)) ∧ SV.v (Value.int IntKind.i64 (IntKind.i64.wrap (x + (1 : Int)))) = SV.v (Value.int IntKind.i64 (IntKind.i64.wrap (x + (1 : Int)))) ∧ True) ∧ (a = a ∧ e = e ∧ l = l) ∧ (b = b ∧ e2 = e2 ∧ m = m) ∧ True) ∧ ((↑l.length : Int) - IntKind.i64.wrap (x + (1 : Int))).toNat < ((↑l.length : Int) - x).toNat)))))) ((SV.v (Value.bool true) = SV.v (Value.bool (eqG l m)) ∧ True) ∧ (a = a ∧ e = e ∧ l = l) ∧ (b = b ∧ e2 = e2 ∧ m = m) ∧ True))))))) (by kernel_rfl) ?_
  clear hp hφ
  simp only [LI, II, nbeq, rq_iff, br_iff, Bool.and_eq_true, decide_eq_true_eq, decide_eq_false_iff_not]
  simp only [eLen, eNat, eSz, nbeq, Bool.true_and, Bool.and_true, true_and, and_true, Bool.and_eq_true, Bool.not_eq_true', Bool.not_eq_false', Nat.ble_eq, Nat.blt_eq, bne_iff_ne, bne_eq_false_iff_eq, ne_eq, SV.v.injEq, Value.bool.injEq]
  have hR := hg.r1
  have hR2 := hm.r1
  have hC := hg.c1
  have hC2 := hm.c1
  refine ⟨fun hne => ?_, fun he => ⟨⟨by omega, by omega, fun j hj => by omega⟩, fun x ⟨x0, x1, hx⟩ => ⟨fun hlt => ?_, fun hge => ?_⟩⟩⟩
  · exact (Bool.eq_false_iff.2 fun h => hne (by rw [eqG_iff.1 h])).symm
  · have r1 := hg.row (i := x.toNat) (by omega)
    have r2 := hm.row (i := x.toNat) (by omega)
    refine ⟨by omega, by omega, by omega, by omega, ⟨by omega, by omega, by omega, by omega⟩, fun hne => ?_, fun he => ?_⟩
    · exact (Bool.eq_false_iff.2 fun h => by rw [eqG_iff.1 h] at hne; rw [eqL_iff.2 rfl] at hne; cases hne).symm
    · rw [wrap64 (x := x + 1) (by omega) (by omega)]
      refine ⟨⟨by omega, by omega, fun j hj => ?_⟩, by omega⟩
      rcases Nat.lt_or_ge j x.toNat with h | h
      · exact hx j h
      · obtain rfl : j = x.toNat := by omega
        exact eqL_iff.1 he
  · refine (eqG_iff.2 (List.ext_getElem (by omega) fun j g1 g2 => ?_)).symm
    have := hx j (by omega)
    rw [List.getD, List.getD, List.getElem?_eq_getElem g1, List.getElem?_eq_getElem g2] at this
    exact this
def tabEf : List (Nat × ACon Unit) := (48, lcEqF) :: tabEq
theorem tabEf_ok : LCs Try.prog tabEf := ⟨ok_eqF, tabEq_ok⟩
def shGG : ShH (Nat × RI × Nat × RI) := shHCons (shCells (shOne (shO 1)) 75) (shHCons (shRowsI .i64 3 63) (shHCons (shCells (shOne (shO 3)) 75) (shHOne (shRowsI .i64 3 63))))
def lcGSame : ACon Unit := mkLC (decP (shCons (shP 0) (shOne (shP 2))) shGG) fun (_, (a, ⟨l, oe, e⟩, b, ⟨m, oe2, e2⟩)) => .ask (a = oe ∧ b = oe2 ∧ GW l ∧ GW m)
  (.one (.v (.bool (eqG l m))) (gbi 0 oe e l ++ gbi 2 oe2 e2 m) [])
set_option maxHeartbeats 4000000 in
theorem ok_gsame : ∀ I : Sym.Inv Unit, LCOk I Try.prog 30 lcGSame := by
  refine lc_mk (fun _ => allCfg Try.prog [] tabEf 3) (fun _ _ => allCfg_ok mixed trivial tabEf_ok) (fun _ => rfl) (n := 80) Try.func30 ?_
  intro ⟨_, a, ⟨l, oe, e⟩, b, ⟨m, oe2, e2⟩⟩ hφ
  obtain ⟨⟨rfl, rfl, hg, hm⟩, hp⟩ := id hφ
  refine kcast (B := (true = true ∧ (a = a ∧ b = b ∧ GW l ∧ GW m) ∧ (SV.v (Value.bool (eqG l m)) = SV.v (Value.bool (eqG l m)) ∧ True) ∧ (SV.h (1 : Nat) [a, (0 : Nat)] = SV.h (1 : Nat) [a, (0 : Nat)] ∧ True) ∧ (a = a ∧ e = e ∧ l = l) ∧ (SV.h (3 : Nat) [b, (0 : Nat)] = SV.h (3 : Nat) [b, (0 : Nat)] ∧ True) ∧ (b = b ∧ e2 = e2 ∧ m = m) ∧ True)) (by kernel_rfl) ?_
  clear hp hφ
  simp [hg, hm]
end Go.Proofs.Ytpdhnmnjccnbmaa
