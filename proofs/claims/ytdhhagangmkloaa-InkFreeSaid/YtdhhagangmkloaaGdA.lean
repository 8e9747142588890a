/- Contracts of layer 1: copies, and whether two grids are the same. -/
import Derived.Test.YtdhhagangmkloaaGcU
set_option linter.unusedSimpArgs false
set_option linter.unusedVariables false
set_option linter.unusedSectionVars false
namespace Go.Sym
open Go
/-- A function as a value. -/
def shFn (g : Nat) : Sh Unit where
  enc _ := .v (.func (.func g) #[] #[])
  dec x := match x with
    | .v y => match y with
      | .func fn a c => match fn with
        | .func g' => match Nat.beq g' g && (Nat.beq a.size 0 && Nat.beq c.size 0) with
          | true => some ()
          | false => none
        | _ => none
      | _ => none
    | _ => none
  ok x a h := by
    split at h
    · split at h
      · split at h
        · split at h
          · rename_i hc
            simp only [Bool.and_eq_true, Nat.beq_eq, Array.size_eq_zero_iff] at hc
            obtain ⟨rfl, rfl, rfl⟩ := hc
            rfl
          · cases h
        · cases h
      · cases h
    · cases h
/-- One of the rows: the epoch, and which. -/
def shRw (b : Nat) : Sh (Nat × Nat) where
  enc a := .h b [a.1, 1, a.2]
  dec x := match x with
    | .h b' q => match Nat.beq b' b with
      | true => match q with
        | [ep, o, i] => match o with
          | 1 => some (ep, i)
          | _ => none
        | _ => none
      | false => none
    | _ => none
  ok x a h := by
    split at h
    · split at h
      · rename_i hT
        rw [Nat.beq_eq] at hT
        subst hT
        split at h
        · split at h
          · simp only [Option.some.injEq] at h; subst h; rfl
          · cases h
        · cases h
      · cases h
    · cases h
end Go.Sym
namespace Go.Proofs.Ytdhhagangmkloaa
open Go Go.Sym

def lcCopy : ACon Unit := mkLC (decP (shOne (shP 0)) shG) fun (_, (oe, ⟨l, oe2, ep⟩)) => .ask (oe = oe2 ∧ GW l) (.one (.p 4 0) (gbi 0 oe ep l ++ [.gone, .rows (.c l) 38 92 0 (l.length * nC l + 1) none, .cells [.h 3 [0, 0]] 127]) [])
set_option maxHeartbeats 4000000 in
theorem ok_copy : ∀ I : Sym.Inv Unit, LCOk I Try.prog 40 lcCopy := by
  refine lc_mk (fun _ => allCfg Try.prog [] tabD 3) (fun _ _ => allCfg_ok mixed trivial tabD_ok) (fun _ => rfl) (n := 80) Try.func40 ?_
  intro ⟨_, oe, ⟨l, oe2, ep⟩⟩ hφ
  obtain ⟨⟨rfl, hg⟩, hp⟩ := id hφ
  refine kcast (B := (true = true ∧ (oe = oe ∧ GW l) ∧ (SV.p (4 : Nat) (0 : Nat) = SV.p (4 : Nat) (0 : Nat) ∧ True) ∧ (SV.h (1 : Nat) [oe, (0 : Nat)] = SV.h (1 : Nat) [oe, (0 : Nat)] ∧ True) ∧ (oe = oe ∧ ep = ep ∧ l = l) ∧ True ∧ ((0 : Nat) = (0 : Nat) ∧ l.length * nC l + (1 : Nat) = l.length * nC l + (1 : Nat) ∧ l = l) ∧ (SV.h (3 : Nat) [(0 : Nat), (0 : Nat)] = SV.h (3 : Nat) [(0 : Nat), (0 : Nat)] ∧ True) ∧ True)) (by kernel_rfl) ?_
  simp [hg]

/-! ### Rows that are the same -/
theorem neC_def (x y : C4) : (!(x.g == y.g && (x.a == y.a && (x.gd == y.gd && (x.m == y.m && true))))) = neC x y := rfl
def eqL (a b : List C4) : Bool := decide (a.length = b.length) && (List.range a.length).all fun j => !neC (a.getD j C4.no) (b.getD j C4.no)
theorem eqL_iff {a b : List C4} : eqL a b = true ↔ a = b := by
  unfold eqL
  rw [Bool.and_eq_true, decide_eq_true_eq, List.all_eq_true]
  constructor
  · intro ⟨h1, h2⟩
    apply List.ext_getElem h1
    intro i h3 h4
    have := h2 i (List.mem_range.2 h3)
    rw [Bool.not_eq_true', neC_no, List.getD, List.getD, List.getElem?_eq_getElem h3, List.getElem?_eq_getElem h4] at this
    exact this
  · rintro rfl
    exact ⟨rfl, fun j _ => by rw [neC_no.2 rfl]; rfl⟩
def annEq (a b : List C4) : Ann Unit where
  α := Int
  φ _ k := 0 ≤ k ∧ k ≤ a.length ∧ ∀ j : Nat, j < k.toNat → a.getD j C4.no = b.getD j C4.no
  μ _ k := ((a.length : Int) - k).toNat
  get st := getI st.tm 13
  f st k := tmpl [0, 1, 12] [(13, .v (.int .i64 k))] [] st
abbrev sh2R : ShH (RC × RC) := shHCons (shRowsC 38 92) (shHOne (shRowsC 38 92))
def rw2 (l m : List (List C4)) (oe ep oe2 ep2 : Nat) : List (SB Unit) := [.rows (.c l) 38 92 oe ep none, .rows (.c m) 38 92 oe2 ep2 none]
def lcEqual : ACon Unit := mkLC (decP (shCons (shRw 0) (shOne (shRw 1))) sh2R) fun (((ep, i), (ep2, j)), (⟨l, oe, e⟩, ⟨m, oe2, e2⟩)) => .ask (ep = e ∧ ep2 = e2 ∧ i < l.length ∧ j < m.length ∧ (l.getD i []).length ≤ 255 ∧ (m.getD j []).length ≤ 255)
  (.one (.v (.bool (eqL (l.getD i []) (m.getD j [])))) (rw2 l m oe ep oe2 ep2) [])
set_option maxHeartbeats 4000000 in
theorem ok_equal : ∀ I : Sym.Inv Unit, LCOk I Try.prog 88 lcEqual := by
  refine lc_mk (fun (((ep, i), (ep2, j)), (⟨l, oe, e⟩, ⟨m, oe2, e2⟩)) => allCfg Try.prog [] tabD 3 [(321, annEq (l.getD i []) (m.getD j []))]) (fun _ _ => allCfg_ok mixed trivial tabD_ok) (fun _ => rfl) (n := 80) Try.func88 ?_
  intro ⟨⟨⟨ep, i⟩, ep2, j⟩, ⟨l, oe, e⟩, ⟨m, oe2, e2⟩⟩ hφ
  obtain ⟨⟨rfl, rfl, h1, h2, h3, h4⟩, hp⟩ := id hφ
  refine kcast (B := (rq (ep.beq ep && i.blt (Rws.c l).len) (rq (ep2.beq ep2 && j.blt (Rws.c m).len) (br ((↑((Rws.c l).nAt i) : Int) != (↑((Rws.c m).nAt j) : Int)) ((SV.v (Value.bool false) = SV.v (Value.bool (eqL (l.getD i []) (m.getD j []))) ∧ True) ∧ (oe = oe ∧ ep = ep ∧ l = l) ∧ (oe2 = oe2 ∧ ep2 = ep2 ∧ m = m) ∧ True) (rq (ep.beq ep && i.blt (Rws.c l).len) ((II (0 : Int) ≤ (0 : Int) ∧ (0 : Int) ≤ (↑(l.getD i []).length : Int) ∧ ∀ (j_1 : Nat), j_1 < (0 : Nat) → (l.getD i []).getD j_1 C4.no = (m.getD j []).getD j_1 C4.no) ∧ ((SV.h (0 : Nat) [ep, (1 : Nat), i] = SV.h (0 : Nat) [ep, (1 : Nat), i] ∧ SV.h (1 : Nat) [ep2, (1 : Nat), j] = SV.h (1 : Nat) [ep2, (1 : Nat), j] ∧ SV.v (Value.int IntKind.i64 (↑((Rws.c l).nAt i) : Int)) = SV.v (Value.int IntKind.i64 (↑((Rws.c l).nAt i) : Int)) ∧ SV.v (Value.int IntKind.i64 (0 : Int)) = SV.v (Value.int IntKind.i64 (0 : Int)) ∧ True) ∧ (oe = oe ∧ ep = ep ∧ l = l) ∧ (oe2 = oe2 ∧ ep2 = ep2 ∧ m = m) ∧ True) ∧ ∀ (x : Int), ((0 : Int) ≤ x ∧ x ≤ (↑(l.getD i []).length : Int) ∧ ∀ (j_1 : Nat), j_1 < x.toNat → (l.getD i []).getD j_1 C4.no = (m.getD j []).getD j_1 C4.no) → br (decide (x < (↑((Rws.c l).nAt i) : Int))) (rq (ep.beq ep && i.blt (Rws.c l).len && ((Rws.c l).sz.beq (4 : Nat) && decide ((0 : Int) ≤ x ∧ x < (↑((Rws.c l).nAt i) : Int)))) (rq (ep.beq ep && i.blt (Rws.c l).len && x.toNat.blt (l.getD i []).length) (rq (ep2.beq ep2 && j.blt (Rws.c m).len && ((Rws.c m).sz.beq (4 : Nat) && decide ((0 : Int) ≤ x ∧ x < (↑((Rws.c m).nAt j) : Int)))) (rq (ep2.beq ep2 && j.blt (Rws.c m).len && x.toNat.blt (m.getD j []).length) (br (!(((l.getD i []).getD x.toNat C4.no).g == ((m.getD j []).getD x.toNat C4.no).g && (((l.getD i []).getD x.toNat C4.no).a == ((m.getD j []).getD x.toNat C4.no).a && (((l.getD i []).getD x.toNat C4.no).gd == ((m.getD j []).getD x.toNat C4.no).gd && (((l.getD i []).getD x.toNat C4.no).m == ((m.getD j []).getD x.toNat C4.no).m && true))))) ((SV.v (Value.bool false) = SV.v (Value.bool (eqL (l.getD i []) (m.getD j []))) ∧ True) ∧ (oe = oe ∧ ep = ep ∧ l = l) ∧ (oe2 = oe2 ∧ ep2 = ep2 ∧ m = m) ∧ True) (((0 : Int) ≤ IntKind.i64.wrap (x + (1 : Int)) ∧ IntKind.i64.wrap (x + (1 : Int)) ≤ (↑(l.getD i []).length : Int) ∧ ∀ (j_1 : Nat), j_1 < (IntKind.i64.wrap (x + (1 : Int))).toNat → (l.getD i []).getD j_1 C4.no = (m.getD j []).getD j_1 C4.no) ∧ ((SV.h (0 : Nat) [ep, (1 : Nat), i] = SV.h (0 : Nat) [ep, (1 : Nat), i] ∧ SV.h (1 : Nat) [ep2, (1 : Nat), j] = SV.h (1 : Nat) [ep2, (1 : Nat), j] ∧ SV.v (Value.int IntKind.i64 (↑((Rws.c l).nAt i) : Int)) = SV.v (Value.int IntKind.i64 (↑((Rws.c l).nAt i) : Int)) ∧ SV.v (Value.int IntKind.i64 (IntKind.i64.wrap (x + (1 : Int)))) = SV.v (Value.int IntKind.i64 (IntKind.i64.wrap (x + (1 : Int)))) ∧ True) ∧ (oe = oe ∧ ep = ep ∧ l = l) ∧ (oe2 = oe2 ∧ ep2 = ep2 ∧ m = m) ∧ True) ∧ ((↑(l.getD i []).length : Int) - IntKind.i64.wrap (x + (1 : Int))).toNat < ((↑(l.getD i []).length : Int) - x).toNat)))))) ((SV.v (Value.bool true) = SV.v (Value.bool (eqL (l.getD i []) (m.getD j []))) ∧ True) ∧ (oe = oe ∧ ep = ep ∧ l = l) ∧ (oe2 = oe2 ∧ ep2 = ep2 ∧ m = m) ∧ True))))))) (by kernel_rfl) ?_
  clear hp hφ
  simp only [neC_def]
  simp only [II, nbeq, rq_iff, br_iff, Bool.and_eq_true, decide_eq_true_eq, decide_eq_false_iff_not]
  simp only [eLen, eNat, eSz, nbeq, Bool.true_and, Bool.and_true, true_and, and_true, Bool.and_eq_true, Nat.ble_eq, Nat.blt_eq, bne_iff_ne, bne_eq_false_iff_eq, ne_eq, SV.v.injEq, Value.bool.injEq, neC_iff, neC_no]
  generalize l.getD i [] = a at *
  generalize m.getD j [] = b at *
  refine ⟨h1, h2, fun hne => ?_, fun he => ⟨h1, ⟨by omega, by omega, fun j hj => by omega⟩, fun x ⟨x0, x1, hx⟩ => ⟨fun hlt => ?_, fun hge => ?_⟩⟩⟩
  · exact (Bool.eq_false_iff.2 fun h => hne (by rw [eqL_iff.1 h])).symm
  · have hl : a.length = b.length := by omega
    refine ⟨⟨h1, by omega⟩, ⟨h1, by omega⟩, ⟨h2, by omega⟩, ⟨h2, by omega⟩, fun hne => ?_, fun he => ?_⟩
    · exact (Bool.eq_false_iff.2 fun h => hne (by rw [eqL_iff.1 h])).symm
    · rw [wrap64 (x := x + 1) (by omega) (by omega)]
      refine ⟨⟨by omega, by omega, fun j hj => ?_⟩, by omega⟩
      rcases Nat.lt_or_ge j x.toNat with h | h
      · exact hx j h
      · obtain rfl : j = x.toNat := by omega
        exact he
  · refine (eqL_iff.2 (List.ext_getElem (by omega) fun j g1 g2 => ?_)).symm
    have := hx j (by omega)
    rw [List.getD, List.getD, List.getElem?_eq_getElem g1, List.getElem?_eq_getElem g2] at this
    exact this
def annEf (l m : List (List C4)) : Ann Unit where
  α := Int
  φ _ k := 0 ≤ k ∧ k ≤ l.length ∧ ∀ j : Nat, j < k.toNat → l.getD j [] = m.getD j []
  μ _ k := ((l.length : Int) - k).toNat
  get st := getI st.tm 17
  f st k := tmpl [0, 1, 2, 15, 16] [(17, .v (.int .i64 k))] [] st
def eqG (l m : List (List C4)) : Bool := decide (l.length = m.length) && (List.range l.length).all fun j => eqL (l.getD j []) (m.getD j [])
theorem eqG_iff {a b : List (List C4)} : eqG a b = true ↔ a = b := by
  unfold eqG
  rw [Bool.and_eq_true, decide_eq_true_eq, List.all_eq_true]
  constructor
  · intro ⟨h1, h2⟩
    apply List.ext_getElem h1
    intro i h3 h4
    have := h2 i (List.mem_range.2 h3)
    rw [eqL_iff, List.getD, List.getD, List.getElem?_eq_getElem h3, List.getElem?_eq_getElem h4] at this
    exact this
  · rintro rfl
    exact ⟨rfl, fun j _ => eqL_iff.2 rfl⟩
def tabEq : List (Nat × ACon Unit) := (88, lcEqual) :: tabD
theorem tabEq_ok : LCs Try.prog tabEq := ⟨ok_equal, tabD_ok⟩
/-- A slice of an item's outer row. -/
def lcEqF : ACon Unit := mkLC (decP (shCons (shO 0) (shCons (shO 1) (shOne (shFn 88)))) sh2R) fun ((a, b, _), (⟨l, oe, e⟩, ⟨m, oe2, e2⟩)) => .ask (a = oe ∧ b = oe2 ∧ GW l ∧ GW m)
  (.one (.v (.bool (eqG l m))) (rw2 l m oe e oe2 e2) [])
set_option maxHeartbeats 4000000 in
theorem ok_eqF : ∀ I : Sym.Inv Unit, LCOk I Try.prog 87 lcEqF := by
  refine lc_mk (fun (_, (⟨l, oe, e⟩, ⟨m, oe2, e2⟩)) => allCfg Try.prog [] tabEq 3 [(321, annEf l m)]) (fun _ _ => allCfg_ok mixed trivial tabEq_ok) (fun _ => rfl) (n := 80) Try.func87 ?_
  intro ⟨⟨a, b, _⟩, ⟨l, oe, e⟩, ⟨m, oe2, e2⟩⟩ hφ
  obtain ⟨⟨rfl, rfl, hg, hm⟩, hp⟩ := id hφ
  refine kcast (B := (rq (a.beq a) (rq (b.beq b) (br ((↑(Rws.c l).len : Int) != (↑(Rws.c m).len : Int)) ((SV.v (Value.bool false) = SV.v (Value.bool (eqG l m)) ∧ True) ∧ (a = a ∧ e = e ∧ l = l) ∧ (b = b ∧ e2 = e2 ∧ m = m) ∧ True) (rq (a.beq a) ((II (0 : Int) ≤ (0 : Int) ∧ (0 : Int) ≤ (↑l.length : Int) ∧ ∀ (j : Nat), j < (0 : Nat) → l.getD j [] = m.getD j []) ∧ ((SV.h (0 : Nat) [a, (0 : Nat)] = SV.h (0 : Nat) [a, (0 : Nat)] ∧ SV.h (1 : Nat) [b, (0 : Nat)] = SV.h (1 : Nat) [b, (0 : Nat)] ∧ SV.v (Value.func (Fn.func (88 : Nat)) #[] #[]) = SV.v (Value.func (Fn.func (88 : Nat)) #[] #[]) ∧ SV.h (0 : Nat) [a, (0 : Nat)] = SV.h (0 : Nat) [a, (0 : Nat)] ∧ SV.v (Value.int IntKind.i64 (↑(Rws.c l).len : Int)) = SV.v (Value.int IntKind.i64 (↑(Rws.c l).len : Int)) ∧ SV.v (Value.int IntKind.i64 (0 : Int)) = SV.v (Value.int IntKind.i64 (0 : Int)) ∧ True) ∧ (a = a ∧ e = e ∧ l = l) ∧ (b = b ∧ e2 = e2 ∧ m = m) ∧ True) ∧ ∀ (x : Int), ((0 : Int) ≤ x ∧ x ≤ (↑l.length : Int) ∧ ∀ (j : Nat), j < x.toNat → l.getD j [] = m.getD j []) → br (decide (x < (↑(Rws.c l).len : Int))) (rq (a.beq a && (Nat.beq (1 : Nat) (1 : Nat) && decide ((0 : Int) ≤ x ∧ x < (↑(Rws.c l).len : Int)))) (rq (a.beq a && x.toNat.blt (Rws.c l).len) (rq (b.beq b && (Nat.beq (1 : Nat) (1 : Nat) && decide ((0 : Int) ≤ x ∧ x < (↑(Rws.c m).len : Int)))) (rq (b.beq b && x.toNat.blt (Rws.c m).len) (true = true ∧ (e = e ∧ e2 = e2 ∧ x.toNat < l.length ∧ x.toNat < m.length ∧ (l.getD x.toNat []).length ≤ (255 : Nat) ∧ (m.getD x.toNat []).length ≤ (255 : Nat)) ∧ br (!eqL (l.getD x.toNat []) (m.getD x.toNat [])) ((SV.v (Value.bool false) = SV.v (Value.bool (eqG l m)) ∧ True) ∧ (a = a ∧ e = e ∧ l = l) ∧ (b = b ∧ e2 = e2 ∧ m = m) ∧ True) (((0 : Int) ≤ IntKind.i64.wrap (x + (1 : Int)) ∧ IntKind.i64.wrap (x + (1 : Int)) ≤ (↑l.length : Int) ∧ ∀ (j : Nat), j < (IntKind.i64.wrap (x + (1 : Int))).toNat → l.getD j [] = m.getD j []) ∧ ((SV.h (0 : Nat) [a, (0 : Nat)] = SV.h (0 : Nat) [a, (0 : Nat)] ∧ SV.h (1 : Nat) [b, (0 : Nat)] = SV.h (1 : Nat) [b, (0 : Nat)] ∧ SV.v (Value.func (Fn.func (88 : Nat)) #[] #[]) = SV.v (Value.func (Fn.func (88 : Nat)) #[] #[]) ∧ SV.h (0 : Nat) [a, (0 : Nat)] = SV.h (0 : Nat) [a, (0 : Nat)] ∧ SV.v (Value.int IntKind.i64 (↑(Rws.c l).len : Int)) = SV.v (Value.int IntKind.i64 (↑(Rws.c l).len : Int)) ∧ SV.v (Value.int IntKind.i64 (IntKind.i64.wrap (x + (1 : Int)))) = SV.v (Value.int IntKind.i64 (IntKind.i64.wrap (x + (1 : Int)))) ∧ True) ∧ (a = a ∧ e = e ∧ l = l) ∧ (b = b ∧ e2 = e2 ∧ m = m) ∧ True) ∧ ((↑l.length : Int) - IntKind.i64.wrap (x + (1 : Int))).toNat < ((↑l.length : Int) - x).toNat)))))) ((SV.v (Value.bool true) = SV.v (Value.bool (eqG l m)) ∧ True) ∧ (a = a ∧ e = e ∧ l = l) ∧ (b = b ∧ e2 = e2 ∧ m = m) ∧ True))))))) (by kernel_rfl) ?_
  clear hp hφ
  simp only [II, nbeq, rq_iff, br_iff, Bool.and_eq_true, decide_eq_true_eq, decide_eq_false_iff_not]
  simp only [eLen, eNat, eSz, nbeq, Bool.true_and, Bool.and_true, true_and, and_true, Bool.and_eq_true, Bool.not_eq_true', Bool.not_eq_false', Nat.ble_eq, Nat.blt_eq, bne_iff_ne, bne_eq_false_iff_eq, ne_eq, SV.v.injEq, Value.bool.injEq]
  have hR := hg.r1
  have hR2 := hm.r1
  have hC := hg.c1
  have hC2 := hm.c1
  refine ⟨fun hne => ?_, fun he => ⟨⟨by omega, by omega, fun j hj => by omega⟩, fun x ⟨x0, x1, hx⟩ => ⟨fun hlt => ?_, fun hge => ?_⟩⟩⟩
  · exact (Bool.eq_false_iff.2 fun h => hne (by rw [eqG_iff.1 h])).symm
  · have r1 := hg.row (i := x.toNat) (by omega)
    have r2 := hm.row (i := x.toNat) (by omega)
    refine ⟨by omega, by omega, by omega, by omega, ⟨by omega, by omega, by omega, by omega⟩, fun hne => ?_, fun he => ?_⟩
    · exact (Bool.eq_false_iff.2 fun h => by rw [eqG_iff.1 h] at hne; rw [eqL_iff.2 rfl] at hne; cases hne).symm
    · rw [wrap64 (x := x + 1) (by omega) (by omega)]
      refine ⟨⟨by omega, by omega, fun j hj => ?_⟩, by omega⟩
      rcases Nat.lt_or_ge j x.toNat with h | h
      · exact hx j h
      · obtain rfl : j = x.toNat := by omega
        exact eqL_iff.1 he
  · refine (eqG_iff.2 (List.ext_getElem (by omega) fun j g1 g2 => ?_)).symm
    have := hx j (by omega)
    rw [List.getD, List.getD, List.getElem?_eq_getElem g1, List.getElem?_eq_getElem g2] at this
    exact this
def tabEf : List (Nat × ACon Unit) := (87, lcEqF) :: tabEq
theorem tabEf_ok : LCs Try.prog tabEf := ⟨ok_eqF, tabEq_ok⟩
def shGG : ShH (Nat × RC × Nat × RC) := shHCons (shCells (shOne (shO 1)) 127) (shHCons (shRowsC 38 92) (shHCons (shCells (shOne (shO 3)) 127) (shHOne (shRowsC 38 92))))
def lcGSame : ACon Unit := mkLC (decP (shCons (shP 0) (shOne (shP 2))) shGG) fun (_, (a, ⟨l, oe, e⟩, b, ⟨m, oe2, e2⟩)) => .ask (a = oe ∧ b = oe2 ∧ GW l ∧ GW m)
  (.one (.v (.bool (eqG l m))) (gbi 0 oe e l ++ gbi 2 oe2 e2 m) [])
set_option maxHeartbeats 4000000 in
theorem ok_gsame : ∀ I : Sym.Inv Unit, LCOk I Try.prog 49 lcGSame := by
  refine lc_mk (fun _ => allCfg Try.prog [] tabEf 3) (fun _ _ => allCfg_ok mixed trivial tabEf_ok) (fun _ => rfl) (n := 80) Try.func49 ?_
  intro ⟨_, a, ⟨l, oe, e⟩, b, ⟨m, oe2, e2⟩⟩ hφ
  obtain ⟨⟨rfl, rfl, hg, hm⟩, hp⟩ := id hφ
  refine kcast (B := (true = true ∧ (a = a ∧ b = b ∧ GW l ∧ GW m) ∧ (SV.v (Value.bool (eqG l m)) = SV.v (Value.bool (eqG l m)) ∧ True) ∧ (SV.h (1 : Nat) [a, (0 : Nat)] = SV.h (1 : Nat) [a, (0 : Nat)] ∧ True) ∧ (a = a ∧ e = e ∧ l = l) ∧ (SV.h (3 : Nat) [b, (0 : Nat)] = SV.h (3 : Nat) [b, (0 : Nat)] ∧ True) ∧ (b = b ∧ e2 = e2 ∧ m = m) ∧ True)) (by kernel_rfl) ?_
  clear hp hφ
  simp [hg, hm]
end Go.Proofs.Ytdhhagangmkloaa
