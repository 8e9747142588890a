/- From a contract of plain data to what a row asks: parameters of plain data hold numbers in their range, and what came in reads as it did. -/
import Derived.Test.YtienakdnmhmglaaVI
import Derived.ProofKit
import Derived.OpenShut
import Derived.ShutString
import Derived.ChangeOld
import Derived.Below
import Derived.Carry
set_option linter.unusedSimpArgs false
set_option linter.unusedVariables false
set_option linter.unusedSectionVars false
namespace Go.Sym
open Go

inductive Leaf where
  | i (k : IntKind)
  | b
def Leaf.den : Leaf → Value → Prop
  | .i k, v => ∃ n, v = .int k n ∧ k.min ≤ n ∧ n ≤ k.max
  | .b, v => ∃ x, v = .bool x
def leafOf (P : Program) (t : TypeId) : Option Leaf :=
  match P.underlying t with
  | some (.int k) => some (.i k)
  | some .bool => some .b
  | _ => none
inductive PL where
  | one (l : Leaf)
  | agg (ls : List Leaf)
def leaves (P : Program) : List TypeId → Option (List Leaf)
  | [] => some []
  | t :: ts => match leafOf P t with
    | some l => match leaves P ts with
      | some ls => some (l :: ls)
      | none => none
    | none => none
def isAgg (P : Program) (t : TypeId) : Bool :=
  match P.underlying t with
  | some (.struct _) => true
  | some (.array _ _) => true
  | _ => false
def plOf (P : Program) (t : TypeId) : Option PL :=
  match isAgg P t with
  | true => match P.cellTypes P.depth t with
    | some ts => match leaves P ts with
      | some ls => match Nat.beq ts.length (P.cellsOf t) with
        | true => some (.agg ls)
        | false => none
      | none => none
    | none => none
  | false => match leafOf P t with
    | some l => some (.one l)
    | none => none
def plsOf (P : Program) : List TypeId → Option (List PL)
  | [] => some []
  | t :: ts => match plOf P t with
    | some l => match plsOf P ts with
      | some ls => some (l :: ls)
      | none => none
    | none => none
def LDens : List Leaf → List Value → Prop
  | [], vs => vs = []
  | l :: ls, vs => ∃ v r, vs = v :: r ∧ l.den v ∧ LDens ls r
def PL.den : PL → Value → Prop
  | .one l, v => l.den v
  | .agg ls, v => ∃ vs : List Value, v = .agg vs.toArray ∧ LDens ls vs
def PDens : List PL → List Value → Prop
  | [], vs => vs = []
  | l :: ls, vs => ∃ v r, vs = v :: r ∧ l.den v ∧ PDens ls r

theorem leaf_den {P : Program} {w : World} {r : Reach} {base : Nat} {t : TypeId} {l : Leaf} {v : Value} (h : leafOf P t = some l) (hv : Cell.okWide P w r base t v) : l.den v := by
  unfold leafOf at h
  split at h
  · rename_i k hu
    simp only [Option.some.injEq] at h; subst h
    simp only [Cell.okWide, hu] at hv
    cases v <;> simp_all [Cell.ok, Leaf.den, IntKind.has]
  · rename_i hu
    simp only [Option.some.injEq] at h; subst h
    simp only [Cell.okWide, hu] at hv
    cases v <;> simp_all [Cell.ok, Leaf.den]
  · cases h

theorem ldens_of {P : Program} {w : World} {r : Reach} {base : Nat} : ∀ {ts : List TypeId} {ls : List Leaf} {vs : List Value}, leaves P ts = some ls → vs.length = ts.length →
    (∀ (i : Nat) v u, vs[i]? = some v → ts[i]? = some u → Cell.okWide P w r base u v) → LDens ls vs
  | [], ls, vs, h, hl, _ => by
    simp only [leaves, Option.some.injEq] at h
    subst h
    exact List.length_eq_zero_iff.1 hl
  | t :: ts, ls, vs, h, hl, hv => by
    unfold leaves at h
    split at h
    · rename_i l h1
      split at h
      · rename_i ls' h2
        simp only [Option.some.injEq] at h; subst h
        cases vs with
        | nil => simp at hl
        | cons v vs =>
          exact ⟨v, vs, rfl, leaf_den h1 (hv 0 v t rfl rfl), ldens_of h2 (by simpa using hl) fun i v u q1 q2 => hv (i + 1) v u (by simpa using q1) (by simpa using q2)⟩
      · cases h
    · cases h

theorem pl_den {P : Program} {w : World} {r : Reach} {base : Nat} {t : TypeId} {l : PL} {v : Value} (h : plOf P t = some l) (hv : Value.okWide P w r base t v) : l.den v := by
  unfold plOf at h
  split at h
  · rename_i hagg
    split at h
    · rename_i ts hts
      split at h
      · rename_i ls hls
        split at h
        · rename_i hlen
          simp only [Option.some.injEq] at h; subst h
          rw [Nat.beq_eq] at hlen
          have hv' : ∃ cs, v = .agg cs ∧ cs.size = P.cellsOf t ∧ Row.okWide P w r base t cs := by
            unfold isAgg at hagg
            unfold Value.okWide at hv
            split at hagg
            · rename_i hu; simpa [hu] using hv
            · rename_i hu; simpa [hu] using hv
            · cases hagg
          obtain ⟨cs, rfl, hsz, ts', hts', _, hcell⟩ := hv'
          rw [hts] at hts'
          simp only [Option.some.injEq] at hts'
          subst hts'
          refine ⟨cs.toList, by simp, ldens_of (w := w) (r := r) (base := base) hls (by simp; omega) fun i v u q1 q2 => ?_⟩
          have hi : i < ts.length := (List.getElem?_eq_some_iff.1 q2).1
          obtain ⟨u', hu', hok⟩ := hcell i v (by simpa using q1)
          rw [Nat.mod_eq_of_lt hi, q2] at hu'
          simp only [Option.some.injEq] at hu'
          subst hu'
          exact hok
        · cases h
      · cases h
    · cases h
  · rename_i hagg
    split at h
    · rename_i l' hl
      simp only [Option.some.injEq] at h; subst h
      refine leaf_den (P := P) (w := w) (r := r) (base := base) hl ?_
      unfold isAgg at hagg
      unfold Value.okWide at hv
      split at hv
      · rename_i hu; simp [hu] at hagg
      · rename_i hu; simp [hu] at hagg
      · exact hv
    · cases h

theorem pdens_of {P : Program} {w : World} {r : Reach} {base : Nat} : ∀ {ts : List TypeId} {ls : List PL} {vs : List Value}, plsOf P ts = some ls → vs.length = ts.length →
    (∀ (i : Nat) t v, ts[i]? = some t → vs[i]? = some v → Value.okWide P w r base t v) → PDens ls vs
  | [], ls, vs, h, hl, _ => by
    simp only [plsOf, Option.some.injEq] at h
    subst h
    exact List.length_eq_zero_iff.1 hl
  | t :: ts, ls, vs, h, hl, hv => by
    unfold plsOf at h
    split at h
    · rename_i l h1
      split at h
      · rename_i ls' h2
        simp only [Option.some.injEq] at h; subst h
        cases vs with
        | nil => simp at hl
        | cons v vs =>
          exact ⟨v, vs, rfl, pl_den h1 (hv 0 t v rfl rfl), pdens_of h2 (by simpa using hl) fun i v u q1 q2 => hv (i + 1) v u (by simpa using q1) (by simpa using q2)⟩
      · cases h
    · cases h

theorem trodAll_len {H : Type} {enc : TypeId × Value → H} {P : Program} {w : World} {base : Nat} {spare : Nat → Bool} {held : Bool} : ∀ {ts : List TypeId} {vs : List Value} {ds : List (DataW H)} {ps : List MemPlace},
    DataW.TrodAll enc P w base spare held ts vs ds ps → vs.length = ts.length
  | [], [], [], _, _ => rfl
  | _ :: _, _ :: _, _ :: _, _, ⟨_, _, _, h, _⟩ => by simp [trodAll_len h]

theorem trodAll_dlen {H : Type} {enc : TypeId × Value → H} {P : Program} {w : World} {base : Nat} {spare : Nat → Bool} {held : Bool} : ∀ {ts : List TypeId} {vs : List Value} {ds : List (DataW H)} {ps : List MemPlace},
    DataW.TrodAll enc P w base spare held ts vs ds ps → ds.length = ts.length
  | [], [], [], _, _ => rfl
  | _ :: _, _ :: _, _ :: _, _, ⟨_, _, _, h, _⟩ => by simp [trodAll_dlen h]
theorem len_succ {α : Type} {n : Nat} : ∀ {l : List α}, l.length = n + 1 → ∃ a r, l = a :: r ∧ r.length = n
  | [], h => by simp at h
  | a :: r, h => ⟨a, r, rfl, by simpa using h⟩
theorem len_zero {α : Type} {l : List α} (h : l.length = 0) : l = [] := List.length_eq_zero_iff.1 h
theorem min_i64 : IntKind.min .i64 = -9223372036854775808 := by kernel_rfl
theorem max_i64 : IntKind.max .i64 = 9223372036854775807 := by kernel_rfl
theorem min_i32 : IntKind.min .i32 = -2147483648 := by kernel_rfl
theorem max_i32 : IntKind.max .i32 = 2147483647 := by kernel_rfl
theorem min_u8 : IntKind.min .u8 = 0 := by kernel_rfl
theorem max_u8 : IntKind.max .u8 = 255 := by kernel_rfl

/-- All arguments read, behind a call that only made new blocks, as they did. -/
theorem args_stay {H : Type} {enc : TypeId × Value → H} {P : Program} (hl : laidOutB P = true) {W W' : World} (hext : Ext W W') : ∀ {ts : List TypeId} {vs : List Value} {ds : List (DataW H)} {ps : List MemPlace},
    (ts.all fun t => P.readableRec t && decide (t < P.types.size)) = true → DataW.TrodAll enc P W 0 (fun _ => true) true ts vs ds ps →
    DataW.TrodAll enc P W' 0 (fun b => decide (b < W.heap.size)) true ts vs ds ps
  | [], [], [], _, _, h => h
  | t :: ts, v :: vs, d :: ds, _, hr, ⟨p, q, h, hs, e⟩ => by
    simp only [List.all_cons, Bool.and_eq_true, decide_eq_true_eq] at hr
    have hlt : ∀ x ∈ p, x.block < W.heap.size := by obtain ⟨m, hm⟩ := h; exact DataW.trod_lt m _ _ _ hm
    have hblk : ∀ k, k < W.heap.size → W'.heap[k]? = W.heap[k]? := fun k hk => by
      have := hext.heap k W.heap[k] (by simp [hk])
      rw [this]; simp [hk]
    refine ⟨p, q, WideElems.Trod_stays hl hr.1.1 hr.1.2 h (fun x hx => ?_) (fun x hx => by simpa using hlt x hx), args_stay hl hext (by simpa using hr.2) hs, e⟩
    have hb := hlt x hx
    cases x with
    | cell b o => exact World.cell?_of_block (w := W) (hblk b hb)
    | map b => exact hblk b hb

/-- A contract, used. -/
theorem pureOk_use {P : Program} {g : FuncId} {α : Type} {s : ShL α} {φ : α → Prop} {r : α → SV} (h : PureOk P g (mkPS s φ r)) (a : α) (ha : s.dec (s.enc a) = some a) (hφ : φ a) {w : World} {vs : List Value} (hG : Gw w) (hd : DenL noE (s.enc a) vs) :
    Calls P g vs.toArray w fun en w' => ∃ v, en = .returned v ∧ Den noE (r a) v ∧ Ext w w' :=
  (h (s.enc a) (φ a) (r a) (by simp [mkPS, ha]) hφ).2.2 w vs hG hd

theorem ext_frame {W W' : World} (h : Ext W W') (may : MemPlace → Prop) : W.keptBut W' may := by
  refine ⟨h.stay.os, h.stay.out, fun i hi => ?_⟩
  have := h.heap i W.heap[i] (by simp [hi])
  rw [this]
  simp only [hi, getElem?_pos]
  split <;> simp_all

end Go.Sym
