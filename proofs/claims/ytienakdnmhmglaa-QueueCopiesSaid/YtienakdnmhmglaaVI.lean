/- Contracts of functions that make a value and leave what lay there as it lay. -/
import Derived.Test.YtienakdnmhmglaaVP
set_option linter.unusedSimpArgs false
set_option linter.unusedVariables false
set_option linter.unusedSectionVars false
namespace Go.Sym
open Go
variable {τ : Type} {I : Inv τ}

def noE : Env := fun _ => none
theorem cut_zero (e : Env) : cut e 0 = noE := by funext i; simp [cut, noE]
theorem den_noE {e : Env} {x : SV} {v : Value} (hs : scS 0 x = true) (h : Den e x v) : Den noE x v := by have := den_cut x v hs h; rwa [cut_zero] at this
theorem denL_noE {e : Env} {x : List SV} {v : List Value} (hs : scL 0 x = true) (h : DenL e x v) : DenL noE x v := by have := denL_cut x v hs h; rwa [cut_zero] at this
theorem le_noE (e : Env) : Le noE e := fun i r h => by cases h

/-- A function of plain data: what it asks, what it answers. -/
abbrev PS := List SV → Option (Prop × SV)
def PureOk (P : Program) (g : FuncId) (ps : PS) : Prop :=
  ∀ (args : List SV) (φ : Prop) (x : SV), ps args = some (φ, x) → φ → scL 0 args = true ∧ scS 0 x = true ∧
    ∀ (w : World) (vs : List Value), Gw w → DenL noE args vs → Calls P g vs.toArray w fun en w' => ∃ v, en = .returned v ∧ Den noE x v ∧ Ext w w'

def pureCon (ps : PS) : Con τ := fun args H K =>
  match ps args with
  | some (φ, x) => φ ∧ K x H
  | none => False

theorem pureCon_ok {P : Program} {g : FuncId} {ps : PS} (h : PureOk P g ps) : ConOk I P g (pureCon ps) := by
  intro args H K e Fr w vs hc hd hM
  unfold pureCon at hc
  split at hc
  · rename_i φ x hp
    obtain ⟨hφ, hK⟩ := hc
    obtain ⟨ha, hx, hcall⟩ := h args φ x hp hφ
    refine (hcall w vs hM.gw (denL_noE ha hd)).mono fun en w' he => ?_
    obtain ⟨v, rfl, hdv, hext⟩ := he
    exact ⟨x, H, e, v, rfl, Le.refl e, hM.grow hext, hdv.mono (le_noE e), hK⟩
  · exact hc.elim

/-- All that lies there. -/
def whole (w : World) : PH := fun k => w.heap[k]?
def nilI (τ : Type) (w : World) (hG : Gw w) : Inv τ := { inv := fun _ _ _ => False, os := w.os, out := w.output, ro := whole w, gl := hG }
theorem models_nil (w : World) (hG : Gw w) : Models (nilI τ w hG) noE [] (whole w) w :=
  ⟨⟨rfl, rfl, fun _ _ h => h⟩, fun _ => emp, fun i b hi => by simp at hi, fun i _ => ⟨rfl, rfl⟩, fun _ _ _ _ => .inl rfl, fun _ _ => .inl rfl, fun _ k o hk => by simp [emp] at hk, fun k o hk => hk⟩

/-- What is asked, shut off from unfolding. -/
structure Ask (A : Prop) : Prop where
  h : A
theorem kcast {A B : Prop} (h : A = B) (hb : B) : Ask A := ⟨h ▸ hb⟩

theorem pureOk_of_run {P : Program} {g : FuncId} {fn : Func} {ps : PS} (hf : P.funcs[g]? = some fn)
    (h : ∀ args φ x, ps args = some (φ, x) → φ → scL 0 args = true ∧ scS 0 x = true ∧ ∃ (cfg : Cfg τ) (n : Nat), (∀ I : Inv τ, CfgOk I cfg) ∧ cfg.P = P ∧ bodyK cfg.P (run cfg n) fn args [] (fun y _ => y = x)) : PureOk P g ps := by
  intro args φ x hp hφ
  obtain ⟨ha, hx, cfg, n, hcon, rfl, hb⟩ := h args φ x hp hφ
  refine ⟨ha, hx, fun w vs hG hd => ?_⟩
  refine (body_ok (run_ok (hcon (nilI τ w hG)) n) hf hb hd (models_nil w hG)).mono fun en w' he => ?_
  obtain ⟨y, H', e', v, rfl, hle, hM, hdv, rfl⟩ := he
  exact ⟨v, rfl, den_noE hx hdv, ⟨fun k o hk => hM.frame k o hk, hM.1.os, hM.1.out⟩⟩

universe u
/-- A table of contracts. -/
def look {α : Type u} : List (Nat × α) → Nat → Option α
  | [], _ => none
  | (k, a) :: r, n => match Nat.beq k n with
    | true => some a
    | false => look r n
def Pures (P : Program) : List (Nat × PS) → Prop
  | [] => True
  | (g, ps) :: r => PureOk P g ps ∧ Pures P r
def pureCfg (P : Program) (l : List (Nat × PS)) (u : Nat) (an : List (Nat × Ann τ) := []) : Cfg τ :=
  { P := P, con := fun g => (look l g).map pureCon, pcon := fun g => (look l g).map fun ps args _ => ps args, unroll := u, ann := fun k => look an k }
theorem look_pure {P : Program} : ∀ {l : List (Nat × PS)} {g : Nat} {ps : PS}, Pures P l → look l g = some ps → PureOk P g ps
  | [], _, _, _, h => by simp [look] at h
  | (k, a) :: r, g, ps, hp, h => by
    unfold look at h
    split at h
    · rename_i hk; rw [Nat.beq_eq] at hk; subst hk; simp only [Option.some.injEq] at h; subst h; exact hp.1
    · exact look_pure hp.2 h
theorem purePCon_ok {P : Program} {g : FuncId} {ps : PS} (h : PureOk P g ps) : PConOk I P g (fun args _ => ps args) := by
  intro args H X φ x e Fr w vs hp hφ hd hM
  obtain ⟨ha, hx, hcall⟩ := h args φ x hp hφ
  refine (hcall w vs hM.gw (denL_noE ha hd)).mono fun en w' he => ?_
  obtain ⟨v, rfl, hdv, hext⟩ := he
  exact ⟨v, rfl, hdv.mono (le_noE e), hext⟩
theorem pureCfg_ok {P : Program} {l : List (Nat × PS)} {u : Nat} {an : List (Nat × Ann τ)} (hm : P.follows .mixedOrders = true) (h : Pures P l) : CfgOk I (pureCfg (τ := τ) P l u an) := by
  refine ⟨hm, ⟨fun g con hc => ?_, (fun g ac h => by cases h)⟩, fun g pc hc => ?_⟩
  · simp only [pureCfg, Option.map_eq_some_iff] at hc
    obtain ⟨ps, hl, rfl⟩ := hc
    exact pureCon_ok (look_pure h hl)
  · simp only [pureCfg, Option.map_eq_some_iff] at hc
    obtain ⟨ps, hl, rfl⟩ := hc
    exact purePCon_ok (look_pure h hl)

/-! ### Shapes of arguments -/
structure Sh (α : Type) where
  enc : α → SV
  dec : SV → Option α
  ok : ∀ x a, dec x = some a → x = enc a
structure ShL (α : Type) where
  enc : α → List SV
  dec : List SV → Option α
  ok : ∀ x a, dec x = some a → x = enc a
def shInt (k : IntKind) : Sh Int where
  enc n := .v (.int k n)
  dec x := match x with
    | .v (.int j n) => match decide (j = k) with
      | true => some n
      | false => none
    | _ => none
  ok x a h := by
    split at h
    · split at h
      · rename_i j n hk
        simp only [decide_eq_true_eq] at hk
        subst hk
        simp only [Option.some.injEq] at h
        subst h
        rfl
      · cases h
    · cases h
def shI : Sh Int := shInt .i64
def shB : Sh Bool where
  enc b := .v (.bool b)
  dec x := match x with
    | .v (.bool b) => some b
    | _ => none
  ok x a h := by
    split at h
    · simp only [Option.some.injEq] at h
      subst h
      rfl
    · cases h
def shNil : ShL Unit where
  enc _ := []
  dec x := match x with
    | [] => some ()
    | _ => none
  ok x a h := by
    split at h
    · rfl
    · cases h
def shOne {α : Type} (s : Sh α) : ShL α where
  enc a := [s.enc a]
  dec x := match x with
    | [y] => s.dec y
    | _ => none
  ok x a h := by
    split at h
    · rw [s.ok _ _ h]
    · cases h
def shCons {α β : Type} (s : Sh α) (t : ShL β) : ShL (α × β) where
  enc a := s.enc a.1 :: t.enc a.2
  dec x := match x with
    | y :: r => match s.dec y with
      | some a => match t.dec r with
        | some b => some (a, b)
        | none => none
      | none => none
    | _ => none
  ok x a h := by
    split at h
    · split at h
      · rename_i hs
        split at h
        · rename_i ht
          simp only [Option.some.injEq] at h
          subst h
          rw [s.ok _ _ hs, t.ok _ _ ht]
        · cases h
      · cases h
    · cases h
def shA {α : Type} (t : ShL α) : Sh α where
  enc a := .a (t.enc a)
  dec x := match x with
    | .a l => t.dec l
    | _ => none
  ok x a h := by
    split at h
    · rw [t.ok _ _ h]
    · cases h
def mkPS {α : Type} (s : ShL α) (φ : α → Prop) (r : α → SV) : PS := fun args =>
  match s.dec args with
  | some a => some (φ a, r a)
  | none => none
theorem pureOk_mkA {P : Program} {g : FuncId} {fn : Func} {α : Type} {s : ShL α} {φ : α → Prop} {r : α → SV} (cfg : α → Cfg τ) (hcon : ∀ a (I : Inv τ), CfgOk I (cfg a)) (hP : ∀ a, (cfg a).P = P) {n : Nat} (hf : P.funcs[g]? = some fn)
    (h1 : ∀ a, scL 0 (s.enc a) = true) (h2 : ∀ a, scS 0 (r a) = true)
    (h : ∀ a, φ a → Ask (bodyK P (run (cfg a) n) fn (s.enc a) [] (fun y _ => y = r a))) : PureOk P g (mkPS s φ r) := by
  refine pureOk_of_run (τ := τ) hf ?_
  intro args φ' x hp hφ
  unfold mkPS at hp
  split at hp
  · rename_i a ha
    simp only [Option.some.injEq, Prod.mk.injEq] at hp
    obtain ⟨rfl, rfl⟩ := hp
    rw [s.ok _ _ ha]
    exact ⟨h1 a, h2 a, cfg a, n, hcon a, hP a, by rw [hP a]; exact (h a hφ).h⟩
  · cases hp
theorem pureOk_mk {cfg : Cfg τ} (hcon : ∀ I : Inv τ, CfgOk I cfg) {n : Nat} {g : FuncId} {fn : Func} {α : Type} {s : ShL α} {φ : α → Prop} {r : α → SV} (hf : cfg.P.funcs[g]? = some fn)
    (h1 : ∀ a, scL 0 (s.enc a) = true) (h2 : ∀ a, scS 0 (r a) = true)
    (h : ∀ a, φ a → Ask (bodyK cfg.P (run cfg n) fn (s.enc a) [] (fun y _ => y = r a))) : PureOk cfg.P g (mkPS s φ r) :=
  pureOk_mkA (fun _ => cfg) (fun _ => hcon) (fun _ => rfl) hf h1 h2 h

/-- A part of a function's code, by the way to it (so that a text can name it). -/
def subC : List Nat → Code → Code
  | [], c => c
  | i :: r, c => match c with
    | .seq a b => match i with
      | 0 => subC r a
      | _ => subC r b
    | .cond _ a b => match i with
      | 0 => subC r a
      | _ => subC r b
    | .block _ a => subC r a
    | .loop a => subC r a
    | .scope a => subC r a
    | .rangeFunc _ _ a b => match i with
      | 0 => subC r a
      | _ => subC r b
    | _ => .skip
def codeAt (f : Func) (p : List Nat) : Code :=
  match f.body with
  | some c => subC p c
  | none => .skip
/-- A loop's object with slots kept, turned, or forgotten. -/
def loopTm (H : List (SB τ)) (i : Nat) (keep : List Nat) (var : List (Nat × SV)) : SB τ :=
  match H[i]? with
  | some (.loop st pd tm ps asg body d) => .loop st pd (tmplTm keep var 0 tm) ps asg body d
  | _ => .gone
def getY (tm : List SV) (i : Nat) : Nat :=
  match tm[i]? with
  | some (.y b) => b
  | _ => 0
abbrev II (n : Int) : Int := n
/-- A list of numbers (so that a text of one is read as such). -/
abbrev LI (l : List Int) : List Int := l
abbrev LC4 (l : List C4) : List C4 := l
abbrev LLI (l : List (List Int)) : List (List Int) := l
abbrev LLC (l : List (List C4)) : List (List C4) := l
abbrev LJI (l : List (Nat ⊕ List Int)) : List (Nat ⊕ List Int) := l
abbrev LJC (l : List (Nat ⊕ List C4)) : List (Nat ⊕ List C4) := l

/-! ### Integers in their range -/
theorem wrap64 {x : Int} (h : -9223372036854775808 ≤ x) (h' : x ≤ 9223372036854775807) : IntKind.wrap .i64 x = x := IntWalk.i64_in x ⟨h, h'⟩

end Go.Sym
