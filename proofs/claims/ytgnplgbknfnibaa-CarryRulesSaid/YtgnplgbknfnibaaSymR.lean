/- Contracts of functions that make a new row of numbers. -/
import Derived.Test.YtgnplgbknfnibaaSymI
set_option linter.unusedSimpArgs false
set_option linter.unusedVariables false
set_option linter.unusedSectionVars false
namespace Go.Sym
open Go
variable {τ : Type} {I : Inv τ}

/-- What a new row is: its kind, its numbers, how many, its type. -/
structure Row where
  k : IntKind
  xs : List Int
  n : Nat
  T : TypeId
abbrev TS := List SV → Option (Prop × Row)
def TabOk (P : Program) (g : FuncId) (ps : TS) : Prop :=
  ∀ (args : List SV) (φ : Prop) (r : Row), ps args = some (φ, r) → φ → scL 0 args = true ∧
    ∀ (w : World) (vs : List Value), DenL noE args vs → Calls P g vs.toArray w fun en w' => ∃ m, en = .returned (.pointer (some ⟨m, 0, none⟩)) ∧ w.heap.size ≤ m ∧ r.xs.length = r.n ∧
      w'.heap[m]? = some (.cells (r.xs.map (Value.int r.k)).toArray r.T (0, 0)) ∧ Ext w w'
def tabCon (ps : TS) : Con τ := fun args H K =>
  match ps args with
  | some (φ, r) => φ ∧ K (.p H.length 0) (H ++ [.ints r.k r.xs r.n r.T])
  | none => False
theorem tabCon_ok {P : Program} {g : FuncId} {ps : TS} (h : TabOk P g ps) : ConOk I P g (tabCon ps) := by
  intro args H K e Fr w vs hc hd hM
  unfold tabCon at hc
  split at hc
  · rename_i φ r hp
    obtain ⟨hφ, hK⟩ := hc
    obtain ⟨ha, hcall⟩ := h args φ r hp hφ
    refine (hcall w vs (denL_noE ha hd)).mono fun en w' he => ?_
    obtain ⟨m, rfl, hm, hlen, hw, hext⟩ := he
    have hle : Le e (ext e H.length (.blk m)) := le_ext hM.fresh
    refine ⟨.p H.length 0, H ++ [.ints r.k r.xs r.n r.T], ext e H.length (.blk m), _, rfl, hle, ?_, ?_, hK⟩
    · refine hM.add (r := .blk m) (hn := single m (.cells (r.xs.map (Value.int r.k)).toArray r.T (0, 0))) ⟨m, rfl, hlen, rfl⟩ hext (fun k o hk => ?_) (fun k hk => ?_)
      · unfold single at hk
        split at hk
        · rename_i hk'; subst hk'; simp only [Option.some.injEq] at hk; subst hk; exact hw
        · cases hk
      · unfold single at hk
        split at hk
        · rename_i hk'; omega
        · exact absurd rfl hk
    · simp only [Den, ext_self]; exact ⟨m, rfl, rfl⟩
  · exact hc.elim

def pureTab (P : Program) (l : List (Nat × PS)) (ts : List (Nat × TS)) (u : Nat) (an : List (Nat × Ann τ) := []) : Cfg τ :=
  { P := P, con := fun g => match look l g with
      | some ps => some (pureCon ps)
      | none => (look ts g).map tabCon, pcon := fun g => (look l g).map fun ps args _ => ps args, unroll := u, ann := fun k => look an k }
def Tabs (P : Program) : List (Nat × TS) → Prop
  | [] => True
  | (g, ps) :: r => TabOk P g ps ∧ Tabs P r
theorem look_tab {P : Program} : ∀ {l : List (Nat × TS)} {g : Nat} {ps : TS}, Tabs P l → look l g = some ps → TabOk P g ps
  | [], _, _, _, h => by simp [look] at h
  | (k, a) :: r, g, ps, hp, h => by
    unfold look at h
    split at h
    · rename_i hk; rw [Nat.beq_eq] at hk; subst hk; simp only [Option.some.injEq] at h; subst h; exact hp.1
    · exact look_tab hp.2 h
theorem pureTab_ok {P : Program} {l : List (Nat × PS)} {ts : List (Nat × TS)} {u : Nat} {an : List (Nat × Ann τ)} (hm : P.follows .mixedOrders = true) (h : Pures P l) (ht : Tabs P ts) : CfgOk I (pureTab (τ := τ) P l ts u an) := by
  refine ⟨hm, fun g con hc => ?_, fun g pc hc => ?_⟩
  · simp only [pureTab] at hc
    split at hc
    · rename_i ps hl
      simp only [Option.some.injEq] at hc
      subst hc
      exact pureCon_ok (look_pure h hl)
    · simp only [Option.map_eq_some_iff] at hc
      obtain ⟨ps, hl, rfl⟩ := hc
      exact tabCon_ok (look_tab ht hl)
  · simp only [pureTab, Option.map_eq_some_iff] at hc
    obtain ⟨ps, hl, rfl⟩ := hc
    exact purePCon_ok (look_pure h hl)

def mkTS {α : Type} (s : ShL α) (φ : α → Prop) (r : α → Row) : TS := fun args =>
  match s.dec args with
  | some a => some (φ a, r a)
  | none => none
/-- What is asked of the run of such a function. -/
def tabK (r : Row) (y : SV) (H : List (SB τ)) : Prop :=
  match y with
  | .p b 0 => match H[b]? with
    | some (.ints k xs n T) => rq (decide (k = r.k) && Nat.beq n r.n && Nat.beq T r.T) (xs = r.xs)
    | _ => False
  | _ => False
theorem tabOk_mkA {P : Program} {g : FuncId} {fn : Func} {α : Type} {s : ShL α} {φ : α → Prop} {r : α → Row} (cfg : α → Cfg τ) (hcon : ∀ a (I : Inv τ), CfgOk I (cfg a)) (hP : ∀ a, (cfg a).P = P) {n : Nat} (hf : P.funcs[g]? = some fn)
    (h1 : ∀ a, scL 0 (s.enc a) = true)
    (h : ∀ a, φ a → Go.Sym.Ask (bodyK P (run (cfg a) n) fn (s.enc a) [] (tabK (r a)))) : TabOk P g (mkTS s φ r) := by
  intro args φ' x hp hφ
  unfold mkTS at hp
  split at hp
  · rename_i a ha
    simp only [Option.some.injEq, Prod.mk.injEq] at hp
    obtain ⟨rfl, rfl⟩ := hp
    rw [s.ok _ _ ha]
    refine ⟨h1 a, fun w vs hd => ?_⟩
    have hb := (h a hφ).h
    have hPa := hP a
    subst hPa
    refine (body_ok (run_ok (hcon a (nilI τ w)) n) hf hb hd (models_nil w)).mono fun en w' he => ?_
    obtain ⟨y, H', e', v, rfl, hle, hM, hdv, hk⟩ := he
    unfold tabK at hk
    split at hk
    · rename_i b
      split at hk
      · rename_i k xs n' T hb'
        obtain ⟨hq, hxs⟩ := rq_elim hk
        simp only [Bool.and_eq_true, decide_eq_true_eq, Nat.beq_eq] at hq
        obtain ⟨⟨rfl, rfl⟩, rfl⟩ := hq
        subst hxs
        obtain ⟨m, g1, g2, g3⟩ := hM.ints hb'
        simp only [Den] at hdv
        obtain ⟨m', g4, rfl⟩ := hdv
        rw [g1] at g4; cases g4
        refine ⟨m, rfl, ?_, g2, g3, ⟨fun k o hk => hM.frame k o hk, hM.1.os, hM.1.out⟩⟩
        obtain ⟨_, hs, h2, _, _, h5, _⟩ := hM
        have hit := h2 b _ hb'
        obtain ⟨m2, q1, _, q3⟩ := hit
        rw [g1] at q1; cases q1
        rcases h5 b m with hd | hd
        · rw [q3] at hd; simp [single] at hd
        · simp only [whole] at hd
          exact Array.getElem?_eq_none_iff.1 hd
      · exact hk.elim
    · exact hk.elim
  · cases hp

end Go.Sym
