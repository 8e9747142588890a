/- Contracts over some items alone: what they say of a heap of just these holds in any heap. -/
import Derived.Test.YtienakdnmhmglaaVI
set_option linter.unusedSimpArgs false
set_option linter.unusedVariables false
set_option linter.unusedSectionVars false
namespace Go.Sym
open Go
variable {τ : Type} {I : Inv τ} {P : Program}

mutual
def allS (p : Nat → Bool) : SV → Bool
  | .p b _ => p b
  | .s b _ _ _ => p b
  | .y b => p b
  | .h b _ => p b
  | .r b _ => p b
  | .f _ l => allSL p l
  | .a l => allSL p l
  | .t l => allSL p l
  | _ => true
def allSL (p : Nat → Bool) : List SV → Bool
  | [] => true
  | x :: xs => allS p x && allSL p xs
end
mutual
def renS (ρ : Nat → Nat) : SV → SV
  | .p b o => .p (ρ b) o
  | .s b o l c => .s (ρ b) o l c
  | .y b => .y (ρ b)
  | .h b q => .h (ρ b) q
  | .r b q => .r (ρ b) q
  | .f fn l => .f fn (renSL ρ l)
  | .a l => .a (renSL ρ l)
  | .t l => .t (renSL ρ l)
  | .v x => .v x
  | .any => .any
def renSL (ρ : Nat → Nat) : List SV → List SV
  | [] => []
  | x :: xs => renS ρ x :: renSL ρ xs
end
mutual
theorem den_ren {e e' : Env} {p : Nat → Bool} {ρ : Nat → Nat} (h : ∀ b r, p b = true → e b = some r → e' (ρ b) = some r) : ∀ (x : SV) (v : Value), allS p x = true → Den e x v → Den e' (renS ρ x) v
  | .any, _, _, _ => by simp [renS, Den]
  | .v x, _, _, hd => by simpa [renS, Den] using hd
  | .p b o, _, ha, hd => by simp only [renS, Den, allS] at *; obtain ⟨n, h1, h2⟩ := hd; exact ⟨n, h _ _ ha h1, h2⟩
  | .s b o len cap, _, ha, hd => by simp only [renS, Den, allS] at *; obtain ⟨n, h1, h2⟩ := hd; exact ⟨n, h _ _ ha h1, h2⟩
  | .f fn cs, _, ha, hd => by simp only [renS, Den, allS] at *; obtain ⟨vs, h1, h2⟩ := hd; exact ⟨vs, denL_ren h _ _ ha h1, h2⟩
  | .y b, _, ha, hd => by simp only [renS, Den, allS] at *; obtain ⟨n, h1, h2⟩ := hd; exact ⟨n, h _ _ ha h1, h2⟩
  | .h b q, _, ha, hd => by simp only [renS, Den, allS] at *; obtain ⟨f, h1, h2⟩ := hd; exact ⟨f, h _ _ ha h1, h2⟩
  | .r b q, _, ha, hd => by simp only [renS, Den, allS] at *; obtain ⟨f, h1, h2⟩ := hd; exact ⟨f, h _ _ ha h1, h2⟩
  | .a l, _, ha, hd => by simp only [renS, Den, allS] at *; obtain ⟨vs, h1, h2⟩ := hd; exact ⟨vs, denL_ren h _ _ ha h1, h2⟩
  | .t l, _, ha, hd => by simp only [renS, Den, allS] at *; obtain ⟨vs, h1, h2⟩ := hd; exact ⟨vs, denL_ren h _ _ ha h1, h2⟩
theorem denL_ren {e e' : Env} {p : Nat → Bool} {ρ : Nat → Nat} (h : ∀ b r, p b = true → e b = some r → e' (ρ b) = some r) : ∀ (xs : List SV) (vs : List Value), allSL p xs = true → DenL e xs vs → DenL e' (renSL ρ xs) vs
  | [], _, _, hd => by simpa [renSL, DenL] using hd
  | x :: xs, _, ha, hd => by
    simp only [renSL, DenL, allSL, Bool.and_eq_true] at *
    obtain ⟨v, r, h1, h2, h3⟩ := hd
    exact ⟨v, r, h1, den_ren h _ _ ha.1 h2, denL_ren h _ _ ha.2 h3⟩
end
def allB (p : Nat → Bool) : SB τ → Bool
  | .cells l _ => allSL p l
  | .own (.sv l) _ _ _ _ _ => allSL p l
  | .limbo b _ _ _ _ _ => p b
  | .loop _ _ _ _ _ _ _ => false
  | _ => true
def renB (ρ : Nat → Nat) : SB τ → SB τ
  | .cells l T => .cells (renSL ρ l) T
  | .own (.sv l) n T sz ep nn => .own (.sv (renSL ρ l)) n T sz ep nn
  | .limbo b q L T TS ep => .limbo (ρ b) q L T TS ep
  | b => b
theorem renSL_length (ρ : Nat → Nat) : ∀ l : List SV, (renSL ρ l).length = l.length
  | [] => rfl
  | x :: xs => by simp [renSL, renSL_length ρ xs]
theorem item_ren {e e' : Env} {p : Nat → Bool} {ρ : Nat → Nat} (h : ∀ b r, p b = true → e b = some r → e' (ρ b) = some r) {b : SB τ} {r : Option Ref} {hp : PH} (ha : allB p b = true) (hi : ItemOk I e b r hp) : ItemOk I e' (renB ρ b) r hp := by
  cases b with
  | cells l T => obtain ⟨n, vs, h1, h2, h3⟩ := hi; exact ⟨n, vs, h1, denL_ren h _ _ ha h2, h3⟩
  | own c n T sz ep nn =>
    obtain ⟨f, v, vs, h1, h2, h3, h4, h5⟩ := hi
    cases c with
    | sv l => exact ⟨f, v, vs, h1, h2, h3, denL_ren h _ _ ha h4, h5⟩
    | ints k xs => exact ⟨f, v, vs, h1, h2, h3, h4, h5⟩
    | recs xs => exact ⟨f, v, vs, h1, h2, h3, h4, h5⟩
  | limbo b q L T TS ep =>
    obtain ⟨f, u, us, ho, hr, fb, gb, h1, h2, h3, h4, h5⟩ := hi
    exact ⟨f, u, us, ho, hr, fb, gb, h1, h2, h3, h _ _ ha h4, h5⟩
  | loop _ _ _ _ _ _ _ => simp [allB] at ha
  | ints k xs n T => exact hi
  | rows R T TS oe ep pd => exact hi
  | inp c => exact hi
  | res t => exact hi
  | obj o => exact hi
  | gone => exact hi

/-! ### What is reached -/
mutual
def scanS : SV → List Nat
  | .p b _ => [b]
  | .s b _ _ _ => [b]
  | .y b => [b]
  | .h b _ => [b]
  | .r b _ => [b]
  | .f _ l => scanL l
  | .a l => scanL l
  | .t l => scanL l
  | _ => []
def scanL : List SV → List Nat
  | [] => []
  | x :: xs => scanS x ++ scanL xs
end
def scanB : SB τ → List Nat
  | .cells l _ => scanL l
  | .own (.sv l) _ _ _ _ _ => scanL l
  | .limbo b _ _ _ _ _ => [b]
  | _ => []
def reachGo (H : List (SB τ)) : Nat → List Nat → List Nat → List Nat
  | 0, done, _ => done
  | n + 1, done, todo => match todo with
    | [] => done
    | b :: r => match hasN done b with
      | true => reachGo H n done r
      | false => match H[b]? with
        | some it => reachGo H n (done ++ [b]) (scanB it ++ r)
        | none => done
def reach (H : List (SB τ)) (args : List SV) : List Nat := reachGo H 100 [] (scanL args)
def idxOf : List Nat → Nat → Option Nat
  | [], _ => none
  | b :: r, n => match Nat.beq b n with
    | true => some 0
    | false => (idxOf r n).map (· + 1)
theorem idxOf_get : ∀ {bs : List Nat} {n i : Nat}, idxOf bs n = some i → bs[i]? = some n
  | [], _, _, h => by simp [idxOf] at h
  | b :: r, n, i, h => by
    unfold idxOf at h
    split at h
    · rename_i hb
      rw [Nat.beq_eq] at hb
      simp only [Option.some.injEq] at h
      subst hb; subst h; rfl
    · simp only [Option.map_eq_some_iff] at h
      obtain ⟨j, h1, rfl⟩ := h
      simpa using idxOf_get h1
theorem idxOf_none : ∀ {bs : List Nat} {n : Nat}, idxOf bs n = none → ∀ i : Nat, bs[i]? ≠ some n
  | [], _, _, i => by simp
  | b :: r, n, h, i => by
    unfold idxOf at h
    split at h
    · cases h
    · rename_i hb
      have hb : b ≠ n := fun e => by rw [← Nat.beq_eq] at e; rw [e] at hb; cases hb
      simp only [Option.map_eq_none_iff] at h
      cases i with
      | zero => simpa using hb
      | succ i => simpa using idxOf_none h i
/-- All different. -/
def diffB : List Nat → Bool
  | [] => true
  | b :: r => !hasN r b && diffB r
theorem hasN_iff : ∀ {l : List Nat} {n : Nat}, hasN l n = true ↔ n ∈ l
  | [], n => by simp [hasN]
  | k :: r, n => by
    unfold hasN
    split
    · rename_i h; rw [Nat.beq_eq] at h; simp [h]
    · rename_i h
      have h : k ≠ n := fun e => by rw [← Nat.beq_eq] at e; rw [e] at h; cases h
      rw [hasN_iff, List.mem_cons]
      constructor
      · exact .inr
      · rintro (e | e)
        · exact absurd e.symm h
        · exact e
theorem idxOf_self : ∀ {bs : List Nat} {n i : Nat}, diffB bs = true → bs[i]? = some n → idxOf bs n = some i
  | [], _, _, _, h => by simp at h
  | b :: r, n, i, hd, h => by
    simp only [diffB, Bool.and_eq_true, Bool.not_eq_true'] at hd
    unfold idxOf
    cases i with
    | zero =>
      simp only [List.getElem?_cons_zero, Option.some.injEq] at h
      subst h
      have : Nat.beq b b = true := by rw [Nat.beq_eq]
      rw [this]
    | succ i =>
      simp only [List.getElem?_cons_succ] at h
      have hne : Nat.beq b n = false := by
        cases hq : Nat.beq b n with
        | false => rfl
        | true =>
          rw [Nat.beq_eq] at hq
          subst hq
          have : hasN r b = true := hasN_iff.2 (List.mem_of_getElem? h)
          rw [this] at hd; cases hd.1
      rw [hne]
      simp only [Option.map_eq_some_iff]
      exact ⟨i, idxOf_self hd.2 h, rfl⟩
def takeAll {α : Type} (H : List α) : List Nat → Option (List α)
  | [] => some []
  | b :: r => match H[b]?, takeAll H r with
    | some x, some l => some (x :: l)
    | _, _ => none
theorem takeAll_get {α : Type} {H : List α} : ∀ {bs : List Nat} {l : List α}, takeAll H bs = some l → l.length = bs.length ∧ ∀ (i b : Nat), bs[i]? = some b → ∃ x, H[b]? = some x ∧ l[i]? = some x
  | [], l, h => by simp only [takeAll, Option.some.injEq] at h; subst h; simp
  | b :: r, l, h => by
    unfold takeAll at h
    split at h
    · rename_i x l' h1 h2
      simp only [Option.some.injEq] at h
      subst h
      obtain ⟨h3, h4⟩ := takeAll_get h2
      refine ⟨by simp [h3], fun i b' hi => ?_⟩
      cases i with
      | zero => simp at hi; subst hi; exact ⟨x, h1, by simp⟩
      | succ i => simp at hi; obtain ⟨y, h5, h6⟩ := h4 i b' hi; exact ⟨y, h5, by simpa using h6⟩
    · cases h
/-- The items go back to where they were. -/
def putAll {α : Type} : List α → List Nat → List α → List α
  | H, b :: r, x :: l => putAll (H.set b x) r l
  | H, _, _ => H
theorem putAll_length {α : Type} : ∀ (bs : List Nat) (l H : List α), (putAll H bs l).length = H.length
  | [], _, _ => by simp [putAll]
  | b :: r, [], _ => by simp [putAll]
  | b :: r, x :: l, H => by simp [putAll, putAll_length r l]
theorem putAll_out {α : Type} : ∀ (bs : List Nat) (l H : List α) (n : Nat), idxOf bs n = none → (putAll H bs l)[n]? = H[n]?
  | [], _, _, _, _ => by simp [putAll]
  | b :: r, [], _, _, _ => by simp [putAll]
  | b :: r, x :: l, H, n, h => by
    unfold idxOf at h
    split at h
    · cases h
    · rename_i hb
      have hb : b ≠ n := fun e => by rw [← Nat.beq_eq] at e; rw [e] at hb; cases hb
      simp only [Option.map_eq_none_iff] at h
      simp only [putAll]
      rw [putAll_out r l _ n h, List.getElem?_set_ne hb]
theorem putAll_in {α : Type} : ∀ (bs : List Nat) (l H : List α) (n i : Nat), diffB bs = true → n < H.length → idxOf bs n = some i → bs.length ≤ l.length → (putAll H bs l)[n]? = l[i]?
  | [], _, _, _, _, _, _, h, _ => by simp [idxOf] at h
  | b :: r, [], _, _, _, _, _, _, hl => by simp at hl
  | b :: r, x :: l, H, n, i, hd, hn, h, hl => by
    simp only [diffB, Bool.and_eq_true, Bool.not_eq_true'] at hd
    unfold idxOf at h
    split at h
    · rename_i hb
      rw [Nat.beq_eq] at hb
      subst hb
      simp only [Option.some.injEq] at h
      subst h
      simp only [putAll]
      have : idxOf r b = none := by
        cases hq : idxOf r b with
        | none => rfl
        | some j =>
          have := hasN_iff.2 (List.mem_of_getElem? (idxOf_get hq))
          rw [this] at hd; cases hd.1
      rw [putAll_out r l _ b this]
      simp [hn]
    · simp only [Option.map_eq_some_iff] at h
      obtain ⟨j, h1, rfl⟩ := h
      simp only [putAll]
      rw [putAll_in r l _ n j hd.2 (by simpa using hn) h1 (by simpa using hl)]
      simp

/-! ### The contract, in any heap -/
def mapAlt (f : SV → List (SB τ) → List Nat → Alt τ) : Alt τ → Alt τ
  | .bad => .bad
  | .ask φ t => .ask φ (mapAlt f t)
  | .br c l r => .br c (mapAlt f l) (mapAlt f r)
  | .one x H ws => f x H ws
def gam (bs : List Nat) (n : Nat) (i : Nat) : Nat :=
  match bs[i]? with
  | some b => b
  | none => n + (i - bs.length)
def backA (bs : List Nat) (H : List (SB τ)) (x : SV) (Hl : List (SB τ)) : Alt τ :=
  match Nat.ble bs.length Hl.length && (allS (fun i => Nat.blt i Hl.length) x && Hl.all (allB fun i => Nat.blt i Hl.length)) with
  | true => .one (renS (gam bs H.length) x) (putAll H bs (Hl.map (renB (gam bs H.length))) ++ (Hl.drop bs.length).map (renB (gam bs H.length))) bs
  | false => .bad
def gac (lc : ACon τ) : ACon τ := fun args H =>
  let bs := reach H args
  match takeAll H bs with
  | some Hl => match diffB bs && (allSL (fun b => (idxOf bs b).isSome) args && Hl.all (allB fun b => (idxOf bs b).isSome)) with
    | true => mapAlt (fun x Hl' _ => backA bs H x Hl') (lc (renSL (fun b => (idxOf bs b).getD 0) args) (Hl.map (renB fun b => (idxOf bs b).getD 0)))
    | false => .bad
  | none => .bad
/-- What a contract over some items alone says. -/
def LCOk (I : Inv τ) (P : Program) (g : FuncId) (lc : ACon τ) : Prop :=
  ∀ (args : List SV) (H : List (SB τ)) (e : Env) (Fr : PH) (w : World) (vs : List Value), (lc args H).pre → DenL e args vs → Models I e H Fr w →
    Calls P g vs.toArray w fun en w' => ∃ x H' ws e' v, (lc args H).has x H' ws ∧ en = .returned v ∧ Le e e' ∧ Models I e' H' Fr w' ∧ Den e' x v

theorem mapAlt_pre {f : SV → List (SB τ) → List Nat → Alt τ} : ∀ {t : Alt τ}, (mapAlt f t).pre → t.pre ∧ ∀ x H ws, t.has x H ws → (f x H ws).pre
  | .bad, h => h.elim
  | .ask φ t, h => by obtain ⟨h1, h2⟩ := mapAlt_pre (t := t) h.2; exact ⟨⟨h.1, h1⟩, h2⟩
  | .br c l r, h => by
    refine ⟨⟨fun hc => (mapAlt_pre (h.1 hc)).1, fun hc => (mapAlt_pre (h.2 hc)).1⟩, fun x H ws hh => ?_⟩
    rcases hh with ⟨hc, hh⟩ | ⟨hc, hh⟩
    · exact (mapAlt_pre (h.1 hc)).2 _ _ _ hh
    · exact (mapAlt_pre (h.2 hc)).2 _ _ _ hh
  | .one x H ws, h => ⟨trivial, fun x' H' ws' ⟨e1, e2, e3⟩ => by subst e1; subst e2; subst e3; exact h⟩
theorem mapAlt_has {f : SV → List (SB τ) → List Nat → Alt τ} {y : SV} {G : List (SB τ)} {us : List Nat} : ∀ {t : Alt τ} {x H ws}, t.has x H ws → (f x H ws).has y G us → (mapAlt f t).has y G us
  | .bad, _, _, _, h, _ => h.elim
  | .ask φ t, _, _, _, h, h' => mapAlt_has (t := t) h h'
  | .br c l r, _, _, _, h, h' => by
    rcases h with ⟨hc, h⟩ | ⟨hc, h⟩
    · exact .inl ⟨hc, mapAlt_has h h'⟩
    · exact .inr ⟨hc, mapAlt_has h h'⟩
  | .one _ _ _, _, _, _, ⟨rfl, rfl, rfl⟩, h' => h'
theorem mapAlt_of {f : SV → List (SB τ) → List Nat → Alt τ} {y : SV} {G : List (SB τ)} {us : List Nat} : ∀ {t : Alt τ}, (mapAlt f t).has y G us → ∃ x H ws, t.has x H ws ∧ (f x H ws).has y G us
  | .bad, h => h.elim
  | .ask φ t, h => mapAlt_of (t := t) h
  | .br c l r, h => by
    rcases h with ⟨hc, h⟩ | ⟨hc, h⟩
    · obtain ⟨x, H, ws, h1, h2⟩ := mapAlt_of h; exact ⟨x, H, ws, .inl ⟨hc, h1⟩, h2⟩
    · obtain ⟨x, H, ws, h1, h2⟩ := mapAlt_of h; exact ⟨x, H, ws, .inr ⟨hc, h1⟩, h2⟩
  | .one x H ws, h => ⟨x, H, ws, ⟨rfl, rfl, rfl⟩, h⟩

open Classical in
/-- All that a call over some items leaves alone. -/
noncomputable def rest (bs : List Nat) (hs : Nat → PH) (Fr : PH) : PH := fun n =>
  if h : ∃ j, idxOf bs j = none ∧ hs j n ≠ none then hs h.choose n else Fr n

theorem frame_ok {g : FuncId} {lc : ACon τ} (h : LCOk I P g lc) : AConOk I P g (gac lc) := by
  refine ⟨fun args H x H' ws b hh hw hb => ?_, fun args H e Fr w vs hpre hd hM => ?_⟩
  · unfold gac at hh
    simp only at hh
    split at hh
    · rename_i Hl hHl
      split at hh
      · obtain ⟨x1, H1, ws1, _, hh⟩ := mapAlt_of hh
        unfold backA at hh
        split at hh
        · obtain ⟨_, rfl, rfl⟩ := hh
          have hn : idxOf (reach H args) b = none := by
            cases hq : idxOf (reach H args) b with
            | none => rfl
            | some j => rw [hasN_iff.2 (List.mem_of_getElem? (idxOf_get hq))] at hw; cases hw
          refine ⟨?_, by simp [putAll_length]⟩
          rw [List.getElem?_append_left (by rw [putAll_length]; exact hb), putAll_out _ _ _ _ hn]
        · exact hh.elim
      · exact hh.elim
    · exact hh.elim
  · generalize hac : gac lc args H = t at hpre
    unfold gac at hac
    simp only at hac
    generalize hbs : reach H args = bs at hac
    split at hac
    · rename_i Hl hHl
      split at hac
      · rename_i hcond
        simp only [Bool.and_eq_true, List.all_eq_true] at hcond
        obtain ⟨hdiff, hargs, hitems⟩ := hcond
        subst hac
        obtain ⟨hpre1, hpre2⟩ := mapAlt_pre hpre
        obtain ⟨hlen, hget⟩ := takeAll_get hHl
        obtain ⟨h0, hs, h1, h2, h3, h4, h5, h6⟩ := hM
        have hblt : ∀ (i b : Nat), bs[i]? = some b → b < H.length := fun i b hi => by
          obtain ⟨x, hx, _⟩ := hget i b hi
          exact (List.getElem?_eq_some_iff.1 hx).1
        -- the part
        obtain ⟨el, hel⟩ : ∃ el : Env, ∀ i, el i = match bs[i]? with | some b => e b | none => none := ⟨_, fun _ => rfl⟩
        obtain ⟨hl, hhl⟩ : ∃ hl : Nat → PH, ∀ i, hl i = match bs[i]? with | some b => hs b | none => emp := ⟨_, fun _ => rfl⟩
        have hin : ∀ b r, (idxOf bs b).isSome = true → e b = some r → el ((idxOf bs b).getD 0) = some r := fun b r hb hr => by
          obtain ⟨i, hi⟩ := Option.isSome_iff_exists.1 hb
          rw [hi]
          simp only [Option.getD_some, hel, idxOf_get hi]
          exact hr
        have hrest : ∀ j, idxOf bs j = none → ∀ (n : Nat) (o : Obj), hs j n = some o → rest bs hs Fr n = some o := fun j hj n o hn => by
          have hex : ∃ j, idxOf bs j = none ∧ hs j n ≠ none := ⟨j, hj, by rw [hn]; simp⟩
          unfold rest
          rw [dif_pos hex]
          have hc := hex.choose_spec
          by_cases hjj : hex.choose = j
          · rw [hjj]; exact hn
          · rcases h3 _ _ hjj n with h7 | h7
            · exact absurd h7 hc.2
            · rw [hn] at h7; cases h7
        have hrestF : ∀ (n : Nat) (o : Obj), Fr n = some o → rest bs hs Fr n = some o := fun n o hn => by
          unfold rest
          split
          · rename_i hex
            rcases h4 hex.choose n with h7 | h7
            · exact absurd h7 hex.choose_spec.2
            · rw [hn] at h7; cases h7
          · exact hn
        have hrestcases : ∀ (n : Nat) (o : Obj), rest bs hs Fr n = some o → (∃ j, idxOf bs j = none ∧ hs j n = some o) ∨ Fr n = some o := fun n o hn => by
          unfold rest at hn
          split at hn
          · rename_i hex; exact .inl ⟨_, hex.choose_spec.1, hn⟩
          · exact .inr hn
        have hMl : Models I el (Hl.map (renB fun b => (idxOf bs b).getD 0)) (rest bs hs Fr) w := by
          refine ⟨⟨h0.os, h0.out, fun k o hk => hrestF k o (h0.ro k o hk)⟩, hl, fun i b hi => ?_, fun i hi => ?_, fun i j hij => ?_, fun i => ?_, fun i => ?_, fun k o hk => ?_⟩
          · rw [List.getElem?_map, Option.map_eq_some_iff] at hi
            obtain ⟨b0, hi, rfl⟩ := hi
            have hilt : i < bs.length := by rw [← hlen]; exact (List.getElem?_eq_some_iff.1 hi).1
            obtain ⟨x, hx1, hx2⟩ := hget i bs[i] (by simp [hilt])
            rw [hi] at hx2; cases hx2
            rw [hel, hhl]
            simp only [List.getElem?_eq_getElem hilt]
            exact item_ren hin (hitems b0 (List.mem_of_getElem? hi)) (h1 _ _ hx1)
          · have : bs[i]? = none := by simp at hi; simp; omega
            rw [hel, hhl, this]
            exact ⟨rfl, rfl⟩
          · rw [hhl, hhl]
            cases hi : bs[i]? with
            | none => exact emp_disj _
            | some b =>
              cases hj : bs[j]? with
              | none => exact disj_emp _
              | some c =>
                refine h3 b c fun e => hij ?_
                subst e
                have e1 := idxOf_self hdiff hi
                have e2 := idxOf_self hdiff hj
                rw [e1] at e2; cases e2; rfl
          · rw [hhl]
            cases hi : bs[i]? with
            | none => exact emp_disj _
            | some b =>
              intro n
              cases hn : rest bs hs Fr n with
              | none => exact .inr rfl
              | some o =>
                left
                rcases hrestcases n o hn with ⟨j, hj1, hj2⟩ | hf
                · have hne : b ≠ j := fun e => by subst e; rw [idxOf_self hdiff hi] at hj1; cases hj1
                  rcases h3 b j hne n with h7 | h7
                  · exact h7
                  · rw [hj2] at h7; cases h7
                · rcases h4 b n with h7 | h7
                  · exact h7
                  · rw [hf] at h7; cases h7
          · rw [hhl]
            cases hi : bs[i]? with
            | none => intro n o hn; simp [emp] at hn
            | some b => exact h5 b
          · rcases hrestcases k o hk with ⟨j, hj1, hj2⟩ | hf
            · exact h5 j k o hj2
            · exact h6 k o hf
        refine (h _ _ el (rest bs hs Fr) w vs hpre1 (denL_ren hin _ _ hargs hd) hMl).mono fun en w' hh => ?_
        obtain ⟨x, H1, ws, e1, v, g1, rfl, g3, g4, g5⟩ := hh
        have hb := hpre2 x H1 ws g1
        unfold backA at hb
        split at hb
        · rename_i hcond2
          simp only [Bool.and_eq_true, Nat.ble_eq, List.all_eq_true] at hcond2
          obtain ⟨hk, hx, hH1⟩ := hcond2
          obtain ⟨k0, hs1, k1, k2, k3, k4, k5, k6⟩ := g4
          -- the whole again
          obtain ⟨e2, he2⟩ : ∃ e2 : Env, ∀ j, e2 j = match idxOf bs j with | some i => e1 i | none => if j < H.length then e j else e1 (bs.length + (j - H.length)) := ⟨_, fun _ => rfl⟩
          obtain ⟨hs2, hhs2⟩ : ∃ hs2 : Nat → PH, ∀ j, hs2 j = match idxOf bs j with | some i => hs1 i | none => if j < H.length then hs j else hs1 (bs.length + (j - H.length)) := ⟨_, fun _ => rfl⟩
          have hout : ∀ j, H.length ≤ j → idxOf bs j = none := fun j hj => by
            cases hq : idxOf bs j with
            | none => rfl
            | some i => have := hblt i j (idxOf_get hq); omega
          have hgam : ∀ i r, e1 i = some r → e2 (gam bs H.length i) = some r := fun i r hr => by
            unfold gam
            cases hi : bs[i]? with
            | some b => rw [he2]; simp only [idxOf_self hdiff hi]; exact hr
            | none =>
              have hge : bs.length ≤ i := by simpa using hi
              rw [he2, hout _ (by simp)]
              simp only [show ¬ H.length + (i - bs.length) < H.length by omega, if_false]
              rw [show bs.length + (H.length + (i - bs.length) - H.length) = i by omega]
              exact hr
          have hle : Le e e2 := fun j r hr => by
            rw [he2]
            cases hq : idxOf bs j with
            | some i =>
              have : el i = some r := by rw [hel, idxOf_get hq]; exact hr
              exact g3 i r this
            | none =>
              have hjl : j < H.length := by
                rcases Nat.lt_or_ge j H.length with hj | hj
                · exact hj
                · rw [(h2 j hj).1] at hr; cases hr
              simp only [hjl, if_true]
              exact ⟨r, hr, r.le_refl⟩
          obtain ⟨H2, hH2⟩ : ∃ H2, H2 = putAll H bs (H1.map (renB (gam bs H.length))) ++ (H1.drop bs.length).map (renB (gam bs H.length)) := ⟨_, rfl⟩
          have hlen2 : H2.length = H.length + (H1.length - bs.length) := by rw [hH2]; simp [putAll_length]
          have hget2 : ∀ j, H2[j]? = match idxOf bs j with | some i => (H1[i]?).map (renB (gam bs H.length)) | none => if j < H.length then H[j]? else (H1[bs.length + (j - H.length)]?).map (renB (gam bs H.length)) := fun j => by
            rw [hH2]
            rcases Nat.lt_or_ge j H.length with hj | hj
            · rw [List.getElem?_append_left (by rw [putAll_length]; exact hj)]
              cases hq : idxOf bs j with
              | some i => rw [putAll_in _ _ _ _ _ hdiff hj hq (by simpa using hk)]; simp
              | none => rw [putAll_out _ _ _ _ hq]; simp [hj]
            · rw [List.getElem?_append_right (by rw [putAll_length]; exact hj), putAll_length, hout j hj]
              simp only [show ¬ j < H.length by omega, if_false]
              rw [List.getElem?_map, List.getElem?_drop]
          have hcross : ∀ i j, idxOf bs j = none → j < H.length → Disj (hs1 i) (hs j) := fun i j hj hjl n => by
            cases hn : hs j n with
            | none => exact .inr rfl
            | some o =>
              left
              rcases k4 i n with h7 | h7
              · exact h7
              · rw [hrest j hj n o hn] at h7; cases h7
          have hM2 : Models I e2 H2 Fr w' := by
            refine ⟨⟨k0.os, k0.out, h0.ro⟩, hs2, fun j b hj => ?_, fun j hj => ?_, fun i j hij => ?_, fun j => ?_, fun j => ?_, fun n o hn => k6 n o (hrestF n o hn)⟩
            · rw [hget2] at hj
              rw [he2, hhs2]
              cases hq : idxOf bs j with
              | some i =>
                simp only [hq, Option.map_eq_some_iff] at hj ⊢
                obtain ⟨b1, hb1, rfl⟩ := hj
                exact item_ren (fun i r _ hr => hgam i r hr) (hH1 b1 (List.mem_of_getElem? hb1)) (k1 i b1 hb1)
              | none =>
                simp only [hq] at hj ⊢
                split at hj
                · rename_i hjl
                  simp only [hjl, if_true]
                  exact (h1 j b hj).mono I hle
                · rename_i hjl
                  simp only [hjl, if_false]
                  simp only [Option.map_eq_some_iff] at hj
                  obtain ⟨b1, hb1, rfl⟩ := hj
                  exact item_ren (fun i r _ hr => hgam i r hr) (hH1 b1 (List.mem_of_getElem? hb1)) (k1 _ b1 hb1)
            · rw [hlen2] at hj
              rw [he2, hhs2, hout j (by omega)]
              simp only [show ¬ j < H.length by omega, if_false]
              exact k2 _ (by omega)
            · rw [hhs2, hhs2]
              cases hi : idxOf bs i with
              | some a =>
                cases hj : idxOf bs j with
                | some c =>
                  refine k3 a c fun e => hij ?_
                  subst e
                  have e3 := idxOf_get hi
                  have e4 := idxOf_get hj
                  rw [e3] at e4; cases e4; rfl
                | none =>
                  simp only
                  split
                  · rename_i hjl; exact hcross a j hj hjl
                  · rename_i hjl
                    refine k3 _ _ fun e => ?_
                    have := (List.getElem?_eq_some_iff.1 (idxOf_get hi)).1
                    omega
              | none =>
                cases hj : idxOf bs j with
                | some c =>
                  simp only
                  split
                  · rename_i hil; exact (hcross c i hi hil).symm
                  · rename_i hil
                    refine k3 _ _ fun e => ?_
                    have := (List.getElem?_eq_some_iff.1 (idxOf_get hj)).1
                    omega
                | none =>
                  simp only
                  split
                  · rename_i hil
                    split
                    · exact h3 i j hij
                    · exact (hcross _ i hi hil).symm
                  · rename_i hil
                    split
                    · rename_i hjl; exact hcross _ j hj hjl
                    · exact k3 _ _ (by omega)
            · rw [hhs2]
              have hF1 : ∀ i, Disj (hs1 i) Fr := fun i n => by
                cases hn : Fr n with
                | none => exact .inr rfl
                | some o =>
                  left
                  rcases k4 i n with h7 | h7
                  · exact h7
                  · rw [hrestF n o hn] at h7; cases h7
              cases hi : idxOf bs j with
              | some a => exact hF1 a
              | none =>
                simp only
                split
                · exact h4 j
                · exact hF1 _
            · rw [hhs2]
              cases hi : idxOf bs j with
              | some a => exact k5 a
              | none =>
                simp only
                split
                · exact fun n o hn => k6 n o (hrest j hi n o hn)
                · exact k5 _
          refine ⟨renS (gam bs H.length) x, H2, bs, e2, v, mapAlt_has g1 ?_, rfl, hle, hM2, den_ren (fun i r _ hr => hgam i r hr) _ _ hx g5⟩
          unfold backA
          have hc3 : (Nat.ble bs.length H1.length && (allS (fun i => Nat.blt i H1.length) x && H1.all (allB fun i => Nat.blt i H1.length))) = true := by
            simp only [Bool.and_eq_true, Nat.ble_eq, List.all_eq_true]
            exact ⟨hk, hx, hH1⟩
          rw [hc3]
          exact ⟨rfl, hH2, rfl⟩
        · exact hb.elim
      · subst hac; exact hpre.elim
    · subst hac; exact hpre.elim

end Go.Sym
