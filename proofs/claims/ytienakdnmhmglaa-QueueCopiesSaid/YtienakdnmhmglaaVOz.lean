/- The symbolic step of every operation that makes memory or writes it, whole: what it leaves alone, and what it hangs on. -/
import Derived.Test.YtienakdnmhmglaaVOk
set_option linter.unusedSimpArgs false
set_option linter.unusedVariables false
set_option linter.unusedSectionVars false
namespace Go.Sym
open Go
variable {P : Program} {w : World} {τ : Type} {I : Inv τ}

/-- The blocks of before that an operation of the first kinds writes. -/
def writeS (op : Op) (tm : List SV) : List Nat :=
  match op with
  | .store _ a _ => match ev tm a with
    | .p b _ => [b]
    | _ => []
  | .next x _ => match ev tm x with
    | .p b _ => [b]
    | _ => []
  | .call { callee := .builtin .copy, args, .. } => match args.toList.map (ev tm) with
    | .s b _ _ _ :: _ => [b]
    | _ => []
  | _ => []
def stepO (P : Program) (op : Op) (tm : List SV) (H : List (SB τ)) : LR τ :=
  match op with
  | .store T a x => match storeH P T (ev tm a) (ev tm x) H with
    | some r => some r
    | none => putL P T (ev tm a) (ev tm x) H
  | .call { callee := .builtin b, args, argTypes } => match b with
    | .append => match argTypes.toList, args.toList.map (ev tm) with
      | [t, t'], [s, x] => match Nat.beq t' t with
        | true => match appendH P t s x H with
          | some r => some r
          | none => appendL P t s x H
        | false => none
      | _, _ => none
    | .copy => match argTypes.toList, args.toList.map (ev tm) with
      | [D, _], [d, x] => match copyH P D d x H with
        | some r => some r
        | none => copyL P D d x H
      | _, _ => none
    | _ => none
  | .makeSlice T l c => makeH P T (ev tm l) (ev tm c) H
  | _ => none
/-- The operations of package strings' Builder, and a map that is made. -/
def stepP (P : Program) (op : Op) (tm : List SV) (H : List (SB τ)) : LR τ :=
  match op with
  | .call { callee := .builtin b, args, argTypes } => match b with
    | .unsafeSliceData => match args.toList.map (ev tm) with
      | [x] => dataH x H
      | _ => none
    | .unsafeString => match argTypes.toList, args.toList.map (ev tm) with
      | [pt, _], [x, k] => ustrH P pt x k H
      | _, _ => none
    | _ => none
  | .call { callee := .value f, args, .. } => escH P (ev tm f) (args.toList.map (ev tm)) H
  | .makeMap _ none => mapH H
  | _ => none
def stepL (P : Program) (op : Op) (tm : List SV) (H : List (SB τ)) : LR τ :=
  match stepA P op tm H with
  | some (x, H') => some (true, x, H', writeS op tm)
  | none => match stepI P op tm H with
    | some (c, x, H') => some (c, x, H', writeS op tm)
    | none => match stepO P op tm H with
      | some r => some r
      | none => stepP P op tm H

theorem stepO_ok {e : Env} {tm : List SV} {a : Act} {H H' : List (SB τ)} {Fr : PH} {o : Oper} {x : SV} {c : Bool} {ws : List Nat} (hM : Models I e H Fr w) (ht : DenL e tm a.tmps.toList)
    (h : stepO P o.op tm H = some (c, x, H', ws)) (hc : c = true) : GaveL I P o a e Fr w x H' := by
  unfold stepO at h
  split at h
  · rename_i T oa ox hop
    have hst : ∃ w', (Instr.storeAt T (a.eval oa) (a.eval ox)).run P w = .ok () w' ∧ Models I e H' Fr w' ∧ x = .v undef := by
      split at h
      · rename_i r hr
        simp only [Option.some.injEq] at h
        subst h
        exact storeH_ok (P := P) hM hr hc (ev_ok ht oa) (ev_ok ht ox)
      · exact putL_ok (P := P) hM h hc (ev_ok ht oa) (ev_ok ht ox)
    obtain ⟨w', h1, h2, rfl⟩ := hst
    exact ⟨.skip, undef, w', e, by simp [execOp, hop, h1], .inr ⟨rfl, rfl⟩, Le.refl e, h2, by simp [Den]⟩
  · rename_i b args ats hop
    have hev := evs_ok ht args.toList
    split at h
    · split at h
      · rename_i t t' s y hat hargs
        split at h
        · rename_i htt
          rw [Nat.beq_eq] at htt
          subst htt
          rw [hargs] at hev
          simp only [DenL] at hev
          obtain ⟨v1, r1, e1, d1, v2, r2, rfl, d2, rfl⟩ := hev
          have hargs' : args.map a.eval = #[v1, v2] := by apply Array.toList_inj.1; simpa using e1
          have hats : ats = #[t', t'] := by apply Array.toList_inj.1; simpa using hat
          have happ : ∃ r w' e', (Builtin.append_ #[t', t'] o.type #[v1, v2]).run P w = .ok r w' ∧ Le e e' ∧ Models I e' H' Fr w' ∧ Den e' x r := by
            split at h
            · rename_i r hr
              simp only [Option.some.injEq] at h
              subst h
              exact appendH_ok (P := P) (ty := o.type) hM hr hc d1 d2
            · exact appendL_ok (P := P) (ty := o.type) hM h hc d1 d2
          obtain ⟨r, w', e', h1, h2, h3, h4⟩ := happ
          refine ⟨.value r, r, w', e', ?_, .inl rfl, h2, h3, h4⟩
          simp only [execOp, hop, resolve, hargs', invoke, hats, builtin, Sem.run_bind, Sem.run_pure, Result.andThen_ok, h1]
        · cases h
      · cases h
    · split at h
      · rename_i D D' d y hat hargs
        rw [hargs] at hev
        simp only [DenL] at hev
        obtain ⟨v1, r1, e1, d1, v2, r2, rfl, d2, rfl⟩ := hev
        have hargs' : args.map a.eval = #[v1, v2] := by apply Array.toList_inj.1; simpa using e1
        have hats : ats = #[D, D'] := by apply Array.toList_inj.1; simpa using hat
        have hcp : ∃ r w' e', (Builtin.copy_ #[D, D'] o.type #[v1, v2]).run P w = .ok r w' ∧ Le e e' ∧ Models I e' H' Fr w' ∧ Den e' x r := by
          split at h
          · rename_i r hr
            simp only [Option.some.injEq] at h
            subst h
            obtain ⟨r, w', h1, h3, h4⟩ := copyH_ok (P := P) (D' := D') (ty := o.type) hM hr hc d1 d2
            exact ⟨r, w', e, h1, Le.refl e, h3, h4⟩
          · exact copyL_ok (P := P) (D' := D') (ty := o.type) hM h hc d1 d2
        obtain ⟨r, w', e', h1, h2, h3, h4⟩ := hcp
        refine ⟨.value r, r, w', e', ?_, .inl rfl, h2, h3, h4⟩
        simp only [execOp, hop, resolve, hargs', invoke, hats, builtin, Sem.run_bind, Sem.run_pure, Result.andThen_ok, h1]
      · cases h
    · cases h
  · rename_i T ol oc hop
    obtain ⟨r, w', e', h1, h2, h3, h4⟩ := makeH_ok (P := P) hM h hc (ev_ok ht ol) (ev_ok ht oc)
    exact ⟨.value r, r, w', e', by simp [execOp, hop, h1], .inl rfl, h2, h3, h4⟩
  · cases h
theorem stepP_ok {e : Env} {tm : List SV} {a : Act} {H H' : List (SB τ)} {Fr : PH} {o : Oper} {x : SV} {c : Bool} {ws : List Nat} (hM : Models I e H Fr w) (ht : DenL e tm a.tmps.toList)
    (h : stepP P o.op tm H = some (c, x, H', ws)) (hc : c = true) : GaveL I P o a e Fr w x H' := by
  unfold stepP at h
  split at h
  · rename_i b args ats hop
    have hev := evs_ok ht args.toList
    split at h
    · split at h
      · rename_i y hargs
        rw [hargs] at hev
        simp only [DenL] at hev
        obtain ⟨v1, r1, e1, d1, rfl⟩ := hev
        have hargs' : args.map a.eval = #[v1] := by apply Array.toList_inj.1; simpa using e1
        obtain ⟨r, h1, rfl, h2⟩ := dataH_ok (P := P) ats o.type hM h hc d1
        refine ⟨.value r, r, w, e, ?_, .inl rfl, Le.refl e, hM, h2⟩
        simp only [execOp, hop, resolve, hargs', invoke, builtin, Sem.run_bind, Sem.run_pure, Result.andThen_ok, h1]
      · cases h
    · split at h
      · rename_i pt it y k hat hargs
        rw [hargs] at hev
        simp only [DenL] at hev
        obtain ⟨v1, r1, e1, d1, v2, r2, rfl, d2, rfl⟩ := hev
        have hargs' : args.map a.eval = #[v1, v2] := by apply Array.toList_inj.1; simpa using e1
        have hats : ats = #[pt, it] := by apply Array.toList_inj.1; simpa using hat
        obtain ⟨r, w', h1, h3, h4⟩ := ustrH_ok (P := P) (it := it) o.type hM h hc d1 d2
        refine ⟨.value r, r, w', e, ?_, .inl rfl, Le.refl e, h3, h4⟩
        simp only [execOp, hop, resolve, hargs', hats, invoke, builtin, Sem.run_bind, Sem.run_pure, Result.andThen_ok, h1]
      · cases h
    · cases h
  · rename_i f args ats hop
    have hfv := ev_ok ht f
    have hev := evs_ok ht args.toList
    unfold escH at h
    split at h
    · rename_i y hf
      rw [hf] at hfv
      simp only [Den] at hfv
      split at h
      · rename_i g fa fc
        split at h
        · rename_i hfa
          split at h
          · rename_i hfc
            split at h
            · rename_i z hargs
              rw [hargs] at hev
              simp only [DenL] at hev
              obtain ⟨v1, r1, e1, d1, rfl⟩ := hev
              have hargs' : args.map a.eval = #[v1] := by apply Array.toList_inj.1; simpa using e1
              have hfa' : fa = #[] := by simpa using hfa
              have hfc' : fc = #[] := by simpa using hfc
              subst hfa'; subst hfc'
              split at h
              · rename_i fn hfn
                split at h
                · rename_i hcond
                  simp only [Bool.and_eq_true, beq_iff_eq] at hcond
                  simp only [Option.some.injEq, Prod.mk.injEq] at h
                  obtain ⟨_, rfl, rfl, _⟩ := h
                  have hrun := run_esc (P := P) (w := w) (v := v1) hfn hcond.1 hcond.2.1 hcond.2.2
                  refine ⟨.value v1, v1, w, e, ?_, .inl rfl, Le.refl e, hM, d1⟩
                  simp [execOp, hop, resolve, hfv, hargs', Deferred.ofValue, invoke, hrun]
                · cases h
              · cases h
            · cases h
          · cases h
        · cases h
      · cases h
    · cases h
  · rename_i T hop
    unfold mapH at h
    simp only [Option.some.injEq, Prod.mk.injEq] at h
    obtain ⟨_, rfl, rfl, _⟩ := h
    obtain ⟨r, w', e', h1, h2, h3, h4⟩ := mapH_ok (P := P) T hM
    exact ⟨.value r, r, w', e', by simp [execOp, hop, h1], .inl rfl, h2, h3, h4⟩
  · cases h
theorem stepL_ok {e : Env} {tm : List SV} {a : Act} {H H' : List (SB τ)} {Fr : PH} {o : Oper} {x : SV} {c : Bool} {ws : List Nat} (hM : Models I e H Fr w) (ht : DenL e tm a.tmps.toList)
    (h : stepL P o.op tm H = some (c, x, H', ws)) (hc : c = true) : GaveL I P o a e Fr w x H' := by
  unfold stepL at h
  split at h
  · rename_i y H2 hA
    simp only [Option.some.injEq, Prod.mk.injEq] at h
    obtain ⟨_, rfl, rfl, _⟩ := h
    exact (stepA_ok hM ht hA).loud
  · split at h
    · rename_i c' y H2 hI
      simp only [Option.some.injEq, Prod.mk.injEq] at h
      obtain ⟨rfl, rfl, rfl, _⟩ := h
      exact (stepI_ok hM ht hI hc).loud
    · split at h
      · rename_i r hr
        simp only [Option.some.injEq] at h
        subst h
        exact stepO_ok hM ht hr hc
      · exact stepP_ok hM ht h hc

/-! ### What is left alone -/
theorem stepA_keeps {P : Program} {op : Op} {tm : List SV} {H H' : List (SB τ)} {x : SV} {b : Nat} (h : stepA P op tm H = some (x, H')) (hw : hasN (writeS op tm) b = false) (hb : b < H.length) : H'[b]? = H[b]? ∧ H.length ≤ H'.length := by
  unfold stepA at h
  split at h
  · split at h
    · simp only [Option.some.injEq, Prod.mk.injEq] at h; obtain ⟨_, rfl⟩ := h; exact ⟨List.getElem?_append_left hb, by simp⟩
    · cases h
  · split at h
    · simp only [Option.some.injEq, Prod.mk.injEq] at h; obtain ⟨_, rfl⟩ := h; exact ⟨List.getElem?_append_left hb, by simp⟩
    · cases h
  · split at h
    · split at h
      · split at h
        · simp only [Option.some.injEq, Prod.mk.injEq] at h; obtain ⟨_, rfl⟩ := h; exact ⟨List.getElem?_append_left hb, by simp⟩
        · cases h
      · cases h
    · cases h
  · split at h
    · rename_i b' o he
      split at h
      · split at h
        · simp only [Option.some.injEq, Prod.mk.injEq] at h; obtain ⟨_, rfl⟩ := h
          simp only [writeS, he] at hw
          exact ⟨get_set_out hw, by simp⟩
        · cases h
      · cases h
    · cases h
  · split at h
    · simp only [Option.some.injEq, Prod.mk.injEq] at h; obtain ⟨_, rfl⟩ := h; exact ⟨List.getElem?_append_left hb, by simp⟩
    · cases h
  · split at h
    · rename_i b' he
      split at h
      · split at h
        · simp only [Option.some.injEq, Prod.mk.injEq] at h; obtain ⟨_, rfl⟩ := h
          simp only [writeS, he] at hw
          exact ⟨get_set_out hw, by simp⟩
        · simp only [Option.some.injEq, Prod.mk.injEq] at h; obtain ⟨_, rfl⟩ := h; exact ⟨rfl, Nat.le_refl _⟩
      · cases h
    · cases h
  · cases h
theorem stepI_keeps {P : Program} {op : Op} {tm : List SV} {H H' : List (SB τ)} {c : Bool} {x : SV} {b : Nat} (h : stepI P op tm H = some (c, x, H')) (hw : hasN (writeS op tm) b = false) : H'[b]? = H[b]? ∧ H.length ≤ H'.length := by
  unfold stepI at h
  split at h
  · split at h
    · rename_i b' o k m he hx
      split at h
      · split at h
        · simp only [Option.some.injEq, Prod.mk.injEq] at h; obtain ⟨_, _, rfl⟩ := h
          simp only [writeS, he] at hw
          exact ⟨get_set_out hw, by simp⟩
        · cases h
      · cases h
    · cases h
  · split at h
    · rename_i hat hargs
      split at h
      · split at h
        · split at h
          · simp only [Option.some.injEq, Prod.mk.injEq] at h; obtain ⟨_, _, rfl⟩ := h
            simp only [writeS, hargs] at hw
            exact ⟨get_set_out hw, by simp⟩
          · cases h
        · cases h
      · cases h
    · cases h
  · cases h

theorem setR_keeps {H H' : List (SB τ)} {b k : Nat} {sel : Option Nat} {cn : Cn} (h : setR H b sel cn = some H') (hw : hasN [b] k = false) : H'[k]? = H[k]? ∧ H.length ≤ H'.length := by
  unfold setR at h
  split at h
  · split at h
    · simp only [Option.some.injEq] at h; subst h; exact ⟨get_set_out hw, by simp⟩
    · cases h
  · split at h
    · split at h
      · simp only [Option.some.injEq] at h; subst h; exact ⟨get_set_out hw, by simp⟩
      · cases h
    · cases h
  · cases h
theorem storeH_keeps {T : TypeId} {a x z : SV} {H H' : List (SB τ)} {c : Bool} {ws : List Nat} {k : Nat} (h : storeH P T a x H = some (c, z, H', ws)) (hw : hasN ws k = false) : H'[k]? = H[k]? ∧ H.length ≤ H'.length := by
  unfold storeH at h
  split at h
  · split at h
    · split at h
      · split at h
        · split at h
          · rename_i hset
            simp only [Option.some.injEq, Prod.mk.injEq] at h
            obtain ⟨_, _, rfl, rfl⟩ := h
            exact setR_keeps hset hw
          · cases h
        · cases h
      · cases h
    · cases h
  · cases h
theorem appendH_keeps {t : TypeId} {s x z : SV} {H H' : List (SB τ)} {c : Bool} {ws : List Nat} {k : Nat} (h : appendH P t s x H = some (c, z, H', ws)) (hw : hasN ws k = false) (hk : k < H.length) : H'[k]? = H[k]? ∧ H.length ≤ H'.length := by
  unfold appendH at h
  split at h
  · split at h
    · split at h
      · split at h
        · split at h
          · split at h
            · simp only [Option.some.injEq, Prod.mk.injEq] at h
              obtain ⟨_, _, rfl, _⟩ := h
              exact ⟨List.getElem?_append_left hk, by simp⟩
            · simp only [Option.some.injEq, Prod.mk.injEq] at h
              obtain ⟨_, _, rfl, rfl⟩ := h
              exact ⟨by rw [List.getElem?_append_left (by simpa using hk)]; exact get_set_out hw, by simp⟩
            · simp only [Option.some.injEq, Prod.mk.injEq] at h
              obtain ⟨_, _, rfl, rfl⟩ := h
              exact ⟨get_set_out hw, by simp⟩
          · cases h
        · cases h
      · cases h
    · cases h
  · cases h
theorem makeH_keeps {t : TypeId} {s x z : SV} {H H' : List (SB τ)} {c : Bool} {ws : List Nat} {k : Nat} (h : makeH P t s x H = some (c, z, H', ws)) (hk : k < H.length) : H'[k]? = H[k]? ∧ H.length ≤ H'.length := by
  unfold makeH at h
  split at h
  · split at h
    · split at h
      · split at h
        · simp only [Option.some.injEq, Prod.mk.injEq] at h
          obtain ⟨_, _, rfl, _⟩ := h
          exact ⟨List.getElem?_append_left hk, by simp⟩
        · cases h
      · cases h
    · cases h
  · cases h
theorem copyH_keeps {t : TypeId} {s x z : SV} {H H' : List (SB τ)} {c : Bool} {ws : List Nat} {k : Nat} (h : copyH P t s x H = some (c, z, H', ws)) (hw : hasN ws k = false) : H'[k]? = H[k]? ∧ H.length ≤ H'.length := by
  unfold copyH at h
  split at h
  · split at h
    · split at h
      · split at h
        · split at h
          · split at h
            · rename_i hset
              simp only [Option.some.injEq, Prod.mk.injEq] at h
              obtain ⟨_, _, rfl, rfl⟩ := h
              exact setR_keeps hset hw
            · cases h
          · cases h
        · cases h
      · cases h
    · cases h
  · cases h
theorem stepO_keeps {op : Op} {tm : List SV} {H H' : List (SB τ)} {c : Bool} {x : SV} {ws : List Nat} {k : Nat} (h : stepO P op tm H = some (c, x, H', ws)) (hw : hasN ws k = false) (hk : k < H.length) : H'[k]? = H[k]? ∧ H.length ≤ H'.length := by
  unfold stepO at h
  split at h
  · split at h
    · rename_i r hr
      simp only [Option.some.injEq] at h
      subst h
      exact storeH_keeps hr hw
    · exact putL_keeps h hw
  · split at h
    · split at h
      · split at h
        · split at h
          · rename_i r hr
            simp only [Option.some.injEq] at h
            subst h
            exact appendH_keeps hr hw hk
          · exact appendL_keeps h hw
        · cases h
      · cases h
    · split at h
      · split at h
        · rename_i r hr
          simp only [Option.some.injEq] at h
          subst h
          exact copyH_keeps hr hw
        · exact copyL_keeps h hw
      · cases h
    · cases h
  · exact makeH_keeps h hk
  · cases h
theorem stepP_keeps {op : Op} {tm : List SV} {H H' : List (SB τ)} {c : Bool} {x : SV} {ws : List Nat} {k : Nat} (h : stepP P op tm H = some (c, x, H', ws)) (hw : hasN ws k = false) (hk : k < H.length) : H'[k]? = H[k]? ∧ H.length ≤ H'.length := by
  unfold stepP at h
  split at h
  · split at h
    · split at h
      · unfold dataH at h
        repeat' (split at h)
        all_goals (first | (cases h; done) | (simp only [Option.some.injEq, Prod.mk.injEq] at h; obtain ⟨_, _, rfl, _⟩ := h; exact ⟨rfl, Nat.le_refl _⟩))
      · cases h
    · split at h
      · unfold ustrH at h
        repeat' (split at h)
        all_goals (first | (cases h; done) | (simp only [Option.some.injEq, Prod.mk.injEq] at h; obtain ⟨_, _, rfl, rfl⟩ := h; exact ⟨rfl, Nat.le_refl _⟩) | (simp only [Option.some.injEq, Prod.mk.injEq] at h; obtain ⟨_, _, rfl, rfl⟩ := h; exact ⟨get_set_out hw, by simp⟩))
      · cases h
    · cases h
  · unfold escH at h
    repeat' (split at h)
    all_goals (first | (cases h; done) | (simp only [Option.some.injEq, Prod.mk.injEq] at h; obtain ⟨_, _, rfl, _⟩ := h; exact ⟨rfl, Nat.le_refl _⟩))
  · unfold mapH at h
    simp only [Option.some.injEq, Prod.mk.injEq] at h
    obtain ⟨_, _, rfl, _⟩ := h
    exact ⟨List.getElem?_append_left hk, by simp⟩
  · cases h
theorem stepL_keeps {op : Op} {tm : List SV} {H H' : List (SB τ)} {c : Bool} {x : SV} {ws : List Nat} {k : Nat} (h : stepL P op tm H = some (c, x, H', ws)) (hw : hasN ws k = false) (hk : k < H.length) : H'[k]? = H[k]? ∧ H.length ≤ H'.length := by
  unfold stepL at h
  split at h
  · rename_i hA
    simp only [Option.some.injEq, Prod.mk.injEq] at h
    obtain ⟨_, rfl, rfl, rfl⟩ := h
    exact stepA_keeps hA hw hk
  · split at h
    · rename_i hI
      simp only [Option.some.injEq, Prod.mk.injEq] at h
      obtain ⟨_, rfl, rfl, rfl⟩ := h
      exact stepI_keeps hI hw
    · split at h
      · rename_i r hr
        simp only [Option.some.injEq] at h
        subst h
        exact stepO_keeps hr hw hk
      · exact stepP_keeps h hw hk

/-! ### Only the operands count -/
theorem stepA_congr {P : Program} {op : Op} {tm tm' : List SV} {H : List (SB τ)} (h : ∀ o ∈ op.operands.toList, ev tm o = ev tm' o) : stepA P op tm H = stepA P op tm' H := by
  cases op with
  | buildSlice T len parts =>
    simp only [Op.operands] at h
    have e : parts.toList.map (fun p => (p.1, ev tm p.2)) = parts.toList.map (fun p => (p.1, ev tm' p.2)) := by
      refine List.map_congr_left fun p hp => ?_
      rw [h p.2 (by simp; exact ⟨p.1, by simpa using hp⟩)]
    simp only [stepA, e]
  | next it b =>
    have e1 := h it (by simp [Op.operands])
    cases b <;> simp only [stepA, e1]
  | _ => simp only [stepA] <;> simp_all [Op.operands]
theorem stepI_congr {P : Program} {op : Op} {tm tm' : List SV} {H : List (SB τ)} (h : ∀ o ∈ op.operands.toList, ev tm o = ev tm' o) : stepI P op tm H = stepI P op tm' H := by
  cases op with
  | call c =>
    obtain ⟨callee, args, ats⟩ := c
    simp only [Op.operands, Call.operands, Array.toList_append, List.mem_append] at h
    have e := ev_map_congr (l := args.toList) fun o ho => h o (.inr ho)
    cases callee <;> simp only [stepI]
    rename_i b
    cases b <;> simp only [e]
  | store T a x =>
    have e1 := h a (by simp [Op.operands])
    have e2 := h x (by simp [Op.operands])
    simp only [stepI, e1, e2]
  | _ => simp only [stepI]
theorem stepO_congr {P : Program} {op : Op} {tm tm' : List SV} {H : List (SB τ)} (h : ∀ o ∈ op.operands.toList, ev tm o = ev tm' o) : stepO P op tm H = stepO P op tm' H := by
  cases op with
  | call c =>
    obtain ⟨callee, args, ats⟩ := c
    simp only [Op.operands, Call.operands, Array.toList_append, List.mem_append] at h
    have e := ev_map_congr (l := args.toList) fun o ho => h o (.inr ho)
    cases callee <;> simp only [stepO]
    rename_i b
    cases b <;> simp only [e]
  | store T a x =>
    have e1 := h a (by simp [Op.operands])
    have e2 := h x (by simp [Op.operands])
    simp only [stepO, e1, e2]
  | makeSlice T x y =>
    have e1 := h x (by simp [Op.operands])
    have e2 := h y (by simp [Op.operands])
    simp only [stepO, e1, e2]
  | _ => simp only [stepO]
theorem stepP_congr {P : Program} {op : Op} {tm tm' : List SV} {H : List (SB τ)} (h : ∀ o ∈ op.operands.toList, ev tm o = ev tm' o) : stepP P op tm H = stepP P op tm' H := by
  cases op with
  | call c =>
    obtain ⟨callee, args, ats⟩ := c
    simp only [Op.operands, Call.operands, Array.toList_append, List.mem_append] at h
    have e := ev_map_congr (l := args.toList) fun o ho => h o (.inr ho)
    cases callee with
    | builtin b => simp only [stepP]; cases b <;> simp only [e]
    | value f =>
      have e1 := h f (.inl (by simp))
      simp only [stepP, e, e1]
    | _ => simp only [stepP]
  | makeMap T r => cases r <;> simp only [stepP]
  | _ => simp only [stepP]
theorem writeS_congr {op : Op} {tm tm' : List SV} (h : ∀ o ∈ op.operands.toList, ev tm o = ev tm' o) : writeS op tm = writeS op tm' := by
  cases op with
  | call c =>
    obtain ⟨callee, args, ats⟩ := c
    simp only [Op.operands, Call.operands, Array.toList_append, List.mem_append] at h
    have e := ev_map_congr (l := args.toList) fun o ho => h o (.inr ho)
    cases callee <;> simp only [writeS]
    rename_i b
    cases b <;> simp only [e]
  | store T a x => have e1 := h a (by simp [Op.operands]); simp only [writeS, e1]
  | next x y => have e1 := h x (by simp [Op.operands]); simp only [writeS, e1]
  | _ => simp only [writeS]
theorem stepL_congr {P : Program} {op : Op} {tm tm' : List SV} {H : List (SB τ)} (h : ∀ o ∈ op.operands.toList, ev tm o = ev tm' o) : stepL P op tm H = stepL P op tm' H := by
  simp only [stepL, stepA_congr h, stepI_congr h, stepO_congr h, stepP_congr h, writeS_congr h]

end Go.Sym
