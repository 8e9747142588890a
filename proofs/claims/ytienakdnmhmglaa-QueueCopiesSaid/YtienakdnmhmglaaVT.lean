/- Contracts over some items, shown by running the code; what is read alone is handed over by itself; tables of contracts. -/
import Derived.Test.YtienakdnmhmglaaVU
set_option linter.unusedSimpArgs false
set_option linter.unusedVariables false
set_option linter.unusedSectionVars false
namespace Go.Sym
open Go
variable {τ : Type} {I : Inv τ} {P : Program}

/-! ### What is read alone is handed over by itself -/
def vacGo : List SV → List (SB τ) → List SV × List (SB τ) × Bool
  | [], H => ([], H, true)
  | x :: r, H => match viewB x H with
    | some (_, p, ic) => match navS ic p with
      | some (q, node) => match vacGo r (H ++ [.inp node]) with
        | (r', H', q') => (.r H.length [] :: r', H', q && q')
      | none => match vacGo r H with
        | (r', H', q') => (x :: r', H', q')
    | none => match vacGo r H with
      | (r', H', q') => (x :: r', H', q')
theorem vacGo_keeps : ∀ {args : List SV} {H : List (SB τ)}, H.length ≤ (vacGo args H).2.1.length ∧ ∀ i, i < H.length → (vacGo args H).2.1[i]? = H[i]?
  | [], H => ⟨Nat.le_refl _, fun _ _ => rfl⟩
  | x :: r, H => by
    unfold vacGo
    split
    · split
      · rename_i q node _
        have ih := vacGo_keeps (args := r) (H := H ++ [.inp node])
        generalize vacGo r (H ++ [.inp node]) = t at ih
        obtain ⟨r', H', q'⟩ := t
        refine ⟨by have := ih.1; simp at this ⊢; omega, fun i hi => ?_⟩
        have := ih.2 i (by simp; omega)
        simp only at this ⊢
        rw [this, List.getElem?_append_left hi]
      · have ih := vacGo_keeps (args := r) (H := H)
        generalize vacGo r H = t at ih
        obtain ⟨r', H', q'⟩ := t
        exact ih
    · have ih := vacGo_keeps (args := r) (H := H)
      generalize vacGo r H = t at ih
      obtain ⟨r', H', q'⟩ := t
      exact ih
theorem view_shift {ro : PH} {g : List Nat → Value} {p : List Nat} : ∀ {ic : IC} {s : List Nat}, View ro g ic (p ++ s) → View ro (fun q => g (p ++ q)) ic s
  | .pl _, _, _ => trivial
  | .ss L, s, h => by
    obtain ⟨h1, h2⟩ := h
    refine ⟨h1, ?_⟩
    simpa only [List.append_assoc] using h2
  | .sl n sz c, s, h => by
    obtain ⟨h1, h2 | ⟨b, o, sp, cap, h2, h3⟩⟩ := h
    · exact ⟨h1, .inl h2⟩
    · refine ⟨h1, .inr ⟨b, o, sp, cap, h2, fun i fo hi hf => ?_⟩⟩
      obtain ⟨g0, g1, cs, T, fz, x, g2, g3, g4, g5⟩ := h3 i fo hi hf
      rw [List.append_assoc] at g1 g5
      refine ⟨g0, g1, cs, T, fz, x, g2, g3, ?_, view_shift g5⟩
      simpa only [List.append_assoc] using g4
theorem vacGo_ok : ∀ {args : List SV} {H : List (SB τ)} {e : Env} {Fr : PH} {w : World} {vs : List Value}, (vacGo args H).2.2 = true → DenL e args vs → Models I e H Fr w →
    ∃ e', Le e e' ∧ Models I e' (vacGo args H).2.1 Fr w ∧ DenL e' (vacGo args H).1 vs
  | [], H, e, Fr, w, vs, _, hd, hM => ⟨e, Le.refl e, hM, hd⟩
  | x :: r, H, e, Fr, w, vs, hq, hd, hM => by
    simp only [DenL] at hd
    obtain ⟨v, us, rfl, hx, hr⟩ := hd
    have same : (vacGo r H).2.2 = true → ∃ e', Le e e' ∧ Models I e' (vacGo r H).2.1 Fr w ∧ DenL e' (x :: (vacGo r H).1) (v :: us) := fun hq => by
      obtain ⟨e', h1, h2, h3⟩ := vacGo_ok hq hr hM
      exact ⟨e', h1, h2, by simp only [DenL]; exact ⟨v, us, rfl, hx.mono h1, h3⟩⟩
    unfold vacGo at hq ⊢
    split at hq
    · rename_i b p ic hv
      split at hq
      · rename_i q node hn
        obtain ⟨rfl, g, g1, g2, g3, _⟩ := viewB_ok hM hv hx
        have hsplit : (vacGo r (H ++ [.inp node])).2.2 = true ∧ q = true := by
          generalize vacGo r (H ++ [.inp node]) = t at hq
          obtain ⟨r', H', q'⟩ := t
          simp only [Bool.and_eq_true] at hq
          exact ⟨hq.2, hq.1⟩
        have hnode := navS_ok g3 hn hsplit.2
        simp only [List.nil_append] at hnode
        have hle : Le e (ext e H.length (.rd fun s => g (p ++ s))) := le_ext hM.fresh
        have hM2 : Models I (ext e H.length (.rd fun s => g (p ++ s))) (H ++ [.inp node]) Fr w := hM.add (hn := emp) ⟨_, rfl, rfl, view_shift (by simpa using hnode)⟩ (Ext.refl w) (fun k o hk => by simp [emp] at hk) (fun k hk => by simp [emp] at hk)
        obtain ⟨e', h1, h2, h3⟩ := vacGo_ok hsplit.1 (hr.mono hle) hM2
        refine ⟨e', hle.trans h1, ?_, ?_⟩
        · generalize vacGo r (H ++ [.inp node]) = t at h2 ⊢
          obtain ⟨r', H', q'⟩ := t
          simp only [hn]
          exact h2
        · have hv1 : Den e' (.r H.length []) v := by
            simp only [Den] at hx ⊢
            obtain ⟨g', k1, k2, k3⟩ := hx
            rw [g1] at k1; cases k1
            exact ⟨_, h1.rd (ext_self _ _ _), by simpa using k2, k3⟩
          generalize vacGo r (H ++ [.inp node]) = t at h3 ⊢
          obtain ⟨r', H', q'⟩ := t
          simp only [hn, DenL]
          exact ⟨v, us, rfl, hv1, h3⟩
      · rename_i hn
        simp only [hn]
        have := same (by
          generalize vacGo r H = t at hq
          obtain ⟨r', H', q'⟩ := t
          exact hq)
        generalize vacGo r H = t at this
        obtain ⟨r', H', q'⟩ := t
        exact this
    · have := same (by
        generalize vacGo r H = t at hq
        obtain ⟨r', H', q'⟩ := t
        exact hq)
      generalize vacGo r H = t at this
      obtain ⟨r', H', q'⟩ := t
      exact this
/-- .. and what is read within a struct, one level deep. -/
def vacG2 : List SV → List (SB τ) → List SV × List (SB τ) × Bool
  | [], H => ([], H, true)
  | x :: r, H => match x with
    | .a l => match vacGo l H with
      | (l', H1, q1) => match vacG2 r H1 with
        | (r', H2, q2) => (.a l' :: r', H2, q1 && q2)
    | x => match vacGo [x] H with
      | (l', H1, q1) => match vacG2 r H1 with
        | (r', H2, q2) => (l' ++ r', H2, q1 && q2)
theorem vacG2_keeps : ∀ {args : List SV} {H : List (SB τ)}, H.length ≤ (vacG2 args H).2.1.length ∧ ∀ i, i < H.length → (vacG2 args H).2.1[i]? = H[i]?
  | [], H => ⟨Nat.le_refl _, fun _ _ => rfl⟩
  | x :: r, H => by
    unfold vacG2
    split
    · rename_i l
      have h1 := vacGo_keeps (args := l) (H := H)
      generalize vacGo l H = t at h1 ⊢
      obtain ⟨l', H1, q1⟩ := t
      dsimp only at h1 ⊢
      have h2 := vacG2_keeps (args := r) (H := H1)
      generalize vacG2 r H1 = t at h2 ⊢
      obtain ⟨r', H2, q2⟩ := t
      simp only at h1 h2 ⊢
      exact ⟨by omega, fun i hi => (h2.2 i (by omega)).trans (h1.2 i hi)⟩
    · have h1 := vacGo_keeps (args := [x]) (H := H)
      generalize vacGo [x] H = t at h1 ⊢
      obtain ⟨l', H1, q1⟩ := t
      dsimp only at h1 ⊢
      have h2 := vacG2_keeps (args := r) (H := H1)
      generalize vacG2 r H1 = t at h2 ⊢
      obtain ⟨r', H2, q2⟩ := t
      simp only at h1 h2 ⊢
      exact ⟨by omega, fun i hi => (h2.2 i (by omega)).trans (h1.2 i hi)⟩
theorem vac_denL_append {e : Env} : ∀ {xs ys : List SV} {vs ws : List Value}, DenL e xs vs → DenL e ys ws → DenL e (xs ++ ys) (vs ++ ws)
  | [], ys, vs, ws, h, h' => by simp only [DenL] at h; subst h; exact h'
  | x :: xs, ys, vs, ws, h, h' => by
    simp only [DenL] at h
    obtain ⟨v, r, rfl, h1, h2⟩ := h
    simp only [List.cons_append, DenL]
    exact ⟨v, r ++ ws, rfl, h1, vac_denL_append h2 h'⟩
theorem vacG2_ok : ∀ {args : List SV} {H : List (SB τ)} {e : Env} {Fr : PH} {w : World} {vs : List Value}, (vacG2 args H).2.2 = true → DenL e args vs → Models I e H Fr w →
    ∃ e', Le e e' ∧ Models I e' (vacG2 args H).2.1 Fr w ∧ DenL e' (vacG2 args H).1 vs
  | [], H, e, Fr, w, vs, _, hd, hM => ⟨e, Le.refl e, hM, hd⟩
  | x :: r, H, e, Fr, w, vs, hq, hd, hM => by
    simp only [DenL] at hd
    obtain ⟨v, us, rfl, hx, hr⟩ := hd
    unfold vacG2 at hq ⊢
    split at hq
    · rename_i l
      simp only [Den] at hx
      obtain ⟨ws, hws, rfl⟩ := hx
      have h1 := vacGo_ok (I := I) (args := l) (H := H) (e := e) (Fr := Fr) (w := w) (vs := ws)
      generalize vacGo l H = t at hq h1 ⊢
      obtain ⟨l', H1, q1⟩ := t
      dsimp only at hq h1 ⊢
      have h2 := fun e => vacG2_ok (args := r) (H := H1) (e := e) (Fr := Fr) (w := w) (vs := us)
      generalize vacG2 r H1 = t at hq h2 ⊢
      obtain ⟨r', H2, q2⟩ := t
      simp only [Bool.and_eq_true] at hq h1 h2 ⊢
      obtain ⟨e1, a1, a2, a3⟩ := h1 hq.1 hws hM
      obtain ⟨e2, b1, b2, b3⟩ := h2 e1 hq.2 (hr.mono a1) a2
      refine ⟨e2, a1.trans b1, b2, ?_⟩
      simp only [DenL, Den]
      exact ⟨_, us, rfl, ⟨ws, a3.mono b1, rfl⟩, b3⟩
    · have h1 := vacGo_ok (I := I) (args := [x]) (H := H) (e := e) (Fr := Fr) (w := w) (vs := [v])
      generalize vacGo [x] H = t at hq h1 ⊢
      obtain ⟨l', H1, q1⟩ := t
      dsimp only at hq h1 ⊢
      have h2 := fun e => vacG2_ok (args := r) (H := H1) (e := e) (Fr := Fr) (w := w) (vs := us)
      generalize vacG2 r H1 = t at hq h2 ⊢
      obtain ⟨r', H2, q2⟩ := t
      simp only [Bool.and_eq_true] at hq h1 h2 ⊢
      obtain ⟨e1, a1, a2, a3⟩ := h1 hq.1 (by simp only [DenL]; exact ⟨v, [], rfl, hx, rfl⟩) hM
      obtain ⟨e2, b1, b2, b3⟩ := h2 e1 hq.2 (hr.mono a1) a2
      exact ⟨e2, a1.trans b1, b2, vac_denL_append (a3.mono b1) b3⟩
def vac (ac : ACon τ) : ACon τ := fun args H =>
  match vacG2 args H with
  | (args', H', q) => .ask (q = true) (ac args' H')
theorem vac_ok {g : FuncId} {ac : ACon τ} (h : AConOk I P g ac) : AConOk I P g (vac ac) := by
  refine ⟨fun args H x H' ws b hh hw hb => ?_, fun args H e Fr w vs hpre hd hM => ?_⟩
  · unfold vac at hh
    have hk := vacG2_keeps (args := args) (H := H)
    generalize vacG2 args H = t at hh hk
    obtain ⟨r', H2, q'⟩ := t
    simp only at hk
    obtain ⟨h1, h2⟩ := h.keeps r' H2 x H' ws b hh hw (by omega)
    exact ⟨h1.trans (hk.2 b hb), by omega⟩
  · unfold vac at hpre ⊢
    have hok := vacG2_ok (I := I) (args := args) (H := H) (e := e) (Fr := Fr) (w := w) (vs := vs)
    generalize vacG2 args H = t at hpre hok ⊢
    obtain ⟨r', H2, q'⟩ := t
    obtain ⟨e1, h1, h2, h3⟩ := hok hpre.1 hd hM
    refine (h.ok r' H2 e1 Fr w vs hpre.2 h3 h2).mono fun en w' hh => ?_
    obtain ⟨x, H', ws, e', v, g1, g2, g3, g4, g5⟩ := hh
    exact ⟨x, H', ws, e', v, g1, g2, h1.trans g3, g4, g5⟩

/-! ### A contract, shown by running the code -/
def stX (y : SV) (H : List (SB τ)) (n : Nat) : St τ := { tm := [y], H := H, df := [], base := n, rnd := false }
def altFin : Alt τ → Nat → SV → List (SB τ) → Prop
  | .bad, _, _, _ => False
  | .ask _ t, n, y, H' => altFin t n y H'
  | .br c l r, n, y, H' => Go.Sym.br c (altFin l n y H') (altFin r n y H')
  | .one x H _, n, y, H' => weakP (stX y H' n) (stX x H n)
theorem altFin_ok : ∀ {t : Alt τ} {n : Nat} {y : SV} {H' : List (SB τ)}, altFin t n y H' → ∃ x H ws, t.has x H ws ∧ weakP (stX y H' n) (stX x H n)
  | .bad, _, _, _, h => h.elim
  | .ask _ t, _, _, _, h => altFin_ok (t := t) h
  | .br c l r, _, _, _, h => by
    rcases br_elim h with ⟨rfl, h0⟩ | ⟨rfl, h0⟩
    · obtain ⟨x, H, ws, h1, h2⟩ := altFin_ok h0; exact ⟨x, H, ws, .inl ⟨rfl, h1⟩, h2⟩
    · obtain ⟨x, H, ws, h1, h2⟩ := altFin_ok h0; exact ⟨x, H, ws, .inr ⟨rfl, h1⟩, h2⟩
  | .one x H ws, _, _, _, h => ⟨x, H, ws, ⟨rfl, rfl, rfl⟩, h⟩
def mkLC {α : Type} (dec : List SV → List (SB τ) → Option α) (alt : α → Alt τ) : ACon τ := fun args H =>
  match dec args H with
  | some a => alt a
  | none => .bad
theorem lc_of_run {g : FuncId} {fn : Func} {α : Type} {dec : List SV → List (SB τ) → Option α} {eA : α → List SV} {eH : α → List (SB τ)} (hdec : ∀ args H a, dec args H = some a → args = eA a ∧ H = eH a) {alt : α → Alt τ}
    (cfg : α → Cfg τ) (hcfg : ∀ a (I : Inv τ), CfgOk I (cfg a)) (hP : ∀ a, (cfg a).P = P) {n : Nat} (hf : P.funcs[g]? = some fn)
    (h : ∀ a, (alt a).pre → Ask (bodyK P (run (cfg a) n) fn (eA a) (eH a) (fun y H' => altFin (alt a) (eH a).length y H'))) : ∀ I : Inv τ, LCOk I P g (mkLC dec alt) := by
  intro I args H e Fr w vs hpre hd hM
  unfold mkLC at hpre ⊢
  split at hpre
  · rename_i a ha
    obtain ⟨rfl, rfl⟩ := hdec _ _ _ ha
    have hP' := hP a
    subst hP'
    refine (body_ok (run_ok (hcfg a I) n) hf (h a hpre).h hd hM).mono fun en w' he => ?_
    obtain ⟨y, H', e', v, rfl, hle, hM', hdv, hfin⟩ := he
    obtain ⟨x, Hx, ws, hh, hwk⟩ := altFin_ok hfin
    obtain ⟨e2, hl2, hok⟩ := weak_ok (D := []) (s := stX y H' (eH a).length) (a := { tmps := #[v], defers := [] }) ⟨hM', by simp only [stX, DenL]; exact ⟨v, [], rfl, hdv, rfl⟩, rfl, rfl⟩ (weakP_ok hwk)
    refine ⟨x, Hx, ws, e2, v, hh, rfl, ?_, hok.models, ?_⟩
    · intro i r hr
      have hi : i < (eH a).length := by
        obtain ⟨_, hs, _, h2, _⟩ := hM
        rcases Nat.lt_or_ge i (eH a).length with hi | hi
        · exact hi
        · rw [(h2 i hi).1] at hr; cases hr
      obtain ⟨r1, h1, h2⟩ := hle i r hr
      obtain ⟨r2, h3, h4⟩ := hl2 i hi r1 h1
      exact ⟨r2, h3, Ref.le_trans h2 h4⟩
    · have := hok.tm
      simp only [stX, DenL] at this
      obtain ⟨u, r, h1, h2, _⟩ := this
      simp only [List.cons.injEq] at h1
      rw [h1.1]; exact h2
  · exact hpre.elim

/-! ### .. where what comes out is first seen another way -/
def altFinS : Alt τ → Nat → St τ → Prop
  | .bad, _, _ => False
  | .ask _ t, n, s => altFinS t n s
  | .br c l r, n, s => Go.Sym.br c (altFinS l n s) (altFinS r n s)
  | .one x H _, n, s => weakP s (stX x H n)
theorem altFinS_ok : ∀ {t : Alt τ} {n : Nat} {s : St τ}, altFinS t n s → ∃ x H ws, t.has x H ws ∧ weakP s (stX x H n)
  | .bad, _, _, h => h.elim
  | .ask _ t, _, _, h => altFinS_ok (t := t) h
  | .br c l r, _, _, h => by
    rcases br_elim h with ⟨rfl, h0⟩ | ⟨rfl, h0⟩
    · obtain ⟨x, H, ws, h1, h2⟩ := altFinS_ok h0; exact ⟨x, H, ws, .inl ⟨rfl, h1⟩, h2⟩
    · obtain ⟨x, H, ws, h1, h2⟩ := altFinS_ok h0; exact ⟨x, H, ws, .inr ⟨rfl, h1⟩, h2⟩
  | .one x H _, _, _, h => ⟨x, H, _, ⟨rfl, rfl, rfl⟩, h⟩
def altFinF (F : St τ → List Fx) (t : Alt τ) (n : Nat) (y : SV) (H' : List (SB τ)) : Prop :=
  forceSt (stX y H' n) fun s => fxs s (F s) fun s' => forceSt s' fun s => altFinS t n s
theorem lc_of_callsF {g : FuncId} {α : Type} {dec : List SV → List (SB τ) → Option α} {eA : α → List SV} {eH : α → List (SB τ)} (hdec : ∀ args H a, dec args H = some a → args = eA a ∧ H = eH a) {alt : α → Alt τ} {F : St τ → List Fx}
    (h : ∀ a (I : Inv τ) (e : Env) (Fr : PH) (w : World) (vs : List Value), (alt a).pre → DenL e (eA a) vs → Models I e (eH a) Fr w → Calls P g vs.toArray w (Ends I e Fr fun y H' => altFinF F (alt a) (eH a).length y H')) : ∀ I : Inv τ, LCOk I P g (mkLC dec alt) := by
  intro I args H e Fr w vs hpre hd hM
  unfold mkLC at hpre ⊢
  split at hpre
  · rename_i a ha
    obtain ⟨rfl, rfl⟩ := hdec _ _ _ ha
    refine (h a I e Fr w vs hpre hd hM).mono fun en w' he => ?_
    obtain ⟨y, H', e', v, rfl, hle, hM', hdv, hfin⟩ := he
    unfold altFinF at hfin
    rw [forceSt_eq] at hfin
    have hok0 : StOk I e' Fr [] (stX y H' (eH a).length) { tmps := #[v], defers := [] } w' := ⟨hM', by simp only [stX, DenL]; exact ⟨v, [], rfl, hdv, rfl⟩, rfl, rfl⟩
    obtain ⟨e1, s1, hl1, hok1, _, _, hfin⟩ := fxs_ok hok0 hfin
    rw [forceSt_eq] at hfin
    obtain ⟨x, Hx, ws, hh, hwk⟩ := altFinS_ok hfin
    have hwk := weakP_ok hwk
    obtain ⟨e2, hl2, hok⟩ := weak_ok hok1 hwk
    have hb1 : s1.base = (eH a).length := hwk.base
    refine ⟨x, Hx, ws, e2, v, hh, rfl, ?_, hok.models, ?_⟩
    · intro i r hr
      have hi : i < (eH a).length := by
        obtain ⟨_, hs, _, h2, _⟩ := hM
        rcases Nat.lt_or_ge i (eH a).length with hi | hi
        · exact hi
        · rw [(h2 i hi).1] at hr; cases hr
      obtain ⟨r1, h1, h2⟩ := hle i r hr
      obtain ⟨r2, h3, h4⟩ := hl1 i hi r1 h1
      obtain ⟨r3, h5, h6⟩ := hl2 i (by rw [hb1]; exact hi) r2 h3
      exact ⟨r3, h5, Ref.le_trans h2 (Ref.le_trans h4 h6)⟩
    · have := hok.tm
      simp only [stX, DenL] at this
      obtain ⟨u, r, h1, h2, _⟩ := this
      simp only [List.cons.injEq] at h1
      rw [h1.1]; exact h2
  · exact hpre.elim

/-- One contract, or, where it says nothing, another one. -/
def lcOr (a b : ACon τ) : ACon τ := fun args H => match a args H with
  | .bad => b args H
  | t => t
theorem lcOr_ok {g : FuncId} {a b : ACon τ} (ha : ∀ I : Inv τ, LCOk I P g a) (hb : ∀ I : Inv τ, LCOk I P g b) : ∀ I : Inv τ, LCOk I P g (lcOr a b) := by
  intro I args H e Fr w vs hpre hd hM
  unfold lcOr at hpre ⊢
  split at hpre
  · rename_i hbad
    exact hb I args H e Fr w vs hpre hd hM
  · rename_i hbad
    exact ha I args H e Fr w vs hpre hd hM

/-! ### Tables of contracts -/
def LCs (P : Program) : List (Nat × ACon Unit) → Prop
  | [] => True
  | (g, lc) :: r => (∀ I : Inv Unit, LCOk I P g lc) ∧ LCs P r
theorem look_lc {P : Program} : ∀ {l : List (Nat × ACon Unit)} {g : Nat} {lc : ACon Unit}, LCs P l → look l g = some lc → ∀ I : Inv Unit, LCOk I P g lc
  | [], _, _, _, h => by simp [look] at h
  | (k, a) :: r, g, lc, hp, h => by
    unfold look at h
    split at h
    · rename_i hk; rw [Nat.beq_eq] at hk; subst hk; simp only [Option.some.injEq] at h; subst h; exact hp.1
    · exact look_lc hp.2 h
def allCfg (P : Program) (l : List (Nat × PS)) (ls : List (Nat × ACon Unit)) (u : Nat) (an : List (Nat × Ann Unit) := []) (jn : List (Nat × Ann Unit) := []) : Cfg Unit :=
  { P := P, con := fun g => (look l g).map pureCon, pcon := fun g => (look l g).map fun ps args _ => ps args, unroll := u, ann := fun k => look an k, acon := fun g => (look ls g).map fun lc => vac (gac lc), join := fun k => look jn k }
theorem allCfg_ok {I : Inv Unit} {P : Program} {l : List (Nat × PS)} {ls : List (Nat × ACon Unit)} {u : Nat} {an jn : List (Nat × Ann Unit)} (hm : P.follows .mixedOrders = true) (h : Pures P l) (h' : LCs P ls) : CfgOk I (allCfg P l ls u an jn) := by
  refine ⟨hm, ⟨fun g con hc => ?_, fun g ac hc => ?_⟩, fun g pc hc => ?_⟩
  · simp only [allCfg, Option.map_eq_some_iff] at hc
    obtain ⟨ps, hl, rfl⟩ := hc
    exact pureCon_ok (look_pure h hl)
  · simp only [allCfg, Option.map_eq_some_iff] at hc
    obtain ⟨lc, hl, rfl⟩ := hc
    exact vac_ok (frame_ok (look_lc h' hl I))
  · simp only [allCfg, Option.map_eq_some_iff] at hc
    obtain ⟨ps, hl, rfl⟩ := hc
    exact purePCon_ok (look_pure h hl)
/-- A function of plain data whose run may use any contract. -/
theorem pureOk_all {P : Program} {g : FuncId} {fn : Func} {α : Type} {s : ShL α} {φ : α → Prop} {r : α → SV} (cfg : α → Cfg Unit) (hcon : ∀ a (I : Inv Unit), CfgOk I (cfg a)) (hP : ∀ a, (cfg a).P = P) {n : Nat} (hf : P.funcs[g]? = some fn)
    (h1 : ∀ a, scL 0 (s.enc a) = true) (h2 : ∀ a, scS 0 (r a) = true)
    (h : ∀ a, φ a → Ask (bodyK P (run (cfg a) n) fn (s.enc a) [] (fun y _ => y = r a))) : PureOk P g (mkPS s φ r) := pureOk_mkA cfg hcon hP hf h1 h2 h

/-! ### Shapes of items -/
structure ShB (α : Type) where
  enc : α → SB Unit
  dec : SB Unit → Option α
  ok : ∀ x a, dec x = some a → x = enc a
structure ShH (α : Type) where
  enc : α → List (SB Unit)
  dec : List (SB Unit) → Option α
  ok : ∀ x a, dec x = some a → x = enc a
def shHNil : ShH Unit where
  enc _ := []
  dec x := match x with
    | [] => some ()
    | _ => none
  ok x a h := by
    split at h
    · rfl
    · cases h
def shHCons {α β : Type} (s : ShB α) (t : ShH β) : ShH (α × β) where
  enc a := s.enc a.1 :: t.enc a.2
  dec x := match x with
    | y :: r => match s.dec y with
      | some a => match t.dec r with
        | some b => some (a, b)
        | none => none
      | none => none
    | _ => none
  ok x a h := by
    split at h
    · split at h
      · rename_i hs
        split at h
        · rename_i ht
          simp only [Option.some.injEq] at h
          subst h
          rw [s.ok _ _ hs, t.ok _ _ ht]
        · cases h
      · cases h
    · cases h
def shHOne {α : Type} (s : ShB α) : ShH α where
  enc a := [s.enc a]
  dec x := match x with
    | [y] => s.dec y
    | _ => none
  ok x a h := by
    split at h
    · rw [s.ok _ _ h]
    · cases h
/-- Cells of a type. -/
def shCells {α : Type} (s : ShL α) (T : TypeId) : ShB α where
  enc a := .cells (s.enc a) T
  dec x := match x with
    | .cells l T' => match Nat.beq T' T with
      | true => s.dec l
      | false => none
    | _ => none
  ok x a h := by
    split at h
    · split at h
      · rename_i hT
        rw [Nat.beq_eq] at hT
        subst hT
        rw [s.ok _ _ h]
      · cases h
    · cases h
/-- A pointer to an item. -/
def shP (b : Nat) : Sh Unit where
  enc _ := .p b 0
  dec x := match x with
    | .p b' o => match Nat.beq b' b && Nat.beq o 0 with
      | true => some ()
      | false => none
    | _ => none
  ok x a h := by
    split at h
    · split at h
      · rename_i hT
        rw [Bool.and_eq_true, Nat.beq_eq, Nat.beq_eq] at hT
        obtain ⟨rfl, rfl⟩ := hT
        rfl
      · cases h
    · cases h
/-- A slice of an item's own row: its epoch. -/
def shO (b : Nat) : Sh Nat where
  enc ep := .h b [ep, 0]
  dec x := match x with
    | .h b' p => match Nat.beq b' b with
      | true => match p with
        | [ep, z] => match z with
          | 0 => some ep
          | _ => none
        | _ => none
      | false => none
    | _ => none
  ok x a h := by
    split at h
    · split at h
      · rename_i hT
        rw [Nat.beq_eq] at hT
        subst hT
        split at h
        · split at h
          · simp only [Option.some.injEq] at h; subst h; rfl
          · cases h
        · cases h
      · cases h
    · cases h
/-- What is read alone. -/
def shR (b : Nat) : Sh Unit where
  enc _ := .r b []
  dec x := match x with
    | .r b' p => match Nat.beq b' b with
      | true => match p with
        | [] => some ()
        | _ => none
      | false => none
    | _ => none
  ok x a h := by
    split at h
    · split at h
      · rename_i hT
        rw [Nat.beq_eq] at hT
        subst hT
        split at h
        · rfl
        · cases h
      · cases h
    · cases h
def shSS : ShB (List ByteArray) where
  enc L := .inp (.ss L)
  dec x := match x with
    | .inp ic => match ic with
      | .ss L => some L
      | _ => none
    | _ => none
  ok x a h := by
    split at h
    · split at h
      · simp only [Option.some.injEq] at h; subst h; rfl
      · cases h
    · cases h
/-- A string. -/
def shStr : Sh ByteArray where
  enc s := .v (.string s)
  dec x := match x with
    | .v (.string s) => some s
    | _ => none
  ok x a h := by
    split at h
    · simp only [Option.some.injEq] at h; subst h; rfl
    · cases h
/-- A row of numbers that is owned, and is not nil. -/
structure OI where
  xs : List Int
  n : Nat
  ep : Nat
def shOwnI (k : IntKind) (T : TypeId) (nn : Bool) : ShB OI where
  enc a := .own (.ints k a.xs) a.n T 1 a.ep nn
  dec x := match x with
    | .own c n T' sz ep nn' => match c with
      | .ints k' xs => match decide (k' = k) && (Nat.beq T' T && (Nat.beq sz 1 && (nn' == nn))) with
        | true => some ⟨xs, n, ep⟩
        | false => none
      | _ => none
    | _ => none
  ok x a h := by
    split at h
    · split at h
      · split at h
        · rename_i hc
          simp only [Bool.and_eq_true, decide_eq_true_eq, Nat.beq_eq, beq_iff_eq] at hc
          obtain ⟨rfl, rfl, rfl, rfl⟩ := hc
          simp only [Option.some.injEq] at h
          subst h
          rfl
        · cases h
      · cases h
    · cases h
/-- Arguments and items together. -/
def decAH {α β γ : Type} (s : ShL α) (t : ShH β) (f : α → β → γ) : List SV → List (SB Unit) → Option γ := fun args H =>
  match s.dec args with
  | some a => match t.dec H with
    | some b => some (f a b)
    | none => none
  | none => none
theorem decAH_ok {α β γ : Type} {s : ShL α} {t : ShH β} {f : α → β → γ} {g : γ → α × β} (hg : ∀ a b, g (f a b) = (a, b)) : ∀ args H c, decAH s t f args H = some c → args = s.enc (g c).1 ∧ H = t.enc (g c).2 := by
  intro args H c h
  unfold decAH at h
  split at h
  · rename_i ha
    split at h
    · rename_i hb
      simp only [Option.some.injEq] at h
      subst h
      rw [hg]
      exact ⟨s.ok _ _ ha, t.ok _ _ hb⟩
    · cases h
  · cases h
/-- The same, a pair as it is. -/
def decP {α β : Type} (s : ShL α) (t : ShH β) : List SV → List (SB Unit) → Option (α × β) := decAH s t Prod.mk
theorem decP_ok {α β : Type} {s : ShL α} {t : ShH β} : ∀ args H c, decP s t args H = some c → args = s.enc c.1 ∧ H = t.enc c.2 := decAH_ok (g := id) fun _ _ => rfl
theorem lc_mk {g : FuncId} {fn : Func} {α β : Type} {s : ShL α} {t : ShH β} {alt : α × β → Alt Unit} (cfg : α × β → Cfg Unit) (hcfg : ∀ a (I : Inv Unit), CfgOk I (cfg a)) (hP : ∀ a, (cfg a).P = P) {n : Nat} (hf : P.funcs[g]? = some fn)
    (h : ∀ a, (alt a).pre → Ask (bodyK P (run (cfg a) n) fn (s.enc a.1) (t.enc a.2) (fun y H' => altFin (alt a) (t.enc a.2).length y H'))) : ∀ I : Inv Unit, LCOk I P g (mkLC (decP s t) alt) :=
  lc_of_run decP_ok cfg hcfg hP hf h
/-- The same; what comes out is first seen another way. -/
theorem lc_mkF {g : FuncId} {fn : Func} {α β : Type} {s : ShL α} {t : ShH β} {alt : α × β → Alt Unit} (F : St Unit → List Fx) (cfg : α × β → Cfg Unit) (hcfg : ∀ a (I : Inv Unit), CfgOk I (cfg a)) (hP : ∀ a, (cfg a).P = P) {n : Nat} (hf : P.funcs[g]? = some fn)
    (h : ∀ a, (alt a).pre → Ask (bodyK P (run (cfg a) n) fn (s.enc a.1) (t.enc a.2) (fun y H' => altFinF F (alt a) (t.enc a.2).length y H'))) : ∀ I : Inv Unit, LCOk I P g (mkLC (decP s t) alt) :=
  lc_of_callsF (F := F) decP_ok fun a I e Fr w vs hpre hd hM => by
    have hP' := hP a
    subst hP'
    exact body_ok (run_ok (hcfg a I) n) hf (h a hpre).h hd hM

end Go.Sym
