/- Functions that defer one call, with what it is given: it is made at their end. -/
import Derived.Test.YtgpfdajjkalloaaVT
import Derived.DefersIn
set_option linter.unusedSimpArgs false
set_option linter.unusedVariables false
set_option linter.unusedSectionVars false
namespace Go.Sym
open Go
variable {τ : Type} {I : Inv τ} {P : Program} {D : List Deferred}

abbrev markD (n : Nat) : Deferred := { target := .collected n, args := #[] }
/-! ### Marks are taken one by one -/
def TakesM (P : Program) : List Nat → World → (World → Prop) → Prop
  | [], w, R => R w
  | n :: ns, w, R => ∃ w', (Instr.takeDeferred n).run P w = .ok [] w' ∧ TakesM P ns w' R
theorem takes_ok {R : World → Prop} {e : Env} {Fr : PH} {H : List (SB τ)} (hR : ∀ w, Models I e H Fr w → R w) (hro : ∀ (k : Nat) (o : Obj), I.ro k = some o → Fr k = some o) :
    ∀ {ns : List Nat} {Fr' : PH} {w : World}, Models I e H Fr' w → FrLe Fr Fr' → ns.Nodup → (∀ n ∈ ns, Fr n = none ∧ Fr' n = some (.deferred (some []))) → TakesM P ns w R
  | [], Fr', w, hM, hF, _, _ => hR w (hM.lessF hF hro)
  | n :: ns, Fr', w, hM, hF, hd, hn => by
    obtain ⟨h1, h2⟩ := hn n List.mem_cons_self
    obtain ⟨d1, d2⟩ := List.nodup_cons.1 hd
    have g2 : w.heap[n]? = some (.deferred (some [])) := by
      obtain ⟨_, hs, _, _, _, _, _, h6⟩ := hM
      exact h6 n _ h2
    have hron : I.ro n = none := by
      cases hq : I.ro n with
      | none => rfl
      | some o => rw [hro n o hq] at h1; cases h1
    have hM' := hM.takeF (o' := .deferred none) h2 hron
    refine ⟨_, ?_, takes_ok hR hro hM' (fun k o hk => ?_) d2 fun m hm => ⟨(hn m (List.mem_cons_of_mem _ hm)).1, ?_⟩⟩
    · simp only [Instr.takeDeferred, Sem.run_bind, run_getObj (P := P) g2 (by intro c t f hc; cases hc), Result.andThen_ok, run_setObj (P := P) g2 (by intro c t f hc; cases hc), Sem.run_pure]
    · unfold remF
      rw [if_neg (fun e => by subst e; rw [h1] at hk; cases hk)]
      exact hF k o hk
    · unfold remF
      rw [if_neg (fun e => by subst e; exact d1 hm)]
      exact (hn m (List.mem_cons_of_mem _ hm)).2
theorem leavesM_marks {F : Fence} {n : Nat} {fn : Func} {tmps : Array Value} {R : Ending → World → Prop} {ds : List Deferred} : ∀ {ns : List Nat} {w : World}, TakesM P ns w (fun w' => LeavesInM F n P fn tmps R ds .returning w') →
    LeavesInM F n P fn tmps R (ns.map markD ++ ds) .returning w
  | [], w, h => h
  | m :: ns, w, ⟨w', h1, h2⟩ => ⟨(by intro hc; cases hc), .inl ⟨m, w', rfl, h1, leavesM_marks h2⟩⟩
theorem marks_steps {F : Fence} {n : Nat} {Q : World → Prop} : ∀ {ns : List Nat} {w : World} {fr : Frame} {cs : List Frame}, fr.mode = .returning → fr.defers = ns.map markD → F.fn fr.fn → F.room (cs.length + 1 + n) → TakesM P ns w Q →
    ∃ fr' w', StepsIn (Machine.fenced P F) P (lone fr cs w) (lone fr' cs w') ∧ fr'.kind = fr.kind ∧ fr'.fn = fr.fn ∧ fr'.mode = .returning ∧ fr'.defers = [] ∧ fr'.tmps = fr.tmps ∧ Q w'
  | [], w, fr, cs, hm, hd, _, _, h => ⟨fr, w, StepsIn.refl _, rfl, rfl, hm, hd, rfl, h⟩
  | m :: ns, w, fr, cs, hm, hd, hF, hr, ⟨w1, h1, h2⟩ => by
    have hrun : fr.mode ≠ .run := by rw [hm]; intro hc; cases hc
    have hd' : fr.defers = markD m :: ns.map markD := hd
    have hs := step_collected (P := P) (cs := cs) hrun hd' rfl h1
    have hi : (lone fr cs w).fenced P F := fenced_out hF hr hrun hd' (fun g hg => by simp [markD, Target.leads] at hg)
    obtain ⟨fr', w', q1, q2, q3, q4, q5, q6, q7⟩ := marks_steps (ns := ns) (w := w1) (fr := { fr with defers := [] ++ ns.map markD }) (cs := cs) hm rfl hF hr h2
    exact ⟨fr', w', StepsIn.trans (.one hi hs) q1, q2, q3, q4, q5, q6, q7⟩
/-- A function that is entered as a deferred call, and leaves with marks alone. -/
theorem callsD_marks {F : Fence} {n : Nat} {f : FuncId} {fn : Func} {c : Code} {args : Array Value} {u : FrameMode} {w : World} {R : Ending → World → Prop} (hf : P.funcs[f]? = some fn) (hb : fn.body = some c) (hF : F.fn f)
    (h : c.wpIn F n P (fun ex a w => match ex with
      | .normal => ∃ ns : List Nat, a.defers = ns.map markD ∧ TakesM P ns w (fun w => ∃ v, (results fn a.tmps).run P w = .ok v w ∧ R (.returned v) w)
      | .ret => ∃ ns : List Nat, a.defers = ns.map markD ∧ TakesM P ns w (fun w => ∃ v, (results fn a.tmps).run P w = .ok v w ∧ R (.returned v) w)
      | _ => False) { tmps := args ++ Array.replicate (fn.ntmps - args.size) undef, defers := [] } w) (hro : F.round = none := by rfl) :
    CallsDIn F n P f args u w fun e u' w' => u' = u ∧ R e w' := by
  refine ⟨hF, fun c₀ cs hu hr => ?_⟩
  let b : Frame := { (default : Frame) with fn := f, kind := .deferred, roundOf := none }
  have henter : Frame.enter P f args .deferred =
      b.atR { tmps := args ++ Array.replicate (fn.ntmps - args.size) undef, defers := [] } [.code c] := by
    simp [Frame.enter, Frame.atR, hf, hb, b]
  have hc : ({ c₀ with mode := u } : Frame) = c₀ := by subst hu; rfl
  obtain ⟨e, a', w', hq, harr⟩ := h b [] (c₀ :: cs) hro.symm hF hr
  rw [← henter] at harr
  cases e with
  | normal =>
    obtain ⟨ns, hd, ht⟩ := hq
    obtain ⟨fr', w2, q1, q2, q3, q4, q5, q6, v, q7, q8⟩ := marks_steps (F := F) (n := n) (fr := { b.atR a' [] with mode := .returning }) (cs := c₀ :: cs) rfl hd hF hr ht
    exact ⟨.returned v, u, w2, fr', ⟨rfl, q8⟩, (by rw [hc]; exact StepsIn.trans (StepsIn.trans harr (.one (fenced_calm (fr := b.atR a' []) hF hr rfl) (stepR_end rfl))) q1), q2, q3, q4, q5, fn, by rw [q3]; exact hf, by rw [q6]; exact q7⟩
  | ret =>
    obtain ⟨ns, hd, ht⟩ := hq
    obtain ⟨todo, hs⟩ := harr.1 rfl
    obtain ⟨fr', w2, q1, q2, q3, q4, q5, q6, v, q7, q8⟩ := marks_steps (F := F) (n := n) (fr := { b.atR a' todo with mode := .returning }) (cs := c₀ :: cs) rfl hd hF hr ht
    exact ⟨.returned v, u, w2, fr', ⟨rfl, q8⟩, (by rw [hc]; exact StepsIn.trans hs q1), q2, q3, q4, q5, fn, by rw [q3]; exact hf, by rw [q6]; exact q7⟩
  | _ => exact hq.elim
/-- What a body's end comes to, at the marks that it has left. -/
theorem leaveK_ok {fn : Func} {K : SV → List (SB τ) → Prop} {st : St τ} {e : Env} {Fr : PH} {w : World} {tmps : Array Value} (hk : leaveK P fn st K) (hdf : st.df = []) (ht : DenL e st.tm tmps.toList) (hM : Models I e st.H Fr w) :
    ∃ v x, (results fn tmps).run P w = .ok v w ∧ Den e x v ∧ K x st.H := by
  unfold leaveK at hk
  rw [hdf] at hk
  simp only [takeDf] at hk
  split at hk
  · rename_i l hl
    obtain ⟨v, hv, hdv⟩ := results_ok hM ht hl
    exact ⟨v, _, hv, hdv, hk⟩
  · exact hk.elim
theorem body_okD {rec : Rec τ} (hrec : RecOk I P rec) {g : FuncId} {fn : Func} {args : List SV} {H : List (SB τ)} {K : SV → List (SB τ) → Prop} {e : Env} {Fr : PH} {w : World} {vs : List Value} {u : FrameMode}
    (hf : P.funcs[g]? = some fn) (h : bodyK P rec fn args H K) (hd : DenL e args vs) (hM : Models I e H Fr w) : CallsDIn (FF none) 0 P g vs.toArray u w fun en u' w' => u' = u ∧ Ends I e Fr K en w' := by
  unfold bodyK at h
  split at h
  · rename_i c hc
    refine callsD_marks hf hc trivial ?_
    have hok : StOk I e Fr [] { tm := args ++ List.replicate (fn.ntmps - args.length) (.v undef), H := H, df := [], base := H.length, rnd := false }
        { tmps := vs.toArray ++ Array.replicate (fn.ntmps - vs.toArray.size) undef, defers := [] } w := by
      refine ⟨hM, ?_, rfl, rfl⟩
      have hl := hd.length
      have := hd.append (DenL.replicate (e := e) (.v undef) undef (by simp [Den]) (fn.ntmps - args.length))
      rw [hl] at this
      simpa [hl] using this
    refine wpIn_mono (hrec _ _ _ e Fr [] _ w none rfl h hok) fun ex a' w' hp => ?_
    obtain ⟨e', st', Fr', D', hle, hb, hr, ⟨⟨hF, ns, hD, hnd, hns⟩, _⟩, hok', hK⟩ := hp
    have hLe : Le e e' := fun i r hi => by
      by_cases hlt : i < H.length
      · exact hle i hlt r hi
      · obtain ⟨_, hs, _, h2, _⟩ := hM
        rw [(h2 i (by omega)).1] at hi
        cases hi
    have key : leaveK P fn st' K → ∃ ns : List Nat, a'.defers = ns.map markD ∧ TakesM P ns w' (fun w => ∃ v, (results fn a'.tmps).run P w = .ok v w ∧ Ends I e Fr K (.returned v) w) := fun hk => by
      refine ⟨ns, by rw [hok'.df.2, hD, List.append_nil], takes_ok (fun w1 hM1 => ?_) hM.1.ro hok'.models hF hnd hns⟩
      obtain ⟨v, x, hv, hdv, hx⟩ := leaveK_ok hk hok'.df.1 hok'.tm hM1
      exact ⟨v, hv, x, st'.H, e', v, rfl, hLe, hM1, hdv, hx⟩
    cases ex with
    | normal => exact key hK
    | ret => exact key hK
    | _ => exact hK.elim
  · exact h.elim

/-! ### Code as a list, and a defer among it -/
def spine : Code → List Code
  | .seq a b => spine a ++ spine b
  | c => [c]
def wpL (F : Fence) (n : Nat) (P : Program) : List Code → (Exit → Act → World → Prop) → Act → World → Prop
  | [], Q, a, w => Q .normal a w
  | c :: r, Q, a, w => c.wpIn F n P (Exit.then (fun a w => wpL F n P r Q a w) Q) a w
theorem then_ne {next : Act → World → Prop} {Q : Exit → Act → World → Prop} {ex : Exit} {a : Act} {w : World} (h : ex ≠ .normal) : Exit.then next Q ex a w = Q ex a w := by
  cases ex <;> first | rfl | exact absurd rfl h
theorem wpL_append {F : Fence} {n : Nat} {Q : Exit → Act → World → Prop} {r : List Code} : ∀ {l : List Code} {a : Act} {w : World}, wpL F n P (l ++ r) Q a w → wpL F n P l (Exit.then (fun a w => wpL F n P r Q a w) Q) a w
  | [], _, _, h => h
  | c :: l, a, w, h => wpIn_mono h fun ex a w hq => by
    by_cases hx : ex = .normal
    · subst hx; exact wpL_append (l := l) hq
    · rw [then_ne hx] at hq ⊢; rw [then_ne hx]; exact hq
theorem wp_spine {F : Fence} {n : Nat} : ∀ {c : Code} {Q : Exit → Act → World → Prop} {a : Act} {w : World}, wpL F n P (spine c) Q a w → c.wpIn F n P Q a w
  | .seq x y, Q, a, w, h => wpIn_seq (wpIn_mono (wp_spine (c := x) (wpL_append h)) fun ex a w hq => by
    by_cases hx : ex = .normal
    · subst hx; exact wp_spine (c := y) hq
    · rw [then_ne hx] at hq ⊢; exact hq)
  | .skip, Q, a, w, h => wpIn_mono h fun ex a w hq => by cases ex <;> exact hq
  | .cond _ _ _, Q, a, w, h => wpIn_mono h fun ex a w hq => by cases ex <;> exact hq
  | .block _ _, Q, a, w, h => wpIn_mono h fun ex a w hq => by cases ex <;> exact hq
  | .loop _, Q, a, w, h => wpIn_mono h fun ex a w hq => by cases ex <;> exact hq
  | .exit _, Q, a, w, h => wpIn_mono h fun ex a w hq => by cases ex <;> exact hq
  | .ret, Q, a, w, h => wpIn_mono h fun ex a w hq => by cases ex <;> exact hq
  | .region _ _ _, Q, a, w, h => wpIn_mono h fun ex a w hq => by cases ex <;> exact hq
  | .rangeFunc _ _ _ _, Q, a, w, h => wpIn_mono h fun ex a w hq => by cases ex <;> exact hq
  | .scope _, Q, a, w, h => wpIn_mono h fun ex a w hq => by cases ex <;> exact hq
  | .label _, Q, a, w, h => wpIn_mono h fun ex a w hq => by cases ex <;> exact hq
  | .goto _, Q, a, w, h => wpIn_mono h fun ex a w hq => by cases ex <;> exact hq
  | .refuse _, Q, a, w, h => wpIn_mono h fun ex a w hq => by cases ex <;> exact hq

/-! ### A region that ends with a defer -/
theorem upon_mono {F : Fence} {n : Nat} {o : Oper} {a : Act} {next next' : Act → World → Prop} {Q Q' : Exit → Act → World → Prop} (hn : ∀ a w, next a w → next' a w) (hQ : ∀ ex a w, ex ≠ .normal → Q ex a w → Q' ex a w) {r : Result Next}
    (h : o.uponIn F n P a next Q r) : o.uponIn F n P a next' Q' r := by
  have hout : LetsOut Q → LetsOut Q' := fun ⟨a, w, h⟩ => ⟨a, w, hQ _ _ _ (by intro hc; cases hc) h⟩
  unfold Oper.uponIn at h ⊢
  split at h
  · exact hn _ _ h
  · exact hn _ _ h
  · exact hn _ _ h
  · refine ⟨h.1, h.2.mono fun en w' hq => ?_⟩
    cases en with
    | returned v => exact hn _ _ hq
    | panicked c => exact hQ _ _ _ (by intro hc; cases hc) hq
    | outgrown => exact hout hq
  · exact ⟨h.1, h.2.mono fun v w' hq => hn _ _ hq⟩
  · refine ⟨h.1, h.2.mono fun en w' hq => ?_⟩
    cases en with
    | returned v => exact hn _ _ hq
    | panicked c => exact hQ _ _ _ (by intro hc; cases hc) hq
    | outgrown => exact hout hq
  · exact hQ _ _ _ (by intro hc; cases hc) h
  · exact h.elim
theorem wpListIn_snoc {F : Fence} {n : Nat} {ops : Array Oper} {Q : Exit → Act → World → Prop} {r : List Oper} : ∀ {l : List Oper} {a : Act} {w : World}, wpListIn F n P ops (Exit.then (wpListIn F n P ops Q r) Q) l a w → wpListIn F n P ops Q (l ++ r) a w
  | [], _, _, h => h
  | o :: l, a, w, h => by
    simp only [List.cons_append, wpListIn] at h ⊢
    split at h
    · rename_i hw
      rw [if_pos hw]
      exact ⟨h.1, upon_mono (fun a w hq => wpListIn_snoc (l := l) hq) (fun ex a w hx hq => by rw [then_ne hx] at hq; exact hq) h.2⟩
    · rename_i hw
      rw [if_neg hw]
      exact ⟨h.1, wpListIn_snoc (l := l) h.2⟩
/-- The operations ahead of a region's last one, and what that defers. -/
def deferOf (c : Code) : Option (Array Oper × List Oper × Operand × Array Operand) :=
  match c with
  | .region _ ops draw => match draw with
    | true => none
    | false => match ops.toList.reverse with
      | [] => none
      | o :: r => match o.guard with
        | some _ => none
        | none => match o.dst with
          | some _ => none
          | none => match o.op with
            | .defer cl => match cl.callee with
              | .value f => some (ops, r.reverse, f, cl.args)
              | _ => none
            | _ => none
  | _ => none
theorem deferOf_ok {c : Code} {ops : Array Oper} {l : List Oper} {f : Operand} {args : Array Operand} (h : deferOf c = some (ops, l, f, args)) :
    ∃ id o cl, c = .region id ops false ∧ ops.toList = l ++ [o] ∧ o.guard = none ∧ o.dst = none ∧ o.op = .defer cl ∧ cl.callee = .value f ∧ cl.args = args := by
  unfold deferOf at h
  split at h
  · rename_i id ops' draw
    split at h
    · cases h
    · split at h
      · cases h
      · rename_i o r hr
        split at h
        · cases h
        · rename_i hg
          split at h
          · cases h
          · rename_i hd
            split at h
            · rename_i cl hop
              split at h
              · rename_i f' hf
                simp only [Option.some.injEq, Prod.mk.injEq] at h
                obtain ⟨rfl, rfl, rfl, rfl⟩ := h
                refine ⟨id, o, cl, rfl, ?_, hg, hd, hop, hf, rfl⟩
                have := congrArg List.reverse hr
                simpa using this
              · cases h
            · cases h
  · cases h

/-! ### A body that defers one call -/
def lvK (P : Program) (rec : Rec τ) (fn : Func) (K : SV → List (SB τ) → Prop) (d : Option (FuncId × List SV)) (st : St τ) : Prop :=
  match d with
  | none => leaveK P fn st K
  | some (g, as) => match P.funcs[g]? with
    | some fg => match fg.name == "runtime.NumGoroutine", fg.body.isNone with
      | false, false => bodyK P rec fg as st.H (fun _ H' => leaveK P fn { st with H := H' } K)
      | _, _ => False
    | none => False
def dK (cfg : Cfg τ) (rec : Rec τ) (L : Option (FuncId × List SV) → St τ → Prop) : List Code → Option (FuncId × List SV) → St τ → Prop
  | [], d, st => L d st
  | c :: r, d, st => match deferOf c with
    | some (ops, l, f, args) => match d with
      | some _ => False
      | none => opsK cfg rec ops l st (fun s => match calleeS (ev s.tm f) with
        | some (g, fi, ca) => rq (scL s.base (fi ++ args.toList.map (ev s.tm) ++ ca)) (dK cfg rec L r (some (g, fi ++ args.toList.map (ev s.tm) ++ ca)) s)
        | none => False)
    | none => rec c st (fun ex s => match ex with
      | .normal => dK cfg rec L r d s
      | .ret => L d s
      | _ => False)
def bodyDK (cfg : Cfg τ) (rec : Rec τ) (fn : Func) (args : List SV) (H : List (SB τ)) (K : SV → List (SB τ) → Prop) : Prop :=
  match fn.body with
  | some c => dK cfg rec (lvK cfg.P rec fn K) (spine c) none { tm := args ++ List.replicate (fn.ntmps - args.length) (.v undef), H := H, df := [], base := H.length, rnd := false }
  | none => False
/-- The call that is deferred, as it lies in the activation. -/
structure DfOk (P : Program) (e : Env) (base : Nat) (g : FuncId) (as : List SV) (d : Deferred) : Prop where
  h : ∃ (fs cs : Array Value), d.target = .fn (.func g) cs ∧ d.args = fs ∧ scL base as = true ∧ DenL e as (fs ++ cs).toList
def Dl (P : Program) (e : Env) (base : Nat) : Option (FuncId × List SV) → List Deferred → PH → PH → Prop
  | none, D, Fr, Fr1 => D = [] ∧ Fr1 = Fr
  | some (g, as), D, Fr, Fr1 => ∃ d D1, D = d :: D1 ∧ DfOk P e base g as d ∧ Grow Fr [] Fr1 D1
theorem grow_le {Fr Fr' : PH} {D D' : List Deferred} (h : Grow Fr D Fr' D') : FrLe Fr Fr' := h.1
theorem lv_ok {rec : Rec τ} (hrec : RecOk I P rec) {fn : Func} {K : SV → List (SB τ) → Prop} {d : Option (FuncId × List SV)} {st : St τ} {e0 e1 e : Env} {Fr Fr1 Fr2 : PH} {D1 D2 : List Deferred} {a : Act} {w : World}
    (h : lvK P rec fn K d st) (hM0 : ∃ H0 w0, Models I e0 H0 Fr w0 ∧ H0.length = st.base) (h01 : Dl P e1 st.base d D1 Fr Fr1) (hl0 : LeB st.base e0 e1) (hl1 : LeB st.base e1 e) (hG : Grow Fr1 D1 Fr2 D2) (hok : StOk I e Fr2 D2 st a w) :
    LeavesInM (FF none) 0 P fn a.tmps (Ends I e0 Fr K) a.defers .returning w := by
  obtain ⟨H0, w0, hM0, hlen0⟩ := hM0
  have hLe : ∀ e', LeB st.base e e' → Le e0 e' := fun e' hl i r hi => by
    by_cases hlt : i < st.base
    · exact (hl0.trans (hl1.trans hl)) i hlt r hi
    · obtain ⟨_, hs, _, h2, _⟩ := hM0
      rw [(h2 i (by omega)).1] at hi
      cases hi
  obtain ⟨hF2, ns2, hD2, hnd2, hns2⟩ := hG
  have hro := hM0.1.ro
  have fin : ∀ {st' : St τ} {e' : Env} {ns : List Nat} {Fr' : PH} {w' : World}, leaveK P fn st' K → st'.df = [] → DenL e' st'.tm a.tmps.toList → LeB st.base e e' → Models I e' st'.H Fr' w' → FrLe Fr Fr' → ns.Nodup → (∀ n ∈ ns, Fr n = none ∧ Fr' n = some (.deferred (some []))) →
      LeavesInM (FF none) 0 P fn a.tmps (Ends I e0 Fr K) (ns.map markD ++ []) .returning w' := fun {st' e' ns Fr' w'} hk hdf ht hl hM hF hnd hns => by
    refine leavesM_marks (takes_ok (Fr := Fr) (e := e') (H := st'.H) (fun w1 hM1 => ?_) hro hM hF hnd hns)
    obtain ⟨v, x, hv, hdv, hx⟩ := leaveK_ok hk hdf ht hM1
    exact ⟨v, hv, x, st'.H, e', v, rfl, hLe e' hl, hM1, hdv, hx⟩
  rw [hok.df.2, hD2]
  cases d with
  | none =>
    obtain ⟨rfl, rfl⟩ := h01
    exact fin h hok.df.1 hok.tm (LeB.refl _ e) hok.models hF2 hnd2 hns2
  | some ga =>
    obtain ⟨g, as⟩ := ga
    obtain ⟨d, D0, rfl, ⟨fs, cs, ht1, ht2, hsc, hden⟩, hF1, ns1, hD1, hnd1, hns1⟩ := h01
    rw [List.append_nil] at hD1
    subst hD1
    unfold lvK at h
    simp only at h
    split at h
    · rename_i fg hfg
      split at h
      · rename_i hn hb
        have hro1 : ∀ (k : Nat) (o : Obj), I.ro k = some o → Fr1 k = some o := fun k o hk => hF1 k o (hro k o hk)
        refine leavesM_marks (takes_ok (Fr := Fr1) (e := e) (H := st.H) (fun w1 hM1 => ?_) hro1 hok.models hF2 hnd2 hns2)
        have hden' : DenL e as (fs ++ cs).toList := (denL_cut _ _ hsc hden).mono fun i r hi => by
          unfold cut at hi
          split at hi
          · rename_i hlt; exact hl1 i hlt r hi
          · cases hi
        have hcall := body_okD (u := .returning) hrec hfg h hden' hM1
        rw [Array.toArray_toList] at hcall
        refine ⟨(by intro hc; cases hc), .inr ⟨(fun hc => by cases hc), .func g, cs, g, fs ++ cs, ht1, ?_, fun _ _ => trivial, hcall.mono fun en u' w2 hq => ?_⟩⟩
        · rw [ht1, ht2]
          simp only [invoke, callFunc, Sem.run_bind, run_program, Result.andThen_ok, hfg, hn, hb, Bool.false_eq_true, if_false, Sem.run_pure]
        · obtain ⟨rfl, x, H', e2, v, rfl, hle2, hM2, _, hk⟩ := hq
          have := fin (st' := { st with H := H' }) hk hok.df.1 (hok.tm.mono hle2) (LeB.of_le hle2) hM2 hF1 hnd1 hns1
          rw [List.append_nil] at this
          exact this
      · exact h.elim
    · exact h.elim
theorem d_ok {cfg : Cfg τ} {rec : Rec τ} (hrec : RecOk I cfg.P rec) (hcon : ConsOk I cfg) {fn : Func} {K : SV → List (SB τ) → Prop} {e0 : Env} {Fr : PH} {H0 : List (SB τ)} {w0 : World} (hM0 : Models I e0 H0 Fr w0) :
    ∀ (l : List Code) (d : Option (FuncId × List SV)) (st : St τ) (e1 e : Env) (Fr1 Fr2 : PH) (D1 D2 : List Deferred) (a : Act) (w : World), st.rnd = false → st.base = H0.length → dK cfg rec (lvK cfg.P rec fn K) l d st →
      Dl cfg.P e1 st.base d D1 Fr Fr1 → LeB st.base e0 e1 → LeB st.base e1 e → Grow Fr1 D1 Fr2 D2 → StOk I e Fr2 D2 st a w → wpL (FF none) 0 cfg.P l (bodyPostM (FF none) 0 cfg.P fn (Ends I e0 Fr K)) a w
  | [], d, st, e1, e, Fr1, Fr2, D1, D2, a, w, hrn, hb, h, h1, h2, h3, h4, h5 => lv_ok hrec h ⟨H0, w0, hM0, hb.symm⟩ h1 h2 h3 h4 h5
  | c :: r, d, st, e1, e, Fr1, Fr2, D1, D2, a, w, hrn, hb, h, h1, h2, h3, h4, h5 => by
    unfold dK at h
    split at h
    · rename_i ops l f args hdf
      obtain ⟨id, o, cl, rfl, hops, hg, hdst, hop, hcal, rfl⟩ := deferOf_ok hdf
      cases d with
      | some _ => exact h.elim
      | none =>
        obtain ⟨rfl, rfl⟩ := h1
        simp only [wpL]
        refine wpIn_region_list ?_
        rw [hops]
        refine wpListIn_snoc ?_
        refine ops_ok hrec hcon (Q := Exit.then (wpListIn (FF none) 0 cfg.P ops (Exit.then (fun a w => wpL (FF none) 0 cfg.P r (bodyPostM (FF none) 0 cfg.P fn (Ends I e0 Fr1 K)) a w) (bodyPostM (FF none) 0 cfg.P fn (Ends I e0 Fr1 K))) [o]) _) l st e a w h h5 ?_
        intro e' s a' w' g1 g2 g3 g4 g5
        split at g5
        · rename_i g fi ca hcs
          obtain ⟨hsc, hk⟩ := rq_elim g5
          obtain ⟨fs, cs, hfv, hfi, hca⟩ := callee_ok hcs (ev_ok g4.tm f)
          have hargs := evs_ok g4.tm cl.args.toList
          have hall := (hfi.append hargs).append hca
          have hsem : (o.semAt none a'.eval).run cfg.P w' = .ok (.defer { target := .fn (.func g) cs, args := fs ++ cl.args.map a'.eval }) w' := by
            obtain ⟨callee, cargs, ats⟩ := cl
            simp only at hcal
            subst hcal
            simp [Oper.semAt, execOp, hop, resolve, hfv, Deferred.ofValue]
          show wpListIn _ _ _ _ _ [o] a' w'
          simp only [wpListIn, Region.wanted, hg, if_true]
          refine ⟨fun _ _ => trivial, ?_⟩
          show o.uponIn _ _ _ a' _ _ ((o.semAt none a'.eval).run cfg.P w')
          rw [hsem, Oper.uponIn_defer, hdst]
          simp only [Act.put]
          have hbs : s.base = st.base := g2
          refine d_ok hrec hcon hM0 r _ s e' e' Fr2 Fr2 ({ target := .fn (.func g) cs, args := fs ++ cl.args.map a'.eval } :: D2) ({ target := .fn (.func g) cs, args := fs ++ cl.args.map a'.eval } :: D2) _ w' (g3.trans hrn) (g2.trans hb) hk ?_ ?_ (LeB.refl _ _) (Grow.refl _ _) ⟨g4.models, g4.tm, g4.df.1, by rw [g4.df.2]⟩
          · refine ⟨_, _, rfl, ⟨fs ++ cl.args.map a'.eval, cs, rfl, rfl, hsc, ?_⟩, h4⟩
            have e3 : (fs ++ cl.args.map a'.eval ++ cs).toList = fs.toList ++ cl.args.toList.map a'.eval ++ cs.toList := by simp
            rw [e3]; exact hall
          · rw [hbs]; exact h2.trans (h3.trans g1)
        · exact g5.elim
    · simp only [wpL]
      refine wpIn_mono (hrec c st _ e Fr2 D2 a w none hrn h h5) fun ex a1 w1 hp => ?_
      obtain ⟨e2, s1, Fr3, D3, g1, g2, g3, gG, g4, g5⟩ := hp
      have hG := h4.trans gG.1
      have hl : LeB s1.base e1 e2 := by rw [g2]; exact h3.trans g1
      cases ex with
      | normal => exact d_ok hrec hcon hM0 r d s1 e1 e2 Fr1 Fr3 D1 D3 a1 w1 (g3.trans hrn) (g2.trans hb) g5 (g2 ▸ h1) (g2 ▸ h2) hl hG g4
      | ret => exact lv_ok hrec g5 ⟨H0, w0, hM0, (g2.trans hb).symm⟩ (g2 ▸ h1) (g2 ▸ h2) hl hG g4
      | _ => exact g5.elim
theorem bodyD_ok {cfg : Cfg τ} {rec : Rec τ} (hrec : RecOk I cfg.P rec) (hcon : ConsOk I cfg) {g : FuncId} {fn : Func} {args : List SV} {H : List (SB τ)} {K : SV → List (SB τ) → Prop} {e : Env} {Fr : PH} {w : World} {vs : List Value}
    (hf : cfg.P.funcs[g]? = some fn) (h : bodyDK cfg rec fn args H K) (hd : DenL e args vs) (hM : Models I e H Fr w) : Calls cfg.P g vs.toArray w (Ends I e Fr K) := by
  unfold bodyDK at h
  split at h
  · rename_i c hc
    refine calls_of_FF (r := none) (n := 0) (callsIn_of_wp_marks hf hc trivial (wp_spine ?_))
    have hok : StOk I e Fr [] { tm := args ++ List.replicate (fn.ntmps - args.length) (.v undef), H := H, df := [], base := H.length, rnd := false }
        { tmps := vs.toArray ++ Array.replicate (fn.ntmps - vs.toArray.size) undef, defers := [] } w := by
      refine ⟨hM, ?_, rfl, rfl⟩
      have hl := hd.length
      have := hd.append (DenL.replicate (e := e) (.v undef) undef (by simp [Den]) (fn.ntmps - args.length))
      rw [hl] at this
      simpa [hl] using this
    exact d_ok hrec hcon hM (spine c) none _ e e Fr Fr [] [] _ w rfl rfl h ⟨rfl, rfl⟩ (LeB.refl _ e) (LeB.refl _ e) (Grow.refl Fr []) hok
  · exact h.elim
theorem lc_mkD {g : FuncId} {fn : Func} {α β : Type} {s : ShL α} {t : ShH β} {alt : α × β → Alt Unit} (F : St Unit → List Fx) (cfg : α × β → Cfg Unit) (hcfg : ∀ a (I : Inv Unit), CfgOk I (cfg a)) (hP : ∀ a, (cfg a).P = P) {n : Nat} (hf : P.funcs[g]? = some fn)
    (h : ∀ a, (alt a).pre → Ask (bodyDK (cfg a) (run (cfg a) n) fn (s.enc a.1) (t.enc a.2) (fun y H' => altFinF F (alt a) (t.enc a.2).length y H'))) : ∀ I : Inv Unit, LCOk I P g (mkLC (decP s t) alt) :=
  lc_of_callsF (F := F) decP_ok fun a I e Fr w vs hpre hd hM => by
    have hP' := hP a
    subst hP'
    exact bodyD_ok (run_ok (hcfg a I) n) (hcfg a I).con hf (h a hpre).h hd hM

end Go.Sym
