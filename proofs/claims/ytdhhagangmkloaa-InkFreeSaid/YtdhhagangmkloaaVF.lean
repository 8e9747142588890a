/- The symbolic run is sound. -/
import Derived.Test.YtdhhagangmkloaaVE
set_option linter.unusedSimpArgs false
set_option linter.unusedVariables false
set_option linter.unusedSectionVars false
namespace Go.Sym
open Go
variable {τ : Type} {I : Inv τ} {P : Program}

/-- The widest fence, in an activation or in a round. -/
def FF (r : Option Nat) : Fence := { fn := fun _ => True, depth := none, alive := false, round := r }
theorem FF_wide : FF none = Fence.wide := rfl
theorem FF_round (r : Option Nat) (l : Nat) : (FF r).inRound l = FF (some l) := rfl
theorem calls_FF {r : Option Nat} {n : Nat} {f : FuncId} {args : Array Value} {w : World} {R : Ending → World → Prop} (h : Calls P f args w R) : CallsIn (FF r) n P f args w R :=
  (callsIn_wide (n := n)).2 h
theorem calls_of_FF {r : Option Nat} {n : Nat} {f : FuncId} {args : Array Value} {w : World} {R : Ending → World → Prop} (h : CallsIn (FF r) n P f args w R) : Calls P f args w R :=
  (callsIn_wide (n := n)).1 h

def LeB (b : Nat) (e e' : Env) : Prop := ∀ i, i < b → ∀ r, e i = some r → ∃ r', e' i = some r' ∧ r.le r'
theorem LeB.refl (b : Nat) (e : Env) : LeB b e e := fun _ _ r h => ⟨r, h, r.le_refl⟩
theorem LeB.blk {b : Nat} {e e' : Env} (h : LeB b e e') {i n : Nat} (hi : i < b) (he : e i = some (.blk n)) : e' i = some (.blk n) := by
  obtain ⟨r, h1, h2⟩ := h i hi _ he
  rw [h1]; exact congrArg some h2
theorem LeB.of_le {b : Nat} {e e' : Env} (h : Le e e') : LeB b e e' := fun i _ r hr => h i r hr
theorem LeB.trans {b : Nat} {e e' e'' : Env} (h : LeB b e e') (h' : LeB b e' e'') : LeB b e e'' := fun i hi r hr => by
  obtain ⟨r1, h1, h2⟩ := h i hi r hr
  obtain ⟨r2, h3, h4⟩ := h' i hi r1 h1
  exact ⟨r2, h3, Ref.le_trans h2 h4⟩

def DfOk (e : Env) : List Nat → List Deferred → Prop
  | [], ds => ds = []
  | i :: is, ds => ∃ n r, e i = some (.blk n) ∧ ds = { target := .collected n, args := #[] } :: r ∧ DfOk e is r
theorem DfOk.mono {e e' : Env} (h : Le e e') : ∀ {is : List Nat} {ds : List Deferred}, DfOk e is ds → DfOk e' is ds
  | [], _, hd => hd
  | i :: is, _, hd => by obtain ⟨n, r, h1, h2, h3⟩ := hd; exact ⟨n, r, h.blk h1, h2, DfOk.mono h h3⟩

structure StOk (I : Inv τ) (e : Env) (Fr : PH) (st : St τ) (a : Act) (w : World) : Prop where
  models : Models I e st.H Fr w
  tm : DenL e st.tm a.tmps.toList
  df : DfOk e st.df a.defers

def Post (I : Inv τ) (e : Env) (Fr : PH) (st : St τ) (K : Exit → St τ → Prop) : Exit → Act → World → Prop := fun ex a w =>
  ∃ e' st', LeB st.base e e' ∧ st'.base = st.base ∧ st'.rnd = st.rnd ∧ StOk I e' Fr st' a w ∧ K ex st'

theorem Post.trans {e e' : Env} {Fr : PH} {st st' : St τ} {K : Exit → St τ → Prop} {ex : Exit} {a : Act} {w : World} (hl : LeB st.base e e') (hb : st'.base = st.base) (hr : st'.rnd = st.rnd)
    (h : Post I e' Fr st' K ex a w) : Post I e Fr st K ex a w := by
  obtain ⟨e2, s2, h1, h2, h3, h4, h5⟩ := h
  exact ⟨e2, s2, hl.trans (hb ▸ h1), h2.trans hb, h3.trans hr, h4, h5⟩

def RecOk (I : Inv τ) (P : Program) (rec : Rec τ) : Prop :=
  ∀ (c : Code) (st : St τ) (K : Exit → St τ → Prop) (e : Env) (Fr : PH) (a : Act) (w : World) (r : Option Nat),
    st.rnd = r.isSome → rec c st K → StOk I e Fr st a w → c.wpIn (FF r) 0 P (Post I e Fr st K) a w

/-- What a call comes to. -/
def Ends (I : Inv τ) (e : Env) (Fr : PH) (K : SV → List (SB τ) → Prop) : Ending → World → Prop := fun en w' =>
  ∃ x H' e' v, en = .returned v ∧ Le e e' ∧ Models I e' H' Fr w' ∧ Den e' x v ∧ K x H'

def ConOk (I : Inv τ) (P : Program) (g : FuncId) (con : Con τ) : Prop :=
  ∀ (args : List SV) (H : List (SB τ)) (K : SV → List (SB τ) → Prop) (e : Env) (Fr : PH) (w : World) (vs : List Value),
    con args H K → DenL e args vs → Models I e H Fr w → Calls P g vs.toArray w (Ends I e Fr K)

/-! ### Slots -/
theorem put_den {e : Env} {tm : List SV} {a : Act} {x : SV} {v : Value} (dst : Option Tmp) (h : DenL e tm a.tmps.toList) (hd : Den e x v) : DenL e (putS dst x tm) (a.put dst v).tmps.toList := by
  cases dst with
  | none => exact h
  | some d => simpa [putS, Act.put] using h.set hd
theorem put_defers (a : Act) (dst : Option Tmp) (v : Value) : (a.put dst v).defers = a.defers := by cases dst <;> rfl
theorem set_same {e : Env} : ∀ {tm : List SV} {vs : List Value} {t : Nat} {x : SV}, DenL e tm vs → (∀ v, vs[t]? = some v → Den e x v) → DenL e (tm.set t x) vs
  | [], _, _, _, h, _ => by simpa using h
  | y :: tm, _, t, x, h, hx => by
    simp only [DenL] at h
    obtain ⟨v, r, rfl, h2, h3⟩ := h
    cases t with
    | zero => simp only [List.set_cons_zero, DenL]; exact ⟨v, r, rfl, hx v (by simp), h3⟩
    | succ t => simp only [List.set_cons_succ, DenL]; exact ⟨v, r, rfl, h2, set_same h3 (fun u hu => hx u (by simpa using hu))⟩
theorem setB_den {e : Env} {tm : List SV} {a : Act} {c : Operand} {b : Bool} (h : DenL e tm a.tmps.toList) (hb : ev tm c = .v (.bool b)) : DenL e (setB c b tm) a.tmps.toList := by
  cases c with
  | tmp t =>
    refine set_same h fun v hv => ?_
    have hd := ev_ok h (.tmp t)
    rw [hb] at hd
    simp only [Den, Act.eval] at hd ⊢
    have : a.tmps[t]? = some v := by simpa using hv
    simpa [this] using hd
  | _ => exact h

theorem semAt_eq {o : Oper} {r : Option Nat} {ρ : Operand → Value} (h : ∀ c, o.op ≠ .defer c) : o.semAt r ρ = execOp ρ o := by
  unfold Oper.semAt
  split
  · rename_i l c hc; exact absurd hc (h c)
  · rfl

/-! ### Results -/
def resRun (tmps : Array Value) : ResultVar → Sem Value
  | .tmp t => pure (tmps.getD t undef)
  | .cell a t => do loadVar t (← asAddr (tmps.getD a undef))
theorem results_eq (fn : Func) (tmps : Array Value) : results fn tmps = (do
    let vs ← fn.results.mapM (resRun tmps)
    pure (if h : vs.size = 1 then vs[0] else .tuple vs)) := by
  unfold results
  have : (fun (x : ResultVar) => (match x with
    | .tmp t => pure (tmps.getD t undef)
    | .cell a t => do loadVar t (← asAddr (tmps.getD a undef)) : Sem Value)) = resRun tmps := by
    funext x; cases x <;> rfl
  rw [← this]
  rfl
theorem resS_ok {e : Env} {tm : List SV} {H : List (SB τ)} {Fr : PH} {w : World} {tmps : Array Value} (hM : Models I e H Fr w) (ht : DenL e tm tmps.toList) :
    ∀ {rs : List ResultVar} {l : List SV}, resS P tm H rs = some l →
      ∃ vs, (rs.mapM (resRun tmps)).run P w = .ok vs w ∧ DenL e l vs
  | [], l, h => by simp only [resS, Option.some.injEq] at h; subst h; exact ⟨[], by simp, by simp [DenL]⟩
  | .tmp t :: rs, l, h => by
    unfold resS at h
    split at h
    · rename_i l' h1
      simp only [Option.some.injEq] at h
      subst h
      obtain ⟨vs, hv, hd⟩ := resS_ok hM ht h1
      have ht' : Den e (tm.getD t (.v undef)) (tmps.getD t undef) := ev_ok (a := { tmps := tmps, defers := [] }) ht (.tmp t)
      refine ⟨tmps.getD t undef :: vs, ?_, ?_⟩
      · simp only [List.mapM_cons, resRun, Sem.run_bind, Sem.run_pure, Result.andThen_ok, hv]
      · simp only [DenL]; exact ⟨_, _, rfl, ht', hd⟩
    · simp at h
  | .cell a T :: rs, l, h => by
    unfold resS at h
    split at h
    · rename_i x l' hx h1
      simp only [Option.some.injEq] at h
      subst h
      obtain ⟨vs, hv, hd⟩ := resS_ok hM ht h1
      have ha' : Den e (tm.getD a (.v undef)) (tmps.getD a undef) := ev_ok (a := { tmps := tmps, defers := [] }) ht (.tmp a)
      obtain ⟨u, hu, hdu⟩ := loadS_ok hM hx ha'
      have hpt : ∃ ad, tmps.getD a undef = .pointer (some ad) ∧ (loadVar T ad).run P w = .ok u w := by
        unfold loadS at hx
        split at hx
        · rename_i b o heq
          rw [heq] at ha'
          simp only [Den] at ha'
          obtain ⟨n, _, hp⟩ := ha'
          refine ⟨_, hp, ?_⟩
          rw [hp] at hu
          simpa [Instr.loadAt, Instr.sureAddr] using hu
        · simp at hx
      obtain ⟨ad, hp, hl⟩ := hpt
      refine ⟨u :: vs, ?_, ?_⟩
      · have h2 : (resRun tmps (.cell a T)).run P w = .ok u w := by simp only [resRun, Sem.run_bind, hp, asAddr, Sem.run_pure, Result.andThen_ok, hl]
        simp only [List.mapM_cons, Sem.run_bind, h2, Sem.run_pure, Result.andThen_ok, hv]
      · simp only [DenL]; exact ⟨_, _, rfl, hdu, hd⟩
    · simp at h

theorem results_ok {e : Env} {tm : List SV} {H : List (SB τ)} {Fr : PH} {w : World} {tmps : Array Value} {fn : Func} {l : List SV} (hM : Models I e H Fr w) (ht : DenL e tm tmps.toList)
    (h : resS P tm H fn.results.toList = some l) : ∃ v, (results fn tmps).run P w = .ok v w ∧ Den e (oneR l) v := by
  obtain ⟨vs, hv, hd⟩ := resS_ok hM ht h
  have hm : (fn.results.mapM (resRun tmps)).run P w = .ok vs.toArray w := by
    rw [Array.mapM_eq_mapM_toList]
    simp only [Sem.run_map]
    rw [hv]
    rfl
  have hr : (results fn tmps).run P w = .ok (if h : vs.toArray.size = 1 then vs.toArray[0] else .tuple vs.toArray) w := by
    rw [results_eq, Sem.run_bind, hm]
    rfl
  refine ⟨_, hr, ?_⟩
  match l, vs, hd with
  | [], _, hd => simp only [DenL] at hd; subst hd; simp [oneR, Den, DenL]
  | [x], _, hd =>
    simp only [DenL] at hd
    obtain ⟨v, r, rfl, h2, rfl⟩ := hd
    simpa [oneR] using h2
  | x :: y :: l, vs, hd =>
    have hl := hd.length
    have : ¬ vs.length = 1 := by simp at hl; omega
    simp only [oneR, List.size_toArray, this, dite_false, Den]
    exact ⟨vs, hd, rfl⟩

/-! ### Leaving -/
theorem run_getObj {w : World} {n : Nat} {o : Obj} (h : w.heap[n]? = some o) (hc : ∀ c t f, o ≠ .cells c t f) : (getObj n).run P w = .ok o w := by
  unfold getObj
  simp only [Sem.run, h]
theorem run_setObj {w : World} {n : Nat} {o o' : Obj} (h : w.heap[n]? = some o) (hc : ∀ c t f, o ≠ .cells c t f) : (setObj n o').run P w = .ok () { w with heap := w.heap.setIfInBounds n o' } := by
  unfold setObj
  simp only [Sem.run, h]
theorem Models.obj {e : Env} {H : List (SB τ)} {Fr : PH} {w : World} (h : Models I e H Fr w) {i : Nat} {o : Obj} (hi : H[i]? = some (.obj o)) : ∃ n, e i = some (.blk n) ∧ w.heap[n]? = some o := by
  obtain ⟨hn, ⟨n, h1, rfl⟩, h5⟩ := h.item hi
  exact ⟨n, h1, h5 n _ (by simp [single])⟩
theorem Models.putObj {e : Env} {H : List (SB τ)} {Fr : PH} {w : World} (h : Models I e H Fr w) {i n : Nat} {b b' : SB τ} {o o' : Obj} (hi : H[i]? = some b) (hn : e i = some (.blk n)) (ho : w.heap[n]? = some o)
    (hb : ∀ hp, ItemOk I e b (e i) hp → ∃ o, hp = single n o) (hb' : ItemOk I e b' (e i) (single n o')) : Models I e (H.set i b') Fr { w with heap := w.heap.setIfInBounds n o' } := by
  have hlt : n < w.heap.size := (Array.getElem?_eq_some_iff.1 ho).1
  exact h.turn hi hn hb hb' (by simp [hlt]) (fun k hk => by simp [Array.getElem?_setIfInBounds, Ne.symm hk]) ⟨rfl, rfl⟩

theorem leave_ok {fn : Func} {R : Ending → World → Prop} {e : Env} {Fr : PH} {K : SV → List (SB τ) → Prop} {st : St τ} {tmps : Array Value} (hR : ∀ v w H' x, Models I e H' Fr w → Den e x v → K x H' → R (.returned v) w)
    (ht : DenL e st.tm tmps.toList) : ∀ {df : List Nat} {H : List (SB τ)} {ds : List Deferred} {w : World}, Models I e H Fr w → DfOk e df ds →
      (match takeDf df H with
        | some H' => match resS P st.tm H' fn.results.toList with
          | some l => K (oneR l) H'
          | none => False
        | none => False) → LeavesInM (FF none) 0 P fn tmps R ds .returning w
  | [], H, ds, w, hM, hd, h => by
    simp only [DfOk] at hd
    subst hd
    simp only [takeDf] at h
    split at h
    · rename_i l hl
      obtain ⟨v, hv, hdv⟩ := results_ok hM ht hl
      exact ⟨v, hv, hR v w H _ hM hdv h⟩
    · exact h.elim
  | i :: is, H, ds, w, hM, hd, h => by
    obtain ⟨n, r, h1, rfl, h3⟩ := hd
    simp only [takeDf] at h
    split at h
    · rename_i H' hH'
      split at hH'
      · rename_i hi
        obtain ⟨n', g1, g2⟩ := hM.obj hi
        rw [h1] at g1; cases g1
        have hM' := hM.putObj (o' := .deferred none) (b' := .obj (.deferred none)) hi h1 g2 (fun hp hok => by
          obtain ⟨m, q1, q2⟩ := hok
          rw [h1] at q1; cases q1
          exact ⟨_, q2⟩) ⟨n, h1, rfl⟩
        refine ⟨(by intro hc; cases hc), .inl ⟨n, _, rfl, ?_, leave_ok hR ht hM' h3 (by rw [hH']; exact h)⟩⟩
        simp only [Instr.takeDeferred, Sem.run_bind, run_getObj (P := P) g2 (by intro c t f hc; cases hc), Result.andThen_ok, run_setObj (P := P) g2 (by intro c t f hc; cases hc), Sem.run_pure]
      · cases hH'
    · exact h.elim

/-! ### Calls -/
theorem body_ok {rec : Rec τ} (hrec : RecOk I P rec) {g : FuncId} {fn : Func} {args : List SV} {H : List (SB τ)} {K : SV → List (SB τ) → Prop} {e : Env} {Fr : PH} {w : World} {vs : List Value}
    (hf : P.funcs[g]? = some fn) (h : bodyK P rec fn args H K) (hd : DenL e args vs) (hM : Models I e H Fr w) : Calls P g vs.toArray w (Ends I e Fr K) := by
  unfold bodyK at h
  split at h
  · rename_i c hc
    refine calls_of_FF (r := none) (n := 0) (callsIn_of_wp_marks hf hc trivial ?_)
    have hok : StOk I e Fr { tm := args ++ List.replicate (fn.ntmps - args.length) (.v undef), H := H, df := [], base := H.length, rnd := false }
        { tmps := vs.toArray ++ Array.replicate (fn.ntmps - vs.toArray.size) undef, defers := [] } w := by
      refine ⟨hM, ?_, rfl⟩
      have hl := hd.length
      have := hd.append (DenL.replicate (e := e) (.v undef) undef (by simp [Den]) (fn.ntmps - args.length))
      rw [hl] at this
      simpa [hl] using this
    have hfr := hM
    refine wpIn_mono (hrec _ _ _ e Fr _ w none rfl h hok) fun ex a' w' hp => ?_
    obtain ⟨e', st', hle, hb, hr, hok', hK⟩ := hp
    have hLe : Le e e' := fun i r hi => by
      by_cases hlt : i < H.length
      · exact hle i hlt r hi
      · obtain ⟨_, hs, _, h2, _⟩ := hfr
        rw [(h2 i (by omega)).1] at hi
        cases hi
    have key : leaveK P fn st' K → LeavesInM (FF none) 0 P fn a'.tmps (Ends I e Fr K) a'.defers .returning w' := fun hk =>
      leave_ok (R := Ends I e Fr K) (K := K) (fun v w H' x hM' hdv hx => ⟨x, H', e', v, rfl, hLe, hM', hdv, hx⟩) hok'.tm hok'.models hok'.df hk
    cases ex with
    | normal => exact key hK
    | ret => exact key hK
    | exit id => exact hK.elim
    | goto l => exact hK.elim
    | panic c => exact hK.elim
    | outgrown => exact hK.elim
  · exact h.elim

/-- A contract that says what a call comes to. -/
structure AConOk (I : Inv τ) (P : Program) (g : FuncId) (ac : ACon τ) : Prop where
  keeps : ∀ args H x H' ws b, (ac args H).has x H' ws → hasN ws b = false → b < H.length → H'[b]? = H[b]? ∧ H.length ≤ H'.length
  ok : ∀ (args : List SV) (H : List (SB τ)) (e : Env) (Fr : PH) (w : World) (vs : List Value), (ac args H).pre → DenL e args vs → Models I e H Fr w →
    Calls P g vs.toArray w fun en w' => ∃ x H' ws e' v, (ac args H).has x H' ws ∧ en = .returned v ∧ Le e e' ∧ Models I e' H' Fr w' ∧ Den e' x v
structure ConsOk (I : Inv τ) (cfg : Cfg τ) : Prop where
  con : ∀ g con, cfg.con g = some con → ConOk I cfg.P g con
  acon : ∀ g ac, cfg.acon g = some ac → AConOk I cfg.P g ac
theorem call_ok {cfg : Cfg τ} {rec : Rec τ} (hrec : RecOk I cfg.P rec) (hcon : ConsOk I cfg) {g : FuncId} {args : List SV} {H : List (SB τ)} {K : SV → List (SB τ) → Prop}
    {e : Env} {Fr : PH} {w : World} {vs : List Value} (h : callK cfg rec g args H K) (hd : DenL e args vs) (hM : Models I e H Fr w) :
    (∀ (as : Array Value) (w : World), (callFunc g as).run cfg.P w = .ok (.enter g as) w) ∧ Calls cfg.P g vs.toArray w (Ends I e Fr K) := by
  unfold callK at h
  split at h
  · rename_i fn hfn
    split at h
    · rename_i hn hb
      refine ⟨fun as w => ?_, ?_⟩
      · simp only [callFunc, Sem.run_bind, run_program, Result.andThen_ok, hfn, hn, hb, Bool.false_eq_true, if_false, Sem.run_pure]
      · split at h
        · rename_i con hc
          exact hcon.con g con hc args H K e Fr w vs h hd hM
        · split at h
          · rename_i ac hc
            refine ((hcon.acon g ac hc).ok args H e Fr w vs (altK_pre h) hd hM).mono fun en w' he => ?_
            obtain ⟨x, H', ws, e', v, h1, h2, h3, h4, h5⟩ := he
            exact ⟨x, H', e', v, h2, h3, h4, h5, altK_has h h1⟩
          · exact body_ok hrec hfn h hd hM
    · exact h.elim
  · exact h.elim

theorem callee_ok {e : Env} {x : SV} {v : Value} {g : FuncId} {fi ca : List SV} (h : calleeS x = some (g, fi, ca)) (hd : Den e x v) :
    ∃ fs cs, v = .func (.func g) fs cs ∧ DenL e fi fs.toList ∧ DenL e ca cs.toList := by
  unfold calleeS at h
  split at h
  · simp only [Option.some.injEq, Prod.mk.injEq] at h
    obtain ⟨rfl, rfl, rfl⟩ := h
    simp only [Den] at hd
    exact ⟨_, _, hd, DenL.plain _, DenL.plain _⟩
  · simp only [Option.some.injEq, Prod.mk.injEq] at h
    obtain ⟨rfl, rfl, rfl⟩ := h
    simp only [Den] at hd
    obtain ⟨vs, h1, rfl⟩ := hd
    exact ⟨#[], vs.toArray, rfl, by simp [DenL], by simpa using h1⟩
  · simp at h

end Go.Sym
