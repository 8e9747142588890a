/- The symbolic run is sound. -/
import Derived.Test.YtienakdnmhmglaaVE
set_option linter.unusedSimpArgs false
set_option linter.unusedVariables false
set_option linter.unusedSectionVars false
namespace Go.Sym
open Go
variable {τ : Type} {I : Inv τ} {P : Program} {D : List Deferred}

/-! ### Frames that grow: an item is given to the frame; an object of the frame is turned and forgotten -/
def FrLe (Fr Fr' : PH) : Prop := ∀ n o, Fr n = some o → Fr' n = some o
theorem FrLe.refl (Fr : PH) : FrLe Fr Fr := fun _ _ h => h
theorem FrLe.trans {a b c : PH} (h : FrLe a b) (h' : FrLe b c) : FrLe a c := fun n o hn => h' n o (h n o hn)
theorem FrLe.none {a b : PH} (h : FrLe a b) {n : Nat} (hn : b n = none) : a n = none := by
  cases hq : a n with
  | none => rfl
  | some o => rw [h n o hq] at hn; cases hn
theorem Models.lessF {e : Env} {H : List (SB τ)} {Fr Fr' : PH} {w : World} (h : Models I e H Fr' w) (hle : FrLe Fr Fr') (hro : ∀ (k : Nat) (o : Obj), I.ro k = some o → Fr k = some o) : Models I e H Fr w := by
  obtain ⟨h0, hs, h1, h2, h3, h4, h5, h6⟩ := h
  exact ⟨⟨h0.os, h0.out, hro⟩, hs, h1, h2, h3, fun i k => (h4 i k).imp id fun hk => hle.none hk, h5, fun k o hk => h6 k o (hle k o hk)⟩
def addF (Fr : PH) (n : Nat) (o : Obj) : PH := fun k => if k = n then some o else Fr k
def remF (Fr : PH) (n : Nat) : PH := fun k => if k = n then none else Fr k
theorem addF_le {Fr : PH} {n : Nat} {o : Obj} (h : Fr n = none) : FrLe Fr (addF Fr n o) := fun k x hk => by
  unfold addF
  rw [if_neg (fun e => by subst e; rw [h] at hk; cases hk)]; exact hk
theorem Models.giveF {e : Env} {H : List (SB τ)} {Fr : PH} {w : World} (h : Models I e H Fr w) {i : Nat} {o : Obj} (hi : H[i]? = some (.obj o)) :
    ∃ n, e i = some (.blk n) ∧ Fr n = none ∧ w.heap[n]? = some o ∧ Models I e (H.set i .gone) (addF Fr n o) w := by
  obtain ⟨h0, hs, h1, h2, h3, h4, h5, h6⟩ := h
  obtain ⟨n, q1, q2⟩ := h1 i _ hi
  have hin : hs i n = some o := by rw [q2]; simp [single]
  have hfr : Fr n = none := by
    rcases h4 i n with h | h
    · rw [hin] at h; cases h
    · exact h
  have hlt : i < H.length := (List.getElem?_eq_some_iff.1 hi).1
  refine ⟨n, q1, hfr, h5 i n o hin, ⟨h0.os, h0.out, fun k x hk => addF_le hfr k x (h0.ro k x hk)⟩, fun j => if j = i then emp else hs j, fun j b hj => ?_, fun j hj => ?_, fun j k hjk x => ?_, fun j x => ?_, fun j k x hk => ?_, fun k x hk => ?_⟩
  · by_cases hji : j = i
    · subst hji
      rw [List.getElem?_set_self hlt] at hj
      cases hj
      simp [ItemOk]
    · rw [List.getElem?_set_ne (Ne.symm hji)] at hj
      simp only [hji, if_false]
      exact h1 j b hj
  · rw [List.length_set] at hj
    simp only [show j ≠ i by omega, if_false]
    exact h2 j hj
  · by_cases hji : j = i
    · simp only [hji, if_true, emp, true_or]
    · by_cases hki : k = i
      · simp only [hki, if_true, emp, or_true]
      · simp only [hji, hki, if_false]; exact h3 j k hjk x
  · by_cases hji : j = i
    · simp only [hji, if_true, emp, true_or]
    · simp only [hji, if_false]
      unfold addF
      split
      · rename_i hx; subst hx
        rcases h3 j i hji x with h | h
        · exact .inl h
        · rw [hin] at h; cases h
      · exact h4 j x
  · by_cases hji : j = i
    · simp only [hji, if_true, emp] at hk; cases hk
    · simp only [hji, if_false] at hk; exact h5 j k x hk
  · unfold addF at hk
    split at hk
    · rename_i hx; subst hx; cases hk; exact h5 i k o hin
    · exact h6 k x hk
theorem Models.takeF {e : Env} {H : List (SB τ)} {Fr : PH} {w : World} (h : Models I e H Fr w) {n : Nat} {o o' : Obj} (hn : Fr n = some o) (hro : I.ro n = none) :
    Models I e H (remF Fr n) { w with heap := w.heap.setIfInBounds n o' } := by
  obtain ⟨h0, hs, h1, h2, h3, h4, h5, h6⟩ := h
  refine ⟨⟨h0.os, h0.out, fun k x hk => ?_⟩, hs, h1, h2, h3, fun j k => ?_, fun j k x hk => ?_, fun k x hk => ?_⟩
  · unfold remF
    rw [if_neg (fun e => by subst e; rw [hro] at hk; cases hk)]
    exact h0.ro k x hk
  · unfold remF
    split
    · exact .inr rfl
    · exact h4 j k
  · have hkn : k ≠ n := fun e => by
      subst e
      rcases h4 j k with h | h
      · rw [hk] at h; cases h
      · rw [hn] at h; cases h
    have := h5 j k x hk
    simp only [Array.getElem?_setIfInBounds, Ne.symm hkn, if_false]
    exact this
  · unfold remF at hk
    split at hk
    · cases hk
    · rename_i hkn
      have := h6 k x hk
      simp only [Array.getElem?_setIfInBounds, Ne.symm hkn, if_false]
      exact this
/-- The frame has grown by deferred lists that hold nothing. -/
def Grow (Fr : PH) (D : List Deferred) (Fr' : PH) (ds : List Deferred) : Prop :=
  FrLe Fr Fr' ∧ ∃ ns : List Nat, ds = ns.map (fun n => { target := .collected n, args := #[] }) ++ D ∧ ns.Nodup ∧ ∀ n ∈ ns, Fr n = none ∧ Fr' n = some (.deferred (some []))
theorem Grow.refl (Fr : PH) (D : List Deferred) : Grow Fr D Fr D := ⟨FrLe.refl Fr, [], rfl, List.nodup_nil, fun _ h => by cases h⟩
theorem Grow.trans {a b c : PH} {A B C : List Deferred} (h : Grow a A b B) (h' : Grow b B c C) : Grow a A c C := by
  obtain ⟨h1, ns, rfl, h2, h3⟩ := h
  obtain ⟨g1, ms, rfl, g2, g3⟩ := h'
  refine ⟨h1.trans g1, ms ++ ns, by rw [List.map_append, List.append_assoc], List.nodup_append.2 ⟨g2, h2, fun x hx y hy e => ?_⟩, fun n hn => ?_⟩
  · subst e
    have q1 := (g3 x hx).1
    rw [(h3 x hy).2] at q1; cases q1
  · rcases List.mem_append.1 hn with h | h
    · exact ⟨h1.none (g3 n h).1, (g3 n h).2⟩
    · exact ⟨(h3 n h).1, g1 n _ (h3 n h).2⟩
theorem Grow.one {Fr : PH} {D : List Deferred} {n : Nat} (h : Fr n = none) : Grow Fr D (addF Fr n (.deferred (some []))) ({ target := .collected n, args := #[] } :: D) :=
  ⟨addF_le h, [n], rfl, List.nodup_cons.2 ⟨List.not_mem_nil, List.nodup_nil⟩, fun k hk => by
    rw [List.mem_singleton] at hk; subst hk
    exact ⟨h, by simp [addF]⟩⟩

/-- The widest fence, in an activation or in a round. -/
def FF (r : Option Nat) : Fence := { fn := fun _ => True, depth := none, alive := false, round := r }
theorem FF_wide : FF none = Fence.wide := rfl
theorem FF_round (r : Option Nat) (l : Nat) : (FF r).inRound l = FF (some l) := rfl
theorem calls_FF {r : Option Nat} {n : Nat} {f : FuncId} {args : Array Value} {w : World} {R : Ending → World → Prop} (h : Calls P f args w R) : CallsIn (FF r) n P f args w R :=
  (callsIn_wide (n := n)).2 h
theorem calls_of_FF {r : Option Nat} {n : Nat} {f : FuncId} {args : Array Value} {w : World} {R : Ending → World → Prop} (h : CallsIn (FF r) n P f args w R) : Calls P f args w R :=
  (callsIn_wide (n := n)).1 h

def LeB (b : Nat) (e e' : Env) : Prop := ∀ i, i < b → ∀ r, e i = some r → ∃ r', e' i = some r' ∧ r.le r'
theorem LeB.refl (b : Nat) (e : Env) : LeB b e e := fun _ _ r h => ⟨r, h, r.le_refl⟩
theorem LeB.blk {b : Nat} {e e' : Env} (h : LeB b e e') {i n : Nat} (hi : i < b) (he : e i = some (.blk n)) : e' i = some (.blk n) := by
  obtain ⟨r, h1, h2⟩ := h i hi _ he
  rw [h1]; exact congrArg some h2
theorem LeB.of_le {b : Nat} {e e' : Env} (h : Le e e') : LeB b e e' := fun i _ r hr => h i r hr
theorem LeB.trans {b : Nat} {e e' e'' : Env} (h : LeB b e e') (h' : LeB b e' e'') : LeB b e e'' := fun i hi r hr => by
  obtain ⟨r1, h1, h2⟩ := h i hi r hr
  obtain ⟨r2, h3, h4⟩ := h' i hi r1 h1
  exact ⟨r2, h3, Ref.le_trans h2 h4⟩

structure StOk (I : Inv τ) (e : Env) (Fr : PH) (D : List Deferred) (st : St τ) (a : Act) (w : World) : Prop where
  models : Models I e st.H Fr w
  tm : DenL e st.tm a.tmps.toList
  df : st.df = [] ∧ a.defers = D

def Post (I : Inv τ) (e : Env) (Fr : PH) (D : List Deferred) (st : St τ) (K : Exit → St τ → Prop) : Exit → Act → World → Prop := fun ex a w =>
  ∃ e' st' Fr' D', LeB st.base e e' ∧ st'.base = st.base ∧ st'.rnd = st.rnd ∧ (Grow Fr D Fr' D' ∧ (st.rnd = true → Fr' = Fr)) ∧ StOk I e' Fr' D' st' a w ∧ K ex st'
theorem Post.here {e e' : Env} {Fr : PH} {st st' : St τ} {K : Exit → St τ → Prop} {ex : Exit} {a : Act} {w : World} (h1 : LeB st.base e e') (h2 : st'.base = st.base) (h3 : st'.rnd = st.rnd) (h4 : StOk I e' Fr D st' a w) (h5 : K ex st') : Post I e Fr D st K ex a w :=
  ⟨e', st', Fr, D, h1, h2, h3, ⟨Grow.refl Fr D, fun _ => rfl⟩, h4, h5⟩
theorem Post.trans {e e' : Env} {Fr Fr' : PH} {D' : List Deferred} {st st' : St τ} {K : Exit → St τ → Prop} {ex : Exit} {a : Act} {w : World} (hl : LeB st.base e e') (hb : st'.base = st.base) (hr : st'.rnd = st.rnd) (hg : Grow Fr D Fr' D' ∧ (st.rnd = true → Fr' = Fr))
    (h : Post I e' Fr' D' st' K ex a w) : Post I e Fr D st K ex a w := by
  obtain ⟨e2, s2, Fr2, D2, h1, h2, h3, h4, h5, h6⟩ := h
  exact ⟨e2, s2, Fr2, D2, hl.trans (hb ▸ h1), h2.trans hb, h3.trans hr, ⟨hg.1.trans h4.1, fun q => (h4.2 (hr.trans q)).trans (hg.2 q)⟩, h5, h6⟩

def RecOk (I : Inv τ) (P : Program) (rec : Rec τ) : Prop :=
  ∀ (c : Code) (st : St τ) (K : Exit → St τ → Prop) (e : Env) (Fr : PH) (D : List Deferred) (a : Act) (w : World) (r : Option Nat),
    st.rnd = r.isSome → rec c st K → StOk I e Fr D st a w → c.wpIn (FF r) 0 P (Post I e Fr D st K) a w

/-- What a call comes to. -/
def Ends (I : Inv τ) (e : Env) (Fr : PH) (K : SV → List (SB τ) → Prop) : Ending → World → Prop := fun en w' =>
  ∃ x H' e' v, en = .returned v ∧ Le e e' ∧ Models I e' H' Fr w' ∧ Den e' x v ∧ K x H'

def ConOk (I : Inv τ) (P : Program) (g : FuncId) (con : Con τ) : Prop :=
  ∀ (args : List SV) (H : List (SB τ)) (K : SV → List (SB τ) → Prop) (e : Env) (Fr : PH) (w : World) (vs : List Value),
    con args H K → DenL e args vs → Models I e H Fr w → Calls P g vs.toArray w (Ends I e Fr K)

/-! ### Slots -/
theorem put_den {e : Env} {tm : List SV} {a : Act} {x : SV} {v : Value} (dst : Option Tmp) (h : DenL e tm a.tmps.toList) (hd : Den e x v) : DenL e (putS dst x tm) (a.put dst v).tmps.toList := by
  cases dst with
  | none => exact h
  | some d => simpa [putS, Act.put] using h.set hd
theorem put_defers (a : Act) (dst : Option Tmp) (v : Value) : (a.put dst v).defers = a.defers := by cases dst <;> rfl
theorem set_same {e : Env} : ∀ {tm : List SV} {vs : List Value} {t : Nat} {x : SV}, DenL e tm vs → (∀ v, vs[t]? = some v → Den e x v) → DenL e (tm.set t x) vs
  | [], _, _, _, h, _ => by simpa using h
  | y :: tm, _, t, x, h, hx => by
    simp only [DenL] at h
    obtain ⟨v, r, rfl, h2, h3⟩ := h
    cases t with
    | zero => simp only [List.set_cons_zero, DenL]; exact ⟨v, r, rfl, hx v (by simp), h3⟩
    | succ t => simp only [List.set_cons_succ, DenL]; exact ⟨v, r, rfl, h2, set_same h3 (fun u hu => hx u (by simpa using hu))⟩
theorem setB_den {e : Env} {tm : List SV} {a : Act} {c : Operand} {b : Bool} (h : DenL e tm a.tmps.toList) (hb : ev tm c = .v (.bool b)) : DenL e (setB c b tm) a.tmps.toList := by
  cases c with
  | tmp t =>
    refine set_same h fun v hv => ?_
    have hd := ev_ok h (.tmp t)
    rw [hb] at hd
    simp only [Den, Act.eval] at hd ⊢
    have : a.tmps[t]? = some v := by simpa using hv
    simpa [this] using hd
  | _ => exact h

theorem semAt_eq {o : Oper} {r : Option Nat} {ρ : Operand → Value} (h : ∀ c, o.op ≠ .defer c) : o.semAt r ρ = execOp ρ o := by
  unfold Oper.semAt
  split
  · rename_i l c hc; exact absurd hc (h c)
  · rfl

/-! ### Results -/
def resRun (tmps : Array Value) : ResultVar → Sem Value
  | .tmp t => pure (tmps.getD t undef)
  | .cell a t => do loadVar t (← asAddr (tmps.getD a undef))
theorem results_eq (fn : Func) (tmps : Array Value) : results fn tmps = (do
    let vs ← fn.results.mapM (resRun tmps)
    pure (if h : vs.size = 1 then vs[0] else .tuple vs)) := by
  unfold results
  have : (fun (x : ResultVar) => (match x with
    | .tmp t => pure (tmps.getD t undef)
    | .cell a t => do loadVar t (← asAddr (tmps.getD a undef)) : Sem Value)) = resRun tmps := by
    funext x; cases x <;> rfl
  rw [← this]
  rfl
theorem resS_ok {e : Env} {tm : List SV} {H : List (SB τ)} {Fr : PH} {w : World} {tmps : Array Value} (hM : Models I e H Fr w) (ht : DenL e tm tmps.toList) :
    ∀ {rs : List ResultVar} {l : List SV}, resS P tm H rs = some l →
      ∃ vs, (rs.mapM (resRun tmps)).run P w = .ok vs w ∧ DenL e l vs
  | [], l, h => by simp only [resS, Option.some.injEq] at h; subst h; exact ⟨[], by simp, by simp [DenL]⟩
  | .tmp t :: rs, l, h => by
    unfold resS at h
    split at h
    · rename_i l' h1
      simp only [Option.some.injEq] at h
      subst h
      obtain ⟨vs, hv, hd⟩ := resS_ok hM ht h1
      have ht' : Den e (tm.getD t (.v undef)) (tmps.getD t undef) := ev_ok (a := { tmps := tmps, defers := [] }) ht (.tmp t)
      refine ⟨tmps.getD t undef :: vs, ?_, ?_⟩
      · simp only [List.mapM_cons, resRun, Sem.run_bind, Sem.run_pure, Result.andThen_ok, hv]
      · simp only [DenL]; exact ⟨_, _, rfl, ht', hd⟩
    · simp at h
  | .cell a T :: rs, l, h => by
    unfold resS at h
    split at h
    · rename_i x l' hx h1
      simp only [Option.some.injEq] at h
      subst h
      obtain ⟨vs, hv, hd⟩ := resS_ok hM ht h1
      have ha' : Den e (tm.getD a (.v undef)) (tmps.getD a undef) := ev_ok (a := { tmps := tmps, defers := [] }) ht (.tmp a)
      obtain ⟨u, hu, hdu⟩ := loadS_ok hM hx ha'
      have hpt : ∃ ad, tmps.getD a undef = .pointer (some ad) ∧ (loadVar T ad).run P w = .ok u w := by
        unfold loadS at hx
        split at hx
        · rename_i b o heq
          rw [heq] at ha'
          simp only [Den] at ha'
          obtain ⟨n, _, hp⟩ := ha'
          refine ⟨_, hp, ?_⟩
          rw [hp] at hu
          simpa [Instr.loadAt, Instr.sureAddr] using hu
        · simp at hx
      obtain ⟨ad, hp, hl⟩ := hpt
      refine ⟨u :: vs, ?_, ?_⟩
      · have h2 : (resRun tmps (.cell a T)).run P w = .ok u w := by simp only [resRun, Sem.run_bind, hp, asAddr, Sem.run_pure, Result.andThen_ok, hl]
        simp only [List.mapM_cons, Sem.run_bind, h2, Sem.run_pure, Result.andThen_ok, hv]
      · simp only [DenL]; exact ⟨_, _, rfl, hdu, hd⟩
    · simp at h

theorem results_ok {e : Env} {tm : List SV} {H : List (SB τ)} {Fr : PH} {w : World} {tmps : Array Value} {fn : Func} {l : List SV} (hM : Models I e H Fr w) (ht : DenL e tm tmps.toList)
    (h : resS P tm H fn.results.toList = some l) : ∃ v, (results fn tmps).run P w = .ok v w ∧ Den e (oneR l) v := by
  obtain ⟨vs, hv, hd⟩ := resS_ok hM ht h
  have hm : (fn.results.mapM (resRun tmps)).run P w = .ok vs.toArray w := by
    rw [Array.mapM_eq_mapM_toList]
    simp only [Sem.run_map]
    rw [hv]
    rfl
  have hr : (results fn tmps).run P w = .ok (if h : vs.toArray.size = 1 then vs.toArray[0] else .tuple vs.toArray) w := by
    rw [results_eq, Sem.run_bind, hm]
    rfl
  refine ⟨_, hr, ?_⟩
  match l, vs, hd with
  | [], _, hd => simp only [DenL] at hd; subst hd; simp [oneR, Den, DenL]
  | [x], _, hd =>
    simp only [DenL] at hd
    obtain ⟨v, r, rfl, h2, rfl⟩ := hd
    simpa [oneR] using h2
  | x :: y :: l, vs, hd =>
    have hl := hd.length
    have : ¬ vs.length = 1 := by simp at hl; omega
    simp only [oneR, List.size_toArray, this, dite_false, Den]
    exact ⟨vs, hd, rfl⟩

/-! ### Leaving -/
theorem run_getObj {w : World} {n : Nat} {o : Obj} (h : w.heap[n]? = some o) (hc : ∀ c t f, o ≠ .cells c t f) : (getObj n).run P w = .ok o w := by
  unfold getObj
  simp only [Sem.run, h]
theorem run_setObj {w : World} {n : Nat} {o o' : Obj} (h : w.heap[n]? = some o) (hc : ∀ c t f, o ≠ .cells c t f) : (setObj n o').run P w = .ok () { w with heap := w.heap.setIfInBounds n o' } := by
  unfold setObj
  simp only [Sem.run, h]
theorem Models.obj {e : Env} {H : List (SB τ)} {Fr : PH} {w : World} (h : Models I e H Fr w) {i : Nat} {o : Obj} (hi : H[i]? = some (.obj o)) : ∃ n, e i = some (.blk n) ∧ w.heap[n]? = some o := by
  obtain ⟨hn, ⟨n, h1, rfl⟩, h5⟩ := h.item hi
  exact ⟨n, h1, h5 n _ (by simp [single])⟩
theorem Models.putObj {e : Env} {H : List (SB τ)} {Fr : PH} {w : World} (h : Models I e H Fr w) {i n : Nat} {b b' : SB τ} {o o' : Obj} (hi : H[i]? = some b) (hn : e i = some (.blk n)) (ho : w.heap[n]? = some o)
    (hb : ∀ hp, ItemOk I e b (e i) hp → ∃ o, hp = single n o) (hb' : ItemOk I e b' (e i) (single n o')) : Models I e (H.set i b') Fr { w with heap := w.heap.setIfInBounds n o' } := by
  have hlt : n < w.heap.size := (Array.getElem?_eq_some_iff.1 ho).1
  exact h.turn hi hn hb hb' (by simp [hlt]) (fun k hk => by simp [Array.getElem?_setIfInBounds, Ne.symm hk]) ⟨rfl, rfl⟩

theorem leave_ok {fn : Func} {R : Ending → World → Prop} {e : Env} {Fr : PH} {K : SV → List (SB τ) → Prop} {st : St τ} {tmps : Array Value} {H : List (SB τ)} (hR : ∀ v w x, Models I e H Fr w → Den e x v → K x H → R (.returned v) w)
    (ht : DenL e st.tm tmps.toList) (hro : ∀ (k : Nat) (o : Obj), I.ro k = some o → Fr k = some o)
    (h : match resS P st.tm H fn.results.toList with
          | some l => K (oneR l) H
          | none => False) : ∀ {ns : List Nat} {Fr' : PH} {w : World}, Models I e H Fr' w → FrLe Fr Fr' → ns.Nodup → (∀ n ∈ ns, Fr n = none ∧ Fr' n = some (.deferred (some []))) →
      LeavesInM (FF none) 0 P fn tmps R (ns.map fun n => { target := .collected n, args := #[] }) .returning w
  | [], Fr', w, hM, hF, _, _ => by
    have hM := hM.lessF hF hro
    split at h
    · rename_i l hl
      obtain ⟨v, hv, hdv⟩ := results_ok hM ht hl
      exact ⟨v, hv, hR v w _ hM hdv h⟩
    · exact h.elim
  | n :: ns, Fr', w, hM, hF, hd, hn => by
    obtain ⟨h1, h2⟩ := hn n List.mem_cons_self
    obtain ⟨d1, d2⟩ := List.nodup_cons.1 hd
    have g2 : w.heap[n]? = some (.deferred (some [])) := by
      obtain ⟨_, hs, _, _, _, _, _, h6⟩ := hM
      exact h6 n _ h2
    have hron : I.ro n = none := by
      cases hq : I.ro n with
      | none => rfl
      | some o => rw [hro n o hq] at h1; cases h1
    have hM' := hM.takeF (o' := .deferred none) h2 hron
    refine ⟨(by intro hc; cases hc), .inl ⟨n, _, rfl, ?_, leave_ok hR ht hro h hM' (fun k o hk => ?_) d2 fun m hm => ⟨(hn m (List.mem_cons_of_mem _ hm)).1, ?_⟩⟩⟩
    · simp only [Instr.takeDeferred, Sem.run_bind, run_getObj (P := P) g2 (by intro c t f hc; cases hc), Result.andThen_ok, run_setObj (P := P) g2 (by intro c t f hc; cases hc), Sem.run_pure]
    · unfold remF
      rw [if_neg (fun e => by subst e; rw [h1] at hk; cases hk)]
      exact hF k o hk
    · unfold remF
      rw [if_neg (fun e => by subst e; exact d1 hm)]
      exact (hn m (List.mem_cons_of_mem _ hm)).2

/-! ### Calls -/
theorem body_ok {rec : Rec τ} (hrec : RecOk I P rec) {g : FuncId} {fn : Func} {args : List SV} {H : List (SB τ)} {K : SV → List (SB τ) → Prop} {e : Env} {Fr : PH} {w : World} {vs : List Value}
    (hf : P.funcs[g]? = some fn) (h : bodyK P rec fn args H K) (hd : DenL e args vs) (hM : Models I e H Fr w) : Calls P g vs.toArray w (Ends I e Fr K) := by
  unfold bodyK at h
  split at h
  · rename_i c hc
    refine calls_of_FF (r := none) (n := 0) (callsIn_of_wp_marks hf hc trivial ?_)
    have hok : StOk I e Fr [] { tm := args ++ List.replicate (fn.ntmps - args.length) (.v undef), H := H, df := [], base := H.length, rnd := false }
        { tmps := vs.toArray ++ Array.replicate (fn.ntmps - vs.toArray.size) undef, defers := [] } w := by
      refine ⟨hM, ?_, rfl, rfl⟩
      have hl := hd.length
      have := hd.append (DenL.replicate (e := e) (.v undef) undef (by simp [Den]) (fn.ntmps - args.length))
      rw [hl] at this
      simpa [hl] using this
    have hfr := hM
    refine wpIn_mono (hrec _ _ _ e Fr [] _ w none rfl h hok) fun ex a' w' hp => ?_
    obtain ⟨e', st', Fr', D', hle, hb, hr, ⟨⟨hF, ns, hD, hnd, hns⟩, _⟩, hok', hK⟩ := hp
    have hLe : Le e e' := fun i r hi => by
      by_cases hlt : i < H.length
      · exact hle i hlt r hi
      · obtain ⟨_, hs, _, h2, _⟩ := hfr
        rw [(h2 i (by omega)).1] at hi
        cases hi
    have key : leaveK P fn st' K → LeavesInM (FF none) 0 P fn a'.tmps (Ends I e Fr K) a'.defers .returning w' := fun hk => by
      rw [hok'.df.2, hD, List.append_nil]
      unfold leaveK at hk
      rw [hok'.df.1] at hk
      simp only [takeDf] at hk
      exact leave_ok (R := Ends I e Fr K) (K := K) (fun v w x hM' hdv hx => ⟨x, st'.H, e', v, rfl, hLe, hM', hdv, hx⟩) hok'.tm hM.1.ro hk hok'.models hF hnd hns
    cases ex with
    | normal => exact key hK
    | ret => exact key hK
    | exit id => exact hK.elim
    | goto l => exact hK.elim
    | panic c => exact hK.elim
    | outgrown => exact hK.elim
  · exact h.elim

/-- A contract that says what a call comes to. -/
structure AConOk (I : Inv τ) (P : Program) (g : FuncId) (ac : ACon τ) : Prop where
  keeps : ∀ args H x H' ws b, (ac args H).has x H' ws → hasN ws b = false → b < H.length → H'[b]? = H[b]? ∧ H.length ≤ H'.length
  ok : ∀ (args : List SV) (H : List (SB τ)) (e : Env) (Fr : PH) (w : World) (vs : List Value), (ac args H).pre → DenL e args vs → Models I e H Fr w →
    Calls P g vs.toArray w fun en w' => ∃ x H' ws e' v, (ac args H).has x H' ws ∧ en = .returned v ∧ Le e e' ∧ Models I e' H' Fr w' ∧ Den e' x v
structure ConsOk (I : Inv τ) (cfg : Cfg τ) : Prop where
  con : ∀ g con, cfg.con g = some con → ConOk I cfg.P g con
  acon : ∀ g ac, cfg.acon g = some ac → AConOk I cfg.P g ac
theorem call_ok {cfg : Cfg τ} {rec : Rec τ} (hrec : RecOk I cfg.P rec) (hcon : ConsOk I cfg) {g : FuncId} {args : List SV} {H : List (SB τ)} {K : SV → List (SB τ) → Prop}
    {e : Env} {Fr : PH} {w : World} {vs : List Value} (h : callK cfg rec g args H K) (hd : DenL e args vs) (hM : Models I e H Fr w) :
    (∀ (as : Array Value) (w : World), (callFunc g as).run cfg.P w = .ok (.enter g as) w) ∧ Calls cfg.P g vs.toArray w (Ends I e Fr K) := by
  unfold callK at h
  split at h
  · rename_i fn hfn
    split at h
    · rename_i hn hb
      refine ⟨fun as w => ?_, ?_⟩
      · simp only [callFunc, Sem.run_bind, run_program, Result.andThen_ok, hfn, hn, hb, Bool.false_eq_true, if_false, Sem.run_pure]
      · split at h
        · rename_i con hc
          exact hcon.con g con hc args H K e Fr w vs h hd hM
        · split at h
          · rename_i ac hc
            refine ((hcon.acon g ac hc).ok args H e Fr w vs (altK_pre h) hd hM).mono fun en w' he => ?_
            obtain ⟨x, H', ws, e', v, h1, h2, h3, h4, h5⟩ := he
            exact ⟨x, H', e', v, h2, h3, h4, h5, altK_has h h1⟩
          · exact body_ok hrec hfn h hd hM
    · exact h.elim
  · exact h.elim

theorem callee_ok {e : Env} {x : SV} {v : Value} {g : FuncId} {fi ca : List SV} (h : calleeS x = some (g, fi, ca)) (hd : Den e x v) :
    ∃ fs cs, v = .func (.func g) fs cs ∧ DenL e fi fs.toList ∧ DenL e ca cs.toList := by
  unfold calleeS at h
  split at h
  · simp only [Option.some.injEq, Prod.mk.injEq] at h
    obtain ⟨rfl, rfl, rfl⟩ := h
    simp only [Den] at hd
    exact ⟨_, _, hd, DenL.plain _, DenL.plain _⟩
  · simp only [Option.some.injEq, Prod.mk.injEq] at h
    obtain ⟨rfl, rfl, rfl⟩ := h
    simp only [Den] at hd
    obtain ⟨vs, h1, rfl⟩ := hd
    exact ⟨#[], vs.toArray, rfl, by simp [DenL], by simpa using h1⟩
  · simp at h

end Go.Sym
