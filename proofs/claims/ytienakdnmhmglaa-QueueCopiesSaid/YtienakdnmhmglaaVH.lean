/- The symbolic run is sound: operations, regions, code. -/
import Derived.Test.YtienakdnmhmglaaVG
set_option linter.unusedSimpArgs false
set_option linter.unusedVariables false
set_option linter.unusedSectionVars false
namespace Go.Sym
open Go
variable {τ : Type} {I : Inv τ} {D : List Deferred}


/-- What follows an operation. -/
def NextOk (I : Inv τ) (e : Env) (Fr : PH) (st : St τ) (K : St τ → Prop) (next : Act → World → Prop) : Prop :=
  ∀ e' (st' : St τ) a' w', LeB st.base e e' → st'.base = st.base → st'.rnd = st.rnd → StOk I e' Fr D st' a' w' → K st' → next a' w'

theorem StOk.put {e e' : Env} {Fr : PH} {st : St τ} {a : Act} {w w' : World} {x : SV} {v : Value} {H' : List (SB τ)} (dst : Option Tmp) (h : StOk I e Fr D st a w) (hle : Le e e') (hM : Models I e' H' Fr w') (hd : Den e' x v) :
    StOk I e' Fr D (st.putH dst x H') (a.put dst v) w' :=
  ⟨hM, put_den dst (h.tm.mono hle) hd, by rw [put_defers]; exact h.df⟩

theorem StOk.setB {e : Env} {Fr : PH} {st : St τ} {a : Act} {w : World} {c : Operand} {b : Bool} (h : StOk I e Fr D st a w) (hb : ev st.tm c = .v (.bool b)) : StOk I e Fr D { st with tm := setB c b st.tm } a w :=
  ⟨h.models, setB_den h.tm hb, h.df⟩

theorem notDefer_V {P : Program} {op : Op} {tm : List SV} {H : List (SB τ)} {r : Bool × SV} (h : stepV P op tm H = some r) : ∀ c, op ≠ .defer c := by
  intro c hc; subst hc; simp [stepV, stepV0, stepH] at h
theorem notDefer_A {P : Program} {op : Op} {tm : List SV} {H : List (SB τ)} {r : SV × List (SB τ)} (h : stepA P op tm H = some r) : ∀ c, op ≠ .defer c := by
  intro c hc; subst hc; simp [stepA] at h
theorem notDefer_I {P : Program} {op : Op} {tm : List SV} {H : List (SB τ)} {r : Bool × SV × List (SB τ)} (h : stepI P op tm H = some r) : ∀ c, op ≠ .defer c := by
  intro c hc; subst hc; simp [stepI] at h
theorem notDefer_L {P : Program} {op : Op} {tm : List SV} {H : List (SB τ)} {r : Bool × SV × List (SB τ) × List Nat} (h : stepL P op tm H = some r) : ∀ c, op ≠ .defer c := by
  intro c hc; subst hc; simp [stepL, stepA, stepI, stepO, stepP] at h
theorem nextS_ok {op : Op} {tm : List SV} {H : List (SB τ)} {b pos : Nat} {s : ByteArray} (h : nextS op tm H = some (b, s, pos)) : ∃ it, op = .next it true ∧ ev tm it = .p b 0 ∧ H[b]? = some (.obj (.stringIter s pos)) := by
  unfold nextS at h
  repeat' (split at h)
  all_goals (first | (cases h; done) | skip)
  simp only [Option.some.injEq, Prod.mk.injEq] at h
  obtain ⟨rfl, rfl, rfl⟩ := h
  exact ⟨_, rfl, by assumption, by assumption⟩
theorem op_ok {cfg : Cfg τ} {rec : Rec τ} (hrec : RecOk I cfg.P rec) (hcon : ConsOk I cfg) {o : Oper} {st : St τ} {K : St τ → Prop} {e : Env} {Fr : PH} {a : Act} {w : World} {r : Option Nat}
    {next : Act → World → Prop} {Q : Exit → Act → World → Prop} (h : opK cfg rec o st K) (hok : StOk I e Fr D st a w) (hnext : NextOk (D := D) I e Fr st K next) : o.wpIn (FF r) 0 cfg.P a w next Q := by
  refine ⟨fun _ _ => trivial, ?_⟩
  show o.uponIn (FF r) 0 cfg.P a next Q ((o.semAt r a.eval).run cfg.P w)
  unfold opK at h
  split at h
  · rename_i b s pos hnx
    obtain ⟨it, hop, hev, hb⟩ := nextS_ok hnx
    have hnd : ∀ c, o.op ≠ .defer c := by intro c hc; rw [hop] at hc; cases hc
    have fin : ∀ {x : SV} {H' : List (SB τ)}, stepA cfg.P o.op st.tm st.H = some (x, H') → K (st.putH o.dst x H') → o.uponIn (FF r) 0 cfg.P a next Q ((o.semAt r a.eval).run cfg.P w) := fun {x H'} hA hK => by
      obtain ⟨nx, v, w', e', hr, hnx, hle, hM, hd⟩ := (stepA_ok hok.models hok.tm hA).loud
      rw [semAt_eq hnd, hr]
      have := hnext e' (st.putH o.dst x H') _ _ (LeB.of_le hle) rfl rfl (hok.put o.dst hle hM hd) hK
      rcases hnx with rfl | ⟨rfl, rfl⟩
      · exact this
      · exact this
    rcases br_elim h with ⟨hlt, hK⟩ | ⟨hlt, hK⟩
    · exact fin (by simp only [hop, stepA, hev, hb, hlt, decW_eq, decR]) hK
    · exact fin (by simp only [hop, stepA, hev, hb, hlt, decW_eq, decR]) hK
  split at h
  · rename_i c x hv
    obtain ⟨hc, hK⟩ := rq_elim h
    obtain ⟨v, hr, hd⟩ := stepV_ok hok.models hok.tm hv hc
    rw [semAt_eq (notDefer_V hv), hr]
    exact hnext e (st.put o.dst x) _ _ (LeB.refl _ _) rfl rfl (hok.put o.dst (Le.refl e) hok.models hd) hK
  · split at h
    · rename_i c x H' ws ha
      obtain ⟨hc, hK⟩ := rq_elim h
      obtain ⟨nx, v, w', e', hr, hnx, hle, hM, hd⟩ := stepL_ok hok.models hok.tm ha hc
      rw [semAt_eq (notDefer_L ha), hr]
      have := hnext e' (st.putH o.dst x H') _ _ (LeB.of_le hle) rfl rfl (hok.put o.dst hle hM hd) hK
      rcases hnx with rfl | ⟨rfl, rfl⟩
      · exact this
      · exact this
    · skip
      split at h
      · rename_i oc oa ob hop
        split at h
        · rename_i q hq
          have hcv := ev_ok hok.tm oc
          rw [hq] at hcv
          simp only [Den] at hcv
          rw [semAt_eq (by intro c hc; rw [hop] at hc; cases hc)]
          rcases br_elim h with ⟨rfl, hK⟩ | ⟨rfl, hK⟩
          · have hok' := hok.setB hq
            have hr : (execOp a.eval o).run cfg.P w = .ok (.value (a.eval oa)) w := by simp [execOp, hop, hcv, asBool]
            rw [hr]
            exact hnext e (({ st with tm := setB oc true st.tm } : St τ).put o.dst (ev (setB oc true st.tm) oa)) _ _ (LeB.refl _ _) rfl rfl (hok'.put o.dst (Le.refl e) hok.models (ev_ok hok'.tm oa)) hK
          · have hok' := hok.setB hq
            have hr : (execOp a.eval o).run cfg.P w = .ok (.value (a.eval ob)) w := by simp [execOp, hop, hcv, asBool]
            rw [hr]
            exact hnext e (({ st with tm := setB oc false st.tm } : St τ).put o.dst (ev (setB oc false st.tm) ob)) _ _ (LeB.refl _ _) rfl rfl (hok'.put o.dst (Le.refl e) hok.models (ev_ok hok'.tm ob)) hK
        · exact h.elim
      · rename_i f args ats hop
        have hfv := ev_ok hok.tm f
        have hargs := evs_ok hok.tm args.toList
        have e2 : (args.toList.map a.eval).toArray = args.map a.eval := by apply Array.toList_inj.1; simp
        rw [semAt_eq (by intro c hc; rw [hop] at hc; cases hc)]
        split at h
        · rename_i b hb
          rw [hb] at hfv
          simp only [Den] at hfv
          obtain ⟨n, hn, hf⟩ := hfv
          obtain ⟨fl, tmps, asg, body, hy, hround⟩ := yield_ok (r := r) hrec h hn hargs hok.models
          rw [e2] at hy
          have hr : (execOp a.eval o).run cfg.P w = .ok (.round n fl tmps asg body) w := by
            simp [execOp, hop, resolve, hf, Deferred.ofValue, invoke, hy]
          rw [hr]
          refine ⟨(fun hc => by cases hc), hround.mono fun en w' he => ?_⟩
          obtain ⟨x, H', e', v, rfl, hle, hM, hd, hK⟩ := he
          exact hnext e' (st.putH o.dst x H') _ _ (LeB.of_le hle) rfl rfl (hok.put o.dst hle hM hd) hK
        · split at h
          · rename_i g fi ca hcal
            obtain ⟨fs, cs, hf, hfi, hca⟩ := callee_ok hcal hfv
            have hall := (hfi.append hargs).append hca
            obtain ⟨henter, hcall⟩ := call_ok hrec hcon h hall hok.models
            have hr : (execOp a.eval o).run cfg.P w = .ok (.enter g (fs ++ args.map a.eval ++ cs)) w := by
              simp [execOp, hop, resolve, hf, Deferred.ofValue, invoke, henter]
            rw [hr]
            have e3 : (fs.toList ++ args.toList.map a.eval ++ cs.toList).toArray = fs ++ args.map a.eval ++ cs := by apply Array.toList_inj.1; simp
            rw [e3] at hcall
            refine ⟨(fun hc => by cases hc), (calls_FF hcall).mono fun en w' he => ?_⟩
            obtain ⟨x, H', e', v, rfl, hle, hM, hd, hK⟩ := he
            exact hnext e' (st.putH o.dst x H') _ _ (LeB.of_le hle) rfl rfl (hok.put o.dst hle hM hd) hK
          · exact h.elim
      · exact h.elim

/-! ### Guards -/
theorem boolV_some {e : Env} {x : SV} {v : Value} {b : Bool} (h : boolV x = some (some b)) (hd : Den e x v) : x = .v (.bool b) ∧ v = .bool b := by
  unfold boolV at h
  split at h <;> simp at h
  subst h
  simp only [Den] at hd
  exact ⟨rfl, hd⟩
theorem boolV_none {e : Env} {x : SV} {v : Value} (h : boolV x = some none) (hd : Den e x v) : ∀ b, v ≠ .bool b := by
  intro b hb
  subst hb
  unfold boolV at h
  split at h <;> simp at h
  · rename_i y hy; simp only [Den] at hd; subst hd; exact hy b rfl
  all_goals (simp only [Den] at hd)
  all_goals (obtain ⟨_, _, hv⟩ := hd; cases hv)

theorem ops_ok {cfg : Cfg τ} {rec : Rec τ} (hrec : RecOk I cfg.P rec) (hcon : ConsOk I cfg) {ops : Array Oper} {r : Option Nat} {Q : Exit → Act → World → Prop} {Fr : PH} {K : St τ → Prop} :
    ∀ (l : List Oper) (st : St τ) (e : Env) (a : Act) (w : World), opsK cfg rec ops l st K → StOk I e Fr D st a w → NextOk (D := D) I e Fr st K (Q .normal) → wpListIn (FF r) 0 cfg.P ops Q l a w
  | [], st, e, a, w, h, hok, hnext => hnext e st a w (LeB.refl _ _) rfl rfl hok h
  | o :: rest, st, e, a, w, h, hok, hnext => by
    have skip : ∀ st1 : St τ, StOk I e Fr D st1 a w → st1.base = st.base → st1.rnd = st.rnd → opsK cfg rec ops rest (st1.put o.dst (.v undef)) K →
        wpListIn (FF r) 0 cfg.P ops Q rest (a.put o.dst undef) w := fun st1 h1 hb hr hk => by
      refine ops_ok hrec hcon rest _ e _ w hk (h1.put o.dst (Le.refl e) h1.models (by simp [Den])) ?_
      intro e' st' a' w' g1 g2 g3 g4 g5
      exact hnext e' st' a' w' (hb ▸ g1) (g2.trans hb) (g3.trans hr) g4 g5
    have go : ∀ st1 : St τ, StOk I e Fr D st1 a w → st1.base = st.base → st1.rnd = st.rnd → opK cfg rec o st1 (fun st' => opsK cfg rec ops rest st' K) →
        o.wpIn (FF r) 0 cfg.P a w (wpListIn (FF r) 0 cfg.P ops Q rest) Q := fun st1 h1 hb hr hk => by
      refine op_ok hrec hcon hk h1 ?_
      intro e' st' a' w' g1 g2 g3 g4 g5
      refine ops_ok hrec hcon rest st' e' a' w' g5 g4 ?_
      intro e2 st2 a2 w2 k1 k2 k3 k4 k5
      refine hnext e2 st2 a2 w2 (LeB.trans (hb ▸ g1) ?_) (k2.trans (g2.trans hb)) (k3.trans (g3.trans hr)) k4 k5
      rw [← hb, ← g2]; exact k1
    unfold opsK at h
    simp only [wpListIn]
    split at h
    · rename_i hg
      simp only [Region.wanted, hg, if_true]
      exact go st hok rfl rfl h
    · rename_i j want hg
      simp only [Region.wanted, hg]
      split at h
      · rename_i hd
        have hy : yielded ops a.tmps j = none := by simp [yielded, hd]
        simp only [hy]
        refine ⟨fun _ _ => trivial, skip st hok rfl rfl h⟩
      · rename_i d hd
        split at h
        · rename_i htm
          have hy : yielded ops a.tmps j = none := by
            have hl := hok.tm.length
            have h1 := List.getElem?_eq_none_iff.1 htm
            have h2 : a.tmps[d]? = none := by simp at hl ⊢; omega
            simp [yielded, hd, h2]
          simp only [hy]
          exact ⟨fun _ _ => trivial, skip st hok rfl rfl h⟩
        · rename_i x htm
          obtain ⟨v, hv, hdv⟩ := hok.tm.get htm
          have hv' : a.tmps[d]? = some v := by simpa using hv
          split at h
          · rename_i hbv
            have hnb := boolV_none hbv hdv
            have hy : yielded ops a.tmps j = none := by
              simp only [yielded, hd, Option.bind_some, hv']
              cases v <;> first | rfl | exact absurd rfl (hnb _)
            simp only [hy]
            exact ⟨fun _ _ => trivial, skip st hok rfl rfl h⟩
          · rename_i b hbv
            obtain ⟨hx, hvb⟩ := boolV_some hbv hdv
            subst hx; subst hvb
            have hy : yielded ops a.tmps j = some b := by simp [yielded, hd, hv']
            have hev : ev st.tm (.tmp d) = .v (.bool b) := by simp [ev, htm]
            have hokb := hok.setB hev
            simp only [hy]
            split at h
            · rcases br_elim h with ⟨rfl, hk⟩ | ⟨rfl, hk⟩
              · simp only [BEq.rfl, if_true]; exact go _ hokb rfl rfl hk
              · simp only [show (some false == some true) = false from rfl, Bool.false_eq_true, if_false]
                exact ⟨fun _ _ => trivial, skip _ hokb rfl rfl hk⟩
            · rcases br_elim h with ⟨rfl, hk⟩ | ⟨rfl, hk⟩
              · simp only [show (some true == some false) = false from rfl, Bool.false_eq_true, if_false]
                exact ⟨fun _ _ => trivial, skip _ hokb rfl rfl hk⟩
              · simp only [BEq.rfl, if_true]; exact go _ hokb rfl rfl hk
          · exact h.elim

theorem Models.newLoop {e : Env} {H : List (SB τ)} {Fr : PH} {w : World} (h : Models I e H Fr w) (st : LoopState) (pd : Option Code) {tm : List SV} {vs : List Value} {ps : Array Tmp} {asg body : Code} {d dn : Nat} (fn : FuncId)
    (hd : DenL e tm vs) (hdn : e d = some (.blk dn)) :
    Le e (ext e H.length (.blk w.heap.size)) ∧ Models I (ext e H.length (.blk w.heap.size)) (H ++ [.loop st pd tm ps asg body d]) Fr
      { w with heap := w.heap.push (.loop { state := st, pending := pd, fn := fn, tmps := vs.toArray, params := ps, assign := asg, body := body, defers := dn }) } := by
  have hle : Le e (ext e H.length (.blk w.heap.size)) := le_ext h.fresh
  refine ⟨hle, h.add (r := .blk w.heap.size) (hn := single w.heap.size _) ⟨w.heap.size, fn, vs, dn, rfl, hd.mono hle, hle.blk hdn, rfl⟩ (Ext.alloc w _) (fun k o hk => ?_) (fun k hk => ?_)⟩
  · unfold single at hk
    split at hk
    · rename_i hk'; subst hk'; simp only [Option.some.injEq] at hk; subst hk; simp
    · cases hk
  · unfold single at hk
    split at hk
    · rename_i hk'; omega
    · exact absurd rfl hk

/-! ### Code -/
theorem roundsIn_mono {F : Fence} {n : Nat} {P : Program} {c : Code} {Q Q' : Exit → Act → World → Prop} (hq : ∀ e a w, Q e a w → Q' e a w) : ∀ (m : Nat) (a : Act) (w : World), Code.roundsIn F n P c Q m a w → Code.roundsIn F n P c Q' m a w
  | 0, _, _, h => h
  | m + 1, a, w, h => wpIn_mono h fun e a w he => by
    cases e with
    | normal => exact roundsIn_mono hq m a w he
    | _ => exact hq _ _ _ he

/-- A loop, by a relation that bears its own measure. -/
theorem wpIn_loop_ix {F : Fence} {n : Nat} {P : Program} {c : Code} {Q : Exit → Act → World → Prop} {a : Act} {w : World} (J : Nat → Act → World → Prop) (m0 : Nat) (h₀ : J m0 a w)
    (round : ∀ m a w, J m a w → c.wpIn F n P (Exit.then (fun a' w' => ∃ m', m' < m ∧ J m' a' w') Q) a w) : (Code.loop c).wpIn F n P Q a w := by
  intro b k cs hro hb hr
  have key : ∀ j a w, J j a w →
      ∃ e a' w', Q e a' w' ∧ ArrivesIn (Machine.fenced P F) P (lone (b.atR a (.code c :: .inLoop c :: k)) cs w) b k cs e a' w' := by
    intro j
    induction j using Nat.strongRecOn with
    | _ j ih =>
      intro a w hI
      obtain ⟨e, a₁, w₁, hq, harr⟩ := round j a w hI b (.inLoop c :: k) cs hro hb hr
      cases e with
      | normal =>
        obtain ⟨m', hlt, hI₁⟩ := hq
        obtain ⟨e₂, a₂, w₂, hq₂, harr₂⟩ := ih m' hlt a₁ w₁ hI₁
        exact ⟨e₂, a₂, w₂, hq₂, .of_steps (StepsIn.trans harr (.one (fenced_calm hb hr rfl) stepR_inLoop)) harr₂⟩
      | exit id => exact ⟨_, a₁, w₁, hq, .pass (x := .inLoop c) rfl (fun _ _ => .inl (by simp)) harr⟩
      | goto l => exact ⟨_, a₁, w₁, hq, .pass (x := .inLoop c) rfl (fun _ _ => .inl (by simp)) harr⟩
      | ret => exact ⟨_, a₁, w₁, hq, .pass (x := .inLoop c) rfl (fun _ _ => .inl (by simp)) harr⟩
      | panic ch => exact ⟨_, a₁, w₁, hq, .pass (x := .inLoop c) rfl (fun _ _ => .inl (by simp)) harr⟩
      | outgrown => exact ⟨_, a₁, w₁, hq, .pass (x := .inLoop c) rfl (fun _ _ => .inl (by simp)) harr⟩
  obtain ⟨e, a', w', hq, harr⟩ := key m0 a w h₀
  exact ⟨e, a', w', hq, .of_steps (.one (fenced_calm hb hr rfl) stepR_loop) harr⟩

/-- A loop, from its body's start on. -/
def LArr (F : Fence) (n : Nat) (P : Program) (c : Code) (Q : Exit → Act → World → Prop) (a : Act) (w : World) : Prop :=
  ∀ (b : Frame) (k : List Item) (cs : List Frame), b.roundOf = F.round → F.fn b.fn → F.room (cs.length + 1 + n) →
    ∃ e a' w', Q e a' w' ∧ ArrivesIn (Machine.fenced P F) P (lone (b.atR a (.code c :: .inLoop c :: k)) cs w) b k cs e a' w'
theorem larr_wp {F : Fence} {n : Nat} {P : Program} {c : Code} {Q : Exit → Act → World → Prop} {a : Act} {w : World} (h : LArr F n P c Q a w) : (Code.loop c).wpIn F n P Q a w := by
  intro b k cs hro hb hr
  obtain ⟨e, a', w', hq, harr⟩ := h b k cs hro hb hr
  exact ⟨e, a', w', hq, .of_steps (.one (fenced_calm hb hr rfl) stepR_loop) harr⟩
theorem larr_step {F : Fence} {n : Nat} {P : Program} {c : Code} {Q : Exit → Act → World → Prop} {a : Act} {w : World} (h : c.wpIn F n P (Exit.then (LArr F n P c Q) Q) a w) : LArr F n P c Q a w := by
  intro b k cs hro hb hr
  obtain ⟨e, a₁, w₁, hq, harr⟩ := h b (.inLoop c :: k) cs hro hb hr
  cases e with
  | normal =>
    obtain ⟨e₂, a₂, w₂, hq₂, harr₂⟩ := hq b k cs hro hb hr
    exact ⟨e₂, a₂, w₂, hq₂, .of_steps (StepsIn.trans harr (.one (fenced_calm hb hr rfl) stepR_inLoop)) harr₂⟩
  | exit id => exact ⟨_, a₁, w₁, hq, .pass (x := .inLoop c) rfl (fun _ _ => .inl (by simp)) harr⟩
  | goto l => exact ⟨_, a₁, w₁, hq, .pass (x := .inLoop c) rfl (fun _ _ => .inl (by simp)) harr⟩
  | ret => exact ⟨_, a₁, w₁, hq, .pass (x := .inLoop c) rfl (fun _ _ => .inl (by simp)) harr⟩
  | panic ch => exact ⟨_, a₁, w₁, hq, .pass (x := .inLoop c) rfl (fun _ _ => .inl (by simp)) harr⟩
  | outgrown => exact ⟨_, a₁, w₁, hq, .pass (x := .inLoop c) rfl (fun _ _ => .inl (by simp)) harr⟩
theorem larr_mono {F : Fence} {n : Nat} {P : Program} {c : Code} {Q Q' : Exit → Act → World → Prop} (hq : ∀ e a w, Q e a w → Q' e a w) {a : Act} {w : World} (h : LArr F n P c Q a w) : LArr F n P c Q' a w := by
  intro b k cs hro hb hr
  obtain ⟨e, a', w', h1, harr⟩ := h b k cs hro hb hr
  exact ⟨e, a', w', hq _ _ _ h1, harr⟩
theorem larr_ix {F : Fence} {n : Nat} {P : Program} {c : Code} {Q : Exit → Act → World → Prop} {a : Act} {w : World} (J : Nat → Act → World → Prop) (m0 : Nat) (h₀ : J m0 a w)
    (round : ∀ m a w, J m a w → c.wpIn F n P (Exit.then (fun a' w' => ∃ m', m' < m ∧ J m' a' w') Q) a w) : LArr F n P c Q a w := by
  induction m0 using Nat.strongRecOn generalizing a w with
  | _ m ih =>
    refine larr_step (wpIn_mono (round m a w h₀) fun e a' w' hp => ?_)
    cases e with
    | normal =>
      obtain ⟨m', hlt, hJ⟩ := hp
      exact ih m' hlt hJ
    | _ => exact hp

theorem rounds_ok {cfg : Cfg τ} {rec : Rec τ} (hrec : RecOk I cfg.P rec) {body : Code} {K : Exit → St τ → Prop} {r : Option Nat} : ∀ (m : Nat) (st : St τ) (e : Env) (Fr : PH) (D : List Deferred) (a : Act) (w : World), st.rnd = r.isSome →
    roundsK rec body K m st → StOk I e Fr D st a w → Code.roundsIn (FF r) 0 cfg.P body (Post I e Fr D st K) m a w
  | 0, _, _, _, _, _, _, _, h, _ => h.elim
  | m + 1, st, e, Fr, D, a, w, hr, h, hok => by
    rw [roundsIn_succ]
    refine wpIn_mono (hrec body st _ e Fr D a w r hr h hok) fun ex a' w' hp => ?_
    obtain ⟨e', st', Fr', D', h1, h2, h3, hG, h4, h5⟩ := hp
    cases ex with
    | normal =>
      exact roundsIn_mono (fun ex a w hq => Post.trans h1 h2 h3 hG hq) m a' w' (rounds_ok hrec m st' e' Fr' D' a' w' (h3.trans hr) (by have h6 := h5; simp only [forceSt_eq] at h6; exact h6) h4)
    | _ => exact ⟨e', st', Fr', D', h1, h2, h3, hG, h4, h5⟩

/-! ### What is done ahead of a loop's head -/
theorem nilAt_ok {e : Env} {l : List SV} {i : Nat} {vs : List Value} (h : nilAt l i = true) (hd : DenL e l vs) {x : SV} (hx : Den e x (.slice none 0 0)) : DenL e (l.set i x) vs := by
  unfold nilAt at h
  split at h
  · rename_i y hy
    obtain ⟨v, hv, hdv⟩ := hd.get hy
    have := nilS_ok h hdv
    subst this
    refine set_same hd fun u hu => ?_
    rw [hv] at hu
    simp only [Option.some.injEq] at hu
    subst hu; exact hx
  · cases h
theorem noneC_ok {e : Env} {c : Cn} (h : noneC c = true) : c.den e [] := by
  cases c with
  | sv l => simp only [noneC, List.isEmpty_iff] at h; subst h; simp [Cn.den, DenL]
  | ints k xs => simp only [noneC, List.isEmpty_iff] at h; subst h; simp [Cn.den]
  | recs xs => simp only [noneC, List.isEmpty_iff] at h; subst h; simp [Cn.den, cvals]
theorem rnN_ok {e e' : Env} {b b' : Nat} (hb : e' b = e b') (hne : ∀ i, i ≠ b → e' i = e i) {c d : Nat} (h : rnN b b' c = some d) : e' d = e c := by
  unfold rnN at h
  split at h
  · cases h
  · rename_i h1
    split at h
    · rename_i h2
      simp only [Option.some.injEq] at h
      rw [Nat.beq_eq] at h2
      subst h; subst h2; exact hb
    · simp only [Option.some.injEq] at h
      subst h
      exact hne _ fun he => by subst he; simp at h1
mutual
theorem rnS_den {e e' : Env} {b b' : Nat} (hb : e' b = e b') (hne : ∀ i, i ≠ b → e' i = e i) : ∀ (x : SV) (v : Value), Den e x v → Den e' (rnS b b' x) v
  | .any, _, _ => by simp [rnS, Den]
  | .v x, _, h => by simpa [rnS, Den] using h
  | .p c o, v, h => by
    simp only [rnS]
    split
    · rename_i d hd
      simp only [Den] at h ⊢; rw [rnN_ok hb hne hd]; exact h
    · trivial
  | .s c o l k, v, h => by
    simp only [rnS]
    split
    · rename_i d hd
      simp only [Den] at h ⊢; rw [rnN_ok hb hne hd]; exact h
    · trivial
  | .y c, v, h => by
    simp only [rnS]
    split
    · rename_i d hd
      simp only [Den] at h ⊢; rw [rnN_ok hb hne hd]; exact h
    · trivial
  | .h c q, v, h => by
    simp only [rnS]
    split
    · rename_i d hd
      simp only [Den] at h ⊢; rw [rnN_ok hb hne hd]; exact h
    · trivial
  | .r c q, v, h => by
    simp only [rnS]
    split
    · rename_i d hd
      simp only [Den] at h ⊢; rw [rnN_ok hb hne hd]; exact h
    · trivial
  | .f fn cs, v, h => by simp only [rnS, Den] at h ⊢; obtain ⟨n, h1, h2⟩ := h; exact ⟨n, rnL_den hb hne _ _ h1, h2⟩
  | .a l, v, h => by simp only [rnS, Den] at h ⊢; obtain ⟨n, h1, h2⟩ := h; exact ⟨n, rnL_den hb hne _ _ h1, h2⟩
  | .t l, v, h => by simp only [rnS, Den] at h ⊢; obtain ⟨n, h1, h2⟩ := h; exact ⟨n, rnL_den hb hne _ _ h1, h2⟩
theorem rnL_den {e e' : Env} {b b' : Nat} (hb : e' b = e b') (hne : ∀ i, i ≠ b → e' i = e i) : ∀ (xs : List SV) (vs : List Value), DenL e xs vs → DenL e' (rnL b b' xs) vs
  | [], _, h => by simpa [rnL, DenL] using h
  | x :: xs, _, h => by
    simp only [rnL, DenL] at h ⊢
    obtain ⟨v, r, h1, h2, h3⟩ := h
    exact ⟨v, r, h1, rnS_den hb hne _ _ h2, rnL_den hb hne _ _ h3⟩
end
theorem rnOk_ne {b b' c : Nat} (h : rnOk b b' c = true) : c ≠ b ∧ c ≠ b' := by
  unfold rnOk at h
  rw [Bool.and_eq_true, Bool.not_eq_true', Bool.not_eq_true'] at h
  exact ⟨fun he => by subst he; simp at h, fun he => by subst he; simp at h⟩
theorem rnB_ok {e e' : Env} {b b' : Nat} (hb : e' b = e b') (hne : ∀ i, i ≠ b → e' i = e i) {x y : SB τ} {r : Option Ref} {h : PH} (hx : rnB b b' x = some y) (hi : ItemOk I e x r h) : ItemOk I e' y r h := by
  unfold rnB at hx
  split at hx
  · cases hx
    obtain ⟨n, vs, h1, h2, h3⟩ := hi
    exact ⟨n, vs, h1, rnL_den hb hne _ _ h2, h3⟩
  · split at hx
    · cases hx
      obtain ⟨f, v, vs, h1, h2, h3, h4, h5⟩ := hi
      exact ⟨f, v, vs, h1, h2, h3, rnL_den hb hne _ _ h4, h5⟩
    · rename_i c n T sz ep nn c2 hc
      cases hx
      obtain ⟨f, v, vs, h1, h2, h3, h4, h5⟩ := hi
      refine ⟨f, v, vs, h1, h2, h3, ?_, h5⟩
      cases c with
      | sv l => exact absurd rfl (hc l)
      | ints k xs => exact h4
      | recs xs => exact h4
  · split at hx
    · rename_i hc
      cases hx
      obtain ⟨f, u, us, ho, hr, fb, gb, h1, h2, h3, h4, h5, h6⟩ := hi
      exact ⟨f, u, us, ho, hr, fb, gb, h1, h2, h3, by rw [hne _ (rnOk_ne hc).1]; exact h4, h5, h6⟩
    · cases hx
  · split at hx
    · rename_i hc
      cases hx
      obtain ⟨n, fn, vs, dn, h1, h2, h3, h4⟩ := hi
      exact ⟨n, fn, vs, dn, h1, rnL_den hb hne _ _ h2, by rw [hne _ (rnOk_ne hc).1]; exact h3, h4⟩
    · cases hx
  · rename_i n1 n2 n3 n4
    cases hx
    cases x with
    | cells l T => exact absurd rfl (n1 _ _)
    | own c n T sz ep nn => exact absurd rfl (n2 _ _ _ _ _ _)
    | limbo c q L T TS ep => exact absurd rfl (n3 _ _ _ _ _ _)
    | loop ls pd tm ps asg body d => exact absurd rfl (n4 _ _ _ _ _ _ _)
    | _ => exact hi
theorem rnH_get {b b' : Nat} {it : SB τ} : ∀ {H H' : List (SB τ)} {i j : Nat} {y : SB τ}, rnH b b' it i H = some H' → H'[j]? = some y → (i + j = b ∧ y = it) ∨ (i + j ≠ b ∧ i + j = b' ∧ y = .gone) ∨ (i + j ≠ b ∧ i + j ≠ b' ∧ ∃ x, H[j]? = some x ∧ rnB b b' x = some y)
  | [], H', i, j, y, h, hj => by simp only [rnH, Option.some.injEq] at h; subst h; simp at hj
  | x :: xs, H', i, j, y, h, hj => by
    have key : ∀ {z : SB τ} {ys : List (SB τ)}, rnH b b' it (i + 1) xs = some ys → H' = z :: ys → ((i = b ∧ z = it) ∨ (i ≠ b ∧ i = b' ∧ z = .gone) ∨ (i ≠ b ∧ i ≠ b' ∧ rnB b b' x = some z)) → (i + j = b ∧ y = it) ∨ (i + j ≠ b ∧ i + j = b' ∧ y = .gone) ∨ (i + j ≠ b ∧ i + j ≠ b' ∧ ∃ x', (x :: xs)[j]? = some x' ∧ rnB b b' x' = some y) := by
      intro z ys hys hH hz
      subst hH
      cases j with
      | zero =>
        simp only [List.getElem?_cons_zero, Option.some.injEq] at hj
        subst hj
        rcases hz with hz | hz | hz
        · exact .inl hz
        · exact .inr (.inl hz)
        · exact .inr (.inr ⟨hz.1, hz.2.1, x, rfl, hz.2.2⟩)
      | succ j =>
        rw [List.getElem?_cons_succ] at hj
        have ih := rnH_get hys hj
        rw [show i + 1 + j = i + (j + 1) by omega] at ih
        simpa using ih
    have ne : ∀ {c : Nat}, ¬ Nat.beq i c = true → i ≠ c := fun hn he => hn (by rw [he, Nat.beq_eq])
    simp only [rnH] at h
    split at h
    · rename_i h1
      rw [Nat.beq_eq] at h1
      split at h
      · rename_i ys hys
        simp only [Option.some.injEq] at h
        exact key hys h.symm (.inl ⟨h1, rfl⟩)
      · cases h
    · rename_i h1
      have h1 := ne (by rw [h1]; simp)
      split at h
      · rename_i h2
        rw [Nat.beq_eq] at h2
        split at h
        · rename_i ys hys
          simp only [Option.some.injEq] at h
          exact key hys h.symm (.inr (.inl ⟨h1, h2, rfl⟩))
        · cases h
      · rename_i h2
        have h2 := ne (by rw [h2]; simp)
        split at h
        · rename_i z hz
          split at h
          · rename_i ys hys
            simp only [Option.some.injEq] at h
            exact key hys h.symm (.inr (.inr ⟨h1, h2, hz⟩))
          · cases h
        · cases h
theorem rnH_length {b b' : Nat} {it : SB τ} : ∀ {H H' : List (SB τ)} {i : Nat}, rnH b b' it i H = some H' → H'.length = H.length
  | [], H', i, h => by simp only [rnH, Option.some.injEq] at h; subst h; rfl
  | x :: xs, H', i, h => by
    simp only [rnH] at h
    split at h
    · split at h
      · rename_i ys hys
        simp only [Option.some.injEq] at h
        subst h; simp [rnH_length hys]
      · cases h
    · split at h
      · split at h
        · rename_i ys hys
          simp only [Option.some.injEq] at h
          subst h; simp [rnH_length hys]
        · cases h
      · split at h
        · split at h
          · rename_i ys hys
            simp only [Option.some.injEq] at h
            subst h; simp [rnH_length hys]
          · cases h
        · cases h
/-- An item in another one's stead. -/
theorem Models.stead {e : Env} {H H' : List (SB τ)} {Fr : PH} {w : World} {b b' : Nat} {x it : SB τ} (hM : Models I e H Fr w) (hb : b < H.length) (hne : b ≠ b') (hx : H[b']? = some x) (hit : rnB b b' x = some it) (hH : rnH b b' it 0 H = some H') :
    Models I (fun i => if i = b then e b' else e i) H' Fr w := by
  obtain ⟨h0, hs, h1, h2, h3, h4, h5, h6⟩ := hM
  have eb : (fun i => if i = b then e b' else e i) b = e b' := if_pos rfl
  have en : ∀ i, i ≠ b → (fun i => if i = b then e b' else e i) i = e i := fun i hi => if_neg hi
  have hlen := rnH_length hH
  have hb' : b' < H.length := (List.getElem?_eq_some_iff.1 hx).1
  have d0 : ∀ h : PH, Disj emp h := fun h k => .inl rfl
  have d1 : ∀ h : PH, Disj h emp := fun h k => .inr rfl
  refine ⟨h0, fun i => if i = b then hs b' else if i = b' then emp else hs i, fun i y hy => ?_, fun i hi => ?_, fun i j hij => ?_, fun i => ?_, fun i => ?_, h6⟩
  · rcases rnH_get hH hy with ⟨hi, rfl⟩ | ⟨hi1, hi, rfl⟩ | ⟨hi, hi2, z, hz, hzy⟩
    · rw [Nat.zero_add] at hi
      subst hi
      simp only [if_true]
      have := rnB_ok (r := e b') eb en hit (h1 b' x hx)
      exact this
    · rw [Nat.zero_add] at hi hi1
      subst hi
      simp only [if_neg hi1, if_true]
      exact rfl
    · rw [Nat.zero_add] at hi hi2
      simp only [if_neg hi, if_neg hi2]
      exact rnB_ok (r := e i) eb en hzy (h1 i z hz)
  · have hi' : H.length ≤ i := by rw [← hlen]; exact hi
    have hib : i ≠ b := by omega
    have hib' : i ≠ b' := by omega
    simp only [if_neg hib, if_neg hib']
    exact h2 i hi'
  · simp only
    by_cases i1 : i = b
    · subst i1
      have j1 : j ≠ i := fun h => hij h.symm
      simp only [if_true, if_neg j1]
      by_cases j2 : j = b'
      · simp only [if_pos j2]; exact d1 _
      · simp only [if_neg j2]; exact h3 _ _ (fun h => j2 h.symm)
    · simp only [if_neg i1]
      by_cases i2 : i = b'
      · simp only [if_pos i2]; exact d0 _
      · simp only [if_neg i2]
        by_cases j1 : j = b
        · simp only [if_pos j1]; exact h3 _ _ i2
        · simp only [if_neg j1]
          by_cases j2 : j = b'
          · simp only [if_pos j2]; exact d1 _
          · simp only [if_neg j2]; exact h3 _ _ hij
  · simp only
    split
    · exact h4 _
    · split
      · exact d0 _
      · exact h4 _
  · simp only
    split
    · exact h5 _
    · split
      · intro k o hk; cases hk
      · exact h5 _
/-! ### A row becomes another item's next epoch -/
/-- What the new environment says of q, and what the row's references stand for there. -/
def AdOk (e e' : Env) (q q' : Nat) (k : AdK) : Prop :=
  Le e e' ∧ match k with
    | .own ep ep' => ∀ (r : List Nat) (v : Value), Den e (.h q' (ep' :: r)) v → Den e' (.h q (ep :: r)) v
    | .blk ep n => ∀ (v : Value), Den e (.s q' 0 n n) v → Den e' (.h q [ep, 0]) v
mutual
theorem adS_den {e e' : Env} {q q' : Nat} {k : AdK} (hk : AdOk e e' q q' k) : ∀ (x : SV) (v : Value), Den e x v → Den e' (adS q q' k x) v
  | .any, _, _ => trivial
  | .v x, v, h => by simpa [adS, Den] using h
  | .p c o, v, h => by
    simp only [adS, adN]
    split
    · trivial
    · exact h.mono hk.1
  | .y c, v, h => by
    simp only [adS, adN]
    split
    · trivial
    · exact h.mono hk.1
  | .r c p, v, h => by
    simp only [adS, adN]
    split
    · trivial
    · exact h.mono hk.1
  | .s c o l m, v, h => by
    simp only [adS]
    split
    · exact h.mono hk.1
    · rename_i hc
      rw [Nat.beq_eq] at hc
      subst hc
      split
      · split
        · rename_i hb
          simp only [Bool.and_eq_true, Nat.beq_eq] at hb
          obtain ⟨rfl, rfl, rfl⟩ := hb
          exact hk.2 v h
        · trivial
      · trivial
  | .h c p, v, h => by
    simp only [adS]
    split
    · exact h.mono hk.1
    · rename_i hc
      rw [Nat.beq_eq] at hc
      subst hc
      split
      · split
        · split
          · rename_i hb
            rw [Nat.beq_eq] at hb
            subst hb
            exact hk.2 _ v h
          · trivial
        · trivial
      · trivial
  | .f fn cs, v, h => by simp only [adS, Den] at h ⊢; obtain ⟨n, h1, h2⟩ := h; exact ⟨n, adL_den hk _ _ h1, h2⟩
  | .a l, v, h => by simp only [adS, Den] at h ⊢; obtain ⟨n, h1, h2⟩ := h; exact ⟨n, adL_den hk _ _ h1, h2⟩
  | .t l, v, h => by simp only [adS, Den] at h ⊢; obtain ⟨n, h1, h2⟩ := h; exact ⟨n, adL_den hk _ _ h1, h2⟩
theorem adL_den {e e' : Env} {q q' : Nat} {k : AdK} (hk : AdOk e e' q q' k) : ∀ (xs : List SV) (vs : List Value), DenL e xs vs → DenL e' (adL q q' k xs) vs
  | [], _, h => by simpa [adL, DenL] using h
  | x :: xs, _, h => by
    simp only [adL, DenL] at h ⊢
    obtain ⟨v, r, h1, h2, h3⟩ := h
    exact ⟨v, r, h1, adS_den hk _ _ h2, adL_den hk _ _ h3⟩
end
theorem adC_den {e e' : Env} {q q' : Nat} {k : AdK} (hk : AdOk e e' q q' k) {c : Cn} {vs : List Value} (h : c.den e vs) : (adC q q' k c).den e' vs := by
  cases c with
  | sv l => exact adL_den hk _ _ h
  | ints j xs => exact h
  | recs xs => exact h
theorem adB_ok {e e' : Env} {q q' : Nat} {k : AdK} (hk : AdOk e e' q q' k) {x : SB τ} {r : Option Ref} {h : PH} (hi : ItemOk I e x r h) : ItemOk I e' (adB q q' k x) r h := by
  unfold adB
  split
  · obtain ⟨n, vs, h1, h2, h3⟩ := hi
    exact ⟨n, vs, h1, adL_den hk _ _ h2, h3⟩
  · obtain ⟨f, v, vs, h1, h2, h3, h4, h5⟩ := hi
    exact ⟨f, v, vs, h1, h2, h3, adC_den hk h4, h5⟩
  · obtain ⟨n, fn, vs, dn, h1, h2, h3, h4⟩ := hi
    exact ⟨n, fn, vs, dn, h1, adL_den hk _ _ h2, hk.1.blk h3, h4⟩
  · exact hi.mono I hk.1
theorem adH_length {q q' : Nat} {k : AdK} {it : SB τ} : ∀ {H : List (SB τ)} {i : Nat}, (adH q q' k it i H).length = H.length
  | [], _ => rfl
  | x :: xs, i => by simp [adH, adH_length (H := xs)]
theorem adH_get {q q' : Nat} {k : AdK} {it : SB τ} : ∀ {H : List (SB τ)} {i j : Nat} {y : SB τ}, (adH q q' k it i H)[j]? = some y →
    (i + j = q ∧ y = it) ∨ (i + j ≠ q ∧ i + j = q' ∧ y = .gone) ∨ (i + j ≠ q ∧ i + j ≠ q' ∧ ∃ x, H[j]? = some x ∧ y = adB q q' k x)
  | [], i, j, y, h => by simp [adH] at h
  | x :: xs, i, j, y, h => by
    cases j with
    | zero =>
      simp only [adH, List.getElem?_cons_zero, Option.some.injEq] at h
      split at h
      · rename_i hq
        rw [Nat.beq_eq] at hq
        exact .inl ⟨by omega, h.symm⟩
      · rename_i hq
        have hq : i ≠ q := fun e => by rw [← Nat.beq_eq] at e; rw [e] at hq; cases hq
        split at h
        · rename_i hq'
          rw [Nat.beq_eq] at hq'
          exact .inr (.inl ⟨by omega, by omega, h.symm⟩)
        · rename_i hq'
          have hq' : i ≠ q' := fun e => by rw [← Nat.beq_eq] at e; rw [e] at hq'; cases hq'
          exact .inr (.inr ⟨by omega, by omega, x, rfl, h.symm⟩)
    | succ j =>
      simp only [adH, List.getElem?_cons_succ] at h
      have := adH_get (H := xs) h
      simp only [List.getElem?_cons_succ]
      rw [show i + (j + 1) = i + 1 + j by omega]
      exact this
theorem Models.adopt {e e' : Env} {H : List (SB τ)} {Fr : PH} {w : World} {q q' : Nat} {k : AdK} {it x' : SB τ} (hM : Models I e H Fr w) (hne : q ≠ q') (hq : q < H.length) (hx : H[q']? = some x') (hk : AdOk e e' q q' k) (hkeep : ∀ i, i ≠ q → e' i = e i)
    (hit : ∀ h, ItemOk I e x' (e q') h → ItemOk I e' it (e' q) h) : Models I e' (adH q q' k it 0 H) Fr w := by
  obtain ⟨h0, hs, h1, h2, h3, h4, h5, h6⟩ := hM
  have hq' : q' < H.length := (List.getElem?_eq_some_iff.1 hx).1
  refine ⟨h0, fun i => if i = q then hs q' else if i = q' then emp else hs i, fun i y hy => ?_, fun i hi => ?_, fun i j hij => ?_, fun i => ?_, fun i => ?_, h6⟩
  · rcases adH_get hy with ⟨hi, rfl⟩ | ⟨hi1, hi, rfl⟩ | ⟨hi, hi2, z, hz, rfl⟩
    · rw [Nat.zero_add] at hi
      subst hi
      simp only [if_true]
      exact hit _ (h1 q' x' hx)
    · rw [Nat.zero_add] at hi hi1
      subst hi
      simp only [if_neg hi1, if_true]
      exact rfl
    · rw [Nat.zero_add] at hi hi2
      simp only [if_neg hi, if_neg hi2]
      rw [hkeep i hi]
      exact adB_ok hk (h1 i z hz)
  · rw [adH_length] at hi
    have hib : i ≠ q := by omega
    have hib' : i ≠ q' := by omega
    simp only [if_neg hib, if_neg hib']
    rw [hkeep i hib]
    exact h2 i hi
  · simp only
    have d0 : ∀ h : PH, Disj emp h := fun h k => .inl rfl
    have d1 : ∀ h : PH, Disj h emp := fun h k => .inr rfl
    by_cases i1 : i = q
    · subst i1
      have j1 : j ≠ i := fun h => hij h.symm
      simp only [if_true, if_neg j1]
      by_cases j2 : j = q'
      · simp only [if_pos j2]; exact d1 _
      · simp only [if_neg j2]; exact h3 _ _ (fun h => j2 h.symm)
    · simp only [if_neg i1]
      by_cases i2 : i = q'
      · simp only [if_pos i2]; exact d0 _
      · simp only [if_neg i2]
        by_cases j1 : j = q
        · simp only [if_pos j1]; exact h3 _ _ i2
        · simp only [if_neg j1]
          by_cases j2 : j = q'
          · simp only [if_pos j2]; exact d1 _
          · simp only [if_neg j2]; exact h3 _ _ hij
  · simp only
    split
    · exact h4 _
    · split
      · intro k; exact .inl rfl
      · exact h4 _
  · simp only
    split
    · exact h5 _
    · split
      · intro k o hk; cases hk
      · exact h5 _
theorem likeC_den {e : Env} {c : Cn} {l : List SV} {vs : List Value} (h : DenL e l vs) : (likeC c l).den e vs := by
  unfold likeC
  split
  · split
    · rename_i ha
      have := allInts_ok ha
      exact ints_den (by rw [← this]; exact h)
    · exact h
  · exact h
theorem emptyC_den {e : Env} (c : Cn) : (emptyC c).den e [] := by
  cases c with
  | sv l => simp [emptyC, Cn.den, DenL]
  | ints k xs => simp [emptyC, Cn.den]
  | recs xs => simp [emptyC, Cn.den, cvals]
theorem fx1_ok {e : Env} {Fr : PH} {st st' : St τ} {a : Act} {w : World} {f : Fx} (hok : StOk I e Fr D st a w) (h : fx1 st f = some st') : ∃ e', LeB st.base e e' ∧ StOk I e' Fr D st' a w ∧ st'.base = st.base ∧ st'.rnd = st.rnd := by
  have new : ∀ (H : List (SB τ)) (c : Cn) (T sz : Nat), noneC c = true → Models I e H Fr w → ∃ e', Le e e' ∧ (∀ j, j ≠ H.length → e' j = e j) ∧ Models I e' (H ++ [.own c 0 T sz 0 false]) Fr w ∧ Den e' (.h H.length [0, 0]) (.slice none 0 0) := fun H c T sz hc hM => by
    have hle : Le e (ext e H.length (.hd fun j => if j = 0 then some (ownRef sz (.slice none 0 0)) else none)) := le_ext hM.fresh
    refine ⟨_, hle, fun j hj => ext_ne _ _ _ hj, hM.add (hn := emp) ⟨_, .slice none 0 0, [], rfl, by simp, fun j hj => by simp; omega, Cn.den_mono hle (noneC_ok hc), ⟨by simp, .inl ⟨rfl, rfl, rfl⟩⟩, (fun hh => by cases hh)⟩ (Ext.refl w) (fun k o hk => by simp [emp] at hk) (fun k hk => by simp [emp] at hk), ?_⟩
    simp only [Den, ext_self]
    exact ⟨_, rfl, by simp [hdAt, ownRef, rowRef], rfl⟩
  cases f with
  | nilTm i c T sz =>
    simp only [fx1] at h
    split at h
    · rename_i hc
      rw [Bool.and_eq_true] at hc
      simp only [Option.some.injEq] at h
      subst h
      obtain ⟨e', h1, _, h2, h3⟩ := new st.H c T sz hc.2 hok.models
      exact ⟨e', LeB.of_le h1, ⟨h2, nilAt_ok hc.1 (hok.tm.mono h1) h3, hok.df⟩, rfl, rfl⟩
    · cases h
  | nilLoop b i c T sz =>
    simp only [fx1] at h
    split at h
    · rename_i ls pd tm ps asg body d hb
      split at h
      · rename_i hc
        rw [Bool.and_eq_true] at hc
        simp only [Option.some.injEq] at h
        subst h
        obtain ⟨e', h1, h0, h2, h3⟩ := new st.H c T sz hc.2 hok.models
        have hblt : b < st.H.length := (List.getElem?_eq_some_iff.1 hb).1
        have hb' : (st.H ++ [SB.own c 0 T sz 0 false])[b]? = some (.loop ls pd tm ps asg body d) := by rw [List.getElem?_append_left hblt]; exact hb
        obtain ⟨hn, ⟨n, fn, vs, dn, g1, g2, g3, g4⟩, hs, hput⟩ := h2.take hb'
        have := hput (w' := w) (b' := .loop ls pd (tm.set i (.h st.H.length [0, 0])) ps asg body d) (Le.refl e') (fun _ _ => rfl) ⟨n, fn, vs, dn, g1, nilAt_ok hc.1 g2 h3, g3, g4⟩ (Turned.refl hs)
        rw [List.set_append_left _ _ hblt] at this
        exact ⟨e', LeB.of_le h1, ⟨this, hok.tm.mono h1, hok.df⟩, rfl, rfl⟩
      · cases h
    · cases h
  | nilCell b i c T sz =>
    simp only [fx1] at h
    split at h
    · rename_i l T' hb
      split at h
      · rename_i hc
        rw [Bool.and_eq_true] at hc
        simp only [Option.some.injEq] at h
        subst h
        obtain ⟨e', h1, h0, h2, h3⟩ := new st.H c T sz hc.2 hok.models
        have hblt : b < st.H.length := (List.getElem?_eq_some_iff.1 hb).1
        have hb' : (st.H ++ [SB.own c 0 T sz 0 false])[b]? = some (.cells l T') := by rw [List.getElem?_append_left hblt]; exact hb
        obtain ⟨hn, ⟨n, vs, g1, g2, g3⟩, hs, hput⟩ := h2.take hb'
        have := hput (w' := w) (b' := .cells (l.set i (.h st.H.length [0, 0])) T') (Le.refl e') (fun _ _ => rfl) ⟨n, vs, g1, nilAt_ok hc.1 g2 h3, g3⟩ (Turned.refl hs)
        rw [List.set_append_left _ _ hblt] at this
        exact ⟨e', LeB.of_le h1, ⟨this, hok.tm.mono h1, hok.df⟩, rfl, rfl⟩
      · cases h
    · cases h
  | pad =>
    simp only [fx1, Option.some.injEq] at h
    subst h
    obtain ⟨h0, hs, h1, h2, h3, h4, h5, h6⟩ := hok.models
    refine ⟨e, LeB.refl _ e, ⟨⟨h0, hs, fun i b hb => ?_, fun i hi => h2 i (by simp at hi; omega), h3, h4, h5, h6⟩, hok.tm, hok.df⟩, rfl, rfl⟩
    rcases Nat.lt_or_ge i st.H.length with hi | hi
    · rw [List.getElem?_append_left hi] at hb; exact h1 i b hb
    · rw [List.getElem?_append_right hi] at hb
      have hb0 : b = .gone := by
        have := List.mem_of_getElem? hb
        simpa using this
      subst hb0
      exact (h2 i hi).2
  | mv b b' =>
    simp only [fx1] at h
    split at h
    · rename_i hc
      simp only [Bool.and_eq_true, Nat.ble_eq, Nat.blt_eq, Bool.not_eq_true', List.all_eq_true] at hc
      obtain ⟨c1, c2, c3, c4⟩ := hc
      have c3 : b ≠ b' := fun he => by subst he; simp at c3
      split at h
      · rename_i x hx
        split at h
        · rename_i it hit
          split at h
          · rename_i H' hH
            simp only [Option.some.injEq] at h
            subst h
            have hM := hok.models.stead c2 c3 hx hit hH
            refine ⟨_, fun i hi r hr => ⟨r, by rw [if_neg (by omega)]; exact hr, r.le_refl⟩, ⟨hM, rnL_den (if_pos rfl) (fun i hi => if_neg hi) _ _ hok.tm, hok.df⟩, rfl, rfl⟩
          · cases h
        · cases h
      · cases h
    · cases h
  | nilInto b i q =>
    simp only [fx1] at h
    split at h
    · cases h
    · rename_i hbq
      have hbq : b ≠ q := fun e => by rw [← Nat.beq_eq] at e; rw [e] at hbq; cases hbq
      split at h
      · rename_i l T' hb
        split at h
        · rename_i c n T sz ep nn hq
          split at h
          · rename_i hnil
            simp only [Option.some.injEq] at h
            subst h
            obtain ⟨hn, ⟨f, v, vs, g1, g2, g3, g4, g5, _⟩, hs, hput⟩ := hok.models.take hq
            have hle : Le e (ext e q (.hd (up f (ep + 1) (ownRef sz (.slice none 0 0))))) := le_up g1 (g3 _ (Nat.lt_succ_self _))
            have hM2 := hput (w' := w) (hn' := emp) (b' := .own (emptyC c) 0 T sz (ep + 1) false) hle (fun j hj => ext_ne _ _ _ hj) ⟨_, .slice none 0 0, [], ext_self _ _ _, up_self _ _ _, up_none fun j hj => g3 j (by omega), emptyC_den c, ⟨by simp, .inl ⟨rfl, rfl, rfl⟩⟩, (fun hh => by cases hh)⟩
              ⟨fun k x hk => (by cases hk), fun k hk => absurd rfl hk, fun k x hk _ => hk, Stay.refl w⟩
            have h3 : Den (ext e q (.hd (up f (ep + 1) (ownRef sz (.slice none 0 0))))) (.h q [ep + 1, 0]) (.slice none 0 0) := by
              simp only [Den, ext_self]
              exact ⟨_, rfl, by simp [hdAt, up_self, ownRef, rowRef], rfl⟩
            have hb' : (st.H.set q (SB.own (emptyC c) 0 T sz (ep + 1) false))[b]? = some (.cells l T') := by rw [List.getElem?_set_ne (fun e => hbq e.symm)]; exact hb
            obtain ⟨hn2, ⟨n2, vs2, k1, k2, k3⟩, hs2, hput2⟩ := hM2.take hb'
            have hM3 := hput2 (w' := w) (b' := .cells (l.set i (.h q [ep + 1, 0])) T') (Le.refl _) (fun _ _ => rfl) ⟨n2, vs2, k1, nilAt_ok hnil k2 h3, k3⟩ (Turned.refl hs2)
            exact ⟨_, LeB.of_le hle, ⟨hM3, hok.tm.mono hle, hok.df⟩, rfl, rfl⟩
          · cases h
        · cases h
      · cases h
  | adopt q q' =>
    simp only [fx1] at h
    split at h
    · cases h
    · rename_i hqq
      have hqq : q ≠ q' := fun e => by rw [← Nat.beq_eq] at e; rw [e] at hqq; cases hqq
      split at h
      · rename_i c n T sz ep nn hq
        have hql : q < st.H.length := (List.getElem?_eq_some_iff.1 hq).1
        obtain ⟨hn, ⟨f, v, vs, g1, g2, g3, g4, g5, _⟩, _⟩ := hok.models.item hq
        split at h
        · rename_i c' n' T' sz' ep' nn' hq'
          split at h
          · rename_i hT
            simp only [Bool.and_eq_true, Nat.beq_eq] at hT
            obtain ⟨rfl, rfl⟩ := hT
            simp only [Option.some.injEq] at h
            subst h
            obtain ⟨hn', ⟨f', v', vs', k1, k2, k3, k4, k5, k6⟩, _⟩ := hok.models.item hq'
            have hle : Le e (ext e q (.hd (up f (ep + 1) (ownRef sz v')))) := le_up g1 (g3 _ (Nat.lt_succ_self _))
            have hk : AdOk e (ext e q (.hd (up f (ep + 1) (ownRef sz v')))) q q' (.own (ep + 1) ep') := ⟨hle, fun r u hd => by
              simp only [Den] at hd ⊢
              obtain ⟨f2, m1, m2, m3⟩ := hd
              rw [k1] at m1; cases m1
              refine ⟨_, ext_self _ _ _, ?_, m3⟩
              simp only [hdAt, k2, up_self, Option.map_some] at m2 ⊢
              exact m2⟩
            refine ⟨_, LeB.of_le hle, ⟨hok.models.adopt hqq hql hq' hk (fun i hi => ext_ne _ _ _ hi) fun h hi => ?_, adL_den hk _ _ hok.tm, hok.df⟩, rfl, rfl⟩
            obtain ⟨f2, v2, vs2, m1, m2, m3, m4, m5, m6⟩ := hi
            rw [k1] at m1; cases m1
            rw [k2] at m2
            have hv : ownRef sz v2 = ownRef sz v' := (Option.some.inj m2).symm
            exact ⟨_, v2, vs2, ext_self _ _ _, by rw [up_self, hv], up_none fun j hj => g3 j (by omega), adC_den hk m4, m5, m6⟩
          · cases h
        · rename_i l T' hq'
          split at h
          · rename_i hT
            simp only [Bool.and_eq_true, Nat.beq_eq, Nat.ble_eq] at hT
            obtain ⟨rfl, rfl, hlen⟩ := hT
            simp only [Option.some.injEq] at h
            subst h
            obtain ⟨hn', ⟨m, vs', k1, k2, k3⟩, _⟩ := hok.models.item hq'
            have hle : Le e (ext e q (.hd (up f (ep + 1) (ownRef 1 (.slice (some ⟨m, 0, none⟩) l.length l.length))))) := le_up g1 (g3 _ (Nat.lt_succ_self _))
            have hk : AdOk e (ext e q (.hd (up f (ep + 1) (ownRef 1 (.slice (some ⟨m, 0, none⟩) l.length l.length))))) q q' (.blk (ep + 1) l.length) := ⟨hle, fun u hd => by
              simp only [Den] at hd ⊢
              obtain ⟨m', m1, rfl⟩ := hd
              rw [k1] at m1; cases m1
              exact ⟨_, ext_self _ _ _, by simp [hdAt, up_self, ownRef, rowRef], rfl⟩⟩
            refine ⟨_, LeB.of_le hle, ⟨hok.models.adopt hqq hql hq' hk (fun i hi => ext_ne _ _ _ hi) fun h hi => ?_, adL_den hk _ _ hok.tm, hok.df⟩, rfl, rfl⟩
            obtain ⟨m', vs2, m1, m2, m3⟩ := hi
            rw [k1] at m1; cases m1
            have hl := m2.length
            exact ⟨_, .slice (some ⟨m, 0, none⟩) l.length l.length, vs2, ext_self _ _ _, up_self _ _ _, up_none fun j hj => g3 j (by omega), adC_den hk (likeC_den m2), ⟨by omega, .inr ⟨m, l.length, [], rfl, by simpa using m3, Nat.le_refl _, by unfold maxLen; omega, by simp [hl]⟩⟩, fun _ hc => by cases hc⟩
          · cases h
        · cases h
      · cases h
  | _ => simp [fx1] at h
theorem none_rows {T sz : Nat} : ∀ n, RowsOk T sz (List.replicate n (.slice none 0 0)) (List.replicate n (0, [])) emp
  | 0 => rfl
  | n + 1 => ⟨emp, emp, ⟨by simp, .inl ⟨rfl, rfl, rfl⟩⟩, none_rows n, emp_disj _, (join_emp _).symm⟩
theorem none_rws (k : Option IntKind) (n : Nat) : (Rws.none k n).rows = List.replicate n (0, []) := by
  cases k <;> simp [Rws.none, Rws.rows, cvals]
theorem none_lim (k : Option IntKind) : (Lim.none k).rows = [] := by
  cases k <;> rfl
theorem rep_den {e : Env} {x : SV} {v : Value} (h : ∀ u, Den e x u → u = v) : ∀ {n : Nat} {vs : List Value}, DenL e (List.replicate n x) vs → vs = List.replicate n v
  | 0, vs, hd => by simpa [DenL] using hd
  | n + 1, vs, hd => by
    simp only [List.replicate_succ, DenL] at hd
    obtain ⟨u, r, rfl, h1, h2⟩ := hd
    rw [h u h1, rep_den h h2]; rfl
theorem fx2_ok {e : Env} {Fr : PH} {st st' : St τ} {a : Act} {w : World} {f : Fx} {φ : Prop} (hok : StOk I e Fr D st a w) (h : fx2 st f = some (φ, st')) (hφ : φ) : ∃ e', Le e e' ∧ StOk I e' Fr D st' a w ∧ st'.base = st.base ∧ st'.rnd = st.rnd := by
  cases f with
  | asRows b k T =>
    simp only [fx2] at h
    split at h
    · rename_i c n TS sz ep nn hb
      split at h
      · rename_i l
        split at h
        · rename_i hsz
          rw [Nat.beq_eq] at hsz
          subst hsz
          simp only [Option.some.injEq, Prod.mk.injEq] at h
          obtain ⟨h1, rfl⟩ := h
          subst h1
          obtain ⟨hn, ⟨f0, v, vs, g1, g2, g3, g4, g5, _⟩, hs, hput⟩ := hok.models.take hb
          have g4 : DenL e l vs := g4
          rw [hφ.h] at g4
          have hvs := rep_den (v := .slice none 0 0) (fun u hu => by simpa [Den] using hu) g4
          have hlen : vs.length = n := by rw [hvs]; simp
          have hle := le_up (k := ep + 1) (g := rowsRef (Rws.none k n).sz v vs) g1 (g3 _ (Nat.lt_succ_self _))
          have hM := hput (w' := w) (hn' := hn) (b' := .rows (Rws.none k n) T TS ep (ep + 1) none) hle (fun j hj => ext_ne _ _ _ hj) ⟨_, v, vs, vs, hn, emp, ext_self _ _ _, up_self _ _ _, ⟨Nat.le_succ _, ⟨ownRef 1 v, up_keep (g3 _ (Nat.lt_succ_self _)) _ _ g2, fun p => rfl⟩, up_none fun j hj => g3 j (by omega)⟩, rfl,
            (fun x hx => by rw [hvs] at hx; rw [(List.mem_replicate.1 hx).2]; rfl), by rw [hlen]; exact g5, by rw [none_rws, hvs]; exact none_rows n, disj_emp _, (join_emp' _).symm⟩ (Turned.refl hs)
          exact ⟨_, hle, ⟨hM, hok.tm.mono hle, hok.df⟩, rfl, rfl⟩
        · cases h
      · cases h
    · cases h
  | asLimbo b b' k T =>
    simp only [fx2] at h
    split at h
    · rename_i c n TS sz ep nn hb
      split at h
      · rename_i l
        split at h
        · rename_i hsz
          rw [Nat.beq_eq] at hsz
          subst hsz
          split at h
          · rename_i R T' TS' oe re pd hb'
            simp only [Option.some.injEq, Prod.mk.injEq] at h
            obtain ⟨h1, rfl⟩ := h
            subst h1
            obtain ⟨rfl, rfl⟩ := hφ
            obtain ⟨hn', ⟨fb, u, us, hs, ho, hr, k1, k2, _⟩, _⟩ := hok.models.item hb'
            obtain ⟨hn, ⟨f0, v, vs, g1, g2, g3, g4, g5, _⟩, hs, hput⟩ := hok.models.take hb
            have g4 : DenL e [] vs := g4
            simp only [DenL] at g4
            subst g4
            have hM := hput (w' := w) (hn' := hn) (b' := .limbo b' re (Lim.none k) T TS ep) (Le.refl e) (fun j hj => rfl) ⟨_, v, [], hn, emp, fb, _, g1, g2, g3, k1, k2, by simp, g5, by rw [none_lim]; rfl, disj_emp _, (join_emp' _).symm⟩ (Turned.refl hs)
            exact ⟨e, Le.refl e, ⟨hM, hok.tm, hok.df⟩, rfl, rfl⟩
          · cases h
        · cases h
      · cases h
    · cases h
  | _ => simp [fx2] at h
theorem fxs_ok : ∀ {fs : List Fx} {e : Env} {Fr : PH} {st : St τ} {a : Act} {w : World} {K : St τ → Prop}, StOk I e Fr D st a w → fxs st fs K → ∃ e' st', LeB st.base e e' ∧ StOk I e' Fr D st' a w ∧ st'.base = st.base ∧ st'.rnd = st.rnd ∧ K st'
  | [], e, _, st, _, _, _, hok, h => ⟨e, st, LeB.refl _ e, hok, rfl, rfl, h⟩
  | f :: r, e, _, st, _, _, _, hok, h => by
    simp only [fxs] at h
    split at h
    · rename_i s1 h1
      obtain ⟨e1, g1, g2, g3, g4⟩ := fx1_ok hok h1
      obtain ⟨e2, s2, k1, k2, k3, k4, k5⟩ := fxs_ok g2 h
      exact ⟨e2, s2, g1.trans (g3 ▸ k1), k2, k3.trans g3, k4.trans g4, k5⟩
    · split at h
      · rename_i φ s1 h1
        obtain ⟨e1, g1, g2, g3, g4⟩ := fx2_ok hok h1 h.1
        obtain ⟨e2, s2, k1, k2, k3, k4, k5⟩ := fxs_ok g2 h.2
        exact ⟨e2, s2, (LeB.of_le g1).trans (g3 ▸ k1), k2, k3.trans g3, k4.trans g4, k5⟩
      · exact h.elim
theorem fxK_ok {A : Ann τ} {e : Env} {Fr : PH} {st : St τ} {a : Act} {w : World} {K : St τ → Prop} (hok : StOk I e Fr D st a w) (h : fxK A st K) : ∃ e' st', LeB st.base e e' ∧ StOk I e' Fr D st' a w ∧ st'.base = st.base ∧ st'.rnd = st.rnd ∧ K st' := by
  unfold fxK at h
  rw [forceSt_eq] at h
  obtain ⟨e', st', h1, h2, h3, h4, h5⟩ := fxs_ok hok h
  rw [forceSt_eq] at h5
  exact ⟨e', st', h1, h2, h3, h4, h5⟩
theorem ann_arr {cfg : Cfg τ} {rec : Rec τ} (hrec : RecOk I cfg.P rec) {A : Ann τ} {body : Code} {K : Exit → St τ → Prop} {Fr : PH} {r : Option Nat} {st : St τ} {e : Env} {a : Act} {w : World} (hr : st.rnd = r.isSome)
    (h : annK A rec body st K) (hok : StOk I e Fr D st a w) : LArr (FF r) 0 cfg.P body (Post I e Fr D st K) a w := by
  unfold annK at h
  obtain ⟨ef, stf, lf, okf, bf, rf, h⟩ := fxK_ok hok h
  · split at h
    · rename_i x0 hx0
      obtain ⟨h0, hw0', hround⟩ := h
      have hw0 := weakP_ok hw0'
      obtain ⟨e0, l0, ok0⟩ := weak_ok okf hw0
      have hlb : LeB st.base e e0 := LeB.trans lf (bf ▸ l0)
      refine larr_ix (fun m a w => ∃ x e' Fr' D', A.μ stf x = m ∧ A.φ stf x ∧ LeB st.base e e' ∧ (A.f stf x).base = st.base ∧ (A.f stf x).rnd = st.rnd ∧ (Grow Fr D Fr' D' ∧ (st.rnd = true → Fr' = Fr)) ∧ StOk I e' Fr' D' (A.f stf x) a w) (A.μ stf x0)
        ⟨x0, e0, Fr, D, rfl, h0, hlb, hw0.base.symm.trans bf, hw0.rnd.symm.trans rf, ⟨Grow.refl Fr D, fun _ => rfl⟩, ok0⟩ ?_
      rintro m a w ⟨x, e', Fr', D', rfl, hx, hl, hb, hrn, hG, hok'⟩
      refine wpIn_mono (hrec body (A.f stf x) _ e' Fr' D' a w r (hrn.trans hr) (hround x hx) hok') fun ex a1 w1 hp => ?_
      obtain ⟨e1, s1, Fr1, D1, g1, g2, g3, gG, g4, g5⟩ := hp
      have hT : Grow Fr D Fr1 D1 ∧ (st.rnd = true → Fr1 = Fr) := ⟨hG.1.trans gG.1, fun q => (gG.2 (hrn.trans q)).trans (hG.2 q)⟩
      cases ex with
      | normal =>
        simp only at g5
        obtain ⟨e3, s2, l3, ok3, b3, r3, g5⟩ := fxK_ok g4 g5
        · split at g5
          · rename_i y hy0
            obtain ⟨hy, hwk', hlt⟩ := g5
            have hwk := weakP_ok hwk'
            obtain ⟨e2, k1, k2⟩ := weak_ok ok3 hwk
            refine ⟨A.μ stf y, hlt, y, e2, Fr1, D1, rfl, hy, hl.trans ?_, ?_, ?_, hT, k2⟩
            · rw [← hb]
              refine g1.trans (LeB.trans (g2 ▸ l3) ?_)
              rw [← g2, ← b3]; exact k1
            · rw [← hwk.base, b3, g2, hb]
            · rw [← hwk.rnd, r3, g3, hrn]
          · exact g5.elim
      | _ => exact ⟨e1, s1, Fr1, D1, hl.trans (hb ▸ g1), g2.trans hb, g3.trans hrn, hT, g4, g5⟩
    · exact h.elim

theorem peel_ok {cfg : Cfg τ} {rec : Rec τ} (hrec : RecOk I cfg.P rec) {A : Ann τ} {body : Code} {K : Exit → St τ → Prop} {r : Option Nat} : ∀ (m : Nat) (st : St τ) (e : Env) (Fr : PH) (D : List Deferred) (a : Act) (w : World), st.rnd = r.isSome →
    peelK A rec body K m st → StOk I e Fr D st a w → LArr (FF r) 0 cfg.P body (Post I e Fr D st K) a w
  | 0, st, e, Fr, D, a, w, hr, h, hok => ann_arr hrec hr h hok
  | m + 1, st, e, Fr, D, a, w, hr, h, hok => by
    unfold peelK at h
    split at h
    · exact ann_arr hrec hr h hok
    · refine larr_step (wpIn_mono (hrec body st _ e Fr D a w r hr h hok) fun ex a' w' hp => ?_)
      obtain ⟨e', st', Fr', D', h1, h2, h3, hG, h4, h5⟩ := hp
      cases ex with
      | normal =>
        exact larr_mono (fun ex a w hq => Post.trans h1 h2 h3 hG hq) (peel_ok hrec m st' e' Fr' D' a' w' (h3.trans hr) (by have h6 := h5; simp only [forceSt_eq] at h6; exact h6) h4)
      | _ => exact ⟨e', st', Fr', D', h1, h2, h3, hG, h4, h5⟩

end Go.Sym
