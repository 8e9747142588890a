/- The symbolic run is sound: operations, regions, code. -/
import Derived.Test.YtdhhagangmkloaaVG
set_option linter.unusedSimpArgs false
set_option linter.unusedVariables false
set_option linter.unusedSectionVars false
namespace Go.Sym
open Go
variable {τ : Type} {I : Inv τ}


/-- What follows an operation. -/
def NextOk (I : Inv τ) (e : Env) (Fr : PH) (st : St τ) (K : St τ → Prop) (next : Act → World → Prop) : Prop :=
  ∀ e' (st' : St τ) a' w', LeB st.base e e' → st'.base = st.base → st'.rnd = st.rnd → StOk I e' Fr st' a' w' → K st' → next a' w'

theorem StOk.put {e e' : Env} {Fr : PH} {st : St τ} {a : Act} {w w' : World} {x : SV} {v : Value} {H' : List (SB τ)} (dst : Option Tmp) (h : StOk I e Fr st a w) (hle : Le e e') (hM : Models I e' H' Fr w') (hd : Den e' x v) :
    StOk I e' Fr (st.putH dst x H') (a.put dst v) w' :=
  ⟨hM, put_den dst (h.tm.mono hle) hd, by rw [put_defers]; exact h.df.mono hle⟩

theorem StOk.setB {e : Env} {Fr : PH} {st : St τ} {a : Act} {w : World} {c : Operand} {b : Bool} (h : StOk I e Fr st a w) (hb : ev st.tm c = .v (.bool b)) : StOk I e Fr { st with tm := setB c b st.tm } a w :=
  ⟨h.models, setB_den h.tm hb, h.df⟩

theorem notDefer_V {P : Program} {op : Op} {tm : List SV} {H : List (SB τ)} {r : Bool × SV} (h : stepV P op tm H = some r) : ∀ c, op ≠ .defer c := by
  intro c hc; subst hc; simp [stepV, stepV0, stepH] at h
theorem notDefer_A {P : Program} {op : Op} {tm : List SV} {H : List (SB τ)} {r : SV × List (SB τ)} (h : stepA P op tm H = some r) : ∀ c, op ≠ .defer c := by
  intro c hc; subst hc; simp [stepA] at h
theorem notDefer_I {P : Program} {op : Op} {tm : List SV} {H : List (SB τ)} {r : Bool × SV × List (SB τ)} (h : stepI P op tm H = some r) : ∀ c, op ≠ .defer c := by
  intro c hc; subst hc; simp [stepI] at h
theorem notDefer_L {P : Program} {op : Op} {tm : List SV} {H : List (SB τ)} {r : Bool × SV × List (SB τ) × List Nat} (h : stepL P op tm H = some r) : ∀ c, op ≠ .defer c := by
  intro c hc; subst hc; simp [stepL, stepA, stepI, stepO] at h
theorem op_ok {cfg : Cfg τ} {rec : Rec τ} (hrec : RecOk I cfg.P rec) (hcon : ConsOk I cfg) {o : Oper} {st : St τ} {K : St τ → Prop} {e : Env} {Fr : PH} {a : Act} {w : World} {r : Option Nat}
    {next : Act → World → Prop} {Q : Exit → Act → World → Prop} (h : opK cfg rec o st K) (hok : StOk I e Fr st a w) (hnext : NextOk I e Fr st K next) : o.wpIn (FF r) 0 cfg.P a w next Q := by
  refine ⟨fun _ _ => trivial, ?_⟩
  show o.uponIn (FF r) 0 cfg.P a next Q ((o.semAt r a.eval).run cfg.P w)
  unfold opK at h
  split at h
  · rename_i c x hv
    obtain ⟨hc, hK⟩ := rq_elim h
    obtain ⟨v, hr, hd⟩ := stepV_ok hok.models hok.tm hv hc
    rw [semAt_eq (notDefer_V hv), hr]
    exact hnext e (st.put o.dst x) _ _ (LeB.refl _ _) rfl rfl (hok.put o.dst (Le.refl e) hok.models hd) hK
  · split at h
    · rename_i c x H' ws ha
      obtain ⟨hc, hK⟩ := rq_elim h
      obtain ⟨nx, v, w', e', hr, hnx, hle, hM, hd⟩ := stepL_ok hok.models hok.tm ha hc
      rw [semAt_eq (notDefer_L ha), hr]
      have := hnext e' (st.putH o.dst x H') _ _ (LeB.of_le hle) rfl rfl (hok.put o.dst hle hM hd) hK
      rcases hnx with rfl | ⟨rfl, rfl⟩
      · exact this
      · exact this
    · skip
      split at h
      · rename_i oc oa ob hop
        split at h
        · rename_i q hq
          have hcv := ev_ok hok.tm oc
          rw [hq] at hcv
          simp only [Den] at hcv
          rw [semAt_eq (by intro c hc; rw [hop] at hc; cases hc)]
          rcases br_elim h with ⟨rfl, hK⟩ | ⟨rfl, hK⟩
          · have hok' := hok.setB hq
            have hr : (execOp a.eval o).run cfg.P w = .ok (.value (a.eval oa)) w := by simp [execOp, hop, hcv, asBool]
            rw [hr]
            exact hnext e (({ st with tm := setB oc true st.tm } : St τ).put o.dst (ev (setB oc true st.tm) oa)) _ _ (LeB.refl _ _) rfl rfl (hok'.put o.dst (Le.refl e) hok.models (ev_ok hok'.tm oa)) hK
          · have hok' := hok.setB hq
            have hr : (execOp a.eval o).run cfg.P w = .ok (.value (a.eval ob)) w := by simp [execOp, hop, hcv, asBool]
            rw [hr]
            exact hnext e (({ st with tm := setB oc false st.tm } : St τ).put o.dst (ev (setB oc false st.tm) ob)) _ _ (LeB.refl _ _) rfl rfl (hok'.put o.dst (Le.refl e) hok.models (ev_ok hok'.tm ob)) hK
        · exact h.elim
      · rename_i f args ats hop
        have hfv := ev_ok hok.tm f
        have hargs := evs_ok hok.tm args.toList
        have e2 : (args.toList.map a.eval).toArray = args.map a.eval := by apply Array.toList_inj.1; simp
        rw [semAt_eq (by intro c hc; rw [hop] at hc; cases hc)]
        split at h
        · rename_i b hb
          rw [hb] at hfv
          simp only [Den] at hfv
          obtain ⟨n, hn, hf⟩ := hfv
          obtain ⟨fl, tmps, asg, body, hy, hround⟩ := yield_ok (r := r) hrec h hn hargs hok.models
          rw [e2] at hy
          have hr : (execOp a.eval o).run cfg.P w = .ok (.round n fl tmps asg body) w := by
            simp [execOp, hop, resolve, hf, Deferred.ofValue, invoke, hy]
          rw [hr]
          refine ⟨(fun hc => by cases hc), hround.mono fun en w' he => ?_⟩
          obtain ⟨x, H', e', v, rfl, hle, hM, hd, hK⟩ := he
          exact hnext e' (st.putH o.dst x H') _ _ (LeB.of_le hle) rfl rfl (hok.put o.dst hle hM hd) hK
        · split at h
          · rename_i g fi ca hcal
            obtain ⟨fs, cs, hf, hfi, hca⟩ := callee_ok hcal hfv
            have hall := (hfi.append hargs).append hca
            obtain ⟨henter, hcall⟩ := call_ok hrec hcon h hall hok.models
            have hr : (execOp a.eval o).run cfg.P w = .ok (.enter g (fs ++ args.map a.eval ++ cs)) w := by
              simp [execOp, hop, resolve, hf, Deferred.ofValue, invoke, henter]
            rw [hr]
            have e3 : (fs.toList ++ args.toList.map a.eval ++ cs.toList).toArray = fs ++ args.map a.eval ++ cs := by apply Array.toList_inj.1; simp
            rw [e3] at hcall
            refine ⟨(fun hc => by cases hc), (calls_FF hcall).mono fun en w' he => ?_⟩
            obtain ⟨x, H', e', v, rfl, hle, hM, hd, hK⟩ := he
            exact hnext e' (st.putH o.dst x H') _ _ (LeB.of_le hle) rfl rfl (hok.put o.dst hle hM hd) hK
          · exact h.elim
      · exact h.elim

/-! ### Guards -/
theorem boolV_some {e : Env} {x : SV} {v : Value} {b : Bool} (h : boolV x = some (some b)) (hd : Den e x v) : x = .v (.bool b) ∧ v = .bool b := by
  unfold boolV at h
  split at h <;> simp at h
  subst h
  simp only [Den] at hd
  exact ⟨rfl, hd⟩
theorem boolV_none {e : Env} {x : SV} {v : Value} (h : boolV x = some none) (hd : Den e x v) : ∀ b, v ≠ .bool b := by
  intro b hb
  subst hb
  unfold boolV at h
  split at h <;> simp at h
  · rename_i y hy; simp only [Den] at hd; subst hd; exact hy b rfl
  all_goals (simp only [Den] at hd)
  all_goals (obtain ⟨_, _, hv⟩ := hd; cases hv)

theorem ops_ok {cfg : Cfg τ} {rec : Rec τ} (hrec : RecOk I cfg.P rec) (hcon : ConsOk I cfg) {ops : Array Oper} {r : Option Nat} {Q : Exit → Act → World → Prop} {Fr : PH} {K : St τ → Prop} :
    ∀ (l : List Oper) (st : St τ) (e : Env) (a : Act) (w : World), opsK cfg rec ops l st K → StOk I e Fr st a w → NextOk I e Fr st K (Q .normal) → wpListIn (FF r) 0 cfg.P ops Q l a w
  | [], st, e, a, w, h, hok, hnext => hnext e st a w (LeB.refl _ _) rfl rfl hok h
  | o :: rest, st, e, a, w, h, hok, hnext => by
    have skip : ∀ st1 : St τ, StOk I e Fr st1 a w → st1.base = st.base → st1.rnd = st.rnd → opsK cfg rec ops rest (st1.put o.dst (.v undef)) K →
        wpListIn (FF r) 0 cfg.P ops Q rest (a.put o.dst undef) w := fun st1 h1 hb hr hk => by
      refine ops_ok hrec hcon rest _ e _ w hk (h1.put o.dst (Le.refl e) h1.models (by simp [Den])) ?_
      intro e' st' a' w' g1 g2 g3 g4 g5
      exact hnext e' st' a' w' (hb ▸ g1) (g2.trans hb) (g3.trans hr) g4 g5
    have go : ∀ st1 : St τ, StOk I e Fr st1 a w → st1.base = st.base → st1.rnd = st.rnd → opK cfg rec o st1 (fun st' => opsK cfg rec ops rest st' K) →
        o.wpIn (FF r) 0 cfg.P a w (wpListIn (FF r) 0 cfg.P ops Q rest) Q := fun st1 h1 hb hr hk => by
      refine op_ok hrec hcon hk h1 ?_
      intro e' st' a' w' g1 g2 g3 g4 g5
      refine ops_ok hrec hcon rest st' e' a' w' g5 g4 ?_
      intro e2 st2 a2 w2 k1 k2 k3 k4 k5
      refine hnext e2 st2 a2 w2 (LeB.trans (hb ▸ g1) ?_) (k2.trans (g2.trans hb)) (k3.trans (g3.trans hr)) k4 k5
      rw [← hb, ← g2]; exact k1
    unfold opsK at h
    simp only [wpListIn]
    split at h
    · rename_i hg
      simp only [Region.wanted, hg, if_true]
      exact go st hok rfl rfl h
    · rename_i j want hg
      simp only [Region.wanted, hg]
      split at h
      · rename_i hd
        have hy : yielded ops a.tmps j = none := by simp [yielded, hd]
        simp only [hy]
        refine ⟨fun _ _ => trivial, skip st hok rfl rfl h⟩
      · rename_i d hd
        split at h
        · rename_i htm
          have hy : yielded ops a.tmps j = none := by
            have hl := hok.tm.length
            have h1 := List.getElem?_eq_none_iff.1 htm
            have h2 : a.tmps[d]? = none := by simp at hl ⊢; omega
            simp [yielded, hd, h2]
          simp only [hy]
          exact ⟨fun _ _ => trivial, skip st hok rfl rfl h⟩
        · rename_i x htm
          obtain ⟨v, hv, hdv⟩ := hok.tm.get htm
          have hv' : a.tmps[d]? = some v := by simpa using hv
          split at h
          · rename_i hbv
            have hnb := boolV_none hbv hdv
            have hy : yielded ops a.tmps j = none := by
              simp only [yielded, hd, Option.bind_some, hv']
              cases v <;> first | rfl | exact absurd rfl (hnb _)
            simp only [hy]
            exact ⟨fun _ _ => trivial, skip st hok rfl rfl h⟩
          · rename_i b hbv
            obtain ⟨hx, hvb⟩ := boolV_some hbv hdv
            subst hx; subst hvb
            have hy : yielded ops a.tmps j = some b := by simp [yielded, hd, hv']
            have hev : ev st.tm (.tmp d) = .v (.bool b) := by simp [ev, htm]
            have hokb := hok.setB hev
            simp only [hy]
            split at h
            · rcases br_elim h with ⟨rfl, hk⟩ | ⟨rfl, hk⟩
              · simp only [BEq.rfl, if_true]; exact go _ hokb rfl rfl hk
              · simp only [show (some false == some true) = false from rfl, Bool.false_eq_true, if_false]
                exact ⟨fun _ _ => trivial, skip _ hokb rfl rfl hk⟩
            · rcases br_elim h with ⟨rfl, hk⟩ | ⟨rfl, hk⟩
              · simp only [show (some true == some false) = false from rfl, Bool.false_eq_true, if_false]
                exact ⟨fun _ _ => trivial, skip _ hokb rfl rfl hk⟩
              · simp only [BEq.rfl, if_true]; exact go _ hokb rfl rfl hk
          · exact h.elim

theorem Models.newLoop {e : Env} {H : List (SB τ)} {Fr : PH} {w : World} (h : Models I e H Fr w) (st : LoopState) (pd : Option Code) {tm : List SV} {vs : List Value} {ps : Array Tmp} {asg body : Code} {d dn : Nat} (fn : FuncId)
    (hd : DenL e tm vs) (hdn : e d = some (.blk dn)) :
    Le e (ext e H.length (.blk w.heap.size)) ∧ Models I (ext e H.length (.blk w.heap.size)) (H ++ [.loop st pd tm ps asg body d]) Fr
      { w with heap := w.heap.push (.loop { state := st, pending := pd, fn := fn, tmps := vs.toArray, params := ps, assign := asg, body := body, defers := dn }) } := by
  have hle : Le e (ext e H.length (.blk w.heap.size)) := le_ext h.fresh
  refine ⟨hle, h.add (r := .blk w.heap.size) (hn := single w.heap.size _) ⟨w.heap.size, fn, vs, dn, rfl, hd.mono hle, hle.blk hdn, rfl⟩ (Ext.alloc w _) (fun k o hk => ?_) (fun k hk => ?_)⟩
  · unfold single at hk
    split at hk
    · rename_i hk'; subst hk'; simp only [Option.some.injEq] at hk; subst hk; simp
    · cases hk
  · unfold single at hk
    split at hk
    · rename_i hk'; omega
    · exact absurd rfl hk

/-! ### Code -/
theorem roundsIn_mono {F : Fence} {n : Nat} {P : Program} {c : Code} {Q Q' : Exit → Act → World → Prop} (hq : ∀ e a w, Q e a w → Q' e a w) : ∀ (m : Nat) (a : Act) (w : World), Code.roundsIn F n P c Q m a w → Code.roundsIn F n P c Q' m a w
  | 0, _, _, h => h
  | m + 1, a, w, h => wpIn_mono h fun e a w he => by
    cases e with
    | normal => exact roundsIn_mono hq m a w he
    | _ => exact hq _ _ _ he

/-- A loop, by a relation that bears its own measure. -/
theorem wpIn_loop_ix {F : Fence} {n : Nat} {P : Program} {c : Code} {Q : Exit → Act → World → Prop} {a : Act} {w : World} (J : Nat → Act → World → Prop) (m0 : Nat) (h₀ : J m0 a w)
    (round : ∀ m a w, J m a w → c.wpIn F n P (Exit.then (fun a' w' => ∃ m', m' < m ∧ J m' a' w') Q) a w) : (Code.loop c).wpIn F n P Q a w := by
  intro b k cs hro hb hr
  have key : ∀ j a w, J j a w →
      ∃ e a' w', Q e a' w' ∧ ArrivesIn (Machine.fenced P F) P (lone (b.atR a (.code c :: .inLoop c :: k)) cs w) b k cs e a' w' := by
    intro j
    induction j using Nat.strongRecOn with
    | _ j ih =>
      intro a w hI
      obtain ⟨e, a₁, w₁, hq, harr⟩ := round j a w hI b (.inLoop c :: k) cs hro hb hr
      cases e with
      | normal =>
        obtain ⟨m', hlt, hI₁⟩ := hq
        obtain ⟨e₂, a₂, w₂, hq₂, harr₂⟩ := ih m' hlt a₁ w₁ hI₁
        exact ⟨e₂, a₂, w₂, hq₂, .of_steps (StepsIn.trans harr (.one (fenced_calm hb hr rfl) stepR_inLoop)) harr₂⟩
      | exit id => exact ⟨_, a₁, w₁, hq, .pass (x := .inLoop c) rfl (fun _ _ => .inl (by simp)) harr⟩
      | goto l => exact ⟨_, a₁, w₁, hq, .pass (x := .inLoop c) rfl (fun _ _ => .inl (by simp)) harr⟩
      | ret => exact ⟨_, a₁, w₁, hq, .pass (x := .inLoop c) rfl (fun _ _ => .inl (by simp)) harr⟩
      | panic ch => exact ⟨_, a₁, w₁, hq, .pass (x := .inLoop c) rfl (fun _ _ => .inl (by simp)) harr⟩
      | outgrown => exact ⟨_, a₁, w₁, hq, .pass (x := .inLoop c) rfl (fun _ _ => .inl (by simp)) harr⟩
  obtain ⟨e, a', w', hq, harr⟩ := key m0 a w h₀
  exact ⟨e, a', w', hq, .of_steps (.one (fenced_calm hb hr rfl) stepR_loop) harr⟩

theorem rounds_ok {cfg : Cfg τ} {rec : Rec τ} (hrec : RecOk I cfg.P rec) {body : Code} {K : Exit → St τ → Prop} {Fr : PH} {r : Option Nat} : ∀ (m : Nat) (st : St τ) (e : Env) (a : Act) (w : World), st.rnd = r.isSome →
    roundsK rec body K m st → StOk I e Fr st a w → Code.roundsIn (FF r) 0 cfg.P body (Post I e Fr st K) m a w
  | 0, _, _, _, _, _, h, _ => h.elim
  | m + 1, st, e, a, w, hr, h, hok => by
    rw [roundsIn_succ]
    refine wpIn_mono (hrec body st _ e Fr a w r hr h hok) fun ex a' w' hp => ?_
    obtain ⟨e', st', h1, h2, h3, h4, h5⟩ := hp
    cases ex with
    | normal =>
      exact roundsIn_mono (fun ex a w hq => Post.trans h1 h2 h3 hq) m a' w' (rounds_ok hrec m st' e' a' w' (h3.trans hr) (by have h6 := h5; simp only [forceSt_eq] at h6; exact h6) h4)
    | _ => exact ⟨e', st', h1, h2, h3, h4, h5⟩

/-! ### What is done ahead of a loop's head -/
theorem nilAt_ok {e : Env} {l : List SV} {i : Nat} {vs : List Value} (h : nilAt l i = true) (hd : DenL e l vs) {x : SV} (hx : Den e x (.slice none 0 0)) : DenL e (l.set i x) vs := by
  unfold nilAt at h
  split at h
  · rename_i y hy
    obtain ⟨v, hv, hdv⟩ := hd.get hy
    have := nilS_ok h hdv
    subst this
    refine set_same hd fun u hu => ?_
    rw [hv] at hu
    simp only [Option.some.injEq] at hu
    subst hu; exact hx
  · cases h
theorem noneC_ok {e : Env} {c : Cn} (h : noneC c = true) : c.den e [] := by
  cases c with
  | sv l => simp only [noneC, List.isEmpty_iff] at h; subst h; simp [Cn.den, DenL]
  | ints k xs => simp only [noneC, List.isEmpty_iff] at h; subst h; simp [Cn.den]
  | recs xs => simp only [noneC, List.isEmpty_iff] at h; subst h; simp [Cn.den, cvals]
theorem fx1_ok {e : Env} {Fr : PH} {st st' : St τ} {a : Act} {w : World} {f : Fx} (hok : StOk I e Fr st a w) (h : fx1 st f = some st') : ∃ e', Le e e' ∧ StOk I e' Fr st' a w ∧ st'.base = st.base ∧ st'.rnd = st.rnd := by
  have new : ∀ (H : List (SB τ)) (c : Cn) (T sz : Nat), noneC c = true → Models I e H Fr w → ∃ e', Le e e' ∧ (∀ j, j ≠ H.length → e' j = e j) ∧ Models I e' (H ++ [.own c 0 T sz 0 false]) Fr w ∧ Den e' (.h H.length [0, 0]) (.slice none 0 0) := fun H c T sz hc hM => by
    have hle : Le e (ext e H.length (.hd fun j => if j = 0 then some (ownRef sz (.slice none 0 0)) else none)) := le_ext hM.fresh
    refine ⟨_, hle, fun j hj => ext_ne _ _ _ hj, hM.add (hn := emp) ⟨_, .slice none 0 0, [], rfl, by simp, fun j hj => by simp; omega, Cn.den_mono hle (noneC_ok hc), ⟨by simp, .inl ⟨rfl, rfl, rfl⟩⟩, (fun hh => by cases hh)⟩ (Ext.refl w) (fun k o hk => by simp [emp] at hk) (fun k hk => by simp [emp] at hk), ?_⟩
    simp only [Den, ext_self]
    exact ⟨_, rfl, by simp [hdAt, ownRef, rowRef], rfl⟩
  cases f with
  | nilTm i c T sz =>
    simp only [fx1] at h
    split at h
    · rename_i hc
      rw [Bool.and_eq_true] at hc
      simp only [Option.some.injEq] at h
      subst h
      obtain ⟨e', h1, _, h2, h3⟩ := new st.H c T sz hc.2 hok.models
      exact ⟨e', h1, ⟨h2, nilAt_ok hc.1 (hok.tm.mono h1) h3, hok.df.mono h1⟩, rfl, rfl⟩
    · cases h
  | nilLoop b i c T sz =>
    simp only [fx1] at h
    split at h
    · rename_i ls pd tm ps asg body d hb
      split at h
      · rename_i hc
        rw [Bool.and_eq_true] at hc
        simp only [Option.some.injEq] at h
        subst h
        obtain ⟨e', h1, h0, h2, h3⟩ := new st.H c T sz hc.2 hok.models
        have hblt : b < st.H.length := (List.getElem?_eq_some_iff.1 hb).1
        have hb' : (st.H ++ [SB.own c 0 T sz 0 false])[b]? = some (.loop ls pd tm ps asg body d) := by rw [List.getElem?_append_left hblt]; exact hb
        obtain ⟨hn, ⟨n, fn, vs, dn, g1, g2, g3, g4⟩, hs, hput⟩ := h2.take hb'
        have := hput (w' := w) (b' := .loop ls pd (tm.set i (.h st.H.length [0, 0])) ps asg body d) (Le.refl e') (fun _ _ => rfl) ⟨n, fn, vs, dn, g1, nilAt_ok hc.1 g2 h3, g3, g4⟩ (Turned.refl hs)
        rw [List.set_append_left _ _ hblt] at this
        exact ⟨e', h1, ⟨this, hok.tm.mono h1, hok.df.mono h1⟩, rfl, rfl⟩
      · cases h
    · cases h
  | nilCell b i c T sz =>
    simp only [fx1] at h
    split at h
    · rename_i l T' hb
      split at h
      · rename_i hc
        rw [Bool.and_eq_true] at hc
        simp only [Option.some.injEq] at h
        subst h
        obtain ⟨e', h1, h0, h2, h3⟩ := new st.H c T sz hc.2 hok.models
        have hblt : b < st.H.length := (List.getElem?_eq_some_iff.1 hb).1
        have hb' : (st.H ++ [SB.own c 0 T sz 0 false])[b]? = some (.cells l T') := by rw [List.getElem?_append_left hblt]; exact hb
        obtain ⟨hn, ⟨n, vs, g1, g2, g3⟩, hs, hput⟩ := h2.take hb'
        have := hput (w' := w) (b' := .cells (l.set i (.h st.H.length [0, 0])) T') (Le.refl e') (fun _ _ => rfl) ⟨n, vs, g1, nilAt_ok hc.1 g2 h3, g3⟩ (Turned.refl hs)
        rw [List.set_append_left _ _ hblt] at this
        exact ⟨e', h1, ⟨this, hok.tm.mono h1, hok.df.mono h1⟩, rfl, rfl⟩
      · cases h
    · cases h
  | _ => simp [fx1] at h
theorem none_rows {T sz : Nat} : ∀ n, RowsOk T sz (List.replicate n (.slice none 0 0)) (List.replicate n (0, [])) emp
  | 0 => rfl
  | n + 1 => ⟨emp, emp, ⟨by simp, .inl ⟨rfl, rfl, rfl⟩⟩, none_rows n, emp_disj _, (join_emp _).symm⟩
theorem none_rws (k : Option IntKind) (n : Nat) : (Rws.none k n).rows = List.replicate n (0, []) := by
  cases k <;> simp [Rws.none, Rws.rows, cvals]
theorem none_lim (k : Option IntKind) : (Lim.none k).rows = [] := by
  cases k <;> rfl
theorem rep_den {e : Env} {x : SV} {v : Value} (h : ∀ u, Den e x u → u = v) : ∀ {n : Nat} {vs : List Value}, DenL e (List.replicate n x) vs → vs = List.replicate n v
  | 0, vs, hd => by simpa [DenL] using hd
  | n + 1, vs, hd => by
    simp only [List.replicate_succ, DenL] at hd
    obtain ⟨u, r, rfl, h1, h2⟩ := hd
    rw [h u h1, rep_den h h2]; rfl
theorem fx2_ok {e : Env} {Fr : PH} {st st' : St τ} {a : Act} {w : World} {f : Fx} {φ : Prop} (hok : StOk I e Fr st a w) (h : fx2 st f = some (φ, st')) (hφ : φ) : ∃ e', Le e e' ∧ StOk I e' Fr st' a w ∧ st'.base = st.base ∧ st'.rnd = st.rnd := by
  cases f with
  | asRows b k T =>
    simp only [fx2] at h
    split at h
    · rename_i c n TS sz ep nn hb
      split at h
      · rename_i l
        split at h
        · rename_i hsz
          rw [Nat.beq_eq] at hsz
          subst hsz
          simp only [Option.some.injEq, Prod.mk.injEq] at h
          obtain ⟨h1, rfl⟩ := h
          subst h1
          obtain ⟨hn, ⟨f0, v, vs, g1, g2, g3, g4, g5, _⟩, hs, hput⟩ := hok.models.take hb
          have g4 : DenL e l vs := g4
          rw [hφ.h] at g4
          have hvs := rep_den (v := .slice none 0 0) (fun u hu => by simpa [Den] using hu) g4
          have hlen : vs.length = n := by rw [hvs]; simp
          have hle := le_up (k := ep + 1) (g := rowsRef (Rws.none k n).sz v vs) g1 (g3 _ (Nat.lt_succ_self _))
          have hM := hput (w' := w) (hn' := hn) (b' := .rows (Rws.none k n) T TS ep (ep + 1) none) hle (fun j hj => ext_ne _ _ _ hj) ⟨_, v, vs, vs, hn, emp, ext_self _ _ _, up_self _ _ _, ⟨Nat.le_succ _, ⟨ownRef 1 v, up_keep (g3 _ (Nat.lt_succ_self _)) _ _ g2, fun p => rfl⟩, up_none fun j hj => g3 j (by omega)⟩, rfl,
            (fun x hx => by rw [hvs] at hx; rw [(List.mem_replicate.1 hx).2]; rfl), by rw [hlen]; exact g5, by rw [none_rws, hvs]; exact none_rows n, disj_emp _, (join_emp' _).symm⟩ (Turned.refl hs)
          exact ⟨_, hle, ⟨hM, hok.tm.mono hle, hok.df.mono hle⟩, rfl, rfl⟩
        · cases h
      · cases h
    · cases h
  | asLimbo b b' k T =>
    simp only [fx2] at h
    split at h
    · rename_i c n TS sz ep nn hb
      split at h
      · rename_i l
        split at h
        · rename_i hsz
          rw [Nat.beq_eq] at hsz
          subst hsz
          split at h
          · rename_i R T' TS' oe re pd hb'
            simp only [Option.some.injEq, Prod.mk.injEq] at h
            obtain ⟨h1, rfl⟩ := h
            subst h1
            obtain ⟨rfl, rfl⟩ := hφ
            obtain ⟨hn', ⟨fb, u, us, hs, ho, hr, k1, k2, _⟩, _⟩ := hok.models.item hb'
            obtain ⟨hn, ⟨f0, v, vs, g1, g2, g3, g4, g5, _⟩, hs, hput⟩ := hok.models.take hb
            have g4 : DenL e [] vs := g4
            simp only [DenL] at g4
            subst g4
            have hM := hput (w' := w) (hn' := hn) (b' := .limbo b' re (Lim.none k) T TS ep) (Le.refl e) (fun j hj => rfl) ⟨_, v, [], hn, emp, fb, _, g1, g2, g3, k1, k2, by simp, g5, by rw [none_lim]; rfl, disj_emp _, (join_emp' _).symm⟩ (Turned.refl hs)
            exact ⟨e, Le.refl e, ⟨hM, hok.tm, hok.df⟩, rfl, rfl⟩
          · cases h
        · cases h
      · cases h
    · cases h
  | _ => simp [fx2] at h
theorem fxs_ok : ∀ {fs : List Fx} {e : Env} {Fr : PH} {st : St τ} {a : Act} {w : World} {K : St τ → Prop}, StOk I e Fr st a w → fxs st fs K → ∃ e' st', Le e e' ∧ StOk I e' Fr st' a w ∧ st'.base = st.base ∧ st'.rnd = st.rnd ∧ K st'
  | [], e, _, st, _, _, _, hok, h => ⟨e, st, Le.refl e, hok, rfl, rfl, h⟩
  | f :: r, e, _, st, _, _, _, hok, h => by
    simp only [fxs] at h
    split at h
    · rename_i s1 h1
      obtain ⟨e1, g1, g2, g3, g4⟩ := fx1_ok hok h1
      obtain ⟨e2, s2, k1, k2, k3, k4, k5⟩ := fxs_ok g2 h
      exact ⟨e2, s2, g1.trans k1, k2, k3.trans g3, k4.trans g4, k5⟩
    · split at h
      · rename_i φ s1 h1
        obtain ⟨e1, g1, g2, g3, g4⟩ := fx2_ok hok h1 h.1
        obtain ⟨e2, s2, k1, k2, k3, k4, k5⟩ := fxs_ok g2 h.2
        exact ⟨e2, s2, g1.trans k1, k2, k3.trans g3, k4.trans g4, k5⟩
      · exact h.elim
theorem fxK_ok {A : Ann τ} {e : Env} {Fr : PH} {st : St τ} {a : Act} {w : World} {K : St τ → Prop} (hok : StOk I e Fr st a w) (h : fxK A st K) : ∃ e' st', Le e e' ∧ StOk I e' Fr st' a w ∧ st'.base = st.base ∧ st'.rnd = st.rnd ∧ K st' := by
  unfold fxK at h
  rw [forceSt_eq] at h
  obtain ⟨e', st', h1, h2, h3, h4, h5⟩ := fxs_ok hok h
  rw [forceSt_eq] at h5
  exact ⟨e', st', h1, h2, h3, h4, h5⟩
theorem ann_ok {cfg : Cfg τ} {rec : Rec τ} (hrec : RecOk I cfg.P rec) {A : Ann τ} {body : Code} {K : Exit → St τ → Prop} {Fr : PH} {r : Option Nat} {st : St τ} {e : Env} {a : Act} {w : World} (hr : st.rnd = r.isSome)
    (h : annK A rec body st K) (hok : StOk I e Fr st a w) : (Code.loop body).wpIn (FF r) 0 cfg.P (Post I e Fr st K) a w := by
  unfold annK at h
  obtain ⟨ef, stf, lf, okf, bf, rf, h⟩ := fxK_ok hok h
  · split at h
    · rename_i x0 hx0
      obtain ⟨h0, hw0', hround⟩ := h
      have hw0 := weakP_ok hw0'
      obtain ⟨e0, l0, ok0⟩ := weak_ok okf hw0
      have hlb : LeB st.base e e0 := LeB.trans (LeB.of_le lf) (bf ▸ l0)
      refine wpIn_loop_ix (fun m a w => ∃ x e', A.μ stf x = m ∧ A.φ stf x ∧ LeB st.base e e' ∧ (A.f stf x).base = st.base ∧ (A.f stf x).rnd = st.rnd ∧ StOk I e' Fr (A.f stf x) a w) (A.μ stf x0)
        ⟨x0, e0, rfl, h0, hlb, hw0.base.symm.trans bf, hw0.rnd.symm.trans rf, ok0⟩ ?_
      rintro m a w ⟨x, e', rfl, hx, hl, hb, hrn, hok'⟩
      refine wpIn_mono (hrec body (A.f stf x) _ e' Fr a w r (hrn.trans hr) (hround x hx) hok') fun ex a1 w1 hp => ?_
      obtain ⟨e1, s1, g1, g2, g3, g4, g5⟩ := hp
      cases ex with
      | normal =>
        simp only at g5
        obtain ⟨e3, s2, l3, ok3, b3, r3, g5⟩ := fxK_ok g4 g5
        · split at g5
          · rename_i y hy0
            obtain ⟨hy, hwk', hlt⟩ := g5
            have hwk := weakP_ok hwk'
            obtain ⟨e2, k1, k2⟩ := weak_ok ok3 hwk
            refine ⟨A.μ stf y, hlt, y, e2, rfl, hy, hl.trans ?_, ?_, ?_, k2⟩
            · rw [← hb]
              refine g1.trans (LeB.trans (LeB.of_le l3) ?_)
              rw [← g2, ← b3]; exact k1
            · rw [← hwk.base, b3, g2, hb]
            · rw [← hwk.rnd, r3, g3, hrn]
          · exact g5.elim
      | _ => exact ⟨e1, s1, hl.trans (hb ▸ g1), g2.trans hb, g3.trans hrn, g4, g5⟩
    · exact h.elim

end Go.Sym
