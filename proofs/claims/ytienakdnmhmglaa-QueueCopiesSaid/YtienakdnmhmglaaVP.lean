/- The symbolic run of code, whole, and that it is sound. -/
import Derived.Test.YtienakdnmhmglaaVX
set_option linter.unusedSimpArgs false
set_option linter.unusedVariables false
set_option linter.unusedSectionVars false
namespace Go.Sym
open Go

/-- How loud an operation is, in a region that draws its order: two or more ask for the run by effects. -/
def loudW {τ : Type} (cfg : Cfg τ) (o : Op) : Nat :=
  match o with
  | .makeSlice _ _ _ => 2
  | .buildSlice _ _ _ => 2
  | .range _ _ => 2
  | .next _ _ => 2
  | .store _ _ _ => 2
  | .makeMap _ _ => 2
  | .call { callee := .builtin .unsafeString, .. } => 2
  | .call { callee := .builtin .append, .. } => 2
  | .call { callee := .builtin .copy, .. } => 2
  | .call { callee := .value f, .. } => match f with
    | .func g => match cfg.pcon g with
      | some _ => 0
      | none => 2
    | _ => 2
  | _ => 0
def loudSum {τ : Type} (cfg : Cfg τ) : List Oper → Nat
  | [] => 0
  | o :: r => loudW cfg o.op + loudSum cfg r
/-- A join's key: a region's own one; for what has several codes, that of its first region and a million. -/
def jKey (c : Code) : Nat :=
  match c with
  | .region id ops _ => (id + 1) * 64 + ops.size
  | c => firstReg c + 1000000
def run {τ : Type} (cfg : Cfg τ) : Nat → Rec τ
  | 0 => fun _ _ _ => False
  | n + 1 => fun c st K => match c with
    | .skip => K .normal st
    | .seq a b => match cfg.join (jKey a) with
      | none => run cfg n a st (fun ex st' => match ex with
        | .normal => run cfg n b st' K
        | e => K e st')
      | some A => forceSt st fun st => run cfg n a st (fun ex st' => match ex with
        | .normal => joinK A st st'
        | e => K e st') ∧ ∀ x, A.φ st x → run cfg n b (A.f st x) K
    | .cond c x y => match ev st.tm c with
      | .v (.bool b) => br b (run cfg n x { st with tm := setB c true st.tm } K) (run cfg n y { st with tm := setB c false st.tm } K)
      | _ => False
    | .block id c => run cfg n c st (fun ex st' => match ex with
      | .exit id' => match Nat.beq id' id with
        | true => K .normal st'
        | false => K (.exit id') st'
      | e => K e st')
    | .loop body => match cfg.ann (firstReg body) with
      | some A => peelK A (run cfg n) body K cfg.unroll st
      | none => roundsK (run cfg n) body K cfg.unroll st
    | .exit id => K (.exit id) st
    | .ret => K .ret st
    | .region _ ops draw => match draw with
      | false => opsK cfg (run cfg n) ops ops.toList st (K .normal)
      | true => match Nat.ble 2 (loudSum cfg ops.toList) with
        | true => seqK cfg ops st (K .normal)
        | false => drawK cfg ops st (K .normal)
    | .rangeFunc f ps asg body => match st.rnd with
      | true => False
      | false => match calleeS (ev st.tm f) with
        | some (g, fi, ca) =>
          callK cfg (run cfg n) g (fi ++ [.y (st.H.length + 1)] ++ ca) (st.H ++ [.obj (.deferred (some []))] ++ [.loop .ready none st.tm ps asg body st.H.length]) (fun _ H2 =>
            match H2[st.H.length + 1]? with
            | some (.loop ls pd t2 ps2 a2 b2 d2) => match ls == .busy with
              | true => False
              | false => match H2[st.H.length]? with
                | some (.obj (.deferred (some []))) =>
                  let st' : St τ := { st with H := (H2.set (st.H.length + 1) (.loop .exhausted pd t2 ps2 a2 b2 d2)).set st.H.length .gone }
                  match pd with
                  | none => K .normal st'
                  | some c => run cfg n c st' K
                | _ => False
            | _ => False)
        | none => False
    | .scope c => run cfg n c st (fun ex st' => match ex with
      | .goto l => gotoK cfg (run cfg n) c K 6 l st'
      | e => K e st')
    | .label _ => K .normal st
    | .goto l => K (.goto l) st
    | _ => False


variable {τ : Type} {I : Inv τ} {D : List Deferred}
structure CfgOk (I : Inv τ) (cfg : Cfg τ) : Prop where
  mixed : cfg.P.follows .mixedOrders = true
  con : ConsOk I cfg
  pcon : ∀ g pc, cfg.pcon g = some pc → PConOk I cfg.P g pc

theorem run_ok {cfg : Cfg τ} (hc : CfgOk I cfg) : ∀ n, RecOk I cfg.P (run cfg n)
  | 0 => fun _ _ _ _ _ _ _ _ _ _ h _ => h.elim
  | n + 1 => by
    have ih := run_ok hc n
    have hcon := hc.con
    intro c st K e Fr D a w r hr h hok
    have same : ∀ ex, K ex st → Post I e Fr D st K ex a w := fun ex hk => Post.here (LeB.refl _ _) rfl rfl hok hk
    cases c with
    | skip => exact wpIn_skip (same _ h)
    | exit id => exact wpIn_exit (same _ h)
    | ret => exact wpIn_ret (same _ h)
    | goto l => exact wpIn_goto (same _ h)
    | label l => exact wpIn_label (same _ h)
    | scope b => exact scope_ok ih hr h hok
    | refuse y => exact h.elim
    | seq x y =>
      simp only [run] at h
      split at h
      · refine wpIn_seq (wpIn_mono (ih x st _ e Fr D a w r hr h hok) fun ex a1 w1 hp => ?_)
        obtain ⟨e1, s1, Fr1, D1, g1, g2, g3, gG, g4, g5⟩ := hp
        cases ex with
        | normal => exact wpIn_mono (ih y s1 K e1 Fr1 D1 a1 w1 r (g3.trans hr) g5 g4) fun ex2 a2 w2 hq => hq.trans g1 g2 g3 gG
        | _ => exact ⟨e1, s1, Fr1, D1, g1, g2, g3, gG, g4, g5⟩
      · rename_i A hA
        rw [forceSt_eq] at h
        obtain ⟨h1, h2⟩ := h
        refine wpIn_seq (wpIn_mono (ih x st _ e Fr D a w r hr h1 hok) fun ex a1 w1 hp => ?_)
        obtain ⟨e1, s1, Fr1, D1, g1, g2, g3, gG, g4, g5⟩ := hp
        cases ex with
        | normal =>
          obtain ⟨e3, s2, l3, ok3, b3, r3, g5⟩ := fxK_ok g4 g5
          split at g5
          · rename_i z hz
            obtain ⟨hφ, hwk'⟩ := g5
            have hwk := weakP_ok hwk'
            obtain ⟨e2, k1, k2⟩ := weak_ok ok3 hwk
            have hb : (A.f st z).base = st.base := by rw [← hwk.base, b3, g2]
            have hrn : (A.f st z).rnd = st.rnd := by rw [← hwk.rnd, r3, g3]
            have hl : LeB st.base e e2 := by
              refine g1.trans (LeB.trans (g2 ▸ l3) ?_)
              rw [← g2, ← b3]; exact k1
            exact wpIn_mono (ih y (A.f st z) K e2 Fr1 D1 a1 w1 r (hrn.trans hr) (h2 z hφ) k2) fun ex2 a2 w2 hq => Post.trans hl hb hrn gG hq
          · exact g5.elim
        | _ => exact ⟨e1, s1, Fr1, D1, g1, g2, g3, gG, g4, g5⟩
    | cond c x y =>
      simp only [run] at h
      split at h
      · rename_i b hb
        have hcv := ev_ok hok.tm c
        rw [hb] at hcv
        simp only [Den] at hcv
        have hokb := hok.setB hb
        refine wpIn_cond (t := b) hcv ?_
        rcases br_elim h with ⟨rfl, hk⟩ | ⟨rfl, hk⟩
        · simp only [if_true]; exact wpIn_mono (ih x { st with tm := setB c true st.tm } K e Fr D a w r hr hk hokb) fun ex2 a2 w2 hq => hq
        · simp only [Bool.false_eq_true, if_false]; exact wpIn_mono (ih y { st with tm := setB c false st.tm } K e Fr D a w r hr hk hokb) fun ex2 a2 w2 hq => hq
      · exact h.elim
    | block id c =>
      refine wpIn_block (wpIn_mono (ih c st _ e Fr D a w r hr h hok) fun ex a1 w1 hp => ?_)
      obtain ⟨e1, s1, Fr1, D1, g1, g2, g3, gG, g4, g5⟩ := hp
      cases ex with
      | exit id' =>
        simp only [Exit.inBlock]
        simp only at g5
        split at g5
        · rename_i hb
          rw [Nat.beq_eq] at hb
          rw [if_pos hb]
          exact ⟨e1, s1, Fr1, D1, g1, g2, g3, gG, g4, g5⟩
        · rename_i hb
          have : ¬ id' = id := fun hh => by rw [← Nat.beq_eq] at hh; rw [hh] at hb; cases hb
          rw [if_neg this]
          exact ⟨e1, s1, Fr1, D1, g1, g2, g3, gG, g4, g5⟩
      | _ => exact ⟨e1, s1, Fr1, D1, g1, g2, g3, gG, g4, g5⟩
    | loop body =>
      simp only [run] at h
      split at h
      · exact larr_wp (peel_ok ih _ st e Fr D a w hr h hok)
      · exact wpIn_loop_rounds _ (rounds_ok ih _ st e Fr D a w hr h hok)
    | region id ops draw =>
      simp only [run] at h
      split at h
      · exact wpIn_region_list (ops_ok ih hcon ops.toList st e a w h hok fun e' st' a' w' g1 g2 g3 g4 g5 => Post.here g1 g2 g3 g4 g5)
      · split at h
        · exact seq_ok hc.mixed hc.pcon hc.con.acon h hok fun e' st' a' w' g1 g2 g3 g4 g5 => Post.here g1 g2 g3 g4 g5
        · exact draw_ok hc.mixed hc.pcon h hok fun e' st' a' w' g1 g2 g3 g4 g5 => Post.here g1 g2 g3 g4 g5
    | rangeFunc f ps asg body =>
      simp only [run] at h
      split at h
      · exact h.elim
      · rename_i hrn
        have hrnone : r = none := by
          cases r with
          | none => rfl
          | some x => rw [hrn] at hr; cases hr
        subst hrnone
        split at h
        · rename_i g fi ca hcal
          obtain ⟨fs, cs, hf, hfi, hca⟩ := callee_ok hcal (ev_ok hok.tm f)
          obtain ⟨hle1, hM1⟩ := hok.models.newObj (.deferred (some []))
          have hlen1 : (st.H ++ [SB.obj (.deferred (some []))]).length = st.H.length + 1 := by simp
          refine wpIn_rangeFunc fun fn _ => ?_
          have hM2 := hM1.newLoop .ready none (ps := ps) (asg := asg) (body := body) fn (hok.tm.mono hle1) (d := st.H.length) (dn := w.heap.size) (by simp [ext])
          obtain ⟨hle2, hM2⟩ := hM2
          rw [hlen1] at hle2 hM2
          simp only [Array.size_push, Array.toArray_toList] at hle2 hM2
          have hle := hle1.trans hle2
          obtain ⟨E, hE⟩ : ∃ E, ext (ext e st.H.length (.blk w.heap.size)) (st.H.length + 1) (.blk (w.heap.size + 1)) = E := ⟨_, rfl⟩
          have hEl : E (st.H.length + 1) = some (.blk (w.heap.size + 1)) := by rw [← hE]; exact ext_self _ _ _
          have hEd : E st.H.length = some (.blk w.heap.size) := by rw [← hE, ext_ne _ _ _ (by omega)]; exact ext_self _ _ _
          rw [hE] at hle hM2
          obtain ⟨W, hW⟩ : ∃ W : World, { w with heap := (w.heap.push (.deferred (some []))).push (.loop { state := .ready, pending := none, fn := fn, tmps := a.tmps, params := ps, assign := asg, body := body, defers := w.heap.size }) } = W := ⟨_, rfl⟩
          rw [hW] at hM2
          have hyl : DenL E [.y (st.H.length + 1)] [.func (.yield (w.heap.size + 1)) #[] #[]] := by
            simp only [DenL, Den]; exact ⟨_, _, rfl, ⟨_, hEl, rfl⟩, rfl⟩
          have hargs := ((hfi.mono hle).append hyl).append (hca.mono hle)
          obtain ⟨henter, hcall⟩ := call_ok ih hcon h hargs (by simpa using hM2)
          have e3 : (fs.toList ++ [Value.func (.yield (w.heap.size + 1)) #[] #[]] ++ cs.toList).toArray = fs ++ #[Value.func (.yield (w.heap.size + 1)) #[] #[]] ++ cs := by apply Array.toList_inj.1; simp
          rw [e3] at hcall
          refine ⟨w.heap.size + 1, [{ target := .collected w.heap.size, args := #[] }], W, { target := .fn (.func g) cs, args := fs ++ #[Value.func (.yield (w.heap.size + 1)) #[] #[]] }, W, g, fs ++ #[Value.func (.yield (w.heap.size + 1)) #[] #[]] ++ cs, W, ?_, ?_, (fun _ _ => trivial), ?_, (fun hc => by cases hc), (calls_FF hcall).mono fun en w' he => ?_⟩
          · show (Instr.enterLoop fn a.tmps ps asg body none).run cfg.P w = _
            rw [← hW]
            simp [Instr.enterLoop]
            rfl
          · have hm : (#[Operand.const (.func (.yield (w.heap.size + 1)) #[] #[])].map a.eval) = #[Value.func (.yield (w.heap.size + 1)) #[] #[]] := by simp [Act.eval]
            simp only [resolve, hm, hf, Deferred.ofValue, Sem.run_pure]
          · simp [invoke, henter]
          · obtain ⟨x, H2, e2, v, rfl, le2, M2, hdv, hK⟩ := he
            split at hK
            · rename_i ls pd t2 ps2 a2 b2 d2 hi2
              split at hK
              · exact hK.elim
              · rename_i hbusy
                obtain ⟨m2, fn2, us2, dn2, p1, p2, p3, p4⟩ := M2.loopAt hi2
                have hl2 := le2.blk hEl
                rw [hl2] at p1; cases p1
                have M3 := M2.setLoop (st' := .exhausted) (pd' := pd) hi2 hl2 p2 p3 p4
                have hend : (Instr.endLoop (w.heap.size + 1)).run cfg.P w' = .ok pd { w' with heap := w'.heap.setIfInBounds (w.heap.size + 1) (.loop { state := .exhausted, pending := pd, fn := fn2, tmps := us2.toArray, params := ps2, assign := a2, body := b2, defers := dn2 }) } := by
                  simp only [Instr.endLoop, Sem.run_bind, run_getLoop p4, Result.andThen_ok, hbusy, Bool.false_eq_true, if_false, run_setObj (P := cfg.P) p4 (by intro c t f hc; cases hc), Sem.run_pure]
                split at hK
                · rename_i hdef
                  obtain ⟨n3, q1, q2, q3, M4⟩ := M3.giveF (i := st.H.length) (by rw [List.getElem?_set_ne (by omega)]; exact hdef)
                  rw [le2.blk hEd] at q1; cases q1
                  have ok3 : StOk I e2 (addF Fr w.heap.size (.deferred (some []))) ({ target := .collected w.heap.size, args := #[] } :: D) { st with H := (H2.set (st.H.length + 1) (.loop .exhausted pd t2 ps2 a2 b2 d2)).set st.H.length .gone } { a with defers := [{ target := .collected w.heap.size, args := #[] }] ++ a.defers } _ :=
                    ⟨M4, hok.tm.mono (hle.trans le2), hok.df.1, by rw [← hok.df.2]; rfl⟩
                  have hG : Grow Fr D (addF Fr w.heap.size (.deferred (some []))) ({ target := .collected w.heap.size, args := #[] } :: D) ∧ (st.rnd = true → addF Fr w.heap.size (.deferred (some [])) = Fr) := ⟨Grow.one q2, fun q => by rw [hrn] at q; cases q⟩
                  refine ⟨pd, _, hend, ?_⟩
                  cases pd with
                  | none => exact ⟨e2, { st with H := (H2.set (st.H.length + 1) (.loop .exhausted none t2 ps2 a2 b2 d2)).set st.H.length .gone }, _, _, LeB.of_le (hle.trans le2), rfl, rfl, hG, ok3, hK⟩
                  | some c =>
                    exact wpIn_mono (ih c { st with H := (H2.set (st.H.length + 1) (.loop .exhausted (some c) t2 ps2 a2 b2 d2)).set st.H.length .gone } K e2 _ _ _ _ none hr hK ok3) fun ex3 a3 w3 hq => Post.trans (st := st) (LeB.of_le (hle.trans le2)) rfl rfl hG hq
                · exact hK.elim
            · exact hK.elim
        · exact h.elim

end Go.Sym
