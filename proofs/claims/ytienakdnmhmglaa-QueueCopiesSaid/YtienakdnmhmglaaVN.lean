/- Regions that draw their order of evaluation: sound; and the whole run with them. -/
import Derived.Test.YtienakdnmhmglaaVM
set_option linter.unusedSimpArgs false
set_option linter.unusedVariables false
set_option linter.unusedSectionVars false
namespace Go.Sym
open Go
variable {τ : Type} {I : Inv τ} {D : List Deferred}

/-- What is said of the state when the operations of p have been carried out. -/
structure Mid (I : Inv τ) (e0 : Env) (Fr : PH) (D : List Deferred) (st : St τ) (ops : Array Oper) (d : DSt τ) (pad : Nat) (p : Nat → Bool) (e : Env) (a : Act) (w : World) : Prop where
  le : Le e0 e
  models : Models I e (heapS st.H pad d.E d.sto p) Fr w
  tm : DenL e (foldT ops d.E st.H.length p st.tm ops.size) a.tmps.toList
  df : st.df = [] ∧ a.defers = D
  closed : Closed ops p
  fresh : ∀ k, k < pad → p k = false → e (st.H.length + k) = none

section
variable {cfg : Cfg τ} {ops : Array Oper} {st : St τ} {d : DSt τ} {T : Nat → List SV} {e0 e : Env} {Fr : PH} {a : Act} {w : World} {p p' : Nat → Bool} {k : Nat} {o : Oper} {ef : Ef τ}

theorem mid_closed (hc : Closed ops p) (hp : ∀ j, p' j = (p j || Nat.beq j k)) (ho : ops[k]? = some o) (hdeps : ∀ ed ∈ o.after.toList, Region.binds .any ed = true → p ed.on = true) : Closed ops p' := by
  intro j oj hoj hpj ed hed hb
  rw [hp] at hpj ⊢
  by_cases hjk : j = k
  · subst hjk; rw [ho] at hoj; cases hoj
    rw [hdeps ed hed hb]; rfl
  · have : Nat.beq j k = false := by
      cases hq : Nat.beq j k with
      | false => rfl
      | true => rw [Nat.beq_eq] at hq; exact absurd hq hjk
    rw [this, Bool.or_false] at hpj
    rw [hc j oj hoj hpj ed hed hb]; rfl

/-- An operation that leaves all items as they are. -/
theorem mid_quiet (hok : okD ops = true) (hf : Facts cfg st.H (padOf ops) ops st.tm ops.size d T) (hM : Mid I e0 Fr D st ops d (padOf ops) p e a w) (ho : ops[k]? = some o) (hk : p k = false)
    (hdeps : ∀ ed ∈ o.after.toList, Region.binds .any ed = true → p ed.on = true) (hp : ∀ j, p' j = (p j || Nat.beq j k)) {x : SV} (he : d.E[k]? = some (.q x)) {v : Value} {w' : World} (hw : Ext w w') (hd : Den e x v) :
    Mid I e0 Fr D st ops d (padOf ops) p' e (a.put o.dst v) w' := by
  have hA : heapA st.H (padOf ops) d.E p' = heapA st.H (padOf ops) d.E p := by
    rw [heapA_step he hp hk]
    split
    · rename_i hkp
      refine set_gone ?_
      rw [heapA_high hkp, itemA_off hk]; rfl
    · rfl
  have hS : heapS st.H (padOf ops) d.E d.sto p' = heapS st.H (padOf ops) d.E d.sto p := by
    rw [heapS_eq, heapS_eq, hA]
    cases hs : d.sto with
    | none => rfl
    | some y =>
      obtain ⟨s, b, c⟩ := y
      have h2 := (hf.sto s b c hs).2
      have hne : s ≠ k := fun e => by subst e; rw [he] at h2; rcases h2 with h2 | ⟨_, h2⟩ <;> cases h2
      have : Nat.beq s k = false := by
        cases hq : Nat.beq s k with
        | false => rfl
        | true => rw [Nat.beq_eq] at hq; exact absurd hq hne
      simp only [hp, this, Bool.or_false]
  refine ⟨hM.le, by rw [hS]; exact hM.models.grow hw, ?_, by rw [put_defers]; exact hM.df, mid_closed hM.closed hp ho hdeps, fun j hj hpj => hM.fresh j hj ?_⟩
  · rw [slots_put hok ho he hk hp]
    exact put_den o.dst hM.tm hd
  · rw [hp] at hpj
    cases hq : p j with
    | false => rfl
    | true => rw [hq] at hpj; simp at hpj

/-- New cells. -/
theorem mid_alloc (hok : okD ops = true) (hos : okS st.H ops d = true) (hf : Facts cfg st.H (padOf ops) ops st.tm ops.size d T) (hM : Mid I e0 Fr D st ops d (padOf ops) p e a w) (ho : ops[k]? = some o) (hk : p k = false)
    (hdeps : ∀ ed ∈ o.after.toList, Region.binds .any ed = true → p ed.on = true) (hp : ∀ j, p' j = (p j || Nat.beq j k)) {l : List SV} {Ty : TypeId} (he : d.E[k]? = some (.al (.cells l Ty))) (hal : k ∈ d.al) (hkp : k < padOf ops)
    {vs : List Value} (hd : DenL e l vs) :
    Mid I e0 Fr D st ops d (padOf ops) p' (ext e (st.H.length + k) (.blk w.heap.size)) (a.put o.dst (.pointer (some ⟨w.heap.size, 0, none⟩))) { w with heap := w.heap.push (.cells vs.toArray Ty) } := by
  have hfr := hM.fresh k hkp hk
  have hle : Le e (ext e (st.H.length + k) (.blk w.heap.size)) := le_ext hfr
  have hA : heapA st.H (padOf ops) d.E p' = (heapA st.H (padOf ops) d.E p).set (st.H.length + k) (.cells l Ty) := by
    rw [heapA_step he hp hk, if_pos hkp]; rfl
  have hgone : (heapA st.H (padOf ops) d.E p)[st.H.length + k]? = some .gone := by rw [heapA_high hkp, itemA_off hk]
  -- the store is not done upon this very item
  have hst : ∀ s b c, d.sto = some (s, b, c) → p s = true → st.H.length + k ≠ b := by
    intro s b c hs hps hb
    have := hos
    simp only [okS, hs, Bool.and_eq_true, List.all_eq_true] at this
    have := this.2 k hal
    simp only [Bool.or_eq_true, Bool.not_eq_true'] at this
    rcases this with h | h
    · rw [hM.closed.edge h hps] at hk; cases hk
    · have h2 : Nat.beq (st.H.length + k) b = true := by rw [Nat.beq_eq]; exact hb
      rw [h2] at h; cases h
  have hS : heapS st.H (padOf ops) d.E d.sto p' = (heapS st.H (padOf ops) d.E d.sto p).set (st.H.length + k) (.cells l Ty) := by
    rw [heapS_eq, heapS_eq, hA]
    cases hs : d.sto with
    | none => rfl
    | some y =>
      obtain ⟨s, b, c⟩ := y
      have h2 := (hf.sto s b c hs).2
      have hne : s ≠ k := fun e => by subst e; rw [he] at h2; rcases h2 with h2 | ⟨_, h2⟩ <;> cases h2
      have : Nat.beq s k = false := by
        cases hq : Nat.beq s k with
        | false => rfl
        | true => rw [Nat.beq_eq] at hq; exact absurd hq hne
      simp only [hp, this, Bool.or_false]
      by_cases hps : p s = true
      · simp only [hps, if_true]
        exact List.set_comm _ _ (hst s b c hs hps)
      · simp only [hps, Bool.false_eq_true, if_false]
  have hgS : (heapS st.H (padOf ops) d.E d.sto p)[st.H.length + k]? = some .gone := by
    rw [heapS_eq]
    cases hs : d.sto with
    | none => exact hgone
    | some y =>
      obtain ⟨s, b, c⟩ := y
      by_cases hps : p s = true
      · simp only [hps, if_true]; rw [List.getElem?_set_ne (fun e => hst s b c hs hps e.symm)]; exact hgone
      · simp only [hps, Bool.false_eq_true, if_false]; exact hgone
  refine ⟨hM.le.trans hle, ?_, ?_, by rw [put_defers]; exact hM.df, mid_closed hM.closed hp ho hdeps, fun j hj hpj => ?_⟩
  · rw [hS]
    refine hM.models.fill (hn := single w.heap.size (.cells vs.toArray Ty (0, 0))) hgS hfr ⟨w.heap.size, vs, rfl, hd.mono hle, rfl⟩ (Ext.alloc w _) (fun q x hq => ?_) (fun q hq => ?_)
    · unfold single at hq
      split at hq
      · rename_i hq'; subst hq'; simp only [Option.some.injEq] at hq; subst hq; simp
      · cases hq
    · unfold single at hq
      split at hq
      · rename_i hq'; omega
      · exact absurd rfl hq
  · rw [slots_put hok ho he hk hp]
    refine put_den o.dst (hM.tm.mono hle) ?_
    simp only [Ef.val, Den, ext_self]
    exact ⟨_, rfl, rfl⟩
  · rw [hp] at hpj
    have hjk : j ≠ k := fun e => by subst e; simp at hpj
    rw [ext_ne _ _ _ (by omega)]
    refine hM.fresh j hj ?_
    cases hq : p j with
    | false => rfl
    | true => rw [hq] at hpj; simp at hpj

/-- The store. -/
theorem mid_store (hok : okD ops = true) (hf : Facts cfg st.H (padOf ops) ops st.tm ops.size d T) (hM : Mid I e0 Fr D st ops d (padOf ops) p e a w) (ho : ops[k]? = some o) (hk : p k = false)
    (hdeps : ∀ ed ∈ o.after.toList, Region.binds .any ed = true → p ed.on = true) (hp : ∀ j, p' j = (p j || Nat.beq j k)) {b : Nat} {c : SB τ} {ef : Ef τ} (he : d.E[k]? = some ef) (hnb : ef.nb = .gone) {v : Value} (hv : Den e (ef.val (st.H.length + k)) v) (hs : d.sto = some (k, b, c)) {w' : World}
    (hm : Models I e ((heapS st.H (padOf ops) d.E d.sto p).set b c) Fr w') : Mid I e0 Fr D st ops d (padOf ops) p' e (a.put o.dst v) w' := by
  have hA : heapA st.H (padOf ops) d.E p' = heapA st.H (padOf ops) d.E p := by
    rw [heapA_step he hp hk]
    split
    · rename_i hkp
      refine set_gone ?_
      rw [heapA_high hkp, itemA_off hk, hnb]
    · rfl
  have hS : heapS st.H (padOf ops) d.E d.sto p' = (heapS st.H (padOf ops) d.E d.sto p).set b c := by
    rw [heapS_eq, heapS_eq, hA, hs]
    simp [hp, hk]
  refine ⟨hM.le, by rw [hS]; exact hm, ?_, by rw [put_defers]; exact hM.df, mid_closed hM.closed hp ho hdeps, fun j hj hpj => hM.fresh j hj ?_⟩
  · rw [slots_put hok ho he hk hp]
    exact put_den o.dst hM.tm hv
  · rw [hp] at hpj
    cases hq : p j with
    | false => rfl
    | true => rw [hq] at hpj; simp at hpj
end

theorem looks_of_operand {ops : Array Oper} {o : Oper} {t : Tmp} (h : Operand.tmp t ∈ o.op.operands.toList) : t ∈ o.looksAt ops := by
  unfold Oper.looksAt
  rw [List.mem_append]
  exact .inl (List.mem_filterMap.2 ⟨_, h, rfl⟩)
theorem looks_of_guard {ops : Array Oper} {o : Oper} {j : Nat} {wt : Bool} {t : Tmp} (hg : o.guard = some (j, wt)) (hd : (ops[j]?).bind (·.dst) = some t) : t ∈ o.looksAt ops := by
  unfold Oper.looksAt
  rw [List.mem_append]
  exact .inr (by simp [hg, hd])

theorem ev_slots {tm tm' : List SV} {x : Operand} (h : ∀ t, x = .tmp t → tm[t]? = tm'[t]?) : ev tm x = ev tm' x := by
  cases x with
  | tmp t => simp only [ev, List.getD, h t rfl]
  | _ => rfl

/-- One operation of such a region, wherever it comes up. -/
theorem draw_step {cfg : Cfg τ} (hpc : ∀ g pc, cfg.pcon g = some pc → PConOk I cfg.P g pc) {ops : Array Oper} {st : St τ} {d : DSt τ} {T : Nat → List SV} {e0 e : Env} {Fr : PH} {a : Act} {w : World} {p p' : Nat → Bool} {k : Nat} {r : Option Nat}
    {Q : Exit → Act → World → Prop} {K : Act → World → Prop} (hok : okD ops = true) (hos : okS st.H ops d = true) (hf : Facts cfg st.H (padOf ops) ops st.tm ops.size d T) (hM : Mid I e0 Fr D st ops d (padOf ops) p e a w) {o : Oper} (ho : ops[k]? = some o) (hk : p k = false)
    (hdeps : ∀ ed ∈ o.after.toList, Region.binds .any ed = true → p ed.on = true) (hp : ∀ j, p' j = (p j || Nat.beq j k)) (hK : ∀ e' a' w', Mid I e0 Fr D st ops d (padOf ops) p' e' a' w' → K a' w') : wpOpIn (FF r) 0 cfg.P ops Q k K a w := by
  have hkn : k < ops.size := (Array.getElem?_eq_some_iff.1 ho).1
  obtain ⟨ef, b, hE, _, hw, hef⟩ := hf.step k o hkn ho
  have hread : ∀ t ∈ o.looksAt ops, (foldT ops d.E st.H.length p st.tm ops.size)[t]? = (T k)[t]? := fun t ht => slots_read hf hok hM.closed ho hk hdeps ht
  have hev : ∀ x ∈ o.op.operands.toList, ev (T k) x = ev (foldT ops d.E st.H.length p st.tm ops.size) x := fun x hx => (ev_slots fun t e => by subst e; exact hread t (looks_of_operand hx)).symm
  unfold wpOpIn
  rw [ho]
  have hwant : Region.wanted o (yielded ops a.tmps) = b := by
    unfold wantS at hw
    unfold Region.wanted
    split at hw
    · rename_i hg; rw [hg, hw]
    · rename_i j wt hg
      rw [hg]
      obtain ⟨t, x, h1, h2, h3⟩ := hw
      have h4 := hread t (looks_of_guard hg h1)
      rw [h2] at h4
      obtain ⟨v, hv, hdv⟩ := hM.tm.get h4
      have hv' : a.tmps[t]? = some v := by simpa using hv
      rcases h3 with ⟨h3, rfl⟩ | ⟨q, h3, rfl⟩
      · have hnb := boolV_none h3 hdv
        have : yielded ops a.tmps j = none := by
          simp only [yielded, h1, Option.bind_some, hv']
          cases v <;> first | rfl | exact absurd rfl (hnb _)
        simp [this]
      · obtain ⟨_, rfl⟩ := boolV_some h3 hdv
        have : yielded ops a.tmps j = some q := by simp [yielded, h1, hv']
        simp [this]
  simp only [hwant]
  rcases hef with ⟨rfl, rfl⟩ | ⟨rfl, hef⟩
  · simp only [Bool.false_eq_true, if_false]
    exact ⟨fun _ _ => trivial, hK e _ _ (mid_quiet hok hf hM ho hk hdeps hp hE (Ext.refl w) (by simp [Den]))⟩
  · simp only [if_true]
    refine ⟨fun _ _ => trivial, ?_⟩
    show o.uponIn (FF r) 0 cfg.P a K Q ((o.semAt r a.eval).run cfg.P w)
    cases ef with
    | q x =>
      rcases hef with ⟨c, hv, hc, hrd⟩ | ⟨f, args, ats, g, fi, ca, fn, pc, φ, hop, hcal, hfn, hn, hb, hpcg, hpx, hφ, hcl⟩
      · have hv1 : stepV cfg.P o.op (foldT ops d.E st.H.length p st.tm ops.size) st.H = some (c, x) := by rw [← stepV_congr hev]; exact hv
        have hv2 : stepV cfg.P o.op (foldT ops d.E st.H.length p st.tm ops.size) (heapS st.H (padOf ops) d.E d.sto p) = some (c, x) := by
          refine stepV_heap hv1 fun b it htc hb => ?_
          have hlt : b < st.H.length := (List.getElem?_eq_some_iff.1 hb).1
          have hA : (heapA st.H (padOf ops) d.E p)[b]? = some it := by rw [heapA_low hlt]; exact hb
          rw [heapS_eq]
          cases hs : d.sto with
          | none => exact hA
          | some y =>
            obtain ⟨s, b', c'⟩ := y
            by_cases hps : p s = true
            · simp only [hps, if_true]
              have htc' : touch o.op (T k) = some b := by rw [touch_congr hev]; exact htc
              have := hos
              simp only [okS, hs, Bool.and_eq_true, List.all_eq_true] at this
              have := this.1.1 (k, b) (hrd b htc')
              simp only [Bool.or_eq_true, Bool.not_eq_true'] at this
              rcases this with h | h
              · rw [hM.closed.edge h hps] at hk; cases hk
              · have hbb : b' ≠ b := fun e => by
                  have : Nat.beq b b' = true := by rw [Nat.beq_eq]; exact e.symm
                  rw [this] at h; cases h
                rw [List.getElem?_set_ne hbb]; exact hA
            · simp only [hps, Bool.false_eq_true, if_false]; exact hA
        obtain ⟨v, hr, hd⟩ := stepV_ok (o := o) hM.models hM.tm hv2 hc
        rw [semAt_eq (notDefer_V hv), hr]
        exact hK e _ _ (mid_quiet hok hf hM ho hk hdeps hp hE (Ext.refl w) hd)
      · have hargs := evs_ok hM.tm args.toList
        have e2 : (args.toList.map a.eval).toArray = args.map a.eval := by apply Array.toList_inj.1; simp
        have hmemA : ∀ x ∈ args.toList, x ∈ o.op.operands.toList := fun x hx => by rw [hop]; simp only [Op.operands, Call.operands, Array.toList_append, List.mem_append]; exact .inr hx
        have hmemF : f ∈ o.op.operands.toList := by rw [hop]; simp [Op.operands, Call.operands]
        rw [ev_map_congr (tm' := foldT ops d.E st.H.length p st.tm ops.size) fun x hx => hev x (hmemA x hx)] at hpx
        rw [hev f hmemF] at hcal
        obtain ⟨fs, cs, hfv, hfi, hca⟩ := callee_ok hcal (ev_ok hM.tm f)
        rw [semAt_eq (by intro c hc; rw [hop] at hc; cases hc)]
        have henter : ∀ (as : Array Value) (w : World), (callFunc g as).run cfg.P w = .ok (.enter g as) w := fun as w => by
          simp only [callFunc, Sem.run_bind, run_program, Result.andThen_ok, hfn, hn, hb, Bool.false_eq_true, if_false, Sem.run_pure]
        have hr : (execOp a.eval o).run cfg.P w = .ok (.enter g (fs ++ args.map a.eval ++ cs)) w := by
          simp [execOp, hop, resolve, hfv, Deferred.ofValue, invoke, henter]
        rw [hr]
        have hHS : heapS st.H (padOf ops) d.E d.sto p = st.H ++ (List.range (padOf ops)).map (itemA d.E p) := by
          rw [heapS_eq]
          cases hs : d.sto with
          | none => rfl
          | some y =>
            obtain ⟨s, b', c'⟩ := y
            have := hos
            simp only [okS, hs, Bool.and_eq_true, List.all_eq_true] at this
            have := this.1.2 k hcl
            have hps : ¬ p s = true := fun h => by rw [hM.closed.edge this h] at hk; cases hk
            simp only [hps, Bool.false_eq_true, if_false]; rfl
        have hm := hM.models
        rw [hHS] at hm
        have hcall := hpc g pc hpcg _ _ _ φ x e Fr w _ hpx hφ ((hfi.append hargs).append hca) hm
        have e3 : (fs.toList ++ args.toList.map a.eval ++ cs.toList).toArray = fs ++ args.map a.eval ++ cs := by apply Array.toList_inj.1; simp
        rw [e3] at hcall
        refine ⟨(fun hc => by cases hc), (calls_FF hcall).mono fun en w' he => ?_⟩
        obtain ⟨v, rfl, hd, hext⟩ := he
        exact hK e _ _ (mid_quiet hok hf hM ho hk hdeps hp hE hext hd)
    | al b =>
      obtain ⟨hkp, hal, hcase⟩ := hef
      rcases hcase with ⟨Ty, z, hop, hz, rfl⟩ | ⟨Ty, y, l, hop, hl, rfl⟩
      · rw [semAt_eq (by intro c hc; rw [hop] at hc; cases hc)]
        have hr : (execOp a.eval o).run cfg.P w = .ok (.value (.pointer (some ⟨w.heap.size, 0, none⟩))) { w with heap := w.heap.push (.cells z.cells.toList.toArray Ty) } := by
          simp [execOp, hop, Instr.alloc, run_zeroT hz, newVar, newRow]
        rw [hr]
        exact hK _ _ _ (mid_alloc hok hos hf hM ho hk hdeps hp hE hal hkp (DenL.plain z.cells.toList))
      · rw [semAt_eq (by intro c hc; rw [hop] at hc; cases hc)]
        have hmem : y ∈ o.op.operands.toList := by rw [hop]; simp [Op.operands]
        rw [hev y hmem] at hl
        have hcd := cellsV_ok hl (ev_ok hM.tm y)
        have hr : (execOp a.eval o).run cfg.P w = .ok (.value (.pointer (some ⟨w.heap.size, 0, none⟩))) { w with heap := w.heap.push (.cells (a.eval y).cells.toList.toArray Ty) } := by
          simp [execOp, hop, Instr.box, newVar, newRow]
        rw [hr]
        exact hK _ _ _ (mid_alloc hok hos hf hM ho hk hdeps hp hE hal hkp hcd)
    | st b c =>
      obtain ⟨hs, Ty, oa, ox, off, l, T', cs, n, hop, ha, hb, hc, hn, hcond, rfl⟩ := hef
      have hmA : oa ∈ o.op.operands.toList := by rw [hop]; simp [Op.operands]
      have hmX : ox ∈ o.op.operands.toList := by rw [hop]; simp [Op.operands]
      rw [hev oa hmA] at ha
      rw [hev ox hmX] at hc
      have hcur : (heapS st.H (padOf ops) d.E d.sto p)[b]? = some (.cells l T') := by
        rw [heapS_eq, hs]
        simp only [hk, Bool.false_eq_true, if_false]
        rw [heapS_eq] at hb
        simp only at hb
        by_cases hlt : b < st.H.length
        · rw [heapA_low hlt] at hb ⊢; exact hb
        · obtain ⟨j, rfl⟩ : ∃ j, b = st.H.length + j := ⟨b - st.H.length, by omega⟩
          by_cases hj : j < padOf ops
          · rw [heapA_high hj] at hb ⊢
            -- an item of the region's own: its maker has been carried out
            have hjk : j < k := by
              rcases Nat.lt_or_ge j k with h | h
              · exact h
              · simp only [itemA] at hb; rw [List.getElem?_eq_none (by simp; omega)] at hb; simp at hb
            simp only [itemA, List.getElem?_take_of_lt hjk] at hb ⊢
            cases hEj : d.E[j]? with
            | none => rw [hEj] at hb; simp at hb
            | some ef2 =>
              rw [hEj] at hb
              simp only [Option.some.injEq] at hb
              cases ef2 with
              | q x => simp [Ef.nb] at hb
              | st b2 c2 => simp [Ef.nb] at hb
              | si b2 c2 x2 => simp [Ef.nb] at hb
              | al b2 =>
                simp only [Ef.nb] at hb
                subst hb
                have hoj : ops[j]? = some ops[j] := by simp [show j < ops.size by omega]
                obtain ⟨ef3, b3, g1, _, _, g4⟩ := hf.step j _ (by omega) hoj
                rw [hEj] at g1; cases g1
                rcases g4 with ⟨_, g4⟩ | ⟨_, g4⟩
                · cases g4
                · have hjal := g4.2.1
                  have := hos
                  simp only [okS, hs, Bool.and_eq_true, List.all_eq_true] at this
                  have := this.2 j hjal
                  simp only [Bool.or_eq_true, Bool.not_eq_true'] at this
                  rcases this with h | h
                  · obtain ⟨o', ed, ho', h1, h2, h3⟩ := edge_dep h
                    rw [ho] at ho'; cases ho'
                    have hpj := hdeps ed h1 h2
                    rw [h3] at hpj
                    rw [hpj]; rfl
                  · have h2 : Nat.beq (st.H.length + j) (st.H.length + j) = true := by rw [Nat.beq_eq]
                    rw [h2] at h; cases h
          · rw [List.getElem?_eq_none (by rw [heapA_length]; omega)] at hb; cases hb
      have hA : stepA cfg.P o.op (foldT ops d.E st.H.length p st.tm ops.size) (heapS st.H (padOf ops) d.E d.sto p) = some (.v undef, (heapS st.H (padOf ops) d.E d.sto p).set b (.cells (setAll l off cs) T')) := by
        rw [hop]; simp only [stepA, ha, hcur, hc, hn, hcond]
      obtain ⟨nx, v, w', e', hr, hnx, hle, hm, hd, hee⟩ := stepA_ok (o := o) hM.models hM.tm hA
      have hee := hee (by simp)
      subst hee
      rw [semAt_eq (notDefer_A hA), hr]
      simp only [Den] at hd
      subst hd
      have hmid : Mid I e0 Fr D st ops d (padOf ops) p' e' (a.put o.dst undef) w' := mid_store hok hf hM ho hk hdeps hp hE rfl (by simp [Ef.val, Den]) hs hm
      have := hK e' _ _ hmid
      rcases hnx with rfl | ⟨rfl, _⟩
      · exact this
      · exact this
    | si b c x =>
      obtain ⟨hs, q, H', hb, hst, hq, hc⟩ := hef
      obtain ⟨args, ats, hop⟩ : ∃ args ats, o.op = .call { callee := .builtin .copy, args := args, argTypes := ats } := by
        unfold copyTo at hb
        split at hb
        · rename_i args ats hop; exact ⟨args, ats, hop⟩
        · cases hb
      have hmem : ∀ x ∈ args.toList, x ∈ o.op.operands.toList := fun x hx => by rw [hop]; simp only [Op.operands, Call.operands, Array.toList_append, List.mem_append]; exact .inr hx
      have hmap := ev_map_congr (tm' := foldT ops d.E st.H.length p st.tm ops.size) fun x hx => hev x (hmem x hx)
      have hlow : ∀ i it, st.H[i]? = some it → (heapS st.H (padOf ops) d.E d.sto p)[i]? = some it := fun i it hi => by
        rw [heapS_eq, hs]
        simp only [hk, Bool.false_eq_true, if_false]
        rw [heapA_low (List.getElem?_eq_some_iff.1 hi).1]; exact hi
      rw [hop] at hb hst
      simp only [copyTo, hmap] at hb
      simp only [stepI, hmap] at hst
      have hI : stepI cfg.P o.op (foldT ops d.E st.H.length p st.tm ops.size) (heapS st.H (padOf ops) d.E d.sto p) = some (q, x, (heapS st.H (padOf ops) d.E d.sto p).set b c) := by
        rw [hop]
        simp only [stepI]
        split at hst
        · rename_i D D' b1 o1 l1 c1 b2 o2 l2 c2 hats hargs
          rw [hargs] at hb
          simp only [Option.some.injEq] at hb
          subst hb
          split at hst
          · rename_i el hu
            split at hst
            · rename_i k1 xs n1 T1 k2 ys n2 T2 hsz hb1 hb2
              split at hst
              · rename_i hkk
                simp only [Option.some.injEq, Prod.mk.injEq] at hst
                obtain ⟨rfl, rfl, rfl⟩ := hst
                have hlt : b1 < st.H.length := (List.getElem?_eq_some_iff.1 hb1).1
                simp [hlt] at hc
                subst hc
                simp [hats, hargs, hu, hsz, hlow _ _ hb1, hlow _ _ hb2, hkk]
              · cases hst
            · cases hst
          · cases hst
        · cases hst
      obtain ⟨nx, v, w', e', hr, hnx, hle, hm, hd, hee⟩ := stepI_ok (o := o) hM.models hM.tm hI hq
      have hee := hee (by simp)
      subst hee
      rw [semAt_eq (notDefer_I hI), hr]
      have hmid : Mid I e0 Fr D st ops d (padOf ops) p' e' (a.put o.dst v) w' := mid_store hok hf hM ho hk hdeps hp hE rfl hd hs hm
      have := hK e' _ _ hmid
      rcases hnx with rfl | ⟨rfl, rfl⟩
      · exact this
      · exact this

/-- THE REGION: in whatever order. -/
theorem draw_any {cfg : Cfg τ} (hpc : ∀ g pc, cfg.pcon g = some pc → PConOk I cfg.P g pc) {ops : Array Oper} {st : St τ} {d : DSt τ} {T : Nat → List SV} {e0 : Env} {Fr : PH} {r : Option Nat}
    {Q : Exit → Act → World → Prop} (hok : okD ops = true) (hos : okS st.H ops d = true) (hf : Facts cfg st.H (padOf ops) ops st.tm ops.size d T)
    (hfin : ∀ e a w, Le e0 e → StOk I e Fr D { st with tm := d.tm, H := heapS st.H (padOf ops) d.E d.sto (fun _ => true) } a w → Q .normal a w) :
    ∀ (fuel : Nat) (listed : Array Bool) (e : Env) (a : Act) (w : World), listed.size = ops.size → left ops.size (fun k => listed.getD k false) ≤ fuel →
      Mid I e0 Fr D st ops d (padOf ops) (fun k => listed.getD k false) e a w → wpAnyIn (FF r) 0 cfg.P .any ops Q fuel listed a w := by
  -- when nothing may come up, all has been carried out
  have hall : ∀ (listed : Array Bool), listed.size = ops.size → Region.ready .any ops listed = [] → ∀ k, k < ops.size → listed.getD k false = true := by
    intro listed hsz hr k
    induction k using Nat.strongRecOn with
    | _ k ih =>
      intro hk
      cases hb : listed.getD k false with
      | true => rfl
      | false =>
        have : k ∈ Region.ready .any ops listed := by
          rw [mem_ready]
          refine ⟨?_, ops[k], by simp [hk], fun ed hed hbd => ?_⟩
          · have h1 : listed[k]? = some listed[k] := by simp [show k < listed.size by omega]
            simp only [Array.getD_eq_getD_getElem?, h1, Option.getD_some] at hb ⊢
            exact hb
          · have := okD_edges hok (k := k) (o := ops[k]) (by simp [hk]) ed (by simpa using hed) hbd
            exact ih ed.on this (by omega)
        rw [hr] at this; cases this
  have hend : ∀ (listed : Array Bool) (e : Env) (a : Act) (w : World), listed.size = ops.size → Region.ready .any ops listed = [] →
      Mid I e0 Fr D st ops d (padOf ops) (fun k => listed.getD k false) e a w → Q .normal a w := by
    intro listed e a w hsz hr hM
    have ha := hall listed hsz hr
    refine hfin e a w hM.le ⟨?_, ?_, hM.df⟩
    · have hS : heapS st.H (padOf ops) d.E d.sto (fun k => listed.getD k false) = heapS st.H (padOf ops) d.E d.sto (fun _ => true) := by
        have hA : heapA st.H (padOf ops) d.E (fun k => listed.getD k false) = heapA st.H (padOf ops) d.E (fun _ => true) := by
          unfold heapA
          congr 1
          refine List.map_congr_left fun k hk => ?_
          have hk' : k < padOf ops := List.mem_range.1 hk
          have hpo : padOf ops ≤ ops.size := by unfold padOf; split <;> simp
          simp only [itemA, ha k (by omega)]
        rw [heapS_eq, heapS_eq, hA]
        cases hs : d.sto with
        | none => rfl
        | some y =>
          obtain ⟨s, b, c⟩ := y
          have := (hf.sto s b c hs).1
          simp only [ha s this]
      rw [← hS]; exact hM.models
    · have hT : foldT ops d.E st.H.length (fun k => listed.getD k false) st.tm ops.size = d.tm := by
        rw [← hf.stop, facts_T hf (Nat.le_refl _) ops.size (Nat.le_refl _)]
        refine List.ext_getElem? fun t => foldT_slot _ fun j oj hj _ _ => ?_
        simp only [ha j hj]
      rw [← hT]; exact hM.tm
  intro fuel
  induction fuel with
  | zero =>
    intro listed e a w hsz hl hM
    have hr : Region.ready .any ops listed = [] := by
      cases hr : Region.ready .any ops listed with
      | nil => rfl
      | cons i is =>
        have hi : i ∈ Region.ready .any ops listed := by rw [hr]; exact List.mem_cons_self
        rw [mem_ready] at hi
        obtain ⟨h0, o, ho, _⟩ := hi
        have hin : i < ops.size := (Array.getElem?_eq_some_iff.1 ho).1
        have h1 : listed[i]? = some listed[i] := by simp [show i < listed.size by omega]
        have h2 : listed.getD i false = false := by
          simp only [Array.getD_eq_getD_getElem?, h1, Option.getD_some] at h0 ⊢
          exact h0
        have : i ∈ (List.range ops.size).filter fun k => !listed.getD k false := by
          rw [List.mem_filter]; exact ⟨List.mem_range.2 hin, by simp [h2]⟩
        have hpos := List.length_pos_of_mem this
        exact absurd (Nat.lt_of_lt_of_le hpos hl) (Nat.lt_irrefl 0)
    exact ⟨hr, hend listed e a w hsz hr hM⟩
  | succ fuel ih =>
    intro listed e a w hsz hl hM
    refine ⟨fun hr => hend listed e a w hsz hr hM, fun i hi => ?_⟩
    rw [mem_ready] at hi
    obtain ⟨h0, o, ho, hdeps⟩ := hi
    have hin : i < ops.size := (Array.getElem?_eq_some_iff.1 ho).1
    have h1 : listed[i]? = some listed[i] := by simp [show i < listed.size by omega]
    have h2 : listed.getD i false = false := by
      simp only [Array.getD_eq_getD_getElem?, h1, Option.getD_some] at h0 ⊢
      exact h0
    have hp : ∀ j, (listed.setIfInBounds i true).getD j false = (listed.getD j false || Nat.beq j i) := by
      intro j
      by_cases hji : j = i
      · subst hji
        have e1 : Nat.beq j j = true := by rw [Nat.beq_eq]
        rw [e1, Bool.or_true]
        simp [show j < listed.size by omega]
      · have e1 : Nat.beq j i = false := by
          cases hq : Nat.beq j i with
          | false => rfl
          | true => rw [Nat.beq_eq] at hq; exact absurd hq hji
        rw [e1, Bool.or_false, getD_set_ne false (fun e => hji e.symm)]
    refine draw_step hpc (p' := fun k => (listed.setIfInBounds i true).getD k false) hok hos hf hM ho h2 (fun ed hed hb => hdeps ed (by simpa using hed) hb) hp fun e' a' w' hM' => ?_
    refine ih _ e' a' w' (by simpa using hsz) ?_ hM'
    have : left ops.size (fun k => (listed.setIfInBounds i true).getD k false) < left ops.size (fun k => listed.getD k false) := by
      refine filter_lt (y := i) (fun x _ hx => ?_) (List.mem_range.2 hin) (by simp [h2]) (by show (!(listed.setIfInBounds i true).getD i false) = false; rw [hp]; simp)
      have hx : (!(listed.setIfInBounds i true).getD x false) = true := hx
      rw [hp] at hx
      show (!listed.getD x false) = true
      cases hq : listed.getD x false with
      | false => simp
      | true => rw [hq] at hx; simp at hx
    omega

theorem draw_ok {cfg : Cfg τ} (hmix : cfg.P.follows .mixedOrders = true) (hpc : ∀ g pc, cfg.pcon g = some pc → PConOk I cfg.P g pc) {id : Nat} {ops : Array Oper} {st : St τ} {K : St τ → Prop} {e : Env} {Fr : PH} {a : Act} {w : World} {r : Option Nat}
    {Q : Exit → Act → World → Prop} (h : drawK cfg ops st K) (hok : StOk I e Fr D st a w) (hnext : NextOk (D := D) I e Fr st K (Q .normal)) : (Code.region id ops true).wpIn (FF r) 0 cfg.P Q a w := by
  unfold drawK at h
  split at h
  · rename_i hD
    obtain ⟨d, T, hf, hK⟩ := drawGo_facts (tm0 := st.tm) ops.toList 0 _ (fun _ => st.tm) (by intro i; simp) (by simp) ⟨rfl, rfl, rfl, fun j o hj => by omega, fun s b c hs => by cases hs⟩ h
    split at hK
    · rename_i hos
      refine wpIn_region_any hmix (draw_any (e0 := e) (Fr := Fr) hpc hD hos hf (fun e' a' w' hle hst => hnext e' { st with tm := d.tm, H := heapS st.H (padOf ops) d.E d.sto (fun _ => true) } a' w' (LeB.of_le hle) rfl rfl hst hK) _ _ e a _ (by simp) (by unfold left; exact Nat.le_trans (List.length_filter_le _ _) (by simp)) ?_)
      have hp : (fun k => (Array.replicate ops.size false).getD k false) = fun _ => false := by
        funext k
        by_cases hk : k < ops.size <;> simp [hk]
      rw [hp]
      have hT : ∀ m, foldT ops d.E st.H.length (fun _ => false) st.tm m = st.tm := by
        intro m
        induction m with
        | zero => rfl
        | succ m ih => simp only [foldT, ih]
      have hS : heapS st.H (padOf ops) d.E d.sto (fun _ => false) = st.H ++ (List.range (padOf ops)).map (itemA d.E fun _ => false) := by
        rw [heapS_eq]
        cases d.sto with
        | none => rfl
        | some y => obtain ⟨s, b, c⟩ := y; simp [heapA]
      refine ⟨Le.refl e, ?_, by rw [hT]; exact hok.tm, hok.df, (fun k o _ hk => by cases hk), fun k hk _ => ?_⟩
      · rw [hS]
        have := hok.models.heap (w' := { w with drawn := w.drawn + 1 }) rfl ⟨rfl, rfl⟩
        refine this.pad fun b hb => ?_
        obtain ⟨k, _, rfl⟩ := List.mem_map.1 hb
        exact itemA_off rfl
      · obtain ⟨_, hs, _, h2, _⟩ := hok.models
        exact (h2 _ (by omega)).1
    · exact hK.elim
  · exact h.elim

end Go.Sym
