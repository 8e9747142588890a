/- The symbolic run is sound: weakening, rounds, operations, code. -/
import Derived.Test.YtienakdnmhmglaaVF
set_option linter.unusedSimpArgs false
set_option linter.unusedVariables false
set_option linter.unusedSectionVars false
namespace Go.Sym
open Go
variable {τ : Type} {I : Inv τ} {P : Program} {D : List Deferred}

/-! ### Weakening -/
def cut (e : Env) (k : Nat) : Env := fun i => if i < k then e i else none
mutual
theorem den_cut {e : Env} {k : Nat} : ∀ (x : SV) (v : Value), scS k x = true → Den e x v → Den (cut e k) x v
  | .any, _, _, _ => by simp [Den]
  | .v x, _, _, h => by simpa [Den] using h
  | .p b o, _, hs, h => by simp only [scS, Nat.blt_eq] at hs; simp only [Den, cut, hs, if_true] at h ⊢; exact h
  | .s b o len cap, _, hs, h => by simp only [scS, Nat.blt_eq] at hs; simp only [Den, cut, hs, if_true] at h ⊢; exact h
  | .f fn cs, _, hs, h => by simp only [scS] at hs; simp only [Den] at h ⊢; obtain ⟨vs, h1, h2⟩ := h; exact ⟨vs, denL_cut cs vs hs h1, h2⟩
  | .y b, _, hs, h => by simp only [scS, Nat.blt_eq] at hs; simp only [Den, cut, hs, if_true] at h ⊢; exact h
  | .h b path, _, hs, h => by simp only [scS, Nat.blt_eq] at hs; simp only [Den, cut, hs, if_true] at h ⊢; exact h
  | .r b path, _, hs, h => by simp only [scS, Nat.blt_eq] at hs; simp only [Den, cut, hs, if_true] at h ⊢; exact h
  | .a l, _, hs, h => by simp only [scS] at hs; simp only [Den] at h ⊢; obtain ⟨vs, h1, h2⟩ := h; exact ⟨vs, denL_cut l vs hs h1, h2⟩
  | .t l, _, hs, h => by simp only [scS] at hs; simp only [Den] at h ⊢; obtain ⟨vs, h1, h2⟩ := h; exact ⟨vs, denL_cut l vs hs h1, h2⟩
theorem denL_cut {e : Env} {k : Nat} : ∀ (xs : List SV) (vs : List Value), scL k xs = true → DenL e xs vs → DenL (cut e k) xs vs
  | [], _, _, h => by simpa [DenL] using h
  | x :: xs, _, hs, h => by
    simp only [scL, Bool.and_eq_true] at hs
    simp only [DenL] at h ⊢
    obtain ⟨v, r, h1, h2, h3⟩ := h
    exact ⟨v, r, h1, den_cut x v hs.1 h2, denL_cut xs r hs.2 h3⟩
end
theorem tmLe_den {e : Env} : ∀ {xs ys : List SV} {vs : List Value}, tmLe xs ys → DenL e xs vs → DenL e ys vs
  | [], [], _, _, h => h
  | [], _ :: _, _, h, _ => by simp [tmLe] at h
  | _ :: _, [], _, h, _ => by simp [tmLe] at h
  | x :: xs, y :: ys, _, h, hd => by
    simp only [tmLe] at h
    simp only [DenL] at hd ⊢
    obtain ⟨v, r, h1, h2, h3⟩ := hd
    refine ⟨v, r, h1, ?_, tmLe_den h.2 h3⟩
    have h' := h.1
    split at h'
    · simp [Den]
    · rw [← h']; exact h2
theorem HLe.get : ∀ {H H' : List (SB τ)} {i : Nat} {b' : SB τ}, HLe H H' → H'[i]? = some b' → ∃ b, H[i]? = some b ∧ BLe b b'
  | _, [], _, _, _, hi => by simp at hi
  | [], _ :: _, _, _, h, _ => by simp [HLe] at h
  | b :: bs, c :: cs, i, b', h, hi => by
    simp only [HLe] at h
    cases i with
    | zero => simp at hi; subst hi; exact ⟨b, by simp, h.1⟩
    | succ i => simp at hi; obtain ⟨d, h1, h2⟩ := HLe.get h.2 hi; exact ⟨d, by simpa using h1, h2⟩
theorem HLe.length : ∀ {H H' : List (SB τ)}, HLe H H' → H'.length ≤ H.length
  | _, [], _ => by simp
  | [], _ :: _, h => by simp [HLe] at h
  | b :: bs, c :: cs, h => by simp only [HLe] at h; have := HLe.length h.2; simp; omega
theorem scH_get {k : Nat} : ∀ {H : List (SB τ)} {i : Nat} {b : SB τ}, scH k H = true → H[i]? = some b → scB k b = true
  | [], _, _, _, hi => by simp at hi
  | c :: cs, i, b, h, hi => by
    simp only [scH, Bool.and_eq_true] at h
    cases i with
    | zero => simp at hi; subst hi; exact h.1
    | succ i => simp at hi; exact scH_get h.2 hi
theorem item_cut {e : Env} {k : Nat} {b b' : SB τ} {r : Option Ref} {h : PH} (hle : BLe b b') (hsc : scB k b' = true) (hi : ItemOk I e b r h) (hg : b' = .gone → h = emp) :
    ItemOk I (cut e k) b' r h := by
  cases b' with
  | gone => exact hg rfl
  | own c' n' T' sz' ep' nn' =>
    cases b with
    | own c n T sz ep nn =>
      obtain ⟨f, v, vs, h1, h2, h3, h4, h5, h6⟩ := hi
      cases c' with
      | sv l' =>
        cases c with
        | sv l =>
          obtain ⟨rfl, rfl, rfl, rfl, hnn, htm⟩ := hle
          exact ⟨f, v, vs, h1, h2, h3, denL_cut _ _ hsc (tmLe_den htm h4), h5, fun hh => h6 (hnn hh)⟩
        | _ => simp [BLe] at hle
      | ints k' xs' =>
        cases c with
        | ints k xs =>
          obtain ⟨rfl, rfl, rfl, rfl, hnn, rfl, rfl⟩ := hle
          exact ⟨f, v, vs, h1, h2, h3, h4, h5, fun hh => h6 (hnn hh)⟩
        | _ => simp [BLe] at hle
      | recs xs' =>
        cases c with
        | recs xs =>
          obtain ⟨rfl, rfl, rfl, rfl, hnn, rfl⟩ := hle
          exact ⟨f, v, vs, h1, h2, h3, h4, h5, fun hh => h6 (hnn hh)⟩
        | _ => simp [BLe] at hle
    | _ => cases c' <;> simp [BLe] at hle
  | rows R' T' TS' oe' ep' pd' =>
    have hb : b = .rows R' T' TS' oe' ep' pd' := by
      cases b with
      | rows R T TS oe ep pd => simpa [BLe] using hle
      | own c _ _ _ _ _ => cases c <;> simp [BLe] at hle
      | _ => simp [BLe] at hle
    subst hb
    exact hi
  | limbo i' q' L' T' TS' ep' =>
    have hb : b = .limbo i' q' L' T' TS' ep' := by
      cases b with
      | limbo i q L T TS ep => simpa [BLe] using hle
      | own c _ _ _ _ _ => cases c <;> simp [BLe] at hle
      | _ => simp [BLe] at hle
    subst hb
    obtain ⟨f, u, us, ho, hr, fb, gb, h1, h2, h3, h4, h5⟩ := hi
    simp only [scB, Nat.blt_eq] at hsc
    exact ⟨f, u, us, ho, hr, fb, gb, h1, h2, h3, by simp only [cut, hsc, if_true]; exact h4, h5⟩
  | inp c' =>
    have hb : b = .inp c' := by
      cases b with
      | inp c => simpa [BLe] using hle
      | own c _ _ _ _ _ => cases c <;> simp [BLe] at hle
      | _ => simp [BLe] at hle
    subst hb
    exact hi
  | ints k' xs' n' T' =>
    cases b with
    | cells l T =>
      obtain ⟨rfl, rfl, hl⟩ := hle
      obtain ⟨n, vs, h1, h2, h3⟩ := hi
      have hvs : vs = xs'.map (Value.int k') := by
        clear h3 hl hg hsc
        induction xs' generalizing vs with
        | nil => simpa [DenL] using h2
        | cons x xs ih =>
          simp only [List.map_cons, DenL] at h2
          obtain ⟨v, r, rfl, h4, h5⟩ := h2
          simp only [Den] at h4
          rw [h4, ih r h5]
          rfl
      subst hvs
      exact ⟨n, h1, hl, h3⟩
    | ints k xs n T => simp only [BLe, SB.ints.injEq] at hle; obtain ⟨rfl, rfl, rfl, rfl⟩ := hle; exact hi
    | _ => simp [BLe] at hle
  | cells l' T' =>
    cases b with
    | cells l T =>
      obtain ⟨rfl, hl⟩ := hle
      obtain ⟨n, vs, h1, h2, h3⟩ := hi
      exact ⟨n, vs, h1, denL_cut _ _ hsc (tmLe_den hl h2), h3⟩
    | _ => simp [BLe] at hle
  | res t =>
    cases b with
    | res t' => simp only [BLe, SB.res.injEq] at hle; subst hle; exact hi
    | _ => simp [BLe] at hle
  | obj o =>
    cases b with
    | obj o' => simp only [BLe, SB.obj.injEq] at hle; subst hle; exact hi
    | _ => simp [BLe] at hle
  | loop st pd tm ps asg body d =>
    cases b with
    | loop st1 pd1 tm1 ps1 asg1 body1 d1 =>
      simp only [BLe] at hle
      obtain ⟨rfl, rfl, htm, rfl, rfl, rfl, rfl⟩ := hle
      simp only [scB, Bool.and_eq_true, Nat.blt_eq] at hsc
      obtain ⟨n, fn, vs, dn, h1, h2, h3, h4⟩ := hi
      exact ⟨n, fn, vs, dn, h1, denL_cut _ _ hsc.1 (tmLe_den htm h2), by simp only [cut, hsc.2, if_true]; exact h3, h4⟩
    | _ => simp [BLe] at hle

theorem weak_ok {e : Env} {Fr : PH} {s s' : St τ} {a : Act} {w : World} (h : StOk I e Fr D s a w) (hw : Weak s s') : ∃ e', LeB s.base e e' ∧ StOk I e' Fr D s' a w := by
  obtain ⟨⟨h0, hs, h1, h2, h3, h4, h5, h6⟩, htm, hdf⟩ := h
  obtain ⟨wt, wH, wd, wb, wr, wl, wsc⟩ := hw
  simp only [Bool.and_eq_true] at wsc
  obtain ⟨⟨sc1, sc2⟩, sc3⟩ := wsc
  have hlen := wH.length
  rw [Nat.ble_eq] at wl
  refine ⟨cut e s'.H.length, fun i hi r hr => ⟨r, by simp only [cut]; rw [if_pos (by omega)]; exact hr, r.le_refl⟩, ?_, denL_cut _ _ sc1 (tmLe_den wt htm), ?_⟩
  · have hgone : ∀ i, ∃ g : PH, (∀ b, s'.H[i]? = some b → ItemOk I (cut e s'.H.length) b (cut e s'.H.length i) g) ∧ (s'.H.length ≤ i → g = emp) ∧ (∀ k o, g k = some o → hs i k = some o) := by
      intro i
      cases hi : s'.H[i]? with
      | none => exact ⟨emp, (fun b hb => by cases hb), fun _ => rfl, fun k o hk => by simp [emp] at hk⟩
      | some b' =>
        obtain ⟨b, hb, hle⟩ := wH.get hi
        have hlt : i < s'.H.length := (List.getElem?_eq_some_iff.1 hi).1
        have hci : cut e s'.H.length i = e i := by simp [cut, hlt]
        by_cases hg : b' = .gone
        · exact ⟨emp, (fun c hc => by cases hc; subst hg; exact rfl), fun _ => rfl, fun k o hk => by simp [emp] at hk⟩
        · refine ⟨hs i, fun c hc => ?_, (fun hge => by omega), fun k o hk => hk⟩
          cases hc
          rw [hci]
          exact item_cut hle (scH_get sc2 hi) (h1 i b hb) (fun e => absurd e hg)
    have hch : ∃ g : Nat → PH, ∀ i, (∀ b, s'.H[i]? = some b → ItemOk I (cut e s'.H.length) b (cut e s'.H.length i) (g i)) ∧ (s'.H.length ≤ i → g i = emp) ∧ (∀ k o, g i k = some o → hs i k = some o) :=
      ⟨fun i => (hgone i).choose, fun i => (hgone i).choose_spec⟩
    obtain ⟨g, hg⟩ := hch
    have hsub : ∀ i k, hs i k = none → g i k = none := fun i k hk => by
      cases hq : g i k with
      | none => rfl
      | some o => rw [(hg i).2.2 k o hq] at hk; cases hk
    refine ⟨h0, g, fun i b hb => (hg i).1 b hb, fun i hi => ⟨by simp only [cut]; rw [if_neg (by omega)], (hg i).2.1 hi⟩, fun i j hij k => ?_, fun i k => ?_, fun i k o hk => h5 i k o ((hg i).2.2 k o hk), h6⟩
    · exact (h3 i j hij k).imp (hsub i k) (hsub j k)
    · exact (h4 i k).imp (hsub i k) id
  · exact ⟨wd ▸ hdf.1, hdf.2⟩

/-! ### Rounds -/
theorem setPs_den {e : Env} : ∀ {ps : List Tmp} {xs : List SV} {vs : List Value} {tm : List SV} {arr : Array Value}, DenL e xs vs → DenL e tm arr.toList →
    DenL e (setPs tm (ps.zip xs)) (((ps.zip vs).foldl (fun (t : Array Value) (p : Tmp × Value) => t.setIfInBounds p.1 p.2) arr)).toList
  | [], _, _, _, _, _, h => by simpa [setPs] using h
  | p :: ps, [], _, _, _, hx, h => by simp only [DenL] at hx; subst hx; simpa [setPs] using h
  | p :: ps, x :: xs, _, tm, arr, hx, h => by
    simp only [DenL] at hx
    obtain ⟨v, r, rfl, h2, h3⟩ := hx
    simp only [List.zip_cons_cons, setPs, List.foldl_cons]
    exact setPs_den h3 (by simpa using h.set h2)

theorem Models.loopAt {e : Env} {H : List (SB τ)} {Fr : PH} {w : World} (h : Models I e H Fr w) {i : Nat} {st : LoopState} {pd : Option Code} {tm : List SV} {ps : Array Tmp} {asg body : Code} {d : Nat}
    (hi : H[i]? = some (.loop st pd tm ps asg body d)) : ∃ n fn vs dn, e i = some (.blk n) ∧ DenL e tm vs ∧ e d = some (.blk dn) ∧
      w.heap[n]? = some (.loop { state := st, pending := pd, fn := fn, tmps := vs.toArray, params := ps, assign := asg, body := body, defers := dn }) := by
  obtain ⟨hn, ⟨n, fn, vs, dn, h1, h2, h3, rfl⟩, h5⟩ := h.item hi
  exact ⟨n, fn, vs, dn, h1, h2, h3, h5 n _ (by simp [single])⟩

/-- The loop's record is turned: its state and what is pending alone. -/
theorem Models.setLoop {e : Env} {H : List (SB τ)} {Fr : PH} {w : World} (h : Models I e H Fr w) {i n : Nat} {st st' : LoopState} {pd pd' : Option Code} {tm : List SV} {ps : Array Tmp} {asg body : Code} {d : Nat} {fn : FuncId} {vs : List Value} {dn : Nat}
    (hi : H[i]? = some (.loop st pd tm ps asg body d)) (h1 : e i = some (.blk n)) (h2 : DenL e tm vs) (h3 : e d = some (.blk dn))
    (h4 : w.heap[n]? = some (.loop { state := st, pending := pd, fn := fn, tmps := vs.toArray, params := ps, assign := asg, body := body, defers := dn })) :
    Models I e (H.set i (.loop st' pd' tm ps asg body d)) Fr { w with heap := w.heap.setIfInBounds n (.loop { state := st', pending := pd', fn := fn, tmps := vs.toArray, params := ps, assign := asg, body := body, defers := dn }) } :=
  h.putObj hi h1 h4 (fun hp hok => by
    obtain ⟨m, _, _, _, q1, _, _, q2⟩ := hok
    exact ⟨_, q2⟩ |> fun (x : ∃ o, hp = single m o) => by rw [h1] at q1; cases q1; exact x) ⟨n, fn, vs, dn, h1, h2, h3, rfl⟩

theorem le_of_leB {e e' : Env} {H : List (SB τ)} {Fr : PH} {w : World} (hM : Models I e H Fr w) (h : LeB H.length e e') : Le e e' := fun i r hi => by
  by_cases hlt : i < H.length
  · exact h i hlt r hi
  · obtain ⟨_, hs, _, h2, _⟩ := hM
    rw [(h2 i (by omega)).1] at hi
    cases hi

theorem run_getLoop {w : World} {n : Nat} {r : Loop} (h : w.heap[n]? = some (.loop r)) : (Instr.getLoop n).run P w = .ok r w := by
  simp only [Instr.getLoop, Sem.run_bind, run_getObj (P := P) h (by intro c t f hc; cases hc), Result.andThen_ok, Sem.run_pure]

theorem yield_ok {rec : Rec τ} (hrec : RecOk I P rec) {b n : Nat} {args : List SV} {H : List (SB τ)} {K : SV → List (SB τ) → Prop} {e : Env} {Fr : PH} {w : World} {vs : List Value} {r : Option Nat}
    (h : yieldK rec b args H K) (hb : e b = some (.blk n)) (hd : DenL e args vs) (hM : Models I e H Fr w) :
    ∃ f tmps asg body, (Instr.yield n vs.toArray).run P w = .ok (.round n f tmps asg body) w ∧ RoundIn (FF r) 0 P n f tmps asg body w (Ends I e Fr K) := by
  unfold yieldK at h
  split at h
  · rename_i st pd tm ps asg body d hi
    split at h
    · rename_i hlen
      rw [beq_iff_eq] at hlen
      obtain ⟨n', fn, us, dn, g1, g2, g3, g4⟩ := hM.loopAt hi
      rw [hb] at g1; cases g1
      have hl := hd.length
      have hsz : ¬ (vs.toArray.size ≠ ps.size) := by simp; omega
      refine ⟨fn, (ps.zip vs.toArray).foldl (fun tmps (p : Tmp × Value) => tmps.setIfInBounds p.1 p.2) us.toArray, asg, body, ?_, ?_⟩
      · simp only [Instr.yield, Sem.run_bind, run_getLoop g4, Result.andThen_ok, hsz, if_false, Sem.run_pure]
      have hstart : StOk I e Fr [] { tm := setPs tm (ps.toList.zip args), H := H, df := [], base := H.length, rnd := true }
          { tmps := (ps.zip vs.toArray).foldl (fun tmps (p : Tmp × Value) => tmps.setIfInBounds p.1 p.2) us.toArray, defers := [] } w := by
        refine ⟨hM, ?_, rfl, rfl⟩
        have := setPs_den (e := e) (ps := ps.toList) (xs := args) (vs := vs) (tm := tm) (arr := us.toArray) hd g2
        rw [← Array.foldl_toList]
        simpa using this
      refine roundIn_of_wpIn trivial ?_
      refine wpIn_mono (hrec _ _ _ e Fr [] _ w (some n) rfl h hstart) fun ex a1 w1 hp => ?_
      obtain ⟨e1, s1, Fr1, D1, l1, b1, r1, ⟨_, gF⟩, ok1, k1⟩ := hp
      have gF := gF rfl
      subst gF
      have hblt : b < H.length := (List.getElem?_eq_some_iff.1 hi).1
      cases ex with
      | normal =>
        simp only at k1
        simp only [Exit.then]
        split at k1
        · rename_i pd1 t1 ps1 a1' b1' d1 hi1
          obtain ⟨m1, fn1, us1, dn1, q1, q2, q3, q4⟩ := ok1.models.loopAt hi1
          have hb1 := l1.blk hblt hb
          rw [hb1] at q1; cases q1
          have hM1 := ok1.models.setLoop (st' := .busy) (pd' := pd1) hi1 hb1 q2 q3 q4
          refine ⟨_, by simp only [Instr.beginRound, Sem.run_bind, run_getLoop q4, Result.andThen_ok, run_setObj (P := P) q4 (by intro c t f hc; cases hc), Sem.run_pure]; rfl, ?_⟩
          have ok1' : StOk I e1 Fr1 D1 { s1 with H := s1.H.set b (.loop .busy pd1 t1 ps1 a1' b1' d1) } a1 _ := ⟨hM1, ok1.tm, ok1.df⟩
          refine wpIn_mono (hrec _ { s1 with H := s1.H.set b (.loop .busy pd1 t1 ps1 a1' b1' d1) } _ e1 Fr1 D1 _ _ (some n) r1 k1 ok1') fun ex2 a2 w2 hp2 => ?_
          obtain ⟨e2, s2, Fr2, D2, l2, b2, r2, ⟨_, gF2⟩, ok2, k2⟩ := hp2
          have gF2 := gF2 r1
          subst gF2
          split at k2
          · rename_i st2 pd2 t2 ps2 a2' b2' d2 hi2
            obtain ⟨m2, fn2, us2, dn2, p1, p2, p3, p4⟩ := ok2.models.loopAt hi2
            have hbase1 : s1.base = H.length := b1
            have hb2 : e2 b = some (.blk n) := l2.blk (by show b < s1.base; rw [hbase1]; exact hblt) hb1
            rw [hb2] at p1; cases p1
            have hle : Le e e2 := le_of_leB hM (LeB.trans l1 (by rw [← hbase1]; exact l2))
            have hend : ∀ (j : Option Code), (Instr.endRound n j).run P w2 = .ok (.bool j.isNone) { w2 with heap := w2.heap.setIfInBounds n (.loop { state := if j.isNone then .ready else .done, pending := j, fn := fn2, tmps := us2.toArray, params := ps2, assign := a2', body := b2', defers := dn2 }) } := fun j => by
              simp only [Instr.endRound, Sem.run_bind, run_getLoop p4, Result.andThen_ok, run_setObj (P := P) p4 (by intro c t f hc; cases hc), Sem.run_pure]
            have hM2 : ∀ (st' : LoopState) (j : Option Code), Models I e2 (s2.H.set b (.loop st' j t2 ps2 a2' b2' d2)) Fr2 _ := fun st' j => ok2.models.setLoop (st' := st') (pd' := j) hi2 hb2 p2 p3 p4
            cases ex2 with
            | normal => exact ⟨_, _, hend none, _, _, e2, _, rfl, hle, hM2 .ready none, by simp [Den], k2⟩
            | ret => exact ⟨_, _, hend (some .ret), _, _, e2, _, rfl, hle, hM2 .done (some .ret), by simp [Den], k2⟩
            | exit id => exact ⟨_, _, hend (some (.exit id)), _, _, e2, _, rfl, hle, hM2 .done (some (.exit id)), by simp [Den], k2⟩
            | goto t => exact ⟨_, _, hend (some (.goto t)), _, _, e2, _, rfl, hle, hM2 .done (some (.goto t)), by simp [Den], k2⟩
            | panic c => exact k2.elim
            | outgrown => exact k2.elim
          · cases ex2 <;> exact k2.elim
        · exact k1.elim
      | exit id => exact k1.elim
      | goto t => exact k1.elim
      | ret => exact k1.elim
      | panic c => exact k1.elim
      | outgrown => exact k1.elim
    · exact h.elim
  · exact h.elim

end Go.Sym
