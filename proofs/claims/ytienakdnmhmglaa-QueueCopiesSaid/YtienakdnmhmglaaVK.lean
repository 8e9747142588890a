/- Regions that draw their order of evaluation: the facts are there. -/
import Derived.Test.YtienakdnmhmglaaVJ
set_option linter.unusedSimpArgs false
set_option linter.unusedVariables false
set_option linter.unusedSectionVars false
namespace Go.Sym
open Go
variable {τ : Type} {I : Inv τ}

theorem heapS_append {H : List (SB τ)} {pad : Nat} {E : List (Ef τ)} (ef : Ef τ) (j : Nat) (hj : j ≤ E.length) : (E ++ [ef]).take j = E.take j := by
  rw [List.take_append_of_le_length hj]

theorem EfOk.mono {cfg : Cfg τ} {H : List (SB τ)} {pad : Nat} {o : Oper} {k : Nat} {tm : List SV} {ef : Ef τ} {E E' : List (Ef τ)} {rd rd' : List (Nat × Nat)} {cl cl' al al' : List Nat} {sto sto' : Option (Nat × Nat × SB τ)}
    (h : EfOk cfg H pad o k tm ef E rd cl al sto) (hE : E'.take k = E.take k) (hr : ∀ x ∈ rd, x ∈ rd') (hc : ∀ x ∈ cl, x ∈ cl') (ha : ∀ x ∈ al, x ∈ al') (hs : ∀ x, sto = some x → sto' = some x) :
    EfOk cfg H pad o k tm ef E' rd' cl' al' sto' := by
  cases ef with
  | q x =>
    rcases h with ⟨c, h1, h2, h3⟩ | ⟨f, args, ats, g, fi, ca, fn, pc, φ, h1, h2, h3, h4, h5, h6, h7, h8, h9⟩
    · exact .inl ⟨c, h1, h2, fun b hb => hr _ (h3 b hb)⟩
    · exact .inr ⟨f, args, ats, g, fi, ca, fn, pc, φ, h1, h2, h3, h4, h5, h6, h7, h8, hc _ h9⟩
  | al b => exact ⟨h.1, ha _ h.2.1, h.2.2⟩
  | st b c =>
    obtain ⟨h1, T, a, x, off, l, T', cs, n, g1, g2, g3, g4⟩ := h
    exact ⟨hs _ h1, T, a, x, off, l, T', cs, n, g1, g2, by rw [hE]; exact g3, g4⟩
  | si b c x => exact ⟨hs _ h.1, h.2⟩

theorem Facts.snoc {cfg : Cfg τ} {H : List (SB τ)} {pad : Nat} {ops : Array Oper} {tm0 : List SV} {k : Nat} {d d' : DSt τ} {T : Nat → List SV} {o : Oper} {ef : Ef τ} {b : Bool}
    (h : Facts cfg H pad ops tm0 k d T) (ho : ops[k]? = some o) (hw : wantS ops o d.tm b) (hE : d'.E = d.E ++ [ef]) (htm : d'.tm = putS o.dst (ef.val (H.length + k)) d.tm)
    (hr : ∀ x ∈ d.rd, x ∈ d'.rd) (hc : ∀ x ∈ d.cl, x ∈ d'.cl) (ha : ∀ x ∈ d.al, x ∈ d'.al) (hs : ∀ x, d.sto = some x → d'.sto = some x)
    (hs' : ∀ s b c, d'.sto = some (s, b, c) → d.sto = some (s, b, c) ∨ (s = k ∧ (ef = .st b c ∨ ∃ x, ef = .si b c x)))
    (hef : (b = false ∧ ef = .q (.v undef)) ∨ (b = true ∧ EfOk cfg H pad o k d.tm ef d'.E d'.rd d'.cl d'.al d'.sto)) :
    Facts cfg H pad ops tm0 (k + 1) d' (fun j => if j ≤ k then T j else d'.tm) := by
  have hlen := h.len
  refine ⟨by rw [hE]; simp [hlen], by simp [h.start], (by show (if k + 1 ≤ k then _ else _) = _; rw [if_neg (by omega)]), fun j oj hj hoj => ?_, fun s b c hsto => ?_⟩
  · by_cases hjk : j = k
    · subst hjk
      rw [ho] at hoj; cases hoj
      refine ⟨ef, b, by rw [hE, ← hlen]; simp, ?_, ?_, ?_⟩
      · show (if j + 1 ≤ j then _ else _) = putS o.dst _ (if j ≤ j then _ else _)
        rw [if_neg (by omega), if_pos (Nat.le_refl j), h.stop, htm]
      · simpa [h.stop] using hw
      · simpa [h.stop] using hef
    · have hlt : j < k := by omega
      obtain ⟨ef', b', g1, g2, g3, g4⟩ := h.step j oj hlt hoj
      refine ⟨ef', b', by rw [hE]; rw [List.getElem?_append_left (by omega)]; exact g1, ?_, ?_, ?_⟩
      · simp only [show j + 1 ≤ k by omega, show j ≤ k by omega, if_true]; exact g2
      · simp only [show j ≤ k by omega, if_true]; exact g3
      · simp only [show j ≤ k by omega, if_true]
        rcases g4 with g4 | ⟨g4, g5⟩
        · exact .inl g4
        · exact .inr ⟨g4, g5.mono (by rw [hE]; exact heapS_append (H := H) (pad := pad) ef j (by omega)) hr hc ha hs⟩
  · rcases hs' s b c hsto with hh | ⟨rfl, rfl | ⟨x, rfl⟩⟩
    · obtain ⟨g1, g2⟩ := h.sto s b c hh
      exact ⟨by omega, by rw [hE, List.getElem?_append_left (by omega)]; exact g2⟩
    · exact ⟨by omega, .inl (by rw [hE, ← hlen]; simp)⟩
    · exact ⟨by omega, .inr ⟨x, by rw [hE, ← hlen]; simp⟩⟩

theorem set_eq_self {α : Type} : ∀ {l : List α} {t : Nat} {x : α}, (∀ y, l[t]? = some y → y = x) → l.set t x = l
  | [], _, _, _ => by simp
  | y :: l, 0, x, h => by simp at h; simp [h]
  | y :: l, t + 1, x, h => by simp only [List.set_cons_succ]; rw [set_eq_self (fun z hz => h z (by simpa using hz))]
theorem setB_eq {tm : List SV} {c : Operand} {b : Bool} (h : ev tm c = .v (.bool b)) : setB c b tm = tm := by
  cases c with
  | tmp t =>
    refine set_eq_self fun y hy => ?_
    simpa [ev, hy] using h
  | _ => rfl

theorem opD_facts {cfg : Cfg τ} {H : List (SB τ)} {pad : Nat} {ops : Array Oper} {tm0 : List SV} {k : Nat} {d : DSt τ} {T : Nat → List SV} {o : Oper} {K : DSt τ → Prop}
    (h : Facts cfg H pad ops tm0 k d T) (ho : ops[k]? = some o) (hw : wantS ops o d.tm true) (hd : opD cfg H pad o d K) : ∃ d' T', Facts cfg H pad ops tm0 (k + 1) d' T' ∧ K d' := by
  have hlen := h.len
  unfold opD at hd
  split at hd
  · rename_i T' a x hop
    split at hd
    · rename_i b off hsto ha
      split at hd
      · rename_i l T2 cs n hb hc hn
        split at hd
        · rename_i hcond
          refine ⟨_, _, h.snoc (d' := { d.next o.dst (H.length + d.E.length) (.st b (.cells (setAll l off cs) T2)) with sto := some (d.E.length, b, .cells (setAll l off cs) T2) }) (ef := .st b (.cells (setAll l off cs) T2)) ho hw rfl
            (by simp [DSt.next, Ef.val]) (fun _ h => h) (fun _ h => h) (fun _ h => h) (fun y hy => by rw [hsto] at hy; cases hy) (fun s b' c' he => by
              simp only [Option.some.injEq, Prod.mk.injEq] at he; obtain ⟨rfl, rfl, rfl⟩ := he; exact .inr ⟨hlen, .inl rfl⟩) (.inr ⟨rfl, ?_⟩), hd⟩
          refine ⟨by rw [hlen], T', a, x, off, l, T2, cs, n, hop, ha, ?_, hc, hn, hcond, rfl⟩
          have : (d.next o.dst (H.length + d.E.length) (.st b (.cells (setAll l off cs) T2))).E.take k = d.E := by
            show (d.E ++ [_]).take k = d.E
            rw [← hlen]; simp
          rw [this]; exact hb
        · exact hd.elim
      · exact hd.elim
    · exact hd.elim
  · rename_i T' hop
    split at hd
    · rename_i z hz hpad
      rw [Nat.blt_eq] at hpad
      exact ⟨_, _, h.snoc (d' := { d.next o.dst (H.length + d.E.length) (.al (.cells (z.cells.toList.map .v) T')) with al := d.E.length :: d.al }) (ef := .al (.cells (z.cells.toList.map .v) T')) ho hw rfl
        (by simp [DSt.next, hlen]) (fun _ h => h) (fun _ h => h) (fun _ h => List.mem_cons_of_mem _ h) (fun y hy => hy) (fun s b' c' he => .inl he)
        (.inr ⟨rfl, by omega, by rw [← hlen]; exact List.mem_cons_self, .inl ⟨T', z, hop, hz, rfl⟩⟩), hd⟩
    · exact hd.elim
  · rename_i T' y hop
    split at hd
    · rename_i l hl hpad
      rw [Nat.blt_eq] at hpad
      exact ⟨_, _, h.snoc (d' := { d.next o.dst (H.length + d.E.length) (.al (.cells l T')) with al := d.E.length :: d.al }) (ef := .al (.cells l T')) ho hw rfl
        (by simp [DSt.next, hlen]) (fun _ h => h) (fun _ h => h) (fun _ h => List.mem_cons_of_mem _ h) (fun y hy => hy) (fun s b' c' he => .inl he)
        (.inr ⟨rfl, by omega, by rw [← hlen]; exact List.mem_cons_self, .inr ⟨T', y, l, hop, hl, rfl⟩⟩), hd⟩
    · exact hd.elim
  · rename_i f args ats hop
    split at hd
    · rename_i g fi ca hcal
      split at hd
      · rename_i fn pc hfn hpc
        split at hd
        · rename_i φ x hn hb hp
          obtain ⟨hφ, hK⟩ := hd
          exact ⟨_, _, h.snoc (d' := { d.next o.dst 0 (.q x) with cl := d.E.length :: d.cl }) (ef := .q x) ho hw rfl (by simp [DSt.next, Ef.val]) (fun _ h => h) (fun _ h => List.mem_cons_of_mem _ h) (fun _ h => h) (fun y hy => hy) (fun s b' c' he => .inl he)
            (.inr ⟨rfl, .inr ⟨f, args, ats, g, fi, ca, fn, pc, φ, hop, hcal, hfn, hn, hb, hpc, hp, hφ, by rw [← hlen]; exact List.mem_cons_self⟩⟩), hK⟩
        · exact hd.elim
      · exact hd.elim
    · exact hd.elim
  · rename_i c a b hop
    split at hd
    · rename_i q hq
      have step : ∀ (bb : Bool) (y : Operand), q = bb → (y = if bb then a else b) → K ({ d with tm := setB c bb d.tm }.next o.dst 0 (.q (ev (setB c bb d.tm) y))) → ∃ d' T', Facts cfg H pad ops tm0 (k + 1) d' T' ∧ K d' := by
        intro bb y hbb hy hK
        subst hbb
        have e := setB_eq hq
        rw [e] at hK
        refine ⟨_, _, h.snoc (d' := d.next o.dst 0 (.q (ev d.tm y))) (ef := .q (ev d.tm y)) ho hw rfl (by simp [DSt.next, Ef.val]) (fun _ h => h) (fun _ h => h) (fun _ h => h) (fun y hy => hy) (fun s b' c' he => .inl he) (.inr ⟨rfl, .inl ⟨true, ?_, rfl, ?_⟩⟩), hK⟩
        · rw [hop]
          cases q <;> simp only [stepV, stepV0, hq] <;> simp [hy]
        · intro b hb; rw [hop] at hb; simp [touch] at hb
      rcases br_elim hd with ⟨hqt, hK⟩ | ⟨hqf, hK⟩
      · exact step true a hqt rfl hK
      · exact step false b hqf rfl hK
    · exact hd.elim
  · split at hd
    · rename_i c x hv
      obtain ⟨hc, hK⟩ := rq_elim hd
      cases ht : touch o.op d.tm with
      | some b =>
        rw [ht] at hK
        exact ⟨_, _, h.snoc (d' := { d.next o.dst 0 (.q x) with rd := (d.E.length, b) :: d.rd }) (ef := .q x) ho hw rfl (by simp [DSt.next, Ef.val]) (fun _ h => List.mem_cons_of_mem _ h) (fun _ h => h) (fun _ h => h) (fun y hy => hy) (fun s b' c' he => .inl he)
          (.inr ⟨rfl, .inl ⟨c, hv, hc, fun b' hb' => by rw [ht] at hb'; cases hb'; rw [← hlen]; exact List.mem_cons_self⟩⟩), hK⟩
      | none =>
        rw [ht] at hK
        exact ⟨_, _, h.snoc (d' := d.next o.dst 0 (.q x)) (ef := .q x) ho hw rfl (by simp [DSt.next, Ef.val]) (fun _ h => h) (fun _ h => h) (fun _ h => h) (fun y hy => hy) (fun s b' c' he => .inl he)
          (.inr ⟨rfl, .inl ⟨c, hv, hc, fun b' hb' => by rw [ht] at hb'; cases hb'⟩⟩), hK⟩
    · split at hd
      · rename_i b c x H' hsto hb hs
        split at hd
        · rename_i nb hnb
          obtain ⟨hc, hK⟩ := rq_elim hd
          exact ⟨_, _, h.snoc (d' := { d.next o.dst 0 (.si b nb x) with sto := some (d.E.length, b, nb) }) (ef := .si b nb x) ho hw rfl (by simp [DSt.next, Ef.val]) (fun _ h => h) (fun _ h => h) (fun _ h => h) (fun y hy => by rw [hsto] at hy; cases hy) (fun s b' c' he => by
              simp only [Option.some.injEq, Prod.mk.injEq] at he; obtain ⟨rfl, rfl, rfl⟩ := he; exact .inr ⟨hlen, .inr ⟨x, rfl⟩⟩) (.inr ⟨rfl, by rw [hlen], c, H', hb, hs, hc, hnb⟩), hK⟩
        · exact hd.elim
      · exact hd.elim

theorem drawGo_facts {cfg : Cfg τ} {H : List (SB τ)} {pad : Nat} {ops : Array Oper} {tm0 : List SV} {K : DSt τ → Prop} : ∀ (l : List Oper) (k : Nat) (d : DSt τ) (T : Nat → List SV),
    (∀ i : Nat, l[i]? = ops[k + i]?) → k + l.length = ops.size → Facts cfg H pad ops tm0 k d T → drawGo cfg H pad ops l d K → ∃ d' T', Facts cfg H pad ops tm0 ops.size d' T' ∧ K d'
  | [], k, d, T, _, hl, hf, h => ⟨d, T, by rw [← hl]; exact hf, h⟩
  | o :: rest, k, d, T, hi, hl, hf, h => by
    have ho : ops[k]? = some o := by simpa using (hi 0).symm
    have hi' : ∀ i : Nat, rest[i]? = ops[k + 1 + i]? := fun i => by have := hi (i + 1); rw [show k + 1 + i = k + (i + 1) by omega]; simpa using this
    have hl' : k + 1 + rest.length = ops.size := by simp at hl; omega
    have go : ∀ d1 : DSt τ, d1 = d → wantS ops o d.tm true → opD cfg H pad o d1 (fun d' => drawGo cfg H pad ops rest d' K) → ∃ d' T', Facts cfg H pad ops tm0 ops.size d' T' ∧ K d' := by
      intro d1 e hw hd
      subst e
      obtain ⟨d', T', hf', hK'⟩ := opD_facts hf ho hw hd
      exact drawGo_facts rest (k + 1) d' T' hi' hl' hf' hK'
    have skip : ∀ d1 : DSt τ, d1 = d → wantS ops o d.tm false → drawGo cfg H pad ops rest (d1.next o.dst 0 (.q (.v undef))) K → ∃ d' T', Facts cfg H pad ops tm0 ops.size d' T' ∧ K d' := by
      intro d1 e hw hd
      subst e
      have hf' := hf.snoc (d' := d1.next o.dst 0 (.q (.v undef))) (ef := .q (.v undef)) ho hw rfl (by simp [DSt.next, Ef.val]) (fun _ h => h) (fun _ h => h) (fun _ h => h) (fun y hy => hy) (fun s b' c' he => .inl he) (.inl ⟨rfl, rfl⟩)
      exact drawGo_facts rest (k + 1) _ _ hi' hl' hf' hd
    unfold drawGo at h
    split at h
    · rename_i hg
      exact go d rfl (by simp [wantS, hg]) h
    · rename_i j want hg
      split at h
      · exact h.elim
      · rename_i t ht
        split at h
        · exact h.elim
        · rename_i x hx
          split at h
          · rename_i hb
            exact skip d rfl (by simp only [wantS, hg]; exact ⟨t, x, ht, hx, .inl ⟨hb, by simp⟩⟩) h
          · rename_i q hb
            have hxq : x = .v (.bool q) := by
              unfold boolV at hb
              split at hb <;> simp at hb
              subst hb; rfl
            have hset : ∀ bb, q = bb → ({ d with tm := d.tm.set t (.v (.bool bb)) } : DSt τ) = d := fun bb e => by
              subst e
              have : d.tm.set t (.v (.bool q)) = d.tm := set_eq_self fun y hy => by rw [hx] at hy; cases hy; exact hxq
              rw [this]
            have hwant : ∀ bb, bb = (q == want) → wantS ops o d.tm bb := fun bb e => by
              simp only [wantS, hg]; exact ⟨t, x, ht, hx, .inr ⟨q, hb, e⟩⟩
            split at h
            · rcases br_elim h with ⟨rfl, hk⟩ | ⟨rfl, hk⟩
              · exact go _ (hset true rfl) (hwant true rfl) hk
              · exact skip _ (hset false rfl) (hwant false rfl) hk
            · rcases br_elim h with ⟨rfl, hk⟩ | ⟨rfl, hk⟩
              · exact skip _ (hset true rfl) (hwant false rfl) hk
              · exact go _ (hset false rfl) (hwant true rfl) hk
          · exact h.elim

end Go.Sym
