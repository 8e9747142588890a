/- Drawn regions with several effects, totally ordered by their edges: what the symbolic run asks of them. Whatever the order: the end is the one of the text's order. -/
import Derived.Test.YtdhhagangmkloaaVN
set_option linter.unusedSimpArgs false
set_option linter.unusedVariables false
set_option linter.unusedSectionVars false
namespace Go.Sym
open Go
variable {τ : Type} {I : Inv τ}

/-- The region's run in the text's order, recorded. -/
structure SSt (τ : Type) where
  tm : List SV
  H : List (SB τ)
  E : List SV
  HS : List (List (SB τ))
  fx : List (Nat × List Nat)
  rd : List (Nat × Nat)
def SSt.quiet (d : SSt τ) (op : Op) (dst : Option Tmp) (x : SV) : SSt τ :=
  { d with tm := putS dst x d.tm, E := d.E ++ [x], HS := d.HS ++ [d.H], rd := match touch op d.tm with
      | some b => (d.E.length, b) :: d.rd
      | none => d.rd }
def SSt.loud (d : SSt τ) (dst : Option Tmp) (x : SV) (H' : List (SB τ)) (ws : List Nat) : SSt τ :=
  { d with tm := putS dst x d.tm, H := H', E := d.E ++ [x], HS := d.HS ++ [d.H], fx := (d.E.length, ws) :: d.fx }
def SSt.skip (d : SSt τ) (dst : Option Tmp) : SSt τ :=
  { d with tm := putS dst (.v undef) d.tm, E := d.E ++ [.v undef], HS := d.HS ++ [d.H] }

/-- A path of edges: j is carried out before k. -/
def pathB (ops : Array Oper) : Nat → Nat → Nat → Bool
  | 0, _, _ => false
  | n + 1, k, j => match ops[k]? with
    | some o => o.after.toList.any fun e => Region.binds .any e && (Nat.beq e.on j || pathB ops n e.on j)
    | none => false
/-- The effects are ordered, one behind the other (the list has the last one first). -/
def chainB (ops : Array Oper) : List (Nat × List Nat) → Bool
  | [] => true
  | [_] => true
  | a :: b :: r => pathB ops ops.size a.1 b.1 && chainB ops (b :: r)
/-- Two items are the same. -/
def eqB (b b' : SB τ) : Prop :=
  match b with
  | .rows R T TS oe ep pd => match b' with
    | .rows R' T' TS' oe' ep' pd' => rq (Nat.beq T T' && Nat.beq TS TS' && pd.isNone && pd'.isNone) (oe = oe' ∧ ep = ep' ∧ (match R with
      | .i k l => match R' with
        | .i k' l' => rq (decide (k = k')) (l = l')
        | _ => False
      | .c l => match R' with
        | .c l' => l = l'
        | _ => False))
    | _ => False
  | .own c n T sz ep nn => match b' with
    | .own c' n' T' sz' ep' nn' => rq (Nat.beq T T' && Nat.beq sz sz' && (nn == nn')) (n = n' ∧ ep = ep' ∧ (match c with
      | .ints k l => match c' with
        | .ints k' l' => rq (decide (k = k')) (l = l')
        | _ => False
      | .recs l => match c' with
        | .recs l' => l = l'
        | _ => False
      | .sv _ => False))
    | _ => False
  | .cells l T => match b' with
    | .cells l' T' => rq (Nat.beq T T') (l = l')
    | _ => False
  | _ => False
theorem eqB_ok {b b' : SB τ} (h : eqB b b') : b = b' := by
  cases b with
  | rows R T TS oe ep pd =>
    cases b' with
    | rows R' T' TS' oe' ep' pd' =>
      simp only [eqB] at h
      obtain ⟨h1, rfl, rfl, h2⟩ := rq_elim h
      simp only [Bool.and_eq_true, Nat.beq_eq, Option.isNone_iff_eq_none] at h1
      obtain ⟨⟨⟨rfl, rfl⟩, rfl⟩, rfl⟩ := h1
      cases R with
      | i k l => cases R' with
        | i k' l' =>
          obtain ⟨h3, rfl⟩ := rq_elim h2
          have := of_decide_eq_true h3
          subst this; rfl
        | c l' => exact h2.elim
      | c l => cases R' with
        | i k' l' => exact h2.elim
        | c l' => have h2 : l = l' := h2; subst h2; rfl
    | _ => exact h.elim
  | own c n T sz ep nn =>
    cases b' with
    | own c' n' T' sz' ep' nn' =>
      simp only [eqB] at h
      obtain ⟨h1, rfl, rfl, h2⟩ := rq_elim h
      simp only [Bool.and_eq_true, Nat.beq_eq, beq_iff_eq] at h1
      obtain ⟨⟨rfl, rfl⟩, rfl⟩ := h1
      cases c with
      | ints k l => cases c' with
        | ints k' l' =>
          obtain ⟨h3, rfl⟩ := rq_elim h2
          have := of_decide_eq_true h3
          subst this; rfl
        | _ => exact h2.elim
      | recs l => cases c' with
        | recs l' => have h2 : l = l' := h2; subst h2; rfl
        | _ => exact h2.elim
      | sv l => exact h2.elim
    | _ => exact h.elim
  | cells l T =>
    cases b' with
    | cells l' T' =>
      simp only [eqB] at h
      obtain ⟨h1, rfl⟩ := rq_elim h
      rw [Nat.beq_eq] at h1
      subst h1; rfl
    | _ => exact h.elim
  | _ => exact h.elim
/-- A look is ordered against each effect that writes what it looks at, or finds it as it was; and what it looks at was there before each effect that it is not ordered against. -/
def looksF (ops : Array Oper) (HS : List (List (SB τ))) (He : List (SB τ)) (r : Nat × Nat) : List (Nat × List Nat) → Prop → Prop
  | [], K => K
  | f :: fs, K => match Nat.blt f.1 r.1 with
    | true => match pathB ops ops.size r.1 f.1 || (!hasN f.2 r.2 && Nat.blt r.2 (HS.getD f.1 []).length) with
      | true => looksF ops HS He r fs K
      | false => False
    | false => match pathB ops ops.size f.1 r.1 || !hasN f.2 r.2 with
      | true => looksF ops HS He r fs K
      | false => match (HS.getD (f.1 + 1) He)[r.2]?, (HS.getD f.1 [])[r.2]? with
        | some x, some y => eqB x y ∧ looksF ops HS He r fs K
        | _, _ => False
def looksQ (ops : Array Oper) (HS : List (List (SB τ))) (He : List (SB τ)) (fx : List (Nat × List Nat)) : List (Nat × Nat) → Prop → Prop
  | [], K => K
  | r :: rs, K => looksF ops HS He r fx (looksQ ops HS He fx rs K)
def LookAt (ops : Array Oper) (HS : List (List (SB τ))) (He : List (SB τ)) (r : Nat × Nat) (f : Nat × List Nat) : Prop :=
  (f.1 < r.1 → pathB ops ops.size r.1 f.1 = true ∨ (hasN f.2 r.2 = false ∧ r.2 < (HS.getD f.1 []).length)) ∧
  (¬ f.1 < r.1 → pathB ops ops.size f.1 r.1 = true ∨ hasN f.2 r.2 = false ∨ (HS.getD (f.1 + 1) He)[r.2]? = (HS.getD f.1 [])[r.2]?)
structure LookOk (ops : Array Oper) (HS : List (List (SB τ))) (He : List (SB τ)) (fx : List (Nat × List Nat)) (rd : List (Nat × Nat)) : Prop where
  h : ∀ r ∈ rd, ∀ f ∈ fx, LookAt ops HS He r f
theorem looksF_ok {ops : Array Oper} {HS : List (List (SB τ))} {He : List (SB τ)} {r : Nat × Nat} : ∀ {fx : List (Nat × List Nat)} {K : Prop}, looksF ops HS He r fx K → K ∧ ∀ f ∈ fx, LookAt ops HS He r f
  | [], _, h => ⟨h, by simp⟩
  | f :: fs, K, h => by
    have fin : looksF ops HS He r fs K → LookAt ops HS He r f → K ∧ ∀ g ∈ f :: fs, LookAt ops HS He r g := fun h1 h2 => by
      obtain ⟨h3, h4⟩ := looksF_ok h1
      refine ⟨h3, fun g hg => ?_⟩
      rcases List.mem_cons.1 hg with rfl | hg
      · exact h2
      · exact h4 g hg
    unfold looksF at h
    split at h
    · rename_i hb
      rw [Nat.blt_eq] at hb
      split at h
      · rename_i hc
        rw [Bool.or_eq_true, Bool.and_eq_true, Bool.not_eq_true', Nat.blt_eq] at hc
        exact fin h ⟨fun _ => hc, fun hn => absurd hb hn⟩
      · exact h.elim
    · rename_i hb
      have hb : ¬ f.1 < r.1 := by rw [← Nat.blt_eq, hb]; simp
      split at h
      · rename_i hc
        rw [Bool.or_eq_true, Bool.not_eq_true'] at hc
        exact fin h ⟨fun hn => absurd hn hb, fun _ => hc.imp id .inl⟩
      · split at h
        · rename_i x y hx hy
          refine fin h.2 ⟨fun hn => absurd hn hb, fun _ => .inr (.inr ?_)⟩
          rw [hx, hy, eqB_ok h.1]
        · exact h.elim
theorem looksQ_ok {ops : Array Oper} {HS : List (List (SB τ))} {He : List (SB τ)} {fx : List (Nat × List Nat)} : ∀ {rd : List (Nat × Nat)} {K : Prop}, looksQ ops HS He fx rd K → K ∧ LookOk ops HS He fx rd
  | [], _, h => ⟨h, ⟨by simp⟩⟩
  | r :: rs, K, h => by
    unfold looksQ at h
    obtain ⟨h1, h2⟩ := looksF_ok h
    obtain ⟨h3, h4⟩ := looksQ_ok h1
    refine ⟨h3, ⟨fun r' hr => ?_⟩⟩
    rcases List.mem_cons.1 hr with rfl | hr
    · exact h2
    · exact h4.h r' hr

def callA (cfg : Cfg τ) (g : Nat) (args : List SV) (H : List (SB τ)) : Alt τ :=
  match cfg.pcon g with
  | some pc => match pc args H with
    | some (φ, x) => .ask φ (.one x H [])
    | none => .bad
  | none => match cfg.acon g with
    | some ac => ac args H
    | none => .bad
def opS (cfg : Cfg τ) (o : Oper) (d : SSt τ) (K : SSt τ → Prop) : Prop :=
  match o.op with
  | .pick c a b => match ev d.tm c with
    | .v (.bool q) => br q (K ({ d with tm := setB c true d.tm }.quiet o.op o.dst (ev (setB c true d.tm) a))) (K ({ d with tm := setB c false d.tm }.quiet o.op o.dst (ev (setB c false d.tm) b)))
    | _ => False
  | .call { callee := .value f, args, .. } => match calleeS (ev d.tm f) with
    | some (g, fi, ca) => match cfg.P.funcs[g]? with
      | some fn => match fn.name == "runtime.NumGoroutine", fn.body.isNone with
        | false, false => altK (callA cfg g (fi ++ args.toList.map (ev d.tm) ++ ca) d.H) (fun x H' ws => K (d.loud o.dst x H' ws))
        | _, _ => False
      | none => False
    | none => False
  | op => match stepV cfg.P op d.tm d.H with
    | some (c, x) => rq c (K (d.quiet op o.dst x))
    | none => match stepL cfg.P op d.tm d.H with
      | some (c, x, H', ws) => rq c (K (d.loud o.dst x H' ws))
      | none => False
def seqGo (cfg : Cfg τ) (ops : Array Oper) : List Oper → SSt τ → (SSt τ → Prop) → Prop
  | [], d, K => K d
  | o :: rest, d, K => match o.guard with
    | none => opS cfg o d (fun d' => seqGo cfg ops rest d' K)
    | some (j, want) => match (ops[j]?).bind (·.dst) with
      | none => False
      | some t => match d.tm[t]? with
        | none => False
        | some x => match boolV x with
          | some none => seqGo cfg ops rest (d.skip o.dst) K
          | some (some b) => match want with
            | true => br b (opS cfg o { d with tm := d.tm.set t (.v (.bool true)) } (fun d' => seqGo cfg ops rest d' K)) (seqGo cfg ops rest ({ d with tm := d.tm.set t (.v (.bool false)) }.skip o.dst) K)
            | false => br b (seqGo cfg ops rest ({ d with tm := d.tm.set t (.v (.bool true)) }.skip o.dst) K) (opS cfg o { d with tm := d.tm.set t (.v (.bool false)) } (fun d' => seqGo cfg ops rest d' K))
          | none => False
/-- A drawn region with several effects. -/
def seqK (cfg : Cfg τ) (ops : Array Oper) (st : St τ) (K : St τ → Prop) : Prop :=
  match okD ops with
  | true => seqGo cfg ops ops.toList { tm := st.tm, H := st.H, E := [], HS := [], fx := [], rd := [] } (fun d =>
    match chainB ops d.fx with
    | true => looksQ ops d.HS d.H d.fx d.rd (K { st with tm := d.tm, H := d.H })
    | false => False)
  | false => False

/-! ### The facts -/
def SQ (cfg : Cfg τ) (o : Oper) (tm : List SV) (H : List (SB τ)) (x : SV) : Prop := ∃ c, stepV cfg.P o.op tm H = some (c, x) ∧ c = true
def SLd (cfg : Cfg τ) (o : Oper) (tm : List SV) (H : List (SB τ)) (x : SV) (H' : List (SB τ)) (ws : List Nat) : Prop :=
  (stepV cfg.P o.op tm H = none ∧ ∃ c, stepL cfg.P o.op tm H = some (c, x, H', ws) ∧ c = true) ∨
  (∃ f args ats g fi ca fn, o.op = .call { callee := .value f, args := args, argTypes := ats } ∧ calleeS (ev tm f) = some (g, fi, ca) ∧ cfg.P.funcs[g]? = some fn ∧ (fn.name == "runtime.NumGoroutine") = false ∧ fn.body.isNone = false ∧
    (callA cfg g (fi ++ args.toList.map (ev tm) ++ ca) H).pre ∧ (callA cfg g (fi ++ args.toList.map (ev tm) ++ ca) H).has x H' ws)
theorem SLd.none {cfg : Cfg τ} {o : Oper} {tm : List SV} {H H' : List (SB τ)} {x : SV} {ws : List Nat} (h : SLd cfg o tm H x H' ws) : stepV cfg.P o.op tm H = none := by
  rcases h with ⟨h, _⟩ | ⟨f, args, ats, g, fi, ca, fn, hop, _⟩
  · exact h
  · rw [hop]; rfl
structure SFacts (cfg : Cfg τ) (H0 : List (SB τ)) (ops : Array Oper) (tm0 : List SV) (k : Nat) (d : SSt τ) (T : Nat → List SV) (Hs : Nat → List (SB τ)) : Prop where
  len : d.E.length = k
  lenH : d.HS.length = k
  start : T 0 = tm0
  startH : Hs 0 = H0
  stop : T k = d.tm
  stopH : Hs k = d.H
  hist : ∀ j, j < k → d.HS[j]? = some (Hs j)
  step : ∀ j o, j < k → ops[j]? = some o → ∃ x b, d.E[j]? = some x ∧ T (j + 1) = putS o.dst x (T j) ∧ wantS ops o (T j) b ∧
    ((b = false ∧ x = .v undef ∧ Hs (j + 1) = Hs j) ∨ (b = true ∧ SQ cfg o (T j) (Hs j) x ∧ Hs (j + 1) = Hs j ∧ ∀ b, touch o.op (T j) = some b → (j, b) ∈ d.rd) ∨
      (b = true ∧ ∃ ws, SLd cfg o (T j) (Hs j) x (Hs (j + 1)) ws ∧ (j, ws) ∈ d.fx))
  fxs : ∀ f ∈ d.fx, f.1 < k ∧ ∃ o, ops[f.1]? = some o ∧ wantS ops o (T f.1) true ∧ stepV cfg.P o.op (T f.1) (Hs f.1) = none
  srt : d.fx.Pairwise fun a b => b.1 < a.1

theorem SFacts.snoc {cfg : Cfg τ} {H0 : List (SB τ)} {ops : Array Oper} {tm0 : List SV} {k : Nat} {d d' : SSt τ} {T : Nat → List SV} {Hs : Nat → List (SB τ)} {o : Oper} {x : SV} {b : Bool}
    (h : SFacts cfg H0 ops tm0 k d T Hs) (ho : ops[k]? = some o) (hw : wantS ops o d.tm b) (hE : d'.E = d.E ++ [x]) (hHS : d'.HS = d.HS ++ [d.H]) (htm : d'.tm = putS o.dst x d.tm)
    (hrd : ∀ y ∈ d.rd, y ∈ d'.rd) (hfx' : d'.fx = d.fx ∨ (b = true ∧ stepV cfg.P o.op d.tm d.H = none ∧ ∃ ws, d'.fx = (k, ws) :: d.fx))
    (hs : (b = false ∧ x = .v undef ∧ d'.H = d.H) ∨ (b = true ∧ SQ cfg o d.tm d.H x ∧ d'.H = d.H ∧ ∀ b, touch o.op d.tm = some b → (k, b) ∈ d'.rd) ∨ (b = true ∧ ∃ ws, SLd cfg o d.tm d.H x d'.H ws ∧ (k, ws) ∈ d'.fx)) :
    SFacts cfg H0 ops tm0 (k + 1) d' (fun j => if j ≤ k then T j else d'.tm) (fun j => if j ≤ k then Hs j else d'.H) := by
  have hlen := h.len
  have hlenH := h.lenH
  have hfx : ∀ y ∈ d.fx, y ∈ d'.fx := fun y hy => by
    rcases hfx' with e | ⟨_, _, _, e⟩
    · rw [e]; exact hy
    · rw [e]; exact List.mem_cons_of_mem _ hy
  refine ⟨by rw [hE]; simp [hlen], by rw [hHS]; simp [hlenH], by simp [h.start], by simp [h.startH], (by show (if k + 1 ≤ k then _ else _) = _; rw [if_neg (by omega)]), (by show (if k + 1 ≤ k then _ else _) = _; rw [if_neg (by omega)]), fun j hj => ?_, fun j oj hj hoj => ?_, fun f hf => ?_, ?_⟩
  · rw [hHS]
    simp only [show j ≤ k by omega, if_true]
    by_cases hjk : j = k
    · subst hjk; rw [← hlenH]; simp [h.stopH, hlenH]
    · rw [List.getElem?_append_left (by omega)]; exact h.hist j (by omega)
  · by_cases hjk : j = k
    · subst hjk
      rw [ho] at hoj; cases hoj
      refine ⟨x, b, by rw [hE, ← hlen]; simp, ?_, ?_, ?_⟩
      · show (if j + 1 ≤ j then _ else _) = putS o.dst _ (if j ≤ j then _ else _)
        rw [if_neg (by omega), if_pos (Nat.le_refl j), h.stop, htm]
      · simpa [h.stop] using hw
      · have e1 : (if j + 1 ≤ j then Hs (j + 1) else d'.H) = d'.H := if_neg (by omega)
        have e2 : (if j ≤ j then Hs j else d'.H) = d.H := by rw [if_pos (Nat.le_refl j), h.stopH]
        have e3 : (if j ≤ j then T j else d'.tm) = d.tm := by rw [if_pos (Nat.le_refl j), h.stop]
        simp only [e1, e2, e3]
        exact hs
    · have hlt : j < k := by omega
      obtain ⟨x', b', g1, g2, g3, g4⟩ := h.step j oj hlt hoj
      refine ⟨x', b', by rw [hE]; rw [List.getElem?_append_left (by omega)]; exact g1, ?_, ?_, ?_⟩
      · simp only [show j + 1 ≤ k by omega, show j ≤ k by omega, if_true]; exact g2
      · simp only [show j ≤ k by omega, if_true]; exact g3
      · simp only [show j + 1 ≤ k by omega, show j ≤ k by omega, if_true]
        rcases g4 with g4 | ⟨g4, g5, g6, g7⟩ | ⟨g4, ws, g5, g6⟩
        · exact .inl g4
        · exact .inr (.inl ⟨g4, g5, g6, fun b hb => hrd _ (g7 b hb)⟩)
        · exact .inr (.inr ⟨g4, ws, g5, hfx _ g6⟩)
  · have hold : f ∈ d.fx → f.1 < k + 1 ∧ ∃ o', ops[f.1]? = some o' ∧ wantS ops o' (if f.1 ≤ k then T f.1 else d'.tm) true ∧ stepV cfg.P o'.op (if f.1 ≤ k then T f.1 else d'.tm) (if f.1 ≤ k then Hs f.1 else d'.H) = none := fun hf => by
      obtain ⟨g1, o', g2, g3, g4⟩ := h.fxs f hf
      refine ⟨by omega, o', g2, ?_, ?_⟩
      · simp only [show f.1 ≤ k by omega, if_true]; exact g3
      · simp only [show f.1 ≤ k by omega, if_true]; exact g4
    rcases hfx' with e | ⟨hb, hq, ws, e⟩
    · rw [e] at hf; exact hold hf
    · rw [e] at hf
      rcases List.mem_cons.1 hf with rfl | hf
      · refine ⟨Nat.lt_succ_self k, o, ho, ?_, ?_⟩
        · simp only [Nat.le_refl, if_true]; rw [h.stop, ← hb]; exact hw
        · simp only [Nat.le_refl, if_true]; rw [h.stop, h.stopH]; exact hq
      · exact hold hf
  · rcases hfx' with e | ⟨_, _, _, e⟩
    · rw [e]; exact h.srt
    · rw [e]; exact List.pairwise_cons.2 ⟨fun y hy => (h.fxs y hy).1, h.srt⟩

theorem SFacts.quieted {cfg : Cfg τ} {H0 : List (SB τ)} {ops : Array Oper} {tm0 : List SV} {k : Nat} {d : SSt τ} {T : Nat → List SV} {Hs : Nat → List (SB τ)} {o : Oper} {x : SV}
    (h : SFacts cfg H0 ops tm0 k d T Hs) (ho : ops[k]? = some o) (hw : wantS ops o d.tm true) (hs : SQ cfg o d.tm d.H x) :
    ∃ T' Hs', SFacts cfg H0 ops tm0 (k + 1) (d.quiet o.op o.dst x) T' Hs' := by
  refine ⟨_, _, h.snoc (x := x) (b := true) ho hw rfl rfl rfl (fun y hy => ?_) (.inl rfl) (.inr (.inl ⟨rfl, hs, rfl, fun b hb => ?_⟩))⟩
  · unfold SSt.quiet; simp only; split
    · exact List.mem_cons_of_mem _ hy
    · exact hy
  · unfold SSt.quiet; simp only; rw [hb, h.len]; exact List.mem_cons_self
theorem SFacts.louded {cfg : Cfg τ} {H0 : List (SB τ)} {ops : Array Oper} {tm0 : List SV} {k : Nat} {d : SSt τ} {T : Nat → List SV} {Hs : Nat → List (SB τ)} {o : Oper} {x : SV} {H' : List (SB τ)} {ws : List Nat}
    (h : SFacts cfg H0 ops tm0 k d T Hs) (ho : ops[k]? = some o) (hw : wantS ops o d.tm true) (hs : SLd cfg o d.tm d.H x H' ws) :
    ∃ T' Hs', SFacts cfg H0 ops tm0 (k + 1) (d.loud o.dst x H' ws) T' Hs' := by
  have hk : (d.loud o.dst x H' ws).fx = (k, ws) :: d.fx := by unfold SSt.loud; simp only; rw [h.len]
  exact ⟨_, _, h.snoc (x := x) (b := true) ho hw rfl rfl rfl (fun y hy => hy) (.inr ⟨rfl, hs.none, ws, hk⟩) (.inr (.inr ⟨rfl, ws, hs, by rw [hk]; exact List.mem_cons_self⟩))⟩
theorem SFacts.skipped {cfg : Cfg τ} {H0 : List (SB τ)} {ops : Array Oper} {tm0 : List SV} {k : Nat} {d : SSt τ} {T : Nat → List SV} {Hs : Nat → List (SB τ)} {o : Oper}
    (h : SFacts cfg H0 ops tm0 k d T Hs) (ho : ops[k]? = some o) (hw : wantS ops o d.tm false) :
    ∃ T' Hs', SFacts cfg H0 ops tm0 (k + 1) (d.skip o.dst) T' Hs' :=
  ⟨_, _, h.snoc (x := .v undef) (b := false) ho hw rfl rfl rfl (fun _ hy => hy) (.inl rfl) (.inl ⟨rfl, rfl, rfl⟩)⟩

theorem opS_facts {cfg : Cfg τ} {H0 : List (SB τ)} {ops : Array Oper} {tm0 : List SV} {k : Nat} {d : SSt τ} {T : Nat → List SV} {Hs : Nat → List (SB τ)} {o : Oper} {K : SSt τ → Prop}
    (h : SFacts cfg H0 ops tm0 k d T Hs) (ho : ops[k]? = some o) (hw : wantS ops o d.tm true) (hd : opS cfg o d K) : ∃ d' T' Hs', SFacts cfg H0 ops tm0 (k + 1) d' T' Hs' ∧ K d' := by
  unfold opS at hd
  split at hd
  · rename_i c a b hop
    split at hd
    · rename_i q hq
      have step : ∀ (bb : Bool) (y : Operand), q = bb → (y = if bb then a else b) → K ({ d with tm := setB c bb d.tm }.quiet o.op o.dst (ev (setB c bb d.tm) y)) → ∃ d' T' Hs', SFacts cfg H0 ops tm0 (k + 1) d' T' Hs' ∧ K d' := by
        intro bb y hbb hy hK
        subst hbb
        have e := setB_eq hq
        rw [e] at hK
        obtain ⟨T', Hs', hf⟩ := h.quieted ho hw (x := ev d.tm y) ⟨true, by rw [hop]; cases q <;> simp only [stepV, stepV0, hq] <;> simp [hy], rfl⟩
        exact ⟨_, T', Hs', hf, hK⟩
      rcases br_elim hd with ⟨hqt, hK⟩ | ⟨hqf, hK⟩
      · exact step true a hqt rfl hK
      · exact step false b hqf rfl hK
    · exact hd.elim
  · rename_i f args ats hop
    split at hd
    · rename_i g fi ca hcal
      split at hd
      · rename_i fn hfn
        split at hd
        · rename_i hn hb
          obtain ⟨x, H', ws, hh, hK⟩ := altK_some hd
          obtain ⟨T', Hs', hf⟩ := h.louded ho hw (.inr ⟨f, args, ats, g, fi, ca, fn, hop, hcal, hfn, hn, hb, altK_pre hd, hh⟩)
          exact ⟨_, T', Hs', hf, hK⟩
        · exact hd.elim
      · exact hd.elim
    · exact hd.elim
  · split at hd
    · rename_i c x hv
      obtain ⟨hc, hK⟩ := rq_elim hd
      obtain ⟨T', Hs', hf⟩ := h.quieted ho hw (x := x) ⟨c, hv, hc⟩
      exact ⟨_, T', Hs', hf, hK⟩
    · rename_i hv
      split at hd
      · rename_i c x H' ws hl
        obtain ⟨hc, hK⟩ := rq_elim hd
        obtain ⟨T', Hs', hf⟩ := h.louded ho hw (.inl ⟨hv, c, hl, hc⟩)
        exact ⟨_, T', Hs', hf, hK⟩
      · exact hd.elim

theorem seqGo_facts {cfg : Cfg τ} {H0 : List (SB τ)} {ops : Array Oper} {tm0 : List SV} {K : SSt τ → Prop} : ∀ (l : List Oper) (k : Nat) (d : SSt τ) (T : Nat → List SV) (Hs : Nat → List (SB τ)),
    (∀ i : Nat, l[i]? = ops[k + i]?) → k + l.length = ops.size → SFacts cfg H0 ops tm0 k d T Hs → seqGo cfg ops l d K → ∃ d' T' Hs', SFacts cfg H0 ops tm0 ops.size d' T' Hs' ∧ K d'
  | [], k, d, T, Hs, _, hl, hf, h => ⟨d, T, Hs, by rw [← hl]; exact hf, h⟩
  | o :: rest, k, d, T, Hs, hi, hl, hf, h => by
    have ho : ops[k]? = some o := by simpa using (hi 0).symm
    have hi' : ∀ i : Nat, rest[i]? = ops[k + 1 + i]? := fun i => by have := hi (i + 1); rw [show k + 1 + i = k + (i + 1) by omega]; simpa using this
    have hl' : k + 1 + rest.length = ops.size := by simp at hl; omega
    have go : ∀ d1 : SSt τ, d1 = d → wantS ops o d.tm true → opS cfg o d1 (fun d' => seqGo cfg ops rest d' K) → ∃ d' T' Hs', SFacts cfg H0 ops tm0 ops.size d' T' Hs' ∧ K d' := by
      intro d1 e hw hd
      subst e
      obtain ⟨d', T', Hs', hf', hK'⟩ := opS_facts hf ho hw hd
      exact seqGo_facts rest (k + 1) d' T' Hs' hi' hl' hf' hK'
    have skip : ∀ d1 : SSt τ, d1 = d → wantS ops o d.tm false → seqGo cfg ops rest (d1.skip o.dst) K → ∃ d' T' Hs', SFacts cfg H0 ops tm0 ops.size d' T' Hs' ∧ K d' := by
      intro d1 e hw hd
      subst e
      obtain ⟨T', Hs', hf'⟩ := hf.skipped ho hw
      exact seqGo_facts rest (k + 1) _ T' Hs' hi' hl' hf' hd
    unfold seqGo at h
    split at h
    · rename_i hg
      exact go d rfl (by simp [wantS, hg]) h
    · rename_i j want hg
      split at h
      · exact h.elim
      · rename_i t ht
        split at h
        · exact h.elim
        · rename_i x hx
          split at h
          · rename_i hb
            exact skip d rfl (by simp only [wantS, hg]; exact ⟨t, x, ht, hx, .inl ⟨hb, by simp⟩⟩) h
          · rename_i q hb
            have hxq : x = .v (.bool q) := by
              unfold boolV at hb
              split at hb <;> simp at hb
              subst hb; rfl
            have hset : ∀ bb, q = bb → ({ d with tm := d.tm.set t (.v (.bool bb)) } : SSt τ) = d := fun bb e => by
              subst e
              have : d.tm.set t (.v (.bool q)) = d.tm := set_eq_self fun y hy => by rw [hx] at hy; cases hy; exact hxq
              rw [this]
            have hwant : ∀ bb, bb = (q == want) → wantS ops o d.tm bb := fun bb e => by
              simp only [wantS, hg]; exact ⟨t, x, ht, hx, .inr ⟨q, hb, e⟩⟩
            split at h
            · rcases br_elim h with ⟨rfl, hk⟩ | ⟨rfl, hk⟩
              · exact go _ (hset true rfl) (hwant true rfl) hk
              · exact skip _ (hset false rfl) (hwant false rfl) hk
            · rcases br_elim h with ⟨rfl, hk⟩ | ⟨rfl, hk⟩
              · exact skip _ (hset true rfl) (hwant false rfl) hk
              · exact go _ (hset false rfl) (hwant true rfl) hk
          · exact h.elim

/-! ### Paths -/
theorem path_closed {ops : Array Oper} {p : Nat → Bool} (hc : Closed ops p) : ∀ (n k j : Nat), pathB ops n k j = true → p k = true → p j = true
  | 0, _, _, h, _ => by simp [pathB] at h
  | n + 1, k, j, h, hk => by
    unfold pathB at h
    split at h
    · rename_i o ho
      rw [List.any_eq_true] at h
      obtain ⟨ed, hed, hb⟩ := h
      simp only [Bool.and_eq_true, Bool.or_eq_true, Nat.beq_eq] at hb
      have hp := hc k o ho hk ed hed hb.1
      rcases hb.2 with e | e
      · rw [← e]; exact hp
      · exact path_closed hc n ed.on j e hp
    · cases h
/-- The first step of a path from an operation that is about to be carried out. -/
theorem path_ready {ops : Array Oper} {p : Nat → Bool} (hc : Closed ops p) {n k j : Nat} {o : Oper} (ho : ops[k]? = some o) (hdeps : ∀ ed ∈ o.after.toList, Region.binds .any ed = true → p ed.on = true) (h : pathB ops n k j = true) : p j = true := by
  cases n with
  | zero => simp [pathB] at h
  | succ n =>
    unfold pathB at h
    rw [ho] at h
    simp only [List.any_eq_true] at h
    obtain ⟨ed, hed, hb⟩ := h
    simp only [Bool.and_eq_true, Bool.or_eq_true, Nat.beq_eq] at hb
    have hp := hdeps ed hed hb.1
    rcases hb.2 with e | e
    · rw [← e]; exact hp
    · exact path_closed hc n ed.on j e hp
theorem chain_tail {ops : Array Oper} {p : Nat → Bool} (hc : Closed ops p) : ∀ {fx : List (Nat × List Nat)} {a : Nat × List Nat}, chainB ops (a :: fx) = true → p a.1 = true → ∀ b ∈ fx, p b.1 = true
  | [], _, _, _, _, hb => by cases hb
  | c :: r, a, h, ha, b, hb => by
    simp only [chainB, Bool.and_eq_true] at h
    have hcp := path_closed hc _ _ _ h.1 ha
    rcases List.mem_cons.1 hb with rfl | hb
    · exact hcp
    · exact chain_tail hc h.2 hcp b hb
/-- Of two effects the one ahead has been carried out, if the other one has. -/
theorem chain_before {ops : Array Oper} {p : Nat → Bool} (hc : Closed ops p) : ∀ {fx : List (Nat × List Nat)}, chainB ops fx = true → fx.Pairwise (fun a b => b.1 < a.1) → ∀ a ∈ fx, ∀ b ∈ fx, b.1 < a.1 → p a.1 = true → p b.1 = true
  | [], _, _, _, ha, _, _, _, _ => by cases ha
  | c :: r, h, hs, a, ha, b, hb, hlt, hp => by
    rw [List.pairwise_cons] at hs
    rcases List.mem_cons.1 ha with rfl | ha2
    · rcases List.mem_cons.1 hb with rfl | hb
      · omega
      · exact chain_tail hc h hp b hb
    · rcases List.mem_cons.1 hb with rfl | hb2
      · have := hs.1 a ha2; omega
      · refine chain_before hc ?_ hs.2 a ha2 b hb2 hlt hp
        cases r with
        | nil => rfl
        | cons d r => simp only [chainB, Bool.and_eq_true] at h; exact h.2

/-! ### Slots -/
def SSt.ES (d : SSt τ) : List (Ef τ) := d.E.map .q
section
variable {cfg : Cfg τ} {H0 : List (SB τ)} {ops : Array Oper} {tm0 : List SV} {n : Nat} {d : SSt τ} {T : Nat → List SV} {Hs : Nat → List (SB τ)}
theorem factsS_T (h : SFacts cfg H0 ops tm0 n d T Hs) (hn : n ≤ ops.size) : ∀ k, k ≤ n → T k = foldT ops d.ES 0 (fun _ => true) tm0 k
  | 0, _ => h.start
  | k + 1, hk => by
    have ho : ops[k]? = some ops[k] := by simp [show k < ops.size by omega]
    obtain ⟨x, b, h1, h2, _⟩ := h.step k _ (by omega) ho
    have hE : d.ES[k]? = some (.q x) := by simp [SSt.ES, h1]
    rw [h2, foldT]
    simp only [ho, hE, Ef.val]
    rw [factsS_T h hn k (by omega)]
theorem slotsS_read (hf : SFacts cfg H0 ops tm0 ops.size d T Hs) (hok : okD ops = true) {p : Nat → Bool} (hcl : Closed ops p) {k : Nat} {o : Oper} (ho : ops[k]? = some o) (hk : p k = false)
    (hdeps : ∀ ed ∈ o.after.toList, Region.binds .any ed = true → p ed.on = true) {t : Tmp} (ht : t ∈ o.looksAt ops) : (foldT ops d.ES 0 p tm0 ops.size)[t]? = (T k)[t]? := by
  have hkn : k < ops.size := (Array.getElem?_eq_some_iff.1 ho).1
  rw [factsS_T hf (Nat.le_refl _) k (by omega), ← foldT_stop ops.size (by omega)]
  refine foldT_slot _ fun j oj hj hoj hd => ?_
  by_cases hjk : j = k
  · subst hjk; simp [hk]
  · rcases (okD_pair hok ho hoj hjk hd).1 ht with ⟨h1, h2⟩ | ⟨h1, h2⟩
    · obtain ⟨o', ed, ho', h3, h4, h5⟩ := edge_dep h2
      rw [ho] at ho'; cases ho'
      have := hdeps ed h3 h4
      rw [h5] at this
      simp [this, h1]
    · have : p j = false := by
        cases hp : p j with
        | false => rfl
        | true => rw [hcl.edge h2 hp] at hk; cases hk
      simp [this]; omega
/-- Between two effects the heap stays. -/
theorem Hs_const (hf : SFacts cfg H0 ops tm0 ops.size d T Hs) {a : Nat} : ∀ b, a ≤ b → b ≤ ops.size → (∀ f ∈ d.fx, ¬ (a ≤ f.1 ∧ f.1 < b)) → Hs b = Hs a
  | 0, h, _, _ => by rw [Nat.le_zero.1 h]
  | b + 1, h, hb, hno => by
    by_cases he : a = b + 1
    · rw [he]
    · rw [← Hs_const hf b (by omega) (by omega) fun f hf' hh => hno f hf' ⟨hh.1, by omega⟩]
      have ho : ops[b]? = some ops[b] := by simp [show b < ops.size by omega]
      obtain ⟨x, bb, _, _, _, h4⟩ := hf.step b _ (by omega) ho
      rcases h4 with ⟨_, _, h5⟩ | ⟨_, _, h5, _⟩ | ⟨_, ws, _, h6⟩
      · exact h5
      · exact h5
      · exact absurd ⟨by omega, Nat.lt_succ_self b⟩ (hno _ h6)
/-- The first effect from a place on. -/
theorem next_fx (fx : List (Nat × List Nat)) (m : Nat) : ∀ (gap a : Nat), a + gap = m → (∀ f ∈ fx, f.1 < m) → ∃ K, a ≤ K ∧ K ≤ m ∧ (∀ f ∈ fx, a ≤ f.1 → K ≤ f.1) ∧ (K < m → ∃ f ∈ fx, f.1 = K)
  | 0, a, h, hlt => ⟨a, Nat.le_refl a, by omega, fun f _ h => h, fun h' => by omega⟩
  | gap + 1, a, h, hlt => by
    by_cases hx : ∃ f ∈ fx, f.1 = a
    · exact ⟨a, Nat.le_refl a, by omega, fun f _ h => h, fun _ => hx⟩
    · obtain ⟨K, h1, h2, h3, h4⟩ := next_fx fx m gap (a + 1) (by omega) hlt
      refine ⟨K, by omega, h2, fun f hf haf => h3 f hf ?_, h4⟩
      rcases Nat.lt_or_ge a f.1 with h | h
      · exact h
      · exact absurd ⟨f, hf, by omega⟩ hx
end
/-- What is said of the state when the operations of p have been carried out. -/
structure MidS (I : Inv τ) (e0 : Env) (Fr : PH) (st : St τ) (ops : Array Oper) (d : SSt τ) (Hs : Nat → List (SB τ)) (p : Nat → Bool) (e : Env) (a : Act) (w : World) : Prop where
  le : Le e0 e
  tm : DenL e (foldT ops d.ES 0 p st.tm ops.size) a.tmps.toList
  df : DfOk e st.df a.defers
  closed : Closed ops p
  models : ∃ K, K ≤ ops.size ∧ (∀ f ∈ d.fx, p f.1 = true ↔ f.1 < K) ∧ (K < ops.size → ∃ f ∈ d.fx, f.1 = K) ∧ Models I e (Hs K) Fr w
theorem wantS_det {ops : Array Oper} {o : Oper} {tm : List SV} (h : wantS ops o tm true) (h' : wantS ops o tm false) : False := by
  unfold wantS at h h'
  split at h
  · rename_i hg; simp [hg] at h'
  · rename_i j wt hg
    simp only [hg] at h'
    obtain ⟨t, x, h1, h2, h3⟩ := h
    obtain ⟨t', x', g1, g2, g3⟩ := h'
    rw [h1] at g1; cases g1
    rw [h2] at g2; cases g2
    rcases h3 with ⟨_, h3⟩ | ⟨q, h3, h4⟩
    · cases h3
    · rcases g3 with ⟨g3, _⟩ | ⟨q', g3, g4⟩
      · rw [h3] at g3; cases g3
      · rw [h3] at g3
        simp only [Option.some.injEq] at g3
        subst g3
        rw [← h4] at g4; cases g4
section
variable {cfg : Cfg τ} {ops : Array Oper} {st : St τ} {d : SSt τ} {T : Nat → List SV} {Hs : Nat → List (SB τ)} {e0 e : Env} {Fr : PH} {a : Act} {w : World} {p p' : Nat → Bool} {k : Nat} {o : Oper}
/-- An operation that is no effect: the heap stays. -/
theorem midS_same (hok : okD ops = true) (hM : MidS I e0 Fr st ops d Hs p e a w) (ho : ops[k]? = some o) (hk : p k = false)
    (hdeps : ∀ ed ∈ o.after.toList, Region.binds .any ed = true → p ed.on = true) (hp : ∀ j, p' j = (p j || Nat.beq j k)) {x : SV} (he : d.E[k]? = some x) {v : Value} (hd : Den e x v) (hne : ∀ f ∈ d.fx, f.1 ≠ k) {w' : World}
    (hmods : ∃ K, K ≤ ops.size ∧ (∀ f ∈ d.fx, p f.1 = true ↔ f.1 < K) ∧ (K < ops.size → ∃ f ∈ d.fx, f.1 = K) ∧ Models I e (Hs K) Fr w') :
    MidS I e0 Fr st ops d Hs p' e (a.put o.dst v) w' := by
  have hE : d.ES[k]? = some (.q x) := by simp [SSt.ES, he]
  obtain ⟨K, h1, h2, h3, h4⟩ := hmods
  refine ⟨hM.le, ?_, by rw [put_defers]; exact hM.df, mid_closed hM.closed hp ho hdeps, K, h1, fun f hf => ?_, h3, h4⟩
  · rw [slots_put hok ho hE hk hp]
    exact put_den o.dst hM.tm hd
  · have : Nat.beq f.1 k = false := by
      cases hq : Nat.beq f.1 k with
      | false => rfl
      | true => rw [Nat.beq_eq] at hq; exact absurd hq (hne f hf)
    rw [hp, this, Bool.or_false]
    exact h2 f hf
/-- An effect: all effects ahead of it have been carried out, none behind it. -/
theorem midS_at (hch : chainB ops d.fx = true) (hf : SFacts cfg st.H ops st.tm ops.size d T Hs) (hM : MidS I e0 Fr st ops d Hs p e a w) (ho : ops[k]? = some o) (hk : p k = false)
    (hdeps : ∀ ed ∈ o.after.toList, Region.binds .any ed = true → p ed.on = true) {wr : List Nat} (hin : (k, wr) ∈ d.fx) : Models I e (Hs k) Fr w ∧ (∀ f ∈ d.fx, p f.1 = true ↔ f.1 < k) := by
  obtain ⟨K, h1, h2, h3, h4⟩ := hM.models
  have hkn : k < ops.size := (Array.getElem?_eq_some_iff.1 ho).1
  have hKk : K ≤ k := by
    rcases Nat.lt_or_ge k K with h | h
    · rw [(h2 _ hin).2 h] at hk; cases hk
    · exact h
  have hkK : K = k := by
    rcases Nat.lt_or_ge K k with h | h
    · exfalso
      obtain ⟨f, hff, hfK⟩ := h3 (by omega)
      -- the chain leads from k to f
      have hpf : p f.1 = true := by
        have : ∀ (fx : List (Nat × List Nat)), chainB ops fx = true → fx.Pairwise (fun a b => b.1 < a.1) → (k, wr) ∈ fx → f ∈ fx → f.1 < k → p f.1 = true := by
          intro fx
          induction fx with
          | nil => intro _ _ hh; cases hh
          | cons c r ih =>
            intro hc hs hin hff hlt
            rw [List.pairwise_cons] at hs
            have hcr : chainB ops r = true := by
              cases r with
              | nil => rfl
              | cons d' r' => simp only [chainB, Bool.and_eq_true] at hc; exact hc.2
            rcases List.mem_cons.1 hin with e1 | hin2
            · subst e1
              rcases List.mem_cons.1 hff with e2 | hff2
              · subst e2; simp at hlt
              · cases r with
                | nil => cases hff2
                | cons d' r' =>
                  simp only [chainB, Bool.and_eq_true] at hc
                  have hd' : p d'.1 = true := path_ready hM.closed ho hdeps hc.1
                  rcases List.mem_cons.1 hff2 with e3 | hff3
                  · subst e3; exact hd'
                  · exact chain_tail hM.closed hc.2 hd' f hff3
            · rcases List.mem_cons.1 hff with e2 | hff2
              · subst e2
                have := hs.1 _ hin2
                simp only at this; omega
              · exact ih hcr hs.2 hin2 hff2 hlt
        exact this d.fx hch hf.srt hin hff (by omega)
      have := (h2 f hff).1 hpf
      omega
    · omega
  subst hkK
  exact ⟨h4, h2⟩
/-- Behind an effect. -/
theorem midS_next (hok : okD ops = true) (hf : SFacts cfg st.H ops st.tm ops.size d T Hs) (hM : MidS I e0 Fr st ops d Hs p e a w) (ho : ops[k]? = some o) (hk : p k = false)
    (hdeps : ∀ ed ∈ o.after.toList, Region.binds .any ed = true → p ed.on = true) (hp : ∀ j, p' j = (p j || Nat.beq j k)) (hlt : ∀ f ∈ d.fx, p f.1 = true ↔ f.1 < k) {x : SV} (he : d.E[k]? = some x) {v : Value} {e' : Env} {w' : World} (hle : Le e e')
    (hm : Models I e' (Hs (k + 1)) Fr w') (hd : Den e' x v) : MidS I e0 Fr st ops d Hs p' e' (a.put o.dst v) w' := by
  have hE : d.ES[k]? = some (.q x) := by simp [SSt.ES, he]
  have hkn : k < ops.size := (Array.getElem?_eq_some_iff.1 ho).1
  obtain ⟨K, h1, h2, h3, h4⟩ := next_fx d.fx ops.size (ops.size - (k + 1)) (k + 1) (by omega) fun f hff => (hf.fxs f hff).1
  refine ⟨hM.le.trans hle, ?_, by rw [put_defers]; exact hM.df.mono hle, mid_closed hM.closed hp ho hdeps, K, h2, fun f hff => ?_, h4, ?_⟩
  · rw [slots_put hok ho hE hk hp]
    exact put_den o.dst (hM.tm.mono hle) hd
  · rw [hp, Bool.or_eq_true, Nat.beq_eq, hlt f hff]
    constructor
    · intro h; omega
    · intro h
      rcases Nat.lt_or_ge f.1 (k + 1) with h' | h'
      · omega
      · have := h3 f hff h'; omega
  · rw [Hs_const hf K h1 h2 fun f hff hh => by have := h3 f hff hh.1; omega]
    exact hm
end

theorem SLd.keeps {cfg : Cfg τ} (hc : ∀ g ac, cfg.acon g = some ac → AConOk I cfg.P g ac) {o : Oper} {tm : List SV} {H H' : List (SB τ)} {x : SV} {ws : List Nat} {b : Nat} (h : SLd cfg o tm H x H' ws) (hw : hasN ws b = false) (hb : b < H.length) : H'[b]? = H[b]? ∧ H.length ≤ H'.length := by
  rcases h with ⟨_, c, h, _⟩ | ⟨f, args, ats, g, fi, ca, fn, hop, hcal, hfn, hn, hbd, hpre, hhas⟩
  · exact stepL_keeps h hw hb
  · unfold callA at hhas
    split at hhas
    · split at hhas
      · obtain ⟨_, rfl, _⟩ := hhas; exact ⟨rfl, Nat.le_refl _⟩
      · exact hhas.elim
    · split at hhas
      · rename_i ac hac; exact (hc g ac hac).keeps _ _ _ _ _ _ hhas hw hb
      · exact hhas.elim

section
variable {cfg : Cfg τ} {ops : Array Oper} {st : St τ} {d : SSt τ} {T : Nat → List SV} {Hs : Nat → List (SB τ)} {e0 e : Env} {Fr : PH} {a : Act} {w : World} {p p' : Nat → Bool} {k : Nat} {o : Oper}
theorem keep_step (hac : ∀ g ac, cfg.acon g = some ac → AConOk I cfg.P g ac) (hf : SFacts cfg st.H ops st.tm ops.size d T Hs) {m b : Nat} (hm : m < ops.size) (hb : b < (Hs m).length) (hx : ∀ f ∈ d.fx, f.1 = m → hasN f.2 b = false ∨ (Hs (f.1 + 1))[b]? = (Hs f.1)[b]?) : (Hs (m + 1))[b]? = (Hs m)[b]? := by
  have ho : ops[m]? = some ops[m] := by simp [hm]
  obtain ⟨x, bb, _, _, _, h4⟩ := hf.step m _ hm ho
  rcases h4 with ⟨_, _, h5⟩ | ⟨_, _, h5, _⟩ | ⟨_, ws, h5, h6⟩
  · rw [h5]
  · rw [h5]
  · rcases hx _ h6 rfl with h7 | h7
    · exact (h5.keeps hac h7 hb).1
    · exact h7
theorem keep_range (hac : ∀ g ac, cfg.acon g = some ac → AConOk I cfg.P g ac) (hf : SFacts cfg st.H ops st.tm ops.size d T Hs) {b i : Nat} : ∀ c, i ≤ c → c ≤ ops.size → b < (Hs i).length → (∀ f ∈ d.fx, i ≤ f.1 → f.1 < c → hasN f.2 b = false ∨ (Hs (f.1 + 1))[b]? = (Hs f.1)[b]?) → (Hs c)[b]? = (Hs i)[b]?
  | 0, h, _, _, _ => by rw [Nat.le_zero.1 h]
  | c + 1, h, hc, hb, hx => by
    by_cases he : i = c + 1
    · rw [he]
    · have h1 := keep_range hac hf c (by omega) (by omega) hb fun f hff h3 h4 => hx f hff h3 (by omega)
      have hb2 : b < (Hs c).length := by
        rw [List.getElem?_eq_getElem hb] at h1
        exact (List.getElem?_eq_some_iff.1 h1).1
      have h5 := keep_step hac hf (m := c) (b := b) (by omega) hb2 fun f hff h3 => hx f hff (by omega) (by omega)
      exact h5.trans h1
/-- What a quiet operation looks at is there, as it was, whenever it comes up. -/
theorem look_ok (hac : ∀ g ac, cfg.acon g = some ac → AConOk I cfg.P g ac) (hf : SFacts cfg st.H ops st.tm ops.size d T Hs) (hl : LookOk ops d.HS d.H d.fx d.rd) (hc : Closed ops p) (ho : ops[k]? = some o) (hk : p k = false)
    (hdeps : ∀ ed ∈ o.after.toList, Region.binds .any ed = true → p ed.on = true) {b : Nat} (hrd : (k, b) ∈ d.rd) (hne : ∀ f ∈ d.fx, f.1 ≠ k) {K : Nat} (h1 : K ≤ ops.size) (h2 : ∀ f ∈ d.fx, p f.1 = true ↔ f.1 < K) (h3 : K < ops.size → ∃ f ∈ d.fx, f.1 = K)
    {it : SB τ} (hit : (Hs k)[b]? = some it) : (Hs K)[b]? = some it := by
  have hkn : k < ops.size := (Array.getElem?_eq_some_iff.1 ho).1
  have hl := hl.h (k, b) hrd
  rcases Nat.lt_or_ge K k with hKk | hkK
  · have key : ∀ f ∈ d.fx, K ≤ f.1 → f.1 < k → hasN f.2 b = false ∧ b < (Hs f.1).length := fun f hff h4 h5 => by
      have := (hl f hff).1 h5
      rcases this with hpath | ⟨h6, h7⟩
      · have hp := path_ready hc ho hdeps hpath
        have := (h2 f hff).1 hp
        omega
      · refine ⟨h6, ?_⟩
        have hh := hf.hist f.1 (by omega)
        simpa [List.getD, hh] using h7
    obtain ⟨f0, hf0, hfK⟩ := h3 (by omega)
    have hlen : b < (Hs K).length := by
      have := (key f0 hf0 (by omega) (by omega)).2
      rw [hfK] at this; exact this
    have := keep_range hac hf k (by omega) (by omega) hlen fun f hff h4 h5 => .inl (key f hff h4 h5).1
    rw [← this]; exact hit
  · have hlen : b < (Hs k).length := (List.getElem?_eq_some_iff.1 hit).1
    have := keep_range hac hf K hkK h1 hlen fun f hff h4 h5 => by
      rcases (hl f hff).2 (by omega) with hpath | h6 | h6
      · have hp := path_closed hc _ _ _ hpath ((h2 f hff).2 h5)
        rw [hp] at hk; cases hk
      · exact .inl h6
      · right
        have hfl := (hf.fxs f hff).1
        have e1 : d.HS.getD f.1 [] = Hs f.1 := by rw [List.getD, hf.hist f.1 hfl]; rfl
        have e2 : d.HS.getD (f.1 + 1) d.H = Hs (f.1 + 1) := by
          rw [List.getD]
          rcases Nat.lt_or_ge (f.1 + 1) ops.size with h7 | h7
          · rw [hf.hist _ h7]; rfl
          · rw [List.getElem?_eq_none (by rw [hf.lenH]; exact h7)]
            have : f.1 + 1 = ops.size := by omega
            rw [this, hf.stopH]; rfl
        rw [e1, e2] at h6
        exact h6
    rw [this]; exact hit
end

/-- One operation of such a region, wherever it comes up. -/
theorem seq_step {cfg : Cfg τ} (hpc : ∀ g pc, cfg.pcon g = some pc → PConOk I cfg.P g pc) (hac : ∀ g ac, cfg.acon g = some ac → AConOk I cfg.P g ac) {ops : Array Oper} {st : St τ} {d : SSt τ} {T : Nat → List SV} {Hs : Nat → List (SB τ)} {e0 e : Env} {Fr : PH} {a : Act} {w : World} {p p' : Nat → Bool} {k : Nat} {r : Option Nat}
    {Q : Exit → Act → World → Prop} {K : Act → World → Prop} (hok : okD ops = true) (hch : chainB ops d.fx = true) (hlk : LookOk ops d.HS d.H d.fx d.rd) (hf : SFacts cfg st.H ops st.tm ops.size d T Hs) (hM : MidS I e0 Fr st ops d Hs p e a w) {o : Oper} (ho : ops[k]? = some o) (hk : p k = false)
    (hdeps : ∀ ed ∈ o.after.toList, Region.binds .any ed = true → p ed.on = true) (hp : ∀ j, p' j = (p j || Nat.beq j k)) (hK : ∀ e' a' w', MidS I e0 Fr st ops d Hs p' e' a' w' → K a' w') : wpOpIn (FF r) 0 cfg.P ops Q k K a w := by
  have hkn : k < ops.size := (Array.getElem?_eq_some_iff.1 ho).1
  obtain ⟨x, b, hE, _, hw, hef⟩ := hf.step k o hkn ho
  have hread : ∀ t ∈ o.looksAt ops, (foldT ops d.ES 0 p st.tm ops.size)[t]? = (T k)[t]? := fun t ht => slotsS_read hf hok hM.closed ho hk hdeps ht
  have hev : ∀ x ∈ o.op.operands.toList, ev (T k) x = ev (foldT ops d.ES 0 p st.tm ops.size) x := fun x hx => (ev_slots fun t e => by subst e; exact hread t (looks_of_operand hx)).symm
  unfold wpOpIn
  rw [ho]
  have hwant : Region.wanted o (yielded ops a.tmps) = b := by
    unfold wantS at hw
    unfold Region.wanted
    split at hw
    · rename_i hg; rw [hg, hw]
    · rename_i j wt hg
      rw [hg]
      obtain ⟨t, x, h1, h2, h3⟩ := hw
      have h4 := hread t (looks_of_guard hg h1)
      rw [h2] at h4
      obtain ⟨v, hv, hdv⟩ := hM.tm.get h4
      have hv' : a.tmps[t]? = some v := by simpa using hv
      rcases h3 with ⟨h3, rfl⟩ | ⟨q, h3, rfl⟩
      · have hnb := boolV_none h3 hdv
        have : yielded ops a.tmps j = none := by
          simp only [yielded, h1, Option.bind_some, hv']
          cases v <;> first | rfl | exact absurd rfl (hnb _)
        simp [this]
      · obtain ⟨_, rfl⟩ := boolV_some h3 hdv
        have : yielded ops a.tmps j = some q := by simp [yielded, h1, hv']
        simp [this]
  simp only [hwant]
  rcases hef with ⟨rfl, rfl, _⟩ | ⟨rfl, hs, _, hrd⟩ | ⟨rfl, ws, hs, hfx⟩
  · simp only [Bool.false_eq_true, if_false]
    refine ⟨fun _ _ => trivial, hK e _ _ (midS_same hok hM ho hk hdeps hp hE (by simp [Den]) (fun f hff hfk => ?_) hM.models)⟩
    obtain ⟨_, o', g2, g5, _⟩ := hf.fxs f hff
    rw [hfk] at g2 g5
    rw [ho] at g2; cases g2
    exact wantS_det g5 hw
  · simp only [if_true]
    refine ⟨fun _ _ => trivial, ?_⟩
    show o.uponIn (FF r) 0 cfg.P a K Q ((o.semAt r a.eval).run cfg.P w)
    obtain ⟨c, hv, hc⟩ := hs
    have hne : ∀ f ∈ d.fx, f.1 ≠ k := fun f hff hfk => by
      obtain ⟨_, o', g2, _, g3⟩ := hf.fxs f hff
      rw [hfk] at g2 g3
      rw [ho] at g2; cases g2
      rw [hv] at g3; cases g3
    obtain ⟨Kk, h1, h2, h3, h4⟩ := hM.models
    have hlook : ∀ b it, touch o.op (foldT ops d.ES 0 p st.tm ops.size) = some b → (Hs k)[b]? = some it → (Hs Kk)[b]? = some it := fun b it hb hit =>
      look_ok hac hf hlk hM.closed ho hk hdeps (hrd b (by rw [touch_congr hev]; exact hb)) hne h1 h2 h3 hit
    have hv2 := stepV_heap (by rw [← stepV_congr hev]; exact hv) hlook
    obtain ⟨v, hr, hd⟩ := stepV_ok (o := o) h4 hM.tm hv2 hc
    rw [semAt_eq (notDefer_V hv), hr]
    exact hK e _ _ (midS_same hok hM ho hk hdeps hp hE hd hne hM.models)
  · simp only [if_true]
    refine ⟨fun _ _ => trivial, ?_⟩
    show o.uponIn (FF r) 0 cfg.P a K Q ((o.semAt r a.eval).run cfg.P w)
    obtain ⟨hm0, hlt⟩ := midS_at hch hf hM ho hk hdeps hfx
    rcases hs with ⟨_, c, hv, hc⟩ | ⟨f, args, ats, g, fi, ca, fn, hop, hcal, hfn, hn, hb, hpre, hhas⟩
    · rw [stepL_congr hev] at hv
      obtain ⟨nx, v, w', e', hr, hnx, hle, hm, hd⟩ := stepL_ok (o := o) hm0 hM.tm hv hc
      rw [semAt_eq (notDefer_L hv), hr]
      have := hK _ _ _ (midS_next hok hf hM ho hk hdeps hp hlt hE hle hm hd)
      rcases hnx with rfl | ⟨rfl, rfl⟩
      · exact this
      · exact this
    · have hargs := evs_ok hM.tm args.toList
      have e2 : (args.toList.map a.eval).toArray = args.map a.eval := by apply Array.toList_inj.1; simp
      have hmemA : ∀ x ∈ args.toList, x ∈ o.op.operands.toList := fun x hx => by rw [hop]; simp only [Op.operands, Call.operands, Array.toList_append, List.mem_append]; exact .inr hx
      have hmemF : f ∈ o.op.operands.toList := by rw [hop]; simp [Op.operands, Call.operands]
      rw [ev_map_congr (tm' := foldT ops d.ES 0 p st.tm ops.size) fun x hx => hev x (hmemA x hx)] at hpre hhas
      rw [hev f hmemF] at hcal
      obtain ⟨fs, cs, hfv, hfi, hca⟩ := callee_ok hcal (ev_ok hM.tm f)
      rw [semAt_eq (by intro c hc; rw [hop] at hc; cases hc)]
      have henter : ∀ (as : Array Value) (w : World), (callFunc g as).run cfg.P w = .ok (.enter g as) w := fun as w => by
        simp only [callFunc, Sem.run_bind, run_program, Result.andThen_ok, hfn, hn, hb, Bool.false_eq_true, if_false, Sem.run_pure]
      have hr : (execOp a.eval o).run cfg.P w = .ok (.enter g (fs ++ args.map a.eval ++ cs)) w := by
        simp [execOp, hop, resolve, hfv, Deferred.ofValue, invoke, henter]
      rw [hr]
      have e3 : (fs.toList ++ args.toList.map a.eval ++ cs.toList).toArray = fs ++ args.map a.eval ++ cs := by apply Array.toList_inj.1; simp
      have hcall : Calls cfg.P g (fs ++ args.map a.eval ++ cs) w fun en w' => ∃ e' v, en = .returned v ∧ Le e e' ∧ Models I e' (Hs (k + 1)) Fr w' ∧ Den e' x v := by
        rw [← e3]
        unfold callA at hpre hhas
        split at hpre
        · rename_i pc hpcg
          split at hpre
          · rename_i φ' x' hpx
            simp only [hpcg, hpx] at hhas
            obtain ⟨rfl, hHs, _⟩ := hhas
            refine (hpc g pc hpcg _ (Hs k) [] _ _ e Fr w _ hpx hpre.1 ((hfi.append hargs).append hca) (by simpa using hm0)).mono fun en w' hh => ?_
            obtain ⟨v, rfl, hdv, hext⟩ := hh
            exact ⟨e, v, rfl, Le.refl e, by rw [hHs]; exact hm0.grow hext, hdv⟩
          · exact hpre.elim
        · rename_i hpcg
          split at hpre
          · rename_i ac hacg
            simp only [hpcg, hacg] at hhas
            refine ((hac g ac hacg).ok _ _ e Fr w _ hpre ((hfi.append hargs).append hca) hm0).mono fun en w' hh => ?_
            obtain ⟨x2, H2, ws2, e', v, g1, rfl, g3, g4, g5⟩ := hh
            obtain ⟨rfl, rfl, _⟩ := has_unique g1 hhas
            exact ⟨e', v, rfl, g3, g4, g5⟩
          · exact hpre.elim
      refine ⟨(fun hc => by cases hc), (calls_FF hcall).mono fun en w' he => ?_⟩
      obtain ⟨e', v, rfl, hle, hm, hd⟩ := he
      exact hK _ _ _ (midS_next hok hf hM ho hk hdeps hp hlt hE hle hm hd)

/-- THE REGION: in whatever order. -/
theorem seq_any {cfg : Cfg τ} (hpc : ∀ g pc, cfg.pcon g = some pc → PConOk I cfg.P g pc) (hac : ∀ g ac, cfg.acon g = some ac → AConOk I cfg.P g ac) {ops : Array Oper} {st : St τ} {d : SSt τ} {T : Nat → List SV} {Hs : Nat → List (SB τ)} {e0 : Env} {Fr : PH} {r : Option Nat}
    {Q : Exit → Act → World → Prop} (hok : okD ops = true) (hch : chainB ops d.fx = true) (hlk : LookOk ops d.HS d.H d.fx d.rd) (hf : SFacts cfg st.H ops st.tm ops.size d T Hs)
    (hfin : ∀ e a w, Le e0 e → StOk I e Fr { st with tm := d.tm, H := d.H } a w → Q .normal a w) :
    ∀ (fuel : Nat) (listed : Array Bool) (e : Env) (a : Act) (w : World), listed.size = ops.size → left ops.size (fun k => listed.getD k false) ≤ fuel →
      MidS I e0 Fr st ops d Hs (fun k => listed.getD k false) e a w → wpAnyIn (FF r) 0 cfg.P .any ops Q fuel listed a w := by
  -- when nothing may come up, all has been carried out
  have hall : ∀ (listed : Array Bool), listed.size = ops.size → Region.ready .any ops listed = [] → ∀ k, k < ops.size → listed.getD k false = true := by
    intro listed hsz hr k
    induction k using Nat.strongRecOn with
    | _ k ih =>
      intro hk
      cases hb : listed.getD k false with
      | true => rfl
      | false =>
        have : k ∈ Region.ready .any ops listed := by
          rw [mem_ready]
          refine ⟨?_, ops[k], by simp [hk], fun ed hed hbd => ?_⟩
          · have h1 : listed[k]? = some listed[k] := by simp [show k < listed.size by omega]
            simp only [Array.getD_eq_getD_getElem?, h1, Option.getD_some] at hb ⊢
            exact hb
          · have := okD_edges hok (k := k) (o := ops[k]) (by simp [hk]) ed (by simpa using hed) hbd
            exact ih ed.on this (by omega)
        rw [hr] at this; cases this
  have hend : ∀ (listed : Array Bool) (e : Env) (a : Act) (w : World), listed.size = ops.size → Region.ready .any ops listed = [] →
      MidS I e0 Fr st ops d Hs (fun k => listed.getD k false) e a w → Q .normal a w := by
    intro listed e a w hsz hr hM
    have ha := hall listed hsz hr
    refine hfin e a w hM.le ⟨?_, ?_, hM.df⟩
    · obtain ⟨K, h1, h2, h3, h4⟩ := hM.models
      have hKn : K = ops.size := by
        rcases Nat.lt_or_ge K ops.size with h | h
        · obtain ⟨f, hff, hfK⟩ := h3 h
          have := (h2 f hff).1 (ha f.1 (hf.fxs f hff).1)
          omega
        · omega
      rw [hKn, hf.stopH] at h4
      exact h4
    · have hT : foldT ops d.ES 0 (fun k => listed.getD k false) st.tm ops.size = d.tm := by
        rw [← hf.stop, factsS_T hf (Nat.le_refl _) ops.size (Nat.le_refl _)]
        refine List.ext_getElem? fun t => foldT_slot _ fun j oj hj _ _ => ?_
        simp only [ha j hj]
      rw [← hT]; exact hM.tm
  intro fuel
  induction fuel with
  | zero =>
    intro listed e a w hsz hl hM
    have hr : Region.ready .any ops listed = [] := by
      cases hr : Region.ready .any ops listed with
      | nil => rfl
      | cons i is =>
        have hi : i ∈ Region.ready .any ops listed := by rw [hr]; exact List.mem_cons_self
        rw [mem_ready] at hi
        obtain ⟨h0, o, ho, _⟩ := hi
        have hin : i < ops.size := (Array.getElem?_eq_some_iff.1 ho).1
        have h1 : listed[i]? = some listed[i] := by simp [show i < listed.size by omega]
        have h2 : listed.getD i false = false := by
          simp only [Array.getD_eq_getD_getElem?, h1, Option.getD_some] at h0 ⊢
          exact h0
        have : i ∈ (List.range ops.size).filter fun k => !listed.getD k false := by
          rw [List.mem_filter]; exact ⟨List.mem_range.2 hin, by simp [h2]⟩
        have hpos := List.length_pos_of_mem this
        exact absurd (Nat.lt_of_lt_of_le hpos hl) (Nat.lt_irrefl 0)
    exact ⟨hr, hend listed e a w hsz hr hM⟩
  | succ fuel ih =>
    intro listed e a w hsz hl hM
    refine ⟨fun hr => hend listed e a w hsz hr hM, fun i hi => ?_⟩
    rw [mem_ready] at hi
    obtain ⟨h0, o, ho, hdeps⟩ := hi
    have hin : i < ops.size := (Array.getElem?_eq_some_iff.1 ho).1
    have h1 : listed[i]? = some listed[i] := by simp [show i < listed.size by omega]
    have h2 : listed.getD i false = false := by
      simp only [Array.getD_eq_getD_getElem?, h1, Option.getD_some] at h0 ⊢
      exact h0
    have hp : ∀ j, (listed.setIfInBounds i true).getD j false = (listed.getD j false || Nat.beq j i) := by
      intro j
      by_cases hji : j = i
      · subst hji
        have e1 : Nat.beq j j = true := by rw [Nat.beq_eq]
        rw [e1, Bool.or_true]
        simp [show j < listed.size by omega]
      · have e1 : Nat.beq j i = false := by
          cases hq : Nat.beq j i with
          | false => rfl
          | true => rw [Nat.beq_eq] at hq; exact absurd hq hji
        rw [e1, Bool.or_false, getD_set_ne false (fun e => hji e.symm)]
    refine seq_step hpc hac (p' := fun k => (listed.setIfInBounds i true).getD k false) hok hch hlk hf hM ho h2 (fun ed hed hb => hdeps ed (by simpa using hed) hb) hp fun e' a' w' hM' => ?_
    refine ih _ e' a' w' (by simpa using hsz) ?_ hM'
    have : left ops.size (fun k => (listed.setIfInBounds i true).getD k false) < left ops.size (fun k => listed.getD k false) := by
      refine filter_lt (y := i) (fun x _ hx => ?_) (List.mem_range.2 hin) (by simp [h2]) (by show (!(listed.setIfInBounds i true).getD i false) = false; rw [hp]; simp)
      have hx : (!(listed.setIfInBounds i true).getD x false) = true := hx
      rw [hp] at hx
      show (!listed.getD x false) = true
      cases hq : listed.getD x false with
      | false => simp
      | true => rw [hq] at hx; simp at hx
    omega

theorem seq_ok {cfg : Cfg τ} (hmix : cfg.P.follows .mixedOrders = true) (hpc : ∀ g pc, cfg.pcon g = some pc → PConOk I cfg.P g pc) (hac : ∀ g ac, cfg.acon g = some ac → AConOk I cfg.P g ac) {id : Nat} {ops : Array Oper} {st : St τ} {K : St τ → Prop} {e : Env} {Fr : PH} {a : Act} {w : World} {r : Option Nat}
    {Q : Exit → Act → World → Prop} (h : seqK cfg ops st K) (hok : StOk I e Fr st a w) (hnext : NextOk I e Fr st K (Q .normal)) : (Code.region id ops true).wpIn (FF r) 0 cfg.P Q a w := by
  unfold seqK at h
  split at h
  · rename_i hD
    obtain ⟨d, T, Hs, hf, hK⟩ := seqGo_facts (H0 := st.H) (tm0 := st.tm) ops.toList 0 _ (fun _ => st.tm) (fun _ => st.H) (by intro i; simp) (by simp) ⟨rfl, rfl, rfl, rfl, rfl, rfl, fun j hj => by omega, fun j o hj => by omega, (fun f hf => by cases hf), List.Pairwise.nil⟩ h
    split at hK
    · rename_i hos
      obtain ⟨hK, hlk⟩ := looksQ_ok hK
      refine wpIn_region_any hmix (seq_any (e0 := e) (Fr := Fr) hpc hac hD hos hlk hf (fun e' a' w' hle hst => hnext e' { st with tm := d.tm, H := d.H } a' w' (LeB.of_le hle) rfl rfl hst hK) _ _ e a _ (by simp) (by unfold left; exact Nat.le_trans (List.length_filter_le _ _) (by simp)) ?_)
      have hp : (fun k => (Array.replicate ops.size false).getD k false) = fun _ => false := by
        funext k
        by_cases hk : k < ops.size <;> simp [hk]
      rw [hp]
      have hT : ∀ m, foldT ops d.ES 0 (fun _ => false) st.tm m = st.tm := by
        intro m
        induction m with
        | zero => rfl
        | succ m ih => simp only [foldT, ih]
      obtain ⟨K0, h1, h2, h3, h4⟩ := next_fx d.fx ops.size ops.size 0 (by omega) fun f hff => (hf.fxs f hff).1
      refine ⟨Le.refl e, by rw [hT]; exact hok.tm, hok.df, (fun k o _ hk => by cases hk), K0, h2, fun f hff => ?_, h4, ?_⟩
      · have := h3 f hff (by omega)
        constructor
        · intro hh; cases hh
        · intro hh; omega
      · rw [Hs_const hf K0 h1 h2 fun f hff hh => by have := h3 f hff hh.1; omega, hf.startH]
        exact hok.models.heap (w' := { w with drawn := w.drawn + 1 }) rfl ⟨rfl, rfl⟩
    · exact hK.elim
  · exact h.elim


end Go.Sym
