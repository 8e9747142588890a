/- Drawn regions with several effects, totally ordered by their edges: what the symbolic run asks of them. Whatever the order: the end is the one of the text's order. -/
import Derived.Test.YtienakdnmhmglaaVN
set_option linter.unusedSimpArgs false
set_option linter.unusedVariables false
set_option linter.unusedSectionVars false
namespace Go.Sym
open Go
variable {τ : Type} {I : Inv τ} {D : List Deferred}

/-- The region's run in the text's order, recorded. -/
structure SSt (τ : Type) where
  tm : List SV
  H : List (SB τ)
  E : List SV
  HS : List (List (SB τ))
  fx : List (Nat × List Nat)
  rd : List (Nat × Nat)
def SSt.quiet (d : SSt τ) (op : Op) (dst : Option Tmp) (x : SV) : SSt τ :=
  { d with tm := putS dst x d.tm, E := d.E ++ [x], HS := d.HS ++ [d.H], rd := match touch op d.tm with
      | some b => (d.E.length, b) :: d.rd
      | none => d.rd }
def SSt.loud (d : SSt τ) (dst : Option Tmp) (x : SV) (H' : List (SB τ)) (ws : List Nat) : SSt τ :=
  { d with tm := putS dst x d.tm, H := H', E := d.E ++ [x], HS := d.HS ++ [d.H], fx := (d.E.length, ws) :: d.fx }
def SSt.skip (d : SSt τ) (dst : Option Tmp) : SSt τ :=
  { d with tm := putS dst (.v undef) d.tm, E := d.E ++ [.v undef], HS := d.HS ++ [d.H] }

/-- New cells (operation j, slot t) that nothing looks at ahead of the store (operation s) that writes them whole: they are there from the store on. -/
structure Fz where
  j : Nat
  s : Nat
  t : Tmp
  T : TypeId
def SSt.quietA (d : SSt τ) (dst : Option Tmp) : SSt τ := { d with tm := putS dst .any d.tm, E := d.E ++ [.any], HS := d.HS ++ [d.H] }
structure NoF (F : List Fz) (k : Nat) : Prop where
  h : ∀ q ∈ F, q.j ≠ k ∧ q.s ≠ k

/-- A path of edges: j is carried out before k. -/
def pathB (ops : Array Oper) : Nat → Nat → Nat → Bool
  | 0, _, _ => false
  | n + 1, k, j => match ops[k]? with
    | some o => o.after.toList.any fun e => Region.binds .any e && (Nat.beq e.on j || pathB ops n e.on j)
    | none => false
/-- The effects are ordered, one behind the other (the list has the last one first). -/
def chainB (ops : Array Oper) : List (Nat × List Nat) → Bool
  | [] => true
  | [_] => true
  | a :: b :: r => pathB ops ops.size a.1 b.1 && chainB ops (b :: r)
/-- Two items are the same. -/
def eqB (b b' : SB τ) : Prop :=
  match b with
  | .rows R T TS oe ep pd => match b' with
    | .rows R' T' TS' oe' ep' pd' => rq (Nat.beq T T' && Nat.beq TS TS' && pd.isNone && pd'.isNone) (oe = oe' ∧ ep = ep' ∧ (match R with
      | .i k l => match R' with
        | .i k' l' => rq (decide (k = k')) (l = l')
        | _ => False
      | .c l => match R' with
        | .c l' => l = l'
        | _ => False))
    | _ => False
  | .own c n T sz ep nn => match b' with
    | .own c' n' T' sz' ep' nn' => rq (Nat.beq T T' && Nat.beq sz sz' && (nn == nn')) (n = n' ∧ ep = ep' ∧ (match c with
      | .ints k l => match c' with
        | .ints k' l' => rq (decide (k = k')) (l = l')
        | _ => False
      | .recs l => match c' with
        | .recs l' => l = l'
        | _ => False
      | .sv _ => False))
    | _ => False
  | .cells l T => match b' with
    | .cells l' T' => rq (Nat.beq T T') (l = l')
    | _ => False
  | _ => False
theorem eqB_ok {b b' : SB τ} (h : eqB b b') : b = b' := by
  cases b with
  | rows R T TS oe ep pd =>
    cases b' with
    | rows R' T' TS' oe' ep' pd' =>
      simp only [eqB] at h
      obtain ⟨h1, rfl, rfl, h2⟩ := rq_elim h
      simp only [Bool.and_eq_true, Nat.beq_eq, Option.isNone_iff_eq_none] at h1
      obtain ⟨⟨⟨rfl, rfl⟩, rfl⟩, rfl⟩ := h1
      cases R with
      | i k l => cases R' with
        | i k' l' =>
          obtain ⟨h3, rfl⟩ := rq_elim h2
          have := of_decide_eq_true h3
          subst this; rfl
        | c l' => exact h2.elim
      | c l => cases R' with
        | i k' l' => exact h2.elim
        | c l' => have h2 : l = l' := h2; subst h2; rfl
    | _ => exact h.elim
  | own c n T sz ep nn =>
    cases b' with
    | own c' n' T' sz' ep' nn' =>
      simp only [eqB] at h
      obtain ⟨h1, rfl, rfl, h2⟩ := rq_elim h
      simp only [Bool.and_eq_true, Nat.beq_eq, beq_iff_eq] at h1
      obtain ⟨⟨rfl, rfl⟩, rfl⟩ := h1
      cases c with
      | ints k l => cases c' with
        | ints k' l' =>
          obtain ⟨h3, rfl⟩ := rq_elim h2
          have := of_decide_eq_true h3
          subst this; rfl
        | _ => exact h2.elim
      | recs l => cases c' with
        | recs l' => have h2 : l = l' := h2; subst h2; rfl
        | _ => exact h2.elim
      | sv l => exact h2.elim
    | _ => exact h.elim
  | cells l T =>
    cases b' with
    | cells l' T' =>
      simp only [eqB] at h
      obtain ⟨h1, rfl⟩ := rq_elim h
      rw [Nat.beq_eq] at h1
      subst h1; rfl
    | _ => exact h.elim
  | _ => exact h.elim
/-- A look is ordered against each effect that writes what it looks at, or finds it as it was; and what it looks at was there before each effect that it is not ordered against. -/
def looksF (ops : Array Oper) (HS : List (List (SB τ))) (He : List (SB τ)) (r : Nat × Nat) : List (Nat × List Nat) → Prop → Prop
  | [], K => K
  | f :: fs, K => match Nat.blt f.1 r.1 with
    | true => match pathB ops ops.size r.1 f.1 || (!hasN f.2 r.2 && Nat.blt r.2 (HS.getD f.1 []).length) with
      | true => looksF ops HS He r fs K
      | false => match (HS.getD (f.1 + 1) He)[r.2]?, (HS.getD f.1 [])[r.2]? with
        | some x, some y => eqB x y ∧ looksF ops HS He r fs K
        | _, _ => False
    | false => match pathB ops ops.size f.1 r.1 || !hasN f.2 r.2 with
      | true => looksF ops HS He r fs K
      | false => match (HS.getD (f.1 + 1) He)[r.2]?, (HS.getD f.1 [])[r.2]? with
        | some x, some y => eqB x y ∧ looksF ops HS He r fs K
        | _, _ => False
def looksQ (ops : Array Oper) (HS : List (List (SB τ))) (He : List (SB τ)) (fx : List (Nat × List Nat)) : List (Nat × Nat) → Prop → Prop
  | [], K => K
  | r :: rs, K => looksF ops HS He r fx (looksQ ops HS He fx rs K)
def LookAt (ops : Array Oper) (HS : List (List (SB τ))) (He : List (SB τ)) (r : Nat × Nat) (f : Nat × List Nat) : Prop :=
  (f.1 < r.1 → pathB ops ops.size r.1 f.1 = true ∨ (hasN f.2 r.2 = false ∧ r.2 < (HS.getD f.1 []).length) ∨ ((HS.getD (f.1 + 1) He)[r.2]? = (HS.getD f.1 [])[r.2]? ∧ r.2 < (HS.getD f.1 []).length)) ∧
  (¬ f.1 < r.1 → pathB ops ops.size f.1 r.1 = true ∨ hasN f.2 r.2 = false ∨ (HS.getD (f.1 + 1) He)[r.2]? = (HS.getD f.1 [])[r.2]?)
structure LookOk (ops : Array Oper) (HS : List (List (SB τ))) (He : List (SB τ)) (fx : List (Nat × List Nat)) (rd : List (Nat × Nat)) : Prop where
  h : ∀ r ∈ rd, ∀ f ∈ fx, LookAt ops HS He r f
theorem looksF_ok {ops : Array Oper} {HS : List (List (SB τ))} {He : List (SB τ)} {r : Nat × Nat} : ∀ {fx : List (Nat × List Nat)} {K : Prop}, looksF ops HS He r fx K → K ∧ ∀ f ∈ fx, LookAt ops HS He r f
  | [], _, h => ⟨h, by simp⟩
  | f :: fs, K, h => by
    have fin : looksF ops HS He r fs K → LookAt ops HS He r f → K ∧ ∀ g ∈ f :: fs, LookAt ops HS He r g := fun h1 h2 => by
      obtain ⟨h3, h4⟩ := looksF_ok h1
      refine ⟨h3, fun g hg => ?_⟩
      rcases List.mem_cons.1 hg with rfl | hg
      · exact h2
      · exact h4 g hg
    unfold looksF at h
    split at h
    · rename_i hb
      rw [Nat.blt_eq] at hb
      split at h
      · rename_i hc
        rw [Bool.or_eq_true, Bool.and_eq_true, Bool.not_eq_true', Nat.blt_eq] at hc
        exact fin h ⟨fun _ => hc.imp id .inl, fun hn => absurd hb hn⟩
      · split at h
        · rename_i x y hx hy
          refine fin h.2 ⟨fun _ => .inr (.inr ⟨?_, (List.getElem?_eq_some_iff.1 hy).1⟩), fun hn => absurd hb hn⟩
          rw [hx, hy, eqB_ok h.1]
        · exact h.elim
    · rename_i hb
      have hb : ¬ f.1 < r.1 := by rw [← Nat.blt_eq, hb]; simp
      split at h
      · rename_i hc
        rw [Bool.or_eq_true, Bool.not_eq_true'] at hc
        exact fin h ⟨fun hn => absurd hn hb, fun _ => hc.imp id .inl⟩
      · split at h
        · rename_i x y hx hy
          refine fin h.2 ⟨fun hn => absurd hn hb, fun _ => .inr (.inr ?_)⟩
          rw [hx, hy, eqB_ok h.1]
        · exact h.elim
theorem looksQ_ok {ops : Array Oper} {HS : List (List (SB τ))} {He : List (SB τ)} {fx : List (Nat × List Nat)} : ∀ {rd : List (Nat × Nat)} {K : Prop}, looksQ ops HS He fx rd K → K ∧ LookOk ops HS He fx rd
  | [], _, h => ⟨h, ⟨by simp⟩⟩
  | r :: rs, K, h => by
    unfold looksQ at h
    obtain ⟨h1, h2⟩ := looksF_ok h
    obtain ⟨h3, h4⟩ := looksQ_ok h1
    refine ⟨h3, ⟨fun r' hr => ?_⟩⟩
    rcases List.mem_cons.1 hr with rfl | hr
    · exact h2
    · exact h4.h r' hr

def callA (cfg : Cfg τ) (g : Nat) (args : List SV) (H : List (SB τ)) : Alt τ :=
  match cfg.pcon g with
  | some pc => match pc args H with
    | some (φ, x) => .ask φ (.one x H [])
    | none => .bad
  | none => match cfg.acon g with
    | some ac => ac args H
    | none => .bad
def opS (cfg : Cfg τ) (o : Oper) (d : SSt τ) (K : SSt τ → Prop) : Prop :=
  match o.op with
  | .pick c a b => match ev d.tm c with
    | .v (.bool q) => br q (K ({ d with tm := setB c true d.tm }.quiet o.op o.dst (ev (setB c true d.tm) a))) (K ({ d with tm := setB c false d.tm }.quiet o.op o.dst (ev (setB c false d.tm) b)))
    | _ => False
  | .call { callee := .value f, args, .. } => match calleeS (ev d.tm f) with
    | some (g, fi, ca) => match cfg.P.funcs[g]? with
      | some fn => match fn.name == "runtime.NumGoroutine", fn.body.isNone with
        | false, false => altK (callA cfg g (fi ++ args.toList.map (ev d.tm) ++ ca) d.H) (fun x H' ws => K (d.loud o.dst x H' ws))
        | _, _ => False
      | none => False
    | none => False
  | op => match stepV cfg.P op d.tm d.H with
    | some (c, x) => rq c (K (d.quiet op o.dst x))
    | none => match stepL cfg.P op d.tm d.H with
      | some (c, x, H', ws) => rq c (K (d.loud o.dst x H' ws))
      | none => False
def opF (cfg : Cfg τ) (F : List Fz) (o : Oper) (d : SSt τ) (K : SSt τ → Prop) : Prop :=
  match F with
  | [] => opS cfg o d K
  | q0 :: r => match (q0 :: r).find? (fun q => Nat.beq q.j d.E.length) with
    | some _ => match o.guard with
      | none => K (d.quietA o.dst)
      | some _ => False
    | none => match (q0 :: r).find? (fun q => Nat.beq q.s d.E.length) with
      | some q => match zeroT cfg.P q.T, stepV cfg.P o.op d.tm d.H with
        | some z, none => match stepL cfg.P o.op (d.tm.set q.t (.p d.H.length 0)) (d.H ++ [.cells (z.cells.toList.map .v) q.T]) with
          | some (c, _, H', ws) => rq c (K (d.loud o.dst (.p d.H.length 0) H' ws))
          | none => False
        | _, _ => False
      | none => opS cfg o d K
def seqGo (cfg : Cfg τ) (F : List Fz) (ops : Array Oper) : List Oper → SSt τ → (SSt τ → Prop) → Prop
  | [], d, K => K d
  | o :: rest, d, K => match o.guard with
    | none => opF cfg F o d (fun d' => seqGo cfg F ops rest d' K)
    | some (j, want) => match (ops[j]?).bind (·.dst) with
      | none => False
      | some t => match d.tm[t]? with
        | none => False
        | some x => match boolV x with
          | some none => seqGo cfg F ops rest (d.skip o.dst) K
          | some (some b) => match want with
            | true => br b (opF cfg F o { d with tm := d.tm.set t (.v (.bool true)) } (fun d' => seqGo cfg F ops rest d' K)) (seqGo cfg F ops rest ({ d with tm := d.tm.set t (.v (.bool false)) }.skip o.dst) K)
            | false => br b (seqGo cfg F ops rest ({ d with tm := d.tm.set t (.v (.bool true)) }.skip o.dst) K) (opF cfg F o { d with tm := d.tm.set t (.v (.bool false)) } (fun d' => seqGo cfg F ops rest d' K))
          | none => False
/-- The cells of the region that are new, and the stores that write them. -/
def pairsAt (ops : Array Oper) (s : Nat) (o : Oper) : Option Fz :=
  match o.op with
  | .store T a _ => match a with
    | .tmp t => match ops.toList.findIdx? (fun o' => match o'.op with
        | .alloc T' => Nat.beq T T' && (match o'.dst with
          | some t' => Nat.beq t t'
          | none => false)
        | _ => false) with
      | some j => match edgeB ops s j with
        | true => some ⟨j, s, t, T⟩
        | false => none
      | none => none
    | _ => none
  | _ => none
def pairsF (ops : Array Oper) : List Fz := ops.toList.zipIdx.filterMap fun (o, s) => pairsAt ops s o
def fzOp (F : List Fz) (k : Nat) (o : Oper) : Oper :=
  match F.find? (fun q => Nat.beq q.j k) with
  | some _ => { o with dst := none }
  | none => match F.find? (fun q => Nat.beq q.s k) with
    | some q => { o with dst := some q.t }
    | none => o
def fuseF (F : List Fz) (ops : Array Oper) : Array Oper := (ops.toList.zipIdx.map fun (o, k) => fzOp F k o).toArray
def okFz1 (F : List Fz) (ops ops' : Array Oper) (q : Fz) : Bool :=
  (match ops[q.j]? with
   | some o => (match o.op with
     | .alloc T' => Nat.beq q.T T'
     | _ => false) && (match o.dst with
     | some t => Nat.beq q.t t
     | none => false) && o.guard.isNone
   | none => false) &&
  (match ops[q.s]? with
   | some o => (match o.op with
     | .store T' a _ => Nat.beq q.T T' && (match a with
       | .tmp t => Nat.beq q.t t
       | _ => false)
     | _ => false) && o.dst.isNone && o.guard.isNone
   | none => false) && edgeB ops q.s q.j &&
  (ops'.toList.zipIdx.all fun (o, k) => Nat.beq k q.s || !(o.looksAt ops').contains q.t || edgeB ops' k q.s) &&
  (ops.toList.all fun o => match o.guard with
    | some (j, _) => !Nat.beq q.j j && !Nat.beq q.s j
    | none => true) &&
  (F.all fun q' => !Nat.beq q.j q'.s && (!(Nat.beq q.j q'.j || Nat.beq q.s q'.s || Nat.beq q.t q'.t) || (Nat.beq q.j q'.j && Nat.beq q.s q'.s && Nat.beq q.t q'.t && Nat.beq q.T q'.T)))
def okFz (F : List Fz) (ops ops' : Array Oper) : Bool := F.all (okFz1 F ops ops')
/-- A drawn region whose new cells are there from the stores on that write them. -/
def seqF (cfg : Cfg τ) (F : List Fz) (ops ops' : Array Oper) (st : St τ) (K : St τ → Prop) : Prop :=
  match okD ops' && okFz F ops ops' with
  | true => match F.all (fun q => Nat.blt q.t st.tm.length) with
   | false => False
   | true => seqGo cfg F ops' ops'.toList { tm := st.tm, H := st.H, E := [], HS := [], fx := [], rd := [] } (fun d =>
    match chainB ops' d.fx with
    | true => looksQ ops' d.HS d.H d.fx d.rd (K { st with tm := d.tm, H := d.H })
    | false => False)
  | false => False
/-- A drawn region with several effects. -/
def seqK (cfg : Cfg τ) (ops : Array Oper) (st : St τ) (K : St τ → Prop) : Prop :=
  match okD ops with
  | true => seqGo cfg [] ops ops.toList { tm := st.tm, H := st.H, E := [], HS := [], fx := [], rd := [] } (fun d =>
    match chainB ops d.fx with
    | true => looksQ ops d.HS d.H d.fx d.rd (K { st with tm := d.tm, H := d.H })
    | false => seqF cfg (pairsF ops) ops (fuseF (pairsF ops) ops) st K)
  | false => False

/-! ### The facts -/
def SQ (cfg : Cfg τ) (F : List Fz) (k : Nat) (o : Oper) (tm : List SV) (H : List (SB τ)) (x : SV) : Prop := NoF F k ∧ ∃ c, stepV cfg.P o.op tm H = some (c, x) ∧ c = true
def SNew (cfg : Cfg τ) (F : List Fz) (k : Nat) (o : Oper) (tm : List SV) (H : List (SB τ)) (x : SV) (H' : List (SB τ)) (ws : List Nat) : Prop :=
  stepV cfg.P o.op tm H = none ∧ (∀ q ∈ F, q.j ≠ k) ∧ x = .p H.length 0 ∧ ∃ q ∈ F, q.s = k ∧ ∃ z c y, zeroT cfg.P q.T = some z ∧ stepL cfg.P o.op (tm.set q.t (.p H.length 0)) (H ++ [.cells (z.cells.toList.map .v) q.T]) = some (c, y, H', ws) ∧ c = true
def SLd (cfg : Cfg τ) (F : List Fz) (k : Nat) (o : Oper) (tm : List SV) (H : List (SB τ)) (x : SV) (H' : List (SB τ)) (ws : List Nat) : Prop :=
  SNew cfg F k o tm H x H' ws ∨
  (NoF F k ∧ stepV cfg.P o.op tm H = none ∧ ∃ c, stepL cfg.P o.op tm H = some (c, x, H', ws) ∧ c = true) ∨
  (NoF F k ∧ ∃ f args ats g fi ca fn, o.op = .call { callee := .value f, args := args, argTypes := ats } ∧ calleeS (ev tm f) = some (g, fi, ca) ∧ cfg.P.funcs[g]? = some fn ∧ (fn.name == "runtime.NumGoroutine") = false ∧ fn.body.isNone = false ∧
    (callA cfg g (fi ++ args.toList.map (ev tm) ++ ca) H).pre ∧ (callA cfg g (fi ++ args.toList.map (ev tm) ++ ca) H).has x H' ws)
theorem SLd.none {cfg : Cfg τ} {F : List Fz} {k : Nat} {o : Oper} {tm : List SV} {H H' : List (SB τ)} {x : SV} {ws : List Nat} (h : SLd cfg F k o tm H x H' ws) : stepV cfg.P o.op tm H = none := by
  rcases h with h | ⟨_, h, _⟩ | ⟨_, f, args, ats, g, fi, ca, fn, hop, _⟩
  · exact h.1
  · exact h
  · rw [hop]; rfl
structure SFacts (cfg : Cfg τ) (F : List Fz) (H0 : List (SB τ)) (ops : Array Oper) (tm0 : List SV) (k : Nat) (d : SSt τ) (T : Nat → List SV) (Hs : Nat → List (SB τ)) : Prop where
  len : d.E.length = k
  lenH : d.HS.length = k
  start : T 0 = tm0
  startH : Hs 0 = H0
  stop : T k = d.tm
  stopH : Hs k = d.H
  hist : ∀ j, j < k → d.HS[j]? = some (Hs j)
  step : ∀ j o, j < k → ops[j]? = some o → ∃ x b, d.E[j]? = some x ∧ T (j + 1) = putS o.dst x (T j) ∧ wantS ops o (T j) b ∧
    ((b = false ∧ x = .v undef ∧ Hs (j + 1) = Hs j) ∨ (b = true ∧ SQ cfg F j o (T j) (Hs j) x ∧ Hs (j + 1) = Hs j ∧ ∀ b, touch o.op (T j) = some b → (j, b) ∈ d.rd) ∨
      (b = true ∧ ∃ ws, SLd cfg F j o (T j) (Hs j) x (Hs (j + 1)) ws ∧ (j, ws) ∈ d.fx) ∨ (b = true ∧ x = .any ∧ Hs (j + 1) = Hs j ∧ ∃ q ∈ F, q.j = j))
  alo : ∀ f ∈ d.fx, ∀ q ∈ F, q.j ≠ f.1
  fxs : ∀ f ∈ d.fx, f.1 < k ∧ ∃ o, ops[f.1]? = some o ∧ wantS ops o (T f.1) true ∧ stepV cfg.P o.op (T f.1) (Hs f.1) = none
  srt : d.fx.Pairwise fun a b => b.1 < a.1

theorem SLd.noAl {cfg : Cfg τ} {F : List Fz} {k : Nat} {o : Oper} {tm : List SV} {H H' : List (SB τ)} {x : SV} {ws : List Nat} (h : SLd cfg F k o tm H x H' ws) : ∀ q ∈ F, q.j ≠ k := by
  rcases h with h | ⟨h, _⟩ | ⟨h, _⟩
  · exact h.2.1
  · exact fun q hq => (h.h q hq).1
  · exact fun q hq => (h.h q hq).1
theorem SFacts.snoc {cfg : Cfg τ} {F : List Fz} {H0 : List (SB τ)} {ops : Array Oper} {tm0 : List SV} {k : Nat} {d d' : SSt τ} {T : Nat → List SV} {Hs : Nat → List (SB τ)} {o : Oper} {x : SV} {b : Bool}
    (h : SFacts cfg F H0 ops tm0 k d T Hs) (ho : ops[k]? = some o) (hw : wantS ops o d.tm b) (hE : d'.E = d.E ++ [x]) (hHS : d'.HS = d.HS ++ [d.H]) (htm : d'.tm = putS o.dst x d.tm)
    (hrd : ∀ y ∈ d.rd, y ∈ d'.rd) (hfx' : d'.fx = d.fx ∨ (b = true ∧ (stepV cfg.P o.op d.tm d.H = none ∧ ∀ q ∈ F, q.j ≠ k) ∧ ∃ ws, d'.fx = (k, ws) :: d.fx))
    (hs : (b = false ∧ x = .v undef ∧ d'.H = d.H) ∨ (b = true ∧ SQ cfg F k o d.tm d.H x ∧ d'.H = d.H ∧ ∀ b, touch o.op d.tm = some b → (k, b) ∈ d'.rd) ∨ (b = true ∧ ∃ ws, SLd cfg F k o d.tm d.H x d'.H ws ∧ (k, ws) ∈ d'.fx) ∨ (b = true ∧ x = .any ∧ d'.H = d.H ∧ ∃ q ∈ F, q.j = k)) :
    SFacts cfg F H0 ops tm0 (k + 1) d' (fun j => if j ≤ k then T j else d'.tm) (fun j => if j ≤ k then Hs j else d'.H) := by
  have hlen := h.len
  have hlenH := h.lenH
  have hfx : ∀ y ∈ d.fx, y ∈ d'.fx := fun y hy => by
    rcases hfx' with e | ⟨_, _, _, e⟩
    · rw [e]; exact hy
    · rw [e]; exact List.mem_cons_of_mem _ hy
  refine ⟨by rw [hE]; simp [hlen], by rw [hHS]; simp [hlenH], by simp [h.start], by simp [h.startH], (by show (if k + 1 ≤ k then _ else _) = _; rw [if_neg (by omega)]), (by show (if k + 1 ≤ k then _ else _) = _; rw [if_neg (by omega)]), fun j hj => ?_, fun j oj hj hoj => ?_, fun f hf => ?_, fun f hf => ?_, ?_⟩
  · rw [hHS]
    simp only [show j ≤ k by omega, if_true]
    by_cases hjk : j = k
    · subst hjk; rw [← hlenH]; simp [h.stopH, hlenH]
    · rw [List.getElem?_append_left (by omega)]; exact h.hist j (by omega)
  · by_cases hjk : j = k
    · subst hjk
      rw [ho] at hoj; cases hoj
      refine ⟨x, b, by rw [hE, ← hlen]; simp, ?_, ?_, ?_⟩
      · show (if j + 1 ≤ j then _ else _) = putS o.dst _ (if j ≤ j then _ else _)
        rw [if_neg (by omega), if_pos (Nat.le_refl j), h.stop, htm]
      · simpa [h.stop] using hw
      · have e1 : (if j + 1 ≤ j then Hs (j + 1) else d'.H) = d'.H := if_neg (by omega)
        have e2 : (if j ≤ j then Hs j else d'.H) = d.H := by rw [if_pos (Nat.le_refl j), h.stopH]
        have e3 : (if j ≤ j then T j else d'.tm) = d.tm := by rw [if_pos (Nat.le_refl j), h.stop]
        simp only [e1, e2, e3]
        exact hs
    · have hlt : j < k := by omega
      obtain ⟨x', b', g1, g2, g3, g4⟩ := h.step j oj hlt hoj
      refine ⟨x', b', by rw [hE]; rw [List.getElem?_append_left (by omega)]; exact g1, ?_, ?_, ?_⟩
      · simp only [show j + 1 ≤ k by omega, show j ≤ k by omega, if_true]; exact g2
      · simp only [show j ≤ k by omega, if_true]; exact g3
      · simp only [show j + 1 ≤ k by omega, show j ≤ k by omega, if_true]
        rcases g4 with g4 | ⟨g4, g5, g6, g7⟩ | ⟨g4, ws, g5, g6⟩ | g4
        · exact .inl g4
        · exact .inr (.inl ⟨g4, g5, g6, fun b hb => hrd _ (g7 b hb)⟩)
        · exact .inr (.inr (.inl ⟨g4, ws, g5, hfx _ g6⟩))
        · exact .inr (.inr (.inr g4))
  · rcases hfx' with e | ⟨hb, hq, ws, e⟩
    · rw [e] at hf; exact h.alo f hf
    · rw [e] at hf
      rcases List.mem_cons.1 hf with rfl | hf
      · exact hq.2
      · exact h.alo f hf
  · have hold : f ∈ d.fx → f.1 < k + 1 ∧ ∃ o', ops[f.1]? = some o' ∧ wantS ops o' (if f.1 ≤ k then T f.1 else d'.tm) true ∧ stepV cfg.P o'.op (if f.1 ≤ k then T f.1 else d'.tm) (if f.1 ≤ k then Hs f.1 else d'.H) = none := fun hf => by
      obtain ⟨g1, o', g2, g3, g4⟩ := h.fxs f hf
      refine ⟨by omega, o', g2, ?_, ?_⟩
      · simp only [show f.1 ≤ k by omega, if_true]; exact g3
      · simp only [show f.1 ≤ k by omega, if_true]; exact g4
    rcases hfx' with e | ⟨hb, hq, ws, e⟩
    · rw [e] at hf; exact hold hf
    · rw [e] at hf
      rcases List.mem_cons.1 hf with rfl | hf
      · refine ⟨Nat.lt_succ_self k, o, ho, ?_, ?_⟩
        · simp only [Nat.le_refl, if_true]; rw [h.stop, ← hb]; exact hw
        · simp only [Nat.le_refl, if_true]; rw [h.stop, h.stopH]; exact hq.1
      · exact hold hf
  · rcases hfx' with e | ⟨_, _, _, e⟩
    · rw [e]; exact h.srt
    · rw [e]; exact List.pairwise_cons.2 ⟨fun y hy => (h.fxs y hy).1, h.srt⟩

theorem SFacts.quieted {cfg : Cfg τ} {F : List Fz} {H0 : List (SB τ)} {ops : Array Oper} {tm0 : List SV} {k : Nat} {d : SSt τ} {T : Nat → List SV} {Hs : Nat → List (SB τ)} {o : Oper} {x : SV}
    (h : SFacts cfg F H0 ops tm0 k d T Hs) (ho : ops[k]? = some o) (hw : wantS ops o d.tm true) (hs : SQ cfg F k o d.tm d.H x) :
    ∃ T' Hs', SFacts cfg F H0 ops tm0 (k + 1) (d.quiet o.op o.dst x) T' Hs' := by
  refine ⟨_, _, h.snoc (x := x) (b := true) ho hw rfl rfl rfl (fun y hy => ?_) (.inl rfl) (.inr (.inl ⟨rfl, hs, rfl, fun b hb => ?_⟩))⟩
  · unfold SSt.quiet; simp only; split
    · exact List.mem_cons_of_mem _ hy
    · exact hy
  · unfold SSt.quiet; simp only; rw [hb, h.len]; exact List.mem_cons_self
theorem SFacts.louded {cfg : Cfg τ} {F : List Fz} {H0 : List (SB τ)} {ops : Array Oper} {tm0 : List SV} {k : Nat} {d : SSt τ} {T : Nat → List SV} {Hs : Nat → List (SB τ)} {o : Oper} {x : SV} {H' : List (SB τ)} {ws : List Nat}
    (h : SFacts cfg F H0 ops tm0 k d T Hs) (ho : ops[k]? = some o) (hw : wantS ops o d.tm true) (hs : SLd cfg F k o d.tm d.H x H' ws) :
    ∃ T' Hs', SFacts cfg F H0 ops tm0 (k + 1) (d.loud o.dst x H' ws) T' Hs' := by
  have hk : (d.loud o.dst x H' ws).fx = (k, ws) :: d.fx := by unfold SSt.loud; simp only; rw [h.len]
  exact ⟨_, _, h.snoc (x := x) (b := true) ho hw rfl rfl rfl (fun y hy => hy) (.inr ⟨rfl, ⟨hs.none, hs.noAl⟩, ws, hk⟩) (.inr (.inr (.inl ⟨rfl, ws, hs, by rw [hk]; exact List.mem_cons_self⟩)))⟩
theorem SFacts.waited {cfg : Cfg τ} {F : List Fz} {H0 : List (SB τ)} {ops : Array Oper} {tm0 : List SV} {k : Nat} {d : SSt τ} {T : Nat → List SV} {Hs : Nat → List (SB τ)} {o : Oper} {q : Fz}
    (h : SFacts cfg F H0 ops tm0 k d T Hs) (ho : ops[k]? = some o) (hw : wantS ops o d.tm true) (hq : q ∈ F) (hk : q.j = k) :
    ∃ T' Hs', SFacts cfg F H0 ops tm0 (k + 1) (d.quietA o.dst) T' Hs' :=
  ⟨_, _, h.snoc (x := .any) (b := true) ho hw rfl rfl rfl (fun _ hy => hy) (.inl rfl) (.inr (.inr (.inr ⟨rfl, rfl, rfl, q, hq, hk⟩)))⟩
theorem SFacts.skipped {cfg : Cfg τ} {F : List Fz} {H0 : List (SB τ)} {ops : Array Oper} {tm0 : List SV} {k : Nat} {d : SSt τ} {T : Nat → List SV} {Hs : Nat → List (SB τ)} {o : Oper}
    (h : SFacts cfg F H0 ops tm0 k d T Hs) (ho : ops[k]? = some o) (hw : wantS ops o d.tm false) :
    ∃ T' Hs', SFacts cfg F H0 ops tm0 (k + 1) (d.skip o.dst) T' Hs' :=
  ⟨_, _, h.snoc (x := .v undef) (b := false) ho hw rfl rfl rfl (fun _ hy => hy) (.inl rfl) (.inl ⟨rfl, rfl, rfl⟩)⟩

theorem opS_facts {cfg : Cfg τ} {F : List Fz} {H0 : List (SB τ)} {ops : Array Oper} {tm0 : List SV} {k : Nat} {d : SSt τ} {T : Nat → List SV} {Hs : Nat → List (SB τ)} {o : Oper} {K : SSt τ → Prop}
    (h : SFacts cfg F H0 ops tm0 k d T Hs) (ho : ops[k]? = some o) (hw : wantS ops o d.tm true) (hn : NoF F k) (hd : opS cfg o d K) : ∃ d' T' Hs', SFacts cfg F H0 ops tm0 (k + 1) d' T' Hs' ∧ K d' := by
  unfold opS at hd
  split at hd
  · rename_i c a b hop
    split at hd
    · rename_i q hq
      have step : ∀ (bb : Bool) (y : Operand), q = bb → (y = if bb then a else b) → K ({ d with tm := setB c bb d.tm }.quiet o.op o.dst (ev (setB c bb d.tm) y)) → ∃ d' T' Hs', SFacts cfg F H0 ops tm0 (k + 1) d' T' Hs' ∧ K d' := by
        intro bb y hbb hy hK
        subst hbb
        have e := setB_eq hq
        rw [e] at hK
        obtain ⟨T', Hs', hf⟩ := h.quieted ho hw (x := ev d.tm y) ⟨hn, true, by rw [hop]; cases q <;> simp only [stepV, stepV0, hq] <;> simp [hy], rfl⟩
        exact ⟨_, T', Hs', hf, hK⟩
      rcases br_elim hd with ⟨hqt, hK⟩ | ⟨hqf, hK⟩
      · exact step true a hqt rfl hK
      · exact step false b hqf rfl hK
    · exact hd.elim
  · rename_i f args ats hop
    split at hd
    · rename_i g fi ca hcal
      split at hd
      · rename_i fn hfn
        split at hd
        · rename_i hnm hb
          obtain ⟨x, H', ws, hh, hK⟩ := altK_some hd
          obtain ⟨T', Hs', hf⟩ := h.louded ho hw (.inr (.inr ⟨hn, f, args, ats, g, fi, ca, fn, hop, hcal, hfn, hnm, hb, altK_pre hd, hh⟩))
          exact ⟨_, T', Hs', hf, hK⟩
        · exact hd.elim
      · exact hd.elim
    · exact hd.elim
  · split at hd
    · rename_i c x hv
      obtain ⟨hc, hK⟩ := rq_elim hd
      obtain ⟨T', Hs', hf⟩ := h.quieted ho hw (x := x) ⟨hn, c, hv, hc⟩
      exact ⟨_, T', Hs', hf, hK⟩
    · rename_i hv
      split at hd
      · rename_i c x H' ws hl
        obtain ⟨hc, hK⟩ := rq_elim hd
        obtain ⟨T', Hs', hf⟩ := h.louded ho hw (.inr (.inl ⟨hn, hv, c, hl, hc⟩))
        exact ⟨_, T', Hs', hf, hK⟩
      · exact hd.elim

theorem find_none {F : List Fz} {f : Fz → Nat} {k : Nat} (h : F.find? (fun q => Nat.beq (f q) k) = none) : ∀ q ∈ F, f q ≠ k := by
  intro q hq e
  have := List.find?_eq_none.1 h q hq
  exact this (by show Nat.beq (f q) k = true; rw [Nat.beq_eq]; exact e)
theorem find_some {F : List Fz} {f : Fz → Nat} {k : Nat} {q : Fz} (h : F.find? (fun q => Nat.beq (f q) k) = some q) : q ∈ F ∧ f q = k := by
  refine ⟨List.mem_of_find?_eq_some h, ?_⟩
  have := List.find?_some h
  rw [← Nat.beq_eq]; exact this
theorem opF_facts {cfg : Cfg τ} {F : List Fz} {H0 : List (SB τ)} {ops : Array Oper} {tm0 : List SV} {k : Nat} {d : SSt τ} {T : Nat → List SV} {Hs : Nat → List (SB τ)} {o : Oper} {K : SSt τ → Prop}
    (h : SFacts cfg F H0 ops tm0 k d T Hs) (ho : ops[k]? = some o) (hw : wantS ops o d.tm true) (hd : opF cfg F o d K) : ∃ d' T' Hs', SFacts cfg F H0 ops tm0 (k + 1) d' T' Hs' ∧ K d' := by
  unfold opF at hd
  rw [h.len] at hd
  split at hd
  · exact opS_facts h ho hw ⟨fun q hq => by cases hq⟩ hd
  · split at hd
    · rename_i q hq
      obtain ⟨h1, h2⟩ := find_some (f := Fz.j) hq
      split at hd
      · obtain ⟨T', Hs', hf⟩ := h.waited ho hw h1 h2
        exact ⟨_, T', Hs', hf, hd⟩
      · exact hd.elim
    · rename_i hj
      have hj := find_none (f := Fz.j) hj
      split at hd
      · rename_i q hq
        obtain ⟨h1, h2⟩ := find_some (f := Fz.s) hq
        split at hd
        · rename_i z hz hv
          split at hd
          · rename_i c y H' ws hl
            obtain ⟨hc, hK⟩ := rq_elim hd
            obtain ⟨T', Hs', hf⟩ := h.louded (x := .p d.H.length 0) ho hw (.inl ⟨hv, hj, rfl, q, h1, h2, z, c, y, hz, hl, hc⟩)
            exact ⟨_, T', Hs', hf, hK⟩
          · exact hd.elim
        · exact hd.elim
      · rename_i hs
        have hs := find_none (f := Fz.s) hs
        exact opS_facts h ho hw ⟨fun q hq => ⟨hj q hq, hs q hq⟩⟩ hd

theorem seqGo_facts {cfg : Cfg τ} {F : List Fz} {H0 : List (SB τ)} {ops : Array Oper} {tm0 : List SV} {K : SSt τ → Prop} : ∀ (l : List Oper) (k : Nat) (d : SSt τ) (T : Nat → List SV) (Hs : Nat → List (SB τ)),
    (∀ i : Nat, l[i]? = ops[k + i]?) → k + l.length = ops.size → SFacts cfg F H0 ops tm0 k d T Hs → seqGo cfg F ops l d K → ∃ d' T' Hs', SFacts cfg F H0 ops tm0 ops.size d' T' Hs' ∧ K d'
  | [], k, d, T, Hs, _, hl, hf, h => ⟨d, T, Hs, by rw [← hl]; exact hf, h⟩
  | o :: rest, k, d, T, Hs, hi, hl, hf, h => by
    have ho : ops[k]? = some o := by simpa using (hi 0).symm
    have hi' : ∀ i : Nat, rest[i]? = ops[k + 1 + i]? := fun i => by have := hi (i + 1); rw [show k + 1 + i = k + (i + 1) by omega]; simpa using this
    have hl' : k + 1 + rest.length = ops.size := by simp at hl; omega
    have go : ∀ d1 : SSt τ, d1 = d → wantS ops o d.tm true → opF cfg F o d1 (fun d' => seqGo cfg F ops rest d' K) → ∃ d' T' Hs', SFacts cfg F H0 ops tm0 ops.size d' T' Hs' ∧ K d' := by
      intro d1 e hw hd
      subst e
      obtain ⟨d', T', Hs', hf', hK'⟩ := opF_facts hf ho hw hd
      exact seqGo_facts rest (k + 1) d' T' Hs' hi' hl' hf' hK'
    have skip : ∀ d1 : SSt τ, d1 = d → wantS ops o d.tm false → seqGo cfg F ops rest (d1.skip o.dst) K → ∃ d' T' Hs', SFacts cfg F H0 ops tm0 ops.size d' T' Hs' ∧ K d' := by
      intro d1 e hw hd
      subst e
      obtain ⟨T', Hs', hf'⟩ := hf.skipped ho hw
      exact seqGo_facts rest (k + 1) _ T' Hs' hi' hl' hf' hd
    unfold seqGo at h
    split at h
    · rename_i hg
      exact go d rfl (by simp [wantS, hg]) h
    · rename_i j want hg
      split at h
      · exact h.elim
      · rename_i t ht
        split at h
        · exact h.elim
        · rename_i x hx
          split at h
          · rename_i hb
            exact skip d rfl (by simp only [wantS, hg]; exact ⟨t, x, ht, hx, .inl ⟨hb, by simp⟩⟩) h
          · rename_i q hb
            have hxq : x = .v (.bool q) := by
              unfold boolV at hb
              split at hb <;> simp at hb
              subst hb; rfl
            have hset : ∀ bb, q = bb → ({ d with tm := d.tm.set t (.v (.bool bb)) } : SSt τ) = d := fun bb e => by
              subst e
              have : d.tm.set t (.v (.bool q)) = d.tm := set_eq_self fun y hy => by rw [hx] at hy; cases hy; exact hxq
              rw [this]
            have hwant : ∀ bb, bb = (q == want) → wantS ops o d.tm bb := fun bb e => by
              simp only [wantS, hg]; exact ⟨t, x, ht, hx, .inr ⟨q, hb, e⟩⟩
            split at h
            · rcases br_elim h with ⟨rfl, hk⟩ | ⟨rfl, hk⟩
              · exact go _ (hset true rfl) (hwant true rfl) hk
              · exact skip _ (hset false rfl) (hwant false rfl) hk
            · rcases br_elim h with ⟨rfl, hk⟩ | ⟨rfl, hk⟩
              · exact skip _ (hset true rfl) (hwant false rfl) hk
              · exact go _ (hset false rfl) (hwant true rfl) hk
          · exact h.elim

/-! ### Paths -/
theorem path_closed {ops : Array Oper} {p : Nat → Bool} (hc : Closed ops p) : ∀ (n k j : Nat), pathB ops n k j = true → p k = true → p j = true
  | 0, _, _, h, _ => by simp [pathB] at h
  | n + 1, k, j, h, hk => by
    unfold pathB at h
    split at h
    · rename_i o ho
      rw [List.any_eq_true] at h
      obtain ⟨ed, hed, hb⟩ := h
      simp only [Bool.and_eq_true, Bool.or_eq_true, Nat.beq_eq] at hb
      have hp := hc k o ho hk ed hed hb.1
      rcases hb.2 with e | e
      · rw [← e]; exact hp
      · exact path_closed hc n ed.on j e hp
    · cases h
/-- The first step of a path from an operation that is about to be carried out. -/
theorem path_ready {ops : Array Oper} {p : Nat → Bool} (hc : Closed ops p) {n k j : Nat} {o : Oper} (ho : ops[k]? = some o) (hdeps : ∀ ed ∈ o.after.toList, Region.binds .any ed = true → p ed.on = true) (h : pathB ops n k j = true) : p j = true := by
  cases n with
  | zero => simp [pathB] at h
  | succ n =>
    unfold pathB at h
    rw [ho] at h
    simp only [List.any_eq_true] at h
    obtain ⟨ed, hed, hb⟩ := h
    simp only [Bool.and_eq_true, Bool.or_eq_true, Nat.beq_eq] at hb
    have hp := hdeps ed hed hb.1
    rcases hb.2 with e | e
    · rw [← e]; exact hp
    · exact path_closed hc n ed.on j e hp
theorem chain_tail {ops : Array Oper} {p : Nat → Bool} (hc : Closed ops p) : ∀ {fx : List (Nat × List Nat)} {a : Nat × List Nat}, chainB ops (a :: fx) = true → p a.1 = true → ∀ b ∈ fx, p b.1 = true
  | [], _, _, _, _, hb => by cases hb
  | c :: r, a, h, ha, b, hb => by
    simp only [chainB, Bool.and_eq_true] at h
    have hcp := path_closed hc _ _ _ h.1 ha
    rcases List.mem_cons.1 hb with rfl | hb
    · exact hcp
    · exact chain_tail hc h.2 hcp b hb
/-- Of two effects the one ahead has been carried out, if the other one has. -/
theorem chain_before {ops : Array Oper} {p : Nat → Bool} (hc : Closed ops p) : ∀ {fx : List (Nat × List Nat)}, chainB ops fx = true → fx.Pairwise (fun a b => b.1 < a.1) → ∀ a ∈ fx, ∀ b ∈ fx, b.1 < a.1 → p a.1 = true → p b.1 = true
  | [], _, _, _, ha, _, _, _, _ => by cases ha
  | c :: r, h, hs, a, ha, b, hb, hlt, hp => by
    rw [List.pairwise_cons] at hs
    rcases List.mem_cons.1 ha with rfl | ha2
    · rcases List.mem_cons.1 hb with rfl | hb
      · omega
      · exact chain_tail hc h hp b hb
    · rcases List.mem_cons.1 hb with rfl | hb2
      · have := hs.1 a ha2; omega
      · refine chain_before hc ?_ hs.2 a ha2 b hb2 hlt hp
        cases r with
        | nil => rfl
        | cons d r => simp only [chainB, Bool.and_eq_true] at h; exact h.2

/-! ### Slots -/
def SSt.ES (d : SSt τ) : List (Ef τ) := d.E.map .q
section
variable {cfg : Cfg τ} {F : List Fz} {H0 : List (SB τ)} {ops : Array Oper} {tm0 : List SV} {n : Nat} {d : SSt τ} {T : Nat → List SV} {Hs : Nat → List (SB τ)}
theorem factsS_T (h : SFacts cfg F H0 ops tm0 n d T Hs) (hn : n ≤ ops.size) : ∀ k, k ≤ n → T k = foldT ops d.ES 0 (fun _ => true) tm0 k
  | 0, _ => h.start
  | k + 1, hk => by
    have ho : ops[k]? = some ops[k] := by simp [show k < ops.size by omega]
    obtain ⟨x, b, h1, h2, _⟩ := h.step k _ (by omega) ho
    have hE : d.ES[k]? = some (.q x) := by simp [SSt.ES, h1]
    rw [h2, foldT]
    simp only [ho, hE, Ef.val]
    rw [factsS_T h hn k (by omega)]
theorem slotsS_read (hf : SFacts cfg F H0 ops tm0 ops.size d T Hs) (hok : okD ops = true) {p : Nat → Bool} (hcl : Closed ops p) {k : Nat} {o : Oper} (ho : ops[k]? = some o) (hk : p k = false)
    (hdeps : ∀ ed ∈ o.after.toList, Region.binds .any ed = true → p ed.on = true) {t : Tmp} (ht : t ∈ o.looksAt ops) : (foldT ops d.ES 0 p tm0 ops.size)[t]? = (T k)[t]? := by
  have hkn : k < ops.size := (Array.getElem?_eq_some_iff.1 ho).1
  rw [factsS_T hf (Nat.le_refl _) k (by omega), ← foldT_stop ops.size (by omega)]
  refine foldT_slot _ fun j oj hj hoj hd => ?_
  by_cases hjk : j = k
  · subst hjk; simp [hk]
  · rcases (okD_pair hok ho hoj hjk hd).1 ht with ⟨h1, h2⟩ | ⟨h1, h2⟩
    · obtain ⟨o', ed, ho', h3, h4, h5⟩ := edge_dep h2
      rw [ho] at ho'; cases ho'
      have := hdeps ed h3 h4
      rw [h5] at this
      simp [this, h1]
    · have : p j = false := by
        cases hp : p j with
        | false => rfl
        | true => rw [hcl.edge h2 hp] at hk; cases hk
      simp [this]; omega
/-- Between two effects the heap stays. -/
theorem Hs_const (hf : SFacts cfg F H0 ops tm0 ops.size d T Hs) {a : Nat} : ∀ b, a ≤ b → b ≤ ops.size → (∀ f ∈ d.fx, ¬ (a ≤ f.1 ∧ f.1 < b)) → Hs b = Hs a
  | 0, h, _, _ => by rw [Nat.le_zero.1 h]
  | b + 1, h, hb, hno => by
    by_cases he : a = b + 1
    · rw [he]
    · rw [← Hs_const hf b (by omega) (by omega) fun f hf' hh => hno f hf' ⟨hh.1, by omega⟩]
      have ho : ops[b]? = some ops[b] := by simp [show b < ops.size by omega]
      obtain ⟨x, bb, _, _, _, h4⟩ := hf.step b _ (by omega) ho
      rcases h4 with ⟨_, _, h5⟩ | ⟨_, _, h5, _⟩ | ⟨_, ws, _, h6⟩ | ⟨_, _, h5, _⟩
      · exact h5
      · exact h5
      · exact absurd ⟨by omega, Nat.lt_succ_self b⟩ (hno _ h6)
      · exact h5
/-- The first effect from a place on. -/
theorem next_fx (fx : List (Nat × List Nat)) (m : Nat) : ∀ (gap a : Nat), a + gap = m → (∀ f ∈ fx, f.1 < m) → ∃ K, a ≤ K ∧ K ≤ m ∧ (∀ f ∈ fx, a ≤ f.1 → K ≤ f.1) ∧ (K < m → ∃ f ∈ fx, f.1 = K)
  | 0, a, h, hlt => ⟨a, Nat.le_refl a, by omega, fun f _ h => h, fun h' => by omega⟩
  | gap + 1, a, h, hlt => by
    by_cases hx : ∃ f ∈ fx, f.1 = a
    · exact ⟨a, Nat.le_refl a, by omega, fun f _ h => h, fun _ => hx⟩
    · obtain ⟨K, h1, h2, h3, h4⟩ := next_fx fx m gap (a + 1) (by omega) hlt
      refine ⟨K, by omega, h2, fun f hf haf => h3 f hf ?_, h4⟩
      rcases Nat.lt_or_ge a f.1 with h | h
      · exact h
      · exact absurd ⟨f, hf, by omega⟩ hx
end
/-! ### New cells that are not there yet -/
def pendB (p : Nat → Bool) (q : Fz) : Bool := p q.j && !p q.s
def anyAt (F : List Fz) (p : Nat → Bool) (t : Nat) (x : SV) : SV := match F.any (fun q => pendB p q && Nat.beq q.t t) with
  | true => .any
  | false => x
def anyF (F : List Fz) (p : Nat → Bool) (tm : List SV) : List SV := tm.mapIdx (anyAt F p)
theorem anyF_get (F : List Fz) (p : Nat → Bool) (tm : List SV) (t : Nat) : (anyF F p tm)[t]? = (tm[t]?).map (anyAt F p t) := by simp [anyF, List.getElem?_mapIdx]
theorem anyF_length (F : List Fz) (p : Nat → Bool) (tm : List SV) : (anyF F p tm).length = tm.length := by simp [anyF]
theorem anyAt_no {F : List Fz} {p : Nat → Bool} {t : Nat} (h : ∀ q ∈ F, pendB p q = true → q.t ≠ t) (x : SV) : anyAt F p t x = x := by
  unfold anyAt
  split
  · rename_i hb
    rw [List.any_eq_true] at hb
    obtain ⟨q, hq, hb⟩ := hb
    rw [Bool.and_eq_true, Nat.beq_eq] at hb
    exact absurd hb.2 (h q hq hb.1)
  · rfl
theorem anyF_no {F : List Fz} {p : Nat → Bool} {tm : List SV} {t : Nat} (h : ∀ q ∈ F, pendB p q = true → q.t ≠ t) : (anyF F p tm)[t]? = tm[t]? := by
  rw [anyF_get]
  cases tm[t]? with
  | none => rfl
  | some x => simp [anyAt_no h]
theorem anyAt_congr {F : List Fz} {p p' : Nat → Bool} (h : ∀ q ∈ F, pendB p' q = pendB p q) (t : Nat) (x : SV) : anyAt F p' t x = anyAt F p t x := by
  have : F.any (fun q => pendB p' q && Nat.beq q.t t) = F.any (fun q => pendB p q && Nat.beq q.t t) := by
    rw [Bool.eq_iff_iff, List.any_eq_true, List.any_eq_true]
    constructor
    · rintro ⟨q, hq, hb⟩; exact ⟨q, hq, by rw [← h q hq]; exact hb⟩
    · rintro ⟨q, hq, hb⟩; exact ⟨q, hq, by rw [h q hq]; exact hb⟩
  unfold anyAt
  rw [this]
theorem anyF_congr {F : List Fz} {p p' : Nat → Bool} (h : ∀ q ∈ F, pendB p' q = pendB p q) (tm : List SV) : anyF F p' tm = anyF F p tm := by
  refine List.ext_getElem? fun t => ?_
  rw [anyF_get, anyF_get]
  cases tm[t]? with
  | none => rfl
  | some x => simp [anyAt_congr h]
theorem denL_ext {e : Env} : ∀ {xs : List SV} {vs : List Value}, xs.length = vs.length → (∀ (i : Nat) (x : SV) (v : Value), xs[i]? = some x → vs[i]? = some v → Den e x v) → DenL e xs vs
  | [], [], _, _ => by simp [DenL]
  | [], _ :: _, h, _ => by simp at h
  | _ :: _, [], h, _ => by simp at h
  | x :: xs, v :: vs, h, hd => by
    simp only [DenL]
    exact ⟨v, vs, rfl, hd 0 x v rfl rfl, denL_ext (by simpa using h) fun i y u h1 h2 => hd (i + 1) y u (by simpa using h1) (by simpa using h2)⟩
theorem DenL.at {e : Env} {xs : List SV} {vs : List Value} (h : DenL e xs vs) {i : Nat} {x : SV} {v : Value} (h1 : xs[i]? = some x) (h2 : vs[i]? = some v) : Den e x v := by
  obtain ⟨u, h3, h4⟩ := h.get h1
  rw [h2] at h3; cases h3; exact h4
/-- Where the cells are that are not there yet. -/
structure Pend (F : List Fz) (P : Program) (Fr Fr' : PH) (p : Nat → Bool) (N : Nat → Nat) (a : Act) : Prop where
  at_ : ∀ q ∈ F, pendB p q = true → a.tmps[q.t]? = some (.pointer (some ⟨N q.j, 0, none⟩)) ∧ (∃ z, zeroT P q.T = some z ∧ Fr' (N q.j) = some (.cells z.cells.toList.toArray q.T)) ∧ Fr (N q.j) = none
  inj : ∀ q ∈ F, ∀ q' ∈ F, pendB p q = true → pendB p q' = true → N q.j = N q'.j → q = q'
  same : ∀ m, (∀ q ∈ F, pendB p q = true → N q.j ≠ m) → Fr' m = Fr m
/-- One object more in the frame. -/
def addPH (Fr : PH) (n : Nat) (o : Obj) : PH := fun k => if k = n then some o else Fr k
def remPH (Fr : PH) (n : Nat) : PH := fun k => if k = n then none else Fr k
theorem Models.push {e : Env} {H : List (SB τ)} {Fr : PH} {w : World} (h : Models I e H Fr w) (o : Obj) : Models I e H (addPH Fr w.heap.size o) { w with heap := w.heap.push o } := by
  obtain ⟨h0, hs, h1, h2, h3, h4, h5, h6⟩ := h
  have hold := Ext.alloc w o
  have h0' := h0.stay (w' := { w with heap := w.heap.push o }) ⟨rfl, rfl⟩
  refine ⟨⟨h0'.os, h0'.out, fun k x hk => ?_⟩, hs, h1, h2, h3, fun j k => ?_, fun j k x hk => hold.heap k x (h5 j k x hk), fun k x hk => ?_⟩
  · have := h0.ro k x hk
    unfold addPH
    rw [if_neg (by have := lt_of_sub h6 this; omega)]
    exact this
  · unfold addPH
    split
    · rename_i hk
      left
      cases hq : hs j k with
      | none => rfl
      | some y => have := lt_of_sub (h5 j) hq; omega
    · exact h4 j k
  · unfold addPH at hk
    split at hk
    · rename_i hk'
      subst hk'
      simp only [Option.some.injEq] at hk
      subst hk
      simp
    · exact hold.heap k x (h6 k x hk)
/-- An object of the frame is an item. -/
theorem Models.claim {e : Env} {H : List (SB τ)} {Fr : PH} {w : World} (h : Models I e H Fr w) {n : Nat} {vs : List Value} {l : List SV} {T : TypeId} (hn : Fr n = some (.cells vs.toArray T)) (hd : DenL e l vs) (hro : I.ro n = none) :
    Models I (ext e H.length (.blk n)) (H ++ [.cells l T]) (remPH Fr n) w := by
  have hfr := h.fresh
  obtain ⟨h0, hs, h1, h2, h3, h4, h5, h6⟩ := h
  have hsn : ∀ j, hs j n = none := fun j => by
    rcases h4 j n with h | h
    · exact h
    · rw [hn] at h; cases h
  refine ⟨⟨h0.os, h0.out, fun k x hk => ?_⟩, fun j => if j = H.length then single n (.cells vs.toArray T (0, 0)) else hs j, fun i b hi => ?_, fun i hi => ?_, fun i j hij k => ?_, fun j k => ?_, fun j k x hk => ?_, fun k x hk => ?_⟩
  · unfold remPH
    rw [if_neg (fun e => by subst e; rw [hro] at hk; cases hk)]
    exact h0.ro k x hk
  · by_cases hlt : i < H.length
    · rw [List.getElem?_append_left hlt] at hi
      simp only [show i ≠ H.length by omega, if_false]
      rw [ext_ne _ _ _ (by omega)]
      exact (h1 i b hi).mono I (le_ext hfr)
    · rw [List.getElem?_append_right (by omega)] at hi
      have : i = H.length := by
        rcases Nat.eq_or_lt_of_le (Nat.le_of_not_lt hlt) with h | h
        · exact h.symm
        · rw [List.getElem?_eq_none (by simp; omega)] at hi; cases hi
      subst this
      simp only [Nat.sub_self, List.getElem?_cons_zero, Option.some.injEq] at hi
      subst hi
      simp only [if_true, ext_self]
      exact ⟨n, vs, rfl, hd.mono (le_ext hfr), rfl⟩
  · have hi' : H.length + 1 ≤ i := by simpa using hi
    simp only [show i ≠ H.length by omega, if_false]
    rw [ext_ne _ _ _ (by omega)]
    exact h2 i (by omega)
  · by_cases hi : i = H.length
    · have hj : j ≠ H.length := by omega
      simp only [hi, hj, if_true, if_false, single]
      split
      · rename_i hk; subst hk; exact .inr (hsn j)
      · exact .inl rfl
    · by_cases hj : j = H.length
      · simp only [hi, hj, if_true, if_false, single]
        split
        · rename_i hk; subst hk; exact .inl (hsn i)
        · exact .inr rfl
      · simp only [hi, hj, if_false]; exact h3 i j hij k
  · by_cases hj : j = H.length
    · simp only [hj, if_true, single, remPH]
      split
      · exact .inr rfl
      · exact .inl rfl
    · simp only [hj, if_false, remPH]
      split
      · exact .inr rfl
      · exact h4 j k
  · by_cases hj : j = H.length
    · simp only [hj, if_true, single] at hk
      split at hk
      · rename_i hk'; subst hk'
        simp only [Option.some.injEq] at hk
        subst hk
        exact h6 k _ hn
      · cases hk
    · simp only [hj, if_false] at hk; exact h5 j k x hk
  · unfold remPH at hk
    split at hk
    · cases hk
    · exact h6 k x hk
/-- What the two forms of the region have in common. -/
structure FzOk (F : List Fz) (ops ops' : Array Oper) : Prop where
  size : ops'.size = ops.size
  norm : ∀ k, NoF F k → ops'[k]? = ops[k]?
  after : ∀ (k : Nat) (o : Oper), ops[k]? = some o → ∃ o' : Oper, ops'[k]? = some o' ∧ o'.after = o.after
  al : ∀ q ∈ F, ∃ o : Oper, ops[q.j]? = some o ∧ o.op = .alloc q.T ∧ o.dst = some q.t ∧ o.guard = none ∧ ops'[q.j]? = some { o with dst := none }
  st : ∀ q ∈ F, ∃ (o : Oper) (x : Operand), ops[q.s]? = some o ∧ o.op = .store q.T (.tmp q.t) x ∧ o.dst = none ∧ o.guard = none ∧ ops'[q.s]? = some { o with dst := some q.t }
  edge : ∀ q ∈ F, edgeB ops' q.s q.j = true
  look : ∀ q ∈ F, ∀ (k : Nat) (o : Oper), k ≠ q.s → ops'[k]? = some o → q.t ∈ o.looksAt ops' → edgeB ops' k q.s = true
  guard : ∀ (k : Nat) (o : Oper) (j : Nat) (w : Bool), ops[k]? = some o → o.guard = some (j, w) → NoF F j
  sep : ∀ q ∈ F, ∀ q' ∈ F, q.j ≠ q'.s ∧ (q.j = q'.j ∨ q.s = q'.s ∨ q.t = q'.t → q = q')
theorem FzOk.nil (ops : Array Oper) : FzOk [] ops ops := ⟨rfl, fun _ _ => rfl, fun k o h => ⟨o, h, rfl⟩, (fun q hq => by cases hq), (fun q hq => by cases hq), (fun q hq => by cases hq), (fun q hq => by cases hq), (fun k o j w _ _ => ⟨fun q hq => by cases hq⟩), (fun q hq => by cases hq)⟩
/-- What is said of the state when the operations of p have been carried out. -/
structure MidS (I : Inv τ) (F : List Fz) (P : Program) (e0 : Env) (Fr : PH) (D : List Deferred) (st : St τ) (ops : Array Oper) (d : SSt τ) (Hs : Nat → List (SB τ)) (p : Nat → Bool) (e : Env) (a : Act) (w : World) : Prop where
  le : Le e0 e
  tm : DenL e (anyF F p (foldT ops d.ES 0 p st.tm ops.size)) a.tmps.toList
  df : st.df = [] ∧ a.defers = D
  closed : Closed ops p
  ro : ∀ (k : Nat) (o : Obj), I.ro k = some o → Fr k = some o
  models : ∃ K Fr' N, K ≤ ops.size ∧ (∀ f ∈ d.fx, p f.1 = true ↔ f.1 < K) ∧ (K < ops.size → ∃ f ∈ d.fx, f.1 = K) ∧ Models I e (Hs K) Fr' w ∧ Pend F P Fr Fr' p N a
theorem wantS_det {ops : Array Oper} {o : Oper} {tm : List SV} (h : wantS ops o tm true) (h' : wantS ops o tm false) : False := by
  unfold wantS at h h'
  split at h
  · rename_i hg; simp [hg] at h'
  · rename_i j wt hg
    simp only [hg] at h'
    obtain ⟨t, x, h1, h2, h3⟩ := h
    obtain ⟨t', x', g1, g2, g3⟩ := h'
    rw [h1] at g1; cases g1
    rw [h2] at g2; cases g2
    rcases h3 with ⟨_, h3⟩ | ⟨q, h3, h4⟩
    · cases h3
    · rcases g3 with ⟨g3, _⟩ | ⟨q', g3, g4⟩
      · rw [h3] at g3; cases g3
      · rw [h3] at g3
        simp only [Option.some.injEq] at g3
        subst g3
        rw [← h4] at g4; cases g4
theorem beq_ne {a b : Nat} (h : a ≠ b) : Nat.beq a b = false := by
  cases hq : Nat.beq a b with
  | false => rfl
  | true => rw [Nat.beq_eq] at hq; exact absurd hq h
theorem pend_same {F : List Fz} {p p' : Nat → Bool} {k : Nat} (hn : NoF F k) (hp : ∀ j, p' j = (p j || Nat.beq j k)) : ∀ q ∈ F, pendB p' q = pendB p q := by
  intro q hq
  obtain ⟨h1, h2⟩ := hn.h q hq
  unfold pendB
  rw [hp, hp, beq_ne h1, beq_ne h2, Bool.or_false, Bool.or_false]
theorem Pend.put {F : List Fz} {P : Program} {Fr Fr' : PH} {p p' : Nat → Bool} {N : Nat → Nat} {a : Act} (h : Pend F P Fr Fr' p N a) (hs : ∀ q ∈ F, pendB p' q = pendB p q) {dst : Option Tmp} (hd : ∀ q ∈ F, dst ≠ some q.t) (v : Value) : Pend F P Fr Fr' p' N (a.put dst v) := by
  refine ⟨fun q hq hb => ?_, fun q hq q' hq' h1 h2 => h.inj q hq q' hq' (by rw [← hs q hq]; exact h1) (by rw [← hs q' hq']; exact h2), fun m hm => h.same m fun q hq hb => hm q hq (by rw [hs q hq]; exact hb)⟩
  obtain ⟨g1, g2⟩ := h.at_ q hq (by rw [← hs q hq]; exact hb)
  refine ⟨?_, g2⟩
  cases dst with
  | none => exact g1
  | some d =>
    have hne : d ≠ q.t := fun e => hd q hq (by rw [e])
    simp only [Act.put]
    rw [Array.getElem?_setIfInBounds_ne hne]; exact g1
theorem anyF_putS {F : List Fz} {p : Nat → Bool} {dst : Option Tmp} (hd : ∀ q ∈ F, dst ≠ some q.t) (x : SV) (tm : List SV) : anyF F p (putS dst x tm) = putS dst x (anyF F p tm) := by
  refine List.ext_getElem? fun t => ?_
  rw [anyF_get, putS_get, putS_get, anyF_length, anyF_get]
  by_cases h : dst = some t ∧ t < tm.length
  · rw [if_pos h, if_pos h]
    simp only [Option.map_some]
    rw [anyAt_no fun q hq _ e => hd q hq (by rw [h.1, e])]
  · rw [if_neg h, if_neg h]
section
variable {cfg : Cfg τ} {F : List Fz} {ops ops0 : Array Oper} {st : St τ} {d : SSt τ} {T : Nat → List SV} {Hs : Nat → List (SB τ)} {e0 e : Env} {Fr : PH} {a : Act} {w : World} {p p' : Nat → Bool} {k : Nat} {o : Oper}
theorem FzOk.dst (hfz : FzOk F ops0 ops) (hok : okD ops = true) (hn : NoF F k) (ho : ops[k]? = some o) : ∀ q ∈ F, o.dst ≠ some q.t := by
  intro q hq
  obtain ⟨o', x, _, _, _, _, h⟩ := hfz.st q hq
  exact (okD_pair hok ho h (hn.h q hq).2 rfl).2
/-- An operation that is no effect: the heap stays. -/
theorem midS_same (hok : okD ops = true) (hM : MidS I F cfg.P e0 Fr D st ops d Hs p e a w) (ho : ops[k]? = some o) (hk : p k = false) (hn : NoF F k) (hds : ∀ q ∈ F, o.dst ≠ some q.t)
    (hdeps : ∀ ed ∈ o.after.toList, Region.binds .any ed = true → p ed.on = true) (hp : ∀ j, p' j = (p j || Nat.beq j k)) {x : SV} (he : d.E[k]? = some x) {v : Value} (hd : Den e x v) (hne : ∀ f ∈ d.fx, f.1 ≠ k) :
    MidS I F cfg.P e0 Fr D st ops d Hs p' e (a.put o.dst v) w := by
  have hE : d.ES[k]? = some (.q x) := by simp [SSt.ES, he]
  obtain ⟨K, Fr', N, h1, h2, h3, h4, h5⟩ := hM.models
  refine ⟨hM.le, ?_, by rw [put_defers]; exact hM.df, mid_closed hM.closed hp ho hdeps, hM.ro, K, Fr', N, h1, fun f hf => ?_, h3, h4, h5.put (pend_same hn hp) hds v⟩
  · rw [slots_put hok ho hE hk hp, anyF_congr (pend_same hn hp), anyF_putS hds]
    exact put_den o.dst hM.tm hd
  · rw [hp, beq_ne (hne f hf), Bool.or_false]
    exact h2 f hf
/-- An effect: all effects ahead of it have been carried out, none behind it. -/
theorem midS_at (hch : chainB ops d.fx = true) (hf : SFacts cfg F st.H ops st.tm ops.size d T Hs) (hM : MidS I F cfg.P e0 Fr D st ops d Hs p e a w) (ho : ops[k]? = some o) (hk : p k = false)
    (hdeps : ∀ ed ∈ o.after.toList, Region.binds .any ed = true → p ed.on = true) {wr : List Nat} (hin : (k, wr) ∈ d.fx) : (∃ Fr' N, Models I e (Hs k) Fr' w ∧ Pend F cfg.P Fr Fr' p N a) ∧ (∀ f ∈ d.fx, p f.1 = true ↔ f.1 < k) := by
  obtain ⟨K, Fr', N, h1, h2, h3, h4, h5⟩ := hM.models
  have hkn : k < ops.size := (Array.getElem?_eq_some_iff.1 ho).1
  have hKk : K ≤ k := by
    rcases Nat.lt_or_ge k K with h | h
    · rw [(h2 _ hin).2 h] at hk; cases hk
    · exact h
  have hkK : K = k := by
    rcases Nat.lt_or_ge K k with h | h
    · exfalso
      obtain ⟨f, hff, hfK⟩ := h3 (by omega)
      -- the chain leads from k to f
      have hpf : p f.1 = true := by
        have : ∀ (fx : List (Nat × List Nat)), chainB ops fx = true → fx.Pairwise (fun a b => b.1 < a.1) → (k, wr) ∈ fx → f ∈ fx → f.1 < k → p f.1 = true := by
          intro fx
          induction fx with
          | nil => intro _ _ hh; cases hh
          | cons c r ih =>
            intro hc hs hin hff hlt
            rw [List.pairwise_cons] at hs
            have hcr : chainB ops r = true := by
              cases r with
              | nil => rfl
              | cons d' r' => simp only [chainB, Bool.and_eq_true] at hc; exact hc.2
            rcases List.mem_cons.1 hin with e1 | hin2
            · subst e1
              rcases List.mem_cons.1 hff with e2 | hff2
              · subst e2; simp at hlt
              · cases r with
                | nil => cases hff2
                | cons d' r' =>
                  simp only [chainB, Bool.and_eq_true] at hc
                  have hd' : p d'.1 = true := path_ready hM.closed ho hdeps hc.1
                  rcases List.mem_cons.1 hff2 with e3 | hff3
                  · subst e3; exact hd'
                  · exact chain_tail hM.closed hc.2 hd' f hff3
            · rcases List.mem_cons.1 hff with e2 | hff2
              · subst e2
                have := hs.1 _ hin2
                simp only at this; omega
              · exact ih hcr hs.2 hin2 hff2 hlt
        exact this d.fx hch hf.srt hin hff (by omega)
      have := (h2 f hff).1 hpf
      omega
    · omega
  subst hkK
  exact ⟨⟨Fr', N, h4, h5⟩, h2⟩
/-- The effects behind one. -/
theorem next_K (hf : SFacts cfg F st.H ops st.tm ops.size d T Hs) (hkn : k < ops.size) (hp : ∀ j, p' j = (p j || Nat.beq j k)) (hlt : ∀ f ∈ d.fx, p f.1 = true ↔ f.1 < k) :
    ∃ K, K ≤ ops.size ∧ (∀ f ∈ d.fx, p' f.1 = true ↔ f.1 < K) ∧ (K < ops.size → ∃ f ∈ d.fx, f.1 = K) ∧ Hs K = Hs (k + 1) := by
  obtain ⟨K, h1, h2, h3, h4⟩ := next_fx d.fx ops.size (ops.size - (k + 1)) (k + 1) (by omega) fun f hff => (hf.fxs f hff).1
  refine ⟨K, h2, fun f hff => ?_, h4, Hs_const hf K h1 h2 fun f hff hh => by have := h3 f hff hh.1; omega⟩
  rw [hp, Bool.or_eq_true, Nat.beq_eq, hlt f hff]
  constructor
  · intro h; omega
  · intro h
    rcases Nat.lt_or_ge f.1 (k + 1) with h' | h'
    · omega
    · have := h3 f hff h'; omega
/-- Behind an effect. -/
theorem midS_next (hok : okD ops = true) (hf : SFacts cfg F st.H ops st.tm ops.size d T Hs) (hM : MidS I F cfg.P e0 Fr D st ops d Hs p e a w) (ho : ops[k]? = some o) (hk : p k = false) (hn : NoF F k) (hds : ∀ q ∈ F, o.dst ≠ some q.t)
    (hdeps : ∀ ed ∈ o.after.toList, Region.binds .any ed = true → p ed.on = true) (hp : ∀ j, p' j = (p j || Nat.beq j k)) (hlt : ∀ f ∈ d.fx, p f.1 = true ↔ f.1 < k) {x : SV} (he : d.E[k]? = some x) {v : Value} {e' : Env} {w' : World} (hle : Le e e') {Fr' : PH} {N : Nat → Nat}
    (hm : Models I e' (Hs (k + 1)) Fr' w') (hpd : Pend F cfg.P Fr Fr' p N a) (hd : Den e' x v) : MidS I F cfg.P e0 Fr D st ops d Hs p' e' (a.put o.dst v) w' := by
  have hE : d.ES[k]? = some (.q x) := by simp [SSt.ES, he]
  have hkn : k < ops.size := (Array.getElem?_eq_some_iff.1 ho).1
  obtain ⟨K, h2, h3, h4, h5⟩ := next_K hf hkn hp hlt
  refine ⟨hM.le.trans hle, ?_, by rw [put_defers]; exact hM.df, mid_closed hM.closed hp ho hdeps, hM.ro, K, Fr', N, h2, h3, h4, by rw [h5]; exact hm, hpd.put (pend_same hn hp) hds v⟩
  rw [slots_put hok ho hE hk hp, anyF_congr (pend_same hn hp), anyF_putS hds]
  exact put_den o.dst (hM.tm.mono hle) hd
/-- The new cells come. -/
theorem midS_wait (hok : okD ops = true) (hin : ∀ q ∈ F, q.t < st.tm.length) (hfz : FzOk F ops0 ops) (hf : SFacts cfg F st.H ops st.tm ops.size d T Hs) (hM : MidS I F cfg.P e0 Fr D st ops d Hs p e a w) {q : Fz} (hq : q ∈ F) (hk : p q.j = false) (ho : ops[q.j]? = some o) (hod : o.dst = none)
    (hdeps : ∀ ed ∈ o.after.toList, Region.binds .any ed = true → p ed.on = true) (hp : ∀ j, p' j = (p j || Nat.beq j q.j)) (he : d.E[q.j]? = some .any) {z : Value} (hz : zeroT cfg.P q.T = some z) :
    MidS I F cfg.P e0 Fr D st ops d Hs p' e (a.put (some q.t) (.pointer (some ⟨w.heap.size, 0, none⟩))) { w with heap := w.heap.push (.cells z.cells.toList.toArray q.T) } := by
  have hE : d.ES[q.j]? = some (.q .any) := by simp [SSt.ES, he]
  obtain ⟨K, Fr', N, h1, h2, h3, h4, h5⟩ := hM.models
  have hsub : Sub Fr' w := h4.2.choose_spec.2.2.2.2.2
  have hps : p q.s = false := by
    cases hb : p q.s with
    | false => rfl
    | true => rw [hM.closed.edge (hfz.edge q hq) hb] at hk; cases hk
  have hsj : q.j ≠ q.s := (hfz.sep q hq q hq).1
  have hpq : pendB p' q = true := by
    unfold pendB
    rw [hp, hp, show Nat.beq q.j q.j = true by rw [Nat.beq_eq], hps, beq_ne fun e => hsj e.symm]; simp
  have hpq0 : pendB p q = false := by unfold pendB; rw [hk]; rfl
  have hoth : ∀ q' ∈ F, q' ≠ q → pendB p' q' = pendB p q' := fun q' hq' hne => by
    have g1 : q'.j ≠ q.j := fun e => hne ((hfz.sep q' hq' q hq).2 (.inl e))
    have g2 : q'.s ≠ q.j := fun e => (hfz.sep q hq q' hq').1 e.symm
    unfold pendB
    rw [hp, hp, beq_ne g1, beq_ne g2, Bool.or_false, Bool.or_false]
  have hlt : ∀ q' ∈ F, pendB p q' = true → N q'.j < w.heap.size := fun q' hq' hb => by
    obtain ⟨_, ⟨z', _, g⟩, _⟩ := h5.at_ q' hq' hb
    exact lt_of_sub hsub g
  have hnoal : ∀ f ∈ d.fx, f.1 ≠ q.j := fun f hff e => hf.alo f hff q hq e.symm
  have htm := hM.tm
  have hts : q.t < a.tmps.size := by have := htm.length; rw [anyF_length, foldT_length] at this; have h := hin q hq; rw [this] at h; simpa using h
  refine ⟨hM.le, ?_, by rw [put_defers]; exact hM.df, mid_closed hM.closed hp ho hdeps, hM.ro, K, addPH Fr' w.heap.size (.cells z.cells.toList.toArray q.T), fun j => if j = q.j then w.heap.size else N j, h1, fun f hff => ?_, h3, h4.push _, ?_⟩
  · refine denL_ext ?_ fun i x v hx hv => ?_
    · have := htm.length
      rw [anyF_length, foldT_length] at this ⊢
      simpa [Act.put] using this
    · rw [slots_put hok ho hE hk hp, hod] at hx
      simp only [putS, anyF_get] at hx
      by_cases hi : q.t = i
      · subst hi
        cases hy : (foldT ops d.ES 0 p st.tm ops.size)[q.t]? with
        | none => rw [hy] at hx; cases hx
        | some y =>
          rw [hy] at hx
          simp only [Option.map_some, Option.some.injEq] at hx
          have : F.any (fun q' => pendB p' q' && Nat.beq q'.t q.t) = true := List.any_eq_true.2 ⟨q, hq, by rw [hpq]; simp⟩
          unfold anyAt at hx
          rw [this] at hx
          subst hx
          simp [Den]
      · have hv' : a.tmps.toList[i]? = some v := by
          simp only [Act.put, Array.toList_setIfInBounds] at hv
          rw [List.getElem?_set_ne hi] at hv; exact hv
        refine htm.at ?_ hv'
        rw [anyF_get, ← hx]
        cases (foldT ops d.ES 0 p st.tm ops.size)[i]? with
        | none => rfl
        | some y =>
          simp only [Option.map_some, Option.some.injEq]
          have : F.any (fun q' => pendB p' q' && Nat.beq q'.t i) = F.any (fun q' => pendB p q' && Nat.beq q'.t i) := by
            rw [Bool.eq_iff_iff, List.any_eq_true, List.any_eq_true]
            constructor
            · rintro ⟨q', hq', hb⟩
              refine ⟨q', hq', ?_⟩
              by_cases hne : q' = q
              · subst hne; rw [beq_ne hi] at hb; simp at hb
              · rw [← hoth q' hq' hne]; exact hb
            · rintro ⟨q', hq', hb⟩
              refine ⟨q', hq', ?_⟩
              by_cases hne : q' = q
              · subst hne; rw [beq_ne hi] at hb; simp at hb
              · rw [hoth q' hq' hne]; exact hb
          unfold anyAt
          rw [this]
  · rw [hp, beq_ne (hnoal f hff), Bool.or_false]
    exact h2 f hff
  · refine ⟨fun q' hq' hb => ?_, fun q1 hq1 q2 hq2 hb1 hb2 hN => ?_, fun m hm => ?_⟩
    · by_cases hne : q' = q
      · subst hne
        simp only [if_true]
        refine ⟨by simp [Act.put, hts], ⟨z, hz, by simp [addPH]⟩, ?_⟩
        cases hFr : Fr w.heap.size with
        | none => rfl
        | some x =>
          have := h5.same w.heap.size fun q' hq' hb => by have := hlt q' hq' hb; omega
          rw [hFr] at this
          have := lt_of_sub hsub this; omega
      · have hb' : pendB p q' = true := by rw [← hoth q' hq' hne]; exact hb
        obtain ⟨g1, ⟨z', g2, g3⟩, g4⟩ := h5.at_ q' hq' hb'
        have hj : q'.j ≠ q.j := fun e => hne ((hfz.sep q' hq' q hq).2 (.inl e))
        have ht : q.t ≠ q'.t := fun e => hne ((hfz.sep q' hq' q hq).2 (.inr (.inr e.symm)))
        simp only [hj, if_false]
        refine ⟨by simp only [Act.put]; rw [Array.getElem?_setIfInBounds_ne ht]; exact g1, ⟨z', g2, ?_⟩, g4⟩
        unfold addPH
        rw [if_neg (by have := hlt q' hq' hb'; omega)]
        exact g3
    · by_cases e1 : q1 = q
      · by_cases e2 : q2 = q
        · rw [e1, e2]
        · have hj : q2.j ≠ q.j := fun e => e2 ((hfz.sep q2 hq2 q hq).2 (.inl e))
          have := hlt q2 hq2 (by rw [← hoth q2 hq2 e2]; exact hb2)
          simp only [e1, hj, if_true, if_false] at hN; omega
      · have hj1 : q1.j ≠ q.j := fun e => e1 ((hfz.sep q1 hq1 q hq).2 (.inl e))
        by_cases e2 : q2 = q
        · have := hlt q1 hq1 (by rw [← hoth q1 hq1 e1]; exact hb1)
          simp only [e2, hj1, if_true, if_false] at hN; omega
        · have hj2 : q2.j ≠ q.j := fun e => e2 ((hfz.sep q2 hq2 q hq).2 (.inl e))
          simp only [hj1, hj2, if_false] at hN
          exact h5.inj q1 hq1 q2 hq2 (by rw [← hoth q1 hq1 e1]; exact hb1) (by rw [← hoth q2 hq2 e2]; exact hb2) hN
    · have hm1 := hm q hq hpq
      simp only [if_true] at hm1
      unfold addPH
      rw [if_neg (fun e => hm1 e.symm)]
      refine h5.same m fun q' hq' hb => ?_
      by_cases hne : q' = q
      · subst hne; rw [hpq0] at hb; cases hb
      · have hj : q'.j ≠ q.j := fun e => hne ((hfz.sep q' hq' q hq).2 (.inl e))
        have := hm q' hq' (by rw [hoth q' hq' hne]; exact hb)
        simp only [hj, if_false] at this
        exact this
/-- The slots that an operation looks at are as in the text's order, but for one that it may hold itself. -/
theorem slotsA_read (hfz : FzOk F ops0 ops) (hf : SFacts cfg F st.H ops st.tm ops.size d T Hs) (hok : okD ops = true) (hcl : Closed ops p) (ho : ops[k]? = some o) (hk : p k = false)
    (hdeps : ∀ ed ∈ o.after.toList, Region.binds .any ed = true → p ed.on = true) {t : Tmp} (ht : t ∈ o.looksAt ops) (hno : ∀ q ∈ F, q.s = k → q.t ≠ t) : (anyF F p (foldT ops d.ES 0 p st.tm ops.size))[t]? = (T k)[t]? := by
  rw [anyF_no, slotsS_read hf hok hcl ho hk hdeps ht]
  intro q hq hb e
  by_cases hqs : k = q.s
  · exact hno q hq hqs.symm e
  · subst e
    have he := hfz.look q hq k o hqs ho ht
    obtain ⟨o', ed, ho', h1, h2, h3⟩ := edge_dep he
    rw [ho] at ho'; cases ho'
    have := hdeps ed h1 h2
    rw [h3] at this
    unfold pendB at hb
    rw [this] at hb; simp at hb
/-- The store that writes the new cells. -/
theorem midS_new (hok : okD ops = true) (hfz : FzOk F ops0 ops) (hf : SFacts cfg F st.H ops st.tm ops.size d T Hs) (hM : MidS I F cfg.P e0 Fr D st ops d Hs p e a w) {q : Fz} (hq : q ∈ F) (hk : p q.s = false) (ho : ops[q.s]? = some o) (hod : o.dst = some q.t)
    (hdeps : ∀ ed ∈ o.after.toList, Region.binds .any ed = true → p ed.on = true) (hp : ∀ j, p' j = (p j || Nat.beq j q.s)) (hlt : ∀ f ∈ d.fx, p f.1 = true ↔ f.1 < q.s) (he : d.E[q.s]? = some (.p (Hs q.s).length 0)) {Fr' : PH} {N : Nat → Nat}
    (hpd : Pend F cfg.P Fr Fr' p N a) (hfresh : e (Hs q.s).length = none) {e' : Env} (hle : Le (ext e (Hs q.s).length (.blk (N q.j))) e') {w' : World} (hm : Models I e' (Hs (q.s + 1)) (remPH Fr' (N q.j)) w') (hpq : pendB p q = true) :
    MidS I F cfg.P e0 Fr D st ops d Hs p' e' a w' := by
  have hE : d.ES[q.s]? = some (.q (.p (Hs q.s).length 0)) := by simp [SSt.ES, he]
  have hkn : q.s < ops.size := (Array.getElem?_eq_some_iff.1 ho).1
  have hle0 : Le e e' := (le_ext hfresh).trans hle
  obtain ⟨K, h2, h3, h4, h5⟩ := next_K hf hkn hp hlt
  have hsj : q.j ≠ q.s := (hfz.sep q hq q hq).1
  have hpq' : pendB p' q = false := by
    unfold pendB
    rw [hp q.s, show Nat.beq q.s q.s = true by rw [Nat.beq_eq]]; simp
  have hoth : ∀ q' ∈ F, q' ≠ q → pendB p' q' = pendB p q' := fun q' hq' hne => by
    have g1 : q'.j ≠ q.s := (hfz.sep q' hq' q hq).1
    have g2 : q'.s ≠ q.s := fun e => hne ((hfz.sep q' hq' q hq).2 (.inr (.inl e)))
    unfold pendB
    rw [hp, hp, beq_ne g1, beq_ne g2, Bool.or_false, Bool.or_false]
  have htm := hM.tm
  obtain ⟨hat, ⟨z, hz, hFz⟩, hFn⟩ := hpd.at_ q hq hpq
  have hNr : N q.j ≠ N q.j → False := fun h => h rfl
  refine ⟨hM.le.trans hle0, denL_ext ?_ fun i x v hx hv => ?_, hM.df, mid_closed hM.closed hp ho hdeps, hM.ro, K, remPH Fr' (N q.j), N, h2, h3, h4, by rw [h5]; exact hm, fun q' hq' hb => ?_, fun q1 hq1 q2 hq2 hb1 hb2 hN => ?_, fun m hmm => ?_⟩
  · have := htm.length
    rw [anyF_length, foldT_length] at this ⊢
    exact this
  · rw [slots_put hok ho hE hk hp, hod, anyF_get, putS_get] at hx
    by_cases hi : q.t = i
    · subst hi
      have hvv : v = .pointer (some ⟨N q.j, 0, none⟩) := by
        have h1 : a.tmps[q.t]? = some v := by simpa using hv
        rw [hat] at h1; cases h1; rfl
      have hl : q.t < (foldT ops d.ES 0 p st.tm ops.size).length := by
        have := htm.length
        rw [anyF_length] at this
        rw [this]
        exact (List.getElem?_eq_some_iff.1 hv).1
      rw [if_pos ⟨rfl, hl⟩] at hx
      simp only [Option.map_some, Option.some.injEq] at hx
      rw [anyAt_no] at hx
      · subst hx
        simp only [Den, Ef.val]
        exact ⟨_, hle.blk (ext_self _ _ _), hvv⟩
      · intro q' hq' hb e
        by_cases hne : q' = q
        · subst hne; rw [hpq'] at hb; cases hb
        · exact hne ((hfz.sep q' hq' q hq).2 (.inr (.inr e)))
    · rw [if_neg (by rintro ⟨h, _⟩; simp only [Option.some.injEq] at h; exact hi h)] at hx
      refine (htm.at (x := x) ?_ hv).mono hle0
      rw [anyF_get, ← hx]
      cases (foldT ops d.ES 0 p st.tm ops.size)[i]? with
      | none => rfl
      | some y =>
        simp only [Option.map_some, Option.some.injEq]
        have : F.any (fun q' => pendB p' q' && Nat.beq q'.t i) = F.any (fun q' => pendB p q' && Nat.beq q'.t i) := by
          rw [Bool.eq_iff_iff, List.any_eq_true, List.any_eq_true]
          constructor
          · rintro ⟨q', hq', hb⟩
            refine ⟨q', hq', ?_⟩
            by_cases hne : q' = q
            · subst hne; rw [beq_ne hi] at hb; simp at hb
            · rw [← hoth q' hq' hne]; exact hb
          · rintro ⟨q', hq', hb⟩
            refine ⟨q', hq', ?_⟩
            by_cases hne : q' = q
            · subst hne; rw [beq_ne hi] at hb; simp at hb
            · rw [hoth q' hq' hne]; exact hb
        unfold anyAt
        rw [this]
  · by_cases hne : q' = q
    · subst hne; rw [hpq'] at hb; cases hb
    · have hb' : pendB p q' = true := by rw [← hoth q' hq' hne]; exact hb
      obtain ⟨g1, ⟨z', g2, g3⟩, g4⟩ := hpd.at_ q' hq' hb'
      refine ⟨g1, ⟨z', g2, ?_⟩, g4⟩
      unfold remPH
      rw [if_neg (fun e => hne (hpd.inj q' hq' q hq hb' hpq e))]
      exact g3
  · have hn1 : q1 ≠ q := fun e => by subst e; rw [hpq'] at hb1; cases hb1
    have hn2 : q2 ≠ q := fun e => by subst e; rw [hpq'] at hb2; cases hb2
    exact hpd.inj q1 hq1 q2 hq2 (by rw [← hoth q1 hq1 hn1]; exact hb1) (by rw [← hoth q2 hq2 hn2]; exact hb2) hN
  · unfold remPH
    split
    · rename_i e; subst e; exact hFn.symm
    · rename_i hne
      refine hpd.same m fun q' hq' hb => ?_
      by_cases hqq : q' = q
      · subst hqq; exact fun e => hne e.symm
      · exact hmm q' hq' (by rw [hoth q' hq' hqq]; exact hb)
end

theorem SLd.keeps {cfg : Cfg τ} {F : List Fz} {k : Nat} (hc : ∀ g ac, cfg.acon g = some ac → AConOk I cfg.P g ac) {o : Oper} {tm : List SV} {H H' : List (SB τ)} {x : SV} {ws : List Nat} {b : Nat} (h : SLd cfg F k o tm H x H' ws) (hw : hasN ws b = false) (hb : b < H.length) : H'[b]? = H[b]? ∧ H.length ≤ H'.length := by
  rcases h with ⟨_, _, _, q, _, _, z, c, y, _, h, _⟩ | ⟨_, _, c, h, _⟩ | ⟨_, f, args, ats, g, fi, ca, fn, hop, hcal, hfn, hn, hbd, hpre, hhas⟩
  · obtain ⟨h1, h2⟩ := stepL_keeps h hw (by simp; omega)
    rw [List.getElem?_append_left hb] at h1
    exact ⟨h1, by simp at h2; omega⟩
  · exact stepL_keeps h hw hb
  · unfold callA at hhas
    split at hhas
    · split at hhas
      · obtain ⟨_, rfl, _⟩ := hhas; exact ⟨rfl, Nat.le_refl _⟩
      · exact hhas.elim
    · split at hhas
      · rename_i ac hac; exact (hc g ac hac).keeps _ _ _ _ _ _ hhas hw hb
      · exact hhas.elim

section
variable {cfg : Cfg τ} {F : List Fz} {ops : Array Oper} {st : St τ} {d : SSt τ} {T : Nat → List SV} {Hs : Nat → List (SB τ)} {e0 e : Env} {Fr : PH} {a : Act} {w : World} {p p' : Nat → Bool} {k : Nat} {o : Oper}
theorem keep_step (hac : ∀ g ac, cfg.acon g = some ac → AConOk I cfg.P g ac) (hf : SFacts cfg F st.H ops st.tm ops.size d T Hs) {m b : Nat} (hm : m < ops.size) (hb : b < (Hs m).length) (hx : ∀ f ∈ d.fx, f.1 = m → hasN f.2 b = false ∨ (Hs (f.1 + 1))[b]? = (Hs f.1)[b]?) : (Hs (m + 1))[b]? = (Hs m)[b]? := by
  have ho : ops[m]? = some ops[m] := by simp [hm]
  obtain ⟨x, bb, _, _, _, h4⟩ := hf.step m _ hm ho
  rcases h4 with ⟨_, _, h5⟩ | ⟨_, _, h5, _⟩ | ⟨_, ws, h5, h6⟩ | ⟨_, _, h5, _⟩
  · rw [h5]
  · rw [h5]
  rotate_left
  · rw [h5]
  · rcases hx _ h6 rfl with h7 | h7
    · exact (h5.keeps hac h7 hb).1
    · exact h7
theorem keep_range (hac : ∀ g ac, cfg.acon g = some ac → AConOk I cfg.P g ac) (hf : SFacts cfg F st.H ops st.tm ops.size d T Hs) {b i : Nat} : ∀ c, i ≤ c → c ≤ ops.size → b < (Hs i).length → (∀ f ∈ d.fx, i ≤ f.1 → f.1 < c → hasN f.2 b = false ∨ (Hs (f.1 + 1))[b]? = (Hs f.1)[b]?) → (Hs c)[b]? = (Hs i)[b]?
  | 0, h, _, _, _ => by rw [Nat.le_zero.1 h]
  | c + 1, h, hc, hb, hx => by
    by_cases he : i = c + 1
    · rw [he]
    · have h1 := keep_range hac hf c (by omega) (by omega) hb fun f hff h3 h4 => hx f hff h3 (by omega)
      have hb2 : b < (Hs c).length := by
        rw [List.getElem?_eq_getElem hb] at h1
        exact (List.getElem?_eq_some_iff.1 h1).1
      have h5 := keep_step hac hf (m := c) (b := b) (by omega) hb2 fun f hff h3 => hx f hff (by omega) (by omega)
      exact h5.trans h1
/-- What a quiet operation looks at is there, as it was, whenever it comes up. -/
theorem look_ok (hac : ∀ g ac, cfg.acon g = some ac → AConOk I cfg.P g ac) (hf : SFacts cfg F st.H ops st.tm ops.size d T Hs) (hl : LookOk ops d.HS d.H d.fx d.rd) (hc : Closed ops p) (ho : ops[k]? = some o) (hk : p k = false)
    (hdeps : ∀ ed ∈ o.after.toList, Region.binds .any ed = true → p ed.on = true) {b : Nat} (hrd : (k, b) ∈ d.rd) (hne : ∀ f ∈ d.fx, f.1 ≠ k) {K : Nat} (h1 : K ≤ ops.size) (h2 : ∀ f ∈ d.fx, p f.1 = true ↔ f.1 < K) (h3 : K < ops.size → ∃ f ∈ d.fx, f.1 = K)
    {it : SB τ} (hit : (Hs k)[b]? = some it) : (Hs K)[b]? = some it := by
  have hkn : k < ops.size := (Array.getElem?_eq_some_iff.1 ho).1
  have hl := hl.h (k, b) hrd
  have eHs : ∀ f ∈ d.fx, d.HS.getD (f.1 + 1) d.H = Hs (f.1 + 1) := fun f hff => by
    have hfl := (hf.fxs f hff).1
    rw [List.getD]
    rcases Nat.lt_or_ge (f.1 + 1) ops.size with h7 | h7
    · rw [hf.hist _ h7]; rfl
    · rw [List.getElem?_eq_none (by rw [hf.lenH]; exact h7)]
      have : f.1 + 1 = ops.size := by omega
      rw [this, hf.stopH]; rfl
  rcases Nat.lt_or_ge K k with hKk | hkK
  · have key : ∀ f ∈ d.fx, K ≤ f.1 → f.1 < k → (hasN f.2 b = false ∨ (Hs (f.1 + 1))[b]? = (Hs f.1)[b]?) ∧ b < (Hs f.1).length := fun f hff h4 h5 => by
      have := (hl f hff).1 h5
      have hh := hf.hist f.1 (by omega)
      have e1 : d.HS.getD f.1 [] = Hs f.1 := by rw [List.getD, hh]; rfl
      rcases this with hpath | ⟨h6, h7⟩ | ⟨h6, h7⟩
      · have hp := path_ready hc ho hdeps hpath
        have := (h2 f hff).1 hp
        omega
      · rw [e1] at h7
        exact ⟨.inl h6, h7⟩
      · rw [e1] at h7
        rw [e1, eHs f hff] at h6
        exact ⟨.inr h6, h7⟩
    obtain ⟨f0, hf0, hfK⟩ := h3 (by omega)
    have hlen : b < (Hs K).length := by
      have := (key f0 hf0 (by omega) (by omega)).2
      rw [hfK] at this; exact this
    have := keep_range hac hf k (by omega) (by omega) hlen fun f hff h4 h5 => (key f hff h4 h5).1
    rw [← this]; exact hit
  · have hlen : b < (Hs k).length := (List.getElem?_eq_some_iff.1 hit).1
    have := keep_range hac hf K hkK h1 hlen fun f hff h4 h5 => by
      rcases (hl f hff).2 (by omega) with hpath | h6 | h6
      · have hp := path_closed hc _ _ _ hpath ((h2 f hff).2 h5)
        rw [hp] at hk; cases hk
      · exact .inl h6
      · right
        have hfl := (hf.fxs f hff).1
        have e1 : d.HS.getD f.1 [] = Hs f.1 := by rw [List.getD, hf.hist f.1 hfl]; rfl
        have e2 : d.HS.getD (f.1 + 1) d.H = Hs (f.1 + 1) := by
          rw [List.getD]
          rcases Nat.lt_or_ge (f.1 + 1) ops.size with h7 | h7
          · rw [hf.hist _ h7]; rfl
          · rw [List.getElem?_eq_none (by rw [hf.lenH]; exact h7)]
            have : f.1 + 1 = ops.size := by omega
            rw [this, hf.stopH]; rfl
        rw [e1, e2] at h6
        exact h6
    rw [this]; exact hit
end

/-- One operation of such a region, wherever it comes up. -/
theorem seq_step {cfg : Cfg τ} (hpc : ∀ g pc, cfg.pcon g = some pc → PConOk I cfg.P g pc) (hac : ∀ g ac, cfg.acon g = some ac → AConOk I cfg.P g ac) {F : List Fz} {ops0 ops : Array Oper} {st : St τ} {d : SSt τ} {T : Nat → List SV} {Hs : Nat → List (SB τ)} {e0 e : Env} {Fr : PH} {a : Act} {w : World} {p p' : Nat → Bool} {k : Nat} {r : Option Nat}
    {Q : Exit → Act → World → Prop} {K : Act → World → Prop} (hok : okD ops = true) (hfz : FzOk F ops0 ops) (hin : ∀ q ∈ F, q.t < st.tm.length) (hch : chainB ops d.fx = true) (hlk : LookOk ops d.HS d.H d.fx d.rd) (hf : SFacts cfg F st.H ops st.tm ops.size d T Hs) (hM : MidS I F cfg.P e0 Fr D st ops d Hs p e a w) {o o0 : Oper} (ho : ops[k]? = some o) (ho0 : ops0[k]? = some o0) (hk : p k = false)
    (hdeps : ∀ ed ∈ o.after.toList, Region.binds .any ed = true → p ed.on = true) (hp : ∀ j, p' j = (p j || Nat.beq j k)) (hK : ∀ e' a' w', MidS I F cfg.P e0 Fr D st ops d Hs p' e' a' w' → K a' w') : wpOpIn (FF r) 0 cfg.P ops0 Q k K a w := by
  have hkn : k < ops.size := (Array.getElem?_eq_some_iff.1 ho).1
  obtain ⟨x, b, hE, _, hw, hef⟩ := hf.step k o hkn ho
  by_cases hnf : NoF F k
  rotate_left
  · -- the new cells, or the store that writes them
    have hex : ∃ q ∈ F, q.j = k ∨ q.s = k := by
      refine Classical.byContradiction fun hn => hnf ⟨fun q hq => ⟨fun e => hn ⟨q, hq, .inl e⟩, fun e => hn ⟨q, hq, .inr e⟩⟩⟩
    obtain ⟨q, hq, hqk⟩ := hex
    rcases hqk with rfl | rfl
    · obtain ⟨o1, g1, g2, g3, g4, g5⟩ := hfz.al q hq
      rw [g1] at ho0; cases ho0
      rw [g5] at ho; cases ho
      have hb : b = true := by unfold wantS at hw; simp only [g4] at hw; exact hw
      subst hb
      rcases hef with ⟨h, _⟩ | ⟨_, hs, _⟩ | ⟨_, ws, hs, hfx⟩ | ⟨_, rfl, _, _⟩
      · cases h
      · exact absurd rfl (hs.1.h q hq).1
      · exact absurd rfl (hf.alo _ hfx q hq)
      unfold wpOpIn
      rw [g1]
      have hwant : Region.wanted o0 (yielded ops0 a.tmps) = true := by unfold Region.wanted; rw [g4]
      simp only [hwant, if_true]
      refine ⟨fun _ _ => trivial, ?_⟩
      show o0.uponIn (FF r) 0 cfg.P a K Q ((o0.semAt r a.eval).run cfg.P w)
      rw [semAt_eq (by intro c hc; rw [g2] at hc; cases hc)]
      obtain ⟨z, hz⟩ : ∃ z, zeroT cfg.P q.T = some z := by
        obtain ⟨o2, x2, f1, f2, f3, f4, f5⟩ := hfz.st q hq
        obtain ⟨x3, b3, _, _, hw3, h3⟩ := hf.step q.s _ (by have := (Array.getElem?_eq_some_iff.1 f5).1; exact this) f5
        have hb3 : b3 = true := by unfold wantS at hw3; simp only [f4] at hw3; exact hw3
        subst hb3
        rcases h3 with ⟨h, _⟩ | ⟨_, hs, _⟩ | ⟨_, ws, hs, hfx⟩ | ⟨_, _, _, q', hq', e'⟩
        · cases h
        · exact absurd rfl (hs.1.h q hq).2
        · rcases hs with ⟨_, _, _, q', hq', e', z, _, _, hz, _⟩ | ⟨hs, _⟩ | ⟨hs, _⟩
          · have := (hfz.sep q' hq' q hq).2 (.inr (.inl e'))
            subst this
            exact ⟨z, hz⟩
          · exact absurd rfl (hs.h q hq).2
          · exact absurd rfl (hs.h q hq).2
        · exact absurd e' (hfz.sep q' hq' q hq).1
      have hr : (execOp a.eval o0).run cfg.P w = .ok (.value (.pointer (some ⟨w.heap.size, 0, none⟩))) { w with heap := w.heap.push (.cells z.cells.toList.toArray q.T) } := by
        simp [execOp, g2, Instr.alloc, run_zeroT hz, newVar, newRow]
      rw [hr]
      have := hK _ _ _ (midS_wait hok hin hfz hf hM hq hk g5 rfl hdeps hp hE hz)
      show K (a.put o0.dst _) _
      rw [g3]; exact this
    · obtain ⟨o1, x1, g1, g2, g3, g4, g5⟩ := hfz.st q hq
      rw [g1] at ho0; cases ho0
      have ho' := ho
      rw [g5] at ho; cases ho
      have hb : b = true := by unfold wantS at hw; simp only [g4] at hw; exact hw
      subst hb
      rcases hef with ⟨h, _⟩ | ⟨_, hs, _⟩ | ⟨_, ws, hs, hfx⟩ | ⟨_, _, _, q', hq', e'⟩
      · cases h
      · exact absurd rfl (hs.1.h q hq).2
      rotate_left
      · exact absurd e' (hfz.sep q' hq' q hq).1
      rcases hs with ⟨hv, _, rfl, q', hq', e', z, c, y, hz, hl, hc⟩ | ⟨hs, _⟩ | ⟨hs, _⟩
      rotate_left
      · exact absurd rfl (hs.h q hq).2
      · exact absurd rfl (hs.h q hq).2
      have := (hfz.sep q' hq' q hq).2 (.inr (.inl e'))
      subst this
      obtain ⟨⟨Fr', N, hm0, hpd⟩, hlt⟩ := midS_at hch hf hM ho' hk hdeps hfx
      have hpq : pendB p q' = true := by
        obtain ⟨o3, ed, ho3, h1, h2, h3⟩ := edge_dep (hfz.edge q' hq)
        rw [ho'] at ho3; cases ho3
        have := hdeps ed h1 h2
        rw [h3] at this
        unfold pendB
        rw [this, hk]; rfl
      obtain ⟨hat, ⟨z2, hz2, hFz⟩, hFn⟩ := hpd.at_ q' hq hpq
      rw [hz] at hz2; cases hz2
      have hro : I.ro (N q'.j) = none := by
        cases hI : I.ro (N q'.j) with
        | none => rfl
        | some x => have := hM.ro _ _ hI; rw [hFn] at this; cases this
      have hfresh := hm0.fresh
      have hm1 := hm0.claim hFz (DenL.plain z.cells.toList) hro
      have htl := hM.tm.length
      rw [anyF_length, foldT_length] at htl
      have hTl : (T q'.s).length = st.tm.length := by rw [factsS_T hf (Nat.le_refl _) q'.s (by omega), foldT_length]
      have ht1 : DenL (ext e (Hs q'.s).length (.blk (N q'.j))) ((anyF F p (foldT ops d.ES 0 p st.tm ops.size)).set q'.t (.p (Hs q'.s).length 0)) a.tmps.toList := by
        refine denL_ext (by rw [List.length_set, anyF_length, foldT_length]; exact htl) fun i x v hx hv => ?_
        by_cases hi : q'.t = i
        · subst hi
          rw [List.getElem?_set_self (by rw [anyF_length, foldT_length]; exact hin q' hq)] at hx
          simp only [Option.some.injEq] at hx
          subst hx
          have h1 : a.tmps[q'.t]? = some v := by simpa using hv
          rw [hat] at h1; cases h1
          simp only [Den]
          exact ⟨_, ext_self _ _ _, rfl⟩
        · rw [List.getElem?_set_ne hi] at hx
          exact (hM.tm.at hx hv).mono (le_ext hfresh)
      have hev1 : ∀ x ∈ o0.op.operands.toList, ev ((T q'.s).set q'.t (.p (Hs q'.s).length 0)) x = ev ((anyF F p (foldT ops d.ES 0 p st.tm ops.size)).set q'.t (.p (Hs q'.s).length 0)) x := fun x hx => ev_slots fun t e => by
        subst e
        by_cases hi : q'.t = t
        · subst hi
          rw [List.getElem?_set_self (by rw [hTl]; exact hin q' hq), List.getElem?_set_self (by rw [anyF_length, foldT_length]; exact hin q' hq)]
        · rw [List.getElem?_set_ne hi, List.getElem?_set_ne hi]
          have hlk2 : t ∈ ({ o0 with dst := some q'.t } : Oper).looksAt ops := looks_of_operand hx
          exact (slotsA_read hfz hf hok hM.closed ho' hk hdeps hlk2 fun q2 hq2 e2 e3 => hi (by rw [(hfz.sep q2 hq2 q' hq).2 (.inr (.inl e2))] at e3; exact e3)).symm
      rw [stepL_congr hev1] at hl
      obtain ⟨nx, v, w', e', hr, hnx, hle, hm, hd⟩ := stepL_ok (o := o0) hm1 ht1 hl hc
      unfold wpOpIn
      rw [g1]
      have hwant : Region.wanted o0 (yielded ops0 a.tmps) = true := by unfold Region.wanted; rw [g4]
      simp only [hwant, if_true]
      refine ⟨fun _ _ => trivial, ?_⟩
      show o0.uponIn (FF r) 0 cfg.P a K Q ((o0.semAt r a.eval).run cfg.P w)
      rw [semAt_eq (notDefer_L hl), hr]
      have := hK _ _ _ (midS_new hok hfz hf hM hq hk ho' rfl hdeps hp hlt hE hpd hfresh hle hm hpq)
      have hput : a.put o0.dst v = a := by rw [g3]; rfl
      rcases hnx with rfl | ⟨rfl, rfl⟩
      · show K (a.put o0.dst v) w'
        rw [hput]; exact this
      · first
        | exact this
        | (show K (a.put o0.dst undef) w'; rw [g3]; exact this)
  have hoo : o0 = o := by rw [hfz.norm k hnf, ho0] at ho; cases ho; rfl
  subst hoo
  have hds := hfz.dst hok hnf ho
  have hread : ∀ t ∈ o0.looksAt ops, (anyF F p (foldT ops d.ES 0 p st.tm ops.size))[t]? = (T k)[t]? := fun t ht => slotsA_read hfz hf hok hM.closed ho hk hdeps ht fun q hq e => absurd e (hnf.h q hq).2
  have hev : ∀ x ∈ o0.op.operands.toList, ev (T k) x = ev (anyF F p (foldT ops d.ES 0 p st.tm ops.size)) x := fun x hx => (ev_slots fun t e => by subst e; exact hread t (looks_of_operand hx)).symm
  unfold wpOpIn
  rw [ho0]
  have hwant : Region.wanted o0 (yielded ops0 a.tmps) = b := by
    unfold wantS at hw
    unfold Region.wanted
    split at hw
    · rename_i hg; rw [hg, hw]
    · rename_i j wt hg
      rw [hg]
      obtain ⟨t, x, h1, h2, h3⟩ := hw
      have hsame : (ops[j]?).bind (·.dst) = (ops0[j]?).bind (·.dst) := by rw [hfz.norm j (hfz.guard k o0 j wt ho0 hg)]
      have h1' := h1
      rw [hsame] at h1'
      have h4 := hread t (looks_of_guard hg h1)
      rw [h2] at h4
      obtain ⟨v, hv, hdv⟩ := hM.tm.get h4
      have hv' : a.tmps[t]? = some v := by simpa using hv
      rcases h3 with ⟨h3, rfl⟩ | ⟨q, h3, rfl⟩
      · have hnb := boolV_none h3 hdv
        have : yielded ops0 a.tmps j = none := by
          simp only [yielded, h1', Option.bind_some, hv']
          cases v <;> first | rfl | exact absurd rfl (hnb _)
        simp [this]
      · obtain ⟨_, rfl⟩ := boolV_some h3 hdv
        have : yielded ops0 a.tmps j = some q := by simp [yielded, h1', hv']
        simp [this]
  simp only [hwant]
  rcases hef with ⟨rfl, rfl, _⟩ | ⟨rfl, hs, _, hrd⟩ | ⟨rfl, ws, hs, hfx⟩ | ⟨_, _, _, q, hq, e⟩
  rotate_right
  · exact absurd e (hnf.h q hq).1
  · simp only [Bool.false_eq_true, if_false]
    refine ⟨fun _ _ => trivial, hK e _ _ (midS_same hok hM ho hk hnf hds hdeps hp hE (by simp [Den]) (fun f hff hfk => ?_))⟩
    obtain ⟨_, o', g2, g5, _⟩ := hf.fxs f hff
    rw [hfk] at g2 g5
    rw [ho] at g2; cases g2
    exact wantS_det g5 hw
  · simp only [if_true]
    refine ⟨fun _ _ => trivial, ?_⟩
    show o0.uponIn (FF r) 0 cfg.P a K Q ((o0.semAt r a.eval).run cfg.P w)
    obtain ⟨_, c, hv, hc⟩ := hs
    have hne : ∀ f ∈ d.fx, f.1 ≠ k := fun f hff hfk => by
      obtain ⟨_, o', g2, _, g3⟩ := hf.fxs f hff
      rw [hfk] at g2 g3
      rw [ho] at g2; cases g2
      rw [hv] at g3; cases g3
    obtain ⟨Kk, Fr', N, h1, h2, h3, h4, h5⟩ := hM.models
    have hlook : ∀ b it, touch o0.op (anyF F p (foldT ops d.ES 0 p st.tm ops.size)) = some b → (Hs k)[b]? = some it → (Hs Kk)[b]? = some it := fun b it hb hit =>
      look_ok hac hf hlk hM.closed ho hk hdeps (hrd b (by rw [touch_congr hev]; exact hb)) hne h1 h2 h3 hit
    have hv2 := stepV_heap (by rw [← stepV_congr hev]; exact hv) hlook
    obtain ⟨v, hr, hd⟩ := stepV_ok (o := o0) h4 hM.tm hv2 hc
    rw [semAt_eq (notDefer_V hv), hr]
    exact hK e _ _ (midS_same hok hM ho hk hnf hds hdeps hp hE hd hne)
  · simp only [if_true]
    refine ⟨fun _ _ => trivial, ?_⟩
    show o0.uponIn (FF r) 0 cfg.P a K Q ((o0.semAt r a.eval).run cfg.P w)
    obtain ⟨⟨Fr', N, hm0, hpd⟩, hlt⟩ := midS_at hch hf hM ho hk hdeps hfx
    rcases hs with ⟨_, _, _, q, hq, e, _⟩ | ⟨_, _, c, hv, hc⟩ | ⟨_, f, args, ats, g, fi, ca, fn, hop, hcal, hfn, hn, hb, hpre, hhas⟩
    · exact absurd e (hnf.h q hq).2
    · rw [stepL_congr hev] at hv
      obtain ⟨nx, v, w', e', hr, hnx, hle, hm, hd⟩ := stepL_ok (o := o0) hm0 hM.tm hv hc
      rw [semAt_eq (notDefer_L hv), hr]
      have := hK _ _ _ (midS_next hok hf hM ho hk hnf hds hdeps hp hlt hE hle hm hpd hd)
      rcases hnx with rfl | ⟨rfl, rfl⟩
      · exact this
      · exact this
    · have hargs := evs_ok hM.tm args.toList
      have e2 : (args.toList.map a.eval).toArray = args.map a.eval := by apply Array.toList_inj.1; simp
      have hmemA : ∀ x ∈ args.toList, x ∈ o0.op.operands.toList := fun x hx => by rw [hop]; simp only [Op.operands, Call.operands, Array.toList_append, List.mem_append]; exact .inr hx
      have hmemF : f ∈ o0.op.operands.toList := by rw [hop]; simp [Op.operands, Call.operands]
      rw [ev_map_congr (tm' := (anyF F p (foldT ops d.ES 0 p st.tm ops.size))) fun x hx => hev x (hmemA x hx)] at hpre hhas
      rw [hev f hmemF] at hcal
      obtain ⟨fs, cs, hfv, hfi, hca⟩ := callee_ok hcal (ev_ok hM.tm f)
      rw [semAt_eq (by intro c hc; rw [hop] at hc; cases hc)]
      have henter : ∀ (as : Array Value) (w : World), (callFunc g as).run cfg.P w = .ok (.enter g as) w := fun as w => by
        simp only [callFunc, Sem.run_bind, run_program, Result.andThen_ok, hfn, hn, hb, Bool.false_eq_true, if_false, Sem.run_pure]
      have hr : (execOp a.eval o0).run cfg.P w = .ok (.enter g (fs ++ args.map a.eval ++ cs)) w := by
        simp [execOp, hop, resolve, hfv, Deferred.ofValue, invoke, henter]
      rw [hr]
      have e3 : (fs.toList ++ args.toList.map a.eval ++ cs.toList).toArray = fs ++ args.map a.eval ++ cs := by apply Array.toList_inj.1; simp
      have hcall : Calls cfg.P g (fs ++ args.map a.eval ++ cs) w fun en w' => ∃ e' v, en = .returned v ∧ Le e e' ∧ Models I e' (Hs (k + 1)) Fr' w' ∧ Den e' x v := by
        rw [← e3]
        unfold callA at hpre hhas
        split at hpre
        · rename_i pc hpcg
          split at hpre
          · rename_i φ' x' hpx
            simp only [hpcg, hpx] at hhas
            obtain ⟨rfl, hHs, _⟩ := hhas
            refine (hpc g pc hpcg _ (Hs k) [] _ _ e Fr' w _ hpx hpre.1 ((hfi.append hargs).append hca) (by simpa using hm0)).mono fun en w' hh => ?_
            obtain ⟨v, rfl, hdv, hext⟩ := hh
            exact ⟨e, v, rfl, Le.refl e, by rw [hHs]; exact hm0.grow hext, hdv⟩
          · exact hpre.elim
        · rename_i hpcg
          split at hpre
          · rename_i ac hacg
            simp only [hpcg, hacg] at hhas
            refine ((hac g ac hacg).ok _ _ e Fr' w _ hpre ((hfi.append hargs).append hca) hm0).mono fun en w' hh => ?_
            obtain ⟨x2, H2, ws2, e', v, g1, rfl, g3, g4, g5⟩ := hh
            obtain ⟨rfl, rfl, _⟩ := has_unique g1 hhas
            exact ⟨e', v, rfl, g3, g4, g5⟩
          · exact hpre.elim
      refine ⟨(fun hc => by cases hc), (calls_FF hcall).mono fun en w' he => ?_⟩
      obtain ⟨e', v, rfl, hle, hm, hd⟩ := he
      exact hK _ _ _ (midS_next hok hf hM ho hk hnf hds hdeps hp hlt hE hle hm hpd hd)

/-- THE REGION: in whatever order. -/
theorem seq_any {cfg : Cfg τ} (hpc : ∀ g pc, cfg.pcon g = some pc → PConOk I cfg.P g pc) (hac : ∀ g ac, cfg.acon g = some ac → AConOk I cfg.P g ac) {F : List Fz} {ops0 ops : Array Oper} {st : St τ} {d : SSt τ} {T : Nat → List SV} {Hs : Nat → List (SB τ)} {e0 : Env} {Fr : PH} {r : Option Nat}
    {Q : Exit → Act → World → Prop} (hok : okD ops = true) (hfz : FzOk F ops0 ops) (hin : ∀ q ∈ F, q.t < st.tm.length) (hch : chainB ops d.fx = true) (hlk : LookOk ops d.HS d.H d.fx d.rd) (hf : SFacts cfg F st.H ops st.tm ops.size d T Hs)
    (hfin : ∀ e a w, Le e0 e → StOk I e Fr D { st with tm := d.tm, H := d.H } a w → Q .normal a w) :
    ∀ (fuel : Nat) (listed : Array Bool) (e : Env) (a : Act) (w : World), listed.size = ops.size → left ops.size (fun k => listed.getD k false) ≤ fuel →
      MidS I F cfg.P e0 Fr D st ops d Hs (fun k => listed.getD k false) e a w → wpAnyIn (FF r) 0 cfg.P .any ops0 Q fuel listed a w := by
  -- when nothing may come up, all has been carried out
  have hall : ∀ (listed : Array Bool), listed.size = ops.size → Region.ready .any ops0 listed = [] → ∀ k, k < ops.size → listed.getD k false = true := by
    intro listed hsz hr k
    induction k using Nat.strongRecOn with
    | _ k ih =>
      intro hk
      cases hb : listed.getD k false with
      | true => rfl
      | false =>
        have : k ∈ Region.ready .any ops0 listed := by
          rw [mem_ready]
          have hk0 : k < ops0.size := by rw [← hfz.size]; exact hk
          obtain ⟨o', ho', haf⟩ := hfz.after k ops0[k] (by simp [hk0])
          refine ⟨?_, ops0[k], by simp [hk0], fun ed hed hbd => ?_⟩
          · have h1 : listed[k]? = some listed[k] := by simp [show k < listed.size by omega]
            simp only [Array.getD_eq_getD_getElem?, h1, Option.getD_some] at hb ⊢
            exact hb
          · have := okD_edges hok (k := k) (o := o') ho' ed (by rw [haf]; simpa using hed) hbd
            exact ih ed.on this (by omega)
        rw [hr] at this; cases this
  have hend : ∀ (listed : Array Bool) (e : Env) (a : Act) (w : World), listed.size = ops.size → Region.ready .any ops0 listed = [] →
      MidS I F cfg.P e0 Fr D st ops d Hs (fun k => listed.getD k false) e a w → Q .normal a w := by
    intro listed e a w hsz hr hM
    have ha := hall listed hsz hr
    have hnop : ∀ q ∈ F, pendB (fun k => listed.getD k false) q = false := fun q hq => by
      obtain ⟨o1, x1, _, _, _, _, g5⟩ := hfz.st q hq
      have := ha q.s (Array.getElem?_eq_some_iff.1 g5).1
      unfold pendB
      simp only [this]; simp
    refine hfin e a w hM.le ⟨?_, ?_, hM.df⟩
    · obtain ⟨K, Fr', N, h1, h2, h3, h4, h5⟩ := hM.models
      have hKn : K = ops.size := by
        rcases Nat.lt_or_ge K ops.size with h | h
        · obtain ⟨f, hff, hfK⟩ := h3 h
          have := (h2 f hff).1 (ha f.1 (hf.fxs f hff).1)
          omega
        · omega
      rw [hKn, hf.stopH] at h4
      have hFr : Fr' = Fr := funext fun m => h5.same m fun q hq hb => by
        rw [hnop q hq] at hb; cases hb
      rw [hFr] at h4
      exact h4
    · have hT : foldT ops d.ES 0 (fun k => listed.getD k false) st.tm ops.size = d.tm := by
        rw [← hf.stop, factsS_T hf (Nat.le_refl _) ops.size (Nat.le_refl _)]
        refine List.ext_getElem? fun t => foldT_slot _ fun j oj hj _ _ => ?_
        simp only [ha j hj]
      have hA : anyF F (fun k => listed.getD k false) (foldT ops d.ES 0 (fun k => listed.getD k false) st.tm ops.size) = foldT ops d.ES 0 (fun k => listed.getD k false) st.tm ops.size := by
        refine List.ext_getElem? fun t => anyF_no fun q hq hb => ?_
        rw [hnop q hq] at hb; cases hb
      rw [← hT, ← hA]; exact hM.tm
  intro fuel
  induction fuel with
  | zero =>
    intro listed e a w hsz hl hM
    have hr : Region.ready .any ops0 listed = [] := by
      cases hr : Region.ready .any ops0 listed with
      | nil => rfl
      | cons i is =>
        have hi : i ∈ Region.ready .any ops0 listed := by rw [hr]; exact List.mem_cons_self
        rw [mem_ready] at hi
        obtain ⟨h0, o, ho, _⟩ := hi
        have hin : i < ops.size := by rw [hfz.size]; exact (Array.getElem?_eq_some_iff.1 ho).1
        have h1 : listed[i]? = some listed[i] := by simp [show i < listed.size by omega]
        have h2 : listed.getD i false = false := by
          simp only [Array.getD_eq_getD_getElem?, h1, Option.getD_some] at h0 ⊢
          exact h0
        have : i ∈ (List.range ops.size).filter fun k => !listed.getD k false := by
          rw [List.mem_filter]; exact ⟨List.mem_range.2 hin, by simp [h2]⟩
        have hpos := List.length_pos_of_mem this
        exact absurd (Nat.lt_of_lt_of_le hpos hl) (Nat.lt_irrefl 0)
    exact ⟨hr, hend listed e a w hsz hr hM⟩
  | succ fuel ih =>
    intro listed e a w hsz hl hM
    refine ⟨fun hr => hend listed e a w hsz hr hM, fun i hi => ?_⟩
    rw [mem_ready] at hi
    obtain ⟨h0, o, ho, hdeps⟩ := hi
    have hii : i < ops.size := by rw [hfz.size]; exact (Array.getElem?_eq_some_iff.1 ho).1
    obtain ⟨o', ho', haf⟩ := hfz.after i o ho
    have h1 : listed[i]? = some listed[i] := by simp [show i < listed.size by omega]
    have h2 : listed.getD i false = false := by
      simp only [Array.getD_eq_getD_getElem?, h1, Option.getD_some] at h0 ⊢
      exact h0
    have hp : ∀ j, (listed.setIfInBounds i true).getD j false = (listed.getD j false || Nat.beq j i) := by
      intro j
      by_cases hji : j = i
      · subst hji
        have e1 : Nat.beq j j = true := by rw [Nat.beq_eq]
        rw [e1, Bool.or_true]
        simp [show j < listed.size by omega]
      · have e1 : Nat.beq j i = false := by
          cases hq : Nat.beq j i with
          | false => rfl
          | true => rw [Nat.beq_eq] at hq; exact absurd hq hji
        rw [e1, Bool.or_false, getD_set_ne false (fun e => hji e.symm)]
    refine seq_step hpc hac (p' := fun k => (listed.setIfInBounds i true).getD k false) hok hfz hin hch hlk hf hM ho' ho h2 (fun ed hed hb => hdeps ed (by rw [haf] at hed; simpa using hed) hb) hp fun e' a' w' hM' => ?_
    refine ih _ e' a' w' (by simpa using hsz) ?_ hM'
    have : left ops.size (fun k => (listed.setIfInBounds i true).getD k false) < left ops.size (fun k => listed.getD k false) := by
      refine filter_lt (y := i) (fun x _ hx => ?_) (List.mem_range.2 hii) (by simp [h2]) (by show (!(listed.setIfInBounds i true).getD i false) = false; rw [hp]; simp)
      have hx : (!(listed.setIfInBounds i true).getD x false) = true := hx
      rw [hp] at hx
      show (!listed.getD x false) = true
      cases hq : listed.getD x false with
      | false => simp
      | true => rw [hq] at hx; simp at hx
    omega

/-- The check finds that the two forms have that in common. -/
theorem zip_get {ops : Array Oper} {k : Nat} {o : Oper} (h : ops[k]? = some o) : (o, k) ∈ ops.toList.zipIdx := by rw [List.mem_zipIdx_iff_getElem?]; simpa using h
theorem fuse_get {F : List Fz} {ops : Array Oper} {k : Nat} : (fuseF F ops)[k]? = (ops[k]?).map (fzOp F k) := by
  unfold fuseF
  rw [List.getElem?_toArray, List.getElem?_map, List.getElem?_zipIdx]
  cases h : ops[k]? with
  | none => simp [h]
  | some o => simp [h]
theorem okFz_ok {F : List Fz} {ops : Array Oper} (h : okFz F ops (fuseF F ops) = true) : FzOk F ops (fuseF F ops) := by
  have h0 : ∀ q ∈ F, okFz1 F ops (fuseF F ops) q = true := by simpa [okFz, List.all_eq_true] using h
  have hsep : ∀ q ∈ F, ∀ q' ∈ F, q.j ≠ q'.s ∧ (q.j = q'.j ∨ q.s = q'.s ∨ q.t = q'.t → q = q') := by
    intro q hq q' hq'
    have := h0 q hq
    simp only [okFz1, Bool.and_eq_true, List.all_eq_true] at this
    have := this.2 q' hq'
    simp only [Bool.and_eq_true, Bool.or_eq_true, Bool.not_eq_true', Nat.beq_eq] at this
    obtain ⟨h1, h2⟩ := this
    refine ⟨(fun e => by rw [← Nat.beq_eq] at e; rw [e] at h1; cases h1), fun e => ?_⟩
    rcases h2 with h2 | h2
    · exfalso
      have : (Nat.beq q.j q'.j || Nat.beq q.s q'.s || Nat.beq q.t q'.t) = true := by
        simp only [Bool.or_eq_true, Nat.beq_eq]
        rcases e with e | e | e
        · exact .inl (.inl e)
        · exact .inl (.inr e)
        · exact .inr e
      rw [this] at h2; cases h2
    · obtain ⟨⟨⟨g1, g2⟩, g3⟩, g4⟩ := h2
      cases q; cases q'
      simp only at g1 g2 g3 g4
      subst g1; subst g2; subst g3; subst g4; rfl
  have hfj : ∀ q ∈ F, F.find? (fun q' => Nat.beq q'.j q.j) = some q := by
    intro q hq
    cases hx : F.find? (fun q' => Nat.beq q'.j q.j) with
    | none => exact absurd rfl (find_none (f := Fz.j) hx q hq)
    | some q' =>
      obtain ⟨g1, g2⟩ := find_some (f := Fz.j) hx
      rw [(hsep q' g1 q hq).2 (.inl g2)]
  have hfs : ∀ q ∈ F, F.find? (fun q' => Nat.beq q'.j q.s) = none ∧ F.find? (fun q' => Nat.beq q'.s q.s) = some q := by
    intro q hq
    constructor
    · cases hx : F.find? (fun q' => Nat.beq q'.j q.s) with
      | none => rfl
      | some q' =>
        obtain ⟨g1, g2⟩ := find_some (f := Fz.j) hx
        exact absurd g2 (hsep q' g1 q hq).1
    · cases hx : F.find? (fun q' => Nat.beq q'.s q.s) with
      | none => exact absurd rfl (find_none (f := Fz.s) hx q hq)
      | some q' =>
        obtain ⟨g1, g2⟩ := find_some (f := Fz.s) hx
        rw [(hsep q' g1 q hq).2 (.inr (.inl g2))]
  have haft : ∀ k o, (fzOp F k o).after = o.after := fun k o => by
    unfold fzOp
    split
    · rfl
    · split <;> rfl
  refine ⟨by simp [fuseF], fun k hn => ?_, fun k o ho => ⟨fzOp F k o, by rw [fuse_get, ho]; rfl, haft k o⟩, fun q hq => ?_, fun q hq => ?_, fun q hq => ?_, fun q hq k o hne ho ht => ?_, fun k o j w ho hg => ⟨fun q hq => ?_⟩, hsep⟩
  · rw [fuse_get]
    have : ∀ o, fzOp F k o = o := fun o => by
      unfold fzOp
      cases hx : F.find? (fun q' => Nat.beq q'.j k) with
      | some q' => obtain ⟨g1, g2⟩ := find_some (f := Fz.j) hx; exact absurd g2 (hn.h q' g1).1
      | none =>
        cases hy : F.find? (fun q' => Nat.beq q'.s k) with
        | some q' => obtain ⟨g1, g2⟩ := find_some (f := Fz.s) hy; exact absurd g2 (hn.h q' g1).2
        | none => rfl
    cases ops[k]? with
    | none => rfl
    | some o => simp [this]
  · have hq1 := h0 q hq
    simp only [okFz1, Bool.and_eq_true] at hq1
    have hq1 := hq1.1.1.1.1.1
    cases ho : ops[q.j]? with
    | none => rw [ho] at hq1; cases hq1
    | some o =>
      rw [ho] at hq1
      simp only [Bool.and_eq_true, Option.isNone_iff_eq_none] at hq1
      obtain ⟨⟨g1, g2⟩, g3⟩ := hq1
      refine ⟨o, rfl, ?_, ?_, g3, ?_⟩
      · split at g1
        · rename_i T' hop; rw [Nat.beq_eq] at g1; rw [hop, g1]
        · cases g1
      · split at g2
        · rename_i t hd; rw [Nat.beq_eq] at g2; rw [hd, g2]
        · cases g2
      · rw [fuse_get, ho]
        simp only [Option.map_some, fzOp, hfj q hq]
  · have hq1 := h0 q hq
    simp only [okFz1, Bool.and_eq_true] at hq1
    have hq1 := hq1.1.1.1.1.2
    cases ho : ops[q.s]? with
    | none => rw [ho] at hq1; cases hq1
    | some o =>
      rw [ho] at hq1
      simp only [Bool.and_eq_true, Option.isNone_iff_eq_none] at hq1
      obtain ⟨⟨g1, g2⟩, g3⟩ := hq1
      split at g1
      · rename_i T' a' x' hop
        simp only [Bool.and_eq_true, Nat.beq_eq] at g1
        obtain ⟨g4, g5⟩ := g1
        split at g5
        · rename_i t
          rw [Nat.beq_eq] at g5
          subst g4; subst g5
          refine ⟨o, x', rfl, hop, g2, g3, ?_⟩
          rw [fuse_get, ho]
          simp only [Option.map_some, fzOp, (hfs q hq).1, (hfs q hq).2]
        · cases g5
      · cases g1
  · have hq1 := h0 q hq
    simp only [okFz1, Bool.and_eq_true] at hq1
    have hq1 := hq1.1.1.1.2
    unfold edgeB at hq1 ⊢
    rw [fuse_get]
    cases ho : ops[q.s]? with
    | none => rw [ho] at hq1; cases hq1
    | some o => rw [ho] at hq1; simp only [Option.map_some, haft]; exact hq1
  · have hq1 := h0 q hq
    simp only [okFz1, Bool.and_eq_true, List.all_eq_true] at hq1
    have := hq1.1.1.2 (o, k) (zip_get ho)
    simp only [Bool.or_eq_true, Nat.beq_eq, Bool.not_eq_true'] at this
    rcases this with (h | h) | h
    · exact absurd h hne
    · have h2 : (o.looksAt (fuseF F ops)).contains q.t = true := by simpa using ht
      rw [h2] at h; cases h
    · exact h
  · have hq1 := h0 q hq
    simp only [okFz1, Bool.and_eq_true, List.all_eq_true] at hq1
    have := hq1.1.2 o (by have := Array.mem_of_getElem? ho; simpa using this)
    rw [hg] at this
    simp only [Bool.and_eq_true, Bool.not_eq_true'] at this
    obtain ⟨g1, g2⟩ := this
    constructor
    · intro e; rw [← Nat.beq_eq] at e; rw [e] at g1; cases g1
    · intro e; rw [← Nat.beq_eq] at e; rw [e] at g2; cases g2

theorem seq_start {cfg : Cfg τ} (hmix : cfg.P.follows .mixedOrders = true) (hpc : ∀ g pc, cfg.pcon g = some pc → PConOk I cfg.P g pc) (hac : ∀ g ac, cfg.acon g = some ac → AConOk I cfg.P g ac) {id : Nat} {F : List Fz} {ops0 ops : Array Oper} {st : St τ} {K : St τ → Prop} {e : Env} {Fr : PH} {a : Act} {w : World} {r : Option Nat}
    {Q : Exit → Act → World → Prop} {d : SSt τ} {T : Nat → List SV} {Hs : Nat → List (SB τ)} (hD : okD ops = true) (hfz : FzOk F ops0 ops) (hin : ∀ q ∈ F, q.t < st.tm.length) (hos : chainB ops d.fx = true) (hlk : LookOk ops d.HS d.H d.fx d.rd) (hf : SFacts cfg F st.H ops st.tm ops.size d T Hs)
    (hK : K { st with tm := d.tm, H := d.H }) (hok : StOk I e Fr D st a w) (hnext : NextOk (D := D) I e Fr st K (Q .normal)) : (Code.region id ops0 true).wpIn (FF r) 0 cfg.P Q a w := by
  refine wpIn_region_any hmix (seq_any (e0 := e) (Fr := Fr) hpc hac hD hfz hin hos hlk hf (fun e' a' w' hle hst => hnext e' { st with tm := d.tm, H := d.H } a' w' (LeB.of_le hle) rfl rfl hst hK) _ _ e a _ (by simp [hfz.size]) (by rw [hfz.size]; unfold left; exact Nat.le_trans (List.length_filter_le _ _) (by simp)) ?_)
  have hp : (fun k => (Array.replicate ops0.size false).getD k false) = fun _ => false := by
    funext k
    by_cases hk : k < ops0.size <;> simp [hk]
  rw [hp]
  have hT : ∀ m, foldT ops d.ES 0 (fun _ => false) st.tm m = st.tm := by
    intro m
    induction m with
    | zero => rfl
    | succ m ih => simp only [foldT, ih]
  have hA : ∀ tm, anyF F (fun _ => false) tm = tm := fun tm => List.ext_getElem? fun t => anyF_no fun q _ hb => by simp [pendB] at hb
  obtain ⟨K0, h1, h2, h3, h4⟩ := next_fx d.fx ops.size ops.size 0 (by omega) fun f hff => (hf.fxs f hff).1
  refine ⟨Le.refl e, by rw [hT, hA]; exact hok.tm, hok.df, (fun k o _ hk => by cases hk), hok.models.1.ro, K0, Fr, fun _ => 0, h2, fun f hff => ?_, h4, ?_, ?_⟩
  · have := h3 f hff (by omega)
    constructor
    · intro hh; cases hh
    · intro hh; omega
  · rw [Hs_const hf K0 h1 h2 fun f hff hh => by have := h3 f hff hh.1; omega, hf.startH]
    exact hok.models.heap (w' := { w with drawn := w.drawn + 1 }) rfl ⟨rfl, rfl⟩
  · exact ⟨fun q _ hb => by simp [pendB] at hb, fun q _ q' _ hb => by simp [pendB] at hb, fun _ _ => rfl⟩
theorem start_facts {cfg : Cfg τ} {F : List Fz} {ops : Array Oper} {st : St τ} : SFacts cfg F st.H ops st.tm 0 { tm := st.tm, H := st.H, E := [], HS := [], fx := [], rd := [] } (fun _ => st.tm) (fun _ => st.H) :=
  ⟨rfl, rfl, rfl, rfl, rfl, rfl, fun j hj => by omega, fun j o hj => by omega, (fun f hf => by cases hf), (fun f hf => by cases hf), List.Pairwise.nil⟩
theorem seq_ok {cfg : Cfg τ} (hmix : cfg.P.follows .mixedOrders = true) (hpc : ∀ g pc, cfg.pcon g = some pc → PConOk I cfg.P g pc) (hac : ∀ g ac, cfg.acon g = some ac → AConOk I cfg.P g ac) {id : Nat} {ops : Array Oper} {st : St τ} {K : St τ → Prop} {e : Env} {Fr : PH} {a : Act} {w : World} {r : Option Nat}
    {Q : Exit → Act → World → Prop} (h : seqK cfg ops st K) (hok : StOk I e Fr D st a w) (hnext : NextOk (D := D) I e Fr st K (Q .normal)) : (Code.region id ops true).wpIn (FF r) 0 cfg.P Q a w := by
  unfold seqK at h
  split at h
  · rename_i hD
    obtain ⟨d, T, Hs, hf, hK⟩ := seqGo_facts (H0 := st.H) (tm0 := st.tm) ops.toList 0 _ (fun _ => st.tm) (fun _ => st.H) (by intro i; simp) (by simp) start_facts h
    split at hK
    · rename_i hos
      obtain ⟨hK, hlk⟩ := looksQ_ok hK
      exact seq_start hmix hpc hac hD (FzOk.nil ops) (fun q hq => by cases hq) hos hlk hf hK hok hnext
    · unfold seqF at hK
      split at hK
      · rename_i hD2
        rw [Bool.and_eq_true] at hD2
        have hfz := okFz_ok hD2.2
        split at hK
        · exact hK.elim
        · rename_i hin
          rw [List.all_eq_true] at hin
          obtain ⟨d2, T2, Hs2, hf2, hK2⟩ := seqGo_facts (H0 := st.H) (tm0 := st.tm) (fuseF (pairsF ops) ops).toList 0 _ (fun _ => st.tm) (fun _ => st.H) (by intro i; simp) (by simp) start_facts hK
          split at hK2
          · rename_i hos
            obtain ⟨hK3, hlk⟩ := looksQ_ok hK2
            exact seq_start hmix hpc hac hD2.1 hfz (fun q hq => by have := hin q hq; rwa [Nat.blt_eq] at this) hos hlk hf2 hK3 hok hnext
          · exact hK2.elim
      · exact hK.elim
  · exact h.elim

end Go.Sym
