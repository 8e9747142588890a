/- What is wanted of the texts VJ, VK, VL, VM, VN, VS, VX, VP, VI, VU, VT, in one. -/
import Derived.Test.YtcbjgpkbfmmdpaaGreatDoorHpPu
import Derived.Scope
set_option linter.unusedSimpArgs false
set_option linter.unusedVariables false
set_option linter.unusedSectionVars false
namespace Go.Sym
open Go
variable {τ : Type} {I : Inv τ}
inductive Ef (τ : Type) where
  | q (x : SV)
  | al (b : SB τ)
  | st (b : Nat) (c : SB τ)
  | si (b : Nat) (c : SB τ) (x : SV)
def Ef.val : Ef τ → Nat → SV
  | .q x, _ => x
  | .al _, id => .p id 0
  | .st _ _, _ => .v undef
  | .si _ _ x, _ => x
def Ef.nb : Ef τ → SB τ
  | .al b => b
  | _ => .gone
def edgeB (ops : Array Oper) (k j : Nat) : Bool :=
  match ops[k]? with
  | some o => o.after.toList.any fun e => Region.binds .any e && Nat.beq e.on j
  | none => false
structure DSt (τ : Type) where
  tm : List SV
  E : List (Ef τ)
  rd : List (Nat × Nat)
  cl : List Nat
  al : List Nat
  sto : Option (Nat × Nat × SB τ)
def copyTo (op : Op) (tm : List SV) : Option Nat :=
  match op with
  | .call { callee := .builtin .copy, args, .. } => match args.toList.map (ev tm) with
    | [.s b _ _ _, _] => some b
    | _ => none
  | _ => none
def DSt.next (d : DSt τ) (dst : Option Tmp) (id : Nat) (ef : Ef τ) : DSt τ := { d with tm := putS dst (ef.val id) d.tm, E := d.E ++ [ef] }
def itemA (E : List (Ef τ)) (p : Nat → Bool) (k : Nat) : SB τ :=
  match p k, E[k]? with
  | true, some ef => ef.nb
  | _, _ => .gone
def heapA (H : List (SB τ)) (pad : Nat) (E : List (Ef τ)) (p : Nat → Bool) : List (SB τ) :=
  H ++ (List.range pad).map (itemA E p)
def heapS (H : List (SB τ)) (pad : Nat) (E : List (Ef τ)) (sto : Option (Nat × Nat × SB τ)) (p : Nat → Bool) : List (SB τ) :=
  match sto with
  | some (s, b, c) => match p s with
    | true => (heapA H pad E p).set b c
    | false => heapA H pad E p
  | none => heapA H pad E p
def opD (cfg : Cfg τ) (H : List (SB τ)) (pad : Nat) (o : Oper) (d : DSt τ) (K : DSt τ → Prop) : Prop :=
  match o.op with
  | .store T a x => match d.sto, ev d.tm a with
    | none, .p b off => match (heapS H pad d.E none (fun _ => true))[b]?, cellsV (ev d.tm x), szT cfg.P T with
      | some (.cells l T'), some c, some n => match c.length == n && Nat.ble (off + n) l.length && c.all oneS with
        | true => K { d.next o.dst (H.length + d.E.length) (.st b (.cells (setAll l off c) T')) with sto := some (d.E.length, b, .cells (setAll l off c) T') }
        | false => False
      | _, _, _ => False
    | _, _ => False
  | .alloc T => match zeroT cfg.P T, Nat.blt d.E.length pad with
    | some z, true => K { d.next o.dst (H.length + d.E.length) (.al (.cells (z.cells.toList.map .v) T)) with al := d.E.length :: d.al }
    | _, _ => False
  | .box T y => match cellsV (ev d.tm y), Nat.blt d.E.length pad with
    | some l, true => K { d.next o.dst (H.length + d.E.length) (.al (.cells l T)) with al := d.E.length :: d.al }
    | _, _ => False
  | .call { callee := .value f, args, .. } => match calleeS (ev d.tm f) with
    | some (g, fi, ca) => match cfg.P.funcs[g]?, cfg.pcon g with
      | some fn, some pc => match fn.name == "runtime.NumGoroutine", fn.body.isNone, pc (fi ++ args.toList.map (ev d.tm) ++ ca) H with
        | false, false, some (φ, x) => φ ∧ K { d.next o.dst 0 (.q x) with cl := d.E.length :: d.cl }
        | _, _, _ => False
      | _, _ => False
    | none => False
  | .pick c a b => match ev d.tm c with
    | .v (.bool q) => br q (K ({ d with tm := setB c true d.tm }.next o.dst 0 (.q (ev (setB c true d.tm) a)))) (K ({ d with tm := setB c false d.tm }.next o.dst 0 (.q (ev (setB c false d.tm) b))))
    | _ => False
  | op => match stepV cfg.P op d.tm H with
    | some (c, x) => rq c (K (match touch op d.tm with
      | some b => { d.next o.dst 0 (.q x) with rd := (d.E.length, b) :: d.rd }
      | none => d.next o.dst 0 (.q x)))
    | none => match d.sto, copyTo op d.tm, stepI cfg.P op d.tm H with
      | none, some b, some (c, x, H') => match H'[b]? with
        | some nb => rq c (K { d.next o.dst 0 (.si b nb x) with sto := some (d.E.length, b, nb) })
        | none => False
      | _, _, _ => False
def drawGo (cfg : Cfg τ) (H : List (SB τ)) (pad : Nat) (ops : Array Oper) : List Oper → DSt τ → (DSt τ → Prop) → Prop
  | [], d, K => K d
  | o :: rest, d, K => match o.guard with
    | none => opD cfg H pad o d (fun d' => drawGo cfg H pad ops rest d' K)
    | some (j, want) => match (ops[j]?).bind (·.dst) with
      | none => False
      | some t => match d.tm[t]? with
        | none => False
        | some x => match boolV x with
          | some none => drawGo cfg H pad ops rest (d.next o.dst 0 (.q (.v undef))) K
          | some (some b) => match want with
            | true => br b (opD cfg H pad o { d with tm := d.tm.set t (.v (.bool true)) } (fun d' => drawGo cfg H pad ops rest d' K))
                (drawGo cfg H pad ops rest ({ d with tm := d.tm.set t (.v (.bool false)) }.next o.dst 0 (.q (.v undef))) K)
            | false => br b (drawGo cfg H pad ops rest ({ d with tm := d.tm.set t (.v (.bool true)) }.next o.dst 0 (.q (.v undef))) K)
                (opD cfg H pad o { d with tm := d.tm.set t (.v (.bool false)) } (fun d' => drawGo cfg H pad ops rest d' K))
          | none => False
def okPair (ops : Array Oper) (k j : Nat) (ok oj : Oper) : Bool :=
  match oj.dst with
  | none => true
  | some d => (!(ok.looksAt ops).contains d || (Nat.blt j k && edgeB ops k j) || (Nat.blt k j && edgeB ops j k)) &&
    (match ok.dst with
     | some d' => !Nat.beq d d'
     | none => true)
def okD (ops : Array Oper) : Bool :=
  let l := ops.toList.zipIdx
  l.all fun (ok, k) => (ok.after.toList.all fun e => !Region.binds .any e || Nat.blt e.on k) && l.all fun (oj, j) => Nat.beq j k || okPair ops k j ok oj
def okS (H : List (SB τ)) (ops : Array Oper) (d : DSt τ) : Bool :=
  match d.sto with
  | none => true
  | some (s, b, _) => d.rd.all (fun r => edgeB ops s r.1 || !Nat.beq r.2 b) && d.cl.all (fun k => edgeB ops s k) && d.al.all (fun k => edgeB ops s k || !Nat.beq (H.length + k) b)
def padOf (ops : Array Oper) : Nat :=
  match ops.toList.any fun o => match o.op with | .alloc _ => true | .box _ _ => true | _ => false with
  | true => ops.size
  | false => 0
def drawK (cfg : Cfg τ) (ops : Array Oper) (st : St τ) (K : St τ → Prop) : Prop :=
  match okD ops with
  | true => drawGo cfg st.H (padOf ops) ops ops.toList { tm := st.tm, E := [], rd := [], cl := [], al := [], sto := none } (fun d =>
    match okS st.H ops d with
    | true => K { st with tm := d.tm, H := heapS st.H (padOf ops) d.E d.sto (fun _ => true) }
    | false => False)
  | false => False
def PConOk (I : Inv τ) (P : Program) (g : FuncId) (pc : PCon τ) : Prop :=
  ∀ (args : List SV) (H X : List (SB τ)) (φ : Prop) (x : SV) (e : Env) (Fr : PH) (w : World) (vs : List Value),
    pc args H = some (φ, x) → φ → DenL e args vs → Models I e (H ++ X) Fr w → Calls P g vs.toArray w fun en w' => ∃ v, en = .returned v ∧ Den e x v ∧ Ext w w'
def wantS (ops : Array Oper) (o : Oper) (tm : List SV) (b : Bool) : Prop :=
  match o.guard with
  | none => b = true
  | some (j, want) => ∃ t x, (ops[j]?).bind (·.dst) = some t ∧ tm[t]? = some x ∧ ((boolV x = some none ∧ b = false) ∨ ∃ q, boolV x = some (some q) ∧ b = (q == want))
def EfOk (cfg : Cfg τ) (H : List (SB τ)) (pad : Nat) (o : Oper) (k : Nat) (tm : List SV) (ef : Ef τ) (E : List (Ef τ)) (rd : List (Nat × Nat)) (cl al : List Nat) (sto : Option (Nat × Nat × SB τ)) : Prop :=
  match ef with
  | .q x => (∃ c, stepV cfg.P o.op tm H = some (c, x) ∧ c = true ∧ (∀ b, touch o.op tm = some b → (k, b) ∈ rd)) ∨
      (∃ f args ats g fi ca fn pc φ, o.op = .call { callee := .value f, args := args, argTypes := ats } ∧ calleeS (ev tm f) = some (g, fi, ca) ∧ cfg.P.funcs[g]? = some fn ∧ (fn.name == "runtime.NumGoroutine") = false ∧ fn.body.isNone = false ∧
        cfg.pcon g = some pc ∧ pc (fi ++ args.toList.map (ev tm) ++ ca) H = some (φ, x) ∧ φ ∧ k ∈ cl)
  | .al b => k < pad ∧ k ∈ al ∧ ((∃ T z, o.op = .alloc T ∧ zeroT cfg.P T = some z ∧ b = .cells (z.cells.toList.map .v) T) ∨ (∃ T y l, o.op = .box T y ∧ cellsV (ev tm y) = some l ∧ b = .cells l T))
  | .st b c => sto = some (k, b, c) ∧ ∃ T a x off l T' cs n, o.op = .store T a x ∧ ev tm a = .p b off ∧ (heapS H pad (E.take k) none (fun _ => true))[b]? = some (.cells l T') ∧ cellsV (ev tm x) = some cs ∧ szT cfg.P T = some n ∧
      (cs.length == n && Nat.ble (off + n) l.length && cs.all oneS) = true ∧ c = .cells (setAll l off cs) T'
  | .si b c x => sto = some (k, b, c) ∧ ∃ q H', copyTo o.op tm = some b ∧ stepI cfg.P o.op tm H = some (q, x, H') ∧ q = true ∧ H'[b]? = some c
structure Facts (cfg : Cfg τ) (H : List (SB τ)) (pad : Nat) (ops : Array Oper) (tm0 : List SV) (k : Nat) (d : DSt τ) (T : Nat → List SV) : Prop where
  len : d.E.length = k
  start : T 0 = tm0
  stop : T k = d.tm
  step : ∀ j o, j < k → ops[j]? = some o → ∃ ef b, d.E[j]? = some ef ∧ T (j + 1) = putS o.dst (ef.val (H.length + j)) (T j) ∧ wantS ops o (T j) b ∧
    ((b = false ∧ ef = .q (.v undef)) ∨ (b = true ∧ EfOk cfg H pad o j (T j) ef d.E d.rd d.cl d.al d.sto))
  sto : ∀ s b c, d.sto = some (s, b, c) → s < k ∧ (d.E[s]? = some (.st b c) ∨ ∃ x, d.E[s]? = some (.si b c x))
end Go.Sym
namespace Go.Sym
open Go
variable {τ : Type} {I : Inv τ}
theorem heapS_append {H : List (SB τ)} {pad : Nat} {E : List (Ef τ)} (ef : Ef τ) (j : Nat) (hj : j ≤ E.length) : (E ++ [ef]).take j = E.take j := by
  rw [List.take_append_of_le_length hj]
theorem EfOk.mono {cfg : Cfg τ} {H : List (SB τ)} {pad : Nat} {o : Oper} {k : Nat} {tm : List SV} {ef : Ef τ} {E E' : List (Ef τ)} {rd rd' : List (Nat × Nat)} {cl cl' al al' : List Nat} {sto sto' : Option (Nat × Nat × SB τ)}
    (h : EfOk cfg H pad o k tm ef E rd cl al sto) (hE : E'.take k = E.take k) (hr : ∀ x ∈ rd, x ∈ rd') (hc : ∀ x ∈ cl, x ∈ cl') (ha : ∀ x ∈ al, x ∈ al') (hs : ∀ x, sto = some x → sto' = some x) :
    EfOk cfg H pad o k tm ef E' rd' cl' al' sto' := by
  cases ef with
  | q x =>
    rcases h with ⟨c, h1, h2, h3⟩ | ⟨f, args, ats, g, fi, ca, fn, pc, φ, h1, h2, h3, h4, h5, h6, h7, h8, h9⟩
    · exact .inl ⟨c, h1, h2, fun b hb => hr _ (h3 b hb)⟩
    · exact .inr ⟨f, args, ats, g, fi, ca, fn, pc, φ, h1, h2, h3, h4, h5, h6, h7, h8, hc _ h9⟩
  | al b => exact ⟨h.1, ha _ h.2.1, h.2.2⟩
  | st b c =>
    obtain ⟨h1, T, a, x, off, l, T', cs, n, g1, g2, g3, g4⟩ := h
    exact ⟨hs _ h1, T, a, x, off, l, T', cs, n, g1, g2, by rw [hE]; exact g3, g4⟩
  | si b c x => exact ⟨hs _ h.1, h.2⟩
theorem Facts.snoc {cfg : Cfg τ} {H : List (SB τ)} {pad : Nat} {ops : Array Oper} {tm0 : List SV} {k : Nat} {d d' : DSt τ} {T : Nat → List SV} {o : Oper} {ef : Ef τ} {b : Bool}
    (h : Facts cfg H pad ops tm0 k d T) (ho : ops[k]? = some o) (hw : wantS ops o d.tm b) (hE : d'.E = d.E ++ [ef]) (htm : d'.tm = putS o.dst (ef.val (H.length + k)) d.tm)
    (hr : ∀ x ∈ d.rd, x ∈ d'.rd) (hc : ∀ x ∈ d.cl, x ∈ d'.cl) (ha : ∀ x ∈ d.al, x ∈ d'.al) (hs : ∀ x, d.sto = some x → d'.sto = some x)
    (hs' : ∀ s b c, d'.sto = some (s, b, c) → d.sto = some (s, b, c) ∨ (s = k ∧ (ef = .st b c ∨ ∃ x, ef = .si b c x)))
    (hef : (b = false ∧ ef = .q (.v undef)) ∨ (b = true ∧ EfOk cfg H pad o k d.tm ef d'.E d'.rd d'.cl d'.al d'.sto)) :
    Facts cfg H pad ops tm0 (k + 1) d' (fun j => if j ≤ k then T j else d'.tm) := by
  have hlen := h.len
  refine ⟨by rw [hE]; simp [hlen], by simp [h.start], (by show (if k + 1 ≤ k then _ else _) = _; rw [if_neg (by omega)]), fun j oj hj hoj => ?_, fun s b c hsto => ?_⟩
  · by_cases hjk : j = k
    · subst hjk
      rw [ho] at hoj; cases hoj
      refine ⟨ef, b, by rw [hE, ← hlen]; simp, ?_, ?_, ?_⟩
      · show (if j + 1 ≤ j then _ else _) = putS o.dst _ (if j ≤ j then _ else _)
        rw [if_neg (by omega), if_pos (Nat.le_refl j), h.stop, htm]
      · simpa [h.stop] using hw
      · simpa [h.stop] using hef
    · have hlt : j < k := by omega
      obtain ⟨ef', b', g1, g2, g3, g4⟩ := h.step j oj hlt hoj
      refine ⟨ef', b', by rw [hE]; rw [List.getElem?_append_left (by omega)]; exact g1, ?_, ?_, ?_⟩
      · simp only [show j + 1 ≤ k by omega, show j ≤ k by omega, if_true]; exact g2
      · simp only [show j ≤ k by omega, if_true]; exact g3
      · simp only [show j ≤ k by omega, if_true]
        rcases g4 with g4 | ⟨g4, g5⟩
        · exact .inl g4
        · exact .inr ⟨g4, g5.mono (by rw [hE]; exact heapS_append (H := H) (pad := pad) ef j (by omega)) hr hc ha hs⟩
  · rcases hs' s b c hsto with hh | ⟨rfl, rfl | ⟨x, rfl⟩⟩
    · obtain ⟨g1, g2⟩ := h.sto s b c hh
      exact ⟨by omega, by rw [hE, List.getElem?_append_left (by omega)]; exact g2⟩
    · exact ⟨by omega, .inl (by rw [hE, ← hlen]; simp)⟩
    · exact ⟨by omega, .inr ⟨x, by rw [hE, ← hlen]; simp⟩⟩
theorem set_eq_self {α : Type} : ∀ {l : List α} {t : Nat} {x : α}, (∀ y, l[t]? = some y → y = x) → l.set t x = l
  | [], _, _, _ => by simp
  | y :: l, 0, x, h => by simp at h; simp [h]
  | y :: l, t + 1, x, h => by simp only [List.set_cons_succ]; rw [set_eq_self (fun z hz => h z (by simpa using hz))]
theorem setB_eq {tm : List SV} {c : Operand} {b : Bool} (h : ev tm c = .v (.bool b)) : setB c b tm = tm := by
  cases c with
  | tmp t =>
    refine set_eq_self fun y hy => ?_
    simpa [ev, hy] using h
  | _ => rfl
theorem opD_facts {cfg : Cfg τ} {H : List (SB τ)} {pad : Nat} {ops : Array Oper} {tm0 : List SV} {k : Nat} {d : DSt τ} {T : Nat → List SV} {o : Oper} {K : DSt τ → Prop}
    (h : Facts cfg H pad ops tm0 k d T) (ho : ops[k]? = some o) (hw : wantS ops o d.tm true) (hd : opD cfg H pad o d K) : ∃ d' T', Facts cfg H pad ops tm0 (k + 1) d' T' ∧ K d' := by
  have hlen := h.len
  unfold opD at hd
  split at hd
  · rename_i T' a x hop
    split at hd
    · rename_i b off hsto ha
      split at hd
      · rename_i l T2 cs n hb hc hn
        split at hd
        · rename_i hcond
          refine ⟨_, _, h.snoc (d' := { d.next o.dst (H.length + d.E.length) (.st b (.cells (setAll l off cs) T2)) with sto := some (d.E.length, b, .cells (setAll l off cs) T2) }) (ef := .st b (.cells (setAll l off cs) T2)) ho hw rfl
            (by simp [DSt.next, Ef.val]) (fun _ h => h) (fun _ h => h) (fun _ h => h) (fun y hy => by rw [hsto] at hy; cases hy) (fun s b' c' he => by
              simp only [Option.some.injEq, Prod.mk.injEq] at he; obtain ⟨rfl, rfl, rfl⟩ := he; exact .inr ⟨hlen, .inl rfl⟩) (.inr ⟨rfl, ?_⟩), hd⟩
          refine ⟨by rw [hlen], T', a, x, off, l, T2, cs, n, hop, ha, ?_, hc, hn, hcond, rfl⟩
          have : (d.next o.dst (H.length + d.E.length) (.st b (.cells (setAll l off cs) T2))).E.take k = d.E := by
            show (d.E ++ [_]).take k = d.E
            rw [← hlen]; simp
          rw [this]; exact hb
        · exact hd.elim
      · exact hd.elim
    · exact hd.elim
  · rename_i T' hop
    split at hd
    · rename_i z hz hpad
      rw [Nat.blt_eq] at hpad
      exact ⟨_, _, h.snoc (d' := { d.next o.dst (H.length + d.E.length) (.al (.cells (z.cells.toList.map .v) T')) with al := d.E.length :: d.al }) (ef := .al (.cells (z.cells.toList.map .v) T')) ho hw rfl
        (by simp [DSt.next, hlen]) (fun _ h => h) (fun _ h => h) (fun _ h => List.mem_cons_of_mem _ h) (fun y hy => hy) (fun s b' c' he => .inl he)
        (.inr ⟨rfl, by omega, by rw [← hlen]; exact List.mem_cons_self, .inl ⟨T', z, hop, hz, rfl⟩⟩), hd⟩
    · exact hd.elim
  · rename_i T' y hop
    split at hd
    · rename_i l hl hpad
      rw [Nat.blt_eq] at hpad
      exact ⟨_, _, h.snoc (d' := { d.next o.dst (H.length + d.E.length) (.al (.cells l T')) with al := d.E.length :: d.al }) (ef := .al (.cells l T')) ho hw rfl
        (by simp [DSt.next, hlen]) (fun _ h => h) (fun _ h => h) (fun _ h => List.mem_cons_of_mem _ h) (fun y hy => hy) (fun s b' c' he => .inl he)
        (.inr ⟨rfl, by omega, by rw [← hlen]; exact List.mem_cons_self, .inr ⟨T', y, l, hop, hl, rfl⟩⟩), hd⟩
    · exact hd.elim
  · rename_i f args ats hop
    split at hd
    · rename_i g fi ca hcal
      split at hd
      · rename_i fn pc hfn hpc
        split at hd
        · rename_i φ x hn hb hp
          obtain ⟨hφ, hK⟩ := hd
          exact ⟨_, _, h.snoc (d' := { d.next o.dst 0 (.q x) with cl := d.E.length :: d.cl }) (ef := .q x) ho hw rfl (by simp [DSt.next, Ef.val]) (fun _ h => h) (fun _ h => List.mem_cons_of_mem _ h) (fun _ h => h) (fun y hy => hy) (fun s b' c' he => .inl he)
            (.inr ⟨rfl, .inr ⟨f, args, ats, g, fi, ca, fn, pc, φ, hop, hcal, hfn, hn, hb, hpc, hp, hφ, by rw [← hlen]; exact List.mem_cons_self⟩⟩), hK⟩
        · exact hd.elim
      · exact hd.elim
    · exact hd.elim
  · rename_i c a b hop
    split at hd
    · rename_i q hq
      have step : ∀ (bb : Bool) (y : Operand), q = bb → (y = if bb then a else b) → K ({ d with tm := setB c bb d.tm }.next o.dst 0 (.q (ev (setB c bb d.tm) y))) → ∃ d' T', Facts cfg H pad ops tm0 (k + 1) d' T' ∧ K d' := by
        intro bb y hbb hy hK
        subst hbb
        have e := setB_eq hq
        rw [e] at hK
        refine ⟨_, _, h.snoc (d' := d.next o.dst 0 (.q (ev d.tm y))) (ef := .q (ev d.tm y)) ho hw rfl (by simp [DSt.next, Ef.val]) (fun _ h => h) (fun _ h => h) (fun _ h => h) (fun y hy => hy) (fun s b' c' he => .inl he) (.inr ⟨rfl, .inl ⟨true, ?_, rfl, ?_⟩⟩), hK⟩
        · rw [hop]
          cases q <;> simp only [stepV, stepV0, hq] <;> simp [hy]
        · intro b hb; rw [hop] at hb; simp [touch] at hb
      rcases br_elim hd with ⟨hqt, hK⟩ | ⟨hqf, hK⟩
      · exact step true a hqt rfl hK
      · exact step false b hqf rfl hK
    · exact hd.elim
  · split at hd
    · rename_i c x hv
      obtain ⟨hc, hK⟩ := rq_elim hd
      cases ht : touch o.op d.tm with
      | some b =>
        rw [ht] at hK
        exact ⟨_, _, h.snoc (d' := { d.next o.dst 0 (.q x) with rd := (d.E.length, b) :: d.rd }) (ef := .q x) ho hw rfl (by simp [DSt.next, Ef.val]) (fun _ h => List.mem_cons_of_mem _ h) (fun _ h => h) (fun _ h => h) (fun y hy => hy) (fun s b' c' he => .inl he)
          (.inr ⟨rfl, .inl ⟨c, hv, hc, fun b' hb' => by rw [ht] at hb'; cases hb'; rw [← hlen]; exact List.mem_cons_self⟩⟩), hK⟩
      | none =>
        rw [ht] at hK
        exact ⟨_, _, h.snoc (d' := d.next o.dst 0 (.q x)) (ef := .q x) ho hw rfl (by simp [DSt.next, Ef.val]) (fun _ h => h) (fun _ h => h) (fun _ h => h) (fun y hy => hy) (fun s b' c' he => .inl he)
          (.inr ⟨rfl, .inl ⟨c, hv, hc, fun b' hb' => by rw [ht] at hb'; cases hb'⟩⟩), hK⟩
    · split at hd
      · rename_i b c x H' hsto hb hs
        split at hd
        · rename_i nb hnb
          obtain ⟨hc, hK⟩ := rq_elim hd
          exact ⟨_, _, h.snoc (d' := { d.next o.dst 0 (.si b nb x) with sto := some (d.E.length, b, nb) }) (ef := .si b nb x) ho hw rfl (by simp [DSt.next, Ef.val]) (fun _ h => h) (fun _ h => h) (fun _ h => h) (fun y hy => by rw [hsto] at hy; cases hy) (fun s b' c' he => by
              simp only [Option.some.injEq, Prod.mk.injEq] at he; obtain ⟨rfl, rfl, rfl⟩ := he; exact .inr ⟨hlen, .inr ⟨x, rfl⟩⟩) (.inr ⟨rfl, by rw [hlen], c, H', hb, hs, hc, hnb⟩), hK⟩
        · exact hd.elim
      · exact hd.elim
theorem drawGo_facts {cfg : Cfg τ} {H : List (SB τ)} {pad : Nat} {ops : Array Oper} {tm0 : List SV} {K : DSt τ → Prop} : ∀ (l : List Oper) (k : Nat) (d : DSt τ) (T : Nat → List SV),
    (∀ i : Nat, l[i]? = ops[k + i]?) → k + l.length = ops.size → Facts cfg H pad ops tm0 k d T → drawGo cfg H pad ops l d K → ∃ d' T', Facts cfg H pad ops tm0 ops.size d' T' ∧ K d'
  | [], k, d, T, _, hl, hf, h => ⟨d, T, by rw [← hl]; exact hf, h⟩
  | o :: rest, k, d, T, hi, hl, hf, h => by
    have ho : ops[k]? = some o := by simpa using (hi 0).symm
    have hi' : ∀ i : Nat, rest[i]? = ops[k + 1 + i]? := fun i => by have := hi (i + 1); rw [show k + 1 + i = k + (i + 1) by omega]; simpa using this
    have hl' : k + 1 + rest.length = ops.size := by simp at hl; omega
    have go : ∀ d1 : DSt τ, d1 = d → wantS ops o d.tm true → opD cfg H pad o d1 (fun d' => drawGo cfg H pad ops rest d' K) → ∃ d' T', Facts cfg H pad ops tm0 ops.size d' T' ∧ K d' := by
      intro d1 e hw hd
      subst e
      obtain ⟨d', T', hf', hK'⟩ := opD_facts hf ho hw hd
      exact drawGo_facts rest (k + 1) d' T' hi' hl' hf' hK'
    have skip : ∀ d1 : DSt τ, d1 = d → wantS ops o d.tm false → drawGo cfg H pad ops rest (d1.next o.dst 0 (.q (.v undef))) K → ∃ d' T', Facts cfg H pad ops tm0 ops.size d' T' ∧ K d' := by
      intro d1 e hw hd
      subst e
      have hf' := hf.snoc (d' := d1.next o.dst 0 (.q (.v undef))) (ef := .q (.v undef)) ho hw rfl (by simp [DSt.next, Ef.val]) (fun _ h => h) (fun _ h => h) (fun _ h => h) (fun y hy => hy) (fun s b' c' he => .inl he) (.inl ⟨rfl, rfl⟩)
      exact drawGo_facts rest (k + 1) _ _ hi' hl' hf' hd
    unfold drawGo at h
    split at h
    · rename_i hg
      exact go d rfl (by simp [wantS, hg]) h
    · rename_i j want hg
      split at h
      · exact h.elim
      · rename_i t ht
        split at h
        · exact h.elim
        · rename_i x hx
          split at h
          · rename_i hb
            exact skip d rfl (by simp only [wantS, hg]; exact ⟨t, x, ht, hx, .inl ⟨hb, by simp⟩⟩) h
          · rename_i q hb
            have hxq : x = .v (.bool q) := by
              unfold boolV at hb
              split at hb <;> simp at hb
              subst hb; rfl
            have hset : ∀ bb, q = bb → ({ d with tm := d.tm.set t (.v (.bool bb)) } : DSt τ) = d := fun bb e => by
              subst e
              have : d.tm.set t (.v (.bool q)) = d.tm := set_eq_self fun y hy => by rw [hx] at hy; cases hy; exact hxq
              rw [this]
            have hwant : ∀ bb, bb = (q == want) → wantS ops o d.tm bb := fun bb e => by
              simp only [wantS, hg]; exact ⟨t, x, ht, hx, .inr ⟨q, hb, e⟩⟩
            split at h
            · rcases br_elim h with ⟨rfl, hk⟩ | ⟨rfl, hk⟩
              · exact go _ (hset true rfl) (hwant true rfl) hk
              · exact skip _ (hset false rfl) (hwant false rfl) hk
            · rcases br_elim h with ⟨rfl, hk⟩ | ⟨rfl, hk⟩
              · exact skip _ (hset true rfl) (hwant false rfl) hk
              · exact go _ (hset false rfl) (hwant true rfl) hk
          · exact h.elim
end Go.Sym
namespace Go.Sym
open Go
variable {τ : Type} {I : Inv τ}
def foldT (ops : Array Oper) (E : List (Ef τ)) (Hl : Nat) (p : Nat → Bool) (tm0 : List SV) : Nat → List SV
  | 0 => tm0
  | m + 1 => match p m, ops[m]?, E[m]? with
    | true, some o, some ef => putS o.dst (ef.val (Hl + m)) (foldT ops E Hl p tm0 m)
    | _, _, _ => foldT ops E Hl p tm0 m
theorem putS_length (dst : Option Tmp) (x : SV) (tm : List SV) : (putS dst x tm).length = tm.length := by cases dst <;> simp [putS]
theorem foldT_length {ops : Array Oper} {E : List (Ef τ)} {Hl : Nat} {p : Nat → Bool} {tm0 : List SV} : ∀ m, (foldT ops E Hl p tm0 m).length = tm0.length
  | 0 => rfl
  | m + 1 => by unfold foldT; split <;> simp [putS_length, foldT_length m]
theorem putS_get (dst : Option Tmp) (x : SV) (tm : List SV) (t : Nat) : (putS dst x tm)[t]? = if dst = some t ∧ t < tm.length then some x else tm[t]? := by
  cases dst with
  | none => simp [putS]
  | some d =>
    simp only [putS, Option.some.injEq]
    by_cases h : d = t
    · subst h
      by_cases hl : d < tm.length
      · simp [hl]
      · simp [hl]
    · simp [h]
theorem foldT_slot {ops : Array Oper} {E : List (Ef τ)} {Hl : Nat} {p q : Nat → Bool} {tm0 : List SV} {t : Nat} : ∀ m, (∀ j o, j < m → ops[j]? = some o → o.dst = some t → p j = q j) →
    (foldT ops E Hl p tm0 m)[t]? = (foldT ops E Hl q tm0 m)[t]?
  | 0, _ => rfl
  | m + 1, h => by
    have ih := foldT_slot (E := E) (Hl := Hl) (tm0 := tm0) m fun j o hj => h j o (by omega)
    have hne : ∀ (r : Nat → Bool), (¬ ∃ o, ops[m]? = some o ∧ o.dst = some t) → (foldT ops E Hl r tm0 (m + 1))[t]? = (foldT ops E Hl r tm0 m)[t]? := by
      intro r hno
      rw [foldT]
      split
      · rename_i o ef hr ho he
        rw [putS_get, if_neg]
        rintro ⟨hd, _⟩
        exact hno ⟨o, ho, hd⟩
      · rfl
    by_cases hw : ∃ o, ops[m]? = some o ∧ o.dst = some t
    · obtain ⟨o, ho, hd⟩ := hw
      have hpq := h m o (by omega) ho hd
      rw [foldT, foldT, ← hpq, ho]
      cases hb : p m with
      | false => exact ih
      | true =>
        cases he : E[m]? with
        | none => exact ih
        | some ef =>
          simp only [putS_get, foldT_length, ih]
    · rw [hne p hw, hne q hw, ih]
theorem foldT_stop {ops : Array Oper} {E : List (Ef τ)} {Hl : Nat} {tm0 : List SV} {k : Nat} : ∀ m, k ≤ m → foldT ops E Hl (fun j => decide (j < k)) tm0 m = foldT ops E Hl (fun _ => true) tm0 k
  | 0, h => by have : k = 0 := by omega
               subst this; rfl
  | m + 1, h => by
    by_cases hk : k = m + 1
    · subst hk
      have : ∀ n, n ≤ m + 1 → foldT ops E Hl (fun j => decide (j < m + 1)) tm0 n = foldT ops E Hl (fun _ => true) tm0 n := by
        intro n
        induction n with
        | zero => intro _; rfl
        | succ n ih =>
          intro hn
          have e : decide (n < m + 1) = true := by simp; omega
          simp only [foldT, e, ih (by omega)]
      exact this _ (Nat.le_refl _)
    · rw [foldT]
      have e : decide (m < k) = false := by simp; omega
      simp only [e]
      exact foldT_stop m (by omega)
theorem facts_T {cfg : Cfg τ} {H : List (SB τ)} {pad : Nat} {ops : Array Oper} {tm0 : List SV} {n : Nat} {d : DSt τ} {T : Nat → List SV} (h : Facts cfg H pad ops tm0 n d T) (hn : n ≤ ops.size) :
    ∀ k, k ≤ n → T k = foldT ops d.E H.length (fun _ => true) tm0 k
  | 0, _ => h.start
  | k + 1, hk => by
    have ho : ops[k]? = some ops[k] := by simp [show k < ops.size by omega]
    obtain ⟨ef, b, h1, h2, _⟩ := h.step k _ (by omega) ho
    rw [h2, foldT]
    simp only [ho, h1]
    rw [facts_T h hn k (by omega)]
theorem okD_edges {ops : Array Oper} (h : okD ops = true) {k : Nat} {o : Oper} (ho : ops[k]? = some o) : ∀ ed ∈ o.after.toList, Region.binds .any ed = true → ed.on < k := by
  unfold okD at h
  rw [List.all_eq_true] at h
  have := h (o, k) (by rw [List.mem_zipIdx_iff_getElem?]; simpa using ho)
  simp only [Bool.and_eq_true, List.all_eq_true] at this
  intro ed hed hb
  have := this.1 ed hed
  simp only [Bool.or_eq_true, Bool.not_eq_true', hb, Nat.blt_eq] at this
  rcases this with h | h
  · cases h
  · exact h
theorem okD_pair {ops : Array Oper} (h : okD ops = true) {k j : Nat} {ok oj : Oper} (hk : ops[k]? = some ok) (hj : ops[j]? = some oj) (hne : j ≠ k) {t : Tmp} (hd : oj.dst = some t) :
    (t ∈ ok.looksAt ops → (j < k ∧ edgeB ops k j = true) ∨ (k < j ∧ edgeB ops j k = true)) ∧ ok.dst ≠ some t := by
  unfold okD at h
  rw [List.all_eq_true] at h
  have := h (ok, k) (by rw [List.mem_zipIdx_iff_getElem?]; simpa using hk)
  simp only [Bool.and_eq_true, List.all_eq_true] at this
  have := this.2 (oj, j) (by rw [List.mem_zipIdx_iff_getElem?]; simpa using hj)
  simp only [Bool.or_eq_true, Nat.beq_eq] at this
  rcases this with h | h
  · exact absurd h hne
  · simp only [okPair, hd, Bool.and_eq_true, Bool.or_eq_true, Bool.not_eq_true', Nat.blt_eq] at h
    refine ⟨fun ht => ?_, fun he => ?_⟩
    · rcases h.1 with (h | h) | h
      · have : (ok.looksAt ops).contains t = true := by simpa using ht
        rw [this] at h; cases h
      · exact .inl h
      · exact .inr h
    · have := h.2
      rw [he] at this
      simp only [Bool.not_eq_true'] at this
      have h2 : Nat.beq t t = true := by rw [Nat.beq_eq]
      rw [h2] at this; cases this
theorem edge_dep {ops : Array Oper} {k j : Nat} (h : edgeB ops k j = true) : ∃ o ed, ops[k]? = some o ∧ ed ∈ o.after.toList ∧ Region.binds .any ed = true ∧ ed.on = j := by
  unfold edgeB at h
  split at h
  · rename_i o ho
    rw [List.any_eq_true] at h
    obtain ⟨ed, h1, h2⟩ := h
    simp only [Bool.and_eq_true, Nat.beq_eq] at h2
    exact ⟨o, ed, ho, h1, h2.1, h2.2⟩
  · cases h
def Closed (ops : Array Oper) (p : Nat → Bool) : Prop := ∀ k o, ops[k]? = some o → p k = true → ∀ ed ∈ o.after.toList, Region.binds .any ed = true → p ed.on = true
theorem Closed.edge {ops : Array Oper} {p : Nat → Bool} (h : Closed ops p) {k j : Nat} (he : edgeB ops k j = true) (hk : p k = true) : p j = true := by
  obtain ⟨o, ed, ho, h1, h2, rfl⟩ := edge_dep he
  exact h k o ho hk ed h1 h2
theorem slots_read {cfg : Cfg τ} {H : List (SB τ)} {pad : Nat} {ops : Array Oper} {tm0 : List SV} {d : DSt τ} {T : Nat → List SV} (hf : Facts cfg H pad ops tm0 ops.size d T) (hok : okD ops = true)
    {p : Nat → Bool} (hcl : Closed ops p) {k : Nat} {o : Oper} (ho : ops[k]? = some o) (hk : p k = false) (hdeps : ∀ ed ∈ o.after.toList, Region.binds .any ed = true → p ed.on = true) {t : Tmp} (ht : t ∈ o.looksAt ops) :
    (foldT ops d.E H.length p tm0 ops.size)[t]? = (T k)[t]? := by
  have hkn : k < ops.size := (Array.getElem?_eq_some_iff.1 ho).1
  rw [facts_T hf (Nat.le_refl _) k (by omega), ← foldT_stop ops.size (by omega)]
  refine foldT_slot _ fun j oj hj hoj hd => ?_
  by_cases hjk : j = k
  · subst hjk; simp [hk]
  · rcases (okD_pair hok ho hoj hjk hd).1 ht with ⟨h1, h2⟩ | ⟨h1, h2⟩
    · obtain ⟨o', ed, ho', h3, h4, h5⟩ := edge_dep h2
      rw [ho] at ho'; cases ho'
      have := hdeps ed h3 h4
      rw [h5] at this
      simp [this, h1]
    · have : p j = false := by
        cases hp : p j with
        | false => rfl
        | true => rw [hcl.edge h2 hp] at hk; cases hk
      simp [this]; omega
theorem slots_put {ops : Array Oper} {E : List (Ef τ)} {Hl : Nat} {tm0 : List SV} (hok : okD ops = true) {p p' : Nat → Bool} {k : Nat} {o : Oper} {ef : Ef τ} (ho : ops[k]? = some o) (he : E[k]? = some ef) (hk : p k = false)
    (hp : ∀ j, p' j = (p j || Nat.beq j k)) : foldT ops E Hl p' tm0 ops.size = putS o.dst (ef.val (Hl + k)) (foldT ops E Hl p tm0 ops.size) := by
  have hkn : k < ops.size := (Array.getElem?_eq_some_iff.1 ho).1
  refine List.ext_getElem? fun t => ?_
  rw [putS_get, foldT_length]
  by_cases hd : o.dst = some t ∧ t < tm0.length
  · rw [if_pos hd]
    have e1 : (foldT ops E Hl p' tm0 ops.size)[t]? = (foldT ops E Hl (fun j => Nat.beq j k) tm0 ops.size)[t]? := by
      refine foldT_slot _ fun j oj _ hoj hdj => ?_
      by_cases hjk : j = k
      · subst hjk; rw [hp]; simp
      · exact absurd hd.1 (okD_pair hok ho hoj hjk hdj).2
    rw [e1]
    have key : ∀ m, k < m → (foldT ops E Hl (fun j => Nat.beq j k) tm0 m)[t]? = some (ef.val (Hl + k)) := by
      intro m hm
      induction m with
      | zero => omega
      | succ m ih =>
        by_cases hmk : m = k
        · subst hmk
          have : Nat.beq m m = true := by rw [Nat.beq_eq]
          simp only [foldT, this, ho, he]
          rw [putS_get, foldT_length, if_pos hd]
        · have : Nat.beq m k = false := by
            cases hb : Nat.beq m k with
            | false => rfl
            | true => rw [Nat.beq_eq] at hb; exact absurd hb hmk
          simp only [foldT, this]
          exact ih (by omega)
    exact key _ hkn
  · rw [if_neg hd]
    by_cases hlt : t < tm0.length
    · refine foldT_slot _ fun j oj _ hoj hdj => ?_
      have : j ≠ k := fun e => by subst e; rw [ho] at hoj; cases hoj; exact hd ⟨hdj, hlt⟩
      have hb : Nat.beq j k = false := by
        cases hb : Nat.beq j k with
        | false => rfl
        | true => rw [Nat.beq_eq] at hb; exact absurd hb this
      rw [hp, hb]; simp
    · rw [List.getElem?_eq_none (by rw [foldT_length]; omega), List.getElem?_eq_none (by rw [foldT_length]; omega)]
end Go.Sym
namespace Go.Sym
open Go
variable {τ : Type} {I : Inv τ}
theorem Models.fill {e : Env} {H : List (SB τ)} {Fr : PH} {w w' : World} (h : Models I e H Fr w) {i : Nat} (hi : H[i]? = some .gone) (he : e i = none) {b : SB τ} {r : Ref} {hn : PH}
    (hb : ItemOk I (ext e i r) b (some r) hn) (hold : Ext w w') (hnew : Sub hn w') (hfresh : ∀ k, hn k ≠ none → w.heap.size ≤ k) : Models I (ext e i r) (H.set i b) Fr w' := by
  obtain ⟨h0, hs, h1, h2, h3, h4, h5, h6⟩ := h
  have hlt : i < H.length := (List.getElem?_eq_some_iff.1 hi).1
  have hgi : hs i = emp := h1 i _ hi
  have hdn : ∀ (x : PH), Sub x w → Disj x hn := fun x hx k => by
    cases hk : x k with
    | none => exact .inl rfl
    | some o =>
      right
      have := lt_of_sub hx hk
      cases hq : hn k with
      | none => rfl
      | some o' => have := hfresh k (by rw [hq]; simp); omega
  refine ⟨h0.stay hold.stay, fun j => if j = i then hn else hs j, ?_, ?_, ?_, ?_, ?_, fun k o hk => hold.heap k o (h6 k o hk)⟩
  · intro j b' hj
    by_cases hji : j = i
    · subst hji
      simp [hlt] at hj
      subst hj
      simp only [if_true, ext_self]
      exact hb
    · rw [List.getElem?_set_ne (fun e => hji e.symm)] at hj
      simp only [hji, if_false]
      rw [ext_ne _ _ _ hji]
      exact (h1 j b' hj).mono I (le_ext he)
  · intro j hj
    have hj' : H.length ≤ j := by simpa using hj
    have hji : j ≠ i := by omega
    simp only [hji, if_false]
    rw [ext_ne _ _ _ hji]
    exact h2 j hj'
  · intro j k hjk
    by_cases hj : j = i
    · have hk : k ≠ i := by omega
      simp only [hj, hk, if_true, if_false]
      intro m; exact (hdn _ (h5 k) m).symm
    · by_cases hk : k = i
      · simp only [hj, hk, if_true, if_false]; exact hdn _ (h5 j)
      · simp only [hj, hk, if_false]; exact h3 j k hjk
  · intro j
    by_cases hj : j = i
    · simp only [hj, if_true]; intro m; exact (hdn _ h6 m).symm
    · simp only [hj, if_false]; exact h4 j
  · intro j k o hk
    by_cases hj : j = i
    · simp only [hj, if_true] at hk; exact hnew k o hk
    · simp only [hj, if_false] at hk; exact hold.heap k o (h5 j k o hk)
theorem Models.pad {e : Env} {H X : List (SB τ)} {Fr : PH} {w : World} (h : Models I e H Fr w) (hX : ∀ b ∈ X, b = .gone) : Models I e (H ++ X) Fr w := by
  obtain ⟨h0, hs, h1, h2, h3, h4, h5, h6⟩ := h
  refine ⟨h0, hs, fun i b hi => ?_, fun i hi => h2 i (by simp at hi; omega), h3, h4, h5, h6⟩
  by_cases hlt : i < H.length
  · rw [List.getElem?_append_left hlt] at hi; exact h1 i b hi
  · rw [List.getElem?_append_right (by omega)] at hi
    have := hX b (List.mem_of_getElem? hi)
    subst this
    exact (h2 i (by omega)).2
theorem heapA_low {H : List (SB τ)} {pad : Nat} {E : List (Ef τ)} {p : Nat → Bool} {i : Nat} (h : i < H.length) : (heapA H pad E p)[i]? = H[i]? := by
  unfold heapA; rw [List.getElem?_append_left h]
theorem itemA_off {E : List (Ef τ)} {p : Nat → Bool} {k : Nat} (h : p k = false) : itemA E p k = .gone := by simp [itemA, h]
theorem itemA_on {E : List (Ef τ)} {p : Nat → Bool} {k : Nat} {ef : Ef τ} (h : p k = true) (he : E[k]? = some ef) : itemA E p k = ef.nb := by simp [itemA, h, he]
theorem heapA_high {H : List (SB τ)} {pad : Nat} {E : List (Ef τ)} {p : Nat → Bool} {k : Nat} (h : k < pad) : (heapA H pad E p)[H.length + k]? = some (itemA E p k) := by
  unfold heapA
  rw [List.getElem?_append_right (by omega)]
  simp [h]
theorem heapA_length {H : List (SB τ)} {pad : Nat} {E : List (Ef τ)} {p : Nat → Bool} : (heapA H pad E p).length = H.length + pad := by simp [heapA]
theorem heapA_step {H : List (SB τ)} {pad : Nat} {E : List (Ef τ)} {p p' : Nat → Bool} {k : Nat} {ef : Ef τ} (he : E[k]? = some ef) (hp : ∀ j, p' j = (p j || Nat.beq j k)) (hk : p k = false) :
    heapA H pad E p' = if k < pad then (heapA H pad E p).set (H.length + k) ef.nb else heapA H pad E p := by
  have hne : ∀ j, j ≠ k → p' j = p j := fun j hj => by
    have : Nat.beq j k = false := by
      cases hb : Nat.beq j k with
      | false => rfl
      | true => rw [Nat.beq_eq] at hb; exact absurd hb hj
    rw [hp, this]; simp
  have hpk : p' k = true := by rw [hp]; simp
  refine List.ext_getElem? fun i => ?_
  by_cases hi : i < H.length
  · rw [heapA_low hi]
    split
    · rw [List.getElem?_set_ne (by omega), heapA_low hi]
    · rw [heapA_low hi]
  · obtain ⟨j, rfl⟩ : ∃ j, i = H.length + j := ⟨i - H.length, by omega⟩
    by_cases hj : j < pad
    · rw [heapA_high hj]
      by_cases hjk : j = k
      · subst hjk
        rw [if_pos hj]
        rw [List.getElem?_set_self (by rw [heapA_length]; omega)]
        rw [itemA_on hpk he]
      · rw [show itemA E p' j = itemA E p j by simp only [itemA, hne j hjk]]
        by_cases hkp : k < pad
        · rw [if_pos hkp, List.getElem?_set_ne (by omega), heapA_high hj]
        · rw [if_neg hkp, heapA_high hj]
    · rw [List.getElem?_eq_none (by rw [heapA_length]; omega)]
      split
      · rw [List.getElem?_set_ne (by omega), List.getElem?_eq_none (by rw [heapA_length]; omega)]
      · rw [List.getElem?_eq_none (by rw [heapA_length]; omega)]
theorem heapS_eq {H : List (SB τ)} {pad : Nat} {E : List (Ef τ)} {sto : Option (Nat × Nat × SB τ)} {p : Nat → Bool} : heapS H pad E sto p = match sto with
    | some (s, b, c) => if p s = true then (heapA H pad E p).set b c else heapA H pad E p
    | none => heapA H pad E p := by
  unfold heapS
  cases sto with
  | none => rfl
  | some x =>
    obtain ⟨s, b, c⟩ := x
    by_cases h : p s = true
    · simp only [h, if_true]
    · have h' : p s = false := by simpa using h
      simp only [h', Bool.false_eq_true, if_false]
theorem set_gone {α : Type} {l : List α} {i : Nat} {x : α} (h : l[i]? = some x) : l.set i x = l := set_eq_self fun y hy => by rw [h] at hy; cases hy; rfl
def left (n : Nat) (p : Nat → Bool) : Nat := ((List.range n).filter fun k => !p k).length
theorem filter_le {α : Type} {p q : α → Bool} : ∀ {l : List α}, (∀ x ∈ l, q x = true → p x = true) → (l.filter q).length ≤ (l.filter p).length
  | [], _ => by simp
  | x :: l, h => by
    have ih := filter_le (p := p) (q := q) (l := l) fun y hy => h y (List.mem_cons_of_mem _ hy)
    have hx := h x List.mem_cons_self
    cases hq : q x <;> cases hp : p x <;> simp [hq, hp] <;> first | omega | (rw [hq, hp] at hx; simp at hx)
theorem filter_lt {α : Type} {p q : α → Bool} : ∀ {l : List α} {y : α}, (∀ x ∈ l, q x = true → p x = true) → y ∈ l → p y = true → q y = false → (l.filter q).length < (l.filter p).length
  | [], _, _, hy, _, _ => by cases hy
  | x :: l, y, h, hy, hp, hq => by
    have hl := filter_le (p := p) (q := q) (l := l) fun z hz => h z (List.mem_cons_of_mem _ hz)
    rcases List.mem_cons.1 hy with rfl | hy
    · simp [hp, hq]; omega
    · have ih := filter_lt (l := l) (fun z hz => h z (List.mem_cons_of_mem _ hz)) hy hp hq
      have hx := h x List.mem_cons_self
      cases hq' : q x <;> cases hp' : p x <;> simp [hq', hp'] <;> first | omega | (rw [hq', hp'] at hx; simp at hx)
end Go.Sym
namespace Go.Sym
open Go
variable {τ : Type} {I : Inv τ} {D : List Deferred}
structure Mid (I : Inv τ) (e0 : Env) (Fr : PH) (D : List Deferred) (st : St τ) (ops : Array Oper) (d : DSt τ) (pad : Nat) (p : Nat → Bool) (e : Env) (a : Act) (w : World) : Prop where
  le : Le e0 e
  models : Models I e (heapS st.H pad d.E d.sto p) Fr w
  tm : DenL e (foldT ops d.E st.H.length p st.tm ops.size) a.tmps.toList
  df : st.df = [] ∧ a.defers = D
  closed : Closed ops p
  fresh : ∀ k, k < pad → p k = false → e (st.H.length + k) = none
section
variable {cfg : Cfg τ} {ops : Array Oper} {st : St τ} {d : DSt τ} {T : Nat → List SV} {e0 e : Env} {Fr : PH} {a : Act} {w : World} {p p' : Nat → Bool} {k : Nat} {o : Oper} {ef : Ef τ}
theorem mid_closed (hc : Closed ops p) (hp : ∀ j, p' j = (p j || Nat.beq j k)) (ho : ops[k]? = some o) (hdeps : ∀ ed ∈ o.after.toList, Region.binds .any ed = true → p ed.on = true) : Closed ops p' := by
  intro j oj hoj hpj ed hed hb
  rw [hp] at hpj ⊢
  by_cases hjk : j = k
  · subst hjk; rw [ho] at hoj; cases hoj
    rw [hdeps ed hed hb]; rfl
  · have : Nat.beq j k = false := by
      cases hq : Nat.beq j k with
      | false => rfl
      | true => rw [Nat.beq_eq] at hq; exact absurd hq hjk
    rw [this, Bool.or_false] at hpj
    rw [hc j oj hoj hpj ed hed hb]; rfl
theorem mid_quiet (hok : okD ops = true) (hf : Facts cfg st.H (padOf ops) ops st.tm ops.size d T) (hM : Mid I e0 Fr D st ops d (padOf ops) p e a w) (ho : ops[k]? = some o) (hk : p k = false)
    (hdeps : ∀ ed ∈ o.after.toList, Region.binds .any ed = true → p ed.on = true) (hp : ∀ j, p' j = (p j || Nat.beq j k)) {x : SV} (he : d.E[k]? = some (.q x)) {v : Value} {w' : World} (hw : Ext w w') (hd : Den e x v) :
    Mid I e0 Fr D st ops d (padOf ops) p' e (a.put o.dst v) w' := by
  have hA : heapA st.H (padOf ops) d.E p' = heapA st.H (padOf ops) d.E p := by
    rw [heapA_step he hp hk]
    split
    · rename_i hkp
      refine set_gone ?_
      rw [heapA_high hkp, itemA_off hk]; rfl
    · rfl
  have hS : heapS st.H (padOf ops) d.E d.sto p' = heapS st.H (padOf ops) d.E d.sto p := by
    rw [heapS_eq, heapS_eq, hA]
    cases hs : d.sto with
    | none => rfl
    | some y =>
      obtain ⟨s, b, c⟩ := y
      have h2 := (hf.sto s b c hs).2
      have hne : s ≠ k := fun e => by subst e; rw [he] at h2; rcases h2 with h2 | ⟨_, h2⟩ <;> cases h2
      have : Nat.beq s k = false := by
        cases hq : Nat.beq s k with
        | false => rfl
        | true => rw [Nat.beq_eq] at hq; exact absurd hq hne
      simp only [hp, this, Bool.or_false]
  refine ⟨hM.le, by rw [hS]; exact hM.models.grow hw, ?_, by rw [put_defers]; exact hM.df, mid_closed hM.closed hp ho hdeps, fun j hj hpj => hM.fresh j hj ?_⟩
  · rw [slots_put hok ho he hk hp]
    exact put_den o.dst hM.tm hd
  · rw [hp] at hpj
    cases hq : p j with
    | false => rfl
    | true => rw [hq] at hpj; simp at hpj
theorem mid_alloc (hok : okD ops = true) (hos : okS st.H ops d = true) (hf : Facts cfg st.H (padOf ops) ops st.tm ops.size d T) (hM : Mid I e0 Fr D st ops d (padOf ops) p e a w) (ho : ops[k]? = some o) (hk : p k = false)
    (hdeps : ∀ ed ∈ o.after.toList, Region.binds .any ed = true → p ed.on = true) (hp : ∀ j, p' j = (p j || Nat.beq j k)) {l : List SV} {Ty : TypeId} (he : d.E[k]? = some (.al (.cells l Ty))) (hal : k ∈ d.al) (hkp : k < padOf ops)
    {vs : List Value} (hd : DenL e l vs) :
    Mid I e0 Fr D st ops d (padOf ops) p' (ext e (st.H.length + k) (.blk w.heap.size)) (a.put o.dst (.pointer (some ⟨w.heap.size, 0, none⟩))) { w with heap := w.heap.push (.cells vs.toArray Ty) } := by
  have hfr := hM.fresh k hkp hk
  have hle : Le e (ext e (st.H.length + k) (.blk w.heap.size)) := le_ext hfr
  have hA : heapA st.H (padOf ops) d.E p' = (heapA st.H (padOf ops) d.E p).set (st.H.length + k) (.cells l Ty) := by
    rw [heapA_step he hp hk, if_pos hkp]; rfl
  have hgone : (heapA st.H (padOf ops) d.E p)[st.H.length + k]? = some .gone := by rw [heapA_high hkp, itemA_off hk]
  -- the store is not done upon this very item
  have hst : ∀ s b c, d.sto = some (s, b, c) → p s = true → st.H.length + k ≠ b := by
    intro s b c hs hps hb
    have := hos
    simp only [okS, hs, Bool.and_eq_true, List.all_eq_true] at this
    have := this.2 k hal
    simp only [Bool.or_eq_true, Bool.not_eq_true'] at this
    rcases this with h | h
    · rw [hM.closed.edge h hps] at hk; cases hk
    · have h2 : Nat.beq (st.H.length + k) b = true := by rw [Nat.beq_eq]; exact hb
      rw [h2] at h; cases h
  have hS : heapS st.H (padOf ops) d.E d.sto p' = (heapS st.H (padOf ops) d.E d.sto p).set (st.H.length + k) (.cells l Ty) := by
    rw [heapS_eq, heapS_eq, hA]
    cases hs : d.sto with
    | none => rfl
    | some y =>
      obtain ⟨s, b, c⟩ := y
      have h2 := (hf.sto s b c hs).2
      have hne : s ≠ k := fun e => by subst e; rw [he] at h2; rcases h2 with h2 | ⟨_, h2⟩ <;> cases h2
      have : Nat.beq s k = false := by
        cases hq : Nat.beq s k with
        | false => rfl
        | true => rw [Nat.beq_eq] at hq; exact absurd hq hne
      simp only [hp, this, Bool.or_false]
      by_cases hps : p s = true
      · simp only [hps, if_true]
        exact List.set_comm _ _ (hst s b c hs hps)
      · simp only [hps, Bool.false_eq_true, if_false]
  have hgS : (heapS st.H (padOf ops) d.E d.sto p)[st.H.length + k]? = some .gone := by
    rw [heapS_eq]
    cases hs : d.sto with
    | none => exact hgone
    | some y =>
      obtain ⟨s, b, c⟩ := y
      by_cases hps : p s = true
      · simp only [hps, if_true]; rw [List.getElem?_set_ne (fun e => hst s b c hs hps e.symm)]; exact hgone
      · simp only [hps, Bool.false_eq_true, if_false]; exact hgone
  refine ⟨hM.le.trans hle, ?_, ?_, by rw [put_defers]; exact hM.df, mid_closed hM.closed hp ho hdeps, fun j hj hpj => ?_⟩
  · rw [hS]
    refine hM.models.fill (hn := single w.heap.size (.cells vs.toArray Ty (0, 0))) hgS hfr ⟨w.heap.size, vs, rfl, hd.mono hle, rfl⟩ (Ext.alloc w _) (fun q x hq => ?_) (fun q hq => ?_)
    · unfold single at hq
      split at hq
      · rename_i hq'; subst hq'; simp only [Option.some.injEq] at hq; subst hq; simp
      · cases hq
    · unfold single at hq
      split at hq
      · rename_i hq'; omega
      · exact absurd rfl hq
  · rw [slots_put hok ho he hk hp]
    refine put_den o.dst (hM.tm.mono hle) ?_
    simp only [Ef.val, Den, ext_self]
    exact ⟨_, rfl, rfl⟩
  · rw [hp] at hpj
    have hjk : j ≠ k := fun e => by subst e; simp at hpj
    rw [ext_ne _ _ _ (by omega)]
    refine hM.fresh j hj ?_
    cases hq : p j with
    | false => rfl
    | true => rw [hq] at hpj; simp at hpj
theorem mid_store (hok : okD ops = true) (hf : Facts cfg st.H (padOf ops) ops st.tm ops.size d T) (hM : Mid I e0 Fr D st ops d (padOf ops) p e a w) (ho : ops[k]? = some o) (hk : p k = false)
    (hdeps : ∀ ed ∈ o.after.toList, Region.binds .any ed = true → p ed.on = true) (hp : ∀ j, p' j = (p j || Nat.beq j k)) {b : Nat} {c : SB τ} {ef : Ef τ} (he : d.E[k]? = some ef) (hnb : ef.nb = .gone) {v : Value} (hv : Den e (ef.val (st.H.length + k)) v) (hs : d.sto = some (k, b, c)) {w' : World}
    (hm : Models I e ((heapS st.H (padOf ops) d.E d.sto p).set b c) Fr w') : Mid I e0 Fr D st ops d (padOf ops) p' e (a.put o.dst v) w' := by
  have hA : heapA st.H (padOf ops) d.E p' = heapA st.H (padOf ops) d.E p := by
    rw [heapA_step he hp hk]
    split
    · rename_i hkp
      refine set_gone ?_
      rw [heapA_high hkp, itemA_off hk, hnb]
    · rfl
  have hS : heapS st.H (padOf ops) d.E d.sto p' = (heapS st.H (padOf ops) d.E d.sto p).set b c := by
    rw [heapS_eq, heapS_eq, hA, hs]
    simp [hp, hk]
  refine ⟨hM.le, by rw [hS]; exact hm, ?_, by rw [put_defers]; exact hM.df, mid_closed hM.closed hp ho hdeps, fun j hj hpj => hM.fresh j hj ?_⟩
  · rw [slots_put hok ho he hk hp]
    exact put_den o.dst hM.tm hv
  · rw [hp] at hpj
    cases hq : p j with
    | false => rfl
    | true => rw [hq] at hpj; simp at hpj
end
theorem looks_of_operand {ops : Array Oper} {o : Oper} {t : Tmp} (h : Operand.tmp t ∈ o.op.operands.toList) : t ∈ o.looksAt ops := by
  unfold Oper.looksAt
  rw [List.mem_append]
  exact .inl (List.mem_filterMap.2 ⟨_, h, rfl⟩)
theorem looks_of_guard {ops : Array Oper} {o : Oper} {j : Nat} {wt : Bool} {t : Tmp} (hg : o.guard = some (j, wt)) (hd : (ops[j]?).bind (·.dst) = some t) : t ∈ o.looksAt ops := by
  unfold Oper.looksAt
  rw [List.mem_append]
  exact .inr (by simp [hg, hd])
theorem ev_slots {tm tm' : List SV} {x : Operand} (h : ∀ t, x = .tmp t → tm[t]? = tm'[t]?) : ev tm x = ev tm' x := by
  cases x with
  | tmp t => simp only [ev, List.getD, h t rfl]
  | _ => rfl
theorem draw_step {cfg : Cfg τ} (hpc : ∀ g pc, cfg.pcon g = some pc → PConOk I cfg.P g pc) {ops : Array Oper} {st : St τ} {d : DSt τ} {T : Nat → List SV} {e0 e : Env} {Fr : PH} {a : Act} {w : World} {p p' : Nat → Bool} {k : Nat} {r : Option Nat}
    {Q : Exit → Act → World → Prop} {K : Act → World → Prop} (hok : okD ops = true) (hos : okS st.H ops d = true) (hf : Facts cfg st.H (padOf ops) ops st.tm ops.size d T) (hM : Mid I e0 Fr D st ops d (padOf ops) p e a w) {o : Oper} (ho : ops[k]? = some o) (hk : p k = false)
    (hdeps : ∀ ed ∈ o.after.toList, Region.binds .any ed = true → p ed.on = true) (hp : ∀ j, p' j = (p j || Nat.beq j k)) (hK : ∀ e' a' w', Mid I e0 Fr D st ops d (padOf ops) p' e' a' w' → K a' w') : wpOpIn (FF r) 0 cfg.P ops Q k K a w := by
  have hkn : k < ops.size := (Array.getElem?_eq_some_iff.1 ho).1
  obtain ⟨ef, b, hE, _, hw, hef⟩ := hf.step k o hkn ho
  have hread : ∀ t ∈ o.looksAt ops, (foldT ops d.E st.H.length p st.tm ops.size)[t]? = (T k)[t]? := fun t ht => slots_read hf hok hM.closed ho hk hdeps ht
  have hev : ∀ x ∈ o.op.operands.toList, ev (T k) x = ev (foldT ops d.E st.H.length p st.tm ops.size) x := fun x hx => (ev_slots fun t e => by subst e; exact hread t (looks_of_operand hx)).symm
  unfold wpOpIn
  rw [ho]
  have hwant : Region.wanted o (yielded ops a.tmps) = b := by
    unfold wantS at hw
    unfold Region.wanted
    split at hw
    · rename_i hg; rw [hg, hw]
    · rename_i j wt hg
      rw [hg]
      obtain ⟨t, x, h1, h2, h3⟩ := hw
      have h4 := hread t (looks_of_guard hg h1)
      rw [h2] at h4
      obtain ⟨v, hv, hdv⟩ := hM.tm.get h4
      have hv' : a.tmps[t]? = some v := by simpa using hv
      rcases h3 with ⟨h3, rfl⟩ | ⟨q, h3, rfl⟩
      · have hnb := boolV_none h3 hdv
        have : yielded ops a.tmps j = none := by
          simp only [yielded, h1, Option.bind_some, hv']
          cases v <;> first | rfl | exact absurd rfl (hnb _)
        simp [this]
      · obtain ⟨_, rfl⟩ := boolV_some h3 hdv
        have : yielded ops a.tmps j = some q := by simp [yielded, h1, hv']
        simp [this]
  simp only [hwant]
  rcases hef with ⟨rfl, rfl⟩ | ⟨rfl, hef⟩
  · simp only [Bool.false_eq_true, if_false]
    exact ⟨fun _ _ => trivial, hK e _ _ (mid_quiet hok hf hM ho hk hdeps hp hE (Ext.refl w) (by simp [Den]))⟩
  · simp only [if_true]
    refine ⟨fun _ _ => trivial, ?_⟩
    show o.uponIn (FF r) 0 cfg.P a K Q ((o.semAt r a.eval).run cfg.P w)
    cases ef with
    | q x =>
      rcases hef with ⟨c, hv, hc, hrd⟩ | ⟨f, args, ats, g, fi, ca, fn, pc, φ, hop, hcal, hfn, hn, hb, hpcg, hpx, hφ, hcl⟩
      · have hv1 : stepV cfg.P o.op (foldT ops d.E st.H.length p st.tm ops.size) st.H = some (c, x) := by rw [← stepV_congr hev]; exact hv
        have hv2 : stepV cfg.P o.op (foldT ops d.E st.H.length p st.tm ops.size) (heapS st.H (padOf ops) d.E d.sto p) = some (c, x) := by
          refine stepV_heap hv1 fun b it htc hb => ?_
          have hlt : b < st.H.length := (List.getElem?_eq_some_iff.1 hb).1
          have hA : (heapA st.H (padOf ops) d.E p)[b]? = some it := by rw [heapA_low hlt]; exact hb
          rw [heapS_eq]
          cases hs : d.sto with
          | none => exact hA
          | some y =>
            obtain ⟨s, b', c'⟩ := y
            by_cases hps : p s = true
            · simp only [hps, if_true]
              have htc' : touch o.op (T k) = some b := by rw [touch_congr hev]; exact htc
              have := hos
              simp only [okS, hs, Bool.and_eq_true, List.all_eq_true] at this
              have := this.1.1 (k, b) (hrd b htc')
              simp only [Bool.or_eq_true, Bool.not_eq_true'] at this
              rcases this with h | h
              · rw [hM.closed.edge h hps] at hk; cases hk
              · have hbb : b' ≠ b := fun e => by
                  have : Nat.beq b b' = true := by rw [Nat.beq_eq]; exact e.symm
                  rw [this] at h; cases h
                rw [List.getElem?_set_ne hbb]; exact hA
            · simp only [hps, Bool.false_eq_true, if_false]; exact hA
        obtain ⟨v, hr, hd⟩ := stepV_ok (o := o) hM.models hM.tm hv2 hc
        rw [semAt_eq (notDefer_V hv), hr]
        exact hK e _ _ (mid_quiet hok hf hM ho hk hdeps hp hE (Ext.refl w) hd)
      · have hargs := evs_ok hM.tm args.toList
        have e2 : (args.toList.map a.eval).toArray = args.map a.eval := by apply Array.toList_inj.1; simp
        have hmemA : ∀ x ∈ args.toList, x ∈ o.op.operands.toList := fun x hx => by rw [hop]; simp only [Op.operands, Call.operands, Array.toList_append, List.mem_append]; exact .inr hx
        have hmemF : f ∈ o.op.operands.toList := by rw [hop]; simp [Op.operands, Call.operands]
        rw [ev_map_congr (tm' := foldT ops d.E st.H.length p st.tm ops.size) fun x hx => hev x (hmemA x hx)] at hpx
        rw [hev f hmemF] at hcal
        obtain ⟨fs, cs, hfv, hfi, hca⟩ := callee_ok hcal (ev_ok hM.tm f)
        rw [semAt_eq (by intro c hc; rw [hop] at hc; cases hc)]
        have henter : ∀ (as : Array Value) (w : World), (callFunc g as).run cfg.P w = .ok (.enter g as) w := fun as w => by
          simp only [callFunc, Sem.run_bind, run_program, Result.andThen_ok, hfn, hn, hb, Bool.false_eq_true, if_false, Sem.run_pure]
        have hr : (execOp a.eval o).run cfg.P w = .ok (.enter g (fs ++ args.map a.eval ++ cs)) w := by
          simp [execOp, hop, resolve, hfv, Deferred.ofValue, invoke, henter]
        rw [hr]
        have hHS : heapS st.H (padOf ops) d.E d.sto p = st.H ++ (List.range (padOf ops)).map (itemA d.E p) := by
          rw [heapS_eq]
          cases hs : d.sto with
          | none => rfl
          | some y =>
            obtain ⟨s, b', c'⟩ := y
            have := hos
            simp only [okS, hs, Bool.and_eq_true, List.all_eq_true] at this
            have := this.1.2 k hcl
            have hps : ¬ p s = true := fun h => by rw [hM.closed.edge this h] at hk; cases hk
            simp only [hps, Bool.false_eq_true, if_false]; rfl
        have hm := hM.models
        rw [hHS] at hm
        have hcall := hpc g pc hpcg _ _ _ φ x e Fr w _ hpx hφ ((hfi.append hargs).append hca) hm
        have e3 : (fs.toList ++ args.toList.map a.eval ++ cs.toList).toArray = fs ++ args.map a.eval ++ cs := by apply Array.toList_inj.1; simp
        rw [e3] at hcall
        refine ⟨(fun hc => by cases hc), (calls_FF hcall).mono fun en w' he => ?_⟩
        obtain ⟨v, rfl, hd, hext⟩ := he
        exact hK e _ _ (mid_quiet hok hf hM ho hk hdeps hp hE hext hd)
    | al b =>
      obtain ⟨hkp, hal, hcase⟩ := hef
      rcases hcase with ⟨Ty, z, hop, hz, rfl⟩ | ⟨Ty, y, l, hop, hl, rfl⟩
      · rw [semAt_eq (by intro c hc; rw [hop] at hc; cases hc)]
        have hr : (execOp a.eval o).run cfg.P w = .ok (.value (.pointer (some ⟨w.heap.size, 0, none⟩))) { w with heap := w.heap.push (.cells z.cells.toList.toArray Ty) } := by
          simp [execOp, hop, Instr.alloc, run_zeroT hz, newVar, newRow]
        rw [hr]
        exact hK _ _ _ (mid_alloc hok hos hf hM ho hk hdeps hp hE hal hkp (DenL.plain z.cells.toList))
      · rw [semAt_eq (by intro c hc; rw [hop] at hc; cases hc)]
        have hmem : y ∈ o.op.operands.toList := by rw [hop]; simp [Op.operands]
        rw [hev y hmem] at hl
        have hcd := cellsV_ok hl (ev_ok hM.tm y)
        have hr : (execOp a.eval o).run cfg.P w = .ok (.value (.pointer (some ⟨w.heap.size, 0, none⟩))) { w with heap := w.heap.push (.cells (a.eval y).cells.toList.toArray Ty) } := by
          simp [execOp, hop, Instr.box, newVar, newRow]
        rw [hr]
        exact hK _ _ _ (mid_alloc hok hos hf hM ho hk hdeps hp hE hal hkp hcd)
    | st b c =>
      obtain ⟨hs, Ty, oa, ox, off, l, T', cs, n, hop, ha, hb, hc, hn, hcond, rfl⟩ := hef
      have hmA : oa ∈ o.op.operands.toList := by rw [hop]; simp [Op.operands]
      have hmX : ox ∈ o.op.operands.toList := by rw [hop]; simp [Op.operands]
      rw [hev oa hmA] at ha
      rw [hev ox hmX] at hc
      have hcur : (heapS st.H (padOf ops) d.E d.sto p)[b]? = some (.cells l T') := by
        rw [heapS_eq, hs]
        simp only [hk, Bool.false_eq_true, if_false]
        rw [heapS_eq] at hb
        simp only at hb
        by_cases hlt : b < st.H.length
        · rw [heapA_low hlt] at hb ⊢; exact hb
        · obtain ⟨j, rfl⟩ : ∃ j, b = st.H.length + j := ⟨b - st.H.length, by omega⟩
          by_cases hj : j < padOf ops
          · rw [heapA_high hj] at hb ⊢
            -- an item of the region's own: its maker has been carried out
            have hjk : j < k := by
              rcases Nat.lt_or_ge j k with h | h
              · exact h
              · simp only [itemA] at hb; rw [List.getElem?_eq_none (by simp; omega)] at hb; simp at hb
            simp only [itemA, List.getElem?_take_of_lt hjk] at hb ⊢
            cases hEj : d.E[j]? with
            | none => rw [hEj] at hb; simp at hb
            | some ef2 =>
              rw [hEj] at hb
              simp only [Option.some.injEq] at hb
              cases ef2 with
              | q x => simp [Ef.nb] at hb
              | st b2 c2 => simp [Ef.nb] at hb
              | si b2 c2 x2 => simp [Ef.nb] at hb
              | al b2 =>
                simp only [Ef.nb] at hb
                subst hb
                have hoj : ops[j]? = some ops[j] := by simp [show j < ops.size by omega]
                obtain ⟨ef3, b3, g1, _, _, g4⟩ := hf.step j _ (by omega) hoj
                rw [hEj] at g1; cases g1
                rcases g4 with ⟨_, g4⟩ | ⟨_, g4⟩
                · cases g4
                · have hjal := g4.2.1
                  have := hos
                  simp only [okS, hs, Bool.and_eq_true, List.all_eq_true] at this
                  have := this.2 j hjal
                  simp only [Bool.or_eq_true, Bool.not_eq_true'] at this
                  rcases this with h | h
                  · obtain ⟨o', ed, ho', h1, h2, h3⟩ := edge_dep h
                    rw [ho] at ho'; cases ho'
                    have hpj := hdeps ed h1 h2
                    rw [h3] at hpj
                    rw [hpj]; rfl
                  · have h2 : Nat.beq (st.H.length + j) (st.H.length + j) = true := by rw [Nat.beq_eq]
                    rw [h2] at h; cases h
          · rw [List.getElem?_eq_none (by rw [heapA_length]; omega)] at hb; cases hb
      have hA : stepA cfg.P o.op (foldT ops d.E st.H.length p st.tm ops.size) (heapS st.H (padOf ops) d.E d.sto p) = some (.v undef, (heapS st.H (padOf ops) d.E d.sto p).set b (.cells (setAll l off cs) T')) := by
        rw [hop]; simp only [stepA, ha, hcur, hc, hn, hcond]
      obtain ⟨nx, v, w', e', hr, hnx, hle, hm, hd, hee⟩ := stepA_ok (o := o) hM.models hM.tm hA
      have hee := hee (by simp)
      subst hee
      rw [semAt_eq (notDefer_A hA), hr]
      simp only [Den] at hd
      subst hd
      have hmid : Mid I e0 Fr D st ops d (padOf ops) p' e' (a.put o.dst undef) w' := mid_store hok hf hM ho hk hdeps hp hE rfl (by simp [Ef.val, Den]) hs hm
      have := hK e' _ _ hmid
      rcases hnx with rfl | ⟨rfl, _⟩
      · exact this
      · exact this
    | si b c x =>
      obtain ⟨hs, q, H', hb, hst, hq, hc⟩ := hef
      obtain ⟨args, ats, hop⟩ : ∃ args ats, o.op = .call { callee := .builtin .copy, args := args, argTypes := ats } := by
        unfold copyTo at hb
        split at hb
        · rename_i args ats hop; exact ⟨args, ats, hop⟩
        · cases hb
      have hmem : ∀ x ∈ args.toList, x ∈ o.op.operands.toList := fun x hx => by rw [hop]; simp only [Op.operands, Call.operands, Array.toList_append, List.mem_append]; exact .inr hx
      have hmap := ev_map_congr (tm' := foldT ops d.E st.H.length p st.tm ops.size) fun x hx => hev x (hmem x hx)
      have hlow : ∀ i it, st.H[i]? = some it → (heapS st.H (padOf ops) d.E d.sto p)[i]? = some it := fun i it hi => by
        rw [heapS_eq, hs]
        simp only [hk, Bool.false_eq_true, if_false]
        rw [heapA_low (List.getElem?_eq_some_iff.1 hi).1]; exact hi
      rw [hop] at hb hst
      simp only [copyTo, hmap] at hb
      simp only [stepI, hmap] at hst
      have hI : stepI cfg.P o.op (foldT ops d.E st.H.length p st.tm ops.size) (heapS st.H (padOf ops) d.E d.sto p) = some (q, x, (heapS st.H (padOf ops) d.E d.sto p).set b c) := by
        rw [hop]
        simp only [stepI]
        split at hst
        · rename_i D D' b1 o1 l1 c1 b2 o2 l2 c2 hats hargs
          rw [hargs] at hb
          simp only [Option.some.injEq] at hb
          subst hb
          split at hst
          · rename_i el hu
            split at hst
            · rename_i k1 xs n1 T1 k2 ys n2 T2 hsz hb1 hb2
              split at hst
              · rename_i hkk
                simp only [Option.some.injEq, Prod.mk.injEq] at hst
                obtain ⟨rfl, rfl, rfl⟩ := hst
                have hlt : b1 < st.H.length := (List.getElem?_eq_some_iff.1 hb1).1
                simp [hlt] at hc
                subst hc
                simp [hats, hargs, hu, hsz, hlow _ _ hb1, hlow _ _ hb2, hkk]
              · cases hst
            · cases hst
          · cases hst
        · cases hst
      obtain ⟨nx, v, w', e', hr, hnx, hle, hm, hd, hee⟩ := stepI_ok (o := o) hM.models hM.tm hI hq
      have hee := hee (by simp)
      subst hee
      rw [semAt_eq (notDefer_I hI), hr]
      have hmid : Mid I e0 Fr D st ops d (padOf ops) p' e' (a.put o.dst v) w' := mid_store hok hf hM ho hk hdeps hp hE rfl hd hs hm
      have := hK e' _ _ hmid
      rcases hnx with rfl | ⟨rfl, rfl⟩
      · exact this
      · exact this
theorem draw_any {cfg : Cfg τ} (hpc : ∀ g pc, cfg.pcon g = some pc → PConOk I cfg.P g pc) {ops : Array Oper} {st : St τ} {d : DSt τ} {T : Nat → List SV} {e0 : Env} {Fr : PH} {r : Option Nat}
    {Q : Exit → Act → World → Prop} (hok : okD ops = true) (hos : okS st.H ops d = true) (hf : Facts cfg st.H (padOf ops) ops st.tm ops.size d T)
    (hfin : ∀ e a w, Le e0 e → StOk I e Fr D { st with tm := d.tm, H := heapS st.H (padOf ops) d.E d.sto (fun _ => true) } a w → Q .normal a w) :
    ∀ (fuel : Nat) (listed : Array Bool) (e : Env) (a : Act) (w : World), listed.size = ops.size → left ops.size (fun k => listed.getD k false) ≤ fuel →
      Mid I e0 Fr D st ops d (padOf ops) (fun k => listed.getD k false) e a w → wpAnyIn (FF r) 0 cfg.P .any ops Q fuel listed a w := by
  -- when nothing may come up, all has been carried out
  have hall : ∀ (listed : Array Bool), listed.size = ops.size → Region.ready .any ops listed = [] → ∀ k, k < ops.size → listed.getD k false = true := by
    intro listed hsz hr k
    induction k using Nat.strongRecOn with
    | _ k ih =>
      intro hk
      cases hb : listed.getD k false with
      | true => rfl
      | false =>
        have : k ∈ Region.ready .any ops listed := by
          rw [mem_ready]
          refine ⟨?_, ops[k], by simp [hk], fun ed hed hbd => ?_⟩
          · have h1 : listed[k]? = some listed[k] := by simp [show k < listed.size by omega]
            simp only [Array.getD_eq_getD_getElem?, h1, Option.getD_some] at hb ⊢
            exact hb
          · have := okD_edges hok (k := k) (o := ops[k]) (by simp [hk]) ed (by simpa using hed) hbd
            exact ih ed.on this (by omega)
        rw [hr] at this; cases this
  have hend : ∀ (listed : Array Bool) (e : Env) (a : Act) (w : World), listed.size = ops.size → Region.ready .any ops listed = [] →
      Mid I e0 Fr D st ops d (padOf ops) (fun k => listed.getD k false) e a w → Q .normal a w := by
    intro listed e a w hsz hr hM
    have ha := hall listed hsz hr
    refine hfin e a w hM.le ⟨?_, ?_, hM.df⟩
    · have hS : heapS st.H (padOf ops) d.E d.sto (fun k => listed.getD k false) = heapS st.H (padOf ops) d.E d.sto (fun _ => true) := by
        have hA : heapA st.H (padOf ops) d.E (fun k => listed.getD k false) = heapA st.H (padOf ops) d.E (fun _ => true) := by
          unfold heapA
          congr 1
          refine List.map_congr_left fun k hk => ?_
          have hk' : k < padOf ops := List.mem_range.1 hk
          have hpo : padOf ops ≤ ops.size := by unfold padOf; split <;> simp
          simp only [itemA, ha k (by omega)]
        rw [heapS_eq, heapS_eq, hA]
        cases hs : d.sto with
        | none => rfl
        | some y =>
          obtain ⟨s, b, c⟩ := y
          have := (hf.sto s b c hs).1
          simp only [ha s this]
      rw [← hS]; exact hM.models
    · have hT : foldT ops d.E st.H.length (fun k => listed.getD k false) st.tm ops.size = d.tm := by
        rw [← hf.stop, facts_T hf (Nat.le_refl _) ops.size (Nat.le_refl _)]
        refine List.ext_getElem? fun t => foldT_slot _ fun j oj hj _ _ => ?_
        simp only [ha j hj]
      rw [← hT]; exact hM.tm
  intro fuel
  induction fuel with
  | zero =>
    intro listed e a w hsz hl hM
    have hr : Region.ready .any ops listed = [] := by
      cases hr : Region.ready .any ops listed with
      | nil => rfl
      | cons i is =>
        have hi : i ∈ Region.ready .any ops listed := by rw [hr]; exact List.mem_cons_self
        rw [mem_ready] at hi
        obtain ⟨h0, o, ho, _⟩ := hi
        have hin : i < ops.size := (Array.getElem?_eq_some_iff.1 ho).1
        have h1 : listed[i]? = some listed[i] := by simp [show i < listed.size by omega]
        have h2 : listed.getD i false = false := by
          simp only [Array.getD_eq_getD_getElem?, h1, Option.getD_some] at h0 ⊢
          exact h0
        have : i ∈ (List.range ops.size).filter fun k => !listed.getD k false := by
          rw [List.mem_filter]; exact ⟨List.mem_range.2 hin, by simp [h2]⟩
        have hpos := List.length_pos_of_mem this
        exact absurd (Nat.lt_of_lt_of_le hpos hl) (Nat.lt_irrefl 0)
    exact ⟨hr, hend listed e a w hsz hr hM⟩
  | succ fuel ih =>
    intro listed e a w hsz hl hM
    refine ⟨fun hr => hend listed e a w hsz hr hM, fun i hi => ?_⟩
    rw [mem_ready] at hi
    obtain ⟨h0, o, ho, hdeps⟩ := hi
    have hin : i < ops.size := (Array.getElem?_eq_some_iff.1 ho).1
    have h1 : listed[i]? = some listed[i] := by simp [show i < listed.size by omega]
    have h2 : listed.getD i false = false := by
      simp only [Array.getD_eq_getD_getElem?, h1, Option.getD_some] at h0 ⊢
      exact h0
    have hp : ∀ j, (listed.setIfInBounds i true).getD j false = (listed.getD j false || Nat.beq j i) := by
      intro j
      by_cases hji : j = i
      · subst hji
        have e1 : Nat.beq j j = true := by rw [Nat.beq_eq]
        rw [e1, Bool.or_true]
        simp [show j < listed.size by omega]
      · have e1 : Nat.beq j i = false := by
          cases hq : Nat.beq j i with
          | false => rfl
          | true => rw [Nat.beq_eq] at hq; exact absurd hq hji
        rw [e1, Bool.or_false, getD_set_ne false (fun e => hji e.symm)]
    refine draw_step hpc (p' := fun k => (listed.setIfInBounds i true).getD k false) hok hos hf hM ho h2 (fun ed hed hb => hdeps ed (by simpa using hed) hb) hp fun e' a' w' hM' => ?_
    refine ih _ e' a' w' (by simpa using hsz) ?_ hM'
    have : left ops.size (fun k => (listed.setIfInBounds i true).getD k false) < left ops.size (fun k => listed.getD k false) := by
      refine filter_lt (y := i) (fun x _ hx => ?_) (List.mem_range.2 hin) (by simp [h2]) (by show (!(listed.setIfInBounds i true).getD i false) = false; rw [hp]; simp)
      have hx : (!(listed.setIfInBounds i true).getD x false) = true := hx
      rw [hp] at hx
      show (!listed.getD x false) = true
      cases hq : listed.getD x false with
      | false => simp
      | true => rw [hq] at hx; simp at hx
    omega
theorem draw_ok {cfg : Cfg τ} (hmix : cfg.P.follows .mixedOrders = true) (hpc : ∀ g pc, cfg.pcon g = some pc → PConOk I cfg.P g pc) {id : Nat} {ops : Array Oper} {st : St τ} {K : St τ → Prop} {e : Env} {Fr : PH} {a : Act} {w : World} {r : Option Nat}
    {Q : Exit → Act → World → Prop} (h : drawK cfg ops st K) (hok : StOk I e Fr D st a w) (hnext : NextOk (D := D) I e Fr st K (Q .normal)) : (Code.region id ops true).wpIn (FF r) 0 cfg.P Q a w := by
  unfold drawK at h
  split at h
  · rename_i hD
    obtain ⟨d, T, hf, hK⟩ := drawGo_facts (tm0 := st.tm) ops.toList 0 _ (fun _ => st.tm) (by intro i; simp) (by simp) ⟨rfl, rfl, rfl, fun j o hj => by omega, fun s b c hs => by cases hs⟩ h
    split at hK
    · rename_i hos
      refine wpIn_region_any hmix (draw_any (e0 := e) (Fr := Fr) hpc hD hos hf (fun e' a' w' hle hst => hnext e' { st with tm := d.tm, H := heapS st.H (padOf ops) d.E d.sto (fun _ => true) } a' w' (LeB.of_le hle) rfl rfl hst hK) _ _ e a _ (by simp) (by unfold left; exact Nat.le_trans (List.length_filter_le _ _) (by simp)) ?_)
      have hp : (fun k => (Array.replicate ops.size false).getD k false) = fun _ => false := by
        funext k
        by_cases hk : k < ops.size <;> simp [hk]
      rw [hp]
      have hT : ∀ m, foldT ops d.E st.H.length (fun _ => false) st.tm m = st.tm := by
        intro m
        induction m with
        | zero => rfl
        | succ m ih => simp only [foldT, ih]
      have hS : heapS st.H (padOf ops) d.E d.sto (fun _ => false) = st.H ++ (List.range (padOf ops)).map (itemA d.E fun _ => false) := by
        rw [heapS_eq]
        cases d.sto with
        | none => rfl
        | some y => obtain ⟨s, b, c⟩ := y; simp [heapA]
      refine ⟨Le.refl e, ?_, by rw [hT]; exact hok.tm, hok.df, (fun k o _ hk => by cases hk), fun k hk _ => ?_⟩
      · rw [hS]
        have := hok.models.heap (w' := { w with drawn := w.drawn + 1 }) rfl ⟨rfl, rfl⟩
        refine this.pad fun b hb => ?_
        obtain ⟨k, _, rfl⟩ := List.mem_map.1 hb
        exact itemA_off rfl
      · obtain ⟨_, hs, _, h2, _⟩ := hok.models
        exact (h2 _ (by omega)).1
    · exact hK.elim
  · exact h.elim
end Go.Sym
namespace Go.Sym
open Go
variable {τ : Type} {I : Inv τ} {D : List Deferred}
structure SSt (τ : Type) where
  tm : List SV
  H : List (SB τ)
  E : List SV
  HS : List (List (SB τ))
  fx : List (Nat × List Nat)
  rd : List (Nat × Nat)
def SSt.quiet (d : SSt τ) (op : Op) (dst : Option Tmp) (x : SV) : SSt τ :=
  { d with tm := putS dst x d.tm, E := d.E ++ [x], HS := d.HS ++ [d.H], rd := match touch op d.tm with
      | some b => (d.E.length, b) :: d.rd
      | none => d.rd }
def SSt.loud (d : SSt τ) (dst : Option Tmp) (x : SV) (H' : List (SB τ)) (ws : List Nat) : SSt τ :=
  { d with tm := putS dst x d.tm, H := H', E := d.E ++ [x], HS := d.HS ++ [d.H], fx := (d.E.length, ws) :: d.fx }
def SSt.skip (d : SSt τ) (dst : Option Tmp) : SSt τ :=
  { d with tm := putS dst (.v undef) d.tm, E := d.E ++ [.v undef], HS := d.HS ++ [d.H] }
structure Fz where
  j : Nat
  s : Nat
  t : Tmp
  T : TypeId
def SSt.quietA (d : SSt τ) (dst : Option Tmp) : SSt τ := { d with tm := putS dst .any d.tm, E := d.E ++ [.any], HS := d.HS ++ [d.H] }
structure NoF (F : List Fz) (k : Nat) : Prop where
  h : ∀ q ∈ F, q.j ≠ k ∧ q.s ≠ k
def pathB (ops : Array Oper) : Nat → Nat → Nat → Bool
  | 0, _, _ => false
  | n + 1, k, j => match ops[k]? with
    | some o => o.after.toList.any fun e => Region.binds .any e && (Nat.beq e.on j || pathB ops n e.on j)
    | none => false
def chainB (ops : Array Oper) : List (Nat × List Nat) → Bool
  | [] => true
  | [_] => true
  | a :: b :: r => pathB ops ops.size a.1 b.1 && chainB ops (b :: r)
def eqB (b b' : SB τ) : Prop :=
  match b with
  | .rows R T TS oe ep pd => match b' with
    | .rows R' T' TS' oe' ep' pd' => rq (Nat.beq T T' && Nat.beq TS TS' && pd.isNone && pd'.isNone) (oe = oe' ∧ ep = ep' ∧ (match R with
      | .i k l => match R' with
        | .i k' l' => rq (decide (k = k')) (l = l')
        | _ => False
      | .c l => match R' with
        | .c l' => l = l'
        | _ => False))
    | _ => False
  | .own c n T sz ep nn => match b' with
    | .own c' n' T' sz' ep' nn' => rq (Nat.beq T T' && Nat.beq sz sz' && (nn == nn')) (n = n' ∧ ep = ep' ∧ (match c with
      | .ints k l => match c' with
        | .ints k' l' => rq (decide (k = k')) (l = l')
        | _ => False
      | .recs l => match c' with
        | .recs l' => l = l'
        | _ => False
      | .sv _ => False))
    | _ => False
  | .cells l T => match b' with
    | .cells l' T' => rq (Nat.beq T T') (l = l')
    | _ => False
  | _ => False
theorem eqB_ok {b b' : SB τ} (h : eqB b b') : b = b' := by
  cases b with
  | rows R T TS oe ep pd =>
    cases b' with
    | rows R' T' TS' oe' ep' pd' =>
      simp only [eqB] at h
      obtain ⟨h1, rfl, rfl, h2⟩ := rq_elim h
      simp only [Bool.and_eq_true, Nat.beq_eq, Option.isNone_iff_eq_none] at h1
      obtain ⟨⟨⟨rfl, rfl⟩, rfl⟩, rfl⟩ := h1
      cases R with
      | i k l => cases R' with
        | i k' l' =>
          obtain ⟨h3, rfl⟩ := rq_elim h2
          have := of_decide_eq_true h3
          subst this; rfl
        | c l' => exact h2.elim
      | c l => cases R' with
        | i k' l' => exact h2.elim
        | c l' => have h2 : l = l' := h2; subst h2; rfl
    | _ => exact h.elim
  | own c n T sz ep nn =>
    cases b' with
    | own c' n' T' sz' ep' nn' =>
      simp only [eqB] at h
      obtain ⟨h1, rfl, rfl, h2⟩ := rq_elim h
      simp only [Bool.and_eq_true, Nat.beq_eq, beq_iff_eq] at h1
      obtain ⟨⟨rfl, rfl⟩, rfl⟩ := h1
      cases c with
      | ints k l => cases c' with
        | ints k' l' =>
          obtain ⟨h3, rfl⟩ := rq_elim h2
          have := of_decide_eq_true h3
          subst this; rfl
        | _ => exact h2.elim
      | recs l => cases c' with
        | recs l' => have h2 : l = l' := h2; subst h2; rfl
        | _ => exact h2.elim
      | sv l => exact h2.elim
    | _ => exact h.elim
  | cells l T =>
    cases b' with
    | cells l' T' =>
      simp only [eqB] at h
      obtain ⟨h1, rfl⟩ := rq_elim h
      rw [Nat.beq_eq] at h1
      subst h1; rfl
    | _ => exact h.elim
  | _ => exact h.elim
def looksF (ops : Array Oper) (HS : List (List (SB τ))) (He : List (SB τ)) (r : Nat × Nat) : List (Nat × List Nat) → Prop → Prop
  | [], K => K
  | f :: fs, K => match Nat.blt f.1 r.1 with
    | true => match pathB ops ops.size r.1 f.1 || (!hasN f.2 r.2 && Nat.blt r.2 (HS.getD f.1 []).length) with
      | true => looksF ops HS He r fs K
      | false => match (HS.getD (f.1 + 1) He)[r.2]?, (HS.getD f.1 [])[r.2]? with
        | some x, some y => eqB x y ∧ looksF ops HS He r fs K
        | _, _ => False
    | false => match pathB ops ops.size f.1 r.1 || !hasN f.2 r.2 with
      | true => looksF ops HS He r fs K
      | false => match (HS.getD (f.1 + 1) He)[r.2]?, (HS.getD f.1 [])[r.2]? with
        | some x, some y => eqB x y ∧ looksF ops HS He r fs K
        | _, _ => False
def looksQ (ops : Array Oper) (HS : List (List (SB τ))) (He : List (SB τ)) (fx : List (Nat × List Nat)) : List (Nat × Nat) → Prop → Prop
  | [], K => K
  | r :: rs, K => looksF ops HS He r fx (looksQ ops HS He fx rs K)
def LookAt (ops : Array Oper) (HS : List (List (SB τ))) (He : List (SB τ)) (r : Nat × Nat) (f : Nat × List Nat) : Prop :=
  (f.1 < r.1 → pathB ops ops.size r.1 f.1 = true ∨ (hasN f.2 r.2 = false ∧ r.2 < (HS.getD f.1 []).length) ∨ ((HS.getD (f.1 + 1) He)[r.2]? = (HS.getD f.1 [])[r.2]? ∧ r.2 < (HS.getD f.1 []).length)) ∧
  (¬ f.1 < r.1 → pathB ops ops.size f.1 r.1 = true ∨ hasN f.2 r.2 = false ∨ (HS.getD (f.1 + 1) He)[r.2]? = (HS.getD f.1 [])[r.2]?)
structure LookOk (ops : Array Oper) (HS : List (List (SB τ))) (He : List (SB τ)) (fx : List (Nat × List Nat)) (rd : List (Nat × Nat)) : Prop where
  h : ∀ r ∈ rd, ∀ f ∈ fx, LookAt ops HS He r f
theorem looksF_ok {ops : Array Oper} {HS : List (List (SB τ))} {He : List (SB τ)} {r : Nat × Nat} : ∀ {fx : List (Nat × List Nat)} {K : Prop}, looksF ops HS He r fx K → K ∧ ∀ f ∈ fx, LookAt ops HS He r f
  | [], _, h => ⟨h, by simp⟩
  | f :: fs, K, h => by
    have fin : looksF ops HS He r fs K → LookAt ops HS He r f → K ∧ ∀ g ∈ f :: fs, LookAt ops HS He r g := fun h1 h2 => by
      obtain ⟨h3, h4⟩ := looksF_ok h1
      refine ⟨h3, fun g hg => ?_⟩
      rcases List.mem_cons.1 hg with rfl | hg
      · exact h2
      · exact h4 g hg
    unfold looksF at h
    split at h
    · rename_i hb
      rw [Nat.blt_eq] at hb
      split at h
      · rename_i hc
        rw [Bool.or_eq_true, Bool.and_eq_true, Bool.not_eq_true', Nat.blt_eq] at hc
        exact fin h ⟨fun _ => hc.imp id .inl, fun hn => absurd hb hn⟩
      · split at h
        · rename_i x y hx hy
          refine fin h.2 ⟨fun _ => .inr (.inr ⟨?_, (List.getElem?_eq_some_iff.1 hy).1⟩), fun hn => absurd hb hn⟩
          rw [hx, hy, eqB_ok h.1]
        · exact h.elim
    · rename_i hb
      have hb : ¬ f.1 < r.1 := by rw [← Nat.blt_eq, hb]; simp
      split at h
      · rename_i hc
        rw [Bool.or_eq_true, Bool.not_eq_true'] at hc
        exact fin h ⟨fun hn => absurd hn hb, fun _ => hc.imp id .inl⟩
      · split at h
        · rename_i x y hx hy
          refine fin h.2 ⟨fun hn => absurd hn hb, fun _ => .inr (.inr ?_)⟩
          rw [hx, hy, eqB_ok h.1]
        · exact h.elim
theorem looksQ_ok {ops : Array Oper} {HS : List (List (SB τ))} {He : List (SB τ)} {fx : List (Nat × List Nat)} : ∀ {rd : List (Nat × Nat)} {K : Prop}, looksQ ops HS He fx rd K → K ∧ LookOk ops HS He fx rd
  | [], _, h => ⟨h, ⟨by simp⟩⟩
  | r :: rs, K, h => by
    unfold looksQ at h
    obtain ⟨h1, h2⟩ := looksF_ok h
    obtain ⟨h3, h4⟩ := looksQ_ok h1
    refine ⟨h3, ⟨fun r' hr => ?_⟩⟩
    rcases List.mem_cons.1 hr with rfl | hr
    · exact h2
    · exact h4.h r' hr
def callA (cfg : Cfg τ) (g : Nat) (args : List SV) (H : List (SB τ)) : Alt τ :=
  match cfg.pcon g with
  | some pc => match pc args H with
    | some (φ, x) => .ask φ (.one x H [])
    | none => .bad
  | none => match cfg.acon g with
    | some ac => ac args H
    | none => .bad
def opS (cfg : Cfg τ) (o : Oper) (d : SSt τ) (K : SSt τ → Prop) : Prop :=
  match o.op with
  | .pick c a b => match ev d.tm c with
    | .v (.bool q) => br q (K ({ d with tm := setB c true d.tm }.quiet o.op o.dst (ev (setB c true d.tm) a))) (K ({ d with tm := setB c false d.tm }.quiet o.op o.dst (ev (setB c false d.tm) b)))
    | _ => False
  | .call { callee := .value f, args, .. } => match calleeS (ev d.tm f) with
    | some (g, fi, ca) => match cfg.P.funcs[g]? with
      | some fn => match fn.name == "runtime.NumGoroutine", fn.body.isNone with
        | false, false => altK (callA cfg g (fi ++ args.toList.map (ev d.tm) ++ ca) d.H) (fun x H' ws => K (d.loud o.dst x H' ws))
        | _, _ => False
      | none => False
    | none => False
  | op => match stepV cfg.P op d.tm d.H with
    | some (c, x) => rq c (K (d.quiet op o.dst x))
    | none => match stepL cfg.P op d.tm d.H with
      | some (c, x, H', ws) => rq c (K (d.loud o.dst x H' ws))
      | none => False
def opF (cfg : Cfg τ) (F : List Fz) (o : Oper) (d : SSt τ) (K : SSt τ → Prop) : Prop :=
  match F with
  | [] => opS cfg o d K
  | q0 :: r => match (q0 :: r).find? (fun q => Nat.beq q.j d.E.length) with
    | some _ => match o.guard with
      | none => K (d.quietA o.dst)
      | some _ => False
    | none => match (q0 :: r).find? (fun q => Nat.beq q.s d.E.length) with
      | some q => match zeroT cfg.P q.T, stepV cfg.P o.op d.tm d.H with
        | some z, none => match stepL cfg.P o.op (d.tm.set q.t (.p d.H.length 0)) (d.H ++ [.cells (z.cells.toList.map .v) q.T]) with
          | some (c, _, H', ws) => rq c (K (d.loud o.dst (.p d.H.length 0) H' ws))
          | none => False
        | _, _ => False
      | none => opS cfg o d K
def seqGo (cfg : Cfg τ) (F : List Fz) (ops : Array Oper) : List Oper → SSt τ → (SSt τ → Prop) → Prop
  | [], d, K => K d
  | o :: rest, d, K => match o.guard with
    | none => opF cfg F o d (fun d' => seqGo cfg F ops rest d' K)
    | some (j, want) => match (ops[j]?).bind (·.dst) with
      | none => False
      | some t => match d.tm[t]? with
        | none => False
        | some x => match boolV x with
          | some none => seqGo cfg F ops rest (d.skip o.dst) K
          | some (some b) => match want with
            | true => br b (opF cfg F o { d with tm := d.tm.set t (.v (.bool true)) } (fun d' => seqGo cfg F ops rest d' K)) (seqGo cfg F ops rest ({ d with tm := d.tm.set t (.v (.bool false)) }.skip o.dst) K)
            | false => br b (seqGo cfg F ops rest ({ d with tm := d.tm.set t (.v (.bool true)) }.skip o.dst) K) (opF cfg F o { d with tm := d.tm.set t (.v (.bool false)) } (fun d' => seqGo cfg F ops rest d' K))
          | none => False
def pairsAt (ops : Array Oper) (s : Nat) (o : Oper) : Option Fz :=
  match o.op with
  | .store T a _ => match a with
    | .tmp t => match ops.toList.findIdx? (fun o' => match o'.op with
        | .alloc T' => Nat.beq T T' && (match o'.dst with
          | some t' => Nat.beq t t'
          | none => false)
        | _ => false) with
      | some j => match edgeB ops s j with
        | true => some ⟨j, s, t, T⟩
        | false => none
      | none => none
    | _ => none
  | _ => none
def pairsF (ops : Array Oper) : List Fz := ops.toList.zipIdx.filterMap fun (o, s) => pairsAt ops s o
def fzOp (F : List Fz) (k : Nat) (o : Oper) : Oper :=
  match F.find? (fun q => Nat.beq q.j k) with
  | some _ => { o with dst := none }
  | none => match F.find? (fun q => Nat.beq q.s k) with
    | some q => { o with dst := some q.t }
    | none => o
def fuseF (F : List Fz) (ops : Array Oper) : Array Oper := (ops.toList.zipIdx.map fun (o, k) => fzOp F k o).toArray
def okFz1 (F : List Fz) (ops ops' : Array Oper) (q : Fz) : Bool :=
  (match ops[q.j]? with
   | some o => (match o.op with
     | .alloc T' => Nat.beq q.T T'
     | _ => false) && (match o.dst with
     | some t => Nat.beq q.t t
     | none => false) && o.guard.isNone
   | none => false) &&
  (match ops[q.s]? with
   | some o => (match o.op with
     | .store T' a _ => Nat.beq q.T T' && (match a with
       | .tmp t => Nat.beq q.t t
       | _ => false)
     | _ => false) && o.dst.isNone && o.guard.isNone
   | none => false) && edgeB ops q.s q.j &&
  (ops'.toList.zipIdx.all fun (o, k) => Nat.beq k q.s || !(o.looksAt ops').contains q.t || edgeB ops' k q.s) &&
  (ops.toList.all fun o => match o.guard with
    | some (j, _) => !Nat.beq q.j j && !Nat.beq q.s j
    | none => true) &&
  (F.all fun q' => !Nat.beq q.j q'.s && (!(Nat.beq q.j q'.j || Nat.beq q.s q'.s || Nat.beq q.t q'.t) || (Nat.beq q.j q'.j && Nat.beq q.s q'.s && Nat.beq q.t q'.t && Nat.beq q.T q'.T)))
def okFz (F : List Fz) (ops ops' : Array Oper) : Bool := F.all (okFz1 F ops ops')
def seqF (cfg : Cfg τ) (F : List Fz) (ops ops' : Array Oper) (st : St τ) (K : St τ → Prop) : Prop :=
  match okD ops' && okFz F ops ops' with
  | true => match F.all (fun q => Nat.blt q.t st.tm.length) with
   | false => False
   | true => seqGo cfg F ops' ops'.toList { tm := st.tm, H := st.H, E := [], HS := [], fx := [], rd := [] } (fun d =>
    match chainB ops' d.fx with
    | true => looksQ ops' d.HS d.H d.fx d.rd (K { st with tm := d.tm, H := d.H })
    | false => False)
  | false => False
def seqK (cfg : Cfg τ) (ops : Array Oper) (st : St τ) (K : St τ → Prop) : Prop :=
  match okD ops with
  | true => seqGo cfg [] ops ops.toList { tm := st.tm, H := st.H, E := [], HS := [], fx := [], rd := [] } (fun d =>
    match chainB ops d.fx with
    | true => looksQ ops d.HS d.H d.fx d.rd (K { st with tm := d.tm, H := d.H })
    | false => seqF cfg (pairsF ops) ops (fuseF (pairsF ops) ops) st K)
  | false => False
def SQ (cfg : Cfg τ) (F : List Fz) (k : Nat) (o : Oper) (tm : List SV) (H : List (SB τ)) (x : SV) : Prop := NoF F k ∧ ∃ c, stepV cfg.P o.op tm H = some (c, x) ∧ c = true
def SNew (cfg : Cfg τ) (F : List Fz) (k : Nat) (o : Oper) (tm : List SV) (H : List (SB τ)) (x : SV) (H' : List (SB τ)) (ws : List Nat) : Prop :=
  stepV cfg.P o.op tm H = none ∧ (∀ q ∈ F, q.j ≠ k) ∧ x = .p H.length 0 ∧ ∃ q ∈ F, q.s = k ∧ ∃ z c y, zeroT cfg.P q.T = some z ∧ stepL cfg.P o.op (tm.set q.t (.p H.length 0)) (H ++ [.cells (z.cells.toList.map .v) q.T]) = some (c, y, H', ws) ∧ c = true
def SLd (cfg : Cfg τ) (F : List Fz) (k : Nat) (o : Oper) (tm : List SV) (H : List (SB τ)) (x : SV) (H' : List (SB τ)) (ws : List Nat) : Prop :=
  SNew cfg F k o tm H x H' ws ∨
  (NoF F k ∧ stepV cfg.P o.op tm H = none ∧ ∃ c, stepL cfg.P o.op tm H = some (c, x, H', ws) ∧ c = true) ∨
  (NoF F k ∧ ∃ f args ats g fi ca fn, o.op = .call { callee := .value f, args := args, argTypes := ats } ∧ calleeS (ev tm f) = some (g, fi, ca) ∧ cfg.P.funcs[g]? = some fn ∧ (fn.name == "runtime.NumGoroutine") = false ∧ fn.body.isNone = false ∧
    (callA cfg g (fi ++ args.toList.map (ev tm) ++ ca) H).pre ∧ (callA cfg g (fi ++ args.toList.map (ev tm) ++ ca) H).has x H' ws)
theorem SLd.none {cfg : Cfg τ} {F : List Fz} {k : Nat} {o : Oper} {tm : List SV} {H H' : List (SB τ)} {x : SV} {ws : List Nat} (h : SLd cfg F k o tm H x H' ws) : stepV cfg.P o.op tm H = none := by
  rcases h with h | ⟨_, h, _⟩ | ⟨_, f, args, ats, g, fi, ca, fn, hop, _⟩
  · exact h.1
  · exact h
  · rw [hop]; rfl
structure SFacts (cfg : Cfg τ) (F : List Fz) (H0 : List (SB τ)) (ops : Array Oper) (tm0 : List SV) (k : Nat) (d : SSt τ) (T : Nat → List SV) (Hs : Nat → List (SB τ)) : Prop where
  len : d.E.length = k
  lenH : d.HS.length = k
  start : T 0 = tm0
  startH : Hs 0 = H0
  stop : T k = d.tm
  stopH : Hs k = d.H
  hist : ∀ j, j < k → d.HS[j]? = some (Hs j)
  step : ∀ j o, j < k → ops[j]? = some o → ∃ x b, d.E[j]? = some x ∧ T (j + 1) = putS o.dst x (T j) ∧ wantS ops o (T j) b ∧
    ((b = false ∧ x = .v undef ∧ Hs (j + 1) = Hs j) ∨ (b = true ∧ SQ cfg F j o (T j) (Hs j) x ∧ Hs (j + 1) = Hs j ∧ ∀ b, touch o.op (T j) = some b → (j, b) ∈ d.rd) ∨
      (b = true ∧ ∃ ws, SLd cfg F j o (T j) (Hs j) x (Hs (j + 1)) ws ∧ (j, ws) ∈ d.fx) ∨ (b = true ∧ x = .any ∧ Hs (j + 1) = Hs j ∧ ∃ q ∈ F, q.j = j))
  alo : ∀ f ∈ d.fx, ∀ q ∈ F, q.j ≠ f.1
  fxs : ∀ f ∈ d.fx, f.1 < k ∧ ∃ o, ops[f.1]? = some o ∧ wantS ops o (T f.1) true ∧ stepV cfg.P o.op (T f.1) (Hs f.1) = none
  srt : d.fx.Pairwise fun a b => b.1 < a.1
theorem SLd.noAl {cfg : Cfg τ} {F : List Fz} {k : Nat} {o : Oper} {tm : List SV} {H H' : List (SB τ)} {x : SV} {ws : List Nat} (h : SLd cfg F k o tm H x H' ws) : ∀ q ∈ F, q.j ≠ k := by
  rcases h with h | ⟨h, _⟩ | ⟨h, _⟩
  · exact h.2.1
  · exact fun q hq => (h.h q hq).1
  · exact fun q hq => (h.h q hq).1
theorem SFacts.snoc {cfg : Cfg τ} {F : List Fz} {H0 : List (SB τ)} {ops : Array Oper} {tm0 : List SV} {k : Nat} {d d' : SSt τ} {T : Nat → List SV} {Hs : Nat → List (SB τ)} {o : Oper} {x : SV} {b : Bool}
    (h : SFacts cfg F H0 ops tm0 k d T Hs) (ho : ops[k]? = some o) (hw : wantS ops o d.tm b) (hE : d'.E = d.E ++ [x]) (hHS : d'.HS = d.HS ++ [d.H]) (htm : d'.tm = putS o.dst x d.tm)
    (hrd : ∀ y ∈ d.rd, y ∈ d'.rd) (hfx' : d'.fx = d.fx ∨ (b = true ∧ (stepV cfg.P o.op d.tm d.H = none ∧ ∀ q ∈ F, q.j ≠ k) ∧ ∃ ws, d'.fx = (k, ws) :: d.fx))
    (hs : (b = false ∧ x = .v undef ∧ d'.H = d.H) ∨ (b = true ∧ SQ cfg F k o d.tm d.H x ∧ d'.H = d.H ∧ ∀ b, touch o.op d.tm = some b → (k, b) ∈ d'.rd) ∨ (b = true ∧ ∃ ws, SLd cfg F k o d.tm d.H x d'.H ws ∧ (k, ws) ∈ d'.fx) ∨ (b = true ∧ x = .any ∧ d'.H = d.H ∧ ∃ q ∈ F, q.j = k)) :
    SFacts cfg F H0 ops tm0 (k + 1) d' (fun j => if j ≤ k then T j else d'.tm) (fun j => if j ≤ k then Hs j else d'.H) := by
  have hlen := h.len
  have hlenH := h.lenH
  have hfx : ∀ y ∈ d.fx, y ∈ d'.fx := fun y hy => by
    rcases hfx' with e | ⟨_, _, _, e⟩
    · rw [e]; exact hy
    · rw [e]; exact List.mem_cons_of_mem _ hy
  refine ⟨by rw [hE]; simp [hlen], by rw [hHS]; simp [hlenH], by simp [h.start], by simp [h.startH], (by show (if k + 1 ≤ k then _ else _) = _; rw [if_neg (by omega)]), (by show (if k + 1 ≤ k then _ else _) = _; rw [if_neg (by omega)]), fun j hj => ?_, fun j oj hj hoj => ?_, fun f hf => ?_, fun f hf => ?_, ?_⟩
  · rw [hHS]
    simp only [show j ≤ k by omega, if_true]
    by_cases hjk : j = k
    · subst hjk; rw [← hlenH]; simp [h.stopH, hlenH]
    · rw [List.getElem?_append_left (by omega)]; exact h.hist j (by omega)
  · by_cases hjk : j = k
    · subst hjk
      rw [ho] at hoj; cases hoj
      refine ⟨x, b, by rw [hE, ← hlen]; simp, ?_, ?_, ?_⟩
      · show (if j + 1 ≤ j then _ else _) = putS o.dst _ (if j ≤ j then _ else _)
        rw [if_neg (by omega), if_pos (Nat.le_refl j), h.stop, htm]
      · simpa [h.stop] using hw
      · have e1 : (if j + 1 ≤ j then Hs (j + 1) else d'.H) = d'.H := if_neg (by omega)
        have e2 : (if j ≤ j then Hs j else d'.H) = d.H := by rw [if_pos (Nat.le_refl j), h.stopH]
        have e3 : (if j ≤ j then T j else d'.tm) = d.tm := by rw [if_pos (Nat.le_refl j), h.stop]
        simp only [e1, e2, e3]
        exact hs
    · have hlt : j < k := by omega
      obtain ⟨x', b', g1, g2, g3, g4⟩ := h.step j oj hlt hoj
      refine ⟨x', b', by rw [hE]; rw [List.getElem?_append_left (by omega)]; exact g1, ?_, ?_, ?_⟩
      · simp only [show j + 1 ≤ k by omega, show j ≤ k by omega, if_true]; exact g2
      · simp only [show j ≤ k by omega, if_true]; exact g3
      · simp only [show j + 1 ≤ k by omega, show j ≤ k by omega, if_true]
        rcases g4 with g4 | ⟨g4, g5, g6, g7⟩ | ⟨g4, ws, g5, g6⟩ | g4
        · exact .inl g4
        · exact .inr (.inl ⟨g4, g5, g6, fun b hb => hrd _ (g7 b hb)⟩)
        · exact .inr (.inr (.inl ⟨g4, ws, g5, hfx _ g6⟩))
        · exact .inr (.inr (.inr g4))
  · rcases hfx' with e | ⟨hb, hq, ws, e⟩
    · rw [e] at hf; exact h.alo f hf
    · rw [e] at hf
      rcases List.mem_cons.1 hf with rfl | hf
      · exact hq.2
      · exact h.alo f hf
  · have hold : f ∈ d.fx → f.1 < k + 1 ∧ ∃ o', ops[f.1]? = some o' ∧ wantS ops o' (if f.1 ≤ k then T f.1 else d'.tm) true ∧ stepV cfg.P o'.op (if f.1 ≤ k then T f.1 else d'.tm) (if f.1 ≤ k then Hs f.1 else d'.H) = none := fun hf => by
      obtain ⟨g1, o', g2, g3, g4⟩ := h.fxs f hf
      refine ⟨by omega, o', g2, ?_, ?_⟩
      · simp only [show f.1 ≤ k by omega, if_true]; exact g3
      · simp only [show f.1 ≤ k by omega, if_true]; exact g4
    rcases hfx' with e | ⟨hb, hq, ws, e⟩
    · rw [e] at hf; exact hold hf
    · rw [e] at hf
      rcases List.mem_cons.1 hf with rfl | hf
      · refine ⟨Nat.lt_succ_self k, o, ho, ?_, ?_⟩
        · simp only [Nat.le_refl, if_true]; rw [h.stop, ← hb]; exact hw
        · simp only [Nat.le_refl, if_true]; rw [h.stop, h.stopH]; exact hq.1
      · exact hold hf
  · rcases hfx' with e | ⟨_, _, _, e⟩
    · rw [e]; exact h.srt
    · rw [e]; exact List.pairwise_cons.2 ⟨fun y hy => (h.fxs y hy).1, h.srt⟩
theorem SFacts.quieted {cfg : Cfg τ} {F : List Fz} {H0 : List (SB τ)} {ops : Array Oper} {tm0 : List SV} {k : Nat} {d : SSt τ} {T : Nat → List SV} {Hs : Nat → List (SB τ)} {o : Oper} {x : SV}
    (h : SFacts cfg F H0 ops tm0 k d T Hs) (ho : ops[k]? = some o) (hw : wantS ops o d.tm true) (hs : SQ cfg F k o d.tm d.H x) :
    ∃ T' Hs', SFacts cfg F H0 ops tm0 (k + 1) (d.quiet o.op o.dst x) T' Hs' := by
  refine ⟨_, _, h.snoc (x := x) (b := true) ho hw rfl rfl rfl (fun y hy => ?_) (.inl rfl) (.inr (.inl ⟨rfl, hs, rfl, fun b hb => ?_⟩))⟩
  · unfold SSt.quiet; simp only; split
    · exact List.mem_cons_of_mem _ hy
    · exact hy
  · unfold SSt.quiet; simp only; rw [hb, h.len]; exact List.mem_cons_self
theorem SFacts.louded {cfg : Cfg τ} {F : List Fz} {H0 : List (SB τ)} {ops : Array Oper} {tm0 : List SV} {k : Nat} {d : SSt τ} {T : Nat → List SV} {Hs : Nat → List (SB τ)} {o : Oper} {x : SV} {H' : List (SB τ)} {ws : List Nat}
    (h : SFacts cfg F H0 ops tm0 k d T Hs) (ho : ops[k]? = some o) (hw : wantS ops o d.tm true) (hs : SLd cfg F k o d.tm d.H x H' ws) :
    ∃ T' Hs', SFacts cfg F H0 ops tm0 (k + 1) (d.loud o.dst x H' ws) T' Hs' := by
  have hk : (d.loud o.dst x H' ws).fx = (k, ws) :: d.fx := by unfold SSt.loud; simp only; rw [h.len]
  exact ⟨_, _, h.snoc (x := x) (b := true) ho hw rfl rfl rfl (fun y hy => hy) (.inr ⟨rfl, ⟨hs.none, hs.noAl⟩, ws, hk⟩) (.inr (.inr (.inl ⟨rfl, ws, hs, by rw [hk]; exact List.mem_cons_self⟩)))⟩
theorem SFacts.waited {cfg : Cfg τ} {F : List Fz} {H0 : List (SB τ)} {ops : Array Oper} {tm0 : List SV} {k : Nat} {d : SSt τ} {T : Nat → List SV} {Hs : Nat → List (SB τ)} {o : Oper} {q : Fz}
    (h : SFacts cfg F H0 ops tm0 k d T Hs) (ho : ops[k]? = some o) (hw : wantS ops o d.tm true) (hq : q ∈ F) (hk : q.j = k) :
    ∃ T' Hs', SFacts cfg F H0 ops tm0 (k + 1) (d.quietA o.dst) T' Hs' :=
  ⟨_, _, h.snoc (x := .any) (b := true) ho hw rfl rfl rfl (fun _ hy => hy) (.inl rfl) (.inr (.inr (.inr ⟨rfl, rfl, rfl, q, hq, hk⟩)))⟩
theorem SFacts.skipped {cfg : Cfg τ} {F : List Fz} {H0 : List (SB τ)} {ops : Array Oper} {tm0 : List SV} {k : Nat} {d : SSt τ} {T : Nat → List SV} {Hs : Nat → List (SB τ)} {o : Oper}
    (h : SFacts cfg F H0 ops tm0 k d T Hs) (ho : ops[k]? = some o) (hw : wantS ops o d.tm false) :
    ∃ T' Hs', SFacts cfg F H0 ops tm0 (k + 1) (d.skip o.dst) T' Hs' :=
  ⟨_, _, h.snoc (x := .v undef) (b := false) ho hw rfl rfl rfl (fun _ hy => hy) (.inl rfl) (.inl ⟨rfl, rfl, rfl⟩)⟩
theorem opS_facts {cfg : Cfg τ} {F : List Fz} {H0 : List (SB τ)} {ops : Array Oper} {tm0 : List SV} {k : Nat} {d : SSt τ} {T : Nat → List SV} {Hs : Nat → List (SB τ)} {o : Oper} {K : SSt τ → Prop}
    (h : SFacts cfg F H0 ops tm0 k d T Hs) (ho : ops[k]? = some o) (hw : wantS ops o d.tm true) (hn : NoF F k) (hd : opS cfg o d K) : ∃ d' T' Hs', SFacts cfg F H0 ops tm0 (k + 1) d' T' Hs' ∧ K d' := by
  unfold opS at hd
  split at hd
  · rename_i c a b hop
    split at hd
    · rename_i q hq
      have step : ∀ (bb : Bool) (y : Operand), q = bb → (y = if bb then a else b) → K ({ d with tm := setB c bb d.tm }.quiet o.op o.dst (ev (setB c bb d.tm) y)) → ∃ d' T' Hs', SFacts cfg F H0 ops tm0 (k + 1) d' T' Hs' ∧ K d' := by
        intro bb y hbb hy hK
        subst hbb
        have e := setB_eq hq
        rw [e] at hK
        obtain ⟨T', Hs', hf⟩ := h.quieted ho hw (x := ev d.tm y) ⟨hn, true, by rw [hop]; cases q <;> simp only [stepV, stepV0, hq] <;> simp [hy], rfl⟩
        exact ⟨_, T', Hs', hf, hK⟩
      rcases br_elim hd with ⟨hqt, hK⟩ | ⟨hqf, hK⟩
      · exact step true a hqt rfl hK
      · exact step false b hqf rfl hK
    · exact hd.elim
  · rename_i f args ats hop
    split at hd
    · rename_i g fi ca hcal
      split at hd
      · rename_i fn hfn
        split at hd
        · rename_i hnm hb
          obtain ⟨x, H', ws, hh, hK⟩ := altK_some hd
          obtain ⟨T', Hs', hf⟩ := h.louded ho hw (.inr (.inr ⟨hn, f, args, ats, g, fi, ca, fn, hop, hcal, hfn, hnm, hb, altK_pre hd, hh⟩))
          exact ⟨_, T', Hs', hf, hK⟩
        · exact hd.elim
      · exact hd.elim
    · exact hd.elim
  · split at hd
    · rename_i c x hv
      obtain ⟨hc, hK⟩ := rq_elim hd
      obtain ⟨T', Hs', hf⟩ := h.quieted ho hw (x := x) ⟨hn, c, hv, hc⟩
      exact ⟨_, T', Hs', hf, hK⟩
    · rename_i hv
      split at hd
      · rename_i c x H' ws hl
        obtain ⟨hc, hK⟩ := rq_elim hd
        obtain ⟨T', Hs', hf⟩ := h.louded ho hw (.inr (.inl ⟨hn, hv, c, hl, hc⟩))
        exact ⟨_, T', Hs', hf, hK⟩
      · exact hd.elim
theorem find_none {F : List Fz} {f : Fz → Nat} {k : Nat} (h : F.find? (fun q => Nat.beq (f q) k) = none) : ∀ q ∈ F, f q ≠ k := by
  intro q hq e
  have := List.find?_eq_none.1 h q hq
  exact this (by show Nat.beq (f q) k = true; rw [Nat.beq_eq]; exact e)
theorem find_some {F : List Fz} {f : Fz → Nat} {k : Nat} {q : Fz} (h : F.find? (fun q => Nat.beq (f q) k) = some q) : q ∈ F ∧ f q = k := by
  refine ⟨List.mem_of_find?_eq_some h, ?_⟩
  have := List.find?_some h
  rw [← Nat.beq_eq]; exact this
theorem opF_facts {cfg : Cfg τ} {F : List Fz} {H0 : List (SB τ)} {ops : Array Oper} {tm0 : List SV} {k : Nat} {d : SSt τ} {T : Nat → List SV} {Hs : Nat → List (SB τ)} {o : Oper} {K : SSt τ → Prop}
    (h : SFacts cfg F H0 ops tm0 k d T Hs) (ho : ops[k]? = some o) (hw : wantS ops o d.tm true) (hd : opF cfg F o d K) : ∃ d' T' Hs', SFacts cfg F H0 ops tm0 (k + 1) d' T' Hs' ∧ K d' := by
  unfold opF at hd
  rw [h.len] at hd
  split at hd
  · exact opS_facts h ho hw ⟨fun q hq => by cases hq⟩ hd
  · split at hd
    · rename_i q hq
      obtain ⟨h1, h2⟩ := find_some (f := Fz.j) hq
      split at hd
      · obtain ⟨T', Hs', hf⟩ := h.waited ho hw h1 h2
        exact ⟨_, T', Hs', hf, hd⟩
      · exact hd.elim
    · rename_i hj
      have hj := find_none (f := Fz.j) hj
      split at hd
      · rename_i q hq
        obtain ⟨h1, h2⟩ := find_some (f := Fz.s) hq
        split at hd
        · rename_i z hz hv
          split at hd
          · rename_i c y H' ws hl
            obtain ⟨hc, hK⟩ := rq_elim hd
            obtain ⟨T', Hs', hf⟩ := h.louded (x := .p d.H.length 0) ho hw (.inl ⟨hv, hj, rfl, q, h1, h2, z, c, y, hz, hl, hc⟩)
            exact ⟨_, T', Hs', hf, hK⟩
          · exact hd.elim
        · exact hd.elim
      · rename_i hs
        have hs := find_none (f := Fz.s) hs
        exact opS_facts h ho hw ⟨fun q hq => ⟨hj q hq, hs q hq⟩⟩ hd
theorem seqGo_facts {cfg : Cfg τ} {F : List Fz} {H0 : List (SB τ)} {ops : Array Oper} {tm0 : List SV} {K : SSt τ → Prop} : ∀ (l : List Oper) (k : Nat) (d : SSt τ) (T : Nat → List SV) (Hs : Nat → List (SB τ)),
    (∀ i : Nat, l[i]? = ops[k + i]?) → k + l.length = ops.size → SFacts cfg F H0 ops tm0 k d T Hs → seqGo cfg F ops l d K → ∃ d' T' Hs', SFacts cfg F H0 ops tm0 ops.size d' T' Hs' ∧ K d'
  | [], k, d, T, Hs, _, hl, hf, h => ⟨d, T, Hs, by rw [← hl]; exact hf, h⟩
  | o :: rest, k, d, T, Hs, hi, hl, hf, h => by
    have ho : ops[k]? = some o := by simpa using (hi 0).symm
    have hi' : ∀ i : Nat, rest[i]? = ops[k + 1 + i]? := fun i => by have := hi (i + 1); rw [show k + 1 + i = k + (i + 1) by omega]; simpa using this
    have hl' : k + 1 + rest.length = ops.size := by simp at hl; omega
    have go : ∀ d1 : SSt τ, d1 = d → wantS ops o d.tm true → opF cfg F o d1 (fun d' => seqGo cfg F ops rest d' K) → ∃ d' T' Hs', SFacts cfg F H0 ops tm0 ops.size d' T' Hs' ∧ K d' := by
      intro d1 e hw hd
      subst e
      obtain ⟨d', T', Hs', hf', hK'⟩ := opF_facts hf ho hw hd
      exact seqGo_facts rest (k + 1) d' T' Hs' hi' hl' hf' hK'
    have skip : ∀ d1 : SSt τ, d1 = d → wantS ops o d.tm false → seqGo cfg F ops rest (d1.skip o.dst) K → ∃ d' T' Hs', SFacts cfg F H0 ops tm0 ops.size d' T' Hs' ∧ K d' := by
      intro d1 e hw hd
      subst e
      obtain ⟨T', Hs', hf'⟩ := hf.skipped ho hw
      exact seqGo_facts rest (k + 1) _ T' Hs' hi' hl' hf' hd
    unfold seqGo at h
    split at h
    · rename_i hg
      exact go d rfl (by simp [wantS, hg]) h
    · rename_i j want hg
      split at h
      · exact h.elim
      · rename_i t ht
        split at h
        · exact h.elim
        · rename_i x hx
          split at h
          · rename_i hb
            exact skip d rfl (by simp only [wantS, hg]; exact ⟨t, x, ht, hx, .inl ⟨hb, by simp⟩⟩) h
          · rename_i q hb
            have hxq : x = .v (.bool q) := by
              unfold boolV at hb
              split at hb <;> simp at hb
              subst hb; rfl
            have hset : ∀ bb, q = bb → ({ d with tm := d.tm.set t (.v (.bool bb)) } : SSt τ) = d := fun bb e => by
              subst e
              have : d.tm.set t (.v (.bool q)) = d.tm := set_eq_self fun y hy => by rw [hx] at hy; cases hy; exact hxq
              rw [this]
            have hwant : ∀ bb, bb = (q == want) → wantS ops o d.tm bb := fun bb e => by
              simp only [wantS, hg]; exact ⟨t, x, ht, hx, .inr ⟨q, hb, e⟩⟩
            split at h
            · rcases br_elim h with ⟨rfl, hk⟩ | ⟨rfl, hk⟩
              · exact go _ (hset true rfl) (hwant true rfl) hk
              · exact skip _ (hset false rfl) (hwant false rfl) hk
            · rcases br_elim h with ⟨rfl, hk⟩ | ⟨rfl, hk⟩
              · exact skip _ (hset true rfl) (hwant false rfl) hk
              · exact go _ (hset false rfl) (hwant true rfl) hk
          · exact h.elim
theorem path_closed {ops : Array Oper} {p : Nat → Bool} (hc : Closed ops p) : ∀ (n k j : Nat), pathB ops n k j = true → p k = true → p j = true
  | 0, _, _, h, _ => by simp [pathB] at h
  | n + 1, k, j, h, hk => by
    unfold pathB at h
    split at h
    · rename_i o ho
      rw [List.any_eq_true] at h
      obtain ⟨ed, hed, hb⟩ := h
      simp only [Bool.and_eq_true, Bool.or_eq_true, Nat.beq_eq] at hb
      have hp := hc k o ho hk ed hed hb.1
      rcases hb.2 with e | e
      · rw [← e]; exact hp
      · exact path_closed hc n ed.on j e hp
    · cases h
theorem path_ready {ops : Array Oper} {p : Nat → Bool} (hc : Closed ops p) {n k j : Nat} {o : Oper} (ho : ops[k]? = some o) (hdeps : ∀ ed ∈ o.after.toList, Region.binds .any ed = true → p ed.on = true) (h : pathB ops n k j = true) : p j = true := by
  cases n with
  | zero => simp [pathB] at h
  | succ n =>
    unfold pathB at h
    rw [ho] at h
    simp only [List.any_eq_true] at h
    obtain ⟨ed, hed, hb⟩ := h
    simp only [Bool.and_eq_true, Bool.or_eq_true, Nat.beq_eq] at hb
    have hp := hdeps ed hed hb.1
    rcases hb.2 with e | e
    · rw [← e]; exact hp
    · exact path_closed hc n ed.on j e hp
theorem chain_tail {ops : Array Oper} {p : Nat → Bool} (hc : Closed ops p) : ∀ {fx : List (Nat × List Nat)} {a : Nat × List Nat}, chainB ops (a :: fx) = true → p a.1 = true → ∀ b ∈ fx, p b.1 = true
  | [], _, _, _, _, hb => by cases hb
  | c :: r, a, h, ha, b, hb => by
    simp only [chainB, Bool.and_eq_true] at h
    have hcp := path_closed hc _ _ _ h.1 ha
    rcases List.mem_cons.1 hb with rfl | hb
    · exact hcp
    · exact chain_tail hc h.2 hcp b hb
def SSt.ES (d : SSt τ) : List (Ef τ) := d.E.map .q
section
variable {cfg : Cfg τ} {F : List Fz} {H0 : List (SB τ)} {ops : Array Oper} {tm0 : List SV} {n : Nat} {d : SSt τ} {T : Nat → List SV} {Hs : Nat → List (SB τ)}
theorem factsS_T (h : SFacts cfg F H0 ops tm0 n d T Hs) (hn : n ≤ ops.size) : ∀ k, k ≤ n → T k = foldT ops d.ES 0 (fun _ => true) tm0 k
  | 0, _ => h.start
  | k + 1, hk => by
    have ho : ops[k]? = some ops[k] := by simp [show k < ops.size by omega]
    obtain ⟨x, b, h1, h2, _⟩ := h.step k _ (by omega) ho
    have hE : d.ES[k]? = some (.q x) := by simp [SSt.ES, h1]
    rw [h2, foldT]
    simp only [ho, hE, Ef.val]
    rw [factsS_T h hn k (by omega)]
theorem slotsS_read (hf : SFacts cfg F H0 ops tm0 ops.size d T Hs) (hok : okD ops = true) {p : Nat → Bool} (hcl : Closed ops p) {k : Nat} {o : Oper} (ho : ops[k]? = some o) (hk : p k = false)
    (hdeps : ∀ ed ∈ o.after.toList, Region.binds .any ed = true → p ed.on = true) {t : Tmp} (ht : t ∈ o.looksAt ops) : (foldT ops d.ES 0 p tm0 ops.size)[t]? = (T k)[t]? := by
  have hkn : k < ops.size := (Array.getElem?_eq_some_iff.1 ho).1
  rw [factsS_T hf (Nat.le_refl _) k (by omega), ← foldT_stop ops.size (by omega)]
  refine foldT_slot _ fun j oj hj hoj hd => ?_
  by_cases hjk : j = k
  · subst hjk; simp [hk]
  · rcases (okD_pair hok ho hoj hjk hd).1 ht with ⟨h1, h2⟩ | ⟨h1, h2⟩
    · obtain ⟨o', ed, ho', h3, h4, h5⟩ := edge_dep h2
      rw [ho] at ho'; cases ho'
      have := hdeps ed h3 h4
      rw [h5] at this
      simp [this, h1]
    · have : p j = false := by
        cases hp : p j with
        | false => rfl
        | true => rw [hcl.edge h2 hp] at hk; cases hk
      simp [this]; omega
theorem Hs_const (hf : SFacts cfg F H0 ops tm0 ops.size d T Hs) {a : Nat} : ∀ b, a ≤ b → b ≤ ops.size → (∀ f ∈ d.fx, ¬ (a ≤ f.1 ∧ f.1 < b)) → Hs b = Hs a
  | 0, h, _, _ => by rw [Nat.le_zero.1 h]
  | b + 1, h, hb, hno => by
    by_cases he : a = b + 1
    · rw [he]
    · rw [← Hs_const hf b (by omega) (by omega) fun f hf' hh => hno f hf' ⟨hh.1, by omega⟩]
      have ho : ops[b]? = some ops[b] := by simp [show b < ops.size by omega]
      obtain ⟨x, bb, _, _, _, h4⟩ := hf.step b _ (by omega) ho
      rcases h4 with ⟨_, _, h5⟩ | ⟨_, _, h5, _⟩ | ⟨_, ws, _, h6⟩ | ⟨_, _, h5, _⟩
      · exact h5
      · exact h5
      · exact absurd ⟨by omega, Nat.lt_succ_self b⟩ (hno _ h6)
      · exact h5
theorem next_fx (fx : List (Nat × List Nat)) (m : Nat) : ∀ (gap a : Nat), a + gap = m → (∀ f ∈ fx, f.1 < m) → ∃ K, a ≤ K ∧ K ≤ m ∧ (∀ f ∈ fx, a ≤ f.1 → K ≤ f.1) ∧ (K < m → ∃ f ∈ fx, f.1 = K)
  | 0, a, h, hlt => ⟨a, Nat.le_refl a, by omega, fun f _ h => h, fun h' => by omega⟩
  | gap + 1, a, h, hlt => by
    by_cases hx : ∃ f ∈ fx, f.1 = a
    · exact ⟨a, Nat.le_refl a, by omega, fun f _ h => h, fun _ => hx⟩
    · obtain ⟨K, h1, h2, h3, h4⟩ := next_fx fx m gap (a + 1) (by omega) hlt
      refine ⟨K, by omega, h2, fun f hf haf => h3 f hf ?_, h4⟩
      rcases Nat.lt_or_ge a f.1 with h | h
      · exact h
      · exact absurd ⟨f, hf, by omega⟩ hx
end
def pendB (p : Nat → Bool) (q : Fz) : Bool := p q.j && !p q.s
def anyAt (F : List Fz) (p : Nat → Bool) (t : Nat) (x : SV) : SV := match F.any (fun q => pendB p q && Nat.beq q.t t) with
  | true => .any
  | false => x
def anyF (F : List Fz) (p : Nat → Bool) (tm : List SV) : List SV := tm.mapIdx (anyAt F p)
theorem anyF_get (F : List Fz) (p : Nat → Bool) (tm : List SV) (t : Nat) : (anyF F p tm)[t]? = (tm[t]?).map (anyAt F p t) := by simp [anyF, List.getElem?_mapIdx]
theorem anyF_length (F : List Fz) (p : Nat → Bool) (tm : List SV) : (anyF F p tm).length = tm.length := by simp [anyF]
theorem anyAt_no {F : List Fz} {p : Nat → Bool} {t : Nat} (h : ∀ q ∈ F, pendB p q = true → q.t ≠ t) (x : SV) : anyAt F p t x = x := by
  unfold anyAt
  split
  · rename_i hb
    rw [List.any_eq_true] at hb
    obtain ⟨q, hq, hb⟩ := hb
    rw [Bool.and_eq_true, Nat.beq_eq] at hb
    exact absurd hb.2 (h q hq hb.1)
  · rfl
theorem anyF_no {F : List Fz} {p : Nat → Bool} {tm : List SV} {t : Nat} (h : ∀ q ∈ F, pendB p q = true → q.t ≠ t) : (anyF F p tm)[t]? = tm[t]? := by
  rw [anyF_get]
  cases tm[t]? with
  | none => rfl
  | some x => simp [anyAt_no h]
theorem anyAt_congr {F : List Fz} {p p' : Nat → Bool} (h : ∀ q ∈ F, pendB p' q = pendB p q) (t : Nat) (x : SV) : anyAt F p' t x = anyAt F p t x := by
  have : F.any (fun q => pendB p' q && Nat.beq q.t t) = F.any (fun q => pendB p q && Nat.beq q.t t) := by
    rw [Bool.eq_iff_iff, List.any_eq_true, List.any_eq_true]
    constructor
    · rintro ⟨q, hq, hb⟩; exact ⟨q, hq, by rw [← h q hq]; exact hb⟩
    · rintro ⟨q, hq, hb⟩; exact ⟨q, hq, by rw [h q hq]; exact hb⟩
  unfold anyAt
  rw [this]
theorem anyF_congr {F : List Fz} {p p' : Nat → Bool} (h : ∀ q ∈ F, pendB p' q = pendB p q) (tm : List SV) : anyF F p' tm = anyF F p tm := by
  refine List.ext_getElem? fun t => ?_
  rw [anyF_get, anyF_get]
  cases tm[t]? with
  | none => rfl
  | some x => simp [anyAt_congr h]
theorem denL_ext {e : Env} : ∀ {xs : List SV} {vs : List Value}, xs.length = vs.length → (∀ (i : Nat) (x : SV) (v : Value), xs[i]? = some x → vs[i]? = some v → Den e x v) → DenL e xs vs
  | [], [], _, _ => by simp [DenL]
  | [], _ :: _, h, _ => by simp at h
  | _ :: _, [], h, _ => by simp at h
  | x :: xs, v :: vs, h, hd => by
    simp only [DenL]
    exact ⟨v, vs, rfl, hd 0 x v rfl rfl, denL_ext (by simpa using h) fun i y u h1 h2 => hd (i + 1) y u (by simpa using h1) (by simpa using h2)⟩
theorem DenL.at {e : Env} {xs : List SV} {vs : List Value} (h : DenL e xs vs) {i : Nat} {x : SV} {v : Value} (h1 : xs[i]? = some x) (h2 : vs[i]? = some v) : Den e x v := by
  obtain ⟨u, h3, h4⟩ := h.get h1
  rw [h2] at h3; cases h3; exact h4
structure Pend (F : List Fz) (P : Program) (Fr Fr' : PH) (p : Nat → Bool) (N : Nat → Nat) (a : Act) : Prop where
  at_ : ∀ q ∈ F, pendB p q = true → a.tmps[q.t]? = some (.pointer (some ⟨N q.j, 0, none⟩)) ∧ (∃ z, zeroT P q.T = some z ∧ Fr' (N q.j) = some (.cells z.cells.toList.toArray q.T)) ∧ Fr (N q.j) = none
  inj : ∀ q ∈ F, ∀ q' ∈ F, pendB p q = true → pendB p q' = true → N q.j = N q'.j → q = q'
  same : ∀ m, (∀ q ∈ F, pendB p q = true → N q.j ≠ m) → Fr' m = Fr m
def addPH (Fr : PH) (n : Nat) (o : Obj) : PH := fun k => if k = n then some o else Fr k
def remPH (Fr : PH) (n : Nat) : PH := fun k => if k = n then none else Fr k
theorem Models.push {e : Env} {H : List (SB τ)} {Fr : PH} {w : World} (h : Models I e H Fr w) (o : Obj) : Models I e H (addPH Fr w.heap.size o) { w with heap := w.heap.push o } := by
  obtain ⟨h0, hs, h1, h2, h3, h4, h5, h6⟩ := h
  have hold := Ext.alloc w o
  have h0' := h0.stay (w' := { w with heap := w.heap.push o }) ⟨rfl, rfl⟩
  refine ⟨⟨h0'.os, h0'.out, fun k x hk => ?_⟩, hs, h1, h2, h3, fun j k => ?_, fun j k x hk => hold.heap k x (h5 j k x hk), fun k x hk => ?_⟩
  · have := h0.ro k x hk
    unfold addPH
    rw [if_neg (by have := lt_of_sub h6 this; omega)]
    exact this
  · unfold addPH
    split
    · rename_i hk
      left
      cases hq : hs j k with
      | none => rfl
      | some y => have := lt_of_sub (h5 j) hq; omega
    · exact h4 j k
  · unfold addPH at hk
    split at hk
    · rename_i hk'
      subst hk'
      simp only [Option.some.injEq] at hk
      subst hk
      simp
    · exact hold.heap k x (h6 k x hk)
theorem Models.claim {e : Env} {H : List (SB τ)} {Fr : PH} {w : World} (h : Models I e H Fr w) {n : Nat} {vs : List Value} {l : List SV} {T : TypeId} (hn : Fr n = some (.cells vs.toArray T)) (hd : DenL e l vs) (hro : I.ro n = none) :
    Models I (ext e H.length (.blk n)) (H ++ [.cells l T]) (remPH Fr n) w := by
  have hfr := h.fresh
  obtain ⟨h0, hs, h1, h2, h3, h4, h5, h6⟩ := h
  have hsn : ∀ j, hs j n = none := fun j => by
    rcases h4 j n with h | h
    · exact h
    · rw [hn] at h; cases h
  refine ⟨⟨h0.os, h0.out, fun k x hk => ?_⟩, fun j => if j = H.length then single n (.cells vs.toArray T (0, 0)) else hs j, fun i b hi => ?_, fun i hi => ?_, fun i j hij k => ?_, fun j k => ?_, fun j k x hk => ?_, fun k x hk => ?_⟩
  · unfold remPH
    rw [if_neg (fun e => by subst e; rw [hro] at hk; cases hk)]
    exact h0.ro k x hk
  · by_cases hlt : i < H.length
    · rw [List.getElem?_append_left hlt] at hi
      simp only [show i ≠ H.length by omega, if_false]
      rw [ext_ne _ _ _ (by omega)]
      exact (h1 i b hi).mono I (le_ext hfr)
    · rw [List.getElem?_append_right (by omega)] at hi
      have : i = H.length := by
        rcases Nat.eq_or_lt_of_le (Nat.le_of_not_lt hlt) with h | h
        · exact h.symm
        · rw [List.getElem?_eq_none (by simp; omega)] at hi; cases hi
      subst this
      simp only [Nat.sub_self, List.getElem?_cons_zero, Option.some.injEq] at hi
      subst hi
      simp only [if_true, ext_self]
      exact ⟨n, vs, rfl, hd.mono (le_ext hfr), rfl⟩
  · have hi' : H.length + 1 ≤ i := by simpa using hi
    simp only [show i ≠ H.length by omega, if_false]
    rw [ext_ne _ _ _ (by omega)]
    exact h2 i (by omega)
  · by_cases hi : i = H.length
    · have hj : j ≠ H.length := by omega
      simp only [hi, hj, if_true, if_false, single]
      split
      · rename_i hk; subst hk; exact .inr (hsn j)
      · exact .inl rfl
    · by_cases hj : j = H.length
      · simp only [hi, hj, if_true, if_false, single]
        split
        · rename_i hk; subst hk; exact .inl (hsn i)
        · exact .inr rfl
      · simp only [hi, hj, if_false]; exact h3 i j hij k
  · by_cases hj : j = H.length
    · simp only [hj, if_true, single, remPH]
      split
      · exact .inr rfl
      · exact .inl rfl
    · simp only [hj, if_false, remPH]
      split
      · exact .inr rfl
      · exact h4 j k
  · by_cases hj : j = H.length
    · simp only [hj, if_true, single] at hk
      split at hk
      · rename_i hk'; subst hk'
        simp only [Option.some.injEq] at hk
        subst hk
        exact h6 k _ hn
      · cases hk
    · simp only [hj, if_false] at hk; exact h5 j k x hk
  · unfold remPH at hk
    split at hk
    · cases hk
    · exact h6 k x hk
structure FzOk (F : List Fz) (ops ops' : Array Oper) : Prop where
  size : ops'.size = ops.size
  norm : ∀ k, NoF F k → ops'[k]? = ops[k]?
  after : ∀ (k : Nat) (o : Oper), ops[k]? = some o → ∃ o' : Oper, ops'[k]? = some o' ∧ o'.after = o.after
  al : ∀ q ∈ F, ∃ o : Oper, ops[q.j]? = some o ∧ o.op = .alloc q.T ∧ o.dst = some q.t ∧ o.guard = none ∧ ops'[q.j]? = some { o with dst := none }
  st : ∀ q ∈ F, ∃ (o : Oper) (x : Operand), ops[q.s]? = some o ∧ o.op = .store q.T (.tmp q.t) x ∧ o.dst = none ∧ o.guard = none ∧ ops'[q.s]? = some { o with dst := some q.t }
  edge : ∀ q ∈ F, edgeB ops' q.s q.j = true
  look : ∀ q ∈ F, ∀ (k : Nat) (o : Oper), k ≠ q.s → ops'[k]? = some o → q.t ∈ o.looksAt ops' → edgeB ops' k q.s = true
  guard : ∀ (k : Nat) (o : Oper) (j : Nat) (w : Bool), ops[k]? = some o → o.guard = some (j, w) → NoF F j
  sep : ∀ q ∈ F, ∀ q' ∈ F, q.j ≠ q'.s ∧ (q.j = q'.j ∨ q.s = q'.s ∨ q.t = q'.t → q = q')
theorem FzOk.nil (ops : Array Oper) : FzOk [] ops ops := ⟨rfl, fun _ _ => rfl, fun k o h => ⟨o, h, rfl⟩, (fun q hq => by cases hq), (fun q hq => by cases hq), (fun q hq => by cases hq), (fun q hq => by cases hq), (fun k o j w _ _ => ⟨fun q hq => by cases hq⟩), (fun q hq => by cases hq)⟩
structure MidS (I : Inv τ) (F : List Fz) (P : Program) (e0 : Env) (Fr : PH) (D : List Deferred) (st : St τ) (ops : Array Oper) (d : SSt τ) (Hs : Nat → List (SB τ)) (p : Nat → Bool) (e : Env) (a : Act) (w : World) : Prop where
  le : Le e0 e
  tm : DenL e (anyF F p (foldT ops d.ES 0 p st.tm ops.size)) a.tmps.toList
  df : st.df = [] ∧ a.defers = D
  closed : Closed ops p
  ro : ∀ (k : Nat) (o : Obj), I.ro k = some o → Fr k = some o
  models : ∃ K Fr' N, K ≤ ops.size ∧ (∀ f ∈ d.fx, p f.1 = true ↔ f.1 < K) ∧ (K < ops.size → ∃ f ∈ d.fx, f.1 = K) ∧ Models I e (Hs K) Fr' w ∧ Pend F P Fr Fr' p N a
theorem wantS_det {ops : Array Oper} {o : Oper} {tm : List SV} (h : wantS ops o tm true) (h' : wantS ops o tm false) : False := by
  unfold wantS at h h'
  split at h
  · rename_i hg; simp [hg] at h'
  · rename_i j wt hg
    simp only [hg] at h'
    obtain ⟨t, x, h1, h2, h3⟩ := h
    obtain ⟨t', x', g1, g2, g3⟩ := h'
    rw [h1] at g1; cases g1
    rw [h2] at g2; cases g2
    rcases h3 with ⟨_, h3⟩ | ⟨q, h3, h4⟩
    · cases h3
    · rcases g3 with ⟨g3, _⟩ | ⟨q', g3, g4⟩
      · rw [h3] at g3; cases g3
      · rw [h3] at g3
        simp only [Option.some.injEq] at g3
        subst g3
        rw [← h4] at g4; cases g4
theorem beq_ne {a b : Nat} (h : a ≠ b) : Nat.beq a b = false := by
  cases hq : Nat.beq a b with
  | false => rfl
  | true => rw [Nat.beq_eq] at hq; exact absurd hq h
theorem pend_same {F : List Fz} {p p' : Nat → Bool} {k : Nat} (hn : NoF F k) (hp : ∀ j, p' j = (p j || Nat.beq j k)) : ∀ q ∈ F, pendB p' q = pendB p q := by
  intro q hq
  obtain ⟨h1, h2⟩ := hn.h q hq
  unfold pendB
  rw [hp, hp, beq_ne h1, beq_ne h2, Bool.or_false, Bool.or_false]
theorem Pend.put {F : List Fz} {P : Program} {Fr Fr' : PH} {p p' : Nat → Bool} {N : Nat → Nat} {a : Act} (h : Pend F P Fr Fr' p N a) (hs : ∀ q ∈ F, pendB p' q = pendB p q) {dst : Option Tmp} (hd : ∀ q ∈ F, dst ≠ some q.t) (v : Value) : Pend F P Fr Fr' p' N (a.put dst v) := by
  refine ⟨fun q hq hb => ?_, fun q hq q' hq' h1 h2 => h.inj q hq q' hq' (by rw [← hs q hq]; exact h1) (by rw [← hs q' hq']; exact h2), fun m hm => h.same m fun q hq hb => hm q hq (by rw [hs q hq]; exact hb)⟩
  obtain ⟨g1, g2⟩ := h.at_ q hq (by rw [← hs q hq]; exact hb)
  refine ⟨?_, g2⟩
  cases dst with
  | none => exact g1
  | some d =>
    have hne : d ≠ q.t := fun e => hd q hq (by rw [e])
    simp only [Act.put]
    rw [Array.getElem?_setIfInBounds_ne hne]; exact g1
theorem anyF_putS {F : List Fz} {p : Nat → Bool} {dst : Option Tmp} (hd : ∀ q ∈ F, dst ≠ some q.t) (x : SV) (tm : List SV) : anyF F p (putS dst x tm) = putS dst x (anyF F p tm) := by
  refine List.ext_getElem? fun t => ?_
  rw [anyF_get, putS_get, putS_get, anyF_length, anyF_get]
  by_cases h : dst = some t ∧ t < tm.length
  · rw [if_pos h, if_pos h]
    simp only [Option.map_some]
    rw [anyAt_no fun q hq _ e => hd q hq (by rw [h.1, e])]
  · rw [if_neg h, if_neg h]
section
variable {cfg : Cfg τ} {F : List Fz} {ops ops0 : Array Oper} {st : St τ} {d : SSt τ} {T : Nat → List SV} {Hs : Nat → List (SB τ)} {e0 e : Env} {Fr : PH} {a : Act} {w : World} {p p' : Nat → Bool} {k : Nat} {o : Oper}
theorem FzOk.dst (hfz : FzOk F ops0 ops) (hok : okD ops = true) (hn : NoF F k) (ho : ops[k]? = some o) : ∀ q ∈ F, o.dst ≠ some q.t := by
  intro q hq
  obtain ⟨o', x, _, _, _, _, h⟩ := hfz.st q hq
  exact (okD_pair hok ho h (hn.h q hq).2 rfl).2
theorem midS_same (hok : okD ops = true) (hM : MidS I F cfg.P e0 Fr D st ops d Hs p e a w) (ho : ops[k]? = some o) (hk : p k = false) (hn : NoF F k) (hds : ∀ q ∈ F, o.dst ≠ some q.t)
    (hdeps : ∀ ed ∈ o.after.toList, Region.binds .any ed = true → p ed.on = true) (hp : ∀ j, p' j = (p j || Nat.beq j k)) {x : SV} (he : d.E[k]? = some x) {v : Value} (hd : Den e x v) (hne : ∀ f ∈ d.fx, f.1 ≠ k) :
    MidS I F cfg.P e0 Fr D st ops d Hs p' e (a.put o.dst v) w := by
  have hE : d.ES[k]? = some (.q x) := by simp [SSt.ES, he]
  obtain ⟨K, Fr', N, h1, h2, h3, h4, h5⟩ := hM.models
  refine ⟨hM.le, ?_, by rw [put_defers]; exact hM.df, mid_closed hM.closed hp ho hdeps, hM.ro, K, Fr', N, h1, fun f hf => ?_, h3, h4, h5.put (pend_same hn hp) hds v⟩
  · rw [slots_put hok ho hE hk hp, anyF_congr (pend_same hn hp), anyF_putS hds]
    exact put_den o.dst hM.tm hd
  · rw [hp, beq_ne (hne f hf), Bool.or_false]
    exact h2 f hf
theorem midS_at (hch : chainB ops d.fx = true) (hf : SFacts cfg F st.H ops st.tm ops.size d T Hs) (hM : MidS I F cfg.P e0 Fr D st ops d Hs p e a w) (ho : ops[k]? = some o) (hk : p k = false)
    (hdeps : ∀ ed ∈ o.after.toList, Region.binds .any ed = true → p ed.on = true) {wr : List Nat} (hin : (k, wr) ∈ d.fx) : (∃ Fr' N, Models I e (Hs k) Fr' w ∧ Pend F cfg.P Fr Fr' p N a) ∧ (∀ f ∈ d.fx, p f.1 = true ↔ f.1 < k) := by
  obtain ⟨K, Fr', N, h1, h2, h3, h4, h5⟩ := hM.models
  have hkn : k < ops.size := (Array.getElem?_eq_some_iff.1 ho).1
  have hKk : K ≤ k := by
    rcases Nat.lt_or_ge k K with h | h
    · rw [(h2 _ hin).2 h] at hk; cases hk
    · exact h
  have hkK : K = k := by
    rcases Nat.lt_or_ge K k with h | h
    · exfalso
      obtain ⟨f, hff, hfK⟩ := h3 (by omega)
      -- the chain leads from k to f
      have hpf : p f.1 = true := by
        have : ∀ (fx : List (Nat × List Nat)), chainB ops fx = true → fx.Pairwise (fun a b => b.1 < a.1) → (k, wr) ∈ fx → f ∈ fx → f.1 < k → p f.1 = true := by
          intro fx
          induction fx with
          | nil => intro _ _ hh; cases hh
          | cons c r ih =>
            intro hc hs hin hff hlt
            rw [List.pairwise_cons] at hs
            have hcr : chainB ops r = true := by
              cases r with
              | nil => rfl
              | cons d' r' => simp only [chainB, Bool.and_eq_true] at hc; exact hc.2
            rcases List.mem_cons.1 hin with e1 | hin2
            · subst e1
              rcases List.mem_cons.1 hff with e2 | hff2
              · subst e2; simp at hlt
              · cases r with
                | nil => cases hff2
                | cons d' r' =>
                  simp only [chainB, Bool.and_eq_true] at hc
                  have hd' : p d'.1 = true := path_ready hM.closed ho hdeps hc.1
                  rcases List.mem_cons.1 hff2 with e3 | hff3
                  · subst e3; exact hd'
                  · exact chain_tail hM.closed hc.2 hd' f hff3
            · rcases List.mem_cons.1 hff with e2 | hff2
              · subst e2
                have := hs.1 _ hin2
                simp only at this; omega
              · exact ih hcr hs.2 hin2 hff2 hlt
        exact this d.fx hch hf.srt hin hff (by omega)
      have := (h2 f hff).1 hpf
      omega
    · omega
  subst hkK
  exact ⟨⟨Fr', N, h4, h5⟩, h2⟩
theorem next_K (hf : SFacts cfg F st.H ops st.tm ops.size d T Hs) (hkn : k < ops.size) (hp : ∀ j, p' j = (p j || Nat.beq j k)) (hlt : ∀ f ∈ d.fx, p f.1 = true ↔ f.1 < k) :
    ∃ K, K ≤ ops.size ∧ (∀ f ∈ d.fx, p' f.1 = true ↔ f.1 < K) ∧ (K < ops.size → ∃ f ∈ d.fx, f.1 = K) ∧ Hs K = Hs (k + 1) := by
  obtain ⟨K, h1, h2, h3, h4⟩ := next_fx d.fx ops.size (ops.size - (k + 1)) (k + 1) (by omega) fun f hff => (hf.fxs f hff).1
  refine ⟨K, h2, fun f hff => ?_, h4, Hs_const hf K h1 h2 fun f hff hh => by have := h3 f hff hh.1; omega⟩
  rw [hp, Bool.or_eq_true, Nat.beq_eq, hlt f hff]
  constructor
  · intro h; omega
  · intro h
    rcases Nat.lt_or_ge f.1 (k + 1) with h' | h'
    · omega
    · have := h3 f hff h'; omega
theorem midS_next (hok : okD ops = true) (hf : SFacts cfg F st.H ops st.tm ops.size d T Hs) (hM : MidS I F cfg.P e0 Fr D st ops d Hs p e a w) (ho : ops[k]? = some o) (hk : p k = false) (hn : NoF F k) (hds : ∀ q ∈ F, o.dst ≠ some q.t)
    (hdeps : ∀ ed ∈ o.after.toList, Region.binds .any ed = true → p ed.on = true) (hp : ∀ j, p' j = (p j || Nat.beq j k)) (hlt : ∀ f ∈ d.fx, p f.1 = true ↔ f.1 < k) {x : SV} (he : d.E[k]? = some x) {v : Value} {e' : Env} {w' : World} (hle : Le e e') {Fr' : PH} {N : Nat → Nat}
    (hm : Models I e' (Hs (k + 1)) Fr' w') (hpd : Pend F cfg.P Fr Fr' p N a) (hd : Den e' x v) : MidS I F cfg.P e0 Fr D st ops d Hs p' e' (a.put o.dst v) w' := by
  have hE : d.ES[k]? = some (.q x) := by simp [SSt.ES, he]
  have hkn : k < ops.size := (Array.getElem?_eq_some_iff.1 ho).1
  obtain ⟨K, h2, h3, h4, h5⟩ := next_K hf hkn hp hlt
  refine ⟨hM.le.trans hle, ?_, by rw [put_defers]; exact hM.df, mid_closed hM.closed hp ho hdeps, hM.ro, K, Fr', N, h2, h3, h4, by rw [h5]; exact hm, hpd.put (pend_same hn hp) hds v⟩
  rw [slots_put hok ho hE hk hp, anyF_congr (pend_same hn hp), anyF_putS hds]
  exact put_den o.dst (hM.tm.mono hle) hd
theorem midS_wait (hok : okD ops = true) (hin : ∀ q ∈ F, q.t < st.tm.length) (hfz : FzOk F ops0 ops) (hf : SFacts cfg F st.H ops st.tm ops.size d T Hs) (hM : MidS I F cfg.P e0 Fr D st ops d Hs p e a w) {q : Fz} (hq : q ∈ F) (hk : p q.j = false) (ho : ops[q.j]? = some o) (hod : o.dst = none)
    (hdeps : ∀ ed ∈ o.after.toList, Region.binds .any ed = true → p ed.on = true) (hp : ∀ j, p' j = (p j || Nat.beq j q.j)) (he : d.E[q.j]? = some .any) {z : Value} (hz : zeroT cfg.P q.T = some z) :
    MidS I F cfg.P e0 Fr D st ops d Hs p' e (a.put (some q.t) (.pointer (some ⟨w.heap.size, 0, none⟩))) { w with heap := w.heap.push (.cells z.cells.toList.toArray q.T) } := by
  have hE : d.ES[q.j]? = some (.q .any) := by simp [SSt.ES, he]
  obtain ⟨K, Fr', N, h1, h2, h3, h4, h5⟩ := hM.models
  have hsub : Sub Fr' w := h4.2.choose_spec.2.2.2.2.2
  have hps : p q.s = false := by
    cases hb : p q.s with
    | false => rfl
    | true => rw [hM.closed.edge (hfz.edge q hq) hb] at hk; cases hk
  have hsj : q.j ≠ q.s := (hfz.sep q hq q hq).1
  have hpq : pendB p' q = true := by
    unfold pendB
    rw [hp, hp, show Nat.beq q.j q.j = true by rw [Nat.beq_eq], hps, beq_ne fun e => hsj e.symm]; simp
  have hpq0 : pendB p q = false := by unfold pendB; rw [hk]; rfl
  have hoth : ∀ q' ∈ F, q' ≠ q → pendB p' q' = pendB p q' := fun q' hq' hne => by
    have g1 : q'.j ≠ q.j := fun e => hne ((hfz.sep q' hq' q hq).2 (.inl e))
    have g2 : q'.s ≠ q.j := fun e => (hfz.sep q hq q' hq').1 e.symm
    unfold pendB
    rw [hp, hp, beq_ne g1, beq_ne g2, Bool.or_false, Bool.or_false]
  have hlt : ∀ q' ∈ F, pendB p q' = true → N q'.j < w.heap.size := fun q' hq' hb => by
    obtain ⟨_, ⟨z', _, g⟩, _⟩ := h5.at_ q' hq' hb
    exact lt_of_sub hsub g
  have hnoal : ∀ f ∈ d.fx, f.1 ≠ q.j := fun f hff e => hf.alo f hff q hq e.symm
  have htm := hM.tm
  have hts : q.t < a.tmps.size := by have := htm.length; rw [anyF_length, foldT_length] at this; have h := hin q hq; rw [this] at h; simpa using h
  refine ⟨hM.le, ?_, by rw [put_defers]; exact hM.df, mid_closed hM.closed hp ho hdeps, hM.ro, K, addPH Fr' w.heap.size (.cells z.cells.toList.toArray q.T), fun j => if j = q.j then w.heap.size else N j, h1, fun f hff => ?_, h3, h4.push _, ?_⟩
  · refine denL_ext ?_ fun i x v hx hv => ?_
    · have := htm.length
      rw [anyF_length, foldT_length] at this ⊢
      simpa [Act.put] using this
    · rw [slots_put hok ho hE hk hp, hod] at hx
      simp only [putS, anyF_get] at hx
      by_cases hi : q.t = i
      · subst hi
        cases hy : (foldT ops d.ES 0 p st.tm ops.size)[q.t]? with
        | none => rw [hy] at hx; cases hx
        | some y =>
          rw [hy] at hx
          simp only [Option.map_some, Option.some.injEq] at hx
          have : F.any (fun q' => pendB p' q' && Nat.beq q'.t q.t) = true := List.any_eq_true.2 ⟨q, hq, by rw [hpq]; simp⟩
          unfold anyAt at hx
          rw [this] at hx
          subst hx
          simp [Den]
      · have hv' : a.tmps.toList[i]? = some v := by
          simp only [Act.put, Array.toList_setIfInBounds] at hv
          rw [List.getElem?_set_ne hi] at hv; exact hv
        refine htm.at ?_ hv'
        rw [anyF_get, ← hx]
        cases (foldT ops d.ES 0 p st.tm ops.size)[i]? with
        | none => rfl
        | some y =>
          simp only [Option.map_some, Option.some.injEq]
          have : F.any (fun q' => pendB p' q' && Nat.beq q'.t i) = F.any (fun q' => pendB p q' && Nat.beq q'.t i) := by
            rw [Bool.eq_iff_iff, List.any_eq_true, List.any_eq_true]
            constructor
            · rintro ⟨q', hq', hb⟩
              refine ⟨q', hq', ?_⟩
              by_cases hne : q' = q
              · subst hne; rw [beq_ne hi] at hb; simp at hb
              · rw [← hoth q' hq' hne]; exact hb
            · rintro ⟨q', hq', hb⟩
              refine ⟨q', hq', ?_⟩
              by_cases hne : q' = q
              · subst hne; rw [beq_ne hi] at hb; simp at hb
              · rw [hoth q' hq' hne]; exact hb
          unfold anyAt
          rw [this]
  · rw [hp, beq_ne (hnoal f hff), Bool.or_false]
    exact h2 f hff
  · refine ⟨fun q' hq' hb => ?_, fun q1 hq1 q2 hq2 hb1 hb2 hN => ?_, fun m hm => ?_⟩
    · by_cases hne : q' = q
      · subst hne
        simp only [if_true]
        refine ⟨by simp [Act.put, hts], ⟨z, hz, by simp [addPH]⟩, ?_⟩
        cases hFr : Fr w.heap.size with
        | none => rfl
        | some x =>
          have := h5.same w.heap.size fun q' hq' hb => by have := hlt q' hq' hb; omega
          rw [hFr] at this
          have := lt_of_sub hsub this; omega
      · have hb' : pendB p q' = true := by rw [← hoth q' hq' hne]; exact hb
        obtain ⟨g1, ⟨z', g2, g3⟩, g4⟩ := h5.at_ q' hq' hb'
        have hj : q'.j ≠ q.j := fun e => hne ((hfz.sep q' hq' q hq).2 (.inl e))
        have ht : q.t ≠ q'.t := fun e => hne ((hfz.sep q' hq' q hq).2 (.inr (.inr e.symm)))
        simp only [hj, if_false]
        refine ⟨by simp only [Act.put]; rw [Array.getElem?_setIfInBounds_ne ht]; exact g1, ⟨z', g2, ?_⟩, g4⟩
        unfold addPH
        rw [if_neg (by have := hlt q' hq' hb'; omega)]
        exact g3
    · by_cases e1 : q1 = q
      · by_cases e2 : q2 = q
        · rw [e1, e2]
        · have hj : q2.j ≠ q.j := fun e => e2 ((hfz.sep q2 hq2 q hq).2 (.inl e))
          have := hlt q2 hq2 (by rw [← hoth q2 hq2 e2]; exact hb2)
          simp only [e1, hj, if_true, if_false] at hN; omega
      · have hj1 : q1.j ≠ q.j := fun e => e1 ((hfz.sep q1 hq1 q hq).2 (.inl e))
        by_cases e2 : q2 = q
        · have := hlt q1 hq1 (by rw [← hoth q1 hq1 e1]; exact hb1)
          simp only [e2, hj1, if_true, if_false] at hN; omega
        · have hj2 : q2.j ≠ q.j := fun e => e2 ((hfz.sep q2 hq2 q hq).2 (.inl e))
          simp only [hj1, hj2, if_false] at hN
          exact h5.inj q1 hq1 q2 hq2 (by rw [← hoth q1 hq1 e1]; exact hb1) (by rw [← hoth q2 hq2 e2]; exact hb2) hN
    · have hm1 := hm q hq hpq
      simp only [if_true] at hm1
      unfold addPH
      rw [if_neg (fun e => hm1 e.symm)]
      refine h5.same m fun q' hq' hb => ?_
      by_cases hne : q' = q
      · subst hne; rw [hpq0] at hb; cases hb
      · have hj : q'.j ≠ q.j := fun e => hne ((hfz.sep q' hq' q hq).2 (.inl e))
        have := hm q' hq' (by rw [hoth q' hq' hne]; exact hb)
        simp only [hj, if_false] at this
        exact this
theorem slotsA_read (hfz : FzOk F ops0 ops) (hf : SFacts cfg F st.H ops st.tm ops.size d T Hs) (hok : okD ops = true) (hcl : Closed ops p) (ho : ops[k]? = some o) (hk : p k = false)
    (hdeps : ∀ ed ∈ o.after.toList, Region.binds .any ed = true → p ed.on = true) {t : Tmp} (ht : t ∈ o.looksAt ops) (hno : ∀ q ∈ F, q.s = k → q.t ≠ t) : (anyF F p (foldT ops d.ES 0 p st.tm ops.size))[t]? = (T k)[t]? := by
  rw [anyF_no, slotsS_read hf hok hcl ho hk hdeps ht]
  intro q hq hb e
  by_cases hqs : k = q.s
  · exact hno q hq hqs.symm e
  · subst e
    have he := hfz.look q hq k o hqs ho ht
    obtain ⟨o', ed, ho', h1, h2, h3⟩ := edge_dep he
    rw [ho] at ho'; cases ho'
    have := hdeps ed h1 h2
    rw [h3] at this
    unfold pendB at hb
    rw [this] at hb; simp at hb
theorem midS_new (hok : okD ops = true) (hfz : FzOk F ops0 ops) (hf : SFacts cfg F st.H ops st.tm ops.size d T Hs) (hM : MidS I F cfg.P e0 Fr D st ops d Hs p e a w) {q : Fz} (hq : q ∈ F) (hk : p q.s = false) (ho : ops[q.s]? = some o) (hod : o.dst = some q.t)
    (hdeps : ∀ ed ∈ o.after.toList, Region.binds .any ed = true → p ed.on = true) (hp : ∀ j, p' j = (p j || Nat.beq j q.s)) (hlt : ∀ f ∈ d.fx, p f.1 = true ↔ f.1 < q.s) (he : d.E[q.s]? = some (.p (Hs q.s).length 0)) {Fr' : PH} {N : Nat → Nat}
    (hpd : Pend F cfg.P Fr Fr' p N a) (hfresh : e (Hs q.s).length = none) {e' : Env} (hle : Le (ext e (Hs q.s).length (.blk (N q.j))) e') {w' : World} (hm : Models I e' (Hs (q.s + 1)) (remPH Fr' (N q.j)) w') (hpq : pendB p q = true) :
    MidS I F cfg.P e0 Fr D st ops d Hs p' e' a w' := by
  have hE : d.ES[q.s]? = some (.q (.p (Hs q.s).length 0)) := by simp [SSt.ES, he]
  have hkn : q.s < ops.size := (Array.getElem?_eq_some_iff.1 ho).1
  have hle0 : Le e e' := (le_ext hfresh).trans hle
  obtain ⟨K, h2, h3, h4, h5⟩ := next_K hf hkn hp hlt
  have hsj : q.j ≠ q.s := (hfz.sep q hq q hq).1
  have hpq' : pendB p' q = false := by
    unfold pendB
    rw [hp q.s, show Nat.beq q.s q.s = true by rw [Nat.beq_eq]]; simp
  have hoth : ∀ q' ∈ F, q' ≠ q → pendB p' q' = pendB p q' := fun q' hq' hne => by
    have g1 : q'.j ≠ q.s := (hfz.sep q' hq' q hq).1
    have g2 : q'.s ≠ q.s := fun e => hne ((hfz.sep q' hq' q hq).2 (.inr (.inl e)))
    unfold pendB
    rw [hp, hp, beq_ne g1, beq_ne g2, Bool.or_false, Bool.or_false]
  have htm := hM.tm
  obtain ⟨hat, ⟨z, hz, hFz⟩, hFn⟩ := hpd.at_ q hq hpq
  have hNr : N q.j ≠ N q.j → False := fun h => h rfl
  refine ⟨hM.le.trans hle0, denL_ext ?_ fun i x v hx hv => ?_, hM.df, mid_closed hM.closed hp ho hdeps, hM.ro, K, remPH Fr' (N q.j), N, h2, h3, h4, by rw [h5]; exact hm, fun q' hq' hb => ?_, fun q1 hq1 q2 hq2 hb1 hb2 hN => ?_, fun m hmm => ?_⟩
  · have := htm.length
    rw [anyF_length, foldT_length] at this ⊢
    exact this
  · rw [slots_put hok ho hE hk hp, hod, anyF_get, putS_get] at hx
    by_cases hi : q.t = i
    · subst hi
      have hvv : v = .pointer (some ⟨N q.j, 0, none⟩) := by
        have h1 : a.tmps[q.t]? = some v := by simpa using hv
        rw [hat] at h1; cases h1; rfl
      have hl : q.t < (foldT ops d.ES 0 p st.tm ops.size).length := by
        have := htm.length
        rw [anyF_length] at this
        rw [this]
        exact (List.getElem?_eq_some_iff.1 hv).1
      rw [if_pos ⟨rfl, hl⟩] at hx
      simp only [Option.map_some, Option.some.injEq] at hx
      rw [anyAt_no] at hx
      · subst hx
        simp only [Den, Ef.val]
        exact ⟨_, hle.blk (ext_self _ _ _), hvv⟩
      · intro q' hq' hb e
        by_cases hne : q' = q
        · subst hne; rw [hpq'] at hb; cases hb
        · exact hne ((hfz.sep q' hq' q hq).2 (.inr (.inr e)))
    · rw [if_neg (by rintro ⟨h, _⟩; simp only [Option.some.injEq] at h; exact hi h)] at hx
      refine (htm.at (x := x) ?_ hv).mono hle0
      rw [anyF_get, ← hx]
      cases (foldT ops d.ES 0 p st.tm ops.size)[i]? with
      | none => rfl
      | some y =>
        simp only [Option.map_some, Option.some.injEq]
        have : F.any (fun q' => pendB p' q' && Nat.beq q'.t i) = F.any (fun q' => pendB p q' && Nat.beq q'.t i) := by
          rw [Bool.eq_iff_iff, List.any_eq_true, List.any_eq_true]
          constructor
          · rintro ⟨q', hq', hb⟩
            refine ⟨q', hq', ?_⟩
            by_cases hne : q' = q
            · subst hne; rw [beq_ne hi] at hb; simp at hb
            · rw [← hoth q' hq' hne]; exact hb
          · rintro ⟨q', hq', hb⟩
            refine ⟨q', hq', ?_⟩
            by_cases hne : q' = q
            · subst hne; rw [beq_ne hi] at hb; simp at hb
            · rw [hoth q' hq' hne]; exact hb
        unfold anyAt
        rw [this]
  · by_cases hne : q' = q
    · subst hne; rw [hpq'] at hb; cases hb
    · have hb' : pendB p q' = true := by rw [← hoth q' hq' hne]; exact hb
      obtain ⟨g1, ⟨z', g2, g3⟩, g4⟩ := hpd.at_ q' hq' hb'
      refine ⟨g1, ⟨z', g2, ?_⟩, g4⟩
      unfold remPH
      rw [if_neg (fun e => hne (hpd.inj q' hq' q hq hb' hpq e))]
      exact g3
  · have hn1 : q1 ≠ q := fun e => by subst e; rw [hpq'] at hb1; cases hb1
    have hn2 : q2 ≠ q := fun e => by subst e; rw [hpq'] at hb2; cases hb2
    exact hpd.inj q1 hq1 q2 hq2 (by rw [← hoth q1 hq1 hn1]; exact hb1) (by rw [← hoth q2 hq2 hn2]; exact hb2) hN
  · unfold remPH
    split
    · rename_i e; subst e; exact hFn.symm
    · rename_i hne
      refine hpd.same m fun q' hq' hb => ?_
      by_cases hqq : q' = q
      · subst hqq; exact fun e => hne e.symm
      · exact hmm q' hq' (by rw [hoth q' hq' hqq]; exact hb)
end
theorem SLd.keeps {cfg : Cfg τ} {F : List Fz} {k : Nat} (hc : ∀ g ac, cfg.acon g = some ac → AConOk I cfg.P g ac) {o : Oper} {tm : List SV} {H H' : List (SB τ)} {x : SV} {ws : List Nat} {b : Nat} (h : SLd cfg F k o tm H x H' ws) (hw : hasN ws b = false) (hb : b < H.length) : H'[b]? = H[b]? ∧ H.length ≤ H'.length := by
  rcases h with ⟨_, _, _, q, _, _, z, c, y, _, h, _⟩ | ⟨_, _, c, h, _⟩ | ⟨_, f, args, ats, g, fi, ca, fn, hop, hcal, hfn, hn, hbd, hpre, hhas⟩
  · obtain ⟨h1, h2⟩ := stepL_keeps h hw (by simp; omega)
    rw [List.getElem?_append_left hb] at h1
    exact ⟨h1, by simp at h2; omega⟩
  · exact stepL_keeps h hw hb
  · unfold callA at hhas
    split at hhas
    · split at hhas
      · obtain ⟨_, rfl, _⟩ := hhas; exact ⟨rfl, Nat.le_refl _⟩
      · exact hhas.elim
    · split at hhas
      · rename_i ac hac; exact (hc g ac hac).keeps _ _ _ _ _ _ hhas hw hb
      · exact hhas.elim
section
variable {cfg : Cfg τ} {F : List Fz} {ops : Array Oper} {st : St τ} {d : SSt τ} {T : Nat → List SV} {Hs : Nat → List (SB τ)} {e0 e : Env} {Fr : PH} {a : Act} {w : World} {p p' : Nat → Bool} {k : Nat} {o : Oper}
theorem keep_step (hac : ∀ g ac, cfg.acon g = some ac → AConOk I cfg.P g ac) (hf : SFacts cfg F st.H ops st.tm ops.size d T Hs) {m b : Nat} (hm : m < ops.size) (hb : b < (Hs m).length) (hx : ∀ f ∈ d.fx, f.1 = m → hasN f.2 b = false ∨ (Hs (f.1 + 1))[b]? = (Hs f.1)[b]?) : (Hs (m + 1))[b]? = (Hs m)[b]? := by
  have ho : ops[m]? = some ops[m] := by simp [hm]
  obtain ⟨x, bb, _, _, _, h4⟩ := hf.step m _ hm ho
  rcases h4 with ⟨_, _, h5⟩ | ⟨_, _, h5, _⟩ | ⟨_, ws, h5, h6⟩ | ⟨_, _, h5, _⟩
  · rw [h5]
  · rw [h5]
  rotate_left
  · rw [h5]
  · rcases hx _ h6 rfl with h7 | h7
    · exact (h5.keeps hac h7 hb).1
    · exact h7
theorem keep_range (hac : ∀ g ac, cfg.acon g = some ac → AConOk I cfg.P g ac) (hf : SFacts cfg F st.H ops st.tm ops.size d T Hs) {b i : Nat} : ∀ c, i ≤ c → c ≤ ops.size → b < (Hs i).length → (∀ f ∈ d.fx, i ≤ f.1 → f.1 < c → hasN f.2 b = false ∨ (Hs (f.1 + 1))[b]? = (Hs f.1)[b]?) → (Hs c)[b]? = (Hs i)[b]?
  | 0, h, _, _, _ => by rw [Nat.le_zero.1 h]
  | c + 1, h, hc, hb, hx => by
    by_cases he : i = c + 1
    · rw [he]
    · have h1 := keep_range hac hf c (by omega) (by omega) hb fun f hff h3 h4 => hx f hff h3 (by omega)
      have hb2 : b < (Hs c).length := by
        rw [List.getElem?_eq_getElem hb] at h1
        exact (List.getElem?_eq_some_iff.1 h1).1
      have h5 := keep_step hac hf (m := c) (b := b) (by omega) hb2 fun f hff h3 => hx f hff (by omega) (by omega)
      exact h5.trans h1
theorem look_ok (hac : ∀ g ac, cfg.acon g = some ac → AConOk I cfg.P g ac) (hf : SFacts cfg F st.H ops st.tm ops.size d T Hs) (hl : LookOk ops d.HS d.H d.fx d.rd) (hc : Closed ops p) (ho : ops[k]? = some o) (hk : p k = false)
    (hdeps : ∀ ed ∈ o.after.toList, Region.binds .any ed = true → p ed.on = true) {b : Nat} (hrd : (k, b) ∈ d.rd) (hne : ∀ f ∈ d.fx, f.1 ≠ k) {K : Nat} (h1 : K ≤ ops.size) (h2 : ∀ f ∈ d.fx, p f.1 = true ↔ f.1 < K) (h3 : K < ops.size → ∃ f ∈ d.fx, f.1 = K)
    {it : SB τ} (hit : (Hs k)[b]? = some it) : (Hs K)[b]? = some it := by
  have hkn : k < ops.size := (Array.getElem?_eq_some_iff.1 ho).1
  have hl := hl.h (k, b) hrd
  have eHs : ∀ f ∈ d.fx, d.HS.getD (f.1 + 1) d.H = Hs (f.1 + 1) := fun f hff => by
    have hfl := (hf.fxs f hff).1
    rw [List.getD]
    rcases Nat.lt_or_ge (f.1 + 1) ops.size with h7 | h7
    · rw [hf.hist _ h7]; rfl
    · rw [List.getElem?_eq_none (by rw [hf.lenH]; exact h7)]
      have : f.1 + 1 = ops.size := by omega
      rw [this, hf.stopH]; rfl
  rcases Nat.lt_or_ge K k with hKk | hkK
  · have key : ∀ f ∈ d.fx, K ≤ f.1 → f.1 < k → (hasN f.2 b = false ∨ (Hs (f.1 + 1))[b]? = (Hs f.1)[b]?) ∧ b < (Hs f.1).length := fun f hff h4 h5 => by
      have := (hl f hff).1 h5
      have hh := hf.hist f.1 (by omega)
      have e1 : d.HS.getD f.1 [] = Hs f.1 := by rw [List.getD, hh]; rfl
      rcases this with hpath | ⟨h6, h7⟩ | ⟨h6, h7⟩
      · have hp := path_ready hc ho hdeps hpath
        have := (h2 f hff).1 hp
        omega
      · rw [e1] at h7
        exact ⟨.inl h6, h7⟩
      · rw [e1] at h7
        rw [e1, eHs f hff] at h6
        exact ⟨.inr h6, h7⟩
    obtain ⟨f0, hf0, hfK⟩ := h3 (by omega)
    have hlen : b < (Hs K).length := by
      have := (key f0 hf0 (by omega) (by omega)).2
      rw [hfK] at this; exact this
    have := keep_range hac hf k (by omega) (by omega) hlen fun f hff h4 h5 => (key f hff h4 h5).1
    rw [← this]; exact hit
  · have hlen : b < (Hs k).length := (List.getElem?_eq_some_iff.1 hit).1
    have := keep_range hac hf K hkK h1 hlen fun f hff h4 h5 => by
      rcases (hl f hff).2 (by omega) with hpath | h6 | h6
      · have hp := path_closed hc _ _ _ hpath ((h2 f hff).2 h5)
        rw [hp] at hk; cases hk
      · exact .inl h6
      · right
        have hfl := (hf.fxs f hff).1
        have e1 : d.HS.getD f.1 [] = Hs f.1 := by rw [List.getD, hf.hist f.1 hfl]; rfl
        have e2 : d.HS.getD (f.1 + 1) d.H = Hs (f.1 + 1) := by
          rw [List.getD]
          rcases Nat.lt_or_ge (f.1 + 1) ops.size with h7 | h7
          · rw [hf.hist _ h7]; rfl
          · rw [List.getElem?_eq_none (by rw [hf.lenH]; exact h7)]
            have : f.1 + 1 = ops.size := by omega
            rw [this, hf.stopH]; rfl
        rw [e1, e2] at h6
        exact h6
    rw [this]; exact hit
end
theorem seq_step {cfg : Cfg τ} (hpc : ∀ g pc, cfg.pcon g = some pc → PConOk I cfg.P g pc) (hac : ∀ g ac, cfg.acon g = some ac → AConOk I cfg.P g ac) {F : List Fz} {ops0 ops : Array Oper} {st : St τ} {d : SSt τ} {T : Nat → List SV} {Hs : Nat → List (SB τ)} {e0 e : Env} {Fr : PH} {a : Act} {w : World} {p p' : Nat → Bool} {k : Nat} {r : Option Nat}
    {Q : Exit → Act → World → Prop} {K : Act → World → Prop} (hok : okD ops = true) (hfz : FzOk F ops0 ops) (hin : ∀ q ∈ F, q.t < st.tm.length) (hch : chainB ops d.fx = true) (hlk : LookOk ops d.HS d.H d.fx d.rd) (hf : SFacts cfg F st.H ops st.tm ops.size d T Hs) (hM : MidS I F cfg.P e0 Fr D st ops d Hs p e a w) {o o0 : Oper} (ho : ops[k]? = some o) (ho0 : ops0[k]? = some o0) (hk : p k = false)
    (hdeps : ∀ ed ∈ o.after.toList, Region.binds .any ed = true → p ed.on = true) (hp : ∀ j, p' j = (p j || Nat.beq j k)) (hK : ∀ e' a' w', MidS I F cfg.P e0 Fr D st ops d Hs p' e' a' w' → K a' w') : wpOpIn (FF r) 0 cfg.P ops0 Q k K a w := by
  have hkn : k < ops.size := (Array.getElem?_eq_some_iff.1 ho).1
  obtain ⟨x, b, hE, _, hw, hef⟩ := hf.step k o hkn ho
  by_cases hnf : NoF F k
  rotate_left
  · -- the new cells, or the store that writes them
    have hex : ∃ q ∈ F, q.j = k ∨ q.s = k := by
      refine Classical.byContradiction fun hn => hnf ⟨fun q hq => ⟨fun e => hn ⟨q, hq, .inl e⟩, fun e => hn ⟨q, hq, .inr e⟩⟩⟩
    obtain ⟨q, hq, hqk⟩ := hex
    rcases hqk with rfl | rfl
    · obtain ⟨o1, g1, g2, g3, g4, g5⟩ := hfz.al q hq
      rw [g1] at ho0; cases ho0
      rw [g5] at ho; cases ho
      have hb : b = true := by unfold wantS at hw; simp only [g4] at hw; exact hw
      subst hb
      rcases hef with ⟨h, _⟩ | ⟨_, hs, _⟩ | ⟨_, ws, hs, hfx⟩ | ⟨_, rfl, _, _⟩
      · cases h
      · exact absurd rfl (hs.1.h q hq).1
      · exact absurd rfl (hf.alo _ hfx q hq)
      unfold wpOpIn
      rw [g1]
      have hwant : Region.wanted o0 (yielded ops0 a.tmps) = true := by unfold Region.wanted; rw [g4]
      simp only [hwant, if_true]
      refine ⟨fun _ _ => trivial, ?_⟩
      show o0.uponIn (FF r) 0 cfg.P a K Q ((o0.semAt r a.eval).run cfg.P w)
      rw [semAt_eq (by intro c hc; rw [g2] at hc; cases hc)]
      obtain ⟨z, hz⟩ : ∃ z, zeroT cfg.P q.T = some z := by
        obtain ⟨o2, x2, f1, f2, f3, f4, f5⟩ := hfz.st q hq
        obtain ⟨x3, b3, _, _, hw3, h3⟩ := hf.step q.s _ (by have := (Array.getElem?_eq_some_iff.1 f5).1; exact this) f5
        have hb3 : b3 = true := by unfold wantS at hw3; simp only [f4] at hw3; exact hw3
        subst hb3
        rcases h3 with ⟨h, _⟩ | ⟨_, hs, _⟩ | ⟨_, ws, hs, hfx⟩ | ⟨_, _, _, q', hq', e'⟩
        · cases h
        · exact absurd rfl (hs.1.h q hq).2
        · rcases hs with ⟨_, _, _, q', hq', e', z, _, _, hz, _⟩ | ⟨hs, _⟩ | ⟨hs, _⟩
          · have := (hfz.sep q' hq' q hq).2 (.inr (.inl e'))
            subst this
            exact ⟨z, hz⟩
          · exact absurd rfl (hs.h q hq).2
          · exact absurd rfl (hs.h q hq).2
        · exact absurd e' (hfz.sep q' hq' q hq).1
      have hr : (execOp a.eval o0).run cfg.P w = .ok (.value (.pointer (some ⟨w.heap.size, 0, none⟩))) { w with heap := w.heap.push (.cells z.cells.toList.toArray q.T) } := by
        simp [execOp, g2, Instr.alloc, run_zeroT hz, newVar, newRow]
      rw [hr]
      have := hK _ _ _ (midS_wait hok hin hfz hf hM hq hk g5 rfl hdeps hp hE hz)
      show K (a.put o0.dst _) _
      rw [g3]; exact this
    · obtain ⟨o1, x1, g1, g2, g3, g4, g5⟩ := hfz.st q hq
      rw [g1] at ho0; cases ho0
      have ho' := ho
      rw [g5] at ho; cases ho
      have hb : b = true := by unfold wantS at hw; simp only [g4] at hw; exact hw
      subst hb
      rcases hef with ⟨h, _⟩ | ⟨_, hs, _⟩ | ⟨_, ws, hs, hfx⟩ | ⟨_, _, _, q', hq', e'⟩
      · cases h
      · exact absurd rfl (hs.1.h q hq).2
      rotate_left
      · exact absurd e' (hfz.sep q' hq' q hq).1
      rcases hs with ⟨hv, _, rfl, q', hq', e', z, c, y, hz, hl, hc⟩ | ⟨hs, _⟩ | ⟨hs, _⟩
      rotate_left
      · exact absurd rfl (hs.h q hq).2
      · exact absurd rfl (hs.h q hq).2
      have := (hfz.sep q' hq' q hq).2 (.inr (.inl e'))
      subst this
      obtain ⟨⟨Fr', N, hm0, hpd⟩, hlt⟩ := midS_at hch hf hM ho' hk hdeps hfx
      have hpq : pendB p q' = true := by
        obtain ⟨o3, ed, ho3, h1, h2, h3⟩ := edge_dep (hfz.edge q' hq)
        rw [ho'] at ho3; cases ho3
        have := hdeps ed h1 h2
        rw [h3] at this
        unfold pendB
        rw [this, hk]; rfl
      obtain ⟨hat, ⟨z2, hz2, hFz⟩, hFn⟩ := hpd.at_ q' hq hpq
      rw [hz] at hz2; cases hz2
      have hro : I.ro (N q'.j) = none := by
        cases hI : I.ro (N q'.j) with
        | none => rfl
        | some x => have := hM.ro _ _ hI; rw [hFn] at this; cases this
      have hfresh := hm0.fresh
      have hm1 := hm0.claim hFz (DenL.plain z.cells.toList) hro
      have htl := hM.tm.length
      rw [anyF_length, foldT_length] at htl
      have hTl : (T q'.s).length = st.tm.length := by rw [factsS_T hf (Nat.le_refl _) q'.s (by omega), foldT_length]
      have ht1 : DenL (ext e (Hs q'.s).length (.blk (N q'.j))) ((anyF F p (foldT ops d.ES 0 p st.tm ops.size)).set q'.t (.p (Hs q'.s).length 0)) a.tmps.toList := by
        refine denL_ext (by rw [List.length_set, anyF_length, foldT_length]; exact htl) fun i x v hx hv => ?_
        by_cases hi : q'.t = i
        · subst hi
          rw [List.getElem?_set_self (by rw [anyF_length, foldT_length]; exact hin q' hq)] at hx
          simp only [Option.some.injEq] at hx
          subst hx
          have h1 : a.tmps[q'.t]? = some v := by simpa using hv
          rw [hat] at h1; cases h1
          simp only [Den]
          exact ⟨_, ext_self _ _ _, rfl⟩
        · rw [List.getElem?_set_ne hi] at hx
          exact (hM.tm.at hx hv).mono (le_ext hfresh)
      have hev1 : ∀ x ∈ o0.op.operands.toList, ev ((T q'.s).set q'.t (.p (Hs q'.s).length 0)) x = ev ((anyF F p (foldT ops d.ES 0 p st.tm ops.size)).set q'.t (.p (Hs q'.s).length 0)) x := fun x hx => ev_slots fun t e => by
        subst e
        by_cases hi : q'.t = t
        · subst hi
          rw [List.getElem?_set_self (by rw [hTl]; exact hin q' hq), List.getElem?_set_self (by rw [anyF_length, foldT_length]; exact hin q' hq)]
        · rw [List.getElem?_set_ne hi, List.getElem?_set_ne hi]
          have hlk2 : t ∈ ({ o0 with dst := some q'.t } : Oper).looksAt ops := looks_of_operand hx
          exact (slotsA_read hfz hf hok hM.closed ho' hk hdeps hlk2 fun q2 hq2 e2 e3 => hi (by rw [(hfz.sep q2 hq2 q' hq).2 (.inr (.inl e2))] at e3; exact e3)).symm
      rw [stepL_congr hev1] at hl
      obtain ⟨nx, v, w', e', hr, hnx, hle, hm, hd⟩ := stepL_ok (o := o0) hm1 ht1 hl hc
      unfold wpOpIn
      rw [g1]
      have hwant : Region.wanted o0 (yielded ops0 a.tmps) = true := by unfold Region.wanted; rw [g4]
      simp only [hwant, if_true]
      refine ⟨fun _ _ => trivial, ?_⟩
      show o0.uponIn (FF r) 0 cfg.P a K Q ((o0.semAt r a.eval).run cfg.P w)
      rw [semAt_eq (notDefer_L hl), hr]
      have := hK _ _ _ (midS_new hok hfz hf hM hq hk ho' rfl hdeps hp hlt hE hpd hfresh hle hm hpq)
      have hput : a.put o0.dst v = a := by rw [g3]; rfl
      rcases hnx with rfl | ⟨rfl, rfl⟩
      · show K (a.put o0.dst v) w'
        rw [hput]; exact this
      · first
        | exact this
        | (show K (a.put o0.dst undef) w'; rw [g3]; exact this)
  have hoo : o0 = o := by rw [hfz.norm k hnf, ho0] at ho; cases ho; rfl
  subst hoo
  have hds := hfz.dst hok hnf ho
  have hread : ∀ t ∈ o0.looksAt ops, (anyF F p (foldT ops d.ES 0 p st.tm ops.size))[t]? = (T k)[t]? := fun t ht => slotsA_read hfz hf hok hM.closed ho hk hdeps ht fun q hq e => absurd e (hnf.h q hq).2
  have hev : ∀ x ∈ o0.op.operands.toList, ev (T k) x = ev (anyF F p (foldT ops d.ES 0 p st.tm ops.size)) x := fun x hx => (ev_slots fun t e => by subst e; exact hread t (looks_of_operand hx)).symm
  unfold wpOpIn
  rw [ho0]
  have hwant : Region.wanted o0 (yielded ops0 a.tmps) = b := by
    unfold wantS at hw
    unfold Region.wanted
    split at hw
    · rename_i hg; rw [hg, hw]
    · rename_i j wt hg
      rw [hg]
      obtain ⟨t, x, h1, h2, h3⟩ := hw
      have hsame : (ops[j]?).bind (·.dst) = (ops0[j]?).bind (·.dst) := by rw [hfz.norm j (hfz.guard k o0 j wt ho0 hg)]
      have h1' := h1
      rw [hsame] at h1'
      have h4 := hread t (looks_of_guard hg h1)
      rw [h2] at h4
      obtain ⟨v, hv, hdv⟩ := hM.tm.get h4
      have hv' : a.tmps[t]? = some v := by simpa using hv
      rcases h3 with ⟨h3, rfl⟩ | ⟨q, h3, rfl⟩
      · have hnb := boolV_none h3 hdv
        have : yielded ops0 a.tmps j = none := by
          simp only [yielded, h1', Option.bind_some, hv']
          cases v <;> first | rfl | exact absurd rfl (hnb _)
        simp [this]
      · obtain ⟨_, rfl⟩ := boolV_some h3 hdv
        have : yielded ops0 a.tmps j = some q := by simp [yielded, h1', hv']
        simp [this]
  simp only [hwant]
  rcases hef with ⟨rfl, rfl, _⟩ | ⟨rfl, hs, _, hrd⟩ | ⟨rfl, ws, hs, hfx⟩ | ⟨_, _, _, q, hq, e⟩
  rotate_right
  · exact absurd e (hnf.h q hq).1
  · simp only [Bool.false_eq_true, if_false]
    refine ⟨fun _ _ => trivial, hK e _ _ (midS_same hok hM ho hk hnf hds hdeps hp hE (by simp [Den]) (fun f hff hfk => ?_))⟩
    obtain ⟨_, o', g2, g5, _⟩ := hf.fxs f hff
    rw [hfk] at g2 g5
    rw [ho] at g2; cases g2
    exact wantS_det g5 hw
  · simp only [if_true]
    refine ⟨fun _ _ => trivial, ?_⟩
    show o0.uponIn (FF r) 0 cfg.P a K Q ((o0.semAt r a.eval).run cfg.P w)
    obtain ⟨_, c, hv, hc⟩ := hs
    have hne : ∀ f ∈ d.fx, f.1 ≠ k := fun f hff hfk => by
      obtain ⟨_, o', g2, _, g3⟩ := hf.fxs f hff
      rw [hfk] at g2 g3
      rw [ho] at g2; cases g2
      rw [hv] at g3; cases g3
    obtain ⟨Kk, Fr', N, h1, h2, h3, h4, h5⟩ := hM.models
    have hlook : ∀ b it, touch o0.op (anyF F p (foldT ops d.ES 0 p st.tm ops.size)) = some b → (Hs k)[b]? = some it → (Hs Kk)[b]? = some it := fun b it hb hit =>
      look_ok hac hf hlk hM.closed ho hk hdeps (hrd b (by rw [touch_congr hev]; exact hb)) hne h1 h2 h3 hit
    have hv2 := stepV_heap (by rw [← stepV_congr hev]; exact hv) hlook
    obtain ⟨v, hr, hd⟩ := stepV_ok (o := o0) h4 hM.tm hv2 hc
    rw [semAt_eq (notDefer_V hv), hr]
    exact hK e _ _ (midS_same hok hM ho hk hnf hds hdeps hp hE hd hne)
  · simp only [if_true]
    refine ⟨fun _ _ => trivial, ?_⟩
    show o0.uponIn (FF r) 0 cfg.P a K Q ((o0.semAt r a.eval).run cfg.P w)
    obtain ⟨⟨Fr', N, hm0, hpd⟩, hlt⟩ := midS_at hch hf hM ho hk hdeps hfx
    rcases hs with ⟨_, _, _, q, hq, e, _⟩ | ⟨_, _, c, hv, hc⟩ | ⟨_, f, args, ats, g, fi, ca, fn, hop, hcal, hfn, hn, hb, hpre, hhas⟩
    · exact absurd e (hnf.h q hq).2
    · rw [stepL_congr hev] at hv
      obtain ⟨nx, v, w', e', hr, hnx, hle, hm, hd⟩ := stepL_ok (o := o0) hm0 hM.tm hv hc
      rw [semAt_eq (notDefer_L hv), hr]
      have := hK _ _ _ (midS_next hok hf hM ho hk hnf hds hdeps hp hlt hE hle hm hpd hd)
      rcases hnx with rfl | ⟨rfl, rfl⟩
      · exact this
      · exact this
    · have hargs := evs_ok hM.tm args.toList
      have e2 : (args.toList.map a.eval).toArray = args.map a.eval := by apply Array.toList_inj.1; simp
      have hmemA : ∀ x ∈ args.toList, x ∈ o0.op.operands.toList := fun x hx => by rw [hop]; simp only [Op.operands, Call.operands, Array.toList_append, List.mem_append]; exact .inr hx
      have hmemF : f ∈ o0.op.operands.toList := by rw [hop]; simp [Op.operands, Call.operands]
      rw [ev_map_congr (tm' := (anyF F p (foldT ops d.ES 0 p st.tm ops.size))) fun x hx => hev x (hmemA x hx)] at hpre hhas
      rw [hev f hmemF] at hcal
      obtain ⟨fs, cs, hfv, hfi, hca⟩ := callee_ok hcal (ev_ok hM.tm f)
      rw [semAt_eq (by intro c hc; rw [hop] at hc; cases hc)]
      have henter : ∀ (as : Array Value) (w : World), (callFunc g as).run cfg.P w = .ok (.enter g as) w := fun as w => by
        simp only [callFunc, Sem.run_bind, run_program, Result.andThen_ok, hfn, hn, hb, Bool.false_eq_true, if_false, Sem.run_pure]
      have hr : (execOp a.eval o0).run cfg.P w = .ok (.enter g (fs ++ args.map a.eval ++ cs)) w := by
        simp [execOp, hop, resolve, hfv, Deferred.ofValue, invoke, henter]
      rw [hr]
      have e3 : (fs.toList ++ args.toList.map a.eval ++ cs.toList).toArray = fs ++ args.map a.eval ++ cs := by apply Array.toList_inj.1; simp
      have hcall : Calls cfg.P g (fs ++ args.map a.eval ++ cs) w fun en w' => ∃ e' v, en = .returned v ∧ Le e e' ∧ Models I e' (Hs (k + 1)) Fr' w' ∧ Den e' x v := by
        rw [← e3]
        unfold callA at hpre hhas
        split at hpre
        · rename_i pc hpcg
          split at hpre
          · rename_i φ' x' hpx
            simp only [hpcg, hpx] at hhas
            obtain ⟨rfl, hHs, _⟩ := hhas
            refine (hpc g pc hpcg _ (Hs k) [] _ _ e Fr' w _ hpx hpre.1 ((hfi.append hargs).append hca) (by simpa using hm0)).mono fun en w' hh => ?_
            obtain ⟨v, rfl, hdv, hext⟩ := hh
            exact ⟨e, v, rfl, Le.refl e, by rw [hHs]; exact hm0.grow hext, hdv⟩
          · exact hpre.elim
        · rename_i hpcg
          split at hpre
          · rename_i ac hacg
            simp only [hpcg, hacg] at hhas
            refine ((hac g ac hacg).ok _ _ e Fr' w _ hpre ((hfi.append hargs).append hca) hm0).mono fun en w' hh => ?_
            obtain ⟨x2, H2, ws2, e', v, g1, rfl, g3, g4, g5⟩ := hh
            obtain ⟨rfl, rfl, _⟩ := has_unique g1 hhas
            exact ⟨e', v, rfl, g3, g4, g5⟩
          · exact hpre.elim
      refine ⟨(fun hc => by cases hc), (calls_FF hcall).mono fun en w' he => ?_⟩
      obtain ⟨e', v, rfl, hle, hm, hd⟩ := he
      exact hK _ _ _ (midS_next hok hf hM ho hk hnf hds hdeps hp hlt hE hle hm hpd hd)
theorem seq_any {cfg : Cfg τ} (hpc : ∀ g pc, cfg.pcon g = some pc → PConOk I cfg.P g pc) (hac : ∀ g ac, cfg.acon g = some ac → AConOk I cfg.P g ac) {F : List Fz} {ops0 ops : Array Oper} {st : St τ} {d : SSt τ} {T : Nat → List SV} {Hs : Nat → List (SB τ)} {e0 : Env} {Fr : PH} {r : Option Nat}
    {Q : Exit → Act → World → Prop} (hok : okD ops = true) (hfz : FzOk F ops0 ops) (hin : ∀ q ∈ F, q.t < st.tm.length) (hch : chainB ops d.fx = true) (hlk : LookOk ops d.HS d.H d.fx d.rd) (hf : SFacts cfg F st.H ops st.tm ops.size d T Hs)
    (hfin : ∀ e a w, Le e0 e → StOk I e Fr D { st with tm := d.tm, H := d.H } a w → Q .normal a w) :
    ∀ (fuel : Nat) (listed : Array Bool) (e : Env) (a : Act) (w : World), listed.size = ops.size → left ops.size (fun k => listed.getD k false) ≤ fuel →
      MidS I F cfg.P e0 Fr D st ops d Hs (fun k => listed.getD k false) e a w → wpAnyIn (FF r) 0 cfg.P .any ops0 Q fuel listed a w := by
  -- when nothing may come up, all has been carried out
  have hall : ∀ (listed : Array Bool), listed.size = ops.size → Region.ready .any ops0 listed = [] → ∀ k, k < ops.size → listed.getD k false = true := by
    intro listed hsz hr k
    induction k using Nat.strongRecOn with
    | _ k ih =>
      intro hk
      cases hb : listed.getD k false with
      | true => rfl
      | false =>
        have : k ∈ Region.ready .any ops0 listed := by
          rw [mem_ready]
          have hk0 : k < ops0.size := by rw [← hfz.size]; exact hk
          obtain ⟨o', ho', haf⟩ := hfz.after k ops0[k] (by simp [hk0])
          refine ⟨?_, ops0[k], by simp [hk0], fun ed hed hbd => ?_⟩
          · have h1 : listed[k]? = some listed[k] := by simp [show k < listed.size by omega]
            simp only [Array.getD_eq_getD_getElem?, h1, Option.getD_some] at hb ⊢
            exact hb
          · have := okD_edges hok (k := k) (o := o') ho' ed (by rw [haf]; simpa using hed) hbd
            exact ih ed.on this (by omega)
        rw [hr] at this; cases this
  have hend : ∀ (listed : Array Bool) (e : Env) (a : Act) (w : World), listed.size = ops.size → Region.ready .any ops0 listed = [] →
      MidS I F cfg.P e0 Fr D st ops d Hs (fun k => listed.getD k false) e a w → Q .normal a w := by
    intro listed e a w hsz hr hM
    have ha := hall listed hsz hr
    have hnop : ∀ q ∈ F, pendB (fun k => listed.getD k false) q = false := fun q hq => by
      obtain ⟨o1, x1, _, _, _, _, g5⟩ := hfz.st q hq
      have := ha q.s (Array.getElem?_eq_some_iff.1 g5).1
      unfold pendB
      simp only [this]; simp
    refine hfin e a w hM.le ⟨?_, ?_, hM.df⟩
    · obtain ⟨K, Fr', N, h1, h2, h3, h4, h5⟩ := hM.models
      have hKn : K = ops.size := by
        rcases Nat.lt_or_ge K ops.size with h | h
        · obtain ⟨f, hff, hfK⟩ := h3 h
          have := (h2 f hff).1 (ha f.1 (hf.fxs f hff).1)
          omega
        · omega
      rw [hKn, hf.stopH] at h4
      have hFr : Fr' = Fr := funext fun m => h5.same m fun q hq hb => by
        rw [hnop q hq] at hb; cases hb
      rw [hFr] at h4
      exact h4
    · have hT : foldT ops d.ES 0 (fun k => listed.getD k false) st.tm ops.size = d.tm := by
        rw [← hf.stop, factsS_T hf (Nat.le_refl _) ops.size (Nat.le_refl _)]
        refine List.ext_getElem? fun t => foldT_slot _ fun j oj hj _ _ => ?_
        simp only [ha j hj]
      have hA : anyF F (fun k => listed.getD k false) (foldT ops d.ES 0 (fun k => listed.getD k false) st.tm ops.size) = foldT ops d.ES 0 (fun k => listed.getD k false) st.tm ops.size := by
        refine List.ext_getElem? fun t => anyF_no fun q hq hb => ?_
        rw [hnop q hq] at hb; cases hb
      rw [← hT, ← hA]; exact hM.tm
  intro fuel
  induction fuel with
  | zero =>
    intro listed e a w hsz hl hM
    have hr : Region.ready .any ops0 listed = [] := by
      cases hr : Region.ready .any ops0 listed with
      | nil => rfl
      | cons i is =>
        have hi : i ∈ Region.ready .any ops0 listed := by rw [hr]; exact List.mem_cons_self
        rw [mem_ready] at hi
        obtain ⟨h0, o, ho, _⟩ := hi
        have hin : i < ops.size := by rw [hfz.size]; exact (Array.getElem?_eq_some_iff.1 ho).1
        have h1 : listed[i]? = some listed[i] := by simp [show i < listed.size by omega]
        have h2 : listed.getD i false = false := by
          simp only [Array.getD_eq_getD_getElem?, h1, Option.getD_some] at h0 ⊢
          exact h0
        have : i ∈ (List.range ops.size).filter fun k => !listed.getD k false := by
          rw [List.mem_filter]; exact ⟨List.mem_range.2 hin, by simp [h2]⟩
        have hpos := List.length_pos_of_mem this
        exact absurd (Nat.lt_of_lt_of_le hpos hl) (Nat.lt_irrefl 0)
    exact ⟨hr, hend listed e a w hsz hr hM⟩
  | succ fuel ih =>
    intro listed e a w hsz hl hM
    refine ⟨fun hr => hend listed e a w hsz hr hM, fun i hi => ?_⟩
    rw [mem_ready] at hi
    obtain ⟨h0, o, ho, hdeps⟩ := hi
    have hii : i < ops.size := by rw [hfz.size]; exact (Array.getElem?_eq_some_iff.1 ho).1
    obtain ⟨o', ho', haf⟩ := hfz.after i o ho
    have h1 : listed[i]? = some listed[i] := by simp [show i < listed.size by omega]
    have h2 : listed.getD i false = false := by
      simp only [Array.getD_eq_getD_getElem?, h1, Option.getD_some] at h0 ⊢
      exact h0
    have hp : ∀ j, (listed.setIfInBounds i true).getD j false = (listed.getD j false || Nat.beq j i) := by
      intro j
      by_cases hji : j = i
      · subst hji
        have e1 : Nat.beq j j = true := by rw [Nat.beq_eq]
        rw [e1, Bool.or_true]
        simp [show j < listed.size by omega]
      · have e1 : Nat.beq j i = false := by
          cases hq : Nat.beq j i with
          | false => rfl
          | true => rw [Nat.beq_eq] at hq; exact absurd hq hji
        rw [e1, Bool.or_false, getD_set_ne false (fun e => hji e.symm)]
    refine seq_step hpc hac (p' := fun k => (listed.setIfInBounds i true).getD k false) hok hfz hin hch hlk hf hM ho' ho h2 (fun ed hed hb => hdeps ed (by rw [haf] at hed; simpa using hed) hb) hp fun e' a' w' hM' => ?_
    refine ih _ e' a' w' (by simpa using hsz) ?_ hM'
    have : left ops.size (fun k => (listed.setIfInBounds i true).getD k false) < left ops.size (fun k => listed.getD k false) := by
      refine filter_lt (y := i) (fun x _ hx => ?_) (List.mem_range.2 hii) (by simp [h2]) (by show (!(listed.setIfInBounds i true).getD i false) = false; rw [hp]; simp)
      have hx : (!(listed.setIfInBounds i true).getD x false) = true := hx
      rw [hp] at hx
      show (!listed.getD x false) = true
      cases hq : listed.getD x false with
      | false => simp
      | true => rw [hq] at hx; simp at hx
    omega
theorem zip_get {ops : Array Oper} {k : Nat} {o : Oper} (h : ops[k]? = some o) : (o, k) ∈ ops.toList.zipIdx := by rw [List.mem_zipIdx_iff_getElem?]; simpa using h
theorem fuse_get {F : List Fz} {ops : Array Oper} {k : Nat} : (fuseF F ops)[k]? = (ops[k]?).map (fzOp F k) := by
  unfold fuseF
  rw [List.getElem?_toArray, List.getElem?_map, List.getElem?_zipIdx]
  cases h : ops[k]? with
  | none => simp [h]
  | some o => simp [h]
theorem okFz_ok {F : List Fz} {ops : Array Oper} (h : okFz F ops (fuseF F ops) = true) : FzOk F ops (fuseF F ops) := by
  have h0 : ∀ q ∈ F, okFz1 F ops (fuseF F ops) q = true := by simpa [okFz, List.all_eq_true] using h
  have hsep : ∀ q ∈ F, ∀ q' ∈ F, q.j ≠ q'.s ∧ (q.j = q'.j ∨ q.s = q'.s ∨ q.t = q'.t → q = q') := by
    intro q hq q' hq'
    have := h0 q hq
    simp only [okFz1, Bool.and_eq_true, List.all_eq_true] at this
    have := this.2 q' hq'
    simp only [Bool.and_eq_true, Bool.or_eq_true, Bool.not_eq_true', Nat.beq_eq] at this
    obtain ⟨h1, h2⟩ := this
    refine ⟨(fun e => by rw [← Nat.beq_eq] at e; rw [e] at h1; cases h1), fun e => ?_⟩
    rcases h2 with h2 | h2
    · exfalso
      have : (Nat.beq q.j q'.j || Nat.beq q.s q'.s || Nat.beq q.t q'.t) = true := by
        simp only [Bool.or_eq_true, Nat.beq_eq]
        rcases e with e | e | e
        · exact .inl (.inl e)
        · exact .inl (.inr e)
        · exact .inr e
      rw [this] at h2; cases h2
    · obtain ⟨⟨⟨g1, g2⟩, g3⟩, g4⟩ := h2
      cases q; cases q'
      simp only at g1 g2 g3 g4
      subst g1; subst g2; subst g3; subst g4; rfl
  have hfj : ∀ q ∈ F, F.find? (fun q' => Nat.beq q'.j q.j) = some q := by
    intro q hq
    cases hx : F.find? (fun q' => Nat.beq q'.j q.j) with
    | none => exact absurd rfl (find_none (f := Fz.j) hx q hq)
    | some q' =>
      obtain ⟨g1, g2⟩ := find_some (f := Fz.j) hx
      rw [(hsep q' g1 q hq).2 (.inl g2)]
  have hfs : ∀ q ∈ F, F.find? (fun q' => Nat.beq q'.j q.s) = none ∧ F.find? (fun q' => Nat.beq q'.s q.s) = some q := by
    intro q hq
    constructor
    · cases hx : F.find? (fun q' => Nat.beq q'.j q.s) with
      | none => rfl
      | some q' =>
        obtain ⟨g1, g2⟩ := find_some (f := Fz.j) hx
        exact absurd g2 (hsep q' g1 q hq).1
    · cases hx : F.find? (fun q' => Nat.beq q'.s q.s) with
      | none => exact absurd rfl (find_none (f := Fz.s) hx q hq)
      | some q' =>
        obtain ⟨g1, g2⟩ := find_some (f := Fz.s) hx
        rw [(hsep q' g1 q hq).2 (.inr (.inl g2))]
  have haft : ∀ k o, (fzOp F k o).after = o.after := fun k o => by
    unfold fzOp
    split
    · rfl
    · split <;> rfl
  refine ⟨by simp [fuseF], fun k hn => ?_, fun k o ho => ⟨fzOp F k o, by rw [fuse_get, ho]; rfl, haft k o⟩, fun q hq => ?_, fun q hq => ?_, fun q hq => ?_, fun q hq k o hne ho ht => ?_, fun k o j w ho hg => ⟨fun q hq => ?_⟩, hsep⟩
  · rw [fuse_get]
    have : ∀ o, fzOp F k o = o := fun o => by
      unfold fzOp
      cases hx : F.find? (fun q' => Nat.beq q'.j k) with
      | some q' => obtain ⟨g1, g2⟩ := find_some (f := Fz.j) hx; exact absurd g2 (hn.h q' g1).1
      | none =>
        cases hy : F.find? (fun q' => Nat.beq q'.s k) with
        | some q' => obtain ⟨g1, g2⟩ := find_some (f := Fz.s) hy; exact absurd g2 (hn.h q' g1).2
        | none => rfl
    cases ops[k]? with
    | none => rfl
    | some o => simp [this]
  · have hq1 := h0 q hq
    simp only [okFz1, Bool.and_eq_true] at hq1
    have hq1 := hq1.1.1.1.1.1
    cases ho : ops[q.j]? with
    | none => rw [ho] at hq1; cases hq1
    | some o =>
      rw [ho] at hq1
      simp only [Bool.and_eq_true, Option.isNone_iff_eq_none] at hq1
      obtain ⟨⟨g1, g2⟩, g3⟩ := hq1
      refine ⟨o, rfl, ?_, ?_, g3, ?_⟩
      · split at g1
        · rename_i T' hop; rw [Nat.beq_eq] at g1; rw [hop, g1]
        · cases g1
      · split at g2
        · rename_i t hd; rw [Nat.beq_eq] at g2; rw [hd, g2]
        · cases g2
      · rw [fuse_get, ho]
        simp only [Option.map_some, fzOp, hfj q hq]
  · have hq1 := h0 q hq
    simp only [okFz1, Bool.and_eq_true] at hq1
    have hq1 := hq1.1.1.1.1.2
    cases ho : ops[q.s]? with
    | none => rw [ho] at hq1; cases hq1
    | some o =>
      rw [ho] at hq1
      simp only [Bool.and_eq_true, Option.isNone_iff_eq_none] at hq1
      obtain ⟨⟨g1, g2⟩, g3⟩ := hq1
      split at g1
      · rename_i T' a' x' hop
        simp only [Bool.and_eq_true, Nat.beq_eq] at g1
        obtain ⟨g4, g5⟩ := g1
        split at g5
        · rename_i t
          rw [Nat.beq_eq] at g5
          subst g4; subst g5
          refine ⟨o, x', rfl, hop, g2, g3, ?_⟩
          rw [fuse_get, ho]
          simp only [Option.map_some, fzOp, (hfs q hq).1, (hfs q hq).2]
        · cases g5
      · cases g1
  · have hq1 := h0 q hq
    simp only [okFz1, Bool.and_eq_true] at hq1
    have hq1 := hq1.1.1.1.2
    unfold edgeB at hq1 ⊢
    rw [fuse_get]
    cases ho : ops[q.s]? with
    | none => rw [ho] at hq1; cases hq1
    | some o => rw [ho] at hq1; simp only [Option.map_some, haft]; exact hq1
  · have hq1 := h0 q hq
    simp only [okFz1, Bool.and_eq_true, List.all_eq_true] at hq1
    have := hq1.1.1.2 (o, k) (zip_get ho)
    simp only [Bool.or_eq_true, Nat.beq_eq, Bool.not_eq_true'] at this
    rcases this with (h | h) | h
    · exact absurd h hne
    · have h2 : (o.looksAt (fuseF F ops)).contains q.t = true := by simpa using ht
      rw [h2] at h; cases h
    · exact h
  · have hq1 := h0 q hq
    simp only [okFz1, Bool.and_eq_true, List.all_eq_true] at hq1
    have := hq1.1.2 o (by have := Array.mem_of_getElem? ho; simpa using this)
    rw [hg] at this
    simp only [Bool.and_eq_true, Bool.not_eq_true'] at this
    obtain ⟨g1, g2⟩ := this
    constructor
    · intro e; rw [← Nat.beq_eq] at e; rw [e] at g1; cases g1
    · intro e; rw [← Nat.beq_eq] at e; rw [e] at g2; cases g2
theorem seq_start {cfg : Cfg τ} (hmix : cfg.P.follows .mixedOrders = true) (hpc : ∀ g pc, cfg.pcon g = some pc → PConOk I cfg.P g pc) (hac : ∀ g ac, cfg.acon g = some ac → AConOk I cfg.P g ac) {id : Nat} {F : List Fz} {ops0 ops : Array Oper} {st : St τ} {K : St τ → Prop} {e : Env} {Fr : PH} {a : Act} {w : World} {r : Option Nat}
    {Q : Exit → Act → World → Prop} {d : SSt τ} {T : Nat → List SV} {Hs : Nat → List (SB τ)} (hD : okD ops = true) (hfz : FzOk F ops0 ops) (hin : ∀ q ∈ F, q.t < st.tm.length) (hos : chainB ops d.fx = true) (hlk : LookOk ops d.HS d.H d.fx d.rd) (hf : SFacts cfg F st.H ops st.tm ops.size d T Hs)
    (hK : K { st with tm := d.tm, H := d.H }) (hok : StOk I e Fr D st a w) (hnext : NextOk (D := D) I e Fr st K (Q .normal)) : (Code.region id ops0 true).wpIn (FF r) 0 cfg.P Q a w := by
  refine wpIn_region_any hmix (seq_any (e0 := e) (Fr := Fr) hpc hac hD hfz hin hos hlk hf (fun e' a' w' hle hst => hnext e' { st with tm := d.tm, H := d.H } a' w' (LeB.of_le hle) rfl rfl hst hK) _ _ e a _ (by simp [hfz.size]) (by rw [hfz.size]; unfold left; exact Nat.le_trans (List.length_filter_le _ _) (by simp)) ?_)
  have hp : (fun k => (Array.replicate ops0.size false).getD k false) = fun _ => false := by
    funext k
    by_cases hk : k < ops0.size <;> simp [hk]
  rw [hp]
  have hT : ∀ m, foldT ops d.ES 0 (fun _ => false) st.tm m = st.tm := by
    intro m
    induction m with
    | zero => rfl
    | succ m ih => simp only [foldT, ih]
  have hA : ∀ tm, anyF F (fun _ => false) tm = tm := fun tm => List.ext_getElem? fun t => anyF_no fun q _ hb => by simp [pendB] at hb
  obtain ⟨K0, h1, h2, h3, h4⟩ := next_fx d.fx ops.size ops.size 0 (by omega) fun f hff => (hf.fxs f hff).1
  refine ⟨Le.refl e, by rw [hT, hA]; exact hok.tm, hok.df, (fun k o _ hk => by cases hk), hok.models.1.ro, K0, Fr, fun _ => 0, h2, fun f hff => ?_, h4, ?_, ?_⟩
  · have := h3 f hff (by omega)
    constructor
    · intro hh; cases hh
    · intro hh; omega
  · rw [Hs_const hf K0 h1 h2 fun f hff hh => by have := h3 f hff hh.1; omega, hf.startH]
    exact hok.models.heap (w' := { w with drawn := w.drawn + 1 }) rfl ⟨rfl, rfl⟩
  · exact ⟨fun q _ hb => by simp [pendB] at hb, fun q _ q' _ hb => by simp [pendB] at hb, fun _ _ => rfl⟩
theorem start_facts {cfg : Cfg τ} {F : List Fz} {ops : Array Oper} {st : St τ} : SFacts cfg F st.H ops st.tm 0 { tm := st.tm, H := st.H, E := [], HS := [], fx := [], rd := [] } (fun _ => st.tm) (fun _ => st.H) :=
  ⟨rfl, rfl, rfl, rfl, rfl, rfl, fun j hj => by omega, fun j o hj => by omega, (fun f hf => by cases hf), (fun f hf => by cases hf), List.Pairwise.nil⟩
theorem seq_ok {cfg : Cfg τ} (hmix : cfg.P.follows .mixedOrders = true) (hpc : ∀ g pc, cfg.pcon g = some pc → PConOk I cfg.P g pc) (hac : ∀ g ac, cfg.acon g = some ac → AConOk I cfg.P g ac) {id : Nat} {ops : Array Oper} {st : St τ} {K : St τ → Prop} {e : Env} {Fr : PH} {a : Act} {w : World} {r : Option Nat}
    {Q : Exit → Act → World → Prop} (h : seqK cfg ops st K) (hok : StOk I e Fr D st a w) (hnext : NextOk (D := D) I e Fr st K (Q .normal)) : (Code.region id ops true).wpIn (FF r) 0 cfg.P Q a w := by
  unfold seqK at h
  split at h
  · rename_i hD
    obtain ⟨d, T, Hs, hf, hK⟩ := seqGo_facts (H0 := st.H) (tm0 := st.tm) ops.toList 0 _ (fun _ => st.tm) (fun _ => st.H) (by intro i; simp) (by simp) start_facts h
    split at hK
    · rename_i hos
      obtain ⟨hK, hlk⟩ := looksQ_ok hK
      exact seq_start hmix hpc hac hD (FzOk.nil ops) (fun q hq => by cases hq) hos hlk hf hK hok hnext
    · unfold seqF at hK
      split at hK
      · rename_i hD2
        rw [Bool.and_eq_true] at hD2
        have hfz := okFz_ok hD2.2
        split at hK
        · exact hK.elim
        · rename_i hin
          rw [List.all_eq_true] at hin
          obtain ⟨d2, T2, Hs2, hf2, hK2⟩ := seqGo_facts (H0 := st.H) (tm0 := st.tm) (fuseF (pairsF ops) ops).toList 0 _ (fun _ => st.tm) (fun _ => st.H) (by intro i; simp) (by simp) start_facts hK
          split at hK2
          · rename_i hos
            obtain ⟨hK3, hlk⟩ := looksQ_ok hK2
            exact seq_start hmix hpc hac hD2.1 hfz (fun q hq => by have := hin q hq; rwa [Nat.blt_eq] at this) hos hlk hf2 hK3 hok hnext
          · exact hK2.elim
      · exact hK.elim
  · exact h.elim
end Go.Sym
namespace Go.Sym
open Go
variable {τ : Type} {I : Inv τ} {D : List Deferred}
def gotoK (cfg : Cfg τ) (rec : Rec τ) (c : Code) (K : Exit → St τ → Prop) : Nat → Nat → St τ → Prop
  | 0, _, _ => False
  | d + 1, l, st => match findLabel c l with
    | none => K (.goto l) st
    | some rest => match cfg.ann (firstReg rest) with
      | none => rec rest st (fun ex s => match ex with
        | .goto l' => gotoK cfg rec c K d l' s
        | e => K e s)
      | some A => fxK A st fun st => match A.get st with
        | some x0 => A.φ st x0 ∧ weakP st (A.f st x0) ∧ ∀ x, A.φ st x → rec rest (A.f st x) (fun ex s => match ex with
          | .goto l' => match Nat.beq l' l with
            | true => fxK A s fun s => match A.get s with
              | some y => A.φ st y ∧ weakP s (A.f st y) ∧ A.μ st y < A.μ st x
              | none => False
            | false => gotoK cfg rec c K d l' s
          | e => K e s)
        | none => False
section
variable {F : Fence} {P : Program} {b : Frame} {a : Act} {k : List Item} {cs : List Frame} {w : World}
theorem stepR_scope' {c : Code} : step P (lone (b.atR a (.code (.scope c) :: k)) cs w) = .next (lone (b.atR a (.code c :: .inScope c :: k)) cs w) :=
  step_lone_go (by simp [stepG, stepG.exec, Frame.atR])
theorem stepR_inScope' {c : Code} : step P (lone (b.atR a (.inScope c :: k)) cs w) = .next (lone (b.atR a k) cs w) :=
  step_lone_go (by simp [stepG, stepG.exec, Frame.atR])
def scW (F : Fence) (n : Nat) (P : Program) (c x : Code) (Q : Exit → Act → World → Prop) (a : Act) (w : World) : Prop :=
  ∀ (b : Frame) (k : List Item) (cs : List Frame), b.roundOf = F.round → F.fn b.fn → F.room (cs.length + 1 + n) →
    ∃ e a' w', Q e a' w' ∧ ArrivesIn (Machine.fenced P F) P (lone (b.atR a (.code x :: .inScope c :: k)) cs w) b k cs e a' w'
variable {n : Nat} {Q : Exit → Act → World → Prop}
theorem wpIn_scope {c : Code} (h : scW F n P c c Q a w) : (Code.scope c).wpIn F n P Q a w := fun b k cs hro hb hr => by
  obtain ⟨e, a1, w1, hq, harr⟩ := h b k cs hro hb hr
  exact ⟨e, a1, w1, hq, .of_steps (.one (fenced_calm hb hr rfl) stepR_scope') harr⟩
theorem scW_of {c x : Code} (h : x.wpIn F n P (fun ex a w => match ex with
    | .goto l => match findLabel c l with
      | some rest => scW F n P c rest Q a w
      | none => Q (.goto l) a w
    | e => Q e a w) a w) : scW F n P c x Q a w := by
  intro b k cs hro hb hr
  obtain ⟨e, a₁, w₁, hq, harr⟩ := h b (.inScope c :: k) cs hro hb hr
  cases e with
  | normal => exact ⟨.normal, a₁, w₁, hq, StepsIn.trans harr (.one (fenced_calm hb hr rfl) stepR_inScope')⟩
  | exit id =>
    have hx : exitTo id (.inScope c :: k) = exitTo id k := by simp [exitTo]
    exact ⟨_, a₁, w₁, hq, fun k' hk => harr.1 k' (by rw [hx]; exact hk), fun hr' hk => harr.2 hr' (by rw [hx]; exact hk)⟩
  | goto l =>
    simp only at hq
    split at hq
    · rename_i rest hf
      have hg : gotoIn l (.inScope c :: k) = some (.code rest :: .inScope c :: k) := by simp [gotoIn, hf]
      obtain ⟨e₂, a₂, w₂, hq₂, harr₂⟩ := hq b k cs hro hb hr
      exact ⟨e₂, a₂, w₂, hq₂, .of_steps (harr.1 _ hg) harr₂⟩
    · rename_i hf
      have hx : gotoIn l (.inScope c :: k) = gotoIn l k := by simp [gotoIn, hf]
      exact ⟨_, a₁, w₁, hq, fun k' hk => harr.1 k' (by rw [hx]; exact hk), fun hr' hk => harr.2 hr' (by rw [hx]; exact hk)⟩
  | ret => exact ⟨_, a₁, w₁, hq, harr⟩
  | panic ch => exact ⟨_, a₁, w₁, hq, harr⟩
  | outgrown => exact ⟨_, a₁, w₁, hq, harr⟩
theorem scW_mono {c x : Code} {Q' : Exit → Act → World → Prop} (h : scW F n P c x Q a w) (hq : ∀ e a w, Q e a w → Q' e a w) : scW F n P c x Q' a w := fun b k cs hro hb hr => by
  obtain ⟨e, a1, w1, h1, h2⟩ := h b k cs hro hb hr
  exact ⟨e, a1, w1, hq _ _ _ h1, h2⟩
end
theorem gotoK_ok {cfg : Cfg τ} {rec : Rec τ} (hrec : RecOk I cfg.P rec) {c : Code} {K : Exit → St τ → Prop} {r : Option Nat} : ∀ (d l : Nat) (st : St τ) (e : Env) (Fr : PH) (D : List Deferred) (a : Act) (w : World), st.rnd = r.isSome →
    gotoK cfg rec c K d l st → StOk I e Fr D st a w → match findLabel c l with
      | some rest => scW (FF r) 0 cfg.P c rest (Post I e Fr D st K) a w
      | none => Post I e Fr D st K (.goto l) a w
  | 0, _, _, _, _, _, _, _, _, h, _ => h.elim
  | d + 1, l, st, e, Fr, D, a, w, hr, h, hok => by
    unfold gotoK at h
    split at h
    · rename_i hf
      rw [hf]
      exact Post.here (LeB.refl _ _) rfl rfl hok h
    · rename_i rest hf
      rw [hf]
      split at h
      · refine scW_of (wpIn_mono (hrec rest st _ e Fr D a w r hr h hok) fun ex a1 w1 hp => ?_)
        obtain ⟨e1, s1, Fr1, D1, g1, g2, g3, gG, g4, g5⟩ := hp
        cases ex with
        | goto l' =>
          simp only at g5 ⊢
          have := gotoK_ok hrec d l' s1 e1 Fr1 D1 a1 w1 (g3.trans hr) g5 g4
          split at this
          · rename_i rest' hf'
            try rw [hf']
            exact scW_mono this fun ex a w hq => Post.trans g1 g2 g3 gG hq
          · rename_i hf'
            try rw [hf']
            exact Post.trans g1 g2 g3 gG this
        | _ => exact ⟨e1, s1, Fr1, D1, g1, g2, g3, gG, g4, g5⟩
      · rename_i A hA
        obtain ⟨ef, stf, lf, okf, bf, rf, h⟩ := fxK_ok hok h
        split at h
        · rename_i x0 hx0
          obtain ⟨h0, hw0', hround⟩ := h
          have hw0 := weakP_ok hw0'
          obtain ⟨e0, l0, ok0⟩ := weak_ok okf hw0
          have hlb : LeB st.base e e0 := LeB.trans lf (bf ▸ l0)
          have key : ∀ m x e' Fr' D' a w, A.μ stf x = m → A.φ stf x → LeB st.base e e' → (A.f stf x).base = st.base → (A.f stf x).rnd = st.rnd → (Grow Fr D Fr' D' ∧ (st.rnd = true → Fr' = Fr)) → StOk I e' Fr' D' (A.f stf x) a w → scW (FF r) 0 cfg.P c rest (Post I e Fr D st K) a w := by
            intro m
            induction m using Nat.strongRecOn with
            | _ m ih =>
              intro x e' Fr' D' a w hm hx hl hb hrn hG hok'
              refine scW_of (wpIn_mono (hrec rest (A.f stf x) _ e' Fr' D' a w r (hrn.trans hr) (hround x hx) hok') fun ex a1 w1 hp => ?_)
              obtain ⟨e1, s1, Fr1, D1, g1, g2, g3, gG, g4, g5⟩ := hp
              have hT : Grow Fr D Fr1 D1 ∧ (st.rnd = true → Fr1 = Fr) := ⟨hG.1.trans gG.1, fun q => (gG.2 (hrn.trans q)).trans (hG.2 q)⟩
              cases ex with
              | goto l' =>
                simp only at g5 ⊢
                split at g5
                · rename_i hll
                  rw [Nat.beq_eq] at hll
                  subst hll
                  try rw [hf]
                  obtain ⟨e3, s2, l3, ok3, b3, r3, g5⟩ := fxK_ok g4 g5
                  split at g5
                  · rename_i y hy0
                    obtain ⟨hy, hwk', hlt⟩ := g5
                    have hwk := weakP_ok hwk'
                    obtain ⟨e2, k1, k2⟩ := weak_ok ok3 hwk
                    refine ih (A.μ stf y) (hm ▸ hlt) y e2 Fr1 D1 a1 w1 rfl hy (hl.trans ?_) ?_ ?_ hT k2
                    · rw [← hb]
                      refine g1.trans (LeB.trans (g2 ▸ l3) ?_)
                      rw [← g2, ← b3]; exact k1
                    · rw [← hwk.base, b3, g2, hb]
                    · rw [← hwk.rnd, r3, g3, hrn]
                  · exact g5.elim
                · have := gotoK_ok hrec d l' s1 e1 Fr1 D1 a1 w1 (g3.trans (hrn.trans hr)) g5 g4
                  split at this
                  · rename_i rest' hf'
                    try rw [hf']
                    exact scW_mono this fun ex a w hq => Post.trans (hl.trans (hb ▸ g1)) (g2.trans hb) (g3.trans hrn) hT hq
                  · rename_i hf'
                    try rw [hf']
                    exact Post.trans (hl.trans (hb ▸ g1)) (g2.trans hb) (g3.trans hrn) hT this
              | _ => exact ⟨e1, s1, Fr1, D1, hl.trans (hb ▸ g1), g2.trans hb, g3.trans hrn, hT, g4, g5⟩
          exact key _ x0 e0 Fr D a w rfl h0 hlb (hw0.base.symm.trans bf) (hw0.rnd.symm.trans rf) ⟨Grow.refl Fr D, fun _ => rfl⟩ ok0
        · exact h.elim
theorem scope_ok {cfg : Cfg τ} {rec : Rec τ} (hrec : RecOk I cfg.P rec) {c : Code} {K : Exit → St τ → Prop} {Fr : PH} {r : Option Nat} {d : Nat} {st : St τ} {e : Env} {a : Act} {w : World} (hr : st.rnd = r.isSome)
    (h : rec c st (fun ex s => match ex with
      | .goto l => gotoK cfg rec c K d l s
      | e => K e s)) (hok : StOk I e Fr D st a w) : (Code.scope c).wpIn (FF r) 0 cfg.P (Post I e Fr D st K) a w := by
  refine wpIn_scope (scW_of (wpIn_mono (hrec c st _ e Fr D a w r hr h hok) fun ex a1 w1 hp => ?_))
  obtain ⟨e1, s1, Fr1, D1, g1, g2, g3, gG, g4, g5⟩ := hp
  cases ex with
  | goto l' =>
    simp only at g5 ⊢
    have := gotoK_ok hrec d l' s1 e1 Fr1 D1 a1 w1 (g3.trans hr) g5 g4
    split at this
    · rename_i rest' hf'
      try rw [hf']
      exact scW_mono this fun ex a w hq => Post.trans g1 g2 g3 gG hq
    · rename_i hf'
      try rw [hf']
      exact Post.trans g1 g2 g3 gG this
  | _ => exact ⟨e1, s1, Fr1, D1, g1, g2, g3, gG, g4, g5⟩
end Go.Sym
namespace Go.Sym
open Go
def loudW {τ : Type} (cfg : Cfg τ) (o : Op) : Nat :=
  match o with
  | .makeSlice _ _ _ => 2
  | .buildSlice _ _ _ => 2
  | .range _ _ => 2
  | .next _ _ => 2
  | .store _ _ _ => 2
  | .makeMap _ _ => 2
  | .call { callee := .builtin .unsafeString, .. } => 2
  | .call { callee := .builtin .append, .. } => 2
  | .call { callee := .builtin .copy, .. } => 2
  | .call { callee := .value f, .. } => match f with
    | .func g => match cfg.pcon g with
      | some _ => 0
      | none => 2
    | _ => 2
  | _ => 0
def loudSum {τ : Type} (cfg : Cfg τ) : List Oper → Nat
  | [] => 0
  | o :: r => loudW cfg o.op + loudSum cfg r
def jKey (c : Code) : Nat :=
  match c with
  | .region id ops _ => (id + 1) * 64 + ops.size
  | c => firstReg c + 1000000
def run {τ : Type} (cfg : Cfg τ) : Nat → Rec τ
  | 0 => fun _ _ _ => False
  | n + 1 => fun c st K => match c with
    | .skip => K .normal st
    | .seq a b => match cfg.join (jKey a) with
      | none => run cfg n a st (fun ex st' => match ex with
        | .normal => run cfg n b st' K
        | e => K e st')
      | some A => forceSt st fun st => run cfg n a st (fun ex st' => match ex with
        | .normal => joinK A st st'
        | e => K e st') ∧ ∀ x, A.φ st x → run cfg n b (A.f st x) K
    | .cond c x y => match ev st.tm c with
      | .v (.bool b) => br b (run cfg n x { st with tm := setB c true st.tm } K) (run cfg n y { st with tm := setB c false st.tm } K)
      | _ => False
    | .block id c => run cfg n c st (fun ex st' => match ex with
      | .exit id' => match Nat.beq id' id with
        | true => K .normal st'
        | false => K (.exit id') st'
      | e => K e st')
    | .loop body => match cfg.ann (firstReg body) with
      | some A => match A.on st with
        | true => annK A (run cfg n) body st K
        | false => roundsK (run cfg n) body K cfg.unroll st
      | none => roundsK (run cfg n) body K cfg.unroll st
    | .exit id => K (.exit id) st
    | .ret => K .ret st
    | .region _ ops draw => match draw with
      | false => opsK cfg (run cfg n) ops ops.toList st (K .normal)
      | true => match Nat.ble 2 (loudSum cfg ops.toList) with
        | true => seqK cfg ops st (K .normal)
        | false => drawK cfg ops st (K .normal)
    | .rangeFunc f ps asg body => match st.rnd with
      | true => False
      | false => match calleeS (ev st.tm f) with
        | some (g, fi, ca) =>
          callK cfg (run cfg n) g (fi ++ [.y (st.H.length + 1)] ++ ca) (st.H ++ [.obj (.deferred (some []))] ++ [.loop .ready none st.tm ps asg body st.H.length]) (fun _ H2 =>
            match H2[st.H.length + 1]? with
            | some (.loop ls pd t2 ps2 a2 b2 d2) => match ls == .busy with
              | true => False
              | false => match H2[st.H.length]? with
                | some (.obj (.deferred (some []))) =>
                  let st' : St τ := { st with H := (H2.set (st.H.length + 1) (.loop .exhausted pd t2 ps2 a2 b2 d2)).set st.H.length .gone }
                  match pd with
                  | none => K .normal st'
                  | some c => run cfg n c st' K
                | _ => False
            | _ => False)
        | none => False
    | .scope c => run cfg n c st (fun ex st' => match ex with
      | .goto l => gotoK cfg (run cfg n) c K 6 l st'
      | e => K e st')
    | .label _ => K .normal st
    | .goto l => K (.goto l) st
    | _ => False
variable {τ : Type} {I : Inv τ} {D : List Deferred}
structure CfgOk (I : Inv τ) (cfg : Cfg τ) : Prop where
  mixed : cfg.P.follows .mixedOrders = true
  con : ConsOk I cfg
  pcon : ∀ g pc, cfg.pcon g = some pc → PConOk I cfg.P g pc
theorem run_ok {cfg : Cfg τ} (hc : CfgOk I cfg) : ∀ n, RecOk I cfg.P (run cfg n)
  | 0 => fun _ _ _ _ _ _ _ _ _ _ h _ => h.elim
  | n + 1 => by
    have ih := run_ok hc n
    have hcon := hc.con
    intro c st K e Fr D a w r hr h hok
    have same : ∀ ex, K ex st → Post I e Fr D st K ex a w := fun ex hk => Post.here (LeB.refl _ _) rfl rfl hok hk
    cases c with
    | skip => exact wpIn_skip (same _ h)
    | exit id => exact wpIn_exit (same _ h)
    | ret => exact wpIn_ret (same _ h)
    | goto l => exact wpIn_goto (same _ h)
    | label l => exact wpIn_label (same _ h)
    | scope b => exact scope_ok ih hr h hok
    | refuse y => exact h.elim
    | seq x y =>
      simp only [run] at h
      split at h
      · refine wpIn_seq (wpIn_mono (ih x st _ e Fr D a w r hr h hok) fun ex a1 w1 hp => ?_)
        obtain ⟨e1, s1, Fr1, D1, g1, g2, g3, gG, g4, g5⟩ := hp
        cases ex with
        | normal => exact wpIn_mono (ih y s1 K e1 Fr1 D1 a1 w1 r (g3.trans hr) g5 g4) fun ex2 a2 w2 hq => hq.trans g1 g2 g3 gG
        | _ => exact ⟨e1, s1, Fr1, D1, g1, g2, g3, gG, g4, g5⟩
      · rename_i A hA
        rw [forceSt_eq] at h
        obtain ⟨h1, h2⟩ := h
        refine wpIn_seq (wpIn_mono (ih x st _ e Fr D a w r hr h1 hok) fun ex a1 w1 hp => ?_)
        obtain ⟨e1, s1, Fr1, D1, g1, g2, g3, gG, g4, g5⟩ := hp
        cases ex with
        | normal =>
          obtain ⟨e3, s2, l3, ok3, b3, r3, g5⟩ := fxK_ok g4 g5
          split at g5
          · rename_i z hz
            obtain ⟨hφ, hwk'⟩ := g5
            have hwk := weakP_ok hwk'
            obtain ⟨e2, k1, k2⟩ := weak_ok ok3 hwk
            have hb : (A.f st z).base = st.base := by rw [← hwk.base, b3, g2]
            have hrn : (A.f st z).rnd = st.rnd := by rw [← hwk.rnd, r3, g3]
            have hl : LeB st.base e e2 := by
              refine g1.trans (LeB.trans (g2 ▸ l3) ?_)
              rw [← g2, ← b3]; exact k1
            exact wpIn_mono (ih y (A.f st z) K e2 Fr1 D1 a1 w1 r (hrn.trans hr) (h2 z hφ) k2) fun ex2 a2 w2 hq => Post.trans hl hb hrn gG hq
          · exact g5.elim
        | _ => exact ⟨e1, s1, Fr1, D1, g1, g2, g3, gG, g4, g5⟩
    | cond c x y =>
      simp only [run] at h
      split at h
      · rename_i b hb
        have hcv := ev_ok hok.tm c
        rw [hb] at hcv
        simp only [Den] at hcv
        have hokb := hok.setB hb
        refine wpIn_cond (t := b) hcv ?_
        rcases br_elim h with ⟨rfl, hk⟩ | ⟨rfl, hk⟩
        · simp only [if_true]; exact wpIn_mono (ih x { st with tm := setB c true st.tm } K e Fr D a w r hr hk hokb) fun ex2 a2 w2 hq => hq
        · simp only [Bool.false_eq_true, if_false]; exact wpIn_mono (ih y { st with tm := setB c false st.tm } K e Fr D a w r hr hk hokb) fun ex2 a2 w2 hq => hq
      · exact h.elim
    | block id c =>
      refine wpIn_block (wpIn_mono (ih c st _ e Fr D a w r hr h hok) fun ex a1 w1 hp => ?_)
      obtain ⟨e1, s1, Fr1, D1, g1, g2, g3, gG, g4, g5⟩ := hp
      cases ex with
      | exit id' =>
        simp only [Exit.inBlock]
        simp only at g5
        split at g5
        · rename_i hb
          rw [Nat.beq_eq] at hb
          rw [if_pos hb]
          exact ⟨e1, s1, Fr1, D1, g1, g2, g3, gG, g4, g5⟩
        · rename_i hb
          have : ¬ id' = id := fun hh => by rw [← Nat.beq_eq] at hh; rw [hh] at hb; cases hb
          rw [if_neg this]
          exact ⟨e1, s1, Fr1, D1, g1, g2, g3, gG, g4, g5⟩
      | _ => exact ⟨e1, s1, Fr1, D1, g1, g2, g3, gG, g4, g5⟩
    | loop body =>
      simp only [run] at h
      split at h
      · split at h
        · exact ann_ok ih hr h hok
        · exact wpIn_loop_rounds _ (rounds_ok ih _ st e Fr D a w hr h hok)
      · exact wpIn_loop_rounds _ (rounds_ok ih _ st e Fr D a w hr h hok)
    | region id ops draw =>
      simp only [run] at h
      split at h
      · exact wpIn_region_list (ops_ok ih hcon ops.toList st e a w h hok fun e' st' a' w' g1 g2 g3 g4 g5 => Post.here g1 g2 g3 g4 g5)
      · split at h
        · exact seq_ok hc.mixed hc.pcon hc.con.acon h hok fun e' st' a' w' g1 g2 g3 g4 g5 => Post.here g1 g2 g3 g4 g5
        · exact draw_ok hc.mixed hc.pcon h hok fun e' st' a' w' g1 g2 g3 g4 g5 => Post.here g1 g2 g3 g4 g5
    | rangeFunc f ps asg body =>
      simp only [run] at h
      split at h
      · exact h.elim
      · rename_i hrn
        have hrnone : r = none := by
          cases r with
          | none => rfl
          | some x => rw [hrn] at hr; cases hr
        subst hrnone
        split at h
        · rename_i g fi ca hcal
          obtain ⟨fs, cs, hf, hfi, hca⟩ := callee_ok hcal (ev_ok hok.tm f)
          obtain ⟨hle1, hM1⟩ := hok.models.newObj (.deferred (some []))
          have hlen1 : (st.H ++ [SB.obj (.deferred (some []))]).length = st.H.length + 1 := by simp
          refine wpIn_rangeFunc fun fn _ => ?_
          have hM2 := hM1.newLoop .ready none (ps := ps) (asg := asg) (body := body) fn (hok.tm.mono hle1) (d := st.H.length) (dn := w.heap.size) (by simp [ext])
          obtain ⟨hle2, hM2⟩ := hM2
          rw [hlen1] at hle2 hM2
          simp only [Array.size_push, Array.toArray_toList] at hle2 hM2
          have hle := hle1.trans hle2
          obtain ⟨E, hE⟩ : ∃ E, ext (ext e st.H.length (.blk w.heap.size)) (st.H.length + 1) (.blk (w.heap.size + 1)) = E := ⟨_, rfl⟩
          have hEl : E (st.H.length + 1) = some (.blk (w.heap.size + 1)) := by rw [← hE]; exact ext_self _ _ _
          have hEd : E st.H.length = some (.blk w.heap.size) := by rw [← hE, ext_ne _ _ _ (by omega)]; exact ext_self _ _ _
          rw [hE] at hle hM2
          obtain ⟨W, hW⟩ : ∃ W : World, { w with heap := (w.heap.push (.deferred (some []))).push (.loop { state := .ready, pending := none, fn := fn, tmps := a.tmps, params := ps, assign := asg, body := body, defers := w.heap.size }) } = W := ⟨_, rfl⟩
          rw [hW] at hM2
          have hyl : DenL E [.y (st.H.length + 1)] [.func (.yield (w.heap.size + 1)) #[] #[]] := by
            simp only [DenL, Den]; exact ⟨_, _, rfl, ⟨_, hEl, rfl⟩, rfl⟩
          have hargs := ((hfi.mono hle).append hyl).append (hca.mono hle)
          obtain ⟨henter, hcall⟩ := call_ok ih hcon h hargs (by simpa using hM2)
          have e3 : (fs.toList ++ [Value.func (.yield (w.heap.size + 1)) #[] #[]] ++ cs.toList).toArray = fs ++ #[Value.func (.yield (w.heap.size + 1)) #[] #[]] ++ cs := by apply Array.toList_inj.1; simp
          rw [e3] at hcall
          refine ⟨w.heap.size + 1, [{ target := .collected w.heap.size, args := #[] }], W, { target := .fn (.func g) cs, args := fs ++ #[Value.func (.yield (w.heap.size + 1)) #[] #[]] }, W, g, fs ++ #[Value.func (.yield (w.heap.size + 1)) #[] #[]] ++ cs, W, ?_, ?_, (fun _ _ => trivial), ?_, (fun hc => by cases hc), (calls_FF hcall).mono fun en w' he => ?_⟩
          · show (Instr.enterLoop fn a.tmps ps asg body none).run cfg.P w = _
            rw [← hW]
            simp [Instr.enterLoop]
            rfl
          · have hm : (#[Operand.const (.func (.yield (w.heap.size + 1)) #[] #[])].map a.eval) = #[Value.func (.yield (w.heap.size + 1)) #[] #[]] := by simp [Act.eval]
            simp only [resolve, hm, hf, Deferred.ofValue, Sem.run_pure]
          · simp [invoke, henter]
          · obtain ⟨x, H2, e2, v, rfl, le2, M2, hdv, hK⟩ := he
            split at hK
            · rename_i ls pd t2 ps2 a2 b2 d2 hi2
              split at hK
              · exact hK.elim
              · rename_i hbusy
                obtain ⟨m2, fn2, us2, dn2, p1, p2, p3, p4⟩ := M2.loopAt hi2
                have hl2 := le2.blk hEl
                rw [hl2] at p1; cases p1
                have M3 := M2.setLoop (st' := .exhausted) (pd' := pd) hi2 hl2 p2 p3 p4
                have hend : (Instr.endLoop (w.heap.size + 1)).run cfg.P w' = .ok pd { w' with heap := w'.heap.setIfInBounds (w.heap.size + 1) (.loop { state := .exhausted, pending := pd, fn := fn2, tmps := us2.toArray, params := ps2, assign := a2, body := b2, defers := dn2 }) } := by
                  simp only [Instr.endLoop, Sem.run_bind, run_getLoop p4, Result.andThen_ok, hbusy, Bool.false_eq_true, if_false, run_setObj (P := cfg.P) p4 (by intro c t f hc; cases hc), Sem.run_pure]
                split at hK
                · rename_i hdef
                  obtain ⟨n3, q1, q2, q3, M4⟩ := M3.giveF (i := st.H.length) (by rw [List.getElem?_set_ne (by omega)]; exact hdef)
                  rw [le2.blk hEd] at q1; cases q1
                  have ok3 : StOk I e2 (addF Fr w.heap.size (.deferred (some []))) ({ target := .collected w.heap.size, args := #[] } :: D) { st with H := (H2.set (st.H.length + 1) (.loop .exhausted pd t2 ps2 a2 b2 d2)).set st.H.length .gone } { a with defers := [{ target := .collected w.heap.size, args := #[] }] ++ a.defers } _ :=
                    ⟨M4, hok.tm.mono (hle.trans le2), hok.df.1, by rw [← hok.df.2]; rfl⟩
                  have hG : Grow Fr D (addF Fr w.heap.size (.deferred (some []))) ({ target := .collected w.heap.size, args := #[] } :: D) ∧ (st.rnd = true → addF Fr w.heap.size (.deferred (some [])) = Fr) := ⟨Grow.one q2, fun q => by rw [hrn] at q; cases q⟩
                  refine ⟨pd, _, hend, ?_⟩
                  cases pd with
                  | none => exact ⟨e2, { st with H := (H2.set (st.H.length + 1) (.loop .exhausted none t2 ps2 a2 b2 d2)).set st.H.length .gone }, _, _, LeB.of_le (hle.trans le2), rfl, rfl, hG, ok3, hK⟩
                  | some c =>
                    exact wpIn_mono (ih c { st with H := (H2.set (st.H.length + 1) (.loop .exhausted (some c) t2 ps2 a2 b2 d2)).set st.H.length .gone } K e2 _ _ _ _ none hr hK ok3) fun ex3 a3 w3 hq => Post.trans (st := st) (LeB.of_le (hle.trans le2)) rfl rfl hG hq
                · exact hK.elim
            · exact hK.elim
        · exact h.elim
end Go.Sym
namespace Go.Sym
open Go
variable {τ : Type} {I : Inv τ}
def noE : Env := fun _ => none
theorem cut_zero (e : Env) : cut e 0 = noE := by funext i; simp [cut, noE]
theorem den_noE {e : Env} {x : SV} {v : Value} (hs : scS 0 x = true) (h : Den e x v) : Den noE x v := by have := den_cut x v hs h; rwa [cut_zero] at this
theorem denL_noE {e : Env} {x : List SV} {v : List Value} (hs : scL 0 x = true) (h : DenL e x v) : DenL noE x v := by have := denL_cut x v hs h; rwa [cut_zero] at this
theorem le_noE (e : Env) : Le noE e := fun i r h => by cases h
abbrev PS := List SV → Option (Prop × SV)
def PureOk (P : Program) (g : FuncId) (ps : PS) : Prop :=
  ∀ (args : List SV) (φ : Prop) (x : SV), ps args = some (φ, x) → φ → scL 0 args = true ∧ scS 0 x = true ∧
    ∀ (w : World) (vs : List Value), Gw w → DenL noE args vs → Calls P g vs.toArray w fun en w' => ∃ v, en = .returned v ∧ Den noE x v ∧ Ext w w'
def pureCon (ps : PS) : Con τ := fun args H K =>
  match ps args with
  | some (φ, x) => φ ∧ K x H
  | none => False
theorem pureCon_ok {P : Program} {g : FuncId} {ps : PS} (h : PureOk P g ps) : ConOk I P g (pureCon ps) := by
  intro args H K e Fr w vs hc hd hM
  unfold pureCon at hc
  split at hc
  · rename_i φ x hp
    obtain ⟨hφ, hK⟩ := hc
    obtain ⟨ha, hx, hcall⟩ := h args φ x hp hφ
    refine (hcall w vs hM.gw (denL_noE ha hd)).mono fun en w' he => ?_
    obtain ⟨v, rfl, hdv, hext⟩ := he
    exact ⟨x, H, e, v, rfl, Le.refl e, hM.grow hext, hdv.mono (le_noE e), hK⟩
  · exact hc.elim
def whole (w : World) : PH := fun k => w.heap[k]?
def nilI (τ : Type) (w : World) (hG : Gw w) : Inv τ := { inv := fun _ _ _ => False, os := w.os, out := w.output, ro := whole w, gl := hG }
theorem models_nil (w : World) (hG : Gw w) : Models (nilI τ w hG) noE [] (whole w) w :=
  ⟨⟨rfl, rfl, fun _ _ h => h⟩, fun _ => emp, fun i b hi => by simp at hi, fun i _ => ⟨rfl, rfl⟩, fun _ _ _ _ => .inl rfl, fun _ _ => .inl rfl, fun _ k o hk => by simp [emp] at hk, fun k o hk => hk⟩
structure Ask (A : Prop) : Prop where
  h : A
theorem kcast {A B : Prop} (h : A = B) (hb : B) : Ask A := ⟨h ▸ hb⟩
theorem pureOk_of_run {P : Program} {g : FuncId} {fn : Func} {ps : PS} (hf : P.funcs[g]? = some fn)
    (h : ∀ args φ x, ps args = some (φ, x) → φ → scL 0 args = true ∧ scS 0 x = true ∧ ∃ (cfg : Cfg τ) (n : Nat), (∀ I : Inv τ, CfgOk I cfg) ∧ cfg.P = P ∧ bodyK cfg.P (run cfg n) fn args [] (fun y _ => y = x)) : PureOk P g ps := by
  intro args φ x hp hφ
  obtain ⟨ha, hx, cfg, n, hcon, rfl, hb⟩ := h args φ x hp hφ
  refine ⟨ha, hx, fun w vs hG hd => ?_⟩
  refine (body_ok (run_ok (hcon (nilI τ w hG)) n) hf hb hd (models_nil w hG)).mono fun en w' he => ?_
  obtain ⟨y, H', e', v, rfl, hle, hM, hdv, rfl⟩ := he
  exact ⟨v, rfl, den_noE hx hdv, ⟨fun k o hk => hM.frame k o hk, hM.1.os, hM.1.out⟩⟩
universe u
def look {α : Type u} : List (Nat × α) → Nat → Option α
  | [], _ => none
  | (k, a) :: r, n => match Nat.beq k n with
    | true => some a
    | false => look r n
def Pures (P : Program) : List (Nat × PS) → Prop
  | [] => True
  | (g, ps) :: r => PureOk P g ps ∧ Pures P r
theorem look_pure {P : Program} : ∀ {l : List (Nat × PS)} {g : Nat} {ps : PS}, Pures P l → look l g = some ps → PureOk P g ps
  | [], _, _, _, h => by simp [look] at h
  | (k, a) :: r, g, ps, hp, h => by
    unfold look at h
    split at h
    · rename_i hk; rw [Nat.beq_eq] at hk; subst hk; simp only [Option.some.injEq] at h; subst h; exact hp.1
    · exact look_pure hp.2 h
theorem purePCon_ok {P : Program} {g : FuncId} {ps : PS} (h : PureOk P g ps) : PConOk I P g (fun args _ => ps args) := by
  intro args H X φ x e Fr w vs hp hφ hd hM
  obtain ⟨ha, hx, hcall⟩ := h args φ x hp hφ
  refine (hcall w vs hM.gw (denL_noE ha hd)).mono fun en w' he => ?_
  obtain ⟨v, rfl, hdv, hext⟩ := he
  exact ⟨v, rfl, hdv.mono (le_noE e), hext⟩
structure Sh (α : Type) where
  enc : α → SV
  dec : SV → Option α
  ok : ∀ x a, dec x = some a → x = enc a
structure ShL (α : Type) where
  enc : α → List SV
  dec : List SV → Option α
  ok : ∀ x a, dec x = some a → x = enc a
def shInt (k : IntKind) : Sh Int where
  enc n := .v (.int k n)
  dec x := match x with
    | .v (.int j n) => match decide (j = k) with
      | true => some n
      | false => none
    | _ => none
  ok x a h := by
    split at h
    · split at h
      · rename_i j n hk
        simp only [decide_eq_true_eq] at hk
        subst hk
        simp only [Option.some.injEq] at h
        subst h
        rfl
      · cases h
    · cases h
def shI : Sh Int := shInt .i64
def shB : Sh Bool where
  enc b := .v (.bool b)
  dec x := match x with
    | .v (.bool b) => some b
    | _ => none
  ok x a h := by
    split at h
    · simp only [Option.some.injEq] at h
      subst h
      rfl
    · cases h
def shNil : ShL Unit where
  enc _ := []
  dec x := match x with
    | [] => some ()
    | _ => none
  ok x a h := by
    split at h
    · rfl
    · cases h
def shOne {α : Type} (s : Sh α) : ShL α where
  enc a := [s.enc a]
  dec x := match x with
    | [y] => s.dec y
    | _ => none
  ok x a h := by
    split at h
    · rw [s.ok _ _ h]
    · cases h
def shCons {α β : Type} (s : Sh α) (t : ShL β) : ShL (α × β) where
  enc a := s.enc a.1 :: t.enc a.2
  dec x := match x with
    | y :: r => match s.dec y with
      | some a => match t.dec r with
        | some b => some (a, b)
        | none => none
      | none => none
    | _ => none
  ok x a h := by
    split at h
    · split at h
      · rename_i hs
        split at h
        · rename_i ht
          simp only [Option.some.injEq] at h
          subst h
          rw [s.ok _ _ hs, t.ok _ _ ht]
        · cases h
      · cases h
    · cases h
def shA {α : Type} (t : ShL α) : Sh α where
  enc a := .a (t.enc a)
  dec x := match x with
    | .a l => t.dec l
    | _ => none
  ok x a h := by
    split at h
    · rw [t.ok _ _ h]
    · cases h
def mkPS {α : Type} (s : ShL α) (φ : α → Prop) (r : α → SV) : PS := fun args =>
  match s.dec args with
  | some a => some (φ a, r a)
  | none => none
theorem pureOk_mkA {P : Program} {g : FuncId} {fn : Func} {α : Type} {s : ShL α} {φ : α → Prop} {r : α → SV} (cfg : α → Cfg τ) (hcon : ∀ a (I : Inv τ), CfgOk I (cfg a)) (hP : ∀ a, (cfg a).P = P) {n : Nat} (hf : P.funcs[g]? = some fn)
    (h1 : ∀ a, scL 0 (s.enc a) = true) (h2 : ∀ a, scS 0 (r a) = true)
    (h : ∀ a, φ a → Ask (bodyK P (run (cfg a) n) fn (s.enc a) [] (fun y _ => y = r a))) : PureOk P g (mkPS s φ r) := by
  refine pureOk_of_run (τ := τ) hf ?_
  intro args φ' x hp hφ
  unfold mkPS at hp
  split at hp
  · rename_i a ha
    simp only [Option.some.injEq, Prod.mk.injEq] at hp
    obtain ⟨rfl, rfl⟩ := hp
    rw [s.ok _ _ ha]
    exact ⟨h1 a, h2 a, cfg a, n, hcon a, hP a, by rw [hP a]; exact (h a hφ).h⟩
  · cases hp
def subC : List Nat → Code → Code
  | [], c => c
  | i :: r, c => match c with
    | .seq a b => match i with
      | 0 => subC r a
      | _ => subC r b
    | .cond _ a b => match i with
      | 0 => subC r a
      | _ => subC r b
    | .block _ a => subC r a
    | .loop a => subC r a
    | .scope a => subC r a
    | .rangeFunc _ _ a b => match i with
      | 0 => subC r a
      | _ => subC r b
    | _ => .skip
def codeAt (f : Func) (p : List Nat) : Code :=
  match f.body with
  | some c => subC p c
  | none => .skip
def loopTm (H : List (SB τ)) (i : Nat) (keep : List Nat) (var : List (Nat × SV)) : SB τ :=
  match H[i]? with
  | some (.loop st pd tm ps asg body d) => .loop st pd (tmplTm keep var 0 tm) ps asg body d
  | _ => .gone
def getY (tm : List SV) (i : Nat) : Nat :=
  match tm[i]? with
  | some (.y b) => b
  | _ => 0
abbrev II (n : Int) : Int := n
abbrev LI (l : List Int) : List Int := l
abbrev LC4 (l : List C4) : List C4 := l
abbrev LLC (l : List (List C4)) : List (List C4) := l
abbrev LJC (l : List (Nat ⊕ List C4)) : List (Nat ⊕ List C4) := l
theorem wrap64 {x : Int} (h : -9223372036854775808 ≤ x) (h' : x ≤ 9223372036854775807) : IntKind.wrap .i64 x = x := IntWalk.i64_in x ⟨h, h'⟩
end Go.Sym
namespace Go.Sym
open Go
variable {τ : Type} {I : Inv τ} {P : Program}
mutual
def allS (p : Nat → Bool) : SV → Bool
  | .p b _ => p b
  | .s b _ _ _ => p b
  | .y b => p b
  | .h b _ => p b
  | .r b _ => p b
  | .f _ l => allSL p l
  | .a l => allSL p l
  | .t l => allSL p l
  | _ => true
def allSL (p : Nat → Bool) : List SV → Bool
  | [] => true
  | x :: xs => allS p x && allSL p xs
end
mutual
def renS (ρ : Nat → Nat) : SV → SV
  | .p b o => .p (ρ b) o
  | .s b o l c => .s (ρ b) o l c
  | .y b => .y (ρ b)
  | .h b q => .h (ρ b) q
  | .r b q => .r (ρ b) q
  | .f fn l => .f fn (renSL ρ l)
  | .a l => .a (renSL ρ l)
  | .t l => .t (renSL ρ l)
  | .v x => .v x
  | .any => .any
def renSL (ρ : Nat → Nat) : List SV → List SV
  | [] => []
  | x :: xs => renS ρ x :: renSL ρ xs
end
mutual
theorem den_ren {e e' : Env} {p : Nat → Bool} {ρ : Nat → Nat} (h : ∀ b r, p b = true → e b = some r → e' (ρ b) = some r) : ∀ (x : SV) (v : Value), allS p x = true → Den e x v → Den e' (renS ρ x) v
  | .any, _, _, _ => by simp [renS, Den]
  | .v x, _, _, hd => by simpa [renS, Den] using hd
  | .p b o, _, ha, hd => by simp only [renS, Den, allS] at *; obtain ⟨n, h1, h2⟩ := hd; exact ⟨n, h _ _ ha h1, h2⟩
  | .s b o len cap, _, ha, hd => by simp only [renS, Den, allS] at *; obtain ⟨n, h1, h2⟩ := hd; exact ⟨n, h _ _ ha h1, h2⟩
  | .f fn cs, _, ha, hd => by simp only [renS, Den, allS] at *; obtain ⟨vs, h1, h2⟩ := hd; exact ⟨vs, denL_ren h _ _ ha h1, h2⟩
  | .y b, _, ha, hd => by simp only [renS, Den, allS] at *; obtain ⟨n, h1, h2⟩ := hd; exact ⟨n, h _ _ ha h1, h2⟩
  | .h b q, _, ha, hd => by simp only [renS, Den, allS] at *; obtain ⟨f, h1, h2⟩ := hd; exact ⟨f, h _ _ ha h1, h2⟩
  | .r b q, _, ha, hd => by simp only [renS, Den, allS] at *; obtain ⟨f, h1, h2⟩ := hd; exact ⟨f, h _ _ ha h1, h2⟩
  | .a l, _, ha, hd => by simp only [renS, Den, allS] at *; obtain ⟨vs, h1, h2⟩ := hd; exact ⟨vs, denL_ren h _ _ ha h1, h2⟩
  | .t l, _, ha, hd => by simp only [renS, Den, allS] at *; obtain ⟨vs, h1, h2⟩ := hd; exact ⟨vs, denL_ren h _ _ ha h1, h2⟩
theorem denL_ren {e e' : Env} {p : Nat → Bool} {ρ : Nat → Nat} (h : ∀ b r, p b = true → e b = some r → e' (ρ b) = some r) : ∀ (xs : List SV) (vs : List Value), allSL p xs = true → DenL e xs vs → DenL e' (renSL ρ xs) vs
  | [], _, _, hd => by simpa [renSL, DenL] using hd
  | x :: xs, _, ha, hd => by
    simp only [renSL, DenL, allSL, Bool.and_eq_true] at *
    obtain ⟨v, r, h1, h2, h3⟩ := hd
    exact ⟨v, r, h1, den_ren h _ _ ha.1 h2, denL_ren h _ _ ha.2 h3⟩
end
def allB (p : Nat → Bool) : SB τ → Bool
  | .cells l _ => allSL p l
  | .own (.sv l) _ _ _ _ _ => allSL p l
  | .limbo b _ _ _ _ _ => p b
  | .loop _ _ _ _ _ _ _ => false
  | _ => true
def renB (ρ : Nat → Nat) : SB τ → SB τ
  | .cells l T => .cells (renSL ρ l) T
  | .own (.sv l) n T sz ep nn => .own (.sv (renSL ρ l)) n T sz ep nn
  | .limbo b q L T TS ep => .limbo (ρ b) q L T TS ep
  | b => b
theorem item_ren {e e' : Env} {p : Nat → Bool} {ρ : Nat → Nat} (h : ∀ b r, p b = true → e b = some r → e' (ρ b) = some r) {b : SB τ} {r : Option Ref} {hp : PH} (ha : allB p b = true) (hi : ItemOk I e b r hp) : ItemOk I e' (renB ρ b) r hp := by
  cases b with
  | cells l T => obtain ⟨n, vs, h1, h2, h3⟩ := hi; exact ⟨n, vs, h1, denL_ren h _ _ ha h2, h3⟩
  | own c n T sz ep nn =>
    obtain ⟨f, v, vs, h1, h2, h3, h4, h5⟩ := hi
    cases c with
    | sv l => exact ⟨f, v, vs, h1, h2, h3, denL_ren h _ _ ha h4, h5⟩
    | ints k xs => exact ⟨f, v, vs, h1, h2, h3, h4, h5⟩
    | recs xs => exact ⟨f, v, vs, h1, h2, h3, h4, h5⟩
  | limbo b q L T TS ep =>
    obtain ⟨f, u, us, ho, hr, fb, gb, h1, h2, h3, h4, h5⟩ := hi
    exact ⟨f, u, us, ho, hr, fb, gb, h1, h2, h3, h _ _ ha h4, h5⟩
  | loop _ _ _ _ _ _ _ => simp [allB] at ha
  | ints k xs n T => exact hi
  | rows R T TS oe ep pd => exact hi
  | inp c => exact hi
  | res t => exact hi
  | obj o => exact hi
  | gone => exact hi
mutual
def scanS : SV → List Nat
  | .p b _ => [b]
  | .s b _ _ _ => [b]
  | .y b => [b]
  | .h b _ => [b]
  | .r b _ => [b]
  | .f _ l => scanL l
  | .a l => scanL l
  | .t l => scanL l
  | _ => []
def scanL : List SV → List Nat
  | [] => []
  | x :: xs => scanS x ++ scanL xs
end
def scanB : SB τ → List Nat
  | .cells l _ => scanL l
  | .own (.sv l) _ _ _ _ _ => scanL l
  | .limbo b _ _ _ _ _ => [b]
  | _ => []
def reachGo (H : List (SB τ)) : Nat → List Nat → List Nat → List Nat
  | 0, done, _ => done
  | n + 1, done, todo => match todo with
    | [] => done
    | b :: r => match hasN done b with
      | true => reachGo H n done r
      | false => match H[b]? with
        | some it => reachGo H n (done ++ [b]) (scanB it ++ r)
        | none => done
def reach (H : List (SB τ)) (args : List SV) : List Nat := reachGo H 100 [] (scanL args)
def idxOf : List Nat → Nat → Option Nat
  | [], _ => none
  | b :: r, n => match Nat.beq b n with
    | true => some 0
    | false => (idxOf r n).map (· + 1)
theorem idxOf_get : ∀ {bs : List Nat} {n i : Nat}, idxOf bs n = some i → bs[i]? = some n
  | [], _, _, h => by simp [idxOf] at h
  | b :: r, n, i, h => by
    unfold idxOf at h
    split at h
    · rename_i hb
      rw [Nat.beq_eq] at hb
      simp only [Option.some.injEq] at h
      subst hb; subst h; rfl
    · simp only [Option.map_eq_some_iff] at h
      obtain ⟨j, h1, rfl⟩ := h
      simpa using idxOf_get h1
def diffB : List Nat → Bool
  | [] => true
  | b :: r => !hasN r b && diffB r
theorem hasN_iff : ∀ {l : List Nat} {n : Nat}, hasN l n = true ↔ n ∈ l
  | [], n => by simp [hasN]
  | k :: r, n => by
    unfold hasN
    split
    · rename_i h; rw [Nat.beq_eq] at h; simp [h]
    · rename_i h
      have h : k ≠ n := fun e => by rw [← Nat.beq_eq] at e; rw [e] at h; cases h
      rw [hasN_iff, List.mem_cons]
      constructor
      · exact .inr
      · rintro (e | e)
        · exact absurd e.symm h
        · exact e
theorem idxOf_self : ∀ {bs : List Nat} {n i : Nat}, diffB bs = true → bs[i]? = some n → idxOf bs n = some i
  | [], _, _, _, h => by simp at h
  | b :: r, n, i, hd, h => by
    simp only [diffB, Bool.and_eq_true, Bool.not_eq_true'] at hd
    unfold idxOf
    cases i with
    | zero =>
      simp only [List.getElem?_cons_zero, Option.some.injEq] at h
      subst h
      have : Nat.beq b b = true := by rw [Nat.beq_eq]
      rw [this]
    | succ i =>
      simp only [List.getElem?_cons_succ] at h
      have hne : Nat.beq b n = false := by
        cases hq : Nat.beq b n with
        | false => rfl
        | true =>
          rw [Nat.beq_eq] at hq
          subst hq
          have : hasN r b = true := hasN_iff.2 (List.mem_of_getElem? h)
          rw [this] at hd; cases hd.1
      rw [hne]
      simp only [Option.map_eq_some_iff]
      exact ⟨i, idxOf_self hd.2 h, rfl⟩
def takeAll {α : Type} (H : List α) : List Nat → Option (List α)
  | [] => some []
  | b :: r => match H[b]?, takeAll H r with
    | some x, some l => some (x :: l)
    | _, _ => none
theorem takeAll_get {α : Type} {H : List α} : ∀ {bs : List Nat} {l : List α}, takeAll H bs = some l → l.length = bs.length ∧ ∀ (i b : Nat), bs[i]? = some b → ∃ x, H[b]? = some x ∧ l[i]? = some x
  | [], l, h => by simp only [takeAll, Option.some.injEq] at h; subst h; simp
  | b :: r, l, h => by
    unfold takeAll at h
    split at h
    · rename_i x l' h1 h2
      simp only [Option.some.injEq] at h
      subst h
      obtain ⟨h3, h4⟩ := takeAll_get h2
      refine ⟨by simp [h3], fun i b' hi => ?_⟩
      cases i with
      | zero => simp at hi; subst hi; exact ⟨x, h1, by simp⟩
      | succ i => simp at hi; obtain ⟨y, h5, h6⟩ := h4 i b' hi; exact ⟨y, h5, by simpa using h6⟩
    · cases h
def putAll {α : Type} : List α → List Nat → List α → List α
  | H, b :: r, x :: l => putAll (H.set b x) r l
  | H, _, _ => H
theorem putAll_length {α : Type} : ∀ (bs : List Nat) (l H : List α), (putAll H bs l).length = H.length
  | [], _, _ => by simp [putAll]
  | b :: r, [], _ => by simp [putAll]
  | b :: r, x :: l, H => by simp [putAll, putAll_length r l]
theorem putAll_out {α : Type} : ∀ (bs : List Nat) (l H : List α) (n : Nat), idxOf bs n = none → (putAll H bs l)[n]? = H[n]?
  | [], _, _, _, _ => by simp [putAll]
  | b :: r, [], _, _, _ => by simp [putAll]
  | b :: r, x :: l, H, n, h => by
    unfold idxOf at h
    split at h
    · cases h
    · rename_i hb
      have hb : b ≠ n := fun e => by rw [← Nat.beq_eq] at e; rw [e] at hb; cases hb
      simp only [Option.map_eq_none_iff] at h
      simp only [putAll]
      rw [putAll_out r l _ n h, List.getElem?_set_ne hb]
theorem putAll_in {α : Type} : ∀ (bs : List Nat) (l H : List α) (n i : Nat), diffB bs = true → n < H.length → idxOf bs n = some i → bs.length ≤ l.length → (putAll H bs l)[n]? = l[i]?
  | [], _, _, _, _, _, _, h, _ => by simp [idxOf] at h
  | b :: r, [], _, _, _, _, _, _, hl => by simp at hl
  | b :: r, x :: l, H, n, i, hd, hn, h, hl => by
    simp only [diffB, Bool.and_eq_true, Bool.not_eq_true'] at hd
    unfold idxOf at h
    split at h
    · rename_i hb
      rw [Nat.beq_eq] at hb
      subst hb
      simp only [Option.some.injEq] at h
      subst h
      simp only [putAll]
      have : idxOf r b = none := by
        cases hq : idxOf r b with
        | none => rfl
        | some j =>
          have := hasN_iff.2 (List.mem_of_getElem? (idxOf_get hq))
          rw [this] at hd; cases hd.1
      rw [putAll_out r l _ b this]
      simp [hn]
    · simp only [Option.map_eq_some_iff] at h
      obtain ⟨j, h1, rfl⟩ := h
      simp only [putAll]
      rw [putAll_in r l _ n j hd.2 (by simpa using hn) h1 (by simpa using hl)]
      simp
def mapAlt (f : SV → List (SB τ) → List Nat → Alt τ) : Alt τ → Alt τ
  | .bad => .bad
  | .ask φ t => .ask φ (mapAlt f t)
  | .br c l r => .br c (mapAlt f l) (mapAlt f r)
  | .one x H ws => f x H ws
def gam (bs : List Nat) (n : Nat) (i : Nat) : Nat :=
  match bs[i]? with
  | some b => b
  | none => n + (i - bs.length)
def backA (bs : List Nat) (H : List (SB τ)) (x : SV) (Hl : List (SB τ)) : Alt τ :=
  match Nat.ble bs.length Hl.length && (allS (fun i => Nat.blt i Hl.length) x && Hl.all (allB fun i => Nat.blt i Hl.length)) with
  | true => .one (renS (gam bs H.length) x) (putAll H bs (Hl.map (renB (gam bs H.length))) ++ (Hl.drop bs.length).map (renB (gam bs H.length))) bs
  | false => .bad
def gac (lc : ACon τ) : ACon τ := fun args H =>
  let bs := reach H args
  match takeAll H bs with
  | some Hl => match diffB bs && (allSL (fun b => (idxOf bs b).isSome) args && Hl.all (allB fun b => (idxOf bs b).isSome)) with
    | true => mapAlt (fun x Hl' _ => backA bs H x Hl') (lc (renSL (fun b => (idxOf bs b).getD 0) args) (Hl.map (renB fun b => (idxOf bs b).getD 0)))
    | false => .bad
  | none => .bad
def LCOk (I : Inv τ) (P : Program) (g : FuncId) (lc : ACon τ) : Prop :=
  ∀ (args : List SV) (H : List (SB τ)) (e : Env) (Fr : PH) (w : World) (vs : List Value), (lc args H).pre → DenL e args vs → Models I e H Fr w →
    Calls P g vs.toArray w fun en w' => ∃ x H' ws e' v, (lc args H).has x H' ws ∧ en = .returned v ∧ Le e e' ∧ Models I e' H' Fr w' ∧ Den e' x v
theorem mapAlt_pre {f : SV → List (SB τ) → List Nat → Alt τ} : ∀ {t : Alt τ}, (mapAlt f t).pre → t.pre ∧ ∀ x H ws, t.has x H ws → (f x H ws).pre
  | .bad, h => h.elim
  | .ask φ t, h => by obtain ⟨h1, h2⟩ := mapAlt_pre (t := t) h.2; exact ⟨⟨h.1, h1⟩, h2⟩
  | .br c l r, h => by
    refine ⟨⟨fun hc => (mapAlt_pre (h.1 hc)).1, fun hc => (mapAlt_pre (h.2 hc)).1⟩, fun x H ws hh => ?_⟩
    rcases hh with ⟨hc, hh⟩ | ⟨hc, hh⟩
    · exact (mapAlt_pre (h.1 hc)).2 _ _ _ hh
    · exact (mapAlt_pre (h.2 hc)).2 _ _ _ hh
  | .one x H ws, h => ⟨trivial, fun x' H' ws' ⟨e1, e2, e3⟩ => by subst e1; subst e2; subst e3; exact h⟩
theorem mapAlt_has {f : SV → List (SB τ) → List Nat → Alt τ} {y : SV} {G : List (SB τ)} {us : List Nat} : ∀ {t : Alt τ} {x H ws}, t.has x H ws → (f x H ws).has y G us → (mapAlt f t).has y G us
  | .bad, _, _, _, h, _ => h.elim
  | .ask φ t, _, _, _, h, h' => mapAlt_has (t := t) h h'
  | .br c l r, _, _, _, h, h' => by
    rcases h with ⟨hc, h⟩ | ⟨hc, h⟩
    · exact .inl ⟨hc, mapAlt_has h h'⟩
    · exact .inr ⟨hc, mapAlt_has h h'⟩
  | .one _ _ _, _, _, _, ⟨rfl, rfl, rfl⟩, h' => h'
theorem mapAlt_of {f : SV → List (SB τ) → List Nat → Alt τ} {y : SV} {G : List (SB τ)} {us : List Nat} : ∀ {t : Alt τ}, (mapAlt f t).has y G us → ∃ x H ws, t.has x H ws ∧ (f x H ws).has y G us
  | .bad, h => h.elim
  | .ask φ t, h => mapAlt_of (t := t) h
  | .br c l r, h => by
    rcases h with ⟨hc, h⟩ | ⟨hc, h⟩
    · obtain ⟨x, H, ws, h1, h2⟩ := mapAlt_of h; exact ⟨x, H, ws, .inl ⟨hc, h1⟩, h2⟩
    · obtain ⟨x, H, ws, h1, h2⟩ := mapAlt_of h; exact ⟨x, H, ws, .inr ⟨hc, h1⟩, h2⟩
  | .one x H ws, h => ⟨x, H, ws, ⟨rfl, rfl, rfl⟩, h⟩
open Classical in
noncomputable def rest (bs : List Nat) (hs : Nat → PH) (Fr : PH) : PH := fun n =>
  if h : ∃ j, idxOf bs j = none ∧ hs j n ≠ none then hs h.choose n else Fr n
theorem frame_ok {g : FuncId} {lc : ACon τ} (h : LCOk I P g lc) : AConOk I P g (gac lc) := by
  refine ⟨fun args H x H' ws b hh hw hb => ?_, fun args H e Fr w vs hpre hd hM => ?_⟩
  · unfold gac at hh
    simp only at hh
    split at hh
    · rename_i Hl hHl
      split at hh
      · obtain ⟨x1, H1, ws1, _, hh⟩ := mapAlt_of hh
        unfold backA at hh
        split at hh
        · obtain ⟨_, rfl, rfl⟩ := hh
          have hn : idxOf (reach H args) b = none := by
            cases hq : idxOf (reach H args) b with
            | none => rfl
            | some j => rw [hasN_iff.2 (List.mem_of_getElem? (idxOf_get hq))] at hw; cases hw
          refine ⟨?_, by simp [putAll_length]⟩
          rw [List.getElem?_append_left (by rw [putAll_length]; exact hb), putAll_out _ _ _ _ hn]
        · exact hh.elim
      · exact hh.elim
    · exact hh.elim
  · generalize hac : gac lc args H = t at hpre
    unfold gac at hac
    simp only at hac
    generalize hbs : reach H args = bs at hac
    split at hac
    · rename_i Hl hHl
      split at hac
      · rename_i hcond
        simp only [Bool.and_eq_true, List.all_eq_true] at hcond
        obtain ⟨hdiff, hargs, hitems⟩ := hcond
        subst hac
        obtain ⟨hpre1, hpre2⟩ := mapAlt_pre hpre
        obtain ⟨hlen, hget⟩ := takeAll_get hHl
        obtain ⟨h0, hs, h1, h2, h3, h4, h5, h6⟩ := hM
        have hblt : ∀ (i b : Nat), bs[i]? = some b → b < H.length := fun i b hi => by
          obtain ⟨x, hx, _⟩ := hget i b hi
          exact (List.getElem?_eq_some_iff.1 hx).1
        -- the part
        obtain ⟨el, hel⟩ : ∃ el : Env, ∀ i, el i = match bs[i]? with | some b => e b | none => none := ⟨_, fun _ => rfl⟩
        obtain ⟨hl, hhl⟩ : ∃ hl : Nat → PH, ∀ i, hl i = match bs[i]? with | some b => hs b | none => emp := ⟨_, fun _ => rfl⟩
        have hin : ∀ b r, (idxOf bs b).isSome = true → e b = some r → el ((idxOf bs b).getD 0) = some r := fun b r hb hr => by
          obtain ⟨i, hi⟩ := Option.isSome_iff_exists.1 hb
          rw [hi]
          simp only [Option.getD_some, hel, idxOf_get hi]
          exact hr
        have hrest : ∀ j, idxOf bs j = none → ∀ (n : Nat) (o : Obj), hs j n = some o → rest bs hs Fr n = some o := fun j hj n o hn => by
          have hex : ∃ j, idxOf bs j = none ∧ hs j n ≠ none := ⟨j, hj, by rw [hn]; simp⟩
          unfold rest
          rw [dif_pos hex]
          have hc := hex.choose_spec
          by_cases hjj : hex.choose = j
          · rw [hjj]; exact hn
          · rcases h3 _ _ hjj n with h7 | h7
            · exact absurd h7 hc.2
            · rw [hn] at h7; cases h7
        have hrestF : ∀ (n : Nat) (o : Obj), Fr n = some o → rest bs hs Fr n = some o := fun n o hn => by
          unfold rest
          split
          · rename_i hex
            rcases h4 hex.choose n with h7 | h7
            · exact absurd h7 hex.choose_spec.2
            · rw [hn] at h7; cases h7
          · exact hn
        have hrestcases : ∀ (n : Nat) (o : Obj), rest bs hs Fr n = some o → (∃ j, idxOf bs j = none ∧ hs j n = some o) ∨ Fr n = some o := fun n o hn => by
          unfold rest at hn
          split at hn
          · rename_i hex; exact .inl ⟨_, hex.choose_spec.1, hn⟩
          · exact .inr hn
        have hMl : Models I el (Hl.map (renB fun b => (idxOf bs b).getD 0)) (rest bs hs Fr) w := by
          refine ⟨⟨h0.os, h0.out, fun k o hk => hrestF k o (h0.ro k o hk)⟩, hl, fun i b hi => ?_, fun i hi => ?_, fun i j hij => ?_, fun i => ?_, fun i => ?_, fun k o hk => ?_⟩
          · rw [List.getElem?_map, Option.map_eq_some_iff] at hi
            obtain ⟨b0, hi, rfl⟩ := hi
            have hilt : i < bs.length := by rw [← hlen]; exact (List.getElem?_eq_some_iff.1 hi).1
            obtain ⟨x, hx1, hx2⟩ := hget i bs[i] (by simp [hilt])
            rw [hi] at hx2; cases hx2
            rw [hel, hhl]
            simp only [List.getElem?_eq_getElem hilt]
            exact item_ren hin (hitems b0 (List.mem_of_getElem? hi)) (h1 _ _ hx1)
          · have : bs[i]? = none := by simp at hi; simp; omega
            rw [hel, hhl, this]
            exact ⟨rfl, rfl⟩
          · rw [hhl, hhl]
            cases hi : bs[i]? with
            | none => exact emp_disj _
            | some b =>
              cases hj : bs[j]? with
              | none => exact disj_emp _
              | some c =>
                refine h3 b c fun e => hij ?_
                subst e
                have e1 := idxOf_self hdiff hi
                have e2 := idxOf_self hdiff hj
                rw [e1] at e2; cases e2; rfl
          · rw [hhl]
            cases hi : bs[i]? with
            | none => exact emp_disj _
            | some b =>
              intro n
              cases hn : rest bs hs Fr n with
              | none => exact .inr rfl
              | some o =>
                left
                rcases hrestcases n o hn with ⟨j, hj1, hj2⟩ | hf
                · have hne : b ≠ j := fun e => by subst e; rw [idxOf_self hdiff hi] at hj1; cases hj1
                  rcases h3 b j hne n with h7 | h7
                  · exact h7
                  · rw [hj2] at h7; cases h7
                · rcases h4 b n with h7 | h7
                  · exact h7
                  · rw [hf] at h7; cases h7
          · rw [hhl]
            cases hi : bs[i]? with
            | none => intro n o hn; simp [emp] at hn
            | some b => exact h5 b
          · rcases hrestcases k o hk with ⟨j, hj1, hj2⟩ | hf
            · exact h5 j k o hj2
            · exact h6 k o hf
        refine (h _ _ el (rest bs hs Fr) w vs hpre1 (denL_ren hin _ _ hargs hd) hMl).mono fun en w' hh => ?_
        obtain ⟨x, H1, ws, e1, v, g1, rfl, g3, g4, g5⟩ := hh
        have hb := hpre2 x H1 ws g1
        unfold backA at hb
        split at hb
        · rename_i hcond2
          simp only [Bool.and_eq_true, Nat.ble_eq, List.all_eq_true] at hcond2
          obtain ⟨hk, hx, hH1⟩ := hcond2
          obtain ⟨k0, hs1, k1, k2, k3, k4, k5, k6⟩ := g4
          -- the whole again
          obtain ⟨e2, he2⟩ : ∃ e2 : Env, ∀ j, e2 j = match idxOf bs j with | some i => e1 i | none => if j < H.length then e j else e1 (bs.length + (j - H.length)) := ⟨_, fun _ => rfl⟩
          obtain ⟨hs2, hhs2⟩ : ∃ hs2 : Nat → PH, ∀ j, hs2 j = match idxOf bs j with | some i => hs1 i | none => if j < H.length then hs j else hs1 (bs.length + (j - H.length)) := ⟨_, fun _ => rfl⟩
          have hout : ∀ j, H.length ≤ j → idxOf bs j = none := fun j hj => by
            cases hq : idxOf bs j with
            | none => rfl
            | some i => have := hblt i j (idxOf_get hq); omega
          have hgam : ∀ i r, e1 i = some r → e2 (gam bs H.length i) = some r := fun i r hr => by
            unfold gam
            cases hi : bs[i]? with
            | some b => rw [he2]; simp only [idxOf_self hdiff hi]; exact hr
            | none =>
              have hge : bs.length ≤ i := by simpa using hi
              rw [he2, hout _ (by simp)]
              simp only [show ¬ H.length + (i - bs.length) < H.length by omega, if_false]
              rw [show bs.length + (H.length + (i - bs.length) - H.length) = i by omega]
              exact hr
          have hle : Le e e2 := fun j r hr => by
            rw [he2]
            cases hq : idxOf bs j with
            | some i =>
              have : el i = some r := by rw [hel, idxOf_get hq]; exact hr
              exact g3 i r this
            | none =>
              have hjl : j < H.length := by
                rcases Nat.lt_or_ge j H.length with hj | hj
                · exact hj
                · rw [(h2 j hj).1] at hr; cases hr
              simp only [hjl, if_true]
              exact ⟨r, hr, r.le_refl⟩
          obtain ⟨H2, hH2⟩ : ∃ H2, H2 = putAll H bs (H1.map (renB (gam bs H.length))) ++ (H1.drop bs.length).map (renB (gam bs H.length)) := ⟨_, rfl⟩
          have hlen2 : H2.length = H.length + (H1.length - bs.length) := by rw [hH2]; simp [putAll_length]
          have hget2 : ∀ j, H2[j]? = match idxOf bs j with | some i => (H1[i]?).map (renB (gam bs H.length)) | none => if j < H.length then H[j]? else (H1[bs.length + (j - H.length)]?).map (renB (gam bs H.length)) := fun j => by
            rw [hH2]
            rcases Nat.lt_or_ge j H.length with hj | hj
            · rw [List.getElem?_append_left (by rw [putAll_length]; exact hj)]
              cases hq : idxOf bs j with
              | some i => rw [putAll_in _ _ _ _ _ hdiff hj hq (by simpa using hk)]; simp
              | none => rw [putAll_out _ _ _ _ hq]; simp [hj]
            · rw [List.getElem?_append_right (by rw [putAll_length]; exact hj), putAll_length, hout j hj]
              simp only [show ¬ j < H.length by omega, if_false]
              rw [List.getElem?_map, List.getElem?_drop]
          have hcross : ∀ i j, idxOf bs j = none → j < H.length → Disj (hs1 i) (hs j) := fun i j hj hjl n => by
            cases hn : hs j n with
            | none => exact .inr rfl
            | some o =>
              left
              rcases k4 i n with h7 | h7
              · exact h7
              · rw [hrest j hj n o hn] at h7; cases h7
          have hM2 : Models I e2 H2 Fr w' := by
            refine ⟨⟨k0.os, k0.out, h0.ro⟩, hs2, fun j b hj => ?_, fun j hj => ?_, fun i j hij => ?_, fun j => ?_, fun j => ?_, fun n o hn => k6 n o (hrestF n o hn)⟩
            · rw [hget2] at hj
              rw [he2, hhs2]
              cases hq : idxOf bs j with
              | some i =>
                simp only [hq, Option.map_eq_some_iff] at hj ⊢
                obtain ⟨b1, hb1, rfl⟩ := hj
                exact item_ren (fun i r _ hr => hgam i r hr) (hH1 b1 (List.mem_of_getElem? hb1)) (k1 i b1 hb1)
              | none =>
                simp only [hq] at hj ⊢
                split at hj
                · rename_i hjl
                  simp only [hjl, if_true]
                  exact (h1 j b hj).mono I hle
                · rename_i hjl
                  simp only [hjl, if_false]
                  simp only [Option.map_eq_some_iff] at hj
                  obtain ⟨b1, hb1, rfl⟩ := hj
                  exact item_ren (fun i r _ hr => hgam i r hr) (hH1 b1 (List.mem_of_getElem? hb1)) (k1 _ b1 hb1)
            · rw [hlen2] at hj
              rw [he2, hhs2, hout j (by omega)]
              simp only [show ¬ j < H.length by omega, if_false]
              exact k2 _ (by omega)
            · rw [hhs2, hhs2]
              cases hi : idxOf bs i with
              | some a =>
                cases hj : idxOf bs j with
                | some c =>
                  refine k3 a c fun e => hij ?_
                  subst e
                  have e3 := idxOf_get hi
                  have e4 := idxOf_get hj
                  rw [e3] at e4; cases e4; rfl
                | none =>
                  simp only
                  split
                  · rename_i hjl; exact hcross a j hj hjl
                  · rename_i hjl
                    refine k3 _ _ fun e => ?_
                    have := (List.getElem?_eq_some_iff.1 (idxOf_get hi)).1
                    omega
              | none =>
                cases hj : idxOf bs j with
                | some c =>
                  simp only
                  split
                  · rename_i hil; exact (hcross c i hi hil).symm
                  · rename_i hil
                    refine k3 _ _ fun e => ?_
                    have := (List.getElem?_eq_some_iff.1 (idxOf_get hj)).1
                    omega
                | none =>
                  simp only
                  split
                  · rename_i hil
                    split
                    · exact h3 i j hij
                    · exact (hcross _ i hi hil).symm
                  · rename_i hil
                    split
                    · rename_i hjl; exact hcross _ j hj hjl
                    · exact k3 _ _ (by omega)
            · rw [hhs2]
              have hF1 : ∀ i, Disj (hs1 i) Fr := fun i n => by
                cases hn : Fr n with
                | none => exact .inr rfl
                | some o =>
                  left
                  rcases k4 i n with h7 | h7
                  · exact h7
                  · rw [hrestF n o hn] at h7; cases h7
              cases hi : idxOf bs j with
              | some a => exact hF1 a
              | none =>
                simp only
                split
                · exact h4 j
                · exact hF1 _
            · rw [hhs2]
              cases hi : idxOf bs j with
              | some a => exact k5 a
              | none =>
                simp only
                split
                · exact fun n o hn => k6 n o (hrest j hi n o hn)
                · exact k5 _
          refine ⟨renS (gam bs H.length) x, H2, bs, e2, v, mapAlt_has g1 ?_, rfl, hle, hM2, den_ren (fun i r _ hr => hgam i r hr) _ _ hx g5⟩
          unfold backA
          have hc3 : (Nat.ble bs.length H1.length && (allS (fun i => Nat.blt i H1.length) x && H1.all (allB fun i => Nat.blt i H1.length))) = true := by
            simp only [Bool.and_eq_true, Nat.ble_eq, List.all_eq_true]
            exact ⟨hk, hx, hH1⟩
          rw [hc3]
          exact ⟨rfl, hH2, rfl⟩
        · exact hb.elim
      · subst hac; exact hpre.elim
    · subst hac; exact hpre.elim
end Go.Sym
namespace Go.Sym
open Go
variable {τ : Type} {I : Inv τ} {P : Program}
def vacGo : List SV → List (SB τ) → List SV × List (SB τ) × Bool
  | [], H => ([], H, true)
  | x :: r, H => match viewB x H with
    | some (_, p, ic) => match navS ic p with
      | some (q, node) => match vacGo r (H ++ [.inp node]) with
        | (r', H', q') => (.r H.length [] :: r', H', q && q')
      | none => match vacGo r H with
        | (r', H', q') => (x :: r', H', q')
    | none => match vacGo r H with
      | (r', H', q') => (x :: r', H', q')
theorem vacGo_keeps : ∀ {args : List SV} {H : List (SB τ)}, H.length ≤ (vacGo args H).2.1.length ∧ ∀ i, i < H.length → (vacGo args H).2.1[i]? = H[i]?
  | [], H => ⟨Nat.le_refl _, fun _ _ => rfl⟩
  | x :: r, H => by
    unfold vacGo
    split
    · split
      · rename_i q node _
        have ih := vacGo_keeps (args := r) (H := H ++ [.inp node])
        generalize vacGo r (H ++ [.inp node]) = t at ih
        obtain ⟨r', H', q'⟩ := t
        refine ⟨by have := ih.1; simp at this ⊢; omega, fun i hi => ?_⟩
        have := ih.2 i (by simp; omega)
        simp only at this ⊢
        rw [this, List.getElem?_append_left hi]
      · have ih := vacGo_keeps (args := r) (H := H)
        generalize vacGo r H = t at ih
        obtain ⟨r', H', q'⟩ := t
        exact ih
    · have ih := vacGo_keeps (args := r) (H := H)
      generalize vacGo r H = t at ih
      obtain ⟨r', H', q'⟩ := t
      exact ih
theorem view_shift {ro : PH} {g : List Nat → Value} {p : List Nat} : ∀ {ic : IC} {s : List Nat}, View ro g ic (p ++ s) → View ro (fun q => g (p ++ q)) ic s
  | .pl _, _, _ => trivial
  | .ss L, s, h => by
    obtain ⟨h1, h2⟩ := h
    refine ⟨h1, ?_⟩
    simpa only [List.append_assoc] using h2
  | .sl n sz c, s, h => by
    obtain ⟨h1, h2 | ⟨b, o, sp, cap, h2, h3⟩⟩ := h
    · exact ⟨h1, .inl h2⟩
    · refine ⟨h1, .inr ⟨b, o, sp, cap, h2, fun i fo hi hf => ?_⟩⟩
      obtain ⟨g0, g1, cs, T, fz, x, g2, g3, g4, g5⟩ := h3 i fo hi hf
      rw [List.append_assoc] at g1 g5
      refine ⟨g0, g1, cs, T, fz, x, g2, g3, ?_, view_shift g5⟩
      simpa only [List.append_assoc] using g4
theorem vacGo_ok : ∀ {args : List SV} {H : List (SB τ)} {e : Env} {Fr : PH} {w : World} {vs : List Value}, (vacGo args H).2.2 = true → DenL e args vs → Models I e H Fr w →
    ∃ e', Le e e' ∧ Models I e' (vacGo args H).2.1 Fr w ∧ DenL e' (vacGo args H).1 vs
  | [], H, e, Fr, w, vs, _, hd, hM => ⟨e, Le.refl e, hM, hd⟩
  | x :: r, H, e, Fr, w, vs, hq, hd, hM => by
    simp only [DenL] at hd
    obtain ⟨v, us, rfl, hx, hr⟩ := hd
    have same : (vacGo r H).2.2 = true → ∃ e', Le e e' ∧ Models I e' (vacGo r H).2.1 Fr w ∧ DenL e' (x :: (vacGo r H).1) (v :: us) := fun hq => by
      obtain ⟨e', h1, h2, h3⟩ := vacGo_ok hq hr hM
      exact ⟨e', h1, h2, by simp only [DenL]; exact ⟨v, us, rfl, hx.mono h1, h3⟩⟩
    unfold vacGo at hq ⊢
    split at hq
    · rename_i b p ic hv
      split at hq
      · rename_i q node hn
        obtain ⟨rfl, g, g1, g2, g3, _⟩ := viewB_ok hM hv hx
        have hsplit : (vacGo r (H ++ [.inp node])).2.2 = true ∧ q = true := by
          generalize vacGo r (H ++ [.inp node]) = t at hq
          obtain ⟨r', H', q'⟩ := t
          simp only [Bool.and_eq_true] at hq
          exact ⟨hq.2, hq.1⟩
        have hnode := navS_ok g3 hn hsplit.2
        simp only [List.nil_append] at hnode
        have hle : Le e (ext e H.length (.rd fun s => g (p ++ s))) := le_ext hM.fresh
        have hM2 : Models I (ext e H.length (.rd fun s => g (p ++ s))) (H ++ [.inp node]) Fr w := hM.add (hn := emp) ⟨_, rfl, rfl, view_shift (by simpa using hnode)⟩ (Ext.refl w) (fun k o hk => by simp [emp] at hk) (fun k hk => by simp [emp] at hk)
        obtain ⟨e', h1, h2, h3⟩ := vacGo_ok hsplit.1 (hr.mono hle) hM2
        refine ⟨e', hle.trans h1, ?_, ?_⟩
        · generalize vacGo r (H ++ [.inp node]) = t at h2 ⊢
          obtain ⟨r', H', q'⟩ := t
          simp only [hn]
          exact h2
        · have hv1 : Den e' (.r H.length []) v := by
            simp only [Den] at hx ⊢
            obtain ⟨g', k1, k2, k3⟩ := hx
            rw [g1] at k1; cases k1
            exact ⟨_, h1.rd (ext_self _ _ _), by simpa using k2, k3⟩
          generalize vacGo r (H ++ [.inp node]) = t at h3 ⊢
          obtain ⟨r', H', q'⟩ := t
          simp only [hn, DenL]
          exact ⟨v, us, rfl, hv1, h3⟩
      · rename_i hn
        simp only [hn]
        have := same (by
          generalize vacGo r H = t at hq
          obtain ⟨r', H', q'⟩ := t
          exact hq)
        generalize vacGo r H = t at this
        obtain ⟨r', H', q'⟩ := t
        exact this
    · have := same (by
        generalize vacGo r H = t at hq
        obtain ⟨r', H', q'⟩ := t
        exact hq)
      generalize vacGo r H = t at this
      obtain ⟨r', H', q'⟩ := t
      exact this
def vacG2 : List SV → List (SB τ) → List SV × List (SB τ) × Bool
  | [], H => ([], H, true)
  | x :: r, H => match x with
    | .a l => match vacGo l H with
      | (l', H1, q1) => match vacG2 r H1 with
        | (r', H2, q2) => (.a l' :: r', H2, q1 && q2)
    | x => match vacGo [x] H with
      | (l', H1, q1) => match vacG2 r H1 with
        | (r', H2, q2) => (l' ++ r', H2, q1 && q2)
theorem vacG2_keeps : ∀ {args : List SV} {H : List (SB τ)}, H.length ≤ (vacG2 args H).2.1.length ∧ ∀ i, i < H.length → (vacG2 args H).2.1[i]? = H[i]?
  | [], H => ⟨Nat.le_refl _, fun _ _ => rfl⟩
  | x :: r, H => by
    unfold vacG2
    split
    · rename_i l
      have h1 := vacGo_keeps (args := l) (H := H)
      generalize vacGo l H = t at h1 ⊢
      obtain ⟨l', H1, q1⟩ := t
      dsimp only at h1 ⊢
      have h2 := vacG2_keeps (args := r) (H := H1)
      generalize vacG2 r H1 = t at h2 ⊢
      obtain ⟨r', H2, q2⟩ := t
      simp only at h1 h2 ⊢
      exact ⟨by omega, fun i hi => (h2.2 i (by omega)).trans (h1.2 i hi)⟩
    · have h1 := vacGo_keeps (args := [x]) (H := H)
      generalize vacGo [x] H = t at h1 ⊢
      obtain ⟨l', H1, q1⟩ := t
      dsimp only at h1 ⊢
      have h2 := vacG2_keeps (args := r) (H := H1)
      generalize vacG2 r H1 = t at h2 ⊢
      obtain ⟨r', H2, q2⟩ := t
      simp only at h1 h2 ⊢
      exact ⟨by omega, fun i hi => (h2.2 i (by omega)).trans (h1.2 i hi)⟩
theorem vac_denL_append {e : Env} : ∀ {xs ys : List SV} {vs ws : List Value}, DenL e xs vs → DenL e ys ws → DenL e (xs ++ ys) (vs ++ ws)
  | [], ys, vs, ws, h, h' => by simp only [DenL] at h; subst h; exact h'
  | x :: xs, ys, vs, ws, h, h' => by
    simp only [DenL] at h
    obtain ⟨v, r, rfl, h1, h2⟩ := h
    simp only [List.cons_append, DenL]
    exact ⟨v, r ++ ws, rfl, h1, vac_denL_append h2 h'⟩
theorem vacG2_ok : ∀ {args : List SV} {H : List (SB τ)} {e : Env} {Fr : PH} {w : World} {vs : List Value}, (vacG2 args H).2.2 = true → DenL e args vs → Models I e H Fr w →
    ∃ e', Le e e' ∧ Models I e' (vacG2 args H).2.1 Fr w ∧ DenL e' (vacG2 args H).1 vs
  | [], H, e, Fr, w, vs, _, hd, hM => ⟨e, Le.refl e, hM, hd⟩
  | x :: r, H, e, Fr, w, vs, hq, hd, hM => by
    simp only [DenL] at hd
    obtain ⟨v, us, rfl, hx, hr⟩ := hd
    unfold vacG2 at hq ⊢
    split at hq
    · rename_i l
      simp only [Den] at hx
      obtain ⟨ws, hws, rfl⟩ := hx
      have h1 := vacGo_ok (I := I) (args := l) (H := H) (e := e) (Fr := Fr) (w := w) (vs := ws)
      generalize vacGo l H = t at hq h1 ⊢
      obtain ⟨l', H1, q1⟩ := t
      dsimp only at hq h1 ⊢
      have h2 := fun e => vacG2_ok (args := r) (H := H1) (e := e) (Fr := Fr) (w := w) (vs := us)
      generalize vacG2 r H1 = t at hq h2 ⊢
      obtain ⟨r', H2, q2⟩ := t
      simp only [Bool.and_eq_true] at hq h1 h2 ⊢
      obtain ⟨e1, a1, a2, a3⟩ := h1 hq.1 hws hM
      obtain ⟨e2, b1, b2, b3⟩ := h2 e1 hq.2 (hr.mono a1) a2
      refine ⟨e2, a1.trans b1, b2, ?_⟩
      simp only [DenL, Den]
      exact ⟨_, us, rfl, ⟨ws, a3.mono b1, rfl⟩, b3⟩
    · have h1 := vacGo_ok (I := I) (args := [x]) (H := H) (e := e) (Fr := Fr) (w := w) (vs := [v])
      generalize vacGo [x] H = t at hq h1 ⊢
      obtain ⟨l', H1, q1⟩ := t
      dsimp only at hq h1 ⊢
      have h2 := fun e => vacG2_ok (args := r) (H := H1) (e := e) (Fr := Fr) (w := w) (vs := us)
      generalize vacG2 r H1 = t at hq h2 ⊢
      obtain ⟨r', H2, q2⟩ := t
      simp only [Bool.and_eq_true] at hq h1 h2 ⊢
      obtain ⟨e1, a1, a2, a3⟩ := h1 hq.1 (by simp only [DenL]; exact ⟨v, [], rfl, hx, rfl⟩) hM
      obtain ⟨e2, b1, b2, b3⟩ := h2 e1 hq.2 (hr.mono a1) a2
      exact ⟨e2, a1.trans b1, b2, vac_denL_append (a3.mono b1) b3⟩
def vac (ac : ACon τ) : ACon τ := fun args H =>
  match vacG2 args H with
  | (args', H', q) => .ask (q = true) (ac args' H')
theorem vac_ok {g : FuncId} {ac : ACon τ} (h : AConOk I P g ac) : AConOk I P g (vac ac) := by
  refine ⟨fun args H x H' ws b hh hw hb => ?_, fun args H e Fr w vs hpre hd hM => ?_⟩
  · unfold vac at hh
    have hk := vacG2_keeps (args := args) (H := H)
    generalize vacG2 args H = t at hh hk
    obtain ⟨r', H2, q'⟩ := t
    simp only at hk
    obtain ⟨h1, h2⟩ := h.keeps r' H2 x H' ws b hh hw (by omega)
    exact ⟨h1.trans (hk.2 b hb), by omega⟩
  · unfold vac at hpre ⊢
    have hok := vacG2_ok (I := I) (args := args) (H := H) (e := e) (Fr := Fr) (w := w) (vs := vs)
    generalize vacG2 args H = t at hpre hok ⊢
    obtain ⟨r', H2, q'⟩ := t
    obtain ⟨e1, h1, h2, h3⟩ := hok hpre.1 hd hM
    refine (h.ok r' H2 e1 Fr w vs hpre.2 h3 h2).mono fun en w' hh => ?_
    obtain ⟨x, H', ws, e', v, g1, g2, g3, g4, g5⟩ := hh
    exact ⟨x, H', ws, e', v, g1, g2, h1.trans g3, g4, g5⟩
def stX (y : SV) (H : List (SB τ)) (n : Nat) : St τ := { tm := [y], H := H, df := [], base := n, rnd := false }
def altFin : Alt τ → Nat → SV → List (SB τ) → Prop
  | .bad, _, _, _ => False
  | .ask _ t, n, y, H' => altFin t n y H'
  | .br c l r, n, y, H' => Go.Sym.br c (altFin l n y H') (altFin r n y H')
  | .one x H _, n, y, H' => weakP (stX y H' n) (stX x H n)
theorem altFin_ok : ∀ {t : Alt τ} {n : Nat} {y : SV} {H' : List (SB τ)}, altFin t n y H' → ∃ x H ws, t.has x H ws ∧ weakP (stX y H' n) (stX x H n)
  | .bad, _, _, _, h => h.elim
  | .ask _ t, _, _, _, h => altFin_ok (t := t) h
  | .br c l r, _, _, _, h => by
    rcases br_elim h with ⟨rfl, h0⟩ | ⟨rfl, h0⟩
    · obtain ⟨x, H, ws, h1, h2⟩ := altFin_ok h0; exact ⟨x, H, ws, .inl ⟨rfl, h1⟩, h2⟩
    · obtain ⟨x, H, ws, h1, h2⟩ := altFin_ok h0; exact ⟨x, H, ws, .inr ⟨rfl, h1⟩, h2⟩
  | .one x H ws, _, _, _, h => ⟨x, H, ws, ⟨rfl, rfl, rfl⟩, h⟩
def mkLC {α : Type} (dec : List SV → List (SB τ) → Option α) (alt : α → Alt τ) : ACon τ := fun args H =>
  match dec args H with
  | some a => alt a
  | none => .bad
theorem lc_of_run {g : FuncId} {fn : Func} {α : Type} {dec : List SV → List (SB τ) → Option α} {eA : α → List SV} {eH : α → List (SB τ)} (hdec : ∀ args H a, dec args H = some a → args = eA a ∧ H = eH a) {alt : α → Alt τ}
    (cfg : α → Cfg τ) (hcfg : ∀ a (I : Inv τ), CfgOk I (cfg a)) (hP : ∀ a, (cfg a).P = P) {n : Nat} (hf : P.funcs[g]? = some fn)
    (h : ∀ a, (alt a).pre → Ask (bodyK P (run (cfg a) n) fn (eA a) (eH a) (fun y H' => altFin (alt a) (eH a).length y H'))) : ∀ I : Inv τ, LCOk I P g (mkLC dec alt) := by
  intro I args H e Fr w vs hpre hd hM
  unfold mkLC at hpre ⊢
  split at hpre
  · rename_i a ha
    obtain ⟨rfl, rfl⟩ := hdec _ _ _ ha
    have hP' := hP a
    subst hP'
    refine (body_ok (run_ok (hcfg a I) n) hf (h a hpre).h hd hM).mono fun en w' he => ?_
    obtain ⟨y, H', e', v, rfl, hle, hM', hdv, hfin⟩ := he
    obtain ⟨x, Hx, ws, hh, hwk⟩ := altFin_ok hfin
    obtain ⟨e2, hl2, hok⟩ := weak_ok (D := []) (s := stX y H' (eH a).length) (a := { tmps := #[v], defers := [] }) ⟨hM', by simp only [stX, DenL]; exact ⟨v, [], rfl, hdv, rfl⟩, rfl, rfl⟩ (weakP_ok hwk)
    refine ⟨x, Hx, ws, e2, v, hh, rfl, ?_, hok.models, ?_⟩
    · intro i r hr
      have hi : i < (eH a).length := by
        obtain ⟨_, hs, _, h2, _⟩ := hM
        rcases Nat.lt_or_ge i (eH a).length with hi | hi
        · exact hi
        · rw [(h2 i hi).1] at hr; cases hr
      obtain ⟨r1, h1, h2⟩ := hle i r hr
      obtain ⟨r2, h3, h4⟩ := hl2 i hi r1 h1
      exact ⟨r2, h3, Ref.le_trans h2 h4⟩
    · have := hok.tm
      simp only [stX, DenL] at this
      obtain ⟨u, r, h1, h2, _⟩ := this
      simp only [List.cons.injEq] at h1
      rw [h1.1]; exact h2
  · exact hpre.elim
def altFinS : Alt τ → Nat → St τ → Prop
  | .bad, _, _ => False
  | .ask _ t, n, s => altFinS t n s
  | .br c l r, n, s => Go.Sym.br c (altFinS l n s) (altFinS r n s)
  | .one x H _, n, s => weakP s (stX x H n)
theorem altFinS_ok : ∀ {t : Alt τ} {n : Nat} {s : St τ}, altFinS t n s → ∃ x H ws, t.has x H ws ∧ weakP s (stX x H n)
  | .bad, _, _, h => h.elim
  | .ask _ t, _, _, h => altFinS_ok (t := t) h
  | .br c l r, _, _, h => by
    rcases br_elim h with ⟨rfl, h0⟩ | ⟨rfl, h0⟩
    · obtain ⟨x, H, ws, h1, h2⟩ := altFinS_ok h0; exact ⟨x, H, ws, .inl ⟨rfl, h1⟩, h2⟩
    · obtain ⟨x, H, ws, h1, h2⟩ := altFinS_ok h0; exact ⟨x, H, ws, .inr ⟨rfl, h1⟩, h2⟩
  | .one x H _, _, _, h => ⟨x, H, _, ⟨rfl, rfl, rfl⟩, h⟩
def altFinF (F : St τ → List Fx) (t : Alt τ) (n : Nat) (y : SV) (H' : List (SB τ)) : Prop :=
  forceSt (stX y H' n) fun s => fxs s (F s) fun s' => forceSt s' fun s => altFinS t n s
theorem lc_of_callsF {g : FuncId} {α : Type} {dec : List SV → List (SB τ) → Option α} {eA : α → List SV} {eH : α → List (SB τ)} (hdec : ∀ args H a, dec args H = some a → args = eA a ∧ H = eH a) {alt : α → Alt τ} {F : St τ → List Fx}
    (h : ∀ a (I : Inv τ) (e : Env) (Fr : PH) (w : World) (vs : List Value), (alt a).pre → DenL e (eA a) vs → Models I e (eH a) Fr w → Calls P g vs.toArray w (Ends I e Fr fun y H' => altFinF F (alt a) (eH a).length y H')) : ∀ I : Inv τ, LCOk I P g (mkLC dec alt) := by
  intro I args H e Fr w vs hpre hd hM
  unfold mkLC at hpre ⊢
  split at hpre
  · rename_i a ha
    obtain ⟨rfl, rfl⟩ := hdec _ _ _ ha
    refine (h a I e Fr w vs hpre hd hM).mono fun en w' he => ?_
    obtain ⟨y, H', e', v, rfl, hle, hM', hdv, hfin⟩ := he
    unfold altFinF at hfin
    rw [forceSt_eq] at hfin
    have hok0 : StOk I e' Fr [] (stX y H' (eH a).length) { tmps := #[v], defers := [] } w' := ⟨hM', by simp only [stX, DenL]; exact ⟨v, [], rfl, hdv, rfl⟩, rfl, rfl⟩
    obtain ⟨e1, s1, hl1, hok1, _, _, hfin⟩ := fxs_ok hok0 hfin
    rw [forceSt_eq] at hfin
    obtain ⟨x, Hx, ws, hh, hwk⟩ := altFinS_ok hfin
    have hwk := weakP_ok hwk
    obtain ⟨e2, hl2, hok⟩ := weak_ok hok1 hwk
    have hb1 : s1.base = (eH a).length := hwk.base
    refine ⟨x, Hx, ws, e2, v, hh, rfl, ?_, hok.models, ?_⟩
    · intro i r hr
      have hi : i < (eH a).length := by
        obtain ⟨_, hs, _, h2, _⟩ := hM
        rcases Nat.lt_or_ge i (eH a).length with hi | hi
        · exact hi
        · rw [(h2 i hi).1] at hr; cases hr
      obtain ⟨r1, h1, h2⟩ := hle i r hr
      obtain ⟨r2, h3, h4⟩ := hl1 i hi r1 h1
      obtain ⟨r3, h5, h6⟩ := hl2 i (by rw [hb1]; exact hi) r2 h3
      exact ⟨r3, h5, Ref.le_trans h2 (Ref.le_trans h4 h6)⟩
    · have := hok.tm
      simp only [stX, DenL] at this
      obtain ⟨u, r, h1, h2, _⟩ := this
      simp only [List.cons.injEq] at h1
      rw [h1.1]; exact h2
  · exact hpre.elim
def lcOr (a b : ACon τ) : ACon τ := fun args H => match a args H with
  | .bad => b args H
  | t => t
theorem lcOr_ok {g : FuncId} {a b : ACon τ} (ha : ∀ I : Inv τ, LCOk I P g a) (hb : ∀ I : Inv τ, LCOk I P g b) : ∀ I : Inv τ, LCOk I P g (lcOr a b) := by
  intro I args H e Fr w vs hpre hd hM
  unfold lcOr at hpre ⊢
  split at hpre
  · rename_i hbad
    exact hb I args H e Fr w vs hpre hd hM
  · rename_i hbad
    exact ha I args H e Fr w vs hpre hd hM
def LCs (P : Program) : List (Nat × ACon Unit) → Prop
  | [] => True
  | (g, lc) :: r => (∀ I : Inv Unit, LCOk I P g lc) ∧ LCs P r
theorem look_lc {P : Program} : ∀ {l : List (Nat × ACon Unit)} {g : Nat} {lc : ACon Unit}, LCs P l → look l g = some lc → ∀ I : Inv Unit, LCOk I P g lc
  | [], _, _, _, h => by simp [look] at h
  | (k, a) :: r, g, lc, hp, h => by
    unfold look at h
    split at h
    · rename_i hk; rw [Nat.beq_eq] at hk; subst hk; simp only [Option.some.injEq] at h; subst h; exact hp.1
    · exact look_lc hp.2 h
def allCfg (P : Program) (l : List (Nat × PS)) (ls : List (Nat × ACon Unit)) (u : Nat) (an : List (Nat × Ann Unit) := []) (jn : List (Nat × Ann Unit) := []) : Cfg Unit :=
  { P := P, con := fun g => (look l g).map pureCon, pcon := fun g => (look l g).map fun ps args _ => ps args, unroll := u, ann := fun k => look an k, acon := fun g => (look ls g).map fun lc => vac (gac lc), join := fun k => look jn k }
theorem allCfg_ok {I : Inv Unit} {P : Program} {l : List (Nat × PS)} {ls : List (Nat × ACon Unit)} {u : Nat} {an jn : List (Nat × Ann Unit)} (hm : P.follows .mixedOrders = true) (h : Pures P l) (h' : LCs P ls) : CfgOk I (allCfg P l ls u an jn) := by
  refine ⟨hm, ⟨fun g con hc => ?_, fun g ac hc => ?_⟩, fun g pc hc => ?_⟩
  · simp only [allCfg, Option.map_eq_some_iff] at hc
    obtain ⟨ps, hl, rfl⟩ := hc
    exact pureCon_ok (look_pure h hl)
  · simp only [allCfg, Option.map_eq_some_iff] at hc
    obtain ⟨lc, hl, rfl⟩ := hc
    exact vac_ok (frame_ok (look_lc h' hl I))
  · simp only [allCfg, Option.map_eq_some_iff] at hc
    obtain ⟨ps, hl, rfl⟩ := hc
    exact purePCon_ok (look_pure h hl)
theorem pureOk_all {P : Program} {g : FuncId} {fn : Func} {α : Type} {s : ShL α} {φ : α → Prop} {r : α → SV} (cfg : α → Cfg Unit) (hcon : ∀ a (I : Inv Unit), CfgOk I (cfg a)) (hP : ∀ a, (cfg a).P = P) {n : Nat} (hf : P.funcs[g]? = some fn)
    (h1 : ∀ a, scL 0 (s.enc a) = true) (h2 : ∀ a, scS 0 (r a) = true)
    (h : ∀ a, φ a → Ask (bodyK P (run (cfg a) n) fn (s.enc a) [] (fun y _ => y = r a))) : PureOk P g (mkPS s φ r) := pureOk_mkA cfg hcon hP hf h1 h2 h
structure ShB (α : Type) where
  enc : α → SB Unit
  dec : SB Unit → Option α
  ok : ∀ x a, dec x = some a → x = enc a
structure ShH (α : Type) where
  enc : α → List (SB Unit)
  dec : List (SB Unit) → Option α
  ok : ∀ x a, dec x = some a → x = enc a
def shHNil : ShH Unit where
  enc _ := []
  dec x := match x with
    | [] => some ()
    | _ => none
  ok x a h := by
    split at h
    · rfl
    · cases h
def shHCons {α β : Type} (s : ShB α) (t : ShH β) : ShH (α × β) where
  enc a := s.enc a.1 :: t.enc a.2
  dec x := match x with
    | y :: r => match s.dec y with
      | some a => match t.dec r with
        | some b => some (a, b)
        | none => none
      | none => none
    | _ => none
  ok x a h := by
    split at h
    · split at h
      · rename_i hs
        split at h
        · rename_i ht
          simp only [Option.some.injEq] at h
          subst h
          rw [s.ok _ _ hs, t.ok _ _ ht]
        · cases h
      · cases h
    · cases h
def shHOne {α : Type} (s : ShB α) : ShH α where
  enc a := [s.enc a]
  dec x := match x with
    | [y] => s.dec y
    | _ => none
  ok x a h := by
    split at h
    · rw [s.ok _ _ h]
    · cases h
def shCells {α : Type} (s : ShL α) (T : TypeId) : ShB α where
  enc a := .cells (s.enc a) T
  dec x := match x with
    | .cells l T' => match Nat.beq T' T with
      | true => s.dec l
      | false => none
    | _ => none
  ok x a h := by
    split at h
    · split at h
      · rename_i hT
        rw [Nat.beq_eq] at hT
        subst hT
        rw [s.ok _ _ h]
      · cases h
    · cases h
def shP (b : Nat) : Sh Unit where
  enc _ := .p b 0
  dec x := match x with
    | .p b' o => match Nat.beq b' b && Nat.beq o 0 with
      | true => some ()
      | false => none
    | _ => none
  ok x a h := by
    split at h
    · split at h
      · rename_i hT
        rw [Bool.and_eq_true, Nat.beq_eq, Nat.beq_eq] at hT
        obtain ⟨rfl, rfl⟩ := hT
        rfl
      · cases h
    · cases h
def shO (b : Nat) : Sh Nat where
  enc ep := .h b [ep, 0]
  dec x := match x with
    | .h b' p => match Nat.beq b' b with
      | true => match p with
        | [ep, z] => match z with
          | 0 => some ep
          | _ => none
        | _ => none
      | false => none
    | _ => none
  ok x a h := by
    split at h
    · split at h
      · rename_i hT
        rw [Nat.beq_eq] at hT
        subst hT
        split at h
        · split at h
          · simp only [Option.some.injEq] at h; subst h; rfl
          · cases h
        · cases h
      · cases h
    · cases h
def shStr : Sh ByteArray where
  enc s := .v (.string s)
  dec x := match x with
    | .v (.string s) => some s
    | _ => none
  ok x a h := by
    split at h
    · simp only [Option.some.injEq] at h; subst h; rfl
    · cases h
structure OI where
  xs : List Int
  n : Nat
  ep : Nat
def shOwnI (k : IntKind) (T : TypeId) (nn : Bool) : ShB OI where
  enc a := .own (.ints k a.xs) a.n T 1 a.ep nn
  dec x := match x with
    | .own c n T' sz ep nn' => match c with
      | .ints k' xs => match decide (k' = k) && (Nat.beq T' T && (Nat.beq sz 1 && (nn' == nn))) with
        | true => some ⟨xs, n, ep⟩
        | false => none
      | _ => none
    | _ => none
  ok x a h := by
    split at h
    · split at h
      · split at h
        · rename_i hc
          simp only [Bool.and_eq_true, decide_eq_true_eq, Nat.beq_eq, beq_iff_eq] at hc
          obtain ⟨rfl, rfl, rfl, rfl⟩ := hc
          simp only [Option.some.injEq] at h
          subst h
          rfl
        · cases h
      · cases h
    · cases h
def decAH {α β γ : Type} (s : ShL α) (t : ShH β) (f : α → β → γ) : List SV → List (SB Unit) → Option γ := fun args H =>
  match s.dec args with
  | some a => match t.dec H with
    | some b => some (f a b)
    | none => none
  | none => none
theorem decAH_ok {α β γ : Type} {s : ShL α} {t : ShH β} {f : α → β → γ} {g : γ → α × β} (hg : ∀ a b, g (f a b) = (a, b)) : ∀ args H c, decAH s t f args H = some c → args = s.enc (g c).1 ∧ H = t.enc (g c).2 := by
  intro args H c h
  unfold decAH at h
  split at h
  · rename_i ha
    split at h
    · rename_i hb
      simp only [Option.some.injEq] at h
      subst h
      rw [hg]
      exact ⟨s.ok _ _ ha, t.ok _ _ hb⟩
    · cases h
  · cases h
def decP {α β : Type} (s : ShL α) (t : ShH β) : List SV → List (SB Unit) → Option (α × β) := decAH s t Prod.mk
theorem decP_ok {α β : Type} {s : ShL α} {t : ShH β} : ∀ args H c, decP s t args H = some c → args = s.enc c.1 ∧ H = t.enc c.2 := decAH_ok (g := id) fun _ _ => rfl
theorem lc_mk {g : FuncId} {fn : Func} {α β : Type} {s : ShL α} {t : ShH β} {alt : α × β → Alt Unit} (cfg : α × β → Cfg Unit) (hcfg : ∀ a (I : Inv Unit), CfgOk I (cfg a)) (hP : ∀ a, (cfg a).P = P) {n : Nat} (hf : P.funcs[g]? = some fn)
    (h : ∀ a, (alt a).pre → Ask (bodyK P (run (cfg a) n) fn (s.enc a.1) (t.enc a.2) (fun y H' => altFin (alt a) (t.enc a.2).length y H'))) : ∀ I : Inv Unit, LCOk I P g (mkLC (decP s t) alt) :=
  lc_of_run decP_ok cfg hcfg hP hf h
theorem lc_mkF {g : FuncId} {fn : Func} {α β : Type} {s : ShL α} {t : ShH β} {alt : α × β → Alt Unit} (F : St Unit → List Fx) (cfg : α × β → Cfg Unit) (hcfg : ∀ a (I : Inv Unit), CfgOk I (cfg a)) (hP : ∀ a, (cfg a).P = P) {n : Nat} (hf : P.funcs[g]? = some fn)
    (h : ∀ a, (alt a).pre → Ask (bodyK P (run (cfg a) n) fn (s.enc a.1) (t.enc a.2) (fun y H' => altFinF F (alt a) (t.enc a.2).length y H'))) : ∀ I : Inv Unit, LCOk I P g (mkLC (decP s t) alt) :=
  lc_of_callsF (F := F) decP_ok fun a I e Fr w vs hpre hd hM => by
    have hP' := hP a
    subst hP'
    exact body_ok (run_ok (hcfg a I) n) hf (h a hpre).h hd hM
end Go.Sym
