/- The symbolic step of every quiet operation, whole. -/
import Derived.Test.YtienakdnmhmglaaVOc
set_option linter.unusedSimpArgs false
set_option linter.unusedVariables false
set_option linter.unusedSectionVars false
namespace Go.Sym
open Go
variable {P : Program} {w : World} {τ : Type} {I : Inv τ}

/-- Memory that is only read goes one way, all else the other one. -/
def viaR {α : Type} (x : SV) (a b : Option α) : Option α :=
  match x with
  | .r _ _ => b
  | _ => a
theorem viaR_or {α : Type} {x : SV} {a b : Option α} {r : α} (h : viaR x a b = some r) : a = some r ∨ b = some r := by
  unfold viaR at h
  split at h
  · exact .inr h
  · exact .inl h
theorem viaR_heap {α : Type} {x : SV} {a b a' b' : Option α} {r : α} (h : viaR x a b = some r) (ha : a = some r → a' = some r) (hb : b = some r → b' = some r) : viaR x a' b' = some r := by
  unfold viaR at h ⊢
  split at h
  · exact hb h
  · exact ha h
/-- Is it the nil slice? -/
def litNil (x : SV) : Bool :=
  match x with
  | .v (.slice none _ _) => true
  | _ => false
def strS (P : Program) (s d : TypeId) (x : SV) (H : List (SB τ)) : Option (Bool × SV) :=
  match P.underlying s, P.underlying d with
  | some (.slice el), some .string => match P.underlying el, szT P el with
    | some (.int .u8), some 1 => match srcC x H 1 with
      | some (c, m, .ints .u8 xs) => some (c && Nat.beq xs.length m, .v (.string (bytesOf xs)))
      | some (c, m, .sv l) => match allInts .u8 l with
        | true => some (c && Nat.beq l.length m, .v (.string (bytesOf (intsOf l))))
        | false => none
      | _ => none
    | _, _ => none
  | _, _ => none
/-- A pointer to a row of cells, as unsafe.Pointer, and back. -/
def convU (P : Program) (s d : TypeId) (x : SV) (H : List (SB τ)) : Option (Bool × SV) :=
  match P.underlying s with
  | some (.pointer t) => match P.underlying d with
    | some .unsafePointer => match x with
      | .p b o => match H[b]? with
        | some (.cells l _) => match szT P t with
          | some (_ + 1) => some (Nat.blt o l.length, .p b o)
          | _ => none
        | _ => none
      | _ => none
    | _ => none
  | some .unsafePointer => match P.underlying d with
    | some (.pointer u) => match x with
      | .p b o => match H[b]? with
        | some (.cells l T) => match P.info? u with
          | some _ => some (liesAt P P.depth T (l.length / P.cellsOf T) o u 1, .p b o)
          | none => none
        | _ => none
      | _ => none
    | _ => none
  | _ => none
theorem convU_ok {e : Env} {H : List (SB τ)} {Fr : PH} {s d : TypeId} {x y : SV} {c : Bool} {v : Value} (hM : Models I e H Fr w) (h : convU P s d x H = some (c, y)) (hc : c = true) (hd : Den e x v) :
    ∃ u, (convert s d v).run P w = .ok u w ∧ Den e y u := by
  unfold convU at h
  split at h
  · rename_i t hs
    split at h
    · rename_i hdst
      split at h
      · rename_i b o
        split at h
        · rename_i l T hb
          split at h
          · rename_i k hsz
            simp only [Option.some.injEq, Prod.mk.injEq] at h
            obtain ⟨h1, rfl⟩ := h
            rw [hc, Nat.blt_eq] at h1
            obtain ⟨n, vs, g1, g2, g3⟩ := hM.cells hb
            have hd' := hd
            simp only [Den] at hd
            obtain ⟨m, g4, rfl⟩ := hd
            rw [g1] at g4; cases g4
            unfold szT at hsz
            split at hsz
            · rename_i j hj
              simp only [Option.some.injEq] at hsz
              refine ⟨_, Lib.run_to_unsafe (e := T) (cells := vs.length) w ⟨n, o, none⟩ hs hdst hj (by omega) (by simp [World.shape?, g3]) (by rw [← g2.length]; exact h1), hd'⟩
            · cases hsz
          · cases h
        · cases h
      · cases h
    · cases h
  · rename_i hs
    split at h
    · rename_i u hdst
      split at h
      · rename_i b o
        split at h
        · rename_i l T hb
          split at h
          · rename_i j hj
            simp only [Option.some.injEq, Prod.mk.injEq] at h
            obtain ⟨h1, rfl⟩ := h
            rw [hc] at h1
            obtain ⟨n, vs, g1, g2, g3⟩ := hM.cells hb
            have hd' := hd
            simp only [Den] at hd
            obtain ⟨m, g4, rfl⟩ := hd
            rw [g1] at g4; cases g4
            refine ⟨_, Lib.run_from_unsafe (e := T) (cells := vs.length) w ⟨n, o, none⟩ hs hdst hj (by simp [World.shape?, g3]) (by rw [← g2.length]; exact h1), hd'⟩
          · cases h
        · cases h
      · cases h
    · cases h
  · cases h
def convH (P : Program) (s d : TypeId) (x : SV) (H : List (SB τ)) : Option (Bool × SV) :=
  match strS P s d x H with
  | some r => some r
  | none => convU P s d x H
def stepH (P : Program) (op : Op) (tm : List SV) (H : List (SB τ)) : Option (Bool × SV) :=
  match op with
  | .call { callee := .builtin .len, args, argTypes } => match argTypes.toList, args.toList.map (ev tm) with
    | [T], [x] => match P.underlying T with
      | some (.slice _) => viaR x (lenH x H) (lenV x H)
      | _ => none
    | _, _ => none
  | .indexAddr T x ix => match ev tm ix, P.underlying T with
    | .v (.int _ i), some (.slice el) => match szT P el with
      | some k => viaR (ev tm x) (idxH (ev tm x) H i k) (idxV (ev tm x) H i k)
      | none => none
    | _, _ => none
  | .fieldAddr S x i => match P.underlying S with
    | some (.struct fields) => match fields[i]? with
      | some f => match szT P f.type with
        | some (_ + 1) => viaR (ev tm x) (fldH (ev tm x) H f.offset) (fldV (ev tm x) H f.offset)
        | _ => none
      | none => none
    | _ => none
  | .load T x => viaR (ev tm x) (loadH P T (ev tm x) H) (loadV P T (ev tm x) H)
  | .slice T x lo hi none => match P.underlying T with
    | some (.slice el) => match szT P el with
      | some k => cutH (ev tm x) H (lo.map (ev tm)) (hi.map (ev tm)) k
      | none => none
    | _ => none
  | .binOp o T x y _ => match P.underlying T, o with
    | some (.slice _), .eql => match litNil (ev tm y) with
      | true => (realH (ev tm x) H).map fun c => (c, .v (.bool false))
      | false => none
    | some (.slice _), .neq => match litNil (ev tm y) with
      | true => (realH (ev tm x) H).map fun c => (c, .v (.bool true))
      | false => none
    | _, _ => none
  | .convert s d x => convH P s d (ev tm x) H
  | _ => none

theorem run_len {T ty el : TypeId} {a : Option Addr} {n cap : Nat} (hu : P.underlying T = some (.slice el)) : (Builtin.len_ #[T] ty #[.slice a n cap]).run P w = .ok (.int .i64 n) w := by
  simp [Builtin.len_, run_und hu, goInt]
theorem run_real {T el : TypeId} {a : Addr} {n cap : Nat} {u v : Value} {ox oy : Operand} (hu : P.underlying T = some (.slice el)) (hv : ∃ n c, v = .slice none n c) :
    (do eqGuard .eql T ox oy (.slice (some a) n cap) v; binOp .eql T (.slice (some a) n cap) v : Sem Value).run P w = .ok (.bool false) w ∧
    (do eqGuard .neq T ox oy (.slice (some a) n cap) v; binOp .neq T (.slice (some a) n cap) v : Sem Value).run P w = .ok (.bool true) w := by
  obtain ⟨_, _, rfl⟩ := hv
  refine run_eq_of (r := false) ?_ rfl rfl rfl rfl
  generalize hd : 10000 = d
  obtain ⟨d, rfl⟩ : ∃ k, d = k + 1 := ⟨9999, hd.symm⟩
  clear hd
  simp [Op.equalIn, run_und hu]
theorem litNil_ok {e : Env} {x : SV} {v : Value} (h : litNil x = true) (hd : Den e x v) : ∃ n c, v = .slice none n c := by
  unfold litNil at h
  split at h
  · simp only [Den] at hd; exact ⟨_, _, hd⟩
  · cases h
theorem strS_ok {e : Env} {H : List (SB τ)} {Fr : PH} {s d : TypeId} {x y : SV} {c : Bool} {v : Value} (hM : Models I e H Fr w) (h : strS P s d x H = some (c, y)) (hc : c = true) (hd : Den e x v) :
    ∃ u, (convert s d v).run P w = .ok u w ∧ Den e y u := by
  unfold strS at h
  split at h
  · rename_i el hs hdst
    split at h
    · rename_i hel hsz
      have key : ∀ (xs : List Int) (m : Nat) (vs : List Value), vs = xs.map (Value.int .u8) → xs.length = m → SrcIn w v m 1 vs → (convert s d v).run P w = .ok (.string (bytesOf xs)) w := fun xs m vs h1 h2 h3 => by
        subst h1; subst h2
        have hb := run_bytes (P := P) h3
        have hsl : ∃ a n cap, v = .slice a n cap := by
          obtain ⟨_, _, ⟨rfl, _⟩ | ⟨a, cap, rfl, _⟩⟩ := h3
          · exact ⟨_, _, _, rfl⟩
          · exact ⟨_, _, _, rfl⟩
        obtain ⟨a, n, cap, rfl⟩ := hsl
        cases a with
        | none => simp only [convert, Sem.run_bind, run_und hs, run_und hdst, Result.andThen_ok, run_und hel, hb]
        | some a => simp only [convert, Sem.run_bind, run_und hs, run_und hdst, Result.andThen_ok, run_und hel, hb]
      split at h
      · rename_i c' m xs hsrc
        simp only [Option.some.injEq, Prod.mk.injEq] at h
        obtain ⟨h1, rfl⟩ := h
        rw [hc, Bool.and_eq_true, Nat.beq_eq] at h1
        obtain ⟨vs, h2, h3⟩ := srcC_ok hM hsrc h1.1 hd
        exact ⟨_, key xs m vs h2 h1.2 h3, by simp [Den]⟩
      · rename_i c' m l hsrc
        split at h
        · rename_i hall
          simp only [Option.some.injEq, Prod.mk.injEq] at h
          obtain ⟨h1, rfl⟩ := h
          rw [hc, Bool.and_eq_true, Nat.beq_eq] at h1
          obtain ⟨vs, h2, h3⟩ := srcC_ok hM hsrc h1.1 hd
          have h2 : DenL e l vs := h2
          rw [allInts_ok hall] at h2
          exact ⟨_, key (intsOf l) m vs (ints_den h2) (by rw [intsOf_length]; exact h1.2) h3, by simp [Den]⟩
        · cases h
      · cases h
    · cases h
  · cases h

theorem stepH_ok {e : Env} {tm : List SV} {a : Act} {H : List (SB τ)} {Fr : PH} {o : Oper} {c : Bool} {x : SV} (hM : Models I e H Fr w) (ht : DenL e tm a.tmps.toList)
    (h : stepH P o.op tm H = some (c, x)) (hc : c = true) : ∃ v, (execOp a.eval o).run P w = .ok (.value v) w ∧ Den e x v := by
  unfold stepH at h
  split at h
  · rename_i args ats hop
    split at h
    · rename_i T y hat hargs
      split at h
      · rename_i el hu
        have hev := evs_ok ht args.toList
        rw [hargs] at hev
        simp only [DenL] at hev
        obtain ⟨v1, r1, e1, hd, rfl⟩ := hev
        have hargs' : args.map a.eval = #[v1] := by apply Array.toList_inj.1; simpa using e1
        have hats : ats = #[T] := by apply Array.toList_inj.1; simpa using hat
        have fin : (∃ b n cap, v1 = .slice b n cap ∧ x = .v (.int .i64 n)) → ∃ v, (execOp a.eval o).run P w = .ok (.value v) w ∧ Den e x v := by
          rintro ⟨b, n, cap, rfl, rfl⟩
          refine ⟨.int .i64 n, ?_, by simp [Den]⟩
          simp only [execOp, hop, resolve, hargs', invoke, hats, builtin, Sem.run_bind, Sem.run_pure, Result.andThen_ok, run_len hu]
        rcases viaR_or h with hl | hl
        · exact fin (lenH_ok hM hl hc hd)
        · exact fin (lenV_ok hM hl hc hd)
      · cases h
    · cases h
  · rename_i T ox oi hop
    split at h
    · rename_i kd i el hei hu
      split at h
      · rename_i k hk
        have hi := ev_ok ht oi
        rw [hei] at hi
        simp only [Den] at hi
        have fin : (∃ u, (Instr.indexAt T (a.eval ox) (.int kd i)).run P w = .ok u w ∧ Den e x u) → ∃ v, (execOp a.eval o).run P w = .ok (.value v) w ∧ Den e x v := by
          rintro ⟨u, h1, h2⟩
          exact ⟨u, by simp [execOp, hop, hi, h1], h2⟩
        rcases viaR_or h with hl | hl
        · exact fin (idxH_ok hM hl hc (ev_ok ht ox) hu hk)
        · exact fin (idxV_ok hM hl hc (ev_ok ht ox) hu hk)
      · cases h
    · cases h
  · rename_i S ox i hop
    split at h
    · rename_i fields hu
      split at h
      · rename_i f hf
        split at h
        · rename_i m hm
          have fin : (∃ u, (Instr.fieldAt S (a.eval ox) i).run P w = .ok u w ∧ Den e x u) → ∃ v, (execOp a.eval o).run P w = .ok (.value v) w ∧ Den e x v := by
            rintro ⟨u, h1, h2⟩
            exact ⟨u, by simp [execOp, hop, h1], h2⟩
          rcases viaR_or h with hl | hl
          · exact fin (fldH_ok hM hl hc (ev_ok ht ox) hu hf hm)
          · exact fin (fldV_ok hM hl hc (ev_ok ht ox) hu hf hm)
        · cases h
      · cases h
    · cases h
  · rename_i T ox hop
    have fin : (∃ u, (Instr.loadAt T (a.eval ox)).run P w = .ok u w ∧ Den e x u) → ∃ v, (execOp a.eval o).run P w = .ok (.value v) w ∧ Den e x v := by
      rintro ⟨u, h1, h2⟩
      exact ⟨u, by simp [execOp, hop, h1], h2⟩
    rcases viaR_or h with hl | hl
    · exact fin (loadH_ok hM hl hc (ev_ok ht ox))
    · exact fin (loadV_ok hM hl hc (ev_ok ht ox))
  · rename_i T ox lo hi hop
    split at h
    · rename_i el hu
      split at h
      · rename_i k hk
        obtain ⟨u, hu', hdu⟩ := cutH_ok (P := P) (vl := lo.map a.eval) (vh := hi.map a.eval) hM h hc (ev_ok ht ox) hu hk
          (by intro q hq; cases lo <;> simp at hq; subst hq; exact ⟨_, rfl, ev_ok ht _⟩) (by intro hq; cases lo <;> simp at hq; rfl)
          (by intro q hq; cases hi <;> simp at hq; subst hq; exact ⟨_, rfl, ev_ok ht _⟩) (by intro hq; cases hi <;> simp at hq; rfl)
        exact ⟨u, by simp [execOp, hop, hu'], hdu⟩
      · cases h
    · cases h
  · rename_i op T ox oy ty hop
    split at h
    · rename_i el hu
      split at h
      · rename_i hn
        simp only [Option.map_eq_some_iff, Prod.mk.injEq] at h
        obtain ⟨c', hr, rfl, rfl⟩ := h
        obtain ⟨b, n, cap, hx⟩ := realH_ok hM hr hc (ev_ok ht ox)
        refine ⟨.bool false, ?_, by simp [Den]⟩
        have := (run_real (P := P) (w := w) (u := undef) (a := b) (n := n) (cap := cap) (ox := ox) (oy := oy) hu (litNil_ok hn (ev_ok ht oy))).1
        simp only [execOp, hop, hx]
        rw [Sem.run_bind, this]; rfl
      · cases h
    · rename_i el hu
      split at h
      · rename_i hn
        simp only [Option.map_eq_some_iff, Prod.mk.injEq] at h
        obtain ⟨c', hr, rfl, rfl⟩ := h
        obtain ⟨b, n, cap, hx⟩ := realH_ok hM hr hc (ev_ok ht ox)
        refine ⟨.bool true, ?_, by simp [Den]⟩
        have := (run_real (P := P) (w := w) (u := undef) (a := b) (n := n) (cap := cap) (ox := ox) (oy := oy) hu (litNil_ok hn (ev_ok ht oy))).2
        simp only [execOp, hop, hx]
        rw [Sem.run_bind, this]; rfl
      · cases h
    · cases h
  · rename_i s d ox hop
    have : ∃ u, (convert s d (a.eval ox)).run P w = .ok u w ∧ Den e x u := by
      unfold convH at h
      split at h
      · rename_i r hr
        simp only [Option.some.injEq] at h
        subst h
        exact strS_ok (P := P) hM hr hc (ev_ok ht ox)
      · exact convU_ok (P := P) hM h hc (ev_ok ht ox)
    obtain ⟨u, h1, h2⟩ := this
    exact ⟨u, by simp [execOp, hop, h1], h2⟩
  · cases h

def stepV (P : Program) (op : Op) (tm : List SV) (H : List (SB τ)) : Option (Bool × SV) :=
  match stepV0 P op tm H with
  | some r => some r
  | none => stepH P op tm H
theorem stepV_ok {e : Env} {tm : List SV} {a : Act} {H : List (SB τ)} {Fr : PH} {o : Oper} {c : Bool} {x : SV} (hM : Models I e H Fr w) (ht : DenL e tm a.tmps.toList)
    (h : stepV P o.op tm H = some (c, x)) (hc : c = true) : ∃ v, (execOp a.eval o).run P w = .ok (.value v) w ∧ Den e x v := by
  unfold stepV at h
  split at h
  · rename_i r hr
    simp only [Option.some.injEq] at h
    subst h
    exact stepV0_ok hM ht hr hc
  · exact stepH_ok hM ht h hc

/-! ### Only the operands count, and what is looked at -/
theorem ev_map_congr {tm tm' : List SV} {l : List Operand} (h : ∀ o ∈ l, ev tm o = ev tm' o) : l.map (ev tm) = l.map (ev tm') := List.map_congr_left h
theorem stepV0_congr {P : Program} {op : Op} {tm tm' : List SV} {H : List (SB τ)} (h : ∀ o ∈ op.operands.toList, ev tm o = ev tm' o) : stepV0 P op tm H = stepV0 P op tm' H := by
  cases op with
  | build T parts =>
    simp only [Op.operands] at h
    have e : parts.toList.map (fun p => (p.1, ev tm p.2)) = parts.toList.map (fun p => (p.1, ev tm' p.2)) := by
      refine List.map_congr_left fun p hp => ?_
      rw [h p.2 (by simp; exact ⟨p.1, by simpa using hp⟩)]
    simp only [stepV0, e]
  | makeFunc fn first cap =>
    simp only [Op.operands, Array.toList_append, List.mem_append] at h
    have e := ev_map_congr (l := cap.toList) fun o ho => h o (.inr ho)
    simp only [stepV0, e]
  | slice T x lo hi mx =>
    cases mx with
    | some _ => rfl
    | none =>
      have e1 := h x (by simp [Op.operands])
      have e2 : lo.map (ev tm) = lo.map (ev tm') := by
        cases lo with
        | none => rfl
        | some q => simp only [Option.map_some]; rw [h q (by simp [Op.operands])]
      have e3 : hi.map (ev tm) = hi.map (ev tm') := by
        cases hi with
        | none => rfl
        | some q => simp only [Option.map_some]; rw [h q (by simp [Op.operands])]
      simp only [stepV0, e1, e2, e3]
  | call c =>
    obtain ⟨callee, args, ats⟩ := c
    simp only [Op.operands, Call.operands, Array.toList_append, List.mem_append] at h
    have e := ev_map_congr (l := args.toList) fun o ho => h o (.inr ho)
    cases callee <;> simp only [stepV0]
    rename_i b
    cases b <;> simp only [e]
  | _ => simp only [stepV0] <;> simp_all [Op.operands]
theorem stepH_congr {P : Program} {op : Op} {tm tm' : List SV} {H : List (SB τ)} (h : ∀ o ∈ op.operands.toList, ev tm o = ev tm' o) : stepH P op tm H = stepH P op tm' H := by
  cases op with
  | slice T x lo hi mx =>
    cases mx with
    | some _ => rfl
    | none =>
      have e1 := h x (by simp [Op.operands])
      have e2 : lo.map (ev tm) = lo.map (ev tm') := by
        cases lo with
        | none => rfl
        | some q => simp only [Option.map_some]; rw [h q (by simp [Op.operands])]
      have e3 : hi.map (ev tm) = hi.map (ev tm') := by
        cases hi with
        | none => rfl
        | some q => simp only [Option.map_some]; rw [h q (by simp [Op.operands])]
      simp only [stepH, e1, e2, e3]
  | call c =>
    obtain ⟨callee, args, ats⟩ := c
    simp only [Op.operands, Call.operands, Array.toList_append, List.mem_append] at h
    have e := ev_map_congr (l := args.toList) fun o ho => h o (.inr ho)
    cases callee <;> simp only [stepH]
    rename_i b
    cases b <;> simp only [e]
  | load T x =>
    have e1 := h x (by simp [Op.operands])
    simp only [stepH, e1]
  | indexAddr T x y =>
    have e1 := h x (by simp [Op.operands])
    have e2 := h y (by simp [Op.operands])
    simp only [stepH, e1, e2]
  | fieldAddr T x i =>
    have e1 := h x (by simp [Op.operands])
    simp only [stepH, e1]
  | binOp o T x y z =>
    have e1 := h x (by simp [Op.operands])
    have e2 := h y (by simp [Op.operands])
    simp only [stepH, e1, e2]
  | convert s d x =>
    have e1 := h x (by simp [Op.operands])
    simp only [stepH, e1]
  | _ => simp only [stepH]
theorem stepV_congr {P : Program} {op : Op} {tm tm' : List SV} {H : List (SB τ)} (h : ∀ o ∈ op.operands.toList, ev tm o = ev tm' o) : stepV P op tm H = stepV P op tm' H := by
  simp only [stepV, stepV0_congr h, stepH_congr h]

def hhS (x : SV) : Option Nat :=
  match x with
  | .h b _ => some b
  | .r b _ => some b
  | _ => none
def hsS (x : SV) : Option Nat :=
  match x with
  | .h b _ => some b
  | .r b _ => some b
  | .p b _ => some b
  | .s b _ _ _ => some b
  | _ => none
/-- The item that an operation looks at. -/
def touch (op : Op) (tm : List SV) : Option Nat :=
  match op with
  | .load _ x => hsS (ev tm x)
  | .indexAddr _ x _ => hhS (ev tm x)
  | .fieldAddr _ x _ => hhS (ev tm x)
  | .slice _ x _ _ _ => hhS (ev tm x)
  | .convert _ _ x => hsS (ev tm x)
  | .binOp _ _ x _ _ => hhS (ev tm x)
  | .call { callee := .builtin .len, args, .. } => match args.toList.map (ev tm) with
    | [x] => hhS x
    | _ => none
  | _ => none
theorem touch_congr {op : Op} {tm tm' : List SV} (h : ∀ o ∈ op.operands.toList, ev tm o = ev tm' o) : touch op tm = touch op tm' := by
  cases op with
  | call c =>
    obtain ⟨callee, args, ats⟩ := c
    simp only [Op.operands, Call.operands, Array.toList_append, List.mem_append] at h
    have e := ev_map_congr (l := args.toList) fun o ho => h o (.inr ho)
    cases callee <;> simp only [touch]
    rename_i b
    cases b <;> simp only [e]
  | load T x => have e1 := h x (by simp [Op.operands]); simp only [touch, e1]
  | indexAddr T x y => have e1 := h x (by simp [Op.operands]); simp only [touch, e1]
  | fieldAddr T x y => have e1 := h x (by simp [Op.operands]); simp only [touch, e1]
  | slice T x y z u => have e1 := h x (by simp [Op.operands]); simp only [touch, e1]
  | convert T y x => have e1 := h x (by simp [Op.operands]); simp only [touch, e1]
  | binOp o T x y z => have e1 := h x (by simp [Op.operands]); simp only [touch, e1]
  | _ => simp only [touch]
theorem hsel_h {x : SV} {b ep : Nat} {sel : Option Nat} {r : List Nat} (h : hsel x = some (b, ep, sel, r)) : hhS x = some b ∧ hsS x = some b := by
  rw [hsel_ok h]; exact ⟨rfl, rfl⟩
section
variable {H H' : List (SB τ)} {b : Nat}
theorem getR_heap {ep : Nat} {sel : Option Nat} {r : Bool × Cn × Nat × Nat × TypeId} (h : getR H b ep sel = some r) (hh : ∀ it, H[b]? = some it → H'[b]? = some it) : getR H' b ep sel = some r := by
  unfold getR at h ⊢
  cases hq : H[b]? with
  | none => rw [hq] at h; cases h
  | some it => rw [hq] at h; rw [hh it hq]; exact h
theorem getR_eq {ep : Nat} {sel : Option Nat} (h : H[b]? = H'[b]?) : getR H b ep sel = getR H' b ep sel := by unfold getR; rw [h]
theorem baseN_heap {ep : Nat} {sel : Option Nat} {r : Bool × Nat × Nat} (h : baseN H b ep sel = some r) (hh : ∀ it, H[b]? = some it → H'[b]? = some it) : baseN H' b ep sel = some r := by
  cases hq : H[b]? with
  | none =>
    unfold baseN getR at h
    rw [hq] at h
    cases sel <;> cases h
  | some it =>
    have e : H[b]? = H'[b]? := by rw [hq, hh it hq]
    unfold baseN at h ⊢
    rw [← getR_eq e, ← e]; exact h
theorem lenH_heap {x : SV} {r : Bool × SV} (h : lenH x H = some r) (hh : ∀ b it, hhS x = some b → H[b]? = some it → H'[b]? = some it) : lenH x H' = some r := by
  unfold lenH at h ⊢
  split at h
  · rename_i b ep sel p hs
    split at h
    · rename_i c n sz hb
      rw [baseN_heap hb (fun it => hh b it (hsel_h hs).1)]; exact h
    · cases h
  · cases h
theorem idxH_heap {x : SV} {i : Int} {k : Nat} {r : Bool × SV} (h : idxH x H i k = some r) (hh : ∀ b it, hhS x = some b → H[b]? = some it → H'[b]? = some it) : idxH x H' i k = some r := by
  unfold idxH at h ⊢
  split at h
  · rename_i b ep sel p hs
    split at h
    · rename_i c n sz hb
      rw [baseN_heap hb (fun it => hh b it (hsel_h hs).1)]; exact h
    · cases h
  · cases h
theorem fldH_heap {x : SV} {k : Nat} {r : Bool × SV} (h : fldH x H k = some r) (hh : ∀ b it, hhS x = some b → H[b]? = some it → H'[b]? = some it) : fldH x H' k = some r := by
  unfold fldH at h ⊢
  split at h
  · rename_i b ep sel p hs
    split at h
    · rename_i c n sz hb
      rw [baseN_heap hb (fun it => hh b it (hsel_h hs).1)]; exact h
    · cases h
  · cases h
theorem cutH_heap {x : SV} {lo hi : Option SV} {k : Nat} {r : Bool × SV} (h : cutH x H lo hi k = some r) (hh : ∀ b it, hhS x = some b → H[b]? = some it → H'[b]? = some it) : cutH x H' lo hi k = some r := by
  unfold cutH at h ⊢
  split at h
  · rename_i b ep sel p hs
    split at h
    · rename_i c n sz hb
      rw [baseN_heap hb (fun it => hh b it (hsel_h hs).1)]; exact h
    · cases h
  · cases h
theorem loadH_heap {P : Program} {T : TypeId} {x : SV} {r : Bool × SV} (h : loadH P T x H = some r) (hh : ∀ b it, hsS x = some b → H[b]? = some it → H'[b]? = some it) : loadH P T x H' = some r := by
  unfold loadH at h ⊢
  split at h
  · rename_i b ep sel p hs
    have hb : ∀ it, H[b]? = some it → H'[b]? = some it := fun it => hh b it (hsel_h hs).2
    cases hq : H[b]? with
    | none =>
      exfalso
      split at h
      · unfold getR hdrH at h
        rw [hq] at h
        cases sel <;> simp at h
      · cases h
    | some it =>
      have e : H[b]? = H'[b]? := by rw [hq, hb it hq]
      split at h
      · simp only [← getR_eq e]
        have : ∀ i, hdrH H' b ep sel i = hdrH H b ep sel i := fun i => by unfold hdrH; rw [e]
        rw [this]; exact h
      · cases h
  · cases h
theorem realH_heap {x : SV} {r : Bool} (h : realH x H = some r) (hh : ∀ b it, hhS x = some b → H[b]? = some it → H'[b]? = some it) : realH x H' = some r := by
  unfold realH at h ⊢
  split at h
  · rename_i b ep sel p hs
    have hb : ∀ it, H[b]? = some it → H'[b]? = some it := fun it => hh b it (hsel_h hs).1
    split at h
    · split at h
      · rename_i c n sz hbn
        rw [baseN_heap hbn hb]
        dsimp only
        cases hq : H[b]? with
        | none => rw [hq] at h; unfold baseN getR at hbn; rw [hq] at hbn; cases sel <;> cases hbn
        | some it => rw [hb it hq]; rw [hq] at h; exact h
      · cases h
    · cases h
  · cases h
theorem viewB_heap {x : SV} {r : Nat × List Nat × IC} (h : viewB x H = some r) (hh : ∀ b it, hhS x = some b → H[b]? = some it → H'[b]? = some it) : viewB x H' = some r := by
  unfold viewB at h ⊢
  split at h
  · rename_i b p
    cases hq : H[b]? with
    | none => rw [hq] at h; cases h
    | some it => rw [hh b it rfl hq]; rw [hq] at h; exact h
  · cases h
theorem lenV_heap {x : SV} {r : Bool × SV} (h : lenV x H = some r) (hh : ∀ b it, hhS x = some b → H[b]? = some it → H'[b]? = some it) : lenV x H' = some r := by
  unfold lenV at h ⊢
  split at h
  · rename_i hv; rw [viewB_heap hv hh]; exact h
  · cases h
theorem idxV_heap {x : SV} {i : Int} {k : Nat} {r : Bool × SV} (h : idxV x H i k = some r) (hh : ∀ b it, hhS x = some b → H[b]? = some it → H'[b]? = some it) : idxV x H' i k = some r := by
  unfold idxV at h ⊢
  split at h
  · rename_i hv; rw [viewB_heap hv hh]; exact h
  · cases h
theorem fldV_heap {x : SV} {k : Nat} {r : Bool × SV} (h : fldV x H k = some r) (hh : ∀ b it, hhS x = some b → H[b]? = some it → H'[b]? = some it) : fldV x H' k = some r := by
  unfold fldV at h ⊢
  split at h
  · rename_i hv; rw [viewB_heap hv hh]; exact h
  · cases h
theorem loadV_heap {P : Program} {T : TypeId} {x : SV} {r : Bool × SV} (h : loadV P T x H = some r) (hh : ∀ b it, hhS x = some b → H[b]? = some it → H'[b]? = some it) : loadV P T x H' = some r := by
  unfold loadV at h ⊢
  split at h
  · rename_i hv; rw [viewB_heap hv hh]; exact h
  · cases h
theorem hhS_hsS {x : SV} {b : Nat} (h : hhS x = some b) : hsS x = some b := by
  unfold hhS at h
  split at h <;> simp at h <;> subst h <;> rfl
theorem srcC_heap {x : SV} {sz : Nat} {r : Bool × Nat × Cn} (h : srcC x H sz = some r) (hh : ∀ b it, hsS x = some b → H[b]? = some it → H'[b]? = some it) : srcC x H' sz = some r := by
  unfold srcC at h ⊢
  split at h
  · exact h
  · split at h
    · rename_i b o m cap _
      cases hq : H[b]? with
      | none => rw [hq] at h; cases h
      | some it => rw [hh b it rfl hq]; rw [hq] at h; exact h
    · rename_i hnot
      split at h
      · rename_i b ep sel p hs
        have hx := hsel_ok hs
        subst hx
        split at h
        · rename_i hg
          rw [getR_heap hg (fun it => hh b it rfl)]; exact h
        · cases h
      · cases h
end
theorem stepH_heap {P : Program} {op : Op} {tm : List SV} {H H' : List (SB τ)} {r : Bool × SV} (h : stepH P op tm H = some r) (hh : ∀ b it, touch op tm = some b → H[b]? = some it → H'[b]? = some it) : stepH P op tm H' = some r := by
  cases op with
  | call c =>
    obtain ⟨callee, args, ats⟩ := c
    cases callee with
    | builtin b =>
      cases b <;> simp only [stepH] at h ⊢ <;> try exact h
      split at h
      · rename_i T x hat hargs
        have hh' : ∀ b it, hhS x = some b → H[b]? = some it → H'[b]? = some it := fun b it hb => hh b it (by simp only [touch, hargs]; exact hb)
        split at h
        · rename_i hu; exact viaR_heap h (fun h => lenH_heap h hh') (fun h => lenV_heap h hh')
        · cases h
      · cases h
    | _ => exact h
  | indexAddr T x ix =>
    simp only [stepH] at h ⊢
    have hh' : ∀ b it, hhS (ev tm x) = some b → H[b]? = some it → H'[b]? = some it := fun b it hb => hh b it hb
    split at h
    · split at h
      · rename_i hk; exact viaR_heap h (fun h => idxH_heap h hh') (fun h => idxV_heap h hh')
      · cases h
    · cases h
  | fieldAddr S x i =>
    simp only [stepH] at h ⊢
    have hh' : ∀ b it, hhS (ev tm x) = some b → H[b]? = some it → H'[b]? = some it := fun b it hb => hh b it hb
    split at h
    · split at h
      · split at h
        · rename_i hm; exact viaR_heap h (fun h => fldH_heap h hh') (fun h => fldV_heap h hh')
        · cases h
      · cases h
    · cases h
  | load T x =>
    simp only [stepH] at h ⊢
    have hh' : ∀ b it, hsS (ev tm x) = some b → H[b]? = some it → H'[b]? = some it := fun b it hb => hh b it hb
    exact viaR_heap h (fun h => loadH_heap h hh') (fun h => loadV_heap h fun b it hb => hh' b it (hhS_hsS hb))
  | slice T x lo hi mx =>
    cases mx with
    | some _ => exact h
    | none =>
      simp only [stepH] at h ⊢
      split at h
      · split at h
        · rename_i hk; exact cutH_heap h (fun b it hb => hh b it hb)
        · cases h
      · cases h
  | binOp o T x y z =>
    simp only [stepH] at h ⊢
    have hh' : ∀ b it, hhS (ev tm x) = some b → H[b]? = some it → H'[b]? = some it := fun b it hb => hh b it hb
    split at h
    · split at h
      · simp only [Option.map_eq_some_iff] at h ⊢
        obtain ⟨c, h1, h2⟩ := h
        exact ⟨c, realH_heap h1 hh', h2⟩
      · cases h
    · split at h
      · simp only [Option.map_eq_some_iff] at h ⊢
        obtain ⟨c, h1, h2⟩ := h
        exact ⟨c, realH_heap h1 hh', h2⟩
      · cases h
    · cases h
  | convert s d x =>
    simp only [stepH] at h ⊢
    unfold convH at h ⊢
    split at h
    · rename_i r' hr'
      have hh' : strS P s d (ev tm x) H' = some r' := by
        unfold strS at hr' ⊢
        split at hr'
        · split at hr'
          · split at hr'
            · rename_i hs; rw [srcC_heap hs (fun b it hb => hh b it hb)]; exact hr'
            · rename_i hs; rw [srcC_heap hs (fun b it hb => hh b it hb)]; exact hr'
            · cases hr'
          · cases hr'
        · cases hr'
      rw [hh']; exact h
    · rename_i hn
      have hn' : strS P s d (ev tm x) H' = none := by
        unfold convU at h
        unfold strS
        split at h
        · rename_i t hs
          rw [hs]
        · rename_i hs
          rw [hs]
        · cases h
      rw [hn']
      unfold convU at h ⊢
      split at h
      · split at h
        · split at h
          · rename_i b o hx
            split at h
            · rename_i l T hb
              simp only [hh b _ (by simp [touch, hx, hsS]) hb]
              exact h
            · cases h
          · cases h
        · cases h
      · split at h
        · split at h
          · rename_i b o hx
            split at h
            · rename_i l T hb
              simp only [hh b _ (by simp [touch, hx, hsS]) hb]
              exact h
            · cases h
          · cases h
        · cases h
      · cases h
  | _ => exact h
theorem stepV0_heap {P : Program} {op : Op} {tm : List SV} {H H' : List (SB τ)} {r : Bool × SV} (h : stepV0 P op tm H = some r) (hh : ∀ b it, touch op tm = some b → H[b]? = some it → H'[b]? = some it) : stepV0 P op tm H' = some r := by
  cases op with
  | load T x =>
    simp only [stepV0] at h ⊢
    unfold loadQ at h ⊢
    split at h
    · rename_i b o he
      split at h
      · rename_i l T' hb
        rw [hh b _ (by simp [touch, he, hsS]) hb]
        exact h
      · rename_i k xs n T' hb
        rw [hh b _ (by simp [touch, he, hsS]) hb]
        exact h
      · cases h
    · exact h
    · cases h
  | slice T x lo hi mx => cases mx <;> exact h
  | call c =>
    obtain ⟨callee, args, ats⟩ := c
    cases callee <;> exact h
  | _ => exact h
theorem stepV0_not {P : Program} {op : Op} {tm : List SV} {H H' : List (SB τ)} {r : Bool × SV} (h : stepV0 P op tm H = none) (hs : stepH P op tm H = some r) (hh : ∀ b it, touch op tm = some b → H[b]? = some it → H'[b]? = some it) : stepV0 P op tm H' = none := by
  cases op with
  | load T x =>
    simp only [stepV0] at h ⊢
    simp only [stepH] at hs
    rcases viaR_or hs with h1 | h1
    · unfold loadH at h1
      split at h1
      · rename_i hsel; rw [hsel_ok hsel]; rfl
      · cases h1
    · unfold loadV viewB at h1
      cases hx : ev tm x <;> rw [hx] at h1 <;> first | rfl | cases h1
  | slice T x lo hi mx => cases mx <;> exact h
  | call c =>
    obtain ⟨callee, args, ats⟩ := c
    cases callee <;> exact h
  | _ => exact h
theorem stepV_heap {P : Program} {op : Op} {tm : List SV} {H H' : List (SB τ)} {r : Bool × SV} (h : stepV P op tm H = some r) (hh : ∀ b it, touch op tm = some b → H[b]? = some it → H'[b]? = some it) : stepV P op tm H' = some r := by
  unfold stepV at h ⊢
  split at h
  · rename_i r' hr
    rw [stepV0_heap hr hh]; exact h
  · rename_i hn
    rw [stepV0_not hn h hh]
    exact stepH_heap h hh

end Go.Sym
