/- What is wanted of the texts VOf, VOg, VOh, VOi, VOj, VOk, VOz, VE, VF, VG, VH, in one. -/
import Derived.Test.YtcbjgpkbfmmdpaaGreatDoorHpPt
import Derived.KernelRfl
import Derived.TacticsIn
import Derived.LoopNIn
import Derived.OrdersIn
set_option linter.unusedSimpArgs false
set_option linter.unusedVariables false
set_option linter.unusedSectionVars false
namespace Go.Sym
open Go
variable {P : Program} {w : World} {τ : Type} {I : Inv τ}
def GaveL (I : Inv τ) (P : Program) (o : Oper) (a : Act) (e : Env) (Fr : PH) (w : World) (x : SV) (H' : List (SB τ)) : Prop :=
  ∃ nx v w' e', (execOp a.eval o).run P w = .ok nx w' ∧ (nx = .value v ∨ (nx = .skip ∧ v = undef)) ∧ Le e e' ∧ Models I e' H' Fr w' ∧ Den e' x v
theorem Gave.loud {o : Oper} {a : Act} {e : Env} {Fr : PH} {x : SV} {H H' : List (SB τ)} (h : Gave I P o a e Fr w x H H') : GaveL I P o a e Fr w x H' := by
  obtain ⟨nx, v, w', e', h1, h2, h3, h4, h5, _⟩ := h
  exact ⟨nx, v, w', e', h1, h2, h3, h4, h5⟩
def intK (k : IntKind) (x : SV) : Option Int :=
  match x with
  | .v (.int j n) => match decide (j = k) with
    | true => some n
    | false => none
  | _ => none
theorem intK_ok {e : Env} {k : IntKind} {x : SV} {n : Int} {v : Value} (h : intK k x = some n) (hd : Den e x v) : v = .int k n := by
  unfold intK at h
  split at h
  · split at h
    · rename_i j m hk
      have hk := of_decide_eq_true hk
      subst hk
      simp only [Option.some.injEq] at h; subst h
      simpa [Den] using hd
    · cases h
  · cases h
def boolK (x : SV) : Option Bool :=
  match x with
  | .v (.bool b) => some b
  | _ => none
theorem boolK_ok {e : Env} {x : SV} {n : Bool} {v : Value} (h : boolK x = some n) (hd : Den e x v) : v = .bool n := by
  unfold boolK at h
  split at h
  · simp only [Option.some.injEq] at h; subst h; simpa [Den] using hd
  · cases h
def decRecs : List SV → Option (List C4)
  | [] => some []
  | [_] => none
  | [_, _] => none
  | [_, _, _] => none
  | a :: b :: c :: d :: r => match intK .i32 a, intK .i64 b, boolK c, intK .i64 d, decRecs r with
    | some g, some t, some q, some m, some l => some (⟨g, t, q, m⟩ :: l)
    | _, _, _, _, _ => none
theorem decRecs_ok {e : Env} : ∀ {l : List SV} {xs : List C4} {vs : List Value}, decRecs l = some xs → DenL e l vs → vs = cvals xs
  | [], xs, vs, h, hd => by
    simp only [decRecs, Option.some.injEq] at h; subst h
    simpa [DenL, cvals] using hd
  | [_], _, _, h, _ => by simp [decRecs] at h
  | [_, _], _, _, h, _ => by simp [decRecs] at h
  | [_, _, _], _, _, h, _ => by simp [decRecs] at h
  | a :: b :: c :: d :: r, xs, vs, h, hd => by
    simp only [decRecs] at h
    split at h
    · rename_i g t q m l h1 h2 h3 h4 h5
      simp only [Option.some.injEq] at h; subst h
      simp only [DenL] at hd
      obtain ⟨v1, r1, rfl, d1, v2, r2, rfl, d2, v3, r3, rfl, d3, v4, r4, rfl, d4, d5⟩ := hd
      rw [intK_ok h1 d1, intK_ok h2 d2, boolK_ok h3 d3, intK_ok h4 d4, decRecs_ok h5 d5]
      rfl
    · cases h
def dec4 (x : SV) : Option C4 :=
  match cellsV x with
  | some l => match decRecs l with
    | some xs => match xs with
      | [c] => some c
      | _ => none
    | none => none
  | none => none
theorem dec4_ok {e : Env} {x : SV} {c : C4} {v : Value} (h : dec4 x = some c) (hd : Den e x v) : v.cells.toList = c.vals := by
  unfold dec4 at h
  split at h
  · rename_i l hl
    split at h
    · rename_i xs hx
      split at h
      · simp only [Option.some.injEq] at h; subst h
        have := decRecs_ok hx (cellsV_ok hl hd)
        simpa [cvals] using this
      · cases h
    · cases h
  · cases h
def recT (P : Program) (T : TypeId) : Bool :=
  match zeroT P T with
  | some z => (dec4 (.v z)).isSome
  | none => false
def asC (P : Program) (T : TypeId) (c : Cn) : Cn :=
  match c with
  | .sv l => match P.underlying T with
    | some (.int k) => match allInts k l with
      | true => .ints k (intsOf l)
      | false => .sv l
    | _ => match recT P T with
      | true => match decRecs l with
        | some xs => .recs xs
        | none => .sv l
      | false => .sv l
  | c => c
theorem allInts_den {e : Env} {k : IntKind} {l : List SV} {vs : List Value} (h : allInts k l = true) (hd : DenL e l vs) : vs = (intsOf l).map (Value.int k) := by
  rw [allInts_ok h] at hd
  exact ints_den hd
theorem asC_ok {e : Env} {T : TypeId} {c : Cn} {vs : List Value} (h : c.den e vs) : (asC P T c).den e vs := by
  unfold asC
  split
  · split
    · split
      · rename_i ha; exact allInts_den ha h
      · exact h
    · split
      · split
        · rename_i hx; exact decRecs_ok hx h
        · exact h
      · exact h
  · exact h
def addC (c d : Cn) : Option Cn :=
  match c with
  | .sv l => match d with
    | .sv l' => some (.sv (l ++ l'))
    | _ => none
  | .ints k xs => match d with
    | .ints k' ys => match decide (k = k') with
      | true => some (.ints k (xs ++ ys))
      | false => none
    | _ => none
  | .recs xs => match d with
    | .recs ys => some (.recs (xs ++ ys))
    | _ => none
theorem addC_ok {e : Env} {c d f : Cn} {vs us : List Value} (h : addC c d = some f) (hc : c.den e vs) (hd : d.den e us) : f.den e (vs ++ us) := by
  cases c with
  | sv l =>
    cases d with
    | sv l' => simp only [addC, Option.some.injEq] at h; subst h; exact DenL.append hc hd
    | _ => simp [addC] at h
  | ints k xs =>
    cases d with
    | ints k' ys =>
      simp only [addC] at h
      split at h
      · rename_i ha
        have ha := of_decide_eq_true ha
        subst ha
        simp only [Option.some.injEq] at h; subst h
        simp only [Cn.den] at hc hd ⊢
        rw [hc, hd]; simp
      · cases h
    | _ => simp [addC] at h
  | recs xs =>
    cases d with
    | recs ys =>
      simp only [addC, Option.some.injEq] at h; subst h
      simp only [Cn.den] at hc hd ⊢
      rw [hc, hd, cvals_append]
    | _ => simp [addC] at h
def writeR (P : Program) (T : TypeId) (cn : Cn) (sz i o : Nat) (x : SV) : Option (Bool × Cn) :=
  match cn with
  | .ints k xs => match intK k x, szT P T, Nat.beq sz 1, o with
    | some m, some 1, true, 0 => some (Nat.blt i xs.length, .ints k (xs.set i m))
    | _, _, _, _ => none
  | .recs xs => match dec4 x, szT P T, Nat.beq sz 4, o with
    | some c, some 4, true, 0 => some (Nat.blt i xs.length, .recs (xs.set i c))
    | _, _, _, _ => none
  | .sv l => match cellsV x, szT P T with
    | some c, some k => match c.length == k && Nat.ble (i * sz + o + k) l.length && Nat.blt 0 k && c.all oneS with
      | true => some (true, .sv (setAll l (i * sz + o) c))
      | false => none
    | _, _ => none
theorem cvals_set : ∀ (l : List C4) (i : Nat) (c : C4), i < l.length → cvals (l.set i c) = (cvals l).take (i * 4) ++ c.vals ++ (cvals l).drop (i * 4 + 4)
  | [], _, _, h => by simp at h
  | a :: l, 0, c, _ => by
    simp only [List.set_cons_zero, cvals, List.flatMap_cons]
    rw [show 0 * 4 + 4 = a.vals.length by simp [C4.vals]]
    simp
  | a :: l, i + 1, c, h => by
    simp only [List.length_cons] at h
    have ih := cvals_set l i c (by omega)
    simp only [List.set_cons_succ, cvals, List.flatMap_cons] at ih ⊢
    rw [ih]
    have hl : a.vals.length = 4 := rfl
    have e1 : (a.vals ++ List.flatMap C4.vals l).take ((i + 1) * 4) = a.vals ++ (List.flatMap C4.vals l).take (i * 4) := by
      rw [List.take_append, List.take_of_length_le (by omega)]
      congr 2
      omega
    have e2 : (a.vals ++ List.flatMap C4.vals l).drop ((i + 1) * 4 + 4) = (List.flatMap C4.vals l).drop (i * 4 + 4) := by
      rw [List.drop_append, List.drop_of_length_le (by omega), List.nil_append]
      congr 1
      omega
    rw [e1, e2]
    simp
theorem writeR_ok {e : Env} {T : TypeId} {cn cn' : Cn} {sz i o : Nat} {x : SV} {c : Bool} {v : Value} {vs : List Value} (h : writeR P T cn sz i o x = some (c, cn')) (hc : c = true) (hd : cn.den e vs) (hx : Den e x v) :
    szT P T = some v.cells.toList.length ∧ (∀ u ∈ v.cells.toList, u.oneCell' = true) ∧ 0 < v.cells.toList.length ∧ i * sz + o + v.cells.toList.length ≤ vs.length ∧
      cn'.den e (vs.take (i * sz + o) ++ v.cells.toList ++ vs.drop (i * sz + o + v.cells.toList.length)) := by
  unfold writeR at h
  split at h
  · rename_i k xs
    split at h
    · rename_i m hm hs hsz
      rw [Nat.beq_eq] at hsz
      subst hsz
      simp only [Option.some.injEq, Prod.mk.injEq] at h
      obtain ⟨h1, rfl⟩ := h
      rw [hc, Nat.blt_eq] at h1
      have hv := intK_ok hm hx
      subst hv
      simp only [Cn.den] at hd ⊢
      subst hd
      have e1 : (Value.int k m).cells.toList = [Value.int k m] := rfl
      rw [e1]
      refine ⟨hs, by simp [Value.oneCell'], by simp, by simp; omega, ?_⟩
      simp only [Nat.mul_one, Nat.add_zero, List.length_singleton]
      rw [← set_map, List.set_eq_take_append_cons_drop, if_pos (by simpa using h1)]
      simp
    · cases h
  · rename_i xs
    split at h
    · rename_i cc hm hs hsz
      rw [Nat.beq_eq] at hsz
      subst hsz
      simp only [Option.some.injEq, Prod.mk.injEq] at h
      obtain ⟨h1, rfl⟩ := h
      rw [hc, Nat.blt_eq] at h1
      have hv := dec4_ok hm hx
      rw [hv]
      simp only [Cn.den] at hd ⊢
      subst hd
      refine ⟨hs, fun u hu => cvals_one (l := [cc]) (by simpa [cvals] using hu), by simp [C4.vals], ?_, ?_⟩
      · rw [cvals_length]; simp [C4.vals]; omega
      · rw [cvals_set xs i cc h1]; rfl
    · cases h
  · rename_i l
    split at h
    · rename_i cc k hcc hs
      split at h
      · rename_i hcond
        simp only [Bool.and_eq_true, beq_iff_eq, Nat.ble_eq, Nat.blt_eq] at hcond
        obtain ⟨⟨⟨h1, h2⟩, h3⟩, h4⟩ := hcond
        simp only [Option.some.injEq, Prod.mk.injEq] at h
        obtain ⟨_, rfl⟩ := h
        have hcd := cellsV_ok hcc hx
        have hl := hcd.length
        have hd : DenL e l vs := hd
        have hl2 := hd.length
        refine ⟨by rw [hs, ← h1, hl], all_one h4 hcd, by omega, by omega, ?_⟩
        have := setAll_den (o := i * sz + o) hcd hd
        rw [setAll_eq _ vs _ (by omega)] at this
        exact this
      · cases h
    · cases h
theorem store_ok {T T' : TypeId} {g n cap sz off : Nat} {v : Value} {vs : List Value} {h : PH} (hr : RowOk (.slice (some ⟨g, 0, none⟩) n cap) n sz T' vs h) (hsub : Sub h w) (hs : szT P T = some v.cells.toList.length)
    (h1 : ∀ u ∈ v.cells.toList, u.oneCell' = true) (hfit : off + v.cells.toList.length ≤ vs.length) :
    ∃ w' h', (storeVar T ⟨g, off, none⟩ v).run P w = .ok () w' ∧ RowOk (.slice (some ⟨g, 0, none⟩) n cap) n sz T' (vs.take off ++ v.cells.toList ++ vs.drop (off + v.cells.toList.length)) h' ∧ Turned w w' h h' := by
  obtain ⟨rest, hg, h', k1, k2⟩ := write_ok (vs' := vs.take off ++ v.cells.toList ++ vs.drop (off + v.cells.toList.length)) hr hsub (by simp at hfit ⊢; omega)
  refine ⟨_, h', ?_, k1, k2⟩
  have hst := run_storeCells_at (P := P) g off T' v.cells.toList 0 (vs ++ rest).toArray w hg (by simp at hfit ⊢; omega) h1
  have hs2 : ¬ (v.cells.size ≠ v.cells.toList.length) := by simp
  simp only [storeVar, Sem.run_bind, run_szT hs, Result.andThen_ok, hs2, if_false]
  rw [hst]
  simp only [Nat.add_zero, List.toList_toArray]
  congr 3
  rw [List.take_append_of_le_length (by omega), List.drop_append_of_le_length (by omega)]
  simp
def putN (cn src : Cn) (sz lo m : Nat) : Option Cn :=
  match cn with
  | .ints k xs => match src with
    | .ints k' ys => match decide (k = k') with
      | true => some (.ints k (xs.take lo ++ (ys.take m ++ xs.drop (lo + m))))
      | false => none
    | _ => none
  | .recs xs => match src with
    | .recs ys => some (.recs (xs.take lo ++ (ys.take m ++ xs.drop (lo + m))))
    | _ => none
  | .sv l => match src with
    | .sv l' => some (.sv (l.take (lo * sz) ++ (l'.take (m * sz) ++ l.drop ((lo + m) * sz))))
    | _ => none
theorem putN_ok {e : Env} {cn src f : Cn} {sz lo m : Nat} {vs us : List Value} (h : putN cn src sz lo m = some f) (hz : szN cn sz = true) (hd : cn.den e vs) (hs : src.den e us) :
    f.den e (vs.take (lo * sz) ++ (us.take (m * sz) ++ vs.drop ((lo + m) * sz))) := by
  cases cn with
  | ints k xs =>
    cases src with
    | ints k' ys =>
      simp only [putN] at h
      split at h
      · rename_i ha
        have ha := of_decide_eq_true ha
        subst ha
        simp only [szN, Nat.beq_eq] at hz
        subst hz
        simp only [Option.some.injEq] at h; subst h
        simp only [Cn.den] at hd hs ⊢
        subst hd; subst hs
        simp
      · cases h
    | _ => simp [putN] at h
  | recs xs =>
    cases src with
    | recs ys =>
      simp only [putN, Option.some.injEq] at h; subst h
      simp only [szN, Nat.beq_eq] at hz
      subst hz
      simp only [Cn.den] at hd hs ⊢
      subst hd; subst hs
      rw [cvals_take, cvals_take, cvals_drop, cvals_append, cvals_append]
    | _ => simp [putN] at h
  | sv l =>
    cases src with
    | sv l' =>
      simp only [putN, Option.some.injEq] at h; subst h
      exact (DenL.take _ hd).append ((DenL.take _ hs).append (DenL.drop _ hd))
    | _ => simp [putN] at h
theorem copy_ok {D D' ty el : TypeId} {g n cap sz lo len m : Nat} {bo : Nat} {dst u : Value} {vs us : List Value} {h : PH} (hu : P.underlying D = some (.slice el)) (hsz : szT P el = some sz)
    (hr : RowOk (.slice (some ⟨g, 0, none⟩) n cap) n sz el vs h) (hsub : Sub h w) {dc : Nat} (hdst : dst = .slice (some ⟨g, bo, none⟩) len dc) (hbo : 0 < len → bo = lo * sz) (hfit : lo + len ≤ n) (hs : SrcIn w u m sz us) :
    ∃ w' h', (Builtin.copy_ #[D, D'] ty #[dst, u]).run P w = .ok (goInt (Nat.min m len)) w' ∧
      RowOk (.slice (some ⟨g, 0, none⟩) n cap) n sz el (vs.take (lo * sz) ++ (us.take (Nat.min m len * sz) ++ vs.drop ((lo + Nat.min m len) * sz))) h' ∧ Turned w w' h h' := by
  subst hdst
  obtain ⟨hul, hone, hsrc⟩ := hs
  generalize hmin : Nat.min m len = mn
  have hmn1 : mn ≤ m := by rw [← hmin]; exact Nat.min_le_left _ _
  have hmn2 : mn ≤ len := by rw [← hmin]; exact Nat.min_le_right _ _
  have hvl := hr.1
  have hmul1 : mn * sz ≤ m * sz := Nat.mul_le_mul_right _ hmn1
  have hmul2 : (lo + mn) * sz ≤ n * sz := Nat.mul_le_mul_right _ (by omega)
  rw [Nat.add_mul] at hmul2
  have hseg : (us.take (mn * sz)).length = mn * sz := by simp; omega
  -- what is loaded
  have hload : (Builtin.lenOf u).run P w = .ok m w ∧ (Builtin.firstCells sz mn u).run P w = .ok (us.take (mn * sz)).toArray w := by
    rcases hsrc with ⟨rfl, rfl⟩ | ⟨a, c0, rfl, hc⟩
    · have : mn = 0 := by omega
      subst this
      simp [Builtin.lenOf, Builtin.firstCells]
    · have hl := run_loadCells_list (P := P) w a (us.take (mn * sz)) (fun j v hj => hc j v (by
        have hj2 := (List.getElem?_eq_some_iff.1 hj).1
        rw [hseg] at hj2
        rw [List.getElem?_take_of_lt hj2] at hj; exact hj))
      rw [hseg] at hl
      exact ⟨by simp [Builtin.lenOf], by simp only [Builtin.firstCells, hl]⟩
  have hrun : ∀ w', (storeCells ⟨g, bo, none⟩ (us.take (mn * sz))).run P w = .ok () w' → (Builtin.copy_ #[D, D'] ty #[.slice (some ⟨g, bo, none⟩) len dc, u]).run P w = .ok (goInt mn) w' := fun w' hst => by
    unfold Builtin.copy_
    simp only [List.getElem?_toArray, List.getElem?_cons_zero, List.getElem?_cons_succ, Sem.run_bind, run_und hu, Result.andThen_ok, hload.1, Sem.run_pure, run_szT hsz, hmin, hload.2, hst]
  by_cases h0 : mn = 0
  · subst h0
    have e1 : vs.take (lo * sz) ++ (us.take (0 * sz) ++ vs.drop ((lo + 0) * sz)) = vs := by simp
    rw [e1]
    exact ⟨w, h, hrun w (by simp [storeCells]), hr, Turned.refl hsub⟩
  · have hb := hbo (by omega)
    subst hb
    have e1 : vs.take (lo * sz) ++ (us.take (mn * sz) ++ vs.drop ((lo + mn) * sz)) = vs.take (lo * sz) ++ us.take (mn * sz) ++ vs.drop (lo * sz + (us.take (mn * sz)).length) := by
      rw [hseg, Nat.add_mul]; simp
    rw [e1]
    obtain ⟨rest, hg, h', k1, k2⟩ := write_ok (vs' := vs.take (lo * sz) ++ us.take (mn * sz) ++ vs.drop (lo * sz + (us.take (mn * sz)).length)) hr hsub (by rw [hseg]; simp; omega)
    refine ⟨_, h', hrun _ ?_, k1, k2⟩
    have hst := run_storeCells_at (P := P) g (lo * sz) el (us.take (mn * sz)) 0 (vs ++ rest).toArray w hg (by rw [hseg]; simp; omega) (fun v hv => hone v (List.mem_of_mem_take hv))
    rw [hst]
    simp only [Nat.add_zero, List.toList_toArray]
    congr 3
    rw [List.take_append_of_le_length (by omega), List.drop_append_of_le_length (by rw [hseg]; omega)]
    simp
end Go.Sym
namespace Go.Sym
open Go
variable {P : Program} {w : World} {τ : Type} {I : Inv τ}
abbrev LR (τ : Type) := Option (Bool × SV × List (SB τ) × List Nat)
def storeH (P : Program) (T : TypeId) (a x : SV) (H : List (SB τ)) : LR τ :=
  match hsel a with
  | some (b, ep, sel, r) => match r with
    | [i, o] => match getR H b ep sel with
      | some (c, cn, _, sz, _) => match writeR P T cn sz i o x with
        | some (c', cn') => match setR H b sel cn' with
          | some H' => some (c && c', .v undef, H', [b])
          | none => none
        | none => none
      | none => none
    | _ => none
  | none => none
inductive Bs where
  | new
  | own (b : Nat)
  | blk (b : Nat)
def blkS (el sz : Nat) (s : SV) (H : List (SB τ)) : Option (Nat × List SV × Nat) :=
  match s with
  | .s b o len cap => match H[b]? with
    | some (.cells l T) => match Nat.beq o 0 && (Nat.beq cap len && (Nat.beq T el && (Nat.beq l.length (len * sz) && Nat.ble len maxLen))) with
      | true => some (b, l, len)
      | false => none
    | _ => none
  | _ => none
def baseA (P : Program) (el sz : Nat) (s : SV) (H : List (SB τ)) : Option (Bs × Nat × Cn × Nat × Bool × Bool) :=
  match nilS s with
  | true => some (.new, 0, .sv [], 0, false, true)
  | false => match blkS el sz s H with
  | some (b, l, len) => some (.blk b, 0, .sv l, len, true, true)
  | none => match hsel s with
    | some (b, ep, sel, r) => match r, sel with
      | [], none => match H[b]? with
        | some (.own c n T sz' q nn) => match Nat.beq T el && Nat.beq sz' sz with
          | true => some (.own b, ep, c, n, nn, Nat.beq q ep)
          | false => none
        | _ => none
      | _, _ => none
    | none => none
def appendH (P : Program) (t : TypeId) (s x : SV) (H : List (SB τ)) : LR τ :=
  match P.underlying t with
  | some (.slice el) => match P.info? el with
    | some i => match i.zero with
      | some z => match Nat.beq z.cells.size i.size, baseA P el i.size s H, srcC x H i.size with
        | true, some (bo, ep, c, n, nn, c1), some (c2, m, d) => match addC (asC P el c) (asC P el d) with
          | some f => match bo with
            | .new => some (c1 && (c2 && decide (n + m ≤ maxLen ∧ (n + m) * i.bytes ≤ 140737488355328)), .h H.length [0, 0], H ++ [.own f (n + m) el i.size 0 (nn || Nat.blt 0 m)], [])
            | .blk b => some (c1 && (c2 && decide (n + m ≤ maxLen ∧ (n + m) * i.bytes ≤ 140737488355328)), .h H.length [0, 0], H.set b .gone ++ [.own f (n + m) el i.size 0 (nn || Nat.blt 0 m)], [b])
            | .own b => some (c1 && (c2 && decide (n + m ≤ maxLen ∧ (n + m) * i.bytes ≤ 140737488355328)), .h b [ep + 1, 0], H.set b (.own f (n + m) el i.size (ep + 1) (nn || Nat.blt 0 m)), [b])
          | none => none
        | _, _, _ => none
      | none => none
    | none => none
  | _ => none
def madeC (P : Program) (el : TypeId) (z : Value) (n sz : Nat) : Cn :=
  match z.cells.toList with
  | [.int k m] => match decide (m = 0) with
    | true => .ints k (List.replicate (n * sz) 0)
    | false => .sv ((List.range (n * sz)).map fun i => .v (z.cells[i % z.cells.size]!))
  | [.slice a m c] => match Nat.beq sz 1 with
    | true => .sv (List.replicate n (.v (.slice a m c)))
    | false => .sv ((List.range (n * sz)).map fun i => .v (z.cells[i % z.cells.size]!))
  | l => match decRecs (l.map .v) with
    | some xs => match xs with
      | [c] => match Nat.beq sz 4 with
        | true => .recs (List.replicate n c)
        | false => .sv ((List.range (n * sz)).map fun i => .v (z.cells[i % z.cells.size]!))
      | _ => .sv ((List.range (n * sz)).map fun i => .v (z.cells[i % z.cells.size]!))
    | none => .sv ((List.range (n * sz)).map fun i => .v (z.cells[i % z.cells.size]!))
def makeH (P : Program) (T : TypeId) (l c : SV) (H : List (SB τ)) : LR τ :=
  match l, c, P.underlying T with
  | .v (.int _ a), .v (.int _ b), some (.slice el) => match P.info? el with
    | some i => match i.zero with
      | some z => match Nat.beq z.cells.size i.size with
        | true => some (decide (0 ≤ a ∧ a ≤ b ∧ (i.bytes : Int) * b ≤ 281474976710656 ∧ b ≤ (maxLen : Int)), .h H.length [0, 0], H ++ [.own (madeC P el z a.toNat i.size) a.toNat el i.size 0 true], [])
        | false => none
      | none => none
    | none => none
  | _, _, _ => none
def partH (n : Nat) (r : List Nat) : Option (Nat × Nat) :=
  match r with
  | [] => some (0, n)
  | [lo, len, _] => some (lo, len)
  | _ => none
def copyH (P : Program) (D : TypeId) (d x : SV) (H : List (SB τ)) : LR τ :=
  match P.underlying D with
  | some (.slice el) => match szT P el, hsel d with
    | some k, some (b, ep, sel, r) => match getR H b ep sel with
      | some (c, cn, n, sz, T) => match partH n r, srcC x H sz with
        | some (lo, len), some (c2, m, d) => match putN cn (asC P el d) sz lo (Nat.min m len) with
          | some f => match setR H b sel f with
            | some H' => some (c && (c2 && (szN cn sz && (Nat.beq sz k && (Nat.beq T el && (Nat.ble (lo + len) n && Nat.blt 0 n))))), .v (.int .i64 (Nat.min m len : Nat)), H', [b])
            | none => none
          | none => none
        | _, _ => none
      | none => none
    | _, _ => none
  | _ => none
theorem storeH_ok {e : Env} {H H' : List (SB τ)} {Fr : PH} {T : TypeId} {x y z : SV} {c : Bool} {ws : List Nat} {u v : Value} (hM : Models I e H Fr w) (h : storeH P T x y H = some (c, z, H', ws)) (hc : c = true) (hx : Den e x u) (hy : Den e y v) :
    ∃ w', (Instr.storeAt T u v).run P w = .ok () w' ∧ Models I e H' Fr w' ∧ z = .v undef := by
  unfold storeH at h
  split at h
  · rename_i b ep sel r hs
    rw [hsel_ok hs] at hx
    obtain ⟨f, g, hf, hg, hv, _⟩ := den_h hx
    split at h
    · rename_i i o
      split at h
      · rename_i c1 cn n sz T' hget
        split at h
        · rename_i c2 cn' hw
          split at h
          · rename_i H2 hset
            simp only [Option.some.injEq, Prod.mk.injEq] at h
            obtain ⟨h1, rfl, rfl, rfl⟩ := h
            rw [hc, Bool.and_eq_true] at h1
            obtain ⟨f', g', u0, vs, hh, k1, k2, k3, k4, k5, k6, k7⟩ := getR_lens hM hget h1.1
            rw [hf] at k1; cases k1
            rw [hg] at k2; cases k2
            rw [k3] at hv
            obtain ⟨q1, q2, q3, q4, q5⟩ := writeR_ok hw h1.2 k4 hy
            obtain ⟨q6, ⟨rfl, rfl, _⟩ | ⟨g0, cap, rest, rfl, _⟩⟩ := id k5
            · simp only [Nat.zero_mul] at q6; omega
            · obtain ⟨w', h', p1, p2, p3⟩ := store_ok (P := P) k5 k6 q1 q2 q4
              have hv : u = .pointer (some ⟨g0, i * sz + o, none⟩) := hv
              subst hv
              refine ⟨w', ?_, k7 _ _ _ _ _ hset q5 p2 p3, rfl⟩
              simp only [Instr.storeAt, Instr.sureAddr, Sem.run_bind, Sem.run_pure, Result.andThen_ok, p1]
          · cases h
        · cases h
      · cases h
    · cases h
  · cases h
theorem own_grow {e : Env} {H : List (SB τ)} {Fr : PH} (hM : Models I e H Fr w) {b ep n sz : Nat} {cn : Cn} {T : TypeId} {nn : Bool} (hb : H[b]? = some (.own cn n T sz ep nn)) :
    ∃ f v vs h1, e b = some (.hd f) ∧ f ep = some (ownRef sz v) ∧ cn.den e vs ∧ RowOk v n sz T vs h1 ∧ Sub h1 w ∧ (nn = true → v ≠ .slice none 0 0) ∧
      ∀ (cn' : Cn) (n' : Nat) (v' : Value) (vs' : List Value) (h1' : PH) (w' : World) (nn' : Bool), cn'.den e vs' → RowOk v' n' sz T vs' h1' → Turned w w' h1 h1' → (nn' = true → v' ≠ .slice none 0 0) →
        ∃ e', Le e e' ∧ Models I e' (H.set b (.own cn' n' T sz (ep + 1) nn')) Fr w' ∧ Den e' (.h b [ep + 1, 0]) v' := by
  obtain ⟨hn, ⟨f, v, vs, g1, g2, g3, g4, g5, g6⟩, hs, hput⟩ := hM.take hb
  refine ⟨f, v, vs, hn, g1, g2, g4, g5, hs, g6, fun cn' n' v' vs' h1' w' nn' hd hr ht hnn => ?_⟩
  have hgrow : ∀ j g, f j = some g → (fun j => if j = ep + 1 then some (ownRef sz v') else f j) j = some g := fun j g hj => by
    have : j ≠ ep + 1 := fun e => by subst e; rw [g3 _ (Nat.lt_succ_self _)] at hj; cases hj
    simp only [this, if_false]; exact hj
  have hle : Le e (ext e b (.hd fun j => if j = ep + 1 then some (ownRef sz v') else f j)) := le_grow g1 ⟨_, rfl, hgrow⟩
  refine ⟨_, hle, hput hle (fun j hj => ext_ne _ _ _ hj) ⟨_, v', vs', ext_self _ _ _, by simp, fun j hj => ?_, Cn.den_mono hle hd, hr, hnn⟩ ht, ?_⟩
  · have : j ≠ ep + 1 := by omega
    simp only [this, if_false]
    exact g3 j (by omega)
  · simp only [Den, ext_self]
    exact ⟨_, rfl, by simp [hdAt, ownRef, rowRef], hr.one⟩
theorem own_new {e : Env} {H : List (SB τ)} {Fr : PH} (hM : Models I e H Fr w) {cn : Cn} {n sz : Nat} {T : TypeId} {nn : Bool} {v : Value} {vs : List Value} {h : PH} {w' : World} (hd : cn.den e vs) (hr : RowOk v n sz T vs h) (hx : Ext w w') (hsub : Sub h w')
    (hf : ∀ k, h k ≠ none → w.heap.size ≤ k) (hnn : nn = true → v ≠ .slice none 0 0) :
    ∃ e', Le e e' ∧ Models I e' (H ++ [.own cn n T sz 0 nn]) Fr w' ∧ Den e' (.h H.length [0, 0]) v := by
  have hle : Le e (ext e H.length (.hd fun j => if j = 0 then some (ownRef sz v) else none)) := le_ext hM.fresh
  refine ⟨_, hle, hM.add ⟨_, v, vs, rfl, by simp, fun j hj => by simp; omega, Cn.den_mono hle hd, hr, hnn⟩ hx hsub hf, ?_⟩
  simp only [Den, ext_self]
  exact ⟨_, rfl, by simp [hdAt, ownRef, rowRef], hr.one⟩
theorem Models.shift {e : Env} {H : List (SB τ)} {Fr : PH} (hM : Models I e H Fr w) {b : Nat} {it : SB τ} (hi : H[b]? = some it) :
    ∃ hn, ItemOk I e it (e b) hn ∧ Sub hn w ∧ ∀ {r : Ref} {it' : SB τ} {hn' : PH} {w' : World}, ItemOk I (ext e H.length r) it' (some r) hn' → Turned w w' hn hn' → Models I (ext e H.length r) (H.set b .gone ++ [it']) Fr w' := by
  have hlt : b < H.length := (List.getElem?_eq_some_iff.1 hi).1
  have hfr := hM.fresh
  obtain ⟨h0, hs, h1, h2, h3, h4, h5, h6⟩ := hM
  refine ⟨hs b, h1 b it hi, h5 b, fun {r it' hn' w'} hb ht => ?_⟩
  have hbl : H.length ≠ b := by omega
  refine Models.turn0 (S := fun k => k = b ∨ k = H.length) (hs := hs) (hs' := fun k => if k = b then emp else if k = H.length then hn' else hs k) h0 h1 h2 h3 h4 h5 h6 (le_ext hfr) ht.stay (fun k hk => ?_)
    (fun k hk => ?_) (fun k b'' hk hb'' => ?_) (fun k hk hl => ?_) (fun k l hk hl hkl => ?_) (fun k hk => ?_) (fun k m hk hn => ?_) (fun k o hk hn => ?_)
  · have hk1 : k ≠ b := fun e => hk (.inl e)
    have hk2 : k ≠ H.length := fun e => hk (.inr e)
    refine ⟨?_, ext_ne _ _ _ hk2⟩
    rcases Nat.lt_or_ge k H.length with h | h
    · rw [List.getElem?_append_left (by simpa using h), List.getElem?_set_ne (fun e => hk1 e.symm)]
    · rw [List.getElem?_eq_none (by simp; omega), List.getElem?_eq_none (by omega)]
  · have hk1 : k ≠ b := fun e => hk (.inl e)
    have hk2 : k ≠ H.length := fun e => hk (.inr e)
    simp only [hk1, hk2, if_false]
  · rcases hk with rfl | rfl
    · rw [List.getElem?_append_left (by simpa using hlt)] at hb''
      simp [hlt] at hb''
      subst hb''
      simp only [if_true]; rfl
    · rw [List.getElem?_append_right (by simp)] at hb''
      simp at hb''
      subst hb''
      simp only [hbl, if_false, if_true, ext_self]
      exact hb
  · simp at hl; rcases hk with rfl | rfl <;> omega
  · rcases hk with rfl | rfl
    · simp only [if_true]; exact emp_disj _
    · rcases hl with rfl | rfl
      · simp only [if_true]; exact disj_emp _
      · exact absurd rfl hkl
  · rcases hk with rfl | rfl
    · simp only [if_true]; intro k o hk; simp [emp] at hk
    · simp only [hbl, if_false, if_true]; exact ht.sub
  · rcases hk with rfl | rfl
    · simp [emp] at hn
    · simp only [hbl, if_false, if_true] at hn
      rcases ht.own m hn with h7 | h7
      · exact .inl ⟨b, .inl rfl, h7⟩
      · exact .inr h7
  · exact ht.keep k o hk (hn b (.inl rfl))
theorem blk_grow {e : Env} {H : List (SB τ)} {Fr : PH} (hM : Models I e H Fr w) {b len sz : Nat} {l : List SV} {el : TypeId} {s : SV} {u : Value} (hb : blkS el sz s H = some (b, l, len)) (hd : Den e s u) :
    ∃ vs h1, DenL e l vs ∧ RowOk u len sz el vs h1 ∧ Sub h1 w ∧ u ≠ .slice none 0 0 ∧
      ∀ (cn' : Cn) (n' : Nat) (v' : Value) (vs' : List Value) (h1' : PH) (w' : World) (nn' : Bool), cn'.den e vs' → RowOk v' n' sz el vs' h1' → Turned w w' h1 h1' → (nn' = true → v' ≠ .slice none 0 0) →
        ∃ e', Le e e' ∧ Models I e' (H.set b .gone ++ [.own cn' n' el sz 0 nn']) Fr w' ∧ Den e' (.h H.length [0, 0]) v' := by
  unfold blkS at hb
  split at hb
  · rename_i b' o len' cap
    split at hb
    · rename_i l' T hi
      split at hb
      · rename_i hc
        simp only [Bool.and_eq_true, Nat.beq_eq, Nat.ble_eq] at hc
        obtain ⟨rfl, rfl, rfl, h1, h2⟩ := hc
        simp only [Option.some.injEq, Prod.mk.injEq] at hb
        obtain ⟨rfl, rfl, rfl⟩ := hb
        obtain ⟨hn, ⟨n, vs, g1, g2, rfl⟩, g4, hput⟩ := hM.shift hi
        simp only [Den] at hd
        obtain ⟨n', g5, rfl⟩ := hd
        rw [g1] at g5; cases g5
        have hl := g2.length
        refine ⟨vs, _, g2, ⟨by omega, .inr ⟨n, cap, [], rfl, by simp, Nat.le_refl _, h2, by simp; omega⟩⟩, g4, (fun hh => by cases hh), fun cn' n' v' vs' h1' w' nn' hd hr ht hnn => ?_⟩
        have hle : Le e (ext e H.length (.hd fun j => if j = 0 then some (ownRef sz v') else none)) := le_ext hM.fresh
        refine ⟨_, hle, hput ⟨_, v', vs', rfl, by simp, fun j hj => by simp; omega, Cn.den_mono hle hd, hr, hnn⟩ ht, ?_⟩
        simp only [Den, ext_self]
        exact ⟨_, rfl, by simp [hdAt, ownRef, rowRef], hr.one⟩
      · cases hb
    · cases hb
  · cases hb
theorem ext_of_turned {w' : World} {h' : PH} (ht : Turned w w' emp h') : Ext w w' := ⟨fun k o hk => ht.keep k o hk rfl, ht.stay⟩
theorem appendH_ok {e : Env} {H H' : List (SB τ)} {Fr : PH} {t ty : TypeId} {x y z : SV} {c : Bool} {ws : List Nat} {u v : Value} (hM : Models I e H Fr w) (h : appendH P t x y H = some (c, z, H', ws)) (hc : c = true) (hx : Den e x u) (hy : Den e y v) :
    ∃ r w' e', (Builtin.append_ #[t, t] ty #[u, v]).run P w = .ok r w' ∧ Le e e' ∧ Models I e' H' Fr w' ∧ Den e' z r := by
  unfold appendH at h
  split at h
  · rename_i el hu
    split at h
    · rename_i i hi
      split at h
      · rename_i z0 hz
        split at h
        · rename_i bo ep cn n nn c1 c2 m d hzs hba hsrc
          rw [Nat.beq_eq] at hzs
          split at h
          · rename_i f hadd
            have fin : c1 = true → c2 = true → n + m ≤ maxLen ∧ (n + m) * i.bytes ≤ 140737488355328 →
                (bo = .new → z = .h H.length [0, 0] ∧ H' = H ++ [.own f (n + m) el i.size 0 (nn || Nat.blt 0 m)]) → (∀ b, bo = .own b → z = .h b [ep + 1, 0] ∧ H' = H.set b (.own f (n + m) el i.size (ep + 1) (nn || Nat.blt 0 m))) →
                (∀ b, bo = .blk b → z = .h H.length [0, 0] ∧ H' = H.set b .gone ++ [.own f (n + m) el i.size 0 (nn || Nat.blt 0 m)]) →
                ∃ r w' e', (Builtin.append_ #[t, t] ty #[u, v]).run P w = .ok r w' ∧ Le e e' ∧ Models I e' H' Fr w' ∧ Den e' z r := fun hc1 hc2 hsz h1 h2 h2b => by
              obtain ⟨us, s1, s2⟩ := srcC_ok hM hsrc hc2 hy
              unfold baseA at hba
              split at hba
              · rename_i hnil
                simp only [Option.some.injEq, Prod.mk.injEq] at hba
                obtain ⟨rfl, rfl, rfl, rfl, rfl, _⟩ := hba
                obtain ⟨rfl, rfl⟩ := h1 rfl
                have hu0 := nilS_ok hnil hx
                subst hu0
                obtain ⟨r, w', h', p1, p2, p3, p4⟩ := append_ok (P := P) (w := w) (ty := ty) (h := emp) (xs := []) (n := 0) hu hi hz rfl hzs ⟨by simp, .inl ⟨rfl, rfl, rfl⟩⟩ (fun k o hk => by simp [emp] at hk) s2 (by simpa using hsz.1) (by simpa using hsz.2)
                have hfd : f.den e us := by
                  have := addC_ok hadd (asC_ok (P := P) (T := el) (e := e) (c := .sv []) (vs := []) (by simp [Cn.den, DenL])) (asC_ok s1)
                  simpa using this
                obtain ⟨e', q1, q2, q3⟩ := own_new (nn := false || Nat.blt 0 m) hM hfd (by simpa using p2) (ext_of_turned p3) p3.sub (fun k hk => by
                  rcases p3.own k hk with h3 | h3
                  · simp [emp] at h3
                  · exact h3) (fun hnn => p4 (.inr (by simpa using hnn)))
                exact ⟨r, w', e', p1, q1, by simpa only [Nat.zero_add] using q2, q3⟩
              · split at hba
                · rename_i b l len hblk
                  simp only [Option.some.injEq, Prod.mk.injEq] at hba
                  obtain ⟨rfl, rfl, rfl, rfl, rfl, _⟩ := hba
                  obtain ⟨rfl, rfl⟩ := h2b b rfl
                  obtain ⟨vs, hh, k3, k4, k5, k6, k7⟩ := blk_grow hM hblk hx
                  obtain ⟨r, w', h', p1, p2, p3, p4⟩ := append_ok (P := P) (ty := ty) hu hi hz rfl hzs k4 k5 s2 hsz.1 hsz.2
                  obtain ⟨e', q1, q2, q3⟩ := k7 f (len + m) r (vs ++ us) h' w' (true || Nat.blt 0 m) (addC_ok hadd (asC_ok (c := .sv l) k3) (asC_ok s1)) p2 p3 (fun _ => p4 (.inl k6))
                  exact ⟨r, w', e', p1, q1, q2, q3⟩
                split at hba
                · rename_i b ep' sel r hs
                  split at hba
                  · split at hba
                    · rename_i c' n' T' sz' q nn' hb
                      split at hba
                      · rename_i hq
                        rw [Bool.and_eq_true, Nat.beq_eq, Nat.beq_eq] at hq
                        obtain ⟨rfl, rfl⟩ := hq
                        simp only [Option.some.injEq, Prod.mk.injEq] at hba
                        obtain ⟨rfl, rfl, rfl, rfl, rfl, hqe⟩ := hba
                        rw [hc1, Nat.beq_eq] at hqe
                        subst hqe
                        obtain ⟨rfl, rfl⟩ := h2 b rfl
                        obtain ⟨f0, v0, vs, hh, k1, k2, k3, k4, k5, k6, k7⟩ := own_grow hM hb
                        rw [hsel_ok hs] at hx
                        obtain ⟨f1, g1, j1, j2, j3, _⟩ := den_h hx
                        rw [k1] at j1; cases j1
                        rw [k2] at j2; cases j2
                        have hu0 : u = v0 := j3
                        subst hu0
                        obtain ⟨r, w', h', p1, p2, p3, p4⟩ := append_ok (P := P) (ty := ty) hu hi hz rfl hzs k4 k5 s2 hsz.1 hsz.2
                        obtain ⟨e', q1, q2, q3⟩ := k7 f (n' + m) r (vs ++ us) h' w' (nn' || Nat.blt 0 m) (addC_ok hadd (asC_ok k3) (asC_ok s1)) p2 p3 (fun hnn => by
                          rw [Bool.or_eq_true, Nat.blt_eq] at hnn
                          rcases hnn with hnn | hnn
                          · exact p4 (.inl (k6 hnn))
                          · exact p4 (.inr hnn))
                        exact ⟨r, w', e', p1, q1, q2, q3⟩
                      · cases hba
                    · cases hba
                  · cases hba
                · cases hba
            split at h
            · simp only [Option.some.injEq, Prod.mk.injEq] at h
              obtain ⟨h1, h2, h3, _⟩ := h
              rw [hc, Bool.and_eq_true, Bool.and_eq_true, decide_eq_true_eq] at h1
              exact fin h1.1 h1.2.1 h1.2.2 (fun _ => ⟨h2.symm, h3.symm⟩) (fun b hb => by cases hb) (fun b hb => by cases hb)
            · rename_i b
              simp only [Option.some.injEq, Prod.mk.injEq] at h
              obtain ⟨h1, h2, h3, _⟩ := h
              rw [hc, Bool.and_eq_true, Bool.and_eq_true, decide_eq_true_eq] at h1
              exact fin h1.1 h1.2.1 h1.2.2 (fun hb => by cases hb) (fun b' hb => by cases hb) (fun b' hb => by cases hb; exact ⟨h2.symm, h3.symm⟩)
            · rename_i b
              simp only [Option.some.injEq, Prod.mk.injEq] at h
              obtain ⟨h1, h2, h3, _⟩ := h
              rw [hc, Bool.and_eq_true, Bool.and_eq_true, decide_eq_true_eq] at h1
              exact fin h1.1 h1.2.1 h1.2.2 (fun hb => by cases hb) (fun b' hb => by cases hb; exact ⟨h2.symm, h3.symm⟩) (fun b' hb => by cases hb)
          · cases h
        · cases h
      · cases h
    · cases h
  · cases h
theorem madeC_den {e : Env} {el : TypeId} (z : Value) (n sz : Nat) (hz : z.cells.size = sz) : (madeC P el z n sz).den e ((List.range (n * sz)).map fun i => z.cells[i % z.cells.size]!) := by
  have hpl : DenL e ((List.range (n * sz)).map fun i => .v (z.cells[i % z.cells.size]!)) ((List.range (n * sz)).map fun i => z.cells[i % z.cells.size]!) := by
    have := DenL.plain (e := e) ((List.range (n * sz)).map fun i => z.cells[i % z.cells.size]!)
    simpa [List.map_map, Function.comp_def] using this
  unfold madeC
  split
  · rename_i k m hzl
    split
    · rename_i hm
      have hm : m = 0 := by simpa using hm
      subst hm
      simp only [Cn.den]
      have hzc : z.cells = #[.int k 0] := by apply Array.toList_inj.1; simpa using hzl
      rw [hzc]
      apply List.ext_getElem
      · simp
      · intro i h1 h2
        simp [Nat.mod_one]
    · exact hpl
  · rename_i a m c hzl
    split
    · rename_i hs1
      rw [Nat.beq_eq] at hs1
      subst hs1
      have hzc : z.cells = #[.slice a m c] := by apply Array.toList_inj.1; simpa using hzl
      have e1 : ((List.range (n * 1)).map fun i => z.cells[i % z.cells.size]!) = List.replicate n (.slice a m c) := by
        rw [hzc]
        apply List.ext_getElem
        · simp
        · intro i h1 h2
          simp [Nat.mod_one]
      rw [e1]
      exact DenL.replicate _ _ (by simp [Den]) n
    · exact hpl
  · split
    · rename_i xs hx
      split
      · rename_i c
        split
        · rename_i h4
          rw [Nat.beq_eq] at h4
          subst h4
          have hv : z.cells.toList = c.vals := by
            have := decRecs_ok (e := e) hx (DenL.plain _)
            simpa [cvals] using this
          simp only [Cn.den]
          have hz4 : z.cells.size = 4 := hz
          rw [hz4]
          apply List.ext_getElem
          · rw [cvals_length]; simp [hz4]
          · intro i h1 h2
            have hi : i < n * 4 := by simpa [hz4] using h1
            have hq := cvals_get (l := List.replicate n c) (i := i / 4) (by simp; omega) (i % 4) (by omega)
            rw [show i / 4 * 4 + i % 4 = i by omega] at hq
            rw [List.getElem?_eq_getElem h2] at hq
            simp only [List.getElem_replicate] at hq
            rw [← hv] at hq
            have hb : i % 4 < z.cells.size := by omega
            have h3 : z.cells.toList[i % 4]? = some z.cells[i % 4] := by simp [hb]
            rw [h3] at hq
            simp only [Option.some.injEq] at hq
            simp only [List.getElem_map, List.getElem_range]
            rw [hq, getElem!_pos z.cells (i % 4) hb]
        · exact hpl
      · exact hpl
    · exact hpl
theorem makeH_ok {e : Env} {H H' : List (SB τ)} {Fr : PH} {T : TypeId} {l c z : SV} {q : Bool} {ws : List Nat} {u v : Value} (hM : Models I e H Fr w) (h : makeH P T l c H = some (q, z, H', ws)) (hq : q = true) (hl : Den e l u) (hc : Den e c v) :
    ∃ r w' e', (Instr.makeSlice T u v).run P w = .ok r w' ∧ Le e e' ∧ Models I e' H' Fr w' ∧ Den e' z r := by
  unfold makeH at h
  split at h
  · rename_i kl a0 kc b0 el hu
    split at h
    · rename_i i hi
      split at h
      · rename_i z0 hz
        split at h
        · rename_i hzs
          rw [Nat.beq_eq] at hzs
          simp only [Option.some.injEq, Prod.mk.injEq] at h
          obtain ⟨h1, rfl, rfl, rfl⟩ := h
          rw [hq] at h1
          obtain ⟨g1, g2, g3, g4⟩ := of_decide_eq_true h1
          simp only [Den] at hl hc
          subst hl; subst hc
          have hrun := run_make (P := P) w T el i z0 hu hi hz kl kc a0 b0 g1 g2 g3 (by simp only [maxLen] at g4; omega)
          have hsplit : (madeCells z0.cells (b0.toNat * i.size)).toList = ((List.range (a0.toNat * i.size)).map fun j => z0.cells[j % z0.cells.size]!) ++ (madeCells z0.cells (b0.toNat * i.size)).toList.drop (a0.toNat * i.size) := by
            have hmul : a0.toNat * i.size ≤ b0.toNat * i.size := Nat.mul_le_mul_right _ (by omega)
            have e1 : (madeCells z0.cells (b0.toNat * i.size)).toList.take (a0.toNat * i.size) = (List.range (a0.toNat * i.size)).map fun j => z0.cells[j % z0.cells.size]! := by
              unfold madeCells
              rw [Array.toList_map, Array.toList_range, ← List.map_take, List.take_range, Nat.min_eq_left hmul]
            rw [← e1, List.take_append_drop]
          have harr : madeCells z0.cells (b0.toNat * i.size) = (((List.range (a0.toNat * i.size)).map fun j => z0.cells[j % z0.cells.size]!) ++ (madeCells z0.cells (b0.toNat * i.size)).toList.drop (a0.toNat * i.size)).toArray := by
            apply Array.toList_inj.1; rw [← hsplit]
          rw [harr] at hrun
          generalize hrest : (madeCells z0.cells (b0.toNat * i.size)).toList.drop (a0.toNat * i.size) = rest at hrun hsplit
          obtain ⟨e', q1, q2, q3⟩ := own_new (w' := w.alloc (Obj.cells (((List.range (a0.toNat * i.size)).map fun j => z0.cells[j % z0.cells.size]!) ++ rest).toArray el)) (nn := true) (v := .slice (some ⟨w.heap.size, 0, none⟩) a0.toNat b0.toNat) (T := el) (n := a0.toNat) (sz := i.size) (h := single w.heap.size (.cells (((List.range (a0.toNat * i.size)).map fun j => z0.cells[j % z0.cells.size]!) ++ rest).toArray el (0, 0))) hM
            (madeC_den (P := P) (el := el) z0 a0.toNat i.size hzs) ⟨by simp, .inr ⟨_, b0.toNat, rest, rfl, rfl, by omega, by omega, by rw [← hsplit, Array.length_toList, size_madeCells]⟩⟩ (Ext.alloc w _) (sub_single (by show (w.heap.push _)[w.heap.size]? = _; simp)) (fun k hk => by rw [single_ne] at hk; omega) (fun _ hh => by cases hh)
          exact ⟨_, _, e', hrun, q1, q2, q3⟩
        · cases h
      · cases h
    · cases h
  · cases h
theorem copyH_ok {e : Env} {H H' : List (SB τ)} {Fr : PH} {D D' ty : TypeId} {x y z : SV} {c : Bool} {ws : List Nat} {u v : Value} (hM : Models I e H Fr w) (h : copyH P D x y H = some (c, z, H', ws)) (hc : c = true) (hx : Den e x u) (hy : Den e y v) :
    ∃ r w', (Builtin.copy_ #[D, D'] ty #[u, v]).run P w = .ok r w' ∧ Models I e H' Fr w' ∧ Den e z r := by
  unfold copyH at h
  split at h
  · rename_i el hu
    split at h
    · rename_i k b ep sel r hk hs
      split at h
      · rename_i c1 cn n sz T hget
        split at h
        · rename_i lo len c2 m d hpart hsrc
          split at h
          · rename_i f hput
            split at h
            · rename_i H2 hset
              simp only [Option.some.injEq, Prod.mk.injEq] at h
              obtain ⟨h1, rfl, rfl, rfl⟩ := h
              rw [hc] at h1
              simp only [Bool.and_eq_true, Nat.beq_eq, Nat.ble_eq, Nat.blt_eq] at h1
              obtain ⟨h1, h2, h3, rfl, rfl, h4, h5⟩ := h1
              rw [hsel_ok hs] at hx
              obtain ⟨f0, g, hf, hg, hv, _⟩ := den_h hx
              obtain ⟨f', g', u0, vs, hh, k1, k2, k3, k4, k5, k6, k7⟩ := getR_lens hM hget h1
              rw [hf] at k1; cases k1
              rw [hg] at k2; cases k2
              rw [k3] at hv
              obtain ⟨us, s1, s2⟩ := srcC_ok hM hsrc h2 hy
              obtain ⟨q6, ⟨rfl, rfl, _⟩ | ⟨g0, cap, rest, rfl, _, q7, _⟩⟩ := id k5
              · omega
              · have hdst : ∃ bo dc, u = .slice (some ⟨g0, bo, none⟩) len dc ∧ (0 < len → bo = lo * sz) := by
                  unfold partH at hpart
                  split at hpart
                  · simp only [Option.some.injEq, Prod.mk.injEq] at hpart
                    obtain ⟨rfl, rfl⟩ := hpart
                    exact ⟨0, cap, hv, fun _ => by simp⟩
                  · simp only [Option.some.injEq, Prod.mk.injEq] at hpart
                    obtain ⟨rfl, rfl⟩ := hpart
                    refine ⟨_, _, hv, fun hl => ?_⟩
                    rename_i lo' len' zz
                    have hne : Nat.beq cap lo' = false := by rw [← Bool.not_eq_true, Nat.beq_eq]; omega
                    rw [hne]; rfl
                  · cases hpart
                obtain ⟨bo, dc, hd1, hd2⟩ := hdst
                obtain ⟨w', h', p1, p2, p3⟩ := copy_ok (P := P) (D' := D') (ty := ty) hu hk k5 k6 hd1 hd2 h4 s2
                exact ⟨_, w', p1, k7 _ _ _ _ _ hset (putN_ok hput h3 k4 (asC_ok s1)) p2 p3, by simp [Den, goInt]⟩
            · cases h
          · cases h
        · cases h
      · cases h
    · cases h
  · cases h
end Go.Sym
namespace Go.Sym
open Go
variable {P : Program} {w : World} {τ : Type} {I : Inv τ}
def Rws.snoc (R : Rws) (cn : Cn) : Option Rws :=
  match R with
  | .i k l => match cn with
    | .ints k' xs => match decide (k = k') with
      | true => some (.i k (l ++ [xs]))
      | false => none
    | _ => none
  | .c l => match cn with
    | .recs xs => some (.c (l ++ [xs]))
    | _ => none
theorem Rws.snoc_ok {R R' : Rws} {cn : Cn} (h : R.snoc cn = some R') : R'.sz = R.sz ∧ R'.len = R.len + 1 ∧ ∀ e vs, cn.den e vs → ∃ n, vs.length = n * R.sz ∧ R'.rows = R.rows ++ [(n, vs)] := by
  cases R with
  | i k l =>
    cases cn with
    | ints k' xs =>
      simp only [Rws.snoc] at h
      split at h
      · rename_i hk
        have hk := of_decide_eq_true hk
        subst hk
        simp only [Option.some.injEq] at h
        subst h
        refine ⟨rfl, by simp [Rws.len], fun e vs hd => ⟨xs.length, ?_, ?_⟩⟩
        · simp only [Cn.den] at hd; subst hd; simp [Rws.sz]
        · simp only [Cn.den] at hd; subst hd; simp [Rws.rows]
      · cases h
    | _ => simp [Rws.snoc] at h
  | c l =>
    cases cn with
    | recs xs =>
      simp only [Rws.snoc, Option.some.injEq] at h
      subst h
      refine ⟨rfl, by simp [Rws.len], fun e vs hd => ⟨xs.length, ?_, ?_⟩⟩
      · simp only [Cn.den] at hd; subst hd; simp [Rws.sz, cvals_length]
      · simp only [Cn.den] at hd; subst hd; simp [Rws.rows]
    | _ => simp [Rws.snoc] at h
def Lim.snocL (L : Lim) (j : Nat) : Lim :=
  match L with
  | .i k l => .i k (l ++ [.inl j])
  | .c l => .c (l ++ [.inl j])
theorem Lim.snocL_ok (L : Lim) (j : Nat) : (L.snocL j).sz = L.sz ∧ (L.snocL j).rows = L.rows ++ [.inl j] := by
  cases L <;> simp [Lim.snocL, Lim.sz, Lim.rows]
def Lim.snocR (L : Lim) (cn : Cn) : Option Lim :=
  match L with
  | .i k l => match cn with
    | .ints k' xs => match decide (k = k') with
      | true => some (.i k (l ++ [.inr xs]))
      | false => none
    | _ => none
  | .c l => match cn with
    | .recs xs => some (.c (l ++ [.inr xs]))
    | _ => none
theorem Lim.snocR_ok {L L' : Lim} {cn : Cn} (h : L.snocR cn = some L') : L'.sz = L.sz ∧ ∀ e vs, cn.den e vs → ∃ n, vs.length = n * L.sz ∧ L'.rows = L.rows ++ [.inr (n, vs)] := by
  cases L with
  | i k l =>
    cases cn with
    | ints k' xs =>
      simp only [Lim.snocR] at h
      split at h
      · rename_i hk
        have hk := of_decide_eq_true hk
        subst hk
        simp only [Option.some.injEq] at h
        subst h
        refine ⟨rfl, fun e vs hd => ⟨xs.length, ?_, ?_⟩⟩
        · simp only [Cn.den] at hd; subst hd; simp [Lim.sz]
        · simp only [Cn.den] at hd; subst hd; simp [Lim.rows]
      · cases h
    | _ => simp [Lim.snocR] at h
  | c l =>
    cases cn with
    | recs xs =>
      simp only [Lim.snocR, Option.some.injEq] at h
      subst h
      refine ⟨rfl, fun e vs hd => ⟨xs.length, ?_, ?_⟩⟩
      · simp only [Cn.den] at hd; subst hd; simp [Lim.sz, cvals_length]
      · simp only [Cn.den] at hd; subst hd; simp [Lim.rows]
    | _ => simp [Lim.snocR] at h
theorem LimOk.snocL {T sz : Nat} {g : List Nat → Value} {j : Nat} : ∀ {us : List Value} {rs : List (Nat ⊕ (Nat × List Value))} {h : PH}, LimOk T sz g us rs h → LimOk T sz g (us ++ [g [1, j]]) (rs ++ [.inl j]) h
  | [], [], _, h => ⟨rfl, h⟩
  | [], _ :: _, _, h => h.elim
  | _ :: _, [], _, h => h.elim
  | _ :: us, .inl _ :: rs, _, ⟨h1, h2⟩ => ⟨h1, h2.snocL⟩
  | _ :: us, .inr _ :: rs, _, ⟨h1, h2, ho, hr, hd, he⟩ => ⟨h1, h2, ho, hr.snocL, hd, he⟩
theorem LimOk.snocR {T sz : Nat} {g : List Nat → Value} {v : Value} {r : Nat × List Value} {h' : PH} : ∀ {us : List Value} {rs : List (Nat ⊕ (Nat × List Value))} {h : PH}, LimOk T sz g us rs h → RowOk v r.1 sz T r.2 h' → Disj h h' →
    LimOk T sz g (us ++ [v]) (rs ++ [.inr r]) (join h h')
  | [], [], h, e, ho, hd => by
    have e : h = emp := e
    subst e
    rw [join_emp]
    exact ⟨h', emp, ho, rfl, disj_emp _, (join_emp' _).symm⟩
  | [], _ :: _, _, h, _, _ => h.elim
  | _ :: _, [], _, h, _, _ => h.elim
  | _ :: us, .inl _ :: rs, _, ⟨h1, h2⟩, ho, hd => ⟨h1, h2.snocR ho hd⟩
  | _ :: us, .inr _ :: rs, _, ⟨h1, h2, ho1, hr, hd1, e⟩, ho, hd => by
    subst e
    rw [Go.Sym.join_assoc]
    have hd2 : Disj h1 h' ∧ Disj h2 h' := by
      have := disj_join.1 hd.symm
      exact ⟨this.1.symm, this.2.symm⟩
    exact ⟨h1, join h2 h', ho1, hr.snocR ho hd2.2, disj_join.2 ⟨hd1, hd2.1⟩, rfl⟩
theorem h_val {e : Env} {b ep : Nat} {p : List Nat} {f : Nat → Option (List Nat → Value)} {g : List Nat → Value} {v : Value} (hd : Den e (.h b (ep :: p)) v) (h1 : e b = some (.hd f)) (h2 : f ep = some g) : v = g p ∧ v.oneCell' = true := by
  simp only [Den] at hd
  obtain ⟨f', q1, q2, q3⟩ := hd
  rw [h1] at q1; cases q1
  simp only [hdAt, h2, Option.map_some, Option.some.injEq] at q2
  exact ⟨q2.symm, q3⟩
theorem h_of {e : Env} {b ep : Nat} {p : List Nat} {f : Nat → Option (List Nat → Value)} {g : List Nat → Value} {v : Value} (h1 : e b = some (.hd f)) (h2 : f ep = some g) (h3 : g p = v) (h4 : v.oneCell' = true) : Den e (.h b (ep :: p)) v := by
  simp only [Den]
  exact ⟨f, h1, by simp [hdAt, h2, h3], h4⟩
def up (f : Nat → Option (List Nat → Value)) (k : Nat) (g : List Nat → Value) : Nat → Option (List Nat → Value) := fun j => if j = k then some g else f j
theorem up_self (f : Nat → Option (List Nat → Value)) (k : Nat) (g : List Nat → Value) : up f k g k = some g := by simp [up]
theorem up_keep {f : Nat → Option (List Nat → Value)} {k : Nat} {g : List Nat → Value} (h : f k = none) : ∀ j x, f j = some x → up f k g j = some x := fun j x hj => by
  have : j ≠ k := fun e => by subst e; rw [h] at hj; cases hj
  simp only [up, this, if_false]; exact hj
theorem up_none {f : Nat → Option (List Nat → Value)} {k : Nat} {g : List Nat → Value} (h : ∀ j, k ≤ j → f j = none) : ∀ j, k < j → up f k g j = none := fun j hj => by
  have : j ≠ k := by omega
  simp only [up, this, if_false]; exact h j (by omega)
theorem le_up {e : Env} {b k : Nat} {f : Nat → Option (List Nat → Value)} {g : List Nat → Value} (h : e b = some (.hd f)) (hf : f k = none) : Le e (ext e b (.hd (up f k g))) := le_grow h ⟨_, rfl, up_keep hf⟩
section
variable {e : Env} {H : List (SB τ)} {Fr : PH} {t ty TS : TypeId} {i : TypeInfo} {z : Value}
theorem addRow_ok (ht : P.underlying t = some (.slice TS)) (hi : P.info? TS = some i) (hz : i.zero = some z) (h1 : i.size = 1) (hzs : z.cells.size = 1) (hM : Models I e H Fr w) {b d oe re n sz q : Nat} {R R' : Rws} {T : TypeId} {cn : Cn} {nn : Bool}
    (hb : H[b]? = some (.rows R T TS oe re none)) (hd : H[d]? = some (.own cn n T sz q nn)) (hbd : b ≠ d) (hsz : sz = R.sz) (hR : R.snoc (asC P T cn) = some R') {u x y : Value} (hu : Den e (.h b [oe, 0]) u) (hy : Den e (.h d [q, 0]) y)
    (hx : SrcIn w x 1 1 [y]) (hl1 : R.len + 1 ≤ maxLen) (hl2 : (R.len + 1) * i.bytes ≤ 140737488355328) :
    ∃ r w' e', (Builtin.append_ #[t, t] ty #[u, x]).run P w = .ok r w' ∧ Le e e' ∧ Models I e' ((H.set b (.rows R' T TS (re + 1) (re + 1) none)).set d .gone) Fr w' ∧ Den e' (.h b [re + 1, 0]) r := by
  obtain ⟨hn, hm, ⟨f, u0, us, hs, ho, hr, g1, g2, ⟨g3, ⟨g0, g3a, g3b⟩, g3c⟩, g4, g4', g5, g6, g7, rfl⟩, ⟨fd, v, vs, k1, k2, k3, k4, k5, k6⟩, hs1, hs2, hdis, hput⟩ := hM.take2 hb hd hbd
  have g4 : hs = us := g4
  subst g4
  obtain ⟨rfl, _⟩ := h_val hu g1 g3a
  obtain ⟨hyv, hy1⟩ := h_val hy k1 k2
  have hyv : y = v := hyv
  subst hyv
  rw [show g0 [0] = u0 from g3b []] at *
  have hlen : hs.length = R.len := by rw [g6.length, R.rows_length]
  obtain ⟨hso, hsr⟩ := (sub_join g7).1 hs1
  have hdis' := disj_join.1 hdis.symm
  obtain ⟨v', w', ho', p1, p2, p3, p4⟩ := append_ok (P := P) (ty := ty) ht hi hz h1 hzs g5 hso hx (by omega) (by rw [hlen]; exact hl2)
  obtain ⟨e1, e2, e3⟩ := Rws.snoc_ok hR
  obtain ⟨m, e4, e5⟩ := e3 e vs (asC_ok k4)
  have hmn : m = n := by
    have h5 := k5.1
    rw [e4, hsz] at h5
    have hpos : 0 < R.sz := by cases R <;> simp [Rws.sz]
    exact Nat.eq_of_mul_eq_mul_right hpos h5
  subst hmn
  subst hsz
  have hle := le_up (k := re + 1) (g := rowsRef R'.sz v' (hs ++ [y])) g1 (g3c _ (Nat.lt_succ_self _))
  have hsub2 : Sub (join hr hm) w := (sub_join hdis'.2.symm).2 ⟨hsr, hs2⟩
  have hd2 : Disj ho (join hr hm) := disj_join.2 ⟨g7, hdis'.1.symm⟩
  refine ⟨v', w', _, p1, hle, hput (hn' := join ho' (join hr hm)) (hm' := emp) hle (fun k hk1 hk2 => ext_ne _ _ _ hk1)
    ⟨_, v', hs ++ [y], hs ++ [y], ho', join hr hm, ext_self _ _ _, up_self _ _ _, ⟨Nat.le_refl _, ⟨_, up_self _ _ _, fun p => rfl⟩, up_none fun j hj => g3c j (by omega)⟩, rfl, ?_, by simpa using p2, ?_, p3.disj hsub2 hd2, rfl⟩ rfl (disj_emp _) ?_, ?_⟩
  · intro x hx
    rcases List.mem_append.1 hx with hx | hx
    · exact g4' x hx
    · simp only [List.mem_singleton] at hx; subst hx; exact hy1
  · rw [e1, e5]
    exact g6.snoc (r := (m, vs)) k5 hdis'.2.symm
  · rw [join_emp', join_assoc]
    exact p3.left hsub2 hd2
  · exact h_of (ext_self _ _ _) (up_self _ _ _) rfl p2.one
theorem addLim_ok (ht : P.underlying t = some (.slice TS)) (hi : P.info? TS = some i) (hz : i.zero = some z) (h1 : i.size = 1) (hzs : z.cells.size = 1) (hM : Models I e H Fr w) {b d b0 q0 le n sz q : Nat} {L L' : Lim} {T : TypeId} {cn : Cn} {nn : Bool}
    (hb : H[b]? = some (.limbo b0 q0 L T TS le)) (hd : H[d]? = some (.own cn n T sz q nn)) (hbd : b ≠ d) (hsz : sz = L.sz) (hR : L.snocR (asC P T cn) = some L') {u x y : Value} (hu : Den e (.h b [le, 0]) u) (hy : Den e (.h d [q, 0]) y)
    (hx : SrcIn w x 1 1 [y]) (hl1 : L.rows.length + 1 ≤ maxLen) (hl2 : (L.rows.length + 1) * i.bytes ≤ 140737488355328) :
    ∃ r w' e', (Builtin.append_ #[t, t] ty #[u, x]).run P w = .ok r w' ∧ Le e e' ∧ Models I e' ((H.set b (.limbo b0 q0 L' T TS (le + 1))).set d .gone) Fr w' ∧ Den e' (.h b [le + 1, 0]) r := by
  obtain ⟨hn, hm, ⟨f, u0, us, ho, hr, fb, gb, g1, g2, g3c, ga, gc, g4', g5, g6, g7, rfl⟩, ⟨fd, v, vs, k1, k2, k3, k4, k5, k6⟩, hs1, hs2, hdis, hput⟩ := hM.take2 hb hd hbd
  obtain ⟨hu0, _⟩ := h_val hu g1 g2
  have hu0 : u = u0 := hu0
  subst hu0
  obtain ⟨hyv, hy1⟩ := h_val hy k1 k2
  have hyv : y = v := hyv
  subst hyv
  have hlen := g6.length
  obtain ⟨hso, hsr⟩ := (sub_join g7).1 hs1
  have hdis' := disj_join.1 hdis.symm
  obtain ⟨v', w', ho', p1, p2, p3, p4⟩ := append_ok (P := P) (ty := ty) ht hi hz h1 hzs g5 hso hx (by omega) (by rw [hlen]; exact hl2)
  obtain ⟨e1, e3⟩ := Lim.snocR_ok hR
  obtain ⟨m, e4, e5⟩ := e3 e vs (asC_ok k4)
  have hmn : m = n := by
    have h5 := k5.1
    rw [e4, hsz] at h5
    have hpos : 0 < L.sz := by cases L <;> simp [Lim.sz]
    exact Nat.eq_of_mul_eq_mul_right hpos h5
  subst hmn
  subst hsz
  have hle := le_up (k := le + 1) (g := ownRef 1 v') g1 (g3c _ (Nat.lt_succ_self _))
  have hsub2 : Sub (join hr hm) w := (sub_join hdis'.2.symm).2 ⟨hsr, hs2⟩
  have hd2 : Disj ho (join hr hm) := disj_join.2 ⟨g7, hdis'.1.symm⟩
  obtain ⟨fb', q1, q2⟩ := hle.hd ga
  refine ⟨v', w', _, p1, hle, hput (hn' := join ho' (join hr hm)) (hm' := emp) hle (fun k hk1 hk2 => ext_ne _ _ _ hk1)
    ⟨_, v', us ++ [y], ho', join hr hm, fb', gb, ext_self _ _ _, up_self _ _ _, up_none fun j hj => g3c j (by omega), q1, q2 _ _ gc, ?_, by simpa using p2, ?_, p3.disj hsub2 hd2, rfl⟩ rfl (disj_emp _) ?_, ?_⟩
  · intro x hx
    rcases List.mem_append.1 hx with hx | hx
    · exact g4' x hx
    · simp only [List.mem_singleton] at hx; subst hx; exact hy1
  · rw [e1, e5]
    exact g6.snocR (r := (m, vs)) k5 hdis'.2.symm
  · rw [join_emp', join_assoc]
    exact p3.left hsub2 hd2
  · exact h_of (ext_self _ _ _) (up_self _ _ _) rfl p2.one
theorem addHdr_ok (ht : P.underlying t = some (.slice TS)) (hi : P.info? TS = some i) (hz : i.zero = some z) (h1 : i.size = 1) (hzs : z.cells.size = 1) (hM : Models I e H Fr w) {b b0 q0 le j : Nat} {L : Lim} {T : TypeId}
    (hb : H[b]? = some (.limbo b0 q0 L T TS le)) {u x y : Value} (hu : Den e (.h b [le, 0]) u) (hy : Den e (.h b0 [q0, 1, j]) y)
    (hx : SrcIn w x 1 1 [y]) (hl1 : L.rows.length + 1 ≤ maxLen) (hl2 : (L.rows.length + 1) * i.bytes ≤ 140737488355328) :
    ∃ r w' e', (Builtin.append_ #[t, t] ty #[u, x]).run P w = .ok r w' ∧ Le e e' ∧ Models I e' (H.set b (.limbo b0 q0 (L.snocL j) T TS (le + 1))) Fr w' ∧ Den e' (.h b [le + 1, 0]) r := by
  obtain ⟨hn, ⟨f, u0, us, ho, hr, fb, gb, g1, g2, g3c, ga, gc, g4', g5, g6, g7, rfl⟩, hs1, hput⟩ := hM.take hb
  obtain ⟨hu0, _⟩ := h_val hu g1 g2
  have hu0 : u = u0 := hu0
  subst hu0
  obtain ⟨rfl, hy1⟩ := h_val hy ga gc
  have hlen := g6.length
  obtain ⟨hso, hsr⟩ := (sub_join g7).1 hs1
  obtain ⟨v', w', ho', p1, p2, p3, p4⟩ := append_ok (P := P) (ty := ty) ht hi hz h1 hzs g5 hso hx (by omega) (by rw [hlen]; exact hl2)
  obtain ⟨e1, e3⟩ := L.snocL_ok j
  have hle := le_up (k := le + 1) (g := ownRef 1 v') g1 (g3c _ (Nat.lt_succ_self _))
  obtain ⟨fb', q1, q2⟩ := hle.hd ga
  refine ⟨v', w', _, p1, hle, hput (hn' := join ho' hr) hle (fun k hk1 => ext_ne _ _ _ hk1)
    ⟨_, v', us ++ [gb [1, j]], ho', hr, fb', gb, ext_self _ _ _, up_self _ _ _, up_none fun j hj => g3c j (by omega), q1, q2 _ _ gc, ?_, by simpa using p2, ?_, p3.disj hsr g7, rfl⟩ (p3.left hsr g7), ?_⟩
  · intro x hx
    rcases List.mem_append.1 hx with hx | hx
    · exact g4' x hx
    · simp only [List.mem_singleton] at hx; subst hx; exact hy1
  · rw [e1, e3]
    exact g6.snocL
  · exact h_of (ext_self _ _ _) (up_self _ _ _) rfl p2.one
theorem growRow_ok {el : TypeId} (ht : P.underlying t = some (.slice el)) (hi : P.info? el = some i) (hz : i.zero = some z) (hzs : z.cells.size = i.size) (hM : Models I e H Fr w) {b oe re j m : Nat} {R R' : Rws} {f : Cn} {d : Cn}
    (hb : H[b]? = some (.rows R el TS oe re none)) (hj : j < R.len) (hsz : i.size = R.sz) (hadd : addC (asC P el (R.at j)) (asC P el d) = some f) (hR : R.setAt j f = some R') {u x : Value} (hu : Den e (.h b [re, 1, j]) u)
    {ns : List Value} (hdn : d.den e ns) (hx : SrcIn w x m i.size ns) (hl1 : R.nAt j + m ≤ maxLen) (hl2 : (R.nAt j + m) * i.bytes ≤ 140737488355328) :
    ∃ r w' e', (Builtin.append_ #[t, t] ty #[u, x]).run P w = .ok r w' ∧ Le e e' ∧ Models I e' (H.set b (.rows R' el TS oe (re + 1) (some j))) Fr w' ∧ Den e' (.h b [re + 1, 1, j]) r := by
  obtain ⟨hn, ⟨f0, u0, us, hs, ho, hr, g1, g2, ⟨g3, ⟨g0, g3a, g3b⟩, g3c⟩, g4, g4', g5, g6, g7, rfl⟩, hs1, hput⟩ := hM.take hb
  have g4 : hs = us := g4
  subst g4
  obtain ⟨hsel, _⟩ := h_val hu g1 g2
  obtain ⟨r0, q1, q2, q3⟩ := R.rows_at hj
  obtain ⟨v, k1, k2, a1, a2, a3, rfl, a4⟩ := g6.split q1
  have huv : u = v := by
    rw [hsel]
    show rowRef R.sz (hs.getD j undef) [] = v
    rw [List.getD, a1]; rfl
  subst huv
  obtain ⟨hso, hsr⟩ := (sub_join g7).1 hs1
  obtain ⟨hsk1, hsk2⟩ := (sub_join a3).1 hsr
  rw [q2] at a2
  rw [← hsz] at a2
  obtain ⟨v', w', h', p1, p2, p3, p4⟩ := append_ok (P := P) (ty := ty) ht hi hz rfl hzs a2 hsk1 hx hl1 hl2
  obtain ⟨e1, e2, e3⟩ := Rws.setAt_ok hR hj
  obtain ⟨n', e4, e5⟩ := e3 e (r0.2 ++ ns) (addC_ok hadd (asC_ok (q3 e)) (asC_ok hdn))
  have hn' : n' = R.nAt j + m := by
    have h5 := p2.1
    rw [e4, hsz] at h5
    have hpos : 0 < R.sz := by cases R <;> simp [Rws.sz]
    exact Nat.eq_of_mul_eq_mul_right hpos h5
  have hle := le_up (k := re + 1) (g := rowsRef R'.sz u0 (hs.set j v')) g1 (g3c _ (Nat.lt_succ_self _))
  have hd1 := disj_join.1 g7
  have ht2 := (p3.left hsk2 a3)
  have hd3 : Disj (join k1 k2) ho := g7.symm
  have hjl : j < hs.length := (List.getElem?_eq_some_iff.1 a1).1
  refine ⟨v', w', _, p1, hle, hput (hn' := join ho (join h' k2)) hle (fun k hk => ext_ne _ _ _ hk)
    ⟨_, u0, hs.set j v', hs, ho, join h' k2, ext_self _ _ _, up_self _ _ _, ⟨by omega, ⟨g0, up_keep (g3c _ (Nat.lt_succ_self _)) _ _ g3a, g3b⟩, up_none fun j hj => g3c j (by omega)⟩, ⟨by simp, fun k hk => (List.getElem?_set_ne (fun e => hk e.symm)).symm⟩, g4', g5, ?_, (ht2.disj hso hd3).symm, rfl⟩ (ht2.right hso hd3), ?_⟩
  · rw [e1, e5]
    refine a4 v' (n', r0.2 ++ ns) h' ?_ (p3.disj hsk2 a3)
    rw [hn', ← hsz]; exact p2
  · refine h_of (ext_self _ _ _) (up_self _ _ _) ?_ p2.one
    show rowRef R'.sz ((hs.set j v').getD j undef) [] = v'
    rw [List.getD, List.getElem?_set_self hjl]; rfl
theorem putHdr_ok {U : TypeId} (hU : szT P U = some 1) (hM : Models I e H Fr w) {b oe re j : Nat} {R : Rws} {T : TypeId} (hb : H[b]? = some (.rows R T TS oe re (some j))) (hj : j < R.len) {u v : Value} (hu : Den e (.h b [oe, 0, j, 0]) u) (hv : Den e (.h b [re, 1, j]) v) :
    ∃ w', (Instr.storeAt U u v).run P w = .ok () w' ∧ Models I e (H.set b (.rows R T TS oe re none)) Fr w' := by
  obtain ⟨hn, ⟨f0, u0, us, hs, ho, hr, g1, g2, ⟨g3, ⟨g0, g3a, g3b⟩, g3c⟩, ⟨g4, g4b⟩, g4', g5, g6, g7, rfl⟩, hs1, hput⟩ := hM.take hb
  obtain ⟨hu1, _⟩ := h_val hu g1 g3a
  rw [g3b] at hu1
  obtain ⟨hv1, hv2⟩ := h_val hv g1 g2
  have hlen : us.length = R.len := by rw [g6.length, R.rows_length]
  have hjl : j < us.length := by omega
  have hvj : us[j]? = some v := by
    rw [List.getElem?_eq_getElem hjl]
    congr 1
    rw [hv1]
    symm
    show rowRef R.sz (us.getD j undef) [] = us[j]
    rw [List.getD, List.getElem?_eq_getElem hjl]; rfl
  obtain ⟨hso, hsr⟩ := (sub_join g7).1 hs1
  have hvc : v.cells.toList = [v] := by
    cases v <;> first | rfl | simp [Value.oneCell'] at hv2
  obtain ⟨_, ⟨rfl, h0, _⟩ | ⟨g, cap, rest, rfl, _⟩⟩ := id g5
  · omega
  · have hu1 : u = .pointer (some ⟨g, j * 1 + 0, none⟩) := hu1
    subst hu1
    obtain ⟨w', h', p1, p2, p3⟩ := store_ok (P := P) (off := j * 1 + 0) g5 hso (T := U) (v := v) (by rw [hvc]; exact hU) (by rw [hvc]; intro x hx; simp only [List.mem_singleton] at hx; subst hx; exact hv2) (by rw [hvc]; simp; omega)
    rw [hvc] at p2
    have hus : hs.take (j * 1 + 0) ++ [v] ++ hs.drop (j * 1 + 0 + [v].length) = us := by
      refine List.ext_getElem? fun k => ?_
      simp only [Nat.mul_one, Nat.add_zero, List.length_singleton]
      rcases Nat.lt_trichotomy k j with h | h | h
      · rw [List.getElem?_append_left (by simp; omega), List.getElem?_append_left (by simp; omega), List.getElem?_take_of_lt h]
        exact g4b k (by omega)
      · subst h
        rw [List.getElem?_append_left (by simp; omega), List.getElem?_append_right (by simp; omega)]
        simp only [List.length_take]
        rw [show k - min k hs.length = 0 by omega, hvj]
        rfl
      · rw [List.getElem?_append_right (by simp; omega), List.getElem?_drop]
        rw [← g4b k (by omega)]
        congr 1
        simp; omega
    rw [hus] at p2
    refine ⟨w', by simp only [Instr.storeAt, Instr.sureAddr, Sem.run_bind, Sem.run_pure, Result.andThen_ok, p1], hput (hn' := join h' hr) (Le.refl e) (fun _ _ => rfl) ⟨f0, _, us, us, h', hr, g1, g2, ⟨g3, ⟨g0, g3a, g3b⟩, g3c⟩, rfl, ?_, ?_, g6, p3.disj hsr g7, rfl⟩ (p3.left hsr g7)⟩
    · intro x hx
      obtain ⟨k, hk, rfl⟩ := List.getElem_of_mem hx
      by_cases hkj : k = j
      · subst hkj
        rw [List.getElem?_eq_getElem hk, Option.some.injEq] at hvj
        rw [hvj]; exact hv2
      · have := g4b k hkj
        rw [List.getElem?_eq_getElem hk] at this
        exact g4' _ (List.mem_of_getElem? this)
    · rw [← g4]; exact p2
end
end Go.Sym
namespace Go.Sym
open Go
variable {P : Program} {w : World} {τ : Type} {I : Inv τ}
theorem RowsOk.toF {T sz : Nat} : ∀ {us : List Value} {rs : List (Nat × List Value)} {h : PH}, RowsOk T sz us rs h → ∃ hf : Nat → PH, (∀ i v r, us[i]? = some v → rs[i]? = some r → RowOk v r.1 sz T r.2 (hf i)) ∧
    (∀ i j, i ≠ j → Disj (hf i) (hf j)) ∧ (∀ i k o, hf i k = some o → h k = some o)
  | [], [], h, _ => ⟨fun _ => emp, by simp, fun _ _ _ => emp_disj _, fun _ _ _ h => by simp [emp] at h⟩
  | [], _ :: _, _, h => h.elim
  | _ :: _, [], _, h => h.elim
  | u :: us, r0 :: rs, _, ⟨h1, h2, ho, hr, hd, e⟩ => by
    subst e
    obtain ⟨hf, a1, a2, a3⟩ := RowsOk.toF hr
    have hd' : ∀ i, Disj h1 (hf i) := fun i k => by
      cases hk : hf i k with
      | none => exact .inr rfl
      | some o =>
        rcases hd k with h | h
        · exact .inl h
        · rw [a3 i k o hk] at h; cases h
    refine ⟨fun i => match i with
      | 0 => h1
      | i + 1 => hf i, fun i v r hv hr' => ?_, fun i j hij => ?_, fun i k o hk => ?_⟩
    · cases i with
      | zero => simp only [List.getElem?_cons_zero, Option.some.injEq] at hv hr'; subst hv; subst hr'; exact ho
      | succ i => exact a1 i v r (by simpa using hv) (by simpa using hr')
    · cases i with
      | zero => cases j with
        | zero => exact absurd rfl hij
        | succ j => exact hd' j
      | succ i => cases j with
        | zero => exact (hd' i).symm
        | succ j => exact a2 i j (by omega)
    · cases i with
      | zero => exact join_sub_left hk
      | succ i => exact join_sub_right hd (a3 i k o hk)
theorem RowsOk.ofF {T sz : Nat} : ∀ {us : List Value} {rs : List (Nat × List Value)} {hf : Nat → PH}, us.length = rs.length → (∀ i v r, us[i]? = some v → rs[i]? = some r → RowOk v r.1 sz T r.2 (hf i)) →
    (∀ i j, i ≠ j → i < us.length → j < us.length → Disj (hf i) (hf j)) → ∃ h, RowsOk T sz us rs h ∧ ∀ k o, h k = some o → ∃ i, i < us.length ∧ hf i k = some o
  | [], [], _, _, _, _ => ⟨emp, rfl, fun k o h => by simp [emp] at h⟩
  | [], _ :: _, _, hl, _, _ => by simp at hl
  | _ :: _, [], _, hl, _, _ => by simp at hl
  | u :: us, r :: rs, hf, hl, h1, h2 => by
    obtain ⟨h, a1, a2⟩ := RowsOk.ofF (hf := fun i => hf (i + 1)) (us := us) (rs := rs) (by simpa using hl) (fun i v r hv hr => h1 (i + 1) v r (by simpa using hv) (by simpa using hr))
      (fun i j hij hi hj => h2 (i + 1) (j + 1) (by omega) (by simpa using hi) (by simpa using hj))
    have hd : Disj (hf 0) h := fun k => by
      cases hk : h k with
      | none => exact .inr rfl
      | some o =>
        obtain ⟨i, hi, hk'⟩ := a2 k o hk
        rcases h2 0 (i + 1) (by omega) (by simp) (by simpa using hi) k with h' | h'
        · exact .inl h'
        · rw [hk'] at h'; cases h'
    refine ⟨join (hf 0) h, ⟨hf 0, h, h1 0 u r rfl rfl, a1, hd, rfl⟩, fun k o hk => ?_⟩
    rcases join_some hk with h' | h'
    · exact ⟨0, by simp, h'⟩
    · obtain ⟨i, hi, h''⟩ := a2 k o h'
      exact ⟨i + 1, by simpa using hi, h''⟩
theorem LimOk.toF {T sz : Nat} {g : List Nat → Value} : ∀ {us : List Value} {rs : List (Nat ⊕ (Nat × List Value))} {h : PH}, LimOk T sz g us rs h → ∃ hf : Nat → PH, (∀ (i : Nat) (v : Value) (r : Nat × List Value), us[i]? = some v → rs[i]? = some (Sum.inr r) → RowOk v r.1 sz T r.2 (hf i)) ∧
    (∀ (i : Nat) (v : Value) (j : Nat), us[i]? = some v → rs[i]? = some (Sum.inl j) → v = g [1, j]) ∧ (∀ i j, i ≠ j → Disj (hf i) (hf j)) ∧ (∀ i k o, hf i k = some o → h k = some o)
  | [], [], h, _ => ⟨fun _ => emp, by simp, by simp, fun _ _ _ => emp_disj _, fun _ _ _ h => by simp [emp] at h⟩
  | [], _ :: _, _, h => h.elim
  | _ :: _, [], _, h => h.elim
  | u :: us, .inl j0 :: rs, h, ⟨h1, h2⟩ => by
    obtain ⟨hf, a1, a0, a2, a3⟩ := LimOk.toF h2
    refine ⟨fun i => match i with
      | 0 => emp
      | i + 1 => hf i, fun i v r hv hr' => ?_, fun i v j hv hr' => ?_, fun i j hij => ?_, fun i k o hk => ?_⟩
    · cases i with
      | zero => simp at hr'
      | succ i => exact a1 i v r (by simpa using hv) (by simpa using hr')
    · cases i with
      | zero => simp only [List.getElem?_cons_zero, Option.some.injEq, Sum.inl.injEq] at hv hr'; subst hv; subst hr'; exact h1
      | succ i => exact a0 i v j (by simpa using hv) (by simpa using hr')
    · cases i with
      | zero => exact emp_disj _
      | succ i => cases j with
        | zero => exact disj_emp _
        | succ j => exact a2 i j (by omega)
    · cases i with
      | zero => simp [emp] at hk
      | succ i => exact a3 i k o hk
  | u :: us, .inr r0 :: rs, _, ⟨h1, h2, ho, hr, hd, e⟩ => by
    subst e
    obtain ⟨hf, a1, a0, a2, a3⟩ := LimOk.toF hr
    have hd' : ∀ i, Disj h1 (hf i) := fun i k => by
      cases hk : hf i k with
      | none => exact .inr rfl
      | some o =>
        rcases hd k with h | h
        · exact .inl h
        · rw [a3 i k o hk] at h; cases h
    refine ⟨fun i => match i with
      | 0 => h1
      | i + 1 => hf i, fun i v r hv hr' => ?_, fun i v j hv hr' => ?_, fun i j hij => ?_, fun i k o hk => ?_⟩
    · cases i with
      | zero => simp only [List.getElem?_cons_zero, Option.some.injEq, Sum.inr.injEq] at hv hr'; subst hv; subst hr'; exact ho
      | succ i => exact a1 i v r (by simpa using hv) (by simpa using hr')
    · cases i with
      | zero => simp at hr'
      | succ i => exact a0 i v j (by simpa using hv) (by simpa using hr')
    · cases i with
      | zero => cases j with
        | zero => exact absurd rfl hij
        | succ j => exact hd' j
      | succ i => cases j with
        | zero => exact (hd' i).symm
        | succ j => exact a2 i j (by omega)
    · cases i with
      | zero => exact join_sub_left hk
      | succ i => exact join_sub_right hd (a3 i k o hk)
def ixAt {α : Type} (L : List (Nat ⊕ α)) (lo p : Nat) : Option Nat :=
  match Nat.blt p lo with
  | true => some p
  | false => match L[p - lo]? with
    | none => some p
    | some x => match x with
      | .inl j => some j
      | .inr _ => none
def mrgAt {α : Type} (l : List α) (d : α) (lo : Nat) (L : List (Nat ⊕ α)) (p : Nat) : α :=
  match Nat.blt p lo with
  | true => l.getD p d
  | false => match L[p - lo]? with
    | none => l.getD p d
    | some x => match x with
      | .inl j => l.getD j d
      | .inr y => y
def mrg {α : Type} (l : List α) (d : α) (lo : Nat) (L : List (Nat ⊕ α)) : List α := (List.range l.length).map (mrgAt l d lo L)
theorem mrg_length {α : Type} (l : List α) (d : α) (lo : Nat) (L : List (Nat ⊕ α)) : (mrg l d lo L).length = l.length := by simp [mrg]
theorem ixAt_map {α β : Type} (f : α → β) (L : List (Nat ⊕ α)) (lo p : Nat) : ixAt (L.map (Sum.map id f)) lo p = ixAt L lo p := by
  unfold ixAt
  split
  · rfl
  · rw [List.getElem?_map]
    cases L[p - lo]? with
    | none => rfl
    | some x => cases x <;> rfl
theorem mrg_ok {α β : Type} (l : List α) (d : α) (lo : Nat) (L : List (Nat ⊕ α)) (f : α → β) {p : Nat} (hp : p < l.length) :
    (∀ j, ixAt L lo p = some j → j < l.length → ((mrg l d lo L).map f)[p]? = (l.map f)[j]?) ∧ (∀ r, lo ≤ p → (L.map (Sum.map id f))[p - lo]? = some (.inr r) → ((mrg l d lo L).map f)[p]? = some r) := by
  have h0 : ((mrg l d lo L).map f)[p]? = some (f (mrgAt l d lo L p)) := by simp [mrg, hp]
  rw [h0]
  refine ⟨fun j hj hlt => ?_, fun r hle hr => ?_⟩
  · unfold ixAt at hj
    unfold mrgAt
    split at hj
    · rename_i hb
      simp only [Option.some.injEq] at hj; subst hj
      simp [hb, List.getD, hp]
    · rename_i hb
      split at hj
      · rename_i hn
        simp only [Option.some.injEq] at hj; subst hj
        simp [hb, hn, List.getD, hp]
      · rename_i x hx
        cases x with
        | inl j' => simp only [Option.some.injEq] at hj; subst hj; simp [hb, hx, List.getD, hlt]
        | inr y => cases hj
  · have hb : Nat.blt p lo = false := by rw [← Bool.not_eq_true, Nat.blt_eq]; omega
    rw [List.getElem?_map] at hr
    unfold mrgAt
    cases hx : L[p - lo]? with
    | none => rw [hx] at hr; cases hr
    | some x =>
      rw [hx] at hr
      cases x with
      | inl j => simp at hr
      | inr y =>
        simp only [Option.map_some, Sum.map_inr, Option.some.injEq, Sum.inr.injEq] at hr
        subst hr
        simp [hb]
theorem Lim.rows_i (k : IntKind) (l : List (Nat ⊕ List Int)) : (Lim.i k l).rows = l.map (Sum.map id fun xs => (xs.length, xs.map (Value.int k))) := by
  simp only [Lim.rows]
  refine List.map_congr_left fun x _ => ?_
  cases x <;> rfl
theorem Lim.rows_c (l : List (Nat ⊕ List C4)) : (Lim.c l).rows = l.map (Sum.map id fun xs => (xs.length, cvals xs)) := by
  simp only [Lim.rows]
  refine List.map_congr_left fun x _ => ?_
  cases x <;> rfl
def Lim.ix (L : Lim) (lo p : Nat) : Option Nat :=
  match L with
  | .i _ l => ixAt l lo p
  | .c l => ixAt l lo p
theorem Lim.ix_rows (L : Lim) (lo p : Nat) : ixAt L.rows lo p = L.ix lo p := by
  cases L with
  | i k l => rw [Lim.rows_i, ixAt_map]; rfl
  | c l => rw [Lim.rows_c, ixAt_map]; rfl
def Lim.len (L : Lim) : Nat :=
  match L with
  | .i _ l => l.length
  | .c l => l.length
theorem Lim.len_rows (L : Lim) : L.rows.length = L.len := by
  cases L with
  | i k l => rw [Lim.rows_i, List.length_map]; rfl
  | c l => rw [Lim.rows_c, List.length_map]; rfl
def Rws.merge (R : Rws) (lo : Nat) (L : Lim) : Option Rws :=
  match R with
  | .i k l => match L with
    | .i k' l' => match decide (k = k') with
      | true => some (.i k (mrg l [] lo l'))
      | false => none
    | _ => none
  | .c l => match L with
    | .c l' => some (.c (mrg l [] lo l'))
    | _ => none
theorem Rws.merge_ok {R R' : Rws} {lo : Nat} {L : Lim} (h : R.merge lo L = some R') : R'.sz = R.sz ∧ L.sz = R.sz ∧ R'.len = R.len ∧ ∀ p, p < R.len →
    (∀ j, L.ix lo p = some j → j < R.len → R'.rows[p]? = R.rows[j]?) ∧ (∀ r, lo ≤ p → L.rows[p - lo]? = some (.inr r) → R'.rows[p]? = some r) := by
  cases R with
  | i k l =>
    cases L with
    | i k' l' =>
      simp only [Rws.merge] at h
      split at h
      · rename_i hk
        have hk := of_decide_eq_true hk
        subst hk
        simp only [Option.some.injEq] at h
        subst h
        refine ⟨rfl, rfl, by simp [Rws.len, mrg_length], fun p hp => ?_⟩
        rw [Lim.rows_i]
        exact mrg_ok l [] lo l' _ hp
      · cases h
    | c l' => simp [Rws.merge] at h
  | c l =>
    cases L with
    | c l' =>
      simp only [Rws.merge, Option.some.injEq] at h
      subst h
      refine ⟨rfl, rfl, by simp [Rws.len, mrg_length], fun p hp => ?_⟩
      rw [Lim.rows_c]
      exact mrg_ok l [] lo l' _ hp
    | i k' l' => simp [Rws.merge] at h
def fitsB (N lo : Nat) (L : Lim) : Bool := (List.range N).all fun p => match L.ix lo p with
  | none => true
  | some j => Nat.blt j N && (List.range N).all fun p' => Nat.beq p p' || (match L.ix lo p' with
    | none => true
    | some j' => !(Nat.beq j j'))
theorem fitsB_ok {N lo : Nat} {L : Lim} (h : fitsB N lo L = true) {p j : Nat} (hp : p < N) (hj : L.ix lo p = some j) : j < N ∧ ∀ p' j', p' < N → p ≠ p' → L.ix lo p' = some j' → j ≠ j' := by
  simp only [fitsB, List.all_eq_true, List.mem_range] at h
  have h1 := h p hp
  rw [hj] at h1
  simp only [Bool.and_eq_true, Nat.blt_eq, List.all_eq_true, List.mem_range] at h1
  refine ⟨h1.1, fun p' j' hp' hne hj' e => ?_⟩
  have h2 := h1.2 p' hp'
  rw [hj', Bool.or_eq_true, Nat.beq_eq] at h2
  rcases h2 with h2 | h2
  · exact hne h2
  · subst e
    have : Nat.beq j j = true := by rw [Nat.beq_eq]
    simp [this] at h2
theorem fitsB_of {N lo : Nat} {L : Lim} (h : ∀ p j, p < N → L.ix lo p = some j → j < N ∧ ∀ p' j', p' < N → p ≠ p' → L.ix lo p' = some j' → j ≠ j') : fitsB N lo L = true := by
  simp only [fitsB, List.all_eq_true, List.mem_range]
  intro p hp
  cases hj : L.ix lo p with
  | none => rfl
  | some j =>
    obtain ⟨h1, h2⟩ := h p j hp hj
    simp only [Bool.and_eq_true, Nat.blt_eq, List.all_eq_true, List.mem_range, Bool.or_eq_true, Nat.beq_eq]
    refine ⟨h1, fun p' hp' => ?_⟩
    by_cases hpp : p = p'
    · exact .inl hpp
    · right
      cases hj' : L.ix lo p' with
      | none => rfl
      | some j' =>
        have := h2 p' j' hp' hpp hj'
        have h3 : Nat.beq j j' = false := by rw [← Bool.not_eq_true, Nat.beq_eq]; exact this
        simp [h3]
theorem spl_get {α : Type} (hs ul : List α) (lo p : Nat) (h : lo + ul.length ≤ hs.length) (hp : p < hs.length) :
    (hs.take lo ++ (ul ++ hs.drop (lo + ul.length)))[p]? = if p < lo then hs[p]? else if p - lo < ul.length then ul[p - lo]? else hs[p]? := by
  by_cases h1 : p < lo
  · rw [if_pos h1, List.getElem?_append_left (by simp; omega), List.getElem?_take_of_lt h1]
  · rw [if_neg h1, List.getElem?_append_right (by simp; omega)]
    have e : p - (List.take lo hs).length = p - lo := by simp; omega
    rw [e]
    by_cases h2 : p - lo < ul.length
    · rw [if_pos h2, List.getElem?_append_left h2]
    · rw [if_neg h2, List.getElem?_append_right (by omega), List.getElem?_drop]
      congr 1; omega
section
variable {e : Env} {H : List (SB τ)} {Fr : PH} {t ty TS : TypeId} {i : TypeInfo} {z : Value}
theorem copyLim_ok {D D' : TypeId} (hD : P.underlying D = some (.slice TS)) (hsz : szT P TS = some 1) (hM : Models I e H Fr w) {b lb oe re le lo len : Nat} {R R' : Rws} {L : Lim} {T : TypeId}
    (hb : H[b]? = some (.rows R T TS oe re none)) (hl : H[lb]? = some (.limbo b re L T TS le)) (hbl : b ≠ lb) {r : List Nat} (hpart : partH R.len r = some (lo, len)) (hfit : lo + len ≤ R.len) (hlen : L.len ≤ len) (h0 : 0 < R.len)
    (hR : R.merge lo L = some R') (hfits : fitsB R.len lo L = true) {u v : Value} (hu : Den e (.h b (oe :: 0 :: r)) u) (hv : Den e (.h lb [le, 0]) v) :
    ∃ r' w' e', (Builtin.copy_ #[D, D'] ty #[u, v]).run P w = .ok r' w' ∧ Le e e' ∧ Models I e' ((H.set b (.rows R' T TS oe (re + 1) none)).set lb .gone) Fr w' ∧ r' = .int .i64 (L.len : Nat) := by
  obtain ⟨hn, hm, ⟨f, u0, us, hs, ho, hr, g1, g2, ⟨g3, ⟨g0, g3a, g3b⟩, g3c⟩, g4, g4', g5, g6, g7, rfl⟩, ⟨fl, ul, ls, hlo, hlr, fb, gb, k1, k2, k3, ka, kc, k4', k5, k6, k7, rfl⟩, hs1, hs2, hdis, hput⟩ := hM.take2 hb hl hbl
  have g4 : hs = us := g4
  subst g4
  rw [g1] at ka; cases ka
  rw [g2] at kc; cases kc
  obtain ⟨hu1, _⟩ := h_val hu g1 g3a
  rw [g3b] at hu1
  obtain ⟨hv1, _⟩ := h_val hv k1 k2
  have hv1 : v = ul := hv1
  subst hv1
  have hN : hs.length = R.len := by rw [g6.length, R.rows_length]
  have hLl : ls.length = L.len := by rw [k6.length, L.len_rows]
  obtain ⟨hso, hsr⟩ := (sub_join g7).1 hs1
  obtain ⟨hsl, hslr⟩ := (sub_join k7).1 hs2
  have hsrc : SrcIn w v ls.length 1 ls := by
    obtain ⟨q1, q2⟩ := k5
    refine ⟨q1, fun x hx => k4' x hx, ?_⟩
    rcases q2 with ⟨q2, q3, _⟩ | ⟨g, cap, rest, q2, rfl, _, _, q5⟩
    · exact .inl ⟨q2, q3⟩
    · refine .inr ⟨_, _, q2, fun j x hj => ?_⟩
      rw [add_none, cell_at (hsl g _ (single_self _ _))]
      have hj2 := (List.getElem?_eq_some_iff.1 hj).1
      simp [List.getElem?_append, hj2]
      rw [List.getElem?_eq_getElem hj2] at hj
      simpa using hj
  obtain ⟨e1, e2, e3, e4⟩ := Rws.merge_ok hR
  obtain ⟨_, ⟨rfl, h00, _⟩ | ⟨g, cap, rest, rfl, _, q7, _⟩⟩ := id g5
  · omega
  have hdst : ∃ bo dc, u = .slice (some ⟨g, bo, none⟩) len dc ∧ (0 < len → bo = lo * 1) := by
    unfold partH at hpart
    split at hpart
    · simp only [Option.some.injEq, Prod.mk.injEq] at hpart
      obtain ⟨rfl, rfl⟩ := hpart
      rw [← hN]
      exact ⟨0, cap, hu1, fun _ => by simp⟩
    · simp only [Option.some.injEq, Prod.mk.injEq] at hpart
      obtain ⟨rfl, rfl⟩ := hpart
      refine ⟨_, _, hu1, fun hl => ?_⟩
      rename_i lo' len' zz
      have hne : Nat.beq cap lo' = false := by rw [← Bool.not_eq_true, Nat.beq_eq]; omega
      rw [hne]; rfl
    · cases hpart
  obtain ⟨bo, dc, hd1, hd2⟩ := hdst
  obtain ⟨w', ho', p1, p2, p3⟩ := copy_ok (P := P) (D' := D') (ty := ty) hD hsz g5 hso hd1 hd2 (by rw [hN]; exact hfit) hsrc
  have hmin : Nat.min ls.length len = ls.length := Nat.min_eq_left (by omega)
  rw [hmin] at p1 p2
  simp only [Nat.mul_one, List.take_length] at p2
  generalize hnew : hs.take lo ++ (ls ++ hs.drop (lo + ls.length)) = hs' at p2
  have hN' : hs'.length = hs.length := by have := p2.1; omega
  have hget : ∀ p, p < hs.length → hs'[p]? = if p < lo then hs[p]? else if p - lo < ls.length then ls[p - lo]? else hs[p]? := fun p hp => by
    rw [← hnew]; exact spl_get hs ls lo p (by omega) hp
  obtain ⟨hf, a1, a2, a3⟩ := g6.toF
  obtain ⟨lf, b1, b0, b2, b3⟩ := k6.toF
  obtain ⟨hdis1, hdis2⟩ := disj_join.1 hdis.symm
  -- a row of before and one of the headers' own
  have hdfl : ∀ i j, Disj (hf i) (lf j) := fun i j k => by
    cases hk : hf i k with
    | none => exact .inl rfl
    | some o =>
      right
      cases hk' : lf j k with
      | none => rfl
      | some o' =>
        rcases hdis k with h | h
        · rw [join_none] at h; rw [a3 i k o hk] at h; cases h.2
        · rw [join_none] at h; rw [b3 j k o' hk'] at h; cases h.2
  have hall : ∀ p, p < hs.length → (∀ j, L.ix lo p = some j → j < hs.length ∧ hs'[p]? = hs[j]?) ∧ (L.ix lo p = none → ∃ r, lo ≤ p ∧ L.rows[p - lo]? = some (.inr r) ∧ hs'[p]? = ls[p - lo]? ∧ p - lo < ls.length) := fun p hp => by
    have hix := L.ix_rows lo p
    refine ⟨fun j hj => ?_, fun hj => ?_⟩
    · have hjN := (fitsB_ok hfits (by omega) hj).1
      refine ⟨by omega, ?_⟩
      rw [hget p hp]
      rw [hj] at hix
      unfold ixAt at hix
      split at hix
      · rename_i hb
        rw [Nat.blt_eq] at hb
        simp only [Option.some.injEq] at hix
        rw [if_pos hb, hix]
      · rename_i hb
        have hb : ¬ p < lo := by rw [← Nat.blt_eq, hb]; simp
        rw [if_neg hb]
        split at hix
        · rename_i hn
          have : ¬ p - lo < ls.length := by
            rw [k6.length]
            have := List.getElem?_eq_none_iff.1 hn
            omega
          simp only [Option.some.injEq] at hix
          rw [if_neg this, hix]
        · rename_i x hx
          cases x with
          | inr y => cases hix
          | inl j' =>
            simp only [Option.some.injEq] at hix
            subst hix
            have hlt : p - lo < ls.length := by rw [k6.length]; exact (List.getElem?_eq_some_iff.1 hx).1
            rw [if_pos hlt]
            have := b0 (p - lo) ls[p - lo] j' (List.getElem?_eq_getElem hlt) hx
            rw [List.getElem?_eq_getElem hlt, this]
            have hjl : j' < hs.length := by omega
            show some (rowRef R.sz (hs.getD j' undef) []) = hs[j']?
            rw [List.getD, List.getElem?_eq_getElem hjl]; rfl
    · rw [hj] at hix
      unfold ixAt at hix
      split at hix
      · cases hix
      · rename_i hb
        have hb : ¬ p < lo := by rw [← Nat.blt_eq, hb]; simp
        split at hix
        · cases hix
        · rename_i x hx
          cases x with
          | inl j' => cases hix
          | inr y =>
            have hlt : p - lo < ls.length := by rw [k6.length]; exact (List.getElem?_eq_some_iff.1 hx).1
            refine ⟨y, by omega, hx, ?_, hlt⟩
            rw [hget p hp, if_neg hb, if_pos hlt]
  obtain ⟨hr', c1, c2⟩ := RowsOk.ofF (T := T) (sz := R.sz) (us := hs') (rs := R'.rows) (hf := fun p => match L.ix lo p with
    | some j => hf j
    | none => lf (p - lo)) (by rw [R'.rows_length, e3]; omega) (fun p x r hx hr => by
      have hp : p < hs.length := by have := (List.getElem?_eq_some_iff.1 hx).1; omega
      obtain ⟨d1, d2⟩ := hall p hp
      obtain ⟨d3, d4⟩ := e4 p (by omega)
      cases hj : L.ix lo p with
      | some j =>
        obtain ⟨d5, d6⟩ := d1 j hj
        rw [d6] at hx
        rw [d3 j hj (by omega)] at hr
        exact a1 j x r hx hr
      | none =>
        obtain ⟨r1, d5, d6, d7, d8⟩ := d2 hj
        rw [d4 r1 d5 d6] at hr
        simp only [Option.some.injEq] at hr
        subst hr
        rw [d7] at hx
        have := b1 (p - lo) x r1 hx d6
        rw [e2] at this
        exact this) (fun p p' hpp hp hp' => by
      have hp : p < R.len := by omega
      have hp' : p' < R.len := by omega
      cases hj : L.ix lo p with
      | some j =>
        cases hj' : L.ix lo p' with
        | some j' => exact a2 j j' ((fitsB_ok hfits hp hj).2 p' j' hp' hpp hj')
        | none => exact hdfl j (p' - lo)
      | none =>
        cases hj' : L.ix lo p' with
        | some j' => exact (hdfl j' (p - lo)).symm
        | none =>
          obtain ⟨_, d5, _⟩ := (hall p (by omega)).2 hj
          obtain ⟨_, d5', _⟩ := (hall p' (by omega)).2 hj'
          exact b2 (p - lo) (p' - lo) (by omega))
  have hc : ∀ k o, hr' k = some o → hr k = some o ∨ hlr k = some o := fun k o hk => by
    obtain ⟨p, hp, hk'⟩ := c2 k o hk
    cases hj : L.ix lo p with
    | some j => simp only [hj] at hk'; exact .inl (a3 j k o hk')
    | none => simp only [hj] at hk'; exact .inr (b3 _ k o hk')
  have hcn : ∀ k, hr' k ≠ none → hr k ≠ none ∨ hlr k ≠ none := fun k hk => by
    cases ho : hr' k with
    | none => exact absurd ho hk
    | some o => rcases hc k o ho with h | h <;> simp [h]
  have hsub' : Sub hr' w := fun k o hk => by
    rcases hc k o hk with h | h
    · exact hsr k o h
    · exact hslr k o h
  have hdis' : Disj ho hr' := fun k => by
    cases hk : hr' k with
    | none => exact .inr rfl
    | some o =>
      left
      rcases hc k o hk with h | h
      · rcases g7 k with h' | h'
        · exact h'
        · rw [h] at h'; cases h'
      · rcases hdis k with h' | h'
        · exact (join_none.1 h').1
        · rw [join_none] at h'; rw [h] at h'; cases h'.2
  have hle := le_up (k := re + 1) (g := rowsRef R'.sz (.slice (some ⟨g, 0, none⟩) hs.length cap) hs') g1 (g3c _ (Nat.lt_succ_self _))
  have ht2 := p3.left hsub' hdis'
  refine ⟨_, w', _, p1, hle, hput (hn' := join ho' hr') (hm' := emp) hle (fun k hk1 hk2 => ext_ne _ _ _ hk1)
    ⟨_, _, hs', hs', ho', hr', ext_self _ _ _, up_self _ _ _, ⟨by omega, ⟨g0, up_keep (g3c _ (Nat.lt_succ_self _)) _ _ g3a, g3b⟩, up_none fun j hj => g3c j (by omega)⟩, rfl, fun x hx => ?_, by rw [hN']; exact p2, by rw [e1]; exact c1, p3.disj hsub' hdis', rfl⟩ rfl (disj_emp _) ?_, by simp [goInt, hLl]⟩
  · rw [← hnew] at hx
    rcases List.mem_append.1 hx with hx | hx
    · exact g4' x (List.mem_of_mem_take hx)
    · rcases List.mem_append.1 hx with hx | hx
      · exact k4' x hx
      · exact g4' x (List.mem_of_mem_drop hx)
  · rw [join_emp']
    refine ⟨ht2.sub, fun k hk => ?_, fun k o hk hn => ht2.keep k o hk ?_, ht2.stay⟩
    · rcases ht2.own k hk with h | h
      · left
        intro hn
        rw [join_none, join_none, join_none] at hn
        apply h
        rw [join_none]
        refine ⟨hn.1.1, ?_⟩
        cases hq : hr' k with
        | none => rfl
        | some o =>
          rcases hcn k (by rw [hq]; simp) with h' | h'
          · exact absurd hn.1.2 h'
          · exact absurd hn.2.2 h'
      · exact .inr h
    · rw [join_none, join_none, join_none] at hn
      rw [join_none]
      refine ⟨hn.1.1, ?_⟩
      cases hq : hr' k with
      | none => rfl
      | some o =>
        rcases hcn k (by rw [hq]; simp) with h' | h'
        · exact absurd hn.1.2 h'
        · exact absurd hn.2.2 h'
end
end Go.Sym
namespace Go.Sym
open Go
variable {P : Program} {w : World} {τ : Type} {I : Inv τ}
def hasN : List Nat → Nat → Bool
  | [], _ => false
  | k :: r, n => match Nat.beq k n with
    | true => true
    | false => hasN r n
theorem get_set_out {α : Type} {l : List α} {b c : Nat} {x : α} (h : hasN [c] b = false) : (l.set c x)[b]? = l[b]? := by
  have : c ≠ b := fun e => by
    subst e
    have h2 : Nat.beq c c = true := by rw [Nat.beq_eq]
    simp [hasN, h2] at h
  exact List.getElem?_set_ne this
def oneH (x : SV) (H : List (SB τ)) : Option (Bool × Nat × Nat × Option Nat) :=
  match srcC x H 1 with
  | some (c, m, cn) => match cn with
    | .sv l => match l with
      | [y] => match hsel y with
        | some (d, q, sel, r) => match r with
          | [] => some (c && Nat.beq m 1, d, q, sel)
          | _ => none
        | none => none
      | _ => none
    | _ => none
  | none => none
theorem oneH_ok {e : Env} {H : List (SB τ)} {Fr : PH} {x : SV} {c : Bool} {d q : Nat} {sel : Option Nat} {v : Value} (hM : Models I e H Fr w) (h : oneH x H = some (c, d, q, sel)) (hc : c = true) (hx : Den e x v) :
    ∃ y, Den e (.h d (selP q sel [])) y ∧ SrcIn w v 1 1 [y] := by
  unfold oneH at h
  split at h
  · rename_i c1 m cn hs
    split at h
    · split at h
      · rename_i y
        split at h
        · rename_i d' q' sel' r hh
          split at h
          · simp only [Option.some.injEq, Prod.mk.injEq] at h
            obtain ⟨h1, rfl, rfl, rfl⟩ := h
            rw [hc, Bool.and_eq_true, Nat.beq_eq] at h1
            obtain ⟨h1, rfl⟩ := h1
            obtain ⟨vs, g1, g2⟩ := srcC_ok hM hs h1 hx
            simp only [Cn.den, DenL] at g1
            obtain ⟨u, r, rfl, g3, rfl⟩ := g1
            rw [hsel_ok hh] at g3
            exact ⟨u, g3, g2⟩
          · cases h
        · cases h
      · cases h
    · cases h
  · cases h
def growL (P : Program) (el : TypeId) (i : TypeInfo) (b ep j : Nat) (x : SV) (H : List (SB τ)) : LR τ :=
  match H[b]? with
  | some (.rows R T TS oe re pd) => match pd with
    | none => match Nat.beq T el && Nat.beq i.size R.sz, srcC x H i.size with
      | true, some (c, m, d) => match addC (asC P el (R.at j)) (asC P el d) with
        | some f => match R.setAt j f with
          | some R' => some (c && (Nat.beq re ep && (Nat.blt j R.len && decide (R.nAt j + m ≤ maxLen ∧ (R.nAt j + m) * i.bytes ≤ 140737488355328))), .h b [re + 1, 1, j], H.set b (.rows R' T TS oe (re + 1) (some j)), [b])
          | none => none
        | none => none
      | _, _ => none
    | some _ => none
  | _ => none
def ownAt (H : List (SB τ)) (d : Nat) (sel : Option Nat) : Option (Cn × Nat × TypeId × Nat × Nat) :=
  match sel with
  | none => match H[d]? with
    | some (.own cn n T sz q _) => some (cn, n, T, sz, q)
    | _ => none
  | some _ => none
theorem ownAt_ok {H : List (SB τ)} {d n sz q : Nat} {sel : Option Nat} {cn : Cn} {T : TypeId} (h : ownAt H d sel = some (cn, n, T, sz, q)) : sel = none ∧ ∃ nn, H[d]? = some (.own cn n T sz q nn) := by
  unfold ownAt at h
  split at h
  · split at h
    · rename_i hd
      simp only [Option.some.injEq, Prod.mk.injEq] at h
      obtain ⟨rfl, rfl, rfl, rfl, rfl⟩ := h
      exact ⟨rfl, _, hd⟩
    · cases h
  · cases h
def addL (P : Program) (el : TypeId) (i : TypeInfo) (b ep : Nat) (x : SV) (H : List (SB τ)) : LR τ :=
  match H[b]? with
  | some it => match oneH x H with
    | some (c, d, q, sel) => match it with
      | .rows R T TS oe re pd => match pd with
        | none => match ownAt H d sel with
          | some (cn, _, T', sz, q') => match Nat.beq TS el && (Nat.beq T' T && (Nat.beq sz R.sz && (Nat.beq i.size 1 && !(Nat.beq b d)))) with
            | true => match R.snoc (asC P T cn) with
              | some R' => some (c && (Nat.beq oe ep && (Nat.beq q' q && decide (R.len + 1 ≤ maxLen ∧ (R.len + 1) * i.bytes ≤ 140737488355328))), .h b [re + 1, 0], (H.set b (.rows R' T TS (re + 1) (re + 1) none)).set d .gone, [b, d])
              | none => none
            | false => none
          | none => none
        | some _ => none
      | .limbo b0 q0 L T TS le => match ownAt H d sel with
        | some (cn, _, T', sz, q') => match Nat.beq TS el && (Nat.beq T' T && (Nat.beq sz L.sz && (Nat.beq i.size 1 && !(Nat.beq b d)))) with
          | true => match L.snocR (asC P T cn) with
            | some L' => some (c && (Nat.beq le ep && (Nat.beq q' q && decide (L.len + 1 ≤ maxLen ∧ (L.len + 1) * i.bytes ≤ 140737488355328))), .h b [le + 1, 0], (H.set b (.limbo b0 q0 L' T TS (le + 1))).set d .gone, [b, d])
            | none => none
          | false => none
        | none => match sel with
          | some j => match Nat.beq TS el && (Nat.beq d b0 && Nat.beq i.size 1) with
            | true => some (c && (Nat.beq le ep && (Nat.beq q q0 && decide (L.len + 1 ≤ maxLen ∧ (L.len + 1) * i.bytes ≤ 140737488355328))), .h b [le + 1, 0], H.set b (.limbo b0 q0 (L.snocL j) T TS (le + 1)), [b])
            | false => none
          | none => none
      | _ => none
    | none => none
  | none => none
def appendL (P : Program) (t : TypeId) (s x : SV) (H : List (SB τ)) : LR τ :=
  match P.underlying t with
  | some (.slice el) => match P.info? el with
    | some i => match i.zero with
      | some z => match Nat.beq z.cells.size i.size, hsel s with
        | true, some (b, ep, sel, r) => match r with
          | [] => match sel with
            | some j => growL P el i b ep j x H
            | none => addL P el i b ep x H
          | _ => none
        | _, _ => none
      | none => none
    | none => none
  | _ => none
theorem appendL_ok {e : Env} {H H' : List (SB τ)} {Fr : PH} {t ty : TypeId} {x y z : SV} {c : Bool} {ws : List Nat} {u v : Value} (hM : Models I e H Fr w) (h : appendL P t x y H = some (c, z, H', ws)) (hc : c = true) (hx : Den e x u) (hy : Den e y v) :
    ∃ r w' e', (Builtin.append_ #[t, t] ty #[u, v]).run P w = .ok r w' ∧ Le e e' ∧ Models I e' H' Fr w' ∧ Den e' z r := by
  unfold appendL at h
  split at h
  · rename_i el hu
    split at h
    · rename_i i hi
      split at h
      · rename_i z0 hz
        split at h
        · rename_i b ep sel r hzs hs
          rw [Nat.beq_eq] at hzs
          rw [hsel_ok hs] at hx
          split at h
          · split at h
            · rename_i j
              unfold growL at h
              split at h
              · rename_i R T TS oe re pd hb
                split at h
                · split at h
                  · rename_i c1 m d hT hsrc
                    rw [Bool.and_eq_true, Nat.beq_eq, Nat.beq_eq] at hT
                    obtain ⟨rfl, hsz⟩ := hT
                    split at h
                    · rename_i f hadd
                      split at h
                      · rename_i R' hset
                        simp only [Option.some.injEq, Prod.mk.injEq] at h
                        obtain ⟨h1, rfl, rfl, _⟩ := h
                        rw [hc] at h1
                        simp only [Bool.and_eq_true, Nat.beq_eq, Nat.blt_eq, decide_eq_true_eq] at h1
                        obtain ⟨h1, rfl, h2, h3, h4⟩ := h1
                        obtain ⟨ns, g1, g2⟩ := srcC_ok hM hsrc h1 hy
                        exact growRow_ok hu hi hz hzs hM hb h2 hsz hadd hset hx g1 g2 h3 h4
                      · cases h
                    · cases h
                  · cases h
                · cases h
              · cases h
            · unfold addL at h
              split at h
              · rename_i it hb
                split at h
                · rename_i c1 d q sel hone
                  split at h
                  · rename_i R T TS oe re pd
                    split at h
                    · split at h
                      · rename_i cn n T' sz q' hown
                        split at h
                        · rename_i hT
                          simp only [Bool.and_eq_true, Nat.beq_eq, Bool.not_eq_true'] at hT
                          obtain ⟨rfl, rfl, hsz, hi1, hbd⟩ := hT
                          have hbd : b ≠ d := fun e => by rw [← Nat.beq_eq, hbd] at e; cases e
                          split at h
                          · rename_i R' hsn
                            simp only [Option.some.injEq, Prod.mk.injEq] at h
                            obtain ⟨h1, rfl, rfl, _⟩ := h
                            rw [hc] at h1
                            simp only [Bool.and_eq_true, Nat.beq_eq, decide_eq_true_eq] at h1
                            obtain ⟨h1, rfl, rfl, h3, h4⟩ := h1
                            obtain ⟨rfl, nn, hd⟩ := ownAt_ok hown
                            obtain ⟨yv, g1, g2⟩ := oneH_ok hM hone h1 hy
                            exact addRow_ok hu hi hz hi1 (by rw [hzs, hi1]) hM hb hd hbd hsz hsn hx g1 g2 h3 h4
                          · cases h
                        · cases h
                      · cases h
                    · cases h
                  · rename_i b0 q0 L T TS le
                    split at h
                    · rename_i cn n T' sz q' hown
                      split at h
                      · rename_i hT
                        simp only [Bool.and_eq_true, Nat.beq_eq, Bool.not_eq_true'] at hT
                        obtain ⟨rfl, rfl, hsz, hi1, hbd⟩ := hT
                        have hbd : b ≠ d := fun e => by rw [← Nat.beq_eq, hbd] at e; cases e
                        split at h
                        · rename_i R' hsn
                          simp only [Option.some.injEq, Prod.mk.injEq] at h
                          obtain ⟨h1, rfl, rfl, _⟩ := h
                          rw [hc] at h1
                          simp only [Bool.and_eq_true, Nat.beq_eq, decide_eq_true_eq] at h1
                          obtain ⟨h1, rfl, rfl, h3, h4⟩ := h1
                          obtain ⟨rfl, nn, hd⟩ := ownAt_ok hown
                          obtain ⟨yv, g1, g2⟩ := oneH_ok hM hone h1 hy
                          exact addLim_ok hu hi hz hi1 (by rw [hzs, hi1]) hM hb hd hbd hsz hsn hx g1 g2 (by rw [L.len_rows]; exact h3) (by rw [L.len_rows]; exact h4)
                        · cases h
                      · cases h
                    · split at h
                      · rename_i j
                        split at h
                        · rename_i hT
                          simp only [Bool.and_eq_true, Nat.beq_eq] at hT
                          obtain ⟨rfl, rfl, hi1⟩ := hT
                          simp only [Option.some.injEq, Prod.mk.injEq] at h
                          obtain ⟨h1, rfl, rfl, _⟩ := h
                          rw [hc] at h1
                          simp only [Bool.and_eq_true, Nat.beq_eq, decide_eq_true_eq] at h1
                          obtain ⟨h1, rfl, rfl, h3, h4⟩ := h1
                          obtain ⟨yv, g1, g2⟩ := oneH_ok hM hone h1 hy
                          exact addHdr_ok hu hi hz hi1 (by rw [hzs, hi1]) hM hb hx g1 g2 (by rw [L.len_rows]; exact h3) (by rw [L.len_rows]; exact h4)
                        · cases h
                      · cases h
                  · cases h
                · cases h
              · cases h
          · cases h
        · cases h
      · cases h
    · cases h
  · cases h
theorem growL_keeps {el : TypeId} {i : TypeInfo} {b ep j : Nat} {x z : SV} {H H' : List (SB τ)} {c : Bool} {ws : List Nat} {k : Nat} (h : growL P el i b ep j x H = some (c, z, H', ws)) (hw : hasN ws k = false) : H'[k]? = H[k]? ∧ H.length ≤ H'.length := by
  unfold growL at h
  split at h
  · split at h
    · split at h
      · split at h
        · split at h
          · simp only [Option.some.injEq, Prod.mk.injEq] at h
            obtain ⟨_, _, rfl, rfl⟩ := h
            exact ⟨get_set_out hw, by simp⟩
          · cases h
        · cases h
      · cases h
    · cases h
  · cases h
theorem get_set_out2 {α : Type} {l : List α} {b c k : Nat} {x y : α} (h : hasN [b, c] k = false) : ((l.set b x).set c y)[k]? = l[k]? := by
  have h1 : hasN [b] k = false ∧ hasN [c] k = false := by
    simp only [hasN] at h ⊢
    split at h
    · cases h
    · rename_i hb
      simp only [hb]
      exact ⟨trivial, h⟩
  rw [get_set_out h1.2, get_set_out h1.1]
theorem addL_keeps {el : TypeId} {i : TypeInfo} {b ep : Nat} {x z : SV} {H H' : List (SB τ)} {c : Bool} {ws : List Nat} {k : Nat} (h : addL P el i b ep x H = some (c, z, H', ws)) (hw : hasN ws k = false) : H'[k]? = H[k]? ∧ H.length ≤ H'.length := by
  unfold addL at h
  split at h
  · split at h
    · split at h
      · split at h
        · split at h
          · split at h
            · split at h
              · simp only [Option.some.injEq, Prod.mk.injEq] at h
                obtain ⟨_, _, rfl, rfl⟩ := h
                exact ⟨get_set_out2 hw, by simp⟩
              · cases h
            · cases h
          · cases h
        · cases h
      · split at h
        · split at h
          · split at h
            · simp only [Option.some.injEq, Prod.mk.injEq] at h
              obtain ⟨_, _, rfl, rfl⟩ := h
              exact ⟨get_set_out2 hw, by simp⟩
            · cases h
          · cases h
        · split at h
          · split at h
            · simp only [Option.some.injEq, Prod.mk.injEq] at h
              obtain ⟨_, _, rfl, rfl⟩ := h
              exact ⟨get_set_out hw, by simp⟩
            · cases h
          · cases h
      · cases h
    · cases h
  · cases h
theorem appendL_keeps {t : TypeId} {s x z : SV} {H H' : List (SB τ)} {c : Bool} {ws : List Nat} {k : Nat} (h : appendL P t s x H = some (c, z, H', ws)) (hw : hasN ws k = false) : H'[k]? = H[k]? ∧ H.length ≤ H'.length := by
  unfold appendL at h
  split at h
  · split at h
    · split at h
      · split at h
        · split at h
          · split at h
            · exact growL_keeps h hw
            · exact addL_keeps h hw
          · cases h
        · cases h
      · cases h
    · cases h
  · cases h
def putL (P : Program) (T : TypeId) (a x : SV) (H : List (SB τ)) : LR τ :=
  match hsel a with
  | some (b, ep, sel, r) => match sel with
    | none => match r with
      | [i, o] => match hsel x with
        | some (d, q, sel', r') => match sel' with
          | some j => match r' with
            | [] => match H[b]? with
              | some (.rows R RT TS oe re pd) => match pd with
                | some k => match szT P T, Nat.beq d b && Nat.beq o 0 with
                  | some 1, true => some (Nat.beq oe ep && (Nat.beq q re && (Nat.beq i k && (Nat.beq j k && Nat.blt k R.len))), .v undef, H.set b (.rows R RT TS oe re none), [b])
                  | _, _ => none
                | none => none
              | _ => none
            | _ => none
          | none => none
        | none => none
      | _ => none
    | some _ => none
  | none => none
theorem putL_ok {e : Env} {H H' : List (SB τ)} {Fr : PH} {T : TypeId} {x y z : SV} {c : Bool} {ws : List Nat} {u v : Value} (hM : Models I e H Fr w) (h : putL P T x y H = some (c, z, H', ws)) (hc : c = true) (hx : Den e x u) (hy : Den e y v) :
    ∃ w', (Instr.storeAt T u v).run P w = .ok () w' ∧ Models I e H' Fr w' ∧ z = .v undef := by
  unfold putL at h
  split at h
  · rename_i b ep sel r hs
    split at h
    · split at h
      · rename_i i o
        split at h
        · rename_i d q sel' r' hs'
          split at h
          · rename_i j
            split at h
            · split at h
              · rename_i R RT TS oe re pd hb
                split at h
                · rename_i k
                  split at h
                  · rename_i hT hd
                    rw [Bool.and_eq_true, Nat.beq_eq, Nat.beq_eq] at hd
                    obtain ⟨rfl, rfl⟩ := hd
                    simp only [Option.some.injEq, Prod.mk.injEq] at h
                    obtain ⟨h1, rfl, rfl, rfl⟩ := h
                    rw [hc] at h1
                    simp only [Bool.and_eq_true, Nat.beq_eq, Nat.blt_eq] at h1
                    obtain ⟨rfl, rfl, rfl, rfl, h2⟩ := h1
                    rw [hsel_ok hs] at hx
                    rw [hsel_ok hs'] at hy
                    obtain ⟨w', g1, g2⟩ := putHdr_ok hT hM hb h2 hx hy
                    exact ⟨w', g1, g2, rfl⟩
                  · cases h
                · cases h
              · cases h
            · cases h
          · cases h
        · cases h
      · cases h
    · cases h
  · cases h
theorem putL_keeps {T : TypeId} {a x z : SV} {H H' : List (SB τ)} {c : Bool} {ws : List Nat} {k : Nat} (h : putL P T a x H = some (c, z, H', ws)) (hw : hasN ws k = false) : H'[k]? = H[k]? ∧ H.length ≤ H'.length := by
  unfold putL at h
  split at h
  · split at h
    · split at h
      · split at h
        · split at h
          · split at h
            · split at h
              · split at h
                · split at h
                  · simp only [Option.some.injEq, Prod.mk.injEq] at h
                    obtain ⟨_, _, rfl, rfl⟩ := h
                    exact ⟨get_set_out hw, by simp⟩
                  · cases h
                · cases h
              · cases h
            · cases h
          · cases h
        · cases h
      · cases h
    · cases h
  · cases h
def limAt (H : List (SB τ)) (d : Nat) (sel : Option Nat) : Option (Nat × Nat × Lim × TypeId × TypeId × Nat) :=
  match sel with
  | none => match H[d]? with
    | some (.limbo b0 q0 L T TS le) => some (b0, q0, L, T, TS, le)
    | _ => none
  | some _ => none
def copyL (P : Program) (D : TypeId) (d x : SV) (H : List (SB τ)) : LR τ :=
  match P.underlying D with
  | some (.slice el) => match szT P el with
    | some 1 => match hsel d with
      | some (b, ep, sel, r) => match sel with
        | none => match hsel x with
          | some (lb, lq, sel', r') => match r' with
            | [] => match limAt H lb sel' with
              | some (b0, q0, L, T', TS', le) => match H[b]? with
                | some (.rows R T TS oe re pd) => match pd with
                  | none => match partH R.len r, Nat.beq b0 b && (Nat.beq TS el && (Nat.beq TS' TS && (Nat.beq T' T && !(Nat.beq b lb)))) with
                    | some (lo, len), true => match R.merge lo L with
                      | some R' => some (Nat.beq oe ep && (Nat.beq q0 re && (Nat.beq le lq && (Nat.ble (lo + len) R.len && (Nat.ble L.len len && (Nat.blt 0 R.len && fitsB R.len lo L))))), .v (.int .i64 (L.len : Nat)), (H.set b (.rows R' T TS oe (re + 1) none)).set lb .gone, [b, lb])
                      | none => none
                    | _, _ => none
                  | some _ => none
                | _ => none
              | none => none
            | _ => none
          | none => none
        | some _ => none
      | none => none
    | _ => none
  | _ => none
theorem copyL_ok {e : Env} {H H' : List (SB τ)} {Fr : PH} {D D' ty : TypeId} {x y z : SV} {c : Bool} {ws : List Nat} {u v : Value} (hM : Models I e H Fr w) (h : copyL P D x y H = some (c, z, H', ws)) (hc : c = true) (hx : Den e x u) (hy : Den e y v) :
    ∃ r w' e', (Builtin.copy_ #[D, D'] ty #[u, v]).run P w = .ok r w' ∧ Le e e' ∧ Models I e' H' Fr w' ∧ Den e' z r := by
  unfold copyL at h
  split at h
  · rename_i el hu
    split at h
    · rename_i hsz
      split at h
      · rename_i b ep sel r hs
        split at h
        · split at h
          · rename_i lb lq sel' r' hs'
            split at h
            · split at h
              · rename_i b0 q0 L T' TS' le hlim
                split at h
                · rename_i R T TS oe re pd hb
                  split at h
                  · split at h
                    · rename_i lo len hpart hd
                      simp only [Bool.and_eq_true, Nat.beq_eq, Bool.not_eq_true'] at hd
                      obtain ⟨rfl, rfl, rfl, rfl, hbl⟩ := hd
                      have hbl : b0 ≠ lb := fun e => by rw [← Nat.beq_eq, hbl] at e; cases e
                      split at h
                      · rename_i R' hmer
                        simp only [Option.some.injEq, Prod.mk.injEq] at h
                        obtain ⟨h1, rfl, rfl, _⟩ := h
                        rw [hc] at h1
                        simp only [Bool.and_eq_true, Nat.beq_eq, Nat.blt_eq, Nat.ble_eq] at h1
                        obtain ⟨rfl, rfl, rfl, h2, h3, h4, h5⟩ := h1
                        unfold limAt at hlim
                        split at hlim
                        · split at hlim
                          · rename_i hl
                            simp only [Option.some.injEq, Prod.mk.injEq] at hlim
                            obtain ⟨rfl, rfl, rfl, rfl, rfl, rfl⟩ := hlim
                            rw [hsel_ok hs] at hx
                            rw [hsel_ok hs'] at hy
                            obtain ⟨r', w', e', g1, g2, g3, rfl⟩ := copyLim_ok (P := P) (D' := D') (ty := ty) hu hsz hM hb hl hbl hpart h2 h3 h4 hmer h5 hx hy
                            exact ⟨_, w', e', g1, g2, g3, by simp [Den]⟩
                          · cases hlim
                        · cases hlim
                      · cases h
                    · cases h
                  · cases h
                · cases h
              · cases h
            · cases h
          · cases h
        · cases h
      · cases h
    · cases h
  · cases h
theorem copyL_keeps {t : TypeId} {s x z : SV} {H H' : List (SB τ)} {c : Bool} {ws : List Nat} {k : Nat} (h : copyL P t s x H = some (c, z, H', ws)) (hw : hasN ws k = false) : H'[k]? = H[k]? ∧ H.length ≤ H'.length := by
  unfold copyL at h
  split at h
  · split at h
    · split at h
      · split at h
        · split at h
          · split at h
            · split at h
              · split at h
                · split at h
                  · split at h
                    · split at h
                      · simp only [Option.some.injEq, Prod.mk.injEq] at h
                        obtain ⟨_, _, rfl, rfl⟩ := h
                        exact ⟨get_set_out2 hw, by simp⟩
                      · cases h
                    · cases h
                  · cases h
                · cases h
              · cases h
            · cases h
          · cases h
        · cases h
      · cases h
    · cases h
  · cases h
end Go.Sym
namespace Go.Sym
open Go
variable {P : Program} {w : World} {τ : Type} {I : Inv τ}
def dataH (x : SV) (H : List (SB τ)) : LR τ :=
  match x with
  | .v y => match y with
    | .slice none _ _ => some (true, .v (.pointer none), H, [])
    | _ => none
  | .h b p => match p with
    | [ep, z] => match z with
      | 0 => match H[b]? with
        | some (.own _ n _ _ ep' _) => match Nat.beq ep' ep with
          | true => some (Nat.blt 0 n, .h b [ep, 0, 0, 0], H, [])
          | false => none
        | _ => none
      | _ => none
    | _ => none
  | _ => none
theorem dataH_ok {e : Env} {H H' : List (SB τ)} {Fr : PH} {x y : SV} {c : Bool} {ws : List Nat} {v : Value} (ts : Array TypeId) (ty : TypeId) (hM : Models I e H Fr w) (h : dataH x H = some (c, y, H', ws)) (hc : c = true) (hd : Den e x v) :
    ∃ r, (Builtin.unsafeSliceData_ ts ty #[v]).run P w = .ok r w ∧ H' = H ∧ Den e y r := by
  unfold dataH at h
  split at h
  · rename_i q
    split at h
    · rename_i n cap
      simp only [Option.some.injEq, Prod.mk.injEq] at h
      obtain ⟨_, rfl, rfl, _⟩ := h
      simp only [Den] at hd
      subst hd
      exact ⟨_, Lib.run_unsafeSliceData_nil w ts ty n cap, rfl, by simp [Den]⟩
    · cases h
  · rename_i b p
    split at h
    · rename_i ep z
      split at h
      · split at h
        · rename_i cn n T sz ep' nn hb
          split at h
          · rename_i hep
            rw [Nat.beq_eq] at hep
            subst hep
            simp only [Option.some.injEq, Prod.mk.injEq] at h
            obtain ⟨h1, rfl, rfl, _⟩ := h
            rw [hc, Nat.blt_eq] at h1
            obtain ⟨hn, ⟨f, u, vs, g1, g2, g3, g4, ⟨g5, g6⟩, _⟩, _⟩ := hM.item hb
            simp only [Den] at hd
            obtain ⟨f', k1, k2, k3⟩ := hd
            rw [g1] at k1; cases k1
            simp only [hdAt, g2, Option.map_some, Option.some.injEq, ownRef, rowRef] at k2
            subst k2
            rcases g6 with ⟨_, h0, _⟩ | ⟨g, cap, rest, rfl, _, hcap, _, _⟩
            · omega
            · refine ⟨_, Lib.run_unsafeSliceData_row w ts ty _ n cap (by omega), rfl, ?_⟩
              simp only [Den]
              exact ⟨f, g1, by simp [hdAt, g2, ownRef, rowRef], rfl⟩
          · cases h
        · cases h
      · cases h
    · cases h
  · cases h
def byteB (xs : List Int) : Bool := xs.all fun x => decide (0 ≤ x ∧ x ≤ 255)
def ustrH (P : Program) (pt : TypeId) (x k : SV) (H : List (SB τ)) : LR τ :=
  match x with
  | .v y => match y with
    | .pointer none => match k with
      | .v (.int kk m) => match decide (kk = .i64) with
        | true => some (decide (m = 0), .v (.string ByteArray.empty), H, [])
        | false => none
      | _ => none
    | _ => none
  | .h b p => match p with
    | [ep, z, i, o] => match Nat.beq z 0 && (Nat.beq i 0 && Nat.beq o 0) with
      | true => match k with
        | .v (.int kk m) => match H[b]? with
          | some (.own cn n T sz ep' _) => match cn with
            | .ints kd xs => match P.underlying pt with
              | some (.pointer T') => match Nat.beq ep' ep && (Nat.beq sz 1 && (Nat.beq T' T && (decide (kd = .u8) && (decide (kk = .i64) && Nat.beq (P.cellsOf T) 1)))) with
                | true => some (Nat.blt 0 n && (decide (m = (n : Int)) && (byteB xs && decide (n ≤ 9223372036854775807))), .v (.string (bytesOf xs)), H.set b .gone, [b])
                | false => none
              | _ => none
            | _ => none
          | _ => none
        | _ => none
      | false => none
    | _ => none
  | _ => none
theorem bytesOf_u8 (xs : List Int) : bytesOf xs = ⟨(xs.map fun n => UInt8.ofNat n.toNat).toArray⟩ := rfl
theorem freeze_turned {g : Nat} {o : Obj} {n : Nat} : Turned w (w.freeze ⟨g, 0, none⟩ n) (single g o) emp := by
  refine ⟨fun k x hk => (by cases hk), fun k hk => absurd rfl hk, fun k x hk hs => ?_, ?_⟩
  · have hkg : k ≠ g := fun e => by subst e; simp [single] at hs
    unfold World.freeze
    split
    · exact hk
    · simp only [Array.getElem?_modify, Ne.symm hkg, if_false]; exact hk
  · unfold World.freeze
    split
    · exact ⟨rfl, rfl⟩
    · exact ⟨rfl, rfl⟩
theorem ustrH_ok {e : Env} {H H' : List (SB τ)} {Fr : PH} {x y k : SV} {c : Bool} {ws : List Nat} {u v : Value} {pt it : TypeId} (ty : TypeId) (hM : Models I e H Fr w) (h : ustrH P pt x k H = some (c, y, H', ws)) (hc : c = true) (hx : Den e x u) (hk : Den e k v) :
    ∃ r w', (Builtin.unsafeString_ #[pt, it] ty #[u, v]).run P w = .ok r w' ∧ Models I e H' Fr w' ∧ Den e y r := by
  unfold ustrH at h
  split at h
  · split at h
    · split at h
      · rename_i kk m
        split at h
        · rename_i hkk
          simp only [Option.some.injEq, Prod.mk.injEq] at h
          obtain ⟨h1, rfl, rfl, _⟩ := h
          rw [hc] at h1
          have h1 := of_decide_eq_true h1
          have hkk := of_decide_eq_true hkk
          subst h1; subst hkk
          simp only [Den] at hx hk
          subst hx; subst hk
          exact ⟨_, w, Lib.run_unsafeString_none w pt it ty none, hM, by simp [Den]⟩
        · cases h
      · cases h
    · cases h
  · rename_i b p
    split at h
    · rename_i ep z i o
      split at h
      · rename_i hz
        simp only [Bool.and_eq_true, Nat.beq_eq] at hz
        obtain ⟨rfl, rfl, rfl⟩ := hz
        split at h
        · rename_i kk m
          split at h
          · rename_i cn n T sz ep' nn hb
            split at h
            · rename_i kd xs
              split at h
              · rename_i T' hpt
                split at h
                · rename_i hcond
                  simp only [Bool.and_eq_true, Nat.beq_eq, decide_eq_true_eq] at hcond
                  obtain ⟨rfl, rfl, rfl, rfl, rfl, hcell⟩ := hcond
                  simp only [Option.some.injEq, Prod.mk.injEq] at h
                  obtain ⟨h1, rfl, rfl, _⟩ := h
                  simp only [hc, Bool.true_eq, Bool.and_eq_true, Nat.blt_eq, decide_eq_true_eq] at h1
                  obtain ⟨hn0, rfl, hby, h63⟩ := h1
                  obtain ⟨hn, ⟨f, vv, vs, g1, g2, g3, g4, ⟨g5, g6⟩, _⟩, hsub, hput⟩ := hM.take hb
                  simp only [Den] at hx hk
                  obtain ⟨f', k1, k2, k3⟩ := hx
                  rw [g1] at k1; cases k1
                  subst hk
                  rcases g6 with ⟨_, h0, _⟩ | ⟨g, cap, rest, rfl, rfl, hcap, _, hlen⟩
                  · omega
                  · simp only [hdAt, g2, Option.map_some, Option.some.injEq, ownRef, rowRef, Nat.zero_mul, Nat.add_zero] at k2
                    subst k2
                    have g4 : vs = xs.map (Value.int .u8) := g4
                    have hlx : xs.length = n := by rw [g4] at g5; simpa using g5
                    have hh : w.heap[g]? = some (.cells (vs ++ rest).toArray T' (0, 0)) := hsub g _ (by simp [single])
                    have hby' : ∀ a ∈ xs, 0 ≤ a ∧ a ≤ 255 := by
                      intro a ha
                      have := List.all_eq_true.1 hby a ha
                      exact of_decide_eq_true this
                    have hrun := Lib.run_unsafeString_row w pt it ty T' hpt hcell g (vs ++ rest).length (by simp [World.shape?, hh]) (xs.map fun n => UInt8.ofNat n.toNat) (by intro hq; rw [List.map_eq_nil_iff] at hq; subst hq; simp at hlx; omega) (by simp at hlen ⊢; omega) (by simp; omega) (fun j a hj => by
                      rw [List.getElem?_map, Option.map_eq_some_iff] at hj
                      obtain ⟨q, hq, rfl⟩ := hj
                      rw [add_none, cell_at hh]
                      have hjl : j < xs.length := (List.getElem?_eq_some_iff.1 hq).1
                      have hq2 := hby' q (List.mem_of_getElem? hq)
                      simp only [Nat.zero_add, List.getElem?_toArray]
                      rw [List.getElem?_append_left (by rw [g4]; simpa using hjl), g4, List.getElem?_map, hq]
                      simp only [Option.map_some, Option.some.injEq, Value.int.injEq, true_and]
                      rw [UInt8.toNat_ofNat']
                      omega)
                    rw [List.length_map, hlx] at hrun
                    exact ⟨_, _, hrun, hput (b' := .gone) (hn' := emp) (Le.refl e) (fun _ _ => rfl) rfl freeze_turned, by simp [Den, bytesOf_u8]⟩
                · cases h
              · cases h
            · cases h
          · cases h
        · cases h
      · cases h
    · cases h
  · cases h
def mapH (H : List (SB τ)) : LR τ := some (true, .h H.length [0], H ++ [.gone], [])
theorem mapH_ok {e : Env} {H : List (SB τ)} {Fr : PH} (T : TypeId) (hM : Models I e H Fr w) :
    ∃ r w' e', (Instr.makeMap T none).run P w = .ok r w' ∧ Le e e' ∧ Models I e' (H ++ [.gone]) Fr w' ∧ Den e' (.h H.length [0]) r := by
  have hle : Le e (ext e H.length (.hd fun j => if j = 0 then some (fun _ => .map (some w.heap.size)) else none)) := le_ext hM.fresh
  refine ⟨.map (some w.heap.size), w.alloc (.map #[] 0), _, ?_, hle, hM.add (hn := emp) rfl (Ext.alloc w _) (fun k o hk => by simp [emp] at hk) (fun k hk => by simp [emp] at hk), ?_⟩
  · simp [Instr.makeMap]
  · simp only [Den, ext_self]
    exact ⟨_, rfl, by simp [hdAt], rfl⟩
def escName : String := "internal/abi.NoEscape"
theorem esc_next : Extern.allNextRows.lookup escName = none := by kernel_rfl
theorem esc_next0 : Extern.allNextRows.lookup "" = none := by kernel_rfl
theorem esc_gen : Extern.allGenericRows.lookup escName = none := by kernel_rfl
theorem esc_typ : Extern.allTypedRows.lookup escName = none := by kernel_rfl
theorem esc_all : Extern.allRows.lookup escName = some Extern.AbiNoEscape.same := by kernel_rfl
def escH (P : Program) (f : SV) (args : List SV) (H : List (SB τ)) : LR τ :=
  match f with
  | .v y => match y with
    | .func (.func g) a c => match a.toList with
      | [] => match c.toList with
        | [] => match args with
          | [x] => match P.funcs[g]? with
            | some fn => match fn.name == escName && (fn.origin == "" && fn.body.isNone) with
              | true => some (true, x, H, [])
              | false => none
            | none => none
          | _ => none
        | _ => none
      | _ => none
    | _ => none
  | _ => none
theorem run_esc {g : FuncId} {fn : Func} {v : Value} (hf : P.funcs[g]? = some fn) (h1 : fn.name = escName) (h2 : fn.origin = "") (h3 : fn.body.isNone = true) : (callFunc g #[v]).run P w = .ok (.value v) w := by
  have hn : (fn.name == "runtime.NumGoroutine") = false := by rw [h1]; kernel_rfl
  have e1 : Extern.findNext fn = none := by simp only [Extern.findNext, h1, h2, esc_next, esc_next0]; rfl
  have e2 : Extern.find fn = some Extern.AbiNoEscape.same := by simp only [Extern.find, h1, h2, esc_gen, esc_typ, esc_all]; rfl
  simp only [callFunc, Sem.run_bind, run_program, Result.andThen_ok, hf, hn, h3, Bool.false_eq_true, if_false, if_true, e1, e2]
  rfl
end Go.Sym
namespace Go.Sym
open Go
variable {P : Program} {w : World} {τ : Type} {I : Inv τ}
def writeS (op : Op) (tm : List SV) : List Nat :=
  match op with
  | .store _ a _ => match ev tm a with
    | .p b _ => [b]
    | _ => []
  | .next x _ => match ev tm x with
    | .p b _ => [b]
    | _ => []
  | .call { callee := .builtin .copy, args, .. } => match args.toList.map (ev tm) with
    | .s b _ _ _ :: _ => [b]
    | _ => []
  | _ => []
def stepO (P : Program) (op : Op) (tm : List SV) (H : List (SB τ)) : LR τ :=
  match op with
  | .store T a x => match storeH P T (ev tm a) (ev tm x) H with
    | some r => some r
    | none => putL P T (ev tm a) (ev tm x) H
  | .call { callee := .builtin b, args, argTypes } => match b with
    | .append => match argTypes.toList, args.toList.map (ev tm) with
      | [t, t'], [s, x] => match Nat.beq t' t with
        | true => match appendH P t s x H with
          | some r => some r
          | none => appendL P t s x H
        | false => none
      | _, _ => none
    | .copy => match argTypes.toList, args.toList.map (ev tm) with
      | [D, _], [d, x] => match copyH P D d x H with
        | some r => some r
        | none => copyL P D d x H
      | _, _ => none
    | _ => none
  | .makeSlice T l c => makeH P T (ev tm l) (ev tm c) H
  | _ => none
def stepP (P : Program) (op : Op) (tm : List SV) (H : List (SB τ)) : LR τ :=
  match op with
  | .call { callee := .builtin b, args, argTypes } => match b with
    | .unsafeSliceData => match args.toList.map (ev tm) with
      | [x] => dataH x H
      | _ => none
    | .unsafeString => match argTypes.toList, args.toList.map (ev tm) with
      | [pt, _], [x, k] => ustrH P pt x k H
      | _, _ => none
    | _ => none
  | .call { callee := .value f, args, .. } => escH P (ev tm f) (args.toList.map (ev tm)) H
  | .makeMap _ none => mapH H
  | _ => none
def stepL (P : Program) (op : Op) (tm : List SV) (H : List (SB τ)) : LR τ :=
  match stepA P op tm H with
  | some (x, H') => some (true, x, H', writeS op tm)
  | none => match stepI P op tm H with
    | some (c, x, H') => some (c, x, H', writeS op tm)
    | none => match stepO P op tm H with
      | some r => some r
      | none => stepP P op tm H
theorem stepO_ok {e : Env} {tm : List SV} {a : Act} {H H' : List (SB τ)} {Fr : PH} {o : Oper} {x : SV} {c : Bool} {ws : List Nat} (hM : Models I e H Fr w) (ht : DenL e tm a.tmps.toList)
    (h : stepO P o.op tm H = some (c, x, H', ws)) (hc : c = true) : GaveL I P o a e Fr w x H' := by
  unfold stepO at h
  split at h
  · rename_i T oa ox hop
    have hst : ∃ w', (Instr.storeAt T (a.eval oa) (a.eval ox)).run P w = .ok () w' ∧ Models I e H' Fr w' ∧ x = .v undef := by
      split at h
      · rename_i r hr
        simp only [Option.some.injEq] at h
        subst h
        exact storeH_ok (P := P) hM hr hc (ev_ok ht oa) (ev_ok ht ox)
      · exact putL_ok (P := P) hM h hc (ev_ok ht oa) (ev_ok ht ox)
    obtain ⟨w', h1, h2, rfl⟩ := hst
    exact ⟨.skip, undef, w', e, by simp [execOp, hop, h1], .inr ⟨rfl, rfl⟩, Le.refl e, h2, by simp [Den]⟩
  · rename_i b args ats hop
    have hev := evs_ok ht args.toList
    split at h
    · split at h
      · rename_i t t' s y hat hargs
        split at h
        · rename_i htt
          rw [Nat.beq_eq] at htt
          subst htt
          rw [hargs] at hev
          simp only [DenL] at hev
          obtain ⟨v1, r1, e1, d1, v2, r2, rfl, d2, rfl⟩ := hev
          have hargs' : args.map a.eval = #[v1, v2] := by apply Array.toList_inj.1; simpa using e1
          have hats : ats = #[t', t'] := by apply Array.toList_inj.1; simpa using hat
          have happ : ∃ r w' e', (Builtin.append_ #[t', t'] o.type #[v1, v2]).run P w = .ok r w' ∧ Le e e' ∧ Models I e' H' Fr w' ∧ Den e' x r := by
            split at h
            · rename_i r hr
              simp only [Option.some.injEq] at h
              subst h
              exact appendH_ok (P := P) (ty := o.type) hM hr hc d1 d2
            · exact appendL_ok (P := P) (ty := o.type) hM h hc d1 d2
          obtain ⟨r, w', e', h1, h2, h3, h4⟩ := happ
          refine ⟨.value r, r, w', e', ?_, .inl rfl, h2, h3, h4⟩
          simp only [execOp, hop, resolve, hargs', invoke, hats, builtin, Sem.run_bind, Sem.run_pure, Result.andThen_ok, h1]
        · cases h
      · cases h
    · split at h
      · rename_i D D' d y hat hargs
        rw [hargs] at hev
        simp only [DenL] at hev
        obtain ⟨v1, r1, e1, d1, v2, r2, rfl, d2, rfl⟩ := hev
        have hargs' : args.map a.eval = #[v1, v2] := by apply Array.toList_inj.1; simpa using e1
        have hats : ats = #[D, D'] := by apply Array.toList_inj.1; simpa using hat
        have hcp : ∃ r w' e', (Builtin.copy_ #[D, D'] o.type #[v1, v2]).run P w = .ok r w' ∧ Le e e' ∧ Models I e' H' Fr w' ∧ Den e' x r := by
          split at h
          · rename_i r hr
            simp only [Option.some.injEq] at h
            subst h
            obtain ⟨r, w', h1, h3, h4⟩ := copyH_ok (P := P) (D' := D') (ty := o.type) hM hr hc d1 d2
            exact ⟨r, w', e, h1, Le.refl e, h3, h4⟩
          · exact copyL_ok (P := P) (D' := D') (ty := o.type) hM h hc d1 d2
        obtain ⟨r, w', e', h1, h2, h3, h4⟩ := hcp
        refine ⟨.value r, r, w', e', ?_, .inl rfl, h2, h3, h4⟩
        simp only [execOp, hop, resolve, hargs', invoke, hats, builtin, Sem.run_bind, Sem.run_pure, Result.andThen_ok, h1]
      · cases h
    · cases h
  · rename_i T ol oc hop
    obtain ⟨r, w', e', h1, h2, h3, h4⟩ := makeH_ok (P := P) hM h hc (ev_ok ht ol) (ev_ok ht oc)
    exact ⟨.value r, r, w', e', by simp [execOp, hop, h1], .inl rfl, h2, h3, h4⟩
  · cases h
theorem stepP_ok {e : Env} {tm : List SV} {a : Act} {H H' : List (SB τ)} {Fr : PH} {o : Oper} {x : SV} {c : Bool} {ws : List Nat} (hM : Models I e H Fr w) (ht : DenL e tm a.tmps.toList)
    (h : stepP P o.op tm H = some (c, x, H', ws)) (hc : c = true) : GaveL I P o a e Fr w x H' := by
  unfold stepP at h
  split at h
  · rename_i b args ats hop
    have hev := evs_ok ht args.toList
    split at h
    · split at h
      · rename_i y hargs
        rw [hargs] at hev
        simp only [DenL] at hev
        obtain ⟨v1, r1, e1, d1, rfl⟩ := hev
        have hargs' : args.map a.eval = #[v1] := by apply Array.toList_inj.1; simpa using e1
        obtain ⟨r, h1, rfl, h2⟩ := dataH_ok (P := P) ats o.type hM h hc d1
        refine ⟨.value r, r, w, e, ?_, .inl rfl, Le.refl e, hM, h2⟩
        simp only [execOp, hop, resolve, hargs', invoke, builtin, Sem.run_bind, Sem.run_pure, Result.andThen_ok, h1]
      · cases h
    · split at h
      · rename_i pt it y k hat hargs
        rw [hargs] at hev
        simp only [DenL] at hev
        obtain ⟨v1, r1, e1, d1, v2, r2, rfl, d2, rfl⟩ := hev
        have hargs' : args.map a.eval = #[v1, v2] := by apply Array.toList_inj.1; simpa using e1
        have hats : ats = #[pt, it] := by apply Array.toList_inj.1; simpa using hat
        obtain ⟨r, w', h1, h3, h4⟩ := ustrH_ok (P := P) (it := it) o.type hM h hc d1 d2
        refine ⟨.value r, r, w', e, ?_, .inl rfl, Le.refl e, h3, h4⟩
        simp only [execOp, hop, resolve, hargs', hats, invoke, builtin, Sem.run_bind, Sem.run_pure, Result.andThen_ok, h1]
      · cases h
    · cases h
  · rename_i f args ats hop
    have hfv := ev_ok ht f
    have hev := evs_ok ht args.toList
    unfold escH at h
    split at h
    · rename_i y hf
      rw [hf] at hfv
      simp only [Den] at hfv
      split at h
      · rename_i g fa fc
        split at h
        · rename_i hfa
          split at h
          · rename_i hfc
            split at h
            · rename_i z hargs
              rw [hargs] at hev
              simp only [DenL] at hev
              obtain ⟨v1, r1, e1, d1, rfl⟩ := hev
              have hargs' : args.map a.eval = #[v1] := by apply Array.toList_inj.1; simpa using e1
              have hfa' : fa = #[] := by simpa using hfa
              have hfc' : fc = #[] := by simpa using hfc
              subst hfa'; subst hfc'
              split at h
              · rename_i fn hfn
                split at h
                · rename_i hcond
                  simp only [Bool.and_eq_true, beq_iff_eq] at hcond
                  simp only [Option.some.injEq, Prod.mk.injEq] at h
                  obtain ⟨_, rfl, rfl, _⟩ := h
                  have hrun := run_esc (P := P) (w := w) (v := v1) hfn hcond.1 hcond.2.1 hcond.2.2
                  refine ⟨.value v1, v1, w, e, ?_, .inl rfl, Le.refl e, hM, d1⟩
                  simp [execOp, hop, resolve, hfv, hargs', Deferred.ofValue, invoke, hrun]
                · cases h
              · cases h
            · cases h
          · cases h
        · cases h
      · cases h
    · cases h
  · rename_i T hop
    unfold mapH at h
    simp only [Option.some.injEq, Prod.mk.injEq] at h
    obtain ⟨_, rfl, rfl, _⟩ := h
    obtain ⟨r, w', e', h1, h2, h3, h4⟩ := mapH_ok (P := P) T hM
    exact ⟨.value r, r, w', e', by simp [execOp, hop, h1], .inl rfl, h2, h3, h4⟩
  · cases h
theorem stepL_ok {e : Env} {tm : List SV} {a : Act} {H H' : List (SB τ)} {Fr : PH} {o : Oper} {x : SV} {c : Bool} {ws : List Nat} (hM : Models I e H Fr w) (ht : DenL e tm a.tmps.toList)
    (h : stepL P o.op tm H = some (c, x, H', ws)) (hc : c = true) : GaveL I P o a e Fr w x H' := by
  unfold stepL at h
  split at h
  · rename_i y H2 hA
    simp only [Option.some.injEq, Prod.mk.injEq] at h
    obtain ⟨_, rfl, rfl, _⟩ := h
    exact (stepA_ok hM ht hA).loud
  · split at h
    · rename_i c' y H2 hI
      simp only [Option.some.injEq, Prod.mk.injEq] at h
      obtain ⟨rfl, rfl, rfl, _⟩ := h
      exact (stepI_ok hM ht hI hc).loud
    · split at h
      · rename_i r hr
        simp only [Option.some.injEq] at h
        subst h
        exact stepO_ok hM ht hr hc
      · exact stepP_ok hM ht h hc
theorem stepA_keeps {P : Program} {op : Op} {tm : List SV} {H H' : List (SB τ)} {x : SV} {b : Nat} (h : stepA P op tm H = some (x, H')) (hw : hasN (writeS op tm) b = false) (hb : b < H.length) : H'[b]? = H[b]? ∧ H.length ≤ H'.length := by
  unfold stepA at h
  split at h
  · split at h
    · simp only [Option.some.injEq, Prod.mk.injEq] at h; obtain ⟨_, rfl⟩ := h; exact ⟨List.getElem?_append_left hb, by simp⟩
    · cases h
  · split at h
    · simp only [Option.some.injEq, Prod.mk.injEq] at h; obtain ⟨_, rfl⟩ := h; exact ⟨List.getElem?_append_left hb, by simp⟩
    · cases h
  · split at h
    · split at h
      · split at h
        · simp only [Option.some.injEq, Prod.mk.injEq] at h; obtain ⟨_, rfl⟩ := h; exact ⟨List.getElem?_append_left hb, by simp⟩
        · cases h
      · cases h
    · cases h
  · split at h
    · rename_i b' o he
      split at h
      · split at h
        · simp only [Option.some.injEq, Prod.mk.injEq] at h; obtain ⟨_, rfl⟩ := h
          simp only [writeS, he] at hw
          exact ⟨get_set_out hw, by simp⟩
        · cases h
      · cases h
    · cases h
  · split at h
    · simp only [Option.some.injEq, Prod.mk.injEq] at h; obtain ⟨_, rfl⟩ := h; exact ⟨List.getElem?_append_left hb, by simp⟩
    · cases h
  · split at h
    · rename_i b' he
      split at h
      · split at h
        · simp only [Option.some.injEq, Prod.mk.injEq] at h; obtain ⟨_, rfl⟩ := h
          simp only [writeS, he] at hw
          exact ⟨get_set_out hw, by simp⟩
        · simp only [Option.some.injEq, Prod.mk.injEq] at h; obtain ⟨_, rfl⟩ := h; exact ⟨rfl, Nat.le_refl _⟩
      · cases h
    · cases h
  · cases h
theorem stepI_keeps {P : Program} {op : Op} {tm : List SV} {H H' : List (SB τ)} {c : Bool} {x : SV} {b : Nat} (h : stepI P op tm H = some (c, x, H')) (hw : hasN (writeS op tm) b = false) : H'[b]? = H[b]? ∧ H.length ≤ H'.length := by
  unfold stepI at h
  split at h
  · split at h
    · rename_i b' o k m he hx
      split at h
      · split at h
        · simp only [Option.some.injEq, Prod.mk.injEq] at h; obtain ⟨_, _, rfl⟩ := h
          simp only [writeS, he] at hw
          exact ⟨get_set_out hw, by simp⟩
        · cases h
      · cases h
    · cases h
  · split at h
    · rename_i hat hargs
      split at h
      · split at h
        · split at h
          · simp only [Option.some.injEq, Prod.mk.injEq] at h; obtain ⟨_, _, rfl⟩ := h
            simp only [writeS, hargs] at hw
            exact ⟨get_set_out hw, by simp⟩
          · cases h
        · cases h
      · cases h
    · cases h
  · cases h
theorem setR_keeps {H H' : List (SB τ)} {b k : Nat} {sel : Option Nat} {cn : Cn} (h : setR H b sel cn = some H') (hw : hasN [b] k = false) : H'[k]? = H[k]? ∧ H.length ≤ H'.length := by
  unfold setR at h
  split at h
  · split at h
    · simp only [Option.some.injEq] at h; subst h; exact ⟨get_set_out hw, by simp⟩
    · cases h
  · split at h
    · split at h
      · simp only [Option.some.injEq] at h; subst h; exact ⟨get_set_out hw, by simp⟩
      · cases h
    · cases h
  · cases h
theorem storeH_keeps {T : TypeId} {a x z : SV} {H H' : List (SB τ)} {c : Bool} {ws : List Nat} {k : Nat} (h : storeH P T a x H = some (c, z, H', ws)) (hw : hasN ws k = false) : H'[k]? = H[k]? ∧ H.length ≤ H'.length := by
  unfold storeH at h
  split at h
  · split at h
    · split at h
      · split at h
        · split at h
          · rename_i hset
            simp only [Option.some.injEq, Prod.mk.injEq] at h
            obtain ⟨_, _, rfl, rfl⟩ := h
            exact setR_keeps hset hw
          · cases h
        · cases h
      · cases h
    · cases h
  · cases h
theorem appendH_keeps {t : TypeId} {s x z : SV} {H H' : List (SB τ)} {c : Bool} {ws : List Nat} {k : Nat} (h : appendH P t s x H = some (c, z, H', ws)) (hw : hasN ws k = false) (hk : k < H.length) : H'[k]? = H[k]? ∧ H.length ≤ H'.length := by
  unfold appendH at h
  split at h
  · split at h
    · split at h
      · split at h
        · split at h
          · split at h
            · simp only [Option.some.injEq, Prod.mk.injEq] at h
              obtain ⟨_, _, rfl, _⟩ := h
              exact ⟨List.getElem?_append_left hk, by simp⟩
            · simp only [Option.some.injEq, Prod.mk.injEq] at h
              obtain ⟨_, _, rfl, rfl⟩ := h
              exact ⟨by rw [List.getElem?_append_left (by simpa using hk)]; exact get_set_out hw, by simp⟩
            · simp only [Option.some.injEq, Prod.mk.injEq] at h
              obtain ⟨_, _, rfl, rfl⟩ := h
              exact ⟨get_set_out hw, by simp⟩
          · cases h
        · cases h
      · cases h
    · cases h
  · cases h
theorem makeH_keeps {t : TypeId} {s x z : SV} {H H' : List (SB τ)} {c : Bool} {ws : List Nat} {k : Nat} (h : makeH P t s x H = some (c, z, H', ws)) (hk : k < H.length) : H'[k]? = H[k]? ∧ H.length ≤ H'.length := by
  unfold makeH at h
  split at h
  · split at h
    · split at h
      · split at h
        · simp only [Option.some.injEq, Prod.mk.injEq] at h
          obtain ⟨_, _, rfl, _⟩ := h
          exact ⟨List.getElem?_append_left hk, by simp⟩
        · cases h
      · cases h
    · cases h
  · cases h
theorem copyH_keeps {t : TypeId} {s x z : SV} {H H' : List (SB τ)} {c : Bool} {ws : List Nat} {k : Nat} (h : copyH P t s x H = some (c, z, H', ws)) (hw : hasN ws k = false) : H'[k]? = H[k]? ∧ H.length ≤ H'.length := by
  unfold copyH at h
  split at h
  · split at h
    · split at h
      · split at h
        · split at h
          · split at h
            · rename_i hset
              simp only [Option.some.injEq, Prod.mk.injEq] at h
              obtain ⟨_, _, rfl, rfl⟩ := h
              exact setR_keeps hset hw
            · cases h
          · cases h
        · cases h
      · cases h
    · cases h
  · cases h
theorem stepO_keeps {op : Op} {tm : List SV} {H H' : List (SB τ)} {c : Bool} {x : SV} {ws : List Nat} {k : Nat} (h : stepO P op tm H = some (c, x, H', ws)) (hw : hasN ws k = false) (hk : k < H.length) : H'[k]? = H[k]? ∧ H.length ≤ H'.length := by
  unfold stepO at h
  split at h
  · split at h
    · rename_i r hr
      simp only [Option.some.injEq] at h
      subst h
      exact storeH_keeps hr hw
    · exact putL_keeps h hw
  · split at h
    · split at h
      · split at h
        · split at h
          · rename_i r hr
            simp only [Option.some.injEq] at h
            subst h
            exact appendH_keeps hr hw hk
          · exact appendL_keeps h hw
        · cases h
      · cases h
    · split at h
      · split at h
        · rename_i r hr
          simp only [Option.some.injEq] at h
          subst h
          exact copyH_keeps hr hw
        · exact copyL_keeps h hw
      · cases h
    · cases h
  · exact makeH_keeps h hk
  · cases h
theorem stepP_keeps {op : Op} {tm : List SV} {H H' : List (SB τ)} {c : Bool} {x : SV} {ws : List Nat} {k : Nat} (h : stepP P op tm H = some (c, x, H', ws)) (hw : hasN ws k = false) (hk : k < H.length) : H'[k]? = H[k]? ∧ H.length ≤ H'.length := by
  unfold stepP at h
  split at h
  · split at h
    · split at h
      · unfold dataH at h
        repeat' (split at h)
        all_goals (first | (cases h; done) | (simp only [Option.some.injEq, Prod.mk.injEq] at h; obtain ⟨_, _, rfl, _⟩ := h; exact ⟨rfl, Nat.le_refl _⟩))
      · cases h
    · split at h
      · unfold ustrH at h
        repeat' (split at h)
        all_goals (first | (cases h; done) | (simp only [Option.some.injEq, Prod.mk.injEq] at h; obtain ⟨_, _, rfl, rfl⟩ := h; exact ⟨rfl, Nat.le_refl _⟩) | (simp only [Option.some.injEq, Prod.mk.injEq] at h; obtain ⟨_, _, rfl, rfl⟩ := h; exact ⟨get_set_out hw, by simp⟩))
      · cases h
    · cases h
  · unfold escH at h
    repeat' (split at h)
    all_goals (first | (cases h; done) | (simp only [Option.some.injEq, Prod.mk.injEq] at h; obtain ⟨_, _, rfl, _⟩ := h; exact ⟨rfl, Nat.le_refl _⟩))
  · unfold mapH at h
    simp only [Option.some.injEq, Prod.mk.injEq] at h
    obtain ⟨_, _, rfl, _⟩ := h
    exact ⟨List.getElem?_append_left hk, by simp⟩
  · cases h
theorem stepL_keeps {op : Op} {tm : List SV} {H H' : List (SB τ)} {c : Bool} {x : SV} {ws : List Nat} {k : Nat} (h : stepL P op tm H = some (c, x, H', ws)) (hw : hasN ws k = false) (hk : k < H.length) : H'[k]? = H[k]? ∧ H.length ≤ H'.length := by
  unfold stepL at h
  split at h
  · rename_i hA
    simp only [Option.some.injEq, Prod.mk.injEq] at h
    obtain ⟨_, rfl, rfl, rfl⟩ := h
    exact stepA_keeps hA hw hk
  · split at h
    · rename_i hI
      simp only [Option.some.injEq, Prod.mk.injEq] at h
      obtain ⟨_, rfl, rfl, rfl⟩ := h
      exact stepI_keeps hI hw
    · split at h
      · rename_i r hr
        simp only [Option.some.injEq] at h
        subst h
        exact stepO_keeps hr hw hk
      · exact stepP_keeps h hw hk
theorem stepA_congr {P : Program} {op : Op} {tm tm' : List SV} {H : List (SB τ)} (h : ∀ o ∈ op.operands.toList, ev tm o = ev tm' o) : stepA P op tm H = stepA P op tm' H := by
  cases op with
  | buildSlice T len parts =>
    simp only [Op.operands] at h
    have e : parts.toList.map (fun p => (p.1, ev tm p.2)) = parts.toList.map (fun p => (p.1, ev tm' p.2)) := by
      refine List.map_congr_left fun p hp => ?_
      rw [h p.2 (by simp; exact ⟨p.1, by simpa using hp⟩)]
    simp only [stepA, e]
  | next it b =>
    have e1 := h it (by simp [Op.operands])
    cases b <;> simp only [stepA, e1]
  | _ => simp only [stepA] <;> simp_all [Op.operands]
theorem stepI_congr {P : Program} {op : Op} {tm tm' : List SV} {H : List (SB τ)} (h : ∀ o ∈ op.operands.toList, ev tm o = ev tm' o) : stepI P op tm H = stepI P op tm' H := by
  cases op with
  | call c =>
    obtain ⟨callee, args, ats⟩ := c
    simp only [Op.operands, Call.operands, Array.toList_append, List.mem_append] at h
    have e := ev_map_congr (l := args.toList) fun o ho => h o (.inr ho)
    cases callee <;> simp only [stepI]
    rename_i b
    cases b <;> simp only [e]
  | store T a x =>
    have e1 := h a (by simp [Op.operands])
    have e2 := h x (by simp [Op.operands])
    simp only [stepI, e1, e2]
  | _ => simp only [stepI]
theorem stepO_congr {P : Program} {op : Op} {tm tm' : List SV} {H : List (SB τ)} (h : ∀ o ∈ op.operands.toList, ev tm o = ev tm' o) : stepO P op tm H = stepO P op tm' H := by
  cases op with
  | call c =>
    obtain ⟨callee, args, ats⟩ := c
    simp only [Op.operands, Call.operands, Array.toList_append, List.mem_append] at h
    have e := ev_map_congr (l := args.toList) fun o ho => h o (.inr ho)
    cases callee <;> simp only [stepO]
    rename_i b
    cases b <;> simp only [e]
  | store T a x =>
    have e1 := h a (by simp [Op.operands])
    have e2 := h x (by simp [Op.operands])
    simp only [stepO, e1, e2]
  | makeSlice T x y =>
    have e1 := h x (by simp [Op.operands])
    have e2 := h y (by simp [Op.operands])
    simp only [stepO, e1, e2]
  | _ => simp only [stepO]
theorem stepP_congr {P : Program} {op : Op} {tm tm' : List SV} {H : List (SB τ)} (h : ∀ o ∈ op.operands.toList, ev tm o = ev tm' o) : stepP P op tm H = stepP P op tm' H := by
  cases op with
  | call c =>
    obtain ⟨callee, args, ats⟩ := c
    simp only [Op.operands, Call.operands, Array.toList_append, List.mem_append] at h
    have e := ev_map_congr (l := args.toList) fun o ho => h o (.inr ho)
    cases callee with
    | builtin b => simp only [stepP]; cases b <;> simp only [e]
    | value f =>
      have e1 := h f (.inl (by simp))
      simp only [stepP, e, e1]
    | _ => simp only [stepP]
  | makeMap T r => cases r <;> simp only [stepP]
  | _ => simp only [stepP]
theorem writeS_congr {op : Op} {tm tm' : List SV} (h : ∀ o ∈ op.operands.toList, ev tm o = ev tm' o) : writeS op tm = writeS op tm' := by
  cases op with
  | call c =>
    obtain ⟨callee, args, ats⟩ := c
    simp only [Op.operands, Call.operands, Array.toList_append, List.mem_append] at h
    have e := ev_map_congr (l := args.toList) fun o ho => h o (.inr ho)
    cases callee <;> simp only [writeS]
    rename_i b
    cases b <;> simp only [e]
  | store T a x => have e1 := h a (by simp [Op.operands]); simp only [writeS, e1]
  | next x y => have e1 := h x (by simp [Op.operands]); simp only [writeS, e1]
  | _ => simp only [writeS]
theorem stepL_congr {P : Program} {op : Op} {tm tm' : List SV} {H : List (SB τ)} (h : ∀ o ∈ op.operands.toList, ev tm o = ev tm' o) : stepL P op tm H = stepL P op tm' H := by
  simp only [stepL, stepA_congr h, stepI_congr h, stepO_congr h, stepP_congr h, writeS_congr h]
end Go.Sym
namespace Go.Sym
open Go
structure St (τ : Type) where
  tm : List SV
  H : List (SB τ)
  df : List Nat
  base : Nat
  rnd : Bool
abbrev Con (τ : Type) := List SV → List (SB τ) → (SV → List (SB τ) → Prop) → Prop
abbrev PCon (τ : Type) := List SV → List (SB τ) → Option (Prop × SV)
inductive Alt (τ : Type) where
  | bad
  | ask (φ : Prop) (t : Alt τ)
  | br (c : Bool) (l r : Alt τ)
  | one (x : SV) (H : List (SB τ)) (ws : List Nat)
abbrev ACon (τ : Type) := List SV → List (SB τ) → Alt τ
inductive Fx where
  | nilTm (i : Nat) (c : Cn) (T sz : Nat)
  | nilLoop (b i : Nat) (c : Cn) (T sz : Nat)
  | nilCell (b i : Nat) (c : Cn) (T sz : Nat)
  | asRows (b : Nat) (k : Option IntKind) (T : Nat)
  | asLimbo (b b' : Nat) (k : Option IntKind) (T : Nat)
  | pad
  | mv (b b' : Nat)
  | nilInto (b i q : Nat)
  | adopt (q q' : Nat)
structure Ann (τ : Type) where
  α : Type
  φ : St τ → α → Prop
  μ : St τ → α → Nat
  get : St τ → Option α
  f : St τ → α → St τ
  fx : St τ → List Fx := fun _ => []
  on : St τ → Bool := fun _ => true
structure Cfg (τ : Type) where
  P : Program
  con : Nat → Option (Con τ)
  pcon : Nat → Option (PCon τ)
  unroll : Nat
  ann : Nat → Option (Ann τ) := fun _ => none
  acon : Nat → Option (ACon τ) := fun _ => none
  join : Nat → Option (Ann τ) := fun _ => none
def firstReg : Code → Nat
  | .region id ops _ => (id + 1) * 64 + ops.size
  | .seq a b => match firstReg a with
    | 0 => firstReg b
    | n => n
  | .block _ c => firstReg c
  | .loop c => firstReg c
  | .scope c => firstReg c
  | .cond _ a b => match firstReg a with
    | 0 => firstReg b
    | n => n
  | .rangeFunc _ _ a b => match firstReg a with
    | 0 => firstReg b
    | n => n
  | _ => 0
def rq (c : Bool) (A : Prop) : Prop := match c with | true => A | false => False
def br (b : Bool) (A B : Prop) : Prop := match b with | true => A | false => B
theorem rq_elim {c : Bool} {A : Prop} (h : rq c A) : c = true ∧ A := by cases c with | true => exact ⟨rfl, h⟩ | false => exact h.elim
theorem br_intro {b : Bool} {A B : Prop} (h : b = true → A) (h' : b = false → B) : br b A B := by cases b with | true => exact h rfl | false => exact h' rfl
theorem br_elim {b : Bool} {A B : Prop} (h : br b A B) : (b = true ∧ A) ∨ (b = false ∧ B) := by cases b with | true => exact .inl ⟨rfl, h⟩ | false => exact .inr ⟨rfl, h⟩
section
variable {τ : Type}
def Alt.pre : Alt τ → Prop
  | .bad => False
  | .ask φ t => φ ∧ t.pre
  | .br c l r => (c = true → l.pre) ∧ (c = false → r.pre)
  | .one _ _ _ => True
def Alt.has : Alt τ → SV → List (SB τ) → List Nat → Prop
  | .bad, _, _, _ => False
  | .ask _ t, x, H, ws => t.has x H ws
  | .br c l r, x, H, ws => (c = true ∧ l.has x H ws) ∨ (c = false ∧ r.has x H ws)
  | .one x' H' ws', x, H, ws => x = x' ∧ H = H' ∧ ws = ws'
def altK : Alt τ → (SV → List (SB τ) → List Nat → Prop) → Prop
  | .bad, _ => False
  | .ask φ t, K => φ ∧ altK t K
  | .br c l r, K => Go.Sym.br c (altK l K) (altK r K)
  | .one x H ws, K => K x H ws
theorem altK_pre : ∀ {t : Alt τ} {K : SV → List (SB τ) → List Nat → Prop}, altK t K → t.pre
  | .bad, _, h => h
  | .ask φ t, _, h => ⟨h.1, altK_pre h.2⟩
  | .br c l r, _, h => by
    rcases br_elim h with ⟨rfl, h1⟩ | ⟨rfl, h1⟩
    · exact ⟨fun _ => altK_pre h1, (fun hc => by cases hc)⟩
    · exact ⟨(fun hc => by cases hc), fun _ => altK_pre h1⟩
  | .one _ _ _, _, _ => trivial
theorem altK_has : ∀ {t : Alt τ} {K : SV → List (SB τ) → List Nat → Prop}, altK t K → ∀ {x H ws}, t.has x H ws → K x H ws
  | .bad, _, h, _, _, _, _ => h.elim
  | .ask φ t, _, h, _, _, _, hh => altK_has h.2 hh
  | .br c l r, _, h, _, _, _, hh => by
    rcases br_elim h with ⟨rfl, h1⟩ | ⟨rfl, h1⟩
    · rcases hh with ⟨_, h2⟩ | ⟨hc, _⟩
      · exact altK_has h1 h2
      · cases hc
    · rcases hh with ⟨hc, _⟩ | ⟨_, h2⟩
      · cases hc
      · exact altK_has h1 h2
  | .one _ _ _, _, h, _, _, _, ⟨rfl, rfl, rfl⟩ => h
theorem altK_some : ∀ {t : Alt τ} {K : SV → List (SB τ) → List Nat → Prop}, altK t K → ∃ x H ws, t.has x H ws ∧ K x H ws
  | .bad, _, h => h.elim
  | .ask φ t, _, h => altK_some (t := t) h.2
  | .br c l r, _, h => by
    rcases br_elim h with ⟨rfl, h0⟩ | ⟨rfl, h0⟩
    · obtain ⟨x, H, ws, h1, h2⟩ := altK_some h0; exact ⟨x, H, ws, .inl ⟨rfl, h1⟩, h2⟩
    · obtain ⟨x, H, ws, h1, h2⟩ := altK_some h0; exact ⟨x, H, ws, .inr ⟨rfl, h1⟩, h2⟩
  | .one x H ws, _, h => ⟨x, H, ws, ⟨rfl, rfl, rfl⟩, h⟩
theorem has_unique : ∀ {t : Alt τ} {x x' : SV} {H H' : List (SB τ)} {ws ws' : List Nat}, t.has x H ws → t.has x' H' ws' → x = x' ∧ H = H' ∧ ws = ws'
  | .bad, _, _, _, _, _, _, h, _ => h.elim
  | .ask φ t, _, _, _, _, _, _, h, h' => has_unique (t := t) h h'
  | .br c l r, _, _, _, _, _, _, h, h' => by
    rcases h with ⟨rfl, h1⟩ | ⟨rfl, h1⟩
    · rcases h' with ⟨_, h2⟩ | ⟨hc, _⟩
      · exact has_unique h1 h2
      · cases hc
    · rcases h' with ⟨hc, _⟩ | ⟨_, h2⟩
      · cases hc
      · exact has_unique h1 h2
  | .one _ _ _, _, _, _, _, _, _, ⟨rfl, rfl, rfl⟩, ⟨rfl, rfl, rfl⟩ => ⟨rfl, rfl, rfl⟩
end
def putS (dst : Option Tmp) (x : SV) (tm : List SV) : List SV :=
  match dst with
  | some d => tm.set d x
  | none => tm
def setB (o : Operand) (b : Bool) (tm : List SV) : List SV :=
  match o with
  | .tmp t => tm.set t (.v (.bool b))
  | _ => tm
section
variable {τ : Type}
abbrev Rec (τ : Type) := Code → St τ → (Exit → St τ → Prop) → Prop
def St.put (st : St τ) (dst : Option Tmp) (x : SV) : St τ := { st with tm := putS dst x st.tm }
def St.putH (st : St τ) (dst : Option Tmp) (x : SV) (H : List (SB τ)) : St τ := { st with tm := putS dst x st.tm, H := H }
def calleeS : SV → Option (FuncId × List SV × List SV)
  | .v (.func (.func g) a c) => some (g, a.toList.map .v, c.toList.map .v)
  | .f (.func g) cs => some (g, [], cs)
  | _ => none
def resS (P : Program) (tm : List SV) (H : List (SB τ)) : List ResultVar → Option (List SV)
  | [] => some []
  | .tmp t :: r => match resS P tm H r with
    | some l => some (tm.getD t (.v undef) :: l)
    | none => none
  | .cell a T :: r => match loadS P T (tm.getD a (.v undef)) H, resS P tm H r with
    | some x, some l => some (x :: l)
    | _, _ => none
def oneR : List SV → SV
  | [x] => x
  | l => .t l
def takeDf : List Nat → List (SB τ) → Option (List (SB τ))
  | [], H => some H
  | r :: rs, H => match H[r]? with
    | some (.obj (.deferred (some []))) => takeDf rs (H.set r (.obj (.deferred none)))
    | _ => none
def leaveK (P : Program) (fn : Func) (st : St τ) (K : SV → List (SB τ) → Prop) : Prop :=
  match takeDf st.df st.H with
  | some H' => match resS P st.tm H' fn.results.toList with
    | some l => K (oneR l) H'
    | none => False
  | none => False
def bodyK (P : Program) (rec : Rec τ) (fn : Func) (args : List SV) (H : List (SB τ)) (K : SV → List (SB τ) → Prop) : Prop :=
  match fn.body with
  | some c => rec c { tm := args ++ List.replicate (fn.ntmps - args.length) (.v undef), H := H, df := [], base := H.length, rnd := false }
      (fun ex st => match ex with
        | .normal => leaveK P fn st K
        | .ret => leaveK P fn st K
        | _ => False)
  | none => False
def callK (cfg : Cfg τ) (rec : Rec τ) (g : FuncId) (args : List SV) (H : List (SB τ)) (K : SV → List (SB τ) → Prop) : Prop :=
  match cfg.P.funcs[g]? with
  | some fn => match fn.name == "runtime.NumGoroutine", fn.body.isNone with
    | false, false => match cfg.con g with
      | some con => con args H K
      | none => match cfg.acon g with
        | some ac => altK (ac args H) (fun x H' _ => K x H')
        | none => bodyK cfg.P rec fn args H K
    | _, _ => False
  | none => False
def setPs (tm : List SV) : List (Tmp × SV) → List SV
  | [] => tm
  | (t, x) :: r => setPs (tm.set t x) r
def yieldK (rec : Rec τ) (b : Nat) (args : List SV) (H : List (SB τ)) (K : SV → List (SB τ) → Prop) : Prop :=
  match H[b]? with
  | some (.loop _ _ tm ps asg body _) => match args.length == ps.size with
    | true => rec asg { tm := setPs tm (ps.toList.zip args), H := H, df := [], base := H.length, rnd := true } (fun ex s1 => match ex with
      | .normal => match s1.H[b]? with
        | some (.loop .ready pd t1 ps1 a1 b1 d1) => rec body { s1 with H := s1.H.set b (.loop .busy pd t1 ps1 a1 b1 d1) } (fun ex2 s2 => match s2.H[b]? with
          | some (.loop _ _ t2 ps2 a2 b2 d2) => match ex2 with
            | .normal => K (.v (.bool true)) (s2.H.set b (.loop .ready none t2 ps2 a2 b2 d2))
            | .ret => K (.v (.bool false)) (s2.H.set b (.loop .done (some .ret) t2 ps2 a2 b2 d2))
            | .exit id => K (.v (.bool false)) (s2.H.set b (.loop .done (some (.exit id)) t2 ps2 a2 b2 d2))
            | .goto l => K (.v (.bool false)) (s2.H.set b (.loop .done (some (.goto l)) t2 ps2 a2 b2 d2))
            | _ => False
          | _ => False)
        | _ => False
      | _ => False)
    | false => False
  | _ => False
def nextS (op : Op) (tm : List SV) (H : List (SB τ)) : Option (Nat × ByteArray × Nat) :=
  match op with
  | .next it q => match q with
    | true => match ev tm it with
      | .p b o => match o with
        | 0 => match H[b]? with
          | some (.obj x) => match x with
            | .stringIter s pos => some (b, s, pos)
            | _ => none
          | _ => none
        | _ => none
      | _ => none
    | false => none
  | _ => none
def opK (cfg : Cfg τ) (rec : Rec τ) (o : Oper) (st : St τ) (K : St τ → Prop) : Prop :=
  match nextS o.op st.tm st.H with
  | some (b, s, pos) => br (Nat.blt pos s.size) (K (st.putH o.dst (.t [.v (.bool true), .v (.int .i64 pos), .v (.int .i32 (Utf8.decode s pos).1)]) (st.H.set b (.obj (.stringIter s (pos + (Utf8.decode s pos).2)))))) (K (st.putH o.dst (.t [.v (.bool false)]) st.H))
  | none => match stepV cfg.P o.op st.tm st.H with
  | some (c, x) => rq c (K (st.put o.dst x))
  | none => match stepL cfg.P o.op st.tm st.H with
    | some (c, x, H', _) => rq c (K (st.putH o.dst x H'))
    | none => match o.op with
      | .pick c a b => match ev st.tm c with
        | .v (.bool q) => br q (K ({ st with tm := setB c true st.tm }.put o.dst (ev (setB c true st.tm) a))) (K ({ st with tm := setB c false st.tm }.put o.dst (ev (setB c false st.tm) b)))
        | _ => False
      | .call { callee := .value f, args, .. } => match ev st.tm f with
        | .y b => yieldK rec b (args.toList.map (ev st.tm)) st.H (fun x H' => K (st.putH o.dst x H'))
        | x => match calleeS x with
          | some (g, fi, ca) => callK cfg rec g (fi ++ args.toList.map (ev st.tm) ++ ca) st.H (fun x H' => K (st.putH o.dst x H'))
          | none => False
      | _ => False
def boolV : SV → Option (Option Bool)
  | .v (.bool b) => some (some b)
  | .v _ => some none
  | .p _ _ => some none
  | .s _ _ _ _ => some none
  | .f _ _ => some none
  | .y _ => some none
  | .a _ => some none
  | .t _ => some none
  | _ => none
def opsK (cfg : Cfg τ) (rec : Rec τ) (ops : Array Oper) : List Oper → St τ → (St τ → Prop) → Prop
  | [], st, K => K st
  | o :: rest, st, K => match o.guard with
    | none => opK cfg rec o st (fun st' => opsK cfg rec ops rest st' K)
    | some (j, want) => match (ops[j]?).bind (·.dst) with
      | none => opsK cfg rec ops rest (st.put o.dst (.v undef)) K
      | some d => match st.tm[d]? with
        | none => opsK cfg rec ops rest (st.put o.dst (.v undef)) K
        | some x => match boolV x with
          | some none => opsK cfg rec ops rest (st.put o.dst (.v undef)) K
          | some (some b) => match want with
            | true => br b (opK cfg rec o (st.put (some d) (.v (.bool true))) (fun st' => opsK cfg rec ops rest st' K)) (opsK cfg rec ops rest ((st.put (some d) (.v (.bool false))).put o.dst (.v undef)) K)
            | false => br b (opsK cfg rec ops rest ((st.put (some d) (.v (.bool true))).put o.dst (.v undef)) K) (opK cfg rec o (st.put (some d) (.v (.bool false))) (fun st' => opsK cfg rec ops rest st' K))
          | none => False
def tmLe : List SV → List SV → Prop
  | [], [] => True
  | x :: xs, y :: ys => (match y with | .any => True | y => x = y) ∧ tmLe xs ys
  | _, _ => False
def BLe (b b' : SB τ) : Prop :=
  match b, b' with
  | _, .gone => True
  | .own (.sv l) n T sz ep nn, .own (.sv l') n' T' sz' ep' nn' => n = n' ∧ T = T' ∧ sz = sz' ∧ ep = ep' ∧ (nn' = true → nn = true) ∧ tmLe l l'
  | .own (.ints k xs) n T sz ep nn, .own (.ints k' xs') n' T' sz' ep' nn' => n = n' ∧ T = T' ∧ sz = sz' ∧ ep = ep' ∧ (nn' = true → nn = true) ∧ k = k' ∧ xs = xs'
  | .own (.recs xs) n T sz ep nn, .own (.recs xs') n' T' sz' ep' nn' => n = n' ∧ T = T' ∧ sz = sz' ∧ ep = ep' ∧ (nn' = true → nn = true) ∧ xs = xs'
  | .cells l T, .ints k xs n T' => T = T' ∧ l = xs.map (fun x => .v (.int k x)) ∧ xs.length = n
  | .cells l T, .cells l' T' => T = T' ∧ tmLe l l'
  | .loop st pd tm ps asg body d, .loop st' pd' tm' ps' asg' body' d' => st = st' ∧ pd = pd' ∧ tmLe tm tm' ∧ ps = ps' ∧ asg = asg' ∧ body = body' ∧ d = d'
  | b, b' => b = b'
def HLe : List (SB τ) → List (SB τ) → Prop
  | _, [] => True
  | [], _ :: _ => False
  | b :: bs, b' :: bs' => BLe b b' ∧ HLe bs bs'
mutual
def scS (k : Nat) : SV → Bool
  | .p b _ => Nat.blt b k
  | .s b _ _ _ => Nat.blt b k
  | .y b => Nat.blt b k
  | .h b _ => Nat.blt b k
  | .r b _ => Nat.blt b k
  | .f _ l => scL k l
  | .a l => scL k l
  | .t l => scL k l
  | _ => true
def scL (k : Nat) : List SV → Bool
  | [] => true
  | x :: xs => scS k x && scL k xs
end
def scB (k : Nat) : SB τ → Bool
  | .cells l _ => scL k l
  | .own (.sv l) _ _ _ _ _ => scL k l
  | .limbo b _ _ _ _ _ => Nat.blt b k
  | .loop _ _ tm _ _ _ d => scL k tm && Nat.blt d k
  | _ => true
def scH (k : Nat) : List (SB τ) → Bool
  | [] => true
  | b :: bs => scB k b && scH k bs
structure Weak (s s' : St τ) : Prop where
  tm : tmLe s.tm s'.tm
  H : HLe s.H s'.H
  df : s.df = s'.df
  base : s.base = s'.base
  rnd : s.rnd = s'.rnd
  le : Nat.ble s'.base s'.H.length = true
  sc : (scL s'.H.length s'.tm && scH s'.H.length s'.H && s'.df.all (Nat.blt · s'.H.length)) = true
def tmP : List SV → List SV → Prop
  | [], [] => True
  | x :: xs, y :: ys => match y with
    | .any => tmP xs ys
    | _ => x = y ∧ tmP xs ys
  | _, _ => False
theorem tmP_ok : ∀ {xs ys : List SV}, tmP xs ys → tmLe xs ys
  | [], [], _ => trivial
  | [], _ :: _, h => h.elim
  | _ :: _, [], h => h.elim
  | x :: xs, y :: ys, h => by
    unfold tmP at h
    unfold tmLe
    cases y with
    | any => exact ⟨trivial, tmP_ok h⟩
    | _ => exact ⟨h.1, tmP_ok h.2⟩
def bP (b b' : SB τ) : Prop :=
  match b' with
  | .gone => True
  | .own c' n' T' sz' ep' nn' => match b with
    | .own c n T sz ep nn => rq (Nat.beq T T' && Nat.beq sz sz' && (!nn' || nn)) (n = n' ∧ ep = ep' ∧ (match c' with
      | .sv l' => match c with
        | .sv l => tmP l l'
        | _ => False
      | .ints k' xs' => match c with
        | .ints k xs => rq (decide (k = k')) (xs = xs')
        | _ => False
      | .recs xs' => match c with
        | .recs xs => xs = xs'
        | _ => False))
    | _ => False
  | .rows R' T' TS' oe' ep' pd' => match b with
    | .rows R T TS oe ep pd => rq (Nat.beq T T' && Nat.beq TS TS' && pd.isNone && pd'.isNone) (oe = oe' ∧ ep = ep' ∧ (match R' with
      | .i k' l' => match R with
        | .i k l => rq (decide (k = k')) (l = l')
        | _ => False
      | .c l' => match R with
        | .c l => l = l'
        | _ => False))
    | _ => False
  | .limbo i' q' L' T' TS' ep' => match b with
    | .limbo i q L T TS ep => rq (Nat.beq i i' && Nat.beq T T' && Nat.beq TS TS') (q = q' ∧ ep = ep' ∧ (match L' with
      | .i k' l' => match L with
        | .i k l => rq (decide (k = k')) (l = l')
        | _ => False
      | .c l' => match L with
        | .c l => l = l'
        | _ => False))
    | _ => False
  | .inp c' => match b with
    | .inp c => c = c'
    | _ => False
  | .ints k' xs' n' T' => match b with
    | .cells l T => rq (Nat.beq T T' && Nat.beq l.length n' && allInts k' l) (intsOf l = xs')
    | .ints k xs n T => rq (Nat.beq T T' && Nat.beq n n' && decide (k = k')) (xs = xs')
    | _ => False
  | .cells l' T' => match b with
    | .cells l T => rq (Nat.beq T T') (tmP l l')
    | _ => False
  | .loop st' pd' tm' ps' asg' body' d' => match b with
    | .loop st pd tm ps asg body d => rq (st == st' && pd.isNone && pd'.isNone && Nat.beq d d') (tmP tm tm' ∧ ps = ps' ∧ asg = asg' ∧ body = body')
    | _ => False
  | .res r' => match b with
    | .res r => r = r'
    | _ => False
  | .obj o' => match b with
    | .obj o => o = o'
    | _ => False
theorem bP_ok {b b' : SB τ} (h : bP b b') : BLe b b' := by
  unfold bP at h
  cases b' with
  | gone => cases b <;> exact trivial
  | own c' n' T' sz' ep' nn' =>
    cases b with
    | own c n T sz ep nn =>
      obtain ⟨h1, h2, h3, h4⟩ := rq_elim h
      simp only [Bool.and_eq_true, Nat.beq_eq, Bool.or_eq_true, Bool.not_eq_true'] at h1
      have hnn : nn' = true → nn = true := fun hh => by
        rcases h1.2 with h5 | h5
        · rw [hh] at h5; cases h5
        · exact h5
      cases c' with
      | sv l' =>
        cases c with
        | sv l => exact ⟨h2, h1.1.1, h1.1.2, h3, hnn, tmP_ok h4⟩
        | _ => exact h4.elim
      | ints k' xs' =>
        cases c with
        | ints k xs =>
          obtain ⟨h5, h6⟩ := rq_elim h4
          exact ⟨h2, h1.1.1, h1.1.2, h3, hnn, of_decide_eq_true h5, h6⟩
        | _ => exact h4.elim
      | recs xs' =>
        cases c with
        | recs xs => exact ⟨h2, h1.1.1, h1.1.2, h3, hnn, h4⟩
        | _ => exact h4.elim
    | _ => exact h.elim
  | rows R' T' TS' oe' ep' pd' =>
    cases b with
    | rows R T TS oe ep pd =>
      obtain ⟨h1, h2, h3, h4⟩ := rq_elim h
      simp only [Bool.and_eq_true, Nat.beq_eq, Option.isNone_iff_eq_none] at h1
      obtain ⟨⟨⟨rfl, rfl⟩, rfl⟩, rfl⟩ := h1
      subst h2; subst h3
      cases R' with
      | i k' l' =>
        cases R with
        | i k l => obtain ⟨h5, h6⟩ := rq_elim h4; have h5 := of_decide_eq_true h5; subst h5; subst h6; rfl
        | _ => exact h4.elim
      | c l' =>
        cases R with
        | c l => simp only at h4; subst h4; rfl
        | _ => exact h4.elim
    | _ => exact h.elim
  | limbo i' q' L' T' TS' ep' =>
    cases b with
    | limbo i q L T TS ep =>
      obtain ⟨h1, h2, h3, h4⟩ := rq_elim h
      simp only [Bool.and_eq_true, Nat.beq_eq] at h1
      obtain ⟨⟨rfl, rfl⟩, rfl⟩ := h1
      subst h2; subst h3
      cases L' with
      | i k' l' =>
        cases L with
        | i k l => obtain ⟨h5, h6⟩ := rq_elim h4; have h5 := of_decide_eq_true h5; subst h5; subst h6; rfl
        | _ => exact h4.elim
      | c l' =>
        cases L with
        | c l => simp only at h4; subst h4; rfl
        | _ => exact h4.elim
    | _ => exact h.elim
  | inp c' =>
    cases b with
    | inp c =>
      simp only at h
      subst h
      rfl
    | _ => exact h.elim
  | ints k' xs' n' T' =>
    cases b with
    | cells l T =>
      obtain ⟨h1, h2⟩ := rq_elim h
      simp only [Bool.and_eq_true, Nat.beq_eq] at h1
      subst h2
      exact ⟨h1.1.1, allInts_ok h1.2, by rw [intsOf_length]; exact h1.1.2⟩
    | ints k xs n T =>
      obtain ⟨h1, h2⟩ := rq_elim h
      simp only [Bool.and_eq_true, Nat.beq_eq, decide_eq_true_eq] at h1
      obtain ⟨⟨rfl, rfl⟩, rfl⟩ := h1
      subst h2
      rfl
    | _ => exact h.elim
  | cells l' T' =>
    cases b with
    | cells l T => obtain ⟨h1, h2⟩ := rq_elim h; exact ⟨Nat.eq_of_beq_eq_true h1, tmP_ok h2⟩
    | _ => exact h.elim
  | loop st' pd' tm' ps' asg' body' d' =>
    cases b with
    | loop st pd tm ps asg body d =>
      obtain ⟨h1, h2, h3, h4, h5⟩ := rq_elim h
      simp only [Bool.and_eq_true, beq_iff_eq, Option.isNone_iff_eq_none, Nat.beq_eq] at h1
      exact ⟨h1.1.1.1, h1.1.1.2.trans h1.1.2.symm, tmP_ok h2, h3, h4, h5, h1.2⟩
    | _ => exact h.elim
  | res r' =>
    cases b with
    | res r => simp only at h; subst h; rfl
    | _ => exact h.elim
  | obj o' =>
    cases b with
    | obj o => simp only at h; subst h; rfl
    | _ => exact h.elim
def hP : List (SB τ) → List (SB τ) → Prop
  | _, [] => True
  | [], _ :: _ => False
  | b :: bs, c :: cs => bP b c ∧ hP bs cs
theorem hP_ok : ∀ {H H' : List (SB τ)}, hP H H' → HLe H H'
  | [], [], _ => trivial
  | _ :: _, [], _ => trivial
  | [], _ :: _, h => h.elim
  | b :: bs, c :: cs, h => ⟨bP_ok h.1, hP_ok h.2⟩
def beqNL : List Nat → List Nat → Bool
  | [], [] => true
  | a :: l, b :: r => Nat.beq a b && beqNL l r
  | _, _ => false
theorem beqNL_ok : ∀ {l r : List Nat}, beqNL l r = true → l = r
  | [], [], _ => rfl
  | [], _ :: _, h => by simp [beqNL] at h
  | _ :: _, [], h => by simp [beqNL] at h
  | a :: l, b :: r, h => by
    simp only [beqNL, Bool.and_eq_true, Nat.beq_eq] at h
    rw [h.1, beqNL_ok h.2]
def weakP (s s' : St τ) : Prop :=
  rq (beqNL s.df s'.df && Nat.beq s.base s'.base && (s.rnd == s'.rnd) && Nat.ble s'.base s'.H.length && (scL s'.H.length s'.tm && scH s'.H.length s'.H && s'.df.all (Nat.blt · s'.H.length))) (tmP s.tm s'.tm ∧ hP s.H s'.H)
theorem weakP_ok {s s' : St τ} (h : weakP s s') : Weak s s' := by
  obtain ⟨h1, h2, h3⟩ := rq_elim h
  rw [Bool.and_eq_true, Bool.and_eq_true, Bool.and_eq_true, Bool.and_eq_true] at h1
  obtain ⟨⟨⟨⟨a1, a2⟩, a3⟩, a4⟩, a5⟩ := h1
  exact ⟨tmP_ok h2, hP_ok h3, beqNL_ok a1, Nat.eq_of_beq_eq_true a2, by simpa using a3, a4, a5⟩
def assoc {α : Type} : List (Nat × α) → Nat → Option α
  | [], _ => none
  | (k, a) :: r, n => match Nat.beq k n with
    | true => some a
    | false => assoc r n
def tmplTm (keep : List Nat) (var : List (Nat × SV)) : Nat → List SV → List SV
  | _, [] => []
  | i, x :: xs => (match assoc var i with
    | some y => y
    | none => match hasN keep i with
      | true => x
      | false => .any) :: tmplTm keep var (i + 1) xs
def tmplH (var : List (Nat × SB τ)) : Nat → List (SB τ) → List (SB τ)
  | _, [] => []
  | i, x :: xs => (match assoc var i with
    | some y => y
    | none => x) :: tmplH var (i + 1) xs
def tmpl (keep : List Nat) (var : List (Nat × SV)) (heap : List (Nat × SB τ)) (st : St τ) : St τ :=
  { st with tm := tmplTm keep var 0 st.tm, H := tmplH heap 0 st.H }
def getI (tm : List SV) (i : Nat) : Option Int :=
  match tm[i]? with
  | some (.v (.int _ n)) => some n
  | _ => none
def getC (H : List (SB τ)) (i : Nat) : List SV :=
  match H[i]? with
  | some (.cells l _) => l
  | _ => []
def valInt (y : Value) : Int := match y with
  | .int _ n => n
  | _ => 0
def valStr (y : Value) : ByteArray := match y with
  | .string s => s
  | _ => ByteArray.empty
def svInt (x : SV) : Int := match x with
  | .v y => valInt y
  | _ => 0
def svStr (x : SV) : ByteArray := match x with
  | .v y => valStr y
  | _ => ByteArray.empty
def tmAt (l : List SV) (i : Nat) : SV := match l[i]? with
  | some x => x
  | none => .any
def tI (tm : List SV) (i : Nat) : Int := svInt (tmAt tm i)
def tS (tm : List SV) (i : Nat) : ByteArray := svStr (tmAt tm i)
def cAt (H : List (SB τ)) (b i : Nat) : SV := tmAt (getC H b) i
def cI (H : List (SB τ)) (b i : Nat) : Int := svInt (cAt H b i)
def cnInts (c : Cn) : List Int := match c with
  | .ints _ xs => xs
  | _ => []
def itInts (b : SB τ) : List Int := match b with
  | .own c _ _ _ _ _ => cnInts c
  | .ints _ xs _ _ => xs
  | _ => []
def xI (H : List (SB τ)) (b : Nat) : List Int := match H[b]? with
  | some it => itInts it
  | none => []
def forceN (n : Nat) (k : Nat → Prop) : Prop :=
  match n with
  | 0 => k 0
  | m + 1 => k (m + 1)
theorem forceN_eq (n : Nat) (k : Nat → Prop) : forceN n k = k n := by cases n <;> rfl
def forceV (x : Value) (k : Value → Prop) : Prop :=
  match x with
  | .int j n => k (.int j n)
  | .bool b => k (.bool b)
  | y => k y
theorem forceV_eq (x : Value) (k : Value → Prop) : forceV x k = k x := by cases x <;> rfl
def forceS (x : SV) (k : SV → Prop) : Prop :=
  match x with
  | .v y => forceV y fun y => k (.v y)
  | .p b o => k (.p b o)
  | y => k y
theorem forceS_eq (x : SV) (k : SV → Prop) : forceS x k = k x := by cases x <;> simp [forceS, forceV_eq]
def forceL : List SV → (List SV → Prop) → Prop
  | [], k => k []
  | x :: xs, k => forceS x fun y => forceL xs fun ys => k (y :: ys)
theorem forceL_eq : ∀ (l : List SV) (k : List SV → Prop), forceL l k = k l
  | [], _ => rfl
  | x :: xs, k => by simp only [forceL, forceS_eq, forceL_eq xs]
def forceB (b : SB τ) (k : SB τ → Prop) : Prop :=
  match b with
  | .cells l T => forceL l fun l => k (.cells l T)
  | .obj (.stringIter s p) => forceN p fun p => k (.obj (.stringIter s p))
  | .own (.ints j xs) n T sz ep nn => k (.own (.ints j xs) n T sz ep nn)
  | .loop st pd tm ps asg body d => forceL tm fun tm => k (.loop st pd tm ps asg body d)
  | y => k y
theorem forceB_eq (b : SB τ) (k : SB τ → Prop) : forceB b k = k b := by
  unfold forceB
  split
  · rw [forceL_eq]
  · rw [forceN_eq]
  · rfl
  · rw [forceL_eq]
  · rfl
def forceH : List (SB τ) → (List (SB τ) → Prop) → Prop
  | [], k => k []
  | x :: xs, k => forceB x fun y => forceH xs fun ys => k (y :: ys)
theorem forceH_eq : ∀ (l : List (SB τ)) (k : List (SB τ) → Prop), forceH l k = k l
  | [], _ => rfl
  | x :: xs, k => by simp only [forceH, forceB_eq, forceH_eq xs]
def forceNs : List Nat → (List Nat → Prop) → Prop
  | [], k => k []
  | x :: xs, k => forceN x fun y => forceNs xs fun ys => k (y :: ys)
theorem forceNs_eq : ∀ (l : List Nat) (k : List Nat → Prop), forceNs l k = k l
  | [], _ => rfl
  | x :: xs, k => by simp only [forceNs, forceN_eq, forceNs_eq xs]
def forceSt (s : St τ) (k : St τ → Prop) : Prop := forceL s.tm fun tm => forceH s.H fun H => forceNs s.df fun df => forceN s.base fun base => match s.rnd with
  | true => k { tm := tm, H := H, df := df, base := base, rnd := true }
  | false => k { tm := tm, H := H, df := df, base := base, rnd := false }
theorem forceSt_eq (s : St τ) (k : St τ → Prop) : forceSt s k = k s := by
  unfold forceSt
  rw [forceL_eq, forceH_eq, forceNs_eq, forceN_eq]
  cases s with
  | mk tm H df base rnd => cases rnd <;> rfl
def noneC (c : Cn) : Bool :=
  match c with
  | .sv l => l.isEmpty
  | .ints _ xs => xs.isEmpty
  | .recs xs => xs.isEmpty
def nilAt (l : List SV) (i : Nat) : Bool :=
  match l[i]? with
  | some x => nilS x
  | none => false
def rnN (b b' c : Nat) : Option Nat :=
  match Nat.beq c b with
  | true => none
  | false => match Nat.beq c b' with
    | true => some b
    | false => some c
mutual
def rnS (b b' : Nat) : SV → SV
  | .p c o => match rnN b b' c with
    | some d => .p d o
    | none => .any
  | .s c o l k => match rnN b b' c with
    | some d => .s d o l k
    | none => .any
  | .y c => match rnN b b' c with
    | some d => .y d
    | none => .any
  | .h c q => match rnN b b' c with
    | some d => .h d q
    | none => .any
  | .r c q => match rnN b b' c with
    | some d => .r d q
    | none => .any
  | .f fn cs => .f fn (rnL b b' cs)
  | .a l => .a (rnL b b' l)
  | .t l => .t (rnL b b' l)
  | .any => .any
  | .v x => .v x
def rnL (b b' : Nat) : List SV → List SV
  | [] => []
  | x :: xs => rnS b b' x :: rnL b b' xs
end
def rnOk (b b' c : Nat) : Bool := !Nat.beq c b && !Nat.beq c b'
def rnB (b b' : Nat) (it : SB τ) : Option (SB τ) :=
  match it with
  | .cells l T => some (.cells (rnL b b' l) T)
  | .own c n T sz ep nn => match c with
    | .sv l => some (.own (.sv (rnL b b' l)) n T sz ep nn)
    | _ => some (.own c n T sz ep nn)
  | .limbo c q L T TS ep => match rnOk b b' c with
    | true => some (.limbo c q L T TS ep)
    | false => none
  | .loop ls pd tm ps asg body d => match rnOk b b' d with
    | true => some (.loop ls pd (rnL b b' tm) ps asg body d)
    | false => none
  | it => some it
def rnH (b b' : Nat) (it : SB τ) : Nat → List (SB τ) → Option (List (SB τ))
  | _, [] => some []
  | i, x :: xs => match Nat.beq i b with
    | true => match rnH b b' it (i + 1) xs with
      | some ys => some (it :: ys)
      | none => none
    | false => match Nat.beq i b' with
      | true => match rnH b b' it (i + 1) xs with
        | some ys => some (.gone :: ys)
        | none => none
      | false => match rnB b b' x with
        | some y => match rnH b b' it (i + 1) xs with
          | some ys => some (y :: ys)
          | none => none
        | none => none
inductive AdK where
  | own (ep ep' : Nat)
  | blk (ep n : Nat)
def adN (q' c : Nat) (x : SV) : SV :=
  match Nat.beq c q' with
  | true => .any
  | false => x
mutual
def adS (q q' : Nat) (k : AdK) : SV → SV
  | .p c o => adN q' c (.p c o)
  | .s c o l m => match Nat.beq c q' with
    | false => .s c o l m
    | true => match k with
      | .blk ep n => match Nat.beq o 0 && (Nat.beq l n && Nat.beq m n) with
        | true => .h q [ep, 0]
        | false => .any
      | .own _ _ => .any
  | .y c => adN q' c (.y c)
  | .h c p => match Nat.beq c q' with
    | false => .h c p
    | true => match k with
      | .own ep ep' => match p with
        | e0 :: r => match Nat.beq e0 ep' with
          | true => .h q (ep :: r)
          | false => .any
        | [] => .any
      | .blk _ _ => .any
  | .r c p => adN q' c (.r c p)
  | .f fn cs => .f fn (adL q q' k cs)
  | .a l => .a (adL q q' k l)
  | .t l => .t (adL q q' k l)
  | .any => .any
  | .v x => .v x
def adL (q q' : Nat) (k : AdK) : List SV → List SV
  | [] => []
  | x :: xs => adS q q' k x :: adL q q' k xs
end
def adC (q q' : Nat) (k : AdK) (c : Cn) : Cn :=
  match c with
  | .sv l => .sv (adL q q' k l)
  | c => c
def adB (q q' : Nat) (k : AdK) (it : SB τ) : SB τ :=
  match it with
  | .cells l T => .cells (adL q q' k l) T
  | .own c n T sz ep nn => .own (adC q q' k c) n T sz ep nn
  | .loop ls pd tm ps asg body d => .loop ls pd (adL q q' k tm) ps asg body d
  | it => it
def adH (q q' : Nat) (k : AdK) (it : SB τ) : Nat → List (SB τ) → List (SB τ)
  | _, [] => []
  | i, x :: xs => (match Nat.beq i q with
    | true => it
    | false => match Nat.beq i q' with
      | true => .gone
      | false => adB q q' k x) :: adH q q' k it (i + 1) xs
def emptyC (c : Cn) : Cn :=
  match c with
  | .sv _ => .sv []
  | .ints k _ => .ints k []
  | .recs _ => .recs []
def likeC (c : Cn) (l : List SV) : Cn :=
  match c with
  | .ints k _ => match allInts k l with
    | true => .ints k (intsOf l)
    | false => .sv l
  | _ => .sv l
def fx1 (st : St τ) (f : Fx) : Option (St τ) :=
  match f with
  | .nilTm i c T sz => match nilAt st.tm i && noneC c with
    | true => some { st with tm := st.tm.set i (.h st.H.length [0, 0]), H := st.H ++ [.own c 0 T sz 0 false] }
    | false => none
  | .nilLoop b i c T sz => match st.H[b]? with
    | some (.loop ls pd tm ps asg body d) => match nilAt tm i && noneC c with
      | true => some { st with H := st.H.set b (.loop ls pd (tm.set i (.h st.H.length [0, 0])) ps asg body d) ++ [.own c 0 T sz 0 false] }
      | false => none
    | _ => none
  | .nilCell b i c T sz => match st.H[b]? with
    | some (.cells l T') => match nilAt l i && noneC c with
      | true => some { st with H := st.H.set b (.cells (l.set i (.h st.H.length [0, 0])) T') ++ [.own c 0 T sz 0 false] }
      | false => none
    | _ => none
  | .pad => some { st with H := st.H ++ [.gone] }
  | .mv b b' => match Nat.ble st.base b && (Nat.blt b st.H.length && (!Nat.beq b b' && st.df.all (rnOk b b'))) with
    | true => match st.H[b']? with
      | some x => match rnB b b' x with
        | some it => match rnH b b' it 0 st.H with
          | some H' => some { st with tm := rnL b b' st.tm, H := H' }
          | none => none
        | none => none
      | none => none
    | false => none
  | .nilInto b i q => match Nat.beq b q with
    | true => none
    | false => match st.H[b]? with
      | some (.cells l T') => match st.H[q]? with
        | some (.own c _ T sz ep _) => match nilAt l i with
          | true => some { st with H := (st.H.set q (.own (emptyC c) 0 T sz (ep + 1) false)).set b (.cells (l.set i (.h q [ep + 1, 0])) T') }
          | false => none
        | _ => none
      | _ => none
  | .adopt q q' => match Nat.beq q q' with
    | true => none
    | false => match st.H[q]? with
      | some (.own c _ T sz ep _) => match st.H[q']? with
        | some (.own c' n' T' sz' ep' nn') => match Nat.beq T T' && Nat.beq sz sz' with
          | true => some { st with tm := adL q q' (.own (ep + 1) ep') st.tm, H := adH q q' (.own (ep + 1) ep') (.own (adC q q' (.own (ep + 1) ep') c') n' T sz (ep + 1) nn') 0 st.H }
          | false => none
        | some (.cells l T') => match Nat.beq T T' && (Nat.beq sz 1 && Nat.ble l.length 1000) with
          | true => some { st with tm := adL q q' (.blk (ep + 1) l.length) st.tm, H := adH q q' (.blk (ep + 1) l.length) (.own (adC q q' (.blk (ep + 1) l.length) (likeC c l)) l.length T 1 (ep + 1) true) 0 st.H }
          | false => none
        | _ => none
      | _ => none
  | _ => none
def Rws.none (k : Option IntKind) (n : Nat) : Rws :=
  match k with
  | some k => .i k (List.replicate n [])
  | .none => .c (List.replicate n [])
def Lim.none (k : Option IntKind) : Lim :=
  match k with
  | some k => .i k []
  | .none => .c []
structure Nils (l : List SV) (n : Nat) : Prop where
  h : l = List.replicate n (.v (.slice .none 0 0))
structure NoRow (l : List SV) (n : Nat) : Prop where
  n0 : n = 0
  l0 : l = []
def fx2 (st : St τ) (f : Fx) : Option (Prop × St τ) :=
  match f with
  | .asRows b k T => match st.H[b]? with
    | some (.own c n TS sz ep nn) => match c with
      | .sv l => match Nat.beq sz 1 with
        | true => some (Nils l n, { st with H := st.H.set b (.rows (Rws.none k n) T TS ep (ep + 1) .none) })
        | false => .none
      | _ => .none
    | _ => .none
  | .asLimbo b b' k T => match st.H[b]? with
    | some (.own c n TS sz ep nn) => match c with
      | .sv l => match Nat.beq sz 1 with
        | true => match st.H[b']? with
          | some (.rows _ _ _ _ re _) => some (NoRow l n, { st with H := st.H.set b (.limbo b' re (Lim.none k) T TS ep) })
          | _ => .none
        | false => .none
      | _ => .none
    | _ => .none
  | _ => .none
def fxs (st : St τ) : List Fx → (St τ → Prop) → Prop
  | [], K => K st
  | f :: r, K => match fx1 st f with
    | some st' => fxs st' r K
    | none => match fx2 st f with
      | some (φ, st') => φ ∧ fxs st' r K
      | none => False
def fxK (A : Ann τ) (st : St τ) (K : St τ → Prop) : Prop :=
  forceSt st fun st => fxs st (A.fx st) fun st' => forceSt st' K
def annK (A : Ann τ) (rec : Rec τ) (body : Code) (st : St τ) (K : Exit → St τ → Prop) : Prop :=
  fxK A st fun st => match A.get st with
  | some x0 => A.φ st x0 ∧ weakP st (A.f st x0) ∧ ∀ x, A.φ st x → rec body (A.f st x) (fun ex s => match ex with
    | .normal => fxK A s fun s => match A.get s with
      | some y => A.φ st y ∧ weakP s (A.f st y) ∧ A.μ st y < A.μ st x
      | none => False
    | e => K e s)
  | none => False
def joinK (A : Ann τ) (st s : St τ) : Prop :=
  fxK A s fun s => match A.get s with
  | some y => A.φ st y ∧ weakP s (A.f st y)
  | none => False
def roundsK (rec : Rec τ) (body : Code) (K : Exit → St τ → Prop) : Nat → St τ → Prop
  | 0, _ => False
  | m + 1, st => rec body st (fun ex s => match ex with
    | .normal => forceSt s (roundsK rec body K m)
    | e => K e s)
end
end Go.Sym
namespace Go.Sym
open Go
variable {τ : Type} {I : Inv τ} {P : Program} {D : List Deferred}
def FrLe (Fr Fr' : PH) : Prop := ∀ n o, Fr n = some o → Fr' n = some o
theorem FrLe.refl (Fr : PH) : FrLe Fr Fr := fun _ _ h => h
theorem FrLe.trans {a b c : PH} (h : FrLe a b) (h' : FrLe b c) : FrLe a c := fun n o hn => h' n o (h n o hn)
theorem FrLe.none {a b : PH} (h : FrLe a b) {n : Nat} (hn : b n = none) : a n = none := by
  cases hq : a n with
  | none => rfl
  | some o => rw [h n o hq] at hn; cases hn
theorem Models.lessF {e : Env} {H : List (SB τ)} {Fr Fr' : PH} {w : World} (h : Models I e H Fr' w) (hle : FrLe Fr Fr') (hro : ∀ (k : Nat) (o : Obj), I.ro k = some o → Fr k = some o) : Models I e H Fr w := by
  obtain ⟨h0, hs, h1, h2, h3, h4, h5, h6⟩ := h
  exact ⟨⟨h0.os, h0.out, hro⟩, hs, h1, h2, h3, fun i k => (h4 i k).imp id fun hk => hle.none hk, h5, fun k o hk => h6 k o (hle k o hk)⟩
def addF (Fr : PH) (n : Nat) (o : Obj) : PH := fun k => if k = n then some o else Fr k
def remF (Fr : PH) (n : Nat) : PH := fun k => if k = n then none else Fr k
theorem addF_le {Fr : PH} {n : Nat} {o : Obj} (h : Fr n = none) : FrLe Fr (addF Fr n o) := fun k x hk => by
  unfold addF
  rw [if_neg (fun e => by subst e; rw [h] at hk; cases hk)]; exact hk
theorem Models.giveF {e : Env} {H : List (SB τ)} {Fr : PH} {w : World} (h : Models I e H Fr w) {i : Nat} {o : Obj} (hi : H[i]? = some (.obj o)) :
    ∃ n, e i = some (.blk n) ∧ Fr n = none ∧ w.heap[n]? = some o ∧ Models I e (H.set i .gone) (addF Fr n o) w := by
  obtain ⟨h0, hs, h1, h2, h3, h4, h5, h6⟩ := h
  obtain ⟨n, q1, q2⟩ := h1 i _ hi
  have hin : hs i n = some o := by rw [q2]; simp [single]
  have hfr : Fr n = none := by
    rcases h4 i n with h | h
    · rw [hin] at h; cases h
    · exact h
  have hlt : i < H.length := (List.getElem?_eq_some_iff.1 hi).1
  refine ⟨n, q1, hfr, h5 i n o hin, ⟨h0.os, h0.out, fun k x hk => addF_le hfr k x (h0.ro k x hk)⟩, fun j => if j = i then emp else hs j, fun j b hj => ?_, fun j hj => ?_, fun j k hjk x => ?_, fun j x => ?_, fun j k x hk => ?_, fun k x hk => ?_⟩
  · by_cases hji : j = i
    · subst hji
      rw [List.getElem?_set_self hlt] at hj
      cases hj
      simp [ItemOk]
    · rw [List.getElem?_set_ne (Ne.symm hji)] at hj
      simp only [hji, if_false]
      exact h1 j b hj
  · rw [List.length_set] at hj
    simp only [show j ≠ i by omega, if_false]
    exact h2 j hj
  · by_cases hji : j = i
    · simp only [hji, if_true, emp, true_or]
    · by_cases hki : k = i
      · simp only [hki, if_true, emp, or_true]
      · simp only [hji, hki, if_false]; exact h3 j k hjk x
  · by_cases hji : j = i
    · simp only [hji, if_true, emp, true_or]
    · simp only [hji, if_false]
      unfold addF
      split
      · rename_i hx; subst hx
        rcases h3 j i hji x with h | h
        · exact .inl h
        · rw [hin] at h; cases h
      · exact h4 j x
  · by_cases hji : j = i
    · simp only [hji, if_true, emp] at hk; cases hk
    · simp only [hji, if_false] at hk; exact h5 j k x hk
  · unfold addF at hk
    split at hk
    · rename_i hx; subst hx; cases hk; exact h5 i k o hin
    · exact h6 k x hk
theorem Models.takeF {e : Env} {H : List (SB τ)} {Fr : PH} {w : World} (h : Models I e H Fr w) {n : Nat} {o o' : Obj} (hn : Fr n = some o) (hro : I.ro n = none) :
    Models I e H (remF Fr n) { w with heap := w.heap.setIfInBounds n o' } := by
  obtain ⟨h0, hs, h1, h2, h3, h4, h5, h6⟩ := h
  refine ⟨⟨h0.os, h0.out, fun k x hk => ?_⟩, hs, h1, h2, h3, fun j k => ?_, fun j k x hk => ?_, fun k x hk => ?_⟩
  · unfold remF
    rw [if_neg (fun e => by subst e; rw [hro] at hk; cases hk)]
    exact h0.ro k x hk
  · unfold remF
    split
    · exact .inr rfl
    · exact h4 j k
  · have hkn : k ≠ n := fun e => by
      subst e
      rcases h4 j k with h | h
      · rw [hk] at h; cases h
      · rw [hn] at h; cases h
    have := h5 j k x hk
    simp only [Array.getElem?_setIfInBounds, Ne.symm hkn, if_false]
    exact this
  · unfold remF at hk
    split at hk
    · cases hk
    · rename_i hkn
      have := h6 k x hk
      simp only [Array.getElem?_setIfInBounds, Ne.symm hkn, if_false]
      exact this
def Grow (Fr : PH) (D : List Deferred) (Fr' : PH) (ds : List Deferred) : Prop :=
  FrLe Fr Fr' ∧ ∃ ns : List Nat, ds = ns.map (fun n => { target := .collected n, args := #[] }) ++ D ∧ ns.Nodup ∧ ∀ n ∈ ns, Fr n = none ∧ Fr' n = some (.deferred (some []))
theorem Grow.refl (Fr : PH) (D : List Deferred) : Grow Fr D Fr D := ⟨FrLe.refl Fr, [], rfl, List.nodup_nil, fun _ h => by cases h⟩
theorem Grow.trans {a b c : PH} {A B C : List Deferred} (h : Grow a A b B) (h' : Grow b B c C) : Grow a A c C := by
  obtain ⟨h1, ns, rfl, h2, h3⟩ := h
  obtain ⟨g1, ms, rfl, g2, g3⟩ := h'
  refine ⟨h1.trans g1, ms ++ ns, by rw [List.map_append, List.append_assoc], List.nodup_append.2 ⟨g2, h2, fun x hx y hy e => ?_⟩, fun n hn => ?_⟩
  · subst e
    have q1 := (g3 x hx).1
    rw [(h3 x hy).2] at q1; cases q1
  · rcases List.mem_append.1 hn with h | h
    · exact ⟨h1.none (g3 n h).1, (g3 n h).2⟩
    · exact ⟨(h3 n h).1, g1 n _ (h3 n h).2⟩
theorem Grow.one {Fr : PH} {D : List Deferred} {n : Nat} (h : Fr n = none) : Grow Fr D (addF Fr n (.deferred (some []))) ({ target := .collected n, args := #[] } :: D) :=
  ⟨addF_le h, [n], rfl, List.nodup_cons.2 ⟨List.not_mem_nil, List.nodup_nil⟩, fun k hk => by
    rw [List.mem_singleton] at hk; subst hk
    exact ⟨h, by simp [addF]⟩⟩
def FF (r : Option Nat) : Fence := { fn := fun _ => True, depth := none, alive := false, round := r }
theorem calls_FF {r : Option Nat} {n : Nat} {f : FuncId} {args : Array Value} {w : World} {R : Ending → World → Prop} (h : Calls P f args w R) : CallsIn (FF r) n P f args w R :=
  (callsIn_wide (n := n)).2 h
theorem calls_of_FF {r : Option Nat} {n : Nat} {f : FuncId} {args : Array Value} {w : World} {R : Ending → World → Prop} (h : CallsIn (FF r) n P f args w R) : Calls P f args w R :=
  (callsIn_wide (n := n)).1 h
def LeB (b : Nat) (e e' : Env) : Prop := ∀ i, i < b → ∀ r, e i = some r → ∃ r', e' i = some r' ∧ r.le r'
theorem LeB.refl (b : Nat) (e : Env) : LeB b e e := fun _ _ r h => ⟨r, h, r.le_refl⟩
theorem LeB.blk {b : Nat} {e e' : Env} (h : LeB b e e') {i n : Nat} (hi : i < b) (he : e i = some (.blk n)) : e' i = some (.blk n) := by
  obtain ⟨r, h1, h2⟩ := h i hi _ he
  rw [h1]; exact congrArg some h2
theorem LeB.of_le {b : Nat} {e e' : Env} (h : Le e e') : LeB b e e' := fun i _ r hr => h i r hr
theorem LeB.trans {b : Nat} {e e' e'' : Env} (h : LeB b e e') (h' : LeB b e' e'') : LeB b e e'' := fun i hi r hr => by
  obtain ⟨r1, h1, h2⟩ := h i hi r hr
  obtain ⟨r2, h3, h4⟩ := h' i hi r1 h1
  exact ⟨r2, h3, Ref.le_trans h2 h4⟩
structure StOk (I : Inv τ) (e : Env) (Fr : PH) (D : List Deferred) (st : St τ) (a : Act) (w : World) : Prop where
  models : Models I e st.H Fr w
  tm : DenL e st.tm a.tmps.toList
  df : st.df = [] ∧ a.defers = D
def Post (I : Inv τ) (e : Env) (Fr : PH) (D : List Deferred) (st : St τ) (K : Exit → St τ → Prop) : Exit → Act → World → Prop := fun ex a w =>
  ∃ e' st' Fr' D', LeB st.base e e' ∧ st'.base = st.base ∧ st'.rnd = st.rnd ∧ (Grow Fr D Fr' D' ∧ (st.rnd = true → Fr' = Fr)) ∧ StOk I e' Fr' D' st' a w ∧ K ex st'
theorem Post.here {e e' : Env} {Fr : PH} {st st' : St τ} {K : Exit → St τ → Prop} {ex : Exit} {a : Act} {w : World} (h1 : LeB st.base e e') (h2 : st'.base = st.base) (h3 : st'.rnd = st.rnd) (h4 : StOk I e' Fr D st' a w) (h5 : K ex st') : Post I e Fr D st K ex a w :=
  ⟨e', st', Fr, D, h1, h2, h3, ⟨Grow.refl Fr D, fun _ => rfl⟩, h4, h5⟩
theorem Post.trans {e e' : Env} {Fr Fr' : PH} {D' : List Deferred} {st st' : St τ} {K : Exit → St τ → Prop} {ex : Exit} {a : Act} {w : World} (hl : LeB st.base e e') (hb : st'.base = st.base) (hr : st'.rnd = st.rnd) (hg : Grow Fr D Fr' D' ∧ (st.rnd = true → Fr' = Fr))
    (h : Post I e' Fr' D' st' K ex a w) : Post I e Fr D st K ex a w := by
  obtain ⟨e2, s2, Fr2, D2, h1, h2, h3, h4, h5, h6⟩ := h
  exact ⟨e2, s2, Fr2, D2, hl.trans (hb ▸ h1), h2.trans hb, h3.trans hr, ⟨hg.1.trans h4.1, fun q => (h4.2 (hr.trans q)).trans (hg.2 q)⟩, h5, h6⟩
def RecOk (I : Inv τ) (P : Program) (rec : Rec τ) : Prop :=
  ∀ (c : Code) (st : St τ) (K : Exit → St τ → Prop) (e : Env) (Fr : PH) (D : List Deferred) (a : Act) (w : World) (r : Option Nat),
    st.rnd = r.isSome → rec c st K → StOk I e Fr D st a w → c.wpIn (FF r) 0 P (Post I e Fr D st K) a w
def Ends (I : Inv τ) (e : Env) (Fr : PH) (K : SV → List (SB τ) → Prop) : Ending → World → Prop := fun en w' =>
  ∃ x H' e' v, en = .returned v ∧ Le e e' ∧ Models I e' H' Fr w' ∧ Den e' x v ∧ K x H'
def ConOk (I : Inv τ) (P : Program) (g : FuncId) (con : Con τ) : Prop :=
  ∀ (args : List SV) (H : List (SB τ)) (K : SV → List (SB τ) → Prop) (e : Env) (Fr : PH) (w : World) (vs : List Value),
    con args H K → DenL e args vs → Models I e H Fr w → Calls P g vs.toArray w (Ends I e Fr K)
theorem put_den {e : Env} {tm : List SV} {a : Act} {x : SV} {v : Value} (dst : Option Tmp) (h : DenL e tm a.tmps.toList) (hd : Den e x v) : DenL e (putS dst x tm) (a.put dst v).tmps.toList := by
  cases dst with
  | none => exact h
  | some d => simpa [putS, Act.put] using h.set hd
theorem put_defers (a : Act) (dst : Option Tmp) (v : Value) : (a.put dst v).defers = a.defers := by cases dst <;> rfl
theorem set_same {e : Env} : ∀ {tm : List SV} {vs : List Value} {t : Nat} {x : SV}, DenL e tm vs → (∀ v, vs[t]? = some v → Den e x v) → DenL e (tm.set t x) vs
  | [], _, _, _, h, _ => by simpa using h
  | y :: tm, _, t, x, h, hx => by
    simp only [DenL] at h
    obtain ⟨v, r, rfl, h2, h3⟩ := h
    cases t with
    | zero => simp only [List.set_cons_zero, DenL]; exact ⟨v, r, rfl, hx v (by simp), h3⟩
    | succ t => simp only [List.set_cons_succ, DenL]; exact ⟨v, r, rfl, h2, set_same h3 (fun u hu => hx u (by simpa using hu))⟩
theorem setB_den {e : Env} {tm : List SV} {a : Act} {c : Operand} {b : Bool} (h : DenL e tm a.tmps.toList) (hb : ev tm c = .v (.bool b)) : DenL e (setB c b tm) a.tmps.toList := by
  cases c with
  | tmp t =>
    refine set_same h fun v hv => ?_
    have hd := ev_ok h (.tmp t)
    rw [hb] at hd
    simp only [Den, Act.eval] at hd ⊢
    have : a.tmps[t]? = some v := by simpa using hv
    simpa [this] using hd
  | _ => exact h
theorem semAt_eq {o : Oper} {r : Option Nat} {ρ : Operand → Value} (h : ∀ c, o.op ≠ .defer c) : o.semAt r ρ = execOp ρ o := by
  unfold Oper.semAt
  split
  · rename_i l c hc; exact absurd hc (h c)
  · rfl
def resRun (tmps : Array Value) : ResultVar → Sem Value
  | .tmp t => pure (tmps.getD t undef)
  | .cell a t => do loadVar t (← asAddr (tmps.getD a undef))
theorem results_eq (fn : Func) (tmps : Array Value) : results fn tmps = (do
    let vs ← fn.results.mapM (resRun tmps)
    pure (if h : vs.size = 1 then vs[0] else .tuple vs)) := by
  unfold results
  have : (fun (x : ResultVar) => (match x with
    | .tmp t => pure (tmps.getD t undef)
    | .cell a t => do loadVar t (← asAddr (tmps.getD a undef)) : Sem Value)) = resRun tmps := by
    funext x; cases x <;> rfl
  rw [← this]
  rfl
theorem resS_ok {e : Env} {tm : List SV} {H : List (SB τ)} {Fr : PH} {w : World} {tmps : Array Value} (hM : Models I e H Fr w) (ht : DenL e tm tmps.toList) :
    ∀ {rs : List ResultVar} {l : List SV}, resS P tm H rs = some l →
      ∃ vs, (rs.mapM (resRun tmps)).run P w = .ok vs w ∧ DenL e l vs
  | [], l, h => by simp only [resS, Option.some.injEq] at h; subst h; exact ⟨[], by simp, by simp [DenL]⟩
  | .tmp t :: rs, l, h => by
    unfold resS at h
    split at h
    · rename_i l' h1
      simp only [Option.some.injEq] at h
      subst h
      obtain ⟨vs, hv, hd⟩ := resS_ok hM ht h1
      have ht' : Den e (tm.getD t (.v undef)) (tmps.getD t undef) := ev_ok (a := { tmps := tmps, defers := [] }) ht (.tmp t)
      refine ⟨tmps.getD t undef :: vs, ?_, ?_⟩
      · simp only [List.mapM_cons, resRun, Sem.run_bind, Sem.run_pure, Result.andThen_ok, hv]
      · simp only [DenL]; exact ⟨_, _, rfl, ht', hd⟩
    · simp at h
  | .cell a T :: rs, l, h => by
    unfold resS at h
    split at h
    · rename_i x l' hx h1
      simp only [Option.some.injEq] at h
      subst h
      obtain ⟨vs, hv, hd⟩ := resS_ok hM ht h1
      have ha' : Den e (tm.getD a (.v undef)) (tmps.getD a undef) := ev_ok (a := { tmps := tmps, defers := [] }) ht (.tmp a)
      obtain ⟨u, hu, hdu⟩ := loadS_ok hM hx ha'
      have hpt : ∃ ad, tmps.getD a undef = .pointer (some ad) ∧ (loadVar T ad).run P w = .ok u w := by
        unfold loadS at hx
        split at hx
        · rename_i b o heq
          rw [heq] at ha'
          simp only [Den] at ha'
          obtain ⟨n, _, hp⟩ := ha'
          refine ⟨_, hp, ?_⟩
          rw [hp] at hu
          simpa [Instr.loadAt, Instr.sureAddr] using hu
        · simp at hx
      obtain ⟨ad, hp, hl⟩ := hpt
      refine ⟨u :: vs, ?_, ?_⟩
      · have h2 : (resRun tmps (.cell a T)).run P w = .ok u w := by simp only [resRun, Sem.run_bind, hp, asAddr, Sem.run_pure, Result.andThen_ok, hl]
        simp only [List.mapM_cons, Sem.run_bind, h2, Sem.run_pure, Result.andThen_ok, hv]
      · simp only [DenL]; exact ⟨_, _, rfl, hdu, hd⟩
    · simp at h
theorem results_ok {e : Env} {tm : List SV} {H : List (SB τ)} {Fr : PH} {w : World} {tmps : Array Value} {fn : Func} {l : List SV} (hM : Models I e H Fr w) (ht : DenL e tm tmps.toList)
    (h : resS P tm H fn.results.toList = some l) : ∃ v, (results fn tmps).run P w = .ok v w ∧ Den e (oneR l) v := by
  obtain ⟨vs, hv, hd⟩ := resS_ok hM ht h
  have hm : (fn.results.mapM (resRun tmps)).run P w = .ok vs.toArray w := by
    rw [Array.mapM_eq_mapM_toList]
    simp only [Sem.run_map]
    rw [hv]
    rfl
  have hr : (results fn tmps).run P w = .ok (if h : vs.toArray.size = 1 then vs.toArray[0] else .tuple vs.toArray) w := by
    rw [results_eq, Sem.run_bind, hm]
    rfl
  refine ⟨_, hr, ?_⟩
  match l, vs, hd with
  | [], _, hd => simp only [DenL] at hd; subst hd; simp [oneR, Den, DenL]
  | [x], _, hd =>
    simp only [DenL] at hd
    obtain ⟨v, r, rfl, h2, rfl⟩ := hd
    simpa [oneR] using h2
  | x :: y :: l, vs, hd =>
    have hl := hd.length
    have : ¬ vs.length = 1 := by simp at hl; omega
    simp only [oneR, List.size_toArray, this, dite_false, Den]
    exact ⟨vs, hd, rfl⟩
theorem run_getObj {w : World} {n : Nat} {o : Obj} (h : w.heap[n]? = some o) (hc : ∀ c t f, o ≠ .cells c t f) : (getObj n).run P w = .ok o w := by
  unfold getObj
  simp only [Sem.run, h]
theorem run_setObj {w : World} {n : Nat} {o o' : Obj} (h : w.heap[n]? = some o) (hc : ∀ c t f, o ≠ .cells c t f) : (setObj n o').run P w = .ok () { w with heap := w.heap.setIfInBounds n o' } := by
  unfold setObj
  simp only [Sem.run, h]
theorem Models.obj {e : Env} {H : List (SB τ)} {Fr : PH} {w : World} (h : Models I e H Fr w) {i : Nat} {o : Obj} (hi : H[i]? = some (.obj o)) : ∃ n, e i = some (.blk n) ∧ w.heap[n]? = some o := by
  obtain ⟨hn, ⟨n, h1, rfl⟩, h5⟩ := h.item hi
  exact ⟨n, h1, h5 n _ (by simp [single])⟩
theorem Models.putObj {e : Env} {H : List (SB τ)} {Fr : PH} {w : World} (h : Models I e H Fr w) {i n : Nat} {b b' : SB τ} {o o' : Obj} (hi : H[i]? = some b) (hn : e i = some (.blk n)) (ho : w.heap[n]? = some o)
    (hb : ∀ hp, ItemOk I e b (e i) hp → ∃ o, hp = single n o) (hb' : ItemOk I e b' (e i) (single n o')) : Models I e (H.set i b') Fr { w with heap := w.heap.setIfInBounds n o' } := by
  have hlt : n < w.heap.size := (Array.getElem?_eq_some_iff.1 ho).1
  exact h.turn hi hn hb hb' (by simp [hlt]) (fun k hk => by simp [Array.getElem?_setIfInBounds, Ne.symm hk]) ⟨rfl, rfl⟩
theorem leave_ok {fn : Func} {R : Ending → World → Prop} {e : Env} {Fr : PH} {K : SV → List (SB τ) → Prop} {st : St τ} {tmps : Array Value} {H : List (SB τ)} (hR : ∀ v w x, Models I e H Fr w → Den e x v → K x H → R (.returned v) w)
    (ht : DenL e st.tm tmps.toList) (hro : ∀ (k : Nat) (o : Obj), I.ro k = some o → Fr k = some o)
    (h : match resS P st.tm H fn.results.toList with
          | some l => K (oneR l) H
          | none => False) : ∀ {ns : List Nat} {Fr' : PH} {w : World}, Models I e H Fr' w → FrLe Fr Fr' → ns.Nodup → (∀ n ∈ ns, Fr n = none ∧ Fr' n = some (.deferred (some []))) →
      LeavesInM (FF none) 0 P fn tmps R (ns.map fun n => { target := .collected n, args := #[] }) .returning w
  | [], Fr', w, hM, hF, _, _ => by
    have hM := hM.lessF hF hro
    split at h
    · rename_i l hl
      obtain ⟨v, hv, hdv⟩ := results_ok hM ht hl
      exact ⟨v, hv, hR v w _ hM hdv h⟩
    · exact h.elim
  | n :: ns, Fr', w, hM, hF, hd, hn => by
    obtain ⟨h1, h2⟩ := hn n List.mem_cons_self
    obtain ⟨d1, d2⟩ := List.nodup_cons.1 hd
    have g2 : w.heap[n]? = some (.deferred (some [])) := by
      obtain ⟨_, hs, _, _, _, _, _, h6⟩ := hM
      exact h6 n _ h2
    have hron : I.ro n = none := by
      cases hq : I.ro n with
      | none => rfl
      | some o => rw [hro n o hq] at h1; cases h1
    have hM' := hM.takeF (o' := .deferred none) h2 hron
    refine ⟨(by intro hc; cases hc), .inl ⟨n, _, rfl, ?_, leave_ok hR ht hro h hM' (fun k o hk => ?_) d2 fun m hm => ⟨(hn m (List.mem_cons_of_mem _ hm)).1, ?_⟩⟩⟩
    · simp only [Instr.takeDeferred, Sem.run_bind, run_getObj (P := P) g2 (by intro c t f hc; cases hc), Result.andThen_ok, run_setObj (P := P) g2 (by intro c t f hc; cases hc), Sem.run_pure]
    · unfold remF
      rw [if_neg (fun e => by subst e; rw [h1] at hk; cases hk)]
      exact hF k o hk
    · unfold remF
      rw [if_neg (fun e => by subst e; exact d1 hm)]
      exact (hn m (List.mem_cons_of_mem _ hm)).2
theorem body_ok {rec : Rec τ} (hrec : RecOk I P rec) {g : FuncId} {fn : Func} {args : List SV} {H : List (SB τ)} {K : SV → List (SB τ) → Prop} {e : Env} {Fr : PH} {w : World} {vs : List Value}
    (hf : P.funcs[g]? = some fn) (h : bodyK P rec fn args H K) (hd : DenL e args vs) (hM : Models I e H Fr w) : Calls P g vs.toArray w (Ends I e Fr K) := by
  unfold bodyK at h
  split at h
  · rename_i c hc
    refine calls_of_FF (r := none) (n := 0) (callsIn_of_wp_marks hf hc trivial ?_)
    have hok : StOk I e Fr [] { tm := args ++ List.replicate (fn.ntmps - args.length) (.v undef), H := H, df := [], base := H.length, rnd := false }
        { tmps := vs.toArray ++ Array.replicate (fn.ntmps - vs.toArray.size) undef, defers := [] } w := by
      refine ⟨hM, ?_, rfl, rfl⟩
      have hl := hd.length
      have := hd.append (DenL.replicate (e := e) (.v undef) undef (by simp [Den]) (fn.ntmps - args.length))
      rw [hl] at this
      simpa [hl] using this
    have hfr := hM
    refine wpIn_mono (hrec _ _ _ e Fr [] _ w none rfl h hok) fun ex a' w' hp => ?_
    obtain ⟨e', st', Fr', D', hle, hb, hr, ⟨⟨hF, ns, hD, hnd, hns⟩, _⟩, hok', hK⟩ := hp
    have hLe : Le e e' := fun i r hi => by
      by_cases hlt : i < H.length
      · exact hle i hlt r hi
      · obtain ⟨_, hs, _, h2, _⟩ := hfr
        rw [(h2 i (by omega)).1] at hi
        cases hi
    have key : leaveK P fn st' K → LeavesInM (FF none) 0 P fn a'.tmps (Ends I e Fr K) a'.defers .returning w' := fun hk => by
      rw [hok'.df.2, hD, List.append_nil]
      unfold leaveK at hk
      rw [hok'.df.1] at hk
      simp only [takeDf] at hk
      exact leave_ok (R := Ends I e Fr K) (K := K) (fun v w x hM' hdv hx => ⟨x, st'.H, e', v, rfl, hLe, hM', hdv, hx⟩) hok'.tm hM.1.ro hk hok'.models hF hnd hns
    cases ex with
    | normal => exact key hK
    | ret => exact key hK
    | exit id => exact hK.elim
    | goto l => exact hK.elim
    | panic c => exact hK.elim
    | outgrown => exact hK.elim
  · exact h.elim
structure AConOk (I : Inv τ) (P : Program) (g : FuncId) (ac : ACon τ) : Prop where
  keeps : ∀ args H x H' ws b, (ac args H).has x H' ws → hasN ws b = false → b < H.length → H'[b]? = H[b]? ∧ H.length ≤ H'.length
  ok : ∀ (args : List SV) (H : List (SB τ)) (e : Env) (Fr : PH) (w : World) (vs : List Value), (ac args H).pre → DenL e args vs → Models I e H Fr w →
    Calls P g vs.toArray w fun en w' => ∃ x H' ws e' v, (ac args H).has x H' ws ∧ en = .returned v ∧ Le e e' ∧ Models I e' H' Fr w' ∧ Den e' x v
structure ConsOk (I : Inv τ) (cfg : Cfg τ) : Prop where
  con : ∀ g con, cfg.con g = some con → ConOk I cfg.P g con
  acon : ∀ g ac, cfg.acon g = some ac → AConOk I cfg.P g ac
theorem call_ok {cfg : Cfg τ} {rec : Rec τ} (hrec : RecOk I cfg.P rec) (hcon : ConsOk I cfg) {g : FuncId} {args : List SV} {H : List (SB τ)} {K : SV → List (SB τ) → Prop}
    {e : Env} {Fr : PH} {w : World} {vs : List Value} (h : callK cfg rec g args H K) (hd : DenL e args vs) (hM : Models I e H Fr w) :
    (∀ (as : Array Value) (w : World), (callFunc g as).run cfg.P w = .ok (.enter g as) w) ∧ Calls cfg.P g vs.toArray w (Ends I e Fr K) := by
  unfold callK at h
  split at h
  · rename_i fn hfn
    split at h
    · rename_i hn hb
      refine ⟨fun as w => ?_, ?_⟩
      · simp only [callFunc, Sem.run_bind, run_program, Result.andThen_ok, hfn, hn, hb, Bool.false_eq_true, if_false, Sem.run_pure]
      · split at h
        · rename_i con hc
          exact hcon.con g con hc args H K e Fr w vs h hd hM
        · split at h
          · rename_i ac hc
            refine ((hcon.acon g ac hc).ok args H e Fr w vs (altK_pre h) hd hM).mono fun en w' he => ?_
            obtain ⟨x, H', ws, e', v, h1, h2, h3, h4, h5⟩ := he
            exact ⟨x, H', e', v, h2, h3, h4, h5, altK_has h h1⟩
          · exact body_ok hrec hfn h hd hM
    · exact h.elim
  · exact h.elim
theorem callee_ok {e : Env} {x : SV} {v : Value} {g : FuncId} {fi ca : List SV} (h : calleeS x = some (g, fi, ca)) (hd : Den e x v) :
    ∃ fs cs, v = .func (.func g) fs cs ∧ DenL e fi fs.toList ∧ DenL e ca cs.toList := by
  unfold calleeS at h
  split at h
  · simp only [Option.some.injEq, Prod.mk.injEq] at h
    obtain ⟨rfl, rfl, rfl⟩ := h
    simp only [Den] at hd
    exact ⟨_, _, hd, DenL.plain _, DenL.plain _⟩
  · simp only [Option.some.injEq, Prod.mk.injEq] at h
    obtain ⟨rfl, rfl, rfl⟩ := h
    simp only [Den] at hd
    obtain ⟨vs, h1, rfl⟩ := hd
    exact ⟨#[], vs.toArray, rfl, by simp [DenL], by simpa using h1⟩
  · simp at h
end Go.Sym
namespace Go.Sym
open Go
variable {τ : Type} {I : Inv τ} {P : Program} {D : List Deferred}
def cut (e : Env) (k : Nat) : Env := fun i => if i < k then e i else none
mutual
theorem den_cut {e : Env} {k : Nat} : ∀ (x : SV) (v : Value), scS k x = true → Den e x v → Den (cut e k) x v
  | .any, _, _, _ => by simp [Den]
  | .v x, _, _, h => by simpa [Den] using h
  | .p b o, _, hs, h => by simp only [scS, Nat.blt_eq] at hs; simp only [Den, cut, hs, if_true] at h ⊢; exact h
  | .s b o len cap, _, hs, h => by simp only [scS, Nat.blt_eq] at hs; simp only [Den, cut, hs, if_true] at h ⊢; exact h
  | .f fn cs, _, hs, h => by simp only [scS] at hs; simp only [Den] at h ⊢; obtain ⟨vs, h1, h2⟩ := h; exact ⟨vs, denL_cut cs vs hs h1, h2⟩
  | .y b, _, hs, h => by simp only [scS, Nat.blt_eq] at hs; simp only [Den, cut, hs, if_true] at h ⊢; exact h
  | .h b path, _, hs, h => by simp only [scS, Nat.blt_eq] at hs; simp only [Den, cut, hs, if_true] at h ⊢; exact h
  | .r b path, _, hs, h => by simp only [scS, Nat.blt_eq] at hs; simp only [Den, cut, hs, if_true] at h ⊢; exact h
  | .a l, _, hs, h => by simp only [scS] at hs; simp only [Den] at h ⊢; obtain ⟨vs, h1, h2⟩ := h; exact ⟨vs, denL_cut l vs hs h1, h2⟩
  | .t l, _, hs, h => by simp only [scS] at hs; simp only [Den] at h ⊢; obtain ⟨vs, h1, h2⟩ := h; exact ⟨vs, denL_cut l vs hs h1, h2⟩
theorem denL_cut {e : Env} {k : Nat} : ∀ (xs : List SV) (vs : List Value), scL k xs = true → DenL e xs vs → DenL (cut e k) xs vs
  | [], _, _, h => by simpa [DenL] using h
  | x :: xs, _, hs, h => by
    simp only [scL, Bool.and_eq_true] at hs
    simp only [DenL] at h ⊢
    obtain ⟨v, r, h1, h2, h3⟩ := h
    exact ⟨v, r, h1, den_cut x v hs.1 h2, denL_cut xs r hs.2 h3⟩
end
theorem tmLe_den {e : Env} : ∀ {xs ys : List SV} {vs : List Value}, tmLe xs ys → DenL e xs vs → DenL e ys vs
  | [], [], _, _, h => h
  | [], _ :: _, _, h, _ => by simp [tmLe] at h
  | _ :: _, [], _, h, _ => by simp [tmLe] at h
  | x :: xs, y :: ys, _, h, hd => by
    simp only [tmLe] at h
    simp only [DenL] at hd ⊢
    obtain ⟨v, r, h1, h2, h3⟩ := hd
    refine ⟨v, r, h1, ?_, tmLe_den h.2 h3⟩
    have h' := h.1
    split at h'
    · simp [Den]
    · rw [← h']; exact h2
theorem HLe.get : ∀ {H H' : List (SB τ)} {i : Nat} {b' : SB τ}, HLe H H' → H'[i]? = some b' → ∃ b, H[i]? = some b ∧ BLe b b'
  | _, [], _, _, _, hi => by simp at hi
  | [], _ :: _, _, _, h, _ => by simp [HLe] at h
  | b :: bs, c :: cs, i, b', h, hi => by
    simp only [HLe] at h
    cases i with
    | zero => simp at hi; subst hi; exact ⟨b, by simp, h.1⟩
    | succ i => simp at hi; obtain ⟨d, h1, h2⟩ := HLe.get h.2 hi; exact ⟨d, by simpa using h1, h2⟩
theorem HLe.length : ∀ {H H' : List (SB τ)}, HLe H H' → H'.length ≤ H.length
  | _, [], _ => by simp
  | [], _ :: _, h => by simp [HLe] at h
  | b :: bs, c :: cs, h => by simp only [HLe] at h; have := HLe.length h.2; simp; omega
theorem scH_get {k : Nat} : ∀ {H : List (SB τ)} {i : Nat} {b : SB τ}, scH k H = true → H[i]? = some b → scB k b = true
  | [], _, _, _, hi => by simp at hi
  | c :: cs, i, b, h, hi => by
    simp only [scH, Bool.and_eq_true] at h
    cases i with
    | zero => simp at hi; subst hi; exact h.1
    | succ i => simp at hi; exact scH_get h.2 hi
theorem item_cut {e : Env} {k : Nat} {b b' : SB τ} {r : Option Ref} {h : PH} (hle : BLe b b') (hsc : scB k b' = true) (hi : ItemOk I e b r h) (hg : b' = .gone → h = emp) :
    ItemOk I (cut e k) b' r h := by
  cases b' with
  | gone => exact hg rfl
  | own c' n' T' sz' ep' nn' =>
    cases b with
    | own c n T sz ep nn =>
      obtain ⟨f, v, vs, h1, h2, h3, h4, h5, h6⟩ := hi
      cases c' with
      | sv l' =>
        cases c with
        | sv l =>
          obtain ⟨rfl, rfl, rfl, rfl, hnn, htm⟩ := hle
          exact ⟨f, v, vs, h1, h2, h3, denL_cut _ _ hsc (tmLe_den htm h4), h5, fun hh => h6 (hnn hh)⟩
        | _ => simp [BLe] at hle
      | ints k' xs' =>
        cases c with
        | ints k xs =>
          obtain ⟨rfl, rfl, rfl, rfl, hnn, rfl, rfl⟩ := hle
          exact ⟨f, v, vs, h1, h2, h3, h4, h5, fun hh => h6 (hnn hh)⟩
        | _ => simp [BLe] at hle
      | recs xs' =>
        cases c with
        | recs xs =>
          obtain ⟨rfl, rfl, rfl, rfl, hnn, rfl⟩ := hle
          exact ⟨f, v, vs, h1, h2, h3, h4, h5, fun hh => h6 (hnn hh)⟩
        | _ => simp [BLe] at hle
    | _ => cases c' <;> simp [BLe] at hle
  | rows R' T' TS' oe' ep' pd' =>
    have hb : b = .rows R' T' TS' oe' ep' pd' := by
      cases b with
      | rows R T TS oe ep pd => simpa [BLe] using hle
      | own c _ _ _ _ _ => cases c <;> simp [BLe] at hle
      | _ => simp [BLe] at hle
    subst hb
    exact hi
  | limbo i' q' L' T' TS' ep' =>
    have hb : b = .limbo i' q' L' T' TS' ep' := by
      cases b with
      | limbo i q L T TS ep => simpa [BLe] using hle
      | own c _ _ _ _ _ => cases c <;> simp [BLe] at hle
      | _ => simp [BLe] at hle
    subst hb
    obtain ⟨f, u, us, ho, hr, fb, gb, h1, h2, h3, h4, h5⟩ := hi
    simp only [scB, Nat.blt_eq] at hsc
    exact ⟨f, u, us, ho, hr, fb, gb, h1, h2, h3, by simp only [cut, hsc, if_true]; exact h4, h5⟩
  | inp c' =>
    have hb : b = .inp c' := by
      cases b with
      | inp c => simpa [BLe] using hle
      | own c _ _ _ _ _ => cases c <;> simp [BLe] at hle
      | _ => simp [BLe] at hle
    subst hb
    exact hi
  | ints k' xs' n' T' =>
    cases b with
    | cells l T =>
      obtain ⟨rfl, rfl, hl⟩ := hle
      obtain ⟨n, vs, h1, h2, h3⟩ := hi
      have hvs : vs = xs'.map (Value.int k') := by
        clear h3 hl hg hsc
        induction xs' generalizing vs with
        | nil => simpa [DenL] using h2
        | cons x xs ih =>
          simp only [List.map_cons, DenL] at h2
          obtain ⟨v, r, rfl, h4, h5⟩ := h2
          simp only [Den] at h4
          rw [h4, ih r h5]
          rfl
      subst hvs
      exact ⟨n, h1, hl, h3⟩
    | ints k xs n T => simp only [BLe, SB.ints.injEq] at hle; obtain ⟨rfl, rfl, rfl, rfl⟩ := hle; exact hi
    | _ => simp [BLe] at hle
  | cells l' T' =>
    cases b with
    | cells l T =>
      obtain ⟨rfl, hl⟩ := hle
      obtain ⟨n, vs, h1, h2, h3⟩ := hi
      exact ⟨n, vs, h1, denL_cut _ _ hsc (tmLe_den hl h2), h3⟩
    | _ => simp [BLe] at hle
  | res t =>
    cases b with
    | res t' => simp only [BLe, SB.res.injEq] at hle; subst hle; exact hi
    | _ => simp [BLe] at hle
  | obj o =>
    cases b with
    | obj o' => simp only [BLe, SB.obj.injEq] at hle; subst hle; exact hi
    | _ => simp [BLe] at hle
  | loop st pd tm ps asg body d =>
    cases b with
    | loop st1 pd1 tm1 ps1 asg1 body1 d1 =>
      simp only [BLe] at hle
      obtain ⟨rfl, rfl, htm, rfl, rfl, rfl, rfl⟩ := hle
      simp only [scB, Bool.and_eq_true, Nat.blt_eq] at hsc
      obtain ⟨n, fn, vs, dn, h1, h2, h3, h4⟩ := hi
      exact ⟨n, fn, vs, dn, h1, denL_cut _ _ hsc.1 (tmLe_den htm h2), by simp only [cut, hsc.2, if_true]; exact h3, h4⟩
    | _ => simp [BLe] at hle
theorem weak_ok {e : Env} {Fr : PH} {s s' : St τ} {a : Act} {w : World} (h : StOk I e Fr D s a w) (hw : Weak s s') : ∃ e', LeB s.base e e' ∧ StOk I e' Fr D s' a w := by
  obtain ⟨⟨h0, hs, h1, h2, h3, h4, h5, h6⟩, htm, hdf⟩ := h
  obtain ⟨wt, wH, wd, wb, wr, wl, wsc⟩ := hw
  simp only [Bool.and_eq_true] at wsc
  obtain ⟨⟨sc1, sc2⟩, sc3⟩ := wsc
  have hlen := wH.length
  rw [Nat.ble_eq] at wl
  refine ⟨cut e s'.H.length, fun i hi r hr => ⟨r, by simp only [cut]; rw [if_pos (by omega)]; exact hr, r.le_refl⟩, ?_, denL_cut _ _ sc1 (tmLe_den wt htm), ?_⟩
  · have hgone : ∀ i, ∃ g : PH, (∀ b, s'.H[i]? = some b → ItemOk I (cut e s'.H.length) b (cut e s'.H.length i) g) ∧ (s'.H.length ≤ i → g = emp) ∧ (∀ k o, g k = some o → hs i k = some o) := by
      intro i
      cases hi : s'.H[i]? with
      | none => exact ⟨emp, (fun b hb => by cases hb), fun _ => rfl, fun k o hk => by simp [emp] at hk⟩
      | some b' =>
        obtain ⟨b, hb, hle⟩ := wH.get hi
        have hlt : i < s'.H.length := (List.getElem?_eq_some_iff.1 hi).1
        have hci : cut e s'.H.length i = e i := by simp [cut, hlt]
        by_cases hg : b' = .gone
        · exact ⟨emp, (fun c hc => by cases hc; subst hg; exact rfl), fun _ => rfl, fun k o hk => by simp [emp] at hk⟩
        · refine ⟨hs i, fun c hc => ?_, (fun hge => by omega), fun k o hk => hk⟩
          cases hc
          rw [hci]
          exact item_cut hle (scH_get sc2 hi) (h1 i b hb) (fun e => absurd e hg)
    have hch : ∃ g : Nat → PH, ∀ i, (∀ b, s'.H[i]? = some b → ItemOk I (cut e s'.H.length) b (cut e s'.H.length i) (g i)) ∧ (s'.H.length ≤ i → g i = emp) ∧ (∀ k o, g i k = some o → hs i k = some o) :=
      ⟨fun i => (hgone i).choose, fun i => (hgone i).choose_spec⟩
    obtain ⟨g, hg⟩ := hch
    have hsub : ∀ i k, hs i k = none → g i k = none := fun i k hk => by
      cases hq : g i k with
      | none => rfl
      | some o => rw [(hg i).2.2 k o hq] at hk; cases hk
    refine ⟨h0, g, fun i b hb => (hg i).1 b hb, fun i hi => ⟨by simp only [cut]; rw [if_neg (by omega)], (hg i).2.1 hi⟩, fun i j hij k => ?_, fun i k => ?_, fun i k o hk => h5 i k o ((hg i).2.2 k o hk), h6⟩
    · exact (h3 i j hij k).imp (hsub i k) (hsub j k)
    · exact (h4 i k).imp (hsub i k) id
  · exact ⟨wd ▸ hdf.1, hdf.2⟩
theorem setPs_den {e : Env} : ∀ {ps : List Tmp} {xs : List SV} {vs : List Value} {tm : List SV} {arr : Array Value}, DenL e xs vs → DenL e tm arr.toList →
    DenL e (setPs tm (ps.zip xs)) (((ps.zip vs).foldl (fun (t : Array Value) (p : Tmp × Value) => t.setIfInBounds p.1 p.2) arr)).toList
  | [], _, _, _, _, _, h => by simpa [setPs] using h
  | p :: ps, [], _, _, _, hx, h => by simp only [DenL] at hx; subst hx; simpa [setPs] using h
  | p :: ps, x :: xs, _, tm, arr, hx, h => by
    simp only [DenL] at hx
    obtain ⟨v, r, rfl, h2, h3⟩ := hx
    simp only [List.zip_cons_cons, setPs, List.foldl_cons]
    exact setPs_den h3 (by simpa using h.set h2)
theorem Models.loopAt {e : Env} {H : List (SB τ)} {Fr : PH} {w : World} (h : Models I e H Fr w) {i : Nat} {st : LoopState} {pd : Option Code} {tm : List SV} {ps : Array Tmp} {asg body : Code} {d : Nat}
    (hi : H[i]? = some (.loop st pd tm ps asg body d)) : ∃ n fn vs dn, e i = some (.blk n) ∧ DenL e tm vs ∧ e d = some (.blk dn) ∧
      w.heap[n]? = some (.loop { state := st, pending := pd, fn := fn, tmps := vs.toArray, params := ps, assign := asg, body := body, defers := dn }) := by
  obtain ⟨hn, ⟨n, fn, vs, dn, h1, h2, h3, rfl⟩, h5⟩ := h.item hi
  exact ⟨n, fn, vs, dn, h1, h2, h3, h5 n _ (by simp [single])⟩
theorem Models.setLoop {e : Env} {H : List (SB τ)} {Fr : PH} {w : World} (h : Models I e H Fr w) {i n : Nat} {st st' : LoopState} {pd pd' : Option Code} {tm : List SV} {ps : Array Tmp} {asg body : Code} {d : Nat} {fn : FuncId} {vs : List Value} {dn : Nat}
    (hi : H[i]? = some (.loop st pd tm ps asg body d)) (h1 : e i = some (.blk n)) (h2 : DenL e tm vs) (h3 : e d = some (.blk dn))
    (h4 : w.heap[n]? = some (.loop { state := st, pending := pd, fn := fn, tmps := vs.toArray, params := ps, assign := asg, body := body, defers := dn })) :
    Models I e (H.set i (.loop st' pd' tm ps asg body d)) Fr { w with heap := w.heap.setIfInBounds n (.loop { state := st', pending := pd', fn := fn, tmps := vs.toArray, params := ps, assign := asg, body := body, defers := dn }) } :=
  h.putObj hi h1 h4 (fun hp hok => by
    obtain ⟨m, _, _, _, q1, _, _, q2⟩ := hok
    exact ⟨_, q2⟩ |> fun (x : ∃ o, hp = single m o) => by rw [h1] at q1; cases q1; exact x) ⟨n, fn, vs, dn, h1, h2, h3, rfl⟩
theorem le_of_leB {e e' : Env} {H : List (SB τ)} {Fr : PH} {w : World} (hM : Models I e H Fr w) (h : LeB H.length e e') : Le e e' := fun i r hi => by
  by_cases hlt : i < H.length
  · exact h i hlt r hi
  · obtain ⟨_, hs, _, h2, _⟩ := hM
    rw [(h2 i (by omega)).1] at hi
    cases hi
theorem run_getLoop {w : World} {n : Nat} {r : Loop} (h : w.heap[n]? = some (.loop r)) : (Instr.getLoop n).run P w = .ok r w := by
  simp only [Instr.getLoop, Sem.run_bind, run_getObj (P := P) h (by intro c t f hc; cases hc), Result.andThen_ok, Sem.run_pure]
theorem yield_ok {rec : Rec τ} (hrec : RecOk I P rec) {b n : Nat} {args : List SV} {H : List (SB τ)} {K : SV → List (SB τ) → Prop} {e : Env} {Fr : PH} {w : World} {vs : List Value} {r : Option Nat}
    (h : yieldK rec b args H K) (hb : e b = some (.blk n)) (hd : DenL e args vs) (hM : Models I e H Fr w) :
    ∃ f tmps asg body, (Instr.yield n vs.toArray).run P w = .ok (.round n f tmps asg body) w ∧ RoundIn (FF r) 0 P n f tmps asg body w (Ends I e Fr K) := by
  unfold yieldK at h
  split at h
  · rename_i st pd tm ps asg body d hi
    split at h
    · rename_i hlen
      rw [beq_iff_eq] at hlen
      obtain ⟨n', fn, us, dn, g1, g2, g3, g4⟩ := hM.loopAt hi
      rw [hb] at g1; cases g1
      have hl := hd.length
      have hsz : ¬ (vs.toArray.size ≠ ps.size) := by simp; omega
      refine ⟨fn, (ps.zip vs.toArray).foldl (fun tmps (p : Tmp × Value) => tmps.setIfInBounds p.1 p.2) us.toArray, asg, body, ?_, ?_⟩
      · simp only [Instr.yield, Sem.run_bind, run_getLoop g4, Result.andThen_ok, hsz, if_false, Sem.run_pure]
      have hstart : StOk I e Fr [] { tm := setPs tm (ps.toList.zip args), H := H, df := [], base := H.length, rnd := true }
          { tmps := (ps.zip vs.toArray).foldl (fun tmps (p : Tmp × Value) => tmps.setIfInBounds p.1 p.2) us.toArray, defers := [] } w := by
        refine ⟨hM, ?_, rfl, rfl⟩
        have := setPs_den (e := e) (ps := ps.toList) (xs := args) (vs := vs) (tm := tm) (arr := us.toArray) hd g2
        rw [← Array.foldl_toList]
        simpa using this
      refine roundIn_of_wpIn trivial ?_
      refine wpIn_mono (hrec _ _ _ e Fr [] _ w (some n) rfl h hstart) fun ex a1 w1 hp => ?_
      obtain ⟨e1, s1, Fr1, D1, l1, b1, r1, ⟨_, gF⟩, ok1, k1⟩ := hp
      have gF := gF rfl
      subst gF
      have hblt : b < H.length := (List.getElem?_eq_some_iff.1 hi).1
      cases ex with
      | normal =>
        simp only at k1
        simp only [Exit.then]
        split at k1
        · rename_i pd1 t1 ps1 a1' b1' d1 hi1
          obtain ⟨m1, fn1, us1, dn1, q1, q2, q3, q4⟩ := ok1.models.loopAt hi1
          have hb1 := l1.blk hblt hb
          rw [hb1] at q1; cases q1
          have hM1 := ok1.models.setLoop (st' := .busy) (pd' := pd1) hi1 hb1 q2 q3 q4
          refine ⟨_, by simp only [Instr.beginRound, Sem.run_bind, run_getLoop q4, Result.andThen_ok, run_setObj (P := P) q4 (by intro c t f hc; cases hc), Sem.run_pure]; rfl, ?_⟩
          have ok1' : StOk I e1 Fr1 D1 { s1 with H := s1.H.set b (.loop .busy pd1 t1 ps1 a1' b1' d1) } a1 _ := ⟨hM1, ok1.tm, ok1.df⟩
          refine wpIn_mono (hrec _ { s1 with H := s1.H.set b (.loop .busy pd1 t1 ps1 a1' b1' d1) } _ e1 Fr1 D1 _ _ (some n) r1 k1 ok1') fun ex2 a2 w2 hp2 => ?_
          obtain ⟨e2, s2, Fr2, D2, l2, b2, r2, ⟨_, gF2⟩, ok2, k2⟩ := hp2
          have gF2 := gF2 r1
          subst gF2
          split at k2
          · rename_i st2 pd2 t2 ps2 a2' b2' d2 hi2
            obtain ⟨m2, fn2, us2, dn2, p1, p2, p3, p4⟩ := ok2.models.loopAt hi2
            have hbase1 : s1.base = H.length := b1
            have hb2 : e2 b = some (.blk n) := l2.blk (by show b < s1.base; rw [hbase1]; exact hblt) hb1
            rw [hb2] at p1; cases p1
            have hle : Le e e2 := le_of_leB hM (LeB.trans l1 (by rw [← hbase1]; exact l2))
            have hend : ∀ (j : Option Code), (Instr.endRound n j).run P w2 = .ok (.bool j.isNone) { w2 with heap := w2.heap.setIfInBounds n (.loop { state := if j.isNone then .ready else .done, pending := j, fn := fn2, tmps := us2.toArray, params := ps2, assign := a2', body := b2', defers := dn2 }) } := fun j => by
              simp only [Instr.endRound, Sem.run_bind, run_getLoop p4, Result.andThen_ok, run_setObj (P := P) p4 (by intro c t f hc; cases hc), Sem.run_pure]
            have hM2 : ∀ (st' : LoopState) (j : Option Code), Models I e2 (s2.H.set b (.loop st' j t2 ps2 a2' b2' d2)) Fr2 _ := fun st' j => ok2.models.setLoop (st' := st') (pd' := j) hi2 hb2 p2 p3 p4
            cases ex2 with
            | normal => exact ⟨_, _, hend none, _, _, e2, _, rfl, hle, hM2 .ready none, by simp [Den], k2⟩
            | ret => exact ⟨_, _, hend (some .ret), _, _, e2, _, rfl, hle, hM2 .done (some .ret), by simp [Den], k2⟩
            | exit id => exact ⟨_, _, hend (some (.exit id)), _, _, e2, _, rfl, hle, hM2 .done (some (.exit id)), by simp [Den], k2⟩
            | goto t => exact ⟨_, _, hend (some (.goto t)), _, _, e2, _, rfl, hle, hM2 .done (some (.goto t)), by simp [Den], k2⟩
            | panic c => exact k2.elim
            | outgrown => exact k2.elim
          · cases ex2 <;> exact k2.elim
        · exact k1.elim
      | exit id => exact k1.elim
      | goto t => exact k1.elim
      | ret => exact k1.elim
      | panic c => exact k1.elim
      | outgrown => exact k1.elim
    · exact h.elim
  · exact h.elim
end Go.Sym
namespace Go.Sym
open Go
variable {τ : Type} {I : Inv τ} {D : List Deferred}
def NextOk (I : Inv τ) (e : Env) (Fr : PH) (st : St τ) (K : St τ → Prop) (next : Act → World → Prop) : Prop :=
  ∀ e' (st' : St τ) a' w', LeB st.base e e' → st'.base = st.base → st'.rnd = st.rnd → StOk I e' Fr D st' a' w' → K st' → next a' w'
theorem StOk.put {e e' : Env} {Fr : PH} {st : St τ} {a : Act} {w w' : World} {x : SV} {v : Value} {H' : List (SB τ)} (dst : Option Tmp) (h : StOk I e Fr D st a w) (hle : Le e e') (hM : Models I e' H' Fr w') (hd : Den e' x v) :
    StOk I e' Fr D (st.putH dst x H') (a.put dst v) w' :=
  ⟨hM, put_den dst (h.tm.mono hle) hd, by rw [put_defers]; exact h.df⟩
theorem StOk.setB {e : Env} {Fr : PH} {st : St τ} {a : Act} {w : World} {c : Operand} {b : Bool} (h : StOk I e Fr D st a w) (hb : ev st.tm c = .v (.bool b)) : StOk I e Fr D { st with tm := setB c b st.tm } a w :=
  ⟨h.models, setB_den h.tm hb, h.df⟩
theorem notDefer_V {P : Program} {op : Op} {tm : List SV} {H : List (SB τ)} {r : Bool × SV} (h : stepV P op tm H = some r) : ∀ c, op ≠ .defer c := by
  intro c hc; subst hc; simp [stepV, stepV0, stepH] at h
theorem notDefer_A {P : Program} {op : Op} {tm : List SV} {H : List (SB τ)} {r : SV × List (SB τ)} (h : stepA P op tm H = some r) : ∀ c, op ≠ .defer c := by
  intro c hc; subst hc; simp [stepA] at h
theorem notDefer_I {P : Program} {op : Op} {tm : List SV} {H : List (SB τ)} {r : Bool × SV × List (SB τ)} (h : stepI P op tm H = some r) : ∀ c, op ≠ .defer c := by
  intro c hc; subst hc; simp [stepI] at h
theorem notDefer_L {P : Program} {op : Op} {tm : List SV} {H : List (SB τ)} {r : Bool × SV × List (SB τ) × List Nat} (h : stepL P op tm H = some r) : ∀ c, op ≠ .defer c := by
  intro c hc; subst hc; simp [stepL, stepA, stepI, stepO, stepP] at h
theorem nextS_ok {op : Op} {tm : List SV} {H : List (SB τ)} {b pos : Nat} {s : ByteArray} (h : nextS op tm H = some (b, s, pos)) : ∃ it, op = .next it true ∧ ev tm it = .p b 0 ∧ H[b]? = some (.obj (.stringIter s pos)) := by
  unfold nextS at h
  repeat' (split at h)
  all_goals (first | (cases h; done) | skip)
  simp only [Option.some.injEq, Prod.mk.injEq] at h
  obtain ⟨rfl, rfl, rfl⟩ := h
  exact ⟨_, rfl, by assumption, by assumption⟩
theorem op_ok {cfg : Cfg τ} {rec : Rec τ} (hrec : RecOk I cfg.P rec) (hcon : ConsOk I cfg) {o : Oper} {st : St τ} {K : St τ → Prop} {e : Env} {Fr : PH} {a : Act} {w : World} {r : Option Nat}
    {next : Act → World → Prop} {Q : Exit → Act → World → Prop} (h : opK cfg rec o st K) (hok : StOk I e Fr D st a w) (hnext : NextOk (D := D) I e Fr st K next) : o.wpIn (FF r) 0 cfg.P a w next Q := by
  refine ⟨fun _ _ => trivial, ?_⟩
  show o.uponIn (FF r) 0 cfg.P a next Q ((o.semAt r a.eval).run cfg.P w)
  unfold opK at h
  split at h
  · rename_i b s pos hnx
    obtain ⟨it, hop, hev, hb⟩ := nextS_ok hnx
    have hnd : ∀ c, o.op ≠ .defer c := by intro c hc; rw [hop] at hc; cases hc
    have fin : ∀ {x : SV} {H' : List (SB τ)}, stepA cfg.P o.op st.tm st.H = some (x, H') → K (st.putH o.dst x H') → o.uponIn (FF r) 0 cfg.P a next Q ((o.semAt r a.eval).run cfg.P w) := fun {x H'} hA hK => by
      obtain ⟨nx, v, w', e', hr, hnx, hle, hM, hd⟩ := (stepA_ok hok.models hok.tm hA).loud
      rw [semAt_eq hnd, hr]
      have := hnext e' (st.putH o.dst x H') _ _ (LeB.of_le hle) rfl rfl (hok.put o.dst hle hM hd) hK
      rcases hnx with rfl | ⟨rfl, rfl⟩
      · exact this
      · exact this
    rcases br_elim h with ⟨hlt, hK⟩ | ⟨hlt, hK⟩
    · exact fin (by simp only [hop, stepA, hev, hb, hlt]) hK
    · exact fin (by simp only [hop, stepA, hev, hb, hlt]) hK
  split at h
  · rename_i c x hv
    obtain ⟨hc, hK⟩ := rq_elim h
    obtain ⟨v, hr, hd⟩ := stepV_ok hok.models hok.tm hv hc
    rw [semAt_eq (notDefer_V hv), hr]
    exact hnext e (st.put o.dst x) _ _ (LeB.refl _ _) rfl rfl (hok.put o.dst (Le.refl e) hok.models hd) hK
  · split at h
    · rename_i c x H' ws ha
      obtain ⟨hc, hK⟩ := rq_elim h
      obtain ⟨nx, v, w', e', hr, hnx, hle, hM, hd⟩ := stepL_ok hok.models hok.tm ha hc
      rw [semAt_eq (notDefer_L ha), hr]
      have := hnext e' (st.putH o.dst x H') _ _ (LeB.of_le hle) rfl rfl (hok.put o.dst hle hM hd) hK
      rcases hnx with rfl | ⟨rfl, rfl⟩
      · exact this
      · exact this
    · skip
      split at h
      · rename_i oc oa ob hop
        split at h
        · rename_i q hq
          have hcv := ev_ok hok.tm oc
          rw [hq] at hcv
          simp only [Den] at hcv
          rw [semAt_eq (by intro c hc; rw [hop] at hc; cases hc)]
          rcases br_elim h with ⟨rfl, hK⟩ | ⟨rfl, hK⟩
          · have hok' := hok.setB hq
            have hr : (execOp a.eval o).run cfg.P w = .ok (.value (a.eval oa)) w := by simp [execOp, hop, hcv, asBool]
            rw [hr]
            exact hnext e (({ st with tm := setB oc true st.tm } : St τ).put o.dst (ev (setB oc true st.tm) oa)) _ _ (LeB.refl _ _) rfl rfl (hok'.put o.dst (Le.refl e) hok.models (ev_ok hok'.tm oa)) hK
          · have hok' := hok.setB hq
            have hr : (execOp a.eval o).run cfg.P w = .ok (.value (a.eval ob)) w := by simp [execOp, hop, hcv, asBool]
            rw [hr]
            exact hnext e (({ st with tm := setB oc false st.tm } : St τ).put o.dst (ev (setB oc false st.tm) ob)) _ _ (LeB.refl _ _) rfl rfl (hok'.put o.dst (Le.refl e) hok.models (ev_ok hok'.tm ob)) hK
        · exact h.elim
      · rename_i f args ats hop
        have hfv := ev_ok hok.tm f
        have hargs := evs_ok hok.tm args.toList
        have e2 : (args.toList.map a.eval).toArray = args.map a.eval := by apply Array.toList_inj.1; simp
        rw [semAt_eq (by intro c hc; rw [hop] at hc; cases hc)]
        split at h
        · rename_i b hb
          rw [hb] at hfv
          simp only [Den] at hfv
          obtain ⟨n, hn, hf⟩ := hfv
          obtain ⟨fl, tmps, asg, body, hy, hround⟩ := yield_ok (r := r) hrec h hn hargs hok.models
          rw [e2] at hy
          have hr : (execOp a.eval o).run cfg.P w = .ok (.round n fl tmps asg body) w := by
            simp [execOp, hop, resolve, hf, Deferred.ofValue, invoke, hy]
          rw [hr]
          refine ⟨(fun hc => by cases hc), hround.mono fun en w' he => ?_⟩
          obtain ⟨x, H', e', v, rfl, hle, hM, hd, hK⟩ := he
          exact hnext e' (st.putH o.dst x H') _ _ (LeB.of_le hle) rfl rfl (hok.put o.dst hle hM hd) hK
        · split at h
          · rename_i g fi ca hcal
            obtain ⟨fs, cs, hf, hfi, hca⟩ := callee_ok hcal hfv
            have hall := (hfi.append hargs).append hca
            obtain ⟨henter, hcall⟩ := call_ok hrec hcon h hall hok.models
            have hr : (execOp a.eval o).run cfg.P w = .ok (.enter g (fs ++ args.map a.eval ++ cs)) w := by
              simp [execOp, hop, resolve, hf, Deferred.ofValue, invoke, henter]
            rw [hr]
            have e3 : (fs.toList ++ args.toList.map a.eval ++ cs.toList).toArray = fs ++ args.map a.eval ++ cs := by apply Array.toList_inj.1; simp
            rw [e3] at hcall
            refine ⟨(fun hc => by cases hc), (calls_FF hcall).mono fun en w' he => ?_⟩
            obtain ⟨x, H', e', v, rfl, hle, hM, hd, hK⟩ := he
            exact hnext e' (st.putH o.dst x H') _ _ (LeB.of_le hle) rfl rfl (hok.put o.dst hle hM hd) hK
          · exact h.elim
      · exact h.elim
theorem boolV_some {e : Env} {x : SV} {v : Value} {b : Bool} (h : boolV x = some (some b)) (hd : Den e x v) : x = .v (.bool b) ∧ v = .bool b := by
  unfold boolV at h
  split at h <;> simp at h
  subst h
  simp only [Den] at hd
  exact ⟨rfl, hd⟩
theorem boolV_none {e : Env} {x : SV} {v : Value} (h : boolV x = some none) (hd : Den e x v) : ∀ b, v ≠ .bool b := by
  intro b hb
  subst hb
  unfold boolV at h
  split at h <;> simp at h
  · rename_i y hy; simp only [Den] at hd; subst hd; exact hy b rfl
  all_goals (simp only [Den] at hd)
  all_goals (obtain ⟨_, _, hv⟩ := hd; cases hv)
theorem ops_ok {cfg : Cfg τ} {rec : Rec τ} (hrec : RecOk I cfg.P rec) (hcon : ConsOk I cfg) {ops : Array Oper} {r : Option Nat} {Q : Exit → Act → World → Prop} {Fr : PH} {K : St τ → Prop} :
    ∀ (l : List Oper) (st : St τ) (e : Env) (a : Act) (w : World), opsK cfg rec ops l st K → StOk I e Fr D st a w → NextOk (D := D) I e Fr st K (Q .normal) → wpListIn (FF r) 0 cfg.P ops Q l a w
  | [], st, e, a, w, h, hok, hnext => hnext e st a w (LeB.refl _ _) rfl rfl hok h
  | o :: rest, st, e, a, w, h, hok, hnext => by
    have skip : ∀ st1 : St τ, StOk I e Fr D st1 a w → st1.base = st.base → st1.rnd = st.rnd → opsK cfg rec ops rest (st1.put o.dst (.v undef)) K →
        wpListIn (FF r) 0 cfg.P ops Q rest (a.put o.dst undef) w := fun st1 h1 hb hr hk => by
      refine ops_ok hrec hcon rest _ e _ w hk (h1.put o.dst (Le.refl e) h1.models (by simp [Den])) ?_
      intro e' st' a' w' g1 g2 g3 g4 g5
      exact hnext e' st' a' w' (hb ▸ g1) (g2.trans hb) (g3.trans hr) g4 g5
    have go : ∀ st1 : St τ, StOk I e Fr D st1 a w → st1.base = st.base → st1.rnd = st.rnd → opK cfg rec o st1 (fun st' => opsK cfg rec ops rest st' K) →
        o.wpIn (FF r) 0 cfg.P a w (wpListIn (FF r) 0 cfg.P ops Q rest) Q := fun st1 h1 hb hr hk => by
      refine op_ok hrec hcon hk h1 ?_
      intro e' st' a' w' g1 g2 g3 g4 g5
      refine ops_ok hrec hcon rest st' e' a' w' g5 g4 ?_
      intro e2 st2 a2 w2 k1 k2 k3 k4 k5
      refine hnext e2 st2 a2 w2 (LeB.trans (hb ▸ g1) ?_) (k2.trans (g2.trans hb)) (k3.trans (g3.trans hr)) k4 k5
      rw [← hb, ← g2]; exact k1
    unfold opsK at h
    simp only [wpListIn]
    split at h
    · rename_i hg
      simp only [Region.wanted, hg, if_true]
      exact go st hok rfl rfl h
    · rename_i j want hg
      simp only [Region.wanted, hg]
      split at h
      · rename_i hd
        have hy : yielded ops a.tmps j = none := by simp [yielded, hd]
        simp only [hy]
        refine ⟨fun _ _ => trivial, skip st hok rfl rfl h⟩
      · rename_i d hd
        split at h
        · rename_i htm
          have hy : yielded ops a.tmps j = none := by
            have hl := hok.tm.length
            have h1 := List.getElem?_eq_none_iff.1 htm
            have h2 : a.tmps[d]? = none := by simp at hl ⊢; omega
            simp [yielded, hd, h2]
          simp only [hy]
          exact ⟨fun _ _ => trivial, skip st hok rfl rfl h⟩
        · rename_i x htm
          obtain ⟨v, hv, hdv⟩ := hok.tm.get htm
          have hv' : a.tmps[d]? = some v := by simpa using hv
          split at h
          · rename_i hbv
            have hnb := boolV_none hbv hdv
            have hy : yielded ops a.tmps j = none := by
              simp only [yielded, hd, Option.bind_some, hv']
              cases v <;> first | rfl | exact absurd rfl (hnb _)
            simp only [hy]
            exact ⟨fun _ _ => trivial, skip st hok rfl rfl h⟩
          · rename_i b hbv
            obtain ⟨hx, hvb⟩ := boolV_some hbv hdv
            subst hx; subst hvb
            have hy : yielded ops a.tmps j = some b := by simp [yielded, hd, hv']
            have hev : ev st.tm (.tmp d) = .v (.bool b) := by simp [ev, htm]
            have hokb := hok.setB hev
            simp only [hy]
            split at h
            · rcases br_elim h with ⟨rfl, hk⟩ | ⟨rfl, hk⟩
              · simp only [BEq.rfl, if_true]; exact go _ hokb rfl rfl hk
              · simp only [show (some false == some true) = false from rfl, Bool.false_eq_true, if_false]
                exact ⟨fun _ _ => trivial, skip _ hokb rfl rfl hk⟩
            · rcases br_elim h with ⟨rfl, hk⟩ | ⟨rfl, hk⟩
              · simp only [show (some true == some false) = false from rfl, Bool.false_eq_true, if_false]
                exact ⟨fun _ _ => trivial, skip _ hokb rfl rfl hk⟩
              · simp only [BEq.rfl, if_true]; exact go _ hokb rfl rfl hk
          · exact h.elim
theorem Models.newLoop {e : Env} {H : List (SB τ)} {Fr : PH} {w : World} (h : Models I e H Fr w) (st : LoopState) (pd : Option Code) {tm : List SV} {vs : List Value} {ps : Array Tmp} {asg body : Code} {d dn : Nat} (fn : FuncId)
    (hd : DenL e tm vs) (hdn : e d = some (.blk dn)) :
    Le e (ext e H.length (.blk w.heap.size)) ∧ Models I (ext e H.length (.blk w.heap.size)) (H ++ [.loop st pd tm ps asg body d]) Fr
      { w with heap := w.heap.push (.loop { state := st, pending := pd, fn := fn, tmps := vs.toArray, params := ps, assign := asg, body := body, defers := dn }) } := by
  have hle : Le e (ext e H.length (.blk w.heap.size)) := le_ext h.fresh
  refine ⟨hle, h.add (r := .blk w.heap.size) (hn := single w.heap.size _) ⟨w.heap.size, fn, vs, dn, rfl, hd.mono hle, hle.blk hdn, rfl⟩ (Ext.alloc w _) (fun k o hk => ?_) (fun k hk => ?_)⟩
  · unfold single at hk
    split at hk
    · rename_i hk'; subst hk'; simp only [Option.some.injEq] at hk; subst hk; simp
    · cases hk
  · unfold single at hk
    split at hk
    · rename_i hk'; omega
    · exact absurd rfl hk
theorem roundsIn_mono {F : Fence} {n : Nat} {P : Program} {c : Code} {Q Q' : Exit → Act → World → Prop} (hq : ∀ e a w, Q e a w → Q' e a w) : ∀ (m : Nat) (a : Act) (w : World), Code.roundsIn F n P c Q m a w → Code.roundsIn F n P c Q' m a w
  | 0, _, _, h => h
  | m + 1, a, w, h => wpIn_mono h fun e a w he => by
    cases e with
    | normal => exact roundsIn_mono hq m a w he
    | _ => exact hq _ _ _ he
theorem wpIn_loop_ix {F : Fence} {n : Nat} {P : Program} {c : Code} {Q : Exit → Act → World → Prop} {a : Act} {w : World} (J : Nat → Act → World → Prop) (m0 : Nat) (h₀ : J m0 a w)
    (round : ∀ m a w, J m a w → c.wpIn F n P (Exit.then (fun a' w' => ∃ m', m' < m ∧ J m' a' w') Q) a w) : (Code.loop c).wpIn F n P Q a w := by
  intro b k cs hro hb hr
  have key : ∀ j a w, J j a w →
      ∃ e a' w', Q e a' w' ∧ ArrivesIn (Machine.fenced P F) P (lone (b.atR a (.code c :: .inLoop c :: k)) cs w) b k cs e a' w' := by
    intro j
    induction j using Nat.strongRecOn with
    | _ j ih =>
      intro a w hI
      obtain ⟨e, a₁, w₁, hq, harr⟩ := round j a w hI b (.inLoop c :: k) cs hro hb hr
      cases e with
      | normal =>
        obtain ⟨m', hlt, hI₁⟩ := hq
        obtain ⟨e₂, a₂, w₂, hq₂, harr₂⟩ := ih m' hlt a₁ w₁ hI₁
        exact ⟨e₂, a₂, w₂, hq₂, .of_steps (StepsIn.trans harr (.one (fenced_calm hb hr rfl) stepR_inLoop)) harr₂⟩
      | exit id => exact ⟨_, a₁, w₁, hq, .pass (x := .inLoop c) rfl (fun _ _ => .inl (by simp)) harr⟩
      | goto l => exact ⟨_, a₁, w₁, hq, .pass (x := .inLoop c) rfl (fun _ _ => .inl (by simp)) harr⟩
      | ret => exact ⟨_, a₁, w₁, hq, .pass (x := .inLoop c) rfl (fun _ _ => .inl (by simp)) harr⟩
      | panic ch => exact ⟨_, a₁, w₁, hq, .pass (x := .inLoop c) rfl (fun _ _ => .inl (by simp)) harr⟩
      | outgrown => exact ⟨_, a₁, w₁, hq, .pass (x := .inLoop c) rfl (fun _ _ => .inl (by simp)) harr⟩
  obtain ⟨e, a', w', hq, harr⟩ := key m0 a w h₀
  exact ⟨e, a', w', hq, .of_steps (.one (fenced_calm hb hr rfl) stepR_loop) harr⟩
theorem rounds_ok {cfg : Cfg τ} {rec : Rec τ} (hrec : RecOk I cfg.P rec) {body : Code} {K : Exit → St τ → Prop} {r : Option Nat} : ∀ (m : Nat) (st : St τ) (e : Env) (Fr : PH) (D : List Deferred) (a : Act) (w : World), st.rnd = r.isSome →
    roundsK rec body K m st → StOk I e Fr D st a w → Code.roundsIn (FF r) 0 cfg.P body (Post I e Fr D st K) m a w
  | 0, _, _, _, _, _, _, _, h, _ => h.elim
  | m + 1, st, e, Fr, D, a, w, hr, h, hok => by
    rw [roundsIn_succ]
    refine wpIn_mono (hrec body st _ e Fr D a w r hr h hok) fun ex a' w' hp => ?_
    obtain ⟨e', st', Fr', D', h1, h2, h3, hG, h4, h5⟩ := hp
    cases ex with
    | normal =>
      exact roundsIn_mono (fun ex a w hq => Post.trans h1 h2 h3 hG hq) m a' w' (rounds_ok hrec m st' e' Fr' D' a' w' (h3.trans hr) (by have h6 := h5; simp only [forceSt_eq] at h6; exact h6) h4)
    | _ => exact ⟨e', st', Fr', D', h1, h2, h3, hG, h4, h5⟩
theorem nilAt_ok {e : Env} {l : List SV} {i : Nat} {vs : List Value} (h : nilAt l i = true) (hd : DenL e l vs) {x : SV} (hx : Den e x (.slice none 0 0)) : DenL e (l.set i x) vs := by
  unfold nilAt at h
  split at h
  · rename_i y hy
    obtain ⟨v, hv, hdv⟩ := hd.get hy
    have := nilS_ok h hdv
    subst this
    refine set_same hd fun u hu => ?_
    rw [hv] at hu
    simp only [Option.some.injEq] at hu
    subst hu; exact hx
  · cases h
theorem noneC_ok {e : Env} {c : Cn} (h : noneC c = true) : c.den e [] := by
  cases c with
  | sv l => simp only [noneC, List.isEmpty_iff] at h; subst h; simp [Cn.den, DenL]
  | ints k xs => simp only [noneC, List.isEmpty_iff] at h; subst h; simp [Cn.den]
  | recs xs => simp only [noneC, List.isEmpty_iff] at h; subst h; simp [Cn.den, cvals]
theorem rnN_ok {e e' : Env} {b b' : Nat} (hb : e' b = e b') (hne : ∀ i, i ≠ b → e' i = e i) {c d : Nat} (h : rnN b b' c = some d) : e' d = e c := by
  unfold rnN at h
  split at h
  · cases h
  · rename_i h1
    split at h
    · rename_i h2
      simp only [Option.some.injEq] at h
      rw [Nat.beq_eq] at h2
      subst h; subst h2; exact hb
    · simp only [Option.some.injEq] at h
      subst h
      exact hne _ fun he => by subst he; simp at h1
mutual
theorem rnS_den {e e' : Env} {b b' : Nat} (hb : e' b = e b') (hne : ∀ i, i ≠ b → e' i = e i) : ∀ (x : SV) (v : Value), Den e x v → Den e' (rnS b b' x) v
  | .any, _, _ => by simp [rnS, Den]
  | .v x, _, h => by simpa [rnS, Den] using h
  | .p c o, v, h => by
    simp only [rnS]
    split
    · rename_i d hd
      simp only [Den] at h ⊢; rw [rnN_ok hb hne hd]; exact h
    · trivial
  | .s c o l k, v, h => by
    simp only [rnS]
    split
    · rename_i d hd
      simp only [Den] at h ⊢; rw [rnN_ok hb hne hd]; exact h
    · trivial
  | .y c, v, h => by
    simp only [rnS]
    split
    · rename_i d hd
      simp only [Den] at h ⊢; rw [rnN_ok hb hne hd]; exact h
    · trivial
  | .h c q, v, h => by
    simp only [rnS]
    split
    · rename_i d hd
      simp only [Den] at h ⊢; rw [rnN_ok hb hne hd]; exact h
    · trivial
  | .r c q, v, h => by
    simp only [rnS]
    split
    · rename_i d hd
      simp only [Den] at h ⊢; rw [rnN_ok hb hne hd]; exact h
    · trivial
  | .f fn cs, v, h => by simp only [rnS, Den] at h ⊢; obtain ⟨n, h1, h2⟩ := h; exact ⟨n, rnL_den hb hne _ _ h1, h2⟩
  | .a l, v, h => by simp only [rnS, Den] at h ⊢; obtain ⟨n, h1, h2⟩ := h; exact ⟨n, rnL_den hb hne _ _ h1, h2⟩
  | .t l, v, h => by simp only [rnS, Den] at h ⊢; obtain ⟨n, h1, h2⟩ := h; exact ⟨n, rnL_den hb hne _ _ h1, h2⟩
theorem rnL_den {e e' : Env} {b b' : Nat} (hb : e' b = e b') (hne : ∀ i, i ≠ b → e' i = e i) : ∀ (xs : List SV) (vs : List Value), DenL e xs vs → DenL e' (rnL b b' xs) vs
  | [], _, h => by simpa [rnL, DenL] using h
  | x :: xs, _, h => by
    simp only [rnL, DenL] at h ⊢
    obtain ⟨v, r, h1, h2, h3⟩ := h
    exact ⟨v, r, h1, rnS_den hb hne _ _ h2, rnL_den hb hne _ _ h3⟩
end
theorem rnOk_ne {b b' c : Nat} (h : rnOk b b' c = true) : c ≠ b ∧ c ≠ b' := by
  unfold rnOk at h
  rw [Bool.and_eq_true, Bool.not_eq_true', Bool.not_eq_true'] at h
  exact ⟨fun he => by subst he; simp at h, fun he => by subst he; simp at h⟩
theorem rnB_ok {e e' : Env} {b b' : Nat} (hb : e' b = e b') (hne : ∀ i, i ≠ b → e' i = e i) {x y : SB τ} {r : Option Ref} {h : PH} (hx : rnB b b' x = some y) (hi : ItemOk I e x r h) : ItemOk I e' y r h := by
  unfold rnB at hx
  split at hx
  · cases hx
    obtain ⟨n, vs, h1, h2, h3⟩ := hi
    exact ⟨n, vs, h1, rnL_den hb hne _ _ h2, h3⟩
  · split at hx
    · cases hx
      obtain ⟨f, v, vs, h1, h2, h3, h4, h5⟩ := hi
      exact ⟨f, v, vs, h1, h2, h3, rnL_den hb hne _ _ h4, h5⟩
    · rename_i c n T sz ep nn c2 hc
      cases hx
      obtain ⟨f, v, vs, h1, h2, h3, h4, h5⟩ := hi
      refine ⟨f, v, vs, h1, h2, h3, ?_, h5⟩
      cases c with
      | sv l => exact absurd rfl (hc l)
      | ints k xs => exact h4
      | recs xs => exact h4
  · split at hx
    · rename_i hc
      cases hx
      obtain ⟨f, u, us, ho, hr, fb, gb, h1, h2, h3, h4, h5, h6⟩ := hi
      exact ⟨f, u, us, ho, hr, fb, gb, h1, h2, h3, by rw [hne _ (rnOk_ne hc).1]; exact h4, h5, h6⟩
    · cases hx
  · split at hx
    · rename_i hc
      cases hx
      obtain ⟨n, fn, vs, dn, h1, h2, h3, h4⟩ := hi
      exact ⟨n, fn, vs, dn, h1, rnL_den hb hne _ _ h2, by rw [hne _ (rnOk_ne hc).1]; exact h3, h4⟩
    · cases hx
  · rename_i n1 n2 n3 n4
    cases hx
    cases x with
    | cells l T => exact absurd rfl (n1 _ _)
    | own c n T sz ep nn => exact absurd rfl (n2 _ _ _ _ _ _)
    | limbo c q L T TS ep => exact absurd rfl (n3 _ _ _ _ _ _)
    | loop ls pd tm ps asg body d => exact absurd rfl (n4 _ _ _ _ _ _ _)
    | _ => exact hi
theorem rnH_get {b b' : Nat} {it : SB τ} : ∀ {H H' : List (SB τ)} {i j : Nat} {y : SB τ}, rnH b b' it i H = some H' → H'[j]? = some y → (i + j = b ∧ y = it) ∨ (i + j ≠ b ∧ i + j = b' ∧ y = .gone) ∨ (i + j ≠ b ∧ i + j ≠ b' ∧ ∃ x, H[j]? = some x ∧ rnB b b' x = some y)
  | [], H', i, j, y, h, hj => by simp only [rnH, Option.some.injEq] at h; subst h; simp at hj
  | x :: xs, H', i, j, y, h, hj => by
    have key : ∀ {z : SB τ} {ys : List (SB τ)}, rnH b b' it (i + 1) xs = some ys → H' = z :: ys → ((i = b ∧ z = it) ∨ (i ≠ b ∧ i = b' ∧ z = .gone) ∨ (i ≠ b ∧ i ≠ b' ∧ rnB b b' x = some z)) → (i + j = b ∧ y = it) ∨ (i + j ≠ b ∧ i + j = b' ∧ y = .gone) ∨ (i + j ≠ b ∧ i + j ≠ b' ∧ ∃ x', (x :: xs)[j]? = some x' ∧ rnB b b' x' = some y) := by
      intro z ys hys hH hz
      subst hH
      cases j with
      | zero =>
        simp only [List.getElem?_cons_zero, Option.some.injEq] at hj
        subst hj
        rcases hz with hz | hz | hz
        · exact .inl hz
        · exact .inr (.inl hz)
        · exact .inr (.inr ⟨hz.1, hz.2.1, x, rfl, hz.2.2⟩)
      | succ j =>
        rw [List.getElem?_cons_succ] at hj
        have ih := rnH_get hys hj
        rw [show i + 1 + j = i + (j + 1) by omega] at ih
        simpa using ih
    have ne : ∀ {c : Nat}, ¬ Nat.beq i c = true → i ≠ c := fun hn he => hn (by rw [he, Nat.beq_eq])
    simp only [rnH] at h
    split at h
    · rename_i h1
      rw [Nat.beq_eq] at h1
      split at h
      · rename_i ys hys
        simp only [Option.some.injEq] at h
        exact key hys h.symm (.inl ⟨h1, rfl⟩)
      · cases h
    · rename_i h1
      have h1 := ne (by rw [h1]; simp)
      split at h
      · rename_i h2
        rw [Nat.beq_eq] at h2
        split at h
        · rename_i ys hys
          simp only [Option.some.injEq] at h
          exact key hys h.symm (.inr (.inl ⟨h1, h2, rfl⟩))
        · cases h
      · rename_i h2
        have h2 := ne (by rw [h2]; simp)
        split at h
        · rename_i z hz
          split at h
          · rename_i ys hys
            simp only [Option.some.injEq] at h
            exact key hys h.symm (.inr (.inr ⟨h1, h2, hz⟩))
          · cases h
        · cases h
theorem rnH_length {b b' : Nat} {it : SB τ} : ∀ {H H' : List (SB τ)} {i : Nat}, rnH b b' it i H = some H' → H'.length = H.length
  | [], H', i, h => by simp only [rnH, Option.some.injEq] at h; subst h; rfl
  | x :: xs, H', i, h => by
    simp only [rnH] at h
    split at h
    · split at h
      · rename_i ys hys
        simp only [Option.some.injEq] at h
        subst h; simp [rnH_length hys]
      · cases h
    · split at h
      · split at h
        · rename_i ys hys
          simp only [Option.some.injEq] at h
          subst h; simp [rnH_length hys]
        · cases h
      · split at h
        · split at h
          · rename_i ys hys
            simp only [Option.some.injEq] at h
            subst h; simp [rnH_length hys]
          · cases h
        · cases h
theorem Models.stead {e : Env} {H H' : List (SB τ)} {Fr : PH} {w : World} {b b' : Nat} {x it : SB τ} (hM : Models I e H Fr w) (hb : b < H.length) (hne : b ≠ b') (hx : H[b']? = some x) (hit : rnB b b' x = some it) (hH : rnH b b' it 0 H = some H') :
    Models I (fun i => if i = b then e b' else e i) H' Fr w := by
  obtain ⟨h0, hs, h1, h2, h3, h4, h5, h6⟩ := hM
  have eb : (fun i => if i = b then e b' else e i) b = e b' := if_pos rfl
  have en : ∀ i, i ≠ b → (fun i => if i = b then e b' else e i) i = e i := fun i hi => if_neg hi
  have hlen := rnH_length hH
  have hb' : b' < H.length := (List.getElem?_eq_some_iff.1 hx).1
  have d0 : ∀ h : PH, Disj emp h := fun h k => .inl rfl
  have d1 : ∀ h : PH, Disj h emp := fun h k => .inr rfl
  refine ⟨h0, fun i => if i = b then hs b' else if i = b' then emp else hs i, fun i y hy => ?_, fun i hi => ?_, fun i j hij => ?_, fun i => ?_, fun i => ?_, h6⟩
  · rcases rnH_get hH hy with ⟨hi, rfl⟩ | ⟨hi1, hi, rfl⟩ | ⟨hi, hi2, z, hz, hzy⟩
    · rw [Nat.zero_add] at hi
      subst hi
      simp only [if_true]
      have := rnB_ok (r := e b') eb en hit (h1 b' x hx)
      exact this
    · rw [Nat.zero_add] at hi hi1
      subst hi
      simp only [if_neg hi1, if_true]
      exact rfl
    · rw [Nat.zero_add] at hi hi2
      simp only [if_neg hi, if_neg hi2]
      exact rnB_ok (r := e i) eb en hzy (h1 i z hz)
  · have hi' : H.length ≤ i := by rw [← hlen]; exact hi
    have hib : i ≠ b := by omega
    have hib' : i ≠ b' := by omega
    simp only [if_neg hib, if_neg hib']
    exact h2 i hi'
  · simp only
    by_cases i1 : i = b
    · subst i1
      have j1 : j ≠ i := fun h => hij h.symm
      simp only [if_true, if_neg j1]
      by_cases j2 : j = b'
      · simp only [if_pos j2]; exact d1 _
      · simp only [if_neg j2]; exact h3 _ _ (fun h => j2 h.symm)
    · simp only [if_neg i1]
      by_cases i2 : i = b'
      · simp only [if_pos i2]; exact d0 _
      · simp only [if_neg i2]
        by_cases j1 : j = b
        · simp only [if_pos j1]; exact h3 _ _ i2
        · simp only [if_neg j1]
          by_cases j2 : j = b'
          · simp only [if_pos j2]; exact d1 _
          · simp only [if_neg j2]; exact h3 _ _ hij
  · simp only
    split
    · exact h4 _
    · split
      · exact d0 _
      · exact h4 _
  · simp only
    split
    · exact h5 _
    · split
      · intro k o hk; cases hk
      · exact h5 _
def AdOk (e e' : Env) (q q' : Nat) (k : AdK) : Prop :=
  Le e e' ∧ match k with
    | .own ep ep' => ∀ (r : List Nat) (v : Value), Den e (.h q' (ep' :: r)) v → Den e' (.h q (ep :: r)) v
    | .blk ep n => ∀ (v : Value), Den e (.s q' 0 n n) v → Den e' (.h q [ep, 0]) v
mutual
theorem adS_den {e e' : Env} {q q' : Nat} {k : AdK} (hk : AdOk e e' q q' k) : ∀ (x : SV) (v : Value), Den e x v → Den e' (adS q q' k x) v
  | .any, _, _ => trivial
  | .v x, v, h => by simpa [adS, Den] using h
  | .p c o, v, h => by
    simp only [adS, adN]
    split
    · trivial
    · exact h.mono hk.1
  | .y c, v, h => by
    simp only [adS, adN]
    split
    · trivial
    · exact h.mono hk.1
  | .r c p, v, h => by
    simp only [adS, adN]
    split
    · trivial
    · exact h.mono hk.1
  | .s c o l m, v, h => by
    simp only [adS]
    split
    · exact h.mono hk.1
    · rename_i hc
      rw [Nat.beq_eq] at hc
      subst hc
      split
      · split
        · rename_i hb
          simp only [Bool.and_eq_true, Nat.beq_eq] at hb
          obtain ⟨rfl, rfl, rfl⟩ := hb
          exact hk.2 v h
        · trivial
      · trivial
  | .h c p, v, h => by
    simp only [adS]
    split
    · exact h.mono hk.1
    · rename_i hc
      rw [Nat.beq_eq] at hc
      subst hc
      split
      · split
        · split
          · rename_i hb
            rw [Nat.beq_eq] at hb
            subst hb
            exact hk.2 _ v h
          · trivial
        · trivial
      · trivial
  | .f fn cs, v, h => by simp only [adS, Den] at h ⊢; obtain ⟨n, h1, h2⟩ := h; exact ⟨n, adL_den hk _ _ h1, h2⟩
  | .a l, v, h => by simp only [adS, Den] at h ⊢; obtain ⟨n, h1, h2⟩ := h; exact ⟨n, adL_den hk _ _ h1, h2⟩
  | .t l, v, h => by simp only [adS, Den] at h ⊢; obtain ⟨n, h1, h2⟩ := h; exact ⟨n, adL_den hk _ _ h1, h2⟩
theorem adL_den {e e' : Env} {q q' : Nat} {k : AdK} (hk : AdOk e e' q q' k) : ∀ (xs : List SV) (vs : List Value), DenL e xs vs → DenL e' (adL q q' k xs) vs
  | [], _, h => by simpa [adL, DenL] using h
  | x :: xs, _, h => by
    simp only [adL, DenL] at h ⊢
    obtain ⟨v, r, h1, h2, h3⟩ := h
    exact ⟨v, r, h1, adS_den hk _ _ h2, adL_den hk _ _ h3⟩
end
theorem adC_den {e e' : Env} {q q' : Nat} {k : AdK} (hk : AdOk e e' q q' k) {c : Cn} {vs : List Value} (h : c.den e vs) : (adC q q' k c).den e' vs := by
  cases c with
  | sv l => exact adL_den hk _ _ h
  | ints j xs => exact h
  | recs xs => exact h
theorem adB_ok {e e' : Env} {q q' : Nat} {k : AdK} (hk : AdOk e e' q q' k) {x : SB τ} {r : Option Ref} {h : PH} (hi : ItemOk I e x r h) : ItemOk I e' (adB q q' k x) r h := by
  unfold adB
  split
  · obtain ⟨n, vs, h1, h2, h3⟩ := hi
    exact ⟨n, vs, h1, adL_den hk _ _ h2, h3⟩
  · obtain ⟨f, v, vs, h1, h2, h3, h4, h5⟩ := hi
    exact ⟨f, v, vs, h1, h2, h3, adC_den hk h4, h5⟩
  · obtain ⟨n, fn, vs, dn, h1, h2, h3, h4⟩ := hi
    exact ⟨n, fn, vs, dn, h1, adL_den hk _ _ h2, hk.1.blk h3, h4⟩
  · exact hi.mono I hk.1
theorem adH_length {q q' : Nat} {k : AdK} {it : SB τ} : ∀ {H : List (SB τ)} {i : Nat}, (adH q q' k it i H).length = H.length
  | [], _ => rfl
  | x :: xs, i => by simp [adH, adH_length (H := xs)]
theorem adH_get {q q' : Nat} {k : AdK} {it : SB τ} : ∀ {H : List (SB τ)} {i j : Nat} {y : SB τ}, (adH q q' k it i H)[j]? = some y →
    (i + j = q ∧ y = it) ∨ (i + j ≠ q ∧ i + j = q' ∧ y = .gone) ∨ (i + j ≠ q ∧ i + j ≠ q' ∧ ∃ x, H[j]? = some x ∧ y = adB q q' k x)
  | [], i, j, y, h => by simp [adH] at h
  | x :: xs, i, j, y, h => by
    cases j with
    | zero =>
      simp only [adH, List.getElem?_cons_zero, Option.some.injEq] at h
      split at h
      · rename_i hq
        rw [Nat.beq_eq] at hq
        exact .inl ⟨by omega, h.symm⟩
      · rename_i hq
        have hq : i ≠ q := fun e => by rw [← Nat.beq_eq] at e; rw [e] at hq; cases hq
        split at h
        · rename_i hq'
          rw [Nat.beq_eq] at hq'
          exact .inr (.inl ⟨by omega, by omega, h.symm⟩)
        · rename_i hq'
          have hq' : i ≠ q' := fun e => by rw [← Nat.beq_eq] at e; rw [e] at hq'; cases hq'
          exact .inr (.inr ⟨by omega, by omega, x, rfl, h.symm⟩)
    | succ j =>
      simp only [adH, List.getElem?_cons_succ] at h
      have := adH_get (H := xs) h
      simp only [List.getElem?_cons_succ]
      rw [show i + (j + 1) = i + 1 + j by omega]
      exact this
theorem Models.adopt {e e' : Env} {H : List (SB τ)} {Fr : PH} {w : World} {q q' : Nat} {k : AdK} {it x' : SB τ} (hM : Models I e H Fr w) (hne : q ≠ q') (hq : q < H.length) (hx : H[q']? = some x') (hk : AdOk e e' q q' k) (hkeep : ∀ i, i ≠ q → e' i = e i)
    (hit : ∀ h, ItemOk I e x' (e q') h → ItemOk I e' it (e' q) h) : Models I e' (adH q q' k it 0 H) Fr w := by
  obtain ⟨h0, hs, h1, h2, h3, h4, h5, h6⟩ := hM
  have hq' : q' < H.length := (List.getElem?_eq_some_iff.1 hx).1
  refine ⟨h0, fun i => if i = q then hs q' else if i = q' then emp else hs i, fun i y hy => ?_, fun i hi => ?_, fun i j hij => ?_, fun i => ?_, fun i => ?_, h6⟩
  · rcases adH_get hy with ⟨hi, rfl⟩ | ⟨hi1, hi, rfl⟩ | ⟨hi, hi2, z, hz, rfl⟩
    · rw [Nat.zero_add] at hi
      subst hi
      simp only [if_true]
      exact hit _ (h1 q' x' hx)
    · rw [Nat.zero_add] at hi hi1
      subst hi
      simp only [if_neg hi1, if_true]
      exact rfl
    · rw [Nat.zero_add] at hi hi2
      simp only [if_neg hi, if_neg hi2]
      rw [hkeep i hi]
      exact adB_ok hk (h1 i z hz)
  · rw [adH_length] at hi
    have hib : i ≠ q := by omega
    have hib' : i ≠ q' := by omega
    simp only [if_neg hib, if_neg hib']
    rw [hkeep i hib]
    exact h2 i hi
  · simp only
    have d0 : ∀ h : PH, Disj emp h := fun h k => .inl rfl
    have d1 : ∀ h : PH, Disj h emp := fun h k => .inr rfl
    by_cases i1 : i = q
    · subst i1
      have j1 : j ≠ i := fun h => hij h.symm
      simp only [if_true, if_neg j1]
      by_cases j2 : j = q'
      · simp only [if_pos j2]; exact d1 _
      · simp only [if_neg j2]; exact h3 _ _ (fun h => j2 h.symm)
    · simp only [if_neg i1]
      by_cases i2 : i = q'
      · simp only [if_pos i2]; exact d0 _
      · simp only [if_neg i2]
        by_cases j1 : j = q
        · simp only [if_pos j1]; exact h3 _ _ i2
        · simp only [if_neg j1]
          by_cases j2 : j = q'
          · simp only [if_pos j2]; exact d1 _
          · simp only [if_neg j2]; exact h3 _ _ hij
  · simp only
    split
    · exact h4 _
    · split
      · intro k; exact .inl rfl
      · exact h4 _
  · simp only
    split
    · exact h5 _
    · split
      · intro k o hk; cases hk
      · exact h5 _
theorem likeC_den {e : Env} {c : Cn} {l : List SV} {vs : List Value} (h : DenL e l vs) : (likeC c l).den e vs := by
  unfold likeC
  split
  · split
    · rename_i ha
      have := allInts_ok ha
      exact ints_den (by rw [← this]; exact h)
    · exact h
  · exact h
theorem emptyC_den {e : Env} (c : Cn) : (emptyC c).den e [] := by
  cases c with
  | sv l => simp [emptyC, Cn.den, DenL]
  | ints k xs => simp [emptyC, Cn.den]
  | recs xs => simp [emptyC, Cn.den, cvals]
theorem fx1_ok {e : Env} {Fr : PH} {st st' : St τ} {a : Act} {w : World} {f : Fx} (hok : StOk I e Fr D st a w) (h : fx1 st f = some st') : ∃ e', LeB st.base e e' ∧ StOk I e' Fr D st' a w ∧ st'.base = st.base ∧ st'.rnd = st.rnd := by
  have new : ∀ (H : List (SB τ)) (c : Cn) (T sz : Nat), noneC c = true → Models I e H Fr w → ∃ e', Le e e' ∧ (∀ j, j ≠ H.length → e' j = e j) ∧ Models I e' (H ++ [.own c 0 T sz 0 false]) Fr w ∧ Den e' (.h H.length [0, 0]) (.slice none 0 0) := fun H c T sz hc hM => by
    have hle : Le e (ext e H.length (.hd fun j => if j = 0 then some (ownRef sz (.slice none 0 0)) else none)) := le_ext hM.fresh
    refine ⟨_, hle, fun j hj => ext_ne _ _ _ hj, hM.add (hn := emp) ⟨_, .slice none 0 0, [], rfl, by simp, fun j hj => by simp; omega, Cn.den_mono hle (noneC_ok hc), ⟨by simp, .inl ⟨rfl, rfl, rfl⟩⟩, (fun hh => by cases hh)⟩ (Ext.refl w) (fun k o hk => by simp [emp] at hk) (fun k hk => by simp [emp] at hk), ?_⟩
    simp only [Den, ext_self]
    exact ⟨_, rfl, by simp [hdAt, ownRef, rowRef], rfl⟩
  cases f with
  | nilTm i c T sz =>
    simp only [fx1] at h
    split at h
    · rename_i hc
      rw [Bool.and_eq_true] at hc
      simp only [Option.some.injEq] at h
      subst h
      obtain ⟨e', h1, _, h2, h3⟩ := new st.H c T sz hc.2 hok.models
      exact ⟨e', LeB.of_le h1, ⟨h2, nilAt_ok hc.1 (hok.tm.mono h1) h3, hok.df⟩, rfl, rfl⟩
    · cases h
  | nilLoop b i c T sz =>
    simp only [fx1] at h
    split at h
    · rename_i ls pd tm ps asg body d hb
      split at h
      · rename_i hc
        rw [Bool.and_eq_true] at hc
        simp only [Option.some.injEq] at h
        subst h
        obtain ⟨e', h1, h0, h2, h3⟩ := new st.H c T sz hc.2 hok.models
        have hblt : b < st.H.length := (List.getElem?_eq_some_iff.1 hb).1
        have hb' : (st.H ++ [SB.own c 0 T sz 0 false])[b]? = some (.loop ls pd tm ps asg body d) := by rw [List.getElem?_append_left hblt]; exact hb
        obtain ⟨hn, ⟨n, fn, vs, dn, g1, g2, g3, g4⟩, hs, hput⟩ := h2.take hb'
        have := hput (w' := w) (b' := .loop ls pd (tm.set i (.h st.H.length [0, 0])) ps asg body d) (Le.refl e') (fun _ _ => rfl) ⟨n, fn, vs, dn, g1, nilAt_ok hc.1 g2 h3, g3, g4⟩ (Turned.refl hs)
        rw [List.set_append_left _ _ hblt] at this
        exact ⟨e', LeB.of_le h1, ⟨this, hok.tm.mono h1, hok.df⟩, rfl, rfl⟩
      · cases h
    · cases h
  | nilCell b i c T sz =>
    simp only [fx1] at h
    split at h
    · rename_i l T' hb
      split at h
      · rename_i hc
        rw [Bool.and_eq_true] at hc
        simp only [Option.some.injEq] at h
        subst h
        obtain ⟨e', h1, h0, h2, h3⟩ := new st.H c T sz hc.2 hok.models
        have hblt : b < st.H.length := (List.getElem?_eq_some_iff.1 hb).1
        have hb' : (st.H ++ [SB.own c 0 T sz 0 false])[b]? = some (.cells l T') := by rw [List.getElem?_append_left hblt]; exact hb
        obtain ⟨hn, ⟨n, vs, g1, g2, g3⟩, hs, hput⟩ := h2.take hb'
        have := hput (w' := w) (b' := .cells (l.set i (.h st.H.length [0, 0])) T') (Le.refl e') (fun _ _ => rfl) ⟨n, vs, g1, nilAt_ok hc.1 g2 h3, g3⟩ (Turned.refl hs)
        rw [List.set_append_left _ _ hblt] at this
        exact ⟨e', LeB.of_le h1, ⟨this, hok.tm.mono h1, hok.df⟩, rfl, rfl⟩
      · cases h
    · cases h
  | pad =>
    simp only [fx1, Option.some.injEq] at h
    subst h
    obtain ⟨h0, hs, h1, h2, h3, h4, h5, h6⟩ := hok.models
    refine ⟨e, LeB.refl _ e, ⟨⟨h0, hs, fun i b hb => ?_, fun i hi => h2 i (by simp at hi; omega), h3, h4, h5, h6⟩, hok.tm, hok.df⟩, rfl, rfl⟩
    rcases Nat.lt_or_ge i st.H.length with hi | hi
    · rw [List.getElem?_append_left hi] at hb; exact h1 i b hb
    · rw [List.getElem?_append_right hi] at hb
      have hb0 : b = .gone := by
        have := List.mem_of_getElem? hb
        simpa using this
      subst hb0
      exact (h2 i hi).2
  | mv b b' =>
    simp only [fx1] at h
    split at h
    · rename_i hc
      simp only [Bool.and_eq_true, Nat.ble_eq, Nat.blt_eq, Bool.not_eq_true', List.all_eq_true] at hc
      obtain ⟨c1, c2, c3, c4⟩ := hc
      have c3 : b ≠ b' := fun he => by subst he; simp at c3
      split at h
      · rename_i x hx
        split at h
        · rename_i it hit
          split at h
          · rename_i H' hH
            simp only [Option.some.injEq] at h
            subst h
            have hM := hok.models.stead c2 c3 hx hit hH
            refine ⟨_, fun i hi r hr => ⟨r, by rw [if_neg (by omega)]; exact hr, r.le_refl⟩, ⟨hM, rnL_den (if_pos rfl) (fun i hi => if_neg hi) _ _ hok.tm, hok.df⟩, rfl, rfl⟩
          · cases h
        · cases h
      · cases h
    · cases h
  | nilInto b i q =>
    simp only [fx1] at h
    split at h
    · cases h
    · rename_i hbq
      have hbq : b ≠ q := fun e => by rw [← Nat.beq_eq] at e; rw [e] at hbq; cases hbq
      split at h
      · rename_i l T' hb
        split at h
        · rename_i c n T sz ep nn hq
          split at h
          · rename_i hnil
            simp only [Option.some.injEq] at h
            subst h
            obtain ⟨hn, ⟨f, v, vs, g1, g2, g3, g4, g5, _⟩, hs, hput⟩ := hok.models.take hq
            have hle : Le e (ext e q (.hd (up f (ep + 1) (ownRef sz (.slice none 0 0))))) := le_up g1 (g3 _ (Nat.lt_succ_self _))
            have hM2 := hput (w' := w) (hn' := emp) (b' := .own (emptyC c) 0 T sz (ep + 1) false) hle (fun j hj => ext_ne _ _ _ hj) ⟨_, .slice none 0 0, [], ext_self _ _ _, up_self _ _ _, up_none fun j hj => g3 j (by omega), emptyC_den c, ⟨by simp, .inl ⟨rfl, rfl, rfl⟩⟩, (fun hh => by cases hh)⟩
              ⟨fun k x hk => (by cases hk), fun k hk => absurd rfl hk, fun k x hk _ => hk, Stay.refl w⟩
            have h3 : Den (ext e q (.hd (up f (ep + 1) (ownRef sz (.slice none 0 0))))) (.h q [ep + 1, 0]) (.slice none 0 0) := by
              simp only [Den, ext_self]
              exact ⟨_, rfl, by simp [hdAt, up_self, ownRef, rowRef], rfl⟩
            have hb' : (st.H.set q (SB.own (emptyC c) 0 T sz (ep + 1) false))[b]? = some (.cells l T') := by rw [List.getElem?_set_ne (fun e => hbq e.symm)]; exact hb
            obtain ⟨hn2, ⟨n2, vs2, k1, k2, k3⟩, hs2, hput2⟩ := hM2.take hb'
            have hM3 := hput2 (w' := w) (b' := .cells (l.set i (.h q [ep + 1, 0])) T') (Le.refl _) (fun _ _ => rfl) ⟨n2, vs2, k1, nilAt_ok hnil k2 h3, k3⟩ (Turned.refl hs2)
            exact ⟨_, LeB.of_le hle, ⟨hM3, hok.tm.mono hle, hok.df⟩, rfl, rfl⟩
          · cases h
        · cases h
      · cases h
  | adopt q q' =>
    simp only [fx1] at h
    split at h
    · cases h
    · rename_i hqq
      have hqq : q ≠ q' := fun e => by rw [← Nat.beq_eq] at e; rw [e] at hqq; cases hqq
      split at h
      · rename_i c n T sz ep nn hq
        have hql : q < st.H.length := (List.getElem?_eq_some_iff.1 hq).1
        obtain ⟨hn, ⟨f, v, vs, g1, g2, g3, g4, g5, _⟩, _⟩ := hok.models.item hq
        split at h
        · rename_i c' n' T' sz' ep' nn' hq'
          split at h
          · rename_i hT
            simp only [Bool.and_eq_true, Nat.beq_eq] at hT
            obtain ⟨rfl, rfl⟩ := hT
            simp only [Option.some.injEq] at h
            subst h
            obtain ⟨hn', ⟨f', v', vs', k1, k2, k3, k4, k5, k6⟩, _⟩ := hok.models.item hq'
            have hle : Le e (ext e q (.hd (up f (ep + 1) (ownRef sz v')))) := le_up g1 (g3 _ (Nat.lt_succ_self _))
            have hk : AdOk e (ext e q (.hd (up f (ep + 1) (ownRef sz v')))) q q' (.own (ep + 1) ep') := ⟨hle, fun r u hd => by
              simp only [Den] at hd ⊢
              obtain ⟨f2, m1, m2, m3⟩ := hd
              rw [k1] at m1; cases m1
              refine ⟨_, ext_self _ _ _, ?_, m3⟩
              simp only [hdAt, k2, up_self, Option.map_some] at m2 ⊢
              exact m2⟩
            refine ⟨_, LeB.of_le hle, ⟨hok.models.adopt hqq hql hq' hk (fun i hi => ext_ne _ _ _ hi) fun h hi => ?_, adL_den hk _ _ hok.tm, hok.df⟩, rfl, rfl⟩
            obtain ⟨f2, v2, vs2, m1, m2, m3, m4, m5, m6⟩ := hi
            rw [k1] at m1; cases m1
            rw [k2] at m2
            have hv : ownRef sz v2 = ownRef sz v' := (Option.some.inj m2).symm
            exact ⟨_, v2, vs2, ext_self _ _ _, by rw [up_self, hv], up_none fun j hj => g3 j (by omega), adC_den hk m4, m5, m6⟩
          · cases h
        · rename_i l T' hq'
          split at h
          · rename_i hT
            simp only [Bool.and_eq_true, Nat.beq_eq, Nat.ble_eq] at hT
            obtain ⟨rfl, rfl, hlen⟩ := hT
            simp only [Option.some.injEq] at h
            subst h
            obtain ⟨hn', ⟨m, vs', k1, k2, k3⟩, _⟩ := hok.models.item hq'
            have hle : Le e (ext e q (.hd (up f (ep + 1) (ownRef 1 (.slice (some ⟨m, 0, none⟩) l.length l.length))))) := le_up g1 (g3 _ (Nat.lt_succ_self _))
            have hk : AdOk e (ext e q (.hd (up f (ep + 1) (ownRef 1 (.slice (some ⟨m, 0, none⟩) l.length l.length))))) q q' (.blk (ep + 1) l.length) := ⟨hle, fun u hd => by
              simp only [Den] at hd ⊢
              obtain ⟨m', m1, rfl⟩ := hd
              rw [k1] at m1; cases m1
              exact ⟨_, ext_self _ _ _, by simp [hdAt, up_self, ownRef, rowRef], rfl⟩⟩
            refine ⟨_, LeB.of_le hle, ⟨hok.models.adopt hqq hql hq' hk (fun i hi => ext_ne _ _ _ hi) fun h hi => ?_, adL_den hk _ _ hok.tm, hok.df⟩, rfl, rfl⟩
            obtain ⟨m', vs2, m1, m2, m3⟩ := hi
            rw [k1] at m1; cases m1
            have hl := m2.length
            exact ⟨_, .slice (some ⟨m, 0, none⟩) l.length l.length, vs2, ext_self _ _ _, up_self _ _ _, up_none fun j hj => g3 j (by omega), adC_den hk (likeC_den m2), ⟨by omega, .inr ⟨m, l.length, [], rfl, by simpa using m3, Nat.le_refl _, by unfold maxLen; omega, by simp [hl]⟩⟩, fun _ hc => by cases hc⟩
          · cases h
        · cases h
      · cases h
  | _ => simp [fx1] at h
theorem none_rows {T sz : Nat} : ∀ n, RowsOk T sz (List.replicate n (.slice none 0 0)) (List.replicate n (0, [])) emp
  | 0 => rfl
  | n + 1 => ⟨emp, emp, ⟨by simp, .inl ⟨rfl, rfl, rfl⟩⟩, none_rows n, emp_disj _, (join_emp _).symm⟩
theorem none_rws (k : Option IntKind) (n : Nat) : (Rws.none k n).rows = List.replicate n (0, []) := by
  cases k <;> simp [Rws.none, Rws.rows, cvals]
theorem none_lim (k : Option IntKind) : (Lim.none k).rows = [] := by
  cases k <;> rfl
theorem rep_den {e : Env} {x : SV} {v : Value} (h : ∀ u, Den e x u → u = v) : ∀ {n : Nat} {vs : List Value}, DenL e (List.replicate n x) vs → vs = List.replicate n v
  | 0, vs, hd => by simpa [DenL] using hd
  | n + 1, vs, hd => by
    simp only [List.replicate_succ, DenL] at hd
    obtain ⟨u, r, rfl, h1, h2⟩ := hd
    rw [h u h1, rep_den h h2]; rfl
theorem fx2_ok {e : Env} {Fr : PH} {st st' : St τ} {a : Act} {w : World} {f : Fx} {φ : Prop} (hok : StOk I e Fr D st a w) (h : fx2 st f = some (φ, st')) (hφ : φ) : ∃ e', Le e e' ∧ StOk I e' Fr D st' a w ∧ st'.base = st.base ∧ st'.rnd = st.rnd := by
  cases f with
  | asRows b k T =>
    simp only [fx2] at h
    split at h
    · rename_i c n TS sz ep nn hb
      split at h
      · rename_i l
        split at h
        · rename_i hsz
          rw [Nat.beq_eq] at hsz
          subst hsz
          simp only [Option.some.injEq, Prod.mk.injEq] at h
          obtain ⟨h1, rfl⟩ := h
          subst h1
          obtain ⟨hn, ⟨f0, v, vs, g1, g2, g3, g4, g5, _⟩, hs, hput⟩ := hok.models.take hb
          have g4 : DenL e l vs := g4
          rw [hφ.h] at g4
          have hvs := rep_den (v := .slice none 0 0) (fun u hu => by simpa [Den] using hu) g4
          have hlen : vs.length = n := by rw [hvs]; simp
          have hle := le_up (k := ep + 1) (g := rowsRef (Rws.none k n).sz v vs) g1 (g3 _ (Nat.lt_succ_self _))
          have hM := hput (w' := w) (hn' := hn) (b' := .rows (Rws.none k n) T TS ep (ep + 1) none) hle (fun j hj => ext_ne _ _ _ hj) ⟨_, v, vs, vs, hn, emp, ext_self _ _ _, up_self _ _ _, ⟨Nat.le_succ _, ⟨ownRef 1 v, up_keep (g3 _ (Nat.lt_succ_self _)) _ _ g2, fun p => rfl⟩, up_none fun j hj => g3 j (by omega)⟩, rfl,
            (fun x hx => by rw [hvs] at hx; rw [(List.mem_replicate.1 hx).2]; rfl), by rw [hlen]; exact g5, by rw [none_rws, hvs]; exact none_rows n, disj_emp _, (join_emp' _).symm⟩ (Turned.refl hs)
          exact ⟨_, hle, ⟨hM, hok.tm.mono hle, hok.df⟩, rfl, rfl⟩
        · cases h
      · cases h
    · cases h
  | asLimbo b b' k T =>
    simp only [fx2] at h
    split at h
    · rename_i c n TS sz ep nn hb
      split at h
      · rename_i l
        split at h
        · rename_i hsz
          rw [Nat.beq_eq] at hsz
          subst hsz
          split at h
          · rename_i R T' TS' oe re pd hb'
            simp only [Option.some.injEq, Prod.mk.injEq] at h
            obtain ⟨h1, rfl⟩ := h
            subst h1
            obtain ⟨rfl, rfl⟩ := hφ
            obtain ⟨hn', ⟨fb, u, us, hs, ho, hr, k1, k2, _⟩, _⟩ := hok.models.item hb'
            obtain ⟨hn, ⟨f0, v, vs, g1, g2, g3, g4, g5, _⟩, hs, hput⟩ := hok.models.take hb
            have g4 : DenL e [] vs := g4
            simp only [DenL] at g4
            subst g4
            have hM := hput (w' := w) (hn' := hn) (b' := .limbo b' re (Lim.none k) T TS ep) (Le.refl e) (fun j hj => rfl) ⟨_, v, [], hn, emp, fb, _, g1, g2, g3, k1, k2, by simp, g5, by rw [none_lim]; rfl, disj_emp _, (join_emp' _).symm⟩ (Turned.refl hs)
            exact ⟨e, Le.refl e, ⟨hM, hok.tm, hok.df⟩, rfl, rfl⟩
          · cases h
        · cases h
      · cases h
    · cases h
  | _ => simp [fx2] at h
theorem fxs_ok : ∀ {fs : List Fx} {e : Env} {Fr : PH} {st : St τ} {a : Act} {w : World} {K : St τ → Prop}, StOk I e Fr D st a w → fxs st fs K → ∃ e' st', LeB st.base e e' ∧ StOk I e' Fr D st' a w ∧ st'.base = st.base ∧ st'.rnd = st.rnd ∧ K st'
  | [], e, _, st, _, _, _, hok, h => ⟨e, st, LeB.refl _ e, hok, rfl, rfl, h⟩
  | f :: r, e, _, st, _, _, _, hok, h => by
    simp only [fxs] at h
    split at h
    · rename_i s1 h1
      obtain ⟨e1, g1, g2, g3, g4⟩ := fx1_ok hok h1
      obtain ⟨e2, s2, k1, k2, k3, k4, k5⟩ := fxs_ok g2 h
      exact ⟨e2, s2, g1.trans (g3 ▸ k1), k2, k3.trans g3, k4.trans g4, k5⟩
    · split at h
      · rename_i φ s1 h1
        obtain ⟨e1, g1, g2, g3, g4⟩ := fx2_ok hok h1 h.1
        obtain ⟨e2, s2, k1, k2, k3, k4, k5⟩ := fxs_ok g2 h.2
        exact ⟨e2, s2, (LeB.of_le g1).trans (g3 ▸ k1), k2, k3.trans g3, k4.trans g4, k5⟩
      · exact h.elim
theorem fxK_ok {A : Ann τ} {e : Env} {Fr : PH} {st : St τ} {a : Act} {w : World} {K : St τ → Prop} (hok : StOk I e Fr D st a w) (h : fxK A st K) : ∃ e' st', LeB st.base e e' ∧ StOk I e' Fr D st' a w ∧ st'.base = st.base ∧ st'.rnd = st.rnd ∧ K st' := by
  unfold fxK at h
  rw [forceSt_eq] at h
  obtain ⟨e', st', h1, h2, h3, h4, h5⟩ := fxs_ok hok h
  rw [forceSt_eq] at h5
  exact ⟨e', st', h1, h2, h3, h4, h5⟩
theorem ann_ok {cfg : Cfg τ} {rec : Rec τ} (hrec : RecOk I cfg.P rec) {A : Ann τ} {body : Code} {K : Exit → St τ → Prop} {Fr : PH} {r : Option Nat} {st : St τ} {e : Env} {a : Act} {w : World} (hr : st.rnd = r.isSome)
    (h : annK A rec body st K) (hok : StOk I e Fr D st a w) : (Code.loop body).wpIn (FF r) 0 cfg.P (Post I e Fr D st K) a w := by
  unfold annK at h
  obtain ⟨ef, stf, lf, okf, bf, rf, h⟩ := fxK_ok hok h
  · split at h
    · rename_i x0 hx0
      obtain ⟨h0, hw0', hround⟩ := h
      have hw0 := weakP_ok hw0'
      obtain ⟨e0, l0, ok0⟩ := weak_ok okf hw0
      have hlb : LeB st.base e e0 := LeB.trans lf (bf ▸ l0)
      refine wpIn_loop_ix (fun m a w => ∃ x e' Fr' D', A.μ stf x = m ∧ A.φ stf x ∧ LeB st.base e e' ∧ (A.f stf x).base = st.base ∧ (A.f stf x).rnd = st.rnd ∧ (Grow Fr D Fr' D' ∧ (st.rnd = true → Fr' = Fr)) ∧ StOk I e' Fr' D' (A.f stf x) a w) (A.μ stf x0)
        ⟨x0, e0, Fr, D, rfl, h0, hlb, hw0.base.symm.trans bf, hw0.rnd.symm.trans rf, ⟨Grow.refl Fr D, fun _ => rfl⟩, ok0⟩ ?_
      rintro m a w ⟨x, e', Fr', D', rfl, hx, hl, hb, hrn, hG, hok'⟩
      refine wpIn_mono (hrec body (A.f stf x) _ e' Fr' D' a w r (hrn.trans hr) (hround x hx) hok') fun ex a1 w1 hp => ?_
      obtain ⟨e1, s1, Fr1, D1, g1, g2, g3, gG, g4, g5⟩ := hp
      have hT : Grow Fr D Fr1 D1 ∧ (st.rnd = true → Fr1 = Fr) := ⟨hG.1.trans gG.1, fun q => (gG.2 (hrn.trans q)).trans (hG.2 q)⟩
      cases ex with
      | normal =>
        simp only at g5
        obtain ⟨e3, s2, l3, ok3, b3, r3, g5⟩ := fxK_ok g4 g5
        · split at g5
          · rename_i y hy0
            obtain ⟨hy, hwk', hlt⟩ := g5
            have hwk := weakP_ok hwk'
            obtain ⟨e2, k1, k2⟩ := weak_ok ok3 hwk
            refine ⟨A.μ stf y, hlt, y, e2, Fr1, D1, rfl, hy, hl.trans ?_, ?_, ?_, hT, k2⟩
            · rw [← hb]
              refine g1.trans (LeB.trans (g2 ▸ l3) ?_)
              rw [← g2, ← b3]; exact k1
            · rw [← hwk.base, b3, g2, hb]
            · rw [← hwk.rnd, r3, g3, hrn]
          · exact g5.elim
      | _ => exact ⟨e1, s1, Fr1, D1, hl.trans (hb ▸ g1), g2.trans hb, g3.trans hrn, hT, g4, g5⟩
    · exact h.elim
end Go.Sym
