/- Quiet operations on rows that are owned, and on memory that is only read. -/
import Derived.Test.YtienakdnmhmglaaVOa
set_option linter.unusedSimpArgs false
set_option linter.unusedVariables false
set_option linter.unusedSectionVars false
namespace Go.Sym
open Go
variable {P : Program} {w : World} {τ : Type} {I : Inv τ}

/-! ### Rows that are owned -/
def lenH (x : SV) (H : List (SB τ)) : Option (Bool × SV) :=
  match hsel x with
  | some (b, ep, sel, r) => match baseN H b ep sel with
    | some (c, n, _) => match r with
      | [] => some (c, .v (.int .i64 n))
      | [_, len, _] => some (c && Nat.blt 0 n, .v (.int .i64 len))
      | _ => none
    | none => none
  | none => none
theorem lenH_ok {e : Env} {H : List (SB τ)} {Fr : PH} {x y : SV} {c : Bool} {v : Value} (hM : Models I e H Fr w) (h : lenH x H = some (c, y)) (hc : c = true) (hd : Den e x v) :
    ∃ a n cap, v = .slice a n cap ∧ y = .v (.int .i64 n) := by
  unfold lenH at h
  split at h
  · rename_i b ep sel r hs
    rw [hsel_ok hs] at hd
    split at h
    · rename_i c' n sz hb
      obtain ⟨f, g, hf, hg, hv, _⟩ := den_h hd
      split at h
      · simp only [Option.some.injEq, Prod.mk.injEq] at h
        obtain ⟨h1, rfl⟩ := h
        obtain ⟨f', g', u, k1, k2, k3, k4⟩ := baseN_ok hM hb (by rw [h1, hc])
        rw [hf] at k1; cases k1
        rw [hg] at k2; cases k2
        rw [k3] at hv
        rcases k4 with ⟨rfl, rfl⟩ | ⟨g0, cap, rfl, _⟩
        · exact ⟨_, _, _, hv, rfl⟩
        · exact ⟨_, _, _, hv, rfl⟩
      · rename_i lo len z
        simp only [Option.some.injEq, Prod.mk.injEq] at h
        obtain ⟨h1, rfl⟩ := h
        rw [hc, Bool.and_eq_true, Nat.blt_eq] at h1
        obtain ⟨f', g', u, k1, k2, k3, k4⟩ := baseN_ok hM hb h1.1
        rw [hf] at k1; cases k1
        rw [hg] at k2; cases k2
        rw [k3] at hv
        rcases k4 with ⟨rfl, rfl⟩ | ⟨g0, cap, rfl, _⟩
        · omega
        · exact ⟨_, _, _, hv, rfl⟩
      · cases h
    · cases h
  · cases h

def idxH (x : SV) (H : List (SB τ)) (i : Int) (k : Nat) : Option (Bool × SV) :=
  match hsel x with
  | some (b, ep, sel, r) => match baseN H b ep sel with
    | some (c, n, sz) => match r with
      | [] => some (c && (Nat.beq sz k && decide (0 ≤ i ∧ i < (n : Int))), .h b (selP ep sel [i.toNat, 0]))
      | [lo, len, _] => some (c && (Nat.beq sz k && (Nat.ble (lo + len) n && decide (0 ≤ i ∧ i < (len : Int)))), .h b (selP ep sel [lo + i.toNat, 0]))
      | _ => none
    | none => none
  | none => none
theorem idxH_ok {e : Env} {H : List (SB τ)} {Fr : PH} {T el : TypeId} {x y : SV} {c : Bool} {k : Nat} {kd : IntKind} {i : Int} {v : Value} (hM : Models I e H Fr w) (h : idxH x H i k = some (c, y)) (hc : c = true) (hd : Den e x v)
    (hu : P.underlying T = some (.slice el)) (hk : szT P el = some k) : ∃ u, (Instr.indexAt T v (.int kd i)).run P w = .ok u w ∧ Den e y u := by
  unfold idxH at h
  split at h
  · rename_i b ep sel r hs
    rw [hsel_ok hs] at hd
    split at h
    · rename_i c' n sz hb
      obtain ⟨f, g, hf, hg, hv, _⟩ := den_h hd
      split at h
      · simp only [Option.some.injEq, Prod.mk.injEq] at h
        obtain ⟨h1, rfl⟩ := h
        rw [hc, Bool.and_eq_true, Bool.and_eq_true, Nat.beq_eq, decide_eq_true_eq] at h1
        obtain ⟨h1, rfl, h2⟩ := h1
        obtain ⟨f', g', u, k1, k2, k3, k4⟩ := baseN_ok hM hb h1
        rw [hf] at k1; cases k1
        rw [hg] at k2; cases k2
        rw [k3] at hv
        rcases k4 with ⟨rfl, rfl⟩ | ⟨g0, cap, rfl, _⟩
        · omega
        · have hv : v = .slice (some ⟨g0, 0, none⟩) n cap := hv
          subst hv
          refine ⟨.pointer (some ⟨g0, i.toNat * sz, none⟩), ?_, ?_⟩
          · simp [Instr.indexAt, asIntOf, run_und hu, h2, run_szT hk, add_none]
          · have := h_den (sel := sel) (r := [i.toNat, 0]) hf hg
            rw [k3] at this
            exact this rfl
      · rename_i lo len z
        simp only [Option.some.injEq, Prod.mk.injEq] at h
        obtain ⟨h1, rfl⟩ := h
        rw [hc, Bool.and_eq_true, Bool.and_eq_true, Bool.and_eq_true, Nat.beq_eq, decide_eq_true_eq, Nat.ble_eq] at h1
        obtain ⟨h1, rfl, h3, h2⟩ := h1
        obtain ⟨f', g', u, k1, k2, k3, k4⟩ := baseN_ok hM hb h1
        rw [hf] at k1; cases k1
        rw [hg] at k2; cases k2
        rw [k3] at hv
        rcases k4 with ⟨rfl, rfl⟩ | ⟨g0, cap, rfl, k5, _⟩
        · omega
        · have hne : Nat.beq cap lo = false := by
            rw [← Bool.not_eq_true, Nat.beq_eq]; omega
          have hv : v = .slice (some ⟨g0, lo * sz, none⟩) len (cap - lo) := by simpa [rowRef, hne] using hv
          subst hv
          refine ⟨.pointer (some ⟨g0, (lo + i.toNat) * sz, none⟩), ?_, ?_⟩
          · simp [Instr.indexAt, asIntOf, run_und hu, h2, run_szT hk, add_none, Nat.add_mul]
          · have := h_den (sel := sel) (r := [lo + i.toNat, 0]) hf hg
            rw [k3] at this
            exact this rfl
      · cases h
    · cases h
  · cases h

def fldH (x : SV) (H : List (SB τ)) (off : Nat) : Option (Bool × SV) :=
  match hsel x with
  | some (b, ep, sel, r) => match baseN H b ep sel with
    | some (c, n, _) => match r with
      | [i, o] => some (c && Nat.blt i n, .h b (selP ep sel [i, o + off]))
      | _ => none
    | none => none
  | none => none
theorem fldH_ok {e : Env} {H : List (SB τ)} {Fr : PH} {S : TypeId} {fields : Array Field} {f : Field} {x y : SV} {c : Bool} {m i : Nat} {v : Value} (hM : Models I e H Fr w) (h : fldH x H f.offset = some (c, y)) (hc : c = true) (hd : Den e x v)
    (hu : P.underlying S = some (.struct fields)) (hf' : fields[i]? = some f) (hm : szT P f.type = some (m + 1)) : ∃ u, (Instr.fieldAt S v i).run P w = .ok u w ∧ Den e y u := by
  unfold fldH at h
  split at h
  · rename_i b ep sel r hs
    rw [hsel_ok hs] at hd
    split at h
    · rename_i c' n sz hb
      obtain ⟨f0, g, hf, hg, hv, _⟩ := den_h hd
      split at h
      · rename_i j o
        simp only [Option.some.injEq, Prod.mk.injEq] at h
        obtain ⟨h1, rfl⟩ := h
        rw [hc, Bool.and_eq_true, Nat.blt_eq] at h1
        obtain ⟨f', g', u, k1, k2, k3, k4⟩ := baseN_ok hM hb h1.1
        rw [hf] at k1; cases k1
        rw [hg] at k2; cases k2
        rw [k3] at hv
        rcases k4 with ⟨rfl, rfl⟩ | ⟨g0, cap, rfl, _⟩
        · omega
        · have hv : v = .pointer (some ⟨g0, j * sz + o, none⟩) := hv
          subst hv
          refine ⟨.pointer (some ⟨g0, j * sz + (o + f.offset), none⟩), ?_, ?_⟩
          · simp [Instr.fieldAt, run_und hu, hf', Instr.sureAddr, fieldPlace, run_szT hm, add_none, Nat.add_assoc]
          · have := h_den (sel := sel) (r := [j, o + f.offset]) hf hg
            rw [k3] at this
            exact this rfl
      · cases h
    · cases h
  · cases h

/-- The header of a row. -/
def hdrH (H : List (SB τ)) (b ep : Nat) (sel : Option Nat) (i : Nat) : Option (Bool × SV) :=
  match sel with
  | none => match H[b]? with
    | some (.rows R _ _ q re pd) => match pd with
      | none => some (Nat.beq q ep && Nat.blt i R.len, .h b [re, 1, i])
      | some _ => none
    | _ => none
  | some _ => none
def loadH (P : Program) (T : TypeId) (x : SV) (H : List (SB τ)) : Option (Bool × SV) :=
  match hsel x with
  | some (b, ep, sel, r) => match r with
    | [i, o] => match getR H b ep sel with
      | some (c, cn, _, sz, _) => match readR P T cn sz i o with
        | some (c', y) => some (c && c', y)
        | none => none
      | none => match hdrH H b ep sel i, aggT P T, o with
        | some (c, y), some false, 0 => some (c, y)
        | _, _, _ => none
    | _ => none
  | none => none
theorem run_loadAt {T : TypeId} {a : Addr} {u : Value} (h : (loadVar T a).run P w = .ok u w) : (Instr.loadAt T (.pointer (some a))).run P w = .ok u w := by
  simp only [Instr.loadAt, Instr.sureAddr, Sem.run_bind, Sem.run_pure, Result.andThen_ok, h]
theorem loadH_ok {e : Env} {H : List (SB τ)} {Fr : PH} {T : TypeId} {x y : SV} {c : Bool} {v : Value} (hM : Models I e H Fr w) (h : loadH P T x H = some (c, y)) (hc : c = true) (hd : Den e x v) :
    ∃ u, (Instr.loadAt T v).run P w = .ok u w ∧ Den e y u := by
  unfold loadH at h
  split at h
  · rename_i b ep sel r hs
    rw [hsel_ok hs] at hd
    obtain ⟨f, g, hf, hg, hv, _⟩ := den_h hd
    split at h
    · rename_i i o
      split at h
      · rename_i c1 cn n sz T' hget
        split at h
        · rename_i c2 z hr
          simp only [Option.some.injEq, Prod.mk.injEq] at h
          obtain ⟨h1, rfl⟩ := h
          rw [hc, Bool.and_eq_true] at h1
          obtain ⟨f', g', u, vs, k1, k2, k3, k4, k5, _⟩ := getR_ok hM hget h1.1
          rw [hf] at k1; cases k1
          rw [hg] at k2; cases k2
          rw [k3] at hv
          obtain ⟨g0, cap, r, rfl, hl, hdr⟩ := readR_ok hr h1.2 k4 k5
          have hv : v = .pointer (some ⟨g0, i * sz + o, none⟩) := hv
          subst hv
          exact ⟨r, run_loadAt hl, hdr⟩
        · cases h
      · split at h
        · rename_i c1 z hh ha
          simp only [Option.some.injEq, Prod.mk.injEq] at h
          obtain ⟨h1, rfl⟩ := h
          unfold hdrH at hh
          split at hh
          · split at hh
            · rename_i R T' TS q re pd hb
              split at hh
              · simp only [Option.some.injEq, Prod.mk.injEq] at hh
                obtain ⟨h2, rfl⟩ := hh
                rw [h1, hc, Bool.and_eq_true, Nat.beq_eq, Nat.blt_eq] at h2
                obtain ⟨rfl, h2⟩ := h2
                obtain ⟨hn, ⟨f0, u, us, hs0, ho, hr, g1, g2r, ⟨_, ⟨g00, g2, g2u⟩, g3⟩, g4, g4', g5, g6, g7, rfl⟩, hs'⟩ := hM.item hb
                rw [hf] at g1; cases g1
                rw [hg] at g2; cases g2
                have hv : v = rowRef 1 u [i, 0] := hv.trans (g2u _)
                have g4 : hs0 = us := g4
                subst g4
                have hlen : i < hs0.length := by rw [g6.length, R.rows_length]; exact h2
                rw [sub_join g7] at hs'
                obtain ⟨_, ⟨rfl, h0⟩ | ⟨g0, cap, rest, rfl, h4, _⟩⟩ := g5.in hs'.1
                · omega
                · have hv : v = .pointer (some ⟨g0, i * 1 + 0, none⟩) := hv
                  subst hv
                  refine ⟨hs0[i], run_loadAt (run_load_one ha h4 ?_), ?_⟩
                  · simp [List.getElem?_append, hlen]
                  · have := h_den (sel := some i) (r := []) hf g2r
                    have e1 : rowsRef R.sz (.slice (some ⟨g0, 0, none⟩) hs0.length cap) hs0 (selQ (some i) []) = hs0[i] := by
                      show hs0.getD i undef = hs0[i]
                      rw [List.getD, List.getElem?_eq_getElem hlen]; rfl
                    rw [e1] at this
                    exact this (g4' _ (List.getElem_mem hlen))
              · cases hh
            · cases hh
          · cases hh
        · cases h
    · cases h
  · cases h

def cutH (x : SV) (H : List (SB τ)) (lo hi : Option SV) (k : Nat) : Option (Bool × SV) :=
  match hsel x with
  | some (b, ep, sel, r) => match baseN H b ep sel with
    | some (c, n, sz) => match r with
      | [] => match bndI 0 lo, bndI n hi with
        | some l, some h => some (c && (Nat.beq sz k && decide (0 ≤ l ∧ l ≤ h ∧ h ≤ (n : Int))), .h b (selP ep sel [l.toNat, h.toNat - l.toNat, 0]))
        | _, _ => none
      | _ => none
    | none => none
  | none => none
theorem cutH_ok {e : Env} {H : List (SB τ)} {Fr : PH} {T el : TypeId} {x y : SV} {lo hi : Option SV} {c : Bool} {k : Nat} {v : Value} {vl vh : Option Value} (hM : Models I e H Fr w) (h : cutH x H lo hi k = some (c, y)) (hc : c = true) (hd : Den e x v)
    (hu : P.underlying T = some (.slice el)) (hk : szT P el = some k) (gl : ∀ a, vl = some a → ∃ s, lo = some s ∧ Den e s a) (nl : vl = none → lo = none) (gh : ∀ a, vh = some a → ∃ s, hi = some s ∧ Den e s a) (nh : vh = none → hi = none) :
    ∃ r, (Instr.sliceAt T v vl vh none).run P w = .ok r w ∧ Den e y r := by
  unfold cutH at h
  split at h
  · rename_i b ep sel r hs
    rw [hsel_ok hs] at hd
    split at h
    · rename_i c' n sz hb
      obtain ⟨f, g, hf, hg, hv, _⟩ := den_h hd
      split at h
      · split at h
        · rename_i l h' hl hh
          simp only [Option.some.injEq, Prod.mk.injEq] at h
          obtain ⟨h1, rfl⟩ := h
          rw [hc, Bool.and_eq_true, Bool.and_eq_true, Nat.beq_eq, decide_eq_true_eq] at h1
          obtain ⟨h1, rfl, h2⟩ := h1
          obtain ⟨f', g', u, k1, k2, k3, k4⟩ := baseN_ok hM hb h1
          rw [hf] at k1; cases k1
          rw [hg] at k2; cases k2
          rw [k3] at hv
          have hden := h_den (sel := sel) (r := [l.toNat, h'.toNat - l.toNat, 0]) hf hg
          rw [k3] at hden
          rcases k4 with ⟨rfl, rfl⟩ | ⟨g0, cap, rfl, k5, _⟩
          · have hv : v = .slice none 0 0 := hv
            subst hv
            have h3 : 0 ≤ l ∧ l ≤ h' ∧ h' ≤ ((0 : Nat) : Int) := h2
            have hl0 : l = 0 := by omega
            have hh0 : h' = 0 := by omega
            subst hl0; subst hh0
            refine ⟨.slice none 0 0, ?_, hden rfl⟩
            simp only [Instr.sliceAt, Instr.slice, Sem.run_bind, run_und hu, Result.andThen_ok, Sem.run_pure, bnds_ok (isS := true) (cap := 0) hl hh h3 gl nl gh nh, run_szT hk]
            rfl
          · have hv : v = .slice (some ⟨g0, 0, none⟩) n cap := hv
            subst hv
            refine ⟨.slice (some ⟨g0, bif Nat.beq cap l.toNat then 0 else l.toNat * sz, none⟩) (h'.toNat - l.toNat) (cap - l.toNat), ?_, hden rfl⟩
            simp only [Instr.sliceAt, Instr.slice, Sem.run_bind, run_und hu, Result.andThen_ok, Sem.run_pure, bnds_ok (isS := true) (cap := cap) hl hh ⟨h2.1, h2.2.1, by omega⟩ gl nl gh nh, run_szT hk]
            by_cases hn : cap = l.toNat
            · rw [if_pos hn, show Nat.beq cap l.toNat = true from by rw [Nat.beq_eq]; exact hn]; rfl
            · rw [if_neg hn, show Nat.beq cap l.toNat = false from by rw [← Bool.not_eq_true, Nat.beq_eq]; exact hn, Option.map_some, add_none]; simp
        · cases h
      · cases h
    · cases h
  · cases h

/-- Is it a slice that is known not to be nil? -/
def realH (x : SV) (H : List (SB τ)) : Option Bool :=
  match hsel x with
  | some (b, ep, sel, r) => match r with
    | [] => match baseN H b ep sel with
      | some (c, n, _) => match sel, H[b]? with
        | none, some (.own _ _ _ _ _ true) => some c
        | _, _ => some (c && Nat.blt 0 n)
      | none => none
    | _ => none
  | none => none
theorem realH_ok {e : Env} {H : List (SB τ)} {Fr : PH} {x : SV} {c : Bool} {v : Value} (hM : Models I e H Fr w) (h : realH x H = some c) (hc : c = true) (hd : Den e x v) : ∃ a n cap, v = .slice (some a) n cap := by
  unfold realH at h
  split at h
  · rename_i b ep sel r hs
    rw [hsel_ok hs] at hd
    split at h
    · split at h
      · rename_i c' n sz hb
        obtain ⟨f, g, hf, hg, hv, _⟩ := den_h hd
        split at h
        · rename_i cn n' T sz' q hi
          simp only [Option.some.injEq] at h
          obtain ⟨f', g', u, k1, k2, k3, k4⟩ := baseN_ok hM hb (by rw [h, hc])
          rw [hf] at k1; cases k1
          rw [hg] at k2; cases k2
          rw [k3] at hv
          obtain ⟨hn, ⟨f0, v0, vs, g1, g2, g3, g4, g5, g6⟩, hs'⟩ := hM.item hi
          rw [hf] at g1; cases g1
          have hq : q = ep := by
            unfold baseN at hb
            simp only [getR, hi, Option.some.injEq, Prod.mk.injEq] at hb
            have := hb.1
            rw [h, hc, Nat.beq_eq] at this
            exact this
          subst hq
          rw [hg] at g2; cases g2
          have huv : u = v0 := by have := k3 []; exact this.symm
          subst huv
          rcases k4 with ⟨rfl, _⟩ | ⟨g0, cap, rfl, _⟩
          · exact absurd rfl (g6 rfl)
          · exact ⟨_, _, _, hv⟩
        · simp only [Option.some.injEq] at h
          rw [hc, Bool.and_eq_true, Nat.blt_eq] at h
          obtain ⟨f', g', u, k1, k2, k3, k4⟩ := baseN_ok hM hb h.1
          rw [hf] at k1; cases k1
          rw [hg] at k2; cases k2
          rw [k3] at hv
          rcases k4 with ⟨rfl, rfl⟩ | ⟨g0, cap, rfl, _⟩
          · omega
          · exact ⟨_, _, _, hv⟩
      · cases h
    · cases h
  · cases h

end Go.Sym
