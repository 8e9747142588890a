/- Rows of rows: the steps. -/
import Derived.Test.YtienakdnmhmglaaVOi
set_option linter.unusedSimpArgs false
set_option linter.unusedVariables false
set_option linter.unusedSectionVars false
namespace Go.Sym
open Go
variable {P : Program} {w : World} {τ : Type} {I : Inv τ}

def hasN : List Nat → Nat → Bool
  | [], _ => false
  | k :: r, n => match Nat.beq k n with
    | true => true
    | false => hasN r n
theorem get_set_out {α : Type} {l : List α} {b c : Nat} {x : α} (h : hasN [c] b = false) : (l.set c x)[b]? = l[b]? := by
  have : c ≠ b := fun e => by
    subst e
    have h2 : Nat.beq c c = true := by rw [Nat.beq_eq]
    simp [hasN, h2] at h
  exact List.getElem?_set_ne this
/-- What is behind a slice of one header: the item, its epoch, which row of it. -/
def oneH (x : SV) (H : List (SB τ)) : Option (Bool × Nat × Nat × Option Nat) :=
  match srcC x H 1 with
  | some (c, m, cn) => match cn with
    | .sv l => match l with
      | [y] => match hsel y with
        | some (d, q, sel, r) => match r with
          | [] => some (c && Nat.beq m 1, d, q, sel)
          | _ => none
        | none => none
      | _ => none
    | _ => none
  | none => none
theorem oneH_ok {e : Env} {H : List (SB τ)} {Fr : PH} {x : SV} {c : Bool} {d q : Nat} {sel : Option Nat} {v : Value} (hM : Models I e H Fr w) (h : oneH x H = some (c, d, q, sel)) (hc : c = true) (hx : Den e x v) :
    ∃ y, Den e (.h d (selP q sel [])) y ∧ SrcIn w v 1 1 [y] := by
  unfold oneH at h
  split at h
  · rename_i c1 m cn hs
    split at h
    · split at h
      · rename_i y
        split at h
        · rename_i d' q' sel' r hh
          split at h
          · simp only [Option.some.injEq, Prod.mk.injEq] at h
            obtain ⟨h1, rfl, rfl, rfl⟩ := h
            rw [hc, Bool.and_eq_true, Nat.beq_eq] at h1
            obtain ⟨h1, rfl⟩ := h1
            obtain ⟨vs, g1, g2⟩ := srcC_ok hM hs h1 hx
            simp only [Cn.den, DenL] at g1
            obtain ⟨u, r, rfl, g3, rfl⟩ := g1
            rw [hsel_ok hh] at g3
            exact ⟨u, g3, g2⟩
          · cases h
        · cases h
      · cases h
    · cases h
  · cases h
def growL (P : Program) (el : TypeId) (i : TypeInfo) (b ep j : Nat) (x : SV) (H : List (SB τ)) : LR τ :=
  match H[b]? with
  | some (.rows R T TS oe re pd) => match pd with
    | none => match Nat.beq T el && Nat.beq i.size R.sz, srcC x H i.size with
      | true, some (c, m, d) => match addC (asC P el (R.at j)) (asC P el d) with
        | some f => match R.setAt j f with
          | some R' => some (c && (Nat.beq re ep && (Nat.blt j R.len && decide (R.nAt j + m ≤ maxLen ∧ (R.nAt j + m) * i.bytes ≤ 140737488355328))), .h b [re + 1, 1, j], H.set b (.rows R' T TS oe (re + 1) (some j)), [b])
          | none => none
        | none => none
      | _, _ => none
    | some _ => none
  | _ => none
def ownAt (H : List (SB τ)) (d : Nat) (sel : Option Nat) : Option (Cn × Nat × TypeId × Nat × Nat) :=
  match sel with
  | none => match H[d]? with
    | some (.own cn n T sz q _) => some (cn, n, T, sz, q)
    | _ => none
  | some _ => none
theorem ownAt_ok {H : List (SB τ)} {d n sz q : Nat} {sel : Option Nat} {cn : Cn} {T : TypeId} (h : ownAt H d sel = some (cn, n, T, sz, q)) : sel = none ∧ ∃ nn, H[d]? = some (.own cn n T sz q nn) := by
  unfold ownAt at h
  split at h
  · split at h
    · rename_i hd
      simp only [Option.some.injEq, Prod.mk.injEq] at h
      obtain ⟨rfl, rfl, rfl, rfl, rfl⟩ := h
      exact ⟨rfl, _, hd⟩
    · cases h
  · cases h
def addL (P : Program) (el : TypeId) (i : TypeInfo) (b ep : Nat) (x : SV) (H : List (SB τ)) : LR τ :=
  match H[b]? with
  | some it => match oneH x H with
    | some (c, d, q, sel) => match it with
      | .rows R T TS oe re pd => match pd with
        | none => match ownAt H d sel with
          | some (cn, _, T', sz, q') => match Nat.beq TS el && (Nat.beq T' T && (Nat.beq sz R.sz && (Nat.beq i.size 1 && !(Nat.beq b d)))) with
            | true => match R.snoc (asC P T cn) with
              | some R' => some (c && (Nat.beq oe ep && (Nat.beq q' q && decide (R.len + 1 ≤ maxLen ∧ (R.len + 1) * i.bytes ≤ 140737488355328))), .h b [re + 1, 0], (H.set b (.rows R' T TS (re + 1) (re + 1) none)).set d .gone, [b, d])
              | none => none
            | false => none
          | none => none
        | some _ => none
      | .limbo b0 q0 L T TS le => match ownAt H d sel with
        | some (cn, _, T', sz, q') => match Nat.beq TS el && (Nat.beq T' T && (Nat.beq sz L.sz && (Nat.beq i.size 1 && !(Nat.beq b d)))) with
          | true => match L.snocR (asC P T cn) with
            | some L' => some (c && (Nat.beq le ep && (Nat.beq q' q && decide (L.len + 1 ≤ maxLen ∧ (L.len + 1) * i.bytes ≤ 140737488355328))), .h b [le + 1, 0], (H.set b (.limbo b0 q0 L' T TS (le + 1))).set d .gone, [b, d])
            | none => none
          | false => none
        | none => match sel with
          | some j => match Nat.beq TS el && (Nat.beq d b0 && Nat.beq i.size 1) with
            | true => some (c && (Nat.beq le ep && (Nat.beq q q0 && decide (L.len + 1 ≤ maxLen ∧ (L.len + 1) * i.bytes ≤ 140737488355328))), .h b [le + 1, 0], H.set b (.limbo b0 q0 (L.snocL j) T TS (le + 1)), [b])
            | false => none
          | none => none
      | _ => none
    | none => none
  | none => none
def appendL (P : Program) (t : TypeId) (s x : SV) (H : List (SB τ)) : LR τ :=
  match P.underlying t with
  | some (.slice el) => match P.info? el with
    | some i => match i.zero with
      | some z => match Nat.beq z.cells.size i.size, hsel s with
        | true, some (b, ep, sel, r) => match r with
          | [] => match sel with
            | some j => growL P el i b ep j x H
            | none => addL P el i b ep x H
          | _ => none
        | _, _ => none
      | none => none
    | none => none
  | _ => none
theorem appendL_ok {e : Env} {H H' : List (SB τ)} {Fr : PH} {t ty : TypeId} {x y z : SV} {c : Bool} {ws : List Nat} {u v : Value} (hM : Models I e H Fr w) (h : appendL P t x y H = some (c, z, H', ws)) (hc : c = true) (hx : Den e x u) (hy : Den e y v) :
    ∃ r w' e', (Builtin.append_ #[t, t] ty #[u, v]).run P w = .ok r w' ∧ Le e e' ∧ Models I e' H' Fr w' ∧ Den e' z r := by
  unfold appendL at h
  split at h
  · rename_i el hu
    split at h
    · rename_i i hi
      split at h
      · rename_i z0 hz
        split at h
        · rename_i b ep sel r hzs hs
          rw [Nat.beq_eq] at hzs
          rw [hsel_ok hs] at hx
          split at h
          · split at h
            · rename_i j
              unfold growL at h
              split at h
              · rename_i R T TS oe re pd hb
                split at h
                · split at h
                  · rename_i c1 m d hT hsrc
                    rw [Bool.and_eq_true, Nat.beq_eq, Nat.beq_eq] at hT
                    obtain ⟨rfl, hsz⟩ := hT
                    split at h
                    · rename_i f hadd
                      split at h
                      · rename_i R' hset
                        simp only [Option.some.injEq, Prod.mk.injEq] at h
                        obtain ⟨h1, rfl, rfl, _⟩ := h
                        rw [hc] at h1
                        simp only [Bool.and_eq_true, Nat.beq_eq, Nat.blt_eq, decide_eq_true_eq] at h1
                        obtain ⟨h1, rfl, h2, h3, h4⟩ := h1
                        obtain ⟨ns, g1, g2⟩ := srcC_ok hM hsrc h1 hy
                        exact growRow_ok hu hi hz hzs hM hb h2 hsz hadd hset hx g1 g2 h3 h4
                      · cases h
                    · cases h
                  · cases h
                · cases h
              · cases h
            · unfold addL at h
              split at h
              · rename_i it hb
                split at h
                · rename_i c1 d q sel hone
                  split at h
                  · rename_i R T TS oe re pd
                    split at h
                    · split at h
                      · rename_i cn n T' sz q' hown
                        split at h
                        · rename_i hT
                          simp only [Bool.and_eq_true, Nat.beq_eq, Bool.not_eq_true'] at hT
                          obtain ⟨rfl, rfl, hsz, hi1, hbd⟩ := hT
                          have hbd : b ≠ d := fun e => by rw [← Nat.beq_eq, hbd] at e; cases e
                          split at h
                          · rename_i R' hsn
                            simp only [Option.some.injEq, Prod.mk.injEq] at h
                            obtain ⟨h1, rfl, rfl, _⟩ := h
                            rw [hc] at h1
                            simp only [Bool.and_eq_true, Nat.beq_eq, decide_eq_true_eq] at h1
                            obtain ⟨h1, rfl, rfl, h3, h4⟩ := h1
                            obtain ⟨rfl, nn, hd⟩ := ownAt_ok hown
                            obtain ⟨yv, g1, g2⟩ := oneH_ok hM hone h1 hy
                            exact addRow_ok hu hi hz hi1 (by rw [hzs, hi1]) hM hb hd hbd hsz hsn hx g1 g2 h3 h4
                          · cases h
                        · cases h
                      · cases h
                    · cases h
                  · rename_i b0 q0 L T TS le
                    split at h
                    · rename_i cn n T' sz q' hown
                      split at h
                      · rename_i hT
                        simp only [Bool.and_eq_true, Nat.beq_eq, Bool.not_eq_true'] at hT
                        obtain ⟨rfl, rfl, hsz, hi1, hbd⟩ := hT
                        have hbd : b ≠ d := fun e => by rw [← Nat.beq_eq, hbd] at e; cases e
                        split at h
                        · rename_i R' hsn
                          simp only [Option.some.injEq, Prod.mk.injEq] at h
                          obtain ⟨h1, rfl, rfl, _⟩ := h
                          rw [hc] at h1
                          simp only [Bool.and_eq_true, Nat.beq_eq, decide_eq_true_eq] at h1
                          obtain ⟨h1, rfl, rfl, h3, h4⟩ := h1
                          obtain ⟨rfl, nn, hd⟩ := ownAt_ok hown
                          obtain ⟨yv, g1, g2⟩ := oneH_ok hM hone h1 hy
                          exact addLim_ok hu hi hz hi1 (by rw [hzs, hi1]) hM hb hd hbd hsz hsn hx g1 g2 (by rw [L.len_rows]; exact h3) (by rw [L.len_rows]; exact h4)
                        · cases h
                      · cases h
                    · split at h
                      · rename_i j
                        split at h
                        · rename_i hT
                          simp only [Bool.and_eq_true, Nat.beq_eq] at hT
                          obtain ⟨rfl, rfl, hi1⟩ := hT
                          simp only [Option.some.injEq, Prod.mk.injEq] at h
                          obtain ⟨h1, rfl, rfl, _⟩ := h
                          rw [hc] at h1
                          simp only [Bool.and_eq_true, Nat.beq_eq, decide_eq_true_eq] at h1
                          obtain ⟨h1, rfl, rfl, h3, h4⟩ := h1
                          obtain ⟨yv, g1, g2⟩ := oneH_ok hM hone h1 hy
                          exact addHdr_ok hu hi hz hi1 (by rw [hzs, hi1]) hM hb hx g1 g2 (by rw [L.len_rows]; exact h3) (by rw [L.len_rows]; exact h4)
                        · cases h
                      · cases h
                  · cases h
                · cases h
              · cases h
          · cases h
        · cases h
      · cases h
    · cases h
  · cases h
theorem growL_keeps {el : TypeId} {i : TypeInfo} {b ep j : Nat} {x z : SV} {H H' : List (SB τ)} {c : Bool} {ws : List Nat} {k : Nat} (h : growL P el i b ep j x H = some (c, z, H', ws)) (hw : hasN ws k = false) : H'[k]? = H[k]? ∧ H.length ≤ H'.length := by
  unfold growL at h
  split at h
  · split at h
    · split at h
      · split at h
        · split at h
          · simp only [Option.some.injEq, Prod.mk.injEq] at h
            obtain ⟨_, _, rfl, rfl⟩ := h
            exact ⟨get_set_out hw, by simp⟩
          · cases h
        · cases h
      · cases h
    · cases h
  · cases h
theorem get_set_out2 {α : Type} {l : List α} {b c k : Nat} {x y : α} (h : hasN [b, c] k = false) : ((l.set b x).set c y)[k]? = l[k]? := by
  have h1 : hasN [b] k = false ∧ hasN [c] k = false := by
    simp only [hasN] at h ⊢
    split at h
    · cases h
    · rename_i hb
      simp only [hb]
      exact ⟨trivial, h⟩
  rw [get_set_out h1.2, get_set_out h1.1]
theorem addL_keeps {el : TypeId} {i : TypeInfo} {b ep : Nat} {x z : SV} {H H' : List (SB τ)} {c : Bool} {ws : List Nat} {k : Nat} (h : addL P el i b ep x H = some (c, z, H', ws)) (hw : hasN ws k = false) : H'[k]? = H[k]? ∧ H.length ≤ H'.length := by
  unfold addL at h
  split at h
  · split at h
    · split at h
      · split at h
        · split at h
          · split at h
            · split at h
              · simp only [Option.some.injEq, Prod.mk.injEq] at h
                obtain ⟨_, _, rfl, rfl⟩ := h
                exact ⟨get_set_out2 hw, by simp⟩
              · cases h
            · cases h
          · cases h
        · cases h
      · split at h
        · split at h
          · split at h
            · simp only [Option.some.injEq, Prod.mk.injEq] at h
              obtain ⟨_, _, rfl, rfl⟩ := h
              exact ⟨get_set_out2 hw, by simp⟩
            · cases h
          · cases h
        · split at h
          · split at h
            · simp only [Option.some.injEq, Prod.mk.injEq] at h
              obtain ⟨_, _, rfl, rfl⟩ := h
              exact ⟨get_set_out hw, by simp⟩
            · cases h
          · cases h
      · cases h
    · cases h
  · cases h
theorem appendL_keeps {t : TypeId} {s x z : SV} {H H' : List (SB τ)} {c : Bool} {ws : List Nat} {k : Nat} (h : appendL P t s x H = some (c, z, H', ws)) (hw : hasN ws k = false) : H'[k]? = H[k]? ∧ H.length ≤ H'.length := by
  unfold appendL at h
  split at h
  · split at h
    · split at h
      · split at h
        · split at h
          · split at h
            · exact growL_keeps h hw
            · exact addL_keeps h hw
          · cases h
        · cases h
      · cases h
    · cases h
  · cases h

/-! ### A header is stored -/
def putL (P : Program) (T : TypeId) (a x : SV) (H : List (SB τ)) : LR τ :=
  match hsel a with
  | some (b, ep, sel, r) => match sel with
    | none => match r with
      | [i, o] => match hsel x with
        | some (d, q, sel', r') => match sel' with
          | some j => match r' with
            | [] => match H[b]? with
              | some (.rows R RT TS oe re pd) => match pd with
                | some k => match szT P T, Nat.beq d b && Nat.beq o 0 with
                  | some 1, true => some (Nat.beq oe ep && (Nat.beq q re && (Nat.beq i k && (Nat.beq j k && Nat.blt k R.len))), .v undef, H.set b (.rows R RT TS oe re none), [b])
                  | _, _ => none
                | none => none
              | _ => none
            | _ => none
          | none => none
        | none => none
      | _ => none
    | some _ => none
  | none => none
theorem putL_ok {e : Env} {H H' : List (SB τ)} {Fr : PH} {T : TypeId} {x y z : SV} {c : Bool} {ws : List Nat} {u v : Value} (hM : Models I e H Fr w) (h : putL P T x y H = some (c, z, H', ws)) (hc : c = true) (hx : Den e x u) (hy : Den e y v) :
    ∃ w', (Instr.storeAt T u v).run P w = .ok () w' ∧ Models I e H' Fr w' ∧ z = .v undef := by
  unfold putL at h
  split at h
  · rename_i b ep sel r hs
    split at h
    · split at h
      · rename_i i o
        split at h
        · rename_i d q sel' r' hs'
          split at h
          · rename_i j
            split at h
            · split at h
              · rename_i R RT TS oe re pd hb
                split at h
                · rename_i k
                  split at h
                  · rename_i hT hd
                    rw [Bool.and_eq_true, Nat.beq_eq, Nat.beq_eq] at hd
                    obtain ⟨rfl, rfl⟩ := hd
                    simp only [Option.some.injEq, Prod.mk.injEq] at h
                    obtain ⟨h1, rfl, rfl, rfl⟩ := h
                    rw [hc] at h1
                    simp only [Bool.and_eq_true, Nat.beq_eq, Nat.blt_eq] at h1
                    obtain ⟨rfl, rfl, rfl, rfl, h2⟩ := h1
                    rw [hsel_ok hs] at hx
                    rw [hsel_ok hs'] at hy
                    obtain ⟨w', g1, g2⟩ := putHdr_ok hT hM hb h2 hx hy
                    exact ⟨w', g1, g2, rfl⟩
                  · cases h
                · cases h
              · cases h
            · cases h
          · cases h
        · cases h
      · cases h
    · cases h
  · cases h
theorem putL_keeps {T : TypeId} {a x z : SV} {H H' : List (SB τ)} {c : Bool} {ws : List Nat} {k : Nat} (h : putL P T a x H = some (c, z, H', ws)) (hw : hasN ws k = false) : H'[k]? = H[k]? ∧ H.length ≤ H'.length := by
  unfold putL at h
  split at h
  · split at h
    · split at h
      · split at h
        · split at h
          · split at h
            · split at h
              · split at h
                · split at h
                  · simp only [Option.some.injEq, Prod.mk.injEq] at h
                    obtain ⟨_, _, rfl, rfl⟩ := h
                    exact ⟨get_set_out hw, by simp⟩
                  · cases h
                · cases h
              · cases h
            · cases h
          · cases h
        · cases h
      · cases h
    · cases h
  · cases h

/-! ### Headers are copied -/
def limAt (H : List (SB τ)) (d : Nat) (sel : Option Nat) : Option (Nat × Nat × Lim × TypeId × TypeId × Nat) :=
  match sel with
  | none => match H[d]? with
    | some (.limbo b0 q0 L T TS le) => some (b0, q0, L, T, TS, le)
    | _ => none
  | some _ => none
def copyL (P : Program) (D : TypeId) (d x : SV) (H : List (SB τ)) : LR τ :=
  match P.underlying D with
  | some (.slice el) => match szT P el with
    | some 1 => match hsel d with
      | some (b, ep, sel, r) => match sel with
        | none => match hsel x with
          | some (lb, lq, sel', r') => match r' with
            | [] => match limAt H lb sel' with
              | some (b0, q0, L, T', TS', le) => match H[b]? with
                | some (.rows R T TS oe re pd) => match pd with
                  | none => match partH R.len r, Nat.beq b0 b && (Nat.beq TS el && (Nat.beq TS' TS && (Nat.beq T' T && !(Nat.beq b lb)))) with
                    | some (lo, len), true => match R.merge lo L with
                      | some R' => some (Nat.beq oe ep && (Nat.beq q0 re && (Nat.beq le lq && (Nat.ble (lo + len) R.len && (Nat.ble L.len len && (Nat.blt 0 R.len && fitsB R.len lo L))))), .v (.int .i64 (L.len : Nat)), (H.set b (.rows R' T TS oe (re + 1) none)).set lb .gone, [b, lb])
                      | none => none
                    | _, _ => none
                  | some _ => none
                | _ => none
              | none => none
            | _ => none
          | none => none
        | some _ => none
      | none => none
    | _ => none
  | _ => none
theorem copyL_ok {e : Env} {H H' : List (SB τ)} {Fr : PH} {D D' ty : TypeId} {x y z : SV} {c : Bool} {ws : List Nat} {u v : Value} (hM : Models I e H Fr w) (h : copyL P D x y H = some (c, z, H', ws)) (hc : c = true) (hx : Den e x u) (hy : Den e y v) :
    ∃ r w' e', (Builtin.copy_ #[D, D'] ty #[u, v]).run P w = .ok r w' ∧ Le e e' ∧ Models I e' H' Fr w' ∧ Den e' z r := by
  unfold copyL at h
  split at h
  · rename_i el hu
    split at h
    · rename_i hsz
      split at h
      · rename_i b ep sel r hs
        split at h
        · split at h
          · rename_i lb lq sel' r' hs'
            split at h
            · split at h
              · rename_i b0 q0 L T' TS' le hlim
                split at h
                · rename_i R T TS oe re pd hb
                  split at h
                  · split at h
                    · rename_i lo len hpart hd
                      simp only [Bool.and_eq_true, Nat.beq_eq, Bool.not_eq_true'] at hd
                      obtain ⟨rfl, rfl, rfl, rfl, hbl⟩ := hd
                      have hbl : b0 ≠ lb := fun e => by rw [← Nat.beq_eq, hbl] at e; cases e
                      split at h
                      · rename_i R' hmer
                        simp only [Option.some.injEq, Prod.mk.injEq] at h
                        obtain ⟨h1, rfl, rfl, _⟩ := h
                        rw [hc] at h1
                        simp only [Bool.and_eq_true, Nat.beq_eq, Nat.blt_eq, Nat.ble_eq] at h1
                        obtain ⟨rfl, rfl, rfl, h2, h3, h4, h5⟩ := h1
                        unfold limAt at hlim
                        split at hlim
                        · split at hlim
                          · rename_i hl
                            simp only [Option.some.injEq, Prod.mk.injEq] at hlim
                            obtain ⟨rfl, rfl, rfl, rfl, rfl, rfl⟩ := hlim
                            rw [hsel_ok hs] at hx
                            rw [hsel_ok hs'] at hy
                            obtain ⟨r', w', e', g1, g2, g3, rfl⟩ := copyLim_ok (P := P) (D' := D') (ty := ty) hu hsz hM hb hl hbl hpart h2 h3 h4 hmer h5 hx hy
                            exact ⟨_, w', e', g1, g2, g3, by simp [Den]⟩
                          · cases hlim
                        · cases hlim
                      · cases h
                    · cases h
                  · cases h
                · cases h
              · cases h
            · cases h
          · cases h
        · cases h
      · cases h
    · cases h
  · cases h
theorem copyL_keeps {t : TypeId} {s x z : SV} {H H' : List (SB τ)} {c : Bool} {ws : List Nat} {k : Nat} (h : copyL P t s x H = some (c, z, H', ws)) (hw : hasN ws k = false) : H'[k]? = H[k]? ∧ H.length ≤ H'.length := by
  unfold copyL at h
  split at h
  · split at h
    · split at h
      · split at h
        · split at h
          · split at h
            · split at h
              · split at h
                · split at h
                  · split at h
                    · split at h
                      · simp only [Option.some.injEq, Prod.mk.injEq] at h
                        obtain ⟨_, _, rfl, rfl⟩ := h
                        exact ⟨get_set_out2 hw, by simp⟩
                      · cases h
                    · cases h
                  · cases h
                · cases h
              · cases h
            · cases h
          · cases h
        · cases h
      · cases h
    · cases h
  · cases h

end Go.Sym
