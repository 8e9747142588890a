/- What a slice's elements are: where they are copied from. Bytes as strings. Memory that is only read. -/
import Derived.Test.YtienakdnmhmglaaVOb
set_option linter.unusedSimpArgs false
set_option linter.unusedVariables false
set_option linter.unusedSectionVars false
namespace Go.Sym
open Go
variable {P : Program} {w : World} {τ : Type} {I : Inv τ}

def nilS (x : SV) : Bool :=
  match x with
  | .v (.slice none n c) => Nat.beq n 0 && Nat.beq c 0
  | _ => false
theorem nilS_ok {e : Env} {x : SV} {v : Value} (h : nilS x = true) (hd : Den e x v) : v = .slice none 0 0 := by
  unfold nilS at h
  split at h
  · rename_i n c
    simp only [Bool.and_eq_true, Nat.beq_eq] at h
    obtain ⟨rfl, rfl⟩ := h
    simpa [Den] using hd
  · cases h
/-- A part of a row. -/
def cutN (cn : Cn) (sz lo len : Nat) : Cn :=
  match cn with
  | .ints k xs => .ints k ((xs.drop lo).take len)
  | .recs xs => .recs ((xs.drop lo).take len)
  | .sv l => .sv ((l.drop (lo * sz)).take (len * sz))
/-- The sizes fit: numbers have one cell, a screen's cells four. -/
def szN (cn : Cn) (sz : Nat) : Bool :=
  match cn with
  | .ints _ _ => Nat.beq sz 1
  | .recs _ => Nat.beq sz 4
  | .sv _ => true
theorem cutN_den {e : Env} {cn : Cn} {sz lo len : Nat} {vs : List Value} (h : szN cn sz = true) (hd : cn.den e vs) : (cutN cn sz lo len).den e ((vs.drop (lo * sz)).take (len * sz)) := by
  cases cn with
  | ints k xs =>
    simp only [szN, Nat.beq_eq] at h
    subst h
    simp only [Cn.den] at hd ⊢
    subst hd
    simp [cutN, Cn.den]
  | recs xs =>
    simp only [szN, Nat.beq_eq] at h
    subst h
    simp only [Cn.den] at hd ⊢
    subst hd
    simp [cutN, Cn.den, cvals_drop, cvals_take]
  | sv l => exact DenL.take _ (DenL.drop _ hd)
def oneN (cn : Cn) : Bool :=
  match cn with
  | .sv l => l.all oneS
  | _ => true
theorem oneN_ok {e : Env} {cn : Cn} {vs : List Value} (h : oneN cn = true) (hd : cn.den e vs) : ∀ u ∈ vs, u.oneCell' = true := by
  cases cn with
  | sv l => exact all_one h hd
  | ints k xs => simp only [Cn.den] at hd; subst hd; intro u hu; obtain ⟨y, _, rfl⟩ := List.mem_map.1 hu; rfl
  | recs xs => simp only [Cn.den] at hd; subst hd; exact fun u hu => cvals_one hu
/-- What is in a slice: how many elements, and what. -/
def srcC (x : SV) (H : List (SB τ)) (sz : Nat) : Option (Bool × Nat × Cn) :=
  match nilS x with
  | true => some (true, 0, .sv [])
  | false => match x with
    | .s b o m _ => match H[b]? with
      | some (.cells l _) => match Nat.ble (o + m * sz) l.length && l.all oneS with
        | true => some (true, m, .sv ((l.drop o).take (m * sz)))
        | false => none
      | some (.ints k xs n _) => match Nat.beq sz 1 with
        | true => some (Nat.ble (o + m) n, m, .ints k ((xs.drop o).take m))
        | false => none
      | _ => none
    | x => match hsel x with
      | some (b, ep, sel, r) => match getR H b ep sel with
        | some (c, cn, n, sz', _) => match oneN cn with
          | true => match r with
            | [] => some (c && Nat.beq sz' sz, n, cn)
            | [lo, len, _] => some (c && (Nat.beq sz' sz && (szN cn sz && (Nat.ble (lo + len) n && Nat.blt 0 n))), len, cutN cn sz lo len)
            | _ => none
          | false => none
        | none => none
      | none => none
/-- A slice's cells, as they lie in memory. -/
def SrcIn (w : World) (v : Value) (m sz : Nat) (vs : List Value) : Prop :=
  vs.length = m * sz ∧ (∀ u ∈ vs, u.oneCell' = true) ∧ ((v = .slice none 0 0 ∧ m = 0) ∨ ∃ a cap, v = .slice (some a) m cap ∧ ∀ (j : Nat) u, vs[j]? = some u → w.cell? (a.add j) = some u)
theorem srcC_ok {e : Env} {H : List (SB τ)} {Fr : PH} {x : SV} {sz : Nat} {q : Bool} {m : Nat} {c : Cn} {v : Value} (hM : Models I e H Fr w) (h : srcC x H sz = some (q, m, c)) (hq : q = true) (hd : Den e x v) :
    ∃ vs, c.den e vs ∧ SrcIn w v m sz vs := by
  unfold srcC at h
  split at h
  · rename_i hn
    simp only [Option.some.injEq, Prod.mk.injEq] at h
    obtain ⟨_, rfl, rfl⟩ := h
    exact ⟨[], by simp [Cn.den, DenL], by simp, by simp, .inl ⟨nilS_ok hn hd, rfl⟩⟩
  split at h
  · rename_i b o len cap _
    split at h
    · rename_i l T hb
      split at h
      · rename_i hcond
        simp only [Bool.and_eq_true, Nat.ble_eq] at hcond
        simp only [Option.some.injEq, Prod.mk.injEq] at h
        obtain ⟨_, rfl, rfl⟩ := h
        obtain ⟨n, vs, h1, h2, h3⟩ := hM.cells hb
        simp only [Den] at hd
        obtain ⟨n', h4, rfl⟩ := hd
        rw [h1] at h4; cases h4
        have hlen := h2.length
        refine ⟨(vs.drop o).take (len * sz), (h2.drop o).take (len * sz), by simp; omega, fun u hu => all_one hcond.2 h2 u (List.mem_of_mem_drop (List.mem_of_mem_take hu)), .inr ⟨_, _, rfl, fun j u hj => ?_⟩⟩
        rw [add_none, cell_at h3]
        have hj2 : j < len * sz := by
          have := (List.getElem?_eq_some_iff.1 hj).1
          simp at this
          omega
        rw [List.getElem?_take_of_lt hj2, List.getElem?_drop] at hj
        simpa using hj
      · cases h
    · rename_i k xs n T hb
      split at h
      · rename_i hs
        rw [Nat.beq_eq] at hs
        subst hs
        simp only [Option.some.injEq, Prod.mk.injEq] at h
        obtain ⟨hcond, rfl, rfl⟩ := h
        rw [hq, Nat.ble_eq] at hcond
        obtain ⟨n', h1, h2, h3⟩ := hM.ints hb
        simp only [Den] at hd
        obtain ⟨n2, h4, rfl⟩ := hd
        rw [h1] at h4; cases h4
        refine ⟨((xs.drop o).take len).map (Value.int k), rfl, by simp; omega, fun u hu => ?_, .inr ⟨_, _, rfl, fun j u hj => ?_⟩⟩
        · obtain ⟨y, _, rfl⟩ := List.mem_map.1 hu; rfl
        · rw [add_none, cell_at h3]
          have hj2 : j < len := by
            have := (List.getElem?_eq_some_iff.1 hj).1
            simp at this
            omega
          rw [List.getElem?_map, List.getElem?_take_of_lt hj2, List.getElem?_drop] at hj
          simpa using hj
      · cases h
    · cases h
  · split at h
    · rename_i b ep sel r hs
      split at h
      · rename_i c' cn n sz' T hg
        split at h
        · rename_i hone
          rw [hsel_ok hs] at hd
          obtain ⟨f, g, hf, hg', hv, _⟩ := den_h hd
          split at h
          · simp only [Option.some.injEq, Prod.mk.injEq] at h
            obtain ⟨h1, rfl, rfl⟩ := h
            rw [hq, Bool.and_eq_true, Nat.beq_eq] at h1
            obtain ⟨h1, rfl⟩ := h1
            obtain ⟨f', g', u, vs, k1, k2, k3, k4, k5, k6⟩ := getR_ok hM hg h1
            rw [hf] at k1; cases k1
            rw [hg'] at k2; cases k2
            rw [k3] at hv
            have hv : v = u := hv
            subst hv
            refine ⟨vs, k4, k5.1, oneN_ok hone k4, ?_⟩
            obtain ⟨k7, ⟨rfl, rfl⟩ | ⟨g0, cap, rest, rfl, h4, _⟩⟩ := k5
            · exact .inl ⟨rfl, rfl⟩
            · refine .inr ⟨_, _, rfl, fun j u hj => ?_⟩
              rw [add_none, cell_at h4]
              have hj2 := (List.getElem?_eq_some_iff.1 hj).1
              simp only [Nat.zero_add, List.getElem?_toArray]
              rw [List.getElem?_append_left hj2]; exact hj
          · rename_i lo len z
            simp only [Option.some.injEq, Prod.mk.injEq] at h
            obtain ⟨h1, rfl, rfl⟩ := h
            rw [hq] at h1
            simp only [Bool.and_eq_true, Nat.beq_eq, Nat.ble_eq, Nat.blt_eq] at h1
            obtain ⟨h1, rfl, h2, h3, h4⟩ := h1
            obtain ⟨f', g', u, vs, k1, k2, k3, k4, k5, k6⟩ := getR_ok hM hg h1
            rw [hf] at k1; cases k1
            rw [hg'] at k2; cases k2
            rw [k3] at hv
            have hvl := k5.1
            have hmul : (lo + len) * sz' ≤ n * sz' := Nat.mul_le_mul_right _ h3
            rw [Nat.add_mul] at hmul
            refine ⟨(vs.drop (lo * sz')).take (len * sz'), cutN_den h2 k4, by simp; omega, fun u hu => oneN_ok hone k4 u (List.mem_of_mem_drop (List.mem_of_mem_take hu)), ?_⟩
            obtain ⟨k7, ⟨rfl, rfl⟩ | ⟨g0, cap, rest, rfl, h5, _⟩⟩ := k5
            · omega
            · refine .inr ⟨⟨g0, bif Nat.beq cap lo then 0 else lo * sz', none⟩, _, hv, fun j u hj => ?_⟩
              have hj2 : j < len * sz' := by
                have := (List.getElem?_eq_some_iff.1 hj).1
                simp at this
                omega
              have hne : Nat.beq cap lo = false := by
                rw [← Bool.not_eq_true, Nat.beq_eq]
                intro hh
                have hlen0 : len = 0 := by omega
                subst hlen0
                simp at hj2
              rw [hne]
              simp only [cond_false]
              rw [add_none, cell_at h5]
              rw [List.getElem?_take_of_lt hj2, List.getElem?_drop] at hj
              have hj3 := (List.getElem?_eq_some_iff.1 hj).1
              simp only [List.getElem?_toArray]
              rw [List.getElem?_append_left hj3]; exact hj
          · cases h
        · cases h
      · cases h
    · cases h

/-! ### Bytes as a string -/
def bytesOf (xs : List Int) : ByteArray := ⟨(xs.map fun n => UInt8.ofNat n.toNat).toArray⟩
theorem run_push (P : Program) (w : World) (f : Value → ByteArray → Sem (ForInStep ByteArray)) (hf : ∀ n s, f (.int .u8 n) s = pure (.yield (s.push (UInt8.ofNat n.toNat)))) : ∀ (xs : List Int) (s : ByteArray),
    (forIn (xs.map (Value.int .u8)) s f : Sem ByteArray).run P w = .ok (s ++ bytesOf xs) w
  | [], s => by
    have : s ++ bytesOf [] = s := by
      apply ByteArray.ext; simp [bytesOf]
    simp [this]
  | x :: xs, s => by
    simp only [List.map_cons, List.forIn_cons, Sem.run_bind, hf, Sem.run_pure, Result.andThen_ok]
    rw [run_push P w f hf xs]
    congr 1
    apply ByteArray.ext
    simp [bytesOf, ByteArray.push]
theorem run_bytes {v : Value} {xs : List Int} (h : SrcIn w v xs.length 1 (xs.map (Value.int .u8))) : (Conv.bytesToString v).run P w = .ok (.string (bytesOf xs)) w := by
  obtain ⟨_, _, ⟨rfl, h0⟩ | ⟨a, cap, rfl, hc⟩⟩ := h
  · have : xs = [] := List.eq_nil_of_length_eq_zero h0
    subst this
    simp [Conv.bytesToString]; rfl
  · have hl := run_loadCells_list (P := P) w a (xs.map (Value.int .u8)) hc
    rw [List.length_map] at hl
    unfold Conv.bytesToString
    simp only [Sem.run_bind, hl, Result.andThen_ok]
    rw [← Array.forIn_toList]
    simp only [List.toList_toArray]
    rw [run_push P w _ (fun n s => rfl) xs ByteArray.empty]
    simp only [Result.andThen_ok, Sem.run_pure]
    congr 2

/-! ### Memory that is only read -/
/-- A slice's elements. -/
def asSl : IC → Option (Nat × Nat × (Nat → Nat → IC))
  | .pl _ => none
  | .sl n sz c => some (n, sz, c)
  | .ss L => some (L.length, 1, fun i _ => .pl (.string (L.getD i ByteArray.empty)))
theorem View.node {ro : PH} {g : List Nat → Value} {ic : IC} {s : List Nat} {n sz : Nat} {c : Nat → Nat → IC} (h : View ro g ic s) (hc : asSl ic = some (n, sz, c)) :
    (g s).oneCell' = true ∧ ((g s = .slice none 0 0 ∧ n = 0) ∨ ∃ b o sp cap, g s = .slice (some ⟨b, o, sp⟩) n cap ∧
      ∀ i fo, i < n → fo < sz → sp = none ∧ g (s ++ [i, fo, 0]) = .pointer (some ⟨b, o + (i * sz + fo), none⟩) ∧ ∃ cs T fz x, ro b = some (.cells cs T fz) ∧ cs[o + (i * sz + fo)]? = some x ∧
        (match c i fo with
          | .pl y => x = y
          | _ => x = g (s ++ [i, fo]) ∧ x.oneCell' = true) ∧ View ro g (c i fo) (s ++ [i, fo])) := by
  cases ic with
  | pl y => simp [asSl] at hc
  | sl n' sz' c' =>
    simp only [asSl, Option.some.injEq, Prod.mk.injEq] at hc
    obtain ⟨rfl, rfl, rfl⟩ := hc
    obtain ⟨h1, h2 | ⟨b, o, sp, cap, h2, h3⟩⟩ := h
    · exact ⟨h1, .inl h2⟩
    · refine ⟨h1, .inr ⟨b, o, sp, cap, h2, fun i fo hi hf => ?_⟩⟩
      obtain ⟨g0, g1, cs, T, fz, x, g2, g3, g4, g5⟩ := h3 i fo hi hf
      refine ⟨g0, g1, cs, T, fz, x, g2, g3, ?_, g5⟩
      cases hcc : c' i fo with
      | pl y => rw [hcc] at g4; exact g4
      | sl _ _ _ => rw [hcc] at g4 g5; exact ⟨g4, by rw [g4]; exact g5.1⟩
      | ss _ => rw [hcc] at g4 g5; exact ⟨g4, by rw [g4]; exact g5.1⟩
  | ss L =>
    simp only [asSl, Option.some.injEq, Prod.mk.injEq] at hc
    obtain ⟨rfl, rfl, rfl⟩ := hc
    obtain ⟨h1, h2 | ⟨b, o, sp, cap, h2, h3⟩⟩ := h
    · exact ⟨h1, .inl h2⟩
    · refine ⟨h1, .inr ⟨b, o, sp, cap, h2, fun i fo hi hf => ?_⟩⟩
      obtain ⟨g0, g1, cs, T, fz, g2, g3⟩ := h3 i fo hi hf
      exact ⟨g0, g1, cs, T, fz, _, g2, g3, rfl, trivial⟩
def navS : IC → List Nat → Option (Bool × IC)
  | ic, [] => some (true, ic)
  | _, [_] => none
  | ic, i :: fo :: r => match asSl ic with
    | some (n, sz, c) => match navS (c i fo) r with
      | some (q, x) => some (Nat.blt i n && (Nat.blt fo sz && q), x)
      | none => none
    | none => none
theorem navS_ok {ro : PH} {g : List Nat → Value} : ∀ {p : List Nat} {ic x : IC} {s : List Nat} {q : Bool}, View ro g ic s → navS ic p = some (q, x) → q = true → View ro g x (s ++ p)
  | [], ic, x, s, q, h, hn, _ => by
    simp only [navS, Option.some.injEq, Prod.mk.injEq] at hn
    obtain ⟨_, rfl⟩ := hn
    simpa using h
  | [_], ic, x, s, q, h, hn, _ => by simp [navS] at hn
  | i :: fo :: r, ic, x, s, q, h, hn, hq => by
    unfold navS at hn
    split at hn
    · rename_i n sz c hc
      split at hn
      · rename_i q' x' hr
        simp only [Option.some.injEq, Prod.mk.injEq] at hn
        obtain ⟨h1, rfl⟩ := hn
        rw [hq, Bool.and_eq_true, Bool.and_eq_true, Nat.blt_eq, Nat.blt_eq] at h1
        obtain ⟨h1, h2, h3⟩ := h1
        obtain ⟨_, ⟨_, h0⟩ | ⟨b, o, sp, cap, _, hall⟩⟩ := h.node hc
        · omega
        · obtain ⟨_, _, _, _, _, _, _, _, _, hv⟩ := hall i fo h1 h2
          have := navS_ok hv hr h3
          simpa using this
      · cases hn
    · cases hn
/-- The slice at a path. -/
def navL (ic : IC) (p : List Nat) : Option (Bool × Nat × Nat × (Nat → Nat → IC)) :=
  match navS ic p with
  | some (q, x) => match asSl x with
    | some (n, sz, c) => some (q, n, sz, c)
    | none => none
  | none => none
theorem navL_ok {ro : PH} {g : List Nat → Value} {ic : IC} {p : List Nat} {q : Bool} {n sz : Nat} {c : Nat → Nat → IC} (h : View ro g ic []) (hn : navL ic p = some (q, n, sz, c)) (hq : q = true) :
    ∃ x, navS ic p = some (true, x) ∧ View ro g x p ∧ asSl x = some (n, sz, c) := by
  unfold navL at hn
  split at hn
  · rename_i q' x hx
    split at hn
    · rename_i n' sz' c' hc
      simp only [Option.some.injEq, Prod.mk.injEq] at hn
      obtain ⟨rfl, rfl, rfl, rfl⟩ := hn
      subst hq
      have := navS_ok h hx rfl
      exact ⟨x, hx, by simpa using this, hc⟩
    · cases hn
  · cases hn
def lastP : List Nat → Option (List Nat × Nat × Nat)
  | [i, fo, z] => match z with
    | 0 => some ([], i, fo)
    | _ => none
  | i :: fo :: r => match lastP r with
    | some (p, j, f) => some (i :: fo :: p, j, f)
    | none => none
  | _ => none
theorem lastP_ok : ∀ {q : List Nat} {p : List Nat} {i fo : Nat}, lastP q = some (p, i, fo) → q = p ++ [i, fo, 0]
  | [], _, _, _, h => by simp [lastP] at h
  | [_], _, _, _, h => by simp [lastP] at h
  | [a, b], p, i, fo, h => by simp [lastP] at h
  | [a, b, z], p, i, fo, h => by
    simp only [lastP] at h
    split at h
    · simp only [Option.some.injEq, Prod.mk.injEq] at h
      obtain ⟨rfl, rfl, rfl⟩ := h
      rfl
    · cases h
  | a :: b :: c :: d :: r, p, i, fo, h => by
    simp only [lastP] at h
    split at h
    · rename_i p' j f hr
      simp only [Option.some.injEq, Prod.mk.injEq] at h
      obtain ⟨rfl, rfl, rfl⟩ := h
      rw [lastP_ok hr]; rfl
    · cases h
def viewB (x : SV) (H : List (SB τ)) : Option (Nat × List Nat × IC) :=
  match x with
  | .r b p => match H[b]? with
    | some (.inp ic) => some (b, p, ic)
    | _ => none
  | _ => none
theorem viewB_ok {e : Env} {H : List (SB τ)} {Fr : PH} {x : SV} {b : Nat} {p : List Nat} {ic : IC} {v : Value} (hM : Models I e H Fr w) (h : viewB x H = some (b, p, ic)) (hd : Den e x v) :
    x = .r b p ∧ ∃ g, e b = some (.rd g) ∧ v = g p ∧ View I.ro g ic [] ∧ ∀ (k : Nat) (o : Obj), I.ro k = some o → w.heap[k]? = some o := by
  unfold viewB at h
  split at h
  · rename_i b' p'
    split at h
    · rename_i ic' hb
      simp only [Option.some.injEq, Prod.mk.injEq] at h
      obtain ⟨rfl, rfl, rfl⟩ := h
      obtain ⟨hn, ⟨g, h1, _, h2⟩, _⟩ := hM.item hb
      simp only [Den] at hd
      obtain ⟨g', h3, h4, _⟩ := hd
      rw [h1] at h3; cases h3
      exact ⟨rfl, g, h1, h4, h2, fun k o hk => hM.frame k o (hM.1.ro k o hk)⟩
    · cases h
  · cases h
def lenV (x : SV) (H : List (SB τ)) : Option (Bool × SV) :=
  match viewB x H with
  | some (_, p, ic) => match navL ic p with
    | some (q, n, _, _) => some (q, .v (.int .i64 n))
    | none => none
  | none => none
theorem lenV_ok {e : Env} {H : List (SB τ)} {Fr : PH} {x y : SV} {c : Bool} {v : Value} (hM : Models I e H Fr w) (h : lenV x H = some (c, y)) (hc : c = true) (hd : Den e x v) :
    ∃ a n cap, v = .slice a n cap ∧ y = .v (.int .i64 n) := by
  unfold lenV at h
  split at h
  · rename_i b p ic hv
    obtain ⟨rfl, g, h1, rfl, h2, _⟩ := viewB_ok hM hv hd
    split at h
    · rename_i q n sz c' hn
      simp only [Option.some.injEq, Prod.mk.injEq] at h
      obtain ⟨h3, rfl⟩ := h
      obtain ⟨x, _, hx, hs⟩ := navL_ok h2 hn (h3.trans hc)
      obtain ⟨_, ⟨h4, rfl⟩ | ⟨b0, o, sp, cap, h4, _⟩⟩ := hx.node hs
      · exact ⟨_, _, _, h4, rfl⟩
      · exact ⟨_, _, _, h4, rfl⟩
    · cases h
  · cases h
def idxV (x : SV) (H : List (SB τ)) (i : Int) (k : Nat) : Option (Bool × SV) :=
  match viewB x H with
  | some (b, p, ic) => match navL ic p with
    | some (q, n, sz, _) => some (q && (Nat.beq sz k && (Nat.blt 0 sz && decide (0 ≤ i ∧ i < (n : Int)))), .r b (p ++ [i.toNat, 0, 0]))
    | none => none
  | none => none
theorem idxV_ok {e : Env} {H : List (SB τ)} {Fr : PH} {T el : TypeId} {x y : SV} {c : Bool} {k : Nat} {kd : IntKind} {i : Int} {v : Value} (hM : Models I e H Fr w) (h : idxV x H i k = some (c, y)) (hc : c = true) (hd : Den e x v)
    (hu : P.underlying T = some (.slice el)) (hk : szT P el = some k) : ∃ u, (Instr.indexAt T v (.int kd i)).run P w = .ok u w ∧ Den e y u := by
  unfold idxV at h
  split at h
  · rename_i b p ic hv
    obtain ⟨rfl, g, h1, rfl, h2, _⟩ := viewB_ok hM hv hd
    split at h
    · rename_i q n sz c' hn
      simp only [Option.some.injEq, Prod.mk.injEq] at h
      obtain ⟨h3, rfl⟩ := h
      rw [hc] at h3
      simp only [Bool.and_eq_true, Nat.beq_eq, Nat.blt_eq, decide_eq_true_eq] at h3
      obtain ⟨h3, rfl, h4, h5⟩ := h3
      obtain ⟨x, _, hx, hs⟩ := navL_ok h2 hn h3
      obtain ⟨_, ⟨_, rfl⟩ | ⟨b0, o, sp, cap, h6, hall⟩⟩ := hx.node hs
      · omega
      · obtain ⟨rfl, h7, _⟩ := hall i.toNat 0 (by omega) h4
        refine ⟨.pointer (some ⟨b0, o + i.toNat * sz, none⟩), ?_, ?_⟩
        · rw [h6]; simp [Instr.indexAt, asIntOf, run_und hu, h5, run_szT hk, add_none]
        · simp only [Den]
          exact ⟨g, h1, by rw [h7]; simp, rfl⟩
    · cases h
  · cases h
def fldV (x : SV) (H : List (SB τ)) (off : Nat) : Option (Bool × SV) :=
  match viewB x H with
  | some (b, p, ic) => match lastP p with
    | some (p', i, fo) => match navL ic p' with
      | some (q, n, sz, _) => some (q && (Nat.blt i n && Nat.blt (fo + off) sz), .r b (p' ++ [i, fo + off, 0]))
      | none => none
    | none => none
  | none => none
theorem fldV_ok {e : Env} {H : List (SB τ)} {Fr : PH} {S : TypeId} {fields : Array Field} {f : Field} {x y : SV} {c : Bool} {m i : Nat} {v : Value} (hM : Models I e H Fr w) (h : fldV x H f.offset = some (c, y)) (hc : c = true) (hd : Den e x v)
    (hu : P.underlying S = some (.struct fields)) (hf' : fields[i]? = some f) (hm : szT P f.type = some (m + 1)) : ∃ u, (Instr.fieldAt S v i).run P w = .ok u w ∧ Den e y u := by
  unfold fldV at h
  split at h
  · rename_i b p ic hv
    obtain ⟨rfl, g, h1, rfl, h2, _⟩ := viewB_ok hM hv hd
    split at h
    · rename_i p' j fo hl
      have := lastP_ok hl
      subst this
      split at h
      · rename_i q n sz c' hn
        simp only [Option.some.injEq, Prod.mk.injEq] at h
        obtain ⟨h3, rfl⟩ := h
        rw [hc] at h3
        simp only [Bool.and_eq_true, Nat.blt_eq] at h3
        obtain ⟨h3, h4, h5⟩ := h3
        obtain ⟨x, _, hx, hs⟩ := navL_ok h2 hn h3
        obtain ⟨_, ⟨_, rfl⟩ | ⟨b0, o, sp, cap, h6, hall⟩⟩ := hx.node hs
        · omega
        · obtain ⟨rfl, h7, _⟩ := hall j fo h4 (by omega)
          obtain ⟨_, h8, _⟩ := hall j (fo + f.offset) h4 h5
          refine ⟨.pointer (some ⟨b0, o + (j * sz + (fo + f.offset)), none⟩), ?_, ?_⟩
          · rw [h7]; simp [Instr.fieldAt, run_und hu, hf', Instr.sureAddr, fieldPlace, run_szT hm, add_none, Nat.add_assoc]
          · simp only [Den]
            exact ⟨g, h1, h8.symm, rfl⟩
      · cases h
    · cases h
  · cases h
def cellV (b : Nat) (p : List Nat) (i fo : Nat) (ic : IC) : SV :=
  match ic with
  | .pl y => .v y
  | _ => .r b (p ++ [i, fo])
def cellsW (b : Nat) (p : List Nat) (c : Nat → Nat → IC) (i : Nat) : Nat → Nat → List SV
  | _, 0 => []
  | fo, k + 1 => cellV b p i fo (c i fo) :: cellsW b p c i (fo + 1) k
def loadV (P : Program) (T : TypeId) (x : SV) (H : List (SB τ)) : Option (Bool × SV) :=
  match viewB x H with
  | some (b, p, ic) => match lastP p with
    | some (p', i, fo) => match navL ic p' with
      | some (q, n, sz, c) => match aggT P T, szT P T with
        | some true, some k => some (q && (Nat.blt i n && (Nat.ble (fo + k) sz && Nat.blt 0 k)), .a (cellsW b p' c i fo k))
        | some false, _ => some (q && (Nat.blt i n && Nat.blt fo sz), cellV b p' i fo (c i fo))
        | _, _ => none
      | none => none
    | none => none
  | none => none
theorem loadV_ok {e : Env} {H : List (SB τ)} {Fr : PH} {T : TypeId} {x y : SV} {c : Bool} {v : Value} (hM : Models I e H Fr w) (h : loadV P T x H = some (c, y)) (hc : c = true) (hd : Den e x v) :
    ∃ u, (Instr.loadAt T v).run P w = .ok u w ∧ Den e y u := by
  unfold loadV at h
  split at h
  · rename_i b p ic hv
    obtain ⟨rfl, g, h1, rfl, h2, hro⟩ := viewB_ok hM hv hd
    split at h
    · rename_i p' j fo hl
      have := lastP_ok hl
      subst this
      split at h
      · rename_i q n sz c' hn
        -- one cell
        have cell : q = true → j < n → ∀ f, f < sz → ∃ b0 o cs T' fz x, g (p' ++ [j, f, 0]) = .pointer (some ⟨b0, o + (j * sz + f), none⟩) ∧ w.heap[b0]? = some (.cells cs T' fz) ∧ cs[o + (j * sz + f)]? = some x ∧ Den e (cellV b p' j f (c' j f)) x ∧
            (∃ cap, g p' = .slice (some ⟨b0, o, none⟩) n cap) := fun hq hj f hf => by
          obtain ⟨x0, _, hx, hs⟩ := navL_ok h2 hn hq
          obtain ⟨_, ⟨_, rfl⟩ | ⟨b0, o, sp, cap, h6, hall⟩⟩ := hx.node hs
          · omega
          · obtain ⟨rfl, h7, cs, T', fz, x, h8, h9, h10, h11⟩ := hall j f hj hf
            refine ⟨b0, o, cs, T', fz, x, h7, hro _ _ h8, h9, ?_, ⟨cap, h6⟩⟩
            unfold cellV
            cases hcc : c' j f with
            | pl y => rw [hcc] at h10; simpa [Den] using h10
            | sl _ _ _ => rw [hcc] at h10; simp only [Den]; exact ⟨g, h1, h10.1, h10.2⟩
            | ss _ => rw [hcc] at h10; simp only [Den]; exact ⟨g, h1, h10.1, h10.2⟩
        split at h
        · rename_i k ha hs
          simp only [Option.some.injEq, Prod.mk.injEq] at h
          obtain ⟨h3, rfl⟩ := h
          rw [hc] at h3
          simp only [Bool.and_eq_true, Nat.blt_eq, Nat.ble_eq] at h3
          obtain ⟨h3, h4, h5, h6⟩ := h3
          obtain ⟨b0, o, cs, T', fz, x0, g1, g2, _, _, cap, g3⟩ := cell h3 h4 fo (by omega)
          have all : ∀ (m f : Nat), f + m ≤ sz → ∃ vs : List Value, vs.length = m ∧ (∀ (i : Nat) v, vs[i]? = some v → cs[o + (j * sz + f) + i]? = some v) ∧ DenL e (cellsW b p' c' j f m) vs := by
            intro m
            induction m with
            | zero => intro f _; exact ⟨[], rfl, by simp, by simp [cellsW, DenL]⟩
            | succ m ih =>
              intro f hf
              obtain ⟨vs, q1, q2, q3⟩ := ih (f + 1) (by omega)
              obtain ⟨b1, o1, cs1, T1, fz1, x1, k1, k2, k3, k4, cap1, k5⟩ := cell h3 h4 f (by omega)
              rw [g3] at k5
              simp only [Value.slice.injEq, Option.some.injEq, Addr.mk.injEq, and_true, true_and] at k5
              obtain ⟨⟨rfl, rfl⟩, _⟩ := k5
              rw [g2] at k2; cases k2
              refine ⟨x1 :: vs, by simp [q1], fun i v hi => ?_, ?_⟩
              · cases i with
                | zero => simp only [List.getElem?_cons_zero, Option.some.injEq] at hi; subst hi; exact k3
                | succ i =>
                  have := q2 i v (by simpa using hi)
                  rw [← this]; congr 1; omega
              · simp only [cellsW, DenL]; exact ⟨_, _, rfl, k4, q3⟩
          obtain ⟨vs, q1, q2, q3⟩ := all k fo h5
          rw [g1]
          refine ⟨.agg vs.toArray, run_loadAt (run_load_agg ha hs g2 q1 q2), ?_⟩
          simp only [Den]; exact ⟨vs, q3, rfl⟩
        · rename_i ha
          simp only [Option.some.injEq, Prod.mk.injEq] at h
          obtain ⟨h3, rfl⟩ := h
          rw [hc] at h3
          simp only [Bool.and_eq_true, Nat.blt_eq] at h3
          obtain ⟨h3, h4, h5⟩ := h3
          obtain ⟨b0, o, cs, T', fz, x0, g1, g2, g4, g5, _⟩ := cell h3 h4 fo h5
          rw [g1]
          exact ⟨x0, run_loadAt (run_load_one ha g2 g4), g5⟩
        · cases h
      · cases h
    · cases h
  · cases h

end Go.Sym
