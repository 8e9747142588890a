/- Loud operations on rows that are owned: the steps. -/
import Derived.Test.YtienakdnmhmglaaVOf
set_option linter.unusedSimpArgs false
set_option linter.unusedVariables false
set_option linter.unusedSectionVars false
namespace Go.Sym
open Go
variable {P : Program} {w : World} {τ : Type} {I : Inv τ}

abbrev LR (τ : Type) := Option (Bool × SV × List (SB τ) × List Nat)
def storeH (P : Program) (T : TypeId) (a x : SV) (H : List (SB τ)) : LR τ :=
  match hsel a with
  | some (b, ep, sel, r) => match r with
    | [i, o] => match getR H b ep sel with
      | some (c, cn, _, sz, _) => match writeR P T cn sz i o x with
        | some (c', cn') => match setR H b sel cn' with
          | some H' => some (c && c', .v undef, H', [b])
          | none => none
        | none => none
      | none => none
    | _ => none
  | none => none
/-- Where the row lies that an append adds to. -/
inductive Bs where
  | new
  | own (b : Nat)
  | blk (b : Nat)
/-- A block of its own that is a slice, whole. -/
def blkS (el sz : Nat) (s : SV) (H : List (SB τ)) : Option (Nat × List SV × Nat) :=
  match s with
  | .s b o len cap => match H[b]? with
    | some (.cells l T) => match Nat.beq o 0 && (Nat.beq cap len && (Nat.beq T el && (Nat.beq l.length (len * sz) && Nat.ble len maxLen))) with
      | true => some (b, l, len)
      | false => none
    | _ => none
  | _ => none
/-- The row that an append adds to: its item, its epoch, content, length, and whether it is not nil. -/
def baseA (P : Program) (el sz : Nat) (s : SV) (H : List (SB τ)) : Option (Bs × Nat × Cn × Nat × Bool × Bool) :=
  match nilS s with
  | true => some (.new, 0, .sv [], 0, false, true)
  | false => match blkS el sz s H with
  | some (b, l, len) => some (.blk b, 0, .sv l, len, true, true)
  | none => match hsel s with
    | some (b, ep, sel, r) => match r, sel with
      | [], none => match H[b]? with
        | some (.own c n T sz' q nn) => match Nat.beq T el && Nat.beq sz' sz with
          | true => some (.own b, ep, c, n, nn, Nat.beq q ep)
          | false => none
        | _ => none
      | _, _ => none
    | none => none
def appendH (P : Program) (t : TypeId) (s x : SV) (H : List (SB τ)) : LR τ :=
  match P.underlying t with
  | some (.slice el) => match P.info? el with
    | some i => match i.zero with
      | some z => match Nat.beq z.cells.size i.size, baseA P el i.size s H, srcC x H i.size with
        | true, some (bo, ep, c, n, nn, c1), some (c2, m, d) => match addC (asC P el c) (asC P el d) with
          | some f => match bo with
            | .new => some (c1 && (c2 && decide (n + m ≤ maxLen ∧ (n + m) * i.bytes ≤ 140737488355328)), .h H.length [0, 0], H ++ [.own f (n + m) el i.size 0 (nn || Nat.blt 0 m)], [])
            | .blk b => some (c1 && (c2 && decide (n + m ≤ maxLen ∧ (n + m) * i.bytes ≤ 140737488355328)), .h H.length [0, 0], H.set b .gone ++ [.own f (n + m) el i.size 0 (nn || Nat.blt 0 m)], [b])
            | .own b => some (c1 && (c2 && decide (n + m ≤ maxLen ∧ (n + m) * i.bytes ≤ 140737488355328)), .h b [ep + 1, 0], H.set b (.own f (n + m) el i.size (ep + 1) (nn || Nat.blt 0 m)), [b])
          | none => none
        | _, _, _ => none
      | none => none
    | none => none
  | _ => none
/-- What a new row holds. -/
def madeC (P : Program) (el : TypeId) (z : Value) (n sz : Nat) : Cn :=
  match z.cells.toList with
  | [.int k m] => match decide (m = 0) with
    | true => .ints k (List.replicate (n * sz) 0)
    | false => .sv ((List.range (n * sz)).map fun i => .v (z.cells[i % z.cells.size]!))
  | [.slice a m c] => match Nat.beq sz 1 with
    | true => .sv (List.replicate n (.v (.slice a m c)))
    | false => .sv ((List.range (n * sz)).map fun i => .v (z.cells[i % z.cells.size]!))
  | l => match decRecs (l.map .v) with
    | some xs => match xs with
      | [c] => match Nat.beq sz 4 with
        | true => .recs (List.replicate n c)
        | false => .sv ((List.range (n * sz)).map fun i => .v (z.cells[i % z.cells.size]!))
      | _ => .sv ((List.range (n * sz)).map fun i => .v (z.cells[i % z.cells.size]!))
    | none => .sv ((List.range (n * sz)).map fun i => .v (z.cells[i % z.cells.size]!))
def makeH (P : Program) (T : TypeId) (l c : SV) (H : List (SB τ)) : LR τ :=
  match l, c, P.underlying T with
  | .v (.int _ a), .v (.int _ b), some (.slice el) => match P.info? el with
    | some i => match i.zero with
      | some z => match Nat.beq z.cells.size i.size with
        | true => some (decide (0 ≤ a ∧ a ≤ b ∧ (i.bytes : Int) * b ≤ 281474976710656 ∧ b ≤ (maxLen : Int)), .h H.length [0, 0], H ++ [.own (madeC P el z a.toNat i.size) a.toNat el i.size 0 true], [])
        | false => none
      | none => none
    | none => none
  | _, _, _ => none
/-- The part of a row that is written over. -/
def partH (n : Nat) (r : List Nat) : Option (Nat × Nat) :=
  match r with
  | [] => some (0, n)
  | [lo, len, _] => some (lo, len)
  | _ => none
def copyH (P : Program) (D : TypeId) (d x : SV) (H : List (SB τ)) : LR τ :=
  match P.underlying D with
  | some (.slice el) => match szT P el, hsel d with
    | some k, some (b, ep, sel, r) => match getR H b ep sel with
      | some (c, cn, n, sz, T) => match partH n r, srcC x H sz with
        | some (lo, len), some (c2, m, d) => match putN cn (asC P el d) sz lo (Nat.min m len) with
          | some f => match setR H b sel f with
            | some H' => some (c && (c2 && (szN cn sz && (Nat.beq sz k && (Nat.beq T el && (Nat.ble (lo + len) n && Nat.blt 0 n))))), .v (.int .i64 (Nat.min m len : Nat)), H', [b])
            | none => none
          | none => none
        | _, _ => none
      | none => none
    | _, _ => none
  | _ => none

theorem storeH_ok {e : Env} {H H' : List (SB τ)} {Fr : PH} {T : TypeId} {x y z : SV} {c : Bool} {ws : List Nat} {u v : Value} (hM : Models I e H Fr w) (h : storeH P T x y H = some (c, z, H', ws)) (hc : c = true) (hx : Den e x u) (hy : Den e y v) :
    ∃ w', (Instr.storeAt T u v).run P w = .ok () w' ∧ Models I e H' Fr w' ∧ z = .v undef := by
  unfold storeH at h
  split at h
  · rename_i b ep sel r hs
    rw [hsel_ok hs] at hx
    obtain ⟨f, g, hf, hg, hv, _⟩ := den_h hx
    split at h
    · rename_i i o
      split at h
      · rename_i c1 cn n sz T' hget
        split at h
        · rename_i c2 cn' hw
          split at h
          · rename_i H2 hset
            simp only [Option.some.injEq, Prod.mk.injEq] at h
            obtain ⟨h1, rfl, rfl, rfl⟩ := h
            rw [hc, Bool.and_eq_true] at h1
            obtain ⟨f', g', u0, vs, hh, k1, k2, k3, k4, k5, k6, k7⟩ := getR_lens hM hget h1.1
            rw [hf] at k1; cases k1
            rw [hg] at k2; cases k2
            rw [k3] at hv
            obtain ⟨q1, q2, q3, q4, q5⟩ := writeR_ok hw h1.2 k4 hy
            obtain ⟨q6, ⟨rfl, rfl, _⟩ | ⟨g0, cap, rest, rfl, _⟩⟩ := id k5
            · simp only [Nat.zero_mul] at q6; omega
            · obtain ⟨w', h', p1, p2, p3⟩ := store_ok (P := P) k5 k6 q1 q2 q4
              have hv : u = .pointer (some ⟨g0, i * sz + o, none⟩) := hv
              subst hv
              refine ⟨w', ?_, k7 _ _ _ _ _ hset q5 p2 p3, rfl⟩
              simp only [Instr.storeAt, Instr.sureAddr, Sem.run_bind, Sem.run_pure, Result.andThen_ok, p1]
          · cases h
        · cases h
      · cases h
    · cases h
  · cases h

/-- An own item grows. -/
theorem own_grow {e : Env} {H : List (SB τ)} {Fr : PH} (hM : Models I e H Fr w) {b ep n sz : Nat} {cn : Cn} {T : TypeId} {nn : Bool} (hb : H[b]? = some (.own cn n T sz ep nn)) :
    ∃ f v vs h1, e b = some (.hd f) ∧ f ep = some (ownRef sz v) ∧ cn.den e vs ∧ RowOk v n sz T vs h1 ∧ Sub h1 w ∧ (nn = true → v ≠ .slice none 0 0) ∧
      ∀ (cn' : Cn) (n' : Nat) (v' : Value) (vs' : List Value) (h1' : PH) (w' : World) (nn' : Bool), cn'.den e vs' → RowOk v' n' sz T vs' h1' → Turned w w' h1 h1' → (nn' = true → v' ≠ .slice none 0 0) →
        ∃ e', Le e e' ∧ Models I e' (H.set b (.own cn' n' T sz (ep + 1) nn')) Fr w' ∧ Den e' (.h b [ep + 1, 0]) v' := by
  obtain ⟨hn, ⟨f, v, vs, g1, g2, g3, g4, g5, g6⟩, hs, hput⟩ := hM.take hb
  refine ⟨f, v, vs, hn, g1, g2, g4, g5, hs, g6, fun cn' n' v' vs' h1' w' nn' hd hr ht hnn => ?_⟩
  have hgrow : ∀ j g, f j = some g → (fun j => if j = ep + 1 then some (ownRef sz v') else f j) j = some g := fun j g hj => by
    have : j ≠ ep + 1 := fun e => by subst e; rw [g3 _ (Nat.lt_succ_self _)] at hj; cases hj
    simp only [this, if_false]; exact hj
  have hle : Le e (ext e b (.hd fun j => if j = ep + 1 then some (ownRef sz v') else f j)) := le_grow g1 ⟨_, rfl, hgrow⟩
  refine ⟨_, hle, hput hle (fun j hj => ext_ne _ _ _ hj) ⟨_, v', vs', ext_self _ _ _, by simp, fun j hj => ?_, Cn.den_mono hle hd, hr, hnn⟩ ht, ?_⟩
  · have : j ≠ ep + 1 := by omega
    simp only [this, if_false]
    exact g3 j (by omega)
  · simp only [Den, ext_self]
    exact ⟨_, rfl, by simp [hdAt, ownRef, rowRef], hr.one⟩
/-- A new own item. -/
theorem own_new {e : Env} {H : List (SB τ)} {Fr : PH} (hM : Models I e H Fr w) {cn : Cn} {n sz : Nat} {T : TypeId} {nn : Bool} {v : Value} {vs : List Value} {h : PH} {w' : World} (hd : cn.den e vs) (hr : RowOk v n sz T vs h) (hx : Ext w w') (hsub : Sub h w')
    (hf : ∀ k, h k ≠ none → w.heap.size ≤ k) (hnn : nn = true → v ≠ .slice none 0 0) :
    ∃ e', Le e e' ∧ Models I e' (H ++ [.own cn n T sz 0 nn]) Fr w' ∧ Den e' (.h H.length [0, 0]) v := by
  have hle : Le e (ext e H.length (.hd fun j => if j = 0 then some (ownRef sz v) else none)) := le_ext hM.fresh
  refine ⟨_, hle, hM.add ⟨_, v, vs, rfl, by simp, fun j hj => by simp; omega, Cn.den_mono hle hd, hr, hnn⟩ hx hsub hf, ?_⟩
  simp only [Den, ext_self]
  exact ⟨_, rfl, by simp [hdAt, ownRef, rowRef], hr.one⟩
/-- An item is used up: what it had, and new blocks, make a new one. -/
theorem Models.shift {e : Env} {H : List (SB τ)} {Fr : PH} (hM : Models I e H Fr w) {b : Nat} {it : SB τ} (hi : H[b]? = some it) :
    ∃ hn, ItemOk I e it (e b) hn ∧ Sub hn w ∧ ∀ {r : Ref} {it' : SB τ} {hn' : PH} {w' : World}, ItemOk I (ext e H.length r) it' (some r) hn' → Turned w w' hn hn' → Models I (ext e H.length r) (H.set b .gone ++ [it']) Fr w' := by
  have hlt : b < H.length := (List.getElem?_eq_some_iff.1 hi).1
  have hfr := hM.fresh
  obtain ⟨h0, hs, h1, h2, h3, h4, h5, h6⟩ := hM
  refine ⟨hs b, h1 b it hi, h5 b, fun {r it' hn' w'} hb ht => ?_⟩
  have hbl : H.length ≠ b := by omega
  refine Models.turn0 (S := fun k => k = b ∨ k = H.length) (hs := hs) (hs' := fun k => if k = b then emp else if k = H.length then hn' else hs k) h0 h1 h2 h3 h4 h5 h6 (le_ext hfr) ht.stay (fun k hk => ?_)
    (fun k hk => ?_) (fun k b'' hk hb'' => ?_) (fun k hk hl => ?_) (fun k l hk hl hkl => ?_) (fun k hk => ?_) (fun k m hk hn => ?_) (fun k o hk hn => ?_)
  · have hk1 : k ≠ b := fun e => hk (.inl e)
    have hk2 : k ≠ H.length := fun e => hk (.inr e)
    refine ⟨?_, ext_ne _ _ _ hk2⟩
    rcases Nat.lt_or_ge k H.length with h | h
    · rw [List.getElem?_append_left (by simpa using h), List.getElem?_set_ne (fun e => hk1 e.symm)]
    · rw [List.getElem?_eq_none (by simp; omega), List.getElem?_eq_none (by omega)]
  · have hk1 : k ≠ b := fun e => hk (.inl e)
    have hk2 : k ≠ H.length := fun e => hk (.inr e)
    simp only [hk1, hk2, if_false]
  · rcases hk with rfl | rfl
    · rw [List.getElem?_append_left (by simpa using hlt)] at hb''
      simp [hlt] at hb''
      subst hb''
      simp only [if_true]; rfl
    · rw [List.getElem?_append_right (by simp)] at hb''
      simp at hb''
      subst hb''
      simp only [hbl, if_false, if_true, ext_self]
      exact hb
  · simp at hl; rcases hk with rfl | rfl <;> omega
  · rcases hk with rfl | rfl
    · simp only [if_true]; exact emp_disj _
    · rcases hl with rfl | rfl
      · simp only [if_true]; exact disj_emp _
      · exact absurd rfl hkl
  · rcases hk with rfl | rfl
    · simp only [if_true]; intro k o hk; simp [emp] at hk
    · simp only [hbl, if_false, if_true]; exact ht.sub
  · rcases hk with rfl | rfl
    · simp [emp] at hn
    · simp only [hbl, if_false, if_true] at hn
      rcases ht.own m hn with h7 | h7
      · exact .inl ⟨b, .inl rfl, h7⟩
      · exact .inr h7
  · exact ht.keep k o hk (hn b (.inl rfl))
/-- A block of its own grows into a row that is owned. -/
theorem blk_grow {e : Env} {H : List (SB τ)} {Fr : PH} (hM : Models I e H Fr w) {b len sz : Nat} {l : List SV} {el : TypeId} {s : SV} {u : Value} (hb : blkS el sz s H = some (b, l, len)) (hd : Den e s u) :
    ∃ vs h1, DenL e l vs ∧ RowOk u len sz el vs h1 ∧ Sub h1 w ∧ u ≠ .slice none 0 0 ∧
      ∀ (cn' : Cn) (n' : Nat) (v' : Value) (vs' : List Value) (h1' : PH) (w' : World) (nn' : Bool), cn'.den e vs' → RowOk v' n' sz el vs' h1' → Turned w w' h1 h1' → (nn' = true → v' ≠ .slice none 0 0) →
        ∃ e', Le e e' ∧ Models I e' (H.set b .gone ++ [.own cn' n' el sz 0 nn']) Fr w' ∧ Den e' (.h H.length [0, 0]) v' := by
  unfold blkS at hb
  split at hb
  · rename_i b' o len' cap
    split at hb
    · rename_i l' T hi
      split at hb
      · rename_i hc
        simp only [Bool.and_eq_true, Nat.beq_eq, Nat.ble_eq] at hc
        obtain ⟨rfl, rfl, rfl, h1, h2⟩ := hc
        simp only [Option.some.injEq, Prod.mk.injEq] at hb
        obtain ⟨rfl, rfl, rfl⟩ := hb
        obtain ⟨hn, ⟨n, vs, g1, g2, rfl⟩, g4, hput⟩ := hM.shift hi
        simp only [Den] at hd
        obtain ⟨n', g5, rfl⟩ := hd
        rw [g1] at g5; cases g5
        have hl := g2.length
        refine ⟨vs, _, g2, ⟨by omega, .inr ⟨n, cap, [], rfl, by simp, Nat.le_refl _, h2, by simp; omega⟩⟩, g4, (fun hh => by cases hh), fun cn' n' v' vs' h1' w' nn' hd hr ht hnn => ?_⟩
        have hle : Le e (ext e H.length (.hd fun j => if j = 0 then some (ownRef sz v') else none)) := le_ext hM.fresh
        refine ⟨_, hle, hput ⟨_, v', vs', rfl, by simp, fun j hj => by simp; omega, Cn.den_mono hle hd, hr, hnn⟩ ht, ?_⟩
        simp only [Den, ext_self]
        exact ⟨_, rfl, by simp [hdAt, ownRef, rowRef], hr.one⟩
      · cases hb
    · cases hb
  · cases hb
theorem ext_of_turned {w' : World} {h' : PH} (ht : Turned w w' emp h') : Ext w w' := ⟨fun k o hk => ht.keep k o hk rfl, ht.stay⟩

theorem appendH_ok {e : Env} {H H' : List (SB τ)} {Fr : PH} {t ty : TypeId} {x y z : SV} {c : Bool} {ws : List Nat} {u v : Value} (hM : Models I e H Fr w) (h : appendH P t x y H = some (c, z, H', ws)) (hc : c = true) (hx : Den e x u) (hy : Den e y v) :
    ∃ r w' e', (Builtin.append_ #[t, t] ty #[u, v]).run P w = .ok r w' ∧ Le e e' ∧ Models I e' H' Fr w' ∧ Den e' z r := by
  unfold appendH at h
  split at h
  · rename_i el hu
    split at h
    · rename_i i hi
      split at h
      · rename_i z0 hz
        split at h
        · rename_i bo ep cn n nn c1 c2 m d hzs hba hsrc
          rw [Nat.beq_eq] at hzs
          split at h
          · rename_i f hadd
            have fin : c1 = true → c2 = true → n + m ≤ maxLen ∧ (n + m) * i.bytes ≤ 140737488355328 →
                (bo = .new → z = .h H.length [0, 0] ∧ H' = H ++ [.own f (n + m) el i.size 0 (nn || Nat.blt 0 m)]) → (∀ b, bo = .own b → z = .h b [ep + 1, 0] ∧ H' = H.set b (.own f (n + m) el i.size (ep + 1) (nn || Nat.blt 0 m))) →
                (∀ b, bo = .blk b → z = .h H.length [0, 0] ∧ H' = H.set b .gone ++ [.own f (n + m) el i.size 0 (nn || Nat.blt 0 m)]) →
                ∃ r w' e', (Builtin.append_ #[t, t] ty #[u, v]).run P w = .ok r w' ∧ Le e e' ∧ Models I e' H' Fr w' ∧ Den e' z r := fun hc1 hc2 hsz h1 h2 h2b => by
              obtain ⟨us, s1, s2⟩ := srcC_ok hM hsrc hc2 hy
              unfold baseA at hba
              split at hba
              · rename_i hnil
                simp only [Option.some.injEq, Prod.mk.injEq] at hba
                obtain ⟨rfl, rfl, rfl, rfl, rfl, _⟩ := hba
                obtain ⟨rfl, rfl⟩ := h1 rfl
                have hu0 := nilS_ok hnil hx
                subst hu0
                obtain ⟨r, w', h', p1, p2, p3, p4⟩ := append_ok (P := P) (w := w) (ty := ty) (h := emp) (xs := []) (n := 0) hu hi hz rfl hzs ⟨by simp, .inl ⟨rfl, rfl, rfl⟩⟩ (fun k o hk => by simp [emp] at hk) s2 (by simpa using hsz.1) (by simpa using hsz.2)
                have hfd : f.den e us := by
                  have := addC_ok hadd (asC_ok (P := P) (T := el) (e := e) (c := .sv []) (vs := []) (by simp [Cn.den, DenL])) (asC_ok s1)
                  simpa using this
                obtain ⟨e', q1, q2, q3⟩ := own_new (nn := false || Nat.blt 0 m) hM hfd (by simpa using p2) (ext_of_turned p3) p3.sub (fun k hk => by
                  rcases p3.own k hk with h3 | h3
                  · simp [emp] at h3
                  · exact h3) (fun hnn => p4 (.inr (by simpa using hnn)))
                exact ⟨r, w', e', p1, q1, by simpa only [Nat.zero_add] using q2, q3⟩
              · split at hba
                · rename_i b l len hblk
                  simp only [Option.some.injEq, Prod.mk.injEq] at hba
                  obtain ⟨rfl, rfl, rfl, rfl, rfl, _⟩ := hba
                  obtain ⟨rfl, rfl⟩ := h2b b rfl
                  obtain ⟨vs, hh, k3, k4, k5, k6, k7⟩ := blk_grow hM hblk hx
                  obtain ⟨r, w', h', p1, p2, p3, p4⟩ := append_ok (P := P) (ty := ty) hu hi hz rfl hzs k4 k5 s2 hsz.1 hsz.2
                  obtain ⟨e', q1, q2, q3⟩ := k7 f (len + m) r (vs ++ us) h' w' (true || Nat.blt 0 m) (addC_ok hadd (asC_ok (c := .sv l) k3) (asC_ok s1)) p2 p3 (fun _ => p4 (.inl k6))
                  exact ⟨r, w', e', p1, q1, q2, q3⟩
                split at hba
                · rename_i b ep' sel r hs
                  split at hba
                  · split at hba
                    · rename_i c' n' T' sz' q nn' hb
                      split at hba
                      · rename_i hq
                        rw [Bool.and_eq_true, Nat.beq_eq, Nat.beq_eq] at hq
                        obtain ⟨rfl, rfl⟩ := hq
                        simp only [Option.some.injEq, Prod.mk.injEq] at hba
                        obtain ⟨rfl, rfl, rfl, rfl, rfl, hqe⟩ := hba
                        rw [hc1, Nat.beq_eq] at hqe
                        subst hqe
                        obtain ⟨rfl, rfl⟩ := h2 b rfl
                        obtain ⟨f0, v0, vs, hh, k1, k2, k3, k4, k5, k6, k7⟩ := own_grow hM hb
                        rw [hsel_ok hs] at hx
                        obtain ⟨f1, g1, j1, j2, j3, _⟩ := den_h hx
                        rw [k1] at j1; cases j1
                        rw [k2] at j2; cases j2
                        have hu0 : u = v0 := j3
                        subst hu0
                        obtain ⟨r, w', h', p1, p2, p3, p4⟩ := append_ok (P := P) (ty := ty) hu hi hz rfl hzs k4 k5 s2 hsz.1 hsz.2
                        obtain ⟨e', q1, q2, q3⟩ := k7 f (n' + m) r (vs ++ us) h' w' (nn' || Nat.blt 0 m) (addC_ok hadd (asC_ok k3) (asC_ok s1)) p2 p3 (fun hnn => by
                          rw [Bool.or_eq_true, Nat.blt_eq] at hnn
                          rcases hnn with hnn | hnn
                          · exact p4 (.inl (k6 hnn))
                          · exact p4 (.inr hnn))
                        exact ⟨r, w', e', p1, q1, q2, q3⟩
                      · cases hba
                    · cases hba
                  · cases hba
                · cases hba
            split at h
            · simp only [Option.some.injEq, Prod.mk.injEq] at h
              obtain ⟨h1, h2, h3, _⟩ := h
              rw [hc, Bool.and_eq_true, Bool.and_eq_true, decide_eq_true_eq] at h1
              exact fin h1.1 h1.2.1 h1.2.2 (fun _ => ⟨h2.symm, h3.symm⟩) (fun b hb => by cases hb) (fun b hb => by cases hb)
            · rename_i b
              simp only [Option.some.injEq, Prod.mk.injEq] at h
              obtain ⟨h1, h2, h3, _⟩ := h
              rw [hc, Bool.and_eq_true, Bool.and_eq_true, decide_eq_true_eq] at h1
              exact fin h1.1 h1.2.1 h1.2.2 (fun hb => by cases hb) (fun b' hb => by cases hb) (fun b' hb => by cases hb; exact ⟨h2.symm, h3.symm⟩)
            · rename_i b
              simp only [Option.some.injEq, Prod.mk.injEq] at h
              obtain ⟨h1, h2, h3, _⟩ := h
              rw [hc, Bool.and_eq_true, Bool.and_eq_true, decide_eq_true_eq] at h1
              exact fin h1.1 h1.2.1 h1.2.2 (fun hb => by cases hb) (fun b' hb => by cases hb; exact ⟨h2.symm, h3.symm⟩) (fun b' hb => by cases hb)
          · cases h
        · cases h
      · cases h
    · cases h
  · cases h

theorem madeC_den {e : Env} {el : TypeId} (z : Value) (n sz : Nat) (hz : z.cells.size = sz) : (madeC P el z n sz).den e ((List.range (n * sz)).map fun i => z.cells[i % z.cells.size]!) := by
  have hpl : DenL e ((List.range (n * sz)).map fun i => .v (z.cells[i % z.cells.size]!)) ((List.range (n * sz)).map fun i => z.cells[i % z.cells.size]!) := by
    have := DenL.plain (e := e) ((List.range (n * sz)).map fun i => z.cells[i % z.cells.size]!)
    simpa [List.map_map, Function.comp_def] using this
  unfold madeC
  split
  · rename_i k m hzl
    split
    · rename_i hm
      have hm : m = 0 := by simpa using hm
      subst hm
      simp only [Cn.den]
      have hzc : z.cells = #[.int k 0] := by apply Array.toList_inj.1; simpa using hzl
      rw [hzc]
      apply List.ext_getElem
      · simp
      · intro i h1 h2
        simp [Nat.mod_one]
    · exact hpl
  · rename_i a m c hzl
    split
    · rename_i hs1
      rw [Nat.beq_eq] at hs1
      subst hs1
      have hzc : z.cells = #[.slice a m c] := by apply Array.toList_inj.1; simpa using hzl
      have e1 : ((List.range (n * 1)).map fun i => z.cells[i % z.cells.size]!) = List.replicate n (.slice a m c) := by
        rw [hzc]
        apply List.ext_getElem
        · simp
        · intro i h1 h2
          simp [Nat.mod_one]
      rw [e1]
      exact DenL.replicate _ _ (by simp [Den]) n
    · exact hpl
  · split
    · rename_i xs hx
      split
      · rename_i c
        split
        · rename_i h4
          rw [Nat.beq_eq] at h4
          subst h4
          have hv : z.cells.toList = c.vals := by
            have := decRecs_ok (e := e) hx (DenL.plain _)
            simpa [cvals] using this
          simp only [Cn.den]
          have hz4 : z.cells.size = 4 := hz
          rw [hz4]
          apply List.ext_getElem
          · rw [cvals_length]; simp [hz4]
          · intro i h1 h2
            have hi : i < n * 4 := by simpa [hz4] using h1
            have hq := cvals_get (l := List.replicate n c) (i := i / 4) (by simp; omega) (i % 4) (by omega)
            rw [show i / 4 * 4 + i % 4 = i by omega] at hq
            rw [List.getElem?_eq_getElem h2] at hq
            simp only [List.getElem_replicate] at hq
            rw [← hv] at hq
            have hb : i % 4 < z.cells.size := by omega
            have h3 : z.cells.toList[i % 4]? = some z.cells[i % 4] := by simp [hb]
            rw [h3] at hq
            simp only [Option.some.injEq] at hq
            simp only [List.getElem_map, List.getElem_range]
            rw [hq, getElem!_pos z.cells (i % 4) hb]
        · exact hpl
      · exact hpl
    · exact hpl
theorem makeH_ok {e : Env} {H H' : List (SB τ)} {Fr : PH} {T : TypeId} {l c z : SV} {q : Bool} {ws : List Nat} {u v : Value} (hM : Models I e H Fr w) (h : makeH P T l c H = some (q, z, H', ws)) (hq : q = true) (hl : Den e l u) (hc : Den e c v) :
    ∃ r w' e', (Instr.makeSlice T u v).run P w = .ok r w' ∧ Le e e' ∧ Models I e' H' Fr w' ∧ Den e' z r := by
  unfold makeH at h
  split at h
  · rename_i kl a0 kc b0 el hu
    split at h
    · rename_i i hi
      split at h
      · rename_i z0 hz
        split at h
        · rename_i hzs
          rw [Nat.beq_eq] at hzs
          simp only [Option.some.injEq, Prod.mk.injEq] at h
          obtain ⟨h1, rfl, rfl, rfl⟩ := h
          rw [hq] at h1
          obtain ⟨g1, g2, g3, g4⟩ := of_decide_eq_true h1
          simp only [Den] at hl hc
          subst hl; subst hc
          have hrun := run_make (P := P) w T el i z0 hu hi hz kl kc a0 b0 g1 g2 g3 (by simp only [maxLen] at g4; omega)
          have hsplit : (madeCells z0.cells (b0.toNat * i.size)).toList = ((List.range (a0.toNat * i.size)).map fun j => z0.cells[j % z0.cells.size]!) ++ (madeCells z0.cells (b0.toNat * i.size)).toList.drop (a0.toNat * i.size) := by
            have hmul : a0.toNat * i.size ≤ b0.toNat * i.size := Nat.mul_le_mul_right _ (by omega)
            have e1 : (madeCells z0.cells (b0.toNat * i.size)).toList.take (a0.toNat * i.size) = (List.range (a0.toNat * i.size)).map fun j => z0.cells[j % z0.cells.size]! := by
              unfold madeCells
              rw [Array.toList_map, Array.toList_range, ← List.map_take, List.take_range, Nat.min_eq_left hmul]
            rw [← e1, List.take_append_drop]
          have harr : madeCells z0.cells (b0.toNat * i.size) = (((List.range (a0.toNat * i.size)).map fun j => z0.cells[j % z0.cells.size]!) ++ (madeCells z0.cells (b0.toNat * i.size)).toList.drop (a0.toNat * i.size)).toArray := by
            apply Array.toList_inj.1; rw [← hsplit]
          rw [harr] at hrun
          generalize hrest : (madeCells z0.cells (b0.toNat * i.size)).toList.drop (a0.toNat * i.size) = rest at hrun hsplit
          obtain ⟨e', q1, q2, q3⟩ := own_new (w' := w.alloc (Obj.cells (((List.range (a0.toNat * i.size)).map fun j => z0.cells[j % z0.cells.size]!) ++ rest).toArray el)) (nn := true) (v := .slice (some ⟨w.heap.size, 0, none⟩) a0.toNat b0.toNat) (T := el) (n := a0.toNat) (sz := i.size) (h := single w.heap.size (.cells (((List.range (a0.toNat * i.size)).map fun j => z0.cells[j % z0.cells.size]!) ++ rest).toArray el (0, 0))) hM
            (madeC_den (P := P) (el := el) z0 a0.toNat i.size hzs) ⟨by simp, .inr ⟨_, b0.toNat, rest, rfl, rfl, by omega, by omega, by rw [← hsplit, Array.length_toList, size_madeCells]⟩⟩ (Ext.alloc w _) (sub_single (by show (w.heap.push _)[w.heap.size]? = _; simp)) (fun k hk => by rw [single_ne] at hk; omega) (fun _ hh => by cases hh)
          exact ⟨_, _, e', hrun, q1, q2, q3⟩
        · cases h
      · cases h
    · cases h
  · cases h

theorem copyH_ok {e : Env} {H H' : List (SB τ)} {Fr : PH} {D D' ty : TypeId} {x y z : SV} {c : Bool} {ws : List Nat} {u v : Value} (hM : Models I e H Fr w) (h : copyH P D x y H = some (c, z, H', ws)) (hc : c = true) (hx : Den e x u) (hy : Den e y v) :
    ∃ r w', (Builtin.copy_ #[D, D'] ty #[u, v]).run P w = .ok r w' ∧ Models I e H' Fr w' ∧ Den e z r := by
  unfold copyH at h
  split at h
  · rename_i el hu
    split at h
    · rename_i k b ep sel r hk hs
      split at h
      · rename_i c1 cn n sz T hget
        split at h
        · rename_i lo len c2 m d hpart hsrc
          split at h
          · rename_i f hput
            split at h
            · rename_i H2 hset
              simp only [Option.some.injEq, Prod.mk.injEq] at h
              obtain ⟨h1, rfl, rfl, rfl⟩ := h
              rw [hc] at h1
              simp only [Bool.and_eq_true, Nat.beq_eq, Nat.ble_eq, Nat.blt_eq] at h1
              obtain ⟨h1, h2, h3, rfl, rfl, h4, h5⟩ := h1
              rw [hsel_ok hs] at hx
              obtain ⟨f0, g, hf, hg, hv, _⟩ := den_h hx
              obtain ⟨f', g', u0, vs, hh, k1, k2, k3, k4, k5, k6, k7⟩ := getR_lens hM hget h1
              rw [hf] at k1; cases k1
              rw [hg] at k2; cases k2
              rw [k3] at hv
              obtain ⟨us, s1, s2⟩ := srcC_ok hM hsrc h2 hy
              obtain ⟨q6, ⟨rfl, rfl, _⟩ | ⟨g0, cap, rest, rfl, _, q7, _⟩⟩ := id k5
              · omega
              · have hdst : ∃ bo dc, u = .slice (some ⟨g0, bo, none⟩) len dc ∧ (0 < len → bo = lo * sz) := by
                  unfold partH at hpart
                  split at hpart
                  · simp only [Option.some.injEq, Prod.mk.injEq] at hpart
                    obtain ⟨rfl, rfl⟩ := hpart
                    exact ⟨0, cap, hv, fun _ => by simp⟩
                  · simp only [Option.some.injEq, Prod.mk.injEq] at hpart
                    obtain ⟨rfl, rfl⟩ := hpart
                    refine ⟨_, _, hv, fun hl => ?_⟩
                    rename_i lo' len' zz
                    have hne : Nat.beq cap lo' = false := by rw [← Bool.not_eq_true, Nat.beq_eq]; omega
                    rw [hne]; rfl
                  · cases hpart
                obtain ⟨bo, dc, hd1, hd2⟩ := hdst
                obtain ⟨w', h', p1, p2, p3⟩ := copy_ok (P := P) (D' := D') (ty := ty) hu hk k5 k6 hd1 hd2 h4 s2
                exact ⟨_, w', p1, k7 _ _ _ _ _ hset (putN_ok hput h3 k4 (asC_ok s1)) p2 p3, by simp [Den, goInt]⟩
            · cases h
          · cases h
        · cases h
      · cases h
    · cases h
  · cases h

end Go.Sym
