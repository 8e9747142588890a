/- From a row's reading to what the evaluator asks of inputs: strings, slices of leaves and of structs of leaves, one in the other. -/
import Derived.Test.YtienakdnmhmglaaVQ
import Derived.Test.YtienakdnmhmglaaVT
import Derived.ChangeSlices
import Derived.ChangeArms
set_option linter.unusedSimpArgs false
set_option linter.unusedVariables false
set_option linter.unusedSectionVars false
namespace Go.Sym
open Go Go.ChangeShapes Go.WideShapes

/-- A type of inputs, cell by cell. -/
inductive IT where
  | i (k : IntKind)
  | b
  | s
  | sl (es : List IT)
mutual
def IT.den (ro : PH) (B : Nat) : IT → Value → Prop
  | .i k, v => ∃ n, v = .int k n ∧ k.min ≤ n ∧ n ≤ k.max
  | .b, v => ∃ x, v = .bool x
  | .s, v => ∃ s : ByteArray, v = .string s ∧ s.size ≤ B
  | .sl es, v => v = .slice none 0 0 ∨ ∃ b o sp len cap, v = .slice (some ⟨b, o, sp⟩) len cap ∧ len ≤ B ∧
      ∀ i, i < len → sp = none ∧ ∃ cs T fz, ro b = some (.cells cs T fz) ∧ ∃ vs : List Value, (∀ fo, fo < es.length → cs[o + (i * es.length + fo)]? = vs[fo]?) ∧ IT.dens ro B es vs
def IT.dens (ro : PH) (B : Nat) : List IT → List Value → Prop
  | [], vs => vs = []
  | t :: ts, vs => ∃ v r, vs = v :: r ∧ IT.den ro B t v ∧ IT.dens ro B ts r
end
theorem IT.dens_append {ro : PH} {B : Nat} : ∀ {ts us : List IT} {vs ws : List Value}, IT.dens ro B ts vs → IT.dens ro B us ws → IT.dens ro B (ts ++ us) (vs ++ ws)
  | [], us, vs, ws, h, h' => by simp only [IT.dens] at h; subst h; exact h'
  | t :: ts, us, vs, ws, h, h' => by
    simp only [IT.dens] at h
    obtain ⟨v, r, rfl, h1, h2⟩ := h
    simp only [List.cons_append, IT.dens]
    exact ⟨v, r ++ ws, rfl, h1, IT.dens_append h2 h'⟩
theorem IT.dens_len {ro : PH} {B : Nat} : ∀ {ts : List IT} {vs : List Value}, IT.dens ro B ts vs → vs.length = ts.length
  | [], vs, h => by simp only [IT.dens] at h; subst h; rfl
  | t :: ts, vs, h => by
    simp only [IT.dens] at h
    obtain ⟨v, r, rfl, h1, h2⟩ := h
    simp [IT.dens_len h2]

def itFs (f : TypeId → Option (List IT)) (P : Program) : Nat → List Field → Option (List IT)
  | _, [] => some []
  | o, x :: xs => match f x.type with
    | some a => match Nat.beq x.offset o && Nat.beq (P.cellsOf x.type) a.length with
      | true => match itFs f P (o + a.length) xs with
        | some r => some (a ++ r)
        | none => none
      | false => none
    | none => none
def itRep (a : List IT) : Nat → List IT
  | 0 => []
  | n + 1 => a ++ itRep a n
def itOf (P : Program) : Nat → TypeId → Option (List IT)
  | 0, _ => none
  | d + 1, t => match P.underlying t with
    | some (.int k) => some [.i k]
    | some .bool => some [.b]
    | some .string => some [.s]
    | some (.slice e) => match itOf P d e with
      | some es => match Nat.beq (P.cellsOf e) es.length && Nat.blt 0 es.length with
        | true => some [.sl es]
        | false => none
      | none => none
    | some (.struct fs) => match itFs (itOf P d) P 0 fs.toList with
      | some r => match Nat.beq (P.cellsOf t) r.length with
        | true => some r
        | false => none
      | none => none
    | some (.array n e) => match itOf P d e with
      | some es => match Nat.beq (P.cellsOf e) es.length && Nat.beq (P.cellsOf t) (n * es.length) with
        | true => some (itRep es n)
        | false => none
      | none => none
    | _ => none

/-- What is said of how much a reading holds. -/
structure BulkQ {H : Type} (Q : DataW H → Prop) (B : Nat) : Prop where
  sl : ∀ e s, Q (.slice e s) → e.length ≤ maxLen → e.length ≤ B ∧ ∀ d ∈ e, Q d
  ag : ∀ ps, Q (.agg ps) → ∀ d ∈ ps, Q d
  st : ∀ bs : List UInt8, Q (.lit (.string bs)) → bs.length ≤ maxLen → bs.length ≤ B

section
variable {H : Type} {enc : TypeId × Value → H} {P : Program} {w : World} {base : Nat} {spare : Nat → Bool} {held : Bool} {Q : DataW H → Prop} {B : Nat}
theorem add_add' (a : Addr) (i j : Nat) : (a.add i).add j = a.add (i + j) := by
  unfold Addr.add
  by_cases hi : i = 0 <;> by_cases hj : j = 0 <;> simp [hi, hj, Nat.add_assoc]
theorem cell_add {b o m : Nat} {sp : Option Nat} {v : Value} (h : w.cell? ((⟨b, o, sp⟩ : Addr).add m) = some v) : ∃ c T fz, w.heap[b]? = some (.cells c T fz) ∧ c[o + m]? = some v ∧ (m = 0 → sp = none) := by
  unfold Addr.add at h
  split at h
  · rename_i hm
    subst hm
    unfold World.cell? at h
    split at h
    · rename_i c T fz hb
      split at h
      · cases h
      · rename_i hs
        exact ⟨c, T, fz, hb, by simpa using h, fun _ => by simpa using hs⟩
    · cases h
  · rename_i hm
    unfold World.cell? at h
    split at h
    · rename_i c T fz hb
      exact ⟨c, T, fz, hb, by simpa using h, fun h0 => absurd h0 hm⟩
    · cases h
theorem wf_int {k : IntKind} {n : Int} (h : (Lit.int k n).wf = true) : k.min ≤ n ∧ n ≤ k.max := by
  simpa [Lit.wf] using h
theorem itFs_len (f : TypeId → Option (List IT)) : ∀ {o : Nat} {fs : List Field} {r : List IT}, itFs f P o fs = some r → ∀ {cs : List Value} (den : List IT → List Value → Prop) (hnil : den [] []) (happ : ∀ a b c d, den a c → den b d → den (a ++ b) (c ++ d)),
    cs.length = o + r.length → (∀ x ∈ fs, ∀ a, f x.type = some a → P.cellsOf x.type = a.length → x.offset + a.length ≤ cs.length → den a ((cs.drop x.offset).take (P.cellsOf x.type))) → den r (cs.drop o)
  | o, [], r, h, cs, den, hnil, happ, hl, hx => by
    simp only [itFs, Option.some.injEq] at h
    subst h
    have : cs.drop o = [] := List.drop_eq_nil_of_le (by simp at hl; omega)
    rw [this]; exact hnil
  | o, x :: xs, r, h, cs, den, hnil, happ, hl, hx => by
    unfold itFs at h
    split at h
    · rename_i a ha
      split at h
      · rename_i hb
        rw [Bool.and_eq_true, Nat.beq_eq, Nat.beq_eq] at hb
        split at h
        · rename_i r' hr
          simp only [Option.some.injEq] at h
          subst h
          simp only [List.length_append] at hl
          have ih := itFs_len f hr (cs := cs) den hnil happ (by omega) fun y hy => hx y (List.mem_cons_of_mem _ hy)
          have h1 := hx x (List.mem_cons_self ..) a ha hb.2 (by omega)
          rw [hb.2, hb.1] at h1
          have e : cs.drop o = (cs.drop o).take a.length ++ cs.drop (o + a.length) := by
            rw [← List.drop_drop, List.take_append_drop]
          rw [e]
          exact happ _ _ _ _ h1 ih
        · cases h
      · cases h
    · cases h
theorem itRep_den (den : List IT → List Value → Prop) (hnil : den [] []) (happ : ∀ a b c d, den a c → den b d → den (a ++ b) (c ++ d)) {a : List IT} : ∀ {n : Nat} {cs : List Value}, cs.length = n * a.length →
    (∀ i, i < n → den a ((cs.drop (i * a.length)).take a.length)) → den (itRep a n) cs
  | 0, cs, hl, _ => by
    have : cs = [] := List.length_eq_zero_iff.1 (by simpa using hl)
    subst this; exact hnil
  | n + 1, cs, hl, h => by
    have e : cs = cs.take a.length ++ cs.drop a.length := (List.take_append_drop _ _).symm
    rw [e, itRep]
    refine happ _ _ _ _ (by simpa using h 0 (by omega)) (itRep_den den hnil happ (by rw [List.length_drop, hl, Nat.succ_mul]; omega) fun i hi => ?_)
    have := h (i + 1) (by omega)
    rw [List.drop_drop]
    rwa [Nat.succ_mul, Nat.add_comm] at this

theorem it_den (hQ : BulkQ Q B) : ∀ (d : Nat) {t : TypeId} {its : List IT} {fuel : Nat} {cs : List Value} {x : DataW H × List MemPlace}, itOf P d t = some its → DataW.trod enc P w base spare held fuel t cs = some x → Q x.1 →
    IT.dens (fun k => w.heap[k]?) B its cs
  | 0, t, its, fuel, cs, x, h, _, _ => by simp [itOf] at h
  | d + 1, t, its, fuel, cs, x, h, ht, hq => by
    unfold itOf at h
    split at h
    · rename_i k hu
      simp only [Option.some.injEq] at h; subst h
      obtain ⟨n, rfl, rfl, hw⟩ := DataW.trod_int hu ht
      simp only [IT.dens, IT.den]
      exact ⟨_, _, rfl, ⟨n, rfl, wf_int hw⟩, rfl⟩
    · rename_i hu
      simp only [Option.some.injEq] at h; subst h
      obtain ⟨b, rfl, rfl⟩ := DataW.trod_bool hu ht
      simp only [IT.dens, IT.den]
      exact ⟨_, _, rfl, ⟨b, rfl⟩, rfl⟩
    · rename_i hu
      simp only [Option.some.injEq] at h; subst h
      obtain ⟨s, rfl, rfl, hs⟩ := DataW.trod_string hu ht
      simp only [IT.dens, IT.den]
      have := hQ.st _ hq (by simpa using hs)
      exact ⟨_, _, rfl, ⟨s, rfl, by simpa using this⟩, rfl⟩
    · rename_i e hu
      split at h
      · rename_i es he
        split at h
        · rename_i hc
          rw [Bool.and_eq_true, Nat.beq_eq, Nat.blt_eq] at hc
          obtain ⟨hc, hpos⟩ := hc
          simp only [Option.some.injEq] at h; subst h
          simp only [IT.dens, IT.den]
          rcases DataW.trod_slice hu ht with ⟨rfl, rfl⟩ | ⟨a, len, cap, elems, rest, n, _, rfl, rfl, _, hl, hm, hlen, hel, _, _⟩
          · exact ⟨_, _, rfl, .inl rfl, rfl⟩
          · obtain ⟨b, o, sp⟩ := a
            obtain ⟨hB, hqe⟩ := hQ.sl _ _ hq (by rw [List.length_map]; omega)
            rw [List.length_map, hlen] at hB
            refine ⟨_, _, rfl, .inr ⟨b, o, sp, len, cap, rfl, hB, fun i hi => ?_⟩, rfl⟩
            have key : ∀ i, i < len → ∃ cs' : List Value, cs'.length = es.length ∧ IT.dens (fun k => w.heap[k]?) B es cs' ∧ ∀ fo, fo < es.length → ∃ c T fz v, w.heap[b]? = some (.cells c T fz) ∧ c[o + (i * es.length + fo)]? = some v ∧ cs'[fo]? = some v ∧ (i * es.length + fo = 0 → sp = none) := fun i hi => by
              have hi' : i < elems.length := by omega
              have h1 := hel i hi
              rw [List.getElem?_eq_getElem hi', Option.bind_eq_some_iff] at h1
              obtain ⟨cs', h2, h3⟩ := h1
              have h4 := it_den hQ d he h3 (hqe _ (List.mem_map.2 ⟨_, List.getElem_mem hi', rfl⟩))
              obtain ⟨_, h5, h6⟩ := World.cells?_some h2
              refine ⟨cs', by omega, h4, fun fo hf => ?_⟩
              have h7 := h6 fo (by omega)
              rw [add_add', List.getElem?_eq_getElem (by omega), hc] at h7
              obtain ⟨c, T, fz, g1, g2, g3⟩ := cell_add h7
              exact ⟨c, T, fz, _, g1, g2, List.getElem?_eq_getElem (by omega), g3⟩
            obtain ⟨_, _, _, k0⟩ := key 0 (by omega)
            obtain ⟨_, _, _, _, _, _, _, k1⟩ := k0 0 hpos
            obtain ⟨cs', g1, g2, g3⟩ := key i hi
            obtain ⟨c, T, fz, _, g4, _⟩ := g3 0 hpos
            refine ⟨k1 (by simp), c, T, fz, g4, cs', fun fo hf => ?_, g2⟩
            obtain ⟨c', T', fz', v, g5, g6, g7, _⟩ := g3 fo hf
            rw [g4] at g5
            simp only [Option.some.injEq, Obj.cells.injEq] at g5
            obtain ⟨rfl, rfl, rfl⟩ := g5
            rw [g6, g7]
        · cases h
      · cases h
    · rename_i fs hu
      obtain ⟨xs, n, _, rfl, hcl, hxl, hf⟩ := DataW.trod_struct hu ht
      split at h
      · rename_i r hr
        split at h
        · rename_i hc
          rw [Nat.beq_eq] at hc
          simp only [Option.some.injEq] at h; subst h
          have := itFs_len (P := P) _ hr (cs := cs) (IT.dens (fun k => w.heap[k]?) B) (by simp [IT.dens]) (fun _ _ _ _ h h' => IT.dens_append h h') (by omega) fun y hy a ha _ _ => by
            obtain ⟨i, hi, rfl⟩ := List.mem_iff_getElem.1 hy
            simp only [Array.length_toList] at hi
            have h1 := hf i _ (by rw [← Array.getElem?_toList, List.getElem?_eq_getElem (by simpa using hi)])
            rw [List.getElem?_eq_getElem (by omega)] at h1
            exact it_den hQ d ha h1 (hQ.ag _ hq _ (List.mem_map.2 ⟨_, List.getElem_mem (by omega), rfl⟩))
          simpa using this
        · cases h
      · cases h
    · rename_i n e hu
      split at h
      · rename_i es he
        split at h
        · rename_i hc
          rw [Bool.and_eq_true, Nat.beq_eq, Nat.beq_eq] at hc
          simp only [Option.some.injEq] at h; subst h
          obtain ⟨xs, m, _, rfl, hcl, hxl, hf⟩ := DataW.trod_array hu ht
          refine itRep_den _ (by simp [IT.dens]) (fun _ _ _ _ h h' => IT.dens_append h h') (by omega) fun i hi => ?_
          have h1 := hf i hi
          rw [List.getElem?_eq_getElem (by omega), hc.1] at h1
          exact it_den hQ d he h1 (hQ.ag _ hq _ (List.mem_map.2 ⟨_, List.getElem_mem (by omega), rfl⟩))
        · cases h
      · cases h
    · cases h
end

/-! ### Values that are seen as inputs -/
def VV (ro : PH) : IC → Value → Prop
  | .pl x, v => v = x
  | .ss L, v => v.oneCell' = true ∧ ((v = .slice none 0 0 ∧ L.length = 0) ∨ ∃ b o sp cap, v = .slice (some ⟨b, o, sp⟩) L.length cap ∧
      ∀ i, i < L.length → sp = none ∧ ∃ cs T fz, ro b = some (.cells cs T fz) ∧ cs[o + i]? = some (.string (L.getD i ByteArray.empty)))
  | .sl n sz c, v => v.oneCell' = true ∧ ((v = .slice none 0 0 ∧ n = 0) ∨ ∃ b o sp cap, v = .slice (some ⟨b, o, sp⟩) n cap ∧
      ∀ i fo, i < n → fo < sz → sp = none ∧ ∃ cs T fz x, ro b = some (.cells cs T fz) ∧ cs[o + (i * sz + fo)]? = some x ∧ VV ro (c i fo) x)
def cellAt (ro : PH) (b o : Nat) : Value := match ro b with
  | some (.cells cs _ _) => (cs[o]?).getD (.bool false)
  | _ => .bool false
def gOf (ro : PH) : IC → Value → List Nat → Value
  | _, v, [] => v
  | _, v, [_] => v
  | ic, v, i :: fo :: r => match asSl ic with
    | none => v
    | some (_, sz, c) => match v with
      | .slice (some a) _ _ => if r = [0] then .pointer (some ⟨a.block, a.off + (i * sz + fo), none⟩) else gOf ro (c i fo) (cellAt ro a.block (a.off + (i * sz + fo))) r
      | _ => v
theorem gOf_nil (ro : PH) (ic : IC) (v : Value) : gOf ro ic v [] = v := by cases ic <;> simp [gOf]
theorem view_of {ro : PH} {g : List Nat → Value} : ∀ {ic : IC} {v : Value} {s : List Nat}, VV ro ic v → (∀ r, r ≠ [0] → g (s ++ r) = gOf ro ic v r) → View ro g ic s
  | .pl x, v, s, _, _ => trivial
  | .ss L, v, s, h, hg => by
    obtain ⟨h1, h2⟩ := h
    have e : g s = v := by have := hg [] (by simp); rw [gOf_nil] at this; simpa using this
    refine ⟨by rw [e]; exact h1, ?_⟩
    rcases h2 with ⟨h2, h3⟩ | ⟨b, o, sp, cap, h2, h3⟩
    · exact .inl ⟨by rw [e]; exact h2, h3⟩
    · refine .inr ⟨b, o, sp, cap, by rw [e]; exact h2, fun i fo hi hf => ?_⟩
      obtain ⟨h4, cs, T, fz, h5, h6⟩ := h3 i hi
      obtain rfl : fo = 0 := by omega
      refine ⟨h4, ?_, cs, T, fz, h5, by simpa using h6⟩
      rw [hg _ (by simp), h2]
      simp [gOf, asSl]
  | .sl n sz c, v, s, h, hg => by
    obtain ⟨h1, h2⟩ := h
    have e : g s = v := by have := hg [] (by simp); rw [gOf_nil] at this; simpa using this
    refine ⟨by rw [e]; exact h1, ?_⟩
    rcases h2 with ⟨h2, h3⟩ | ⟨b, o, sp, cap, h2, h3⟩
    · exact .inl ⟨by rw [e]; exact h2, h3⟩
    · refine .inr ⟨b, o, sp, cap, by rw [e]; exact h2, fun i fo hi hf => ?_⟩
      obtain ⟨h4, cs, T, fz, x, h5, h6, h7⟩ := h3 i fo hi hf
      have hc : cellAt ro b (o + (i * sz + fo)) = x := by simp [cellAt, h5, h6]
      have hg' : ∀ r, r ≠ [0] → g ((s ++ [i, fo]) ++ r) = gOf ro (c i fo) x r := fun r hr => by
        rw [List.append_assoc, hg _ (by simp), h2]
        simp only [List.cons_append, List.nil_append, gOf, asSl, hr, if_false, hc]
      refine ⟨h4, ?_, cs, T, fz, x, h5, h6, ?_, ?_⟩
      · rw [hg _ (by simp), h2]; simp [gOf, asSl]
      · have h0 := hg' [] (by simp)
        rw [gOf_nil, List.append_nil] at h0
        cases hcc : c i fo with
        | pl y => rw [hcc] at h7; exact h7
        | sl _ _ _ => exact h0.symm
        | ss _ => exact h0.symm
      · exact view_of h7 hg'

theorem pick_list {α : Type} (dflt : α) {p : Nat → α → Prop} : ∀ {n : Nat}, (∀ i, i < n → ∃ x, p i x) → ∃ l : List α, l.length = n ∧ ∀ i, i < n → p i (l.getD i dflt)
  | 0, _ => ⟨[], rfl, fun i hi => by omega⟩
  | n + 1, h => by
    obtain ⟨l, h1, h2⟩ := pick_list dflt (n := n) fun i hi => h i (by omega)
    obtain ⟨x, hx⟩ := h n (by omega)
    refine ⟨l ++ [x], by simp [h1], fun i hi => ?_⟩
    by_cases hn : i < n
    · have := h2 i hn
      simpa [List.getD, List.getElem?_append_left (show i < l.length by omega)] using this
    · obtain rfl : i = n := by omega
      simpa [List.getD, List.getElem?_append_right (show l.length ≤ i by omega), h1] using hx
theorem getD_mem {α : Type} {l : List α} {d : α} {p : α → Prop} (h : ∀ i, i < l.length → p (l.getD i d)) : ∀ a ∈ l, p a := fun a ha => by
  obtain ⟨i, hi, rfl⟩ := List.mem_iff_getElem.1 ha
  have := h i hi
  simpa [List.getD, List.getElem?_eq_getElem hi] using this
/-- A slice of strings. -/
theorem vv_ss {ro : PH} {B : Nat} {v : Value} (h : IT.den ro B (.sl [.s]) v) : ∃ L : List ByteArray, L.length ≤ B ∧ (∀ s ∈ L, s.size ≤ B) ∧ VV ro (.ss L) v := by
  simp only [IT.den] at h
  rcases h with rfl | ⟨b, o, sp, len, cap, rfl, hB, h⟩
  · exact ⟨[], by simp, by simp, rfl, .inl ⟨rfl, rfl⟩⟩
  · obtain ⟨L, hl, hL⟩ := pick_list (n := len) ByteArray.empty (p := fun i s => s.size ≤ B ∧ sp = none ∧ ∃ cs T fz, ro b = some (.cells cs T fz) ∧ cs[o + i]? = some (.string s)) fun i hi => by
      obtain ⟨h1, cs, T, fz, h2, vs, h3, h4⟩ := h i hi
      simp only [IT.dens, IT.den] at h4
      obtain ⟨_, _, rfl, ⟨s, rfl, hs⟩, rfl⟩ := h4
      have := h3 0 (by simp)
      exact ⟨s, hs, h1, cs, T, fz, h2, by simpa using this⟩
    subst hl
    exact ⟨L, hB, getD_mem fun i hi => (hL i hi).1, rfl, .inr ⟨b, o, sp, cap, rfl, fun i hi => (hL i hi).2⟩⟩
/-- A slice of what has several cells. -/
theorem vv_sl {ro : PH} {B : Nat} {v : Value} {es : List IT} {α : Type} (dflt : α) {φ : α → Prop} {c : α → Nat → IC} (h : IT.den ro B (.sl es) v)
    (hx : ∀ vs, IT.dens ro B es vs → ∃ a, φ a ∧ ∀ fo, fo < es.length → ∃ x, vs[fo]? = some x ∧ VV ro (c a fo) x) :
    ∃ l : List α, l.length ≤ B ∧ (∀ a ∈ l, φ a) ∧ VV ro (.sl l.length es.length fun i fo => c (l.getD i dflt) fo) v := by
  simp only [IT.den] at h
  rcases h with rfl | ⟨b, o, sp, len, cap, rfl, hB, h⟩
  · exact ⟨[], by simp, by simp, rfl, .inl ⟨rfl, rfl⟩⟩
  · obtain ⟨L, hl, hL⟩ := pick_list (n := len) dflt (p := fun i a => φ a ∧ ∀ fo, fo < es.length → sp = none ∧ ∃ cs T fz x, ro b = some (.cells cs T fz) ∧ cs[o + (i * es.length + fo)]? = some x ∧ VV ro (c a fo) x) fun i hi => by
      obtain ⟨h1, cs, T, fz, h2, vs, h3, h4⟩ := h i hi
      obtain ⟨a, h5, h6⟩ := hx vs h4
      refine ⟨a, h5, fun fo hf => ?_⟩
      obtain ⟨x, h7, h8⟩ := h6 fo hf
      exact ⟨h1, cs, T, fz, x, h2, by rw [h3 fo hf, h7], h8⟩
    subst hl
    exact ⟨L, hB, getD_mem fun i hi => (hL i hi).1, rfl, .inr ⟨b, o, sp, cap, rfl, fun i fo hi hf => (hL i hi).2 fo hf⟩⟩

/-! ### A contract, used for a law -/
def wholeH (W : World) : PH := fun k => W.heap[k]?
def envI (W : World) (l : List (IC × Value)) : Env := fun i => (l[i]?).map fun x => .rd (gOf (wholeH W) x.1 x.2)
def invI (W : World) (hG : Gw W) : Inv Unit := { inv := fun _ _ _ => False, os := W.os, out := W.output, ro := wholeH W, gl := hG }
theorem den_r {W : World} {l : List (IC × Value)} {i : Nat} {ic : IC} {v : Value} (h : l[i]? = some (ic, v)) (h1 : v.oneCell' = true) : Den (envI W l) (.r i []) v := by
  simp only [Den]
  exact ⟨_, by simp [envI, h]; rfl, (gOf_nil _ _ _).symm, h1⟩
theorem law_use {P : Program} {g : FuncId} {lc : ACon Unit} (h : ∀ I : Inv Unit, LCOk I P g lc) {W : World} (l : List (IC × Value)) (hl : ∀ x ∈ l, VV (wholeH W) x.1 x.2) {args : List SV} {vs : List Value}
    (hd : DenL (envI W l) args vs) (hpre : (lc args (l.map fun x => SB.inp x.1)).pre) (hx : ∀ x H ws, (lc args (l.map fun x => SB.inp x.1)).has x H ws → x = .v (.bool true)) (hG : Gw W := by intro g l h; cases h) :
    Calls P g vs.toArray W fun en W' => en = .returned (.bool true) ∧ Ext W W' := by
  refine (h (invI W hG) args (l.map fun x => SB.inp x.1) (envI W l) (wholeH W) W vs hpre hd ⟨⟨rfl, rfl, fun _ _ hk => hk⟩, fun _ => emp, fun i b hb => ?_, fun i hi => ⟨?_, rfl⟩, fun _ _ _ _ => .inl rfl, fun _ _ => .inl rfl, fun _ _ _ hk => (by simp [emp] at hk), fun _ _ hk => hk⟩).mono fun en W' hh => ?_
  · rw [List.getElem?_map, Option.map_eq_some_iff] at hb
    obtain ⟨x, hx1, rfl⟩ := hb
    exact ⟨_, by simp [envI, hx1]; rfl, rfl, view_of (hl x (List.mem_of_getElem? hx1)) fun r _ => by simp [invI]⟩
  · simp only [List.length_map] at hi
    simp [envI, List.getElem?_eq_none hi]
  · obtain ⟨x, H', ws, e', v, h1, rfl, _, hM, hv⟩ := hh
    obtain rfl := hx x H' ws h1
    simp only [Den] at hv
    subst hv
    obtain ⟨hst, _, _, _, _, _, _, hsub⟩ := hM
    exact ⟨rfl, fun k o hk => hsub k o hk, hst.os, hst.out⟩
theorem law_run {P : Program} {g : FuncId} {fn : Func} {cfg : Cfg Unit} (hcfg : ∀ I : Inv Unit, CfgOk I cfg) (hP : cfg.P = P) {n : Nat} (hf : P.funcs[g]? = some fn) {W : World} (l : List (IC × Value)) (hl : ∀ x ∈ l, VV (wholeH W) x.1 x.2) {args : List SV} {vs : List Value}
    (hd : DenL (envI W l) args vs) (h : Ask (bodyK P (run cfg n) fn args (l.map fun x => SB.inp x.1) (fun y _ => y = .v (.bool true)))) (hG : Gw W := by intro g l h; cases h) :
    Calls P g vs.toArray W fun en W' => en = .returned (.bool true) ∧ Ext W W' := by
  subst hP
  have hM : Models (invI W hG) (envI W l) (l.map fun x => SB.inp x.1) (wholeH W) W := by
    refine ⟨⟨rfl, rfl, fun _ _ hk => hk⟩, fun _ => emp, fun i b hb => ?_, fun i hi => ⟨?_, rfl⟩, fun _ _ _ _ => .inl rfl, fun _ _ => .inl rfl, fun _ _ _ hk => (by simp [emp] at hk), fun _ _ hk => hk⟩
    · rw [List.getElem?_map, Option.map_eq_some_iff] at hb
      obtain ⟨x, hx1, rfl⟩ := hb
      exact ⟨_, by simp [envI, hx1]; rfl, rfl, view_of (hl x (List.mem_of_getElem? hx1)) fun r _ => by simp [invI]⟩
    · simp only [List.length_map] at hi
      simp [envI, List.getElem?_eq_none hi]
  refine (body_ok (run_ok (hcfg (invI W hG)) n) hf h.h hd hM).mono fun en W' he => ?_
  obtain ⟨y, H', e', v, rfl, hle, hM', hdv, rfl⟩ := he
  simp only [Den] at hdv
  subst hdv
  obtain ⟨hst, _, _, _, _, _, _, hsub⟩ := hM'
  exact ⟨rfl, fun k o hk => hsub k o hk, hst.os, hst.out⟩

/-! ### Parameters -/
inductive IP where
  | one (t : IT)
  | agg (ts : List IT)
def ipOf (P : Program) (t : TypeId) : Option IP :=
  match itOf P P.depth t with
  | some its => match isAgg P t with
    | true => some (.agg its)
    | false => match its with
      | [x] => some (.one x)
      | _ => none
  | none => none
def ipsOf (P : Program) : List TypeId → Option (List IP)
  | [] => some []
  | t :: ts => match ipOf P t with
    | some l => match ipsOf P ts with
      | some ls => some (l :: ls)
      | none => none
    | none => none
def IP.den (ro : PH) (B : Nat) : IP → Value → Prop
  | .one t, v => t.den ro B v
  | .agg ts, v => ∃ vs : List Value, v = .agg vs.toArray ∧ IT.dens ro B ts vs
def IPDens (ro : PH) (B : Nat) : List IP → List Value → Prop
  | [], vs => vs = []
  | l :: ls, vs => ∃ v r, vs = v :: r ∧ l.den ro B v ∧ IPDens ro B ls r
theorem it_i {ro : PH} {B : Nat} {k : IntKind} {v : Value} : IT.den ro B (.i k) v ↔ ∃ n, v = .int k n ∧ k.min ≤ n ∧ n ≤ k.max := by simp only [IT.den]
theorem it_b {ro : PH} {B : Nat} {v : Value} : IT.den ro B .b v ↔ ∃ x, v = .bool x := by simp only [IT.den]
theorem it_s {ro : PH} {B : Nat} {v : Value} : IT.den ro B .s v ↔ ∃ s : ByteArray, v = .string s ∧ s.size ≤ B := by simp only [IT.den]
section
variable {H : Type} {enc : TypeId × Value → H} {P : Program} {w : World} {base : Nat} {spare : Nat → Bool} {held : Bool} {Q : DataW H → Prop} {B : Nat}
theorem ip_den (hQ : BulkQ Q B) {r : Reach} {b0 : Nat} {t : TypeId} {ip : IP} {v : Value} {d : DataW H} {ps : List MemPlace} (h : ipOf P t = some ip) (ht : DataW.Trod enc P w base spare held t v d ps) (hv : Value.okWide P w r b0 t v) (hq : Q d) :
    ip.den (wholeH w) B v := by
  obtain ⟨fuel, ht⟩ := ht
  unfold ipOf at h
  split at h
  · rename_i its hi
    have hd := it_den hQ P.depth hi ht hq
    split at h
    · rename_i hagg
      simp only [Option.some.injEq] at h; subst h
      have hv' : ∃ cs, v = .agg cs := by
        unfold isAgg at hagg
        unfold Value.okWide at hv
        split at hagg
        · rename_i hu; simp only [hu] at hv; obtain ⟨cs, h, _⟩ := hv; exact ⟨cs, h⟩
        · rename_i hu; simp only [hu] at hv; obtain ⟨cs, h, _⟩ := hv; exact ⟨cs, h⟩
        · cases hagg
      obtain ⟨cs, rfl⟩ := hv'
      exact ⟨cs.toList, by simp, hd⟩
    · rename_i hagg
      split at h
      · rename_i x
        simp only [Option.some.injEq] at h; subst h
        simp only [IT.dens] at hd
        obtain ⟨u, r, h1, h2, rfl⟩ := hd
        have hone : v.cells.toList = [v] := by
          cases v with
          | agg cs =>
            exfalso
            unfold isAgg at hagg
            unfold Value.okWide at hv
            split at hv
            · rename_i hu; simp [hu] at hagg
            · rename_i hu; simp [hu] at hagg
            · unfold Cell.okWide at hv
              split at hv <;> simp_all [Cell.ok]
          | _ => rfl
        rw [hone] at h1
        simp only [List.cons.injEq, and_true] at h1
        subst h1
        exact h2
      · cases h
  · cases h
theorem ips_of (hQ : BulkQ Q B) {r : Reach} {b0 : Nat} : ∀ {ts : List TypeId} {ips : List IP} {vs : List Value} {ds : List (DataW H)} {ps : List MemPlace}, ipsOf P ts = some ips → DataW.TrodAll enc P w base spare held ts vs ds ps →
    (∀ (i : Nat) t v, ts[i]? = some t → vs[i]? = some v → Value.okWide P w r b0 t v) → (∀ d ∈ ds, Q d) → IPDens (wholeH w) B ips vs
  | [], ips, [], [], _, h, _, _, _ => by
    simp only [ipsOf, Option.some.injEq] at h
    subst h; rfl
  | t :: ts, ips, v :: vs, d :: ds, _, h, ⟨p, q, h1, h2, _⟩, hv, hq => by
    unfold ipsOf at h
    split at h
    · rename_i l hl
      split at h
      · rename_i ls hls
        simp only [Option.some.injEq] at h; subst h
        exact ⟨v, vs, rfl, ip_den hQ hl h1 (hv 0 t v rfl rfl) (hq d (List.mem_cons_self ..)), ips_of hQ hls h2 (fun i u x g1 g2 => hv (i + 1) u x (by simpa using g1) (by simpa using g2)) fun y hy => hq y (List.mem_cons_of_mem _ hy)⟩
      · cases h
    · cases h
theorem bulk_true : BulkQ (H := H) (fun _ => True) maxLen := ⟨fun _ _ _ h => ⟨h, fun _ _ => trivial⟩, fun _ _ _ _ => trivial, fun _ _ h => h⟩
end
theorem dl_nil {e : Env} : DenL e [] [] := by simp [DenL]
theorem dl_cons {e : Env} {x : SV} {v : Value} {xs : List SV} {vs : List Value} (h : Den e x v) (h' : DenL e xs vs) : DenL e (x :: xs) (v :: vs) := by
  simp only [DenL]; exact ⟨v, vs, rfl, h, h'⟩
theorem den_v {e : Env} {v : Value} : Den e (.v v) v := by simp [Den]
theorem den_a {e : Env} {xs : List SV} {vs : List Value} (h : DenL e xs vs) : Den e (.a xs) (.agg vs.toArray) := by
  simp only [Den]; exact ⟨vs, h, rfl⟩
end Go.Sym
