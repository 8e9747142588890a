/- What is wanted of the texts VQ, VW, VY, in one. -/
import Derived.Test.YtcbjgpkbfmmdpaaGreatDoorHpPv
import Derived.ProofKit
import Derived.OpenShut
import Derived.ShutString
import Derived.ChangeOld
import Derived.Below
import Derived.Carry
import Derived.ChangeSlices
import Derived.ChangeArms
import Derived.DefersIn
set_option linter.unusedSimpArgs false
set_option linter.unusedVariables false
set_option linter.unusedSectionVars false
namespace Go.Sym
open Go
inductive Leaf where
  | i (k : IntKind)
  | b
def Leaf.den : Leaf → Value → Prop
  | .i k, v => ∃ n, v = .int k n ∧ k.min ≤ n ∧ n ≤ k.max
  | .b, v => ∃ x, v = .bool x
inductive PL where
  | one (l : Leaf)
  | agg (ls : List Leaf)
def isAgg (P : Program) (t : TypeId) : Bool :=
  match P.underlying t with
  | some (.struct _) => true
  | some (.array _ _) => true
  | _ => false
def LDens : List Leaf → List Value → Prop
  | [], vs => vs = []
  | l :: ls, vs => ∃ v r, vs = v :: r ∧ l.den v ∧ LDens ls r
def PL.den : PL → Value → Prop
  | .one l, v => l.den v
  | .agg ls, v => ∃ vs : List Value, v = .agg vs.toArray ∧ LDens ls vs
theorem trodAll_dlen {H : Type} {enc : TypeId × Value → H} {P : Program} {w : World} {base : Nat} {spare : Nat → Bool} {held : Bool} : ∀ {ts : List TypeId} {vs : List Value} {ds : List (DataW H)} {ps : List MemPlace},
    DataW.TrodAll enc P w base spare held ts vs ds ps → ds.length = ts.length
  | [], [], [], _, _ => rfl
  | _ :: _, _ :: _, _ :: _, _, ⟨_, _, _, h, _⟩ => by simp [trodAll_dlen h]
theorem len_succ {α : Type} {n : Nat} : ∀ {l : List α}, l.length = n + 1 → ∃ a r, l = a :: r ∧ r.length = n
  | [], h => by simp at h
  | a :: r, h => ⟨a, r, rfl, by simpa using h⟩
theorem len_zero {α : Type} {l : List α} (h : l.length = 0) : l = [] := List.length_eq_zero_iff.1 h
theorem args_stay {H : Type} {enc : TypeId × Value → H} {P : Program} (hl : laidOutB P = true) {W W' : World} (hext : Ext W W') : ∀ {ts : List TypeId} {vs : List Value} {ds : List (DataW H)} {ps : List MemPlace},
    (ts.all fun t => P.readableRec t && decide (t < P.types.size)) = true → DataW.TrodAll enc P W 0 (fun _ => true) true ts vs ds ps →
    DataW.TrodAll enc P W' 0 (fun b => decide (b < W.heap.size)) true ts vs ds ps
  | [], [], [], _, _, h => h
  | t :: ts, v :: vs, d :: ds, _, hr, ⟨p, q, h, hs, e⟩ => by
    simp only [List.all_cons, Bool.and_eq_true, decide_eq_true_eq] at hr
    have hlt : ∀ x ∈ p, x.block < W.heap.size := by obtain ⟨m, hm⟩ := h; exact DataW.trod_lt m _ _ _ hm
    have hblk : ∀ k, k < W.heap.size → W'.heap[k]? = W.heap[k]? := fun k hk => by
      have := hext.heap k W.heap[k] (by simp [hk])
      rw [this]; simp [hk]
    refine ⟨p, q, WideElems.Trod_stays hl hr.1.1 hr.1.2 h (fun x hx => ?_) (fun x hx => by simpa using hlt x hx), args_stay hl hext (by simpa using hr.2) hs, e⟩
    have hb := hlt x hx
    cases x with
    | cell b o => exact World.cell?_of_block (w := W) (hblk b hb)
    | map b => exact hblk b hb
theorem ext_frame {W W' : World} (h : Ext W W') (may : MemPlace → Prop) : W.keptBut W' may := by
  refine ⟨h.stay.os, h.stay.out, fun i hi => ?_⟩
  have := h.heap i W.heap[i] (by simp [hi])
  rw [this]
  simp only [hi, getElem?_pos]
  split <;> simp_all
end Go.Sym
namespace Go.Sym
open Go Go.ChangeShapes Go.WideShapes
inductive IT where
  | i (k : IntKind)
  | b
  | s
  | sl (es : List IT)
mutual
def IT.den (ro : PH) (B : Nat) : IT → Value → Prop
  | .i k, v => ∃ n, v = .int k n ∧ k.min ≤ n ∧ n ≤ k.max
  | .b, v => ∃ x, v = .bool x
  | .s, v => ∃ s : ByteArray, v = .string s ∧ s.size ≤ B
  | .sl es, v => v = .slice none 0 0 ∨ ∃ b o sp len cap, v = .slice (some ⟨b, o, sp⟩) len cap ∧ len ≤ B ∧
      ∀ i, i < len → sp = none ∧ ∃ cs T fz, ro b = some (.cells cs T fz) ∧ ∃ vs : List Value, (∀ fo, fo < es.length → cs[o + (i * es.length + fo)]? = vs[fo]?) ∧ IT.dens ro B es vs
def IT.dens (ro : PH) (B : Nat) : List IT → List Value → Prop
  | [], vs => vs = []
  | t :: ts, vs => ∃ v r, vs = v :: r ∧ IT.den ro B t v ∧ IT.dens ro B ts r
end
theorem IT.dens_append {ro : PH} {B : Nat} : ∀ {ts us : List IT} {vs ws : List Value}, IT.dens ro B ts vs → IT.dens ro B us ws → IT.dens ro B (ts ++ us) (vs ++ ws)
  | [], us, vs, ws, h, h' => by simp only [IT.dens] at h; subst h; exact h'
  | t :: ts, us, vs, ws, h, h' => by
    simp only [IT.dens] at h
    obtain ⟨v, r, rfl, h1, h2⟩ := h
    simp only [List.cons_append, IT.dens]
    exact ⟨v, r ++ ws, rfl, h1, IT.dens_append h2 h'⟩
def itFs (f : TypeId → Option (List IT)) (P : Program) : Nat → List Field → Option (List IT)
  | _, [] => some []
  | o, x :: xs => match f x.type with
    | some a => match Nat.beq x.offset o && Nat.beq (P.cellsOf x.type) a.length with
      | true => match itFs f P (o + a.length) xs with
        | some r => some (a ++ r)
        | none => none
      | false => none
    | none => none
def itRep (a : List IT) : Nat → List IT
  | 0 => []
  | n + 1 => a ++ itRep a n
def itOf (P : Program) : Nat → TypeId → Option (List IT)
  | 0, _ => none
  | d + 1, t => match P.underlying t with
    | some (.int k) => some [.i k]
    | some .bool => some [.b]
    | some .string => some [.s]
    | some (.slice e) => match itOf P d e with
      | some es => match Nat.beq (P.cellsOf e) es.length && Nat.blt 0 es.length with
        | true => some [.sl es]
        | false => none
      | none => none
    | some (.struct fs) => match itFs (itOf P d) P 0 fs.toList with
      | some r => match Nat.beq (P.cellsOf t) r.length with
        | true => some r
        | false => none
      | none => none
    | some (.array n e) => match itOf P d e with
      | some es => match Nat.beq (P.cellsOf e) es.length && Nat.beq (P.cellsOf t) (n * es.length) with
        | true => some (itRep es n)
        | false => none
      | none => none
    | _ => none
structure BulkQ {H : Type} (Q : DataW H → Prop) (B : Nat) : Prop where
  sl : ∀ e s, Q (.slice e s) → e.length ≤ maxLen → e.length ≤ B ∧ ∀ d ∈ e, Q d
  ag : ∀ ps, Q (.agg ps) → ∀ d ∈ ps, Q d
  st : ∀ bs : List UInt8, Q (.lit (.string bs)) → bs.length ≤ maxLen → bs.length ≤ B
section
variable {H : Type} {enc : TypeId × Value → H} {P : Program} {w : World} {base : Nat} {spare : Nat → Bool} {held : Bool} {Q : DataW H → Prop} {B : Nat}
theorem add_add' (a : Addr) (i j : Nat) : (a.add i).add j = a.add (i + j) := by
  unfold Addr.add
  by_cases hi : i = 0 <;> by_cases hj : j = 0 <;> simp [hi, hj, Nat.add_assoc]
theorem cell_add {b o m : Nat} {sp : Option Nat} {v : Value} (h : w.cell? ((⟨b, o, sp⟩ : Addr).add m) = some v) : ∃ c T fz, w.heap[b]? = some (.cells c T fz) ∧ c[o + m]? = some v ∧ (m = 0 → sp = none) := by
  unfold Addr.add at h
  split at h
  · rename_i hm
    subst hm
    unfold World.cell? at h
    split at h
    · rename_i c T fz hb
      split at h
      · cases h
      · rename_i hs
        exact ⟨c, T, fz, hb, by simpa using h, fun _ => by simpa using hs⟩
    · cases h
  · rename_i hm
    unfold World.cell? at h
    split at h
    · rename_i c T fz hb
      exact ⟨c, T, fz, hb, by simpa using h, fun h0 => absurd h0 hm⟩
    · cases h
theorem wf_int {k : IntKind} {n : Int} (h : (Lit.int k n).wf = true) : k.min ≤ n ∧ n ≤ k.max := by
  simpa [Lit.wf] using h
theorem itFs_len (f : TypeId → Option (List IT)) : ∀ {o : Nat} {fs : List Field} {r : List IT}, itFs f P o fs = some r → ∀ {cs : List Value} (den : List IT → List Value → Prop) (hnil : den [] []) (happ : ∀ a b c d, den a c → den b d → den (a ++ b) (c ++ d)),
    cs.length = o + r.length → (∀ x ∈ fs, ∀ a, f x.type = some a → P.cellsOf x.type = a.length → x.offset + a.length ≤ cs.length → den a ((cs.drop x.offset).take (P.cellsOf x.type))) → den r (cs.drop o)
  | o, [], r, h, cs, den, hnil, happ, hl, hx => by
    simp only [itFs, Option.some.injEq] at h
    subst h
    have : cs.drop o = [] := List.drop_eq_nil_of_le (by simp at hl; omega)
    rw [this]; exact hnil
  | o, x :: xs, r, h, cs, den, hnil, happ, hl, hx => by
    unfold itFs at h
    split at h
    · rename_i a ha
      split at h
      · rename_i hb
        rw [Bool.and_eq_true, Nat.beq_eq, Nat.beq_eq] at hb
        split at h
        · rename_i r' hr
          simp only [Option.some.injEq] at h
          subst h
          simp only [List.length_append] at hl
          have ih := itFs_len f hr (cs := cs) den hnil happ (by omega) fun y hy => hx y (List.mem_cons_of_mem _ hy)
          have h1 := hx x (List.mem_cons_self ..) a ha hb.2 (by omega)
          rw [hb.2, hb.1] at h1
          have e : cs.drop o = (cs.drop o).take a.length ++ cs.drop (o + a.length) := by
            rw [← List.drop_drop, List.take_append_drop]
          rw [e]
          exact happ _ _ _ _ h1 ih
        · cases h
      · cases h
    · cases h
theorem itRep_den (den : List IT → List Value → Prop) (hnil : den [] []) (happ : ∀ a b c d, den a c → den b d → den (a ++ b) (c ++ d)) {a : List IT} : ∀ {n : Nat} {cs : List Value}, cs.length = n * a.length →
    (∀ i, i < n → den a ((cs.drop (i * a.length)).take a.length)) → den (itRep a n) cs
  | 0, cs, hl, _ => by
    have : cs = [] := List.length_eq_zero_iff.1 (by simpa using hl)
    subst this; exact hnil
  | n + 1, cs, hl, h => by
    have e : cs = cs.take a.length ++ cs.drop a.length := (List.take_append_drop _ _).symm
    rw [e, itRep]
    refine happ _ _ _ _ (by simpa using h 0 (by omega)) (itRep_den den hnil happ (by rw [List.length_drop, hl, Nat.succ_mul]; omega) fun i hi => ?_)
    have := h (i + 1) (by omega)
    rw [List.drop_drop]
    rwa [Nat.succ_mul, Nat.add_comm] at this
theorem it_den (hQ : BulkQ Q B) : ∀ (d : Nat) {t : TypeId} {its : List IT} {fuel : Nat} {cs : List Value} {x : DataW H × List MemPlace}, itOf P d t = some its → DataW.trod enc P w base spare held fuel t cs = some x → Q x.1 →
    IT.dens (fun k => w.heap[k]?) B its cs
  | 0, t, its, fuel, cs, x, h, _, _ => by simp [itOf] at h
  | d + 1, t, its, fuel, cs, x, h, ht, hq => by
    unfold itOf at h
    split at h
    · rename_i k hu
      simp only [Option.some.injEq] at h; subst h
      obtain ⟨n, rfl, rfl, hw⟩ := DataW.trod_int hu ht
      simp only [IT.dens, IT.den]
      exact ⟨_, _, rfl, ⟨n, rfl, wf_int hw⟩, rfl⟩
    · rename_i hu
      simp only [Option.some.injEq] at h; subst h
      obtain ⟨b, rfl, rfl⟩ := DataW.trod_bool hu ht
      simp only [IT.dens, IT.den]
      exact ⟨_, _, rfl, ⟨b, rfl⟩, rfl⟩
    · rename_i hu
      simp only [Option.some.injEq] at h; subst h
      obtain ⟨s, rfl, rfl, hs⟩ := DataW.trod_string hu ht
      simp only [IT.dens, IT.den]
      have := hQ.st _ hq (by simpa using hs)
      exact ⟨_, _, rfl, ⟨s, rfl, by simpa using this⟩, rfl⟩
    · rename_i e hu
      split at h
      · rename_i es he
        split at h
        · rename_i hc
          rw [Bool.and_eq_true, Nat.beq_eq, Nat.blt_eq] at hc
          obtain ⟨hc, hpos⟩ := hc
          simp only [Option.some.injEq] at h; subst h
          simp only [IT.dens, IT.den]
          rcases DataW.trod_slice hu ht with ⟨rfl, rfl⟩ | ⟨a, len, cap, elems, rest, n, _, rfl, rfl, _, hl, hm, hlen, hel, _, _⟩
          · exact ⟨_, _, rfl, .inl rfl, rfl⟩
          · obtain ⟨b, o, sp⟩ := a
            obtain ⟨hB, hqe⟩ := hQ.sl _ _ hq (by rw [List.length_map]; omega)
            rw [List.length_map, hlen] at hB
            refine ⟨_, _, rfl, .inr ⟨b, o, sp, len, cap, rfl, hB, fun i hi => ?_⟩, rfl⟩
            have key : ∀ i, i < len → ∃ cs' : List Value, cs'.length = es.length ∧ IT.dens (fun k => w.heap[k]?) B es cs' ∧ ∀ fo, fo < es.length → ∃ c T fz v, w.heap[b]? = some (.cells c T fz) ∧ c[o + (i * es.length + fo)]? = some v ∧ cs'[fo]? = some v ∧ (i * es.length + fo = 0 → sp = none) := fun i hi => by
              have hi' : i < elems.length := by omega
              have h1 := hel i hi
              rw [List.getElem?_eq_getElem hi', Option.bind_eq_some_iff] at h1
              obtain ⟨cs', h2, h3⟩ := h1
              have h4 := it_den hQ d he h3 (hqe _ (List.mem_map.2 ⟨_, List.getElem_mem hi', rfl⟩))
              obtain ⟨_, h5, h6⟩ := World.cells?_some h2
              refine ⟨cs', by omega, h4, fun fo hf => ?_⟩
              have h7 := h6 fo (by omega)
              rw [add_add', List.getElem?_eq_getElem (by omega), hc] at h7
              obtain ⟨c, T, fz, g1, g2, g3⟩ := cell_add h7
              exact ⟨c, T, fz, _, g1, g2, List.getElem?_eq_getElem (by omega), g3⟩
            obtain ⟨_, _, _, k0⟩ := key 0 (by omega)
            obtain ⟨_, _, _, _, _, _, _, k1⟩ := k0 0 hpos
            obtain ⟨cs', g1, g2, g3⟩ := key i hi
            obtain ⟨c, T, fz, _, g4, _⟩ := g3 0 hpos
            refine ⟨k1 (by simp), c, T, fz, g4, cs', fun fo hf => ?_, g2⟩
            obtain ⟨c', T', fz', v, g5, g6, g7, _⟩ := g3 fo hf
            rw [g4] at g5
            simp only [Option.some.injEq, Obj.cells.injEq] at g5
            obtain ⟨rfl, rfl, rfl⟩ := g5
            rw [g6, g7]
        · cases h
      · cases h
    · rename_i fs hu
      obtain ⟨xs, n, _, rfl, hcl, hxl, hf⟩ := DataW.trod_struct hu ht
      split at h
      · rename_i r hr
        split at h
        · rename_i hc
          rw [Nat.beq_eq] at hc
          simp only [Option.some.injEq] at h; subst h
          have := itFs_len (P := P) _ hr (cs := cs) (IT.dens (fun k => w.heap[k]?) B) (by simp [IT.dens]) (fun _ _ _ _ h h' => IT.dens_append h h') (by omega) fun y hy a ha _ _ => by
            obtain ⟨i, hi, rfl⟩ := List.mem_iff_getElem.1 hy
            simp only [Array.length_toList] at hi
            have h1 := hf i _ (by rw [← Array.getElem?_toList, List.getElem?_eq_getElem (by simpa using hi)])
            rw [List.getElem?_eq_getElem (by omega)] at h1
            exact it_den hQ d ha h1 (hQ.ag _ hq _ (List.mem_map.2 ⟨_, List.getElem_mem (by omega), rfl⟩))
          simpa using this
        · cases h
      · cases h
    · rename_i n e hu
      split at h
      · rename_i es he
        split at h
        · rename_i hc
          rw [Bool.and_eq_true, Nat.beq_eq, Nat.beq_eq] at hc
          simp only [Option.some.injEq] at h; subst h
          obtain ⟨xs, m, _, rfl, hcl, hxl, hf⟩ := DataW.trod_array hu ht
          refine itRep_den _ (by simp [IT.dens]) (fun _ _ _ _ h h' => IT.dens_append h h') (by omega) fun i hi => ?_
          have h1 := hf i hi
          rw [List.getElem?_eq_getElem (by omega), hc.1] at h1
          exact it_den hQ d he h1 (hQ.ag _ hq _ (List.mem_map.2 ⟨_, List.getElem_mem (by omega), rfl⟩))
        · cases h
      · cases h
    · cases h
end
def VV (ro : PH) : IC → Value → Prop
  | .pl x, v => v = x
  | .ss L, v => v.oneCell' = true ∧ ((v = .slice none 0 0 ∧ L.length = 0) ∨ ∃ b o sp cap, v = .slice (some ⟨b, o, sp⟩) L.length cap ∧
      ∀ i, i < L.length → sp = none ∧ ∃ cs T fz, ro b = some (.cells cs T fz) ∧ cs[o + i]? = some (.string (L.getD i ByteArray.empty)))
  | .sl n sz c, v => v.oneCell' = true ∧ ((v = .slice none 0 0 ∧ n = 0) ∨ ∃ b o sp cap, v = .slice (some ⟨b, o, sp⟩) n cap ∧
      ∀ i fo, i < n → fo < sz → sp = none ∧ ∃ cs T fz x, ro b = some (.cells cs T fz) ∧ cs[o + (i * sz + fo)]? = some x ∧ VV ro (c i fo) x)
def cellAt (ro : PH) (b o : Nat) : Value := match ro b with
  | some (.cells cs _ _) => (cs[o]?).getD (.bool false)
  | _ => .bool false
def gOf (ro : PH) : IC → Value → List Nat → Value
  | _, v, [] => v
  | _, v, [_] => v
  | ic, v, i :: fo :: r => match asSl ic with
    | none => v
    | some (_, sz, c) => match v with
      | .slice (some a) _ _ => if r = [0] then .pointer (some ⟨a.block, a.off + (i * sz + fo), none⟩) else gOf ro (c i fo) (cellAt ro a.block (a.off + (i * sz + fo))) r
      | _ => v
theorem gOf_nil (ro : PH) (ic : IC) (v : Value) : gOf ro ic v [] = v := by cases ic <;> simp [gOf]
theorem view_of {ro : PH} {g : List Nat → Value} : ∀ {ic : IC} {v : Value} {s : List Nat}, VV ro ic v → (∀ r, r ≠ [0] → g (s ++ r) = gOf ro ic v r) → View ro g ic s
  | .pl x, v, s, _, _ => trivial
  | .ss L, v, s, h, hg => by
    obtain ⟨h1, h2⟩ := h
    have e : g s = v := by have := hg [] (by simp); rw [gOf_nil] at this; simpa using this
    refine ⟨by rw [e]; exact h1, ?_⟩
    rcases h2 with ⟨h2, h3⟩ | ⟨b, o, sp, cap, h2, h3⟩
    · exact .inl ⟨by rw [e]; exact h2, h3⟩
    · refine .inr ⟨b, o, sp, cap, by rw [e]; exact h2, fun i fo hi hf => ?_⟩
      obtain ⟨h4, cs, T, fz, h5, h6⟩ := h3 i hi
      obtain rfl : fo = 0 := by omega
      refine ⟨h4, ?_, cs, T, fz, h5, by simpa using h6⟩
      rw [hg _ (by simp), h2]
      simp [gOf, asSl]
  | .sl n sz c, v, s, h, hg => by
    obtain ⟨h1, h2⟩ := h
    have e : g s = v := by have := hg [] (by simp); rw [gOf_nil] at this; simpa using this
    refine ⟨by rw [e]; exact h1, ?_⟩
    rcases h2 with ⟨h2, h3⟩ | ⟨b, o, sp, cap, h2, h3⟩
    · exact .inl ⟨by rw [e]; exact h2, h3⟩
    · refine .inr ⟨b, o, sp, cap, by rw [e]; exact h2, fun i fo hi hf => ?_⟩
      obtain ⟨h4, cs, T, fz, x, h5, h6, h7⟩ := h3 i fo hi hf
      have hc : cellAt ro b (o + (i * sz + fo)) = x := by simp [cellAt, h5, h6]
      have hg' : ∀ r, r ≠ [0] → g ((s ++ [i, fo]) ++ r) = gOf ro (c i fo) x r := fun r hr => by
        rw [List.append_assoc, hg _ (by simp), h2]
        simp only [List.cons_append, List.nil_append, gOf, asSl, hr, if_false, hc]
      refine ⟨h4, ?_, cs, T, fz, x, h5, h6, ?_, ?_⟩
      · rw [hg _ (by simp), h2]; simp [gOf, asSl]
      · have h0 := hg' [] (by simp)
        rw [gOf_nil, List.append_nil] at h0
        cases hcc : c i fo with
        | pl y => rw [hcc] at h7; exact h7
        | sl _ _ _ => exact h0.symm
        | ss _ => exact h0.symm
      · exact view_of h7 hg'
theorem pick_list {α : Type} (dflt : α) {p : Nat → α → Prop} : ∀ {n : Nat}, (∀ i, i < n → ∃ x, p i x) → ∃ l : List α, l.length = n ∧ ∀ i, i < n → p i (l.getD i dflt)
  | 0, _ => ⟨[], rfl, fun i hi => by omega⟩
  | n + 1, h => by
    obtain ⟨l, h1, h2⟩ := pick_list dflt (n := n) fun i hi => h i (by omega)
    obtain ⟨x, hx⟩ := h n (by omega)
    refine ⟨l ++ [x], by simp [h1], fun i hi => ?_⟩
    by_cases hn : i < n
    · have := h2 i hn
      simpa [List.getD, List.getElem?_append_left (show i < l.length by omega)] using this
    · obtain rfl : i = n := by omega
      simpa [List.getD, List.getElem?_append_right (show l.length ≤ i by omega), h1] using hx
theorem getD_mem {α : Type} {l : List α} {d : α} {p : α → Prop} (h : ∀ i, i < l.length → p (l.getD i d)) : ∀ a ∈ l, p a := fun a ha => by
  obtain ⟨i, hi, rfl⟩ := List.mem_iff_getElem.1 ha
  have := h i hi
  simpa [List.getD, List.getElem?_eq_getElem hi] using this
theorem vv_ss {ro : PH} {B : Nat} {v : Value} (h : IT.den ro B (.sl [.s]) v) : ∃ L : List ByteArray, L.length ≤ B ∧ (∀ s ∈ L, s.size ≤ B) ∧ VV ro (.ss L) v := by
  simp only [IT.den] at h
  rcases h with rfl | ⟨b, o, sp, len, cap, rfl, hB, h⟩
  · exact ⟨[], by simp, by simp, rfl, .inl ⟨rfl, rfl⟩⟩
  · obtain ⟨L, hl, hL⟩ := pick_list (n := len) ByteArray.empty (p := fun i s => s.size ≤ B ∧ sp = none ∧ ∃ cs T fz, ro b = some (.cells cs T fz) ∧ cs[o + i]? = some (.string s)) fun i hi => by
      obtain ⟨h1, cs, T, fz, h2, vs, h3, h4⟩ := h i hi
      simp only [IT.dens, IT.den] at h4
      obtain ⟨_, _, rfl, ⟨s, rfl, hs⟩, rfl⟩ := h4
      have := h3 0 (by simp)
      exact ⟨s, hs, h1, cs, T, fz, h2, by simpa using this⟩
    subst hl
    exact ⟨L, hB, getD_mem fun i hi => (hL i hi).1, rfl, .inr ⟨b, o, sp, cap, rfl, fun i hi => (hL i hi).2⟩⟩
def wholeH (W : World) : PH := fun k => W.heap[k]?
def envI (W : World) (l : List (IC × Value)) : Env := fun i => (l[i]?).map fun x => .rd (gOf (wholeH W) x.1 x.2)
def invI (W : World) (hG : Gw W) : Inv Unit := { inv := fun _ _ _ => False, os := W.os, out := W.output, ro := wholeH W, gl := hG }
theorem den_r {W : World} {l : List (IC × Value)} {i : Nat} {ic : IC} {v : Value} (h : l[i]? = some (ic, v)) (h1 : v.oneCell' = true) : Den (envI W l) (.r i []) v := by
  simp only [Den]
  exact ⟨_, by simp [envI, h]; rfl, (gOf_nil _ _ _).symm, h1⟩
theorem law_run {P : Program} {g : FuncId} {fn : Func} {cfg : Cfg Unit} (hcfg : ∀ I : Inv Unit, CfgOk I cfg) (hP : cfg.P = P) {n : Nat} (hf : P.funcs[g]? = some fn) {W : World} (l : List (IC × Value)) (hl : ∀ x ∈ l, VV (wholeH W) x.1 x.2) {args : List SV} {vs : List Value}
    (hd : DenL (envI W l) args vs) (h : Ask (bodyK P (run cfg n) fn args (l.map fun x => SB.inp x.1) (fun y _ => y = .v (.bool true)))) (hG : Gw W := by intro g l h; cases h) :
    Calls P g vs.toArray W fun en W' => en = .returned (.bool true) ∧ Ext W W' := by
  subst hP
  have hM : Models (invI W hG) (envI W l) (l.map fun x => SB.inp x.1) (wholeH W) W := by
    refine ⟨⟨rfl, rfl, fun _ _ hk => hk⟩, fun _ => emp, fun i b hb => ?_, fun i hi => ⟨?_, rfl⟩, fun _ _ _ _ => .inl rfl, fun _ _ => .inl rfl, fun _ _ _ hk => (by simp [emp] at hk), fun _ _ hk => hk⟩
    · rw [List.getElem?_map, Option.map_eq_some_iff] at hb
      obtain ⟨x, hx1, rfl⟩ := hb
      exact ⟨_, by simp [envI, hx1]; rfl, rfl, view_of (hl x (List.mem_of_getElem? hx1)) fun r _ => by simp [invI]⟩
    · simp only [List.length_map] at hi
      simp [envI, List.getElem?_eq_none hi]
  refine (body_ok (run_ok (hcfg (invI W hG)) n) hf h.h hd hM).mono fun en W' he => ?_
  obtain ⟨y, H', e', v, rfl, hle, hM', hdv, rfl⟩ := he
  simp only [Den] at hdv
  subst hdv
  obtain ⟨hst, _, _, _, _, _, _, hsub⟩ := hM'
  exact ⟨rfl, fun k o hk => hsub k o hk, hst.os, hst.out⟩
inductive IP where
  | one (t : IT)
  | agg (ts : List IT)
def ipOf (P : Program) (t : TypeId) : Option IP :=
  match itOf P P.depth t with
  | some its => match isAgg P t with
    | true => some (.agg its)
    | false => match its with
      | [x] => some (.one x)
      | _ => none
  | none => none
def ipsOf (P : Program) : List TypeId → Option (List IP)
  | [] => some []
  | t :: ts => match ipOf P t with
    | some l => match ipsOf P ts with
      | some ls => some (l :: ls)
      | none => none
    | none => none
def IP.den (ro : PH) (B : Nat) : IP → Value → Prop
  | .one t, v => t.den ro B v
  | .agg ts, v => ∃ vs : List Value, v = .agg vs.toArray ∧ IT.dens ro B ts vs
def IPDens (ro : PH) (B : Nat) : List IP → List Value → Prop
  | [], vs => vs = []
  | l :: ls, vs => ∃ v r, vs = v :: r ∧ l.den ro B v ∧ IPDens ro B ls r
theorem it_i {ro : PH} {B : Nat} {k : IntKind} {v : Value} : IT.den ro B (.i k) v ↔ ∃ n, v = .int k n ∧ k.min ≤ n ∧ n ≤ k.max := by simp only [IT.den]
theorem it_s {ro : PH} {B : Nat} {v : Value} : IT.den ro B .s v ↔ ∃ s : ByteArray, v = .string s ∧ s.size ≤ B := by simp only [IT.den]
section
variable {H : Type} {enc : TypeId × Value → H} {P : Program} {w : World} {base : Nat} {spare : Nat → Bool} {held : Bool} {Q : DataW H → Prop} {B : Nat}
theorem ip_den (hQ : BulkQ Q B) {r : Reach} {b0 : Nat} {t : TypeId} {ip : IP} {v : Value} {d : DataW H} {ps : List MemPlace} (h : ipOf P t = some ip) (ht : DataW.Trod enc P w base spare held t v d ps) (hv : Value.okWide P w r b0 t v) (hq : Q d) :
    ip.den (wholeH w) B v := by
  obtain ⟨fuel, ht⟩ := ht
  unfold ipOf at h
  split at h
  · rename_i its hi
    have hd := it_den hQ P.depth hi ht hq
    split at h
    · rename_i hagg
      simp only [Option.some.injEq] at h; subst h
      have hv' : ∃ cs, v = .agg cs := by
        unfold isAgg at hagg
        unfold Value.okWide at hv
        split at hagg
        · rename_i hu; simp only [hu] at hv; obtain ⟨cs, h, _⟩ := hv; exact ⟨cs, h⟩
        · rename_i hu; simp only [hu] at hv; obtain ⟨cs, h, _⟩ := hv; exact ⟨cs, h⟩
        · cases hagg
      obtain ⟨cs, rfl⟩ := hv'
      exact ⟨cs.toList, by simp, hd⟩
    · rename_i hagg
      split at h
      · rename_i x
        simp only [Option.some.injEq] at h; subst h
        simp only [IT.dens] at hd
        obtain ⟨u, r, h1, h2, rfl⟩ := hd
        have hone : v.cells.toList = [v] := by
          cases v with
          | agg cs =>
            exfalso
            unfold isAgg at hagg
            unfold Value.okWide at hv
            split at hv
            · rename_i hu; simp [hu] at hagg
            · rename_i hu; simp [hu] at hagg
            · unfold Cell.okWide at hv
              split at hv <;> simp_all [Cell.ok]
          | _ => rfl
        rw [hone] at h1
        simp only [List.cons.injEq, and_true] at h1
        subst h1
        exact h2
      · cases h
  · cases h
theorem ips_of (hQ : BulkQ Q B) {r : Reach} {b0 : Nat} : ∀ {ts : List TypeId} {ips : List IP} {vs : List Value} {ds : List (DataW H)} {ps : List MemPlace}, ipsOf P ts = some ips → DataW.TrodAll enc P w base spare held ts vs ds ps →
    (∀ (i : Nat) t v, ts[i]? = some t → vs[i]? = some v → Value.okWide P w r b0 t v) → (∀ d ∈ ds, Q d) → IPDens (wholeH w) B ips vs
  | [], ips, [], [], _, h, _, _, _ => by
    simp only [ipsOf, Option.some.injEq] at h
    subst h; rfl
  | t :: ts, ips, v :: vs, d :: ds, _, h, ⟨p, q, h1, h2, _⟩, hv, hq => by
    unfold ipsOf at h
    split at h
    · rename_i l hl
      split at h
      · rename_i ls hls
        simp only [Option.some.injEq] at h; subst h
        exact ⟨v, vs, rfl, ip_den hQ hl h1 (hv 0 t v rfl rfl) (hq d (List.mem_cons_self ..)), ips_of hQ hls h2 (fun i u x g1 g2 => hv (i + 1) u x (by simpa using g1) (by simpa using g2)) fun y hy => hq y (List.mem_cons_of_mem _ hy)⟩
      · cases h
    · cases h
theorem bulk_true : BulkQ (H := H) (fun _ => True) maxLen := ⟨fun _ _ _ h => ⟨h, fun _ _ => trivial⟩, fun _ _ _ _ => trivial, fun _ _ h => h⟩
end
theorem dl_nil {e : Env} : DenL e [] [] := by simp [DenL]
theorem dl_cons {e : Env} {x : SV} {v : Value} {xs : List SV} {vs : List Value} (h : Den e x v) (h' : DenL e xs vs) : DenL e (x :: xs) (v :: vs) := by
  simp only [DenL]; exact ⟨v, vs, rfl, h, h'⟩
theorem den_v {e : Env} {v : Value} : Den e (.v v) v := by simp [Den]
theorem den_a {e : Env} {xs : List SV} {vs : List Value} (h : DenL e xs vs) : Den e (.a xs) (.agg vs.toArray) := by
  simp only [Den]; exact ⟨vs, h, rfl⟩
end Go.Sym
namespace Go.Sym
open Go
variable {τ : Type} {I : Inv τ} {P : Program} {D : List Deferred}
abbrev markD (n : Nat) : Deferred := { target := .collected n, args := #[] }
def TakesM (P : Program) : List Nat → World → (World → Prop) → Prop
  | [], w, R => R w
  | n :: ns, w, R => ∃ w', (Instr.takeDeferred n).run P w = .ok [] w' ∧ TakesM P ns w' R
theorem takes_ok {R : World → Prop} {e : Env} {Fr : PH} {H : List (SB τ)} (hR : ∀ w, Models I e H Fr w → R w) (hro : ∀ (k : Nat) (o : Obj), I.ro k = some o → Fr k = some o) :
    ∀ {ns : List Nat} {Fr' : PH} {w : World}, Models I e H Fr' w → FrLe Fr Fr' → ns.Nodup → (∀ n ∈ ns, Fr n = none ∧ Fr' n = some (.deferred (some []))) → TakesM P ns w R
  | [], Fr', w, hM, hF, _, _ => hR w (hM.lessF hF hro)
  | n :: ns, Fr', w, hM, hF, hd, hn => by
    obtain ⟨h1, h2⟩ := hn n List.mem_cons_self
    obtain ⟨d1, d2⟩ := List.nodup_cons.1 hd
    have g2 : w.heap[n]? = some (.deferred (some [])) := by
      obtain ⟨_, hs, _, _, _, _, _, h6⟩ := hM
      exact h6 n _ h2
    have hron : I.ro n = none := by
      cases hq : I.ro n with
      | none => rfl
      | some o => rw [hro n o hq] at h1; cases h1
    have hM' := hM.takeF (o' := .deferred none) h2 hron
    refine ⟨_, ?_, takes_ok hR hro hM' (fun k o hk => ?_) d2 fun m hm => ⟨(hn m (List.mem_cons_of_mem _ hm)).1, ?_⟩⟩
    · simp only [Instr.takeDeferred, Sem.run_bind, run_getObj (P := P) g2 (by intro c t f hc; cases hc), Result.andThen_ok, run_setObj (P := P) g2 (by intro c t f hc; cases hc), Sem.run_pure]
    · unfold remF
      rw [if_neg (fun e => by subst e; rw [h1] at hk; cases hk)]
      exact hF k o hk
    · unfold remF
      rw [if_neg (fun e => by subst e; exact d1 hm)]
      exact (hn m (List.mem_cons_of_mem _ hm)).2
theorem leavesM_marks {F : Fence} {n : Nat} {fn : Func} {tmps : Array Value} {R : Ending → World → Prop} {ds : List Deferred} : ∀ {ns : List Nat} {w : World}, TakesM P ns w (fun w' => LeavesInM F n P fn tmps R ds .returning w') →
    LeavesInM F n P fn tmps R (ns.map markD ++ ds) .returning w
  | [], w, h => h
  | m :: ns, w, ⟨w', h1, h2⟩ => ⟨(by intro hc; cases hc), .inl ⟨m, w', rfl, h1, leavesM_marks h2⟩⟩
theorem marks_steps {F : Fence} {n : Nat} {Q : World → Prop} : ∀ {ns : List Nat} {w : World} {fr : Frame} {cs : List Frame}, fr.mode = .returning → fr.defers = ns.map markD → F.fn fr.fn → F.room (cs.length + 1 + n) → TakesM P ns w Q →
    ∃ fr' w', StepsIn (Machine.fenced P F) P (lone fr cs w) (lone fr' cs w') ∧ fr'.kind = fr.kind ∧ fr'.fn = fr.fn ∧ fr'.mode = .returning ∧ fr'.defers = [] ∧ fr'.tmps = fr.tmps ∧ Q w'
  | [], w, fr, cs, hm, hd, _, _, h => ⟨fr, w, StepsIn.refl _, rfl, rfl, hm, hd, rfl, h⟩
  | m :: ns, w, fr, cs, hm, hd, hF, hr, ⟨w1, h1, h2⟩ => by
    have hrun : fr.mode ≠ .run := by rw [hm]; intro hc; cases hc
    have hd' : fr.defers = markD m :: ns.map markD := hd
    have hs := step_collected (P := P) (cs := cs) hrun hd' rfl h1
    have hi : (lone fr cs w).fenced P F := fenced_out hF hr hrun hd' (fun g hg => by simp [markD, Target.leads] at hg)
    obtain ⟨fr', w', q1, q2, q3, q4, q5, q6, q7⟩ := marks_steps (ns := ns) (w := w1) (fr := { fr with defers := [] ++ ns.map markD }) (cs := cs) hm rfl hF hr h2
    exact ⟨fr', w', StepsIn.trans (.one hi hs) q1, q2, q3, q4, q5, q6, q7⟩
theorem callsD_marks {F : Fence} {n : Nat} {f : FuncId} {fn : Func} {c : Code} {args : Array Value} {u : FrameMode} {w : World} {R : Ending → World → Prop} (hf : P.funcs[f]? = some fn) (hb : fn.body = some c) (hF : F.fn f)
    (h : c.wpIn F n P (fun ex a w => match ex with
      | .normal => ∃ ns : List Nat, a.defers = ns.map markD ∧ TakesM P ns w (fun w => ∃ v, (results fn a.tmps).run P w = .ok v w ∧ R (.returned v) w)
      | .ret => ∃ ns : List Nat, a.defers = ns.map markD ∧ TakesM P ns w (fun w => ∃ v, (results fn a.tmps).run P w = .ok v w ∧ R (.returned v) w)
      | _ => False) { tmps := args ++ Array.replicate (fn.ntmps - args.size) undef, defers := [] } w) (hro : F.round = none := by rfl) :
    CallsDIn F n P f args u w fun e u' w' => u' = u ∧ R e w' := by
  refine ⟨hF, fun c₀ cs hu hr => ?_⟩
  let b : Frame := { (default : Frame) with fn := f, kind := .deferred, roundOf := none }
  have henter : Frame.enter P f args .deferred =
      b.atR { tmps := args ++ Array.replicate (fn.ntmps - args.size) undef, defers := [] } [.code c] := by
    simp [Frame.enter, Frame.atR, hf, hb, b]
  have hc : ({ c₀ with mode := u } : Frame) = c₀ := by subst hu; rfl
  obtain ⟨e, a', w', hq, harr⟩ := h b [] (c₀ :: cs) hro.symm hF hr
  rw [← henter] at harr
  cases e with
  | normal =>
    obtain ⟨ns, hd, ht⟩ := hq
    obtain ⟨fr', w2, q1, q2, q3, q4, q5, q6, v, q7, q8⟩ := marks_steps (F := F) (n := n) (fr := { b.atR a' [] with mode := .returning }) (cs := c₀ :: cs) rfl hd hF hr ht
    exact ⟨.returned v, u, w2, fr', ⟨rfl, q8⟩, (by rw [hc]; exact StepsIn.trans (StepsIn.trans harr (.one (fenced_calm (fr := b.atR a' []) hF hr rfl) (stepR_end rfl))) q1), q2, q3, q4, q5, fn, by rw [q3]; exact hf, by rw [q6]; exact q7⟩
  | ret =>
    obtain ⟨ns, hd, ht⟩ := hq
    obtain ⟨todo, hs⟩ := harr.1 rfl
    obtain ⟨fr', w2, q1, q2, q3, q4, q5, q6, v, q7, q8⟩ := marks_steps (F := F) (n := n) (fr := { b.atR a' todo with mode := .returning }) (cs := c₀ :: cs) rfl hd hF hr ht
    exact ⟨.returned v, u, w2, fr', ⟨rfl, q8⟩, (by rw [hc]; exact StepsIn.trans hs q1), q2, q3, q4, q5, fn, by rw [q3]; exact hf, by rw [q6]; exact q7⟩
  | _ => exact hq.elim
theorem leaveK_ok {fn : Func} {K : SV → List (SB τ) → Prop} {st : St τ} {e : Env} {Fr : PH} {w : World} {tmps : Array Value} (hk : leaveK P fn st K) (hdf : st.df = []) (ht : DenL e st.tm tmps.toList) (hM : Models I e st.H Fr w) :
    ∃ v x, (results fn tmps).run P w = .ok v w ∧ Den e x v ∧ K x st.H := by
  unfold leaveK at hk
  rw [hdf] at hk
  simp only [takeDf] at hk
  split at hk
  · rename_i l hl
    obtain ⟨v, hv, hdv⟩ := results_ok hM ht hl
    exact ⟨v, _, hv, hdv, hk⟩
  · exact hk.elim
theorem body_okD {rec : Rec τ} (hrec : RecOk I P rec) {g : FuncId} {fn : Func} {args : List SV} {H : List (SB τ)} {K : SV → List (SB τ) → Prop} {e : Env} {Fr : PH} {w : World} {vs : List Value} {u : FrameMode}
    (hf : P.funcs[g]? = some fn) (h : bodyK P rec fn args H K) (hd : DenL e args vs) (hM : Models I e H Fr w) : CallsDIn (FF none) 0 P g vs.toArray u w fun en u' w' => u' = u ∧ Ends I e Fr K en w' := by
  unfold bodyK at h
  split at h
  · rename_i c hc
    refine callsD_marks hf hc trivial ?_
    have hok : StOk I e Fr [] { tm := args ++ List.replicate (fn.ntmps - args.length) (.v undef), H := H, df := [], base := H.length, rnd := false }
        { tmps := vs.toArray ++ Array.replicate (fn.ntmps - vs.toArray.size) undef, defers := [] } w := by
      refine ⟨hM, ?_, rfl, rfl⟩
      have hl := hd.length
      have := hd.append (DenL.replicate (e := e) (.v undef) undef (by simp [Den]) (fn.ntmps - args.length))
      rw [hl] at this
      simpa [hl] using this
    refine wpIn_mono (hrec _ _ _ e Fr [] _ w none rfl h hok) fun ex a' w' hp => ?_
    obtain ⟨e', st', Fr', D', hle, hb, hr, ⟨⟨hF, ns, hD, hnd, hns⟩, _⟩, hok', hK⟩ := hp
    have hLe : Le e e' := fun i r hi => by
      by_cases hlt : i < H.length
      · exact hle i hlt r hi
      · obtain ⟨_, hs, _, h2, _⟩ := hM
        rw [(h2 i (by omega)).1] at hi
        cases hi
    have key : leaveK P fn st' K → ∃ ns : List Nat, a'.defers = ns.map markD ∧ TakesM P ns w' (fun w => ∃ v, (results fn a'.tmps).run P w = .ok v w ∧ Ends I e Fr K (.returned v) w) := fun hk => by
      refine ⟨ns, by rw [hok'.df.2, hD, List.append_nil], takes_ok (fun w1 hM1 => ?_) hM.1.ro hok'.models hF hnd hns⟩
      obtain ⟨v, x, hv, hdv, hx⟩ := leaveK_ok hk hok'.df.1 hok'.tm hM1
      exact ⟨v, hv, x, st'.H, e', v, rfl, hLe, hM1, hdv, hx⟩
    cases ex with
    | normal => exact key hK
    | ret => exact key hK
    | _ => exact hK.elim
  · exact h.elim
def spine : Code → List Code
  | .seq a b => spine a ++ spine b
  | c => [c]
def wpL (F : Fence) (n : Nat) (P : Program) : List Code → (Exit → Act → World → Prop) → Act → World → Prop
  | [], Q, a, w => Q .normal a w
  | c :: r, Q, a, w => c.wpIn F n P (Exit.then (fun a w => wpL F n P r Q a w) Q) a w
theorem then_ne {next : Act → World → Prop} {Q : Exit → Act → World → Prop} {ex : Exit} {a : Act} {w : World} (h : ex ≠ .normal) : Exit.then next Q ex a w = Q ex a w := by
  cases ex <;> first | rfl | exact absurd rfl h
theorem wpL_append {F : Fence} {n : Nat} {Q : Exit → Act → World → Prop} {r : List Code} : ∀ {l : List Code} {a : Act} {w : World}, wpL F n P (l ++ r) Q a w → wpL F n P l (Exit.then (fun a w => wpL F n P r Q a w) Q) a w
  | [], _, _, h => h
  | c :: l, a, w, h => wpIn_mono h fun ex a w hq => by
    by_cases hx : ex = .normal
    · subst hx; exact wpL_append (l := l) hq
    · rw [then_ne hx] at hq ⊢; rw [then_ne hx]; exact hq
theorem wp_spine {F : Fence} {n : Nat} : ∀ {c : Code} {Q : Exit → Act → World → Prop} {a : Act} {w : World}, wpL F n P (spine c) Q a w → c.wpIn F n P Q a w
  | .seq x y, Q, a, w, h => wpIn_seq (wpIn_mono (wp_spine (c := x) (wpL_append h)) fun ex a w hq => by
    by_cases hx : ex = .normal
    · subst hx; exact wp_spine (c := y) hq
    · rw [then_ne hx] at hq ⊢; exact hq)
  | .skip, Q, a, w, h => wpIn_mono h fun ex a w hq => by cases ex <;> exact hq
  | .cond _ _ _, Q, a, w, h => wpIn_mono h fun ex a w hq => by cases ex <;> exact hq
  | .block _ _, Q, a, w, h => wpIn_mono h fun ex a w hq => by cases ex <;> exact hq
  | .loop _, Q, a, w, h => wpIn_mono h fun ex a w hq => by cases ex <;> exact hq
  | .exit _, Q, a, w, h => wpIn_mono h fun ex a w hq => by cases ex <;> exact hq
  | .ret, Q, a, w, h => wpIn_mono h fun ex a w hq => by cases ex <;> exact hq
  | .region _ _ _, Q, a, w, h => wpIn_mono h fun ex a w hq => by cases ex <;> exact hq
  | .rangeFunc _ _ _ _, Q, a, w, h => wpIn_mono h fun ex a w hq => by cases ex <;> exact hq
  | .scope _, Q, a, w, h => wpIn_mono h fun ex a w hq => by cases ex <;> exact hq
  | .label _, Q, a, w, h => wpIn_mono h fun ex a w hq => by cases ex <;> exact hq
  | .goto _, Q, a, w, h => wpIn_mono h fun ex a w hq => by cases ex <;> exact hq
  | .refuse _, Q, a, w, h => wpIn_mono h fun ex a w hq => by cases ex <;> exact hq
theorem upon_mono {F : Fence} {n : Nat} {o : Oper} {a : Act} {next next' : Act → World → Prop} {Q Q' : Exit → Act → World → Prop} (hn : ∀ a w, next a w → next' a w) (hQ : ∀ ex a w, ex ≠ .normal → Q ex a w → Q' ex a w) {r : Result Next}
    (h : o.uponIn F n P a next Q r) : o.uponIn F n P a next' Q' r := by
  have hout : LetsOut Q → LetsOut Q' := fun ⟨a, w, h⟩ => ⟨a, w, hQ _ _ _ (by intro hc; cases hc) h⟩
  unfold Oper.uponIn at h ⊢
  split at h
  · exact hn _ _ h
  · exact hn _ _ h
  · exact hn _ _ h
  · refine ⟨h.1, h.2.mono fun en w' hq => ?_⟩
    cases en with
    | returned v => exact hn _ _ hq
    | panicked c => exact hQ _ _ _ (by intro hc; cases hc) hq
    | outgrown => exact hout hq
  · exact ⟨h.1, h.2.mono fun v w' hq => hn _ _ hq⟩
  · refine ⟨h.1, h.2.mono fun en w' hq => ?_⟩
    cases en with
    | returned v => exact hn _ _ hq
    | panicked c => exact hQ _ _ _ (by intro hc; cases hc) hq
    | outgrown => exact hout hq
  · exact hQ _ _ _ (by intro hc; cases hc) h
  · exact h.elim
theorem wpListIn_snoc {F : Fence} {n : Nat} {ops : Array Oper} {Q : Exit → Act → World → Prop} {r : List Oper} : ∀ {l : List Oper} {a : Act} {w : World}, wpListIn F n P ops (Exit.then (wpListIn F n P ops Q r) Q) l a w → wpListIn F n P ops Q (l ++ r) a w
  | [], _, _, h => h
  | o :: l, a, w, h => by
    simp only [List.cons_append, wpListIn] at h ⊢
    split at h
    · rename_i hw
      rw [if_pos hw]
      exact ⟨h.1, upon_mono (fun a w hq => wpListIn_snoc (l := l) hq) (fun ex a w hx hq => by rw [then_ne hx] at hq; exact hq) h.2⟩
    · rename_i hw
      rw [if_neg hw]
      exact ⟨h.1, wpListIn_snoc (l := l) h.2⟩
def deferOf (c : Code) : Option (Array Oper × List Oper × Operand × Array Operand) :=
  match c with
  | .region _ ops draw => match draw with
    | true => none
    | false => match ops.toList.reverse with
      | [] => none
      | o :: r => match o.guard with
        | some _ => none
        | none => match o.dst with
          | some _ => none
          | none => match o.op with
            | .defer cl => match cl.callee with
              | .value f => some (ops, r.reverse, f, cl.args)
              | _ => none
            | _ => none
  | _ => none
theorem deferOf_ok {c : Code} {ops : Array Oper} {l : List Oper} {f : Operand} {args : Array Operand} (h : deferOf c = some (ops, l, f, args)) :
    ∃ id o cl, c = .region id ops false ∧ ops.toList = l ++ [o] ∧ o.guard = none ∧ o.dst = none ∧ o.op = .defer cl ∧ cl.callee = .value f ∧ cl.args = args := by
  unfold deferOf at h
  split at h
  · rename_i id ops' draw
    split at h
    · cases h
    · split at h
      · cases h
      · rename_i o r hr
        split at h
        · cases h
        · rename_i hg
          split at h
          · cases h
          · rename_i hd
            split at h
            · rename_i cl hop
              split at h
              · rename_i f' hf
                simp only [Option.some.injEq, Prod.mk.injEq] at h
                obtain ⟨rfl, rfl, rfl, rfl⟩ := h
                refine ⟨id, o, cl, rfl, ?_, hg, hd, hop, hf, rfl⟩
                have := congrArg List.reverse hr
                simpa using this
              · cases h
            · cases h
  · cases h
def lvK (P : Program) (rec : Rec τ) (fn : Func) (K : SV → List (SB τ) → Prop) (d : Option (FuncId × List SV)) (st : St τ) : Prop :=
  match d with
  | none => leaveK P fn st K
  | some (g, as) => match P.funcs[g]? with
    | some fg => match fg.name == "runtime.NumGoroutine", fg.body.isNone with
      | false, false => bodyK P rec fg as st.H (fun _ H' => leaveK P fn { st with H := H' } K)
      | _, _ => False
    | none => False
def dK (cfg : Cfg τ) (rec : Rec τ) (L : Option (FuncId × List SV) → St τ → Prop) : List Code → Option (FuncId × List SV) → St τ → Prop
  | [], d, st => L d st
  | c :: r, d, st => match deferOf c with
    | some (ops, l, f, args) => match d with
      | some _ => False
      | none => opsK cfg rec ops l st (fun s => match calleeS (ev s.tm f) with
        | some (g, fi, ca) => rq (scL s.base (fi ++ args.toList.map (ev s.tm) ++ ca)) (dK cfg rec L r (some (g, fi ++ args.toList.map (ev s.tm) ++ ca)) s)
        | none => False)
    | none => rec c st (fun ex s => match ex with
      | .normal => dK cfg rec L r d s
      | .ret => L d s
      | _ => False)
def bodyDK (cfg : Cfg τ) (rec : Rec τ) (fn : Func) (args : List SV) (H : List (SB τ)) (K : SV → List (SB τ) → Prop) : Prop :=
  match fn.body with
  | some c => dK cfg rec (lvK cfg.P rec fn K) (spine c) none { tm := args ++ List.replicate (fn.ntmps - args.length) (.v undef), H := H, df := [], base := H.length, rnd := false }
  | none => False
structure DfOk (P : Program) (e : Env) (base : Nat) (g : FuncId) (as : List SV) (d : Deferred) : Prop where
  h : ∃ (fs cs : Array Value), d.target = .fn (.func g) cs ∧ d.args = fs ∧ scL base as = true ∧ DenL e as (fs ++ cs).toList
def Dl (P : Program) (e : Env) (base : Nat) : Option (FuncId × List SV) → List Deferred → PH → PH → Prop
  | none, D, Fr, Fr1 => D = [] ∧ Fr1 = Fr
  | some (g, as), D, Fr, Fr1 => ∃ d D1, D = d :: D1 ∧ DfOk P e base g as d ∧ Grow Fr [] Fr1 D1
theorem lv_ok {rec : Rec τ} (hrec : RecOk I P rec) {fn : Func} {K : SV → List (SB τ) → Prop} {d : Option (FuncId × List SV)} {st : St τ} {e0 e1 e : Env} {Fr Fr1 Fr2 : PH} {D1 D2 : List Deferred} {a : Act} {w : World}
    (h : lvK P rec fn K d st) (hM0 : ∃ H0 w0, Models I e0 H0 Fr w0 ∧ H0.length = st.base) (h01 : Dl P e1 st.base d D1 Fr Fr1) (hl0 : LeB st.base e0 e1) (hl1 : LeB st.base e1 e) (hG : Grow Fr1 D1 Fr2 D2) (hok : StOk I e Fr2 D2 st a w) :
    LeavesInM (FF none) 0 P fn a.tmps (Ends I e0 Fr K) a.defers .returning w := by
  obtain ⟨H0, w0, hM0, hlen0⟩ := hM0
  have hLe : ∀ e', LeB st.base e e' → Le e0 e' := fun e' hl i r hi => by
    by_cases hlt : i < st.base
    · exact (hl0.trans (hl1.trans hl)) i hlt r hi
    · obtain ⟨_, hs, _, h2, _⟩ := hM0
      rw [(h2 i (by omega)).1] at hi
      cases hi
  obtain ⟨hF2, ns2, hD2, hnd2, hns2⟩ := hG
  have hro := hM0.1.ro
  have fin : ∀ {st' : St τ} {e' : Env} {ns : List Nat} {Fr' : PH} {w' : World}, leaveK P fn st' K → st'.df = [] → DenL e' st'.tm a.tmps.toList → LeB st.base e e' → Models I e' st'.H Fr' w' → FrLe Fr Fr' → ns.Nodup → (∀ n ∈ ns, Fr n = none ∧ Fr' n = some (.deferred (some []))) →
      LeavesInM (FF none) 0 P fn a.tmps (Ends I e0 Fr K) (ns.map markD ++ []) .returning w' := fun {st' e' ns Fr' w'} hk hdf ht hl hM hF hnd hns => by
    refine leavesM_marks (takes_ok (Fr := Fr) (e := e') (H := st'.H) (fun w1 hM1 => ?_) hro hM hF hnd hns)
    obtain ⟨v, x, hv, hdv, hx⟩ := leaveK_ok hk hdf ht hM1
    exact ⟨v, hv, x, st'.H, e', v, rfl, hLe e' hl, hM1, hdv, hx⟩
  rw [hok.df.2, hD2]
  cases d with
  | none =>
    obtain ⟨rfl, rfl⟩ := h01
    exact fin h hok.df.1 hok.tm (LeB.refl _ e) hok.models hF2 hnd2 hns2
  | some ga =>
    obtain ⟨g, as⟩ := ga
    obtain ⟨d, D0, rfl, ⟨fs, cs, ht1, ht2, hsc, hden⟩, hF1, ns1, hD1, hnd1, hns1⟩ := h01
    rw [List.append_nil] at hD1
    subst hD1
    unfold lvK at h
    simp only at h
    split at h
    · rename_i fg hfg
      split at h
      · rename_i hn hb
        have hro1 : ∀ (k : Nat) (o : Obj), I.ro k = some o → Fr1 k = some o := fun k o hk => hF1 k o (hro k o hk)
        refine leavesM_marks (takes_ok (Fr := Fr1) (e := e) (H := st.H) (fun w1 hM1 => ?_) hro1 hok.models hF2 hnd2 hns2)
        have hden' : DenL e as (fs ++ cs).toList := (denL_cut _ _ hsc hden).mono fun i r hi => by
          unfold cut at hi
          split at hi
          · rename_i hlt; exact hl1 i hlt r hi
          · cases hi
        have hcall := body_okD (u := .returning) hrec hfg h hden' hM1
        rw [Array.toArray_toList] at hcall
        refine ⟨(by intro hc; cases hc), .inr ⟨(fun hc => by cases hc), .func g, cs, g, fs ++ cs, ht1, ?_, fun _ _ => trivial, hcall.mono fun en u' w2 hq => ?_⟩⟩
        · rw [ht1, ht2]
          simp only [invoke, callFunc, Sem.run_bind, run_program, Result.andThen_ok, hfg, hn, hb, Bool.false_eq_true, if_false, Sem.run_pure]
        · obtain ⟨rfl, x, H', e2, v, rfl, hle2, hM2, _, hk⟩ := hq
          have := fin (st' := { st with H := H' }) hk hok.df.1 (hok.tm.mono hle2) (LeB.of_le hle2) hM2 hF1 hnd1 hns1
          rw [List.append_nil] at this
          exact this
      · exact h.elim
    · exact h.elim
theorem d_ok {cfg : Cfg τ} {rec : Rec τ} (hrec : RecOk I cfg.P rec) (hcon : ConsOk I cfg) {fn : Func} {K : SV → List (SB τ) → Prop} {e0 : Env} {Fr : PH} {H0 : List (SB τ)} {w0 : World} (hM0 : Models I e0 H0 Fr w0) :
    ∀ (l : List Code) (d : Option (FuncId × List SV)) (st : St τ) (e1 e : Env) (Fr1 Fr2 : PH) (D1 D2 : List Deferred) (a : Act) (w : World), st.rnd = false → st.base = H0.length → dK cfg rec (lvK cfg.P rec fn K) l d st →
      Dl cfg.P e1 st.base d D1 Fr Fr1 → LeB st.base e0 e1 → LeB st.base e1 e → Grow Fr1 D1 Fr2 D2 → StOk I e Fr2 D2 st a w → wpL (FF none) 0 cfg.P l (bodyPostM (FF none) 0 cfg.P fn (Ends I e0 Fr K)) a w
  | [], d, st, e1, e, Fr1, Fr2, D1, D2, a, w, hrn, hb, h, h1, h2, h3, h4, h5 => lv_ok hrec h ⟨H0, w0, hM0, hb.symm⟩ h1 h2 h3 h4 h5
  | c :: r, d, st, e1, e, Fr1, Fr2, D1, D2, a, w, hrn, hb, h, h1, h2, h3, h4, h5 => by
    unfold dK at h
    split at h
    · rename_i ops l f args hdf
      obtain ⟨id, o, cl, rfl, hops, hg, hdst, hop, hcal, rfl⟩ := deferOf_ok hdf
      cases d with
      | some _ => exact h.elim
      | none =>
        obtain ⟨rfl, rfl⟩ := h1
        simp only [wpL]
        refine wpIn_region_list ?_
        rw [hops]
        refine wpListIn_snoc ?_
        refine ops_ok hrec hcon (Q := Exit.then (wpListIn (FF none) 0 cfg.P ops (Exit.then (fun a w => wpL (FF none) 0 cfg.P r (bodyPostM (FF none) 0 cfg.P fn (Ends I e0 Fr1 K)) a w) (bodyPostM (FF none) 0 cfg.P fn (Ends I e0 Fr1 K))) [o]) _) l st e a w h h5 ?_
        intro e' s a' w' g1 g2 g3 g4 g5
        split at g5
        · rename_i g fi ca hcs
          obtain ⟨hsc, hk⟩ := rq_elim g5
          obtain ⟨fs, cs, hfv, hfi, hca⟩ := callee_ok hcs (ev_ok g4.tm f)
          have hargs := evs_ok g4.tm cl.args.toList
          have hall := (hfi.append hargs).append hca
          have hsem : (o.semAt none a'.eval).run cfg.P w' = .ok (.defer { target := .fn (.func g) cs, args := fs ++ cl.args.map a'.eval }) w' := by
            obtain ⟨callee, cargs, ats⟩ := cl
            simp only at hcal
            subst hcal
            simp [Oper.semAt, execOp, hop, resolve, hfv, Deferred.ofValue]
          show wpListIn _ _ _ _ _ [o] a' w'
          simp only [wpListIn, Region.wanted, hg, if_true]
          refine ⟨fun _ _ => trivial, ?_⟩
          show o.uponIn _ _ _ a' _ _ ((o.semAt none a'.eval).run cfg.P w')
          rw [hsem, Oper.uponIn_defer, hdst]
          simp only [Act.put]
          have hbs : s.base = st.base := g2
          refine d_ok hrec hcon hM0 r _ s e' e' Fr2 Fr2 ({ target := .fn (.func g) cs, args := fs ++ cl.args.map a'.eval } :: D2) ({ target := .fn (.func g) cs, args := fs ++ cl.args.map a'.eval } :: D2) _ w' (g3.trans hrn) (g2.trans hb) hk ?_ ?_ (LeB.refl _ _) (Grow.refl _ _) ⟨g4.models, g4.tm, g4.df.1, by rw [g4.df.2]⟩
          · refine ⟨_, _, rfl, ⟨fs ++ cl.args.map a'.eval, cs, rfl, rfl, hsc, ?_⟩, h4⟩
            have e3 : (fs ++ cl.args.map a'.eval ++ cs).toList = fs.toList ++ cl.args.toList.map a'.eval ++ cs.toList := by simp
            rw [e3]; exact hall
          · rw [hbs]; exact h2.trans (h3.trans g1)
        · exact g5.elim
    · simp only [wpL]
      refine wpIn_mono (hrec c st _ e Fr2 D2 a w none hrn h h5) fun ex a1 w1 hp => ?_
      obtain ⟨e2, s1, Fr3, D3, g1, g2, g3, gG, g4, g5⟩ := hp
      have hG := h4.trans gG.1
      have hl : LeB s1.base e1 e2 := by rw [g2]; exact h3.trans g1
      cases ex with
      | normal => exact d_ok hrec hcon hM0 r d s1 e1 e2 Fr1 Fr3 D1 D3 a1 w1 (g3.trans hrn) (g2.trans hb) g5 (g2 ▸ h1) (g2 ▸ h2) hl hG g4
      | ret => exact lv_ok hrec g5 ⟨H0, w0, hM0, (g2.trans hb).symm⟩ (g2 ▸ h1) (g2 ▸ h2) hl hG g4
      | _ => exact g5.elim
theorem bodyD_ok {cfg : Cfg τ} {rec : Rec τ} (hrec : RecOk I cfg.P rec) (hcon : ConsOk I cfg) {g : FuncId} {fn : Func} {args : List SV} {H : List (SB τ)} {K : SV → List (SB τ) → Prop} {e : Env} {Fr : PH} {w : World} {vs : List Value}
    (hf : cfg.P.funcs[g]? = some fn) (h : bodyDK cfg rec fn args H K) (hd : DenL e args vs) (hM : Models I e H Fr w) : Calls cfg.P g vs.toArray w (Ends I e Fr K) := by
  unfold bodyDK at h
  split at h
  · rename_i c hc
    refine calls_of_FF (r := none) (n := 0) (callsIn_of_wp_marks hf hc trivial (wp_spine ?_))
    have hok : StOk I e Fr [] { tm := args ++ List.replicate (fn.ntmps - args.length) (.v undef), H := H, df := [], base := H.length, rnd := false }
        { tmps := vs.toArray ++ Array.replicate (fn.ntmps - vs.toArray.size) undef, defers := [] } w := by
      refine ⟨hM, ?_, rfl, rfl⟩
      have hl := hd.length
      have := hd.append (DenL.replicate (e := e) (.v undef) undef (by simp [Den]) (fn.ntmps - args.length))
      rw [hl] at this
      simpa [hl] using this
    exact d_ok hrec hcon hM (spine c) none _ e e Fr Fr [] [] _ w rfl rfl h ⟨rfl, rfl⟩ (LeB.refl _ e) (LeB.refl _ e) (Grow.refl Fr []) hok
  · exact h.elim
theorem lc_mkD {g : FuncId} {fn : Func} {α β : Type} {s : ShL α} {t : ShH β} {alt : α × β → Alt Unit} (F : St Unit → List Fx) (cfg : α × β → Cfg Unit) (hcfg : ∀ a (I : Inv Unit), CfgOk I (cfg a)) (hP : ∀ a, (cfg a).P = P) {n : Nat} (hf : P.funcs[g]? = some fn)
    (h : ∀ a, (alt a).pre → Ask (bodyDK (cfg a) (run (cfg a) n) fn (s.enc a.1) (t.enc a.2) (fun y H' => altFinF F (alt a) (t.enc a.2).length y H'))) : ∀ I : Inv Unit, LCOk I P g (mkLC (decP s t) alt) :=
  lc_of_callsF (F := F) decP_ok fun a I e Fr w vs hpre hd hM => by
    have hP' := hP a
    subst hP'
    exact bodyD_ok (run_ok (hcfg a I) n) (hcfg a I).con hf (h a hpre).h hd hM
end Go.Sym
