/- From a row's reading to inputs, with the form's own reach: each text and slice is at most so long. -/
import Derived.Test.YtienakdnmhmglaaVW
import Derived.SizedLaws
set_option linter.unusedSimpArgs false
set_option linter.unusedVariables false
set_option linter.unusedSectionVars false
namespace Go.Sym
open Go

/-- What is said of how much a reading of a type holds. -/
structure BulkT {H : Type} (P : Program) (Q : TypeId → DataW H → Prop) (B : Nat) : Prop where
  sl : ∀ t e el s, P.underlying t = some (.slice e) → Q t (.slice el s) → el.length ≤ maxLen → el.length ≤ B ∧ ∀ d ∈ el, Q e d
  ags : ∀ t fs ps, P.underlying t = some (.struct fs) → Q t (.agg ps) → ∀ (i : Nat) f d, fs.toList[i]? = some f → ps[i]? = some d → Q f.type d
  aga : ∀ t n e ps, P.underlying t = some (.array n e) → Q t (.agg ps) → ∀ d ∈ ps, Q e d
  st : ∀ t (bs : List UInt8), Q t (.lit (.string bs)) → bs.length ≤ maxLen → bs.length ≤ B
section
variable {H : Type} {enc : TypeId × Value → H} {P : Program} {w : World} {base : Nat} {spare : Nat → Bool} {held : Bool} {Q : TypeId → DataW H → Prop} {B : Nat}
theorem it_denT (hQ : BulkT P Q B) : ∀ (d : Nat) {t : TypeId} {its : List IT} {fuel : Nat} {cs : List Value} {x : DataW H × List MemPlace}, itOf P d t = some its → DataW.trod enc P w base spare held fuel t cs = some x → Q t x.1 →
    IT.dens (fun k => w.heap[k]?) B its cs
  | 0, t, its, fuel, cs, x, h, _, _ => by simp [itOf] at h
  | d + 1, t, its, fuel, cs, x, h, ht, hq => by
    unfold itOf at h
    split at h
    · rename_i k hu
      simp only [Option.some.injEq] at h; subst h
      obtain ⟨n, rfl, rfl, hw⟩ := DataW.trod_int hu ht
      simp only [IT.dens, IT.den]
      exact ⟨_, _, rfl, ⟨n, rfl, wf_int hw⟩, rfl⟩
    · rename_i hu
      simp only [Option.some.injEq] at h; subst h
      obtain ⟨b, rfl, rfl⟩ := DataW.trod_bool hu ht
      simp only [IT.dens, IT.den]
      exact ⟨_, _, rfl, ⟨b, rfl⟩, rfl⟩
    · rename_i hu
      simp only [Option.some.injEq] at h; subst h
      obtain ⟨s, rfl, rfl, hs⟩ := DataW.trod_string hu ht
      simp only [IT.dens, IT.den]
      have := hQ.st _ _ hq (by simpa using hs)
      exact ⟨_, _, rfl, ⟨s, rfl, by simpa using this⟩, rfl⟩
    · rename_i e hu
      split at h
      · rename_i es he
        split at h
        · rename_i hc
          rw [Bool.and_eq_true, Nat.beq_eq, Nat.blt_eq] at hc
          obtain ⟨hc, hpos⟩ := hc
          simp only [Option.some.injEq] at h; subst h
          simp only [IT.dens, IT.den]
          rcases DataW.trod_slice hu ht with ⟨rfl, rfl⟩ | ⟨a, len, cap, elems, rest, n, _, rfl, rfl, _, hl, hm, hlen, hel, _, _⟩
          · exact ⟨_, _, rfl, .inl rfl, rfl⟩
          · obtain ⟨b, o, sp⟩ := a
            obtain ⟨hB, hqe⟩ := hQ.sl _ _ _ _ hu hq (by rw [List.length_map]; omega)
            rw [List.length_map, hlen] at hB
            refine ⟨_, _, rfl, .inr ⟨b, o, sp, len, cap, rfl, hB, fun i hi => ?_⟩, rfl⟩
            have key : ∀ i, i < len → ∃ cs' : List Value, cs'.length = es.length ∧ IT.dens (fun k => w.heap[k]?) B es cs' ∧ ∀ fo, fo < es.length → ∃ c T fz v, w.heap[b]? = some (.cells c T fz) ∧ c[o + (i * es.length + fo)]? = some v ∧ cs'[fo]? = some v ∧ (i * es.length + fo = 0 → sp = none) := fun i hi => by
              have hi' : i < elems.length := by omega
              have h1 := hel i hi
              rw [List.getElem?_eq_getElem hi', Option.bind_eq_some_iff] at h1
              obtain ⟨cs', h2, h3⟩ := h1
              have h4 := it_denT hQ d he h3 (hqe _ (List.mem_map.2 ⟨_, List.getElem_mem hi', rfl⟩))
              obtain ⟨_, h5, h6⟩ := World.cells?_some h2
              refine ⟨cs', by omega, h4, fun fo hf => ?_⟩
              have h7 := h6 fo (by omega)
              rw [add_add', List.getElem?_eq_getElem (by omega), hc] at h7
              obtain ⟨c, T, fz, g1, g2, g3⟩ := cell_add h7
              exact ⟨c, T, fz, _, g1, g2, List.getElem?_eq_getElem (by omega), g3⟩
            obtain ⟨_, _, _, k0⟩ := key 0 (by omega)
            obtain ⟨_, _, _, _, _, _, _, k1⟩ := k0 0 hpos
            obtain ⟨cs', g1, g2, g3⟩ := key i hi
            obtain ⟨c, T, fz, _, g4, _⟩ := g3 0 hpos
            refine ⟨k1 (by simp), c, T, fz, g4, cs', fun fo hf => ?_, g2⟩
            obtain ⟨c', T', fz', v, g5, g6, g7, _⟩ := g3 fo hf
            rw [g4] at g5
            simp only [Option.some.injEq, Obj.cells.injEq] at g5
            obtain ⟨rfl, rfl, rfl⟩ := g5
            rw [g6, g7]
        · cases h
      · cases h
    · rename_i fs hu
      obtain ⟨xs, n, _, rfl, hcl, hxl, hf⟩ := DataW.trod_struct hu ht
      split at h
      · rename_i r hr
        split at h
        · rename_i hc
          rw [Nat.beq_eq] at hc
          simp only [Option.some.injEq] at h; subst h
          have := itFs_len (P := P) _ hr (cs := cs) (IT.dens (fun k => w.heap[k]?) B) (by simp [IT.dens]) (fun _ _ _ _ h h' => IT.dens_append h h') (by omega) fun y hy a ha _ _ => by
            obtain ⟨i, hi, rfl⟩ := List.mem_iff_getElem.1 hy
            simp only [Array.length_toList] at hi
            have h1 := hf i _ (by rw [← Array.getElem?_toList, List.getElem?_eq_getElem (by simpa using hi)])
            rw [List.getElem?_eq_getElem (by omega)] at h1
            exact it_denT hQ d ha h1 (hQ.ags _ _ _ hu hq i _ _ (List.getElem?_eq_getElem (by simpa using hi)) (by rw [List.getElem?_map, List.getElem?_eq_getElem (by omega)]; rfl))
          simpa using this
        · cases h
      · cases h
    · rename_i n e hu
      split at h
      · rename_i es he
        split at h
        · rename_i hc
          rw [Bool.and_eq_true, Nat.beq_eq, Nat.beq_eq] at hc
          simp only [Option.some.injEq] at h; subst h
          obtain ⟨xs, m, _, rfl, hcl, hxl, hf⟩ := DataW.trod_array hu ht
          refine itRep_den _ (by simp [IT.dens]) (fun _ _ _ _ h h' => IT.dens_append h h') (by omega) fun i hi => ?_
          have h1 := hf i hi
          rw [List.getElem?_eq_getElem (by omega), hc.1] at h1
          exact it_denT hQ d he h1 (hQ.aga _ _ _ _ hu hq _ (List.mem_map.2 ⟨_, List.getElem_mem (by omega), rfl⟩))
        · cases h
      · cases h
    · cases h
theorem ip_denT (hQ : BulkT P Q B) {r : Reach} {b0 : Nat} {t : TypeId} {ip : IP} {v : Value} {d : DataW H} {ps : List MemPlace} (h : ipOf P t = some ip) (ht : DataW.Trod enc P w base spare held t v d ps) (hv : Value.okWide P w r b0 t v) (hq : Q t d) :
    ip.den (wholeH w) B v := by
  obtain ⟨fuel, ht⟩ := ht
  unfold ipOf at h
  split at h
  · rename_i its hi
    have hd := it_denT hQ P.depth hi ht hq
    split at h
    · rename_i hagg
      simp only [Option.some.injEq] at h; subst h
      have hv' : ∃ cs, v = .agg cs := by
        unfold isAgg at hagg
        unfold Value.okWide at hv
        split at hagg
        · rename_i hu; simp only [hu] at hv; obtain ⟨cs, h, _⟩ := hv; exact ⟨cs, h⟩
        · rename_i hu; simp only [hu] at hv; obtain ⟨cs, h, _⟩ := hv; exact ⟨cs, h⟩
        · cases hagg
      obtain ⟨cs, rfl⟩ := hv'
      exact ⟨cs.toList, by simp, hd⟩
    · rename_i hagg
      split at h
      · rename_i x
        simp only [Option.some.injEq] at h; subst h
        simp only [IT.dens] at hd
        obtain ⟨u, r, h1, h2, rfl⟩ := hd
        have hone : v.cells.toList = [v] := by
          cases v with
          | agg cs =>
            exfalso
            unfold isAgg at hagg
            unfold Value.okWide at hv
            split at hv
            · rename_i hu; simp [hu] at hagg
            · rename_i hu; simp [hu] at hagg
            · unfold Cell.okWide at hv
              split at hv <;> simp_all [Cell.ok]
          | _ => rfl
        rw [hone] at h1
        simp only [List.cons.injEq, and_true] at h1
        subst h1
        exact h2
      · cases h
  · cases h
theorem ips_ofT (hQ : BulkT P Q B) {r : Reach} {b0 : Nat} : ∀ {ts : List TypeId} {ips : List IP} {vs : List Value} {ds : List (DataW H)} {ps : List MemPlace}, ipsOf P ts = some ips → DataW.TrodAll enc P w base spare held ts vs ds ps →
    (∀ (i : Nat) t v, ts[i]? = some t → vs[i]? = some v → Value.okWide P w r b0 t v) → (∀ (i : Nat) t d, ts[i]? = some t → ds[i]? = some d → Q t d) → IPDens (wholeH w) B ips vs
  | [], ips, [], [], _, h, _, _, _ => by
    simp only [ipsOf, Option.some.injEq] at h
    subst h; rfl
  | t :: ts, ips, v :: vs, d :: ds, _, h, ⟨p, q, h1, h2, _⟩, hv, hq => by
    unfold ipsOf at h
    split at h
    · rename_i l hl
      split at h
      · rename_i ls hls
        simp only [Option.some.injEq] at h; subst h
        exact ⟨v, vs, rfl, ip_denT hQ hl h1 (hv 0 t v rfl rfl) (hq 0 t d rfl rfl), ips_ofT hQ hls h2 (fun i u x g1 g2 => hv (i + 1) u x (by simpa using g1) (by simpa using g2)) fun i u x g1 g2 => hq (i + 1) u x (by simpa using g1) (by simpa using g2)⟩
      · cases h
    · cases h
/-! ### The reach -/
/-- Types whose parts are among them, and whose elements have bytes. -/
def closedB (P : Program) (S : List TypeId) : Bool := S.all fun t => match P.underlying t with
  | some (.slice e) => S.contains e && Nat.ble 1 (P.bytesOf e)
  | some (.struct fs) => fs.toList.all fun f => S.contains f.type
  | some (.array _ e) => S.contains e
  | _ => true
theorem weightsAll_mem {P : Program} {e : TypeId} {d : DataW H} {n : Nat} (h : n ∈ d.weights P e) : ∀ {ds : List (DataW H)}, d ∈ ds → n ∈ DataW.weightsAll P e ds
  | x :: ds, hd => by
    simp only [DataW.weightsAll, List.mem_append]
    rcases List.mem_cons.1 hd with rfl | hd
    · exact Or.inl h
    · exact Or.inr (weightsAll_mem h hd)
def QR (P : Program) (S : List TypeId) (t : TypeId) (d : DataW H) : Prop := t ∈ S ∧ ∀ n ∈ d.weights P t, n ≤ reachBytes
theorem bulk_reach {S : List TypeId} (hS : closedB P S = true) : BulkT (H := H) P (QR P S) reachBytes := by
  have key := List.all_eq_true.1 hS
  refine ⟨fun t e el s hu ⟨ht, hw⟩ _ => ?_, fun t fs ps hu ⟨ht, hw⟩ i f d hf hd => ?_, fun t n e ps hu ⟨ht, hw⟩ d hd => ?_, fun t bs ⟨ht, hw⟩ _ => ?_⟩
  · have k := key t ht
    simp only [hu, Bool.and_eq_true, Nat.ble_eq] at k
    obtain ⟨k1, k2⟩ := k
    have hm : ∀ n ∈ (el.length + s.length) * P.bytesOf e :: (DataW.weightsAll P e el ++ DataW.weightsAll P e s), n ≤ reachBytes := by simpa [DataW.weights, hu] using hw
    have h0 := hm _ List.mem_cons_self
    refine ⟨?_, fun d hd => ⟨by simpa using k1, fun n hn => hm n (List.mem_cons_of_mem _ (List.mem_append_left _ (weightsAll_mem hn hd)))⟩⟩
    have : el.length + s.length ≤ (el.length + s.length) * P.bytesOf e := Nat.le_mul_of_pos_right _ k2
    omega
  · have k := key t ht
    simp only [hu] at k
    have k1 := List.all_eq_true.1 k f (List.mem_of_getElem? hf)
    refine ⟨by simpa using k1, fun n hn => hw n ?_⟩
    simp only [DataW.weights, hu]
    exact DataW.weights_mem_each (by rw [List.getElem?_map, hf]; rfl) hd n hn
  · have k := key t ht
    simp only [hu] at k
    refine ⟨by simpa using k, fun n' hn => hw n' ?_⟩
    simp only [DataW.weights, hu]
    exact weightsAll_mem hn hd
  · exact hw _ (by simp [DataW.weights])
theorem qr_of {S ts : List TypeId} {ds : List (DataW H)} (hS : ∀ t ∈ ts, t ∈ S) (h : (DataW.weightsEach P ts ds).all (· ≤ reachBytes) = true) : ∀ (i : Nat) t d, ts[i]? = some t → ds[i]? = some d → QR P S t d := by
  intro i t d ht hd
  refine ⟨hS t (List.mem_of_getElem? ht), fun n hn => ?_⟩
  have := List.all_eq_true.1 h n (DataW.weights_mem_each ht hd n hn)
  simpa using this
theorem qr_of2 {S ts vt : List TypeId} {ds gs : List (DataW H)} (hS : ∀ t ∈ ts, t ∈ S) (h : (DataW.weightsEach P (ts ++ vt) (ds ++ gs)).all (· ≤ reachBytes) = true) : ∀ (i : Nat) t d, ts[i]? = some t → ds[i]? = some d → QR P S t d := by
  intro i t d ht hd
  refine ⟨hS t (List.mem_of_getElem? ht), fun n hn => ?_⟩
  have h1 : (ts ++ vt)[i]? = some t := by rw [List.getElem?_append_left (List.getElem?_eq_some_iff.1 ht).1]; exact ht
  have h2 : (ds ++ gs)[i]? = some d := by rw [List.getElem?_append_left (List.getElem?_eq_some_iff.1 hd).1]; exact hd
  have := List.all_eq_true.1 h n (DataW.weights_mem_each h1 h2 n hn)
  simpa using this
end
end Go.Sym
