/- Layer 7: what is turned twice, and in any order, as plain laws; loops through all places of a grid. -/
import Derived.Test.YtdhhagangmkloaaGdA
import Derived.Test.YtdhhagangmkloaaGcW
set_option linter.unusedSimpArgs false
set_option linter.unusedVariables false
set_option linter.unusedSectionVars false
namespace Go.Sym
open Go
/-- The item that a pointer is to. -/
def ptB (x : SV) : Nat := match x with
  | .p b _ => b
  | _ => 0
end Go.Sym
namespace Go.Proofs.Ytdhhagangmkloaa
open Go Go.Sym

/-! ### Where all ways meet -/
/-- A bool is made, of which something is known. -/
def annJb (t : Nat) (keep : List Nat) (φ : St Unit → Bool → Prop) : Ann Unit where
  α := Bool
  φ := φ
  μ _ _ := 0
  get st := getB st.tm t
  f st b := tmpl keep [(t, .v (.bool b))] [] st
/-- A bool is made, which is known. -/
def annJk (t : Nat) (keep : List Nat) (b : Bool) : Ann Unit where
  α := Nat
  φ _ _ := True
  μ _ _ := 0
  get _ := some 0
  f st _ := tmpl keep [(t, .v (.bool b))] [] st
def gones (l : List Nat) : List (Nat × SB Unit) := l.map fun i => (i, .gone)
/-! ### Loops through all places, in a law -/
def annAo (R : Nat) (b : Nat) (ks : List Nat) (hv : St Unit → Nat → Nat → List (Nat × SB Unit)) : Ann Unit where
  α := Int
  φ _ r := 0 ≤ r ∧ r ≤ R
  μ _ r := ((R : Int) - r).toNat
  get st := getI st.tm 10
  f st r := tmpl [0, 1, 3, 9] [(10, .v (.int .i64 r))] ((b, loopTm st.H b ks []) :: hv st r.toNat 0) st
def annAi (C : Nat) (b : Nat) (ks : List Nat) (hv : St Unit → Nat → Nat → List (Nat × SB Unit)) : Ann Unit where
  α := Int
  φ _ k := 0 ≤ k ∧ k ≤ C
  μ _ k := ((C : Int) - k).toNat
  get st := getI st.tm 15
  f st k := tmpl [0, 1, 3, 4, 9, 10, 14] [(15, .v (.int .i64 k))] ((b, loopTm st.H b ks []) :: hv st (tI st.tm 4).toNat k.toNat) st

/-! ### How many are other ones -/
theorem neC_comm (x y : C4) : neC x y = neC y x := by
  rw [Bool.eq_iff_iff, neC_iff, neC_iff]; exact ⟨fun h e => h e.symm, fun h e => h e.symm⟩
def diP (l m : List (List C4)) (r c : Nat) : Bool := neC (fn l r c) (fn m r c)
def diN (l m : List (List C4)) (i k : Nat) : Int := (cntP (nC l) (diP l m) (i * nC l + k) : Nat)
section
variable {l m : List (List C4)} {i k : Nat}
theorem diN_zero : diN l m 0 0 = 0 := by unfold diN; rw [Nat.zero_mul]; rfl
theorem diN_step (hk : k < nC l) : diN l m i (k + 1) = diN l m i k + if diP l m i k = true then 1 else 0 := by
  unfold diN
  rw [← Nat.add_assoc, cntP_step _ hk]
  split <;> simp
theorem diN_next : diN l m i (nC l) = diN l m (i + 1) 0 := by
  unfold diN
  rw [Nat.add_mul, Nat.one_mul, Nat.add_zero]
theorem diN_bd (hg : GW l) (hi : i ≤ l.length) (hk : k ≤ nC l) : 0 ≤ diN l m i k ∧ diN l m i k ≤ 65536 := by
  have h1 := cntP_le (nC l) (diP l m) (i * nC l + k)
  have h2 : i * nC l ≤ 255 * 255 := Nat.mul_le_mul (Nat.le_trans hi hg.r1) hg.c1
  have h3 := hg.c1
  unfold diN
  omega
theorem cntP_none {R C : Nat} {P : Nat → Nat → Bool} (h : ∀ r c, r < R → c < C → P r c = false) : cntP C P (R * C) = 0 := by
  rw [cntP_congr (Q := fun _ _ => false) h]
  unfold cntP
  rw [List.countP_eq_zero]; simp
theorem diN_self : diN l l l.length 0 = 0 := by
  unfold diN
  rw [Nat.add_zero, cntP_none fun r c _ _ => (show diP l l r c = false from neC_no.2 rfl)]; rfl
end
section
variable {l : List (List C4)} {fr fc tr tc : Int} {h : C4 → C4}
theorem diN_turn (hg : GW l) : diN l (turnL l fr fc tr tc h) l.length 0 = tuN l fr fc tr tc h l.length 0 := by
  unfold diN tuN
  rw [Nat.add_zero, cntP_congr (Q := tuP l fr fc tr tc h) fun r c hr hc => ?_]
  unfold diP tuP
  rw [neC_comm]
  congr 1
  exact turnL_at hr hc
theorem tuOk_turn (hg : GW l) (fr fc tr tc a b c d : Int) (h : C4 → C4) : tuOk (turnL l fr fc tr tc h) a b c d = tuOk l a b c d := by
  unfold tuOk inB
  rw [turnL_length, turnL_nC hg]
theorem tuE_turn (hg : GW l) (fr fc tr tc a b c d : Int) (h : C4 → C4) : tuE (turnL l fr fc tr tc h) a b c d = tuE l a b c d := by
  unfold tuE inB
  rw [turnL_length, turnL_nC hg]
/-- What is done twice is done once. -/
theorem hOp_twice (ask : Int) (c : C4) (q : Bool) (x : C4) : hOp ask c q (hOp ask c q x) = hOp ask c q x := by
  by_cases h0 : ask = 0
  · subst h0
    rw [hOp_0]
    unfold hWipe
    cases hq : q && x.gd
    · simp
    · simp [hq]
  · by_cases h1 : ask = 1
    · subst h1
      rw [hOp_1]
      unfold hDye
      cases hq : q && x.gd <;> simp [hq]
    · rw [hOp_2 h0 h1]; rfl
theorem tuN_twice (hg : GW l) (hh : ∀ x, h (h x) = h x) : tuN (turnL l fr fc tr tc h) fr fc tr tc h l.length 0 = 0 := by
  unfold tuN
  rw [turnL_nC hg, Nat.add_zero, cntP_none fun r c hr hc => ?_]; rfl
  unfold tuP
  rw [neC_no, turnL_at hr hc]
  unfold tuX
  split
  · exact hh _
  · rfl
/-- No cell is turned that may not be. -/
theorem turn_only {ask : Int} {o : C4} {q : Bool} (hg : GW l) {r c : Nat} (hr : r < l.length) (hc : c < nC l) (hne : fn l r c ≠ fn (turnL l fr fc tr tc (hOp ask o q)) r c) :
    inRg fr fc tr tc r c = true ∧ ¬ ((ask = 0 ∨ ask = 1) ∧ q = true ∧ (fn l r c).gd = true) := by
  have e : fn (turnL l fr fc tr tc (hOp ask o q)) r c = tuX fr fc tr tc (hOp ask o q) r c (fn l r c) := turnL_at hr hc
  rw [e] at hne
  unfold tuX at hne
  split at hne
  · rename_i hi
    refine ⟨hi, fun ⟨h1, h2, h3⟩ => hne ?_⟩
    rcases h1 with rfl | rfl
    · rw [hOp_0]; simp [hWipe, h2, h3]
    · rw [hOp_1]; simp [hDye, h2, h3]
  · exact absurd rfl hne
theorem inRg_iff {r c : Int} : inRg fr fc tr tc r c = true ↔ (r > fr ∨ (r = fr ∧ c ≥ fc)) ∧ (r < tr ∨ (r = tr ∧ c ≤ tc)) := by
  unfold inRg
  rw [Bool.and_eq_true, Bool.not_eq_true', Bool.not_eq_true', ← Bool.not_eq_true, ← Bool.not_eq_true, aheadB_iff, aheadB_iff]
  omega
end

/-! ### A call that turns a part, in one -/
section
variable {τ : Type} {I : Sym.Inv τ} {P : Program}
theorem lc_mono {g : FuncId} {lc lc' : ACon τ} (h : ∀ args H, (lc' args H).pre → (lc args H).pre ∧ ∀ x H' ws, (lc args H).has x H' ws → (lc' args H).has x H' ws) (hok : LCOk I P g lc) : LCOk I P g lc' := by
  intro args H e Fr w vs hpre hd hM
  obtain ⟨h1, h2⟩ := h args H hpre
  refine (hok args H e Fr w vs h1 hd hM).mono fun en w' hh => ?_
  obtain ⟨x, Hx, ws, e', v, g1, g2⟩ := hh
  exact ⟨x, Hx, ws, e', v, h2 _ _ _ g1, g2⟩
end
def tcL (l : List (List C4)) (fr fc tr tc : Int) (h : C4 → C4) : List (List C4) := if tuOk l fr fc tr tc = true then turnL l fr fc tr tc h else l
def tcN (l : List (List C4)) (fr fc tr tc : Int) (h : C4 → C4) : Int := if tuOk l fr fc tr tc = true then tuN l fr fc tr tc h l.length 0 else 0
def tcE (l : List (List C4)) (fr fc tr tc : Int) : Int := if tuOk l fr fc tr tc = true then 0 else tuE l fr fc tr tc
def turnU (h : C4 → C4) (l : List (List C4)) (fr fc tr tc : Int) (oe ep : Nat) : Alt Unit :=
  .one (.t [.v (.int .i64 (tcN l fr fc tr tc h)), .v (.int .i64 (tcE l fr fc tr tc))]) (gbi 0 oe ep (tcL l fr fc tr tc h)) [1]
theorem turnU_of {h : C4 → C4} {l : List (List C4)} {fr fc tr tc : Int} {oe ep : Nat} {x : SV} {H : List (SB Unit)} {ws : List Nat} (hh : (turnA h l fr fc tr tc oe ep).has x H ws) : (turnU h l fr fc tr tc oe ep).has x H ws := by
  unfold turnA at hh
  unfold turnU tcL tcN tcE
  rcases hh with ⟨h1, rfl, rfl, rfl⟩ | ⟨h1, rfl, rfl, rfl⟩
  · rw [if_pos h1, if_pos h1, if_pos h1]; exact ⟨rfl, rfl, rfl⟩
  · rw [h1, if_neg (by simp), if_neg (by simp), if_neg (by simp)]; exact ⟨rfl, rfl, rfl⟩
def lcDoesU : ACon Unit := mkLC (decP (shCons (shP 0) (shOne (shA shOp7))) shG) fun ((_, (ask, ar, ac, br, bc, g, a, gd, m, q)), (oe, ⟨l, oe2, ep⟩)) => .ask (oe = oe2 ∧ GW l) (turnU (hOp ask ⟨g, a, gd, m⟩ q) l ar ac br bc oe ep)
theorem ok_doesU : ∀ I : Sym.Inv Unit, LCOk I Try.prog 24 lcDoesU := fun I => lc_mono (fun args H hp => by
  unfold lcDoesU mkLC at hp ⊢
  unfold lcDoes7 mkLC
  split at hp
  · rename_i a ha
    obtain ⟨⟨_, ask, ar, ac, br, bc, g, a, gd, m, q⟩, oe, l, oe2, ep⟩ := a
    exact ⟨⟨hp.1, by unfold turnA; exact ⟨fun _ => trivial, fun _ => trivial⟩⟩, fun x H' ws hh => turnU_of hh⟩
  · exact hp.elim) (ok_does7 I)
/-- What is at a place that is there. -/
def lcAtIn : ACon Unit := mkLC (decP (shCons (shP 0) (shOne shI2)) shG) fun ((_, (r, c)), (oe, ⟨l, oe2, ep⟩)) => .ask (oe = oe2 ∧ GW l ∧ inB l r c = true) (.one (.t [cv (at2 l r c), .v (.int .i64 0)]) (gbi 0 oe ep l) [])
theorem ok_atIn : ∀ I : Sym.Inv Unit, LCOk I Try.prog 39 lcAtIn := fun I => lc_mono (fun args H hp => by
  unfold lcAtIn mkLC at hp ⊢
  unfold lcAt1 mkLC
  split at hp
  · rename_i a ha
    obtain ⟨⟨_, r, c⟩, oe, l, oe2, ep⟩ := a
    refine ⟨⟨⟨hp.1.1, hp.1.2.1⟩, ⟨fun _ => trivial, fun _ => trivial⟩⟩, fun x H' ws hh => ?_⟩
    rcases hh with ⟨_, h⟩ | ⟨h1, _⟩
    · exact h
    · rw [hp.1.2.2] at h1; cases h1
  · exact hp.elim) (ok_at1 I)
section
variable {l : List (List C4)} {fr fc tr tc : Int} {h : C4 → C4}
theorem tcL_length : (tcL l fr fc tr tc h).length = l.length := by
  unfold tcL; split
  · exact turnL_length
  · rfl
theorem tcL_nC (hg : GW l) : nC (tcL l fr fc tr tc h) = nC l := by
  unfold tcL; split
  · exact turnL_nC hg
  · rfl
theorem tcL_gw (hg : GW l) : GW (tcL l fr fc tr tc h) := by
  unfold tcL; split
  · exact turnL_gw hg
  · exact hg
theorem tcL_at {r c : Nat} (hr : r < l.length) (hc : c < nC l) : fn (tcL l fr fc tr tc h) r c = if tuOk l fr fc tr tc = true ∧ inRg fr fc tr tc r c = true then h (fn l r c) else fn l r c := by
  unfold tcL
  by_cases hk : tuOk l fr fc tr tc = true
  · rw [if_pos hk]
    refine (turnL_at hr hc).trans ?_
    unfold tuX
    by_cases hi : inRg fr fc tr tc r c = true
    · rw [if_pos hi, if_pos ⟨hk, hi⟩]; rfl
    · rw [if_neg hi, if_neg fun e => hi e.2]; rfl
  · rw [if_neg hk, if_neg fun e => hk e.1]
theorem tcN_di (hg : GW l) : tcN l fr fc tr tc h = diN l (tcL l fr fc tr tc h) l.length 0 := by
  unfold tcN tcL
  split
  · exact (diN_turn hg).symm
  · exact diN_self.symm
theorem tuOk_dim {l m : List (List C4)} (h1 : m.length = l.length) (h2 : nC m = nC l) (a b c d : Int) : tuOk m a b c d = tuOk l a b c d := by
  unfold tuOk inB
  rw [h1, h2]
theorem tcE_dim {l m : List (List C4)} (h1 : m.length = l.length) (h2 : nC m = nC l) (a b c d : Int) : tcE m a b c d = tcE l a b c d := by
  unfold tcE tuE
  rw [tuOk_dim h1 h2]
  unfold inB
  rw [h1, h2]
theorem diN_congr {l m l' m' : List (List C4)} (h1 : l'.length = l.length) (h2 : nC l' = nC l) (h : ∀ r c, r < l.length → c < nC l → diP l' m' r c = diP l m r c) : diN l' m' l'.length 0 = diN l m l.length 0 := by
  unfold diN
  rw [h1, h2, Nat.add_zero, cntP_congr h]
theorem tcN_twice (hg : GW l) (hh : ∀ x, h (h x) = h x) : tcN (tcL l fr fc tr tc h) fr fc tr tc h = 0 := by
  rw [tcN_di (tcL_gw hg), ← diN_self (l := l)]
  refine diN_congr tcL_length (tcL_nC hg) fun r c hr hc => ?_
  have e : diP l l r c = false := neC_no.2 rfl
  rw [e]
  refine neC_no.2 ?_
  rw [tcL_at (l := tcL l fr fc tr tc h) (by rw [tcL_length]; exact hr) (by rw [tcL_nC hg]; exact hc), tcL_at hr hc, tuOk_dim tcL_length (tcL_nC hg)]
  split
  · rw [hh]
  · rfl
theorem tcL_only {ask : Int} {o : C4} {q : Bool} (hg : GW l) {r c : Nat} (hr : r < l.length) (hc : c < nC l) (hne : fn l r c ≠ fn (tcL l fr fc tr tc (hOp ask o q)) r c) :
    tcE l fr fc tr tc = 0 ∧ inRg fr fc tr tc r c = true ∧ ¬ ((ask = 0 ∨ ask = 1) ∧ q = true ∧ (fn l r c).gd = true) := by
  rw [tcL_at hr hc] at hne
  split at hne
  · rename_i hi
    refine ⟨by rw [tcE, if_pos hi.1], hi.2, fun ⟨h1, h2, h3⟩ => hne ?_⟩
    rcases h1 with rfl | rfl
    · rw [hOp_0]; simp [hWipe, h2, h3]
    · rw [hOp_1]; simp [hDye, h2, h3]
  · exact absurd rfl hne
end
def tabW : List (Nat × ACon Unit) := (39, lcAtIn) :: (40, lcCopy) :: (49, lcGSame) :: (24, lcDoesU) :: tabV
theorem tabW_ok : LCs Try.prog tabW := ⟨ok_atIn, ok_copy, ok_gsame, ok_doesU, tabV_ok⟩
def fewB (n : Nat) (C : Int) : Bool := decide (1 ≤ n ∧ n ≤ 8 ∧ 1 ≤ C ∧ C ≤ 12)
end Go.Proofs.Ytdhhagangmkloaa
