/- Layer 7: what is turned twice, and in any order, as plain laws; loops through all places of a grid. -/
import Derived.Test.YtdhhagangmkloaaGdA
set_option linter.unusedSimpArgs false
set_option linter.unusedVariables false
set_option linter.unusedSectionVars false
namespace Go.Sym
open Go
/-- The item that a pointer is to. -/
def ptB (x : SV) : Nat := match x with
  | .p b _ => b
  | _ => 0
end Go.Sym
namespace Go.Proofs.Ytdhhagangmkloaa
open Go Go.Sym

/-! ### Where all ways meet -/
/-- A bool is made, of which something is known. -/
def annJb (t : Nat) (keep : List Nat) (φ : St Unit → Bool → Prop) : Ann Unit where
  α := Bool
  φ := φ
  μ _ _ := 0
  get st := getB st.tm t
  f st b := tmpl keep [(t, .v (.bool b))] [] st
/-- A bool is made, which is known. -/
def annJk (t : Nat) (keep : List Nat) (b : Bool) : Ann Unit where
  α := Nat
  φ _ _ := True
  μ _ _ := 0
  get _ := some 0
  f st _ := tmpl keep [(t, .v (.bool b))] [] st
def gones (l : List Nat) : List (Nat × SB Unit) := l.map fun i => (i, .gone)
/-! ### Loops through all places, in a law -/
def annAo (R : Nat) (b : Nat) (ks : List Nat) (hv : St Unit → Nat → Nat → List (Nat × SB Unit)) : Ann Unit where
  α := Int
  φ _ r := 0 ≤ r ∧ r ≤ R
  μ _ r := ((R : Int) - r).toNat
  get st := getI st.tm 10
  f st r := tmpl [0, 1, 3, 9] [(10, .v (.int .i64 r))] ((b, loopTm st.H b ks []) :: hv st r.toNat 0) st
def annAi (C : Nat) (b : Nat) (ks : List Nat) (hv : St Unit → Nat → Nat → List (Nat × SB Unit)) : Ann Unit where
  α := Int
  φ _ k := 0 ≤ k ∧ k ≤ C
  μ _ k := ((C : Int) - k).toNat
  get st := getI st.tm 15
  f st k := tmpl [0, 1, 3, 4, 9, 10, 14] [(15, .v (.int .i64 k))] ((b, loopTm st.H b ks []) :: hv st (tI st.tm 4).toNat k.toNat) st

/-! ### How many are other ones -/
theorem neC_comm (x y : C4) : neC x y = neC y x := by
  rw [Bool.eq_iff_iff, neC_iff, neC_iff]; exact ⟨fun h e => h e.symm, fun h e => h e.symm⟩
def diP (l m : List (List C4)) (r c : Nat) : Bool := neC (fn l r c) (fn m r c)
def diN (l m : List (List C4)) (i k : Nat) : Int := (cntP (nC l) (diP l m) (i * nC l + k) : Nat)
section
variable {l m : List (List C4)} {i k : Nat}
theorem diN_zero : diN l m 0 0 = 0 := by unfold diN; rw [Nat.zero_mul]; rfl
theorem diN_step (hk : k < nC l) : diN l m i (k + 1) = diN l m i k + if diP l m i k = true then 1 else 0 := by
  unfold diN
  rw [← Nat.add_assoc, cntP_step _ hk]
  split <;> simp
theorem diN_next : diN l m i (nC l) = diN l m (i + 1) 0 := by
  unfold diN
  rw [Nat.add_mul, Nat.one_mul, Nat.add_zero]
theorem diN_bd (hg : GW l) (hi : i ≤ l.length) (hk : k ≤ nC l) : 0 ≤ diN l m i k ∧ diN l m i k ≤ 65536 := by
  have h1 := cntP_le (nC l) (diP l m) (i * nC l + k)
  have h2 : i * nC l ≤ 255 * 255 := Nat.mul_le_mul (Nat.le_trans hi hg.r1) hg.c1
  have h3 := hg.c1
  unfold diN
  omega
theorem cntP_none {R C : Nat} {P : Nat → Nat → Bool} (h : ∀ r c, r < R → c < C → P r c = false) : cntP C P (R * C) = 0 := by
  rw [cntP_congr (Q := fun _ _ => false) h]
  unfold cntP
  rw [List.countP_eq_zero]; simp
theorem diN_self : diN l l l.length 0 = 0 := by
  unfold diN
  rw [Nat.add_zero, cntP_none fun r c _ _ => (show diP l l r c = false from neC_no.2 rfl)]; rfl
end
/-! ### One contract, by another one -/
section
variable {τ : Type} {I : Sym.Inv τ} {P : Program}
theorem lc_mono {g : FuncId} {lc lc' : ACon τ} (h : ∀ args H, (lc' args H).pre → (lc args H).pre ∧ ∀ x H' ws, (lc args H).has x H' ws → (lc' args H).has x H' ws) (hok : LCOk I P g lc) : LCOk I P g lc' := by
  intro args H e Fr w vs hpre hd hM
  obtain ⟨h1, h2⟩ := h args H hpre
  refine (hok args H e Fr w vs h1 hd hM).mono fun en w' hh => ?_
  obtain ⟨x, Hx, ws, e', v, g1, g2⟩ := hh
  exact ⟨x, Hx, ws, e', v, h2 _ _ _ g1, g2⟩
end
/-- What is at a place that is there. -/
def lcAtIn : ACon Unit := mkLC (decP (shCons (shP 0) (shOne shI2)) shG) fun ((_, (r, c)), (oe, ⟨l, oe2, ep⟩)) => .ask (oe = oe2 ∧ GW l ∧ inB l r c = true) (.one (.t [cv (at2 l r c), .v (.int .i64 0)]) (gbi 0 oe ep l) [])
theorem ok_atIn : ∀ I : Sym.Inv Unit, LCOk I Try.prog 39 lcAtIn := fun I => lc_mono (fun args H hp => by
  unfold lcAtIn mkLC at hp ⊢
  unfold lcAt1 mkLC
  split at hp
  · rename_i a ha
    obtain ⟨⟨_, r, c⟩, oe, l, oe2, ep⟩ := a
    refine ⟨⟨⟨hp.1.1, hp.1.2.1⟩, ⟨fun _ => trivial, fun _ => trivial⟩⟩, fun x H' ws hh => ?_⟩
    rcases hh with ⟨_, h⟩ | ⟨h1, _⟩
    · exact h
    · rw [hp.1.2.2] at h1; cases h1
  · exact hp.elim) (ok_at1 I)
def fewB (n : Nat) (C : Int) : Bool := decide (1 ≤ n ∧ n ≤ 8 ∧ 1 ≤ C ∧ C ≤ 12)
theorem diN_congr {l m l' m' : List (List C4)} (h1 : l'.length = l.length) (h2 : nC l' = nC l) (h : ∀ r c, r < l.length → c < nC l → diP l' m' r c = diP l m r c) : diN l' m' l'.length 0 = diN l m l.length 0 := by
  unfold diN
  rw [h1, h2, Nat.add_zero, cntP_congr h]
end Go.Proofs.Ytdhhagangmkloaa
