/- Scopes with labels: a jump goes on behind its label; what holds there is an annotation of the code behind it. -/
import Derived.Test.YtienakdnmhmglaaVS
import Derived.Scope
set_option linter.unusedSimpArgs false
set_option linter.unusedVariables false
set_option linter.unusedSectionVars false
namespace Go.Sym
open Go
variable {τ : Type} {I : Inv τ} {D : List Deferred}

def gotoK (cfg : Cfg τ) (rec : Rec τ) (c : Code) (K : Exit → St τ → Prop) : Nat → Nat → St τ → Prop
  | 0, _, _ => False
  | d + 1, l, st => match findLabel c l with
    | none => K (.goto l) st
    | some rest => match cfg.ann (firstReg rest) with
      | none => rec rest st (fun ex s => match ex with
        | .goto l' => gotoK cfg rec c K d l' s
        | e => K e s)
      | some A => fxK A st fun st => match A.get st with
        | some x0 => A.φ st x0 ∧ weakP st (A.f st x0) ∧ ∀ x, A.φ st x → rec rest (A.f st x) (fun ex s => match ex with
          | .goto l' => match Nat.beq l' l with
            | true => fxK A s fun s => match A.get s with
              | some y => A.φ st y ∧ weakP s (A.f st y) ∧ A.μ st y < A.μ st x
              | none => False
            | false => gotoK cfg rec c K d l' s
          | e => K e s)
        | none => False

section
variable {F : Fence} {P : Program} {b : Frame} {a : Act} {k : List Item} {cs : List Frame} {w : World}
theorem stepR_scope' {c : Code} : step P (lone (b.atR a (.code (.scope c) :: k)) cs w) = .next (lone (b.atR a (.code c :: .inScope c :: k)) cs w) :=
  step_lone_go (by simp [stepG, stepG.exec, Frame.atR])
theorem stepR_inScope' {c : Code} : step P (lone (b.atR a (.inScope c :: k)) cs w) = .next (lone (b.atR a k) cs w) :=
  step_lone_go (by simp [stepG, stepG.exec, Frame.atR])
/-- Code x, run within a scope of code c. -/
def scW (F : Fence) (n : Nat) (P : Program) (c x : Code) (Q : Exit → Act → World → Prop) (a : Act) (w : World) : Prop :=
  ∀ (b : Frame) (k : List Item) (cs : List Frame), b.roundOf = F.round → F.fn b.fn → F.room (cs.length + 1 + n) →
    ∃ e a' w', Q e a' w' ∧ ArrivesIn (Machine.fenced P F) P (lone (b.atR a (.code x :: .inScope c :: k)) cs w) b k cs e a' w'
variable {n : Nat} {Q : Exit → Act → World → Prop}
theorem wpIn_scope {c : Code} (h : scW F n P c c Q a w) : (Code.scope c).wpIn F n P Q a w := fun b k cs hro hb hr => by
  obtain ⟨e, a1, w1, hq, harr⟩ := h b k cs hro hb hr
  exact ⟨e, a1, w1, hq, .of_steps (.one (fenced_calm hb hr rfl) stepR_scope') harr⟩
theorem scW_of {c x : Code} (h : x.wpIn F n P (fun ex a w => match ex with
    | .goto l => match findLabel c l with
      | some rest => scW F n P c rest Q a w
      | none => Q (.goto l) a w
    | e => Q e a w) a w) : scW F n P c x Q a w := by
  intro b k cs hro hb hr
  obtain ⟨e, a₁, w₁, hq, harr⟩ := h b (.inScope c :: k) cs hro hb hr
  cases e with
  | normal => exact ⟨.normal, a₁, w₁, hq, StepsIn.trans harr (.one (fenced_calm hb hr rfl) stepR_inScope')⟩
  | exit id =>
    have hx : exitTo id (.inScope c :: k) = exitTo id k := by simp [exitTo]
    exact ⟨_, a₁, w₁, hq, fun k' hk => harr.1 k' (by rw [hx]; exact hk), fun hr' hk => harr.2 hr' (by rw [hx]; exact hk)⟩
  | goto l =>
    simp only at hq
    split at hq
    · rename_i rest hf
      have hg : gotoIn l (.inScope c :: k) = some (.code rest :: .inScope c :: k) := by simp [gotoIn, hf]
      obtain ⟨e₂, a₂, w₂, hq₂, harr₂⟩ := hq b k cs hro hb hr
      exact ⟨e₂, a₂, w₂, hq₂, .of_steps (harr.1 _ hg) harr₂⟩
    · rename_i hf
      have hx : gotoIn l (.inScope c :: k) = gotoIn l k := by simp [gotoIn, hf]
      exact ⟨_, a₁, w₁, hq, fun k' hk => harr.1 k' (by rw [hx]; exact hk), fun hr' hk => harr.2 hr' (by rw [hx]; exact hk)⟩
  | ret => exact ⟨_, a₁, w₁, hq, harr⟩
  | panic ch => exact ⟨_, a₁, w₁, hq, harr⟩
  | outgrown => exact ⟨_, a₁, w₁, hq, harr⟩
theorem scW_mono {c x : Code} {Q' : Exit → Act → World → Prop} (h : scW F n P c x Q a w) (hq : ∀ e a w, Q e a w → Q' e a w) : scW F n P c x Q' a w := fun b k cs hro hb hr => by
  obtain ⟨e, a1, w1, h1, h2⟩ := h b k cs hro hb hr
  exact ⟨e, a1, w1, hq _ _ _ h1, h2⟩
end

theorem gotoK_ok {cfg : Cfg τ} {rec : Rec τ} (hrec : RecOk I cfg.P rec) {c : Code} {K : Exit → St τ → Prop} {r : Option Nat} : ∀ (d l : Nat) (st : St τ) (e : Env) (Fr : PH) (D : List Deferred) (a : Act) (w : World), st.rnd = r.isSome →
    gotoK cfg rec c K d l st → StOk I e Fr D st a w → match findLabel c l with
      | some rest => scW (FF r) 0 cfg.P c rest (Post I e Fr D st K) a w
      | none => Post I e Fr D st K (.goto l) a w
  | 0, _, _, _, _, _, _, _, _, h, _ => h.elim
  | d + 1, l, st, e, Fr, D, a, w, hr, h, hok => by
    unfold gotoK at h
    split at h
    · rename_i hf
      rw [hf]
      exact Post.here (LeB.refl _ _) rfl rfl hok h
    · rename_i rest hf
      rw [hf]
      split at h
      · refine scW_of (wpIn_mono (hrec rest st _ e Fr D a w r hr h hok) fun ex a1 w1 hp => ?_)
        obtain ⟨e1, s1, Fr1, D1, g1, g2, g3, gG, g4, g5⟩ := hp
        cases ex with
        | goto l' =>
          simp only at g5 ⊢
          have := gotoK_ok hrec d l' s1 e1 Fr1 D1 a1 w1 (g3.trans hr) g5 g4
          split at this
          · rename_i rest' hf'
            try rw [hf']
            exact scW_mono this fun ex a w hq => Post.trans g1 g2 g3 gG hq
          · rename_i hf'
            try rw [hf']
            exact Post.trans g1 g2 g3 gG this
        | _ => exact ⟨e1, s1, Fr1, D1, g1, g2, g3, gG, g4, g5⟩
      · rename_i A hA
        obtain ⟨ef, stf, lf, okf, bf, rf, h⟩ := fxK_ok hok h
        split at h
        · rename_i x0 hx0
          obtain ⟨h0, hw0', hround⟩ := h
          have hw0 := weakP_ok hw0'
          obtain ⟨e0, l0, ok0⟩ := weak_ok okf hw0
          have hlb : LeB st.base e e0 := LeB.trans lf (bf ▸ l0)
          have key : ∀ m x e' Fr' D' a w, A.μ stf x = m → A.φ stf x → LeB st.base e e' → (A.f stf x).base = st.base → (A.f stf x).rnd = st.rnd → (Grow Fr D Fr' D' ∧ (st.rnd = true → Fr' = Fr)) → StOk I e' Fr' D' (A.f stf x) a w → scW (FF r) 0 cfg.P c rest (Post I e Fr D st K) a w := by
            intro m
            induction m using Nat.strongRecOn with
            | _ m ih =>
              intro x e' Fr' D' a w hm hx hl hb hrn hG hok'
              refine scW_of (wpIn_mono (hrec rest (A.f stf x) _ e' Fr' D' a w r (hrn.trans hr) (hround x hx) hok') fun ex a1 w1 hp => ?_)
              obtain ⟨e1, s1, Fr1, D1, g1, g2, g3, gG, g4, g5⟩ := hp
              have hT : Grow Fr D Fr1 D1 ∧ (st.rnd = true → Fr1 = Fr) := ⟨hG.1.trans gG.1, fun q => (gG.2 (hrn.trans q)).trans (hG.2 q)⟩
              cases ex with
              | goto l' =>
                simp only at g5 ⊢
                split at g5
                · rename_i hll
                  rw [Nat.beq_eq] at hll
                  subst hll
                  try rw [hf]
                  obtain ⟨e3, s2, l3, ok3, b3, r3, g5⟩ := fxK_ok g4 g5
                  split at g5
                  · rename_i y hy0
                    obtain ⟨hy, hwk', hlt⟩ := g5
                    have hwk := weakP_ok hwk'
                    obtain ⟨e2, k1, k2⟩ := weak_ok ok3 hwk
                    refine ih (A.μ stf y) (hm ▸ hlt) y e2 Fr1 D1 a1 w1 rfl hy (hl.trans ?_) ?_ ?_ hT k2
                    · rw [← hb]
                      refine g1.trans (LeB.trans (g2 ▸ l3) ?_)
                      rw [← g2, ← b3]; exact k1
                    · rw [← hwk.base, b3, g2, hb]
                    · rw [← hwk.rnd, r3, g3, hrn]
                  · exact g5.elim
                · have := gotoK_ok hrec d l' s1 e1 Fr1 D1 a1 w1 (g3.trans (hrn.trans hr)) g5 g4
                  split at this
                  · rename_i rest' hf'
                    try rw [hf']
                    exact scW_mono this fun ex a w hq => Post.trans (hl.trans (hb ▸ g1)) (g2.trans hb) (g3.trans hrn) hT hq
                  · rename_i hf'
                    try rw [hf']
                    exact Post.trans (hl.trans (hb ▸ g1)) (g2.trans hb) (g3.trans hrn) hT this
              | _ => exact ⟨e1, s1, Fr1, D1, hl.trans (hb ▸ g1), g2.trans hb, g3.trans hrn, hT, g4, g5⟩
          exact key _ x0 e0 Fr D a w rfl h0 hlb (hw0.base.symm.trans bf) (hw0.rnd.symm.trans rf) ⟨Grow.refl Fr D, fun _ => rfl⟩ ok0
        · exact h.elim

theorem scope_ok {cfg : Cfg τ} {rec : Rec τ} (hrec : RecOk I cfg.P rec) {c : Code} {K : Exit → St τ → Prop} {Fr : PH} {r : Option Nat} {d : Nat} {st : St τ} {e : Env} {a : Act} {w : World} (hr : st.rnd = r.isSome)
    (h : rec c st (fun ex s => match ex with
      | .goto l => gotoK cfg rec c K d l s
      | e => K e s)) (hok : StOk I e Fr D st a w) : (Code.scope c).wpIn (FF r) 0 cfg.P (Post I e Fr D st K) a w := by
  refine wpIn_scope (scW_of (wpIn_mono (hrec c st _ e Fr D a w r hr h hok) fun ex a1 w1 hp => ?_))
  obtain ⟨e1, s1, Fr1, D1, g1, g2, g3, gG, g4, g5⟩ := hp
  cases ex with
  | goto l' =>
    simp only at g5 ⊢
    have := gotoK_ok hrec d l' s1 e1 Fr1 D1 a1 w1 (g3.trans hr) g5 g4
    split at this
    · rename_i rest' hf'
      try rw [hf']
      exact scW_mono this fun ex a w hq => Post.trans g1 g2 g3 gG hq
    · rename_i hf'
      try rw [hf']
      exact Post.trans g1 g2 g3 gG this
  | _ => exact ⟨e1, s1, Fr1, D1, g1, g2, g3, gG, g4, g5⟩

end Go.Sym
