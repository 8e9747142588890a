/- Layer 12: a terminal's bytes, one after the other: plain facts, and the contract of Feed. -/
import Derived.Test.YtcbjgpkbfmmdpaaDoorHbG
set_option linter.unusedSimpArgs false
set_option linter.unusedVariables false
set_option linter.unusedSectionVars false
namespace Go.Proofs.YtcbjgpkbfmmdpaaDoor
open Go Go.Sym

/-- One byte. -/
def byT (m : Nat) (fr : Int) (s : Tm) (b : Int) : Tm :=
  if s.pl.length = 0 ∧ b > 126 then s
  else if b = 27 then { s with pl := [27], pe := s.pe + 1 }
  else if 0 < s.pl.length then sqT m fr s b
  else if 32 ≤ b then puT s b
  else ctT s b
def feedT (m : Nat) (fr : Int) (s : Tm) (bs : List Int) : Tm := bs.foldl (byT m fr) s
/-- A state that is sound, of the same size as another. -/
structure TP (fr : Int) (m : Nat) (s s' : Tm) : Prop where
  ti : TI fr m s'
  le : s'.l.length = s.l.length
  nc : nC s'.l = nC s.l
theorem TP.refl {fr : Int} {m : Nat} {s : Tm} (h : TI fr m s) : TP fr m s s := ⟨h, rfl, rfl⟩
theorem TP.trans {fr : Int} {m : Nat} {s s' s'' : Tm} (h : TP fr m s s') (h' : TP fr m s' s'') : TP fr m s s'' := ⟨h'.ti, h'.le.trans h.le, h'.nc.trans h.nc⟩
section
variable {fr : Int} {m : Nat} {s : Tm}
theorem tp_cur (h : TI fr m s) {r c : Int} (h0 : 0 ≤ r) (h1 : r < s.l.length) (h2 : 0 ≤ c) (h3 : c < nC s.l) : TP fr m s { s with r := r, c := c } :=
  ⟨⟨h.gw, h0, h1, h2, h3, h.q, h.pl, h.pb⟩, rfl, rfl⟩
theorem tp_rows (h : TI fr m s) {l : List (List C4)} (hg : GW l ∧ l.length = s.l.length ∧ nC l = nC s.l) (ep : Nat) : TP fr m s { s with l := l, ep := ep } :=
  ⟨⟨hg.1, h.r0, by simpa only [hg.2.1] using h.r1, h.c0, by simpa only [hg.2.2] using h.c1, h.q, h.pl, h.pb⟩, hg.2.1, hg.2.2⟩
theorem tp_nil (h : TI fr m s) (pe : Nat) : TP fr m s { s with pl := [], pe := pe } :=
  ⟨⟨h.gw, h.r0, h.r1, h.c0, h.c1, h.q, by simp, fun x hx => by simp at hx⟩, rfl, rfl⟩
theorem rows0 (h : TI fr m s) : (1 : Int) ≤ s.l.length := by have := h.gw.r0; omega
theorem cols0 (h : TI fr m s) : (1 : Int) ≤ nC s.l := by have := h.gw.c0; omega
theorem tp_mo (h : TI fr m s) (x y : Int) : TP fr m s (moT s x y) := by
  have h1 := near_bd (x := x) (rows0 h)
  have h2 := near_bd (x := y) (cols0 h)
  exact tp_cur h h1.1 h1.2 h2.1 h2.2
theorem tp_st (h : TI fr m s) (x y : Int) : TP fr m s (stT s x y) := tp_mo h _ _
theorem tp_fd (h : TI fr m s) : TP fr m s (fdT s) := by
  have h1 := near_bd (x := s.r + 1) (rows0 h)
  have hg : GW (if s.r = (s.l.length : Int) - 1 then upF s.l 1 blankC else s.l) ∧ (if s.r = (s.l.length : Int) - 1 then upF s.l 1 blankC else s.l).length = s.l.length ∧ nC (if s.r = (s.l.length : Int) - 1 then upF s.l 1 blankC else s.l) = nC s.l := by
    split
    · exact upF_gw h.gw _ _
    · exact ⟨h.gw, rfl, rfl⟩
  exact (tp_cur h h1.1 h1.2 h.c0 h.c1).trans (tp_rows (tp_cur h h1.1 h1.2 h.c0 h.c1).ti hg (s.ep + 1))
theorem wi_gw {l : List (List C4)} (h : GW l) (a b c d : Int) (x : C4) (g : Bool) : GW (wiL l a b c d x g) ∧ (wiL l a b c d x g).length = l.length ∧ nC (wiL l a b c d x g) = nC l := by
  unfold wiL
  split
  · exact ⟨turnL_gw h, turnL_length, turnL_nC h⟩
  · exact ⟨h, rfl, rfl⟩
theorem tp_wp (h : TI fr m s) (a b c d : Int) : TP fr m s (wpT s a b c d) := tp_rows h (wi_gw h.gw _ _ _ _ _ _) s.ep
theorem tp_ta (h : TI fr m s) : TP fr m s (taT s) := by
  have h2 := near_bd (x := if s.c - s.c % 8 + 8 > (nC s.l : Int) - 1 then s.c + 1 else s.c - s.c % 8 + 8) (cols0 h)
  exact tp_cur h h.r0 h.r1 h2.1 h2.2
theorem tp_ix (h : TI fr m s) : TP fr m s (ixT s) := by
  have h1 := near_bd (x := s.r - 1) (rows0 h)
  have hg : GW (if s.r = 0 then upF s.l (-1) blankC else s.l) ∧ (if s.r = 0 then upF s.l (-1) blankC else s.l).length = s.l.length ∧ nC (if s.r = 0 then upF s.l (-1) blankC else s.l) = nC s.l := by
    split
    · exact upF_gw h.gw _ _
    · exact ⟨h.gw, rfl, rfl⟩
  exact (tp_cur h h1.1 h1.2 h.c0 h.c1).trans (tp_rows (tp_cur h h1.1 h1.2 h.c0 h.c1).ti hg (if s.r = 0 then s.ep + 1 else s.ep))
theorem tp_pl (h : TI fr m s) (x y : Int) : TP fr m s (plT s x y) := by
  have g1 := rows0 h
  have g2 := cols0 h
  have h0 := h.r0
  have h1 := h.r1
  have h2 := h.c0
  have h3 := h.c1
  refine tp_cur h ?_ ?_ ?_ ?_
  · split <;> omega
  · split <;> omega
  · split <;> (try split) <;> omega
  · split <;> (try split) <;> omega
theorem tp_pu (h : TI fr m s) (b : Int) : TP fr m s (puT s b) := by
  have h3 := h.c1
  have h2 := h.c0
  have hg : GW (set2 s.l s.r s.c ⟨glT s.G b, 0, false, 0⟩) ∧ (set2 s.l s.r s.c ⟨glT s.G b, 0, false, 0⟩).length = s.l.length ∧ nC (set2 s.l s.r s.c ⟨glT s.G b, 0, false, 0⟩) = nC s.l := by
    rw [set2_eq h.gw h.r0 h.r1 h.c0 h.c1]
    have := h.gw.r0
    exact ⟨gridF_gw h.gw.r0 h.gw.r1 h.gw.c0 h.gw.c1, gridF_length _ _ _, gridF_nC (by omega)⟩
  have hc : TP fr m s { s with r := s.r, c := if s.c + 1 < nC s.l then s.c + 1 else s.c } := tp_cur h h.r0 h.r1 (by split <;> omega) (by split <;> omega)
  exact hc.trans (tp_rows hc.ti hg s.ep)
theorem tp_z (h : TI fr m s) : TP fr m s (zT m fr s) := by
  unfold zT
  split
  · exact ⟨⟨h.gw, h.r0, h.r1, h.c0, h.c1, h.q, h.pl, h.pb⟩, rfl, rfl⟩
  · have hq := QWf.put [27, 47, 75] h.q (by simp only [List.length_cons, List.length_nil]; omega) (fun x hx => by simp at hx; omega)
    exact ⟨⟨h.gw, h.r0, h.r1, h.c0, h.c1, hq.1, h.pl, h.pb⟩, rfl, rfl⟩
theorem tp_md (h : TI fr m s) (G K Ho : Bool) : TP fr m s { s with G := G, K := K, Ho := Ho } :=
  ⟨⟨h.gw, h.r0, h.r1, h.c0, h.c1, h.q, h.pl, h.pb⟩, rfl, rfl⟩
theorem tp_ite {p : Prop} [Decidable p] {a b : Tm} (ha : TP fr m s a) (hb : TP fr m s b) : TP fr m s (if p then a else b) := by
  split
  · exact ha
  · exact hb
theorem tp_two (h : TI fr m s) (b : Int) : TP fr m s (twoT m fr s b) := by
  unfold twoT
  repeat' (first | exact tp_z h | exact tp_wp h _ _ _ _ | refine tp_ite ?_ ?_)
  all_goals first
    | exact tp_st h _ _
    | exact tp_mo h _ _
    | exact tp_ix h
    | exact tp_wp h _ _ _ _
    | exact tp_z h
    | exact tp_md h _ _ _
    | exact TP.refl h
theorem tp_sq (h : TI fr m s) {b : Int} (hb : 0 ≤ b ∧ b ≤ 255) : TP fr m s (sqT m fr s b) := by
  unfold sqT
  split
  · rename_i hl
    refine ⟨⟨h.gw, h.r0, h.r1, h.c0, h.c1, h.q, ?_, byteR_append h.pb fun x hx => ?_⟩, rfl, rfl⟩
    · simp only [List.length_append, List.length_cons, List.length_nil]; omega
    · simp at hx; subst hx; exact hb
  · split
    · exact (tp_nil h _).trans (tp_two (tp_nil h _).ti b)
    · exact (tp_nil h _).trans (tp_pl (tp_nil h _).ti _ _)
theorem tp_ct (h : TI fr m s) (b : Int) : TP fr m s (ctT s b) := by
  unfold ctT
  repeat' (first | exact tp_z h | exact tp_wp h _ _ _ _ | refine tp_ite ?_ ?_)
  all_goals first
    | exact tp_st h _ _
    | exact tp_ta h
    | exact tp_fd h
    | exact tp_mo h _ _
    | exact TP.refl h
theorem tp_by (h : TI fr m s) {b : Int} (hb : 0 ≤ b ∧ b ≤ 255) : TP fr m s (byT m fr s b) := by
  unfold byT
  split
  · exact TP.refl h
  · split
    · exact ⟨⟨h.gw, h.r0, h.r1, h.c0, h.c1, h.q, by simp, fun x hx => by simp at hx; omega⟩, rfl, rfl⟩
    · split
      · exact tp_sq h hb
      · split
        · exact tp_pu h b
        · exact tp_ct h b
end
theorem tp_feed {fr : Int} {m : Nat} : ∀ (bs : List Int) {s : Tm}, TI fr m s → byteR bs → TP fr m s (feedT m fr s bs)
  | [], s, h, _ => TP.refl h
  | b :: bs, s, h, hb => by
    have h1 := tp_by h (hb b List.mem_cons_self)
    exact h1.trans (tp_feed bs h1.ti fun x hx => hb x (List.mem_cons_of_mem _ hx))
theorem feedT_append (m : Nat) (fr : Int) (s : Tm) (a b : List Int) : feedT m fr s (a ++ b) = feedT m fr (feedT m fr s a) b := by simp [feedT]
theorem feedT_succ (m : Nat) (fr : Int) (s : Tm) {t : ByteArray} {i : Int} (h0 : 0 ≤ i) (h : i < t.size) : feedT m fr s ((bytesL t).take (i + 1).toNat) = byT m fr (feedT m fr s ((bytesL t).take i.toNat)) (byteAt t i.toNat) := by
  rw [bytesL_take_succ h0 h, feedT_append]; rfl
theorem feedT_all (m : Nat) (fr : Int) (s : Tm) (t : ByteArray) : feedT m fr s ((bytesL t).take t.size) = feedT m fr s (bytesL t) := by
  rw [List.take_of_length_le (by rw [bytesL_length]; omega)]
end Go.Proofs.YtcbjgpkbfmmdpaaDoor
