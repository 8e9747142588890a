/- What is wanted of the texts HbH, HbI, HbZ, in one. -/
import Derived.Test.YtcbjgpkbfmmdpaaGreatDoorHpPc
set_option linter.unusedSimpArgs false
set_option linter.unusedVariables false
set_option linter.unusedSectionVars false
namespace Go.Proofs.YtcbjgpkbfmmdpaaGreatDoor
open Go Go.Sym
def byT (m : Nat) (fr : Int) (s : Tm) (b : Int) : Tm :=
  if s.pl.length = 0 ∧ b > 126 then s
  else if b = 27 then { s with pl := [27], pe := s.pe + 1 }
  else if 0 < s.pl.length then sqT m fr s b
  else if 32 ≤ b then puT s b
  else ctT s b
def feedT (m : Nat) (fr : Int) (s : Tm) (bs : List Int) : Tm := bs.foldl (byT m fr) s
structure TP (fr : Int) (m : Nat) (s s' : Tm) : Prop where
  ti : TI fr m s'
  le : s'.l.length = s.l.length
  nc : nC s'.l = nC s.l
theorem TP.refl {fr : Int} {m : Nat} {s : Tm} (h : TI fr m s) : TP fr m s s := ⟨h, rfl, rfl⟩
theorem TP.trans {fr : Int} {m : Nat} {s s' s'' : Tm} (h : TP fr m s s') (h' : TP fr m s' s'') : TP fr m s s'' := ⟨h'.ti, h'.le.trans h.le, h'.nc.trans h.nc⟩
section
variable {fr : Int} {m : Nat} {s : Tm}
theorem tp_cur (h : TI fr m s) {r c : Int} (h0 : 0 ≤ r) (h1 : r < s.l.length) (h2 : 0 ≤ c) (h3 : c < nC s.l) : TP fr m s { s with r := r, c := c } :=
  ⟨⟨h.gw, h0, h1, h2, h3, h.q, h.pl, h.pb⟩, rfl, rfl⟩
theorem tp_rows (h : TI fr m s) {l : List (List C4)} (hg : GW l ∧ l.length = s.l.length ∧ nC l = nC s.l) (ep : Nat) : TP fr m s { s with l := l, ep := ep } :=
  ⟨⟨hg.1, h.r0, by simpa only [hg.2.1] using h.r1, h.c0, by simpa only [hg.2.2] using h.c1, h.q, h.pl, h.pb⟩, hg.2.1, hg.2.2⟩
theorem tp_nil (h : TI fr m s) (pe : Nat) : TP fr m s { s with pl := [], pe := pe } :=
  ⟨⟨h.gw, h.r0, h.r1, h.c0, h.c1, h.q, by simp, fun x hx => by simp at hx⟩, rfl, rfl⟩
theorem rows0 (h : TI fr m s) : (1 : Int) ≤ s.l.length := by have := h.gw.r0; omega
theorem cols0 (h : TI fr m s) : (1 : Int) ≤ nC s.l := by have := h.gw.c0; omega
theorem tp_mo (h : TI fr m s) (x y : Int) : TP fr m s (moT s x y) := by
  have h1 := near_bd (x := x) (rows0 h)
  have h2 := near_bd (x := y) (cols0 h)
  exact tp_cur h h1.1 h1.2 h2.1 h2.2
theorem tp_st (h : TI fr m s) (x y : Int) : TP fr m s (stT s x y) := tp_mo h _ _
theorem tp_fd (h : TI fr m s) : TP fr m s (fdT s) := by
  have h1 := near_bd (x := s.r + 1) (rows0 h)
  have hg : GW (if s.r = (s.l.length : Int) - 1 then upF s.l 1 blankC else s.l) ∧ (if s.r = (s.l.length : Int) - 1 then upF s.l 1 blankC else s.l).length = s.l.length ∧ nC (if s.r = (s.l.length : Int) - 1 then upF s.l 1 blankC else s.l) = nC s.l := by
    split
    · exact upF_gw h.gw _ _
    · exact ⟨h.gw, rfl, rfl⟩
  exact (tp_cur h h1.1 h1.2 h.c0 h.c1).trans (tp_rows (tp_cur h h1.1 h1.2 h.c0 h.c1).ti hg (s.ep + 1))
theorem wi_gw {l : List (List C4)} (h : GW l) (a b c d : Int) (x : C4) (g : Bool) : GW (wiL l a b c d x g) ∧ (wiL l a b c d x g).length = l.length ∧ nC (wiL l a b c d x g) = nC l := by
  unfold wiL
  split
  · exact ⟨turnL_gw h, turnL_length, turnL_nC h⟩
  · exact ⟨h, rfl, rfl⟩
theorem tp_wp (h : TI fr m s) (a b c d : Int) : TP fr m s (wpT s a b c d) := tp_rows h (wi_gw h.gw _ _ _ _ _ _) s.ep
theorem tp_ta (h : TI fr m s) : TP fr m s (taT s) := by
  have h2 := near_bd (x := if s.c - s.c % 8 + 8 > (nC s.l : Int) - 1 then s.c + 1 else s.c - s.c % 8 + 8) (cols0 h)
  exact tp_cur h h.r0 h.r1 h2.1 h2.2
theorem tp_ix (h : TI fr m s) : TP fr m s (ixT s) := by
  have h1 := near_bd (x := s.r - 1) (rows0 h)
  have hg : GW (if s.r = 0 then upF s.l (-1) blankC else s.l) ∧ (if s.r = 0 then upF s.l (-1) blankC else s.l).length = s.l.length ∧ nC (if s.r = 0 then upF s.l (-1) blankC else s.l) = nC s.l := by
    split
    · exact upF_gw h.gw _ _
    · exact ⟨h.gw, rfl, rfl⟩
  exact (tp_cur h h1.1 h1.2 h.c0 h.c1).trans (tp_rows (tp_cur h h1.1 h1.2 h.c0 h.c1).ti hg (if s.r = 0 then s.ep + 1 else s.ep))
theorem tp_pl (h : TI fr m s) (x y : Int) : TP fr m s (plT s x y) := by
  have g1 := rows0 h
  have g2 := cols0 h
  have h0 := h.r0
  have h1 := h.r1
  have h2 := h.c0
  have h3 := h.c1
  refine tp_cur h ?_ ?_ ?_ ?_
  · split <;> omega
  · split <;> omega
  · split <;> (try split) <;> omega
  · split <;> (try split) <;> omega
theorem tp_pu (h : TI fr m s) (b : Int) : TP fr m s (puT s b) := by
  have h3 := h.c1
  have h2 := h.c0
  have hg : GW (set2 s.l s.r s.c ⟨glT s.G b, 0, false, 0⟩) ∧ (set2 s.l s.r s.c ⟨glT s.G b, 0, false, 0⟩).length = s.l.length ∧ nC (set2 s.l s.r s.c ⟨glT s.G b, 0, false, 0⟩) = nC s.l := by
    rw [set2_eq h.gw h.r0 h.r1 h.c0 h.c1]
    have := h.gw.r0
    exact ⟨gridF_gw h.gw.r0 h.gw.r1 h.gw.c0 h.gw.c1, gridF_length _ _ _, gridF_nC (by omega)⟩
  have hc : TP fr m s { s with r := s.r, c := if s.c + 1 < nC s.l then s.c + 1 else s.c } := tp_cur h h.r0 h.r1 (by split <;> omega) (by split <;> omega)
  exact hc.trans (tp_rows hc.ti hg s.ep)
theorem tp_z (h : TI fr m s) : TP fr m s (zT m fr s) := by
  unfold zT
  split
  · exact ⟨⟨h.gw, h.r0, h.r1, h.c0, h.c1, h.q, h.pl, h.pb⟩, rfl, rfl⟩
  · have hq := QWf.put [27, 47, 75] h.q (by simp only [List.length_cons, List.length_nil]; omega) (fun x hx => by simp at hx; omega)
    exact ⟨⟨h.gw, h.r0, h.r1, h.c0, h.c1, hq.1, h.pl, h.pb⟩, rfl, rfl⟩
theorem tp_md (h : TI fr m s) (G K Ho : Bool) : TP fr m s { s with G := G, K := K, Ho := Ho } :=
  ⟨⟨h.gw, h.r0, h.r1, h.c0, h.c1, h.q, h.pl, h.pb⟩, rfl, rfl⟩
theorem tp_ite {p : Prop} [Decidable p] {a b : Tm} (ha : TP fr m s a) (hb : TP fr m s b) : TP fr m s (if p then a else b) := by
  split
  · exact ha
  · exact hb
theorem tp_two (h : TI fr m s) (b : Int) : TP fr m s (twoT m fr s b) := by
  unfold twoT
  repeat' (first | exact tp_z h | exact tp_wp h _ _ _ _ | refine tp_ite ?_ ?_)
  all_goals first
    | exact tp_st h _ _
    | exact tp_mo h _ _
    | exact tp_ix h
    | exact tp_wp h _ _ _ _
    | exact tp_z h
    | exact tp_md h _ _ _
    | exact TP.refl h
theorem tp_sq (h : TI fr m s) {b : Int} (hb : 0 ≤ b ∧ b ≤ 255) : TP fr m s (sqT m fr s b) := by
  unfold sqT
  split
  · rename_i hl
    refine ⟨⟨h.gw, h.r0, h.r1, h.c0, h.c1, h.q, ?_, byteR_append h.pb fun x hx => ?_⟩, rfl, rfl⟩
    · simp only [List.length_append, List.length_cons, List.length_nil]; omega
    · simp at hx; subst hx; exact hb
  · split
    · exact (tp_nil h _).trans (tp_two (tp_nil h _).ti b)
    · exact (tp_nil h _).trans (tp_pl (tp_nil h _).ti _ _)
theorem tp_ct (h : TI fr m s) (b : Int) : TP fr m s (ctT s b) := by
  unfold ctT
  repeat' (first | exact tp_z h | exact tp_wp h _ _ _ _ | refine tp_ite ?_ ?_)
  all_goals first
    | exact tp_st h _ _
    | exact tp_ta h
    | exact tp_fd h
    | exact tp_mo h _ _
    | exact TP.refl h
theorem tp_by (h : TI fr m s) {b : Int} (hb : 0 ≤ b ∧ b ≤ 255) : TP fr m s (byT m fr s b) := by
  unfold byT
  split
  · exact TP.refl h
  · split
    · exact ⟨⟨h.gw, h.r0, h.r1, h.c0, h.c1, h.q, by simp, fun x hx => by simp at hx; omega⟩, rfl, rfl⟩
    · split
      · exact tp_sq h hb
      · split
        · exact tp_pu h b
        · exact tp_ct h b
end
theorem tp_feed {fr : Int} {m : Nat} : ∀ (bs : List Int) {s : Tm}, TI fr m s → byteR bs → TP fr m s (feedT m fr s bs)
  | [], s, h, _ => TP.refl h
  | b :: bs, s, h, hb => by
    have h1 := tp_by h (hb b List.mem_cons_self)
    exact h1.trans (tp_feed bs h1.ti fun x hx => hb x (List.mem_cons_of_mem _ hx))
theorem feedT_append (m : Nat) (fr : Int) (s : Tm) (a b : List Int) : feedT m fr s (a ++ b) = feedT m fr (feedT m fr s a) b := by simp [feedT]
theorem feedT_succ (m : Nat) (fr : Int) (s : Tm) {t : ByteArray} {i : Int} (h0 : 0 ≤ i) (h : i < t.size) : feedT m fr s ((bytesL t).take (i + 1).toNat) = byT m fr (feedT m fr s ((bytesL t).take i.toNat)) (byteAt t i.toNat) := by
  rw [bytesL_take_succ h0 h, feedT_append]; rfl
theorem feedT_all (m : Nat) (fr : Int) (s : Tm) (t : ByteArray) : feedT m fr s ((bytesL t).take t.size) = feedT m fr s (bytesL t) := by
  rw [List.take_of_length_le (by rw [bytesL_length]; omega)]
end Go.Proofs.YtcbjgpkbfmmdpaaGreatDoor
namespace Go.Proofs.YtcbjgpkbfmmdpaaGreatDoor
open Go Go.Sym
def fdF (x : TR) (t : ByteArray) (i : Int) : Tm := feedT (trM x) (trF x) (tmS x) ((bytesL t).take i.toNat)
def annFd (j oe qe m : Nat) (fr : Int) (F : Int → Tm) (t : ByteArray) : Ann Unit where
  α := Int
  φ _ i := 0 ≤ i ∧ i ≤ t.size
  μ _ i := (t.size - i).toNat
  get st := getI st.tm 8
  f st i := tmpl [0, 1, 2, 7] [(8, .v (.int .i64 i))] (((tmI j oe qe m fr (F i)).zipIdx j).map (fun p => (p.2, p.1)) ++ [(getY st.tm 0, loopTm st.H (getY st.tm 0) [2] [])]) st
  fx st := match getC st.H j with
    | [_, _, _, _, _, .s b _ _ _] => [.adopt (j + 6) b]
    | _ => []
def tabV12 : List (Nat × ACon Unit) := (24, lcTSeq) :: (27, lcPlay4) :: (26, lcCtl) :: tabU12
theorem tabV12_ok : LCs Tryz.prog tabV12 := ⟨ok_tSeq, ok_play4, ok_ctl, tabU12_ok⟩
def fdX (x : TR) (t : ByteArray) : Tm := feedT (trM x) (trF x) (tmS x) (bytesL t)
def lcTFeed : ACon Unit := mkLC (decP (shCons (shP 0) (shOne shStr)) (shTm 0)) fun ((_, t), x) => .ask (TA x ∧ t.size ≤ 1099511627776) (.one (.t []) (tmE 0 x (fdX x t)) [0, 1, 3, 4, 5, 6])
set_option maxHeartbeats 4000000 in
theorem ok_tFeed : ∀ I : Sym.Inv Unit, LCOk I Tryz.prog 10 lcTFeed := by
  refine lc_mk (fun ((_, t), x) => allCfg Tryz.prog purT tabV12 0 [(129, annFd 0 x.2.2.1 x.2.2.2.2.1.1 (trM x) (trF x) (fdF x t) t)]) (fun _ _ => allCfg_ok mixed purT_ok tabV12_ok) (fun _ => rfl) (n := 90) Tryz.func10 ?_
  intro ⟨⟨u0, t⟩, ⟨u1, u2, G, K, Ho, pe⟩, ⟨r, c, p, u3, u4⟩, oe, ⟨l, oe2, ep⟩, ⟨qe, fr, n, ov⟩, ⟨xs, m, qe2⟩, ⟨pl, pn, pe2⟩⟩ hφ
  obtain ⟨⟨⟨rfl, rfl, rfl, rfl, rfl, hI⟩, hsz⟩, hp⟩ := id hφ
  refine kcast (B := ((fun F : Int → Tm => (II (0 : Int) ≤ (0 : Int) ∧ (0 : Int) ≤ (↑t.size : Int)) ∧ ((SV.y 11 = SV.y 11 ∧ SV.p 9 0 = SV.p 9 0 ∧ SV.p 8 0 = SV.p 8 0 ∧ vI (↑t.size : Int) = vI (↑t.size : Int) ∧ vI (0 : Int) = vI (0 : Int) ∧ True) ∧ (SV.p 1 0 = SV.p 1 0 ∧
 SV.p 4 0 = SV.p 4 0 ∧ vB G = vB G ∧ vB K = vB K ∧ vB Ho = vB Ho ∧ SV.h 6 [pe, 0] = SV.h 6 [pe, 0] ∧ True) ∧ (vI r = vI r ∧ vI c = vI c ∧ vB false = vB false ∧ SV.p 2 0 = SV.p 2 0 ∧ True) ∧ (SV.h 3 [oe, 0] = SV.h 3 [oe, 0] ∧ True) ∧ (oe = oe ∧ ep = ep
 ∧ l = l) ∧ (SV.h 5 [qe, 0] = SV.h 5 [qe, 0] ∧ vI fr = vI (trF ((u1, u2, G, K, Ho, pe), (r, c, false, u3, u4), oe, RC.mk l oe ep, (qe, fr, n, ov), OI.mk xs m qe, OI.mk pl pl.length pe)) ∧ vI n = vI n ∧ vB ov = vB ov ∧ True) ∧ (m = trM ((u1, u2, G, K,
 Ho, pe), (r, c, false, u3, u4), oe, RC.mk l oe ep, (qe, fr, n, ov), OI.mk xs m qe, OI.mk pl pl.length pe) ∧ qe = qe ∧ xs = xs) ∧ (pl.length = pl.length ∧ pe = pe ∧ pl = pl) ∧ (SV.p 0 0 = SV.p 0 0 ∧ True) ∧ (SV.p 0 0 = SV.p 0 0 ∧ True) ∧ (vS t = vS t
 ∧ True) ∧ Obj.deferred (some []) = Obj.deferred (some []) ∧ ((SV.p 7 0 = SV.p 7 0 ∧ True) ∧ #[(10 : Nat)] = #[(10 : Nat)] ∧ codeAt Tryz.f10 [1, 1, 1, 0, 0] = codeAt Tryz.f10 [1, 1, 1, 0, 0] ∧ codeAt Tryz.f10 [1, 1, 1, 0, 1] = codeAt Tryz.f10 [1, 1,
 1, 0, 1]) ∧ True) ∧ ∀ (x : Int), (0 : Int) ≤ x ∧ x ≤ (↑t.size : Int) → br (decide (x < (↑t.size : Int))) (rq (decide ((0 : Int) ≤ x ∧ x < (↑t.size : Int))) (rq ((F x).pe.beq (F x).pe) (br ((↑(F x).pl.length : Int) == (0 : Int)) (br (decide (byteAt t
 x.toNat > (126 : Int))) (((0 : Int) ≤ IntKind.i64.wrap (x + (1 : Int)) ∧ IntKind.i64.wrap (x + (1 : Int)) ≤ (↑t.size : Int)) ∧ ((SV.y 11 = SV.y 11 ∧ SV.p 9 0 = SV.p 9 0 ∧ SV.p 8 0 = SV.p 8 0 ∧ vI (↑t.size : Int) = vI (↑t.size : Int) ∧ vI
 (IntKind.i64.wrap (x + (1 : Int))) = vI (IntKind.i64.wrap (x + (1 : Int))) ∧ True) ∧ (SV.p 1 0 = SV.p 1 0 ∧ SV.p 4 0 = SV.p 4 0 ∧ vB (F x).G = vB (F (IntKind.i64.wrap (x + (1 : Int)))).G ∧ vB (F x).K = vB (F (IntKind.i64.wrap (x + (1 : Int)))).K ∧ vB
 (F x).Ho = vB (F (IntKind.i64.wrap (x + (1 : Int)))).Ho ∧ SV.h 6 [(F x).pe, 0] = SV.h 6 [(F (IntKind.i64.wrap (x + (1 : Int)))).pe, 0] ∧ True) ∧ (vI (F x).r = vI (F (IntKind.i64.wrap (x + (1 : Int)))).r ∧ vI (F x).c = vI (F (IntKind.i64.wrap (x + (1
 : Int)))).c ∧ vB false = vB false ∧ SV.p 2 0 = SV.p 2 0 ∧ True) ∧ (SV.h 3 [oe, 0] = SV.h 3 [oe, 0] ∧ True) ∧ (oe = oe ∧ (F x).ep = (F (IntKind.i64.wrap (x + (1 : Int)))).ep ∧ (F x).l = (F (IntKind.i64.wrap (x + (1 : Int)))).l) ∧ (SV.h 5 [qe, 0] =
 SV.h 5 [qe, 0] ∧ vI (trF ((u1, u2, G, K, Ho, pe), (r, c, false, u3, u4), oe, RC.mk l oe ep, (qe, fr, n, ov), OI.mk xs m qe, OI.mk pl pl.length pe)) = vI (trF ((u1, u2, G, K, Ho, pe), (r, c, false, u3, u4), oe, RC.mk l oe ep, (qe, fr, n, ov), OI.mk xs
 m qe, OI.mk pl pl.length pe)) ∧ vI (F x).n = vI (F (IntKind.i64.wrap (x + (1 : Int)))).n ∧ vB (F x).ov = vB (F (IntKind.i64.wrap (x + (1 : Int)))).ov ∧ True) ∧ (trM ((u1, u2, G, K, Ho, pe), (r, c, false, u3, u4), oe, RC.mk l oe ep, (qe, fr, n, ov),
 OI.mk xs m qe, OI.mk pl pl.length pe) = trM ((u1, u2, G, K, Ho, pe), (r, c, false, u3, u4), oe, RC.mk l oe ep, (qe, fr, n, ov), OI.mk xs m qe, OI.mk pl pl.length pe) ∧ qe = qe ∧ (F x).xs = (F (IntKind.i64.wrap (x + (1 : Int)))).xs) ∧ ((F x).pl.length
 = (F (IntKind.i64.wrap (x + (1 : Int)))).pl.length ∧ (F x).pe = (F (IntKind.i64.wrap (x + (1 : Int)))).pe ∧ (F x).pl = (F (IntKind.i64.wrap (x + (1 : Int)))).pl) ∧ (SV.p 0 0 = SV.p 0 0 ∧ True) ∧ (SV.p 0 0 = SV.p 0 0 ∧ True) ∧ (vS t = vS t ∧ True) ∧
 Obj.deferred (some []) = Obj.deferred (some []) ∧ ((SV.p 7 0 = SV.p 7 0 ∧ True) ∧ #[(10 : Nat)] = #[(10 : Nat)] ∧ codeAt Tryz.f10 [1, 1, 1, 0, 0] = codeAt Tryz.f10 [1, 1, 1, 0, 0] ∧ codeAt Tryz.f10 [1, 1, 1, 0, 1] = codeAt Tryz.f10 [1, 1, 1, 0, 1]) ∧
 True) ∧ ((↑t.size : Int) - IntKind.i64.wrap (x + (1 : Int))).toNat < ((↑t.size : Int) - x).toNat) (rq (decide ((0 : Int) ≤ x ∧ x < (↑t.size : Int))) (br (byteAt t x.toNat == (27 : Int)) (((0 : Int) ≤ IntKind.i64.wrap (x + (1 : Int)) ∧
 IntKind.i64.wrap (x + (1 : Int)) ≤ (↑t.size : Int)) ∧ ((SV.y 11 = SV.y 11 ∧ SV.p 9 0 = SV.p 9 0 ∧ SV.p 8 0 = SV.p 8 0 ∧ vI (↑t.size : Int) = vI (↑t.size : Int) ∧ vI (IntKind.i64.wrap (x + (1 : Int))) = vI (IntKind.i64.wrap (x + (1 : Int))) ∧ True) ∧
 (SV.p 1 0 = SV.p 1 0 ∧ SV.p 4 0 = SV.p 4 0 ∧ vB (F x).G = vB (F (IntKind.i64.wrap (x + (1 : Int)))).G ∧ vB (F x).K = vB (F (IntKind.i64.wrap (x + (1 : Int)))).K ∧ vB (F x).Ho = vB (F (IntKind.i64.wrap (x + (1 : Int)))).Ho ∧ SV.h 6 [(F x).pe + 1, 0] =
 SV.h 6 [(F (IntKind.i64.wrap (x + (1 : Int)))).pe, 0] ∧ True) ∧ (vI (F x).r = vI (F (IntKind.i64.wrap (x + (1 : Int)))).r ∧ vI (F x).c = vI (F (IntKind.i64.wrap (x + (1 : Int)))).c ∧ vB false = vB false ∧ SV.p 2 0 = SV.p 2 0 ∧ True) ∧ (SV.h 3 [oe, 0]
 = SV.h 3 [oe, 0] ∧ True) ∧ (oe = oe ∧ (F x).ep = (F (IntKind.i64.wrap (x + (1 : Int)))).ep ∧ (F x).l = (F (IntKind.i64.wrap (x + (1 : Int)))).l) ∧ (SV.h 5 [qe, 0] = SV.h 5 [qe, 0] ∧ vI (trF ((u1, u2, G, K, Ho, pe), (r, c, false, u3, u4), oe, RC.mk l
 oe ep, (qe, fr, n, ov), OI.mk xs m qe, OI.mk pl pl.length pe)) = vI (trF ((u1, u2, G, K, Ho, pe), (r, c, false, u3, u4), oe, RC.mk l oe ep, (qe, fr, n, ov), OI.mk xs m qe, OI.mk pl pl.length pe)) ∧ vI (F x).n = vI (F (IntKind.i64.wrap (x + (1 :
 Int)))).n ∧ vB (F x).ov = vB (F (IntKind.i64.wrap (x + (1 : Int)))).ov ∧ True) ∧ (trM ((u1, u2, G, K, Ho, pe), (r, c, false, u3, u4), oe, RC.mk l oe ep, (qe, fr, n, ov), OI.mk xs m qe, OI.mk pl pl.length pe) = trM ((u1, u2, G, K, Ho, pe), (r, c,
 false, u3, u4), oe, RC.mk l oe ep, (qe, fr, n, ov), OI.mk xs m qe, OI.mk pl pl.length pe) ∧ qe = qe ∧ (F x).xs = (F (IntKind.i64.wrap (x + (1 : Int)))).xs) ∧ ((1 : Nat) = (F (IntKind.i64.wrap (x + (1 : Int)))).pl.length ∧ (F x).pe + 1 = (F
 (IntKind.i64.wrap (x + (1 : Int)))).pe ∧ LI [(27 : Int)] = (F (IntKind.i64.wrap (x + (1 : Int)))).pl) ∧ (SV.p 0 0 = SV.p 0 0 ∧ True) ∧ (SV.p 0 0 = SV.p 0 0 ∧ True) ∧ (vS t = vS t ∧ True) ∧ Obj.deferred (some []) = Obj.deferred (some []) ∧ ((SV.p 7 0
 = SV.p 7 0 ∧ True) ∧ #[(10 : Nat)] = #[(10 : Nat)] ∧ codeAt Tryz.f10 [1, 1, 1, 0, 0] = codeAt Tryz.f10 [1, 1, 1, 0, 0] ∧ codeAt Tryz.f10 [1, 1, 1, 0, 1] = codeAt Tryz.f10 [1, 1, 1, 0, 1]) ∧ True) ∧ ((↑t.size : Int) - IntKind.i64.wrap (x + (1 :
 Int))).toNat < ((↑t.size : Int) - x).toNat) (rq ((F x).pe.beq (F x).pe) (br (decide ((↑(F x).pl.length : Int) > (0 : Int))) (true = true ∧ (TA (((), (), (F x).G, (F x).K, (F x).Ho, (F x).pe), ((F x).r, (F x).c, false, (), ()), oe, RC.mk (F x).l oe (F
 x).ep, (qe, trF ((u1, u2, G, K, Ho, pe), (r, c, false, u3, u4), oe, RC.mk l oe ep, (qe, fr, n, ov), OI.mk xs m qe, OI.mk pl pl.length pe), (F x).n, (F x).ov), OI.mk (F x).xs (trM ((u1, u2, G, K, Ho, pe), (r, c, false, u3, u4), oe, RC.mk l oe ep, (qe,
 fr, n, ov), OI.mk xs m qe, OI.mk pl pl.length pe)) qe, OI.mk (F x).pl (F x).pl.length (F x).pe) ∧ (0 : Int) ≤ byteAt t x.toNat ∧ byteAt t x.toNat ≤ (255 : Int) ∧ (1 : Nat) ≤ (F x).pl.length) ∧ ((0 : Int) ≤ IntKind.i64.wrap (x + (1 : Int)) ∧
 IntKind.i64.wrap (x + (1 : Int)) ≤ (↑t.size : Int)) ∧ ((SV.y 11 = SV.y 11 ∧ SV.p 9 0 = SV.p 9 0 ∧ SV.p 8 0 = SV.p 8 0 ∧ vI (↑t.size : Int) = vI (↑t.size : Int) ∧ vI (IntKind.i64.wrap (x + (1 : Int))) = vI (IntKind.i64.wrap (x + (1 : Int))) ∧ True) ∧
 (SV.p 1 0 = SV.p 1 0 ∧ SV.p 4 0 = SV.p 4 0 ∧ vB (sqX (((), (), (F x).G, (F x).K, (F x).Ho, (F x).pe), ((F x).r, (F x).c, false, (), ()), oe, RC.mk (F x).l oe (F x).ep, (qe, trF ((u1, u2, G, K, Ho, pe), (r, c, false, u3, u4), oe, RC.mk l oe ep, (qe,
 fr, n, ov), OI.mk xs m qe, OI.mk pl pl.length pe), (F x).n, (F x).ov), OI.mk (F x).xs (trM ((u1, u2, G, K, Ho, pe), (r, c, false, u3, u4), oe, RC.mk l oe ep, (qe, fr, n, ov), OI.mk xs m qe, OI.mk pl pl.length pe)) qe, OI.mk (F x).pl (F x).pl.length
 (F x).pe) (byteAt t x.toNat)).G = vB (F (IntKind.i64.wrap (x + (1 : Int)))).G ∧ vB (sqX (((), (), (F x).G, (F x).K, (F x).Ho, (F x).pe), ((F x).r, (F x).c, false, (), ()), oe, RC.mk (F x).l oe (F x).ep, (qe, trF ((u1, u2, G, K, Ho, pe), (r, c, false,
 u3, u4), oe, RC.mk l oe ep, (qe, fr, n, ov), OI.mk xs m qe, OI.mk pl pl.length pe), (F x).n, (F x).ov), OI.mk (F x).xs (trM ((u1, u2, G, K, Ho, pe), (r, c, false, u3, u4), oe, RC.mk l oe ep, (qe, fr, n, ov), OI.mk xs m qe, OI.mk pl pl.length pe)) qe,
 OI.mk (F x).pl (F x).pl.length (F x).pe) (byteAt t x.toNat)).K = vB (F (IntKind.i64.wrap (x + (1 : Int)))).K ∧ vB (sqX (((), (), (F x).G, (F x).K, (F x).Ho, (F x).pe), ((F x).r, (F x).c, false, (), ()), oe, RC.mk (F x).l oe (F x).ep, (qe, trF ((u1,
 u2, G, K, Ho, pe), (r, c, false, u3, u4), oe, RC.mk l oe ep, (qe, fr, n, ov), OI.mk xs m qe, OI.mk pl pl.length pe), (F x).n, (F x).ov), OI.mk (F x).xs (trM ((u1, u2, G, K, Ho, pe), (r, c, false, u3, u4), oe, RC.mk l oe ep, (qe, fr, n, ov), OI.mk xs
 m qe, OI.mk pl pl.length pe)) qe, OI.mk (F x).pl (F x).pl.length (F x).pe) (byteAt t x.toNat)).Ho = vB (F (IntKind.i64.wrap (x + (1 : Int)))).Ho ∧ SV.h 6 [(sqX (((), (), (F x).G, (F x).K, (F x).Ho, (F x).pe), ((F x).r, (F x).c, false, (), ()), oe,
 RC.mk (F x).l oe (F x).ep, (qe, trF ((u1, u2, G, K, Ho, pe), (r, c, false, u3, u4), oe, RC.mk l oe ep, (qe, fr, n, ov), OI.mk xs m qe, OI.mk pl pl.length pe), (F x).n, (F x).ov), OI.mk (F x).xs (trM ((u1, u2, G, K, Ho, pe), (r, c, false, u3, u4), oe,
 RC.mk l oe ep, (qe, fr, n, ov), OI.mk xs m qe, OI.mk pl pl.length pe)) qe, OI.mk (F x).pl (F x).pl.length (F x).pe) (byteAt t x.toNat)).pe, 0] = SV.h 6 [(F (IntKind.i64.wrap (x + (1 : Int)))).pe, 0] ∧ True) ∧ (vI (sqX (((), (), (F x).G, (F x).K, (F
 x).Ho, (F x).pe), ((F x).r, (F x).c, false, (), ()), oe, RC.mk (F x).l oe (F x).ep, (qe, trF ((u1, u2, G, K, Ho, pe), (r, c, false, u3, u4), oe, RC.mk l oe ep, (qe, fr, n, ov), OI.mk xs m qe, OI.mk pl pl.length pe), (F x).n, (F x).ov), OI.mk (F x).xs
 (trM ((u1, u2, G, K, Ho, pe), (r, c, false, u3, u4), oe, RC.mk l oe ep, (qe, fr, n, ov), OI.mk xs m qe, OI.mk pl pl.length pe)) qe, OI.mk (F x).pl (F x).pl.length (F x).pe) (byteAt t x.toNat)).r = vI (F (IntKind.i64.wrap (x + (1 : Int)))).r ∧ vI (sqX
 (((), (), (F x).G, (F x).K, (F x).Ho, (F x).pe), ((F x).r, (F x).c, false, (), ()), oe, RC.mk (F x).l oe (F x).ep, (qe, trF ((u1, u2, G, K, Ho, pe), (r, c, false, u3, u4), oe, RC.mk l oe ep, (qe, fr, n, ov), OI.mk xs m qe, OI.mk pl pl.length pe), (F
 x).n, (F x).ov), OI.mk (F x).xs (trM ((u1, u2, G, K, Ho, pe), (r, c, false, u3, u4), oe, RC.mk l oe ep, (qe, fr, n, ov), OI.mk xs m qe, OI.mk pl pl.length pe)) qe, OI.mk (F x).pl (F x).pl.length (F x).pe) (byteAt t x.toNat)).c = vI (F
 (IntKind.i64.wrap (x + (1 : Int)))).c ∧ vB false = vB false ∧ SV.p 2 0 = SV.p 2 0 ∧ True) ∧ (SV.h 3 [oe, 0] = SV.h 3 [oe, 0] ∧ True) ∧ (oe = oe ∧ (sqX (((), (), (F x).G, (F x).K, (F x).Ho, (F x).pe), ((F x).r, (F x).c, false, (), ()), oe, RC.mk (F
 x).l oe (F x).ep, (qe, trF ((u1, u2, G, K, Ho, pe), (r, c, false, u3, u4), oe, RC.mk l oe ep, (qe, fr, n, ov), OI.mk xs m qe, OI.mk pl pl.length pe), (F x).n, (F x).ov), OI.mk (F x).xs (trM ((u1, u2, G, K, Ho, pe), (r, c, false, u3, u4), oe, RC.mk l
 oe ep, (qe, fr, n, ov), OI.mk xs m qe, OI.mk pl pl.length pe)) qe, OI.mk (F x).pl (F x).pl.length (F x).pe) (byteAt t x.toNat)).ep = (F (IntKind.i64.wrap (x + (1 : Int)))).ep ∧ (sqX (((), (), (F x).G, (F x).K, (F x).Ho, (F x).pe), ((F x).r, (F x).c,
 false, (), ()), oe, RC.mk (F x).l oe (F x).ep, (qe, trF ((u1, u2, G, K, Ho, pe), (r, c, false, u3, u4), oe, RC.mk l oe ep, (qe, fr, n, ov), OI.mk xs m qe, OI.mk pl pl.length pe), (F x).n, (F x).ov), OI.mk (F x).xs (trM ((u1, u2, G, K, Ho, pe), (r, c,
 false, u3, u4), oe, RC.mk l oe ep, (qe, fr, n, ov), OI.mk xs m qe, OI.mk pl pl.length pe)) qe, OI.mk (F x).pl (F x).pl.length (F x).pe) (byteAt t x.toNat)).l = (F (IntKind.i64.wrap (x + (1 : Int)))).l) ∧ (SV.h 5 [qe, 0] = SV.h 5 [qe, 0] ∧ vI (trF
 ((u1, u2, G, K, Ho, pe), (r, c, false, u3, u4), oe, RC.mk l oe ep, (qe, fr, n, ov), OI.mk xs m qe, OI.mk pl pl.length pe)) = vI (trF ((u1, u2, G, K, Ho, pe), (r, c, false, u3, u4), oe, RC.mk l oe ep, (qe, fr, n, ov), OI.mk xs m qe, OI.mk pl pl.length
 pe)) ∧ vI (sqX (((), (), (F x).G, (F x).K, (F x).Ho, (F x).pe), ((F x).r, (F x).c, false, (), ()), oe, RC.mk (F x).l oe (F x).ep, (qe, trF ((u1, u2, G, K, Ho, pe), (r, c, false, u3, u4), oe, RC.mk l oe ep, (qe, fr, n, ov), OI.mk xs m qe, OI.mk pl
 pl.length pe), (F x).n, (F x).ov), OI.mk (F x).xs (trM ((u1, u2, G, K, Ho, pe), (r, c, false, u3, u4), oe, RC.mk l oe ep, (qe, fr, n, ov), OI.mk xs m qe, OI.mk pl pl.length pe)) qe, OI.mk (F x).pl (F x).pl.length (F x).pe) (byteAt t x.toNat)).n = vI
 (F (IntKind.i64.wrap (x + (1 : Int)))).n ∧ vB (sqX (((), (), (F x).G, (F x).K, (F x).Ho, (F x).pe), ((F x).r, (F x).c, false, (), ()), oe, RC.mk (F x).l oe (F x).ep, (qe, trF ((u1, u2, G, K, Ho, pe), (r, c, false, u3, u4), oe, RC.mk l oe ep, (qe, fr,
 n, ov), OI.mk xs m qe, OI.mk pl pl.length pe), (F x).n, (F x).ov), OI.mk (F x).xs (trM ((u1, u2, G, K, Ho, pe), (r, c, false, u3, u4), oe, RC.mk l oe ep, (qe, fr, n, ov), OI.mk xs m qe, OI.mk pl pl.length pe)) qe, OI.mk (F x).pl (F x).pl.length (F
 x).pe) (byteAt t x.toNat)).ov = vB (F (IntKind.i64.wrap (x + (1 : Int)))).ov ∧ True) ∧ (trM ((u1, u2, G, K, Ho, pe), (r, c, false, u3, u4), oe, RC.mk l oe ep, (qe, fr, n, ov), OI.mk xs m qe, OI.mk pl pl.length pe) = trM ((u1, u2, G, K, Ho, pe), (r,
 c, false, u3, u4), oe, RC.mk l oe ep, (qe, fr, n, ov), OI.mk xs m qe, OI.mk pl pl.length pe) ∧ qe = qe ∧ (sqX (((), (), (F x).G, (F x).K, (F x).Ho, (F x).pe), ((F x).r, (F x).c, false, (), ()), oe, RC.mk (F x).l oe (F x).ep, (qe, trF ((u1, u2, G, K,
 Ho, pe), (r, c, false, u3, u4), oe, RC.mk l oe ep, (qe, fr, n, ov), OI.mk xs m qe, OI.mk pl pl.length pe), (F x).n, (F x).ov), OI.mk (F x).xs (trM ((u1, u2, G, K, Ho, pe), (r, c, false, u3, u4), oe, RC.mk l oe ep, (qe, fr, n, ov), OI.mk xs m qe,
 OI.mk pl pl.length pe)) qe, OI.mk (F x).pl (F x).pl.length (F x).pe) (byteAt t x.toNat)).xs = (F (IntKind.i64.wrap (x + (1 : Int)))).xs) ∧ ((sqX (((), (), (F x).G, (F x).K, (F x).Ho, (F x).pe), ((F x).r, (F x).c, false, (), ()), oe, RC.mk (F x).l oe
 (F x).ep, (qe, trF ((u1, u2, G, K, Ho, pe), (r, c, false, u3, u4), oe, RC.mk l oe ep, (qe, fr, n, ov), OI.mk xs m qe, OI.mk pl pl.length pe), (F x).n, (F x).ov), OI.mk (F x).xs (trM ((u1, u2, G, K, Ho, pe), (r, c, false, u3, u4), oe, RC.mk l oe ep,
 (qe, fr, n, ov), OI.mk xs m qe, OI.mk pl pl.length pe)) qe, OI.mk (F x).pl (F x).pl.length (F x).pe) (byteAt t x.toNat)).pl.length = (F (IntKind.i64.wrap (x + (1 : Int)))).pl.length ∧ (sqX (((), (), (F x).G, (F x).K, (F x).Ho, (F x).pe), ((F x).r, (F
 x).c, false, (), ()), oe, RC.mk (F x).l oe (F x).ep, (qe, trF ((u1, u2, G, K, Ho, pe), (r, c, false, u3, u4), oe, RC.mk l oe ep, (qe, fr, n, ov), OI.mk xs m qe, OI.mk pl pl.length pe), (F x).n, (F x).ov), OI.mk (F x).xs (trM ((u1, u2, G, K, Ho, pe),
 (r, c, false, u3, u4), oe, RC.mk l oe ep, (qe, fr, n, ov), OI.mk xs m qe, OI.mk pl pl.length pe)) qe, OI.mk (F x).pl (F x).pl.length (F x).pe) (byteAt t x.toNat)).pe = (F (IntKind.i64.wrap (x + (1 : Int)))).pe ∧ (sqX (((), (), (F x).G, (F x).K, (F
 x).Ho, (F x).pe), ((F x).r, (F x).c, false, (), ()), oe, RC.mk (F x).l oe (F x).ep, (qe, trF ((u1, u2, G, K, Ho, pe), (r, c, false, u3, u4), oe, RC.mk l oe ep, (qe, fr, n, ov), OI.mk xs m qe, OI.mk pl pl.length pe), (F x).n, (F x).ov), OI.mk (F x).xs
 (trM ((u1, u2, G, K, Ho, pe), (r, c, false, u3, u4), oe, RC.mk l oe ep, (qe, fr, n, ov), OI.mk xs m qe, OI.mk pl pl.length pe)) qe, OI.mk (F x).pl (F x).pl.length (F x).pe) (byteAt t x.toNat)).pl = (F (IntKind.i64.wrap (x + (1 : Int)))).pl) ∧ (SV.p 0
 0 = SV.p 0 0 ∧ True) ∧ (SV.p 0 0 = SV.p 0 0 ∧ True) ∧ (vS t = vS t ∧ True) ∧ Obj.deferred (some []) = Obj.deferred (some []) ∧ ((SV.p 7 0 = SV.p 7 0 ∧ True) ∧ #[(10 : Nat)] = #[(10 : Nat)] ∧ codeAt Tryz.f10 [1, 1, 1, 0, 0] = codeAt Tryz.f10 [1, 1, 1,
 0, 0] ∧ codeAt Tryz.f10 [1, 1, 1, 0, 1] = codeAt Tryz.f10 [1, 1, 1, 0, 1]) ∧ True) ∧ ((↑t.size : Int) - IntKind.i64.wrap (x + (1 : Int))).toNat < ((↑t.size : Int) - x).toNat) (br (decide (byteAt t x.toNat ≥ (32 : Int))) (true = true ∧ (TA (((), (),
 (F x).G, (F x).K, (F x).Ho, (F x).pe), ((F x).r, (F x).c, false, (), ()), oe, RC.mk (F x).l oe (F x).ep, (qe, trF ((u1, u2, G, K, Ho, pe), (r, c, false, u3, u4), oe, RC.mk l oe ep, (qe, fr, n, ov), OI.mk xs m qe, OI.mk pl pl.length pe), (F x).n, (F
 x).ov), OI.mk (F x).xs (trM ((u1, u2, G, K, Ho, pe), (r, c, false, u3, u4), oe, RC.mk l oe ep, (qe, fr, n, ov), OI.mk xs m qe, OI.mk pl pl.length pe)) qe, OI.mk (F x).pl (F x).pl.length (F x).pe) ∧ (0 : Int) ≤ byteAt t x.toNat ∧ byteAt t x.toNat ≤
 (255 : Int)) ∧ ((0 : Int) ≤ IntKind.i64.wrap (x + (1 : Int)) ∧ IntKind.i64.wrap (x + (1 : Int)) ≤ (↑t.size : Int)) ∧ ((SV.y 11 = SV.y 11 ∧ SV.p 9 0 = SV.p 9 0 ∧ SV.p 8 0 = SV.p 8 0 ∧ vI (↑t.size : Int) = vI (↑t.size : Int) ∧ vI (IntKind.i64.wrap (x +
 (1 : Int))) = vI (IntKind.i64.wrap (x + (1 : Int))) ∧ True) ∧ (SV.p 1 0 = SV.p 1 0 ∧ SV.p 4 0 = SV.p 4 0 ∧ vB (F x).G = vB (F (IntKind.i64.wrap (x + (1 : Int)))).G ∧ vB (F x).K = vB (F (IntKind.i64.wrap (x + (1 : Int)))).K ∧ vB (F x).Ho = vB (F
 (IntKind.i64.wrap (x + (1 : Int)))).Ho ∧ SV.h 6 [(F x).pe, 0] = SV.h 6 [(F (IntKind.i64.wrap (x + (1 : Int)))).pe, 0] ∧ True) ∧ (vI (F x).r = vI (F (IntKind.i64.wrap (x + (1 : Int)))).r ∧ vI (if (F x).c + (1 : Int) < (↑(nC (F x).l) : Int) then (F
 x).c + (1 : Int) else (F x).c) = vI (F (IntKind.i64.wrap (x + (1 : Int)))).c ∧ vB false = vB false ∧ SV.p 2 0 = SV.p 2 0 ∧ True) ∧ (SV.h 3 [oe, 0] = SV.h 3 [oe, 0] ∧ True) ∧ (oe = oe ∧ (F x).ep = (F (IntKind.i64.wrap (x + (1 : Int)))).ep ∧ set2 (F
 x).l (F x).r (F x).c (C4.mk (glT (F x).G (byteAt t x.toNat)) (0 : Int) false (0 : Int)) = (F (IntKind.i64.wrap (x + (1 : Int)))).l) ∧ (SV.h 5 [qe, 0] = SV.h 5 [qe, 0] ∧ vI (trF ((u1, u2, G, K, Ho, pe), (r, c, false, u3, u4), oe, RC.mk l oe ep, (qe,
 fr, n, ov), OI.mk xs m qe, OI.mk pl pl.length pe)) = vI (trF ((u1, u2, G, K, Ho, pe), (r, c, false, u3, u4), oe, RC.mk l oe ep, (qe, fr, n, ov), OI.mk xs m qe, OI.mk pl pl.length pe)) ∧ vI (F x).n = vI (F (IntKind.i64.wrap (x + (1 : Int)))).n ∧ vB (F
 x).ov = vB (F (IntKind.i64.wrap (x + (1 : Int)))).ov ∧ True) ∧ (trM ((u1, u2, G, K, Ho, pe), (r, c, false, u3, u4), oe, RC.mk l oe ep, (qe, fr, n, ov), OI.mk xs m qe, OI.mk pl pl.length pe) = trM ((u1, u2, G, K, Ho, pe), (r, c, false, u3, u4), oe,
 RC.mk l oe ep, (qe, fr, n, ov), OI.mk xs m qe, OI.mk pl pl.length pe) ∧ qe = qe ∧ (F x).xs = (F (IntKind.i64.wrap (x + (1 : Int)))).xs) ∧ ((F x).pl.length = (F (IntKind.i64.wrap (x + (1 : Int)))).pl.length ∧ (F x).pe = (F (IntKind.i64.wrap (x + (1 :
 Int)))).pe ∧ (F x).pl = (F (IntKind.i64.wrap (x + (1 : Int)))).pl) ∧ (SV.p 0 0 = SV.p 0 0 ∧ True) ∧ (SV.p 0 0 = SV.p 0 0 ∧ True) ∧ (vS t = vS t ∧ True) ∧ Obj.deferred (some []) = Obj.deferred (some []) ∧ ((SV.p 7 0 = SV.p 7 0 ∧ True) ∧ #[(10 : Nat)]
 = #[(10 : Nat)] ∧ codeAt Tryz.f10 [1, 1, 1, 0, 0] = codeAt Tryz.f10 [1, 1, 1, 0, 0] ∧ codeAt Tryz.f10 [1, 1, 1, 0, 1] = codeAt Tryz.f10 [1, 1, 1, 0, 1]) ∧ True) ∧ ((↑t.size : Int) - IntKind.i64.wrap (x + (1 : Int))).toNat < ((↑t.size : Int) -
 x).toNat) (true = true ∧ true = true ∧ (TA (((), (), (F x).G, (F x).K, (F x).Ho, (F x).pe), ((F x).r, (F x).c, false, (), ()), oe, RC.mk (F x).l oe (F x).ep, (qe, trF ((u1, u2, G, K, Ho, pe), (r, c, false, u3, u4), oe, RC.mk l oe ep, (qe, fr, n, ov),
 OI.mk xs m qe, OI.mk pl pl.length pe), (F x).n, (F x).ov), OI.mk (F x).xs (trM ((u1, u2, G, K, Ho, pe), (r, c, false, u3, u4), oe, RC.mk l oe ep, (qe, fr, n, ov), OI.mk xs m qe, OI.mk pl pl.length pe)) qe, OI.mk (F x).pl (F x).pl.length (F x).pe) ∧
 (0 : Int) ≤ byteAt t x.toNat ∧ byteAt t x.toNat ≤ (255 : Int)) ∧ ((0 : Int) ≤ IntKind.i64.wrap (x + (1 : Int)) ∧ IntKind.i64.wrap (x + (1 : Int)) ≤ (↑t.size : Int)) ∧ ((SV.y 11 = SV.y 11 ∧ SV.p 9 0 = SV.p 9 0 ∧ SV.p 8 0 = SV.p 8 0 ∧ vI (↑t.size :
 Int) = vI (↑t.size : Int) ∧ vI (IntKind.i64.wrap (x + (1 : Int))) = vI (IntKind.i64.wrap (x + (1 : Int))) ∧ True) ∧ (SV.p 1 0 = SV.p 1 0 ∧ SV.p 4 0 = SV.p 4 0 ∧ vB (ctX (((), (), (F x).G, (F x).K, (F x).Ho, (F x).pe), ((F x).r, (F x).c, false, (),
 ()), oe, RC.mk (F x).l oe (F x).ep, (qe, trF ((u1, u2, G, K, Ho, pe), (r, c, false, u3, u4), oe, RC.mk l oe ep, (qe, fr, n, ov), OI.mk xs m qe, OI.mk pl pl.length pe), (F x).n, (F x).ov), OI.mk (F x).xs (trM ((u1, u2, G, K, Ho, pe), (r, c, false, u3,
 u4), oe, RC.mk l oe ep, (qe, fr, n, ov), OI.mk xs m qe, OI.mk pl pl.length pe)) qe, OI.mk (F x).pl (F x).pl.length (F x).pe) (byteAt t x.toNat)).G = vB (F (IntKind.i64.wrap (x + (1 : Int)))).G ∧ vB (ctX (((), (), (F x).G, (F x).K, (F x).Ho, (F
 x).pe), ((F x).r, (F x).c, false, (), ()), oe, RC.mk (F x).l oe (F x).ep, (qe, trF ((u1, u2, G, K, Ho, pe), (r, c, false, u3, u4), oe, RC.mk l oe ep, (qe, fr, n, ov), OI.mk xs m qe, OI.mk pl pl.length pe), (F x).n, (F x).ov), OI.mk (F x).xs (trM
 ((u1, u2, G, K, Ho, pe), (r, c, false, u3, u4), oe, RC.mk l oe ep, (qe, fr, n, ov), OI.mk xs m qe, OI.mk pl pl.length pe)) qe, OI.mk (F x).pl (F x).pl.length (F x).pe) (byteAt t x.toNat)).K = vB (F (IntKind.i64.wrap (x + (1 : Int)))).K ∧ vB (ctX
 (((), (), (F x).G, (F x).K, (F x).Ho, (F x).pe), ((F x).r, (F x).c, false, (), ()), oe, RC.mk (F x).l oe (F x).ep, (qe, trF ((u1, u2, G, K, Ho, pe), (r, c, false, u3, u4), oe, RC.mk l oe ep, (qe, fr, n, ov), OI.mk xs m qe, OI.mk pl pl.length pe), (F
 x).n, (F x).ov), OI.mk (F x).xs (trM ((u1, u2, G, K, Ho, pe), (r, c, false, u3, u4), oe, RC.mk l oe ep, (qe, fr, n, ov), OI.mk xs m qe, OI.mk pl pl.length pe)) qe, OI.mk (F x).pl (F x).pl.length (F x).pe) (byteAt t x.toNat)).Ho = vB (F
 (IntKind.i64.wrap (x + (1 : Int)))).Ho ∧ SV.h 6 [(ctX (((), (), (F x).G, (F x).K, (F x).Ho, (F x).pe), ((F x).r, (F x).c, false, (), ()), oe, RC.mk (F x).l oe (F x).ep, (qe, trF ((u1, u2, G, K, Ho, pe), (r, c, false, u3, u4), oe, RC.mk l oe ep, (qe,
 fr, n, ov), OI.mk xs m qe, OI.mk pl pl.length pe), (F x).n, (F x).ov), OI.mk (F x).xs (trM ((u1, u2, G, K, Ho, pe), (r, c, false, u3, u4), oe, RC.mk l oe ep, (qe, fr, n, ov), OI.mk xs m qe, OI.mk pl pl.length pe)) qe, OI.mk (F x).pl (F x).pl.length
 (F x).pe) (byteAt t x.toNat)).pe, 0] = SV.h 6 [(F (IntKind.i64.wrap (x + (1 : Int)))).pe, 0] ∧ True) ∧ (vI (ctX (((), (), (F x).G, (F x).K, (F x).Ho, (F x).pe), ((F x).r, (F x).c, false, (), ()), oe, RC.mk (F x).l oe (F x).ep, (qe, trF ((u1, u2, G,
 K, Ho, pe), (r, c, false, u3, u4), oe, RC.mk l oe ep, (qe, fr, n, ov), OI.mk xs m qe, OI.mk pl pl.length pe), (F x).n, (F x).ov), OI.mk (F x).xs (trM ((u1, u2, G, K, Ho, pe), (r, c, false, u3, u4), oe, RC.mk l oe ep, (qe, fr, n, ov), OI.mk xs m qe,
 OI.mk pl pl.length pe)) qe, OI.mk (F x).pl (F x).pl.length (F x).pe) (byteAt t x.toNat)).r = vI (F (IntKind.i64.wrap (x + (1 : Int)))).r ∧ vI (ctX (((), (), (F x).G, (F x).K, (F x).Ho, (F x).pe), ((F x).r, (F x).c, false, (), ()), oe, RC.mk (F x).l
 oe (F x).ep, (qe, trF ((u1, u2, G, K, Ho, pe), (r, c, false, u3, u4), oe, RC.mk l oe ep, (qe, fr, n, ov), OI.mk xs m qe, OI.mk pl pl.length pe), (F x).n, (F x).ov), OI.mk (F x).xs (trM ((u1, u2, G, K, Ho, pe), (r, c, false, u3, u4), oe, RC.mk l oe
 ep, (qe, fr, n, ov), OI.mk xs m qe, OI.mk pl pl.length pe)) qe, OI.mk (F x).pl (F x).pl.length (F x).pe) (byteAt t x.toNat)).c = vI (F (IntKind.i64.wrap (x + (1 : Int)))).c ∧ vB false = vB false ∧ SV.p 2 0 = SV.p 2 0 ∧ True) ∧ (SV.h 3 [oe, 0] = SV.h
 3 [oe, 0] ∧ True) ∧ (oe = oe ∧ (ctX (((), (), (F x).G, (F x).K, (F x).Ho, (F x).pe), ((F x).r, (F x).c, false, (), ()), oe, RC.mk (F x).l oe (F x).ep, (qe, trF ((u1, u2, G, K, Ho, pe), (r, c, false, u3, u4), oe, RC.mk l oe ep, (qe, fr, n, ov), OI.mk
 xs m qe, OI.mk pl pl.length pe), (F x).n, (F x).ov), OI.mk (F x).xs (trM ((u1, u2, G, K, Ho, pe), (r, c, false, u3, u4), oe, RC.mk l oe ep, (qe, fr, n, ov), OI.mk xs m qe, OI.mk pl pl.length pe)) qe, OI.mk (F x).pl (F x).pl.length (F x).pe) (byteAt t
 x.toNat)).ep = (F (IntKind.i64.wrap (x + (1 : Int)))).ep ∧ (ctX (((), (), (F x).G, (F x).K, (F x).Ho, (F x).pe), ((F x).r, (F x).c, false, (), ()), oe, RC.mk (F x).l oe (F x).ep, (qe, trF ((u1, u2, G, K, Ho, pe), (r, c, false, u3, u4), oe, RC.mk l oe
 ep, (qe, fr, n, ov), OI.mk xs m qe, OI.mk pl pl.length pe), (F x).n, (F x).ov), OI.mk (F x).xs (trM ((u1, u2, G, K, Ho, pe), (r, c, false, u3, u4), oe, RC.mk l oe ep, (qe, fr, n, ov), OI.mk xs m qe, OI.mk pl pl.length pe)) qe, OI.mk (F x).pl (F
 x).pl.length (F x).pe) (byteAt t x.toNat)).l = (F (IntKind.i64.wrap (x + (1 : Int)))).l) ∧ (SV.h 5 [qe, 0] = SV.h 5 [qe, 0] ∧ vI (trF ((u1, u2, G, K, Ho, pe), (r, c, false, u3, u4), oe, RC.mk l oe ep, (qe, fr, n, ov), OI.mk xs m qe, OI.mk pl
 pl.length pe)) = vI (trF ((u1, u2, G, K, Ho, pe), (r, c, false, u3, u4), oe, RC.mk l oe ep, (qe, fr, n, ov), OI.mk xs m qe, OI.mk pl pl.length pe)) ∧ vI (ctX (((), (), (F x).G, (F x).K, (F x).Ho, (F x).pe), ((F x).r, (F x).c, false, (), ()), oe,
 RC.mk (F x).l oe (F x).ep, (qe, trF ((u1, u2, G, K, Ho, pe), (r, c, false, u3, u4), oe, RC.mk l oe ep, (qe, fr, n, ov), OI.mk xs m qe, OI.mk pl pl.length pe), (F x).n, (F x).ov), OI.mk (F x).xs (trM ((u1, u2, G, K, Ho, pe), (r, c, false, u3, u4), oe,
 RC.mk l oe ep, (qe, fr, n, ov), OI.mk xs m qe, OI.mk pl pl.length pe)) qe, OI.mk (F x).pl (F x).pl.length (F x).pe) (byteAt t x.toNat)).n = vI (F (IntKind.i64.wrap (x + (1 : Int)))).n ∧ vB (ctX (((), (), (F x).G, (F x).K, (F x).Ho, (F x).pe), ((F
 x).r, (F x).c, false, (), ()), oe, RC.mk (F x).l oe (F x).ep, (qe, trF ((u1, u2, G, K, Ho, pe), (r, c, false, u3, u4), oe, RC.mk l oe ep, (qe, fr, n, ov), OI.mk xs m qe, OI.mk pl pl.length pe), (F x).n, (F x).ov), OI.mk (F x).xs (trM ((u1, u2, G, K,
 Ho, pe), (r, c, false, u3, u4), oe, RC.mk l oe ep, (qe, fr, n, ov), OI.mk xs m qe, OI.mk pl pl.length pe)) qe, OI.mk (F x).pl (F x).pl.length (F x).pe) (byteAt t x.toNat)).ov = vB (F (IntKind.i64.wrap (x + (1 : Int)))).ov ∧ True) ∧ (trM ((u1, u2, G,
 K, Ho, pe), (r, c, false, u3, u4), oe, RC.mk l oe ep, (qe, fr, n, ov), OI.mk xs m qe, OI.mk pl pl.length pe) = trM ((u1, u2, G, K, Ho, pe), (r, c, false, u3, u4), oe, RC.mk l oe ep, (qe, fr, n, ov), OI.mk xs m qe, OI.mk pl pl.length pe) ∧ qe = qe ∧
 (ctX (((), (), (F x).G, (F x).K, (F x).Ho, (F x).pe), ((F x).r, (F x).c, false, (), ()), oe, RC.mk (F x).l oe (F x).ep, (qe, trF ((u1, u2, G, K, Ho, pe), (r, c, false, u3, u4), oe, RC.mk l oe ep, (qe, fr, n, ov), OI.mk xs m qe, OI.mk pl pl.length
 pe), (F x).n, (F x).ov), OI.mk (F x).xs (trM ((u1, u2, G, K, Ho, pe), (r, c, false, u3, u4), oe, RC.mk l oe ep, (qe, fr, n, ov), OI.mk xs m qe, OI.mk pl pl.length pe)) qe, OI.mk (F x).pl (F x).pl.length (F x).pe) (byteAt t x.toNat)).xs = (F
 (IntKind.i64.wrap (x + (1 : Int)))).xs) ∧ ((ctX (((), (), (F x).G, (F x).K, (F x).Ho, (F x).pe), ((F x).r, (F x).c, false, (), ()), oe, RC.mk (F x).l oe (F x).ep, (qe, trF ((u1, u2, G, K, Ho, pe), (r, c, false, u3, u4), oe, RC.mk l oe ep, (qe, fr, n,
 ov), OI.mk xs m qe, OI.mk pl pl.length pe), (F x).n, (F x).ov), OI.mk (F x).xs (trM ((u1, u2, G, K, Ho, pe), (r, c, false, u3, u4), oe, RC.mk l oe ep, (qe, fr, n, ov), OI.mk xs m qe, OI.mk pl pl.length pe)) qe, OI.mk (F x).pl (F x).pl.length (F
 x).pe) (byteAt t x.toNat)).pl.length = (F (IntKind.i64.wrap (x + (1 : Int)))).pl.length ∧ (ctX (((), (), (F x).G, (F x).K, (F x).Ho, (F x).pe), ((F x).r, (F x).c, false, (), ()), oe, RC.mk (F x).l oe (F x).ep, (qe, trF ((u1, u2, G, K, Ho, pe), (r, c,
 false, u3, u4), oe, RC.mk l oe ep, (qe, fr, n, ov), OI.mk xs m qe, OI.mk pl pl.length pe), (F x).n, (F x).ov), OI.mk (F x).xs (trM ((u1, u2, G, K, Ho, pe), (r, c, false, u3, u4), oe, RC.mk l oe ep, (qe, fr, n, ov), OI.mk xs m qe, OI.mk pl pl.length
 pe)) qe, OI.mk (F x).pl (F x).pl.length (F x).pe) (byteAt t x.toNat)).pe = (F (IntKind.i64.wrap (x + (1 : Int)))).pe ∧ (ctX (((), (), (F x).G, (F x).K, (F x).Ho, (F x).pe), ((F x).r, (F x).c, false, (), ()), oe, RC.mk (F x).l oe (F x).ep, (qe, trF
 ((u1, u2, G, K, Ho, pe), (r, c, false, u3, u4), oe, RC.mk l oe ep, (qe, fr, n, ov), OI.mk xs m qe, OI.mk pl pl.length pe), (F x).n, (F x).ov), OI.mk (F x).xs (trM ((u1, u2, G, K, Ho, pe), (r, c, false, u3, u4), oe, RC.mk l oe ep, (qe, fr, n, ov),
 OI.mk xs m qe, OI.mk pl pl.length pe)) qe, OI.mk (F x).pl (F x).pl.length (F x).pe) (byteAt t x.toNat)).pl = (F (IntKind.i64.wrap (x + (1 : Int)))).pl) ∧ (SV.p 0 0 = SV.p 0 0 ∧ True) ∧ (SV.p 0 0 = SV.p 0 0 ∧ True) ∧ (vS t = vS t ∧ True) ∧
 Obj.deferred (some []) = Obj.deferred (some []) ∧ ((SV.p 7 0 = SV.p 7 0 ∧ True) ∧ #[(10 : Nat)] = #[(10 : Nat)] ∧ codeAt Tryz.f10 [1, 1, 1, 0, 0] = codeAt Tryz.f10 [1, 1, 1, 0, 0] ∧ codeAt Tryz.f10 [1, 1, 1, 0, 1] = codeAt Tryz.f10 [1, 1, 1, 0, 1]) ∧
 True) ∧ ((↑t.size : Int) - IntKind.i64.wrap (x + (1 : Int))).toNat < ((↑t.size : Int) - x).toNat))))))) (rq (decide ((0 : Int) ≤ x ∧ x < (↑t.size : Int))) (br (byteAt t x.toNat == (27 : Int)) (((0 : Int) ≤ IntKind.i64.wrap (x + (1 : Int)) ∧
 IntKind.i64.wrap (x + (1 : Int)) ≤ (↑t.size : Int)) ∧ ((SV.y 11 = SV.y 11 ∧ SV.p 9 0 = SV.p 9 0 ∧ SV.p 8 0 = SV.p 8 0 ∧ vI (↑t.size : Int) = vI (↑t.size : Int) ∧ vI (IntKind.i64.wrap (x + (1 : Int))) = vI (IntKind.i64.wrap (x + (1 : Int))) ∧ True) ∧
 (SV.p 1 0 = SV.p 1 0 ∧ SV.p 4 0 = SV.p 4 0 ∧ vB (F x).G = vB (F (IntKind.i64.wrap (x + (1 : Int)))).G ∧ vB (F x).K = vB (F (IntKind.i64.wrap (x + (1 : Int)))).K ∧ vB (F x).Ho = vB (F (IntKind.i64.wrap (x + (1 : Int)))).Ho ∧ SV.h 6 [(F x).pe + 1, 0] =
 SV.h 6 [(F (IntKind.i64.wrap (x + (1 : Int)))).pe, 0] ∧ True) ∧ (vI (F x).r = vI (F (IntKind.i64.wrap (x + (1 : Int)))).r ∧ vI (F x).c = vI (F (IntKind.i64.wrap (x + (1 : Int)))).c ∧ vB false = vB false ∧ SV.p 2 0 = SV.p 2 0 ∧ True) ∧ (SV.h 3 [oe, 0]
 = SV.h 3 [oe, 0] ∧ True) ∧ (oe = oe ∧ (F x).ep = (F (IntKind.i64.wrap (x + (1 : Int)))).ep ∧ (F x).l = (F (IntKind.i64.wrap (x + (1 : Int)))).l) ∧ (SV.h 5 [qe, 0] = SV.h 5 [qe, 0] ∧ vI (trF ((u1, u2, G, K, Ho, pe), (r, c, false, u3, u4), oe, RC.mk l
 oe ep, (qe, fr, n, ov), OI.mk xs m qe, OI.mk pl pl.length pe)) = vI (trF ((u1, u2, G, K, Ho, pe), (r, c, false, u3, u4), oe, RC.mk l oe ep, (qe, fr, n, ov), OI.mk xs m qe, OI.mk pl pl.length pe)) ∧ vI (F x).n = vI (F (IntKind.i64.wrap (x + (1 :
 Int)))).n ∧ vB (F x).ov = vB (F (IntKind.i64.wrap (x + (1 : Int)))).ov ∧ True) ∧ (trM ((u1, u2, G, K, Ho, pe), (r, c, false, u3, u4), oe, RC.mk l oe ep, (qe, fr, n, ov), OI.mk xs m qe, OI.mk pl pl.length pe) = trM ((u1, u2, G, K, Ho, pe), (r, c,
 false, u3, u4), oe, RC.mk l oe ep, (qe, fr, n, ov), OI.mk xs m qe, OI.mk pl pl.length pe) ∧ qe = qe ∧ (F x).xs = (F (IntKind.i64.wrap (x + (1 : Int)))).xs) ∧ ((1 : Nat) = (F (IntKind.i64.wrap (x + (1 : Int)))).pl.length ∧ (F x).pe + 1 = (F
 (IntKind.i64.wrap (x + (1 : Int)))).pe ∧ LI [(27 : Int)] = (F (IntKind.i64.wrap (x + (1 : Int)))).pl) ∧ (SV.p 0 0 = SV.p 0 0 ∧ True) ∧ (SV.p 0 0 = SV.p 0 0 ∧ True) ∧ (vS t = vS t ∧ True) ∧ Obj.deferred (some []) = Obj.deferred (some []) ∧ ((SV.p 7 0
 = SV.p 7 0 ∧ True) ∧ #[(10 : Nat)] = #[(10 : Nat)] ∧ codeAt Tryz.f10 [1, 1, 1, 0, 0] = codeAt Tryz.f10 [1, 1, 1, 0, 0] ∧ codeAt Tryz.f10 [1, 1, 1, 0, 1] = codeAt Tryz.f10 [1, 1, 1, 0, 1]) ∧ True) ∧ ((↑t.size : Int) - IntKind.i64.wrap (x + (1 :
 Int))).toNat < ((↑t.size : Int) - x).toNat) (rq ((F x).pe.beq (F x).pe) (br (decide ((↑(F x).pl.length : Int) > (0 : Int))) (true = true ∧ (TA (((), (), (F x).G, (F x).K, (F x).Ho, (F x).pe), ((F x).r, (F x).c, false, (), ()), oe, RC.mk (F x).l oe (F
 x).ep, (qe, trF ((u1, u2, G, K, Ho, pe), (r, c, false, u3, u4), oe, RC.mk l oe ep, (qe, fr, n, ov), OI.mk xs m qe, OI.mk pl pl.length pe), (F x).n, (F x).ov), OI.mk (F x).xs (trM ((u1, u2, G, K, Ho, pe), (r, c, false, u3, u4), oe, RC.mk l oe ep, (qe,
 fr, n, ov), OI.mk xs m qe, OI.mk pl pl.length pe)) qe, OI.mk (F x).pl (F x).pl.length (F x).pe) ∧ (0 : Int) ≤ byteAt t x.toNat ∧ byteAt t x.toNat ≤ (255 : Int) ∧ (1 : Nat) ≤ (F x).pl.length) ∧ ((0 : Int) ≤ IntKind.i64.wrap (x + (1 : Int)) ∧
 IntKind.i64.wrap (x + (1 : Int)) ≤ (↑t.size : Int)) ∧ ((SV.y 11 = SV.y 11 ∧ SV.p 9 0 = SV.p 9 0 ∧ SV.p 8 0 = SV.p 8 0 ∧ vI (↑t.size : Int) = vI (↑t.size : Int) ∧ vI (IntKind.i64.wrap (x + (1 : Int))) = vI (IntKind.i64.wrap (x + (1 : Int))) ∧ True) ∧
 (SV.p 1 0 = SV.p 1 0 ∧ SV.p 4 0 = SV.p 4 0 ∧ vB (sqX (((), (), (F x).G, (F x).K, (F x).Ho, (F x).pe), ((F x).r, (F x).c, false, (), ()), oe, RC.mk (F x).l oe (F x).ep, (qe, trF ((u1, u2, G, K, Ho, pe), (r, c, false, u3, u4), oe, RC.mk l oe ep, (qe,
 fr, n, ov), OI.mk xs m qe, OI.mk pl pl.length pe), (F x).n, (F x).ov), OI.mk (F x).xs (trM ((u1, u2, G, K, Ho, pe), (r, c, false, u3, u4), oe, RC.mk l oe ep, (qe, fr, n, ov), OI.mk xs m qe, OI.mk pl pl.length pe)) qe, OI.mk (F x).pl (F x).pl.length
 (F x).pe) (byteAt t x.toNat)).G = vB (F (IntKind.i64.wrap (x + (1 : Int)))).G ∧ vB (sqX (((), (), (F x).G, (F x).K, (F x).Ho, (F x).pe), ((F x).r, (F x).c, false, (), ()), oe, RC.mk (F x).l oe (F x).ep, (qe, trF ((u1, u2, G, K, Ho, pe), (r, c, false,
 u3, u4), oe, RC.mk l oe ep, (qe, fr, n, ov), OI.mk xs m qe, OI.mk pl pl.length pe), (F x).n, (F x).ov), OI.mk (F x).xs (trM ((u1, u2, G, K, Ho, pe), (r, c, false, u3, u4), oe, RC.mk l oe ep, (qe, fr, n, ov), OI.mk xs m qe, OI.mk pl pl.length pe)) qe,
 OI.mk (F x).pl (F x).pl.length (F x).pe) (byteAt t x.toNat)).K = vB (F (IntKind.i64.wrap (x + (1 : Int)))).K ∧ vB (sqX (((), (), (F x).G, (F x).K, (F x).Ho, (F x).pe), ((F x).r, (F x).c, false, (), ()), oe, RC.mk (F x).l oe (F x).ep, (qe, trF ((u1,
 u2, G, K, Ho, pe), (r, c, false, u3, u4), oe, RC.mk l oe ep, (qe, fr, n, ov), OI.mk xs m qe, OI.mk pl pl.length pe), (F x).n, (F x).ov), OI.mk (F x).xs (trM ((u1, u2, G, K, Ho, pe), (r, c, false, u3, u4), oe, RC.mk l oe ep, (qe, fr, n, ov), OI.mk xs
 m qe, OI.mk pl pl.length pe)) qe, OI.mk (F x).pl (F x).pl.length (F x).pe) (byteAt t x.toNat)).Ho = vB (F (IntKind.i64.wrap (x + (1 : Int)))).Ho ∧ SV.h 6 [(sqX (((), (), (F x).G, (F x).K, (F x).Ho, (F x).pe), ((F x).r, (F x).c, false, (), ()), oe,
 RC.mk (F x).l oe (F x).ep, (qe, trF ((u1, u2, G, K, Ho, pe), (r, c, false, u3, u4), oe, RC.mk l oe ep, (qe, fr, n, ov), OI.mk xs m qe, OI.mk pl pl.length pe), (F x).n, (F x).ov), OI.mk (F x).xs (trM ((u1, u2, G, K, Ho, pe), (r, c, false, u3, u4), oe,
 RC.mk l oe ep, (qe, fr, n, ov), OI.mk xs m qe, OI.mk pl pl.length pe)) qe, OI.mk (F x).pl (F x).pl.length (F x).pe) (byteAt t x.toNat)).pe, 0] = SV.h 6 [(F (IntKind.i64.wrap (x + (1 : Int)))).pe, 0] ∧ True) ∧ (vI (sqX (((), (), (F x).G, (F x).K, (F
 x).Ho, (F x).pe), ((F x).r, (F x).c, false, (), ()), oe, RC.mk (F x).l oe (F x).ep, (qe, trF ((u1, u2, G, K, Ho, pe), (r, c, false, u3, u4), oe, RC.mk l oe ep, (qe, fr, n, ov), OI.mk xs m qe, OI.mk pl pl.length pe), (F x).n, (F x).ov), OI.mk (F x).xs
 (trM ((u1, u2, G, K, Ho, pe), (r, c, false, u3, u4), oe, RC.mk l oe ep, (qe, fr, n, ov), OI.mk xs m qe, OI.mk pl pl.length pe)) qe, OI.mk (F x).pl (F x).pl.length (F x).pe) (byteAt t x.toNat)).r = vI (F (IntKind.i64.wrap (x + (1 : Int)))).r ∧ vI (sqX
 (((), (), (F x).G, (F x).K, (F x).Ho, (F x).pe), ((F x).r, (F x).c, false, (), ()), oe, RC.mk (F x).l oe (F x).ep, (qe, trF ((u1, u2, G, K, Ho, pe), (r, c, false, u3, u4), oe, RC.mk l oe ep, (qe, fr, n, ov), OI.mk xs m qe, OI.mk pl pl.length pe), (F
 x).n, (F x).ov), OI.mk (F x).xs (trM ((u1, u2, G, K, Ho, pe), (r, c, false, u3, u4), oe, RC.mk l oe ep, (qe, fr, n, ov), OI.mk xs m qe, OI.mk pl pl.length pe)) qe, OI.mk (F x).pl (F x).pl.length (F x).pe) (byteAt t x.toNat)).c = vI (F
 (IntKind.i64.wrap (x + (1 : Int)))).c ∧ vB false = vB false ∧ SV.p 2 0 = SV.p 2 0 ∧ True) ∧ (SV.h 3 [oe, 0] = SV.h 3 [oe, 0] ∧ True) ∧ (oe = oe ∧ (sqX (((), (), (F x).G, (F x).K, (F x).Ho, (F x).pe), ((F x).r, (F x).c, false, (), ()), oe, RC.mk (F
 x).l oe (F x).ep, (qe, trF ((u1, u2, G, K, Ho, pe), (r, c, false, u3, u4), oe, RC.mk l oe ep, (qe, fr, n, ov), OI.mk xs m qe, OI.mk pl pl.length pe), (F x).n, (F x).ov), OI.mk (F x).xs (trM ((u1, u2, G, K, Ho, pe), (r, c, false, u3, u4), oe, RC.mk l
 oe ep, (qe, fr, n, ov), OI.mk xs m qe, OI.mk pl pl.length pe)) qe, OI.mk (F x).pl (F x).pl.length (F x).pe) (byteAt t x.toNat)).ep = (F (IntKind.i64.wrap (x + (1 : Int)))).ep ∧ (sqX (((), (), (F x).G, (F x).K, (F x).Ho, (F x).pe), ((F x).r, (F x).c,
 false, (), ()), oe, RC.mk (F x).l oe (F x).ep, (qe, trF ((u1, u2, G, K, Ho, pe), (r, c, false, u3, u4), oe, RC.mk l oe ep, (qe, fr, n, ov), OI.mk xs m qe, OI.mk pl pl.length pe), (F x).n, (F x).ov), OI.mk (F x).xs (trM ((u1, u2, G, K, Ho, pe), (r, c,
 false, u3, u4), oe, RC.mk l oe ep, (qe, fr, n, ov), OI.mk xs m qe, OI.mk pl pl.length pe)) qe, OI.mk (F x).pl (F x).pl.length (F x).pe) (byteAt t x.toNat)).l = (F (IntKind.i64.wrap (x + (1 : Int)))).l) ∧ (SV.h 5 [qe, 0] = SV.h 5 [qe, 0] ∧ vI (trF
 ((u1, u2, G, K, Ho, pe), (r, c, false, u3, u4), oe, RC.mk l oe ep, (qe, fr, n, ov), OI.mk xs m qe, OI.mk pl pl.length pe)) = vI (trF ((u1, u2, G, K, Ho, pe), (r, c, false, u3, u4), oe, RC.mk l oe ep, (qe, fr, n, ov), OI.mk xs m qe, OI.mk pl pl.length
 pe)) ∧ vI (sqX (((), (), (F x).G, (F x).K, (F x).Ho, (F x).pe), ((F x).r, (F x).c, false, (), ()), oe, RC.mk (F x).l oe (F x).ep, (qe, trF ((u1, u2, G, K, Ho, pe), (r, c, false, u3, u4), oe, RC.mk l oe ep, (qe, fr, n, ov), OI.mk xs m qe, OI.mk pl
 pl.length pe), (F x).n, (F x).ov), OI.mk (F x).xs (trM ((u1, u2, G, K, Ho, pe), (r, c, false, u3, u4), oe, RC.mk l oe ep, (qe, fr, n, ov), OI.mk xs m qe, OI.mk pl pl.length pe)) qe, OI.mk (F x).pl (F x).pl.length (F x).pe) (byteAt t x.toNat)).n = vI
 (F (IntKind.i64.wrap (x + (1 : Int)))).n ∧ vB (sqX (((), (), (F x).G, (F x).K, (F x).Ho, (F x).pe), ((F x).r, (F x).c, false, (), ()), oe, RC.mk (F x).l oe (F x).ep, (qe, trF ((u1, u2, G, K, Ho, pe), (r, c, false, u3, u4), oe, RC.mk l oe ep, (qe, fr,
 n, ov), OI.mk xs m qe, OI.mk pl pl.length pe), (F x).n, (F x).ov), OI.mk (F x).xs (trM ((u1, u2, G, K, Ho, pe), (r, c, false, u3, u4), oe, RC.mk l oe ep, (qe, fr, n, ov), OI.mk xs m qe, OI.mk pl pl.length pe)) qe, OI.mk (F x).pl (F x).pl.length (F
 x).pe) (byteAt t x.toNat)).ov = vB (F (IntKind.i64.wrap (x + (1 : Int)))).ov ∧ True) ∧ (trM ((u1, u2, G, K, Ho, pe), (r, c, false, u3, u4), oe, RC.mk l oe ep, (qe, fr, n, ov), OI.mk xs m qe, OI.mk pl pl.length pe) = trM ((u1, u2, G, K, Ho, pe), (r,
 c, false, u3, u4), oe, RC.mk l oe ep, (qe, fr, n, ov), OI.mk xs m qe, OI.mk pl pl.length pe) ∧ qe = qe ∧ (sqX (((), (), (F x).G, (F x).K, (F x).Ho, (F x).pe), ((F x).r, (F x).c, false, (), ()), oe, RC.mk (F x).l oe (F x).ep, (qe, trF ((u1, u2, G, K,
 Ho, pe), (r, c, false, u3, u4), oe, RC.mk l oe ep, (qe, fr, n, ov), OI.mk xs m qe, OI.mk pl pl.length pe), (F x).n, (F x).ov), OI.mk (F x).xs (trM ((u1, u2, G, K, Ho, pe), (r, c, false, u3, u4), oe, RC.mk l oe ep, (qe, fr, n, ov), OI.mk xs m qe,
 OI.mk pl pl.length pe)) qe, OI.mk (F x).pl (F x).pl.length (F x).pe) (byteAt t x.toNat)).xs = (F (IntKind.i64.wrap (x + (1 : Int)))).xs) ∧ ((sqX (((), (), (F x).G, (F x).K, (F x).Ho, (F x).pe), ((F x).r, (F x).c, false, (), ()), oe, RC.mk (F x).l oe
 (F x).ep, (qe, trF ((u1, u2, G, K, Ho, pe), (r, c, false, u3, u4), oe, RC.mk l oe ep, (qe, fr, n, ov), OI.mk xs m qe, OI.mk pl pl.length pe), (F x).n, (F x).ov), OI.mk (F x).xs (trM ((u1, u2, G, K, Ho, pe), (r, c, false, u3, u4), oe, RC.mk l oe ep,
 (qe, fr, n, ov), OI.mk xs m qe, OI.mk pl pl.length pe)) qe, OI.mk (F x).pl (F x).pl.length (F x).pe) (byteAt t x.toNat)).pl.length = (F (IntKind.i64.wrap (x + (1 : Int)))).pl.length ∧ (sqX (((), (), (F x).G, (F x).K, (F x).Ho, (F x).pe), ((F x).r, (F
 x).c, false, (), ()), oe, RC.mk (F x).l oe (F x).ep, (qe, trF ((u1, u2, G, K, Ho, pe), (r, c, false, u3, u4), oe, RC.mk l oe ep, (qe, fr, n, ov), OI.mk xs m qe, OI.mk pl pl.length pe), (F x).n, (F x).ov), OI.mk (F x).xs (trM ((u1, u2, G, K, Ho, pe),
 (r, c, false, u3, u4), oe, RC.mk l oe ep, (qe, fr, n, ov), OI.mk xs m qe, OI.mk pl pl.length pe)) qe, OI.mk (F x).pl (F x).pl.length (F x).pe) (byteAt t x.toNat)).pe = (F (IntKind.i64.wrap (x + (1 : Int)))).pe ∧ (sqX (((), (), (F x).G, (F x).K, (F
 x).Ho, (F x).pe), ((F x).r, (F x).c, false, (), ()), oe, RC.mk (F x).l oe (F x).ep, (qe, trF ((u1, u2, G, K, Ho, pe), (r, c, false, u3, u4), oe, RC.mk l oe ep, (qe, fr, n, ov), OI.mk xs m qe, OI.mk pl pl.length pe), (F x).n, (F x).ov), OI.mk (F x).xs
 (trM ((u1, u2, G, K, Ho, pe), (r, c, false, u3, u4), oe, RC.mk l oe ep, (qe, fr, n, ov), OI.mk xs m qe, OI.mk pl pl.length pe)) qe, OI.mk (F x).pl (F x).pl.length (F x).pe) (byteAt t x.toNat)).pl = (F (IntKind.i64.wrap (x + (1 : Int)))).pl) ∧ (SV.p 0
 0 = SV.p 0 0 ∧ True) ∧ (SV.p 0 0 = SV.p 0 0 ∧ True) ∧ (vS t = vS t ∧ True) ∧ Obj.deferred (some []) = Obj.deferred (some []) ∧ ((SV.p 7 0 = SV.p 7 0 ∧ True) ∧ #[(10 : Nat)] = #[(10 : Nat)] ∧ codeAt Tryz.f10 [1, 1, 1, 0, 0] = codeAt Tryz.f10 [1, 1, 1,
 0, 0] ∧ codeAt Tryz.f10 [1, 1, 1, 0, 1] = codeAt Tryz.f10 [1, 1, 1, 0, 1]) ∧ True) ∧ ((↑t.size : Int) - IntKind.i64.wrap (x + (1 : Int))).toNat < ((↑t.size : Int) - x).toNat) (br (decide (byteAt t x.toNat ≥ (32 : Int))) (true = true ∧ (TA (((), (),
 (F x).G, (F x).K, (F x).Ho, (F x).pe), ((F x).r, (F x).c, false, (), ()), oe, RC.mk (F x).l oe (F x).ep, (qe, trF ((u1, u2, G, K, Ho, pe), (r, c, false, u3, u4), oe, RC.mk l oe ep, (qe, fr, n, ov), OI.mk xs m qe, OI.mk pl pl.length pe), (F x).n, (F
 x).ov), OI.mk (F x).xs (trM ((u1, u2, G, K, Ho, pe), (r, c, false, u3, u4), oe, RC.mk l oe ep, (qe, fr, n, ov), OI.mk xs m qe, OI.mk pl pl.length pe)) qe, OI.mk (F x).pl (F x).pl.length (F x).pe) ∧ (0 : Int) ≤ byteAt t x.toNat ∧ byteAt t x.toNat ≤
 (255 : Int)) ∧ ((0 : Int) ≤ IntKind.i64.wrap (x + (1 : Int)) ∧ IntKind.i64.wrap (x + (1 : Int)) ≤ (↑t.size : Int)) ∧ ((SV.y 11 = SV.y 11 ∧ SV.p 9 0 = SV.p 9 0 ∧ SV.p 8 0 = SV.p 8 0 ∧ vI (↑t.size : Int) = vI (↑t.size : Int) ∧ vI (IntKind.i64.wrap (x +
 (1 : Int))) = vI (IntKind.i64.wrap (x + (1 : Int))) ∧ True) ∧ (SV.p 1 0 = SV.p 1 0 ∧ SV.p 4 0 = SV.p 4 0 ∧ vB (F x).G = vB (F (IntKind.i64.wrap (x + (1 : Int)))).G ∧ vB (F x).K = vB (F (IntKind.i64.wrap (x + (1 : Int)))).K ∧ vB (F x).Ho = vB (F
 (IntKind.i64.wrap (x + (1 : Int)))).Ho ∧ SV.h 6 [(F x).pe, 0] = SV.h 6 [(F (IntKind.i64.wrap (x + (1 : Int)))).pe, 0] ∧ True) ∧ (vI (F x).r = vI (F (IntKind.i64.wrap (x + (1 : Int)))).r ∧ vI (if (F x).c + (1 : Int) < (↑(nC (F x).l) : Int) then (F
 x).c + (1 : Int) else (F x).c) = vI (F (IntKind.i64.wrap (x + (1 : Int)))).c ∧ vB false = vB false ∧ SV.p 2 0 = SV.p 2 0 ∧ True) ∧ (SV.h 3 [oe, 0] = SV.h 3 [oe, 0] ∧ True) ∧ (oe = oe ∧ (F x).ep = (F (IntKind.i64.wrap (x + (1 : Int)))).ep ∧ set2 (F
 x).l (F x).r (F x).c (C4.mk (glT (F x).G (byteAt t x.toNat)) (0 : Int) false (0 : Int)) = (F (IntKind.i64.wrap (x + (1 : Int)))).l) ∧ (SV.h 5 [qe, 0] = SV.h 5 [qe, 0] ∧ vI (trF ((u1, u2, G, K, Ho, pe), (r, c, false, u3, u4), oe, RC.mk l oe ep, (qe,
 fr, n, ov), OI.mk xs m qe, OI.mk pl pl.length pe)) = vI (trF ((u1, u2, G, K, Ho, pe), (r, c, false, u3, u4), oe, RC.mk l oe ep, (qe, fr, n, ov), OI.mk xs m qe, OI.mk pl pl.length pe)) ∧ vI (F x).n = vI (F (IntKind.i64.wrap (x + (1 : Int)))).n ∧ vB (F
 x).ov = vB (F (IntKind.i64.wrap (x + (1 : Int)))).ov ∧ True) ∧ (trM ((u1, u2, G, K, Ho, pe), (r, c, false, u3, u4), oe, RC.mk l oe ep, (qe, fr, n, ov), OI.mk xs m qe, OI.mk pl pl.length pe) = trM ((u1, u2, G, K, Ho, pe), (r, c, false, u3, u4), oe,
 RC.mk l oe ep, (qe, fr, n, ov), OI.mk xs m qe, OI.mk pl pl.length pe) ∧ qe = qe ∧ (F x).xs = (F (IntKind.i64.wrap (x + (1 : Int)))).xs) ∧ ((F x).pl.length = (F (IntKind.i64.wrap (x + (1 : Int)))).pl.length ∧ (F x).pe = (F (IntKind.i64.wrap (x + (1 :
 Int)))).pe ∧ (F x).pl = (F (IntKind.i64.wrap (x + (1 : Int)))).pl) ∧ (SV.p 0 0 = SV.p 0 0 ∧ True) ∧ (SV.p 0 0 = SV.p 0 0 ∧ True) ∧ (vS t = vS t ∧ True) ∧ Obj.deferred (some []) = Obj.deferred (some []) ∧ ((SV.p 7 0 = SV.p 7 0 ∧ True) ∧ #[(10 : Nat)]
 = #[(10 : Nat)] ∧ codeAt Tryz.f10 [1, 1, 1, 0, 0] = codeAt Tryz.f10 [1, 1, 1, 0, 0] ∧ codeAt Tryz.f10 [1, 1, 1, 0, 1] = codeAt Tryz.f10 [1, 1, 1, 0, 1]) ∧ True) ∧ ((↑t.size : Int) - IntKind.i64.wrap (x + (1 : Int))).toNat < ((↑t.size : Int) -
 x).toNat) (true = true ∧ true = true ∧ (TA (((), (), (F x).G, (F x).K, (F x).Ho, (F x).pe), ((F x).r, (F x).c, false, (), ()), oe, RC.mk (F x).l oe (F x).ep, (qe, trF ((u1, u2, G, K, Ho, pe), (r, c, false, u3, u4), oe, RC.mk l oe ep, (qe, fr, n, ov),
 OI.mk xs m qe, OI.mk pl pl.length pe), (F x).n, (F x).ov), OI.mk (F x).xs (trM ((u1, u2, G, K, Ho, pe), (r, c, false, u3, u4), oe, RC.mk l oe ep, (qe, fr, n, ov), OI.mk xs m qe, OI.mk pl pl.length pe)) qe, OI.mk (F x).pl (F x).pl.length (F x).pe) ∧
 (0 : Int) ≤ byteAt t x.toNat ∧ byteAt t x.toNat ≤ (255 : Int)) ∧ ((0 : Int) ≤ IntKind.i64.wrap (x + (1 : Int)) ∧ IntKind.i64.wrap (x + (1 : Int)) ≤ (↑t.size : Int)) ∧ ((SV.y 11 = SV.y 11 ∧ SV.p 9 0 = SV.p 9 0 ∧ SV.p 8 0 = SV.p 8 0 ∧ vI (↑t.size :
 Int) = vI (↑t.size : Int) ∧ vI (IntKind.i64.wrap (x + (1 : Int))) = vI (IntKind.i64.wrap (x + (1 : Int))) ∧ True) ∧ (SV.p 1 0 = SV.p 1 0 ∧ SV.p 4 0 = SV.p 4 0 ∧ vB (ctX (((), (), (F x).G, (F x).K, (F x).Ho, (F x).pe), ((F x).r, (F x).c, false, (),
 ()), oe, RC.mk (F x).l oe (F x).ep, (qe, trF ((u1, u2, G, K, Ho, pe), (r, c, false, u3, u4), oe, RC.mk l oe ep, (qe, fr, n, ov), OI.mk xs m qe, OI.mk pl pl.length pe), (F x).n, (F x).ov), OI.mk (F x).xs (trM ((u1, u2, G, K, Ho, pe), (r, c, false, u3,
 u4), oe, RC.mk l oe ep, (qe, fr, n, ov), OI.mk xs m qe, OI.mk pl pl.length pe)) qe, OI.mk (F x).pl (F x).pl.length (F x).pe) (byteAt t x.toNat)).G = vB (F (IntKind.i64.wrap (x + (1 : Int)))).G ∧ vB (ctX (((), (), (F x).G, (F x).K, (F x).Ho, (F
 x).pe), ((F x).r, (F x).c, false, (), ()), oe, RC.mk (F x).l oe (F x).ep, (qe, trF ((u1, u2, G, K, Ho, pe), (r, c, false, u3, u4), oe, RC.mk l oe ep, (qe, fr, n, ov), OI.mk xs m qe, OI.mk pl pl.length pe), (F x).n, (F x).ov), OI.mk (F x).xs (trM
 ((u1, u2, G, K, Ho, pe), (r, c, false, u3, u4), oe, RC.mk l oe ep, (qe, fr, n, ov), OI.mk xs m qe, OI.mk pl pl.length pe)) qe, OI.mk (F x).pl (F x).pl.length (F x).pe) (byteAt t x.toNat)).K = vB (F (IntKind.i64.wrap (x + (1 : Int)))).K ∧ vB (ctX
 (((), (), (F x).G, (F x).K, (F x).Ho, (F x).pe), ((F x).r, (F x).c, false, (), ()), oe, RC.mk (F x).l oe (F x).ep, (qe, trF ((u1, u2, G, K, Ho, pe), (r, c, false, u3, u4), oe, RC.mk l oe ep, (qe, fr, n, ov), OI.mk xs m qe, OI.mk pl pl.length pe), (F
 x).n, (F x).ov), OI.mk (F x).xs (trM ((u1, u2, G, K, Ho, pe), (r, c, false, u3, u4), oe, RC.mk l oe ep, (qe, fr, n, ov), OI.mk xs m qe, OI.mk pl pl.length pe)) qe, OI.mk (F x).pl (F x).pl.length (F x).pe) (byteAt t x.toNat)).Ho = vB (F
 (IntKind.i64.wrap (x + (1 : Int)))).Ho ∧ SV.h 6 [(ctX (((), (), (F x).G, (F x).K, (F x).Ho, (F x).pe), ((F x).r, (F x).c, false, (), ()), oe, RC.mk (F x).l oe (F x).ep, (qe, trF ((u1, u2, G, K, Ho, pe), (r, c, false, u3, u4), oe, RC.mk l oe ep, (qe,
 fr, n, ov), OI.mk xs m qe, OI.mk pl pl.length pe), (F x).n, (F x).ov), OI.mk (F x).xs (trM ((u1, u2, G, K, Ho, pe), (r, c, false, u3, u4), oe, RC.mk l oe ep, (qe, fr, n, ov), OI.mk xs m qe, OI.mk pl pl.length pe)) qe, OI.mk (F x).pl (F x).pl.length
 (F x).pe) (byteAt t x.toNat)).pe, 0] = SV.h 6 [(F (IntKind.i64.wrap (x + (1 : Int)))).pe, 0] ∧ True) ∧ (vI (ctX (((), (), (F x).G, (F x).K, (F x).Ho, (F x).pe), ((F x).r, (F x).c, false, (), ()), oe, RC.mk (F x).l oe (F x).ep, (qe, trF ((u1, u2, G,
 K, Ho, pe), (r, c, false, u3, u4), oe, RC.mk l oe ep, (qe, fr, n, ov), OI.mk xs m qe, OI.mk pl pl.length pe), (F x).n, (F x).ov), OI.mk (F x).xs (trM ((u1, u2, G, K, Ho, pe), (r, c, false, u3, u4), oe, RC.mk l oe ep, (qe, fr, n, ov), OI.mk xs m qe,
 OI.mk pl pl.length pe)) qe, OI.mk (F x).pl (F x).pl.length (F x).pe) (byteAt t x.toNat)).r = vI (F (IntKind.i64.wrap (x + (1 : Int)))).r ∧ vI (ctX (((), (), (F x).G, (F x).K, (F x).Ho, (F x).pe), ((F x).r, (F x).c, false, (), ()), oe, RC.mk (F x).l
 oe (F x).ep, (qe, trF ((u1, u2, G, K, Ho, pe), (r, c, false, u3, u4), oe, RC.mk l oe ep, (qe, fr, n, ov), OI.mk xs m qe, OI.mk pl pl.length pe), (F x).n, (F x).ov), OI.mk (F x).xs (trM ((u1, u2, G, K, Ho, pe), (r, c, false, u3, u4), oe, RC.mk l oe
 ep, (qe, fr, n, ov), OI.mk xs m qe, OI.mk pl pl.length pe)) qe, OI.mk (F x).pl (F x).pl.length (F x).pe) (byteAt t x.toNat)).c = vI (F (IntKind.i64.wrap (x + (1 : Int)))).c ∧ vB false = vB false ∧ SV.p 2 0 = SV.p 2 0 ∧ True) ∧ (SV.h 3 [oe, 0] = SV.h
 3 [oe, 0] ∧ True) ∧ (oe = oe ∧ (ctX (((), (), (F x).G, (F x).K, (F x).Ho, (F x).pe), ((F x).r, (F x).c, false, (), ()), oe, RC.mk (F x).l oe (F x).ep, (qe, trF ((u1, u2, G, K, Ho, pe), (r, c, false, u3, u4), oe, RC.mk l oe ep, (qe, fr, n, ov), OI.mk
 xs m qe, OI.mk pl pl.length pe), (F x).n, (F x).ov), OI.mk (F x).xs (trM ((u1, u2, G, K, Ho, pe), (r, c, false, u3, u4), oe, RC.mk l oe ep, (qe, fr, n, ov), OI.mk xs m qe, OI.mk pl pl.length pe)) qe, OI.mk (F x).pl (F x).pl.length (F x).pe) (byteAt t
 x.toNat)).ep = (F (IntKind.i64.wrap (x + (1 : Int)))).ep ∧ (ctX (((), (), (F x).G, (F x).K, (F x).Ho, (F x).pe), ((F x).r, (F x).c, false, (), ()), oe, RC.mk (F x).l oe (F x).ep, (qe, trF ((u1, u2, G, K, Ho, pe), (r, c, false, u3, u4), oe, RC.mk l oe
 ep, (qe, fr, n, ov), OI.mk xs m qe, OI.mk pl pl.length pe), (F x).n, (F x).ov), OI.mk (F x).xs (trM ((u1, u2, G, K, Ho, pe), (r, c, false, u3, u4), oe, RC.mk l oe ep, (qe, fr, n, ov), OI.mk xs m qe, OI.mk pl pl.length pe)) qe, OI.mk (F x).pl (F
 x).pl.length (F x).pe) (byteAt t x.toNat)).l = (F (IntKind.i64.wrap (x + (1 : Int)))).l) ∧ (SV.h 5 [qe, 0] = SV.h 5 [qe, 0] ∧ vI (trF ((u1, u2, G, K, Ho, pe), (r, c, false, u3, u4), oe, RC.mk l oe ep, (qe, fr, n, ov), OI.mk xs m qe, OI.mk pl
 pl.length pe)) = vI (trF ((u1, u2, G, K, Ho, pe), (r, c, false, u3, u4), oe, RC.mk l oe ep, (qe, fr, n, ov), OI.mk xs m qe, OI.mk pl pl.length pe)) ∧ vI (ctX (((), (), (F x).G, (F x).K, (F x).Ho, (F x).pe), ((F x).r, (F x).c, false, (), ()), oe,
 RC.mk (F x).l oe (F x).ep, (qe, trF ((u1, u2, G, K, Ho, pe), (r, c, false, u3, u4), oe, RC.mk l oe ep, (qe, fr, n, ov), OI.mk xs m qe, OI.mk pl pl.length pe), (F x).n, (F x).ov), OI.mk (F x).xs (trM ((u1, u2, G, K, Ho, pe), (r, c, false, u3, u4), oe,
 RC.mk l oe ep, (qe, fr, n, ov), OI.mk xs m qe, OI.mk pl pl.length pe)) qe, OI.mk (F x).pl (F x).pl.length (F x).pe) (byteAt t x.toNat)).n = vI (F (IntKind.i64.wrap (x + (1 : Int)))).n ∧ vB (ctX (((), (), (F x).G, (F x).K, (F x).Ho, (F x).pe), ((F
 x).r, (F x).c, false, (), ()), oe, RC.mk (F x).l oe (F x).ep, (qe, trF ((u1, u2, G, K, Ho, pe), (r, c, false, u3, u4), oe, RC.mk l oe ep, (qe, fr, n, ov), OI.mk xs m qe, OI.mk pl pl.length pe), (F x).n, (F x).ov), OI.mk (F x).xs (trM ((u1, u2, G, K,
 Ho, pe), (r, c, false, u3, u4), oe, RC.mk l oe ep, (qe, fr, n, ov), OI.mk xs m qe, OI.mk pl pl.length pe)) qe, OI.mk (F x).pl (F x).pl.length (F x).pe) (byteAt t x.toNat)).ov = vB (F (IntKind.i64.wrap (x + (1 : Int)))).ov ∧ True) ∧ (trM ((u1, u2, G,
 K, Ho, pe), (r, c, false, u3, u4), oe, RC.mk l oe ep, (qe, fr, n, ov), OI.mk xs m qe, OI.mk pl pl.length pe) = trM ((u1, u2, G, K, Ho, pe), (r, c, false, u3, u4), oe, RC.mk l oe ep, (qe, fr, n, ov), OI.mk xs m qe, OI.mk pl pl.length pe) ∧ qe = qe ∧
 (ctX (((), (), (F x).G, (F x).K, (F x).Ho, (F x).pe), ((F x).r, (F x).c, false, (), ()), oe, RC.mk (F x).l oe (F x).ep, (qe, trF ((u1, u2, G, K, Ho, pe), (r, c, false, u3, u4), oe, RC.mk l oe ep, (qe, fr, n, ov), OI.mk xs m qe, OI.mk pl pl.length
 pe), (F x).n, (F x).ov), OI.mk (F x).xs (trM ((u1, u2, G, K, Ho, pe), (r, c, false, u3, u4), oe, RC.mk l oe ep, (qe, fr, n, ov), OI.mk xs m qe, OI.mk pl pl.length pe)) qe, OI.mk (F x).pl (F x).pl.length (F x).pe) (byteAt t x.toNat)).xs = (F
 (IntKind.i64.wrap (x + (1 : Int)))).xs) ∧ ((ctX (((), (), (F x).G, (F x).K, (F x).Ho, (F x).pe), ((F x).r, (F x).c, false, (), ()), oe, RC.mk (F x).l oe (F x).ep, (qe, trF ((u1, u2, G, K, Ho, pe), (r, c, false, u3, u4), oe, RC.mk l oe ep, (qe, fr, n,
 ov), OI.mk xs m qe, OI.mk pl pl.length pe), (F x).n, (F x).ov), OI.mk (F x).xs (trM ((u1, u2, G, K, Ho, pe), (r, c, false, u3, u4), oe, RC.mk l oe ep, (qe, fr, n, ov), OI.mk xs m qe, OI.mk pl pl.length pe)) qe, OI.mk (F x).pl (F x).pl.length (F
 x).pe) (byteAt t x.toNat)).pl.length = (F (IntKind.i64.wrap (x + (1 : Int)))).pl.length ∧ (ctX (((), (), (F x).G, (F x).K, (F x).Ho, (F x).pe), ((F x).r, (F x).c, false, (), ()), oe, RC.mk (F x).l oe (F x).ep, (qe, trF ((u1, u2, G, K, Ho, pe), (r, c,
 false, u3, u4), oe, RC.mk l oe ep, (qe, fr, n, ov), OI.mk xs m qe, OI.mk pl pl.length pe), (F x).n, (F x).ov), OI.mk (F x).xs (trM ((u1, u2, G, K, Ho, pe), (r, c, false, u3, u4), oe, RC.mk l oe ep, (qe, fr, n, ov), OI.mk xs m qe, OI.mk pl pl.length
 pe)) qe, OI.mk (F x).pl (F x).pl.length (F x).pe) (byteAt t x.toNat)).pe = (F (IntKind.i64.wrap (x + (1 : Int)))).pe ∧ (ctX (((), (), (F x).G, (F x).K, (F x).Ho, (F x).pe), ((F x).r, (F x).c, false, (), ()), oe, RC.mk (F x).l oe (F x).ep, (qe, trF
 ((u1, u2, G, K, Ho, pe), (r, c, false, u3, u4), oe, RC.mk l oe ep, (qe, fr, n, ov), OI.mk xs m qe, OI.mk pl pl.length pe), (F x).n, (F x).ov), OI.mk (F x).xs (trM ((u1, u2, G, K, Ho, pe), (r, c, false, u3, u4), oe, RC.mk l oe ep, (qe, fr, n, ov),
 OI.mk xs m qe, OI.mk pl pl.length pe)) qe, OI.mk (F x).pl (F x).pl.length (F x).pe) (byteAt t x.toNat)).pl = (F (IntKind.i64.wrap (x + (1 : Int)))).pl) ∧ (SV.p 0 0 = SV.p 0 0 ∧ True) ∧ (SV.p 0 0 = SV.p 0 0 ∧ True) ∧ (vS t = vS t ∧ True) ∧
 Obj.deferred (some []) = Obj.deferred (some []) ∧ ((SV.p 7 0 = SV.p 7 0 ∧ True) ∧ #[(10 : Nat)] = #[(10 : Nat)] ∧ codeAt Tryz.f10 [1, 1, 1, 0, 0] = codeAt Tryz.f10 [1, 1, 1, 0, 0] ∧ codeAt Tryz.f10 [1, 1, 1, 0, 1] = codeAt Tryz.f10 [1, 1, 1, 0, 1]) ∧
 True) ∧ ((↑t.size : Int) - IntKind.i64.wrap (x + (1 : Int))).toNat < ((↑t.size : Int) - x).toNat))))))))) ((SV.t [] = SV.t [] ∧ True) ∧ (SV.p 1 0 = SV.p 1 0 ∧ SV.p 4 0 = SV.p 4 0 ∧ vB (F x).G = vB (fdX ((u1, u2, G, K, Ho, pe), (r, c, false, u3, u4),
 oe, RC.mk l oe ep, (qe, fr, n, ov), OI.mk xs m qe, OI.mk pl pl.length pe) t).G ∧ vB (F x).K = vB (fdX ((u1, u2, G, K, Ho, pe), (r, c, false, u3, u4), oe, RC.mk l oe ep, (qe, fr, n, ov), OI.mk xs m qe, OI.mk pl pl.length pe) t).K ∧ vB (F x).Ho = vB
 (fdX ((u1, u2, G, K, Ho, pe), (r, c, false, u3, u4), oe, RC.mk l oe ep, (qe, fr, n, ov), OI.mk xs m qe, OI.mk pl pl.length pe) t).Ho ∧ SV.h 6 [(F x).pe, 0] = SV.h 6 [(fdX ((u1, u2, G, K, Ho, pe), (r, c, false, u3, u4), oe, RC.mk l oe ep, (qe, fr, n,
 ov), OI.mk xs m qe, OI.mk pl pl.length pe) t).pe, 0] ∧ True) ∧ (vI (F x).r = vI (fdX ((u1, u2, G, K, Ho, pe), (r, c, false, u3, u4), oe, RC.mk l oe ep, (qe, fr, n, ov), OI.mk xs m qe, OI.mk pl pl.length pe) t).r ∧ vI (F x).c = vI (fdX ((u1, u2, G, K,
 Ho, pe), (r, c, false, u3, u4), oe, RC.mk l oe ep, (qe, fr, n, ov), OI.mk xs m qe, OI.mk pl pl.length pe) t).c ∧ vB false = vB false ∧ SV.p 2 0 = SV.p 2 0 ∧ True) ∧ (SV.h 3 [oe, 0] = SV.h 3 [oe, 0] ∧ True) ∧ (oe = oe ∧ (F x).ep = (fdX ((u1, u2, G, K,
 Ho, pe), (r, c, false, u3, u4), oe, RC.mk l oe ep, (qe, fr, n, ov), OI.mk xs m qe, OI.mk pl pl.length pe) t).ep ∧ (F x).l = (fdX ((u1, u2, G, K, Ho, pe), (r, c, false, u3, u4), oe, RC.mk l oe ep, (qe, fr, n, ov), OI.mk xs m qe, OI.mk pl pl.length pe)
 t).l) ∧ (SV.h 5 [qe, 0] = SV.h 5 [qe, 0] ∧ vI (trF ((u1, u2, G, K, Ho, pe), (r, c, false, u3, u4), oe, RC.mk l oe ep, (qe, fr, n, ov), OI.mk xs m qe, OI.mk pl pl.length pe)) = vI fr ∧ vI (F x).n = vI (fdX ((u1, u2, G, K, Ho, pe), (r, c, false, u3,
 u4), oe, RC.mk l oe ep, (qe, fr, n, ov), OI.mk xs m qe, OI.mk pl pl.length pe) t).n ∧ vB (F x).ov = vB (fdX ((u1, u2, G, K, Ho, pe), (r, c, false, u3, u4), oe, RC.mk l oe ep, (qe, fr, n, ov), OI.mk xs m qe, OI.mk pl pl.length pe) t).ov ∧ True) ∧ (trM
 ((u1, u2, G, K, Ho, pe), (r, c, false, u3, u4), oe, RC.mk l oe ep, (qe, fr, n, ov), OI.mk xs m qe, OI.mk pl pl.length pe) = m ∧ qe = qe ∧ (F x).xs = (fdX ((u1, u2, G, K, Ho, pe), (r, c, false, u3, u4), oe, RC.mk l oe ep, (qe, fr, n, ov), OI.mk xs m
 qe, OI.mk pl pl.length pe) t).xs) ∧ ((F x).pl.length = (fdX ((u1, u2, G, K, Ho, pe), (r, c, false, u3, u4), oe, RC.mk l oe ep, (qe, fr, n, ov), OI.mk xs m qe, OI.mk pl pl.length pe) t).pl.length ∧ (F x).pe = (fdX ((u1, u2, G, K, Ho, pe), (r, c,
 false, u3, u4), oe, RC.mk l oe ep, (qe, fr, n, ov), OI.mk xs m qe, OI.mk pl pl.length pe) t).pe ∧ (F x).pl = (fdX ((u1, u2, G, K, Ho, pe), (r, c, false, u3, u4), oe, RC.mk l oe ep, (qe, fr, n, ov), OI.mk xs m qe, OI.mk pl pl.length pe) t).pl) ∧
 True)) (fdF ((u1, u2, G, K, Ho, pe), (r, c, false, u3, u4), oe, RC.mk l oe ep, (qe, fr, n, ov), OI.mk xs m qe, OI.mk pl pl.length pe) t))) (by
   kernel_rfl) ?_
  clear hp hφ
  have hb := bytesL_range t
  generalize hF : fdF ((u1, u2, G, K, Ho, pe), (r, c, false, u3, u4), oe, RC.mk l oe ep, (qe, fr, n, ov), OI.mk xs m qe, OI.mk pl pl.length pe) t = F
  have eS : ∀ i : Int, 0 ≤ i → i < t.size → F (i + 1) = byT m fr (F i) (byteAt t i.toNat) := by subst hF; exact fun i h0 h1 => feedT_succ _ _ _ h0 h1
  have eT : ∀ i : Int, TI fr m (F i) := by subst hF; exact fun i => (tp_feed _ hI (byteR_take hb _)).ti
  have eE : F t.size = fdX ((u1, u2, G, K, Ho, pe), (r, c, false, u3, u4), oe, RC.mk l oe ep, (qe, fr, n, ov), OI.mk xs m qe, OI.mk pl pl.length pe) t := by subst hF; exact feedT_all _ _ _ _
  clear hF
  simp only [trM, trF, tmS]
  refine ⟨by simp, by simp, fun x hx => ?_⟩
  obtain ⟨hx0, hx1⟩ : (0 : Int) ≤ x ∧ (x : Int) ≤ t.size := hx
  have hT := eT x
  refine br_intro (fun hlt => ?_) (fun hge => ?_)
  · have hlt : x < (t.size : Int) := of_decide_eq_true hlt
    have e := eS x hx0 hlt
    have hbx := byteAt_range t x.toNat
    have hxr : (decide (0 ≤ x ∧ x < (t.size : Int))) = true := decide_eq_true ⟨hx0, hlt⟩
    rw [wrap64 (x := x + 1) (by omega) (by omega), e]
    have hmu : ((t.size : Int) - (x + 1)).toNat < ((t.size : Int) - x).toNat := by omega
    have hbd : 0 ≤ x + 1 ∧ x + 1 ≤ (t.size : Int) := by omega
    clear eS eT eE
    generalize byteAt t x.toNat = b at hbx ⊢
    generalize F x = s at hT ⊢
    obtain ⟨r, c, l, ep, G, K, Ho, n, ov, xs, pe, pl⟩ := s
    have hTA : TA (((), (), G, K, Ho, pe), (r, c, false, (), ()), oe, RC.mk l oe ep, (qe, fr, n, ov), OI.mk xs m qe, OI.mk pl pl.length pe) := ⟨rfl, rfl, rfl, rfl, rfl, hT⟩
    have hsq : sqX (((), (), G, K, Ho, pe), (r, c, false, (), ()), oe, RC.mk l oe ep, (qe, fr, n, ov), OI.mk xs m qe, OI.mk pl pl.length pe) b = sqT m fr ⟨r, c, l, ep, G, K, Ho, n, ov, xs, pe, pl⟩ b := rfl
    have hct : ctX (((), (), G, K, Ho, pe), (r, c, false, (), ()), oe, RC.mk l oe ep, (qe, fr, n, ov), OI.mk xs m qe, OI.mk pl pl.length pe) b = ctT ⟨r, c, l, ep, G, K, Ho, n, ov, xs, pe, pl⟩ b := rfl
    simp only [hsq, hct]
    have h27 : byT m fr ⟨r, c, l, ep, G, K, Ho, n, ov, xs, pe, pl⟩ b = if pl.length = 0 ∧ b > 126 then ⟨r, c, l, ep, G, K, Ho, n, ov, xs, pe, pl⟩ else if b = 27 then ⟨r, c, l, ep, G, K, Ho, n, ov, xs, pe + 1, [27]⟩ else if 0 < pl.length then sqT m fr
     ⟨r, c, l, ep, G, K, Ho, n, ov, xs, pe, pl⟩ b else if 32 ≤ b then puT ⟨r, c, l, ep, G, K, Ho, n, ov, xs, pe, pl⟩ b else ctT ⟨r, c, l, ep, G, K, Ho, n, ov, xs, pe, pl⟩ b := rfl
    generalize byT m fr ⟨r, c, l, ep, G, K, Ho, n, ov, xs, pe, pl⟩ b = B at h27 ⊢
    have hY : ∀ {P1 P2 P3 P4 : Prop}, ¬ (pl.length = 0 ∧ b > 126) → (b = 27 → B = ⟨r, c, l, ep, G, K, Ho, n, ov, xs, pe + 1, [27]⟩ → P1) → (0 < pl.length → B = sqT m fr ⟨r, c, l, ep, G, K, Ho, n, ov, xs, pe, pl⟩ b → P2) → (pl.length = 0 → B = puT ⟨r, c, l, ep, G, K, Ho, n, ov, xs, pe, pl⟩ b → P3) → (pl.length = 0 → B = ctT ⟨r, c, l, ep, G, K, Ho, n, ov, xs, pe, pl⟩ b → P4) →
        br (b == 27) P1 (rq (Nat.beq pe pe) (br (decide ((pl.length : Int) > 0)) P2 (br (decide (b ≥ 32)) P3 P4))) := by
      intro P1 P2 P3 P4 h1 q1 q2 q3 q4
      rw [if_neg h1] at h27
      refine br_intro (fun h3 => ?_) (fun h3 => rq_t (by simp) (br_intro (fun h4 => ?_) (fun h4 => br_intro (fun h5 => ?_) (fun h5 => ?_))))
      · have h3 : b = 27 := by simpa using h3
        exact q1 h3 (by rw [h27, if_pos h3])
      · have h3 : ¬ b = 27 := by simpa using h3
        have h4 : 0 < pl.length := by simpa using h4
        exact q2 h4 (by rw [h27, if_neg h3, if_pos h4])
      · have h3 : ¬ b = 27 := by simpa using h3
        have h4 : pl.length = 0 := by have : ¬ (pl.length : Int) > 0 := of_decide_eq_false h4; omega
        have h5 : b ≥ 32 := of_decide_eq_true h5
        exact q3 h4 (by rw [h27, if_neg h3, if_neg (by omega), if_pos h5])
      · have h3 : ¬ b = 27 := by simpa using h3
        have h4 : pl.length = 0 := by have : ¬ (pl.length : Int) > 0 := of_decide_eq_false h4; omega
        have h5 : ¬ b ≥ 32 := of_decide_eq_false h5
        exact q4 h4 (by rw [h27, if_neg h3, if_neg (by omega), if_neg h5])
    refine rq_t hxr (rq_t (by simp) (br_intro (fun h1 => br_intro (fun h2 => ?_) (fun h2 => rq_t hxr (hY ?_ ?_ ?_ ?_ ?_))) (fun h1 => rq_t hxr (hY ?_ ?_ ?_ ?_ ?_))))
    · have h1 : pl.length = 0 := by simpa using h1
      have h2 : b > 126 := of_decide_eq_true h2
      rw [if_pos ⟨h1, h2⟩] at h27
      clear hY hsq hct hTA
      subst h27
      simp [hmu, hbd]
    · have h2 : ¬ b > 126 := of_decide_eq_false h2
      exact fun h => h2 h.2
    · intro _ hB
      clear hY hsq hct hTA h27
      subst hB
      simp [hmu, hbd]
    · intro h5 hB
      clear hY hsq hct h27
      rw [hB]
      have h7 : 1 ≤ pl.length := h5
      simp [hTA, hmu, hbd, hbx, h7]
    · intro h5 hB
      clear hY hsq hct h27
      subst hB
      simp [puT, hTA, hmu, hbd, hbx]
    · intro h5 hB
      clear hY hsq hct h27
      subst hB
      simp [hTA, hmu, hbd, hbx]
    · have h1 : ¬ pl.length = 0 := by simpa using h1
      exact fun h => h1 h.1
    · intro _ hB
      clear hY hsq hct hTA h27
      subst hB
      simp [hmu, hbd]
    · intro h5 hB
      clear hY hsq hct h27
      rw [hB]
      have h7 : 1 ≤ pl.length := h5
      simp [hTA, hmu, hbd, hbx, h7]
    · intro h5 hB
      clear hY hsq hct h27
      subst hB
      simp [puT, hTA, hmu, hbd, hbx]
    · intro h5 hB
      clear hY hsq hct h27
      subst hB
      simp [hTA, hmu, hbd, hbx]
  · have hge : ¬ (x : Int) < (t.size : Int) := of_decide_eq_false hge
    obtain rfl : x = (t.size : Int) := by omega
    rw [eE]
    simp
end Go.Proofs.YtcbjgpkbfmmdpaaGreatDoor
namespace Go.Proofs.YtcbjgpkbfmmdpaaGreatDoor
open Go Go.Sym
def rsT (s : Tm) : Tm := moT (wpT { s with G := false, K := false, Ho := false, pl := [], pe := s.pe + 1 } 0 0 ((s.l.length : Int) - 1) ((nC s.l : Int) - 1)) 0 0
def lcTReset : ACon Unit := mkLC (decP (shOne (shP 0)) (shTm 0)) fun (_, x) => .ask (TA x) (.one (.t []) (tmE 0 x (rsT (tmS x))) [0, 1, 3, 6])
set_option maxHeartbeats 4000000 in
theorem ok_tReset : ∀ I : Sym.Inv Unit, LCOk I Tryz.prog 8 lcTReset := by
  refine lc_mk (fun (_, x) => allCfg Tryz.prog [] ((22, lcMove) :: tabT12) 0 [] [(137, annNil [0] false false false ((tmS x).pe + 1))]) (fun _ _ => allCfg_ok mixed trivial ⟨ok_move, tabT12_ok⟩) (fun _ => rfl) (n := 60) Tryz.func8 ?_
  intro ⟨_, ⟨_, _, G, K, Ho, pe⟩, ⟨r, c, p, _, _⟩, oe, ⟨l, oe2, ep⟩, ⟨qe, fr, n, ov⟩, ⟨xs, m, qe2⟩, ⟨pl, pn, pe2⟩⟩ hφ
  obtain ⟨⟨rfl, rfl, rfl, rfl, rfl, hI⟩, hp⟩ := id hφ
  refine kcast (B := ((True ∧ (SV.p 0 0 = SV.p 0 0 ∧ True) ∧ (SV.p 1 0 = SV.p 1 0 ∧ SV.p 4 0 = SV.p 4 0 ∧ vB false = vB false ∧ vB false = vB false ∧ vB false = vB false ∧ SV.h 6 [pe + 1, 0] = SV.h 6 [pe + 1, 0] ∧ True) ∧ (vI r = vI r ∧ vI c = vI c ∧ vB false = vB false
 ∧ SV.p 2 0 = SV.p 2 0 ∧ True) ∧ (SV.h 3 [oe, 0] = SV.h 3 [oe, 0] ∧ True) ∧ (oe = oe ∧ ep = ep ∧ l = l) ∧ (SV.h 5 [qe, 0] = SV.h 5 [qe, 0] ∧ vI fr = vI fr ∧ vI n = vI n ∧ vB ov = vB ov ∧ True) ∧ (m = m ∧ qe = qe ∧ xs = xs) ∧ ((0 : Nat) = (0 : Nat) ∧
 pe + 1 = pe + 1 ∧ LI [] = LI []) ∧ True) ∧ ∀ (x : Nat), True → true = true ∧ TA (((), (), false, false, false, pe + 1), (r, c, false, (), ()), oe, RC.mk l oe ep, (qe, fr, n, ov), OI.mk xs m qe, OI.mk (LI []) (0 : Nat) (pe + 1)) ∧ true = true ∧ TA
 (((), (), false, false, false, pe + 1), (r, c, false, (), ()), oe, RC.mk l oe ep, (qe, fr, n, ov), OI.mk xs m qe, OI.mk (LI []) (LI []).length (pe + 1)) ∧ true = true ∧ (oe = oe ∧ GW (wiL l (nearI (0 : Int) (↑l.length : Int)) (nearI (0 : Int) (↑(nC
 l) : Int)) (nearI ((↑l.length : Int) - (1 : Int)) (↑l.length : Int)) (nearI ((↑(nC l) : Int) - (1 : Int)) (↑(nC l) : Int)) blankC false)) ∧ (SV.t [] = SV.t [] ∧ True) ∧ (SV.p 1 0 = SV.p 1 0 ∧ SV.p 4 0 = SV.p 4 0 ∧ vB false = vB false ∧ vB false = vB
 false ∧ vB false = vB false ∧ SV.h 6 [pe + 1, 0] = SV.h 6 [pe + 1, 0] ∧ True) ∧ (vI (nearI (0 : Int) (↑(wiL l (nearI (0 : Int) (↑l.length : Int)) (nearI (0 : Int) (↑(nC l) : Int)) (nearI ((↑l.length : Int) - (1 : Int)) (↑l.length : Int)) (nearI
 ((↑(nC l) : Int) - (1 : Int)) (↑(nC l) : Int)) blankC false).length : Int)) = vI (nearI (0 : Int) (↑(wiL l (nearI (0 : Int) (↑l.length : Int)) (nearI (0 : Int) (↑(nC l) : Int)) (nearI ((↑l.length : Int) - (1 : Int)) (↑l.length : Int)) (nearI ((↑(nC
 l) : Int) - (1 : Int)) (↑(nC l) : Int)) blankC false).length : Int)) ∧ vI (nearI (0 : Int) (↑(nC (wiL l (nearI (0 : Int) (↑l.length : Int)) (nearI (0 : Int) (↑(nC l) : Int)) (nearI ((↑l.length : Int) - (1 : Int)) (↑l.length : Int)) (nearI ((↑(nC l) :
 Int) - (1 : Int)) (↑(nC l) : Int)) blankC false)) : Int)) = vI (nearI (0 : Int) (↑(nC (wiL l (nearI (0 : Int) (↑l.length : Int)) (nearI (0 : Int) (↑(nC l) : Int)) (nearI ((↑l.length : Int) - (1 : Int)) (↑l.length : Int)) (nearI ((↑(nC l) : Int) - (1
 : Int)) (↑(nC l) : Int)) blankC false)) : Int)) ∧ vB false = vB false ∧ SV.p 2 0 = SV.p 2 0 ∧ True) ∧ (SV.h 3 [oe, 0] = SV.h 3 [oe, 0] ∧ True) ∧ (oe = oe ∧ ep = ep ∧ wiL l (nearI (0 : Int) (↑l.length : Int)) (nearI (0 : Int) (↑(nC l) : Int)) (nearI
 ((↑l.length : Int) - (1 : Int)) (↑l.length : Int)) (nearI ((↑(nC l) : Int) - (1 : Int)) (↑(nC l) : Int)) blankC false = wiL l (nearI (0 : Int) (↑l.length : Int)) (nearI (0 : Int) (↑(nC l) : Int)) (nearI ((↑l.length : Int) - (1 : Int)) (↑l.length :
 Int)) (nearI ((↑(nC l) : Int) - (1 : Int)) (↑(nC l) : Int)) blankC false) ∧ (SV.h 5 [qe, 0] = SV.h 5 [qe, 0] ∧ vI fr = vI fr ∧ vI n = vI n ∧ vB ov = vB ov ∧ True) ∧ (m = m ∧ qe = qe ∧ xs = xs) ∧ ((LI []).length = (LI []).length ∧ pe + 1 = pe + 1 ∧ LI
 [] = LI []) ∧ True)) (by kernel_rfl) ?_
  clear hp hφ
  have hT : TA (((), (), false, false, false, pe + 1), (r, c, false, (), ()), oe, RC.mk l oe ep, (qe, fr, n, ov), OI.mk xs m qe, OI.mk [] 0 (pe + 1)) := ⟨rfl, rfl, rfl, rfl, rfl, hI.gw, hI.r0, hI.r1, hI.c0, hI.c1, hI.q, by simp, fun x hx => by simp at hx⟩
  have hg := hI.gw
  simp only at hg
  have hg2 := fun a b c d => (wi_gw hg a b c d blankC false).1
  simp [hT, hg2]
def lcTModes : ACon Unit := mkLC (decP (shOne (shP 0)) (shTm 0)) fun (_, x) => .ask (TA x) (.one (.a [.v (.bool (tmS x).G), .v (.bool (tmS x).K), .v (.bool (tmS x).Ho)]) (tmE 0 x (tmS x)) [])
set_option maxHeartbeats 4000000 in
theorem ok_tModes : ∀ I : Sym.Inv Unit, LCOk I Tryz.prog 31 lcTModes := by
  refine lc_mk (fun _ => allCfg Tryz.prog [] tabT12 0) (fun _ _ => allCfg_ok mixed trivial tabT12_ok) (fun _ => rfl) (n := 60) Tryz.func31 ?_
  intro ⟨_, ⟨_, _, G, K, Ho, pe⟩, ⟨r, c, p, _, _⟩, oe, ⟨l, oe2, ep⟩, ⟨qe, fr, n, ov⟩, ⟨xs, m, qe2⟩, ⟨pl, pn, pe2⟩⟩ hφ
  obtain ⟨⟨rfl, rfl, rfl, rfl, rfl, hI⟩, hp⟩ := id hφ
  refine kcast (B := ((SV.a [vB G, vB K, vB Ho] = SV.a [vB G, vB K, vB Ho] ∧ True) ∧ (SV.p 1 0 = SV.p 1 0 ∧ SV.p 4 0 = SV.p 4 0 ∧ vB G = vB G ∧ vB K = vB K ∧ vB Ho = vB Ho ∧ SV.h 6 [pe, 0] = SV.h 6 [pe, 0] ∧ True) ∧ (vI r = vI r ∧ vI c = vI c ∧ vB false = vB false ∧ SV.p
 2 0 = SV.p 2 0 ∧ True) ∧ (SV.h 3 [oe, 0] = SV.h 3 [oe, 0] ∧ True) ∧ (oe = oe ∧ ep = ep ∧ l = l) ∧ (SV.h 5 [qe, 0] = SV.h 5 [qe, 0] ∧ vI fr = vI fr ∧ vI n = vI n ∧ vB ov = vB ov ∧ True) ∧ (m = m ∧ qe = qe ∧ xs = xs) ∧ (pl.length = pl.length ∧ pe = pe
 ∧ pl = pl) ∧ True)) (by kernel_rfl) ?_
  simp
def lcTPend : ACon Unit := mkLC (decP (shOne (shP 0)) (shTm 0)) fun (_, x) => .ask (TA x) (.one (.v (.string (bytesOf (tmS x).pl))) (tmE 0 x (tmS x)) [])
set_option maxHeartbeats 4000000 in
theorem ok_tPend : ∀ I : Sym.Inv Unit, LCOk I Tryz.prog 32 lcTPend := by
  refine lc_mk (fun _ => allCfg Tryz.prog [] tabT12 0) (fun _ _ => allCfg_ok mixed trivial tabT12_ok) (fun _ => rfl) (n := 60) Tryz.func32 ?_
  intro ⟨_, ⟨_, _, G, K, Ho, pe⟩, ⟨r, c, p, _, _⟩, oe, ⟨l, oe2, ep⟩, ⟨qe, fr, n, ov⟩, ⟨xs, m, qe2⟩, ⟨pl, pn, pe2⟩⟩ hφ
  obtain ⟨⟨rfl, rfl, rfl, rfl, rfl, hI⟩, hp⟩ := id hφ
  refine kcast (B := (rq (pe.beq pe && true && pl.length.beq pl.length) ((vS (bytesOf pl) = vS (bytesOf pl) ∧ True) ∧ (SV.p 1 0 = SV.p 1 0 ∧ SV.p 4 0 = SV.p 4 0 ∧ vB G = vB G ∧ vB K = vB K ∧ vB Ho = vB Ho ∧ SV.h 6 [pe, 0] = SV.h 6 [pe, 0] ∧ True) ∧ (vI r = vI r ∧ vI c =
 vI c ∧ vB false = vB false ∧ SV.p 2 0 = SV.p 2 0 ∧ True) ∧ (SV.h 3 [oe, 0] = SV.h 3 [oe, 0] ∧ True) ∧ (oe = oe ∧ ep = ep ∧ l = l) ∧ (SV.h 5 [qe, 0] = SV.h 5 [qe, 0] ∧ vI fr = vI fr ∧ vI n = vI n ∧ vB ov = vB ov ∧ True) ∧ (m = m ∧ qe = qe ∧ xs = xs) ∧
 (pl.length = pl.length ∧ pe = pe ∧ pl = pl) ∧ True))) (by kernel_rfl) ?_
  simp [nbeq, rq_iff]
theorem newL_gridF (R C : Nat) (x : C4) : newL R C x = gridF R C fun _ _ => x := by
  unfold newL gridF
  apply List.ext_getElem
  · simp
  · intro i h1 h2
    simp only [List.getElem_replicate, List.getElem_map]
    apply List.ext_getElem <;> simp
theorem newL_gw {R D : Nat} {x : C4} (h0 : 1 ≤ R) (h1 : R ≤ 255) (h2 : 1 ≤ D) (h3 : D ≤ 255) : GW (newL R D x) := by rw [newL_gridF]; exact gridF_gw h0 h1 h2 h3
theorem newL_length (R D : Nat) (x : C4) : (newL R D x).length = R := by rw [newL_gridF, gridF_length]
theorem newL_nC {R D : Nat} {x : C4} (h0 : 1 ≤ R) : nC (newL R D x) = D := by rw [newL_gridF]; exact gridF_nC (by omega)
def newT (a b m : Int) : Tm := ⟨0, 0, newL a.toNat b.toNat blankC, a.toNat + 1, false, false, false, 0, false, List.replicate m.toNat 0, 0, []⟩
theorem newT_ti {a b m : Int} (hm : mayB a b = true) (h0 : 0 ≤ m) (h1 : m ≤ 4096) : TI 0 m.toNat (newT a b m) := by
  have hb := mayB_iff.1 hm
  have e1 := newL_length a.toNat b.toNat blankC
  have e2 := newL_nC (R := a.toNat) (D := b.toNat) (x := blankC) (by omega)
  refine ⟨newL_gw (by omega) (by omega) (by omega) (by omega), Int.le_refl 0, ?_, Int.le_refl 0, ?_, ⟨by simp [newT], by omega, Int.le_refl 0, by omega, Int.le_refl 0, by simp only [newT]; omega, fun x hx => ?_⟩, by simp [newT], fun x hx => by simp [newT] at hx⟩
  · simp only [newT]; rw [e1]; omega
  · simp only [newT]; rw [e2]; omega
  · simp only [newT, List.mem_replicate] at hx; omega
def tabW12 : List (Nat × ACon Unit) := (6, lcMade) :: (10, lcTFeed) :: (15, lcSAt) :: (16, lcCur) :: []
theorem tabW12_ok : LCs Tryz.prog tabW12 := ⟨ok_made, ok_tFeed, ok_sAt, ok_cur, trivial⟩
def lcAwake : ACon Unit := mkLC (decP shNil shHNil) fun _ => .one (.v (.bool true)) [] []
set_option maxHeartbeats 4000000 in
theorem ok_awake : ∀ I : Sym.Inv Unit, LCOk I Tryz.prog 5 lcAwake := by
  refine lc_mk (fun _ => allCfg Tryz.prog [] tabW12 0) (fun _ _ => allCfg_ok mixed trivial tabW12_ok) (fun _ => rfl) (n := 80) Tryz.func5 ?_
  intro ⟨_, _⟩ hφ
  refine kcast (B := (true = true ∧ (true = true ∧ II (0 : Int) ≤ (10 : Int) ∧ II (10 : Int) ≤ (4096 : Int)) ∧ true = true ∧ (TA (((), (), false, false, false, (0 : Nat)), ((0 : Int), (0 : Int), false, (), ()), (11 : Nat), RC.mk (newL (10 : Nat) (20 : Nat) blankC) (11 :
 Nat) (11 : Nat), ((0 : Nat), (0 : Int), (0 : Int), false), OI.mk (LI [(0 : Int), (0 : Int), (0 : Int), (0 : Int), (0 : Int), (0 : Int), (0 : Int), (0 : Int), (0 : Int), (0 : Int)]) (10 : Nat) (0 : Nat), OI.mk (LI []) (0 : Nat) (0 : Nat)) ∧ (5 : Nat)
 ≤ (1099511627776 : Nat)) ∧ true = true ∧ ((11 : Nat) = (11 : Nat) ∧ GW [[blankC, blankC, blankC, blankC, blankC, blankC, blankC, blankC, blankC, blankC, blankC, blankC, blankC, blankC, blankC, blankC, blankC, blankC, blankC, blankC], [blankC, blankC,
 blankC, blankC, blankC, blankC, blankC, blankC, blankC, blankC, blankC, blankC, blankC, blankC, blankC, blankC, blankC, blankC, blankC, blankC], [blankC, blankC, blankC, blankC, blankC, blankC, blankC, blankC, blankC, blankC, blankC, blankC, blankC,
 blankC, blankC, blankC, blankC, blankC, blankC, blankC], [blankC, blankC, blankC, blankC, blankC, C4.mk (120 : Int) (0 : Int) false (0 : Int), blankC, blankC, blankC, blankC, blankC, blankC, blankC, blankC, blankC, blankC, blankC, blankC, blankC,
 blankC], [blankC, blankC, blankC, blankC, blankC, blankC, blankC, blankC, blankC, blankC, blankC, blankC, blankC, blankC, blankC, blankC, blankC, blankC, blankC, blankC], [blankC, blankC, blankC, blankC, blankC, blankC, blankC, blankC, blankC,
 blankC, blankC, blankC, blankC, blankC, blankC, blankC, blankC, blankC, blankC, blankC], [blankC, blankC, blankC, blankC, blankC, blankC, blankC, blankC, blankC, blankC, blankC, blankC, blankC, blankC, blankC, blankC, blankC, blankC, blankC, blankC],
 [blankC, blankC, blankC, blankC, blankC, blankC, blankC, blankC, blankC, blankC, blankC, blankC, blankC, blankC, blankC, blankC, blankC, blankC, blankC, blankC], [blankC, blankC, blankC, blankC, blankC, blankC, blankC, blankC, blankC, blankC, blankC,
 blankC, blankC, blankC, blankC, blankC, blankC, blankC, blankC, blankC], [blankC, blankC, blankC, blankC, blankC, blankC, blankC, blankC, blankC, blankC, blankC, blankC, blankC, blankC, blankC, blankC, blankC, blankC, blankC, blankC]] ∧ true = true)
 ∧ true = true ∧ (vB true = vB true ∧ True) ∧ True)) (by kernel_rfl) ?_
  have hT : TA (((), (), false, false, false, 0), (0, 0, false, (), ()), 11, RC.mk (newL 10 20 blankC) 11 11, (0, 0, 0, false), OI.mk [0, 0, 0, 0, 0, 0, 0, 0, 0, 0] 10 0, OI.mk [] 0 0) := ⟨rfl, rfl, rfl, rfl, rfl, newT_ti (a := 10) (b := 20) (m := 10) (by decide) (by decide) (by decide)⟩
  refine ⟨rfl, ⟨rfl, by decide, by decide⟩, rfl, ⟨hT, by decide⟩, rfl, ⟨rfl, ⟨by decide, by decide, by decide, by decide, by decide⟩, rfl⟩, rfl, ⟨rfl, trivial⟩, trivial⟩
theorem bytesL_getD {t : ByteArray} {j : Nat} (h : j < t.size) : (bytesL t).getD j 0 = byteAt t j := by
  have hl : j < t.data.toList.length := by simpa using h
  simp only [bytesL, byteAt, List.getD, List.getElem?_map, List.getElem?_eq_getElem hl, Option.map_some, Option.getD_some]
def tabL12 : List (Nat × ACon Unit) := (5, lcAwake) :: tabW12
theorem tabL12_ok : LCs Tryz.prog tabL12 := ⟨ok_awake, tabW12_ok⟩
def wOf (st : St Unit) (slot : Nat) : Nat := match st.tm[slot]? with
  | some (.p b _) => b - 11
  | _ => 0
def tmOf (w : Nat) (H : List (SB Unit)) : Option Tm :=
  match H[w + 10]?, H[w + 7]?, H[w + 4]?, H[w + 9]?, H[w + 8]?, H[w + 12]? with
  | some (.cells [_, _, .v (.bool G), .v (.bool K), .v (.bool Ho), .h _ [pe, _]] _), some (.cells [.v (.int _ r), .v (.int _ c), _, _, _] _), some (.rows (.c l) _ _ _ ep _), some (.cells [_, _, .v (.int _ n), .v (.bool ov)] _), some (.own (.ints _ xs) _ _ _ _ _), some (.own (.ints _ pl) _ _ _ _ _) =>
    some ⟨r, c, l, ep, G, K, Ho, n, ov, xs, pe, pl⟩
  | _, _, _, _, _, _ => none
def wmI (w oe qe m : Nat) (fr : Int) (s : Tm) : List (Nat × SB Unit) := [(w + 10, .cells [.p (w + 7) 0, .p (w + 9) 0, .v (.bool s.G), .v (.bool s.K), .v (.bool s.Ho), .h (w + 12) [s.pe, 0]] 63),
  (w + 7, .cells [.v (.int .i64 s.r), .v (.int .i64 s.c), .v (.bool false), .p (w + 3) 0, .any] 89), (w + 4, .rows (.c s.l) 45 105 oe s.ep none),
  (w + 9, .cells [.h (w + 8) [qe, 0], .v (.int .i64 fr), .v (.int .i64 s.n), .v (.bool s.ov)] 82), (w + 8, .own (.ints .u8 s.xs) m 5 1 qe true), (w + 12, .own (.ints .u8 s.pl) s.pl.length 5 1 s.pe false)]
end Go.Proofs.YtcbjgpkbfmmdpaaGreatDoor
