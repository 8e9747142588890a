/- What is wanted of the texts HbH, HbI, HbJ, HbQ, HbN, in one. -/
import Derived.Test.YtcbjgpkbfmmdpaaDoorHpNc
import Derived.Test.YtcbjgpkbfmmdpaaDoorHpNw
set_option linter.unusedSimpArgs false
set_option linter.unusedVariables false
set_option linter.unusedSectionVars false
namespace Go.Proofs.YtcbjgpkbfmmdpaaDoor
open Go Go.Sym
def byT (m : Nat) (fr : Int) (s : Tm) (b : Int) : Tm :=
  if s.pl.length = 0 ∧ b > 126 then s
  else if b = 27 then { s with pl := [27], pe := s.pe + 1 }
  else if 0 < s.pl.length then sqT m fr s b
  else if 32 ≤ b then puT s b
  else ctT s b
def feedT (m : Nat) (fr : Int) (s : Tm) (bs : List Int) : Tm := bs.foldl (byT m fr) s
structure TP (fr : Int) (m : Nat) (s s' : Tm) : Prop where
  ti : TI fr m s'
  le : s'.l.length = s.l.length
  nc : nC s'.l = nC s.l
theorem TP.refl {fr : Int} {m : Nat} {s : Tm} (h : TI fr m s) : TP fr m s s := ⟨h, rfl, rfl⟩
theorem TP.trans {fr : Int} {m : Nat} {s s' s'' : Tm} (h : TP fr m s s') (h' : TP fr m s' s'') : TP fr m s s'' := ⟨h'.ti, h'.le.trans h.le, h'.nc.trans h.nc⟩
section
variable {fr : Int} {m : Nat} {s : Tm}
theorem tp_cur (h : TI fr m s) {r c : Int} (h0 : 0 ≤ r) (h1 : r < s.l.length) (h2 : 0 ≤ c) (h3 : c < nC s.l) : TP fr m s { s with r := r, c := c } :=
  ⟨⟨h.gw, h0, h1, h2, h3, h.q, h.pl, h.pb⟩, rfl, rfl⟩
theorem tp_rows (h : TI fr m s) {l : List (List C4)} (hg : GW l ∧ l.length = s.l.length ∧ nC l = nC s.l) (ep : Nat) : TP fr m s { s with l := l, ep := ep } :=
  ⟨⟨hg.1, h.r0, by simpa only [hg.2.1] using h.r1, h.c0, by simpa only [hg.2.2] using h.c1, h.q, h.pl, h.pb⟩, hg.2.1, hg.2.2⟩
theorem tp_nil (h : TI fr m s) (pe : Nat) : TP fr m s { s with pl := [], pe := pe } :=
  ⟨⟨h.gw, h.r0, h.r1, h.c0, h.c1, h.q, by simp, fun x hx => by simp at hx⟩, rfl, rfl⟩
theorem rows0 (h : TI fr m s) : (1 : Int) ≤ s.l.length := by have := h.gw.r0; omega
theorem cols0 (h : TI fr m s) : (1 : Int) ≤ nC s.l := by have := h.gw.c0; omega
theorem tp_mo (h : TI fr m s) (x y : Int) : TP fr m s (moT s x y) := by
  have h1 := near_bd (x := x) (rows0 h)
  have h2 := near_bd (x := y) (cols0 h)
  exact tp_cur h h1.1 h1.2 h2.1 h2.2
theorem tp_st (h : TI fr m s) (x y : Int) : TP fr m s (stT s x y) := tp_mo h _ _
theorem tp_fd (h : TI fr m s) : TP fr m s (fdT s) := by
  have h1 := near_bd (x := s.r + 1) (rows0 h)
  have hg : GW (if s.r = (s.l.length : Int) - 1 then upF s.l 1 blankC else s.l) ∧ (if s.r = (s.l.length : Int) - 1 then upF s.l 1 blankC else s.l).length = s.l.length ∧ nC (if s.r = (s.l.length : Int) - 1 then upF s.l 1 blankC else s.l) = nC s.l := by
    split
    · exact upF_gw h.gw _ _
    · exact ⟨h.gw, rfl, rfl⟩
  exact (tp_cur h h1.1 h1.2 h.c0 h.c1).trans (tp_rows (tp_cur h h1.1 h1.2 h.c0 h.c1).ti hg (s.ep + 1))
theorem wi_gw {l : List (List C4)} (h : GW l) (a b c d : Int) (x : C4) (g : Bool) : GW (wiL l a b c d x g) ∧ (wiL l a b c d x g).length = l.length ∧ nC (wiL l a b c d x g) = nC l := by
  unfold wiL
  split
  · exact ⟨turnL_gw h, turnL_length, turnL_nC h⟩
  · exact ⟨h, rfl, rfl⟩
theorem tp_wp (h : TI fr m s) (a b c d : Int) : TP fr m s (wpT s a b c d) := tp_rows h (wi_gw h.gw _ _ _ _ _ _) s.ep
theorem tp_ta (h : TI fr m s) : TP fr m s (taT s) := by
  have h2 := near_bd (x := if s.c - s.c % 8 + 8 > (nC s.l : Int) - 1 then s.c + 1 else s.c - s.c % 8 + 8) (cols0 h)
  exact tp_cur h h.r0 h.r1 h2.1 h2.2
theorem tp_ix (h : TI fr m s) : TP fr m s (ixT s) := by
  have h1 := near_bd (x := s.r - 1) (rows0 h)
  have hg : GW (if s.r = 0 then upF s.l (-1) blankC else s.l) ∧ (if s.r = 0 then upF s.l (-1) blankC else s.l).length = s.l.length ∧ nC (if s.r = 0 then upF s.l (-1) blankC else s.l) = nC s.l := by
    split
    · exact upF_gw h.gw _ _
    · exact ⟨h.gw, rfl, rfl⟩
  exact (tp_cur h h1.1 h1.2 h.c0 h.c1).trans (tp_rows (tp_cur h h1.1 h1.2 h.c0 h.c1).ti hg (if s.r = 0 then s.ep + 1 else s.ep))
theorem tp_pl (h : TI fr m s) (x y : Int) : TP fr m s (plT s x y) := by
  have g1 := rows0 h
  have g2 := cols0 h
  have h0 := h.r0
  have h1 := h.r1
  have h2 := h.c0
  have h3 := h.c1
  refine tp_cur h ?_ ?_ ?_ ?_
  · split <;> omega
  · split <;> omega
  · split <;> (try split) <;> omega
  · split <;> (try split) <;> omega
theorem tp_pu (h : TI fr m s) (b : Int) : TP fr m s (puT s b) := by
  have h3 := h.c1
  have h2 := h.c0
  have hg : GW (set2 s.l s.r s.c ⟨glT s.G b, 0, false, 0⟩) ∧ (set2 s.l s.r s.c ⟨glT s.G b, 0, false, 0⟩).length = s.l.length ∧ nC (set2 s.l s.r s.c ⟨glT s.G b, 0, false, 0⟩) = nC s.l := by
    rw [set2_eq h.gw h.r0 h.r1 h.c0 h.c1]
    have := h.gw.r0
    exact ⟨gridF_gw h.gw.r0 h.gw.r1 h.gw.c0 h.gw.c1, gridF_length _ _ _, gridF_nC (by omega)⟩
  have hc : TP fr m s { s with r := s.r, c := if s.c + 1 < nC s.l then s.c + 1 else s.c } := tp_cur h h.r0 h.r1 (by split <;> omega) (by split <;> omega)
  exact hc.trans (tp_rows hc.ti hg s.ep)
theorem tp_z (h : TI fr m s) : TP fr m s (zT m fr s) := by
  unfold zT
  split
  · exact ⟨⟨h.gw, h.r0, h.r1, h.c0, h.c1, h.q, h.pl, h.pb⟩, rfl, rfl⟩
  · have hq := QWf.put [27, 47, 75] h.q (by simp only [List.length_cons, List.length_nil]; omega) (fun x hx => by simp at hx; omega)
    exact ⟨⟨h.gw, h.r0, h.r1, h.c0, h.c1, hq.1, h.pl, h.pb⟩, rfl, rfl⟩
theorem tp_md (h : TI fr m s) (G K Ho : Bool) : TP fr m s { s with G := G, K := K, Ho := Ho } :=
  ⟨⟨h.gw, h.r0, h.r1, h.c0, h.c1, h.q, h.pl, h.pb⟩, rfl, rfl⟩
theorem tp_ite {p : Prop} [Decidable p] {a b : Tm} (ha : TP fr m s a) (hb : TP fr m s b) : TP fr m s (if p then a else b) := by
  split
  · exact ha
  · exact hb
theorem tp_two (h : TI fr m s) (b : Int) : TP fr m s (twoT m fr s b) := by
  unfold twoT
  repeat' (first | exact tp_z h | exact tp_wp h _ _ _ _ | refine tp_ite ?_ ?_)
  all_goals first
    | exact tp_st h _ _
    | exact tp_mo h _ _
    | exact tp_ix h
    | exact tp_wp h _ _ _ _
    | exact tp_z h
    | exact tp_md h _ _ _
    | exact TP.refl h
theorem tp_sq (h : TI fr m s) {b : Int} (hb : 0 ≤ b ∧ b ≤ 255) : TP fr m s (sqT m fr s b) := by
  unfold sqT
  split
  · rename_i hl
    refine ⟨⟨h.gw, h.r0, h.r1, h.c0, h.c1, h.q, ?_, byteR_append h.pb fun x hx => ?_⟩, rfl, rfl⟩
    · simp only [List.length_append, List.length_cons, List.length_nil]; omega
    · simp at hx; subst hx; exact hb
  · split
    · exact (tp_nil h _).trans (tp_two (tp_nil h _).ti b)
    · exact (tp_nil h _).trans (tp_pl (tp_nil h _).ti _ _)
theorem tp_ct (h : TI fr m s) (b : Int) : TP fr m s (ctT s b) := by
  unfold ctT
  repeat' (first | exact tp_z h | exact tp_wp h _ _ _ _ | refine tp_ite ?_ ?_)
  all_goals first
    | exact tp_st h _ _
    | exact tp_ta h
    | exact tp_fd h
    | exact tp_mo h _ _
    | exact TP.refl h
theorem tp_by (h : TI fr m s) {b : Int} (hb : 0 ≤ b ∧ b ≤ 255) : TP fr m s (byT m fr s b) := by
  unfold byT
  split
  · exact TP.refl h
  · split
    · exact ⟨⟨h.gw, h.r0, h.r1, h.c0, h.c1, h.q, by simp, fun x hx => by simp at hx; omega⟩, rfl, rfl⟩
    · split
      · exact tp_sq h hb
      · split
        · exact tp_pu h b
        · exact tp_ct h b
end
theorem tp_feed {fr : Int} {m : Nat} : ∀ (bs : List Int) {s : Tm}, TI fr m s → byteR bs → TP fr m s (feedT m fr s bs)
  | [], s, h, _ => TP.refl h
  | b :: bs, s, h, hb => by
    have h1 := tp_by h (hb b List.mem_cons_self)
    exact h1.trans (tp_feed bs h1.ti fun x hx => hb x (List.mem_cons_of_mem _ hx))
theorem feedT_append (m : Nat) (fr : Int) (s : Tm) (a b : List Int) : feedT m fr s (a ++ b) = feedT m fr (feedT m fr s a) b := by simp [feedT]
theorem feedT_succ (m : Nat) (fr : Int) (s : Tm) {t : ByteArray} {i : Int} (h0 : 0 ≤ i) (h : i < t.size) : feedT m fr s ((bytesL t).take (i + 1).toNat) = byT m fr (feedT m fr s ((bytesL t).take i.toNat)) (byteAt t i.toNat) := by
  rw [bytesL_take_succ h0 h, feedT_append]; rfl
theorem feedT_all (m : Nat) (fr : Int) (s : Tm) (t : ByteArray) : feedT m fr s ((bytesL t).take t.size) = feedT m fr s (bytesL t) := by
  rw [List.take_of_length_le (by rw [bytesL_length]; omega)]
end Go.Proofs.YtcbjgpkbfmmdpaaDoor
namespace Go.Proofs.YtcbjgpkbfmmdpaaDoor
open Go Go.Sym
def fdF (x : TR) (t : ByteArray) (i : Int) : Tm := feedT (trM x) (trF x) (tmS x) ((bytesL t).take i.toNat)
def annFd (j oe qe m : Nat) (fr : Int) (F : Int → Tm) (t : ByteArray) : Ann Unit where
  α := Int
  φ _ i := 0 ≤ i ∧ i ≤ t.size
  μ _ i := (t.size - i).toNat
  get st := getI st.tm 8
  f st i := tmpl [0, 1, 2, 7] [(8, .v (.int .i64 i))] (((tmI j oe qe m fr (F i)).zipIdx j).map (fun p => (p.2, p.1)) ++ [(getY st.tm 0, loopTm st.H (getY st.tm 0) [2] [])]) st
  fx st := match getC st.H j with
    | [_, _, _, _, _, .s b _ _ _] => [.adopt (j + 6) b]
    | _ => []
def tabV12 : List (Nat × ACon Unit) := (25, lcTSeq) :: (28, lcPlay4) :: (27, lcCtl) :: tabU12
theorem tabV12_ok : LCs Tryd.prog tabV12 := ⟨ok_tSeq, ok_play4, ok_ctl, tabU12_ok⟩
def fdX (x : TR) (t : ByteArray) : Tm := feedT (trM x) (trF x) (tmS x) (bytesL t)
def lcTFeed : ACon Unit := mkLC (decP (shCons (shP 0) (shOne shStr)) (shTm 0)) fun ((_, t), x) => .ask (TA x ∧ t.size ≤ 1099511627776) (.one (.t []) (tmE 0 x (fdX x t)) [0, 1, 3, 4, 5, 6])
set_option maxHeartbeats 4000000 in
theorem ok_tFeed : ∀ I : Sym.Inv Unit, LCOk I Tryd.prog 11 lcTFeed := by
  refine lc_mk (fun ((_, t), x) => allCfg Tryd.prog purT tabV12 0 [(129, annFd 0 x.2.2.1 x.2.2.2.2.1.1 (trM x) (trF x) (fdF x t) t)]) (fun _ _ => allCfg_ok mixed purT_ok tabV12_ok) (fun _ => rfl) (n := 90) Tryd.func11 ?_
  intro ⟨⟨u0, t⟩, ⟨u1, u2, G, K, Ho, pe⟩, ⟨r, c, p, u3, u4⟩, oe, ⟨l, oe2, ep⟩, ⟨qe, fr, n, ov⟩, ⟨xs, m, qe2⟩, ⟨pl, pn, pe2⟩⟩ hφ
  obtain ⟨⟨⟨rfl, rfl, rfl, rfl, rfl, hI⟩, hsz⟩, hp⟩ := id hφ
  refine kcast (B := ((fun F : Int → Tm => (II (0 : Int) ≤ (0 : Int) ∧ (0 : Int) ≤ (↑t.size : Int)) ∧ ((SV.y (11 : Nat) = SV.y (11 : Nat) ∧ SV.p (9 : Nat) (0 : Nat) = SV.p (9 : Nat) (0 : Nat) ∧ SV.p (8 : Nat) (0 : Nat) = SV.p (8 : Nat) (0 : Nat) ∧
   SV.v (Value.int IntKind.i64 (↑t.size : Int)) = SV.v (Value.int IntKind.i64 (↑t.size : Int)) ∧ SV.v (Value.int IntKind.i64 (0 : Int)) = SV.v (Value.int IntKind.i64 (0 : Int)) ∧ True) ∧ (SV.p (1 : Nat) (0 : Nat) = SV.p (1 : Nat) (0 : Nat) ∧ SV.p (4 :
   Nat) (0 : Nat) = SV.p (4 : Nat) (0 : Nat) ∧ SV.v (Value.bool G) = SV.v (Value.bool G) ∧ SV.v (Value.bool K) = SV.v (Value.bool K) ∧ SV.v (Value.bool Ho) = SV.v (Value.bool Ho) ∧ SV.h (6 : Nat) [pe, (0 : Nat)] = SV.h (6 : Nat) [pe, (0 : Nat)] ∧ True)
   ∧ (SV.v (Value.int IntKind.i64 r) = SV.v (Value.int IntKind.i64 r) ∧ SV.v (Value.int IntKind.i64 c) = SV.v (Value.int IntKind.i64 c) ∧ SV.v (Value.bool false) = SV.v (Value.bool false) ∧ SV.p (2 : Nat) (0 : Nat) = SV.p (2 : Nat) (0 : Nat) ∧ True) ∧
   (SV.h (3 : Nat) [oe, (0 : Nat)] = SV.h (3 : Nat) [oe, (0 : Nat)] ∧ True) ∧ (oe = oe ∧ ep = ep ∧ l = l) ∧ (SV.h (5 : Nat) [qe, (0 : Nat)] = SV.h (5 : Nat) [qe, (0 : Nat)] ∧ SV.v (Value.int IntKind.i64 fr) = SV.v (Value.int IntKind.i64 (trF ((u1, u2,
   G, K, Ho, pe), (r, c, false, u3, u4), oe, RC.mk l oe ep, (qe, fr, n, ov), OI.mk xs m qe, OI.mk pl pl.length pe))) ∧ SV.v (Value.int IntKind.i64 n) = SV.v (Value.int IntKind.i64 n) ∧ SV.v (Value.bool ov) = SV.v (Value.bool ov) ∧ True) ∧ (m = trM ((u1,
   u2, G, K, Ho, pe), (r, c, false, u3, u4), oe, RC.mk l oe ep, (qe, fr, n, ov), OI.mk xs m qe, OI.mk pl pl.length pe) ∧ qe = qe ∧ xs = xs) ∧ (pl.length = pl.length ∧ pe = pe ∧ pl = pl) ∧ (SV.p (0 : Nat) (0 : Nat) = SV.p (0 : Nat) (0 : Nat) ∧ True) ∧
   (SV.p (0 : Nat) (0 : Nat) = SV.p (0 : Nat) (0 : Nat) ∧ True) ∧ (SV.v (Value.string t) = SV.v (Value.string t) ∧ True) ∧ Obj.deferred (some []) = Obj.deferred (some []) ∧ ((SV.p (7 : Nat) (0 : Nat) = SV.p (7 : Nat) (0 : Nat) ∧ True) ∧ #[(10 : Nat)] =
   #[(10 : Nat)] ∧ codeAt Tryd.f11 [(1 : Nat), (1 : Nat), (1 : Nat), (0 : Nat), (0 : Nat)] = codeAt Tryd.f11 [(1 : Nat), (1 : Nat), (1 : Nat), (0 : Nat), (0 : Nat)] ∧ codeAt Tryd.f11 [(1 : Nat), (1 : Nat), (1 : Nat), (0 : Nat), (1 : Nat)] = codeAt
   Tryd.f11 [(1 : Nat), (1 : Nat), (1 : Nat), (0 : Nat), (1 : Nat)]) ∧ True) ∧ ∀ (x : Int), (0 : Int) ≤ x ∧ x ≤ (↑t.size : Int) → br (decide (x < (↑t.size : Int))) (rq (decide ((0 : Int) ≤ x ∧ x < (↑t.size : Int))) (rq ((F x).pe.beq (F x).pe) (br ((↑(F
   x).pl.length : Int) == (0 : Int)) (br (decide (byteAt t x.toNat > (126 : Int))) (((0 : Int) ≤ IntKind.i64.wrap (x + (1 : Int)) ∧ IntKind.i64.wrap (x + (1 : Int)) ≤ (↑t.size : Int)) ∧ ((SV.y (11 : Nat) = SV.y (11 : Nat) ∧ SV.p (9 : Nat) (0 : Nat) =
   SV.p (9 : Nat) (0 : Nat) ∧ SV.p (8 : Nat) (0 : Nat) = SV.p (8 : Nat) (0 : Nat) ∧ SV.v (Value.int IntKind.i64 (↑t.size : Int)) = SV.v (Value.int IntKind.i64 (↑t.size : Int)) ∧ SV.v (Value.int IntKind.i64 (IntKind.i64.wrap (x + (1 : Int)))) = SV.v
   (Value.int IntKind.i64 (IntKind.i64.wrap (x + (1 : Int)))) ∧ True) ∧ (SV.p (1 : Nat) (0 : Nat) = SV.p (1 : Nat) (0 : Nat) ∧ SV.p (4 : Nat) (0 : Nat) = SV.p (4 : Nat) (0 : Nat) ∧ SV.v (Value.bool (F x).G) = SV.v (Value.bool (F (IntKind.i64.wrap (x +
   (1 : Int)))).G) ∧ SV.v (Value.bool (F x).K) = SV.v (Value.bool (F (IntKind.i64.wrap (x + (1 : Int)))).K) ∧ SV.v (Value.bool (F x).Ho) = SV.v (Value.bool (F (IntKind.i64.wrap (x + (1 : Int)))).Ho) ∧ SV.h (6 : Nat) [(F x).pe, (0 : Nat)] = SV.h (6 :
   Nat) [(F (IntKind.i64.wrap (x + (1 : Int)))).pe, (0 : Nat)] ∧ True) ∧ (SV.v (Value.int IntKind.i64 (F x).r) = SV.v (Value.int IntKind.i64 (F (IntKind.i64.wrap (x + (1 : Int)))).r) ∧ SV.v (Value.int IntKind.i64 (F x).c) = SV.v (Value.int IntKind.i64
   (F (IntKind.i64.wrap (x + (1 : Int)))).c) ∧ SV.v (Value.bool false) = SV.v (Value.bool false) ∧ SV.p (2 : Nat) (0 : Nat) = SV.p (2 : Nat) (0 : Nat) ∧ True) ∧ (SV.h (3 : Nat) [oe, (0 : Nat)] = SV.h (3 : Nat) [oe, (0 : Nat)] ∧ True) ∧ (oe = oe ∧ (F
   x).ep = (F (IntKind.i64.wrap (x + (1 : Int)))).ep ∧ (F x).l = (F (IntKind.i64.wrap (x + (1 : Int)))).l) ∧ (SV.h (5 : Nat) [qe, (0 : Nat)] = SV.h (5 : Nat) [qe, (0 : Nat)] ∧ SV.v (Value.int IntKind.i64 (trF ((u1, u2, G, K, Ho, pe), (r, c, false, u3,
   u4), oe, RC.mk l oe ep, (qe, fr, n, ov), OI.mk xs m qe, OI.mk pl pl.length pe))) = SV.v (Value.int IntKind.i64 (trF ((u1, u2, G, K, Ho, pe), (r, c, false, u3, u4), oe, RC.mk l oe ep, (qe, fr, n, ov), OI.mk xs m qe, OI.mk pl pl.length pe))) ∧ SV.v
   (Value.int IntKind.i64 (F x).n) = SV.v (Value.int IntKind.i64 (F (IntKind.i64.wrap (x + (1 : Int)))).n) ∧ SV.v (Value.bool (F x).ov) = SV.v (Value.bool (F (IntKind.i64.wrap (x + (1 : Int)))).ov) ∧ True) ∧ (trM ((u1, u2, G, K, Ho, pe), (r, c, false,
   u3, u4), oe, RC.mk l oe ep, (qe, fr, n, ov), OI.mk xs m qe, OI.mk pl pl.length pe) = trM ((u1, u2, G, K, Ho, pe), (r, c, false, u3, u4), oe, RC.mk l oe ep, (qe, fr, n, ov), OI.mk xs m qe, OI.mk pl pl.length pe) ∧ qe = qe ∧ (F x).xs = (F
   (IntKind.i64.wrap (x + (1 : Int)))).xs) ∧ ((F x).pl.length = (F (IntKind.i64.wrap (x + (1 : Int)))).pl.length ∧ (F x).pe = (F (IntKind.i64.wrap (x + (1 : Int)))).pe ∧ (F x).pl = (F (IntKind.i64.wrap (x + (1 : Int)))).pl) ∧ (SV.p (0 : Nat) (0 : Nat) =
   SV.p (0 : Nat) (0 : Nat) ∧ True) ∧ (SV.p (0 : Nat) (0 : Nat) = SV.p (0 : Nat) (0 : Nat) ∧ True) ∧ (SV.v (Value.string t) = SV.v (Value.string t) ∧ True) ∧ Obj.deferred (some []) = Obj.deferred (some []) ∧ ((SV.p (7 : Nat) (0 : Nat) = SV.p (7 : Nat)
   (0 : Nat) ∧ True) ∧ #[(10 : Nat)] = #[(10 : Nat)] ∧ codeAt Tryd.f11 [(1 : Nat), (1 : Nat), (1 : Nat), (0 : Nat), (0 : Nat)] = codeAt Tryd.f11 [(1 : Nat), (1 : Nat), (1 : Nat), (0 : Nat), (0 : Nat)] ∧ codeAt Tryd.f11 [(1 : Nat), (1 : Nat), (1 : Nat),
   (0 : Nat), (1 : Nat)] = codeAt Tryd.f11 [(1 : Nat), (1 : Nat), (1 : Nat), (0 : Nat), (1 : Nat)]) ∧ True) ∧ ((↑t.size : Int) - IntKind.i64.wrap (x + (1 : Int))).toNat < ((↑t.size : Int) - x).toNat) (rq (decide ((0 : Int) ≤ x ∧ x < (↑t.size : Int)))
   (br (byteAt t x.toNat == (27 : Int)) (((0 : Int) ≤ IntKind.i64.wrap (x + (1 : Int)) ∧ IntKind.i64.wrap (x + (1 : Int)) ≤ (↑t.size : Int)) ∧ ((SV.y (11 : Nat) = SV.y (11 : Nat) ∧ SV.p (9 : Nat) (0 : Nat) = SV.p (9 : Nat) (0 : Nat) ∧ SV.p (8 : Nat) (0
   : Nat) = SV.p (8 : Nat) (0 : Nat) ∧ SV.v (Value.int IntKind.i64 (↑t.size : Int)) = SV.v (Value.int IntKind.i64 (↑t.size : Int)) ∧ SV.v (Value.int IntKind.i64 (IntKind.i64.wrap (x + (1 : Int)))) = SV.v (Value.int IntKind.i64 (IntKind.i64.wrap (x + (1
   : Int)))) ∧ True) ∧ (SV.p (1 : Nat) (0 : Nat) = SV.p (1 : Nat) (0 : Nat) ∧ SV.p (4 : Nat) (0 : Nat) = SV.p (4 : Nat) (0 : Nat) ∧ SV.v (Value.bool (F x).G) = SV.v (Value.bool (F (IntKind.i64.wrap (x + (1 : Int)))).G) ∧ SV.v (Value.bool (F x).K) = SV.v
   (Value.bool (F (IntKind.i64.wrap (x + (1 : Int)))).K) ∧ SV.v (Value.bool (F x).Ho) = SV.v (Value.bool (F (IntKind.i64.wrap (x + (1 : Int)))).Ho) ∧ SV.h (6 : Nat) [(F x).pe + (1 : Nat), (0 : Nat)] = SV.h (6 : Nat) [(F (IntKind.i64.wrap (x + (1 :
   Int)))).pe, (0 : Nat)] ∧ True) ∧ (SV.v (Value.int IntKind.i64 (F x).r) = SV.v (Value.int IntKind.i64 (F (IntKind.i64.wrap (x + (1 : Int)))).r) ∧ SV.v (Value.int IntKind.i64 (F x).c) = SV.v (Value.int IntKind.i64 (F (IntKind.i64.wrap (x + (1 :
   Int)))).c) ∧ SV.v (Value.bool false) = SV.v (Value.bool false) ∧ SV.p (2 : Nat) (0 : Nat) = SV.p (2 : Nat) (0 : Nat) ∧ True) ∧ (SV.h (3 : Nat) [oe, (0 : Nat)] = SV.h (3 : Nat) [oe, (0 : Nat)] ∧ True) ∧ (oe = oe ∧ (F x).ep = (F (IntKind.i64.wrap (x +
   (1 : Int)))).ep ∧ (F x).l = (F (IntKind.i64.wrap (x + (1 : Int)))).l) ∧ (SV.h (5 : Nat) [qe, (0 : Nat)] = SV.h (5 : Nat) [qe, (0 : Nat)] ∧ SV.v (Value.int IntKind.i64 (trF ((u1, u2, G, K, Ho, pe), (r, c, false, u3, u4), oe, RC.mk l oe ep, (qe, fr, n,
   ov), OI.mk xs m qe, OI.mk pl pl.length pe))) = SV.v (Value.int IntKind.i64 (trF ((u1, u2, G, K, Ho, pe), (r, c, false, u3, u4), oe, RC.mk l oe ep, (qe, fr, n, ov), OI.mk xs m qe, OI.mk pl pl.length pe))) ∧ SV.v (Value.int IntKind.i64 (F x).n) = SV.v
   (Value.int IntKind.i64 (F (IntKind.i64.wrap (x + (1 : Int)))).n) ∧ SV.v (Value.bool (F x).ov) = SV.v (Value.bool (F (IntKind.i64.wrap (x + (1 : Int)))).ov) ∧ True) ∧ (trM ((u1, u2, G, K, Ho, pe), (r, c, false, u3, u4), oe, RC.mk l oe ep, (qe, fr, n,
   ov), OI.mk xs m qe, OI.mk pl pl.length pe) = trM ((u1, u2, G, K, Ho, pe), (r, c, false, u3, u4), oe, RC.mk l oe ep, (qe, fr, n, ov), OI.mk xs m qe, OI.mk pl pl.length pe) ∧ qe = qe ∧ (F x).xs = (F (IntKind.i64.wrap (x + (1 : Int)))).xs) ∧ ((1 : Nat)
   = (F (IntKind.i64.wrap (x + (1 : Int)))).pl.length ∧ (F x).pe + (1 : Nat) = (F (IntKind.i64.wrap (x + (1 : Int)))).pe ∧ LI [(27 : Int)] = (F (IntKind.i64.wrap (x + (1 : Int)))).pl) ∧ (SV.p (0 : Nat) (0 : Nat) = SV.p (0 : Nat) (0 : Nat) ∧ True) ∧
   (SV.p (0 : Nat) (0 : Nat) = SV.p (0 : Nat) (0 : Nat) ∧ True) ∧ (SV.v (Value.string t) = SV.v (Value.string t) ∧ True) ∧ Obj.deferred (some []) = Obj.deferred (some []) ∧ ((SV.p (7 : Nat) (0 : Nat) = SV.p (7 : Nat) (0 : Nat) ∧ True) ∧ #[(10 : Nat)] =
   #[(10 : Nat)] ∧ codeAt Tryd.f11 [(1 : Nat), (1 : Nat), (1 : Nat), (0 : Nat), (0 : Nat)] = codeAt Tryd.f11 [(1 : Nat), (1 : Nat), (1 : Nat), (0 : Nat), (0 : Nat)] ∧ codeAt Tryd.f11 [(1 : Nat), (1 : Nat), (1 : Nat), (0 : Nat), (1 : Nat)] = codeAt
   Tryd.f11 [(1 : Nat), (1 : Nat), (1 : Nat), (0 : Nat), (1 : Nat)]) ∧ True) ∧ ((↑t.size : Int) - IntKind.i64.wrap (x + (1 : Int))).toNat < ((↑t.size : Int) - x).toNat) (rq ((F x).pe.beq (F x).pe) (br (decide ((↑(F x).pl.length : Int) > (0 : Int)))
   (true = true ∧ (TA (((), (), (F x).G, (F x).K, (F x).Ho, (F x).pe), ((F x).r, (F x).c, false, (), ()), oe, RC.mk (F x).l oe (F x).ep, (qe, trF ((u1, u2, G, K, Ho, pe), (r, c, false, u3, u4), oe, RC.mk l oe ep, (qe, fr, n, ov), OI.mk xs m qe, OI.mk pl
   pl.length pe), (F x).n, (F x).ov), OI.mk (F x).xs (trM ((u1, u2, G, K, Ho, pe), (r, c, false, u3, u4), oe, RC.mk l oe ep, (qe, fr, n, ov), OI.mk xs m qe, OI.mk pl pl.length pe)) qe, OI.mk (F x).pl (F x).pl.length (F x).pe) ∧ (0 : Int) ≤ byteAt t
   x.toNat ∧ byteAt t x.toNat ≤ (255 : Int) ∧ (1 : Nat) ≤ (F x).pl.length) ∧ ((0 : Int) ≤ IntKind.i64.wrap (x + (1 : Int)) ∧ IntKind.i64.wrap (x + (1 : Int)) ≤ (↑t.size : Int)) ∧ ((SV.y (11 : Nat) = SV.y (11 : Nat) ∧ SV.p (9 : Nat) (0 : Nat) = SV.p (9 :
   Nat) (0 : Nat) ∧ SV.p (8 : Nat) (0 : Nat) = SV.p (8 : Nat) (0 : Nat) ∧ SV.v (Value.int IntKind.i64 (↑t.size : Int)) = SV.v (Value.int IntKind.i64 (↑t.size : Int)) ∧ SV.v (Value.int IntKind.i64 (IntKind.i64.wrap (x + (1 : Int)))) = SV.v (Value.int
   IntKind.i64 (IntKind.i64.wrap (x + (1 : Int)))) ∧ True) ∧ (SV.p (1 : Nat) (0 : Nat) = SV.p (1 : Nat) (0 : Nat) ∧ SV.p (4 : Nat) (0 : Nat) = SV.p (4 : Nat) (0 : Nat) ∧ SV.v (Value.bool (sqX (((), (), (F x).G, (F x).K, (F x).Ho, (F x).pe), ((F x).r, (F
   x).c, false, (), ()), oe, RC.mk (F x).l oe (F x).ep, (qe, trF ((u1, u2, G, K, Ho, pe), (r, c, false, u3, u4), oe, RC.mk l oe ep, (qe, fr, n, ov), OI.mk xs m qe, OI.mk pl pl.length pe), (F x).n, (F x).ov), OI.mk (F x).xs (trM ((u1, u2, G, K, Ho, pe),
   (r, c, false, u3, u4), oe, RC.mk l oe ep, (qe, fr, n, ov), OI.mk xs m qe, OI.mk pl pl.length pe)) qe, OI.mk (F x).pl (F x).pl.length (F x).pe) (byteAt t x.toNat)).G) = SV.v (Value.bool (F (IntKind.i64.wrap (x + (1 : Int)))).G) ∧ SV.v (Value.bool (sqX
   (((), (), (F x).G, (F x).K, (F x).Ho, (F x).pe), ((F x).r, (F x).c, false, (), ()), oe, RC.mk (F x).l oe (F x).ep, (qe, trF ((u1, u2, G, K, Ho, pe), (r, c, false, u3, u4), oe, RC.mk l oe ep, (qe, fr, n, ov), OI.mk xs m qe, OI.mk pl pl.length pe), (F
   x).n, (F x).ov), OI.mk (F x).xs (trM ((u1, u2, G, K, Ho, pe), (r, c, false, u3, u4), oe, RC.mk l oe ep, (qe, fr, n, ov), OI.mk xs m qe, OI.mk pl pl.length pe)) qe, OI.mk (F x).pl (F x).pl.length (F x).pe) (byteAt t x.toNat)).K) = SV.v (Value.bool (F
   (IntKind.i64.wrap (x + (1 : Int)))).K) ∧ SV.v (Value.bool (sqX (((), (), (F x).G, (F x).K, (F x).Ho, (F x).pe), ((F x).r, (F x).c, false, (), ()), oe, RC.mk (F x).l oe (F x).ep, (qe, trF ((u1, u2, G, K, Ho, pe), (r, c, false, u3, u4), oe, RC.mk l oe
   ep, (qe, fr, n, ov), OI.mk xs m qe, OI.mk pl pl.length pe), (F x).n, (F x).ov), OI.mk (F x).xs (trM ((u1, u2, G, K, Ho, pe), (r, c, false, u3, u4), oe, RC.mk l oe ep, (qe, fr, n, ov), OI.mk xs m qe, OI.mk pl pl.length pe)) qe, OI.mk (F x).pl (F
   x).pl.length (F x).pe) (byteAt t x.toNat)).Ho) = SV.v (Value.bool (F (IntKind.i64.wrap (x + (1 : Int)))).Ho) ∧ SV.h (6 : Nat) [(sqX (((), (), (F x).G, (F x).K, (F x).Ho, (F x).pe), ((F x).r, (F x).c, false, (), ()), oe, RC.mk (F x).l oe (F x).ep,
   (qe, trF ((u1, u2, G, K, Ho, pe), (r, c, false, u3, u4), oe, RC.mk l oe ep, (qe, fr, n, ov), OI.mk xs m qe, OI.mk pl pl.length pe), (F x).n, (F x).ov), OI.mk (F x).xs (trM ((u1, u2, G, K, Ho, pe), (r, c, false, u3, u4), oe, RC.mk l oe ep, (qe, fr, n,
   ov), OI.mk xs m qe, OI.mk pl pl.length pe)) qe, OI.mk (F x).pl (F x).pl.length (F x).pe) (byteAt t x.toNat)).pe, (0 : Nat)] = SV.h (6 : Nat) [(F (IntKind.i64.wrap (x + (1 : Int)))).pe, (0 : Nat)] ∧ True) ∧ (SV.v (Value.int IntKind.i64 (sqX (((), (),
   (F x).G, (F x).K, (F x).Ho, (F x).pe), ((F x).r, (F x).c, false, (), ()), oe, RC.mk (F x).l oe (F x).ep, (qe, trF ((u1, u2, G, K, Ho, pe), (r, c, false, u3, u4), oe, RC.mk l oe ep, (qe, fr, n, ov), OI.mk xs m qe, OI.mk pl pl.length pe), (F x).n, (F
   x).ov), OI.mk (F x).xs (trM ((u1, u2, G, K, Ho, pe), (r, c, false, u3, u4), oe, RC.mk l oe ep, (qe, fr, n, ov), OI.mk xs m qe, OI.mk pl pl.length pe)) qe, OI.mk (F x).pl (F x).pl.length (F x).pe) (byteAt t x.toNat)).r) = SV.v (Value.int IntKind.i64
   (F (IntKind.i64.wrap (x + (1 : Int)))).r) ∧ SV.v (Value.int IntKind.i64 (sqX (((), (), (F x).G, (F x).K, (F x).Ho, (F x).pe), ((F x).r, (F x).c, false, (), ()), oe, RC.mk (F x).l oe (F x).ep, (qe, trF ((u1, u2, G, K, Ho, pe), (r, c, false, u3, u4),
   oe, RC.mk l oe ep, (qe, fr, n, ov), OI.mk xs m qe, OI.mk pl pl.length pe), (F x).n, (F x).ov), OI.mk (F x).xs (trM ((u1, u2, G, K, Ho, pe), (r, c, false, u3, u4), oe, RC.mk l oe ep, (qe, fr, n, ov), OI.mk xs m qe, OI.mk pl pl.length pe)) qe, OI.mk (F
   x).pl (F x).pl.length (F x).pe) (byteAt t x.toNat)).c) = SV.v (Value.int IntKind.i64 (F (IntKind.i64.wrap (x + (1 : Int)))).c) ∧ SV.v (Value.bool false) = SV.v (Value.bool false) ∧ SV.p (2 : Nat) (0 : Nat) = SV.p (2 : Nat) (0 : Nat) ∧ True) ∧ (SV.h
   (3 : Nat) [oe, (0 : Nat)] = SV.h (3 : Nat) [oe, (0 : Nat)] ∧ True) ∧ (oe = oe ∧ (sqX (((), (), (F x).G, (F x).K, (F x).Ho, (F x).pe), ((F x).r, (F x).c, false, (), ()), oe, RC.mk (F x).l oe (F x).ep, (qe, trF ((u1, u2, G, K, Ho, pe), (r, c, false,
   u3, u4), oe, RC.mk l oe ep, (qe, fr, n, ov), OI.mk xs m qe, OI.mk pl pl.length pe), (F x).n, (F x).ov), OI.mk (F x).xs (trM ((u1, u2, G, K, Ho, pe), (r, c, false, u3, u4), oe, RC.mk l oe ep, (qe, fr, n, ov), OI.mk xs m qe, OI.mk pl pl.length pe)) qe,
   OI.mk (F x).pl (F x).pl.length (F x).pe) (byteAt t x.toNat)).ep = (F (IntKind.i64.wrap (x + (1 : Int)))).ep ∧ (sqX (((), (), (F x).G, (F x).K, (F x).Ho, (F x).pe), ((F x).r, (F x).c, false, (), ()), oe, RC.mk (F x).l oe (F x).ep, (qe, trF ((u1, u2,
   G, K, Ho, pe), (r, c, false, u3, u4), oe, RC.mk l oe ep, (qe, fr, n, ov), OI.mk xs m qe, OI.mk pl pl.length pe), (F x).n, (F x).ov), OI.mk (F x).xs (trM ((u1, u2, G, K, Ho, pe), (r, c, false, u3, u4), oe, RC.mk l oe ep, (qe, fr, n, ov), OI.mk xs m
   qe, OI.mk pl pl.length pe)) qe, OI.mk (F x).pl (F x).pl.length (F x).pe) (byteAt t x.toNat)).l = (F (IntKind.i64.wrap (x + (1 : Int)))).l) ∧ (SV.h (5 : Nat) [qe, (0 : Nat)] = SV.h (5 : Nat) [qe, (0 : Nat)] ∧ SV.v (Value.int IntKind.i64 (trF ((u1, u2,
   G, K, Ho, pe), (r, c, false, u3, u4), oe, RC.mk l oe ep, (qe, fr, n, ov), OI.mk xs m qe, OI.mk pl pl.length pe))) = SV.v (Value.int IntKind.i64 (trF ((u1, u2, G, K, Ho, pe), (r, c, false, u3, u4), oe, RC.mk l oe ep, (qe, fr, n, ov), OI.mk xs m qe,
   OI.mk pl pl.length pe))) ∧ SV.v (Value.int IntKind.i64 (sqX (((), (), (F x).G, (F x).K, (F x).Ho, (F x).pe), ((F x).r, (F x).c, false, (), ()), oe, RC.mk (F x).l oe (F x).ep, (qe, trF ((u1, u2, G, K, Ho, pe), (r, c, false, u3, u4), oe, RC.mk l oe ep,
   (qe, fr, n, ov), OI.mk xs m qe, OI.mk pl pl.length pe), (F x).n, (F x).ov), OI.mk (F x).xs (trM ((u1, u2, G, K, Ho, pe), (r, c, false, u3, u4), oe, RC.mk l oe ep, (qe, fr, n, ov), OI.mk xs m qe, OI.mk pl pl.length pe)) qe, OI.mk (F x).pl (F
   x).pl.length (F x).pe) (byteAt t x.toNat)).n) = SV.v (Value.int IntKind.i64 (F (IntKind.i64.wrap (x + (1 : Int)))).n) ∧ SV.v (Value.bool (sqX (((), (), (F x).G, (F x).K, (F x).Ho, (F x).pe), ((F x).r, (F x).c, false, (), ()), oe, RC.mk (F x).l oe (F
   x).ep, (qe, trF ((u1, u2, G, K, Ho, pe), (r, c, false, u3, u4), oe, RC.mk l oe ep, (qe, fr, n, ov), OI.mk xs m qe, OI.mk pl pl.length pe), (F x).n, (F x).ov), OI.mk (F x).xs (trM ((u1, u2, G, K, Ho, pe), (r, c, false, u3, u4), oe, RC.mk l oe ep, (qe,
   fr, n, ov), OI.mk xs m qe, OI.mk pl pl.length pe)) qe, OI.mk (F x).pl (F x).pl.length (F x).pe) (byteAt t x.toNat)).ov) = SV.v (Value.bool (F (IntKind.i64.wrap (x + (1 : Int)))).ov) ∧ True) ∧ (trM ((u1, u2, G, K, Ho, pe), (r, c, false, u3, u4), oe,
   RC.mk l oe ep, (qe, fr, n, ov), OI.mk xs m qe, OI.mk pl pl.length pe) = trM ((u1, u2, G, K, Ho, pe), (r, c, false, u3, u4), oe, RC.mk l oe ep, (qe, fr, n, ov), OI.mk xs m qe, OI.mk pl pl.length pe) ∧ qe = qe ∧ (sqX (((), (), (F x).G, (F x).K, (F
   x).Ho, (F x).pe), ((F x).r, (F x).c, false, (), ()), oe, RC.mk (F x).l oe (F x).ep, (qe, trF ((u1, u2, G, K, Ho, pe), (r, c, false, u3, u4), oe, RC.mk l oe ep, (qe, fr, n, ov), OI.mk xs m qe, OI.mk pl pl.length pe), (F x).n, (F x).ov), OI.mk (F x).xs
   (trM ((u1, u2, G, K, Ho, pe), (r, c, false, u3, u4), oe, RC.mk l oe ep, (qe, fr, n, ov), OI.mk xs m qe, OI.mk pl pl.length pe)) qe, OI.mk (F x).pl (F x).pl.length (F x).pe) (byteAt t x.toNat)).xs = (F (IntKind.i64.wrap (x + (1 : Int)))).xs) ∧ ((sqX
   (((), (), (F x).G, (F x).K, (F x).Ho, (F x).pe), ((F x).r, (F x).c, false, (), ()), oe, RC.mk (F x).l oe (F x).ep, (qe, trF ((u1, u2, G, K, Ho, pe), (r, c, false, u3, u4), oe, RC.mk l oe ep, (qe, fr, n, ov), OI.mk xs m qe, OI.mk pl pl.length pe), (F
   x).n, (F x).ov), OI.mk (F x).xs (trM ((u1, u2, G, K, Ho, pe), (r, c, false, u3, u4), oe, RC.mk l oe ep, (qe, fr, n, ov), OI.mk xs m qe, OI.mk pl pl.length pe)) qe, OI.mk (F x).pl (F x).pl.length (F x).pe) (byteAt t x.toNat)).pl.length = (F
   (IntKind.i64.wrap (x + (1 : Int)))).pl.length ∧ (sqX (((), (), (F x).G, (F x).K, (F x).Ho, (F x).pe), ((F x).r, (F x).c, false, (), ()), oe, RC.mk (F x).l oe (F x).ep, (qe, trF ((u1, u2, G, K, Ho, pe), (r, c, false, u3, u4), oe, RC.mk l oe ep, (qe,
   fr, n, ov), OI.mk xs m qe, OI.mk pl pl.length pe), (F x).n, (F x).ov), OI.mk (F x).xs (trM ((u1, u2, G, K, Ho, pe), (r, c, false, u3, u4), oe, RC.mk l oe ep, (qe, fr, n, ov), OI.mk xs m qe, OI.mk pl pl.length pe)) qe, OI.mk (F x).pl (F x).pl.length
   (F x).pe) (byteAt t x.toNat)).pe = (F (IntKind.i64.wrap (x + (1 : Int)))).pe ∧ (sqX (((), (), (F x).G, (F x).K, (F x).Ho, (F x).pe), ((F x).r, (F x).c, false, (), ()), oe, RC.mk (F x).l oe (F x).ep, (qe, trF ((u1, u2, G, K, Ho, pe), (r, c, false, u3,
   u4), oe, RC.mk l oe ep, (qe, fr, n, ov), OI.mk xs m qe, OI.mk pl pl.length pe), (F x).n, (F x).ov), OI.mk (F x).xs (trM ((u1, u2, G, K, Ho, pe), (r, c, false, u3, u4), oe, RC.mk l oe ep, (qe, fr, n, ov), OI.mk xs m qe, OI.mk pl pl.length pe)) qe,
   OI.mk (F x).pl (F x).pl.length (F x).pe) (byteAt t x.toNat)).pl = (F (IntKind.i64.wrap (x + (1 : Int)))).pl) ∧ (SV.p (0 : Nat) (0 : Nat) = SV.p (0 : Nat) (0 : Nat) ∧ True) ∧ (SV.p (0 : Nat) (0 : Nat) = SV.p (0 : Nat) (0 : Nat) ∧ True) ∧ (SV.v
   (Value.string t) = SV.v (Value.string t) ∧ True) ∧ Obj.deferred (some []) = Obj.deferred (some []) ∧ ((SV.p (7 : Nat) (0 : Nat) = SV.p (7 : Nat) (0 : Nat) ∧ True) ∧ #[(10 : Nat)] = #[(10 : Nat)] ∧ codeAt Tryd.f11 [(1 : Nat), (1 : Nat), (1 : Nat), (0
   : Nat), (0 : Nat)] = codeAt Tryd.f11 [(1 : Nat), (1 : Nat), (1 : Nat), (0 : Nat), (0 : Nat)] ∧ codeAt Tryd.f11 [(1 : Nat), (1 : Nat), (1 : Nat), (0 : Nat), (1 : Nat)] = codeAt Tryd.f11 [(1 : Nat), (1 : Nat), (1 : Nat), (0 : Nat), (1 : Nat)]) ∧ True)
   ∧ ((↑t.size : Int) - IntKind.i64.wrap (x + (1 : Int))).toNat < ((↑t.size : Int) - x).toNat) (br (decide (byteAt t x.toNat ≥ (32 : Int))) (true = true ∧ (TA (((), (), (F x).G, (F x).K, (F x).Ho, (F x).pe), ((F x).r, (F x).c, false, (), ()), oe, RC.mk
   (F x).l oe (F x).ep, (qe, trF ((u1, u2, G, K, Ho, pe), (r, c, false, u3, u4), oe, RC.mk l oe ep, (qe, fr, n, ov), OI.mk xs m qe, OI.mk pl pl.length pe), (F x).n, (F x).ov), OI.mk (F x).xs (trM ((u1, u2, G, K, Ho, pe), (r, c, false, u3, u4), oe, RC.mk
   l oe ep, (qe, fr, n, ov), OI.mk xs m qe, OI.mk pl pl.length pe)) qe, OI.mk (F x).pl (F x).pl.length (F x).pe) ∧ (0 : Int) ≤ byteAt t x.toNat ∧ byteAt t x.toNat ≤ (255 : Int)) ∧ ((0 : Int) ≤ IntKind.i64.wrap (x + (1 : Int)) ∧ IntKind.i64.wrap (x + (1
   : Int)) ≤ (↑t.size : Int)) ∧ ((SV.y (11 : Nat) = SV.y (11 : Nat) ∧ SV.p (9 : Nat) (0 : Nat) = SV.p (9 : Nat) (0 : Nat) ∧ SV.p (8 : Nat) (0 : Nat) = SV.p (8 : Nat) (0 : Nat) ∧ SV.v (Value.int IntKind.i64 (↑t.size : Int)) = SV.v (Value.int IntKind.i64
   (↑t.size : Int)) ∧ SV.v (Value.int IntKind.i64 (IntKind.i64.wrap (x + (1 : Int)))) = SV.v (Value.int IntKind.i64 (IntKind.i64.wrap (x + (1 : Int)))) ∧ True) ∧ (SV.p (1 : Nat) (0 : Nat) = SV.p (1 : Nat) (0 : Nat) ∧ SV.p (4 : Nat) (0 : Nat) = SV.p (4 :
   Nat) (0 : Nat) ∧ SV.v (Value.bool (F x).G) = SV.v (Value.bool (F (IntKind.i64.wrap (x + (1 : Int)))).G) ∧ SV.v (Value.bool (F x).K) = SV.v (Value.bool (F (IntKind.i64.wrap (x + (1 : Int)))).K) ∧ SV.v (Value.bool (F x).Ho) = SV.v (Value.bool (F
   (IntKind.i64.wrap (x + (1 : Int)))).Ho) ∧ SV.h (6 : Nat) [(F x).pe, (0 : Nat)] = SV.h (6 : Nat) [(F (IntKind.i64.wrap (x + (1 : Int)))).pe, (0 : Nat)] ∧ True) ∧ (SV.v (Value.int IntKind.i64 (F x).r) = SV.v (Value.int IntKind.i64 (F (IntKind.i64.wrap
   (x + (1 : Int)))).r) ∧ SV.v (Value.int IntKind.i64 (if (F x).c + (1 : Int) < (↑(nC (F x).l) : Int) then (F x).c + (1 : Int) else (F x).c)) = SV.v (Value.int IntKind.i64 (F (IntKind.i64.wrap (x + (1 : Int)))).c) ∧ SV.v (Value.bool false) = SV.v
   (Value.bool false) ∧ SV.p (2 : Nat) (0 : Nat) = SV.p (2 : Nat) (0 : Nat) ∧ True) ∧ (SV.h (3 : Nat) [oe, (0 : Nat)] = SV.h (3 : Nat) [oe, (0 : Nat)] ∧ True) ∧ (oe = oe ∧ (F x).ep = (F (IntKind.i64.wrap (x + (1 : Int)))).ep ∧ set2 (F x).l (F x).r (F
   x).c (C4.mk (glT (F x).G (byteAt t x.toNat)) (0 : Int) false (0 : Int)) = (F (IntKind.i64.wrap (x + (1 : Int)))).l) ∧ (SV.h (5 : Nat) [qe, (0 : Nat)] = SV.h (5 : Nat) [qe, (0 : Nat)] ∧ SV.v (Value.int IntKind.i64 (trF ((u1, u2, G, K, Ho, pe), (r, c,
   false, u3, u4), oe, RC.mk l oe ep, (qe, fr, n, ov), OI.mk xs m qe, OI.mk pl pl.length pe))) = SV.v (Value.int IntKind.i64 (trF ((u1, u2, G, K, Ho, pe), (r, c, false, u3, u4), oe, RC.mk l oe ep, (qe, fr, n, ov), OI.mk xs m qe, OI.mk pl pl.length pe)))
   ∧ SV.v (Value.int IntKind.i64 (F x).n) = SV.v (Value.int IntKind.i64 (F (IntKind.i64.wrap (x + (1 : Int)))).n) ∧ SV.v (Value.bool (F x).ov) = SV.v (Value.bool (F (IntKind.i64.wrap (x + (1 : Int)))).ov) ∧ True) ∧ (trM ((u1, u2, G, K, Ho, pe), (r, c,
   false, u3, u4), oe, RC.mk l oe ep, (qe, fr, n, ov), OI.mk xs m qe, OI.mk pl pl.length pe) = trM ((u1, u2, G, K, Ho, pe), (r, c, false, u3, u4), oe, RC.mk l oe ep, (qe, fr, n, ov), OI.mk xs m qe, OI.mk pl pl.length pe) ∧ qe = qe ∧ (F x).xs = (F
   (IntKind.i64.wrap (x + (1 : Int)))).xs) ∧ ((F x).pl.length = (F (IntKind.i64.wrap (x + (1 : Int)))).pl.length ∧ (F x).pe = (F (IntKind.i64.wrap (x + (1 : Int)))).pe ∧ (F x).pl = (F (IntKind.i64.wrap (x + (1 : Int)))).pl) ∧ (SV.p (0 : Nat) (0 : Nat) =
   SV.p (0 : Nat) (0 : Nat) ∧ True) ∧ (SV.p (0 : Nat) (0 : Nat) = SV.p (0 : Nat) (0 : Nat) ∧ True) ∧ (SV.v (Value.string t) = SV.v (Value.string t) ∧ True) ∧ Obj.deferred (some []) = Obj.deferred (some []) ∧ ((SV.p (7 : Nat) (0 : Nat) = SV.p (7 : Nat)
   (0 : Nat) ∧ True) ∧ #[(10 : Nat)] = #[(10 : Nat)] ∧ codeAt Tryd.f11 [(1 : Nat), (1 : Nat), (1 : Nat), (0 : Nat), (0 : Nat)] = codeAt Tryd.f11 [(1 : Nat), (1 : Nat), (1 : Nat), (0 : Nat), (0 : Nat)] ∧ codeAt Tryd.f11 [(1 : Nat), (1 : Nat), (1 : Nat),
   (0 : Nat), (1 : Nat)] = codeAt Tryd.f11 [(1 : Nat), (1 : Nat), (1 : Nat), (0 : Nat), (1 : Nat)]) ∧ True) ∧ ((↑t.size : Int) - IntKind.i64.wrap (x + (1 : Int))).toNat < ((↑t.size : Int) - x).toNat) (true = true ∧ true = true ∧ (TA (((), (), (F x).G,
   (F x).K, (F x).Ho, (F x).pe), ((F x).r, (F x).c, false, (), ()), oe, RC.mk (F x).l oe (F x).ep, (qe, trF ((u1, u2, G, K, Ho, pe), (r, c, false, u3, u4), oe, RC.mk l oe ep, (qe, fr, n, ov), OI.mk xs m qe, OI.mk pl pl.length pe), (F x).n, (F x).ov),
   OI.mk (F x).xs (trM ((u1, u2, G, K, Ho, pe), (r, c, false, u3, u4), oe, RC.mk l oe ep, (qe, fr, n, ov), OI.mk xs m qe, OI.mk pl pl.length pe)) qe, OI.mk (F x).pl (F x).pl.length (F x).pe) ∧ (0 : Int) ≤ byteAt t x.toNat ∧ byteAt t x.toNat ≤ (255 :
   Int)) ∧ ((0 : Int) ≤ IntKind.i64.wrap (x + (1 : Int)) ∧ IntKind.i64.wrap (x + (1 : Int)) ≤ (↑t.size : Int)) ∧ ((SV.y (11 : Nat) = SV.y (11 : Nat) ∧ SV.p (9 : Nat) (0 : Nat) = SV.p (9 : Nat) (0 : Nat) ∧ SV.p (8 : Nat) (0 : Nat) = SV.p (8 : Nat) (0 :
   Nat) ∧ SV.v (Value.int IntKind.i64 (↑t.size : Int)) = SV.v (Value.int IntKind.i64 (↑t.size : Int)) ∧ SV.v (Value.int IntKind.i64 (IntKind.i64.wrap (x + (1 : Int)))) = SV.v (Value.int IntKind.i64 (IntKind.i64.wrap (x + (1 : Int)))) ∧ True) ∧ (SV.p (1
   : Nat) (0 : Nat) = SV.p (1 : Nat) (0 : Nat) ∧ SV.p (4 : Nat) (0 : Nat) = SV.p (4 : Nat) (0 : Nat) ∧ SV.v (Value.bool (ctX (((), (), (F x).G, (F x).K, (F x).Ho, (F x).pe), ((F x).r, (F x).c, false, (), ()), oe, RC.mk (F x).l oe (F x).ep, (qe, trF
   ((u1, u2, G, K, Ho, pe), (r, c, false, u3, u4), oe, RC.mk l oe ep, (qe, fr, n, ov), OI.mk xs m qe, OI.mk pl pl.length pe), (F x).n, (F x).ov), OI.mk (F x).xs (trM ((u1, u2, G, K, Ho, pe), (r, c, false, u3, u4), oe, RC.mk l oe ep, (qe, fr, n, ov),
   OI.mk xs m qe, OI.mk pl pl.length pe)) qe, OI.mk (F x).pl (F x).pl.length (F x).pe) (byteAt t x.toNat)).G) = SV.v (Value.bool (F (IntKind.i64.wrap (x + (1 : Int)))).G) ∧ SV.v (Value.bool (ctX (((), (), (F x).G, (F x).K, (F x).Ho, (F x).pe), ((F x).r,
   (F x).c, false, (), ()), oe, RC.mk (F x).l oe (F x).ep, (qe, trF ((u1, u2, G, K, Ho, pe), (r, c, false, u3, u4), oe, RC.mk l oe ep, (qe, fr, n, ov), OI.mk xs m qe, OI.mk pl pl.length pe), (F x).n, (F x).ov), OI.mk (F x).xs (trM ((u1, u2, G, K, Ho,
   pe), (r, c, false, u3, u4), oe, RC.mk l oe ep, (qe, fr, n, ov), OI.mk xs m qe, OI.mk pl pl.length pe)) qe, OI.mk (F x).pl (F x).pl.length (F x).pe) (byteAt t x.toNat)).K) = SV.v (Value.bool (F (IntKind.i64.wrap (x + (1 : Int)))).K) ∧ SV.v (Value.bool
   (ctX (((), (), (F x).G, (F x).K, (F x).Ho, (F x).pe), ((F x).r, (F x).c, false, (), ()), oe, RC.mk (F x).l oe (F x).ep, (qe, trF ((u1, u2, G, K, Ho, pe), (r, c, false, u3, u4), oe, RC.mk l oe ep, (qe, fr, n, ov), OI.mk xs m qe, OI.mk pl pl.length
   pe), (F x).n, (F x).ov), OI.mk (F x).xs (trM ((u1, u2, G, K, Ho, pe), (r, c, false, u3, u4), oe, RC.mk l oe ep, (qe, fr, n, ov), OI.mk xs m qe, OI.mk pl pl.length pe)) qe, OI.mk (F x).pl (F x).pl.length (F x).pe) (byteAt t x.toNat)).Ho) = SV.v
   (Value.bool (F (IntKind.i64.wrap (x + (1 : Int)))).Ho) ∧ SV.h (6 : Nat) [(ctX (((), (), (F x).G, (F x).K, (F x).Ho, (F x).pe), ((F x).r, (F x).c, false, (), ()), oe, RC.mk (F x).l oe (F x).ep, (qe, trF ((u1, u2, G, K, Ho, pe), (r, c, false, u3, u4),
   oe, RC.mk l oe ep, (qe, fr, n, ov), OI.mk xs m qe, OI.mk pl pl.length pe), (F x).n, (F x).ov), OI.mk (F x).xs (trM ((u1, u2, G, K, Ho, pe), (r, c, false, u3, u4), oe, RC.mk l oe ep, (qe, fr, n, ov), OI.mk xs m qe, OI.mk pl pl.length pe)) qe, OI.mk (F
   x).pl (F x).pl.length (F x).pe) (byteAt t x.toNat)).pe, (0 : Nat)] = SV.h (6 : Nat) [(F (IntKind.i64.wrap (x + (1 : Int)))).pe, (0 : Nat)] ∧ True) ∧ (SV.v (Value.int IntKind.i64 (ctX (((), (), (F x).G, (F x).K, (F x).Ho, (F x).pe), ((F x).r, (F x).c,
   false, (), ()), oe, RC.mk (F x).l oe (F x).ep, (qe, trF ((u1, u2, G, K, Ho, pe), (r, c, false, u3, u4), oe, RC.mk l oe ep, (qe, fr, n, ov), OI.mk xs m qe, OI.mk pl pl.length pe), (F x).n, (F x).ov), OI.mk (F x).xs (trM ((u1, u2, G, K, Ho, pe), (r, c,
   false, u3, u4), oe, RC.mk l oe ep, (qe, fr, n, ov), OI.mk xs m qe, OI.mk pl pl.length pe)) qe, OI.mk (F x).pl (F x).pl.length (F x).pe) (byteAt t x.toNat)).r) = SV.v (Value.int IntKind.i64 (F (IntKind.i64.wrap (x + (1 : Int)))).r) ∧ SV.v (Value.int
   IntKind.i64 (ctX (((), (), (F x).G, (F x).K, (F x).Ho, (F x).pe), ((F x).r, (F x).c, false, (), ()), oe, RC.mk (F x).l oe (F x).ep, (qe, trF ((u1, u2, G, K, Ho, pe), (r, c, false, u3, u4), oe, RC.mk l oe ep, (qe, fr, n, ov), OI.mk xs m qe, OI.mk pl
   pl.length pe), (F x).n, (F x).ov), OI.mk (F x).xs (trM ((u1, u2, G, K, Ho, pe), (r, c, false, u3, u4), oe, RC.mk l oe ep, (qe, fr, n, ov), OI.mk xs m qe, OI.mk pl pl.length pe)) qe, OI.mk (F x).pl (F x).pl.length (F x).pe) (byteAt t x.toNat)).c) =
   SV.v (Value.int IntKind.i64 (F (IntKind.i64.wrap (x + (1 : Int)))).c) ∧ SV.v (Value.bool false) = SV.v (Value.bool false) ∧ SV.p (2 : Nat) (0 : Nat) = SV.p (2 : Nat) (0 : Nat) ∧ True) ∧ (SV.h (3 : Nat) [oe, (0 : Nat)] = SV.h (3 : Nat) [oe, (0 : Nat)]
   ∧ True) ∧ (oe = oe ∧ (ctX (((), (), (F x).G, (F x).K, (F x).Ho, (F x).pe), ((F x).r, (F x).c, false, (), ()), oe, RC.mk (F x).l oe (F x).ep, (qe, trF ((u1, u2, G, K, Ho, pe), (r, c, false, u3, u4), oe, RC.mk l oe ep, (qe, fr, n, ov), OI.mk xs m qe,
   OI.mk pl pl.length pe), (F x).n, (F x).ov), OI.mk (F x).xs (trM ((u1, u2, G, K, Ho, pe), (r, c, false, u3, u4), oe, RC.mk l oe ep, (qe, fr, n, ov), OI.mk xs m qe, OI.mk pl pl.length pe)) qe, OI.mk (F x).pl (F x).pl.length (F x).pe) (byteAt t
   x.toNat)).ep = (F (IntKind.i64.wrap (x + (1 : Int)))).ep ∧ (ctX (((), (), (F x).G, (F x).K, (F x).Ho, (F x).pe), ((F x).r, (F x).c, false, (), ()), oe, RC.mk (F x).l oe (F x).ep, (qe, trF ((u1, u2, G, K, Ho, pe), (r, c, false, u3, u4), oe, RC.mk l oe
   ep, (qe, fr, n, ov), OI.mk xs m qe, OI.mk pl pl.length pe), (F x).n, (F x).ov), OI.mk (F x).xs (trM ((u1, u2, G, K, Ho, pe), (r, c, false, u3, u4), oe, RC.mk l oe ep, (qe, fr, n, ov), OI.mk xs m qe, OI.mk pl pl.length pe)) qe, OI.mk (F x).pl (F
   x).pl.length (F x).pe) (byteAt t x.toNat)).l = (F (IntKind.i64.wrap (x + (1 : Int)))).l) ∧ (SV.h (5 : Nat) [qe, (0 : Nat)] = SV.h (5 : Nat) [qe, (0 : Nat)] ∧ SV.v (Value.int IntKind.i64 (trF ((u1, u2, G, K, Ho, pe), (r, c, false, u3, u4), oe, RC.mk l
   oe ep, (qe, fr, n, ov), OI.mk xs m qe, OI.mk pl pl.length pe))) = SV.v (Value.int IntKind.i64 (trF ((u1, u2, G, K, Ho, pe), (r, c, false, u3, u4), oe, RC.mk l oe ep, (qe, fr, n, ov), OI.mk xs m qe, OI.mk pl pl.length pe))) ∧ SV.v (Value.int
   IntKind.i64 (ctX (((), (), (F x).G, (F x).K, (F x).Ho, (F x).pe), ((F x).r, (F x).c, false, (), ()), oe, RC.mk (F x).l oe (F x).ep, (qe, trF ((u1, u2, G, K, Ho, pe), (r, c, false, u3, u4), oe, RC.mk l oe ep, (qe, fr, n, ov), OI.mk xs m qe, OI.mk pl
   pl.length pe), (F x).n, (F x).ov), OI.mk (F x).xs (trM ((u1, u2, G, K, Ho, pe), (r, c, false, u3, u4), oe, RC.mk l oe ep, (qe, fr, n, ov), OI.mk xs m qe, OI.mk pl pl.length pe)) qe, OI.mk (F x).pl (F x).pl.length (F x).pe) (byteAt t x.toNat)).n) =
   SV.v (Value.int IntKind.i64 (F (IntKind.i64.wrap (x + (1 : Int)))).n) ∧ SV.v (Value.bool (ctX (((), (), (F x).G, (F x).K, (F x).Ho, (F x).pe), ((F x).r, (F x).c, false, (), ()), oe, RC.mk (F x).l oe (F x).ep, (qe, trF ((u1, u2, G, K, Ho, pe), (r, c,
   false, u3, u4), oe, RC.mk l oe ep, (qe, fr, n, ov), OI.mk xs m qe, OI.mk pl pl.length pe), (F x).n, (F x).ov), OI.mk (F x).xs (trM ((u1, u2, G, K, Ho, pe), (r, c, false, u3, u4), oe, RC.mk l oe ep, (qe, fr, n, ov), OI.mk xs m qe, OI.mk pl pl.length
   pe)) qe, OI.mk (F x).pl (F x).pl.length (F x).pe) (byteAt t x.toNat)).ov) = SV.v (Value.bool (F (IntKind.i64.wrap (x + (1 : Int)))).ov) ∧ True) ∧ (trM ((u1, u2, G, K, Ho, pe), (r, c, false, u3, u4), oe, RC.mk l oe ep, (qe, fr, n, ov), OI.mk xs m qe,
   OI.mk pl pl.length pe) = trM ((u1, u2, G, K, Ho, pe), (r, c, false, u3, u4), oe, RC.mk l oe ep, (qe, fr, n, ov), OI.mk xs m qe, OI.mk pl pl.length pe) ∧ qe = qe ∧ (ctX (((), (), (F x).G, (F x).K, (F x).Ho, (F x).pe), ((F x).r, (F x).c, false, (),
   ()), oe, RC.mk (F x).l oe (F x).ep, (qe, trF ((u1, u2, G, K, Ho, pe), (r, c, false, u3, u4), oe, RC.mk l oe ep, (qe, fr, n, ov), OI.mk xs m qe, OI.mk pl pl.length pe), (F x).n, (F x).ov), OI.mk (F x).xs (trM ((u1, u2, G, K, Ho, pe), (r, c, false, u3,
   u4), oe, RC.mk l oe ep, (qe, fr, n, ov), OI.mk xs m qe, OI.mk pl pl.length pe)) qe, OI.mk (F x).pl (F x).pl.length (F x).pe) (byteAt t x.toNat)).xs = (F (IntKind.i64.wrap (x + (1 : Int)))).xs) ∧ ((ctX (((), (), (F x).G, (F x).K, (F x).Ho, (F x).pe),
   ((F x).r, (F x).c, false, (), ()), oe, RC.mk (F x).l oe (F x).ep, (qe, trF ((u1, u2, G, K, Ho, pe), (r, c, false, u3, u4), oe, RC.mk l oe ep, (qe, fr, n, ov), OI.mk xs m qe, OI.mk pl pl.length pe), (F x).n, (F x).ov), OI.mk (F x).xs (trM ((u1, u2, G,
   K, Ho, pe), (r, c, false, u3, u4), oe, RC.mk l oe ep, (qe, fr, n, ov), OI.mk xs m qe, OI.mk pl pl.length pe)) qe, OI.mk (F x).pl (F x).pl.length (F x).pe) (byteAt t x.toNat)).pl.length = (F (IntKind.i64.wrap (x + (1 : Int)))).pl.length ∧ (ctX (((),
   (), (F x).G, (F x).K, (F x).Ho, (F x).pe), ((F x).r, (F x).c, false, (), ()), oe, RC.mk (F x).l oe (F x).ep, (qe, trF ((u1, u2, G, K, Ho, pe), (r, c, false, u3, u4), oe, RC.mk l oe ep, (qe, fr, n, ov), OI.mk xs m qe, OI.mk pl pl.length pe), (F x).n,
   (F x).ov), OI.mk (F x).xs (trM ((u1, u2, G, K, Ho, pe), (r, c, false, u3, u4), oe, RC.mk l oe ep, (qe, fr, n, ov), OI.mk xs m qe, OI.mk pl pl.length pe)) qe, OI.mk (F x).pl (F x).pl.length (F x).pe) (byteAt t x.toNat)).pe = (F (IntKind.i64.wrap (x +
   (1 : Int)))).pe ∧ (ctX (((), (), (F x).G, (F x).K, (F x).Ho, (F x).pe), ((F x).r, (F x).c, false, (), ()), oe, RC.mk (F x).l oe (F x).ep, (qe, trF ((u1, u2, G, K, Ho, pe), (r, c, false, u3, u4), oe, RC.mk l oe ep, (qe, fr, n, ov), OI.mk xs m qe,
   OI.mk pl pl.length pe), (F x).n, (F x).ov), OI.mk (F x).xs (trM ((u1, u2, G, K, Ho, pe), (r, c, false, u3, u4), oe, RC.mk l oe ep, (qe, fr, n, ov), OI.mk xs m qe, OI.mk pl pl.length pe)) qe, OI.mk (F x).pl (F x).pl.length (F x).pe) (byteAt t
   x.toNat)).pl = (F (IntKind.i64.wrap (x + (1 : Int)))).pl) ∧ (SV.p (0 : Nat) (0 : Nat) = SV.p (0 : Nat) (0 : Nat) ∧ True) ∧ (SV.p (0 : Nat) (0 : Nat) = SV.p (0 : Nat) (0 : Nat) ∧ True) ∧ (SV.v (Value.string t) = SV.v (Value.string t) ∧ True) ∧
   Obj.deferred (some []) = Obj.deferred (some []) ∧ ((SV.p (7 : Nat) (0 : Nat) = SV.p (7 : Nat) (0 : Nat) ∧ True) ∧ #[(10 : Nat)] = #[(10 : Nat)] ∧ codeAt Tryd.f11 [(1 : Nat), (1 : Nat), (1 : Nat), (0 : Nat), (0 : Nat)] = codeAt Tryd.f11 [(1 : Nat), (1
   : Nat), (1 : Nat), (0 : Nat), (0 : Nat)] ∧ codeAt Tryd.f11 [(1 : Nat), (1 : Nat), (1 : Nat), (0 : Nat), (1 : Nat)] = codeAt Tryd.f11 [(1 : Nat), (1 : Nat), (1 : Nat), (0 : Nat), (1 : Nat)]) ∧ True) ∧ ((↑t.size : Int) - IntKind.i64.wrap (x + (1 :
   Int))).toNat < ((↑t.size : Int) - x).toNat))))))) (rq (decide ((0 : Int) ≤ x ∧ x < (↑t.size : Int))) (br (byteAt t x.toNat == (27 : Int)) (((0 : Int) ≤ IntKind.i64.wrap (x + (1 : Int)) ∧ IntKind.i64.wrap (x + (1 : Int)) ≤ (↑t.size : Int)) ∧ ((SV.y
   (11 : Nat) = SV.y (11 : Nat) ∧ SV.p (9 : Nat) (0 : Nat) = SV.p (9 : Nat) (0 : Nat) ∧ SV.p (8 : Nat) (0 : Nat) = SV.p (8 : Nat) (0 : Nat) ∧ SV.v (Value.int IntKind.i64 (↑t.size : Int)) = SV.v (Value.int IntKind.i64 (↑t.size : Int)) ∧ SV.v (Value.int
   IntKind.i64 (IntKind.i64.wrap (x + (1 : Int)))) = SV.v (Value.int IntKind.i64 (IntKind.i64.wrap (x + (1 : Int)))) ∧ True) ∧ (SV.p (1 : Nat) (0 : Nat) = SV.p (1 : Nat) (0 : Nat) ∧ SV.p (4 : Nat) (0 : Nat) = SV.p (4 : Nat) (0 : Nat) ∧ SV.v (Value.bool
   (F x).G) = SV.v (Value.bool (F (IntKind.i64.wrap (x + (1 : Int)))).G) ∧ SV.v (Value.bool (F x).K) = SV.v (Value.bool (F (IntKind.i64.wrap (x + (1 : Int)))).K) ∧ SV.v (Value.bool (F x).Ho) = SV.v (Value.bool (F (IntKind.i64.wrap (x + (1 : Int)))).Ho)
   ∧ SV.h (6 : Nat) [(F x).pe + (1 : Nat), (0 : Nat)] = SV.h (6 : Nat) [(F (IntKind.i64.wrap (x + (1 : Int)))).pe, (0 : Nat)] ∧ True) ∧ (SV.v (Value.int IntKind.i64 (F x).r) = SV.v (Value.int IntKind.i64 (F (IntKind.i64.wrap (x + (1 : Int)))).r) ∧ SV.v
   (Value.int IntKind.i64 (F x).c) = SV.v (Value.int IntKind.i64 (F (IntKind.i64.wrap (x + (1 : Int)))).c) ∧ SV.v (Value.bool false) = SV.v (Value.bool false) ∧ SV.p (2 : Nat) (0 : Nat) = SV.p (2 : Nat) (0 : Nat) ∧ True) ∧ (SV.h (3 : Nat) [oe, (0 :
   Nat)] = SV.h (3 : Nat) [oe, (0 : Nat)] ∧ True) ∧ (oe = oe ∧ (F x).ep = (F (IntKind.i64.wrap (x + (1 : Int)))).ep ∧ (F x).l = (F (IntKind.i64.wrap (x + (1 : Int)))).l) ∧ (SV.h (5 : Nat) [qe, (0 : Nat)] = SV.h (5 : Nat) [qe, (0 : Nat)] ∧ SV.v
   (Value.int IntKind.i64 (trF ((u1, u2, G, K, Ho, pe), (r, c, false, u3, u4), oe, RC.mk l oe ep, (qe, fr, n, ov), OI.mk xs m qe, OI.mk pl pl.length pe))) = SV.v (Value.int IntKind.i64 (trF ((u1, u2, G, K, Ho, pe), (r, c, false, u3, u4), oe, RC.mk l oe
   ep, (qe, fr, n, ov), OI.mk xs m qe, OI.mk pl pl.length pe))) ∧ SV.v (Value.int IntKind.i64 (F x).n) = SV.v (Value.int IntKind.i64 (F (IntKind.i64.wrap (x + (1 : Int)))).n) ∧ SV.v (Value.bool (F x).ov) = SV.v (Value.bool (F (IntKind.i64.wrap (x + (1 :
   Int)))).ov) ∧ True) ∧ (trM ((u1, u2, G, K, Ho, pe), (r, c, false, u3, u4), oe, RC.mk l oe ep, (qe, fr, n, ov), OI.mk xs m qe, OI.mk pl pl.length pe) = trM ((u1, u2, G, K, Ho, pe), (r, c, false, u3, u4), oe, RC.mk l oe ep, (qe, fr, n, ov), OI.mk xs m
   qe, OI.mk pl pl.length pe) ∧ qe = qe ∧ (F x).xs = (F (IntKind.i64.wrap (x + (1 : Int)))).xs) ∧ ((1 : Nat) = (F (IntKind.i64.wrap (x + (1 : Int)))).pl.length ∧ (F x).pe + (1 : Nat) = (F (IntKind.i64.wrap (x + (1 : Int)))).pe ∧ LI [(27 : Int)] = (F
   (IntKind.i64.wrap (x + (1 : Int)))).pl) ∧ (SV.p (0 : Nat) (0 : Nat) = SV.p (0 : Nat) (0 : Nat) ∧ True) ∧ (SV.p (0 : Nat) (0 : Nat) = SV.p (0 : Nat) (0 : Nat) ∧ True) ∧ (SV.v (Value.string t) = SV.v (Value.string t) ∧ True) ∧ Obj.deferred (some []) =
   Obj.deferred (some []) ∧ ((SV.p (7 : Nat) (0 : Nat) = SV.p (7 : Nat) (0 : Nat) ∧ True) ∧ #[(10 : Nat)] = #[(10 : Nat)] ∧ codeAt Tryd.f11 [(1 : Nat), (1 : Nat), (1 : Nat), (0 : Nat), (0 : Nat)] = codeAt Tryd.f11 [(1 : Nat), (1 : Nat), (1 : Nat), (0 :
   Nat), (0 : Nat)] ∧ codeAt Tryd.f11 [(1 : Nat), (1 : Nat), (1 : Nat), (0 : Nat), (1 : Nat)] = codeAt Tryd.f11 [(1 : Nat), (1 : Nat), (1 : Nat), (0 : Nat), (1 : Nat)]) ∧ True) ∧ ((↑t.size : Int) - IntKind.i64.wrap (x + (1 : Int))).toNat < ((↑t.size :
   Int) - x).toNat) (rq ((F x).pe.beq (F x).pe) (br (decide ((↑(F x).pl.length : Int) > (0 : Int))) (true = true ∧ (TA (((), (), (F x).G, (F x).K, (F x).Ho, (F x).pe), ((F x).r, (F x).c, false, (), ()), oe, RC.mk (F x).l oe (F x).ep, (qe, trF ((u1, u2,
   G, K, Ho, pe), (r, c, false, u3, u4), oe, RC.mk l oe ep, (qe, fr, n, ov), OI.mk xs m qe, OI.mk pl pl.length pe), (F x).n, (F x).ov), OI.mk (F x).xs (trM ((u1, u2, G, K, Ho, pe), (r, c, false, u3, u4), oe, RC.mk l oe ep, (qe, fr, n, ov), OI.mk xs m
   qe, OI.mk pl pl.length pe)) qe, OI.mk (F x).pl (F x).pl.length (F x).pe) ∧ (0 : Int) ≤ byteAt t x.toNat ∧ byteAt t x.toNat ≤ (255 : Int) ∧ (1 : Nat) ≤ (F x).pl.length) ∧ ((0 : Int) ≤ IntKind.i64.wrap (x + (1 : Int)) ∧ IntKind.i64.wrap (x + (1 : Int))
   ≤ (↑t.size : Int)) ∧ ((SV.y (11 : Nat) = SV.y (11 : Nat) ∧ SV.p (9 : Nat) (0 : Nat) = SV.p (9 : Nat) (0 : Nat) ∧ SV.p (8 : Nat) (0 : Nat) = SV.p (8 : Nat) (0 : Nat) ∧ SV.v (Value.int IntKind.i64 (↑t.size : Int)) = SV.v (Value.int IntKind.i64 (↑t.size
   : Int)) ∧ SV.v (Value.int IntKind.i64 (IntKind.i64.wrap (x + (1 : Int)))) = SV.v (Value.int IntKind.i64 (IntKind.i64.wrap (x + (1 : Int)))) ∧ True) ∧ (SV.p (1 : Nat) (0 : Nat) = SV.p (1 : Nat) (0 : Nat) ∧ SV.p (4 : Nat) (0 : Nat) = SV.p (4 : Nat) (0
   : Nat) ∧ SV.v (Value.bool (sqX (((), (), (F x).G, (F x).K, (F x).Ho, (F x).pe), ((F x).r, (F x).c, false, (), ()), oe, RC.mk (F x).l oe (F x).ep, (qe, trF ((u1, u2, G, K, Ho, pe), (r, c, false, u3, u4), oe, RC.mk l oe ep, (qe, fr, n, ov), OI.mk xs m
   qe, OI.mk pl pl.length pe), (F x).n, (F x).ov), OI.mk (F x).xs (trM ((u1, u2, G, K, Ho, pe), (r, c, false, u3, u4), oe, RC.mk l oe ep, (qe, fr, n, ov), OI.mk xs m qe, OI.mk pl pl.length pe)) qe, OI.mk (F x).pl (F x).pl.length (F x).pe) (byteAt t
   x.toNat)).G) = SV.v (Value.bool (F (IntKind.i64.wrap (x + (1 : Int)))).G) ∧ SV.v (Value.bool (sqX (((), (), (F x).G, (F x).K, (F x).Ho, (F x).pe), ((F x).r, (F x).c, false, (), ()), oe, RC.mk (F x).l oe (F x).ep, (qe, trF ((u1, u2, G, K, Ho, pe), (r,
   c, false, u3, u4), oe, RC.mk l oe ep, (qe, fr, n, ov), OI.mk xs m qe, OI.mk pl pl.length pe), (F x).n, (F x).ov), OI.mk (F x).xs (trM ((u1, u2, G, K, Ho, pe), (r, c, false, u3, u4), oe, RC.mk l oe ep, (qe, fr, n, ov), OI.mk xs m qe, OI.mk pl
   pl.length pe)) qe, OI.mk (F x).pl (F x).pl.length (F x).pe) (byteAt t x.toNat)).K) = SV.v (Value.bool (F (IntKind.i64.wrap (x + (1 : Int)))).K) ∧ SV.v (Value.bool (sqX (((), (), (F x).G, (F x).K, (F x).Ho, (F x).pe), ((F x).r, (F x).c, false, (),
   ()), oe, RC.mk (F x).l oe (F x).ep, (qe, trF ((u1, u2, G, K, Ho, pe), (r, c, false, u3, u4), oe, RC.mk l oe ep, (qe, fr, n, ov), OI.mk xs m qe, OI.mk pl pl.length pe), (F x).n, (F x).ov), OI.mk (F x).xs (trM ((u1, u2, G, K, Ho, pe), (r, c, false, u3,
   u4), oe, RC.mk l oe ep, (qe, fr, n, ov), OI.mk xs m qe, OI.mk pl pl.length pe)) qe, OI.mk (F x).pl (F x).pl.length (F x).pe) (byteAt t x.toNat)).Ho) = SV.v (Value.bool (F (IntKind.i64.wrap (x + (1 : Int)))).Ho) ∧ SV.h (6 : Nat) [(sqX (((), (), (F
   x).G, (F x).K, (F x).Ho, (F x).pe), ((F x).r, (F x).c, false, (), ()), oe, RC.mk (F x).l oe (F x).ep, (qe, trF ((u1, u2, G, K, Ho, pe), (r, c, false, u3, u4), oe, RC.mk l oe ep, (qe, fr, n, ov), OI.mk xs m qe, OI.mk pl pl.length pe), (F x).n, (F
   x).ov), OI.mk (F x).xs (trM ((u1, u2, G, K, Ho, pe), (r, c, false, u3, u4), oe, RC.mk l oe ep, (qe, fr, n, ov), OI.mk xs m qe, OI.mk pl pl.length pe)) qe, OI.mk (F x).pl (F x).pl.length (F x).pe) (byteAt t x.toNat)).pe, (0 : Nat)] = SV.h (6 : Nat)
   [(F (IntKind.i64.wrap (x + (1 : Int)))).pe, (0 : Nat)] ∧ True) ∧ (SV.v (Value.int IntKind.i64 (sqX (((), (), (F x).G, (F x).K, (F x).Ho, (F x).pe), ((F x).r, (F x).c, false, (), ()), oe, RC.mk (F x).l oe (F x).ep, (qe, trF ((u1, u2, G, K, Ho, pe),
   (r, c, false, u3, u4), oe, RC.mk l oe ep, (qe, fr, n, ov), OI.mk xs m qe, OI.mk pl pl.length pe), (F x).n, (F x).ov), OI.mk (F x).xs (trM ((u1, u2, G, K, Ho, pe), (r, c, false, u3, u4), oe, RC.mk l oe ep, (qe, fr, n, ov), OI.mk xs m qe, OI.mk pl
   pl.length pe)) qe, OI.mk (F x).pl (F x).pl.length (F x).pe) (byteAt t x.toNat)).r) = SV.v (Value.int IntKind.i64 (F (IntKind.i64.wrap (x + (1 : Int)))).r) ∧ SV.v (Value.int IntKind.i64 (sqX (((), (), (F x).G, (F x).K, (F x).Ho, (F x).pe), ((F x).r,
   (F x).c, false, (), ()), oe, RC.mk (F x).l oe (F x).ep, (qe, trF ((u1, u2, G, K, Ho, pe), (r, c, false, u3, u4), oe, RC.mk l oe ep, (qe, fr, n, ov), OI.mk xs m qe, OI.mk pl pl.length pe), (F x).n, (F x).ov), OI.mk (F x).xs (trM ((u1, u2, G, K, Ho,
   pe), (r, c, false, u3, u4), oe, RC.mk l oe ep, (qe, fr, n, ov), OI.mk xs m qe, OI.mk pl pl.length pe)) qe, OI.mk (F x).pl (F x).pl.length (F x).pe) (byteAt t x.toNat)).c) = SV.v (Value.int IntKind.i64 (F (IntKind.i64.wrap (x + (1 : Int)))).c) ∧ SV.v
   (Value.bool false) = SV.v (Value.bool false) ∧ SV.p (2 : Nat) (0 : Nat) = SV.p (2 : Nat) (0 : Nat) ∧ True) ∧ (SV.h (3 : Nat) [oe, (0 : Nat)] = SV.h (3 : Nat) [oe, (0 : Nat)] ∧ True) ∧ (oe = oe ∧ (sqX (((), (), (F x).G, (F x).K, (F x).Ho, (F x).pe),
   ((F x).r, (F x).c, false, (), ()), oe, RC.mk (F x).l oe (F x).ep, (qe, trF ((u1, u2, G, K, Ho, pe), (r, c, false, u3, u4), oe, RC.mk l oe ep, (qe, fr, n, ov), OI.mk xs m qe, OI.mk pl pl.length pe), (F x).n, (F x).ov), OI.mk (F x).xs (trM ((u1, u2, G,
   K, Ho, pe), (r, c, false, u3, u4), oe, RC.mk l oe ep, (qe, fr, n, ov), OI.mk xs m qe, OI.mk pl pl.length pe)) qe, OI.mk (F x).pl (F x).pl.length (F x).pe) (byteAt t x.toNat)).ep = (F (IntKind.i64.wrap (x + (1 : Int)))).ep ∧ (sqX (((), (), (F x).G, (F
   x).K, (F x).Ho, (F x).pe), ((F x).r, (F x).c, false, (), ()), oe, RC.mk (F x).l oe (F x).ep, (qe, trF ((u1, u2, G, K, Ho, pe), (r, c, false, u3, u4), oe, RC.mk l oe ep, (qe, fr, n, ov), OI.mk xs m qe, OI.mk pl pl.length pe), (F x).n, (F x).ov), OI.mk
   (F x).xs (trM ((u1, u2, G, K, Ho, pe), (r, c, false, u3, u4), oe, RC.mk l oe ep, (qe, fr, n, ov), OI.mk xs m qe, OI.mk pl pl.length pe)) qe, OI.mk (F x).pl (F x).pl.length (F x).pe) (byteAt t x.toNat)).l = (F (IntKind.i64.wrap (x + (1 : Int)))).l) ∧
   (SV.h (5 : Nat) [qe, (0 : Nat)] = SV.h (5 : Nat) [qe, (0 : Nat)] ∧ SV.v (Value.int IntKind.i64 (trF ((u1, u2, G, K, Ho, pe), (r, c, false, u3, u4), oe, RC.mk l oe ep, (qe, fr, n, ov), OI.mk xs m qe, OI.mk pl pl.length pe))) = SV.v (Value.int
   IntKind.i64 (trF ((u1, u2, G, K, Ho, pe), (r, c, false, u3, u4), oe, RC.mk l oe ep, (qe, fr, n, ov), OI.mk xs m qe, OI.mk pl pl.length pe))) ∧ SV.v (Value.int IntKind.i64 (sqX (((), (), (F x).G, (F x).K, (F x).Ho, (F x).pe), ((F x).r, (F x).c, false,
   (), ()), oe, RC.mk (F x).l oe (F x).ep, (qe, trF ((u1, u2, G, K, Ho, pe), (r, c, false, u3, u4), oe, RC.mk l oe ep, (qe, fr, n, ov), OI.mk xs m qe, OI.mk pl pl.length pe), (F x).n, (F x).ov), OI.mk (F x).xs (trM ((u1, u2, G, K, Ho, pe), (r, c, false,
   u3, u4), oe, RC.mk l oe ep, (qe, fr, n, ov), OI.mk xs m qe, OI.mk pl pl.length pe)) qe, OI.mk (F x).pl (F x).pl.length (F x).pe) (byteAt t x.toNat)).n) = SV.v (Value.int IntKind.i64 (F (IntKind.i64.wrap (x + (1 : Int)))).n) ∧ SV.v (Value.bool (sqX
   (((), (), (F x).G, (F x).K, (F x).Ho, (F x).pe), ((F x).r, (F x).c, false, (), ()), oe, RC.mk (F x).l oe (F x).ep, (qe, trF ((u1, u2, G, K, Ho, pe), (r, c, false, u3, u4), oe, RC.mk l oe ep, (qe, fr, n, ov), OI.mk xs m qe, OI.mk pl pl.length pe), (F
   x).n, (F x).ov), OI.mk (F x).xs (trM ((u1, u2, G, K, Ho, pe), (r, c, false, u3, u4), oe, RC.mk l oe ep, (qe, fr, n, ov), OI.mk xs m qe, OI.mk pl pl.length pe)) qe, OI.mk (F x).pl (F x).pl.length (F x).pe) (byteAt t x.toNat)).ov) = SV.v (Value.bool (F
   (IntKind.i64.wrap (x + (1 : Int)))).ov) ∧ True) ∧ (trM ((u1, u2, G, K, Ho, pe), (r, c, false, u3, u4), oe, RC.mk l oe ep, (qe, fr, n, ov), OI.mk xs m qe, OI.mk pl pl.length pe) = trM ((u1, u2, G, K, Ho, pe), (r, c, false, u3, u4), oe, RC.mk l oe ep,
   (qe, fr, n, ov), OI.mk xs m qe, OI.mk pl pl.length pe) ∧ qe = qe ∧ (sqX (((), (), (F x).G, (F x).K, (F x).Ho, (F x).pe), ((F x).r, (F x).c, false, (), ()), oe, RC.mk (F x).l oe (F x).ep, (qe, trF ((u1, u2, G, K, Ho, pe), (r, c, false, u3, u4), oe,
   RC.mk l oe ep, (qe, fr, n, ov), OI.mk xs m qe, OI.mk pl pl.length pe), (F x).n, (F x).ov), OI.mk (F x).xs (trM ((u1, u2, G, K, Ho, pe), (r, c, false, u3, u4), oe, RC.mk l oe ep, (qe, fr, n, ov), OI.mk xs m qe, OI.mk pl pl.length pe)) qe, OI.mk (F
   x).pl (F x).pl.length (F x).pe) (byteAt t x.toNat)).xs = (F (IntKind.i64.wrap (x + (1 : Int)))).xs) ∧ ((sqX (((), (), (F x).G, (F x).K, (F x).Ho, (F x).pe), ((F x).r, (F x).c, false, (), ()), oe, RC.mk (F x).l oe (F x).ep, (qe, trF ((u1, u2, G, K,
   Ho, pe), (r, c, false, u3, u4), oe, RC.mk l oe ep, (qe, fr, n, ov), OI.mk xs m qe, OI.mk pl pl.length pe), (F x).n, (F x).ov), OI.mk (F x).xs (trM ((u1, u2, G, K, Ho, pe), (r, c, false, u3, u4), oe, RC.mk l oe ep, (qe, fr, n, ov), OI.mk xs m qe,
   OI.mk pl pl.length pe)) qe, OI.mk (F x).pl (F x).pl.length (F x).pe) (byteAt t x.toNat)).pl.length = (F (IntKind.i64.wrap (x + (1 : Int)))).pl.length ∧ (sqX (((), (), (F x).G, (F x).K, (F x).Ho, (F x).pe), ((F x).r, (F x).c, false, (), ()), oe, RC.mk
   (F x).l oe (F x).ep, (qe, trF ((u1, u2, G, K, Ho, pe), (r, c, false, u3, u4), oe, RC.mk l oe ep, (qe, fr, n, ov), OI.mk xs m qe, OI.mk pl pl.length pe), (F x).n, (F x).ov), OI.mk (F x).xs (trM ((u1, u2, G, K, Ho, pe), (r, c, false, u3, u4), oe, RC.mk
   l oe ep, (qe, fr, n, ov), OI.mk xs m qe, OI.mk pl pl.length pe)) qe, OI.mk (F x).pl (F x).pl.length (F x).pe) (byteAt t x.toNat)).pe = (F (IntKind.i64.wrap (x + (1 : Int)))).pe ∧ (sqX (((), (), (F x).G, (F x).K, (F x).Ho, (F x).pe), ((F x).r, (F
   x).c, false, (), ()), oe, RC.mk (F x).l oe (F x).ep, (qe, trF ((u1, u2, G, K, Ho, pe), (r, c, false, u3, u4), oe, RC.mk l oe ep, (qe, fr, n, ov), OI.mk xs m qe, OI.mk pl pl.length pe), (F x).n, (F x).ov), OI.mk (F x).xs (trM ((u1, u2, G, K, Ho, pe),
   (r, c, false, u3, u4), oe, RC.mk l oe ep, (qe, fr, n, ov), OI.mk xs m qe, OI.mk pl pl.length pe)) qe, OI.mk (F x).pl (F x).pl.length (F x).pe) (byteAt t x.toNat)).pl = (F (IntKind.i64.wrap (x + (1 : Int)))).pl) ∧ (SV.p (0 : Nat) (0 : Nat) = SV.p (0 :
   Nat) (0 : Nat) ∧ True) ∧ (SV.p (0 : Nat) (0 : Nat) = SV.p (0 : Nat) (0 : Nat) ∧ True) ∧ (SV.v (Value.string t) = SV.v (Value.string t) ∧ True) ∧ Obj.deferred (some []) = Obj.deferred (some []) ∧ ((SV.p (7 : Nat) (0 : Nat) = SV.p (7 : Nat) (0 : Nat) ∧
   True) ∧ #[(10 : Nat)] = #[(10 : Nat)] ∧ codeAt Tryd.f11 [(1 : Nat), (1 : Nat), (1 : Nat), (0 : Nat), (0 : Nat)] = codeAt Tryd.f11 [(1 : Nat), (1 : Nat), (1 : Nat), (0 : Nat), (0 : Nat)] ∧ codeAt Tryd.f11 [(1 : Nat), (1 : Nat), (1 : Nat), (0 : Nat),
   (1 : Nat)] = codeAt Tryd.f11 [(1 : Nat), (1 : Nat), (1 : Nat), (0 : Nat), (1 : Nat)]) ∧ True) ∧ ((↑t.size : Int) - IntKind.i64.wrap (x + (1 : Int))).toNat < ((↑t.size : Int) - x).toNat) (br (decide (byteAt t x.toNat ≥ (32 : Int))) (true = true ∧ (TA
   (((), (), (F x).G, (F x).K, (F x).Ho, (F x).pe), ((F x).r, (F x).c, false, (), ()), oe, RC.mk (F x).l oe (F x).ep, (qe, trF ((u1, u2, G, K, Ho, pe), (r, c, false, u3, u4), oe, RC.mk l oe ep, (qe, fr, n, ov), OI.mk xs m qe, OI.mk pl pl.length pe), (F
   x).n, (F x).ov), OI.mk (F x).xs (trM ((u1, u2, G, K, Ho, pe), (r, c, false, u3, u4), oe, RC.mk l oe ep, (qe, fr, n, ov), OI.mk xs m qe, OI.mk pl pl.length pe)) qe, OI.mk (F x).pl (F x).pl.length (F x).pe) ∧ (0 : Int) ≤ byteAt t x.toNat ∧ byteAt t
   x.toNat ≤ (255 : Int)) ∧ ((0 : Int) ≤ IntKind.i64.wrap (x + (1 : Int)) ∧ IntKind.i64.wrap (x + (1 : Int)) ≤ (↑t.size : Int)) ∧ ((SV.y (11 : Nat) = SV.y (11 : Nat) ∧ SV.p (9 : Nat) (0 : Nat) = SV.p (9 : Nat) (0 : Nat) ∧ SV.p (8 : Nat) (0 : Nat) = SV.p
   (8 : Nat) (0 : Nat) ∧ SV.v (Value.int IntKind.i64 (↑t.size : Int)) = SV.v (Value.int IntKind.i64 (↑t.size : Int)) ∧ SV.v (Value.int IntKind.i64 (IntKind.i64.wrap (x + (1 : Int)))) = SV.v (Value.int IntKind.i64 (IntKind.i64.wrap (x + (1 : Int)))) ∧
   True) ∧ (SV.p (1 : Nat) (0 : Nat) = SV.p (1 : Nat) (0 : Nat) ∧ SV.p (4 : Nat) (0 : Nat) = SV.p (4 : Nat) (0 : Nat) ∧ SV.v (Value.bool (F x).G) = SV.v (Value.bool (F (IntKind.i64.wrap (x + (1 : Int)))).G) ∧ SV.v (Value.bool (F x).K) = SV.v (Value.bool
   (F (IntKind.i64.wrap (x + (1 : Int)))).K) ∧ SV.v (Value.bool (F x).Ho) = SV.v (Value.bool (F (IntKind.i64.wrap (x + (1 : Int)))).Ho) ∧ SV.h (6 : Nat) [(F x).pe, (0 : Nat)] = SV.h (6 : Nat) [(F (IntKind.i64.wrap (x + (1 : Int)))).pe, (0 : Nat)] ∧
   True) ∧ (SV.v (Value.int IntKind.i64 (F x).r) = SV.v (Value.int IntKind.i64 (F (IntKind.i64.wrap (x + (1 : Int)))).r) ∧ SV.v (Value.int IntKind.i64 (if (F x).c + (1 : Int) < (↑(nC (F x).l) : Int) then (F x).c + (1 : Int) else (F x).c)) = SV.v
   (Value.int IntKind.i64 (F (IntKind.i64.wrap (x + (1 : Int)))).c) ∧ SV.v (Value.bool false) = SV.v (Value.bool false) ∧ SV.p (2 : Nat) (0 : Nat) = SV.p (2 : Nat) (0 : Nat) ∧ True) ∧ (SV.h (3 : Nat) [oe, (0 : Nat)] = SV.h (3 : Nat) [oe, (0 : Nat)] ∧
   True) ∧ (oe = oe ∧ (F x).ep = (F (IntKind.i64.wrap (x + (1 : Int)))).ep ∧ set2 (F x).l (F x).r (F x).c (C4.mk (glT (F x).G (byteAt t x.toNat)) (0 : Int) false (0 : Int)) = (F (IntKind.i64.wrap (x + (1 : Int)))).l) ∧ (SV.h (5 : Nat) [qe, (0 : Nat)] =
   SV.h (5 : Nat) [qe, (0 : Nat)] ∧ SV.v (Value.int IntKind.i64 (trF ((u1, u2, G, K, Ho, pe), (r, c, false, u3, u4), oe, RC.mk l oe ep, (qe, fr, n, ov), OI.mk xs m qe, OI.mk pl pl.length pe))) = SV.v (Value.int IntKind.i64 (trF ((u1, u2, G, K, Ho, pe),
   (r, c, false, u3, u4), oe, RC.mk l oe ep, (qe, fr, n, ov), OI.mk xs m qe, OI.mk pl pl.length pe))) ∧ SV.v (Value.int IntKind.i64 (F x).n) = SV.v (Value.int IntKind.i64 (F (IntKind.i64.wrap (x + (1 : Int)))).n) ∧ SV.v (Value.bool (F x).ov) = SV.v
   (Value.bool (F (IntKind.i64.wrap (x + (1 : Int)))).ov) ∧ True) ∧ (trM ((u1, u2, G, K, Ho, pe), (r, c, false, u3, u4), oe, RC.mk l oe ep, (qe, fr, n, ov), OI.mk xs m qe, OI.mk pl pl.length pe) = trM ((u1, u2, G, K, Ho, pe), (r, c, false, u3, u4), oe,
   RC.mk l oe ep, (qe, fr, n, ov), OI.mk xs m qe, OI.mk pl pl.length pe) ∧ qe = qe ∧ (F x).xs = (F (IntKind.i64.wrap (x + (1 : Int)))).xs) ∧ ((F x).pl.length = (F (IntKind.i64.wrap (x + (1 : Int)))).pl.length ∧ (F x).pe = (F (IntKind.i64.wrap (x + (1 :
   Int)))).pe ∧ (F x).pl = (F (IntKind.i64.wrap (x + (1 : Int)))).pl) ∧ (SV.p (0 : Nat) (0 : Nat) = SV.p (0 : Nat) (0 : Nat) ∧ True) ∧ (SV.p (0 : Nat) (0 : Nat) = SV.p (0 : Nat) (0 : Nat) ∧ True) ∧ (SV.v (Value.string t) = SV.v (Value.string t) ∧ True)
   ∧ Obj.deferred (some []) = Obj.deferred (some []) ∧ ((SV.p (7 : Nat) (0 : Nat) = SV.p (7 : Nat) (0 : Nat) ∧ True) ∧ #[(10 : Nat)] = #[(10 : Nat)] ∧ codeAt Tryd.f11 [(1 : Nat), (1 : Nat), (1 : Nat), (0 : Nat), (0 : Nat)] = codeAt Tryd.f11 [(1 : Nat),
   (1 : Nat), (1 : Nat), (0 : Nat), (0 : Nat)] ∧ codeAt Tryd.f11 [(1 : Nat), (1 : Nat), (1 : Nat), (0 : Nat), (1 : Nat)] = codeAt Tryd.f11 [(1 : Nat), (1 : Nat), (1 : Nat), (0 : Nat), (1 : Nat)]) ∧ True) ∧ ((↑t.size : Int) - IntKind.i64.wrap (x + (1 :
   Int))).toNat < ((↑t.size : Int) - x).toNat) (true = true ∧ true = true ∧ (TA (((), (), (F x).G, (F x).K, (F x).Ho, (F x).pe), ((F x).r, (F x).c, false, (), ()), oe, RC.mk (F x).l oe (F x).ep, (qe, trF ((u1, u2, G, K, Ho, pe), (r, c, false, u3, u4),
   oe, RC.mk l oe ep, (qe, fr, n, ov), OI.mk xs m qe, OI.mk pl pl.length pe), (F x).n, (F x).ov), OI.mk (F x).xs (trM ((u1, u2, G, K, Ho, pe), (r, c, false, u3, u4), oe, RC.mk l oe ep, (qe, fr, n, ov), OI.mk xs m qe, OI.mk pl pl.length pe)) qe, OI.mk (F
   x).pl (F x).pl.length (F x).pe) ∧ (0 : Int) ≤ byteAt t x.toNat ∧ byteAt t x.toNat ≤ (255 : Int)) ∧ ((0 : Int) ≤ IntKind.i64.wrap (x + (1 : Int)) ∧ IntKind.i64.wrap (x + (1 : Int)) ≤ (↑t.size : Int)) ∧ ((SV.y (11 : Nat) = SV.y (11 : Nat) ∧ SV.p (9 :
   Nat) (0 : Nat) = SV.p (9 : Nat) (0 : Nat) ∧ SV.p (8 : Nat) (0 : Nat) = SV.p (8 : Nat) (0 : Nat) ∧ SV.v (Value.int IntKind.i64 (↑t.size : Int)) = SV.v (Value.int IntKind.i64 (↑t.size : Int)) ∧ SV.v (Value.int IntKind.i64 (IntKind.i64.wrap (x + (1 :
   Int)))) = SV.v (Value.int IntKind.i64 (IntKind.i64.wrap (x + (1 : Int)))) ∧ True) ∧ (SV.p (1 : Nat) (0 : Nat) = SV.p (1 : Nat) (0 : Nat) ∧ SV.p (4 : Nat) (0 : Nat) = SV.p (4 : Nat) (0 : Nat) ∧ SV.v (Value.bool (ctX (((), (), (F x).G, (F x).K, (F
   x).Ho, (F x).pe), ((F x).r, (F x).c, false, (), ()), oe, RC.mk (F x).l oe (F x).ep, (qe, trF ((u1, u2, G, K, Ho, pe), (r, c, false, u3, u4), oe, RC.mk l oe ep, (qe, fr, n, ov), OI.mk xs m qe, OI.mk pl pl.length pe), (F x).n, (F x).ov), OI.mk (F x).xs
   (trM ((u1, u2, G, K, Ho, pe), (r, c, false, u3, u4), oe, RC.mk l oe ep, (qe, fr, n, ov), OI.mk xs m qe, OI.mk pl pl.length pe)) qe, OI.mk (F x).pl (F x).pl.length (F x).pe) (byteAt t x.toNat)).G) = SV.v (Value.bool (F (IntKind.i64.wrap (x + (1 :
   Int)))).G) ∧ SV.v (Value.bool (ctX (((), (), (F x).G, (F x).K, (F x).Ho, (F x).pe), ((F x).r, (F x).c, false, (), ()), oe, RC.mk (F x).l oe (F x).ep, (qe, trF ((u1, u2, G, K, Ho, pe), (r, c, false, u3, u4), oe, RC.mk l oe ep, (qe, fr, n, ov), OI.mk
   xs m qe, OI.mk pl pl.length pe), (F x).n, (F x).ov), OI.mk (F x).xs (trM ((u1, u2, G, K, Ho, pe), (r, c, false, u3, u4), oe, RC.mk l oe ep, (qe, fr, n, ov), OI.mk xs m qe, OI.mk pl pl.length pe)) qe, OI.mk (F x).pl (F x).pl.length (F x).pe) (byteAt t
   x.toNat)).K) = SV.v (Value.bool (F (IntKind.i64.wrap (x + (1 : Int)))).K) ∧ SV.v (Value.bool (ctX (((), (), (F x).G, (F x).K, (F x).Ho, (F x).pe), ((F x).r, (F x).c, false, (), ()), oe, RC.mk (F x).l oe (F x).ep, (qe, trF ((u1, u2, G, K, Ho, pe), (r,
   c, false, u3, u4), oe, RC.mk l oe ep, (qe, fr, n, ov), OI.mk xs m qe, OI.mk pl pl.length pe), (F x).n, (F x).ov), OI.mk (F x).xs (trM ((u1, u2, G, K, Ho, pe), (r, c, false, u3, u4), oe, RC.mk l oe ep, (qe, fr, n, ov), OI.mk xs m qe, OI.mk pl
   pl.length pe)) qe, OI.mk (F x).pl (F x).pl.length (F x).pe) (byteAt t x.toNat)).Ho) = SV.v (Value.bool (F (IntKind.i64.wrap (x + (1 : Int)))).Ho) ∧ SV.h (6 : Nat) [(ctX (((), (), (F x).G, (F x).K, (F x).Ho, (F x).pe), ((F x).r, (F x).c, false, (),
   ()), oe, RC.mk (F x).l oe (F x).ep, (qe, trF ((u1, u2, G, K, Ho, pe), (r, c, false, u3, u4), oe, RC.mk l oe ep, (qe, fr, n, ov), OI.mk xs m qe, OI.mk pl pl.length pe), (F x).n, (F x).ov), OI.mk (F x).xs (trM ((u1, u2, G, K, Ho, pe), (r, c, false, u3,
   u4), oe, RC.mk l oe ep, (qe, fr, n, ov), OI.mk xs m qe, OI.mk pl pl.length pe)) qe, OI.mk (F x).pl (F x).pl.length (F x).pe) (byteAt t x.toNat)).pe, (0 : Nat)] = SV.h (6 : Nat) [(F (IntKind.i64.wrap (x + (1 : Int)))).pe, (0 : Nat)] ∧ True) ∧ (SV.v
   (Value.int IntKind.i64 (ctX (((), (), (F x).G, (F x).K, (F x).Ho, (F x).pe), ((F x).r, (F x).c, false, (), ()), oe, RC.mk (F x).l oe (F x).ep, (qe, trF ((u1, u2, G, K, Ho, pe), (r, c, false, u3, u4), oe, RC.mk l oe ep, (qe, fr, n, ov), OI.mk xs m qe,
   OI.mk pl pl.length pe), (F x).n, (F x).ov), OI.mk (F x).xs (trM ((u1, u2, G, K, Ho, pe), (r, c, false, u3, u4), oe, RC.mk l oe ep, (qe, fr, n, ov), OI.mk xs m qe, OI.mk pl pl.length pe)) qe, OI.mk (F x).pl (F x).pl.length (F x).pe) (byteAt t
   x.toNat)).r) = SV.v (Value.int IntKind.i64 (F (IntKind.i64.wrap (x + (1 : Int)))).r) ∧ SV.v (Value.int IntKind.i64 (ctX (((), (), (F x).G, (F x).K, (F x).Ho, (F x).pe), ((F x).r, (F x).c, false, (), ()), oe, RC.mk (F x).l oe (F x).ep, (qe, trF ((u1,
   u2, G, K, Ho, pe), (r, c, false, u3, u4), oe, RC.mk l oe ep, (qe, fr, n, ov), OI.mk xs m qe, OI.mk pl pl.length pe), (F x).n, (F x).ov), OI.mk (F x).xs (trM ((u1, u2, G, K, Ho, pe), (r, c, false, u3, u4), oe, RC.mk l oe ep, (qe, fr, n, ov), OI.mk xs
   m qe, OI.mk pl pl.length pe)) qe, OI.mk (F x).pl (F x).pl.length (F x).pe) (byteAt t x.toNat)).c) = SV.v (Value.int IntKind.i64 (F (IntKind.i64.wrap (x + (1 : Int)))).c) ∧ SV.v (Value.bool false) = SV.v (Value.bool false) ∧ SV.p (2 : Nat) (0 : Nat) =
   SV.p (2 : Nat) (0 : Nat) ∧ True) ∧ (SV.h (3 : Nat) [oe, (0 : Nat)] = SV.h (3 : Nat) [oe, (0 : Nat)] ∧ True) ∧ (oe = oe ∧ (ctX (((), (), (F x).G, (F x).K, (F x).Ho, (F x).pe), ((F x).r, (F x).c, false, (), ()), oe, RC.mk (F x).l oe (F x).ep, (qe, trF
   ((u1, u2, G, K, Ho, pe), (r, c, false, u3, u4), oe, RC.mk l oe ep, (qe, fr, n, ov), OI.mk xs m qe, OI.mk pl pl.length pe), (F x).n, (F x).ov), OI.mk (F x).xs (trM ((u1, u2, G, K, Ho, pe), (r, c, false, u3, u4), oe, RC.mk l oe ep, (qe, fr, n, ov),
   OI.mk xs m qe, OI.mk pl pl.length pe)) qe, OI.mk (F x).pl (F x).pl.length (F x).pe) (byteAt t x.toNat)).ep = (F (IntKind.i64.wrap (x + (1 : Int)))).ep ∧ (ctX (((), (), (F x).G, (F x).K, (F x).Ho, (F x).pe), ((F x).r, (F x).c, false, (), ()), oe,
   RC.mk (F x).l oe (F x).ep, (qe, trF ((u1, u2, G, K, Ho, pe), (r, c, false, u3, u4), oe, RC.mk l oe ep, (qe, fr, n, ov), OI.mk xs m qe, OI.mk pl pl.length pe), (F x).n, (F x).ov), OI.mk (F x).xs (trM ((u1, u2, G, K, Ho, pe), (r, c, false, u3, u4), oe,
   RC.mk l oe ep, (qe, fr, n, ov), OI.mk xs m qe, OI.mk pl pl.length pe)) qe, OI.mk (F x).pl (F x).pl.length (F x).pe) (byteAt t x.toNat)).l = (F (IntKind.i64.wrap (x + (1 : Int)))).l) ∧ (SV.h (5 : Nat) [qe, (0 : Nat)] = SV.h (5 : Nat) [qe, (0 : Nat)] ∧
   SV.v (Value.int IntKind.i64 (trF ((u1, u2, G, K, Ho, pe), (r, c, false, u3, u4), oe, RC.mk l oe ep, (qe, fr, n, ov), OI.mk xs m qe, OI.mk pl pl.length pe))) = SV.v (Value.int IntKind.i64 (trF ((u1, u2, G, K, Ho, pe), (r, c, false, u3, u4), oe, RC.mk
   l oe ep, (qe, fr, n, ov), OI.mk xs m qe, OI.mk pl pl.length pe))) ∧ SV.v (Value.int IntKind.i64 (ctX (((), (), (F x).G, (F x).K, (F x).Ho, (F x).pe), ((F x).r, (F x).c, false, (), ()), oe, RC.mk (F x).l oe (F x).ep, (qe, trF ((u1, u2, G, K, Ho, pe),
   (r, c, false, u3, u4), oe, RC.mk l oe ep, (qe, fr, n, ov), OI.mk xs m qe, OI.mk pl pl.length pe), (F x).n, (F x).ov), OI.mk (F x).xs (trM ((u1, u2, G, K, Ho, pe), (r, c, false, u3, u4), oe, RC.mk l oe ep, (qe, fr, n, ov), OI.mk xs m qe, OI.mk pl
   pl.length pe)) qe, OI.mk (F x).pl (F x).pl.length (F x).pe) (byteAt t x.toNat)).n) = SV.v (Value.int IntKind.i64 (F (IntKind.i64.wrap (x + (1 : Int)))).n) ∧ SV.v (Value.bool (ctX (((), (), (F x).G, (F x).K, (F x).Ho, (F x).pe), ((F x).r, (F x).c,
   false, (), ()), oe, RC.mk (F x).l oe (F x).ep, (qe, trF ((u1, u2, G, K, Ho, pe), (r, c, false, u3, u4), oe, RC.mk l oe ep, (qe, fr, n, ov), OI.mk xs m qe, OI.mk pl pl.length pe), (F x).n, (F x).ov), OI.mk (F x).xs (trM ((u1, u2, G, K, Ho, pe), (r, c,
   false, u3, u4), oe, RC.mk l oe ep, (qe, fr, n, ov), OI.mk xs m qe, OI.mk pl pl.length pe)) qe, OI.mk (F x).pl (F x).pl.length (F x).pe) (byteAt t x.toNat)).ov) = SV.v (Value.bool (F (IntKind.i64.wrap (x + (1 : Int)))).ov) ∧ True) ∧ (trM ((u1, u2, G,
   K, Ho, pe), (r, c, false, u3, u4), oe, RC.mk l oe ep, (qe, fr, n, ov), OI.mk xs m qe, OI.mk pl pl.length pe) = trM ((u1, u2, G, K, Ho, pe), (r, c, false, u3, u4), oe, RC.mk l oe ep, (qe, fr, n, ov), OI.mk xs m qe, OI.mk pl pl.length pe) ∧ qe = qe ∧
   (ctX (((), (), (F x).G, (F x).K, (F x).Ho, (F x).pe), ((F x).r, (F x).c, false, (), ()), oe, RC.mk (F x).l oe (F x).ep, (qe, trF ((u1, u2, G, K, Ho, pe), (r, c, false, u3, u4), oe, RC.mk l oe ep, (qe, fr, n, ov), OI.mk xs m qe, OI.mk pl pl.length
   pe), (F x).n, (F x).ov), OI.mk (F x).xs (trM ((u1, u2, G, K, Ho, pe), (r, c, false, u3, u4), oe, RC.mk l oe ep, (qe, fr, n, ov), OI.mk xs m qe, OI.mk pl pl.length pe)) qe, OI.mk (F x).pl (F x).pl.length (F x).pe) (byteAt t x.toNat)).xs = (F
   (IntKind.i64.wrap (x + (1 : Int)))).xs) ∧ ((ctX (((), (), (F x).G, (F x).K, (F x).Ho, (F x).pe), ((F x).r, (F x).c, false, (), ()), oe, RC.mk (F x).l oe (F x).ep, (qe, trF ((u1, u2, G, K, Ho, pe), (r, c, false, u3, u4), oe, RC.mk l oe ep, (qe, fr, n,
   ov), OI.mk xs m qe, OI.mk pl pl.length pe), (F x).n, (F x).ov), OI.mk (F x).xs (trM ((u1, u2, G, K, Ho, pe), (r, c, false, u3, u4), oe, RC.mk l oe ep, (qe, fr, n, ov), OI.mk xs m qe, OI.mk pl pl.length pe)) qe, OI.mk (F x).pl (F x).pl.length (F
   x).pe) (byteAt t x.toNat)).pl.length = (F (IntKind.i64.wrap (x + (1 : Int)))).pl.length ∧ (ctX (((), (), (F x).G, (F x).K, (F x).Ho, (F x).pe), ((F x).r, (F x).c, false, (), ()), oe, RC.mk (F x).l oe (F x).ep, (qe, trF ((u1, u2, G, K, Ho, pe), (r, c,
   false, u3, u4), oe, RC.mk l oe ep, (qe, fr, n, ov), OI.mk xs m qe, OI.mk pl pl.length pe), (F x).n, (F x).ov), OI.mk (F x).xs (trM ((u1, u2, G, K, Ho, pe), (r, c, false, u3, u4), oe, RC.mk l oe ep, (qe, fr, n, ov), OI.mk xs m qe, OI.mk pl pl.length
   pe)) qe, OI.mk (F x).pl (F x).pl.length (F x).pe) (byteAt t x.toNat)).pe = (F (IntKind.i64.wrap (x + (1 : Int)))).pe ∧ (ctX (((), (), (F x).G, (F x).K, (F x).Ho, (F x).pe), ((F x).r, (F x).c, false, (), ()), oe, RC.mk (F x).l oe (F x).ep, (qe, trF
   ((u1, u2, G, K, Ho, pe), (r, c, false, u3, u4), oe, RC.mk l oe ep, (qe, fr, n, ov), OI.mk xs m qe, OI.mk pl pl.length pe), (F x).n, (F x).ov), OI.mk (F x).xs (trM ((u1, u2, G, K, Ho, pe), (r, c, false, u3, u4), oe, RC.mk l oe ep, (qe, fr, n, ov),
   OI.mk xs m qe, OI.mk pl pl.length pe)) qe, OI.mk (F x).pl (F x).pl.length (F x).pe) (byteAt t x.toNat)).pl = (F (IntKind.i64.wrap (x + (1 : Int)))).pl) ∧ (SV.p (0 : Nat) (0 : Nat) = SV.p (0 : Nat) (0 : Nat) ∧ True) ∧ (SV.p (0 : Nat) (0 : Nat) = SV.p
   (0 : Nat) (0 : Nat) ∧ True) ∧ (SV.v (Value.string t) = SV.v (Value.string t) ∧ True) ∧ Obj.deferred (some []) = Obj.deferred (some []) ∧ ((SV.p (7 : Nat) (0 : Nat) = SV.p (7 : Nat) (0 : Nat) ∧ True) ∧ #[(10 : Nat)] = #[(10 : Nat)] ∧ codeAt Tryd.f11
   [(1 : Nat), (1 : Nat), (1 : Nat), (0 : Nat), (0 : Nat)] = codeAt Tryd.f11 [(1 : Nat), (1 : Nat), (1 : Nat), (0 : Nat), (0 : Nat)] ∧ codeAt Tryd.f11 [(1 : Nat), (1 : Nat), (1 : Nat), (0 : Nat), (1 : Nat)] = codeAt Tryd.f11 [(1 : Nat), (1 : Nat), (1 :
   Nat), (0 : Nat), (1 : Nat)]) ∧ True) ∧ ((↑t.size : Int) - IntKind.i64.wrap (x + (1 : Int))).toNat < ((↑t.size : Int) - x).toNat))))))))) ((SV.t [] = SV.t [] ∧ True) ∧ (SV.p (1 : Nat) (0 : Nat) = SV.p (1 : Nat) (0 : Nat) ∧ SV.p (4 : Nat) (0 : Nat) =
   SV.p (4 : Nat) (0 : Nat) ∧ SV.v (Value.bool (F x).G) = SV.v (Value.bool (fdX ((u1, u2, G, K, Ho, pe), (r, c, false, u3, u4), oe, RC.mk l oe ep, (qe, fr, n, ov), OI.mk xs m qe, OI.mk pl pl.length pe) t).G) ∧ SV.v (Value.bool (F x).K) = SV.v
   (Value.bool (fdX ((u1, u2, G, K, Ho, pe), (r, c, false, u3, u4), oe, RC.mk l oe ep, (qe, fr, n, ov), OI.mk xs m qe, OI.mk pl pl.length pe) t).K) ∧ SV.v (Value.bool (F x).Ho) = SV.v (Value.bool (fdX ((u1, u2, G, K, Ho, pe), (r, c, false, u3, u4), oe,
   RC.mk l oe ep, (qe, fr, n, ov), OI.mk xs m qe, OI.mk pl pl.length pe) t).Ho) ∧ SV.h (6 : Nat) [(F x).pe, (0 : Nat)] = SV.h (6 : Nat) [(fdX ((u1, u2, G, K, Ho, pe), (r, c, false, u3, u4), oe, RC.mk l oe ep, (qe, fr, n, ov), OI.mk xs m qe, OI.mk pl
   pl.length pe) t).pe, (0 : Nat)] ∧ True) ∧ (SV.v (Value.int IntKind.i64 (F x).r) = SV.v (Value.int IntKind.i64 (fdX ((u1, u2, G, K, Ho, pe), (r, c, false, u3, u4), oe, RC.mk l oe ep, (qe, fr, n, ov), OI.mk xs m qe, OI.mk pl pl.length pe) t).r) ∧ SV.v
   (Value.int IntKind.i64 (F x).c) = SV.v (Value.int IntKind.i64 (fdX ((u1, u2, G, K, Ho, pe), (r, c, false, u3, u4), oe, RC.mk l oe ep, (qe, fr, n, ov), OI.mk xs m qe, OI.mk pl pl.length pe) t).c) ∧ SV.v (Value.bool false) = SV.v (Value.bool false) ∧
   SV.p (2 : Nat) (0 : Nat) = SV.p (2 : Nat) (0 : Nat) ∧ True) ∧ (SV.h (3 : Nat) [oe, (0 : Nat)] = SV.h (3 : Nat) [oe, (0 : Nat)] ∧ True) ∧ (oe = oe ∧ (F x).ep = (fdX ((u1, u2, G, K, Ho, pe), (r, c, false, u3, u4), oe, RC.mk l oe ep, (qe, fr, n, ov),
   OI.mk xs m qe, OI.mk pl pl.length pe) t).ep ∧ (F x).l = (fdX ((u1, u2, G, K, Ho, pe), (r, c, false, u3, u4), oe, RC.mk l oe ep, (qe, fr, n, ov), OI.mk xs m qe, OI.mk pl pl.length pe) t).l) ∧ (SV.h (5 : Nat) [qe, (0 : Nat)] = SV.h (5 : Nat) [qe, (0 :
   Nat)] ∧ SV.v (Value.int IntKind.i64 (trF ((u1, u2, G, K, Ho, pe), (r, c, false, u3, u4), oe, RC.mk l oe ep, (qe, fr, n, ov), OI.mk xs m qe, OI.mk pl pl.length pe))) = SV.v (Value.int IntKind.i64 fr) ∧ SV.v (Value.int IntKind.i64 (F x).n) = SV.v
   (Value.int IntKind.i64 (fdX ((u1, u2, G, K, Ho, pe), (r, c, false, u3, u4), oe, RC.mk l oe ep, (qe, fr, n, ov), OI.mk xs m qe, OI.mk pl pl.length pe) t).n) ∧ SV.v (Value.bool (F x).ov) = SV.v (Value.bool (fdX ((u1, u2, G, K, Ho, pe), (r, c, false,
   u3, u4), oe, RC.mk l oe ep, (qe, fr, n, ov), OI.mk xs m qe, OI.mk pl pl.length pe) t).ov) ∧ True) ∧ (trM ((u1, u2, G, K, Ho, pe), (r, c, false, u3, u4), oe, RC.mk l oe ep, (qe, fr, n, ov), OI.mk xs m qe, OI.mk pl pl.length pe) = m ∧ qe = qe ∧ (F
   x).xs = (fdX ((u1, u2, G, K, Ho, pe), (r, c, false, u3, u4), oe, RC.mk l oe ep, (qe, fr, n, ov), OI.mk xs m qe, OI.mk pl pl.length pe) t).xs) ∧ ((F x).pl.length = (fdX ((u1, u2, G, K, Ho, pe), (r, c, false, u3, u4), oe, RC.mk l oe ep, (qe, fr, n,
   ov), OI.mk xs m qe, OI.mk pl pl.length pe) t).pl.length ∧ (F x).pe = (fdX ((u1, u2, G, K, Ho, pe), (r, c, false, u3, u4), oe, RC.mk l oe ep, (qe, fr, n, ov), OI.mk xs m qe, OI.mk pl pl.length pe) t).pe ∧ (F x).pl = (fdX ((u1, u2, G, K, Ho, pe), (r,
   c, false, u3, u4), oe, RC.mk l oe ep, (qe, fr, n, ov), OI.mk xs m qe, OI.mk pl pl.length pe) t).pl) ∧ True)) (fdF ((u1, u2, G, K, Ho, pe), (r, c, false, u3, u4), oe, RC.mk l oe ep, (qe, fr, n, ov), OI.mk xs m qe, OI.mk pl pl.length pe) t))) (by
   kernel_rfl) ?_
  clear hp hφ
  have hb := bytesL_range t
  generalize hF : fdF ((u1, u2, G, K, Ho, pe), (r, c, false, u3, u4), oe, RC.mk l oe ep, (qe, fr, n, ov), OI.mk xs m qe, OI.mk pl pl.length pe) t = F
  have eS : ∀ i : Int, 0 ≤ i → i < t.size → F (i + 1) = byT m fr (F i) (byteAt t i.toNat) := by subst hF; exact fun i h0 h1 => feedT_succ _ _ _ h0 h1
  have eT : ∀ i : Int, TI fr m (F i) := by subst hF; exact fun i => (tp_feed _ hI (byteR_take hb _)).ti
  have eE : F t.size = fdX ((u1, u2, G, K, Ho, pe), (r, c, false, u3, u4), oe, RC.mk l oe ep, (qe, fr, n, ov), OI.mk xs m qe, OI.mk pl pl.length pe) t := by subst hF; exact feedT_all _ _ _ _
  clear hF
  simp only [trM, trF, tmS]
  refine ⟨by simp, by simp, fun x hx => ?_⟩
  obtain ⟨hx0, hx1⟩ : (0 : Int) ≤ x ∧ (x : Int) ≤ t.size := hx
  have hT := eT x
  refine br_intro (fun hlt => ?_) (fun hge => ?_)
  · have hlt : x < (t.size : Int) := of_decide_eq_true hlt
    have e := eS x hx0 hlt
    have hbx := byteAt_range t x.toNat
    have hxr : (decide (0 ≤ x ∧ x < (t.size : Int))) = true := decide_eq_true ⟨hx0, hlt⟩
    rw [wrap64 (x := x + 1) (by omega) (by omega), e]
    have hmu : ((t.size : Int) - (x + 1)).toNat < ((t.size : Int) - x).toNat := by omega
    have hbd : 0 ≤ x + 1 ∧ x + 1 ≤ (t.size : Int) := by omega
    clear eS eT eE
    generalize byteAt t x.toNat = b at hbx ⊢
    generalize F x = s at hT ⊢
    obtain ⟨r, c, l, ep, G, K, Ho, n, ov, xs, pe, pl⟩ := s
    have hTA : TA (((), (), G, K, Ho, pe), (r, c, false, (), ()), oe, RC.mk l oe ep, (qe, fr, n, ov), OI.mk xs m qe, OI.mk pl pl.length pe) := ⟨rfl, rfl, rfl, rfl, rfl, hT⟩
    have hsq : sqX (((), (), G, K, Ho, pe), (r, c, false, (), ()), oe, RC.mk l oe ep, (qe, fr, n, ov), OI.mk xs m qe, OI.mk pl pl.length pe) b = sqT m fr ⟨r, c, l, ep, G, K, Ho, n, ov, xs, pe, pl⟩ b := rfl
    have hct : ctX (((), (), G, K, Ho, pe), (r, c, false, (), ()), oe, RC.mk l oe ep, (qe, fr, n, ov), OI.mk xs m qe, OI.mk pl pl.length pe) b = ctT ⟨r, c, l, ep, G, K, Ho, n, ov, xs, pe, pl⟩ b := rfl
    simp only [hsq, hct]
    have h27 : byT m fr ⟨r, c, l, ep, G, K, Ho, n, ov, xs, pe, pl⟩ b = if pl.length = 0 ∧ b > 126 then ⟨r, c, l, ep, G, K, Ho, n, ov, xs, pe, pl⟩ else if b = 27 then ⟨r, c, l, ep, G, K, Ho, n, ov, xs, pe + 1, [27]⟩ else if 0 < pl.length then sqT m fr
     ⟨r, c, l, ep, G, K, Ho, n, ov, xs, pe, pl⟩ b else if 32 ≤ b then puT ⟨r, c, l, ep, G, K, Ho, n, ov, xs, pe, pl⟩ b else ctT ⟨r, c, l, ep, G, K, Ho, n, ov, xs, pe, pl⟩ b := rfl
    generalize byT m fr ⟨r, c, l, ep, G, K, Ho, n, ov, xs, pe, pl⟩ b = B at h27 ⊢
    have hY : ∀ {P1 P2 P3 P4 : Prop}, ¬ (pl.length = 0 ∧ b > 126) → (b = 27 → B = ⟨r, c, l, ep, G, K, Ho, n, ov, xs, pe + 1, [27]⟩ → P1) → (0 < pl.length → B = sqT m fr ⟨r, c, l, ep, G, K, Ho, n, ov, xs, pe, pl⟩ b → P2) → (pl.length = 0 → B = puT ⟨r, c, l, ep, G, K, Ho, n, ov, xs, pe, pl⟩ b → P3) → (pl.length = 0 → B = ctT ⟨r, c, l, ep, G, K, Ho, n, ov, xs, pe, pl⟩ b → P4) →
        br (b == 27) P1 (rq (Nat.beq pe pe) (br (decide ((pl.length : Int) > 0)) P2 (br (decide (b ≥ 32)) P3 P4))) := by
      intro P1 P2 P3 P4 h1 q1 q2 q3 q4
      rw [if_neg h1] at h27
      refine br_intro (fun h3 => ?_) (fun h3 => rq_t (by simp) (br_intro (fun h4 => ?_) (fun h4 => br_intro (fun h5 => ?_) (fun h5 => ?_))))
      · have h3 : b = 27 := by simpa using h3
        exact q1 h3 (by rw [h27, if_pos h3])
      · have h3 : ¬ b = 27 := by simpa using h3
        have h4 : 0 < pl.length := by simpa using h4
        exact q2 h4 (by rw [h27, if_neg h3, if_pos h4])
      · have h3 : ¬ b = 27 := by simpa using h3
        have h4 : pl.length = 0 := by have : ¬ (pl.length : Int) > 0 := of_decide_eq_false h4; omega
        have h5 : b ≥ 32 := of_decide_eq_true h5
        exact q3 h4 (by rw [h27, if_neg h3, if_neg (by omega), if_pos h5])
      · have h3 : ¬ b = 27 := by simpa using h3
        have h4 : pl.length = 0 := by have : ¬ (pl.length : Int) > 0 := of_decide_eq_false h4; omega
        have h5 : ¬ b ≥ 32 := of_decide_eq_false h5
        exact q4 h4 (by rw [h27, if_neg h3, if_neg (by omega), if_neg h5])
    refine rq_t hxr (rq_t (by simp) (br_intro (fun h1 => br_intro (fun h2 => ?_) (fun h2 => rq_t hxr (hY ?_ ?_ ?_ ?_ ?_))) (fun h1 => rq_t hxr (hY ?_ ?_ ?_ ?_ ?_))))
    · have h1 : pl.length = 0 := by simpa using h1
      have h2 : b > 126 := of_decide_eq_true h2
      rw [if_pos ⟨h1, h2⟩] at h27
      clear hY hsq hct hTA
      subst h27
      simp [hmu, hbd]
    · have h2 : ¬ b > 126 := of_decide_eq_false h2
      exact fun h => h2 h.2
    · intro _ hB
      clear hY hsq hct hTA h27
      subst hB
      simp [hmu, hbd]
    · intro h5 hB
      clear hY hsq hct h27
      rw [hB]
      have h7 : 1 ≤ pl.length := h5
      simp [hTA, hmu, hbd, hbx, h7]
    · intro h5 hB
      clear hY hsq hct h27
      subst hB
      simp [puT, hTA, hmu, hbd, hbx]
    · intro h5 hB
      clear hY hsq hct h27
      subst hB
      simp [hTA, hmu, hbd, hbx]
    · have h1 : ¬ pl.length = 0 := by simpa using h1
      exact fun h => h1 h.1
    · intro _ hB
      clear hY hsq hct hTA h27
      subst hB
      simp [hmu, hbd]
    · intro h5 hB
      clear hY hsq hct h27
      rw [hB]
      have h7 : 1 ≤ pl.length := h5
      simp [hTA, hmu, hbd, hbx, h7]
    · intro h5 hB
      clear hY hsq hct h27
      subst hB
      simp [puT, hTA, hmu, hbd, hbx]
    · intro h5 hB
      clear hY hsq hct h27
      subst hB
      simp [hTA, hmu, hbd, hbx]
  · have hge : ¬ (x : Int) < (t.size : Int) := of_decide_eq_false hge
    obtain rfl : x = (t.size : Int) := by omega
    rw [eE]
    simp
end Go.Proofs.YtcbjgpkbfmmdpaaDoor
namespace Go.Proofs.YtcbjgpkbfmmdpaaDoor
open Go Go.Sym
def lcTModes : ACon Unit := mkLC (decP (shOne (shP 0)) (shTm 0)) fun (_, x) => .ask (TA x) (.one (.a [.v (.bool (tmS x).G), .v (.bool (tmS x).K), .v (.bool (tmS x).Ho)]) (tmE 0 x (tmS x)) [])
set_option maxHeartbeats 4000000 in
theorem ok_tModes : ∀ I : Sym.Inv Unit, LCOk I Tryd.prog 17 lcTModes := by
  refine lc_mk (fun _ => allCfg Tryd.prog [] tabT12 0) (fun _ _ => allCfg_ok mixed trivial tabT12_ok) (fun _ => rfl) (n := 60) Tryd.func17 ?_
  intro ⟨_, ⟨_, _, G, K, Ho, pe⟩, ⟨r, c, p, _, _⟩, oe, ⟨l, oe2, ep⟩, ⟨qe, fr, n, ov⟩, ⟨xs, m, qe2⟩, ⟨pl, pn, pe2⟩⟩ hφ
  obtain ⟨⟨rfl, rfl, rfl, rfl, rfl, hI⟩, hp⟩ := id hφ
  refine kcast (B := ((SV.a [SV.v (Value.bool G), SV.v (Value.bool K), SV.v (Value.bool Ho)] = SV.a [SV.v (Value.bool G), SV.v (Value.bool K), SV.v (Value.bool
        Ho)] ∧ True) ∧ (SV.p (1 : Nat) (0 : Nat) = SV.p (1 : Nat) (0 : Nat) ∧ SV.p (4 : Nat) (0 : Nat) = SV.p (4 : Nat) (0 : Nat) ∧ SV.v (Value.bool G) = SV.v
        (Value.bool G) ∧ SV.v (Value.bool K) = SV.v (Value.bool K) ∧ SV.v (Value.bool Ho) = SV.v (Value.bool Ho) ∧ SV.h (6 : Nat) [pe, (0 : Nat)] = SV.h (6 : Nat) [pe,
        (0 : Nat)] ∧ True) ∧ (SV.v (Value.int IntKind.i64 r) = SV.v (Value.int IntKind.i64 r) ∧ SV.v (Value.int IntKind.i64 c) = SV.v (Value.int IntKind.i64 c) ∧ SV.v
        (Value.bool false) = SV.v (Value.bool false) ∧ SV.p (2 : Nat) (0 : Nat) = SV.p (2 : Nat) (0 : Nat) ∧ True) ∧ (SV.h (3 : Nat) [oe, (0 : Nat)] = SV.h (3 : Nat)
        [oe, (0 : Nat)] ∧ True) ∧ (oe = oe ∧ ep = ep ∧ l = l) ∧ (SV.h (5 : Nat) [qe, (0 : Nat)] = SV.h (5 : Nat) [qe, (0 : Nat)] ∧ SV.v (Value.int IntKind.i64 fr) =
        SV.v (Value.int IntKind.i64 fr) ∧ SV.v (Value.int IntKind.i64 n) = SV.v (Value.int IntKind.i64 n) ∧ SV.v (Value.bool ov) = SV.v (Value.bool ov) ∧ True) ∧ (m = m
        ∧ qe = qe ∧ xs = xs) ∧ (pl.length = pl.length ∧ pe = pe ∧ pl = pl) ∧ True)) (by kernel_rfl) ?_
  simp
theorem newL_gridF (R C : Nat) (x : C4) : newL R C x = gridF R C fun _ _ => x := by
  unfold newL gridF
  apply List.ext_getElem
  · simp
  · intro i h1 h2
    simp only [List.getElem_replicate, List.getElem_map]
    apply List.ext_getElem <;> simp
theorem newL_gw {R D : Nat} {x : C4} (h0 : 1 ≤ R) (h1 : R ≤ 255) (h2 : 1 ≤ D) (h3 : D ≤ 255) : GW (newL R D x) := by rw [newL_gridF]; exact gridF_gw h0 h1 h2 h3
theorem newL_length (R D : Nat) (x : C4) : (newL R D x).length = R := by rw [newL_gridF, gridF_length]
theorem newL_nC {R D : Nat} {x : C4} (h0 : 1 ≤ R) : nC (newL R D x) = D := by rw [newL_gridF]; exact gridF_nC (by omega)
def newT (a b m : Int) : Tm := ⟨0, 0, newL a.toNat b.toNat blankC, a.toNat + 1, false, false, false, 0, false, List.replicate m.toNat 0, 0, []⟩
theorem newT_ti {a b m : Int} (hm : mayB a b = true) (h0 : 0 ≤ m) (h1 : m ≤ 4096) : TI 0 m.toNat (newT a b m) := by
  have hb := mayB_iff.1 hm
  have e1 := newL_length a.toNat b.toNat blankC
  have e2 := newL_nC (R := a.toNat) (D := b.toNat) (x := blankC) (by omega)
  refine ⟨newL_gw (by omega) (by omega) (by omega) (by omega), Int.le_refl 0, ?_, Int.le_refl 0, ?_, ⟨by simp [newT], by omega, Int.le_refl 0, by omega, Int.le_refl 0, by simp only [newT]; omega, fun x hx => ?_⟩, by simp [newT], fun x hx => by simp [newT] at hx⟩
  · simp only [newT]; rw [e1]; omega
  · simp only [newT]; rw [e2]; omega
  · simp only [newT, List.mem_replicate] at hx; omega
def tabW12 : List (Nat × ACon Unit) := (10, lcMade) :: (11, lcTFeed) :: (13, lcSAt) :: (12, lcCur) :: []
theorem tabW12_ok : LCs Tryd.prog tabW12 := ⟨ok_made, ok_tFeed, ok_sAt, ok_cur, trivial⟩
def lcAwake : ACon Unit := mkLC (decP shNil shHNil) fun _ => .one (.v (.bool true)) [] []
set_option maxHeartbeats 4000000 in
theorem ok_awake : ∀ I : Sym.Inv Unit, LCOk I Tryd.prog 9 lcAwake := by
  refine lc_mk (fun _ => allCfg Tryd.prog [] tabW12 0) (fun _ _ => allCfg_ok mixed trivial tabW12_ok) (fun _ => rfl) (n := 80) Tryd.func9 ?_
  intro ⟨_, _⟩ hφ
  refine kcast (B := (true = true ∧ (true = true ∧ II (0 : Int) ≤ (10 : Int) ∧ II (10 : Int) ≤ (4096 : Int)) ∧ true = true ∧ (TA (((), (), false, false, false,
        (0 : Nat)), ((0 : Int), (0 : Int), false, (), ()), (11 : Nat), RC.mk (newL (10 : Nat) (20 : Nat) blankC) (11 : Nat) (11 : Nat), ((0 : Nat), (0 : Int), (0 :
        Int), false), OI.mk (LI [(0 : Int), (0 : Int), (0 : Int), (0 : Int), (0 : Int), (0 : Int), (0 : Int), (0 : Int), (0 : Int), (0 : Int)]) (10 : Nat) (0 : Nat),
        OI.mk (LI []) (0 : Nat) (0 : Nat)) ∧ (5 : Nat) ≤ (1099511627776 : Nat)) ∧ true = true ∧ ((11 : Nat) = (11 : Nat) ∧ GW [[blankC, blankC, blankC, blankC, blankC,
        blankC, blankC, blankC, blankC, blankC, blankC, blankC, blankC, blankC, blankC, blankC, blankC, blankC, blankC, blankC], [blankC, blankC, blankC, blankC,
        blankC, blankC, blankC, blankC, blankC, blankC, blankC, blankC, blankC, blankC, blankC, blankC, blankC, blankC, blankC, blankC], [blankC, blankC, blankC,
        blankC, blankC, blankC, blankC, blankC, blankC, blankC, blankC, blankC, blankC, blankC, blankC, blankC, blankC, blankC, blankC, blankC], [blankC, blankC,
        blankC, blankC, blankC, C4.mk (120 : Int) (0 : Int) false (0 : Int), blankC, blankC, blankC, blankC, blankC, blankC, blankC, blankC, blankC, blankC, blankC,
        blankC, blankC, blankC], [blankC, blankC, blankC, blankC, blankC, blankC, blankC, blankC, blankC, blankC, blankC, blankC, blankC, blankC, blankC, blankC,
        blankC, blankC, blankC, blankC], [blankC, blankC, blankC, blankC, blankC, blankC, blankC, blankC, blankC, blankC, blankC, blankC, blankC, blankC, blankC,
        blankC, blankC, blankC, blankC, blankC], [blankC, blankC, blankC, blankC, blankC, blankC, blankC, blankC, blankC, blankC, blankC, blankC, blankC, blankC,
        blankC, blankC, blankC, blankC, blankC, blankC], [blankC, blankC, blankC, blankC, blankC, blankC, blankC, blankC, blankC, blankC, blankC, blankC, blankC,
        blankC, blankC, blankC, blankC, blankC, blankC, blankC], [blankC, blankC, blankC, blankC, blankC, blankC, blankC, blankC, blankC, blankC, blankC, blankC,
        blankC, blankC, blankC, blankC, blankC, blankC, blankC, blankC], [blankC, blankC, blankC, blankC, blankC, blankC, blankC, blankC, blankC, blankC, blankC,
        blankC, blankC, blankC, blankC, blankC, blankC, blankC, blankC, blankC]] ∧ true = true) ∧ true = true ∧ (SV.v (Value.bool true) = SV.v (Value.bool true) ∧ True)
        ∧ True)) (by kernel_rfl) ?_
  have hT : TA (((), (), false, false, false, 0), (0, 0, false, (), ()), 11, RC.mk (newL 10 20 blankC) 11 11, (0, 0, 0, false), OI.mk [0, 0, 0, 0, 0, 0, 0, 0, 0, 0] 10 0, OI.mk [] 0 0) := ⟨rfl, rfl, rfl, rfl, rfl, newT_ti (a := 10) (b := 20) (m := 10) (by decide) (by decide) (by decide)⟩
  refine ⟨rfl, ⟨rfl, by decide, by decide⟩, rfl, ⟨hT, by decide⟩, rfl, ⟨rfl, ⟨by decide, by decide, by decide, by decide, by decide⟩, rfl⟩, rfl, ⟨rfl, trivial⟩, trivial⟩
theorem bytesL_append (a b : ByteArray) : bytesL (a ++ b) = bytesL a ++ bytesL b := by simp [bytesL, ByteArray.data_append]
theorem bytesL_getD {t : ByteArray} {j : Nat} (h : j < t.size) : (bytesL t).getD j 0 = byteAt t j := by
  have hl : j < t.data.toList.length := by simpa using h
  simp only [bytesL, byteAt, List.getD, List.getElem?_map, List.getElem?_eq_getElem hl, Option.map_some, Option.getD_some]
theorem bytesL_mem {t : ByteArray} {x : Int} (h : x ∈ bytesL t) : ∃ j, j < t.size ∧ x = byteAt t j := by
  obtain ⟨j, hj, rfl⟩ := List.mem_iff_getElem.1 h
  have hj' : j < t.size := by rwa [bytesL_length] at hj
  refine ⟨j, hj', ?_⟩
  rw [← bytesL_getD hj', List.getD, List.getElem?_eq_getElem hj, Option.getD_some]
section
variable {m : Nat} {fr : Int}
theorem esc1 (S : Tm) : byT m fr S 27 = { S with pl := [27], pe := S.pe + 1 } := by
  unfold byT
  rw [if_neg (fun h => by omega), if_pos rfl]
theorem esc2 (S : Tm) {b : Int} (h0 : b ≠ 27) (h1 : b ≠ 89) : feedT m fr S [27, b] = twoT m fr { S with pl := [], pe := S.pe + 3 } b := by
  show byT m fr (byT m fr S 27) b = _
  rw [esc1]
  unfold byT
  rw [if_neg (fun h => by simp at h), if_neg h0, if_pos (by simp)]
  unfold sqT
  rw [if_neg (fun h => by rcases h with ⟨_, h⟩ | h <;> simp_all)]
  exact if_pos rfl
end
def tabL12 : List (Nat × ACon Unit) := (9, lcAwake) :: tabW12
theorem tabL12_ok : LCs Tryd.prog tabL12 := ⟨ok_awake, tabW12_ok⟩
def wOf (st : St Unit) (slot : Nat) : Nat := match st.tm[slot]? with
  | some (.p b _) => b - 11
  | _ => 0
def tmOf (w : Nat) (H : List (SB Unit)) : Option Tm :=
  match H[w + 10]?, H[w + 7]?, H[w + 4]?, H[w + 9]?, H[w + 8]?, H[w + 12]? with
  | some (.cells [_, _, .v (.bool G), .v (.bool K), .v (.bool Ho), .h _ [pe, _]] _), some (.cells [.v (.int _ r), .v (.int _ c), _, _, _] _), some (.rows (.c l) _ _ _ ep _), some (.cells [_, _, .v (.int _ n), .v (.bool ov)] _), some (.own (.ints _ xs) _ _ _ _ _), some (.own (.ints _ pl) _ _ _ _ _) =>
    some ⟨r, c, l, ep, G, K, Ho, n, ov, xs, pe, pl⟩
  | _, _, _, _, _, _ => none
def wmI (w oe qe m : Nat) (fr : Int) (s : Tm) : List (Nat × SB Unit) := [(w + 10, .cells [.p (w + 7) 0, .p (w + 9) 0, .v (.bool s.G), .v (.bool s.K), .v (.bool s.Ho), .h (w + 12) [s.pe, 0]] 69),
  (w + 7, .cells [.v (.int .i64 s.r), .v (.int .i64 s.c), .v (.bool false), .p (w + 3) 0, .any] 80), (w + 4, .rows (.c s.l) 40 47 oe s.ep none),
  (w + 9, .cells [.h (w + 8) [qe, 0], .v (.int .i64 fr), .v (.int .i64 s.n), .v (.bool s.ov)] 96), (w + 8, .own (.ints .u8 s.xs) m 5 1 qe true), (w + 12, .own (.ints .u8 s.pl) s.pl.length 5 1 s.pe false)]
def annJ (keep : List Nat) (var : List (Nat × SV)) (slot : Nat) (oe qe m : Nat) (fr : Int) (S : Tm) : Ann Unit where
  α := Tm
  φ _ s := s = S
  μ _ _ := 0
  get st := tmOf (wOf st slot) st.H
  f st s := tmpl keep var (wmI (wOf st slot) oe qe m fr s) st
theorem tm_eta (y : Tm) : Tm.mk y.r y.c y.l y.ep y.G y.K y.Ho y.n y.ov y.xs y.pe y.pl = y := rfl
end Go.Proofs.YtcbjgpkbfmmdpaaDoor
namespace Go.Proofs.YtcbjgpkbfmmdpaaDoor
open Go Go.Sym
def hit (set r : Int) (n : Nat) : Bool := ofT set n == r && r != 65533
def backT (set r : Int) : Int :=
  match (List.range 256).find? (hit set r) with
  | some n => n
  | none => -1
theorem find_range {p : Nat → Bool} {n m : Nat} (hn : n < m) (hp : p n = true) (hb : ∀ j, j < n → p j = false) : (List.range m).find? p = some n := by
  rw [List.find?_eq_some_iff_append]
  refine ⟨hp, List.range n, (List.range m).drop (n + 1), ?_, fun j hj => by simp [hb j (List.mem_range.1 hj)]⟩
  apply List.ext_getElem
  · simp; omega
  · intro i h1 h2
    simp only [List.length_range] at h1
    rw [List.getElem_range]
    by_cases hi : i < n
    · rw [List.getElem_append_left (by simpa using hi)]; simp
    · rw [List.getElem_append_right (by simpa using (by omega : n ≤ i))]
      simp only [List.length_range]
      by_cases he : i = n
      · subst he; simp
      · rw [List.getElem_cons]
        simp [show ¬ (i - n = 0) by omega]
        omega
theorem back_some {set r : Int} {n : Nat} (hn : n < 256) (hp : hit set r n = true) (hb : ∀ j, j < n → hit set r j = false) : backT set r = n := by
  unfold backT; rw [find_range hn hp hb]
theorem back_none {set r : Int} (hb : ∀ j, j < 256 → hit set r j = false) : backT set r = -1 := by
  unfold backT
  have : (List.range 256).find? (hit set r) = none := by
    rw [List.find?_eq_none]; intro j hj; simp [hb j (List.mem_range.1 hj)]
  rw [this]
theorem back_of {set b : Int} (h0 : 0 ≤ b) (h1 : b < 256) (h2 : ofT set b ≠ 65533) : 0 ≤ backT set (ofT set b) ∧ backT set (ofT set b) ≤ 255 ∧ ofT set (backT set (ofT set b)) = ofT set b := by
  have hh : hit set (ofT set b) b.toNat = true := by
    unfold hit
    rw [show ((b.toNat : Nat) : Int) = b by omega]
    simp [h2]
  unfold backT
  cases hf : (List.range 256).find? (hit set (ofT set b)) with
  | none =>
    rw [List.find?_eq_none] at hf
    exact absurd hh (hf b.toNat (List.mem_range.2 (by omega)))
  | some n =>
    have e1 := List.find?_some hf
    have e2 := List.mem_range.1 (List.mem_of_find?_eq_some hf)
    simp only [hit, Bool.and_eq_true, beq_iff_eq] at e1
    exact ⟨by simp, by simp only; omega, e1.1⟩
structure NoHit (set r : Int) (i : Int) : Prop where
  l : 0 ≤ i
  u : i ≤ 256
  h : ∀ j : Nat, j < i.toNat → hit set r j = false
theorem wrap_u8 {x : Int} (h0 : 0 ≤ x) (h1 : x < 256) : IntKind.wrap .u8 x = x := by
  have := IntWalk.u8_in x ⟨h0, by omega⟩
  exact this
theorem nohit_next {set r x : Int} (h : NoHit set r x) (h1 : x < 256) (hn : hit set r x.toNat = false) : NoHit set r (IntKind.wrap .i64 (x + 1)) := by
  obtain ⟨h0, _, hj⟩ := h
  rw [wrap64 (by omega) (by omega)]
  refine ⟨by omega, by omega, fun j hjl => ?_⟩
  by_cases he : j = x.toNat
  · subst he; exact hn
  · exact hj j (by omega)
theorem hit_nat {set r x : Int} (h0 : 0 ≤ x) : hit set r x.toNat = (ofT set x == r && r != 65533) := by
  unfold hit
  rw [show ((x.toNat : Nat) : Int) = x by omega]
theorem tab_at {set x : Int} (h0 : 0 ≤ x) (h1 : x < 256) : (tabL2 set).getD (0 + x.toNat * 1) 0 = ofT set x := getD_tab rfl h0 (by omega)
def annBk (set r : Int) : Ann Unit where
  α := Int
  φ _ i := NoHit set r i
  μ _ i := (256 - i).toNat
  get st := getI st.tm 7
  f st i := tmpl [0, 1, 6] [(7, .v (.int .i64 i))] [(getY st.tm 0, loopTm st.H (getY st.tm 0) [0, 1, 3, 4, 5] [])] st
def lcBack : ACon Unit := mkLC (decP (shCons shI (shOne (shInt .i32))) shHNil) fun ((set, r), _) => .ask (set = 3) (.one (.t [.v (.int .u8 (max 0 (backT set r))), .v (.bool (decide (0 ≤ backT set r)))]) [] [])
set_option maxHeartbeats 4000000 in
theorem ok_back : ∀ I : Sym.Inv Unit, LCOk I Tryd.prog 16 lcBack := by
  refine lc_mk (fun ((set, r), _) => allCfg Tryd.prog [] [(31, lcOfT)] 0 [(129, annBk set r)]) (fun _ _ => allCfg_ok mixed trivial ⟨ok_ofT, trivial⟩) (fun _ => rfl) (n := 60) Tryd.func16 ?_
  intro ⟨⟨set, r⟩, _⟩ hφ
  obtain ⟨rfl, _⟩ := hφ
  refine kcast (B := (true = true ∧ ((3 : Int) = (1 : Int) ∨ (3 : Int) = (3 : Int)) ∧ NoHit (3 : Int) r (0 : Int) ∧ ((SV.y (5 : Nat) = SV.y (5 : Nat) ∧ SV.p (3 : Nat) (0 : Nat) = SV.p (3 : Nat) (0 : Nat) ∧ SV.p (6 : Nat) (0 : Nat) = SV.p (6 : Nat) (0
   : Nat) ∧ SV.v (Value.int IntKind.i64 (0 : Int)) = SV.v (Value.int IntKind.i64 (0 : Int)) ∧ True) ∧ (SV.v (Value.int IntKind.i32 r) = SV.v (Value.int IntKind.i32 r) ∧ True) ∧ (SV.v (Value.int IntKind.u8 (0 : Int)) = SV.v (Value.int IntKind.u8 (0 :
   Int)) ∧ True) ∧ (SV.v (Value.bool false) = SV.v (Value.bool false) ∧ True) ∧ (SV.v (Value.int IntKind.i64 (3 : Int)) = SV.v (Value.int IntKind.i64 (3 : Int)) ∧ True) ∧ Obj.deferred (some []) = Obj.deferred (some []) ∧ ((SV.v (Value.int IntKind.i64 (3
   : Int)) = SV.v (Value.int IntKind.i64 (3 : Int)) ∧ SV.v (Value.int IntKind.i32 r) = SV.v (Value.int IntKind.i32 r) ∧ SV.p (0 : Nat) (0 : Nat) = SV.p (0 : Nat) (0 : Nat) ∧ SV.p (1 : Nat) (0 : Nat) = SV.p (1 : Nat) (0 : Nat) ∧ SV.p (2 : Nat) (0 : Nat)
   = SV.p (2 : Nat) (0 : Nat) ∧ True) ∧ #[(10 : Nat), (11 : Nat)] = #[(10 : Nat), (11 : Nat)] ∧ codeAt Tryd.f16 [(1 : Nat), (0 : Nat), (1 : Nat), (0 : Nat), (0 : Nat)] = codeAt Tryd.f16 [(1 : Nat), (0 : Nat), (1 : Nat), (0 : Nat), (0 : Nat)] ∧ codeAt
   Tryd.f16 [(1 : Nat), (0 : Nat), (1 : Nat), (0 : Nat), (1 : Nat)] = codeAt Tryd.f16 [(1 : Nat), (0 : Nat), (1 : Nat), (0 : Nat), (1 : Nat)]) ∧ tabL2 (3 : Int) = tabL2 (3 : Int) ∧ True) ∧ ∀ (x : Int), NoHit (3 : Int) r x → br (decide (x < (256 : Int)))
   (rq (decide ((0 : Int) ≤ x ∧ x < (256 : Int))) (rq (((0 : Nat) + x.toNat * (1 : Nat)).blt (256 : Nat)) (br ((tabL2 (3 : Int)).getD ((0 : Nat) + x.toNat * (1 : Nat)) (0 : Int) != (65533 : Int)) (br ((tabL2 (3 : Int)).getD ((0 : Nat) + x.toNat * (1 :
   Nat)) (0 : Int) == r) ((SV.t [SV.v (Value.int IntKind.u8 (IntKind.u8.wrap x)), SV.v (Value.bool true)] = SV.t [SV.v (Value.int IntKind.u8 (max (0 : Int) (backT (3 : Int) r))), SV.v (Value.bool (decide ((0 : Int) ≤ backT (3 : Int) r)))] ∧ True) ∧
   True) (NoHit (3 : Int) r (IntKind.i64.wrap (x + (1 : Int))) ∧ ((SV.y (5 : Nat) = SV.y (5 : Nat) ∧ SV.p (3 : Nat) (0 : Nat) = SV.p (3 : Nat) (0 : Nat) ∧ SV.p (6 : Nat) (0 : Nat) = SV.p (6 : Nat) (0 : Nat) ∧ SV.v (Value.int IntKind.i64
   (IntKind.i64.wrap (x + (1 : Int)))) = SV.v (Value.int IntKind.i64 (IntKind.i64.wrap (x + (1 : Int)))) ∧ True) ∧ (SV.v (Value.int IntKind.i32 r) = SV.v (Value.int IntKind.i32 r) ∧ True) ∧ (SV.v (Value.int IntKind.u8 (0 : Int)) = SV.v (Value.int
   IntKind.u8 (0 : Int)) ∧ True) ∧ (SV.v (Value.bool false) = SV.v (Value.bool false) ∧ True) ∧ (SV.v (Value.int IntKind.i64 (3 : Int)) = SV.v (Value.int IntKind.i64 (3 : Int)) ∧ True) ∧ Obj.deferred (some []) = Obj.deferred (some []) ∧ ((SV.v
   (Value.int IntKind.i64 (3 : Int)) = SV.v (Value.int IntKind.i64 (3 : Int)) ∧ SV.v (Value.int IntKind.i32 r) = SV.v (Value.int IntKind.i32 r) ∧ SV.p (0 : Nat) (0 : Nat) = SV.p (0 : Nat) (0 : Nat) ∧ SV.p (1 : Nat) (0 : Nat) = SV.p (1 : Nat) (0 : Nat) ∧
   SV.p (2 : Nat) (0 : Nat) = SV.p (2 : Nat) (0 : Nat) ∧ True) ∧ #[(10 : Nat), (11 : Nat)] = #[(10 : Nat), (11 : Nat)] ∧ codeAt Tryd.f16 [(1 : Nat), (0 : Nat), (1 : Nat), (0 : Nat), (0 : Nat)] = codeAt Tryd.f16 [(1 : Nat), (0 : Nat), (1 : Nat), (0 :
   Nat), (0 : Nat)] ∧ codeAt Tryd.f16 [(1 : Nat), (0 : Nat), (1 : Nat), (0 : Nat), (1 : Nat)] = codeAt Tryd.f16 [(1 : Nat), (0 : Nat), (1 : Nat), (0 : Nat), (1 : Nat)]) ∧ tabL2 (3 : Int) = tabL2 (3 : Int) ∧ True) ∧ ((256 : Int) - IntKind.i64.wrap (x +
   (1 : Int))).toNat < ((256 : Int) - x).toNat)) (NoHit (3 : Int) r (IntKind.i64.wrap (x + (1 : Int))) ∧ ((SV.y (5 : Nat) = SV.y (5 : Nat) ∧ SV.p (3 : Nat) (0 : Nat) = SV.p (3 : Nat) (0 : Nat) ∧ SV.p (6 : Nat) (0 : Nat) = SV.p (6 : Nat) (0 : Nat) ∧ SV.v
   (Value.int IntKind.i64 (IntKind.i64.wrap (x + (1 : Int)))) = SV.v (Value.int IntKind.i64 (IntKind.i64.wrap (x + (1 : Int)))) ∧ True) ∧ (SV.v (Value.int IntKind.i32 r) = SV.v (Value.int IntKind.i32 r) ∧ True) ∧ (SV.v (Value.int IntKind.u8 (0 : Int)) =
   SV.v (Value.int IntKind.u8 (0 : Int)) ∧ True) ∧ (SV.v (Value.bool false) = SV.v (Value.bool false) ∧ True) ∧ (SV.v (Value.int IntKind.i64 (3 : Int)) = SV.v (Value.int IntKind.i64 (3 : Int)) ∧ True) ∧ Obj.deferred (some []) = Obj.deferred (some []) ∧
   ((SV.v (Value.int IntKind.i64 (3 : Int)) = SV.v (Value.int IntKind.i64 (3 : Int)) ∧ SV.v (Value.int IntKind.i32 r) = SV.v (Value.int IntKind.i32 r) ∧ SV.p (0 : Nat) (0 : Nat) = SV.p (0 : Nat) (0 : Nat) ∧ SV.p (1 : Nat) (0 : Nat) = SV.p (1 : Nat) (0 :
   Nat) ∧ SV.p (2 : Nat) (0 : Nat) = SV.p (2 : Nat) (0 : Nat) ∧ True) ∧ #[(10 : Nat), (11 : Nat)] = #[(10 : Nat), (11 : Nat)] ∧ codeAt Tryd.f16 [(1 : Nat), (0 : Nat), (1 : Nat), (0 : Nat), (0 : Nat)] = codeAt Tryd.f16 [(1 : Nat), (0 : Nat), (1 : Nat),
   (0 : Nat), (0 : Nat)] ∧ codeAt Tryd.f16 [(1 : Nat), (0 : Nat), (1 : Nat), (0 : Nat), (1 : Nat)] = codeAt Tryd.f16 [(1 : Nat), (0 : Nat), (1 : Nat), (0 : Nat), (1 : Nat)]) ∧ tabL2 (3 : Int) = tabL2 (3 : Int) ∧ True) ∧ ((256 : Int) - IntKind.i64.wrap
   (x + (1 : Int))).toNat < ((256 : Int) - x).toNat)))) ((SV.t [SV.v (Value.int IntKind.u8 (0 : Int)), SV.v (Value.bool false)] = SV.t [SV.v (Value.int IntKind.u8 (max (0 : Int) (backT (3 : Int) r))), SV.v (Value.bool (decide ((0 : Int) ≤ backT (3 :
   Int) r)))] ∧ True) ∧ True))) (by kernel_rfl) ?_
  refine ⟨rfl, Or.inr rfl, ⟨by omega, by omega, fun j hj => by simp at hj⟩, ?_, fun (x : Int) hx => ?_⟩
  · repeat' (first | exact trivial | refine And.intro ?_ ?_ | rfl)
  obtain ⟨hx0, hx1, hxj⟩ := id hx
  refine br_intro (fun hlt => ?_) (fun hge => ?_)
  · have hlt : x < 256 := of_decide_eq_true hlt
    refine rq_t (in_range hx0 hlt) (rq_t (in_blt hx0 hlt) ?_)
    rw [tab_at hx0 hlt]
    refine br_intro (fun hn => br_intro (fun he => ?_) (fun he => ?_)) (fun hn => ?_)
    · have hr : (r != 65533) = true := by rw [beq_iff_eq] at he; rw [← he]; exact hn
      have := back_some (set := 3) (r := r) (n := x.toNat) (by omega) (by rw [hit_nat hx0, he, hr]; rfl) (fun j hj => hxj j hj)
      rw [this, show ((x.toNat : Nat) : Int) = x by omega, wrap_u8 hx0 hlt, show max 0 x = x by omega, show decide (0 ≤ x) = true from decide_eq_true hx0]
      exact ⟨⟨rfl, trivial⟩, trivial⟩
    · refine ⟨nohit_next hx hlt (by rw [hit_nat hx0, he]; rfl), ?_, mu_next hx0 hlt⟩
      repeat' (first | exact trivial | refine And.intro ?_ ?_ | rfl)
    · have hn' : hit 3 r x.toNat = false := by
        rw [hit_nat hx0]
        simp only [bne_eq_false_iff_eq] at hn
        rw [hn]
        by_cases h : (65533 : Int) = r
        · subst h; rfl
        · simp [h]
      refine ⟨nohit_next hx hlt hn', ?_, mu_next hx0 hlt⟩
      repeat' (first | exact trivial | refine And.intro ?_ ?_ | rfl)
  · have hge : ¬ x < 256 := of_decide_eq_false hge
    have := back_none (set := 3) (r := r) (fun j hj => hxj j (by omega))
    rw [this]
    exact ⟨⟨rfl, trivial⟩, trivial⟩
end Go.Proofs.YtcbjgpkbfmmdpaaDoor
namespace Go.Proofs.YtcbjgpkbfmmdpaaDoor
open Go Go.Sym
section
variable {m : Nat} {fr : Int}
theorem at2_set2 {l : List (List C4)} (hg : GW l) {w a : Int} {x : C4} (hw : 0 ≤ w) (hw2 : w < l.length) (ha : 0 ≤ a) (hb : a < nC l) {r c : Int} (h1 : 0 ≤ r) (h2 : r < l.length) (h3 : 0 ≤ c) (h4 : c < nC l) :
    at2 (set2 l w a x) r c = if r = w ∧ c = a then x else at2 l r c := by
  rw [set2_eq hg hw hw2 ha hb]
  obtain ⟨i, rfl⟩ : ∃ i : Nat, r = i := ⟨r.toNat, by omega⟩
  obtain ⟨k, rfl⟩ : ∃ k : Nat, c = k := ⟨c.toNat, by omega⟩
  rw [gridF_at (by omega) (by omega)]
  rfl
theorem puts : ∀ (bs : List Int) (S : Tm), TI fr m S → S.pl = [] → S.r = 0 → S.c + bs.length < nC S.l → (∀ x ∈ bs, 32 ≤ x ∧ x ≤ 126) →
    (feedT m fr S bs).G = S.G ∧ (∀ i : Int, 0 ≤ i → i < S.c → at2 (feedT m fr S bs).l 0 i = at2 S.l 0 i) ∧ ∀ j : Nat, j < bs.length → at2 (feedT m fr S bs).l 0 (S.c + j) = ⟨glT S.G (bs.getD j 0), 0, false, 0⟩
  | [], S, _, _, hr, _, _ => ⟨rfl, fun _ _ _ => rfl, fun j hj => by simp at hj⟩
  | b :: bs, S, h, hp, hr, hc, hb => by
    have hb0 := hb b List.mem_cons_self
    have e : byT m fr S b = puT S b := by
      unfold byT
      rw [if_neg (fun h => by omega), if_neg (by omega), if_neg (by rw [hp]; simp), if_pos hb0.1]
    have hT := tp_pu h b
    simp only [List.length_cons] at hc
    have h0 := h.c0
    have ec : (puT S b).c = S.c + 1 := by unfold puT; simp only; rw [if_pos (by omega)]
    have el : (puT S b).l = set2 S.l S.r S.c ⟨glT S.G b, 0, false, 0⟩ := rfl
    have ih := puts bs (puT S b) hT.ti hp hr (by rw [ec, hT.nc]; omega) (fun x hx => hb x (List.mem_cons_of_mem _ hx))
    rw [show feedT m fr S (b :: bs) = feedT m fr (puT S b) bs from by rw [← e]; rfl]
    obtain ⟨i1, i3, i4⟩ := ih
    have hs : ∀ i : Int, 0 ≤ i → i < nC S.l → at2 (puT S b).l 0 i = if i = S.c then ⟨glT S.G b, 0, false, 0⟩ else at2 S.l 0 i := by
      intro i h0 h1
      have h2 := h.r1
      rw [el, at2_set2 h.gw h.r0 h.r1 h.c0 h.c1 (Int.le_refl 0) (by omega) h0 h1, hr]
      by_cases hi : i = S.c <;> simp [hi]
    rw [ec] at i3 i4
    refine ⟨i1, fun i h0 h1 => ?_, fun j hj => ?_⟩
    · rw [i3 i h0 (by omega), hs i h0 (by omega), if_neg (by omega)]
    · cases j with
      | zero =>
        rw [show S.c + ((0 : Nat) : Int) = S.c by omega, i3 S.c h.c0 (by omega), hs S.c h.c0 (by omega), if_pos rfl]
        rfl
      | succ j =>
        have := i4 j (by simp only [List.length_cons] at hj; omega)
        rw [show S.c + ((j + 1 : Nat) : Int) = S.c + 1 + j by omega, this]
        rfl
end
def gaB : ByteArray := ⟨#[27, 70]⟩
def gbB : ByteArray := ⟨#[27, 70, 27, 71]⟩
theorem grA {m : Nat} {fr : Int} {S : Tm} (hS : S.r = 0 ∧ S.c = 0) (h : TI fr m S) {t : ByteArray} (ht : t.size < nC S.l) (hb : ∀ j, j < t.size → 32 ≤ byteAt t j ∧ byteAt t j ≤ 126) :
    (feedT m fr S (bytesL (gaB ++ t))).G = true ∧ ∀ j : Nat, j < t.size → at2 (feedT m fr S (bytesL (gaB ++ t))).l 0 j = ⟨ofT 3 (byteAt t j), 0, false, 0⟩ := by
  have hh := (tp_feed (m := m) (fr := fr) [27, 70] h (fun x hx => by simp at hx; omega)).ti
  rw [bytesL_append, feedT_append, show bytesL gaB = [27, 70] from rfl]
  have e : feedT m fr S [27, 70] = { S with G := true, pl := [], pe := S.pe + 3 } := by rw [esc2 _ (by decide) (by decide)]; simp [twoT]
  rw [e] at hh ⊢
  obtain ⟨p1, _, p4⟩ := puts (bytesL t) _ hh rfl hS.1 (by simp only [bytesL_length, hS.2]; omega) (fun x hx => by
    obtain ⟨j, hj, rfl⟩ := bytesL_mem hx
    exact hb j hj)
  refine ⟨p1, fun j hj => ?_⟩
  have := p4 j (by rw [bytesL_length]; exact hj)
  rw [bytesL_getD hj] at this
  simpa [hS.2, glT] using this
theorem grB {m : Nat} {fr : Int} {S : Tm} (hS : S.r = 0 ∧ S.c = 0) (h : TI fr m S) {t : ByteArray} (ht : t.size < nC S.l) (hb : ∀ j, j < t.size → 32 ≤ byteAt t j ∧ byteAt t j ≤ 126) :
    (feedT m fr S (bytesL (gbB ++ t))).G = false ∧ ∀ j : Nat, j < t.size → at2 (feedT m fr S (bytesL (gbB ++ t))).l 0 j = ⟨byteAt t j, 0, false, 0⟩ := by
  have hh := (tp_feed (m := m) (fr := fr) [27, 70, 27, 71] h (fun x hx => by simp at hx; omega)).ti
  rw [bytesL_append, feedT_append, show bytesL gbB = [27, 70, 27, 71] from rfl]
  have e : feedT m fr S [27, 70, 27, 71] = { S with G := false, pl := [], pe := S.pe + 6 } := by rw [show ([27, 70, 27, 71] : List Int) = [27, 70] ++ [27, 71] from rfl, feedT_append, esc2 _ (by decide) (by decide), esc2 _ (by decide) (by decide)]; simp [twoT]
  rw [e] at hh ⊢
  obtain ⟨p1, _, p4⟩ := puts (bytesL t) _ hh rfl hS.1 (by simp only [bytesL_length, hS.2]; omega) (fun x hx => by
    obtain ⟨j, hj, rfl⟩ := bytesL_mem hx
    exact hb j hj)
  refine ⟨p1, fun j hj => ?_⟩
  have := p4 j (by rw [bytesL_length]; exact hj)
  rw [bytesL_getD hj] at this
  have hg : ofT 1 (byteAt t j) = byteAt t j := by
    unfold ofT plainT
    rw [if_pos rfl, if_pos (hb j hj)]
  simpa [hS.2, glT, hg] using this
theorem of3_some {b : Int} (h : 32 ≤ b ∧ b ≤ 126) : ofT 3 b ≠ 65533 := by
  unfold ofT plainT
  rw [if_neg (by decide), if_neg (by decide), if_pos rfl]
  split
  · decide
  · split
    · rename_i h1 h2
      obtain ⟨n, hn⟩ : ∃ n : Nat, b = 97 + n := ⟨(b - 97).toNat, by omega⟩
      subst hn
      have hn : n < 30 := by omega
      rw [show (97 + (n : Int) - 97).toNat = n by omega]
      clear h1 h2 h
      revert n
      decide
    · omega
def annN1 (t : ByteArray) : Ann Unit where
  α := Int
  φ _ i := 0 ≤ i ∧ i ≤ t.size ∧ ∀ j : Nat, (j : Int) < i → 32 ≤ byteAt t j ∧ byteAt t j ≤ 126
  μ _ i := (t.size - i).toNat
  get st := getI st.tm 5
  f st i := tmpl [1, 2, 4] [(5, .v (.int .i64 i))] [] st
def annN2 (t : ByteArray) : Ann Unit where
  α := Int
  φ _ i := 0 ≤ i ∧ i ≤ t.size
  μ _ i := (t.size - i).toNat
  get st := getI st.tm 10
  f st i := tmpl [1, 4, 6, 8] [(10, .v (.int .i64 i))] [] st
def annJJ (keep : List Nat) (var : List (Nat × SV)) (s1 s2 : Nat) (oe qe m : Nat) (fr : Int) (S S' : Tm) : Ann Unit where
  α := Tm × Tm
  φ _ s := s.1 = S ∧ s.2 = S'
  μ _ _ := 0
  get st := match tmOf (wOf st s1) st.H, tmOf (wOf st s2) st.H with
    | some a, some b => some (a, b)
    | _, _ => none
  f st s := tmpl keep var (wmI (wOf st s1) oe qe m fr s.1 ++ wmI (wOf st s2) oe qe m fr s.2) st
def n1S (a b : Int) (t : ByteArray) : Tm := feedT 50 0 (newT a b 50) (bytesL (gaB ++ t))
def n2S (a b : Int) (t : ByteArray) : Tm := feedT 50 0 (newT a b 50) (bytesL (gbB ++ t))
def tabN12 : List (Nat × ACon Unit) := (16, lcBack) :: (17, lcTModes) :: tabL12
theorem tabN12_ok : LCs Tryd.prog tabN12 := ⟨ok_back, ok_tModes, tabL12_ok⟩
noncomputable def cfgN (a b : Int) (t : ByteArray) (S0 S1 S2 : Tm) : Cfg Unit := allCfg Tryd.prog purT tabN12 0 [(324, annN1 t), (1028, annN2 t)]
  [(710, annJJ [1, 2, 4, 6, 8] [(66, .v (.bool false))] 6 8 (a.toNat + 1) 0 50 0 S0 S0), (839, annJ [1, 2, 4, 6, 8] [] 6 (a.toNat + 1) 0 50 0 S1), (903, annJ [1, 2, 4, 6, 8] [] 8 (a.toNat + 1) 0 50 0 S2)]
theorem cfgN_ok (a b : Int) (t : ByteArray) (S0 S1 S2 : Tm) (I : Sym.Inv Unit) : CfgOk I (cfgN a b t S0 S1 S2) := allCfg_ok mixed purT_ok tabN12_ok
set_option maxHeartbeats 4000000 in
theorem run_graphs (a b : Int) (t : ByteArray) (S0 S1 S2 : Tm) (g0 : S0 = newT a b 50) (g1 : S1 = n1S a b t) (g2 : S2 = n2S a b t) : Sym.Ask (bodyK Tryd.prog (run (cfgN a b t S0 S1 S2) 100) Tryd.f5 [.a [.v (.int .i64 a), .v (.int .i64 b)], .v (.string t)] [] (fun y _ => y = .v (.bool true))) := by
  refine kcast (B := (br (decide (a ≥ (1 : Int))) (br (decide (a ≤ (30 : Int))) (br (decide (b ≥ (1 : Int))) (br (!decide (b ≤ (40 : Int))) (true = true ∧ SV.v (Value.bool true) = SV.v (Value.bool true)) (br (decide ((↑t.size : Int) ≥ b)) (true =
   true ∧ SV.v (Value.bool true) = SV.v (Value.bool true)) ((II (0 : Int) ≤ (0 : Int) ∧ (0 : Int) ≤ (↑t.size : Int) ∧ ∀ (j : Nat), (↑j : Int) < (0 : Int) → (32 : Int) ≤ byteAt t j ∧ byteAt t j ≤ (126 : Int)) ∧ ((SV.v (Value.string t) = SV.v
   (Value.string t) ∧ SV.p (0 : Nat) (0 : Nat) = SV.p (0 : Nat) (0 : Nat) ∧ SV.v (Value.bool false) = SV.v (Value.bool false) ∧ SV.v (Value.int IntKind.i64 (0 : Int)) = SV.v (Value.int IntKind.i64 (0 : Int)) ∧ True) ∧ (SV.v (Value.int IntKind.i64 a) =
   SV.v (Value.int IntKind.i64 a) ∧ SV.v (Value.int IntKind.i64 b) = SV.v (Value.int IntKind.i64 b) ∧ True) ∧ (SV.v (Value.int IntKind.i64 a) = SV.v (Value.int IntKind.i64 a) ∧ SV.v (Value.int IntKind.i64 b) = SV.v (Value.int IntKind.i64 b) ∧ True) ∧
   True) ∧ ∀ (x : Int), ((0 : Int) ≤ x ∧ x ≤ (↑t.size : Int) ∧ ∀ (j : Nat), (↑j : Int) < x → (32 : Int) ≤ byteAt t j ∧ byteAt t j ≤ (126 : Int)) → br (decide (x < (↑t.size : Int))) (rq (decide ((0 : Int) ≤ x ∧ x < (↑t.size : Int))) (br (decide (byteAt t
   x.toNat < (32 : Int))) (true = true ∧ SV.v (Value.bool true) = SV.v (Value.bool true)) (rq (decide ((0 : Int) ≤ x ∧ x < (↑t.size : Int))) (br (decide (byteAt t x.toNat > (126 : Int))) (true = true ∧ SV.v (Value.bool true) = SV.v (Value.bool true))
   (((0 : Int) ≤ IntKind.i64.wrap (x + (1 : Int)) ∧ IntKind.i64.wrap (x + (1 : Int)) ≤ (↑t.size : Int) ∧ ∀ (j : Nat), (↑j : Int) < IntKind.i64.wrap (x + (1 : Int)) → (32 : Int) ≤ byteAt t j ∧ byteAt t j ≤ (126 : Int)) ∧ ((SV.v (Value.string t) = SV.v
   (Value.string t) ∧ SV.p (0 : Nat) (0 : Nat) = SV.p (0 : Nat) (0 : Nat) ∧ SV.v (Value.bool false) = SV.v (Value.bool false) ∧ SV.v (Value.int IntKind.i64 (IntKind.i64.wrap (x + (1 : Int)))) = SV.v (Value.int IntKind.i64 (IntKind.i64.wrap (x + (1 :
   Int)))) ∧ True) ∧ (SV.v (Value.int IntKind.i64 a) = SV.v (Value.int IntKind.i64 a) ∧ SV.v (Value.int IntKind.i64 b) = SV.v (Value.int IntKind.i64 b) ∧ True) ∧ (SV.v (Value.int IntKind.i64 a) = SV.v (Value.int IntKind.i64 a) ∧ SV.v (Value.int
   IntKind.i64 b) = SV.v (Value.int IntKind.i64 b) ∧ True) ∧ True) ∧ ((↑t.size : Int) - IntKind.i64.wrap (x + (1 : Int))).toNat < ((↑t.size : Int) - x).toNat))))) (true = true ∧ (mayB a b = true ∧ II (0 : Int) ≤ (50 : Int) ∧ II (50 : Int) ≤ (4096 :
   Int)) ∧ true = true ∧ (mayB a b = true ∧ II (0 : Int) ≤ (50 : Int) ∧ II (50 : Int) ≤ (4096 : Int)) ∧ ((Tm.mk (0 : Int) (0 : Int) (newL a.toNat b.toNat blankC) (a.toNat + (1 : Nat)) false false false (0 : Int) false (LI [(0 : Int), (0 : Int), (0 :
   Int), (0 : Int), (0 : Int), (0 : Int), (0 : Int), (0 : Int), (0 : Int), (0 : Int), (0 : Int), (0 : Int), (0 : Int), (0 : Int), (0 : Int), (0 : Int), (0 : Int), (0 : Int), (0 : Int), (0 : Int), (0 : Int), (0 : Int), (0 : Int), (0 : Int), (0 : Int), (0
   : Int), (0 : Int), (0 : Int), (0 : Int), (0 : Int), (0 : Int), (0 : Int), (0 : Int), (0 : Int), (0 : Int), (0 : Int), (0 : Int), (0 : Int), (0 : Int), (0 : Int), (0 : Int), (0 : Int), (0 : Int), (0 : Int), (0 : Int), (0 : Int), (0 : Int), (0 : Int),
   (0 : Int), (0 : Int)]) (0 : Nat) (LI []) = S0 ∧ Tm.mk (0 : Int) (0 : Int) (newL a.toNat b.toNat blankC) (a.toNat + (1 : Nat)) false false false (0 : Int) false (LI [(0 : Int), (0 : Int), (0 : Int), (0 : Int), (0 : Int), (0 : Int), (0 : Int), (0 :
   Int), (0 : Int), (0 : Int), (0 : Int), (0 : Int), (0 : Int), (0 : Int), (0 : Int), (0 : Int), (0 : Int), (0 : Int), (0 : Int), (0 : Int), (0 : Int), (0 : Int), (0 : Int), (0 : Int), (0 : Int), (0 : Int), (0 : Int), (0 : Int), (0 : Int), (0 : Int), (0
   : Int), (0 : Int), (0 : Int), (0 : Int), (0 : Int), (0 : Int), (0 : Int), (0 : Int), (0 : Int), (0 : Int), (0 : Int), (0 : Int), (0 : Int), (0 : Int), (0 : Int), (0 : Int), (0 : Int), (0 : Int), (0 : Int), (0 : Int)]) (0 : Nat) (LI []) = S0) ∧ (SV.v
   (Value.string t) = SV.v (Value.string t) ∧ SV.p (0 : Nat) (0 : Nat) = SV.p (0 : Nat) (0 : Nat) ∧ SV.v (Value.bool false) = SV.v (Value.bool false) ∧ SV.p (13 : Nat) (0 : Nat) = SV.p (13 : Nat) (0 : Nat) ∧ SV.p (26 : Nat) (0 : Nat) = SV.p (26 : Nat)
   (0 : Nat) ∧ SV.v (Value.bool false) = SV.v (Value.bool false) ∧ True) ∧ (SV.v (Value.int IntKind.i64 a) = SV.v (Value.int IntKind.i64 a) ∧ SV.v (Value.int IntKind.i64 b) = SV.v (Value.int IntKind.i64 b) ∧ True) ∧ (SV.v (Value.int IntKind.i64 a) =
   SV.v (Value.int IntKind.i64 a) ∧ SV.v (Value.int IntKind.i64 b) = SV.v (Value.int IntKind.i64 b) ∧ True) ∧ True ∧ True ∧ True ∧ (SV.h (6 : Nat) [a.toNat + (1 : Nat), (0 : Nat)] = SV.h (6 : Nat) [a.toNat + (1 : Nat), (0 : Nat)] ∧ True) ∧ (a.toNat + (1
   : Nat) = a.toNat + (1 : Nat) ∧ a.toNat + (1 : Nat) = a.toNat + (1 : Nat) ∧ newL a.toNat b.toNat blankC = newL a.toNat b.toNat blankC) ∧ True ∧ True ∧ (SV.v (Value.int IntKind.i64 (0 : Int)) = SV.v (Value.int IntKind.i64 (0 : Int)) ∧ SV.v (Value.int
   IntKind.i64 (0 : Int)) = SV.v (Value.int IntKind.i64 (0 : Int)) ∧ SV.v (Value.bool false) = SV.v (Value.bool false) ∧ SV.p (5 : Nat) (0 : Nat) = SV.p (5 : Nat) (0 : Nat) ∧ True) ∧ ((50 : Nat) = (50 : Nat) ∧ (0 : Nat) = (0 : Nat) ∧ LI [(0 : Int), (0 :
   Int), (0 : Int), (0 : Int), (0 : Int), (0 : Int), (0 : Int), (0 : Int), (0 : Int), (0 : Int), (0 : Int), (0 : Int), (0 : Int), (0 : Int), (0 : Int), (0 : Int), (0 : Int), (0 : Int), (0 : Int), (0 : Int), (0 : Int), (0 : Int), (0 : Int), (0 : Int), (0
   : Int), (0 : Int), (0 : Int), (0 : Int), (0 : Int), (0 : Int), (0 : Int), (0 : Int), (0 : Int), (0 : Int), (0 : Int), (0 : Int), (0 : Int), (0 : Int), (0 : Int), (0 : Int), (0 : Int), (0 : Int), (0 : Int), (0 : Int), (0 : Int), (0 : Int), (0 : Int),
   (0 : Int), (0 : Int), (0 : Int)] = LI [(0 : Int), (0 : Int), (0 : Int), (0 : Int), (0 : Int), (0 : Int), (0 : Int), (0 : Int), (0 : Int), (0 : Int), (0 : Int), (0 : Int), (0 : Int), (0 : Int), (0 : Int), (0 : Int), (0 : Int), (0 : Int), (0 : Int), (0
   : Int), (0 : Int), (0 : Int), (0 : Int), (0 : Int), (0 : Int), (0 : Int), (0 : Int), (0 : Int), (0 : Int), (0 : Int), (0 : Int), (0 : Int), (0 : Int), (0 : Int), (0 : Int), (0 : Int), (0 : Int), (0 : Int), (0 : Int), (0 : Int), (0 : Int), (0 : Int),
   (0 : Int), (0 : Int), (0 : Int), (0 : Int), (0 : Int), (0 : Int), (0 : Int), (0 : Int)]) ∧ (SV.h (10 : Nat) [(0 : Nat), (0 : Nat)] = SV.h (10 : Nat) [(0 : Nat), (0 : Nat)] ∧ SV.v (Value.int IntKind.i64 (0 : Int)) = SV.v (Value.int IntKind.i64 (0 :
   Int)) ∧ SV.v (Value.int IntKind.i64 (0 : Int)) = SV.v (Value.int IntKind.i64 (0 : Int)) ∧ SV.v (Value.bool false) = SV.v (Value.bool false) ∧ True) ∧ (SV.p (9 : Nat) (0 : Nat) = SV.p (9 : Nat) (0 : Nat) ∧ SV.p (11 : Nat) (0 : Nat) = SV.p (11 : Nat)
   (0 : Nat) ∧ SV.v (Value.bool false) = SV.v (Value.bool false) ∧ SV.v (Value.bool false) = SV.v (Value.bool false) ∧ SV.v (Value.bool false) = SV.v (Value.bool false) ∧ SV.h (14 : Nat) [(0 : Nat), (0 : Nat)] = SV.h (14 : Nat) [(0 : Nat), (0 : Nat)] ∧
   True) ∧ (SV.p (9 : Nat) (0 : Nat) = SV.p (9 : Nat) (0 : Nat) ∧ SV.p (11 : Nat) (0 : Nat) = SV.p (11 : Nat) (0 : Nat) ∧ SV.p (12 : Nat) (0 : Nat) = SV.p (12 : Nat) (0 : Nat) ∧ True) ∧ ((0 : Nat) = (LI []).length ∧ (0 : Nat) = (0 : Nat) ∧ LI [] = LI
   []) ∧ True ∧ True ∧ True ∧ (SV.h (19 : Nat) [a.toNat + (1 : Nat), (0 : Nat)] = SV.h (19 : Nat) [a.toNat + (1 : Nat), (0 : Nat)] ∧ True) ∧ (a.toNat + (1 : Nat) = a.toNat + (1 : Nat) ∧ a.toNat + (1 : Nat) = a.toNat + (1 : Nat) ∧ newL a.toNat b.toNat
   blankC = newL a.toNat b.toNat blankC) ∧ True ∧ True ∧ (SV.v (Value.int IntKind.i64 (0 : Int)) = SV.v (Value.int IntKind.i64 (0 : Int)) ∧ SV.v (Value.int IntKind.i64 (0 : Int)) = SV.v (Value.int IntKind.i64 (0 : Int)) ∧ SV.v (Value.bool false) = SV.v
   (Value.bool false) ∧ SV.p (18 : Nat) (0 : Nat) = SV.p (18 : Nat) (0 : Nat) ∧ True) ∧ ((50 : Nat) = (50 : Nat) ∧ (0 : Nat) = (0 : Nat) ∧ LI [(0 : Int), (0 : Int), (0 : Int), (0 : Int), (0 : Int), (0 : Int), (0 : Int), (0 : Int), (0 : Int), (0 : Int),
   (0 : Int), (0 : Int), (0 : Int), (0 : Int), (0 : Int), (0 : Int), (0 : Int), (0 : Int), (0 : Int), (0 : Int), (0 : Int), (0 : Int), (0 : Int), (0 : Int), (0 : Int), (0 : Int), (0 : Int), (0 : Int), (0 : Int), (0 : Int), (0 : Int), (0 : Int), (0 :
   Int), (0 : Int), (0 : Int), (0 : Int), (0 : Int), (0 : Int), (0 : Int), (0 : Int), (0 : Int), (0 : Int), (0 : Int), (0 : Int), (0 : Int), (0 : Int), (0 : Int), (0 : Int), (0 : Int), (0 : Int)] = LI [(0 : Int), (0 : Int), (0 : Int), (0 : Int), (0 :
   Int), (0 : Int), (0 : Int), (0 : Int), (0 : Int), (0 : Int), (0 : Int), (0 : Int), (0 : Int), (0 : Int), (0 : Int), (0 : Int), (0 : Int), (0 : Int), (0 : Int), (0 : Int), (0 : Int), (0 : Int), (0 : Int), (0 : Int), (0 : Int), (0 : Int), (0 : Int), (0
   : Int), (0 : Int), (0 : Int), (0 : Int), (0 : Int), (0 : Int), (0 : Int), (0 : Int), (0 : Int), (0 : Int), (0 : Int), (0 : Int), (0 : Int), (0 : Int), (0 : Int), (0 : Int), (0 : Int), (0 : Int), (0 : Int), (0 : Int), (0 : Int), (0 : Int), (0 : Int)])
   ∧ (SV.h (23 : Nat) [(0 : Nat), (0 : Nat)] = SV.h (23 : Nat) [(0 : Nat), (0 : Nat)] ∧ SV.v (Value.int IntKind.i64 (0 : Int)) = SV.v (Value.int IntKind.i64 (0 : Int)) ∧ SV.v (Value.int IntKind.i64 (0 : Int)) = SV.v (Value.int IntKind.i64 (0 : Int)) ∧
   SV.v (Value.bool false) = SV.v (Value.bool false) ∧ True) ∧ (SV.p (22 : Nat) (0 : Nat) = SV.p (22 : Nat) (0 : Nat) ∧ SV.p (24 : Nat) (0 : Nat) = SV.p (24 : Nat) (0 : Nat) ∧ SV.v (Value.bool false) = SV.v (Value.bool false) ∧ SV.v (Value.bool false) =
   SV.v (Value.bool false) ∧ SV.v (Value.bool false) = SV.v (Value.bool false) ∧ SV.h (27 : Nat) [(0 : Nat), (0 : Nat)] = SV.h (27 : Nat) [(0 : Nat), (0 : Nat)] ∧ True) ∧ (SV.p (22 : Nat) (0 : Nat) = SV.p (22 : Nat) (0 : Nat) ∧ SV.p (24 : Nat) (0 : Nat)
   = SV.p (24 : Nat) (0 : Nat) ∧ SV.p (25 : Nat) (0 : Nat) = SV.p (25 : Nat) (0 : Nat) ∧ True) ∧ ((0 : Nat) = (LI []).length ∧ (0 : Nat) = (0 : Nat) ∧ LI [] = LI []) ∧ True) ∧ ∀ (x : Tm × Tm), x.fst = S0 ∧ x.snd = S0 → rq (((2 : Nat) + t.size).ble
   (9223372036854775807 : Nat)) (true = true ∧ (TA (((), (), x.fst.G, x.fst.K, x.fst.Ho, x.fst.pe), (x.fst.r, x.fst.c, false, (), ()), a.toNat + (1 : Nat), RC.mk x.fst.l (a.toNat + (1 : Nat)) x.fst.ep, ((0 : Nat), (0 : Int), x.fst.n, x.fst.ov), OI.mk
   x.fst.xs (50 : Nat) (0 : Nat), OI.mk x.fst.pl x.fst.pl.length x.fst.pe) ∧ (ByteArray.mk #[(27 : UInt8), (70 : UInt8)] ++ t).size ≤ (1099511627776 : Nat)) ∧ Tm.mk (fdX (((), (), x.fst.G, x.fst.K, x.fst.Ho, x.fst.pe), (x.fst.r, x.fst.c, false, (), ()),
   a.toNat + (1 : Nat), RC.mk x.fst.l (a.toNat + (1 : Nat)) x.fst.ep, ((0 : Nat), (0 : Int), x.fst.n, x.fst.ov), OI.mk x.fst.xs (50 : Nat) (0 : Nat), OI.mk x.fst.pl x.fst.pl.length x.fst.pe) (ByteArray.mk #[(27 : UInt8), (70 : UInt8)] ++ t)).r (fdX
   (((), (), x.fst.G, x.fst.K, x.fst.Ho, x.fst.pe), (x.fst.r, x.fst.c, false, (), ()), a.toNat + (1 : Nat), RC.mk x.fst.l (a.toNat + (1 : Nat)) x.fst.ep, ((0 : Nat), (0 : Int), x.fst.n, x.fst.ov), OI.mk x.fst.xs (50 : Nat) (0 : Nat), OI.mk x.fst.pl
   x.fst.pl.length x.fst.pe) (ByteArray.mk #[(27 : UInt8), (70 : UInt8)] ++ t)).c (fdX (((), (), x.fst.G, x.fst.K, x.fst.Ho, x.fst.pe), (x.fst.r, x.fst.c, false, (), ()), a.toNat + (1 : Nat), RC.mk x.fst.l (a.toNat + (1 : Nat)) x.fst.ep, ((0 : Nat), (0
   : Int), x.fst.n, x.fst.ov), OI.mk x.fst.xs (50 : Nat) (0 : Nat), OI.mk x.fst.pl x.fst.pl.length x.fst.pe) (ByteArray.mk #[(27 : UInt8), (70 : UInt8)] ++ t)).l (fdX (((), (), x.fst.G, x.fst.K, x.fst.Ho, x.fst.pe), (x.fst.r, x.fst.c, false, (), ()),
   a.toNat + (1 : Nat), RC.mk x.fst.l (a.toNat + (1 : Nat)) x.fst.ep, ((0 : Nat), (0 : Int), x.fst.n, x.fst.ov), OI.mk x.fst.xs (50 : Nat) (0 : Nat), OI.mk x.fst.pl x.fst.pl.length x.fst.pe) (ByteArray.mk #[(27 : UInt8), (70 : UInt8)] ++ t)).ep (fdX
   (((), (), x.fst.G, x.fst.K, x.fst.Ho, x.fst.pe), (x.fst.r, x.fst.c, false, (), ()), a.toNat + (1 : Nat), RC.mk x.fst.l (a.toNat + (1 : Nat)) x.fst.ep, ((0 : Nat), (0 : Int), x.fst.n, x.fst.ov), OI.mk x.fst.xs (50 : Nat) (0 : Nat), OI.mk x.fst.pl
   x.fst.pl.length x.fst.pe) (ByteArray.mk #[(27 : UInt8), (70 : UInt8)] ++ t)).G (fdX (((), (), x.fst.G, x.fst.K, x.fst.Ho, x.fst.pe), (x.fst.r, x.fst.c, false, (), ()), a.toNat + (1 : Nat), RC.mk x.fst.l (a.toNat + (1 : Nat)) x.fst.ep, ((0 : Nat), (0
   : Int), x.fst.n, x.fst.ov), OI.mk x.fst.xs (50 : Nat) (0 : Nat), OI.mk x.fst.pl x.fst.pl.length x.fst.pe) (ByteArray.mk #[(27 : UInt8), (70 : UInt8)] ++ t)).K (fdX (((), (), x.fst.G, x.fst.K, x.fst.Ho, x.fst.pe), (x.fst.r, x.fst.c, false, (), ()),
   a.toNat + (1 : Nat), RC.mk x.fst.l (a.toNat + (1 : Nat)) x.fst.ep, ((0 : Nat), (0 : Int), x.fst.n, x.fst.ov), OI.mk x.fst.xs (50 : Nat) (0 : Nat), OI.mk x.fst.pl x.fst.pl.length x.fst.pe) (ByteArray.mk #[(27 : UInt8), (70 : UInt8)] ++ t)).Ho (fdX
   (((), (), x.fst.G, x.fst.K, x.fst.Ho, x.fst.pe), (x.fst.r, x.fst.c, false, (), ()), a.toNat + (1 : Nat), RC.mk x.fst.l (a.toNat + (1 : Nat)) x.fst.ep, ((0 : Nat), (0 : Int), x.fst.n, x.fst.ov), OI.mk x.fst.xs (50 : Nat) (0 : Nat), OI.mk x.fst.pl
   x.fst.pl.length x.fst.pe) (ByteArray.mk #[(27 : UInt8), (70 : UInt8)] ++ t)).n (fdX (((), (), x.fst.G, x.fst.K, x.fst.Ho, x.fst.pe), (x.fst.r, x.fst.c, false, (), ()), a.toNat + (1 : Nat), RC.mk x.fst.l (a.toNat + (1 : Nat)) x.fst.ep, ((0 : Nat), (0
   : Int), x.fst.n, x.fst.ov), OI.mk x.fst.xs (50 : Nat) (0 : Nat), OI.mk x.fst.pl x.fst.pl.length x.fst.pe) (ByteArray.mk #[(27 : UInt8), (70 : UInt8)] ++ t)).ov (fdX (((), (), x.fst.G, x.fst.K, x.fst.Ho, x.fst.pe), (x.fst.r, x.fst.c, false, (), ()),
   a.toNat + (1 : Nat), RC.mk x.fst.l (a.toNat + (1 : Nat)) x.fst.ep, ((0 : Nat), (0 : Int), x.fst.n, x.fst.ov), OI.mk x.fst.xs (50 : Nat) (0 : Nat), OI.mk x.fst.pl x.fst.pl.length x.fst.pe) (ByteArray.mk #[(27 : UInt8), (70 : UInt8)] ++ t)).xs (fdX
   (((), (), x.fst.G, x.fst.K, x.fst.Ho, x.fst.pe), (x.fst.r, x.fst.c, false, (), ()), a.toNat + (1 : Nat), RC.mk x.fst.l (a.toNat + (1 : Nat)) x.fst.ep, ((0 : Nat), (0 : Int), x.fst.n, x.fst.ov), OI.mk x.fst.xs (50 : Nat) (0 : Nat), OI.mk x.fst.pl
   x.fst.pl.length x.fst.pe) (ByteArray.mk #[(27 : UInt8), (70 : UInt8)] ++ t)).pe (fdX (((), (), x.fst.G, x.fst.K, x.fst.Ho, x.fst.pe), (x.fst.r, x.fst.c, false, (), ()), a.toNat + (1 : Nat), RC.mk x.fst.l (a.toNat + (1 : Nat)) x.fst.ep, ((0 : Nat), (0
   : Int), x.fst.n, x.fst.ov), OI.mk x.fst.xs (50 : Nat) (0 : Nat), OI.mk x.fst.pl x.fst.pl.length x.fst.pe) (ByteArray.mk #[(27 : UInt8), (70 : UInt8)] ++ t)).pl = S1 ∧ (SV.v (Value.string t) = SV.v (Value.string t) ∧ SV.p (0 : Nat) (0 : Nat) = SV.p (0
   : Nat) (0 : Nat) ∧ SV.v (Value.bool false) = SV.v (Value.bool false) ∧ SV.p (13 : Nat) (0 : Nat) = SV.p (13 : Nat) (0 : Nat) ∧ SV.p (26 : Nat) (0 : Nat) = SV.p (26 : Nat) (0 : Nat) ∧ True) ∧ (SV.v (Value.int IntKind.i64 a) = SV.v (Value.int
   IntKind.i64 a) ∧ SV.v (Value.int IntKind.i64 b) = SV.v (Value.int IntKind.i64 b) ∧ True) ∧ (SV.v (Value.int IntKind.i64 a) = SV.v (Value.int IntKind.i64 a) ∧ SV.v (Value.int IntKind.i64 b) = SV.v (Value.int IntKind.i64 b) ∧ True) ∧ True ∧ True ∧ True
   ∧ (SV.h (6 : Nat) [a.toNat + (1 : Nat), (0 : Nat)] = SV.h (6 : Nat) [a.toNat + (1 : Nat), (0 : Nat)] ∧ True) ∧ (a.toNat + (1 : Nat) = a.toNat + (1 : Nat) ∧ (fdX (((), (), x.fst.G, x.fst.K, x.fst.Ho, x.fst.pe), (x.fst.r, x.fst.c, false, (), ()),
   a.toNat + (1 : Nat), RC.mk x.fst.l (a.toNat + (1 : Nat)) x.fst.ep, ((0 : Nat), (0 : Int), x.fst.n, x.fst.ov), OI.mk x.fst.xs (50 : Nat) (0 : Nat), OI.mk x.fst.pl x.fst.pl.length x.fst.pe) (ByteArray.mk #[(27 : UInt8), (70 : UInt8)] ++ t)).ep = (fdX
   (((), (), x.fst.G, x.fst.K, x.fst.Ho, x.fst.pe), (x.fst.r, x.fst.c, false, (), ()), a.toNat + (1 : Nat), RC.mk x.fst.l (a.toNat + (1 : Nat)) x.fst.ep, ((0 : Nat), (0 : Int), x.fst.n, x.fst.ov), OI.mk x.fst.xs (50 : Nat) (0 : Nat), OI.mk x.fst.pl
   x.fst.pl.length x.fst.pe) (ByteArray.mk #[(27 : UInt8), (70 : UInt8)] ++ t)).ep ∧ (fdX (((), (), x.fst.G, x.fst.K, x.fst.Ho, x.fst.pe), (x.fst.r, x.fst.c, false, (), ()), a.toNat + (1 : Nat), RC.mk x.fst.l (a.toNat + (1 : Nat)) x.fst.ep, ((0 : Nat),
   (0 : Int), x.fst.n, x.fst.ov), OI.mk x.fst.xs (50 : Nat) (0 : Nat), OI.mk x.fst.pl x.fst.pl.length x.fst.pe) (ByteArray.mk #[(27 : UInt8), (70 : UInt8)] ++ t)).l = (fdX (((), (), x.fst.G, x.fst.K, x.fst.Ho, x.fst.pe), (x.fst.r, x.fst.c, false, (),
   ()), a.toNat + (1 : Nat), RC.mk x.fst.l (a.toNat + (1 : Nat)) x.fst.ep, ((0 : Nat), (0 : Int), x.fst.n, x.fst.ov), OI.mk x.fst.xs (50 : Nat) (0 : Nat), OI.mk x.fst.pl x.fst.pl.length x.fst.pe) (ByteArray.mk #[(27 : UInt8), (70 : UInt8)] ++ t)).l) ∧
   True ∧ True ∧ (SV.v (Value.int IntKind.i64 (fdX (((), (), x.fst.G, x.fst.K, x.fst.Ho, x.fst.pe), (x.fst.r, x.fst.c, false, (), ()), a.toNat + (1 : Nat), RC.mk x.fst.l (a.toNat + (1 : Nat)) x.fst.ep, ((0 : Nat), (0 : Int), x.fst.n, x.fst.ov), OI.mk
   x.fst.xs (50 : Nat) (0 : Nat), OI.mk x.fst.pl x.fst.pl.length x.fst.pe) (ByteArray.mk #[(27 : UInt8), (70 : UInt8)] ++ t)).r) = SV.v (Value.int IntKind.i64 (fdX (((), (), x.fst.G, x.fst.K, x.fst.Ho, x.fst.pe), (x.fst.r, x.fst.c, false, (), ()),
   a.toNat + (1 : Nat), RC.mk x.fst.l (a.toNat + (1 : Nat)) x.fst.ep, ((0 : Nat), (0 : Int), x.fst.n, x.fst.ov), OI.mk x.fst.xs (50 : Nat) (0 : Nat), OI.mk x.fst.pl x.fst.pl.length x.fst.pe) (ByteArray.mk #[(27 : UInt8), (70 : UInt8)] ++ t)).r) ∧ SV.v
   (Value.int IntKind.i64 (fdX (((), (), x.fst.G, x.fst.K, x.fst.Ho, x.fst.pe), (x.fst.r, x.fst.c, false, (), ()), a.toNat + (1 : Nat), RC.mk x.fst.l (a.toNat + (1 : Nat)) x.fst.ep, ((0 : Nat), (0 : Int), x.fst.n, x.fst.ov), OI.mk x.fst.xs (50 : Nat) (0
   : Nat), OI.mk x.fst.pl x.fst.pl.length x.fst.pe) (ByteArray.mk #[(27 : UInt8), (70 : UInt8)] ++ t)).c) = SV.v (Value.int IntKind.i64 (fdX (((), (), x.fst.G, x.fst.K, x.fst.Ho, x.fst.pe), (x.fst.r, x.fst.c, false, (), ()), a.toNat + (1 : Nat), RC.mk
   x.fst.l (a.toNat + (1 : Nat)) x.fst.ep, ((0 : Nat), (0 : Int), x.fst.n, x.fst.ov), OI.mk x.fst.xs (50 : Nat) (0 : Nat), OI.mk x.fst.pl x.fst.pl.length x.fst.pe) (ByteArray.mk #[(27 : UInt8), (70 : UInt8)] ++ t)).c) ∧ SV.v (Value.bool false) = SV.v
   (Value.bool false) ∧ SV.p (5 : Nat) (0 : Nat) = SV.p (5 : Nat) (0 : Nat) ∧ True) ∧ ((50 : Nat) = (50 : Nat) ∧ (0 : Nat) = (0 : Nat) ∧ (fdX (((), (), x.fst.G, x.fst.K, x.fst.Ho, x.fst.pe), (x.fst.r, x.fst.c, false, (), ()), a.toNat + (1 : Nat), RC.mk
   x.fst.l (a.toNat + (1 : Nat)) x.fst.ep, ((0 : Nat), (0 : Int), x.fst.n, x.fst.ov), OI.mk x.fst.xs (50 : Nat) (0 : Nat), OI.mk x.fst.pl x.fst.pl.length x.fst.pe) (ByteArray.mk #[(27 : UInt8), (70 : UInt8)] ++ t)).xs = (fdX (((), (), x.fst.G, x.fst.K,
   x.fst.Ho, x.fst.pe), (x.fst.r, x.fst.c, false, (), ()), a.toNat + (1 : Nat), RC.mk x.fst.l (a.toNat + (1 : Nat)) x.fst.ep, ((0 : Nat), (0 : Int), x.fst.n, x.fst.ov), OI.mk x.fst.xs (50 : Nat) (0 : Nat), OI.mk x.fst.pl x.fst.pl.length x.fst.pe)
   (ByteArray.mk #[(27 : UInt8), (70 : UInt8)] ++ t)).xs) ∧ (SV.h (10 : Nat) [(0 : Nat), (0 : Nat)] = SV.h (10 : Nat) [(0 : Nat), (0 : Nat)] ∧ SV.v (Value.int IntKind.i64 (0 : Int)) = SV.v (Value.int IntKind.i64 (0 : Int)) ∧ SV.v (Value.int IntKind.i64
   (fdX (((), (), x.fst.G, x.fst.K, x.fst.Ho, x.fst.pe), (x.fst.r, x.fst.c, false, (), ()), a.toNat + (1 : Nat), RC.mk x.fst.l (a.toNat + (1 : Nat)) x.fst.ep, ((0 : Nat), (0 : Int), x.fst.n, x.fst.ov), OI.mk x.fst.xs (50 : Nat) (0 : Nat), OI.mk x.fst.pl
   x.fst.pl.length x.fst.pe) (ByteArray.mk #[(27 : UInt8), (70 : UInt8)] ++ t)).n) = SV.v (Value.int IntKind.i64 (fdX (((), (), x.fst.G, x.fst.K, x.fst.Ho, x.fst.pe), (x.fst.r, x.fst.c, false, (), ()), a.toNat + (1 : Nat), RC.mk x.fst.l (a.toNat + (1 :
   Nat)) x.fst.ep, ((0 : Nat), (0 : Int), x.fst.n, x.fst.ov), OI.mk x.fst.xs (50 : Nat) (0 : Nat), OI.mk x.fst.pl x.fst.pl.length x.fst.pe) (ByteArray.mk #[(27 : UInt8), (70 : UInt8)] ++ t)).n) ∧ SV.v (Value.bool (fdX (((), (), x.fst.G, x.fst.K,
   x.fst.Ho, x.fst.pe), (x.fst.r, x.fst.c, false, (), ()), a.toNat + (1 : Nat), RC.mk x.fst.l (a.toNat + (1 : Nat)) x.fst.ep, ((0 : Nat), (0 : Int), x.fst.n, x.fst.ov), OI.mk x.fst.xs (50 : Nat) (0 : Nat), OI.mk x.fst.pl x.fst.pl.length x.fst.pe)
   (ByteArray.mk #[(27 : UInt8), (70 : UInt8)] ++ t)).ov) = SV.v (Value.bool (fdX (((), (), x.fst.G, x.fst.K, x.fst.Ho, x.fst.pe), (x.fst.r, x.fst.c, false, (), ()), a.toNat + (1 : Nat), RC.mk x.fst.l (a.toNat + (1 : Nat)) x.fst.ep, ((0 : Nat), (0 :
   Int), x.fst.n, x.fst.ov), OI.mk x.fst.xs (50 : Nat) (0 : Nat), OI.mk x.fst.pl x.fst.pl.length x.fst.pe) (ByteArray.mk #[(27 : UInt8), (70 : UInt8)] ++ t)).ov) ∧ True) ∧ (SV.p (9 : Nat) (0 : Nat) = SV.p (9 : Nat) (0 : Nat) ∧ SV.p (11 : Nat) (0 : Nat)
   = SV.p (11 : Nat) (0 : Nat) ∧ SV.v (Value.bool (fdX (((), (), x.fst.G, x.fst.K, x.fst.Ho, x.fst.pe), (x.fst.r, x.fst.c, false, (), ()), a.toNat + (1 : Nat), RC.mk x.fst.l (a.toNat + (1 : Nat)) x.fst.ep, ((0 : Nat), (0 : Int), x.fst.n, x.fst.ov),
   OI.mk x.fst.xs (50 : Nat) (0 : Nat), OI.mk x.fst.pl x.fst.pl.length x.fst.pe) (ByteArray.mk #[(27 : UInt8), (70 : UInt8)] ++ t)).G) = SV.v (Value.bool (fdX (((), (), x.fst.G, x.fst.K, x.fst.Ho, x.fst.pe), (x.fst.r, x.fst.c, false, (), ()), a.toNat +
   (1 : Nat), RC.mk x.fst.l (a.toNat + (1 : Nat)) x.fst.ep, ((0 : Nat), (0 : Int), x.fst.n, x.fst.ov), OI.mk x.fst.xs (50 : Nat) (0 : Nat), OI.mk x.fst.pl x.fst.pl.length x.fst.pe) (ByteArray.mk #[(27 : UInt8), (70 : UInt8)] ++ t)).G) ∧ SV.v (Value.bool
   (fdX (((), (), x.fst.G, x.fst.K, x.fst.Ho, x.fst.pe), (x.fst.r, x.fst.c, false, (), ()), a.toNat + (1 : Nat), RC.mk x.fst.l (a.toNat + (1 : Nat)) x.fst.ep, ((0 : Nat), (0 : Int), x.fst.n, x.fst.ov), OI.mk x.fst.xs (50 : Nat) (0 : Nat), OI.mk x.fst.pl
   x.fst.pl.length x.fst.pe) (ByteArray.mk #[(27 : UInt8), (70 : UInt8)] ++ t)).K) = SV.v (Value.bool (fdX (((), (), x.fst.G, x.fst.K, x.fst.Ho, x.fst.pe), (x.fst.r, x.fst.c, false, (), ()), a.toNat + (1 : Nat), RC.mk x.fst.l (a.toNat + (1 : Nat))
   x.fst.ep, ((0 : Nat), (0 : Int), x.fst.n, x.fst.ov), OI.mk x.fst.xs (50 : Nat) (0 : Nat), OI.mk x.fst.pl x.fst.pl.length x.fst.pe) (ByteArray.mk #[(27 : UInt8), (70 : UInt8)] ++ t)).K) ∧ SV.v (Value.bool (fdX (((), (), x.fst.G, x.fst.K, x.fst.Ho,
   x.fst.pe), (x.fst.r, x.fst.c, false, (), ()), a.toNat + (1 : Nat), RC.mk x.fst.l (a.toNat + (1 : Nat)) x.fst.ep, ((0 : Nat), (0 : Int), x.fst.n, x.fst.ov), OI.mk x.fst.xs (50 : Nat) (0 : Nat), OI.mk x.fst.pl x.fst.pl.length x.fst.pe) (ByteArray.mk
   #[(27 : UInt8), (70 : UInt8)] ++ t)).Ho) = SV.v (Value.bool (fdX (((), (), x.fst.G, x.fst.K, x.fst.Ho, x.fst.pe), (x.fst.r, x.fst.c, false, (), ()), a.toNat + (1 : Nat), RC.mk x.fst.l (a.toNat + (1 : Nat)) x.fst.ep, ((0 : Nat), (0 : Int), x.fst.n,
   x.fst.ov), OI.mk x.fst.xs (50 : Nat) (0 : Nat), OI.mk x.fst.pl x.fst.pl.length x.fst.pe) (ByteArray.mk #[(27 : UInt8), (70 : UInt8)] ++ t)).Ho) ∧ SV.h (14 : Nat) [(fdX (((), (), x.fst.G, x.fst.K, x.fst.Ho, x.fst.pe), (x.fst.r, x.fst.c, false, (),
   ()), a.toNat + (1 : Nat), RC.mk x.fst.l (a.toNat + (1 : Nat)) x.fst.ep, ((0 : Nat), (0 : Int), x.fst.n, x.fst.ov), OI.mk x.fst.xs (50 : Nat) (0 : Nat), OI.mk x.fst.pl x.fst.pl.length x.fst.pe) (ByteArray.mk #[(27 : UInt8), (70 : UInt8)] ++ t)).pe, (0
   : Nat)] = SV.h (14 : Nat) [(fdX (((), (), x.fst.G, x.fst.K, x.fst.Ho, x.fst.pe), (x.fst.r, x.fst.c, false, (), ()), a.toNat + (1 : Nat), RC.mk x.fst.l (a.toNat + (1 : Nat)) x.fst.ep, ((0 : Nat), (0 : Int), x.fst.n, x.fst.ov), OI.mk x.fst.xs (50 :
   Nat) (0 : Nat), OI.mk x.fst.pl x.fst.pl.length x.fst.pe) (ByteArray.mk #[(27 : UInt8), (70 : UInt8)] ++ t)).pe, (0 : Nat)] ∧ True) ∧ (SV.p (9 : Nat) (0 : Nat) = SV.p (9 : Nat) (0 : Nat) ∧ SV.p (11 : Nat) (0 : Nat) = SV.p (11 : Nat) (0 : Nat) ∧ SV.p
   (12 : Nat) (0 : Nat) = SV.p (12 : Nat) (0 : Nat) ∧ True) ∧ ((fdX (((), (), x.fst.G, x.fst.K, x.fst.Ho, x.fst.pe), (x.fst.r, x.fst.c, false, (), ()), a.toNat + (1 : Nat), RC.mk x.fst.l (a.toNat + (1 : Nat)) x.fst.ep, ((0 : Nat), (0 : Int), x.fst.n,
   x.fst.ov), OI.mk x.fst.xs (50 : Nat) (0 : Nat), OI.mk x.fst.pl x.fst.pl.length x.fst.pe) (ByteArray.mk #[(27 : UInt8), (70 : UInt8)] ++ t)).pl.length = (fdX (((), (), x.fst.G, x.fst.K, x.fst.Ho, x.fst.pe), (x.fst.r, x.fst.c, false, (), ()), a.toNat +
   (1 : Nat), RC.mk x.fst.l (a.toNat + (1 : Nat)) x.fst.ep, ((0 : Nat), (0 : Int), x.fst.n, x.fst.ov), OI.mk x.fst.xs (50 : Nat) (0 : Nat), OI.mk x.fst.pl x.fst.pl.length x.fst.pe) (ByteArray.mk #[(27 : UInt8), (70 : UInt8)] ++ t)).pl.length ∧ (fdX
   (((), (), x.fst.G, x.fst.K, x.fst.Ho, x.fst.pe), (x.fst.r, x.fst.c, false, (), ()), a.toNat + (1 : Nat), RC.mk x.fst.l (a.toNat + (1 : Nat)) x.fst.ep, ((0 : Nat), (0 : Int), x.fst.n, x.fst.ov), OI.mk x.fst.xs (50 : Nat) (0 : Nat), OI.mk x.fst.pl
   x.fst.pl.length x.fst.pe) (ByteArray.mk #[(27 : UInt8), (70 : UInt8)] ++ t)).pe = (fdX (((), (), x.fst.G, x.fst.K, x.fst.Ho, x.fst.pe), (x.fst.r, x.fst.c, false, (), ()), a.toNat + (1 : Nat), RC.mk x.fst.l (a.toNat + (1 : Nat)) x.fst.ep, ((0 : Nat),
   (0 : Int), x.fst.n, x.fst.ov), OI.mk x.fst.xs (50 : Nat) (0 : Nat), OI.mk x.fst.pl x.fst.pl.length x.fst.pe) (ByteArray.mk #[(27 : UInt8), (70 : UInt8)] ++ t)).pe ∧ (fdX (((), (), x.fst.G, x.fst.K, x.fst.Ho, x.fst.pe), (x.fst.r, x.fst.c, false, (),
   ()), a.toNat + (1 : Nat), RC.mk x.fst.l (a.toNat + (1 : Nat)) x.fst.ep, ((0 : Nat), (0 : Int), x.fst.n, x.fst.ov), OI.mk x.fst.xs (50 : Nat) (0 : Nat), OI.mk x.fst.pl x.fst.pl.length x.fst.pe) (ByteArray.mk #[(27 : UInt8), (70 : UInt8)] ++ t)).pl =
   (fdX (((), (), x.fst.G, x.fst.K, x.fst.Ho, x.fst.pe), (x.fst.r, x.fst.c, false, (), ()), a.toNat + (1 : Nat), RC.mk x.fst.l (a.toNat + (1 : Nat)) x.fst.ep, ((0 : Nat), (0 : Int), x.fst.n, x.fst.ov), OI.mk x.fst.xs (50 : Nat) (0 : Nat), OI.mk x.fst.pl
   x.fst.pl.length x.fst.pe) (ByteArray.mk #[(27 : UInt8), (70 : UInt8)] ++ t)).pl) ∧ True ∧ True ∧ True ∧ (SV.h (19 : Nat) [a.toNat + (1 : Nat), (0 : Nat)] = SV.h (19 : Nat) [a.toNat + (1 : Nat), (0 : Nat)] ∧ True) ∧ (a.toNat + (1 : Nat) = a.toNat + (1
   : Nat) ∧ x.snd.ep = x.snd.ep ∧ x.snd.l = x.snd.l) ∧ True ∧ True ∧ (SV.v (Value.int IntKind.i64 x.snd.r) = SV.v (Value.int IntKind.i64 x.snd.r) ∧ SV.v (Value.int IntKind.i64 x.snd.c) = SV.v (Value.int IntKind.i64 x.snd.c) ∧ SV.v (Value.bool false) =
   SV.v (Value.bool false) ∧ SV.p (18 : Nat) (0 : Nat) = SV.p (18 : Nat) (0 : Nat) ∧ True) ∧ ((50 : Nat) = (50 : Nat) ∧ (0 : Nat) = (0 : Nat) ∧ x.snd.xs = x.snd.xs) ∧ (SV.h (23 : Nat) [(0 : Nat), (0 : Nat)] = SV.h (23 : Nat) [(0 : Nat), (0 : Nat)] ∧
   SV.v (Value.int IntKind.i64 (0 : Int)) = SV.v (Value.int IntKind.i64 (0 : Int)) ∧ SV.v (Value.int IntKind.i64 x.snd.n) = SV.v (Value.int IntKind.i64 x.snd.n) ∧ SV.v (Value.bool x.snd.ov) = SV.v (Value.bool x.snd.ov) ∧ True) ∧ (SV.p (22 : Nat) (0 :
   Nat) = SV.p (22 : Nat) (0 : Nat) ∧ SV.p (24 : Nat) (0 : Nat) = SV.p (24 : Nat) (0 : Nat) ∧ SV.v (Value.bool x.snd.G) = SV.v (Value.bool x.snd.G) ∧ SV.v (Value.bool x.snd.K) = SV.v (Value.bool x.snd.K) ∧ SV.v (Value.bool x.snd.Ho) = SV.v (Value.bool
   x.snd.Ho) ∧ SV.h (27 : Nat) [x.snd.pe, (0 : Nat)] = SV.h (27 : Nat) [x.snd.pe, (0 : Nat)] ∧ True) ∧ (SV.p (22 : Nat) (0 : Nat) = SV.p (22 : Nat) (0 : Nat) ∧ SV.p (24 : Nat) (0 : Nat) = SV.p (24 : Nat) (0 : Nat) ∧ SV.p (25 : Nat) (0 : Nat) = SV.p (25
   : Nat) (0 : Nat) ∧ True) ∧ (x.snd.pl.length = x.snd.pl.length ∧ x.snd.pe = x.snd.pe ∧ x.snd.pl = x.snd.pl) ∧ True) ∧ ∀ (x_1 : Tm), x_1 = S1 → rq (((4 : Nat) + t.size).ble (9223372036854775807 : Nat)) (true = true ∧ (TA (((), (), x.snd.G, x.snd.K,
   x.snd.Ho, x.snd.pe), (x.snd.r, x.snd.c, false, (), ()), a.toNat + (1 : Nat), RC.mk x.snd.l (a.toNat + (1 : Nat)) x.snd.ep, ((0 : Nat), (0 : Int), x.snd.n, x.snd.ov), OI.mk x.snd.xs (50 : Nat) (0 : Nat), OI.mk x.snd.pl x.snd.pl.length x.snd.pe) ∧
   (ByteArray.mk #[(27 : UInt8), (70 : UInt8), (27 : UInt8), (71 : UInt8)] ++ t).size ≤ (1099511627776 : Nat)) ∧ Tm.mk (fdX (((), (), x.snd.G, x.snd.K, x.snd.Ho, x.snd.pe), (x.snd.r, x.snd.c, false, (), ()), a.toNat + (1 : Nat), RC.mk x.snd.l (a.toNat +
   (1 : Nat)) x.snd.ep, ((0 : Nat), (0 : Int), x.snd.n, x.snd.ov), OI.mk x.snd.xs (50 : Nat) (0 : Nat), OI.mk x.snd.pl x.snd.pl.length x.snd.pe) (ByteArray.mk #[(27 : UInt8), (70 : UInt8), (27 : UInt8), (71 : UInt8)] ++ t)).r (fdX (((), (), x.snd.G,
   x.snd.K, x.snd.Ho, x.snd.pe), (x.snd.r, x.snd.c, false, (), ()), a.toNat + (1 : Nat), RC.mk x.snd.l (a.toNat + (1 : Nat)) x.snd.ep, ((0 : Nat), (0 : Int), x.snd.n, x.snd.ov), OI.mk x.snd.xs (50 : Nat) (0 : Nat), OI.mk x.snd.pl x.snd.pl.length
   x.snd.pe) (ByteArray.mk #[(27 : UInt8), (70 : UInt8), (27 : UInt8), (71 : UInt8)] ++ t)).c (fdX (((), (), x.snd.G, x.snd.K, x.snd.Ho, x.snd.pe), (x.snd.r, x.snd.c, false, (), ()), a.toNat + (1 : Nat), RC.mk x.snd.l (a.toNat + (1 : Nat)) x.snd.ep, ((0
   : Nat), (0 : Int), x.snd.n, x.snd.ov), OI.mk x.snd.xs (50 : Nat) (0 : Nat), OI.mk x.snd.pl x.snd.pl.length x.snd.pe) (ByteArray.mk #[(27 : UInt8), (70 : UInt8), (27 : UInt8), (71 : UInt8)] ++ t)).l (fdX (((), (), x.snd.G, x.snd.K, x.snd.Ho,
   x.snd.pe), (x.snd.r, x.snd.c, false, (), ()), a.toNat + (1 : Nat), RC.mk x.snd.l (a.toNat + (1 : Nat)) x.snd.ep, ((0 : Nat), (0 : Int), x.snd.n, x.snd.ov), OI.mk x.snd.xs (50 : Nat) (0 : Nat), OI.mk x.snd.pl x.snd.pl.length x.snd.pe) (ByteArray.mk
   #[(27 : UInt8), (70 : UInt8), (27 : UInt8), (71 : UInt8)] ++ t)).ep (fdX (((), (), x.snd.G, x.snd.K, x.snd.Ho, x.snd.pe), (x.snd.r, x.snd.c, false, (), ()), a.toNat + (1 : Nat), RC.mk x.snd.l (a.toNat + (1 : Nat)) x.snd.ep, ((0 : Nat), (0 : Int),
   x.snd.n, x.snd.ov), OI.mk x.snd.xs (50 : Nat) (0 : Nat), OI.mk x.snd.pl x.snd.pl.length x.snd.pe) (ByteArray.mk #[(27 : UInt8), (70 : UInt8), (27 : UInt8), (71 : UInt8)] ++ t)).G (fdX (((), (), x.snd.G, x.snd.K, x.snd.Ho, x.snd.pe), (x.snd.r,
   x.snd.c, false, (), ()), a.toNat + (1 : Nat), RC.mk x.snd.l (a.toNat + (1 : Nat)) x.snd.ep, ((0 : Nat), (0 : Int), x.snd.n, x.snd.ov), OI.mk x.snd.xs (50 : Nat) (0 : Nat), OI.mk x.snd.pl x.snd.pl.length x.snd.pe) (ByteArray.mk #[(27 : UInt8), (70 :
   UInt8), (27 : UInt8), (71 : UInt8)] ++ t)).K (fdX (((), (), x.snd.G, x.snd.K, x.snd.Ho, x.snd.pe), (x.snd.r, x.snd.c, false, (), ()), a.toNat + (1 : Nat), RC.mk x.snd.l (a.toNat + (1 : Nat)) x.snd.ep, ((0 : Nat), (0 : Int), x.snd.n, x.snd.ov), OI.mk
   x.snd.xs (50 : Nat) (0 : Nat), OI.mk x.snd.pl x.snd.pl.length x.snd.pe) (ByteArray.mk #[(27 : UInt8), (70 : UInt8), (27 : UInt8), (71 : UInt8)] ++ t)).Ho (fdX (((), (), x.snd.G, x.snd.K, x.snd.Ho, x.snd.pe), (x.snd.r, x.snd.c, false, (), ()), a.toNat
   + (1 : Nat), RC.mk x.snd.l (a.toNat + (1 : Nat)) x.snd.ep, ((0 : Nat), (0 : Int), x.snd.n, x.snd.ov), OI.mk x.snd.xs (50 : Nat) (0 : Nat), OI.mk x.snd.pl x.snd.pl.length x.snd.pe) (ByteArray.mk #[(27 : UInt8), (70 : UInt8), (27 : UInt8), (71 :
   UInt8)] ++ t)).n (fdX (((), (), x.snd.G, x.snd.K, x.snd.Ho, x.snd.pe), (x.snd.r, x.snd.c, false, (), ()), a.toNat + (1 : Nat), RC.mk x.snd.l (a.toNat + (1 : Nat)) x.snd.ep, ((0 : Nat), (0 : Int), x.snd.n, x.snd.ov), OI.mk x.snd.xs (50 : Nat) (0 :
   Nat), OI.mk x.snd.pl x.snd.pl.length x.snd.pe) (ByteArray.mk #[(27 : UInt8), (70 : UInt8), (27 : UInt8), (71 : UInt8)] ++ t)).ov (fdX (((), (), x.snd.G, x.snd.K, x.snd.Ho, x.snd.pe), (x.snd.r, x.snd.c, false, (), ()), a.toNat + (1 : Nat), RC.mk
   x.snd.l (a.toNat + (1 : Nat)) x.snd.ep, ((0 : Nat), (0 : Int), x.snd.n, x.snd.ov), OI.mk x.snd.xs (50 : Nat) (0 : Nat), OI.mk x.snd.pl x.snd.pl.length x.snd.pe) (ByteArray.mk #[(27 : UInt8), (70 : UInt8), (27 : UInt8), (71 : UInt8)] ++ t)).xs (fdX
   (((), (), x.snd.G, x.snd.K, x.snd.Ho, x.snd.pe), (x.snd.r, x.snd.c, false, (), ()), a.toNat + (1 : Nat), RC.mk x.snd.l (a.toNat + (1 : Nat)) x.snd.ep, ((0 : Nat), (0 : Int), x.snd.n, x.snd.ov), OI.mk x.snd.xs (50 : Nat) (0 : Nat), OI.mk x.snd.pl
   x.snd.pl.length x.snd.pe) (ByteArray.mk #[(27 : UInt8), (70 : UInt8), (27 : UInt8), (71 : UInt8)] ++ t)).pe (fdX (((), (), x.snd.G, x.snd.K, x.snd.Ho, x.snd.pe), (x.snd.r, x.snd.c, false, (), ()), a.toNat + (1 : Nat), RC.mk x.snd.l (a.toNat + (1 :
   Nat)) x.snd.ep, ((0 : Nat), (0 : Int), x.snd.n, x.snd.ov), OI.mk x.snd.xs (50 : Nat) (0 : Nat), OI.mk x.snd.pl x.snd.pl.length x.snd.pe) (ByteArray.mk #[(27 : UInt8), (70 : UInt8), (27 : UInt8), (71 : UInt8)] ++ t)).pl = S2 ∧ (SV.v (Value.string t) =
   SV.v (Value.string t) ∧ SV.p (0 : Nat) (0 : Nat) = SV.p (0 : Nat) (0 : Nat) ∧ SV.v (Value.bool false) = SV.v (Value.bool false) ∧ SV.p (13 : Nat) (0 : Nat) = SV.p (13 : Nat) (0 : Nat) ∧ SV.p (26 : Nat) (0 : Nat) = SV.p (26 : Nat) (0 : Nat) ∧ True) ∧
   (SV.v (Value.int IntKind.i64 a) = SV.v (Value.int IntKind.i64 a) ∧ SV.v (Value.int IntKind.i64 b) = SV.v (Value.int IntKind.i64 b) ∧ True) ∧ (SV.v (Value.int IntKind.i64 a) = SV.v (Value.int IntKind.i64 a) ∧ SV.v (Value.int IntKind.i64 b) = SV.v
   (Value.int IntKind.i64 b) ∧ True) ∧ True ∧ True ∧ True ∧ (SV.h (6 : Nat) [a.toNat + (1 : Nat), (0 : Nat)] = SV.h (6 : Nat) [a.toNat + (1 : Nat), (0 : Nat)] ∧ True) ∧ (a.toNat + (1 : Nat) = a.toNat + (1 : Nat) ∧ x_1.ep = x_1.ep ∧ x_1.l = x_1.l) ∧ True
   ∧ True ∧ (SV.v (Value.int IntKind.i64 x_1.r) = SV.v (Value.int IntKind.i64 x_1.r) ∧ SV.v (Value.int IntKind.i64 x_1.c) = SV.v (Value.int IntKind.i64 x_1.c) ∧ SV.v (Value.bool false) = SV.v (Value.bool false) ∧ SV.p (5 : Nat) (0 : Nat) = SV.p (5 :
   Nat) (0 : Nat) ∧ True) ∧ ((50 : Nat) = (50 : Nat) ∧ (0 : Nat) = (0 : Nat) ∧ x_1.xs = x_1.xs) ∧ (SV.h (10 : Nat) [(0 : Nat), (0 : Nat)] = SV.h (10 : Nat) [(0 : Nat), (0 : Nat)] ∧ SV.v (Value.int IntKind.i64 (0 : Int)) = SV.v (Value.int IntKind.i64 (0
   : Int)) ∧ SV.v (Value.int IntKind.i64 x_1.n) = SV.v (Value.int IntKind.i64 x_1.n) ∧ SV.v (Value.bool x_1.ov) = SV.v (Value.bool x_1.ov) ∧ True) ∧ (SV.p (9 : Nat) (0 : Nat) = SV.p (9 : Nat) (0 : Nat) ∧ SV.p (11 : Nat) (0 : Nat) = SV.p (11 : Nat) (0 :
   Nat) ∧ SV.v (Value.bool x_1.G) = SV.v (Value.bool x_1.G) ∧ SV.v (Value.bool x_1.K) = SV.v (Value.bool x_1.K) ∧ SV.v (Value.bool x_1.Ho) = SV.v (Value.bool x_1.Ho) ∧ SV.h (14 : Nat) [x_1.pe, (0 : Nat)] = SV.h (14 : Nat) [x_1.pe, (0 : Nat)] ∧ True) ∧
   (SV.p (9 : Nat) (0 : Nat) = SV.p (9 : Nat) (0 : Nat) ∧ SV.p (11 : Nat) (0 : Nat) = SV.p (11 : Nat) (0 : Nat) ∧ SV.p (12 : Nat) (0 : Nat) = SV.p (12 : Nat) (0 : Nat) ∧ True) ∧ (x_1.pl.length = x_1.pl.length ∧ x_1.pe = x_1.pe ∧ x_1.pl = x_1.pl) ∧ True
   ∧ True ∧ True ∧ (SV.h (19 : Nat) [a.toNat + (1 : Nat), (0 : Nat)] = SV.h (19 : Nat) [a.toNat + (1 : Nat), (0 : Nat)] ∧ True) ∧ (a.toNat + (1 : Nat) = a.toNat + (1 : Nat) ∧ (fdX (((), (), x.snd.G, x.snd.K, x.snd.Ho, x.snd.pe), (x.snd.r, x.snd.c,
   false, (), ()), a.toNat + (1 : Nat), RC.mk x.snd.l (a.toNat + (1 : Nat)) x.snd.ep, ((0 : Nat), (0 : Int), x.snd.n, x.snd.ov), OI.mk x.snd.xs (50 : Nat) (0 : Nat), OI.mk x.snd.pl x.snd.pl.length x.snd.pe) (ByteArray.mk #[(27 : UInt8), (70 : UInt8),
   (27 : UInt8), (71 : UInt8)] ++ t)).ep = (fdX (((), (), x.snd.G, x.snd.K, x.snd.Ho, x.snd.pe), (x.snd.r, x.snd.c, false, (), ()), a.toNat + (1 : Nat), RC.mk x.snd.l (a.toNat + (1 : Nat)) x.snd.ep, ((0 : Nat), (0 : Int), x.snd.n, x.snd.ov), OI.mk
   x.snd.xs (50 : Nat) (0 : Nat), OI.mk x.snd.pl x.snd.pl.length x.snd.pe) (ByteArray.mk #[(27 : UInt8), (70 : UInt8), (27 : UInt8), (71 : UInt8)] ++ t)).ep ∧ (fdX (((), (), x.snd.G, x.snd.K, x.snd.Ho, x.snd.pe), (x.snd.r, x.snd.c, false, (), ()),
   a.toNat + (1 : Nat), RC.mk x.snd.l (a.toNat + (1 : Nat)) x.snd.ep, ((0 : Nat), (0 : Int), x.snd.n, x.snd.ov), OI.mk x.snd.xs (50 : Nat) (0 : Nat), OI.mk x.snd.pl x.snd.pl.length x.snd.pe) (ByteArray.mk #[(27 : UInt8), (70 : UInt8), (27 : UInt8), (71
   : UInt8)] ++ t)).l = (fdX (((), (), x.snd.G, x.snd.K, x.snd.Ho, x.snd.pe), (x.snd.r, x.snd.c, false, (), ()), a.toNat + (1 : Nat), RC.mk x.snd.l (a.toNat + (1 : Nat)) x.snd.ep, ((0 : Nat), (0 : Int), x.snd.n, x.snd.ov), OI.mk x.snd.xs (50 : Nat) (0 :
   Nat), OI.mk x.snd.pl x.snd.pl.length x.snd.pe) (ByteArray.mk #[(27 : UInt8), (70 : UInt8), (27 : UInt8), (71 : UInt8)] ++ t)).l) ∧ True ∧ True ∧ (SV.v (Value.int IntKind.i64 (fdX (((), (), x.snd.G, x.snd.K, x.snd.Ho, x.snd.pe), (x.snd.r, x.snd.c,
   false, (), ()), a.toNat + (1 : Nat), RC.mk x.snd.l (a.toNat + (1 : Nat)) x.snd.ep, ((0 : Nat), (0 : Int), x.snd.n, x.snd.ov), OI.mk x.snd.xs (50 : Nat) (0 : Nat), OI.mk x.snd.pl x.snd.pl.length x.snd.pe) (ByteArray.mk #[(27 : UInt8), (70 : UInt8),
   (27 : UInt8), (71 : UInt8)] ++ t)).r) = SV.v (Value.int IntKind.i64 (fdX (((), (), x.snd.G, x.snd.K, x.snd.Ho, x.snd.pe), (x.snd.r, x.snd.c, false, (), ()), a.toNat + (1 : Nat), RC.mk x.snd.l (a.toNat + (1 : Nat)) x.snd.ep, ((0 : Nat), (0 : Int),
   x.snd.n, x.snd.ov), OI.mk x.snd.xs (50 : Nat) (0 : Nat), OI.mk x.snd.pl x.snd.pl.length x.snd.pe) (ByteArray.mk #[(27 : UInt8), (70 : UInt8), (27 : UInt8), (71 : UInt8)] ++ t)).r) ∧ SV.v (Value.int IntKind.i64 (fdX (((), (), x.snd.G, x.snd.K,
   x.snd.Ho, x.snd.pe), (x.snd.r, x.snd.c, false, (), ()), a.toNat + (1 : Nat), RC.mk x.snd.l (a.toNat + (1 : Nat)) x.snd.ep, ((0 : Nat), (0 : Int), x.snd.n, x.snd.ov), OI.mk x.snd.xs (50 : Nat) (0 : Nat), OI.mk x.snd.pl x.snd.pl.length x.snd.pe)
   (ByteArray.mk #[(27 : UInt8), (70 : UInt8), (27 : UInt8), (71 : UInt8)] ++ t)).c) = SV.v (Value.int IntKind.i64 (fdX (((), (), x.snd.G, x.snd.K, x.snd.Ho, x.snd.pe), (x.snd.r, x.snd.c, false, (), ()), a.toNat + (1 : Nat), RC.mk x.snd.l (a.toNat + (1
   : Nat)) x.snd.ep, ((0 : Nat), (0 : Int), x.snd.n, x.snd.ov), OI.mk x.snd.xs (50 : Nat) (0 : Nat), OI.mk x.snd.pl x.snd.pl.length x.snd.pe) (ByteArray.mk #[(27 : UInt8), (70 : UInt8), (27 : UInt8), (71 : UInt8)] ++ t)).c) ∧ SV.v (Value.bool false) =
   SV.v (Value.bool false) ∧ SV.p (18 : Nat) (0 : Nat) = SV.p (18 : Nat) (0 : Nat) ∧ True) ∧ ((50 : Nat) = (50 : Nat) ∧ (0 : Nat) = (0 : Nat) ∧ (fdX (((), (), x.snd.G, x.snd.K, x.snd.Ho, x.snd.pe), (x.snd.r, x.snd.c, false, (), ()), a.toNat + (1 : Nat),
   RC.mk x.snd.l (a.toNat + (1 : Nat)) x.snd.ep, ((0 : Nat), (0 : Int), x.snd.n, x.snd.ov), OI.mk x.snd.xs (50 : Nat) (0 : Nat), OI.mk x.snd.pl x.snd.pl.length x.snd.pe) (ByteArray.mk #[(27 : UInt8), (70 : UInt8), (27 : UInt8), (71 : UInt8)] ++ t)).xs =
   (fdX (((), (), x.snd.G, x.snd.K, x.snd.Ho, x.snd.pe), (x.snd.r, x.snd.c, false, (), ()), a.toNat + (1 : Nat), RC.mk x.snd.l (a.toNat + (1 : Nat)) x.snd.ep, ((0 : Nat), (0 : Int), x.snd.n, x.snd.ov), OI.mk x.snd.xs (50 : Nat) (0 : Nat), OI.mk x.snd.pl
   x.snd.pl.length x.snd.pe) (ByteArray.mk #[(27 : UInt8), (70 : UInt8), (27 : UInt8), (71 : UInt8)] ++ t)).xs) ∧ (SV.h (23 : Nat) [(0 : Nat), (0 : Nat)] = SV.h (23 : Nat) [(0 : Nat), (0 : Nat)] ∧ SV.v (Value.int IntKind.i64 (0 : Int)) = SV.v (Value.int
   IntKind.i64 (0 : Int)) ∧ SV.v (Value.int IntKind.i64 (fdX (((), (), x.snd.G, x.snd.K, x.snd.Ho, x.snd.pe), (x.snd.r, x.snd.c, false, (), ()), a.toNat + (1 : Nat), RC.mk x.snd.l (a.toNat + (1 : Nat)) x.snd.ep, ((0 : Nat), (0 : Int), x.snd.n,
   x.snd.ov), OI.mk x.snd.xs (50 : Nat) (0 : Nat), OI.mk x.snd.pl x.snd.pl.length x.snd.pe) (ByteArray.mk #[(27 : UInt8), (70 : UInt8), (27 : UInt8), (71 : UInt8)] ++ t)).n) = SV.v (Value.int IntKind.i64 (fdX (((), (), x.snd.G, x.snd.K, x.snd.Ho,
   x.snd.pe), (x.snd.r, x.snd.c, false, (), ()), a.toNat + (1 : Nat), RC.mk x.snd.l (a.toNat + (1 : Nat)) x.snd.ep, ((0 : Nat), (0 : Int), x.snd.n, x.snd.ov), OI.mk x.snd.xs (50 : Nat) (0 : Nat), OI.mk x.snd.pl x.snd.pl.length x.snd.pe) (ByteArray.mk
   #[(27 : UInt8), (70 : UInt8), (27 : UInt8), (71 : UInt8)] ++ t)).n) ∧ SV.v (Value.bool (fdX (((), (), x.snd.G, x.snd.K, x.snd.Ho, x.snd.pe), (x.snd.r, x.snd.c, false, (), ()), a.toNat + (1 : Nat), RC.mk x.snd.l (a.toNat + (1 : Nat)) x.snd.ep, ((0 :
   Nat), (0 : Int), x.snd.n, x.snd.ov), OI.mk x.snd.xs (50 : Nat) (0 : Nat), OI.mk x.snd.pl x.snd.pl.length x.snd.pe) (ByteArray.mk #[(27 : UInt8), (70 : UInt8), (27 : UInt8), (71 : UInt8)] ++ t)).ov) = SV.v (Value.bool (fdX (((), (), x.snd.G, x.snd.K,
   x.snd.Ho, x.snd.pe), (x.snd.r, x.snd.c, false, (), ()), a.toNat + (1 : Nat), RC.mk x.snd.l (a.toNat + (1 : Nat)) x.snd.ep, ((0 : Nat), (0 : Int), x.snd.n, x.snd.ov), OI.mk x.snd.xs (50 : Nat) (0 : Nat), OI.mk x.snd.pl x.snd.pl.length x.snd.pe)
   (ByteArray.mk #[(27 : UInt8), (70 : UInt8), (27 : UInt8), (71 : UInt8)] ++ t)).ov) ∧ True) ∧ (SV.p (22 : Nat) (0 : Nat) = SV.p (22 : Nat) (0 : Nat) ∧ SV.p (24 : Nat) (0 : Nat) = SV.p (24 : Nat) (0 : Nat) ∧ SV.v (Value.bool (fdX (((), (), x.snd.G,
   x.snd.K, x.snd.Ho, x.snd.pe), (x.snd.r, x.snd.c, false, (), ()), a.toNat + (1 : Nat), RC.mk x.snd.l (a.toNat + (1 : Nat)) x.snd.ep, ((0 : Nat), (0 : Int), x.snd.n, x.snd.ov), OI.mk x.snd.xs (50 : Nat) (0 : Nat), OI.mk x.snd.pl x.snd.pl.length
   x.snd.pe) (ByteArray.mk #[(27 : UInt8), (70 : UInt8), (27 : UInt8), (71 : UInt8)] ++ t)).G) = SV.v (Value.bool (fdX (((), (), x.snd.G, x.snd.K, x.snd.Ho, x.snd.pe), (x.snd.r, x.snd.c, false, (), ()), a.toNat + (1 : Nat), RC.mk x.snd.l (a.toNat + (1 :
   Nat)) x.snd.ep, ((0 : Nat), (0 : Int), x.snd.n, x.snd.ov), OI.mk x.snd.xs (50 : Nat) (0 : Nat), OI.mk x.snd.pl x.snd.pl.length x.snd.pe) (ByteArray.mk #[(27 : UInt8), (70 : UInt8), (27 : UInt8), (71 : UInt8)] ++ t)).G) ∧ SV.v (Value.bool (fdX (((),
   (), x.snd.G, x.snd.K, x.snd.Ho, x.snd.pe), (x.snd.r, x.snd.c, false, (), ()), a.toNat + (1 : Nat), RC.mk x.snd.l (a.toNat + (1 : Nat)) x.snd.ep, ((0 : Nat), (0 : Int), x.snd.n, x.snd.ov), OI.mk x.snd.xs (50 : Nat) (0 : Nat), OI.mk x.snd.pl
   x.snd.pl.length x.snd.pe) (ByteArray.mk #[(27 : UInt8), (70 : UInt8), (27 : UInt8), (71 : UInt8)] ++ t)).K) = SV.v (Value.bool (fdX (((), (), x.snd.G, x.snd.K, x.snd.Ho, x.snd.pe), (x.snd.r, x.snd.c, false, (), ()), a.toNat + (1 : Nat), RC.mk x.snd.l
   (a.toNat + (1 : Nat)) x.snd.ep, ((0 : Nat), (0 : Int), x.snd.n, x.snd.ov), OI.mk x.snd.xs (50 : Nat) (0 : Nat), OI.mk x.snd.pl x.snd.pl.length x.snd.pe) (ByteArray.mk #[(27 : UInt8), (70 : UInt8), (27 : UInt8), (71 : UInt8)] ++ t)).K) ∧ SV.v
   (Value.bool (fdX (((), (), x.snd.G, x.snd.K, x.snd.Ho, x.snd.pe), (x.snd.r, x.snd.c, false, (), ()), a.toNat + (1 : Nat), RC.mk x.snd.l (a.toNat + (1 : Nat)) x.snd.ep, ((0 : Nat), (0 : Int), x.snd.n, x.snd.ov), OI.mk x.snd.xs (50 : Nat) (0 : Nat),
   OI.mk x.snd.pl x.snd.pl.length x.snd.pe) (ByteArray.mk #[(27 : UInt8), (70 : UInt8), (27 : UInt8), (71 : UInt8)] ++ t)).Ho) = SV.v (Value.bool (fdX (((), (), x.snd.G, x.snd.K, x.snd.Ho, x.snd.pe), (x.snd.r, x.snd.c, false, (), ()), a.toNat + (1 :
   Nat), RC.mk x.snd.l (a.toNat + (1 : Nat)) x.snd.ep, ((0 : Nat), (0 : Int), x.snd.n, x.snd.ov), OI.mk x.snd.xs (50 : Nat) (0 : Nat), OI.mk x.snd.pl x.snd.pl.length x.snd.pe) (ByteArray.mk #[(27 : UInt8), (70 : UInt8), (27 : UInt8), (71 : UInt8)] ++
   t)).Ho) ∧ SV.h (27 : Nat) [(fdX (((), (), x.snd.G, x.snd.K, x.snd.Ho, x.snd.pe), (x.snd.r, x.snd.c, false, (), ()), a.toNat + (1 : Nat), RC.mk x.snd.l (a.toNat + (1 : Nat)) x.snd.ep, ((0 : Nat), (0 : Int), x.snd.n, x.snd.ov), OI.mk x.snd.xs (50 :
   Nat) (0 : Nat), OI.mk x.snd.pl x.snd.pl.length x.snd.pe) (ByteArray.mk #[(27 : UInt8), (70 : UInt8), (27 : UInt8), (71 : UInt8)] ++ t)).pe, (0 : Nat)] = SV.h (27 : Nat) [(fdX (((), (), x.snd.G, x.snd.K, x.snd.Ho, x.snd.pe), (x.snd.r, x.snd.c, false,
   (), ()), a.toNat + (1 : Nat), RC.mk x.snd.l (a.toNat + (1 : Nat)) x.snd.ep, ((0 : Nat), (0 : Int), x.snd.n, x.snd.ov), OI.mk x.snd.xs (50 : Nat) (0 : Nat), OI.mk x.snd.pl x.snd.pl.length x.snd.pe) (ByteArray.mk #[(27 : UInt8), (70 : UInt8), (27 :
   UInt8), (71 : UInt8)] ++ t)).pe, (0 : Nat)] ∧ True) ∧ (SV.p (22 : Nat) (0 : Nat) = SV.p (22 : Nat) (0 : Nat) ∧ SV.p (24 : Nat) (0 : Nat) = SV.p (24 : Nat) (0 : Nat) ∧ SV.p (25 : Nat) (0 : Nat) = SV.p (25 : Nat) (0 : Nat) ∧ True) ∧ ((fdX (((), (),
   x.snd.G, x.snd.K, x.snd.Ho, x.snd.pe), (x.snd.r, x.snd.c, false, (), ()), a.toNat + (1 : Nat), RC.mk x.snd.l (a.toNat + (1 : Nat)) x.snd.ep, ((0 : Nat), (0 : Int), x.snd.n, x.snd.ov), OI.mk x.snd.xs (50 : Nat) (0 : Nat), OI.mk x.snd.pl
   x.snd.pl.length x.snd.pe) (ByteArray.mk #[(27 : UInt8), (70 : UInt8), (27 : UInt8), (71 : UInt8)] ++ t)).pl.length = (fdX (((), (), x.snd.G, x.snd.K, x.snd.Ho, x.snd.pe), (x.snd.r, x.snd.c, false, (), ()), a.toNat + (1 : Nat), RC.mk x.snd.l (a.toNat
   + (1 : Nat)) x.snd.ep, ((0 : Nat), (0 : Int), x.snd.n, x.snd.ov), OI.mk x.snd.xs (50 : Nat) (0 : Nat), OI.mk x.snd.pl x.snd.pl.length x.snd.pe) (ByteArray.mk #[(27 : UInt8), (70 : UInt8), (27 : UInt8), (71 : UInt8)] ++ t)).pl.length ∧ (fdX (((), (),
   x.snd.G, x.snd.K, x.snd.Ho, x.snd.pe), (x.snd.r, x.snd.c, false, (), ()), a.toNat + (1 : Nat), RC.mk x.snd.l (a.toNat + (1 : Nat)) x.snd.ep, ((0 : Nat), (0 : Int), x.snd.n, x.snd.ov), OI.mk x.snd.xs (50 : Nat) (0 : Nat), OI.mk x.snd.pl
   x.snd.pl.length x.snd.pe) (ByteArray.mk #[(27 : UInt8), (70 : UInt8), (27 : UInt8), (71 : UInt8)] ++ t)).pe = (fdX (((), (), x.snd.G, x.snd.K, x.snd.Ho, x.snd.pe), (x.snd.r, x.snd.c, false, (), ()), a.toNat + (1 : Nat), RC.mk x.snd.l (a.toNat + (1 :
   Nat)) x.snd.ep, ((0 : Nat), (0 : Int), x.snd.n, x.snd.ov), OI.mk x.snd.xs (50 : Nat) (0 : Nat), OI.mk x.snd.pl x.snd.pl.length x.snd.pe) (ByteArray.mk #[(27 : UInt8), (70 : UInt8), (27 : UInt8), (71 : UInt8)] ++ t)).pe ∧ (fdX (((), (), x.snd.G,
   x.snd.K, x.snd.Ho, x.snd.pe), (x.snd.r, x.snd.c, false, (), ()), a.toNat + (1 : Nat), RC.mk x.snd.l (a.toNat + (1 : Nat)) x.snd.ep, ((0 : Nat), (0 : Int), x.snd.n, x.snd.ov), OI.mk x.snd.xs (50 : Nat) (0 : Nat), OI.mk x.snd.pl x.snd.pl.length
   x.snd.pe) (ByteArray.mk #[(27 : UInt8), (70 : UInt8), (27 : UInt8), (71 : UInt8)] ++ t)).pl = (fdX (((), (), x.snd.G, x.snd.K, x.snd.Ho, x.snd.pe), (x.snd.r, x.snd.c, false, (), ()), a.toNat + (1 : Nat), RC.mk x.snd.l (a.toNat + (1 : Nat)) x.snd.ep,
   ((0 : Nat), (0 : Int), x.snd.n, x.snd.ov), OI.mk x.snd.xs (50 : Nat) (0 : Nat), OI.mk x.snd.pl x.snd.pl.length x.snd.pe) (ByteArray.mk #[(27 : UInt8), (70 : UInt8), (27 : UInt8), (71 : UInt8)] ++ t)).pl) ∧ True) ∧ ∀ (x : Tm), x = S2 → (II (0 : Int) ≤
   (0 : Int) ∧ (0 : Int) ≤ (↑t.size : Int)) ∧ ((SV.v (Value.string t) = SV.v (Value.string t) ∧ SV.v (Value.bool false) = SV.v (Value.bool false) ∧ SV.p (13 : Nat) (0 : Nat) = SV.p (13 : Nat) (0 : Nat) ∧ SV.p (26 : Nat) (0 : Nat) = SV.p (26 : Nat) (0 :
   Nat) ∧ SV.v (Value.int IntKind.i64 (0 : Int)) = SV.v (Value.int IntKind.i64 (0 : Int)) ∧ True) ∧ (SV.v (Value.int IntKind.i64 a) = SV.v (Value.int IntKind.i64 a) ∧ SV.v (Value.int IntKind.i64 b) = SV.v (Value.int IntKind.i64 b) ∧ True) ∧ (SV.v
   (Value.int IntKind.i64 a) = SV.v (Value.int IntKind.i64 a) ∧ SV.v (Value.int IntKind.i64 b) = SV.v (Value.int IntKind.i64 b) ∧ True) ∧ True ∧ True ∧ True ∧ (SV.h (6 : Nat) [a.toNat + (1 : Nat), (0 : Nat)] = SV.h (6 : Nat) [a.toNat + (1 : Nat), (0 :
   Nat)] ∧ True) ∧ (a.toNat + (1 : Nat) = a.toNat + (1 : Nat) ∧ x_1.ep = x_1.ep ∧ x_1.l = x_1.l) ∧ True ∧ True ∧ (SV.v (Value.int IntKind.i64 x_1.r) = SV.v (Value.int IntKind.i64 x_1.r) ∧ SV.v (Value.int IntKind.i64 x_1.c) = SV.v (Value.int IntKind.i64
   x_1.c) ∧ SV.v (Value.bool false) = SV.v (Value.bool false) ∧ SV.p (5 : Nat) (0 : Nat) = SV.p (5 : Nat) (0 : Nat) ∧ True) ∧ ((50 : Nat) = (50 : Nat) ∧ (0 : Nat) = (0 : Nat) ∧ x_1.xs = x_1.xs) ∧ (SV.h (10 : Nat) [(0 : Nat), (0 : Nat)] = SV.h (10 : Nat)
   [(0 : Nat), (0 : Nat)] ∧ SV.v (Value.int IntKind.i64 (0 : Int)) = SV.v (Value.int IntKind.i64 (0 : Int)) ∧ SV.v (Value.int IntKind.i64 x_1.n) = SV.v (Value.int IntKind.i64 x_1.n) ∧ SV.v (Value.bool x_1.ov) = SV.v (Value.bool x_1.ov) ∧ True) ∧ (SV.p
   (9 : Nat) (0 : Nat) = SV.p (9 : Nat) (0 : Nat) ∧ SV.p (11 : Nat) (0 : Nat) = SV.p (11 : Nat) (0 : Nat) ∧ SV.v (Value.bool x_1.G) = SV.v (Value.bool x_1.G) ∧ SV.v (Value.bool x_1.K) = SV.v (Value.bool x_1.K) ∧ SV.v (Value.bool x_1.Ho) = SV.v
   (Value.bool x_1.Ho) ∧ SV.h (14 : Nat) [x_1.pe, (0 : Nat)] = SV.h (14 : Nat) [x_1.pe, (0 : Nat)] ∧ True) ∧ (SV.p (9 : Nat) (0 : Nat) = SV.p (9 : Nat) (0 : Nat) ∧ SV.p (11 : Nat) (0 : Nat) = SV.p (11 : Nat) (0 : Nat) ∧ SV.p (12 : Nat) (0 : Nat) = SV.p
   (12 : Nat) (0 : Nat) ∧ True) ∧ (x_1.pl.length = x_1.pl.length ∧ x_1.pe = x_1.pe ∧ x_1.pl = x_1.pl) ∧ True ∧ True ∧ True ∧ (SV.h (19 : Nat) [a.toNat + (1 : Nat), (0 : Nat)] = SV.h (19 : Nat) [a.toNat + (1 : Nat), (0 : Nat)] ∧ True) ∧ (a.toNat + (1 :
   Nat) = a.toNat + (1 : Nat) ∧ x.ep = x.ep ∧ x.l = x.l) ∧ True ∧ True ∧ (SV.v (Value.int IntKind.i64 x.r) = SV.v (Value.int IntKind.i64 x.r) ∧ SV.v (Value.int IntKind.i64 x.c) = SV.v (Value.int IntKind.i64 x.c) ∧ SV.v (Value.bool false) = SV.v
   (Value.bool false) ∧ SV.p (18 : Nat) (0 : Nat) = SV.p (18 : Nat) (0 : Nat) ∧ True) ∧ ((50 : Nat) = (50 : Nat) ∧ (0 : Nat) = (0 : Nat) ∧ x.xs = x.xs) ∧ (SV.h (23 : Nat) [(0 : Nat), (0 : Nat)] = SV.h (23 : Nat) [(0 : Nat), (0 : Nat)] ∧ SV.v (Value.int
   IntKind.i64 (0 : Int)) = SV.v (Value.int IntKind.i64 (0 : Int)) ∧ SV.v (Value.int IntKind.i64 x.n) = SV.v (Value.int IntKind.i64 x.n) ∧ SV.v (Value.bool x.ov) = SV.v (Value.bool x.ov) ∧ True) ∧ (SV.p (22 : Nat) (0 : Nat) = SV.p (22 : Nat) (0 : Nat) ∧
   SV.p (24 : Nat) (0 : Nat) = SV.p (24 : Nat) (0 : Nat) ∧ SV.v (Value.bool x.G) = SV.v (Value.bool x.G) ∧ SV.v (Value.bool x.K) = SV.v (Value.bool x.K) ∧ SV.v (Value.bool x.Ho) = SV.v (Value.bool x.Ho) ∧ SV.h (27 : Nat) [x.pe, (0 : Nat)] = SV.h (27 :
   Nat) [x.pe, (0 : Nat)] ∧ True) ∧ (SV.p (22 : Nat) (0 : Nat) = SV.p (22 : Nat) (0 : Nat) ∧ SV.p (24 : Nat) (0 : Nat) = SV.p (24 : Nat) (0 : Nat) ∧ SV.p (25 : Nat) (0 : Nat) = SV.p (25 : Nat) (0 : Nat) ∧ True) ∧ (x.pl.length = x.pl.length ∧ x.pe = x.pe
   ∧ x.pl = x.pl) ∧ True) ∧ ∀ (x_2 : Int), (0 : Int) ≤ x_2 ∧ x_2 ≤ (↑t.size : Int) → br (decide (x_2 < (↑t.size : Int))) (true = true ∧ (a.toNat + (1 : Nat) = a.toNat + (1 : Nat) ∧ GW x_1.l ∧ inB x_1.l (0 : Int) x_2 = true) ∧ true = true ∧ (a.toNat + (1
   : Nat) = a.toNat + (1 : Nat) ∧ GW x.l ∧ inB x.l (0 : Int) x_2 = true) ∧ rq (decide ((0 : Int) ≤ x_2 ∧ x_2 < (↑t.size : Int))) ((((3 : Int) = (1 : Int) ∨ (3 : Int) = (3 : Int)) ∧ (0 : Int) ≤ byteAt t x_2.toNat ∧ byteAt t x_2.toNat ≤ (255 : Int)) ∧ br
   ((at2 x_1.l (0 : Int) x_2).g != ofT (3 : Int) (byteAt t x_2.toNat)) (SV.v (Value.bool false) = SV.v (Value.bool true)) (rq (decide ((0 : Int) ≤ x_2 ∧ x_2 < (↑t.size : Int))) (br ((at2 x.l (0 : Int) x_2).g != IntKind.i32.wrap (byteAt t x_2.toNat))
   (SV.v (Value.bool false) = SV.v (Value.bool true)) (true = true ∧ (3 : Int) = (3 : Int) ∧ br (!decide ((0 : Int) ≤ backT (3 : Int) (at2 x_1.l (0 : Int) x_2).g)) (SV.v (Value.bool false) = SV.v (Value.bool true)) ((((3 : Int) = (1 : Int) ∨ (3 : Int) =
   (3 : Int)) ∧ (0 : Int) ≤ max (0 : Int) (backT (3 : Int) (at2 x_1.l (0 : Int) x_2).g) ∧ max (0 : Int) (backT (3 : Int) (at2 x_1.l (0 : Int) x_2).g) ≤ (255 : Int)) ∧ br (ofT (3 : Int) (max (0 : Int) (backT (3 : Int) (at2 x_1.l (0 : Int) x_2).g)) !=
   (at2 x_1.l (0 : Int) x_2).g) (SV.v (Value.bool false) = SV.v (Value.bool true)) (((0 : Int) ≤ IntKind.i64.wrap (x_2 + (1 : Int)) ∧ IntKind.i64.wrap (x_2 + (1 : Int)) ≤ (↑t.size : Int)) ∧ ((SV.v (Value.string t) = SV.v (Value.string t) ∧ SV.v
   (Value.bool false) = SV.v (Value.bool false) ∧ SV.p (13 : Nat) (0 : Nat) = SV.p (13 : Nat) (0 : Nat) ∧ SV.p (26 : Nat) (0 : Nat) = SV.p (26 : Nat) (0 : Nat) ∧ SV.v (Value.int IntKind.i64 (IntKind.i64.wrap (x_2 + (1 : Int)))) = SV.v (Value.int
   IntKind.i64 (IntKind.i64.wrap (x_2 + (1 : Int)))) ∧ True) ∧ (SV.v (Value.int IntKind.i64 a) = SV.v (Value.int IntKind.i64 a) ∧ SV.v (Value.int IntKind.i64 b) = SV.v (Value.int IntKind.i64 b) ∧ True) ∧ (SV.v (Value.int IntKind.i64 a) = SV.v (Value.int
   IntKind.i64 a) ∧ SV.v (Value.int IntKind.i64 b) = SV.v (Value.int IntKind.i64 b) ∧ True) ∧ True ∧ True ∧ True ∧ (SV.h (6 : Nat) [a.toNat + (1 : Nat), (0 : Nat)] = SV.h (6 : Nat) [a.toNat + (1 : Nat), (0 : Nat)] ∧ True) ∧ (a.toNat + (1 : Nat) =
   a.toNat + (1 : Nat) ∧ x_1.ep = x_1.ep ∧ x_1.l = x_1.l) ∧ True ∧ True ∧ (SV.v (Value.int IntKind.i64 x_1.r) = SV.v (Value.int IntKind.i64 x_1.r) ∧ SV.v (Value.int IntKind.i64 x_1.c) = SV.v (Value.int IntKind.i64 x_1.c) ∧ SV.v (Value.bool false) = SV.v
   (Value.bool false) ∧ SV.p (5 : Nat) (0 : Nat) = SV.p (5 : Nat) (0 : Nat) ∧ True) ∧ ((50 : Nat) = (50 : Nat) ∧ (0 : Nat) = (0 : Nat) ∧ x_1.xs = x_1.xs) ∧ (SV.h (10 : Nat) [(0 : Nat), (0 : Nat)] = SV.h (10 : Nat) [(0 : Nat), (0 : Nat)] ∧ SV.v
   (Value.int IntKind.i64 (0 : Int)) = SV.v (Value.int IntKind.i64 (0 : Int)) ∧ SV.v (Value.int IntKind.i64 x_1.n) = SV.v (Value.int IntKind.i64 x_1.n) ∧ SV.v (Value.bool x_1.ov) = SV.v (Value.bool x_1.ov) ∧ True) ∧ (SV.p (9 : Nat) (0 : Nat) = SV.p (9 :
   Nat) (0 : Nat) ∧ SV.p (11 : Nat) (0 : Nat) = SV.p (11 : Nat) (0 : Nat) ∧ SV.v (Value.bool x_1.G) = SV.v (Value.bool x_1.G) ∧ SV.v (Value.bool x_1.K) = SV.v (Value.bool x_1.K) ∧ SV.v (Value.bool x_1.Ho) = SV.v (Value.bool x_1.Ho) ∧ SV.h (14 : Nat)
   [x_1.pe, (0 : Nat)] = SV.h (14 : Nat) [x_1.pe, (0 : Nat)] ∧ True) ∧ (SV.p (9 : Nat) (0 : Nat) = SV.p (9 : Nat) (0 : Nat) ∧ SV.p (11 : Nat) (0 : Nat) = SV.p (11 : Nat) (0 : Nat) ∧ SV.p (12 : Nat) (0 : Nat) = SV.p (12 : Nat) (0 : Nat) ∧ True) ∧
   (x_1.pl.length = x_1.pl.length ∧ x_1.pe = x_1.pe ∧ x_1.pl = x_1.pl) ∧ True ∧ True ∧ True ∧ (SV.h (19 : Nat) [a.toNat + (1 : Nat), (0 : Nat)] = SV.h (19 : Nat) [a.toNat + (1 : Nat), (0 : Nat)] ∧ True) ∧ (a.toNat + (1 : Nat) = a.toNat + (1 : Nat) ∧
   x.ep = x.ep ∧ x.l = x.l) ∧ True ∧ True ∧ (SV.v (Value.int IntKind.i64 x.r) = SV.v (Value.int IntKind.i64 x.r) ∧ SV.v (Value.int IntKind.i64 x.c) = SV.v (Value.int IntKind.i64 x.c) ∧ SV.v (Value.bool false) = SV.v (Value.bool false) ∧ SV.p (18 : Nat)
   (0 : Nat) = SV.p (18 : Nat) (0 : Nat) ∧ True) ∧ ((50 : Nat) = (50 : Nat) ∧ (0 : Nat) = (0 : Nat) ∧ x.xs = x.xs) ∧ (SV.h (23 : Nat) [(0 : Nat), (0 : Nat)] = SV.h (23 : Nat) [(0 : Nat), (0 : Nat)] ∧ SV.v (Value.int IntKind.i64 (0 : Int)) = SV.v
   (Value.int IntKind.i64 (0 : Int)) ∧ SV.v (Value.int IntKind.i64 x.n) = SV.v (Value.int IntKind.i64 x.n) ∧ SV.v (Value.bool x.ov) = SV.v (Value.bool x.ov) ∧ True) ∧ (SV.p (22 : Nat) (0 : Nat) = SV.p (22 : Nat) (0 : Nat) ∧ SV.p (24 : Nat) (0 : Nat) =
   SV.p (24 : Nat) (0 : Nat) ∧ SV.v (Value.bool x.G) = SV.v (Value.bool x.G) ∧ SV.v (Value.bool x.K) = SV.v (Value.bool x.K) ∧ SV.v (Value.bool x.Ho) = SV.v (Value.bool x.Ho) ∧ SV.h (27 : Nat) [x.pe, (0 : Nat)] = SV.h (27 : Nat) [x.pe, (0 : Nat)] ∧
   True) ∧ (SV.p (22 : Nat) (0 : Nat) = SV.p (22 : Nat) (0 : Nat) ∧ SV.p (24 : Nat) (0 : Nat) = SV.p (24 : Nat) (0 : Nat) ∧ SV.p (25 : Nat) (0 : Nat) = SV.p (25 : Nat) (0 : Nat) ∧ True) ∧ (x.pl.length = x.pl.length ∧ x.pe = x.pe ∧ x.pl = x.pl) ∧ True) ∧
   ((↑t.size : Int) - IntKind.i64.wrap (x_2 + (1 : Int))).toNat < ((↑t.size : Int) - x_2).toNat))))))) (true = true ∧ TA (((), (), x_1.G, x_1.K, x_1.Ho, x_1.pe), (x_1.r, x_1.c, false, (), ()), a.toNat + (1 : Nat), RC.mk x_1.l (a.toNat + (1 : Nat))
   x_1.ep, ((0 : Nat), (0 : Int), x_1.n, x_1.ov), OI.mk x_1.xs (50 : Nat) (0 : Nat), OI.mk x_1.pl x_1.pl.length x_1.pe) ∧ br x_1.G (true = true ∧ TA (((), (), x.G, x.K, x.Ho, x.pe), (x.r, x.c, false, (), ()), a.toNat + (1 : Nat), RC.mk x.l (a.toNat + (1
   : Nat)) x.ep, ((0 : Nat), (0 : Int), x.n, x.ov), OI.mk x.xs (50 : Nat) (0 : Nat), OI.mk x.pl x.pl.length x.pe) ∧ br (!x.G) (true = true ∧ SV.v (Value.bool true) = SV.v (Value.bool true)) (SV.v (Value.bool false) = SV.v (Value.bool true))) (SV.v
   (Value.bool false) = SV.v (Value.bool true))))))) (true = true ∧ SV.v (Value.bool true) = SV.v (Value.bool true))) (true = true ∧ SV.v (Value.bool true) = SV.v (Value.bool true))) (true = true ∧ SV.v (Value.bool true) = SV.v (Value.bool true)))) (by
   kernel_rfl) ?_
  have hfd : ∀ (x : Tm) (u : ByteArray), fdX (((), (), x.G, x.K, x.Ho, x.pe), (x.r, x.c, false, (), ()), a.toNat + 1, RC.mk x.l (a.toNat + 1) x.ep, (0, 0, x.n, x.ov), OI.mk x.xs 50 0, OI.mk x.pl x.pl.length x.pe) u = feedT 50 0 x (bytesL u) := fun _ _ => rfl
  have hTA : ∀ x : Tm, TI 0 50 x → TA (((), (), x.G, x.K, x.Ho, x.pe), (x.r, x.c, false, (), ()), a.toNat + 1, RC.mk x.l (a.toNat + 1) x.ep, (0, 0, x.n, x.ov), OI.mk x.xs 50 0, OI.mk x.pl x.pl.length x.pe) := fun _ h => ⟨rfl, rfl, rfl, rfl, rfl, h⟩
  simp only [hfd]
  simp only [br_iff, rq_iff, nbeq, II, true_and, and_true, and_self, implies_true, decide_eq_true_eq, decide_eq_false_iff_not, Bool.not_eq_true', Bool.not_eq_false']
  intro ha1 ha2 hb1 hb2 ht
  have hm : mayB a b = true := mayB_iff.2 (by omega)
  have hN : TI 0 50 (newT a b 50) := newT_ti (a := a) (b := b) (m := 50) hm (by omega) (by omega)
  subst g0; subst g1; subst g2
  have hA := tp_feed (bytesL (gaB ++ t)) hN (bytesL_range _)
  have hB := tp_feed (bytesL (gbB ++ t)) hN (bytesL_range _)
  have hC : nC (newT a b 50).l = b.toNat := newL_nC (by omega)
  have hR : (newT a b 50).l.length = a.toNat := newL_length _ _ _
  have sA : (gaB ++ t).size = 2 + t.size := by rw [ByteArray.size_append]; rfl
  have sB : (gbB ++ t).size = 4 + t.size := by rw [ByteArray.size_append]; rfl
  have zA : (({ data := #[27, 70] } : ByteArray) ++ t).size = 2 + t.size := sA
  have zB : (({ data := #[27, 70, 27, 71] } : ByteArray) ++ t).size = 4 + t.size := sB
  refine ⟨⟨Int.le_refl 0, by omega, fun j hj => by omega⟩, fun x ⟨hx0, hx1, hx2⟩ => ⟨fun hlt => ⟨⟨hx0, hlt⟩, fun h3 => ⟨⟨hx0, hlt⟩, fun h4 => ?_⟩⟩, fun hge => ⟨⟨hm, by decide, by decide⟩, ⟨hm, by decide, by decide⟩, ⟨rfl, rfl⟩, ?_⟩⟩⟩
  · rw [wrap64 (x := x + 1) (by omega) (by omega)]
    refine ⟨⟨by omega, by omega, fun j hj => ?_⟩, by omega⟩
    by_cases hj' : (j : Int) < x
    · exact hx2 j hj'
    · obtain rfl : j = x.toNat := by omega
      omega
  · rintro ⟨y, z⟩ ⟨hy, hz⟩
    dsimp only at hy hz ⊢
    subst hy; subst hz
    have hq : ∀ j, j < t.size → 32 ≤ byteAt t j ∧ byteAt t j ≤ 126 := fun j hj => hx2 j (by omega)
    obtain ⟨gA, qA⟩ := grA (m := 50) (fr := 0) (S := newT a b 50) ⟨rfl, rfl⟩ hN (t := t) (by rw [hC]; omega) hq
    obtain ⟨gB, qB⟩ := grB (m := 50) (fr := 0) (S := newT a b 50) ⟨rfl, rfl⟩ hN (t := t) (by rw [hC]; omega) hq
    refine ⟨⟨Nat.ble_eq_true_of_le (by omega), ⟨hTA _ hN, by rw [zA]; omega⟩, tm_eta (feedT 50 0 (newT a b 50) (bytesL (gaB ++ t)))⟩, ?_⟩
    rintro y rfl
    refine ⟨⟨Nat.ble_eq_true_of_le (by omega), ⟨hTA _ hN, by rw [zB]; omega⟩, tm_eta (feedT 50 0 (newT a b 50) (bytesL (gbB ++ t)))⟩, ?_⟩
    rintro z rfl
    refine ⟨⟨Int.le_refl 0, by omega⟩, fun y ⟨hy0, hy1⟩ => ⟨fun hlt => ?_, fun hge => ?_⟩⟩
    · have e1 : at2 (n1S a b t).l 0 (y.toNat : Nat) = _ := qA y.toNat (by omega)
      have e2 : at2 (n2S a b t).l 0 (y.toNat : Nat) = _ := qB y.toNat (by omega)
      rw [show ((y.toNat : Nat) : Int) = y by omega] at e1 e2
      have hbb := hq y.toNat (by omega)
      obtain ⟨k0, k1, k2⟩ := back_of (set := 3) (b := byteAt t y.toNat) (by omega) (by omega) (of3_some hbb)
      rw [e1, e2, IntWalk.i32_in _ ⟨by omega, by omega⟩]
      dsimp only
      have hmx : max 0 (backT 3 (ofT 3 (byteAt t y.toNat))) = backT 3 (ofT 3 (byteAt t y.toNat)) := by omega
      rw [hmx, k2]
      have iA : inB (n1S a b t).l 0 y = true := by
        have f1 : (n1S a b t).l.length = a.toNat := hA.le.trans hR
        have f2 : nC (n1S a b t).l = b.toNat := hA.nc.trans hC
        simp [inB, f1, f2]
        omega
      have iB : inB (n2S a b t).l 0 y = true := by
        have f1 : (n2S a b t).l.length = a.toNat := hB.le.trans hR
        have f2 : nC (n2S a b t).l = b.toNat := hB.nc.trans hC
        simp [inB, f1, f2]
        omega
      refine ⟨⟨hA.ti.gw, iA⟩, ⟨hB.ti.gw, iB⟩, ⟨hy0, hlt⟩, ⟨Or.inr trivial, by omega, by omega⟩, fun h => by simp at h, fun _ => ⟨⟨hy0, hlt⟩, fun h => by simp at h, fun _ => ⟨fun h => absurd k0 h, fun _ => ⟨⟨Or.inr trivial, k0, k1⟩, fun h => by simp at h, fun _ => ?_⟩⟩⟩⟩
      rw [wrap64 (x := y + 1) (by omega) (by omega)]
      omega
    · have gA : (n1S a b t).G = true := gA
      have gB : (n2S a b t).G = false := gB
      refine ⟨hTA _ hA.ti, fun _ => ⟨hTA _ hB.ti, fun h => ?_⟩, fun h => ?_⟩
      · rw [gB] at h; exact absurd h (by decide)
      · rw [gA] at h; exact absurd h (by decide)
theorem law_graphs {W : World} {vs : List Value} (hG : Gw W) (hp : IPDens (wholeH W) maxLen [.agg [.i .i64, .i .i64], .one .s] vs) : Calls Tryd.prog 5 vs.toArray W fun en W' => en = .returned (.bool true) ∧ Ext W W' := by
  simp only [IPDens, IP.den, IT.dens, it_s, it_i] at hp
  obtain ⟨_, _, rfl, ⟨us, rfl, _, _, rfl, ⟨a, rfl, _⟩, _, _, rfl, ⟨b, rfl, _⟩, rfl⟩, _, _, rfl, ⟨t, rfl, _⟩, rfl⟩ := hp
  refine law_run (cfgN_ok a b t (newT a b 50) (n1S a b t) (n2S a b t)) rfl Tryd.func5 [] (by simp) ?_ (run_graphs a b t (newT a b 50) (n1S a b t) (n2S a b t) rfl rfl rfl) hG
  exact dl_cons (den_a (dl_cons den_v (dl_cons den_v dl_nil))) (dl_cons den_v dl_nil)
end Go.Proofs.YtcbjgpkbfmmdpaaDoor
