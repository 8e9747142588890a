/- What is wanted of the texts HbH, HbI, HbJ, HbP, HbO, in one. -/
import Derived.Test.YtcbjgpkbfmmdpaaDoorHpOc
import Derived.Test.YtcbjgpkbfmmdpaaDoorHpOw
set_option linter.unusedSimpArgs false
set_option linter.unusedVariables false
set_option linter.unusedSectionVars false
namespace Go.Proofs.YtcbjgpkbfmmdpaaDoor
open Go Go.Sym
def byT (m : Nat) (fr : Int) (s : Tm) (b : Int) : Tm :=
  if s.pl.length = 0 ∧ b > 126 then s
  else if b = 27 then { s with pl := [27], pe := s.pe + 1 }
  else if 0 < s.pl.length then sqT m fr s b
  else if 32 ≤ b then puT s b
  else ctT s b
def feedT (m : Nat) (fr : Int) (s : Tm) (bs : List Int) : Tm := bs.foldl (byT m fr) s
structure TP (fr : Int) (m : Nat) (s s' : Tm) : Prop where
  ti : TI fr m s'
  le : s'.l.length = s.l.length
  nc : nC s'.l = nC s.l
theorem TP.refl {fr : Int} {m : Nat} {s : Tm} (h : TI fr m s) : TP fr m s s := ⟨h, rfl, rfl⟩
theorem TP.trans {fr : Int} {m : Nat} {s s' s'' : Tm} (h : TP fr m s s') (h' : TP fr m s' s'') : TP fr m s s'' := ⟨h'.ti, h'.le.trans h.le, h'.nc.trans h.nc⟩
section
variable {fr : Int} {m : Nat} {s : Tm}
theorem tp_cur (h : TI fr m s) {r c : Int} (h0 : 0 ≤ r) (h1 : r < s.l.length) (h2 : 0 ≤ c) (h3 : c < nC s.l) : TP fr m s { s with r := r, c := c } :=
  ⟨⟨h.gw, h0, h1, h2, h3, h.q, h.pl, h.pb⟩, rfl, rfl⟩
theorem tp_rows (h : TI fr m s) {l : List (List C4)} (hg : GW l ∧ l.length = s.l.length ∧ nC l = nC s.l) (ep : Nat) : TP fr m s { s with l := l, ep := ep } :=
  ⟨⟨hg.1, h.r0, by simpa only [hg.2.1] using h.r1, h.c0, by simpa only [hg.2.2] using h.c1, h.q, h.pl, h.pb⟩, hg.2.1, hg.2.2⟩
theorem tp_nil (h : TI fr m s) (pe : Nat) : TP fr m s { s with pl := [], pe := pe } :=
  ⟨⟨h.gw, h.r0, h.r1, h.c0, h.c1, h.q, by simp, fun x hx => by simp at hx⟩, rfl, rfl⟩
theorem rows0 (h : TI fr m s) : (1 : Int) ≤ s.l.length := by have := h.gw.r0; omega
theorem cols0 (h : TI fr m s) : (1 : Int) ≤ nC s.l := by have := h.gw.c0; omega
theorem tp_mo (h : TI fr m s) (x y : Int) : TP fr m s (moT s x y) := by
  have h1 := near_bd (x := x) (rows0 h)
  have h2 := near_bd (x := y) (cols0 h)
  exact tp_cur h h1.1 h1.2 h2.1 h2.2
theorem tp_st (h : TI fr m s) (x y : Int) : TP fr m s (stT s x y) := tp_mo h _ _
theorem tp_fd (h : TI fr m s) : TP fr m s (fdT s) := by
  have h1 := near_bd (x := s.r + 1) (rows0 h)
  have hg : GW (if s.r = (s.l.length : Int) - 1 then upF s.l 1 blankC else s.l) ∧ (if s.r = (s.l.length : Int) - 1 then upF s.l 1 blankC else s.l).length = s.l.length ∧ nC (if s.r = (s.l.length : Int) - 1 then upF s.l 1 blankC else s.l) = nC s.l := by
    split
    · exact upF_gw h.gw _ _
    · exact ⟨h.gw, rfl, rfl⟩
  exact (tp_cur h h1.1 h1.2 h.c0 h.c1).trans (tp_rows (tp_cur h h1.1 h1.2 h.c0 h.c1).ti hg (s.ep + 1))
theorem wi_gw {l : List (List C4)} (h : GW l) (a b c d : Int) (x : C4) (g : Bool) : GW (wiL l a b c d x g) ∧ (wiL l a b c d x g).length = l.length ∧ nC (wiL l a b c d x g) = nC l := by
  unfold wiL
  split
  · exact ⟨turnL_gw h, turnL_length, turnL_nC h⟩
  · exact ⟨h, rfl, rfl⟩
theorem tp_wp (h : TI fr m s) (a b c d : Int) : TP fr m s (wpT s a b c d) := tp_rows h (wi_gw h.gw _ _ _ _ _ _) s.ep
theorem tp_ta (h : TI fr m s) : TP fr m s (taT s) := by
  have h2 := near_bd (x := if s.c - s.c % 8 + 8 > (nC s.l : Int) - 1 then s.c + 1 else s.c - s.c % 8 + 8) (cols0 h)
  exact tp_cur h h.r0 h.r1 h2.1 h2.2
theorem tp_ix (h : TI fr m s) : TP fr m s (ixT s) := by
  have h1 := near_bd (x := s.r - 1) (rows0 h)
  have hg : GW (if s.r = 0 then upF s.l (-1) blankC else s.l) ∧ (if s.r = 0 then upF s.l (-1) blankC else s.l).length = s.l.length ∧ nC (if s.r = 0 then upF s.l (-1) blankC else s.l) = nC s.l := by
    split
    · exact upF_gw h.gw _ _
    · exact ⟨h.gw, rfl, rfl⟩
  exact (tp_cur h h1.1 h1.2 h.c0 h.c1).trans (tp_rows (tp_cur h h1.1 h1.2 h.c0 h.c1).ti hg (if s.r = 0 then s.ep + 1 else s.ep))
theorem tp_pl (h : TI fr m s) (x y : Int) : TP fr m s (plT s x y) := by
  have g1 := rows0 h
  have g2 := cols0 h
  have h0 := h.r0
  have h1 := h.r1
  have h2 := h.c0
  have h3 := h.c1
  refine tp_cur h ?_ ?_ ?_ ?_
  · split <;> omega
  · split <;> omega
  · split <;> (try split) <;> omega
  · split <;> (try split) <;> omega
theorem tp_pu (h : TI fr m s) (b : Int) : TP fr m s (puT s b) := by
  have h3 := h.c1
  have h2 := h.c0
  have hg : GW (set2 s.l s.r s.c ⟨glT s.G b, 0, false, 0⟩) ∧ (set2 s.l s.r s.c ⟨glT s.G b, 0, false, 0⟩).length = s.l.length ∧ nC (set2 s.l s.r s.c ⟨glT s.G b, 0, false, 0⟩) = nC s.l := by
    rw [set2_eq h.gw h.r0 h.r1 h.c0 h.c1]
    have := h.gw.r0
    exact ⟨gridF_gw h.gw.r0 h.gw.r1 h.gw.c0 h.gw.c1, gridF_length _ _ _, gridF_nC (by omega)⟩
  have hc : TP fr m s { s with r := s.r, c := if s.c + 1 < nC s.l then s.c + 1 else s.c } := tp_cur h h.r0 h.r1 (by split <;> omega) (by split <;> omega)
  exact hc.trans (tp_rows hc.ti hg s.ep)
theorem tp_z (h : TI fr m s) : TP fr m s (zT m fr s) := by
  unfold zT
  split
  · exact ⟨⟨h.gw, h.r0, h.r1, h.c0, h.c1, h.q, h.pl, h.pb⟩, rfl, rfl⟩
  · have hq := QWf.put [27, 47, 75] h.q (by simp only [List.length_cons, List.length_nil]; omega) (fun x hx => by simp at hx; omega)
    exact ⟨⟨h.gw, h.r0, h.r1, h.c0, h.c1, hq.1, h.pl, h.pb⟩, rfl, rfl⟩
theorem tp_md (h : TI fr m s) (G K Ho : Bool) : TP fr m s { s with G := G, K := K, Ho := Ho } :=
  ⟨⟨h.gw, h.r0, h.r1, h.c0, h.c1, h.q, h.pl, h.pb⟩, rfl, rfl⟩
theorem tp_ite {p : Prop} [Decidable p] {a b : Tm} (ha : TP fr m s a) (hb : TP fr m s b) : TP fr m s (if p then a else b) := by
  split
  · exact ha
  · exact hb
theorem tp_two (h : TI fr m s) (b : Int) : TP fr m s (twoT m fr s b) := by
  unfold twoT
  repeat' (first | exact tp_z h | exact tp_wp h _ _ _ _ | refine tp_ite ?_ ?_)
  all_goals first
    | exact tp_st h _ _
    | exact tp_mo h _ _
    | exact tp_ix h
    | exact tp_wp h _ _ _ _
    | exact tp_z h
    | exact tp_md h _ _ _
    | exact TP.refl h
theorem tp_sq (h : TI fr m s) {b : Int} (hb : 0 ≤ b ∧ b ≤ 255) : TP fr m s (sqT m fr s b) := by
  unfold sqT
  split
  · rename_i hl
    refine ⟨⟨h.gw, h.r0, h.r1, h.c0, h.c1, h.q, ?_, byteR_append h.pb fun x hx => ?_⟩, rfl, rfl⟩
    · simp only [List.length_append, List.length_cons, List.length_nil]; omega
    · simp at hx; subst hx; exact hb
  · split
    · exact (tp_nil h _).trans (tp_two (tp_nil h _).ti b)
    · exact (tp_nil h _).trans (tp_pl (tp_nil h _).ti _ _)
theorem tp_ct (h : TI fr m s) (b : Int) : TP fr m s (ctT s b) := by
  unfold ctT
  repeat' (first | exact tp_z h | exact tp_wp h _ _ _ _ | refine tp_ite ?_ ?_)
  all_goals first
    | exact tp_st h _ _
    | exact tp_ta h
    | exact tp_fd h
    | exact tp_mo h _ _
    | exact TP.refl h
theorem tp_by (h : TI fr m s) {b : Int} (hb : 0 ≤ b ∧ b ≤ 255) : TP fr m s (byT m fr s b) := by
  unfold byT
  split
  · exact TP.refl h
  · split
    · exact ⟨⟨h.gw, h.r0, h.r1, h.c0, h.c1, h.q, by simp, fun x hx => by simp at hx; omega⟩, rfl, rfl⟩
    · split
      · exact tp_sq h hb
      · split
        · exact tp_pu h b
        · exact tp_ct h b
end
theorem tp_feed {fr : Int} {m : Nat} : ∀ (bs : List Int) {s : Tm}, TI fr m s → byteR bs → TP fr m s (feedT m fr s bs)
  | [], s, h, _ => TP.refl h
  | b :: bs, s, h, hb => by
    have h1 := tp_by h (hb b List.mem_cons_self)
    exact h1.trans (tp_feed bs h1.ti fun x hx => hb x (List.mem_cons_of_mem _ hx))
theorem feedT_append (m : Nat) (fr : Int) (s : Tm) (a b : List Int) : feedT m fr s (a ++ b) = feedT m fr (feedT m fr s a) b := by simp [feedT]
theorem feedT_succ (m : Nat) (fr : Int) (s : Tm) {t : ByteArray} {i : Int} (h0 : 0 ≤ i) (h : i < t.size) : feedT m fr s ((bytesL t).take (i + 1).toNat) = byT m fr (feedT m fr s ((bytesL t).take i.toNat)) (byteAt t i.toNat) := by
  rw [bytesL_take_succ h0 h, feedT_append]; rfl
theorem feedT_all (m : Nat) (fr : Int) (s : Tm) (t : ByteArray) : feedT m fr s ((bytesL t).take t.size) = feedT m fr s (bytesL t) := by
  rw [List.take_of_length_le (by rw [bytesL_length]; omega)]
end Go.Proofs.YtcbjgpkbfmmdpaaDoor
namespace Go.Proofs.YtcbjgpkbfmmdpaaDoor
open Go Go.Sym
def fdF (x : TR) (t : ByteArray) (i : Int) : Tm := feedT (trM x) (trF x) (tmS x) ((bytesL t).take i.toNat)
def annFd (j oe qe m : Nat) (fr : Int) (F : Int → Tm) (t : ByteArray) : Ann Unit where
  α := Int
  φ _ i := 0 ≤ i ∧ i ≤ t.size
  μ _ i := (t.size - i).toNat
  get st := getI st.tm 8
  f st i := tmpl [0, 1, 2, 7] [(8, .v (.int .i64 i))] (((tmI j oe qe m fr (F i)).zipIdx j).map (fun p => (p.2, p.1)) ++ [(getY st.tm 0, loopTm st.H (getY st.tm 0) [2] [])]) st
  fx st := match getC st.H j with
    | [_, _, _, _, _, .s b _ _ _] => [.adopt (j + 6) b]
    | _ => []
def tabV12 : List (Nat × ACon Unit) := (25, lcTSeq) :: (28, lcPlay4) :: (27, lcCtl) :: tabU12
theorem tabV12_ok : LCs Tryd.prog tabV12 := ⟨ok_tSeq, ok_play4, ok_ctl, tabU12_ok⟩
def fdX (x : TR) (t : ByteArray) : Tm := feedT (trM x) (trF x) (tmS x) (bytesL t)
def lcTFeed : ACon Unit := mkLC (decP (shCons (shP 0) (shOne shStr)) (shTm 0)) fun ((_, t), x) => .ask (TA x ∧ t.size ≤ 1099511627776) (.one (.t []) (tmE 0 x (fdX x t)) [0, 1, 3, 4, 5, 6])
set_option maxHeartbeats 4000000 in
theorem ok_tFeed : ∀ I : Sym.Inv Unit, LCOk I Tryd.prog 11 lcTFeed := by
  refine lc_mk (fun ((_, t), x) => allCfg Tryd.prog purT tabV12 0 [(129, annFd 0 x.2.2.1 x.2.2.2.2.1.1 (trM x) (trF x) (fdF x t) t)]) (fun _ _ => allCfg_ok mixed purT_ok tabV12_ok) (fun _ => rfl) (n := 90) Tryd.func11 ?_
  intro ⟨⟨u0, t⟩, ⟨u1, u2, G, K, Ho, pe⟩, ⟨r, c, p, u3, u4⟩, oe, ⟨l, oe2, ep⟩, ⟨qe, fr, n, ov⟩, ⟨xs, m, qe2⟩, ⟨pl, pn, pe2⟩⟩ hφ
  obtain ⟨⟨⟨rfl, rfl, rfl, rfl, rfl, hI⟩, hsz⟩, hp⟩ := id hφ
  refine kcast (B := ((fun F : Int → Tm => (II (0 : Int) ≤ (0 : Int) ∧ (0 : Int) ≤ (↑t.size : Int)) ∧ ((SV.y (11 : Nat) = SV.y (11 : Nat) ∧ SV.p (9 : Nat) (0 : Nat) = SV.p (9 : Nat) (0 : Nat) ∧ SV.p (8 : Nat) (0 : Nat) = SV.p (8 : Nat) (0 : Nat) ∧
   SV.v (Value.int IntKind.i64 (↑t.size : Int)) = SV.v (Value.int IntKind.i64 (↑t.size : Int)) ∧ SV.v (Value.int IntKind.i64 (0 : Int)) = SV.v (Value.int IntKind.i64 (0 : Int)) ∧ True) ∧ (SV.p (1 : Nat) (0 : Nat) = SV.p (1 : Nat) (0 : Nat) ∧ SV.p (4 :
   Nat) (0 : Nat) = SV.p (4 : Nat) (0 : Nat) ∧ SV.v (Value.bool G) = SV.v (Value.bool G) ∧ SV.v (Value.bool K) = SV.v (Value.bool K) ∧ SV.v (Value.bool Ho) = SV.v (Value.bool Ho) ∧ SV.h (6 : Nat) [pe, (0 : Nat)] = SV.h (6 : Nat) [pe, (0 : Nat)] ∧ True)
   ∧ (SV.v (Value.int IntKind.i64 r) = SV.v (Value.int IntKind.i64 r) ∧ SV.v (Value.int IntKind.i64 c) = SV.v (Value.int IntKind.i64 c) ∧ SV.v (Value.bool false) = SV.v (Value.bool false) ∧ SV.p (2 : Nat) (0 : Nat) = SV.p (2 : Nat) (0 : Nat) ∧ True) ∧
   (SV.h (3 : Nat) [oe, (0 : Nat)] = SV.h (3 : Nat) [oe, (0 : Nat)] ∧ True) ∧ (oe = oe ∧ ep = ep ∧ l = l) ∧ (SV.h (5 : Nat) [qe, (0 : Nat)] = SV.h (5 : Nat) [qe, (0 : Nat)] ∧ SV.v (Value.int IntKind.i64 fr) = SV.v (Value.int IntKind.i64 (trF ((u1, u2,
   G, K, Ho, pe), (r, c, false, u3, u4), oe, RC.mk l oe ep, (qe, fr, n, ov), OI.mk xs m qe, OI.mk pl pl.length pe))) ∧ SV.v (Value.int IntKind.i64 n) = SV.v (Value.int IntKind.i64 n) ∧ SV.v (Value.bool ov) = SV.v (Value.bool ov) ∧ True) ∧ (m = trM ((u1,
   u2, G, K, Ho, pe), (r, c, false, u3, u4), oe, RC.mk l oe ep, (qe, fr, n, ov), OI.mk xs m qe, OI.mk pl pl.length pe) ∧ qe = qe ∧ xs = xs) ∧ (pl.length = pl.length ∧ pe = pe ∧ pl = pl) ∧ (SV.p (0 : Nat) (0 : Nat) = SV.p (0 : Nat) (0 : Nat) ∧ True) ∧
   (SV.p (0 : Nat) (0 : Nat) = SV.p (0 : Nat) (0 : Nat) ∧ True) ∧ (SV.v (Value.string t) = SV.v (Value.string t) ∧ True) ∧ Obj.deferred (some []) = Obj.deferred (some []) ∧ ((SV.p (7 : Nat) (0 : Nat) = SV.p (7 : Nat) (0 : Nat) ∧ True) ∧ #[(10 : Nat)] =
   #[(10 : Nat)] ∧ codeAt Tryd.f11 [(1 : Nat), (1 : Nat), (1 : Nat), (0 : Nat), (0 : Nat)] = codeAt Tryd.f11 [(1 : Nat), (1 : Nat), (1 : Nat), (0 : Nat), (0 : Nat)] ∧ codeAt Tryd.f11 [(1 : Nat), (1 : Nat), (1 : Nat), (0 : Nat), (1 : Nat)] = codeAt
   Tryd.f11 [(1 : Nat), (1 : Nat), (1 : Nat), (0 : Nat), (1 : Nat)]) ∧ True) ∧ ∀ (x : Int), (0 : Int) ≤ x ∧ x ≤ (↑t.size : Int) → br (decide (x < (↑t.size : Int))) (rq (decide ((0 : Int) ≤ x ∧ x < (↑t.size : Int))) (rq ((F x).pe.beq (F x).pe) (br ((↑(F
   x).pl.length : Int) == (0 : Int)) (br (decide (byteAt t x.toNat > (126 : Int))) (((0 : Int) ≤ IntKind.i64.wrap (x + (1 : Int)) ∧ IntKind.i64.wrap (x + (1 : Int)) ≤ (↑t.size : Int)) ∧ ((SV.y (11 : Nat) = SV.y (11 : Nat) ∧ SV.p (9 : Nat) (0 : Nat) =
   SV.p (9 : Nat) (0 : Nat) ∧ SV.p (8 : Nat) (0 : Nat) = SV.p (8 : Nat) (0 : Nat) ∧ SV.v (Value.int IntKind.i64 (↑t.size : Int)) = SV.v (Value.int IntKind.i64 (↑t.size : Int)) ∧ SV.v (Value.int IntKind.i64 (IntKind.i64.wrap (x + (1 : Int)))) = SV.v
   (Value.int IntKind.i64 (IntKind.i64.wrap (x + (1 : Int)))) ∧ True) ∧ (SV.p (1 : Nat) (0 : Nat) = SV.p (1 : Nat) (0 : Nat) ∧ SV.p (4 : Nat) (0 : Nat) = SV.p (4 : Nat) (0 : Nat) ∧ SV.v (Value.bool (F x).G) = SV.v (Value.bool (F (IntKind.i64.wrap (x +
   (1 : Int)))).G) ∧ SV.v (Value.bool (F x).K) = SV.v (Value.bool (F (IntKind.i64.wrap (x + (1 : Int)))).K) ∧ SV.v (Value.bool (F x).Ho) = SV.v (Value.bool (F (IntKind.i64.wrap (x + (1 : Int)))).Ho) ∧ SV.h (6 : Nat) [(F x).pe, (0 : Nat)] = SV.h (6 :
   Nat) [(F (IntKind.i64.wrap (x + (1 : Int)))).pe, (0 : Nat)] ∧ True) ∧ (SV.v (Value.int IntKind.i64 (F x).r) = SV.v (Value.int IntKind.i64 (F (IntKind.i64.wrap (x + (1 : Int)))).r) ∧ SV.v (Value.int IntKind.i64 (F x).c) = SV.v (Value.int IntKind.i64
   (F (IntKind.i64.wrap (x + (1 : Int)))).c) ∧ SV.v (Value.bool false) = SV.v (Value.bool false) ∧ SV.p (2 : Nat) (0 : Nat) = SV.p (2 : Nat) (0 : Nat) ∧ True) ∧ (SV.h (3 : Nat) [oe, (0 : Nat)] = SV.h (3 : Nat) [oe, (0 : Nat)] ∧ True) ∧ (oe = oe ∧ (F
   x).ep = (F (IntKind.i64.wrap (x + (1 : Int)))).ep ∧ (F x).l = (F (IntKind.i64.wrap (x + (1 : Int)))).l) ∧ (SV.h (5 : Nat) [qe, (0 : Nat)] = SV.h (5 : Nat) [qe, (0 : Nat)] ∧ SV.v (Value.int IntKind.i64 (trF ((u1, u2, G, K, Ho, pe), (r, c, false, u3,
   u4), oe, RC.mk l oe ep, (qe, fr, n, ov), OI.mk xs m qe, OI.mk pl pl.length pe))) = SV.v (Value.int IntKind.i64 (trF ((u1, u2, G, K, Ho, pe), (r, c, false, u3, u4), oe, RC.mk l oe ep, (qe, fr, n, ov), OI.mk xs m qe, OI.mk pl pl.length pe))) ∧ SV.v
   (Value.int IntKind.i64 (F x).n) = SV.v (Value.int IntKind.i64 (F (IntKind.i64.wrap (x + (1 : Int)))).n) ∧ SV.v (Value.bool (F x).ov) = SV.v (Value.bool (F (IntKind.i64.wrap (x + (1 : Int)))).ov) ∧ True) ∧ (trM ((u1, u2, G, K, Ho, pe), (r, c, false,
   u3, u4), oe, RC.mk l oe ep, (qe, fr, n, ov), OI.mk xs m qe, OI.mk pl pl.length pe) = trM ((u1, u2, G, K, Ho, pe), (r, c, false, u3, u4), oe, RC.mk l oe ep, (qe, fr, n, ov), OI.mk xs m qe, OI.mk pl pl.length pe) ∧ qe = qe ∧ (F x).xs = (F
   (IntKind.i64.wrap (x + (1 : Int)))).xs) ∧ ((F x).pl.length = (F (IntKind.i64.wrap (x + (1 : Int)))).pl.length ∧ (F x).pe = (F (IntKind.i64.wrap (x + (1 : Int)))).pe ∧ (F x).pl = (F (IntKind.i64.wrap (x + (1 : Int)))).pl) ∧ (SV.p (0 : Nat) (0 : Nat) =
   SV.p (0 : Nat) (0 : Nat) ∧ True) ∧ (SV.p (0 : Nat) (0 : Nat) = SV.p (0 : Nat) (0 : Nat) ∧ True) ∧ (SV.v (Value.string t) = SV.v (Value.string t) ∧ True) ∧ Obj.deferred (some []) = Obj.deferred (some []) ∧ ((SV.p (7 : Nat) (0 : Nat) = SV.p (7 : Nat)
   (0 : Nat) ∧ True) ∧ #[(10 : Nat)] = #[(10 : Nat)] ∧ codeAt Tryd.f11 [(1 : Nat), (1 : Nat), (1 : Nat), (0 : Nat), (0 : Nat)] = codeAt Tryd.f11 [(1 : Nat), (1 : Nat), (1 : Nat), (0 : Nat), (0 : Nat)] ∧ codeAt Tryd.f11 [(1 : Nat), (1 : Nat), (1 : Nat),
   (0 : Nat), (1 : Nat)] = codeAt Tryd.f11 [(1 : Nat), (1 : Nat), (1 : Nat), (0 : Nat), (1 : Nat)]) ∧ True) ∧ ((↑t.size : Int) - IntKind.i64.wrap (x + (1 : Int))).toNat < ((↑t.size : Int) - x).toNat) (rq (decide ((0 : Int) ≤ x ∧ x < (↑t.size : Int)))
   (br (byteAt t x.toNat == (27 : Int)) (((0 : Int) ≤ IntKind.i64.wrap (x + (1 : Int)) ∧ IntKind.i64.wrap (x + (1 : Int)) ≤ (↑t.size : Int)) ∧ ((SV.y (11 : Nat) = SV.y (11 : Nat) ∧ SV.p (9 : Nat) (0 : Nat) = SV.p (9 : Nat) (0 : Nat) ∧ SV.p (8 : Nat) (0
   : Nat) = SV.p (8 : Nat) (0 : Nat) ∧ SV.v (Value.int IntKind.i64 (↑t.size : Int)) = SV.v (Value.int IntKind.i64 (↑t.size : Int)) ∧ SV.v (Value.int IntKind.i64 (IntKind.i64.wrap (x + (1 : Int)))) = SV.v (Value.int IntKind.i64 (IntKind.i64.wrap (x + (1
   : Int)))) ∧ True) ∧ (SV.p (1 : Nat) (0 : Nat) = SV.p (1 : Nat) (0 : Nat) ∧ SV.p (4 : Nat) (0 : Nat) = SV.p (4 : Nat) (0 : Nat) ∧ SV.v (Value.bool (F x).G) = SV.v (Value.bool (F (IntKind.i64.wrap (x + (1 : Int)))).G) ∧ SV.v (Value.bool (F x).K) = SV.v
   (Value.bool (F (IntKind.i64.wrap (x + (1 : Int)))).K) ∧ SV.v (Value.bool (F x).Ho) = SV.v (Value.bool (F (IntKind.i64.wrap (x + (1 : Int)))).Ho) ∧ SV.h (6 : Nat) [(F x).pe + (1 : Nat), (0 : Nat)] = SV.h (6 : Nat) [(F (IntKind.i64.wrap (x + (1 :
   Int)))).pe, (0 : Nat)] ∧ True) ∧ (SV.v (Value.int IntKind.i64 (F x).r) = SV.v (Value.int IntKind.i64 (F (IntKind.i64.wrap (x + (1 : Int)))).r) ∧ SV.v (Value.int IntKind.i64 (F x).c) = SV.v (Value.int IntKind.i64 (F (IntKind.i64.wrap (x + (1 :
   Int)))).c) ∧ SV.v (Value.bool false) = SV.v (Value.bool false) ∧ SV.p (2 : Nat) (0 : Nat) = SV.p (2 : Nat) (0 : Nat) ∧ True) ∧ (SV.h (3 : Nat) [oe, (0 : Nat)] = SV.h (3 : Nat) [oe, (0 : Nat)] ∧ True) ∧ (oe = oe ∧ (F x).ep = (F (IntKind.i64.wrap (x +
   (1 : Int)))).ep ∧ (F x).l = (F (IntKind.i64.wrap (x + (1 : Int)))).l) ∧ (SV.h (5 : Nat) [qe, (0 : Nat)] = SV.h (5 : Nat) [qe, (0 : Nat)] ∧ SV.v (Value.int IntKind.i64 (trF ((u1, u2, G, K, Ho, pe), (r, c, false, u3, u4), oe, RC.mk l oe ep, (qe, fr, n,
   ov), OI.mk xs m qe, OI.mk pl pl.length pe))) = SV.v (Value.int IntKind.i64 (trF ((u1, u2, G, K, Ho, pe), (r, c, false, u3, u4), oe, RC.mk l oe ep, (qe, fr, n, ov), OI.mk xs m qe, OI.mk pl pl.length pe))) ∧ SV.v (Value.int IntKind.i64 (F x).n) = SV.v
   (Value.int IntKind.i64 (F (IntKind.i64.wrap (x + (1 : Int)))).n) ∧ SV.v (Value.bool (F x).ov) = SV.v (Value.bool (F (IntKind.i64.wrap (x + (1 : Int)))).ov) ∧ True) ∧ (trM ((u1, u2, G, K, Ho, pe), (r, c, false, u3, u4), oe, RC.mk l oe ep, (qe, fr, n,
   ov), OI.mk xs m qe, OI.mk pl pl.length pe) = trM ((u1, u2, G, K, Ho, pe), (r, c, false, u3, u4), oe, RC.mk l oe ep, (qe, fr, n, ov), OI.mk xs m qe, OI.mk pl pl.length pe) ∧ qe = qe ∧ (F x).xs = (F (IntKind.i64.wrap (x + (1 : Int)))).xs) ∧ ((1 : Nat)
   = (F (IntKind.i64.wrap (x + (1 : Int)))).pl.length ∧ (F x).pe + (1 : Nat) = (F (IntKind.i64.wrap (x + (1 : Int)))).pe ∧ LI [(27 : Int)] = (F (IntKind.i64.wrap (x + (1 : Int)))).pl) ∧ (SV.p (0 : Nat) (0 : Nat) = SV.p (0 : Nat) (0 : Nat) ∧ True) ∧
   (SV.p (0 : Nat) (0 : Nat) = SV.p (0 : Nat) (0 : Nat) ∧ True) ∧ (SV.v (Value.string t) = SV.v (Value.string t) ∧ True) ∧ Obj.deferred (some []) = Obj.deferred (some []) ∧ ((SV.p (7 : Nat) (0 : Nat) = SV.p (7 : Nat) (0 : Nat) ∧ True) ∧ #[(10 : Nat)] =
   #[(10 : Nat)] ∧ codeAt Tryd.f11 [(1 : Nat), (1 : Nat), (1 : Nat), (0 : Nat), (0 : Nat)] = codeAt Tryd.f11 [(1 : Nat), (1 : Nat), (1 : Nat), (0 : Nat), (0 : Nat)] ∧ codeAt Tryd.f11 [(1 : Nat), (1 : Nat), (1 : Nat), (0 : Nat), (1 : Nat)] = codeAt
   Tryd.f11 [(1 : Nat), (1 : Nat), (1 : Nat), (0 : Nat), (1 : Nat)]) ∧ True) ∧ ((↑t.size : Int) - IntKind.i64.wrap (x + (1 : Int))).toNat < ((↑t.size : Int) - x).toNat) (rq ((F x).pe.beq (F x).pe) (br (decide ((↑(F x).pl.length : Int) > (0 : Int)))
   (true = true ∧ (TA (((), (), (F x).G, (F x).K, (F x).Ho, (F x).pe), ((F x).r, (F x).c, false, (), ()), oe, RC.mk (F x).l oe (F x).ep, (qe, trF ((u1, u2, G, K, Ho, pe), (r, c, false, u3, u4), oe, RC.mk l oe ep, (qe, fr, n, ov), OI.mk xs m qe, OI.mk pl
   pl.length pe), (F x).n, (F x).ov), OI.mk (F x).xs (trM ((u1, u2, G, K, Ho, pe), (r, c, false, u3, u4), oe, RC.mk l oe ep, (qe, fr, n, ov), OI.mk xs m qe, OI.mk pl pl.length pe)) qe, OI.mk (F x).pl (F x).pl.length (F x).pe) ∧ (0 : Int) ≤ byteAt t
   x.toNat ∧ byteAt t x.toNat ≤ (255 : Int) ∧ (1 : Nat) ≤ (F x).pl.length) ∧ ((0 : Int) ≤ IntKind.i64.wrap (x + (1 : Int)) ∧ IntKind.i64.wrap (x + (1 : Int)) ≤ (↑t.size : Int)) ∧ ((SV.y (11 : Nat) = SV.y (11 : Nat) ∧ SV.p (9 : Nat) (0 : Nat) = SV.p (9 :
   Nat) (0 : Nat) ∧ SV.p (8 : Nat) (0 : Nat) = SV.p (8 : Nat) (0 : Nat) ∧ SV.v (Value.int IntKind.i64 (↑t.size : Int)) = SV.v (Value.int IntKind.i64 (↑t.size : Int)) ∧ SV.v (Value.int IntKind.i64 (IntKind.i64.wrap (x + (1 : Int)))) = SV.v (Value.int
   IntKind.i64 (IntKind.i64.wrap (x + (1 : Int)))) ∧ True) ∧ (SV.p (1 : Nat) (0 : Nat) = SV.p (1 : Nat) (0 : Nat) ∧ SV.p (4 : Nat) (0 : Nat) = SV.p (4 : Nat) (0 : Nat) ∧ SV.v (Value.bool (sqX (((), (), (F x).G, (F x).K, (F x).Ho, (F x).pe), ((F x).r, (F
   x).c, false, (), ()), oe, RC.mk (F x).l oe (F x).ep, (qe, trF ((u1, u2, G, K, Ho, pe), (r, c, false, u3, u4), oe, RC.mk l oe ep, (qe, fr, n, ov), OI.mk xs m qe, OI.mk pl pl.length pe), (F x).n, (F x).ov), OI.mk (F x).xs (trM ((u1, u2, G, K, Ho, pe),
   (r, c, false, u3, u4), oe, RC.mk l oe ep, (qe, fr, n, ov), OI.mk xs m qe, OI.mk pl pl.length pe)) qe, OI.mk (F x).pl (F x).pl.length (F x).pe) (byteAt t x.toNat)).G) = SV.v (Value.bool (F (IntKind.i64.wrap (x + (1 : Int)))).G) ∧ SV.v (Value.bool (sqX
   (((), (), (F x).G, (F x).K, (F x).Ho, (F x).pe), ((F x).r, (F x).c, false, (), ()), oe, RC.mk (F x).l oe (F x).ep, (qe, trF ((u1, u2, G, K, Ho, pe), (r, c, false, u3, u4), oe, RC.mk l oe ep, (qe, fr, n, ov), OI.mk xs m qe, OI.mk pl pl.length pe), (F
   x).n, (F x).ov), OI.mk (F x).xs (trM ((u1, u2, G, K, Ho, pe), (r, c, false, u3, u4), oe, RC.mk l oe ep, (qe, fr, n, ov), OI.mk xs m qe, OI.mk pl pl.length pe)) qe, OI.mk (F x).pl (F x).pl.length (F x).pe) (byteAt t x.toNat)).K) = SV.v (Value.bool (F
   (IntKind.i64.wrap (x + (1 : Int)))).K) ∧ SV.v (Value.bool (sqX (((), (), (F x).G, (F x).K, (F x).Ho, (F x).pe), ((F x).r, (F x).c, false, (), ()), oe, RC.mk (F x).l oe (F x).ep, (qe, trF ((u1, u2, G, K, Ho, pe), (r, c, false, u3, u4), oe, RC.mk l oe
   ep, (qe, fr, n, ov), OI.mk xs m qe, OI.mk pl pl.length pe), (F x).n, (F x).ov), OI.mk (F x).xs (trM ((u1, u2, G, K, Ho, pe), (r, c, false, u3, u4), oe, RC.mk l oe ep, (qe, fr, n, ov), OI.mk xs m qe, OI.mk pl pl.length pe)) qe, OI.mk (F x).pl (F
   x).pl.length (F x).pe) (byteAt t x.toNat)).Ho) = SV.v (Value.bool (F (IntKind.i64.wrap (x + (1 : Int)))).Ho) ∧ SV.h (6 : Nat) [(sqX (((), (), (F x).G, (F x).K, (F x).Ho, (F x).pe), ((F x).r, (F x).c, false, (), ()), oe, RC.mk (F x).l oe (F x).ep,
   (qe, trF ((u1, u2, G, K, Ho, pe), (r, c, false, u3, u4), oe, RC.mk l oe ep, (qe, fr, n, ov), OI.mk xs m qe, OI.mk pl pl.length pe), (F x).n, (F x).ov), OI.mk (F x).xs (trM ((u1, u2, G, K, Ho, pe), (r, c, false, u3, u4), oe, RC.mk l oe ep, (qe, fr, n,
   ov), OI.mk xs m qe, OI.mk pl pl.length pe)) qe, OI.mk (F x).pl (F x).pl.length (F x).pe) (byteAt t x.toNat)).pe, (0 : Nat)] = SV.h (6 : Nat) [(F (IntKind.i64.wrap (x + (1 : Int)))).pe, (0 : Nat)] ∧ True) ∧ (SV.v (Value.int IntKind.i64 (sqX (((), (),
   (F x).G, (F x).K, (F x).Ho, (F x).pe), ((F x).r, (F x).c, false, (), ()), oe, RC.mk (F x).l oe (F x).ep, (qe, trF ((u1, u2, G, K, Ho, pe), (r, c, false, u3, u4), oe, RC.mk l oe ep, (qe, fr, n, ov), OI.mk xs m qe, OI.mk pl pl.length pe), (F x).n, (F
   x).ov), OI.mk (F x).xs (trM ((u1, u2, G, K, Ho, pe), (r, c, false, u3, u4), oe, RC.mk l oe ep, (qe, fr, n, ov), OI.mk xs m qe, OI.mk pl pl.length pe)) qe, OI.mk (F x).pl (F x).pl.length (F x).pe) (byteAt t x.toNat)).r) = SV.v (Value.int IntKind.i64
   (F (IntKind.i64.wrap (x + (1 : Int)))).r) ∧ SV.v (Value.int IntKind.i64 (sqX (((), (), (F x).G, (F x).K, (F x).Ho, (F x).pe), ((F x).r, (F x).c, false, (), ()), oe, RC.mk (F x).l oe (F x).ep, (qe, trF ((u1, u2, G, K, Ho, pe), (r, c, false, u3, u4),
   oe, RC.mk l oe ep, (qe, fr, n, ov), OI.mk xs m qe, OI.mk pl pl.length pe), (F x).n, (F x).ov), OI.mk (F x).xs (trM ((u1, u2, G, K, Ho, pe), (r, c, false, u3, u4), oe, RC.mk l oe ep, (qe, fr, n, ov), OI.mk xs m qe, OI.mk pl pl.length pe)) qe, OI.mk (F
   x).pl (F x).pl.length (F x).pe) (byteAt t x.toNat)).c) = SV.v (Value.int IntKind.i64 (F (IntKind.i64.wrap (x + (1 : Int)))).c) ∧ SV.v (Value.bool false) = SV.v (Value.bool false) ∧ SV.p (2 : Nat) (0 : Nat) = SV.p (2 : Nat) (0 : Nat) ∧ True) ∧ (SV.h
   (3 : Nat) [oe, (0 : Nat)] = SV.h (3 : Nat) [oe, (0 : Nat)] ∧ True) ∧ (oe = oe ∧ (sqX (((), (), (F x).G, (F x).K, (F x).Ho, (F x).pe), ((F x).r, (F x).c, false, (), ()), oe, RC.mk (F x).l oe (F x).ep, (qe, trF ((u1, u2, G, K, Ho, pe), (r, c, false,
   u3, u4), oe, RC.mk l oe ep, (qe, fr, n, ov), OI.mk xs m qe, OI.mk pl pl.length pe), (F x).n, (F x).ov), OI.mk (F x).xs (trM ((u1, u2, G, K, Ho, pe), (r, c, false, u3, u4), oe, RC.mk l oe ep, (qe, fr, n, ov), OI.mk xs m qe, OI.mk pl pl.length pe)) qe,
   OI.mk (F x).pl (F x).pl.length (F x).pe) (byteAt t x.toNat)).ep = (F (IntKind.i64.wrap (x + (1 : Int)))).ep ∧ (sqX (((), (), (F x).G, (F x).K, (F x).Ho, (F x).pe), ((F x).r, (F x).c, false, (), ()), oe, RC.mk (F x).l oe (F x).ep, (qe, trF ((u1, u2,
   G, K, Ho, pe), (r, c, false, u3, u4), oe, RC.mk l oe ep, (qe, fr, n, ov), OI.mk xs m qe, OI.mk pl pl.length pe), (F x).n, (F x).ov), OI.mk (F x).xs (trM ((u1, u2, G, K, Ho, pe), (r, c, false, u3, u4), oe, RC.mk l oe ep, (qe, fr, n, ov), OI.mk xs m
   qe, OI.mk pl pl.length pe)) qe, OI.mk (F x).pl (F x).pl.length (F x).pe) (byteAt t x.toNat)).l = (F (IntKind.i64.wrap (x + (1 : Int)))).l) ∧ (SV.h (5 : Nat) [qe, (0 : Nat)] = SV.h (5 : Nat) [qe, (0 : Nat)] ∧ SV.v (Value.int IntKind.i64 (trF ((u1, u2,
   G, K, Ho, pe), (r, c, false, u3, u4), oe, RC.mk l oe ep, (qe, fr, n, ov), OI.mk xs m qe, OI.mk pl pl.length pe))) = SV.v (Value.int IntKind.i64 (trF ((u1, u2, G, K, Ho, pe), (r, c, false, u3, u4), oe, RC.mk l oe ep, (qe, fr, n, ov), OI.mk xs m qe,
   OI.mk pl pl.length pe))) ∧ SV.v (Value.int IntKind.i64 (sqX (((), (), (F x).G, (F x).K, (F x).Ho, (F x).pe), ((F x).r, (F x).c, false, (), ()), oe, RC.mk (F x).l oe (F x).ep, (qe, trF ((u1, u2, G, K, Ho, pe), (r, c, false, u3, u4), oe, RC.mk l oe ep,
   (qe, fr, n, ov), OI.mk xs m qe, OI.mk pl pl.length pe), (F x).n, (F x).ov), OI.mk (F x).xs (trM ((u1, u2, G, K, Ho, pe), (r, c, false, u3, u4), oe, RC.mk l oe ep, (qe, fr, n, ov), OI.mk xs m qe, OI.mk pl pl.length pe)) qe, OI.mk (F x).pl (F
   x).pl.length (F x).pe) (byteAt t x.toNat)).n) = SV.v (Value.int IntKind.i64 (F (IntKind.i64.wrap (x + (1 : Int)))).n) ∧ SV.v (Value.bool (sqX (((), (), (F x).G, (F x).K, (F x).Ho, (F x).pe), ((F x).r, (F x).c, false, (), ()), oe, RC.mk (F x).l oe (F
   x).ep, (qe, trF ((u1, u2, G, K, Ho, pe), (r, c, false, u3, u4), oe, RC.mk l oe ep, (qe, fr, n, ov), OI.mk xs m qe, OI.mk pl pl.length pe), (F x).n, (F x).ov), OI.mk (F x).xs (trM ((u1, u2, G, K, Ho, pe), (r, c, false, u3, u4), oe, RC.mk l oe ep, (qe,
   fr, n, ov), OI.mk xs m qe, OI.mk pl pl.length pe)) qe, OI.mk (F x).pl (F x).pl.length (F x).pe) (byteAt t x.toNat)).ov) = SV.v (Value.bool (F (IntKind.i64.wrap (x + (1 : Int)))).ov) ∧ True) ∧ (trM ((u1, u2, G, K, Ho, pe), (r, c, false, u3, u4), oe,
   RC.mk l oe ep, (qe, fr, n, ov), OI.mk xs m qe, OI.mk pl pl.length pe) = trM ((u1, u2, G, K, Ho, pe), (r, c, false, u3, u4), oe, RC.mk l oe ep, (qe, fr, n, ov), OI.mk xs m qe, OI.mk pl pl.length pe) ∧ qe = qe ∧ (sqX (((), (), (F x).G, (F x).K, (F
   x).Ho, (F x).pe), ((F x).r, (F x).c, false, (), ()), oe, RC.mk (F x).l oe (F x).ep, (qe, trF ((u1, u2, G, K, Ho, pe), (r, c, false, u3, u4), oe, RC.mk l oe ep, (qe, fr, n, ov), OI.mk xs m qe, OI.mk pl pl.length pe), (F x).n, (F x).ov), OI.mk (F x).xs
   (trM ((u1, u2, G, K, Ho, pe), (r, c, false, u3, u4), oe, RC.mk l oe ep, (qe, fr, n, ov), OI.mk xs m qe, OI.mk pl pl.length pe)) qe, OI.mk (F x).pl (F x).pl.length (F x).pe) (byteAt t x.toNat)).xs = (F (IntKind.i64.wrap (x + (1 : Int)))).xs) ∧ ((sqX
   (((), (), (F x).G, (F x).K, (F x).Ho, (F x).pe), ((F x).r, (F x).c, false, (), ()), oe, RC.mk (F x).l oe (F x).ep, (qe, trF ((u1, u2, G, K, Ho, pe), (r, c, false, u3, u4), oe, RC.mk l oe ep, (qe, fr, n, ov), OI.mk xs m qe, OI.mk pl pl.length pe), (F
   x).n, (F x).ov), OI.mk (F x).xs (trM ((u1, u2, G, K, Ho, pe), (r, c, false, u3, u4), oe, RC.mk l oe ep, (qe, fr, n, ov), OI.mk xs m qe, OI.mk pl pl.length pe)) qe, OI.mk (F x).pl (F x).pl.length (F x).pe) (byteAt t x.toNat)).pl.length = (F
   (IntKind.i64.wrap (x + (1 : Int)))).pl.length ∧ (sqX (((), (), (F x).G, (F x).K, (F x).Ho, (F x).pe), ((F x).r, (F x).c, false, (), ()), oe, RC.mk (F x).l oe (F x).ep, (qe, trF ((u1, u2, G, K, Ho, pe), (r, c, false, u3, u4), oe, RC.mk l oe ep, (qe,
   fr, n, ov), OI.mk xs m qe, OI.mk pl pl.length pe), (F x).n, (F x).ov), OI.mk (F x).xs (trM ((u1, u2, G, K, Ho, pe), (r, c, false, u3, u4), oe, RC.mk l oe ep, (qe, fr, n, ov), OI.mk xs m qe, OI.mk pl pl.length pe)) qe, OI.mk (F x).pl (F x).pl.length
   (F x).pe) (byteAt t x.toNat)).pe = (F (IntKind.i64.wrap (x + (1 : Int)))).pe ∧ (sqX (((), (), (F x).G, (F x).K, (F x).Ho, (F x).pe), ((F x).r, (F x).c, false, (), ()), oe, RC.mk (F x).l oe (F x).ep, (qe, trF ((u1, u2, G, K, Ho, pe), (r, c, false, u3,
   u4), oe, RC.mk l oe ep, (qe, fr, n, ov), OI.mk xs m qe, OI.mk pl pl.length pe), (F x).n, (F x).ov), OI.mk (F x).xs (trM ((u1, u2, G, K, Ho, pe), (r, c, false, u3, u4), oe, RC.mk l oe ep, (qe, fr, n, ov), OI.mk xs m qe, OI.mk pl pl.length pe)) qe,
   OI.mk (F x).pl (F x).pl.length (F x).pe) (byteAt t x.toNat)).pl = (F (IntKind.i64.wrap (x + (1 : Int)))).pl) ∧ (SV.p (0 : Nat) (0 : Nat) = SV.p (0 : Nat) (0 : Nat) ∧ True) ∧ (SV.p (0 : Nat) (0 : Nat) = SV.p (0 : Nat) (0 : Nat) ∧ True) ∧ (SV.v
   (Value.string t) = SV.v (Value.string t) ∧ True) ∧ Obj.deferred (some []) = Obj.deferred (some []) ∧ ((SV.p (7 : Nat) (0 : Nat) = SV.p (7 : Nat) (0 : Nat) ∧ True) ∧ #[(10 : Nat)] = #[(10 : Nat)] ∧ codeAt Tryd.f11 [(1 : Nat), (1 : Nat), (1 : Nat), (0
   : Nat), (0 : Nat)] = codeAt Tryd.f11 [(1 : Nat), (1 : Nat), (1 : Nat), (0 : Nat), (0 : Nat)] ∧ codeAt Tryd.f11 [(1 : Nat), (1 : Nat), (1 : Nat), (0 : Nat), (1 : Nat)] = codeAt Tryd.f11 [(1 : Nat), (1 : Nat), (1 : Nat), (0 : Nat), (1 : Nat)]) ∧ True)
   ∧ ((↑t.size : Int) - IntKind.i64.wrap (x + (1 : Int))).toNat < ((↑t.size : Int) - x).toNat) (br (decide (byteAt t x.toNat ≥ (32 : Int))) (true = true ∧ (TA (((), (), (F x).G, (F x).K, (F x).Ho, (F x).pe), ((F x).r, (F x).c, false, (), ()), oe, RC.mk
   (F x).l oe (F x).ep, (qe, trF ((u1, u2, G, K, Ho, pe), (r, c, false, u3, u4), oe, RC.mk l oe ep, (qe, fr, n, ov), OI.mk xs m qe, OI.mk pl pl.length pe), (F x).n, (F x).ov), OI.mk (F x).xs (trM ((u1, u2, G, K, Ho, pe), (r, c, false, u3, u4), oe, RC.mk
   l oe ep, (qe, fr, n, ov), OI.mk xs m qe, OI.mk pl pl.length pe)) qe, OI.mk (F x).pl (F x).pl.length (F x).pe) ∧ (0 : Int) ≤ byteAt t x.toNat ∧ byteAt t x.toNat ≤ (255 : Int)) ∧ ((0 : Int) ≤ IntKind.i64.wrap (x + (1 : Int)) ∧ IntKind.i64.wrap (x + (1
   : Int)) ≤ (↑t.size : Int)) ∧ ((SV.y (11 : Nat) = SV.y (11 : Nat) ∧ SV.p (9 : Nat) (0 : Nat) = SV.p (9 : Nat) (0 : Nat) ∧ SV.p (8 : Nat) (0 : Nat) = SV.p (8 : Nat) (0 : Nat) ∧ SV.v (Value.int IntKind.i64 (↑t.size : Int)) = SV.v (Value.int IntKind.i64
   (↑t.size : Int)) ∧ SV.v (Value.int IntKind.i64 (IntKind.i64.wrap (x + (1 : Int)))) = SV.v (Value.int IntKind.i64 (IntKind.i64.wrap (x + (1 : Int)))) ∧ True) ∧ (SV.p (1 : Nat) (0 : Nat) = SV.p (1 : Nat) (0 : Nat) ∧ SV.p (4 : Nat) (0 : Nat) = SV.p (4 :
   Nat) (0 : Nat) ∧ SV.v (Value.bool (F x).G) = SV.v (Value.bool (F (IntKind.i64.wrap (x + (1 : Int)))).G) ∧ SV.v (Value.bool (F x).K) = SV.v (Value.bool (F (IntKind.i64.wrap (x + (1 : Int)))).K) ∧ SV.v (Value.bool (F x).Ho) = SV.v (Value.bool (F
   (IntKind.i64.wrap (x + (1 : Int)))).Ho) ∧ SV.h (6 : Nat) [(F x).pe, (0 : Nat)] = SV.h (6 : Nat) [(F (IntKind.i64.wrap (x + (1 : Int)))).pe, (0 : Nat)] ∧ True) ∧ (SV.v (Value.int IntKind.i64 (F x).r) = SV.v (Value.int IntKind.i64 (F (IntKind.i64.wrap
   (x + (1 : Int)))).r) ∧ SV.v (Value.int IntKind.i64 (if (F x).c + (1 : Int) < (↑(nC (F x).l) : Int) then (F x).c + (1 : Int) else (F x).c)) = SV.v (Value.int IntKind.i64 (F (IntKind.i64.wrap (x + (1 : Int)))).c) ∧ SV.v (Value.bool false) = SV.v
   (Value.bool false) ∧ SV.p (2 : Nat) (0 : Nat) = SV.p (2 : Nat) (0 : Nat) ∧ True) ∧ (SV.h (3 : Nat) [oe, (0 : Nat)] = SV.h (3 : Nat) [oe, (0 : Nat)] ∧ True) ∧ (oe = oe ∧ (F x).ep = (F (IntKind.i64.wrap (x + (1 : Int)))).ep ∧ set2 (F x).l (F x).r (F
   x).c (C4.mk (glT (F x).G (byteAt t x.toNat)) (0 : Int) false (0 : Int)) = (F (IntKind.i64.wrap (x + (1 : Int)))).l) ∧ (SV.h (5 : Nat) [qe, (0 : Nat)] = SV.h (5 : Nat) [qe, (0 : Nat)] ∧ SV.v (Value.int IntKind.i64 (trF ((u1, u2, G, K, Ho, pe), (r, c,
   false, u3, u4), oe, RC.mk l oe ep, (qe, fr, n, ov), OI.mk xs m qe, OI.mk pl pl.length pe))) = SV.v (Value.int IntKind.i64 (trF ((u1, u2, G, K, Ho, pe), (r, c, false, u3, u4), oe, RC.mk l oe ep, (qe, fr, n, ov), OI.mk xs m qe, OI.mk pl pl.length pe)))
   ∧ SV.v (Value.int IntKind.i64 (F x).n) = SV.v (Value.int IntKind.i64 (F (IntKind.i64.wrap (x + (1 : Int)))).n) ∧ SV.v (Value.bool (F x).ov) = SV.v (Value.bool (F (IntKind.i64.wrap (x + (1 : Int)))).ov) ∧ True) ∧ (trM ((u1, u2, G, K, Ho, pe), (r, c,
   false, u3, u4), oe, RC.mk l oe ep, (qe, fr, n, ov), OI.mk xs m qe, OI.mk pl pl.length pe) = trM ((u1, u2, G, K, Ho, pe), (r, c, false, u3, u4), oe, RC.mk l oe ep, (qe, fr, n, ov), OI.mk xs m qe, OI.mk pl pl.length pe) ∧ qe = qe ∧ (F x).xs = (F
   (IntKind.i64.wrap (x + (1 : Int)))).xs) ∧ ((F x).pl.length = (F (IntKind.i64.wrap (x + (1 : Int)))).pl.length ∧ (F x).pe = (F (IntKind.i64.wrap (x + (1 : Int)))).pe ∧ (F x).pl = (F (IntKind.i64.wrap (x + (1 : Int)))).pl) ∧ (SV.p (0 : Nat) (0 : Nat) =
   SV.p (0 : Nat) (0 : Nat) ∧ True) ∧ (SV.p (0 : Nat) (0 : Nat) = SV.p (0 : Nat) (0 : Nat) ∧ True) ∧ (SV.v (Value.string t) = SV.v (Value.string t) ∧ True) ∧ Obj.deferred (some []) = Obj.deferred (some []) ∧ ((SV.p (7 : Nat) (0 : Nat) = SV.p (7 : Nat)
   (0 : Nat) ∧ True) ∧ #[(10 : Nat)] = #[(10 : Nat)] ∧ codeAt Tryd.f11 [(1 : Nat), (1 : Nat), (1 : Nat), (0 : Nat), (0 : Nat)] = codeAt Tryd.f11 [(1 : Nat), (1 : Nat), (1 : Nat), (0 : Nat), (0 : Nat)] ∧ codeAt Tryd.f11 [(1 : Nat), (1 : Nat), (1 : Nat),
   (0 : Nat), (1 : Nat)] = codeAt Tryd.f11 [(1 : Nat), (1 : Nat), (1 : Nat), (0 : Nat), (1 : Nat)]) ∧ True) ∧ ((↑t.size : Int) - IntKind.i64.wrap (x + (1 : Int))).toNat < ((↑t.size : Int) - x).toNat) (true = true ∧ true = true ∧ (TA (((), (), (F x).G,
   (F x).K, (F x).Ho, (F x).pe), ((F x).r, (F x).c, false, (), ()), oe, RC.mk (F x).l oe (F x).ep, (qe, trF ((u1, u2, G, K, Ho, pe), (r, c, false, u3, u4), oe, RC.mk l oe ep, (qe, fr, n, ov), OI.mk xs m qe, OI.mk pl pl.length pe), (F x).n, (F x).ov),
   OI.mk (F x).xs (trM ((u1, u2, G, K, Ho, pe), (r, c, false, u3, u4), oe, RC.mk l oe ep, (qe, fr, n, ov), OI.mk xs m qe, OI.mk pl pl.length pe)) qe, OI.mk (F x).pl (F x).pl.length (F x).pe) ∧ (0 : Int) ≤ byteAt t x.toNat ∧ byteAt t x.toNat ≤ (255 :
   Int)) ∧ ((0 : Int) ≤ IntKind.i64.wrap (x + (1 : Int)) ∧ IntKind.i64.wrap (x + (1 : Int)) ≤ (↑t.size : Int)) ∧ ((SV.y (11 : Nat) = SV.y (11 : Nat) ∧ SV.p (9 : Nat) (0 : Nat) = SV.p (9 : Nat) (0 : Nat) ∧ SV.p (8 : Nat) (0 : Nat) = SV.p (8 : Nat) (0 :
   Nat) ∧ SV.v (Value.int IntKind.i64 (↑t.size : Int)) = SV.v (Value.int IntKind.i64 (↑t.size : Int)) ∧ SV.v (Value.int IntKind.i64 (IntKind.i64.wrap (x + (1 : Int)))) = SV.v (Value.int IntKind.i64 (IntKind.i64.wrap (x + (1 : Int)))) ∧ True) ∧ (SV.p (1
   : Nat) (0 : Nat) = SV.p (1 : Nat) (0 : Nat) ∧ SV.p (4 : Nat) (0 : Nat) = SV.p (4 : Nat) (0 : Nat) ∧ SV.v (Value.bool (ctX (((), (), (F x).G, (F x).K, (F x).Ho, (F x).pe), ((F x).r, (F x).c, false, (), ()), oe, RC.mk (F x).l oe (F x).ep, (qe, trF
   ((u1, u2, G, K, Ho, pe), (r, c, false, u3, u4), oe, RC.mk l oe ep, (qe, fr, n, ov), OI.mk xs m qe, OI.mk pl pl.length pe), (F x).n, (F x).ov), OI.mk (F x).xs (trM ((u1, u2, G, K, Ho, pe), (r, c, false, u3, u4), oe, RC.mk l oe ep, (qe, fr, n, ov),
   OI.mk xs m qe, OI.mk pl pl.length pe)) qe, OI.mk (F x).pl (F x).pl.length (F x).pe) (byteAt t x.toNat)).G) = SV.v (Value.bool (F (IntKind.i64.wrap (x + (1 : Int)))).G) ∧ SV.v (Value.bool (ctX (((), (), (F x).G, (F x).K, (F x).Ho, (F x).pe), ((F x).r,
   (F x).c, false, (), ()), oe, RC.mk (F x).l oe (F x).ep, (qe, trF ((u1, u2, G, K, Ho, pe), (r, c, false, u3, u4), oe, RC.mk l oe ep, (qe, fr, n, ov), OI.mk xs m qe, OI.mk pl pl.length pe), (F x).n, (F x).ov), OI.mk (F x).xs (trM ((u1, u2, G, K, Ho,
   pe), (r, c, false, u3, u4), oe, RC.mk l oe ep, (qe, fr, n, ov), OI.mk xs m qe, OI.mk pl pl.length pe)) qe, OI.mk (F x).pl (F x).pl.length (F x).pe) (byteAt t x.toNat)).K) = SV.v (Value.bool (F (IntKind.i64.wrap (x + (1 : Int)))).K) ∧ SV.v (Value.bool
   (ctX (((), (), (F x).G, (F x).K, (F x).Ho, (F x).pe), ((F x).r, (F x).c, false, (), ()), oe, RC.mk (F x).l oe (F x).ep, (qe, trF ((u1, u2, G, K, Ho, pe), (r, c, false, u3, u4), oe, RC.mk l oe ep, (qe, fr, n, ov), OI.mk xs m qe, OI.mk pl pl.length
   pe), (F x).n, (F x).ov), OI.mk (F x).xs (trM ((u1, u2, G, K, Ho, pe), (r, c, false, u3, u4), oe, RC.mk l oe ep, (qe, fr, n, ov), OI.mk xs m qe, OI.mk pl pl.length pe)) qe, OI.mk (F x).pl (F x).pl.length (F x).pe) (byteAt t x.toNat)).Ho) = SV.v
   (Value.bool (F (IntKind.i64.wrap (x + (1 : Int)))).Ho) ∧ SV.h (6 : Nat) [(ctX (((), (), (F x).G, (F x).K, (F x).Ho, (F x).pe), ((F x).r, (F x).c, false, (), ()), oe, RC.mk (F x).l oe (F x).ep, (qe, trF ((u1, u2, G, K, Ho, pe), (r, c, false, u3, u4),
   oe, RC.mk l oe ep, (qe, fr, n, ov), OI.mk xs m qe, OI.mk pl pl.length pe), (F x).n, (F x).ov), OI.mk (F x).xs (trM ((u1, u2, G, K, Ho, pe), (r, c, false, u3, u4), oe, RC.mk l oe ep, (qe, fr, n, ov), OI.mk xs m qe, OI.mk pl pl.length pe)) qe, OI.mk (F
   x).pl (F x).pl.length (F x).pe) (byteAt t x.toNat)).pe, (0 : Nat)] = SV.h (6 : Nat) [(F (IntKind.i64.wrap (x + (1 : Int)))).pe, (0 : Nat)] ∧ True) ∧ (SV.v (Value.int IntKind.i64 (ctX (((), (), (F x).G, (F x).K, (F x).Ho, (F x).pe), ((F x).r, (F x).c,
   false, (), ()), oe, RC.mk (F x).l oe (F x).ep, (qe, trF ((u1, u2, G, K, Ho, pe), (r, c, false, u3, u4), oe, RC.mk l oe ep, (qe, fr, n, ov), OI.mk xs m qe, OI.mk pl pl.length pe), (F x).n, (F x).ov), OI.mk (F x).xs (trM ((u1, u2, G, K, Ho, pe), (r, c,
   false, u3, u4), oe, RC.mk l oe ep, (qe, fr, n, ov), OI.mk xs m qe, OI.mk pl pl.length pe)) qe, OI.mk (F x).pl (F x).pl.length (F x).pe) (byteAt t x.toNat)).r) = SV.v (Value.int IntKind.i64 (F (IntKind.i64.wrap (x + (1 : Int)))).r) ∧ SV.v (Value.int
   IntKind.i64 (ctX (((), (), (F x).G, (F x).K, (F x).Ho, (F x).pe), ((F x).r, (F x).c, false, (), ()), oe, RC.mk (F x).l oe (F x).ep, (qe, trF ((u1, u2, G, K, Ho, pe), (r, c, false, u3, u4), oe, RC.mk l oe ep, (qe, fr, n, ov), OI.mk xs m qe, OI.mk pl
   pl.length pe), (F x).n, (F x).ov), OI.mk (F x).xs (trM ((u1, u2, G, K, Ho, pe), (r, c, false, u3, u4), oe, RC.mk l oe ep, (qe, fr, n, ov), OI.mk xs m qe, OI.mk pl pl.length pe)) qe, OI.mk (F x).pl (F x).pl.length (F x).pe) (byteAt t x.toNat)).c) =
   SV.v (Value.int IntKind.i64 (F (IntKind.i64.wrap (x + (1 : Int)))).c) ∧ SV.v (Value.bool false) = SV.v (Value.bool false) ∧ SV.p (2 : Nat) (0 : Nat) = SV.p (2 : Nat) (0 : Nat) ∧ True) ∧ (SV.h (3 : Nat) [oe, (0 : Nat)] = SV.h (3 : Nat) [oe, (0 : Nat)]
   ∧ True) ∧ (oe = oe ∧ (ctX (((), (), (F x).G, (F x).K, (F x).Ho, (F x).pe), ((F x).r, (F x).c, false, (), ()), oe, RC.mk (F x).l oe (F x).ep, (qe, trF ((u1, u2, G, K, Ho, pe), (r, c, false, u3, u4), oe, RC.mk l oe ep, (qe, fr, n, ov), OI.mk xs m qe,
   OI.mk pl pl.length pe), (F x).n, (F x).ov), OI.mk (F x).xs (trM ((u1, u2, G, K, Ho, pe), (r, c, false, u3, u4), oe, RC.mk l oe ep, (qe, fr, n, ov), OI.mk xs m qe, OI.mk pl pl.length pe)) qe, OI.mk (F x).pl (F x).pl.length (F x).pe) (byteAt t
   x.toNat)).ep = (F (IntKind.i64.wrap (x + (1 : Int)))).ep ∧ (ctX (((), (), (F x).G, (F x).K, (F x).Ho, (F x).pe), ((F x).r, (F x).c, false, (), ()), oe, RC.mk (F x).l oe (F x).ep, (qe, trF ((u1, u2, G, K, Ho, pe), (r, c, false, u3, u4), oe, RC.mk l oe
   ep, (qe, fr, n, ov), OI.mk xs m qe, OI.mk pl pl.length pe), (F x).n, (F x).ov), OI.mk (F x).xs (trM ((u1, u2, G, K, Ho, pe), (r, c, false, u3, u4), oe, RC.mk l oe ep, (qe, fr, n, ov), OI.mk xs m qe, OI.mk pl pl.length pe)) qe, OI.mk (F x).pl (F
   x).pl.length (F x).pe) (byteAt t x.toNat)).l = (F (IntKind.i64.wrap (x + (1 : Int)))).l) ∧ (SV.h (5 : Nat) [qe, (0 : Nat)] = SV.h (5 : Nat) [qe, (0 : Nat)] ∧ SV.v (Value.int IntKind.i64 (trF ((u1, u2, G, K, Ho, pe), (r, c, false, u3, u4), oe, RC.mk l
   oe ep, (qe, fr, n, ov), OI.mk xs m qe, OI.mk pl pl.length pe))) = SV.v (Value.int IntKind.i64 (trF ((u1, u2, G, K, Ho, pe), (r, c, false, u3, u4), oe, RC.mk l oe ep, (qe, fr, n, ov), OI.mk xs m qe, OI.mk pl pl.length pe))) ∧ SV.v (Value.int
   IntKind.i64 (ctX (((), (), (F x).G, (F x).K, (F x).Ho, (F x).pe), ((F x).r, (F x).c, false, (), ()), oe, RC.mk (F x).l oe (F x).ep, (qe, trF ((u1, u2, G, K, Ho, pe), (r, c, false, u3, u4), oe, RC.mk l oe ep, (qe, fr, n, ov), OI.mk xs m qe, OI.mk pl
   pl.length pe), (F x).n, (F x).ov), OI.mk (F x).xs (trM ((u1, u2, G, K, Ho, pe), (r, c, false, u3, u4), oe, RC.mk l oe ep, (qe, fr, n, ov), OI.mk xs m qe, OI.mk pl pl.length pe)) qe, OI.mk (F x).pl (F x).pl.length (F x).pe) (byteAt t x.toNat)).n) =
   SV.v (Value.int IntKind.i64 (F (IntKind.i64.wrap (x + (1 : Int)))).n) ∧ SV.v (Value.bool (ctX (((), (), (F x).G, (F x).K, (F x).Ho, (F x).pe), ((F x).r, (F x).c, false, (), ()), oe, RC.mk (F x).l oe (F x).ep, (qe, trF ((u1, u2, G, K, Ho, pe), (r, c,
   false, u3, u4), oe, RC.mk l oe ep, (qe, fr, n, ov), OI.mk xs m qe, OI.mk pl pl.length pe), (F x).n, (F x).ov), OI.mk (F x).xs (trM ((u1, u2, G, K, Ho, pe), (r, c, false, u3, u4), oe, RC.mk l oe ep, (qe, fr, n, ov), OI.mk xs m qe, OI.mk pl pl.length
   pe)) qe, OI.mk (F x).pl (F x).pl.length (F x).pe) (byteAt t x.toNat)).ov) = SV.v (Value.bool (F (IntKind.i64.wrap (x + (1 : Int)))).ov) ∧ True) ∧ (trM ((u1, u2, G, K, Ho, pe), (r, c, false, u3, u4), oe, RC.mk l oe ep, (qe, fr, n, ov), OI.mk xs m qe,
   OI.mk pl pl.length pe) = trM ((u1, u2, G, K, Ho, pe), (r, c, false, u3, u4), oe, RC.mk l oe ep, (qe, fr, n, ov), OI.mk xs m qe, OI.mk pl pl.length pe) ∧ qe = qe ∧ (ctX (((), (), (F x).G, (F x).K, (F x).Ho, (F x).pe), ((F x).r, (F x).c, false, (),
   ()), oe, RC.mk (F x).l oe (F x).ep, (qe, trF ((u1, u2, G, K, Ho, pe), (r, c, false, u3, u4), oe, RC.mk l oe ep, (qe, fr, n, ov), OI.mk xs m qe, OI.mk pl pl.length pe), (F x).n, (F x).ov), OI.mk (F x).xs (trM ((u1, u2, G, K, Ho, pe), (r, c, false, u3,
   u4), oe, RC.mk l oe ep, (qe, fr, n, ov), OI.mk xs m qe, OI.mk pl pl.length pe)) qe, OI.mk (F x).pl (F x).pl.length (F x).pe) (byteAt t x.toNat)).xs = (F (IntKind.i64.wrap (x + (1 : Int)))).xs) ∧ ((ctX (((), (), (F x).G, (F x).K, (F x).Ho, (F x).pe),
   ((F x).r, (F x).c, false, (), ()), oe, RC.mk (F x).l oe (F x).ep, (qe, trF ((u1, u2, G, K, Ho, pe), (r, c, false, u3, u4), oe, RC.mk l oe ep, (qe, fr, n, ov), OI.mk xs m qe, OI.mk pl pl.length pe), (F x).n, (F x).ov), OI.mk (F x).xs (trM ((u1, u2, G,
   K, Ho, pe), (r, c, false, u3, u4), oe, RC.mk l oe ep, (qe, fr, n, ov), OI.mk xs m qe, OI.mk pl pl.length pe)) qe, OI.mk (F x).pl (F x).pl.length (F x).pe) (byteAt t x.toNat)).pl.length = (F (IntKind.i64.wrap (x + (1 : Int)))).pl.length ∧ (ctX (((),
   (), (F x).G, (F x).K, (F x).Ho, (F x).pe), ((F x).r, (F x).c, false, (), ()), oe, RC.mk (F x).l oe (F x).ep, (qe, trF ((u1, u2, G, K, Ho, pe), (r, c, false, u3, u4), oe, RC.mk l oe ep, (qe, fr, n, ov), OI.mk xs m qe, OI.mk pl pl.length pe), (F x).n,
   (F x).ov), OI.mk (F x).xs (trM ((u1, u2, G, K, Ho, pe), (r, c, false, u3, u4), oe, RC.mk l oe ep, (qe, fr, n, ov), OI.mk xs m qe, OI.mk pl pl.length pe)) qe, OI.mk (F x).pl (F x).pl.length (F x).pe) (byteAt t x.toNat)).pe = (F (IntKind.i64.wrap (x +
   (1 : Int)))).pe ∧ (ctX (((), (), (F x).G, (F x).K, (F x).Ho, (F x).pe), ((F x).r, (F x).c, false, (), ()), oe, RC.mk (F x).l oe (F x).ep, (qe, trF ((u1, u2, G, K, Ho, pe), (r, c, false, u3, u4), oe, RC.mk l oe ep, (qe, fr, n, ov), OI.mk xs m qe,
   OI.mk pl pl.length pe), (F x).n, (F x).ov), OI.mk (F x).xs (trM ((u1, u2, G, K, Ho, pe), (r, c, false, u3, u4), oe, RC.mk l oe ep, (qe, fr, n, ov), OI.mk xs m qe, OI.mk pl pl.length pe)) qe, OI.mk (F x).pl (F x).pl.length (F x).pe) (byteAt t
   x.toNat)).pl = (F (IntKind.i64.wrap (x + (1 : Int)))).pl) ∧ (SV.p (0 : Nat) (0 : Nat) = SV.p (0 : Nat) (0 : Nat) ∧ True) ∧ (SV.p (0 : Nat) (0 : Nat) = SV.p (0 : Nat) (0 : Nat) ∧ True) ∧ (SV.v (Value.string t) = SV.v (Value.string t) ∧ True) ∧
   Obj.deferred (some []) = Obj.deferred (some []) ∧ ((SV.p (7 : Nat) (0 : Nat) = SV.p (7 : Nat) (0 : Nat) ∧ True) ∧ #[(10 : Nat)] = #[(10 : Nat)] ∧ codeAt Tryd.f11 [(1 : Nat), (1 : Nat), (1 : Nat), (0 : Nat), (0 : Nat)] = codeAt Tryd.f11 [(1 : Nat), (1
   : Nat), (1 : Nat), (0 : Nat), (0 : Nat)] ∧ codeAt Tryd.f11 [(1 : Nat), (1 : Nat), (1 : Nat), (0 : Nat), (1 : Nat)] = codeAt Tryd.f11 [(1 : Nat), (1 : Nat), (1 : Nat), (0 : Nat), (1 : Nat)]) ∧ True) ∧ ((↑t.size : Int) - IntKind.i64.wrap (x + (1 :
   Int))).toNat < ((↑t.size : Int) - x).toNat))))))) (rq (decide ((0 : Int) ≤ x ∧ x < (↑t.size : Int))) (br (byteAt t x.toNat == (27 : Int)) (((0 : Int) ≤ IntKind.i64.wrap (x + (1 : Int)) ∧ IntKind.i64.wrap (x + (1 : Int)) ≤ (↑t.size : Int)) ∧ ((SV.y
   (11 : Nat) = SV.y (11 : Nat) ∧ SV.p (9 : Nat) (0 : Nat) = SV.p (9 : Nat) (0 : Nat) ∧ SV.p (8 : Nat) (0 : Nat) = SV.p (8 : Nat) (0 : Nat) ∧ SV.v (Value.int IntKind.i64 (↑t.size : Int)) = SV.v (Value.int IntKind.i64 (↑t.size : Int)) ∧ SV.v (Value.int
   IntKind.i64 (IntKind.i64.wrap (x + (1 : Int)))) = SV.v (Value.int IntKind.i64 (IntKind.i64.wrap (x + (1 : Int)))) ∧ True) ∧ (SV.p (1 : Nat) (0 : Nat) = SV.p (1 : Nat) (0 : Nat) ∧ SV.p (4 : Nat) (0 : Nat) = SV.p (4 : Nat) (0 : Nat) ∧ SV.v (Value.bool
   (F x).G) = SV.v (Value.bool (F (IntKind.i64.wrap (x + (1 : Int)))).G) ∧ SV.v (Value.bool (F x).K) = SV.v (Value.bool (F (IntKind.i64.wrap (x + (1 : Int)))).K) ∧ SV.v (Value.bool (F x).Ho) = SV.v (Value.bool (F (IntKind.i64.wrap (x + (1 : Int)))).Ho)
   ∧ SV.h (6 : Nat) [(F x).pe + (1 : Nat), (0 : Nat)] = SV.h (6 : Nat) [(F (IntKind.i64.wrap (x + (1 : Int)))).pe, (0 : Nat)] ∧ True) ∧ (SV.v (Value.int IntKind.i64 (F x).r) = SV.v (Value.int IntKind.i64 (F (IntKind.i64.wrap (x + (1 : Int)))).r) ∧ SV.v
   (Value.int IntKind.i64 (F x).c) = SV.v (Value.int IntKind.i64 (F (IntKind.i64.wrap (x + (1 : Int)))).c) ∧ SV.v (Value.bool false) = SV.v (Value.bool false) ∧ SV.p (2 : Nat) (0 : Nat) = SV.p (2 : Nat) (0 : Nat) ∧ True) ∧ (SV.h (3 : Nat) [oe, (0 :
   Nat)] = SV.h (3 : Nat) [oe, (0 : Nat)] ∧ True) ∧ (oe = oe ∧ (F x).ep = (F (IntKind.i64.wrap (x + (1 : Int)))).ep ∧ (F x).l = (F (IntKind.i64.wrap (x + (1 : Int)))).l) ∧ (SV.h (5 : Nat) [qe, (0 : Nat)] = SV.h (5 : Nat) [qe, (0 : Nat)] ∧ SV.v
   (Value.int IntKind.i64 (trF ((u1, u2, G, K, Ho, pe), (r, c, false, u3, u4), oe, RC.mk l oe ep, (qe, fr, n, ov), OI.mk xs m qe, OI.mk pl pl.length pe))) = SV.v (Value.int IntKind.i64 (trF ((u1, u2, G, K, Ho, pe), (r, c, false, u3, u4), oe, RC.mk l oe
   ep, (qe, fr, n, ov), OI.mk xs m qe, OI.mk pl pl.length pe))) ∧ SV.v (Value.int IntKind.i64 (F x).n) = SV.v (Value.int IntKind.i64 (F (IntKind.i64.wrap (x + (1 : Int)))).n) ∧ SV.v (Value.bool (F x).ov) = SV.v (Value.bool (F (IntKind.i64.wrap (x + (1 :
   Int)))).ov) ∧ True) ∧ (trM ((u1, u2, G, K, Ho, pe), (r, c, false, u3, u4), oe, RC.mk l oe ep, (qe, fr, n, ov), OI.mk xs m qe, OI.mk pl pl.length pe) = trM ((u1, u2, G, K, Ho, pe), (r, c, false, u3, u4), oe, RC.mk l oe ep, (qe, fr, n, ov), OI.mk xs m
   qe, OI.mk pl pl.length pe) ∧ qe = qe ∧ (F x).xs = (F (IntKind.i64.wrap (x + (1 : Int)))).xs) ∧ ((1 : Nat) = (F (IntKind.i64.wrap (x + (1 : Int)))).pl.length ∧ (F x).pe + (1 : Nat) = (F (IntKind.i64.wrap (x + (1 : Int)))).pe ∧ LI [(27 : Int)] = (F
   (IntKind.i64.wrap (x + (1 : Int)))).pl) ∧ (SV.p (0 : Nat) (0 : Nat) = SV.p (0 : Nat) (0 : Nat) ∧ True) ∧ (SV.p (0 : Nat) (0 : Nat) = SV.p (0 : Nat) (0 : Nat) ∧ True) ∧ (SV.v (Value.string t) = SV.v (Value.string t) ∧ True) ∧ Obj.deferred (some []) =
   Obj.deferred (some []) ∧ ((SV.p (7 : Nat) (0 : Nat) = SV.p (7 : Nat) (0 : Nat) ∧ True) ∧ #[(10 : Nat)] = #[(10 : Nat)] ∧ codeAt Tryd.f11 [(1 : Nat), (1 : Nat), (1 : Nat), (0 : Nat), (0 : Nat)] = codeAt Tryd.f11 [(1 : Nat), (1 : Nat), (1 : Nat), (0 :
   Nat), (0 : Nat)] ∧ codeAt Tryd.f11 [(1 : Nat), (1 : Nat), (1 : Nat), (0 : Nat), (1 : Nat)] = codeAt Tryd.f11 [(1 : Nat), (1 : Nat), (1 : Nat), (0 : Nat), (1 : Nat)]) ∧ True) ∧ ((↑t.size : Int) - IntKind.i64.wrap (x + (1 : Int))).toNat < ((↑t.size :
   Int) - x).toNat) (rq ((F x).pe.beq (F x).pe) (br (decide ((↑(F x).pl.length : Int) > (0 : Int))) (true = true ∧ (TA (((), (), (F x).G, (F x).K, (F x).Ho, (F x).pe), ((F x).r, (F x).c, false, (), ()), oe, RC.mk (F x).l oe (F x).ep, (qe, trF ((u1, u2,
   G, K, Ho, pe), (r, c, false, u3, u4), oe, RC.mk l oe ep, (qe, fr, n, ov), OI.mk xs m qe, OI.mk pl pl.length pe), (F x).n, (F x).ov), OI.mk (F x).xs (trM ((u1, u2, G, K, Ho, pe), (r, c, false, u3, u4), oe, RC.mk l oe ep, (qe, fr, n, ov), OI.mk xs m
   qe, OI.mk pl pl.length pe)) qe, OI.mk (F x).pl (F x).pl.length (F x).pe) ∧ (0 : Int) ≤ byteAt t x.toNat ∧ byteAt t x.toNat ≤ (255 : Int) ∧ (1 : Nat) ≤ (F x).pl.length) ∧ ((0 : Int) ≤ IntKind.i64.wrap (x + (1 : Int)) ∧ IntKind.i64.wrap (x + (1 : Int))
   ≤ (↑t.size : Int)) ∧ ((SV.y (11 : Nat) = SV.y (11 : Nat) ∧ SV.p (9 : Nat) (0 : Nat) = SV.p (9 : Nat) (0 : Nat) ∧ SV.p (8 : Nat) (0 : Nat) = SV.p (8 : Nat) (0 : Nat) ∧ SV.v (Value.int IntKind.i64 (↑t.size : Int)) = SV.v (Value.int IntKind.i64 (↑t.size
   : Int)) ∧ SV.v (Value.int IntKind.i64 (IntKind.i64.wrap (x + (1 : Int)))) = SV.v (Value.int IntKind.i64 (IntKind.i64.wrap (x + (1 : Int)))) ∧ True) ∧ (SV.p (1 : Nat) (0 : Nat) = SV.p (1 : Nat) (0 : Nat) ∧ SV.p (4 : Nat) (0 : Nat) = SV.p (4 : Nat) (0
   : Nat) ∧ SV.v (Value.bool (sqX (((), (), (F x).G, (F x).K, (F x).Ho, (F x).pe), ((F x).r, (F x).c, false, (), ()), oe, RC.mk (F x).l oe (F x).ep, (qe, trF ((u1, u2, G, K, Ho, pe), (r, c, false, u3, u4), oe, RC.mk l oe ep, (qe, fr, n, ov), OI.mk xs m
   qe, OI.mk pl pl.length pe), (F x).n, (F x).ov), OI.mk (F x).xs (trM ((u1, u2, G, K, Ho, pe), (r, c, false, u3, u4), oe, RC.mk l oe ep, (qe, fr, n, ov), OI.mk xs m qe, OI.mk pl pl.length pe)) qe, OI.mk (F x).pl (F x).pl.length (F x).pe) (byteAt t
   x.toNat)).G) = SV.v (Value.bool (F (IntKind.i64.wrap (x + (1 : Int)))).G) ∧ SV.v (Value.bool (sqX (((), (), (F x).G, (F x).K, (F x).Ho, (F x).pe), ((F x).r, (F x).c, false, (), ()), oe, RC.mk (F x).l oe (F x).ep, (qe, trF ((u1, u2, G, K, Ho, pe), (r,
   c, false, u3, u4), oe, RC.mk l oe ep, (qe, fr, n, ov), OI.mk xs m qe, OI.mk pl pl.length pe), (F x).n, (F x).ov), OI.mk (F x).xs (trM ((u1, u2, G, K, Ho, pe), (r, c, false, u3, u4), oe, RC.mk l oe ep, (qe, fr, n, ov), OI.mk xs m qe, OI.mk pl
   pl.length pe)) qe, OI.mk (F x).pl (F x).pl.length (F x).pe) (byteAt t x.toNat)).K) = SV.v (Value.bool (F (IntKind.i64.wrap (x + (1 : Int)))).K) ∧ SV.v (Value.bool (sqX (((), (), (F x).G, (F x).K, (F x).Ho, (F x).pe), ((F x).r, (F x).c, false, (),
   ()), oe, RC.mk (F x).l oe (F x).ep, (qe, trF ((u1, u2, G, K, Ho, pe), (r, c, false, u3, u4), oe, RC.mk l oe ep, (qe, fr, n, ov), OI.mk xs m qe, OI.mk pl pl.length pe), (F x).n, (F x).ov), OI.mk (F x).xs (trM ((u1, u2, G, K, Ho, pe), (r, c, false, u3,
   u4), oe, RC.mk l oe ep, (qe, fr, n, ov), OI.mk xs m qe, OI.mk pl pl.length pe)) qe, OI.mk (F x).pl (F x).pl.length (F x).pe) (byteAt t x.toNat)).Ho) = SV.v (Value.bool (F (IntKind.i64.wrap (x + (1 : Int)))).Ho) ∧ SV.h (6 : Nat) [(sqX (((), (), (F
   x).G, (F x).K, (F x).Ho, (F x).pe), ((F x).r, (F x).c, false, (), ()), oe, RC.mk (F x).l oe (F x).ep, (qe, trF ((u1, u2, G, K, Ho, pe), (r, c, false, u3, u4), oe, RC.mk l oe ep, (qe, fr, n, ov), OI.mk xs m qe, OI.mk pl pl.length pe), (F x).n, (F
   x).ov), OI.mk (F x).xs (trM ((u1, u2, G, K, Ho, pe), (r, c, false, u3, u4), oe, RC.mk l oe ep, (qe, fr, n, ov), OI.mk xs m qe, OI.mk pl pl.length pe)) qe, OI.mk (F x).pl (F x).pl.length (F x).pe) (byteAt t x.toNat)).pe, (0 : Nat)] = SV.h (6 : Nat)
   [(F (IntKind.i64.wrap (x + (1 : Int)))).pe, (0 : Nat)] ∧ True) ∧ (SV.v (Value.int IntKind.i64 (sqX (((), (), (F x).G, (F x).K, (F x).Ho, (F x).pe), ((F x).r, (F x).c, false, (), ()), oe, RC.mk (F x).l oe (F x).ep, (qe, trF ((u1, u2, G, K, Ho, pe),
   (r, c, false, u3, u4), oe, RC.mk l oe ep, (qe, fr, n, ov), OI.mk xs m qe, OI.mk pl pl.length pe), (F x).n, (F x).ov), OI.mk (F x).xs (trM ((u1, u2, G, K, Ho, pe), (r, c, false, u3, u4), oe, RC.mk l oe ep, (qe, fr, n, ov), OI.mk xs m qe, OI.mk pl
   pl.length pe)) qe, OI.mk (F x).pl (F x).pl.length (F x).pe) (byteAt t x.toNat)).r) = SV.v (Value.int IntKind.i64 (F (IntKind.i64.wrap (x + (1 : Int)))).r) ∧ SV.v (Value.int IntKind.i64 (sqX (((), (), (F x).G, (F x).K, (F x).Ho, (F x).pe), ((F x).r,
   (F x).c, false, (), ()), oe, RC.mk (F x).l oe (F x).ep, (qe, trF ((u1, u2, G, K, Ho, pe), (r, c, false, u3, u4), oe, RC.mk l oe ep, (qe, fr, n, ov), OI.mk xs m qe, OI.mk pl pl.length pe), (F x).n, (F x).ov), OI.mk (F x).xs (trM ((u1, u2, G, K, Ho,
   pe), (r, c, false, u3, u4), oe, RC.mk l oe ep, (qe, fr, n, ov), OI.mk xs m qe, OI.mk pl pl.length pe)) qe, OI.mk (F x).pl (F x).pl.length (F x).pe) (byteAt t x.toNat)).c) = SV.v (Value.int IntKind.i64 (F (IntKind.i64.wrap (x + (1 : Int)))).c) ∧ SV.v
   (Value.bool false) = SV.v (Value.bool false) ∧ SV.p (2 : Nat) (0 : Nat) = SV.p (2 : Nat) (0 : Nat) ∧ True) ∧ (SV.h (3 : Nat) [oe, (0 : Nat)] = SV.h (3 : Nat) [oe, (0 : Nat)] ∧ True) ∧ (oe = oe ∧ (sqX (((), (), (F x).G, (F x).K, (F x).Ho, (F x).pe),
   ((F x).r, (F x).c, false, (), ()), oe, RC.mk (F x).l oe (F x).ep, (qe, trF ((u1, u2, G, K, Ho, pe), (r, c, false, u3, u4), oe, RC.mk l oe ep, (qe, fr, n, ov), OI.mk xs m qe, OI.mk pl pl.length pe), (F x).n, (F x).ov), OI.mk (F x).xs (trM ((u1, u2, G,
   K, Ho, pe), (r, c, false, u3, u4), oe, RC.mk l oe ep, (qe, fr, n, ov), OI.mk xs m qe, OI.mk pl pl.length pe)) qe, OI.mk (F x).pl (F x).pl.length (F x).pe) (byteAt t x.toNat)).ep = (F (IntKind.i64.wrap (x + (1 : Int)))).ep ∧ (sqX (((), (), (F x).G, (F
   x).K, (F x).Ho, (F x).pe), ((F x).r, (F x).c, false, (), ()), oe, RC.mk (F x).l oe (F x).ep, (qe, trF ((u1, u2, G, K, Ho, pe), (r, c, false, u3, u4), oe, RC.mk l oe ep, (qe, fr, n, ov), OI.mk xs m qe, OI.mk pl pl.length pe), (F x).n, (F x).ov), OI.mk
   (F x).xs (trM ((u1, u2, G, K, Ho, pe), (r, c, false, u3, u4), oe, RC.mk l oe ep, (qe, fr, n, ov), OI.mk xs m qe, OI.mk pl pl.length pe)) qe, OI.mk (F x).pl (F x).pl.length (F x).pe) (byteAt t x.toNat)).l = (F (IntKind.i64.wrap (x + (1 : Int)))).l) ∧
   (SV.h (5 : Nat) [qe, (0 : Nat)] = SV.h (5 : Nat) [qe, (0 : Nat)] ∧ SV.v (Value.int IntKind.i64 (trF ((u1, u2, G, K, Ho, pe), (r, c, false, u3, u4), oe, RC.mk l oe ep, (qe, fr, n, ov), OI.mk xs m qe, OI.mk pl pl.length pe))) = SV.v (Value.int
   IntKind.i64 (trF ((u1, u2, G, K, Ho, pe), (r, c, false, u3, u4), oe, RC.mk l oe ep, (qe, fr, n, ov), OI.mk xs m qe, OI.mk pl pl.length pe))) ∧ SV.v (Value.int IntKind.i64 (sqX (((), (), (F x).G, (F x).K, (F x).Ho, (F x).pe), ((F x).r, (F x).c, false,
   (), ()), oe, RC.mk (F x).l oe (F x).ep, (qe, trF ((u1, u2, G, K, Ho, pe), (r, c, false, u3, u4), oe, RC.mk l oe ep, (qe, fr, n, ov), OI.mk xs m qe, OI.mk pl pl.length pe), (F x).n, (F x).ov), OI.mk (F x).xs (trM ((u1, u2, G, K, Ho, pe), (r, c, false,
   u3, u4), oe, RC.mk l oe ep, (qe, fr, n, ov), OI.mk xs m qe, OI.mk pl pl.length pe)) qe, OI.mk (F x).pl (F x).pl.length (F x).pe) (byteAt t x.toNat)).n) = SV.v (Value.int IntKind.i64 (F (IntKind.i64.wrap (x + (1 : Int)))).n) ∧ SV.v (Value.bool (sqX
   (((), (), (F x).G, (F x).K, (F x).Ho, (F x).pe), ((F x).r, (F x).c, false, (), ()), oe, RC.mk (F x).l oe (F x).ep, (qe, trF ((u1, u2, G, K, Ho, pe), (r, c, false, u3, u4), oe, RC.mk l oe ep, (qe, fr, n, ov), OI.mk xs m qe, OI.mk pl pl.length pe), (F
   x).n, (F x).ov), OI.mk (F x).xs (trM ((u1, u2, G, K, Ho, pe), (r, c, false, u3, u4), oe, RC.mk l oe ep, (qe, fr, n, ov), OI.mk xs m qe, OI.mk pl pl.length pe)) qe, OI.mk (F x).pl (F x).pl.length (F x).pe) (byteAt t x.toNat)).ov) = SV.v (Value.bool (F
   (IntKind.i64.wrap (x + (1 : Int)))).ov) ∧ True) ∧ (trM ((u1, u2, G, K, Ho, pe), (r, c, false, u3, u4), oe, RC.mk l oe ep, (qe, fr, n, ov), OI.mk xs m qe, OI.mk pl pl.length pe) = trM ((u1, u2, G, K, Ho, pe), (r, c, false, u3, u4), oe, RC.mk l oe ep,
   (qe, fr, n, ov), OI.mk xs m qe, OI.mk pl pl.length pe) ∧ qe = qe ∧ (sqX (((), (), (F x).G, (F x).K, (F x).Ho, (F x).pe), ((F x).r, (F x).c, false, (), ()), oe, RC.mk (F x).l oe (F x).ep, (qe, trF ((u1, u2, G, K, Ho, pe), (r, c, false, u3, u4), oe,
   RC.mk l oe ep, (qe, fr, n, ov), OI.mk xs m qe, OI.mk pl pl.length pe), (F x).n, (F x).ov), OI.mk (F x).xs (trM ((u1, u2, G, K, Ho, pe), (r, c, false, u3, u4), oe, RC.mk l oe ep, (qe, fr, n, ov), OI.mk xs m qe, OI.mk pl pl.length pe)) qe, OI.mk (F
   x).pl (F x).pl.length (F x).pe) (byteAt t x.toNat)).xs = (F (IntKind.i64.wrap (x + (1 : Int)))).xs) ∧ ((sqX (((), (), (F x).G, (F x).K, (F x).Ho, (F x).pe), ((F x).r, (F x).c, false, (), ()), oe, RC.mk (F x).l oe (F x).ep, (qe, trF ((u1, u2, G, K,
   Ho, pe), (r, c, false, u3, u4), oe, RC.mk l oe ep, (qe, fr, n, ov), OI.mk xs m qe, OI.mk pl pl.length pe), (F x).n, (F x).ov), OI.mk (F x).xs (trM ((u1, u2, G, K, Ho, pe), (r, c, false, u3, u4), oe, RC.mk l oe ep, (qe, fr, n, ov), OI.mk xs m qe,
   OI.mk pl pl.length pe)) qe, OI.mk (F x).pl (F x).pl.length (F x).pe) (byteAt t x.toNat)).pl.length = (F (IntKind.i64.wrap (x + (1 : Int)))).pl.length ∧ (sqX (((), (), (F x).G, (F x).K, (F x).Ho, (F x).pe), ((F x).r, (F x).c, false, (), ()), oe, RC.mk
   (F x).l oe (F x).ep, (qe, trF ((u1, u2, G, K, Ho, pe), (r, c, false, u3, u4), oe, RC.mk l oe ep, (qe, fr, n, ov), OI.mk xs m qe, OI.mk pl pl.length pe), (F x).n, (F x).ov), OI.mk (F x).xs (trM ((u1, u2, G, K, Ho, pe), (r, c, false, u3, u4), oe, RC.mk
   l oe ep, (qe, fr, n, ov), OI.mk xs m qe, OI.mk pl pl.length pe)) qe, OI.mk (F x).pl (F x).pl.length (F x).pe) (byteAt t x.toNat)).pe = (F (IntKind.i64.wrap (x + (1 : Int)))).pe ∧ (sqX (((), (), (F x).G, (F x).K, (F x).Ho, (F x).pe), ((F x).r, (F
   x).c, false, (), ()), oe, RC.mk (F x).l oe (F x).ep, (qe, trF ((u1, u2, G, K, Ho, pe), (r, c, false, u3, u4), oe, RC.mk l oe ep, (qe, fr, n, ov), OI.mk xs m qe, OI.mk pl pl.length pe), (F x).n, (F x).ov), OI.mk (F x).xs (trM ((u1, u2, G, K, Ho, pe),
   (r, c, false, u3, u4), oe, RC.mk l oe ep, (qe, fr, n, ov), OI.mk xs m qe, OI.mk pl pl.length pe)) qe, OI.mk (F x).pl (F x).pl.length (F x).pe) (byteAt t x.toNat)).pl = (F (IntKind.i64.wrap (x + (1 : Int)))).pl) ∧ (SV.p (0 : Nat) (0 : Nat) = SV.p (0 :
   Nat) (0 : Nat) ∧ True) ∧ (SV.p (0 : Nat) (0 : Nat) = SV.p (0 : Nat) (0 : Nat) ∧ True) ∧ (SV.v (Value.string t) = SV.v (Value.string t) ∧ True) ∧ Obj.deferred (some []) = Obj.deferred (some []) ∧ ((SV.p (7 : Nat) (0 : Nat) = SV.p (7 : Nat) (0 : Nat) ∧
   True) ∧ #[(10 : Nat)] = #[(10 : Nat)] ∧ codeAt Tryd.f11 [(1 : Nat), (1 : Nat), (1 : Nat), (0 : Nat), (0 : Nat)] = codeAt Tryd.f11 [(1 : Nat), (1 : Nat), (1 : Nat), (0 : Nat), (0 : Nat)] ∧ codeAt Tryd.f11 [(1 : Nat), (1 : Nat), (1 : Nat), (0 : Nat),
   (1 : Nat)] = codeAt Tryd.f11 [(1 : Nat), (1 : Nat), (1 : Nat), (0 : Nat), (1 : Nat)]) ∧ True) ∧ ((↑t.size : Int) - IntKind.i64.wrap (x + (1 : Int))).toNat < ((↑t.size : Int) - x).toNat) (br (decide (byteAt t x.toNat ≥ (32 : Int))) (true = true ∧ (TA
   (((), (), (F x).G, (F x).K, (F x).Ho, (F x).pe), ((F x).r, (F x).c, false, (), ()), oe, RC.mk (F x).l oe (F x).ep, (qe, trF ((u1, u2, G, K, Ho, pe), (r, c, false, u3, u4), oe, RC.mk l oe ep, (qe, fr, n, ov), OI.mk xs m qe, OI.mk pl pl.length pe), (F
   x).n, (F x).ov), OI.mk (F x).xs (trM ((u1, u2, G, K, Ho, pe), (r, c, false, u3, u4), oe, RC.mk l oe ep, (qe, fr, n, ov), OI.mk xs m qe, OI.mk pl pl.length pe)) qe, OI.mk (F x).pl (F x).pl.length (F x).pe) ∧ (0 : Int) ≤ byteAt t x.toNat ∧ byteAt t
   x.toNat ≤ (255 : Int)) ∧ ((0 : Int) ≤ IntKind.i64.wrap (x + (1 : Int)) ∧ IntKind.i64.wrap (x + (1 : Int)) ≤ (↑t.size : Int)) ∧ ((SV.y (11 : Nat) = SV.y (11 : Nat) ∧ SV.p (9 : Nat) (0 : Nat) = SV.p (9 : Nat) (0 : Nat) ∧ SV.p (8 : Nat) (0 : Nat) = SV.p
   (8 : Nat) (0 : Nat) ∧ SV.v (Value.int IntKind.i64 (↑t.size : Int)) = SV.v (Value.int IntKind.i64 (↑t.size : Int)) ∧ SV.v (Value.int IntKind.i64 (IntKind.i64.wrap (x + (1 : Int)))) = SV.v (Value.int IntKind.i64 (IntKind.i64.wrap (x + (1 : Int)))) ∧
   True) ∧ (SV.p (1 : Nat) (0 : Nat) = SV.p (1 : Nat) (0 : Nat) ∧ SV.p (4 : Nat) (0 : Nat) = SV.p (4 : Nat) (0 : Nat) ∧ SV.v (Value.bool (F x).G) = SV.v (Value.bool (F (IntKind.i64.wrap (x + (1 : Int)))).G) ∧ SV.v (Value.bool (F x).K) = SV.v (Value.bool
   (F (IntKind.i64.wrap (x + (1 : Int)))).K) ∧ SV.v (Value.bool (F x).Ho) = SV.v (Value.bool (F (IntKind.i64.wrap (x + (1 : Int)))).Ho) ∧ SV.h (6 : Nat) [(F x).pe, (0 : Nat)] = SV.h (6 : Nat) [(F (IntKind.i64.wrap (x + (1 : Int)))).pe, (0 : Nat)] ∧
   True) ∧ (SV.v (Value.int IntKind.i64 (F x).r) = SV.v (Value.int IntKind.i64 (F (IntKind.i64.wrap (x + (1 : Int)))).r) ∧ SV.v (Value.int IntKind.i64 (if (F x).c + (1 : Int) < (↑(nC (F x).l) : Int) then (F x).c + (1 : Int) else (F x).c)) = SV.v
   (Value.int IntKind.i64 (F (IntKind.i64.wrap (x + (1 : Int)))).c) ∧ SV.v (Value.bool false) = SV.v (Value.bool false) ∧ SV.p (2 : Nat) (0 : Nat) = SV.p (2 : Nat) (0 : Nat) ∧ True) ∧ (SV.h (3 : Nat) [oe, (0 : Nat)] = SV.h (3 : Nat) [oe, (0 : Nat)] ∧
   True) ∧ (oe = oe ∧ (F x).ep = (F (IntKind.i64.wrap (x + (1 : Int)))).ep ∧ set2 (F x).l (F x).r (F x).c (C4.mk (glT (F x).G (byteAt t x.toNat)) (0 : Int) false (0 : Int)) = (F (IntKind.i64.wrap (x + (1 : Int)))).l) ∧ (SV.h (5 : Nat) [qe, (0 : Nat)] =
   SV.h (5 : Nat) [qe, (0 : Nat)] ∧ SV.v (Value.int IntKind.i64 (trF ((u1, u2, G, K, Ho, pe), (r, c, false, u3, u4), oe, RC.mk l oe ep, (qe, fr, n, ov), OI.mk xs m qe, OI.mk pl pl.length pe))) = SV.v (Value.int IntKind.i64 (trF ((u1, u2, G, K, Ho, pe),
   (r, c, false, u3, u4), oe, RC.mk l oe ep, (qe, fr, n, ov), OI.mk xs m qe, OI.mk pl pl.length pe))) ∧ SV.v (Value.int IntKind.i64 (F x).n) = SV.v (Value.int IntKind.i64 (F (IntKind.i64.wrap (x + (1 : Int)))).n) ∧ SV.v (Value.bool (F x).ov) = SV.v
   (Value.bool (F (IntKind.i64.wrap (x + (1 : Int)))).ov) ∧ True) ∧ (trM ((u1, u2, G, K, Ho, pe), (r, c, false, u3, u4), oe, RC.mk l oe ep, (qe, fr, n, ov), OI.mk xs m qe, OI.mk pl pl.length pe) = trM ((u1, u2, G, K, Ho, pe), (r, c, false, u3, u4), oe,
   RC.mk l oe ep, (qe, fr, n, ov), OI.mk xs m qe, OI.mk pl pl.length pe) ∧ qe = qe ∧ (F x).xs = (F (IntKind.i64.wrap (x + (1 : Int)))).xs) ∧ ((F x).pl.length = (F (IntKind.i64.wrap (x + (1 : Int)))).pl.length ∧ (F x).pe = (F (IntKind.i64.wrap (x + (1 :
   Int)))).pe ∧ (F x).pl = (F (IntKind.i64.wrap (x + (1 : Int)))).pl) ∧ (SV.p (0 : Nat) (0 : Nat) = SV.p (0 : Nat) (0 : Nat) ∧ True) ∧ (SV.p (0 : Nat) (0 : Nat) = SV.p (0 : Nat) (0 : Nat) ∧ True) ∧ (SV.v (Value.string t) = SV.v (Value.string t) ∧ True)
   ∧ Obj.deferred (some []) = Obj.deferred (some []) ∧ ((SV.p (7 : Nat) (0 : Nat) = SV.p (7 : Nat) (0 : Nat) ∧ True) ∧ #[(10 : Nat)] = #[(10 : Nat)] ∧ codeAt Tryd.f11 [(1 : Nat), (1 : Nat), (1 : Nat), (0 : Nat), (0 : Nat)] = codeAt Tryd.f11 [(1 : Nat),
   (1 : Nat), (1 : Nat), (0 : Nat), (0 : Nat)] ∧ codeAt Tryd.f11 [(1 : Nat), (1 : Nat), (1 : Nat), (0 : Nat), (1 : Nat)] = codeAt Tryd.f11 [(1 : Nat), (1 : Nat), (1 : Nat), (0 : Nat), (1 : Nat)]) ∧ True) ∧ ((↑t.size : Int) - IntKind.i64.wrap (x + (1 :
   Int))).toNat < ((↑t.size : Int) - x).toNat) (true = true ∧ true = true ∧ (TA (((), (), (F x).G, (F x).K, (F x).Ho, (F x).pe), ((F x).r, (F x).c, false, (), ()), oe, RC.mk (F x).l oe (F x).ep, (qe, trF ((u1, u2, G, K, Ho, pe), (r, c, false, u3, u4),
   oe, RC.mk l oe ep, (qe, fr, n, ov), OI.mk xs m qe, OI.mk pl pl.length pe), (F x).n, (F x).ov), OI.mk (F x).xs (trM ((u1, u2, G, K, Ho, pe), (r, c, false, u3, u4), oe, RC.mk l oe ep, (qe, fr, n, ov), OI.mk xs m qe, OI.mk pl pl.length pe)) qe, OI.mk (F
   x).pl (F x).pl.length (F x).pe) ∧ (0 : Int) ≤ byteAt t x.toNat ∧ byteAt t x.toNat ≤ (255 : Int)) ∧ ((0 : Int) ≤ IntKind.i64.wrap (x + (1 : Int)) ∧ IntKind.i64.wrap (x + (1 : Int)) ≤ (↑t.size : Int)) ∧ ((SV.y (11 : Nat) = SV.y (11 : Nat) ∧ SV.p (9 :
   Nat) (0 : Nat) = SV.p (9 : Nat) (0 : Nat) ∧ SV.p (8 : Nat) (0 : Nat) = SV.p (8 : Nat) (0 : Nat) ∧ SV.v (Value.int IntKind.i64 (↑t.size : Int)) = SV.v (Value.int IntKind.i64 (↑t.size : Int)) ∧ SV.v (Value.int IntKind.i64 (IntKind.i64.wrap (x + (1 :
   Int)))) = SV.v (Value.int IntKind.i64 (IntKind.i64.wrap (x + (1 : Int)))) ∧ True) ∧ (SV.p (1 : Nat) (0 : Nat) = SV.p (1 : Nat) (0 : Nat) ∧ SV.p (4 : Nat) (0 : Nat) = SV.p (4 : Nat) (0 : Nat) ∧ SV.v (Value.bool (ctX (((), (), (F x).G, (F x).K, (F
   x).Ho, (F x).pe), ((F x).r, (F x).c, false, (), ()), oe, RC.mk (F x).l oe (F x).ep, (qe, trF ((u1, u2, G, K, Ho, pe), (r, c, false, u3, u4), oe, RC.mk l oe ep, (qe, fr, n, ov), OI.mk xs m qe, OI.mk pl pl.length pe), (F x).n, (F x).ov), OI.mk (F x).xs
   (trM ((u1, u2, G, K, Ho, pe), (r, c, false, u3, u4), oe, RC.mk l oe ep, (qe, fr, n, ov), OI.mk xs m qe, OI.mk pl pl.length pe)) qe, OI.mk (F x).pl (F x).pl.length (F x).pe) (byteAt t x.toNat)).G) = SV.v (Value.bool (F (IntKind.i64.wrap (x + (1 :
   Int)))).G) ∧ SV.v (Value.bool (ctX (((), (), (F x).G, (F x).K, (F x).Ho, (F x).pe), ((F x).r, (F x).c, false, (), ()), oe, RC.mk (F x).l oe (F x).ep, (qe, trF ((u1, u2, G, K, Ho, pe), (r, c, false, u3, u4), oe, RC.mk l oe ep, (qe, fr, n, ov), OI.mk
   xs m qe, OI.mk pl pl.length pe), (F x).n, (F x).ov), OI.mk (F x).xs (trM ((u1, u2, G, K, Ho, pe), (r, c, false, u3, u4), oe, RC.mk l oe ep, (qe, fr, n, ov), OI.mk xs m qe, OI.mk pl pl.length pe)) qe, OI.mk (F x).pl (F x).pl.length (F x).pe) (byteAt t
   x.toNat)).K) = SV.v (Value.bool (F (IntKind.i64.wrap (x + (1 : Int)))).K) ∧ SV.v (Value.bool (ctX (((), (), (F x).G, (F x).K, (F x).Ho, (F x).pe), ((F x).r, (F x).c, false, (), ()), oe, RC.mk (F x).l oe (F x).ep, (qe, trF ((u1, u2, G, K, Ho, pe), (r,
   c, false, u3, u4), oe, RC.mk l oe ep, (qe, fr, n, ov), OI.mk xs m qe, OI.mk pl pl.length pe), (F x).n, (F x).ov), OI.mk (F x).xs (trM ((u1, u2, G, K, Ho, pe), (r, c, false, u3, u4), oe, RC.mk l oe ep, (qe, fr, n, ov), OI.mk xs m qe, OI.mk pl
   pl.length pe)) qe, OI.mk (F x).pl (F x).pl.length (F x).pe) (byteAt t x.toNat)).Ho) = SV.v (Value.bool (F (IntKind.i64.wrap (x + (1 : Int)))).Ho) ∧ SV.h (6 : Nat) [(ctX (((), (), (F x).G, (F x).K, (F x).Ho, (F x).pe), ((F x).r, (F x).c, false, (),
   ()), oe, RC.mk (F x).l oe (F x).ep, (qe, trF ((u1, u2, G, K, Ho, pe), (r, c, false, u3, u4), oe, RC.mk l oe ep, (qe, fr, n, ov), OI.mk xs m qe, OI.mk pl pl.length pe), (F x).n, (F x).ov), OI.mk (F x).xs (trM ((u1, u2, G, K, Ho, pe), (r, c, false, u3,
   u4), oe, RC.mk l oe ep, (qe, fr, n, ov), OI.mk xs m qe, OI.mk pl pl.length pe)) qe, OI.mk (F x).pl (F x).pl.length (F x).pe) (byteAt t x.toNat)).pe, (0 : Nat)] = SV.h (6 : Nat) [(F (IntKind.i64.wrap (x + (1 : Int)))).pe, (0 : Nat)] ∧ True) ∧ (SV.v
   (Value.int IntKind.i64 (ctX (((), (), (F x).G, (F x).K, (F x).Ho, (F x).pe), ((F x).r, (F x).c, false, (), ()), oe, RC.mk (F x).l oe (F x).ep, (qe, trF ((u1, u2, G, K, Ho, pe), (r, c, false, u3, u4), oe, RC.mk l oe ep, (qe, fr, n, ov), OI.mk xs m qe,
   OI.mk pl pl.length pe), (F x).n, (F x).ov), OI.mk (F x).xs (trM ((u1, u2, G, K, Ho, pe), (r, c, false, u3, u4), oe, RC.mk l oe ep, (qe, fr, n, ov), OI.mk xs m qe, OI.mk pl pl.length pe)) qe, OI.mk (F x).pl (F x).pl.length (F x).pe) (byteAt t
   x.toNat)).r) = SV.v (Value.int IntKind.i64 (F (IntKind.i64.wrap (x + (1 : Int)))).r) ∧ SV.v (Value.int IntKind.i64 (ctX (((), (), (F x).G, (F x).K, (F x).Ho, (F x).pe), ((F x).r, (F x).c, false, (), ()), oe, RC.mk (F x).l oe (F x).ep, (qe, trF ((u1,
   u2, G, K, Ho, pe), (r, c, false, u3, u4), oe, RC.mk l oe ep, (qe, fr, n, ov), OI.mk xs m qe, OI.mk pl pl.length pe), (F x).n, (F x).ov), OI.mk (F x).xs (trM ((u1, u2, G, K, Ho, pe), (r, c, false, u3, u4), oe, RC.mk l oe ep, (qe, fr, n, ov), OI.mk xs
   m qe, OI.mk pl pl.length pe)) qe, OI.mk (F x).pl (F x).pl.length (F x).pe) (byteAt t x.toNat)).c) = SV.v (Value.int IntKind.i64 (F (IntKind.i64.wrap (x + (1 : Int)))).c) ∧ SV.v (Value.bool false) = SV.v (Value.bool false) ∧ SV.p (2 : Nat) (0 : Nat) =
   SV.p (2 : Nat) (0 : Nat) ∧ True) ∧ (SV.h (3 : Nat) [oe, (0 : Nat)] = SV.h (3 : Nat) [oe, (0 : Nat)] ∧ True) ∧ (oe = oe ∧ (ctX (((), (), (F x).G, (F x).K, (F x).Ho, (F x).pe), ((F x).r, (F x).c, false, (), ()), oe, RC.mk (F x).l oe (F x).ep, (qe, trF
   ((u1, u2, G, K, Ho, pe), (r, c, false, u3, u4), oe, RC.mk l oe ep, (qe, fr, n, ov), OI.mk xs m qe, OI.mk pl pl.length pe), (F x).n, (F x).ov), OI.mk (F x).xs (trM ((u1, u2, G, K, Ho, pe), (r, c, false, u3, u4), oe, RC.mk l oe ep, (qe, fr, n, ov),
   OI.mk xs m qe, OI.mk pl pl.length pe)) qe, OI.mk (F x).pl (F x).pl.length (F x).pe) (byteAt t x.toNat)).ep = (F (IntKind.i64.wrap (x + (1 : Int)))).ep ∧ (ctX (((), (), (F x).G, (F x).K, (F x).Ho, (F x).pe), ((F x).r, (F x).c, false, (), ()), oe,
   RC.mk (F x).l oe (F x).ep, (qe, trF ((u1, u2, G, K, Ho, pe), (r, c, false, u3, u4), oe, RC.mk l oe ep, (qe, fr, n, ov), OI.mk xs m qe, OI.mk pl pl.length pe), (F x).n, (F x).ov), OI.mk (F x).xs (trM ((u1, u2, G, K, Ho, pe), (r, c, false, u3, u4), oe,
   RC.mk l oe ep, (qe, fr, n, ov), OI.mk xs m qe, OI.mk pl pl.length pe)) qe, OI.mk (F x).pl (F x).pl.length (F x).pe) (byteAt t x.toNat)).l = (F (IntKind.i64.wrap (x + (1 : Int)))).l) ∧ (SV.h (5 : Nat) [qe, (0 : Nat)] = SV.h (5 : Nat) [qe, (0 : Nat)] ∧
   SV.v (Value.int IntKind.i64 (trF ((u1, u2, G, K, Ho, pe), (r, c, false, u3, u4), oe, RC.mk l oe ep, (qe, fr, n, ov), OI.mk xs m qe, OI.mk pl pl.length pe))) = SV.v (Value.int IntKind.i64 (trF ((u1, u2, G, K, Ho, pe), (r, c, false, u3, u4), oe, RC.mk
   l oe ep, (qe, fr, n, ov), OI.mk xs m qe, OI.mk pl pl.length pe))) ∧ SV.v (Value.int IntKind.i64 (ctX (((), (), (F x).G, (F x).K, (F x).Ho, (F x).pe), ((F x).r, (F x).c, false, (), ()), oe, RC.mk (F x).l oe (F x).ep, (qe, trF ((u1, u2, G, K, Ho, pe),
   (r, c, false, u3, u4), oe, RC.mk l oe ep, (qe, fr, n, ov), OI.mk xs m qe, OI.mk pl pl.length pe), (F x).n, (F x).ov), OI.mk (F x).xs (trM ((u1, u2, G, K, Ho, pe), (r, c, false, u3, u4), oe, RC.mk l oe ep, (qe, fr, n, ov), OI.mk xs m qe, OI.mk pl
   pl.length pe)) qe, OI.mk (F x).pl (F x).pl.length (F x).pe) (byteAt t x.toNat)).n) = SV.v (Value.int IntKind.i64 (F (IntKind.i64.wrap (x + (1 : Int)))).n) ∧ SV.v (Value.bool (ctX (((), (), (F x).G, (F x).K, (F x).Ho, (F x).pe), ((F x).r, (F x).c,
   false, (), ()), oe, RC.mk (F x).l oe (F x).ep, (qe, trF ((u1, u2, G, K, Ho, pe), (r, c, false, u3, u4), oe, RC.mk l oe ep, (qe, fr, n, ov), OI.mk xs m qe, OI.mk pl pl.length pe), (F x).n, (F x).ov), OI.mk (F x).xs (trM ((u1, u2, G, K, Ho, pe), (r, c,
   false, u3, u4), oe, RC.mk l oe ep, (qe, fr, n, ov), OI.mk xs m qe, OI.mk pl pl.length pe)) qe, OI.mk (F x).pl (F x).pl.length (F x).pe) (byteAt t x.toNat)).ov) = SV.v (Value.bool (F (IntKind.i64.wrap (x + (1 : Int)))).ov) ∧ True) ∧ (trM ((u1, u2, G,
   K, Ho, pe), (r, c, false, u3, u4), oe, RC.mk l oe ep, (qe, fr, n, ov), OI.mk xs m qe, OI.mk pl pl.length pe) = trM ((u1, u2, G, K, Ho, pe), (r, c, false, u3, u4), oe, RC.mk l oe ep, (qe, fr, n, ov), OI.mk xs m qe, OI.mk pl pl.length pe) ∧ qe = qe ∧
   (ctX (((), (), (F x).G, (F x).K, (F x).Ho, (F x).pe), ((F x).r, (F x).c, false, (), ()), oe, RC.mk (F x).l oe (F x).ep, (qe, trF ((u1, u2, G, K, Ho, pe), (r, c, false, u3, u4), oe, RC.mk l oe ep, (qe, fr, n, ov), OI.mk xs m qe, OI.mk pl pl.length
   pe), (F x).n, (F x).ov), OI.mk (F x).xs (trM ((u1, u2, G, K, Ho, pe), (r, c, false, u3, u4), oe, RC.mk l oe ep, (qe, fr, n, ov), OI.mk xs m qe, OI.mk pl pl.length pe)) qe, OI.mk (F x).pl (F x).pl.length (F x).pe) (byteAt t x.toNat)).xs = (F
   (IntKind.i64.wrap (x + (1 : Int)))).xs) ∧ ((ctX (((), (), (F x).G, (F x).K, (F x).Ho, (F x).pe), ((F x).r, (F x).c, false, (), ()), oe, RC.mk (F x).l oe (F x).ep, (qe, trF ((u1, u2, G, K, Ho, pe), (r, c, false, u3, u4), oe, RC.mk l oe ep, (qe, fr, n,
   ov), OI.mk xs m qe, OI.mk pl pl.length pe), (F x).n, (F x).ov), OI.mk (F x).xs (trM ((u1, u2, G, K, Ho, pe), (r, c, false, u3, u4), oe, RC.mk l oe ep, (qe, fr, n, ov), OI.mk xs m qe, OI.mk pl pl.length pe)) qe, OI.mk (F x).pl (F x).pl.length (F
   x).pe) (byteAt t x.toNat)).pl.length = (F (IntKind.i64.wrap (x + (1 : Int)))).pl.length ∧ (ctX (((), (), (F x).G, (F x).K, (F x).Ho, (F x).pe), ((F x).r, (F x).c, false, (), ()), oe, RC.mk (F x).l oe (F x).ep, (qe, trF ((u1, u2, G, K, Ho, pe), (r, c,
   false, u3, u4), oe, RC.mk l oe ep, (qe, fr, n, ov), OI.mk xs m qe, OI.mk pl pl.length pe), (F x).n, (F x).ov), OI.mk (F x).xs (trM ((u1, u2, G, K, Ho, pe), (r, c, false, u3, u4), oe, RC.mk l oe ep, (qe, fr, n, ov), OI.mk xs m qe, OI.mk pl pl.length
   pe)) qe, OI.mk (F x).pl (F x).pl.length (F x).pe) (byteAt t x.toNat)).pe = (F (IntKind.i64.wrap (x + (1 : Int)))).pe ∧ (ctX (((), (), (F x).G, (F x).K, (F x).Ho, (F x).pe), ((F x).r, (F x).c, false, (), ()), oe, RC.mk (F x).l oe (F x).ep, (qe, trF
   ((u1, u2, G, K, Ho, pe), (r, c, false, u3, u4), oe, RC.mk l oe ep, (qe, fr, n, ov), OI.mk xs m qe, OI.mk pl pl.length pe), (F x).n, (F x).ov), OI.mk (F x).xs (trM ((u1, u2, G, K, Ho, pe), (r, c, false, u3, u4), oe, RC.mk l oe ep, (qe, fr, n, ov),
   OI.mk xs m qe, OI.mk pl pl.length pe)) qe, OI.mk (F x).pl (F x).pl.length (F x).pe) (byteAt t x.toNat)).pl = (F (IntKind.i64.wrap (x + (1 : Int)))).pl) ∧ (SV.p (0 : Nat) (0 : Nat) = SV.p (0 : Nat) (0 : Nat) ∧ True) ∧ (SV.p (0 : Nat) (0 : Nat) = SV.p
   (0 : Nat) (0 : Nat) ∧ True) ∧ (SV.v (Value.string t) = SV.v (Value.string t) ∧ True) ∧ Obj.deferred (some []) = Obj.deferred (some []) ∧ ((SV.p (7 : Nat) (0 : Nat) = SV.p (7 : Nat) (0 : Nat) ∧ True) ∧ #[(10 : Nat)] = #[(10 : Nat)] ∧ codeAt Tryd.f11
   [(1 : Nat), (1 : Nat), (1 : Nat), (0 : Nat), (0 : Nat)] = codeAt Tryd.f11 [(1 : Nat), (1 : Nat), (1 : Nat), (0 : Nat), (0 : Nat)] ∧ codeAt Tryd.f11 [(1 : Nat), (1 : Nat), (1 : Nat), (0 : Nat), (1 : Nat)] = codeAt Tryd.f11 [(1 : Nat), (1 : Nat), (1 :
   Nat), (0 : Nat), (1 : Nat)]) ∧ True) ∧ ((↑t.size : Int) - IntKind.i64.wrap (x + (1 : Int))).toNat < ((↑t.size : Int) - x).toNat))))))))) ((SV.t [] = SV.t [] ∧ True) ∧ (SV.p (1 : Nat) (0 : Nat) = SV.p (1 : Nat) (0 : Nat) ∧ SV.p (4 : Nat) (0 : Nat) =
   SV.p (4 : Nat) (0 : Nat) ∧ SV.v (Value.bool (F x).G) = SV.v (Value.bool (fdX ((u1, u2, G, K, Ho, pe), (r, c, false, u3, u4), oe, RC.mk l oe ep, (qe, fr, n, ov), OI.mk xs m qe, OI.mk pl pl.length pe) t).G) ∧ SV.v (Value.bool (F x).K) = SV.v
   (Value.bool (fdX ((u1, u2, G, K, Ho, pe), (r, c, false, u3, u4), oe, RC.mk l oe ep, (qe, fr, n, ov), OI.mk xs m qe, OI.mk pl pl.length pe) t).K) ∧ SV.v (Value.bool (F x).Ho) = SV.v (Value.bool (fdX ((u1, u2, G, K, Ho, pe), (r, c, false, u3, u4), oe,
   RC.mk l oe ep, (qe, fr, n, ov), OI.mk xs m qe, OI.mk pl pl.length pe) t).Ho) ∧ SV.h (6 : Nat) [(F x).pe, (0 : Nat)] = SV.h (6 : Nat) [(fdX ((u1, u2, G, K, Ho, pe), (r, c, false, u3, u4), oe, RC.mk l oe ep, (qe, fr, n, ov), OI.mk xs m qe, OI.mk pl
   pl.length pe) t).pe, (0 : Nat)] ∧ True) ∧ (SV.v (Value.int IntKind.i64 (F x).r) = SV.v (Value.int IntKind.i64 (fdX ((u1, u2, G, K, Ho, pe), (r, c, false, u3, u4), oe, RC.mk l oe ep, (qe, fr, n, ov), OI.mk xs m qe, OI.mk pl pl.length pe) t).r) ∧ SV.v
   (Value.int IntKind.i64 (F x).c) = SV.v (Value.int IntKind.i64 (fdX ((u1, u2, G, K, Ho, pe), (r, c, false, u3, u4), oe, RC.mk l oe ep, (qe, fr, n, ov), OI.mk xs m qe, OI.mk pl pl.length pe) t).c) ∧ SV.v (Value.bool false) = SV.v (Value.bool false) ∧
   SV.p (2 : Nat) (0 : Nat) = SV.p (2 : Nat) (0 : Nat) ∧ True) ∧ (SV.h (3 : Nat) [oe, (0 : Nat)] = SV.h (3 : Nat) [oe, (0 : Nat)] ∧ True) ∧ (oe = oe ∧ (F x).ep = (fdX ((u1, u2, G, K, Ho, pe), (r, c, false, u3, u4), oe, RC.mk l oe ep, (qe, fr, n, ov),
   OI.mk xs m qe, OI.mk pl pl.length pe) t).ep ∧ (F x).l = (fdX ((u1, u2, G, K, Ho, pe), (r, c, false, u3, u4), oe, RC.mk l oe ep, (qe, fr, n, ov), OI.mk xs m qe, OI.mk pl pl.length pe) t).l) ∧ (SV.h (5 : Nat) [qe, (0 : Nat)] = SV.h (5 : Nat) [qe, (0 :
   Nat)] ∧ SV.v (Value.int IntKind.i64 (trF ((u1, u2, G, K, Ho, pe), (r, c, false, u3, u4), oe, RC.mk l oe ep, (qe, fr, n, ov), OI.mk xs m qe, OI.mk pl pl.length pe))) = SV.v (Value.int IntKind.i64 fr) ∧ SV.v (Value.int IntKind.i64 (F x).n) = SV.v
   (Value.int IntKind.i64 (fdX ((u1, u2, G, K, Ho, pe), (r, c, false, u3, u4), oe, RC.mk l oe ep, (qe, fr, n, ov), OI.mk xs m qe, OI.mk pl pl.length pe) t).n) ∧ SV.v (Value.bool (F x).ov) = SV.v (Value.bool (fdX ((u1, u2, G, K, Ho, pe), (r, c, false,
   u3, u4), oe, RC.mk l oe ep, (qe, fr, n, ov), OI.mk xs m qe, OI.mk pl pl.length pe) t).ov) ∧ True) ∧ (trM ((u1, u2, G, K, Ho, pe), (r, c, false, u3, u4), oe, RC.mk l oe ep, (qe, fr, n, ov), OI.mk xs m qe, OI.mk pl pl.length pe) = m ∧ qe = qe ∧ (F
   x).xs = (fdX ((u1, u2, G, K, Ho, pe), (r, c, false, u3, u4), oe, RC.mk l oe ep, (qe, fr, n, ov), OI.mk xs m qe, OI.mk pl pl.length pe) t).xs) ∧ ((F x).pl.length = (fdX ((u1, u2, G, K, Ho, pe), (r, c, false, u3, u4), oe, RC.mk l oe ep, (qe, fr, n,
   ov), OI.mk xs m qe, OI.mk pl pl.length pe) t).pl.length ∧ (F x).pe = (fdX ((u1, u2, G, K, Ho, pe), (r, c, false, u3, u4), oe, RC.mk l oe ep, (qe, fr, n, ov), OI.mk xs m qe, OI.mk pl pl.length pe) t).pe ∧ (F x).pl = (fdX ((u1, u2, G, K, Ho, pe), (r,
   c, false, u3, u4), oe, RC.mk l oe ep, (qe, fr, n, ov), OI.mk xs m qe, OI.mk pl pl.length pe) t).pl) ∧ True)) (fdF ((u1, u2, G, K, Ho, pe), (r, c, false, u3, u4), oe, RC.mk l oe ep, (qe, fr, n, ov), OI.mk xs m qe, OI.mk pl pl.length pe) t))) (by
   kernel_rfl) ?_
  clear hp hφ
  have hb := bytesL_range t
  generalize hF : fdF ((u1, u2, G, K, Ho, pe), (r, c, false, u3, u4), oe, RC.mk l oe ep, (qe, fr, n, ov), OI.mk xs m qe, OI.mk pl pl.length pe) t = F
  have eS : ∀ i : Int, 0 ≤ i → i < t.size → F (i + 1) = byT m fr (F i) (byteAt t i.toNat) := by subst hF; exact fun i h0 h1 => feedT_succ _ _ _ h0 h1
  have eT : ∀ i : Int, TI fr m (F i) := by subst hF; exact fun i => (tp_feed _ hI (byteR_take hb _)).ti
  have eE : F t.size = fdX ((u1, u2, G, K, Ho, pe), (r, c, false, u3, u4), oe, RC.mk l oe ep, (qe, fr, n, ov), OI.mk xs m qe, OI.mk pl pl.length pe) t := by subst hF; exact feedT_all _ _ _ _
  clear hF
  simp only [trM, trF, tmS]
  refine ⟨by simp, by simp, fun x hx => ?_⟩
  obtain ⟨hx0, hx1⟩ : (0 : Int) ≤ x ∧ (x : Int) ≤ t.size := hx
  have hT := eT x
  refine br_intro (fun hlt => ?_) (fun hge => ?_)
  · have hlt : x < (t.size : Int) := of_decide_eq_true hlt
    have e := eS x hx0 hlt
    have hbx := byteAt_range t x.toNat
    have hxr : (decide (0 ≤ x ∧ x < (t.size : Int))) = true := decide_eq_true ⟨hx0, hlt⟩
    rw [wrap64 (x := x + 1) (by omega) (by omega), e]
    have hmu : ((t.size : Int) - (x + 1)).toNat < ((t.size : Int) - x).toNat := by omega
    have hbd : 0 ≤ x + 1 ∧ x + 1 ≤ (t.size : Int) := by omega
    clear eS eT eE
    generalize byteAt t x.toNat = b at hbx ⊢
    generalize F x = s at hT ⊢
    obtain ⟨r, c, l, ep, G, K, Ho, n, ov, xs, pe, pl⟩ := s
    have hTA : TA (((), (), G, K, Ho, pe), (r, c, false, (), ()), oe, RC.mk l oe ep, (qe, fr, n, ov), OI.mk xs m qe, OI.mk pl pl.length pe) := ⟨rfl, rfl, rfl, rfl, rfl, hT⟩
    have hsq : sqX (((), (), G, K, Ho, pe), (r, c, false, (), ()), oe, RC.mk l oe ep, (qe, fr, n, ov), OI.mk xs m qe, OI.mk pl pl.length pe) b = sqT m fr ⟨r, c, l, ep, G, K, Ho, n, ov, xs, pe, pl⟩ b := rfl
    have hct : ctX (((), (), G, K, Ho, pe), (r, c, false, (), ()), oe, RC.mk l oe ep, (qe, fr, n, ov), OI.mk xs m qe, OI.mk pl pl.length pe) b = ctT ⟨r, c, l, ep, G, K, Ho, n, ov, xs, pe, pl⟩ b := rfl
    simp only [hsq, hct]
    have h27 : byT m fr ⟨r, c, l, ep, G, K, Ho, n, ov, xs, pe, pl⟩ b = if pl.length = 0 ∧ b > 126 then ⟨r, c, l, ep, G, K, Ho, n, ov, xs, pe, pl⟩ else if b = 27 then ⟨r, c, l, ep, G, K, Ho, n, ov, xs, pe + 1, [27]⟩ else if 0 < pl.length then sqT m fr
     ⟨r, c, l, ep, G, K, Ho, n, ov, xs, pe, pl⟩ b else if 32 ≤ b then puT ⟨r, c, l, ep, G, K, Ho, n, ov, xs, pe, pl⟩ b else ctT ⟨r, c, l, ep, G, K, Ho, n, ov, xs, pe, pl⟩ b := rfl
    generalize byT m fr ⟨r, c, l, ep, G, K, Ho, n, ov, xs, pe, pl⟩ b = B at h27 ⊢
    have hY : ∀ {P1 P2 P3 P4 : Prop}, ¬ (pl.length = 0 ∧ b > 126) → (b = 27 → B = ⟨r, c, l, ep, G, K, Ho, n, ov, xs, pe + 1, [27]⟩ → P1) → (0 < pl.length → B = sqT m fr ⟨r, c, l, ep, G, K, Ho, n, ov, xs, pe, pl⟩ b → P2) → (pl.length = 0 → B = puT ⟨r, c, l, ep, G, K, Ho, n, ov, xs, pe, pl⟩ b → P3) → (pl.length = 0 → B = ctT ⟨r, c, l, ep, G, K, Ho, n, ov, xs, pe, pl⟩ b → P4) →
        br (b == 27) P1 (rq (Nat.beq pe pe) (br (decide ((pl.length : Int) > 0)) P2 (br (decide (b ≥ 32)) P3 P4))) := by
      intro P1 P2 P3 P4 h1 q1 q2 q3 q4
      rw [if_neg h1] at h27
      refine br_intro (fun h3 => ?_) (fun h3 => rq_t (by simp) (br_intro (fun h4 => ?_) (fun h4 => br_intro (fun h5 => ?_) (fun h5 => ?_))))
      · have h3 : b = 27 := by simpa using h3
        exact q1 h3 (by rw [h27, if_pos h3])
      · have h3 : ¬ b = 27 := by simpa using h3
        have h4 : 0 < pl.length := by simpa using h4
        exact q2 h4 (by rw [h27, if_neg h3, if_pos h4])
      · have h3 : ¬ b = 27 := by simpa using h3
        have h4 : pl.length = 0 := by have : ¬ (pl.length : Int) > 0 := of_decide_eq_false h4; omega
        have h5 : b ≥ 32 := of_decide_eq_true h5
        exact q3 h4 (by rw [h27, if_neg h3, if_neg (by omega), if_pos h5])
      · have h3 : ¬ b = 27 := by simpa using h3
        have h4 : pl.length = 0 := by have : ¬ (pl.length : Int) > 0 := of_decide_eq_false h4; omega
        have h5 : ¬ b ≥ 32 := of_decide_eq_false h5
        exact q4 h4 (by rw [h27, if_neg h3, if_neg (by omega), if_neg h5])
    refine rq_t hxr (rq_t (by simp) (br_intro (fun h1 => br_intro (fun h2 => ?_) (fun h2 => rq_t hxr (hY ?_ ?_ ?_ ?_ ?_))) (fun h1 => rq_t hxr (hY ?_ ?_ ?_ ?_ ?_))))
    · have h1 : pl.length = 0 := by simpa using h1
      have h2 : b > 126 := of_decide_eq_true h2
      rw [if_pos ⟨h1, h2⟩] at h27
      clear hY hsq hct hTA
      subst h27
      simp [hmu, hbd]
    · have h2 : ¬ b > 126 := of_decide_eq_false h2
      exact fun h => h2 h.2
    · intro _ hB
      clear hY hsq hct hTA h27
      subst hB
      simp [hmu, hbd]
    · intro h5 hB
      clear hY hsq hct h27
      rw [hB]
      have h7 : 1 ≤ pl.length := h5
      simp [hTA, hmu, hbd, hbx, h7]
    · intro h5 hB
      clear hY hsq hct h27
      subst hB
      simp [puT, hTA, hmu, hbd, hbx]
    · intro h5 hB
      clear hY hsq hct h27
      subst hB
      simp [hTA, hmu, hbd, hbx]
    · have h1 : ¬ pl.length = 0 := by simpa using h1
      exact fun h => h1 h.1
    · intro _ hB
      clear hY hsq hct hTA h27
      subst hB
      simp [hmu, hbd]
    · intro h5 hB
      clear hY hsq hct h27
      rw [hB]
      have h7 : 1 ≤ pl.length := h5
      simp [hTA, hmu, hbd, hbx, h7]
    · intro h5 hB
      clear hY hsq hct h27
      subst hB
      simp [puT, hTA, hmu, hbd, hbx]
    · intro h5 hB
      clear hY hsq hct h27
      subst hB
      simp [hTA, hmu, hbd, hbx]
  · have hge : ¬ (x : Int) < (t.size : Int) := of_decide_eq_false hge
    obtain rfl : x = (t.size : Int) := by omega
    rw [eE]
    simp
end Go.Proofs.YtcbjgpkbfmmdpaaDoor
namespace Go.Proofs.YtcbjgpkbfmmdpaaDoor
open Go Go.Sym
def drT (s : Tm) : Tm := { s with pl := [], pe := s.pe + 1 }
def lcTDrop : ACon Unit := mkLC (decP (shOne (shP 0)) (shTm 0)) fun (_, x) => .ask (TA x) (.one (.t []) (tmE 0 x (drT (tmS x))) [0, 6])
set_option maxHeartbeats 4000000 in
theorem ok_tDrop : ∀ I : Sym.Inv Unit, LCOk I Tryd.prog 19 lcTDrop := by
  refine lc_mkF (fun _ => [.nilInto 0 5 6]) (fun _ => allCfg Tryd.prog [] tabT12 0) (fun _ _ => allCfg_ok mixed trivial tabT12_ok) (fun _ => rfl) (n := 60) Tryd.func19 ?_
  intro ⟨_, ⟨_, _, G, K, Ho, pe⟩, ⟨r, c, p, _, _⟩, oe, ⟨l, oe2, ep⟩, ⟨qe, fr, n, ov⟩, ⟨xs, m, qe2⟩, ⟨pl, pn, pe2⟩⟩ hφ
  obtain ⟨⟨rfl, rfl, rfl, rfl, rfl, hI⟩, hp⟩ := id hφ
  refine kcast (B := ((SV.t [] = SV.t [] ∧ True) ∧ (SV.p (1 : Nat) (0 : Nat) = SV.p (1 : Nat) (0 : Nat) ∧ SV.p (4 : Nat) (0 : Nat) = SV.p (4 : Nat) (0 : Nat) ∧
        SV.v (Value.bool G) = SV.v (Value.bool G) ∧ SV.v (Value.bool K) = SV.v (Value.bool K) ∧ SV.v (Value.bool Ho) = SV.v (Value.bool Ho) ∧ SV.h (6 : Nat) [pe + (1 :
        Nat), (0 : Nat)] = SV.h (6 : Nat) [pe + (1 : Nat), (0 : Nat)] ∧ True) ∧ (SV.v (Value.int IntKind.i64 r) = SV.v (Value.int IntKind.i64 r) ∧ SV.v (Value.int
        IntKind.i64 c) = SV.v (Value.int IntKind.i64 c) ∧ SV.v (Value.bool false) = SV.v (Value.bool false) ∧ SV.p (2 : Nat) (0 : Nat) = SV.p (2 : Nat) (0 : Nat) ∧
        True) ∧ (SV.h (3 : Nat) [oe, (0 : Nat)] = SV.h (3 : Nat) [oe, (0 : Nat)] ∧ True) ∧ (oe = oe ∧ ep = ep ∧ l = l) ∧ (SV.h (5 : Nat) [qe, (0 : Nat)] = SV.h (5 :
        Nat) [qe, (0 : Nat)] ∧ SV.v (Value.int IntKind.i64 fr) = SV.v (Value.int IntKind.i64 fr) ∧ SV.v (Value.int IntKind.i64 n) = SV.v (Value.int IntKind.i64 n) ∧
        SV.v (Value.bool ov) = SV.v (Value.bool ov) ∧ True) ∧ (m = m ∧ qe = qe ∧ xs = xs) ∧ ((0 : Nat) = (LI []).length ∧ pe + (1 : Nat) = pe + (1 : Nat) ∧ LI [] = LI
        []) ∧ True)) (by kernel_rfl) ?_
  simp
def lcTPend : ACon Unit := mkLC (decP (shOne (shP 0)) (shTm 0)) fun (_, x) => .ask (TA x) (.one (.v (.string (bytesOf (tmS x).pl))) (tmE 0 x (tmS x)) [])
set_option maxHeartbeats 4000000 in
theorem ok_tPend : ∀ I : Sym.Inv Unit, LCOk I Tryd.prog 18 lcTPend := by
  refine lc_mk (fun _ => allCfg Tryd.prog [] tabT12 0) (fun _ _ => allCfg_ok mixed trivial tabT12_ok) (fun _ => rfl) (n := 60) Tryd.func18 ?_
  intro ⟨_, ⟨_, _, G, K, Ho, pe⟩, ⟨r, c, p, _, _⟩, oe, ⟨l, oe2, ep⟩, ⟨qe, fr, n, ov⟩, ⟨xs, m, qe2⟩, ⟨pl, pn, pe2⟩⟩ hφ
  obtain ⟨⟨rfl, rfl, rfl, rfl, rfl, hI⟩, hp⟩ := id hφ
  refine kcast (B := (rq (pe.beq pe && true && pl.length.beq pl.length) ((SV.v (Value.string (bytesOf pl)) = SV.v (Value.string (bytesOf pl)) ∧ True) ∧ (SV.p (1
        : Nat) (0 : Nat) = SV.p (1 : Nat) (0 : Nat) ∧ SV.p (4 : Nat) (0 : Nat) = SV.p (4 : Nat) (0 : Nat) ∧ SV.v (Value.bool G) = SV.v (Value.bool G) ∧ SV.v (Value.bool
        K) = SV.v (Value.bool K) ∧ SV.v (Value.bool Ho) = SV.v (Value.bool Ho) ∧ SV.h (6 : Nat) [pe, (0 : Nat)] = SV.h (6 : Nat) [pe, (0 : Nat)] ∧ True) ∧ (SV.v
        (Value.int IntKind.i64 r) = SV.v (Value.int IntKind.i64 r) ∧ SV.v (Value.int IntKind.i64 c) = SV.v (Value.int IntKind.i64 c) ∧ SV.v (Value.bool false) = SV.v
        (Value.bool false) ∧ SV.p (2 : Nat) (0 : Nat) = SV.p (2 : Nat) (0 : Nat) ∧ True) ∧ (SV.h (3 : Nat) [oe, (0 : Nat)] = SV.h (3 : Nat) [oe, (0 : Nat)] ∧ True) ∧
        (oe = oe ∧ ep = ep ∧ l = l) ∧ (SV.h (5 : Nat) [qe, (0 : Nat)] = SV.h (5 : Nat) [qe, (0 : Nat)] ∧ SV.v (Value.int IntKind.i64 fr) = SV.v (Value.int IntKind.i64
        fr) ∧ SV.v (Value.int IntKind.i64 n) = SV.v (Value.int IntKind.i64 n) ∧ SV.v (Value.bool ov) = SV.v (Value.bool ov) ∧ True) ∧ (m = m ∧ qe = qe ∧ xs = xs) ∧
        (pl.length = pl.length ∧ pe = pe ∧ pl = pl) ∧ True))) (by kernel_rfl) ?_
  simp [nbeq, rq_iff]
theorem newL_gridF (R C : Nat) (x : C4) : newL R C x = gridF R C fun _ _ => x := by
  unfold newL gridF
  apply List.ext_getElem
  · simp
  · intro i h1 h2
    simp only [List.getElem_replicate, List.getElem_map]
    apply List.ext_getElem <;> simp
theorem newL_gw {R D : Nat} {x : C4} (h0 : 1 ≤ R) (h1 : R ≤ 255) (h2 : 1 ≤ D) (h3 : D ≤ 255) : GW (newL R D x) := by rw [newL_gridF]; exact gridF_gw h0 h1 h2 h3
theorem newL_length (R D : Nat) (x : C4) : (newL R D x).length = R := by rw [newL_gridF, gridF_length]
theorem newL_nC {R D : Nat} {x : C4} (h0 : 1 ≤ R) : nC (newL R D x) = D := by rw [newL_gridF]; exact gridF_nC (by omega)
def newT (a b m : Int) : Tm := ⟨0, 0, newL a.toNat b.toNat blankC, a.toNat + 1, false, false, false, 0, false, List.replicate m.toNat 0, 0, []⟩
theorem newT_ti {a b m : Int} (hm : mayB a b = true) (h0 : 0 ≤ m) (h1 : m ≤ 4096) : TI 0 m.toNat (newT a b m) := by
  have hb := mayB_iff.1 hm
  have e1 := newL_length a.toNat b.toNat blankC
  have e2 := newL_nC (R := a.toNat) (D := b.toNat) (x := blankC) (by omega)
  refine ⟨newL_gw (by omega) (by omega) (by omega) (by omega), Int.le_refl 0, ?_, Int.le_refl 0, ?_, ⟨by simp [newT], by omega, Int.le_refl 0, by omega, Int.le_refl 0, by simp only [newT]; omega, fun x hx => ?_⟩, by simp [newT], fun x hx => by simp [newT] at hx⟩
  · simp only [newT]; rw [e1]; omega
  · simp only [newT]; rw [e2]; omega
  · simp only [newT, List.mem_replicate] at hx; omega
def tabW12 : List (Nat × ACon Unit) := (10, lcMade) :: (11, lcTFeed) :: (13, lcSAt) :: (12, lcCur) :: []
theorem tabW12_ok : LCs Tryd.prog tabW12 := ⟨ok_made, ok_tFeed, ok_sAt, ok_cur, trivial⟩
def lcAwake : ACon Unit := mkLC (decP shNil shHNil) fun _ => .one (.v (.bool true)) [] []
set_option maxHeartbeats 4000000 in
theorem ok_awake : ∀ I : Sym.Inv Unit, LCOk I Tryd.prog 9 lcAwake := by
  refine lc_mk (fun _ => allCfg Tryd.prog [] tabW12 0) (fun _ _ => allCfg_ok mixed trivial tabW12_ok) (fun _ => rfl) (n := 80) Tryd.func9 ?_
  intro ⟨_, _⟩ hφ
  refine kcast (B := (true = true ∧ (true = true ∧ II (0 : Int) ≤ (10 : Int) ∧ II (10 : Int) ≤ (4096 : Int)) ∧ true = true ∧ (TA (((), (), false, false, false,
        (0 : Nat)), ((0 : Int), (0 : Int), false, (), ()), (11 : Nat), RC.mk (newL (10 : Nat) (20 : Nat) blankC) (11 : Nat) (11 : Nat), ((0 : Nat), (0 : Int), (0 :
        Int), false), OI.mk (LI [(0 : Int), (0 : Int), (0 : Int), (0 : Int), (0 : Int), (0 : Int), (0 : Int), (0 : Int), (0 : Int), (0 : Int)]) (10 : Nat) (0 : Nat),
        OI.mk (LI []) (0 : Nat) (0 : Nat)) ∧ (5 : Nat) ≤ (1099511627776 : Nat)) ∧ true = true ∧ ((11 : Nat) = (11 : Nat) ∧ GW [[blankC, blankC, blankC, blankC, blankC,
        blankC, blankC, blankC, blankC, blankC, blankC, blankC, blankC, blankC, blankC, blankC, blankC, blankC, blankC, blankC], [blankC, blankC, blankC, blankC,
        blankC, blankC, blankC, blankC, blankC, blankC, blankC, blankC, blankC, blankC, blankC, blankC, blankC, blankC, blankC, blankC], [blankC, blankC, blankC,
        blankC, blankC, blankC, blankC, blankC, blankC, blankC, blankC, blankC, blankC, blankC, blankC, blankC, blankC, blankC, blankC, blankC], [blankC, blankC,
        blankC, blankC, blankC, C4.mk (120 : Int) (0 : Int) false (0 : Int), blankC, blankC, blankC, blankC, blankC, blankC, blankC, blankC, blankC, blankC, blankC,
        blankC, blankC, blankC], [blankC, blankC, blankC, blankC, blankC, blankC, blankC, blankC, blankC, blankC, blankC, blankC, blankC, blankC, blankC, blankC,
        blankC, blankC, blankC, blankC], [blankC, blankC, blankC, blankC, blankC, blankC, blankC, blankC, blankC, blankC, blankC, blankC, blankC, blankC, blankC,
        blankC, blankC, blankC, blankC, blankC], [blankC, blankC, blankC, blankC, blankC, blankC, blankC, blankC, blankC, blankC, blankC, blankC, blankC, blankC,
        blankC, blankC, blankC, blankC, blankC, blankC], [blankC, blankC, blankC, blankC, blankC, blankC, blankC, blankC, blankC, blankC, blankC, blankC, blankC,
        blankC, blankC, blankC, blankC, blankC, blankC, blankC], [blankC, blankC, blankC, blankC, blankC, blankC, blankC, blankC, blankC, blankC, blankC, blankC,
        blankC, blankC, blankC, blankC, blankC, blankC, blankC, blankC], [blankC, blankC, blankC, blankC, blankC, blankC, blankC, blankC, blankC, blankC, blankC,
        blankC, blankC, blankC, blankC, blankC, blankC, blankC, blankC, blankC]] ∧ true = true) ∧ true = true ∧ (SV.v (Value.bool true) = SV.v (Value.bool true) ∧ True)
        ∧ True)) (by kernel_rfl) ?_
  have hT : TA (((), (), false, false, false, 0), (0, 0, false, (), ()), 11, RC.mk (newL 10 20 blankC) 11 11, (0, 0, 0, false), OI.mk [0, 0, 0, 0, 0, 0, 0, 0, 0, 0] 10 0, OI.mk [] 0 0) := ⟨rfl, rfl, rfl, rfl, rfl, newT_ti (a := 10) (b := 20) (m := 10) (by decide) (by decide) (by decide)⟩
  refine ⟨rfl, ⟨rfl, by decide, by decide⟩, rfl, ⟨hT, by decide⟩, rfl, ⟨rfl, ⟨by decide, by decide, by decide, by decide, by decide⟩, rfl⟩, rfl, ⟨rfl, trivial⟩, trivial⟩
section
variable {m : Nat} {fr : Int}
theorem esc1 (S : Tm) : byT m fr S 27 = { S with pl := [27], pe := S.pe + 1 } := by
  unfold byT
  rw [if_neg (fun h => by omega), if_pos rfl]
theorem esc2 (S : Tm) {b : Int} (h0 : b ≠ 27) (h1 : b ≠ 89) : feedT m fr S [27, b] = twoT m fr { S with pl := [], pe := S.pe + 3 } b := by
  show byT m fr (byT m fr S 27) b = _
  rw [esc1]
  unfold byT
  rw [if_neg (fun h => by simp at h), if_neg h0, if_pos (by simp)]
  unfold sqT
  rw [if_neg (fun h => by rcases h with ⟨_, h⟩ | h <;> simp_all)]
  exact if_pos rfl
end
def tabL12 : List (Nat × ACon Unit) := (9, lcAwake) :: tabW12
theorem tabL12_ok : LCs Tryd.prog tabL12 := ⟨ok_awake, tabW12_ok⟩
def wOf (st : St Unit) (slot : Nat) : Nat := match st.tm[slot]? with
  | some (.p b _) => b - 11
  | _ => 0
def tmOf (w : Nat) (H : List (SB Unit)) : Option Tm :=
  match H[w + 10]?, H[w + 7]?, H[w + 4]?, H[w + 9]?, H[w + 8]?, H[w + 12]? with
  | some (.cells [_, _, .v (.bool G), .v (.bool K), .v (.bool Ho), .h _ [pe, _]] _), some (.cells [.v (.int _ r), .v (.int _ c), _, _, _] _), some (.rows (.c l) _ _ _ ep _), some (.cells [_, _, .v (.int _ n), .v (.bool ov)] _), some (.own (.ints _ xs) _ _ _ _ _), some (.own (.ints _ pl) _ _ _ _ _) =>
    some ⟨r, c, l, ep, G, K, Ho, n, ov, xs, pe, pl⟩
  | _, _, _, _, _, _ => none
def wmI (w oe qe m : Nat) (fr : Int) (s : Tm) : List (Nat × SB Unit) := [(w + 10, .cells [.p (w + 7) 0, .p (w + 9) 0, .v (.bool s.G), .v (.bool s.K), .v (.bool s.Ho), .h (w + 12) [s.pe, 0]] 69),
  (w + 7, .cells [.v (.int .i64 s.r), .v (.int .i64 s.c), .v (.bool false), .p (w + 3) 0, .any] 80), (w + 4, .rows (.c s.l) 40 47 oe s.ep none),
  (w + 9, .cells [.h (w + 8) [qe, 0], .v (.int .i64 fr), .v (.int .i64 s.n), .v (.bool s.ov)] 96), (w + 8, .own (.ints .u8 s.xs) m 5 1 qe true), (w + 12, .own (.ints .u8 s.pl) s.pl.length 5 1 s.pe false)]
theorem tm_eta (y : Tm) : Tm.mk y.r y.c y.l y.ep y.G y.K y.Ho y.n y.ov y.xs y.pe y.pl = y := rfl
end Go.Proofs.YtcbjgpkbfmmdpaaDoor
namespace Go.Proofs.YtcbjgpkbfmmdpaaDoor
open Go Go.Sym
def PC (l : List (List C4)) : Prop := ∀ r c : Nat, r < l.length → c < nC l → (fn l r c).a = 0 ∧ (fn l r c).gd = false ∧ (fn l r c).m = 0
section
variable {fr : Int} {m : Nat} {s : Tm} {l : List (List C4)}
theorem pc_set (hg : GW l) {r c g : Int} (h0 : 0 ≤ r) (h1 : r < l.length) (h2 : 0 ≤ c) (h3 : c < nC l) (h : PC l) : PC (set2 l r c ⟨g, 0, false, 0⟩) := by
  have hr0 := hg.r0
  rw [set2_eq hg h0 h1 h2 h3]
  intro x y hx hy
  rw [gridF_length] at hx
  rw [gridF_nC (by omega)] at hy
  rw [fn_gridF hx hy]
  unfold setF
  split
  · exact ⟨rfl, rfl, rfl⟩
  · exact h x y hx hy
theorem pc_up (hg : GW l) (n : Int) (h : PC l) : PC (upF l n blankC) := by
  obtain ⟨g1, g2, g3⟩ := upF_gw hg n blankC
  intro x y hx hy
  rw [g2] at hx
  rw [g3] at hy
  rw [upF_at hg hx hy]
  unfold rollF
  rw [if_pos (by omega)]
  split
  · exact h _ _ (by omega) hy
  · exact ⟨rfl, rfl, rfl⟩
theorem pc_wi (hg : GW l) (a b c d : Int) (h : PC l) : PC (wiL l a b c d blankC false) := by
  have hr0 := hg.r0
  unfold wiL
  split
  · intro x y hx hy
    rw [turnL_length] at hx
    rw [turnL_nC hg] at hy
    rw [show fn (turnL l a b c d (hWipe blankC false)) x y = _ from turnL_at hx hy]
    unfold tuX
    split
    · exact ⟨rfl, rfl, rfl⟩
    · exact h x y hx hy
  · exact h
theorem pc_ite {p : Prop} [Decidable p] {a b : Tm} (ha : PC a.l) (hb : PC b.l) : PC (if p then a else b).l := by
  split
  · exact ha
  · exact hb
theorem pc_two (h : TI fr m s) (hp : PC s.l) (b : Int) : PC (twoT m fr s b).l := by
  unfold twoT
  repeat' (refine pc_ite ?_ ?_)
  all_goals first
    | exact hp
    | exact pc_wi h.gw _ _ _ _ hp
    | skip
  · unfold ixT
    simp only
    split
    · exact pc_up h.gw _ hp
    · exact hp
theorem pc_by (h : TI fr m s) (hp : PC s.l) {b : Int} (hb : 0 ≤ b ∧ b ≤ 255) : PC (byT m fr s b).l := by
  unfold byT
  refine pc_ite hp (pc_ite hp (pc_ite ?_ (pc_ite ?_ ?_)))
  · unfold sqT
    exact pc_ite hp (pc_ite (pc_two (s := { s with pl := [], pe := s.pe + 2 }) (tp_nil h _).ti hp b) hp)
  · exact pc_set h.gw h.r0 h.r1 h.c0 h.c1 hp
  · unfold ctT
    refine pc_ite hp (pc_ite hp (pc_ite ?_ (pc_ite hp hp)))
    unfold fdT
    simp only
    split
    · exact pc_up h.gw _ hp
    · exact hp
end
theorem pc_feed {fr : Int} {m : Nat} : ∀ (bs : List Int) {s : Tm}, TI fr m s → byteR bs → PC s.l → PC (feedT m fr s bs).l
  | [], s, _, _, hp => hp
  | b :: bs, s, h, hb, hp => by
    have hb0 := hb b List.mem_cons_self
    exact pc_feed bs (tp_by h hb0).ti (fun x hx => hb x (List.mem_cons_of_mem _ hx)) (pc_by h hp hb0)
theorem pc_new (a b m : Int) : PC (newT a b m).l := by
  show PC (newL a.toNat b.toNat blankC)
  rw [newL_gridF]
  intro x y hx hy
  rw [gridF_length] at hx
  rw [gridF_nC (by omega)] at hy
  rw [fn_gridF hx hy]
  exact ⟨rfl, rfl, rfl⟩
end Go.Proofs.YtcbjgpkbfmmdpaaDoor
namespace Go.Proofs.YtcbjgpkbfmmdpaaDoor
open Go Go.Sym
theorem at2_set2s {l : List (List C4)} (hg : GW l) {w a : Int} {x : C4} (hw : 0 ≤ w) (hw2 : w < l.length) (ha : 0 ≤ a) (hb : a < nC l) : at2 (set2 l w a x) w a = x := by
  rw [set2_eq hg hw hw2 ha hb]
  obtain ⟨i, rfl⟩ : ∃ i : Nat, w = i := ⟨w.toNat, by omega⟩
  obtain ⟨k, rfl⟩ : ∃ k : Nat, a = k := ⟨a.toNat, by omega⟩
  rw [gridF_at (by omega) (by omega)]
  unfold setF
  rw [if_pos ⟨rfl, rfl⟩]
theorem here_plain {m : Nat} {fr : Int} {S : Tm} (h : TI fr m S) (hp : S.pl = []) : at2 (feedT m fr S [27, 71, 126]).l S.r S.c = ⟨126, 0, false, 0⟩ := by
  have hh := (tp_feed (m := m) (fr := fr) [27, 71] h (fun x hx => by simp at hx; omega)).ti
  rw [show ([27, 71, 126] : List Int) = [27, 71] ++ [126] from rfl, feedT_append]
  have e : feedT m fr S [27, 71] = { S with G := false, pl := [], pe := S.pe + 3 } := by rw [esc2 _ (by decide) (by decide)]; simp [twoT]
  rw [e] at hh ⊢
  rw [show ∀ T : Tm, feedT m fr T [126] = byT m fr T 126 from fun _ => rfl]
  unfold byT
  rw [if_neg (fun h => by omega), if_neg (by omega), if_neg (by simp), if_pos (by omega)]
  show at2 (set2 S.l S.r S.c ⟨ofT 1 126, 0, false, 0⟩) S.r S.c = _
  rw [at2_set2s h.gw h.r0 h.r1 h.c0 h.c1]
  rfl
theorem empty_of {u : ByteArray} (h : (u.toList == (ByteArray.mk #[]).toList) = true) : u = ByteArray.empty := by
  simp [ByteArray.toList_eq] at h
  exact ByteArray.ext h
theorem bytesOf_size (l : List Int) : (bytesOf l).size = l.length := by
  simp [bytesOf, ByteArray.size]
theorem bytesL_one {t : ByteArray} {i : Int} (h0 : 0 ≤ i) (h1 : i < t.size) : bytesL (t.extract i.toNat (i + 1).toNat) = [byteAt t i.toNat] := by
  have e := bytesL_take_succ h0 h1
  have hl : (bytesL (t.extract i.toNat (i + 1).toNat)) = ((bytesL t).take (i + 1).toNat).drop i.toNat := by
    simp [bytesL, ByteArray.data_extract, List.extract, List.map_drop, List.drop_take]
  rw [hl, e, List.drop_append_of_le_length (by rw [List.length_take, bytesL_length]; omega), List.drop_eq_nil_of_le (by rw [List.length_take]; omega), List.nil_append]
def annB1 (a b : Int) (t : ByteArray) : Ann Unit where
  α := Int × Tm
  φ _ x := 0 ≤ x.1 ∧ x.1 ≤ t.size ∧ x.2 = feedT 50 0 (newT a b 50) ((bytesL t).take x.1.toNat)
  μ _ x := (t.size - x.1).toNat
  get st := match getI st.tm 9, tmOf (wOf st 7) st.H with
    | some i, some s => some (i, s)
    | _, _ => none
  f st x := tmpl [1, 2, 3, 6, 7] [(9, .v (.int .i64 x.1))] (wmI (wOf st 7) (a.toNat + 1) 0 50 0 x.2) st
def annB2 (a b : Int) (t : ByteArray) : Ann Unit where
  α := Tm
  φ st s := match getI st.tm 9 with
    | some i => s = feedT 50 0 (newT a b 50) ((bytesL t).take (i + 1).toNat)
    | none => True
  μ _ _ := 0
  get st := tmOf (wOf st 7) st.H
  f st s := tmpl [1, 2, 3, 6, 7, 9] [] (wmI (wOf st 7) (a.toNat + 1) 0 50 0 s) st
def annRw (keep : List Nat) (slot : Nat) (N : Int) : Ann Unit where
  α := Int
  φ _ i := 0 ≤ i ∧ i ≤ N
  μ _ i := (N - i).toNat
  get st := getI st.tm slot
  f st i := tmpl keep [(slot, .v (.int .i64 i))] [] st
def tabO12 : List (Nat × ACon Unit) := (14, lcSRows) :: (19, lcTDrop) :: (18, lcTPend) :: tabL12
theorem tabO12_ok : LCs Tryd.prog tabO12 := ⟨ok_sRows, ok_tDrop, ok_tPend, tabL12_ok⟩
noncomputable def cfgO (a b : Int) (t u : ByteArray) : Cfg Unit := allCfg Tryd.prog [] tabO12 0
  [(516, annB1 a b t), (1028, annRw [1, 2, 3, 6, 7, 12] 13 a), (1223, annRw [1, 2, 3, 6, 7, 12, 13] 14 b)] [(650, annB2 a b t)]
theorem cfgO_ok (a b : Int) (t u : ByteArray) (I : Sym.Inv Unit) : CfgOk I (cfgO a b t u) := allCfg_ok mixed trivial tabO12_ok
set_option maxHeartbeats 4000000 in
theorem run_bounds (a b : Int) (t u : ByteArray) : Sym.Ask (bodyK Tryd.prog (run (cfgO a b t u) 100) Tryd.f6 [.a [.v (.int .i64 a), .v (.int .i64 b)], .v (.string t), .v (.string u)] [] (fun y _ => y = .v (.bool true))) := by
  refine kcast (B := (br (decide (a ≥ (1 : Int))) (br (decide (a ≤ (30 : Int))) (br (decide (b ≥ (1 : Int))) (br (!decide (b ≤ (40 : Int))) (true = true ∧ SV.v (Value.bool true) = SV.v (Value.bool true)) (br (decide ((↑t.size : Int) > (600 : Int)))
   (true = true ∧ SV.v (Value.bool true) = SV.v (Value.bool true)) (br (decide ((↑u.size : Int) > (100 : Int))) (true = true ∧ SV.v (Value.bool true) = SV.v (Value.bool true)) (true = true ∧ (mayB a b = true ∧ II (0 : Int) ≤ (50 : Int) ∧ II (50 : Int) ≤
   (4096 : Int)) ∧ (II (0 : Int) ≤ (0 : Int) ∧ (0 : Int) ≤ (↑t.size : Int) ∧ Tm.mk (0 : Int) (0 : Int) (newL a.toNat b.toNat blankC) (a.toNat + (1 : Nat)) false false false (0 : Int) false (LI [(0 : Int), (0 : Int), (0 : Int), (0 : Int), (0 : Int), (0 :
   Int), (0 : Int), (0 : Int), (0 : Int), (0 : Int), (0 : Int), (0 : Int), (0 : Int), (0 : Int), (0 : Int), (0 : Int), (0 : Int), (0 : Int), (0 : Int), (0 : Int), (0 : Int), (0 : Int), (0 : Int), (0 : Int), (0 : Int), (0 : Int), (0 : Int), (0 : Int), (0
   : Int), (0 : Int), (0 : Int), (0 : Int), (0 : Int), (0 : Int), (0 : Int), (0 : Int), (0 : Int), (0 : Int), (0 : Int), (0 : Int), (0 : Int), (0 : Int), (0 : Int), (0 : Int), (0 : Int), (0 : Int), (0 : Int), (0 : Int), (0 : Int), (0 : Int)]) (0 : Nat)
   (LI []) = feedT (50 : Nat) (0 : Int) (newT a b (50 : Int)) (List.take (Int.toNat (0 : Int)) (bytesL t))) ∧ ((SV.v (Value.string t) = SV.v (Value.string t) ∧ SV.v (Value.string u) = SV.v (Value.string u) ∧ SV.p (0 : Nat) (0 : Nat) = SV.p (0 : Nat) (0
   : Nat) ∧ SV.v (Value.bool false) = SV.v (Value.bool false) ∧ SV.p (13 : Nat) (0 : Nat) = SV.p (13 : Nat) (0 : Nat) ∧ SV.v (Value.int IntKind.i64 (0 : Int)) = SV.v (Value.int IntKind.i64 (0 : Int)) ∧ True) ∧ (SV.v (Value.int IntKind.i64 a) = SV.v
   (Value.int IntKind.i64 a) ∧ SV.v (Value.int IntKind.i64 b) = SV.v (Value.int IntKind.i64 b) ∧ True) ∧ (SV.v (Value.int IntKind.i64 a) = SV.v (Value.int IntKind.i64 a) ∧ SV.v (Value.int IntKind.i64 b) = SV.v (Value.int IntKind.i64 b) ∧ True) ∧ True ∧
   True ∧ True ∧ (SV.h (6 : Nat) [a.toNat + (1 : Nat), (0 : Nat)] = SV.h (6 : Nat) [a.toNat + (1 : Nat), (0 : Nat)] ∧ True) ∧ (a.toNat + (1 : Nat) = a.toNat + (1 : Nat) ∧ a.toNat + (1 : Nat) = a.toNat + (1 : Nat) ∧ newL a.toNat b.toNat blankC = newL
   a.toNat b.toNat blankC) ∧ True ∧ True ∧ (SV.v (Value.int IntKind.i64 (0 : Int)) = SV.v (Value.int IntKind.i64 (0 : Int)) ∧ SV.v (Value.int IntKind.i64 (0 : Int)) = SV.v (Value.int IntKind.i64 (0 : Int)) ∧ SV.v (Value.bool false) = SV.v (Value.bool
   false) ∧ SV.p (5 : Nat) (0 : Nat) = SV.p (5 : Nat) (0 : Nat) ∧ True) ∧ ((50 : Nat) = (50 : Nat) ∧ (0 : Nat) = (0 : Nat) ∧ LI [(0 : Int), (0 : Int), (0 : Int), (0 : Int), (0 : Int), (0 : Int), (0 : Int), (0 : Int), (0 : Int), (0 : Int), (0 : Int), (0
   : Int), (0 : Int), (0 : Int), (0 : Int), (0 : Int), (0 : Int), (0 : Int), (0 : Int), (0 : Int), (0 : Int), (0 : Int), (0 : Int), (0 : Int), (0 : Int), (0 : Int), (0 : Int), (0 : Int), (0 : Int), (0 : Int), (0 : Int), (0 : Int), (0 : Int), (0 : Int),
   (0 : Int), (0 : Int), (0 : Int), (0 : Int), (0 : Int), (0 : Int), (0 : Int), (0 : Int), (0 : Int), (0 : Int), (0 : Int), (0 : Int), (0 : Int), (0 : Int), (0 : Int), (0 : Int)] = LI [(0 : Int), (0 : Int), (0 : Int), (0 : Int), (0 : Int), (0 : Int), (0
   : Int), (0 : Int), (0 : Int), (0 : Int), (0 : Int), (0 : Int), (0 : Int), (0 : Int), (0 : Int), (0 : Int), (0 : Int), (0 : Int), (0 : Int), (0 : Int), (0 : Int), (0 : Int), (0 : Int), (0 : Int), (0 : Int), (0 : Int), (0 : Int), (0 : Int), (0 : Int),
   (0 : Int), (0 : Int), (0 : Int), (0 : Int), (0 : Int), (0 : Int), (0 : Int), (0 : Int), (0 : Int), (0 : Int), (0 : Int), (0 : Int), (0 : Int), (0 : Int), (0 : Int), (0 : Int), (0 : Int), (0 : Int), (0 : Int), (0 : Int), (0 : Int)]) ∧ (SV.h (10 : Nat)
   [(0 : Nat), (0 : Nat)] = SV.h (10 : Nat) [(0 : Nat), (0 : Nat)] ∧ SV.v (Value.int IntKind.i64 (0 : Int)) = SV.v (Value.int IntKind.i64 (0 : Int)) ∧ SV.v (Value.int IntKind.i64 (0 : Int)) = SV.v (Value.int IntKind.i64 (0 : Int)) ∧ SV.v (Value.bool
   false) = SV.v (Value.bool false) ∧ True) ∧ (SV.p (9 : Nat) (0 : Nat) = SV.p (9 : Nat) (0 : Nat) ∧ SV.p (11 : Nat) (0 : Nat) = SV.p (11 : Nat) (0 : Nat) ∧ SV.v (Value.bool false) = SV.v (Value.bool false) ∧ SV.v (Value.bool false) = SV.v (Value.bool
   false) ∧ SV.v (Value.bool false) = SV.v (Value.bool false) ∧ SV.h (14 : Nat) [(0 : Nat), (0 : Nat)] = SV.h (14 : Nat) [(0 : Nat), (0 : Nat)] ∧ True) ∧ (SV.p (9 : Nat) (0 : Nat) = SV.p (9 : Nat) (0 : Nat) ∧ SV.p (11 : Nat) (0 : Nat) = SV.p (11 : Nat)
   (0 : Nat) ∧ SV.p (12 : Nat) (0 : Nat) = SV.p (12 : Nat) (0 : Nat) ∧ True) ∧ ((0 : Nat) = (LI []).length ∧ (0 : Nat) = (0 : Nat) ∧ LI [] = LI []) ∧ True) ∧ ∀ (x : Int × Tm), (0 : Int) ≤ x.fst ∧ x.fst ≤ (↑t.size : Int) ∧ x.snd = feedT (50 : Nat) (0 :
   Int) (newT a b (50 : Int)) (List.take x.fst.toNat (bytesL t)) → br (decide (x.fst < (↑t.size : Int))) (rq (decide ((0 : Int) ≤ x.fst ∧ x.fst ≤ IntKind.i64.wrap (x.fst + (1 : Int)) ∧ IntKind.i64.wrap (x.fst + (1 : Int)) ≤ (↑t.size : Int))) (true =
   true ∧ (TA (((), (), x.snd.G, x.snd.K, x.snd.Ho, x.snd.pe), (x.snd.r, x.snd.c, false, (), ()), a.toNat + (1 : Nat), RC.mk x.snd.l (a.toNat + (1 : Nat)) x.snd.ep, ((0 : Nat), (0 : Int), x.snd.n, x.snd.ov), OI.mk x.snd.xs (50 : Nat) (0 : Nat), OI.mk
   x.snd.pl x.snd.pl.length x.snd.pe) ∧ (t.extract x.fst.toNat (IntKind.i64.wrap (x.fst + (1 : Int))).toNat).size ≤ (1099511627776 : Nat)) ∧ Tm.mk (fdX (((), (), x.snd.G, x.snd.K, x.snd.Ho, x.snd.pe), (x.snd.r, x.snd.c, false, (), ()), a.toNat + (1 :
   Nat), RC.mk x.snd.l (a.toNat + (1 : Nat)) x.snd.ep, ((0 : Nat), (0 : Int), x.snd.n, x.snd.ov), OI.mk x.snd.xs (50 : Nat) (0 : Nat), OI.mk x.snd.pl x.snd.pl.length x.snd.pe) (t.extract x.fst.toNat (IntKind.i64.wrap (x.fst + (1 : Int))).toNat)).r (fdX
   (((), (), x.snd.G, x.snd.K, x.snd.Ho, x.snd.pe), (x.snd.r, x.snd.c, false, (), ()), a.toNat + (1 : Nat), RC.mk x.snd.l (a.toNat + (1 : Nat)) x.snd.ep, ((0 : Nat), (0 : Int), x.snd.n, x.snd.ov), OI.mk x.snd.xs (50 : Nat) (0 : Nat), OI.mk x.snd.pl
   x.snd.pl.length x.snd.pe) (t.extract x.fst.toNat (IntKind.i64.wrap (x.fst + (1 : Int))).toNat)).c (fdX (((), (), x.snd.G, x.snd.K, x.snd.Ho, x.snd.pe), (x.snd.r, x.snd.c, false, (), ()), a.toNat + (1 : Nat), RC.mk x.snd.l (a.toNat + (1 : Nat))
   x.snd.ep, ((0 : Nat), (0 : Int), x.snd.n, x.snd.ov), OI.mk x.snd.xs (50 : Nat) (0 : Nat), OI.mk x.snd.pl x.snd.pl.length x.snd.pe) (t.extract x.fst.toNat (IntKind.i64.wrap (x.fst + (1 : Int))).toNat)).l (fdX (((), (), x.snd.G, x.snd.K, x.snd.Ho,
   x.snd.pe), (x.snd.r, x.snd.c, false, (), ()), a.toNat + (1 : Nat), RC.mk x.snd.l (a.toNat + (1 : Nat)) x.snd.ep, ((0 : Nat), (0 : Int), x.snd.n, x.snd.ov), OI.mk x.snd.xs (50 : Nat) (0 : Nat), OI.mk x.snd.pl x.snd.pl.length x.snd.pe) (t.extract
   x.fst.toNat (IntKind.i64.wrap (x.fst + (1 : Int))).toNat)).ep (fdX (((), (), x.snd.G, x.snd.K, x.snd.Ho, x.snd.pe), (x.snd.r, x.snd.c, false, (), ()), a.toNat + (1 : Nat), RC.mk x.snd.l (a.toNat + (1 : Nat)) x.snd.ep, ((0 : Nat), (0 : Int), x.snd.n,
   x.snd.ov), OI.mk x.snd.xs (50 : Nat) (0 : Nat), OI.mk x.snd.pl x.snd.pl.length x.snd.pe) (t.extract x.fst.toNat (IntKind.i64.wrap (x.fst + (1 : Int))).toNat)).G (fdX (((), (), x.snd.G, x.snd.K, x.snd.Ho, x.snd.pe), (x.snd.r, x.snd.c, false, (), ()),
   a.toNat + (1 : Nat), RC.mk x.snd.l (a.toNat + (1 : Nat)) x.snd.ep, ((0 : Nat), (0 : Int), x.snd.n, x.snd.ov), OI.mk x.snd.xs (50 : Nat) (0 : Nat), OI.mk x.snd.pl x.snd.pl.length x.snd.pe) (t.extract x.fst.toNat (IntKind.i64.wrap (x.fst + (1 :
   Int))).toNat)).K (fdX (((), (), x.snd.G, x.snd.K, x.snd.Ho, x.snd.pe), (x.snd.r, x.snd.c, false, (), ()), a.toNat + (1 : Nat), RC.mk x.snd.l (a.toNat + (1 : Nat)) x.snd.ep, ((0 : Nat), (0 : Int), x.snd.n, x.snd.ov), OI.mk x.snd.xs (50 : Nat) (0 :
   Nat), OI.mk x.snd.pl x.snd.pl.length x.snd.pe) (t.extract x.fst.toNat (IntKind.i64.wrap (x.fst + (1 : Int))).toNat)).Ho (fdX (((), (), x.snd.G, x.snd.K, x.snd.Ho, x.snd.pe), (x.snd.r, x.snd.c, false, (), ()), a.toNat + (1 : Nat), RC.mk x.snd.l
   (a.toNat + (1 : Nat)) x.snd.ep, ((0 : Nat), (0 : Int), x.snd.n, x.snd.ov), OI.mk x.snd.xs (50 : Nat) (0 : Nat), OI.mk x.snd.pl x.snd.pl.length x.snd.pe) (t.extract x.fst.toNat (IntKind.i64.wrap (x.fst + (1 : Int))).toNat)).n (fdX (((), (), x.snd.G,
   x.snd.K, x.snd.Ho, x.snd.pe), (x.snd.r, x.snd.c, false, (), ()), a.toNat + (1 : Nat), RC.mk x.snd.l (a.toNat + (1 : Nat)) x.snd.ep, ((0 : Nat), (0 : Int), x.snd.n, x.snd.ov), OI.mk x.snd.xs (50 : Nat) (0 : Nat), OI.mk x.snd.pl x.snd.pl.length
   x.snd.pe) (t.extract x.fst.toNat (IntKind.i64.wrap (x.fst + (1 : Int))).toNat)).ov (fdX (((), (), x.snd.G, x.snd.K, x.snd.Ho, x.snd.pe), (x.snd.r, x.snd.c, false, (), ()), a.toNat + (1 : Nat), RC.mk x.snd.l (a.toNat + (1 : Nat)) x.snd.ep, ((0 : Nat),
   (0 : Int), x.snd.n, x.snd.ov), OI.mk x.snd.xs (50 : Nat) (0 : Nat), OI.mk x.snd.pl x.snd.pl.length x.snd.pe) (t.extract x.fst.toNat (IntKind.i64.wrap (x.fst + (1 : Int))).toNat)).xs (fdX (((), (), x.snd.G, x.snd.K, x.snd.Ho, x.snd.pe), (x.snd.r,
   x.snd.c, false, (), ()), a.toNat + (1 : Nat), RC.mk x.snd.l (a.toNat + (1 : Nat)) x.snd.ep, ((0 : Nat), (0 : Int), x.snd.n, x.snd.ov), OI.mk x.snd.xs (50 : Nat) (0 : Nat), OI.mk x.snd.pl x.snd.pl.length x.snd.pe) (t.extract x.fst.toNat
   (IntKind.i64.wrap (x.fst + (1 : Int))).toNat)).pe (fdX (((), (), x.snd.G, x.snd.K, x.snd.Ho, x.snd.pe), (x.snd.r, x.snd.c, false, (), ()), a.toNat + (1 : Nat), RC.mk x.snd.l (a.toNat + (1 : Nat)) x.snd.ep, ((0 : Nat), (0 : Int), x.snd.n, x.snd.ov),
   OI.mk x.snd.xs (50 : Nat) (0 : Nat), OI.mk x.snd.pl x.snd.pl.length x.snd.pe) (t.extract x.fst.toNat (IntKind.i64.wrap (x.fst + (1 : Int))).toNat)).pl = feedT (50 : Nat) (0 : Int) (newT a b (50 : Int)) (List.take (x.fst + (1 : Int)).toNat (bytesL t))
   ∧ (SV.v (Value.string t) = SV.v (Value.string t) ∧ SV.v (Value.string u) = SV.v (Value.string u) ∧ SV.p (0 : Nat) (0 : Nat) = SV.p (0 : Nat) (0 : Nat) ∧ SV.v (Value.bool false) = SV.v (Value.bool false) ∧ SV.p (13 : Nat) (0 : Nat) = SV.p (13 : Nat)
   (0 : Nat) ∧ SV.v (Value.int IntKind.i64 x.fst) = SV.v (Value.int IntKind.i64 x.fst) ∧ True) ∧ (SV.v (Value.int IntKind.i64 a) = SV.v (Value.int IntKind.i64 a) ∧ SV.v (Value.int IntKind.i64 b) = SV.v (Value.int IntKind.i64 b) ∧ True) ∧ (SV.v
   (Value.int IntKind.i64 a) = SV.v (Value.int IntKind.i64 a) ∧ SV.v (Value.int IntKind.i64 b) = SV.v (Value.int IntKind.i64 b) ∧ True) ∧ True ∧ True ∧ True ∧ (SV.h (6 : Nat) [a.toNat + (1 : Nat), (0 : Nat)] = SV.h (6 : Nat) [a.toNat + (1 : Nat), (0 :
   Nat)] ∧ True) ∧ (a.toNat + (1 : Nat) = a.toNat + (1 : Nat) ∧ (fdX (((), (), x.snd.G, x.snd.K, x.snd.Ho, x.snd.pe), (x.snd.r, x.snd.c, false, (), ()), a.toNat + (1 : Nat), RC.mk x.snd.l (a.toNat + (1 : Nat)) x.snd.ep, ((0 : Nat), (0 : Int), x.snd.n,
   x.snd.ov), OI.mk x.snd.xs (50 : Nat) (0 : Nat), OI.mk x.snd.pl x.snd.pl.length x.snd.pe) (t.extract x.fst.toNat (IntKind.i64.wrap (x.fst + (1 : Int))).toNat)).ep = (fdX (((), (), x.snd.G, x.snd.K, x.snd.Ho, x.snd.pe), (x.snd.r, x.snd.c, false, (),
   ()), a.toNat + (1 : Nat), RC.mk x.snd.l (a.toNat + (1 : Nat)) x.snd.ep, ((0 : Nat), (0 : Int), x.snd.n, x.snd.ov), OI.mk x.snd.xs (50 : Nat) (0 : Nat), OI.mk x.snd.pl x.snd.pl.length x.snd.pe) (t.extract x.fst.toNat (IntKind.i64.wrap (x.fst + (1 :
   Int))).toNat)).ep ∧ (fdX (((), (), x.snd.G, x.snd.K, x.snd.Ho, x.snd.pe), (x.snd.r, x.snd.c, false, (), ()), a.toNat + (1 : Nat), RC.mk x.snd.l (a.toNat + (1 : Nat)) x.snd.ep, ((0 : Nat), (0 : Int), x.snd.n, x.snd.ov), OI.mk x.snd.xs (50 : Nat) (0 :
   Nat), OI.mk x.snd.pl x.snd.pl.length x.snd.pe) (t.extract x.fst.toNat (IntKind.i64.wrap (x.fst + (1 : Int))).toNat)).l = (fdX (((), (), x.snd.G, x.snd.K, x.snd.Ho, x.snd.pe), (x.snd.r, x.snd.c, false, (), ()), a.toNat + (1 : Nat), RC.mk x.snd.l
   (a.toNat + (1 : Nat)) x.snd.ep, ((0 : Nat), (0 : Int), x.snd.n, x.snd.ov), OI.mk x.snd.xs (50 : Nat) (0 : Nat), OI.mk x.snd.pl x.snd.pl.length x.snd.pe) (t.extract x.fst.toNat (IntKind.i64.wrap (x.fst + (1 : Int))).toNat)).l) ∧ True ∧ True ∧ (SV.v
   (Value.int IntKind.i64 (fdX (((), (), x.snd.G, x.snd.K, x.snd.Ho, x.snd.pe), (x.snd.r, x.snd.c, false, (), ()), a.toNat + (1 : Nat), RC.mk x.snd.l (a.toNat + (1 : Nat)) x.snd.ep, ((0 : Nat), (0 : Int), x.snd.n, x.snd.ov), OI.mk x.snd.xs (50 : Nat) (0
   : Nat), OI.mk x.snd.pl x.snd.pl.length x.snd.pe) (t.extract x.fst.toNat (IntKind.i64.wrap (x.fst + (1 : Int))).toNat)).r) = SV.v (Value.int IntKind.i64 (fdX (((), (), x.snd.G, x.snd.K, x.snd.Ho, x.snd.pe), (x.snd.r, x.snd.c, false, (), ()), a.toNat +
   (1 : Nat), RC.mk x.snd.l (a.toNat + (1 : Nat)) x.snd.ep, ((0 : Nat), (0 : Int), x.snd.n, x.snd.ov), OI.mk x.snd.xs (50 : Nat) (0 : Nat), OI.mk x.snd.pl x.snd.pl.length x.snd.pe) (t.extract x.fst.toNat (IntKind.i64.wrap (x.fst + (1 : Int))).toNat)).r)
   ∧ SV.v (Value.int IntKind.i64 (fdX (((), (), x.snd.G, x.snd.K, x.snd.Ho, x.snd.pe), (x.snd.r, x.snd.c, false, (), ()), a.toNat + (1 : Nat), RC.mk x.snd.l (a.toNat + (1 : Nat)) x.snd.ep, ((0 : Nat), (0 : Int), x.snd.n, x.snd.ov), OI.mk x.snd.xs (50 :
   Nat) (0 : Nat), OI.mk x.snd.pl x.snd.pl.length x.snd.pe) (t.extract x.fst.toNat (IntKind.i64.wrap (x.fst + (1 : Int))).toNat)).c) = SV.v (Value.int IntKind.i64 (fdX (((), (), x.snd.G, x.snd.K, x.snd.Ho, x.snd.pe), (x.snd.r, x.snd.c, false, (), ()),
   a.toNat + (1 : Nat), RC.mk x.snd.l (a.toNat + (1 : Nat)) x.snd.ep, ((0 : Nat), (0 : Int), x.snd.n, x.snd.ov), OI.mk x.snd.xs (50 : Nat) (0 : Nat), OI.mk x.snd.pl x.snd.pl.length x.snd.pe) (t.extract x.fst.toNat (IntKind.i64.wrap (x.fst + (1 :
   Int))).toNat)).c) ∧ SV.v (Value.bool false) = SV.v (Value.bool false) ∧ SV.p (5 : Nat) (0 : Nat) = SV.p (5 : Nat) (0 : Nat) ∧ True) ∧ ((50 : Nat) = (50 : Nat) ∧ (0 : Nat) = (0 : Nat) ∧ (fdX (((), (), x.snd.G, x.snd.K, x.snd.Ho, x.snd.pe), (x.snd.r,
   x.snd.c, false, (), ()), a.toNat + (1 : Nat), RC.mk x.snd.l (a.toNat + (1 : Nat)) x.snd.ep, ((0 : Nat), (0 : Int), x.snd.n, x.snd.ov), OI.mk x.snd.xs (50 : Nat) (0 : Nat), OI.mk x.snd.pl x.snd.pl.length x.snd.pe) (t.extract x.fst.toNat
   (IntKind.i64.wrap (x.fst + (1 : Int))).toNat)).xs = (fdX (((), (), x.snd.G, x.snd.K, x.snd.Ho, x.snd.pe), (x.snd.r, x.snd.c, false, (), ()), a.toNat + (1 : Nat), RC.mk x.snd.l (a.toNat + (1 : Nat)) x.snd.ep, ((0 : Nat), (0 : Int), x.snd.n, x.snd.ov),
   OI.mk x.snd.xs (50 : Nat) (0 : Nat), OI.mk x.snd.pl x.snd.pl.length x.snd.pe) (t.extract x.fst.toNat (IntKind.i64.wrap (x.fst + (1 : Int))).toNat)).xs) ∧ (SV.h (10 : Nat) [(0 : Nat), (0 : Nat)] = SV.h (10 : Nat) [(0 : Nat), (0 : Nat)] ∧ SV.v
   (Value.int IntKind.i64 (0 : Int)) = SV.v (Value.int IntKind.i64 (0 : Int)) ∧ SV.v (Value.int IntKind.i64 (fdX (((), (), x.snd.G, x.snd.K, x.snd.Ho, x.snd.pe), (x.snd.r, x.snd.c, false, (), ()), a.toNat + (1 : Nat), RC.mk x.snd.l (a.toNat + (1 : Nat))
   x.snd.ep, ((0 : Nat), (0 : Int), x.snd.n, x.snd.ov), OI.mk x.snd.xs (50 : Nat) (0 : Nat), OI.mk x.snd.pl x.snd.pl.length x.snd.pe) (t.extract x.fst.toNat (IntKind.i64.wrap (x.fst + (1 : Int))).toNat)).n) = SV.v (Value.int IntKind.i64 (fdX (((), (),
   x.snd.G, x.snd.K, x.snd.Ho, x.snd.pe), (x.snd.r, x.snd.c, false, (), ()), a.toNat + (1 : Nat), RC.mk x.snd.l (a.toNat + (1 : Nat)) x.snd.ep, ((0 : Nat), (0 : Int), x.snd.n, x.snd.ov), OI.mk x.snd.xs (50 : Nat) (0 : Nat), OI.mk x.snd.pl
   x.snd.pl.length x.snd.pe) (t.extract x.fst.toNat (IntKind.i64.wrap (x.fst + (1 : Int))).toNat)).n) ∧ SV.v (Value.bool (fdX (((), (), x.snd.G, x.snd.K, x.snd.Ho, x.snd.pe), (x.snd.r, x.snd.c, false, (), ()), a.toNat + (1 : Nat), RC.mk x.snd.l (a.toNat
   + (1 : Nat)) x.snd.ep, ((0 : Nat), (0 : Int), x.snd.n, x.snd.ov), OI.mk x.snd.xs (50 : Nat) (0 : Nat), OI.mk x.snd.pl x.snd.pl.length x.snd.pe) (t.extract x.fst.toNat (IntKind.i64.wrap (x.fst + (1 : Int))).toNat)).ov) = SV.v (Value.bool (fdX (((),
   (), x.snd.G, x.snd.K, x.snd.Ho, x.snd.pe), (x.snd.r, x.snd.c, false, (), ()), a.toNat + (1 : Nat), RC.mk x.snd.l (a.toNat + (1 : Nat)) x.snd.ep, ((0 : Nat), (0 : Int), x.snd.n, x.snd.ov), OI.mk x.snd.xs (50 : Nat) (0 : Nat), OI.mk x.snd.pl
   x.snd.pl.length x.snd.pe) (t.extract x.fst.toNat (IntKind.i64.wrap (x.fst + (1 : Int))).toNat)).ov) ∧ True) ∧ (SV.p (9 : Nat) (0 : Nat) = SV.p (9 : Nat) (0 : Nat) ∧ SV.p (11 : Nat) (0 : Nat) = SV.p (11 : Nat) (0 : Nat) ∧ SV.v (Value.bool (fdX (((),
   (), x.snd.G, x.snd.K, x.snd.Ho, x.snd.pe), (x.snd.r, x.snd.c, false, (), ()), a.toNat + (1 : Nat), RC.mk x.snd.l (a.toNat + (1 : Nat)) x.snd.ep, ((0 : Nat), (0 : Int), x.snd.n, x.snd.ov), OI.mk x.snd.xs (50 : Nat) (0 : Nat), OI.mk x.snd.pl
   x.snd.pl.length x.snd.pe) (t.extract x.fst.toNat (IntKind.i64.wrap (x.fst + (1 : Int))).toNat)).G) = SV.v (Value.bool (fdX (((), (), x.snd.G, x.snd.K, x.snd.Ho, x.snd.pe), (x.snd.r, x.snd.c, false, (), ()), a.toNat + (1 : Nat), RC.mk x.snd.l (a.toNat
   + (1 : Nat)) x.snd.ep, ((0 : Nat), (0 : Int), x.snd.n, x.snd.ov), OI.mk x.snd.xs (50 : Nat) (0 : Nat), OI.mk x.snd.pl x.snd.pl.length x.snd.pe) (t.extract x.fst.toNat (IntKind.i64.wrap (x.fst + (1 : Int))).toNat)).G) ∧ SV.v (Value.bool (fdX (((), (),
   x.snd.G, x.snd.K, x.snd.Ho, x.snd.pe), (x.snd.r, x.snd.c, false, (), ()), a.toNat + (1 : Nat), RC.mk x.snd.l (a.toNat + (1 : Nat)) x.snd.ep, ((0 : Nat), (0 : Int), x.snd.n, x.snd.ov), OI.mk x.snd.xs (50 : Nat) (0 : Nat), OI.mk x.snd.pl
   x.snd.pl.length x.snd.pe) (t.extract x.fst.toNat (IntKind.i64.wrap (x.fst + (1 : Int))).toNat)).K) = SV.v (Value.bool (fdX (((), (), x.snd.G, x.snd.K, x.snd.Ho, x.snd.pe), (x.snd.r, x.snd.c, false, (), ()), a.toNat + (1 : Nat), RC.mk x.snd.l (a.toNat
   + (1 : Nat)) x.snd.ep, ((0 : Nat), (0 : Int), x.snd.n, x.snd.ov), OI.mk x.snd.xs (50 : Nat) (0 : Nat), OI.mk x.snd.pl x.snd.pl.length x.snd.pe) (t.extract x.fst.toNat (IntKind.i64.wrap (x.fst + (1 : Int))).toNat)).K) ∧ SV.v (Value.bool (fdX (((), (),
   x.snd.G, x.snd.K, x.snd.Ho, x.snd.pe), (x.snd.r, x.snd.c, false, (), ()), a.toNat + (1 : Nat), RC.mk x.snd.l (a.toNat + (1 : Nat)) x.snd.ep, ((0 : Nat), (0 : Int), x.snd.n, x.snd.ov), OI.mk x.snd.xs (50 : Nat) (0 : Nat), OI.mk x.snd.pl
   x.snd.pl.length x.snd.pe) (t.extract x.fst.toNat (IntKind.i64.wrap (x.fst + (1 : Int))).toNat)).Ho) = SV.v (Value.bool (fdX (((), (), x.snd.G, x.snd.K, x.snd.Ho, x.snd.pe), (x.snd.r, x.snd.c, false, (), ()), a.toNat + (1 : Nat), RC.mk x.snd.l
   (a.toNat + (1 : Nat)) x.snd.ep, ((0 : Nat), (0 : Int), x.snd.n, x.snd.ov), OI.mk x.snd.xs (50 : Nat) (0 : Nat), OI.mk x.snd.pl x.snd.pl.length x.snd.pe) (t.extract x.fst.toNat (IntKind.i64.wrap (x.fst + (1 : Int))).toNat)).Ho) ∧ SV.h (14 : Nat) [(fdX
   (((), (), x.snd.G, x.snd.K, x.snd.Ho, x.snd.pe), (x.snd.r, x.snd.c, false, (), ()), a.toNat + (1 : Nat), RC.mk x.snd.l (a.toNat + (1 : Nat)) x.snd.ep, ((0 : Nat), (0 : Int), x.snd.n, x.snd.ov), OI.mk x.snd.xs (50 : Nat) (0 : Nat), OI.mk x.snd.pl
   x.snd.pl.length x.snd.pe) (t.extract x.fst.toNat (IntKind.i64.wrap (x.fst + (1 : Int))).toNat)).pe, (0 : Nat)] = SV.h (14 : Nat) [(fdX (((), (), x.snd.G, x.snd.K, x.snd.Ho, x.snd.pe), (x.snd.r, x.snd.c, false, (), ()), a.toNat + (1 : Nat), RC.mk
   x.snd.l (a.toNat + (1 : Nat)) x.snd.ep, ((0 : Nat), (0 : Int), x.snd.n, x.snd.ov), OI.mk x.snd.xs (50 : Nat) (0 : Nat), OI.mk x.snd.pl x.snd.pl.length x.snd.pe) (t.extract x.fst.toNat (IntKind.i64.wrap (x.fst + (1 : Int))).toNat)).pe, (0 : Nat)] ∧
   True) ∧ (SV.p (9 : Nat) (0 : Nat) = SV.p (9 : Nat) (0 : Nat) ∧ SV.p (11 : Nat) (0 : Nat) = SV.p (11 : Nat) (0 : Nat) ∧ SV.p (12 : Nat) (0 : Nat) = SV.p (12 : Nat) (0 : Nat) ∧ True) ∧ ((fdX (((), (), x.snd.G, x.snd.K, x.snd.Ho, x.snd.pe), (x.snd.r,
   x.snd.c, false, (), ()), a.toNat + (1 : Nat), RC.mk x.snd.l (a.toNat + (1 : Nat)) x.snd.ep, ((0 : Nat), (0 : Int), x.snd.n, x.snd.ov), OI.mk x.snd.xs (50 : Nat) (0 : Nat), OI.mk x.snd.pl x.snd.pl.length x.snd.pe) (t.extract x.fst.toNat
   (IntKind.i64.wrap (x.fst + (1 : Int))).toNat)).pl.length = (fdX (((), (), x.snd.G, x.snd.K, x.snd.Ho, x.snd.pe), (x.snd.r, x.snd.c, false, (), ()), a.toNat + (1 : Nat), RC.mk x.snd.l (a.toNat + (1 : Nat)) x.snd.ep, ((0 : Nat), (0 : Int), x.snd.n,
   x.snd.ov), OI.mk x.snd.xs (50 : Nat) (0 : Nat), OI.mk x.snd.pl x.snd.pl.length x.snd.pe) (t.extract x.fst.toNat (IntKind.i64.wrap (x.fst + (1 : Int))).toNat)).pl.length ∧ (fdX (((), (), x.snd.G, x.snd.K, x.snd.Ho, x.snd.pe), (x.snd.r, x.snd.c, false,
   (), ()), a.toNat + (1 : Nat), RC.mk x.snd.l (a.toNat + (1 : Nat)) x.snd.ep, ((0 : Nat), (0 : Int), x.snd.n, x.snd.ov), OI.mk x.snd.xs (50 : Nat) (0 : Nat), OI.mk x.snd.pl x.snd.pl.length x.snd.pe) (t.extract x.fst.toNat (IntKind.i64.wrap (x.fst + (1
   : Int))).toNat)).pe = (fdX (((), (), x.snd.G, x.snd.K, x.snd.Ho, x.snd.pe), (x.snd.r, x.snd.c, false, (), ()), a.toNat + (1 : Nat), RC.mk x.snd.l (a.toNat + (1 : Nat)) x.snd.ep, ((0 : Nat), (0 : Int), x.snd.n, x.snd.ov), OI.mk x.snd.xs (50 : Nat) (0
   : Nat), OI.mk x.snd.pl x.snd.pl.length x.snd.pe) (t.extract x.fst.toNat (IntKind.i64.wrap (x.fst + (1 : Int))).toNat)).pe ∧ (fdX (((), (), x.snd.G, x.snd.K, x.snd.Ho, x.snd.pe), (x.snd.r, x.snd.c, false, (), ()), a.toNat + (1 : Nat), RC.mk x.snd.l
   (a.toNat + (1 : Nat)) x.snd.ep, ((0 : Nat), (0 : Int), x.snd.n, x.snd.ov), OI.mk x.snd.xs (50 : Nat) (0 : Nat), OI.mk x.snd.pl x.snd.pl.length x.snd.pe) (t.extract x.fst.toNat (IntKind.i64.wrap (x.fst + (1 : Int))).toNat)).pl = (fdX (((), (),
   x.snd.G, x.snd.K, x.snd.Ho, x.snd.pe), (x.snd.r, x.snd.c, false, (), ()), a.toNat + (1 : Nat), RC.mk x.snd.l (a.toNat + (1 : Nat)) x.snd.ep, ((0 : Nat), (0 : Int), x.snd.n, x.snd.ov), OI.mk x.snd.xs (50 : Nat) (0 : Nat), OI.mk x.snd.pl
   x.snd.pl.length x.snd.pe) (t.extract x.fst.toNat (IntKind.i64.wrap (x.fst + (1 : Int))).toNat)).pl) ∧ True) ∧ ∀ (x_1 : Tm), x_1 = feedT (50 : Nat) (0 : Int) (newT a b (50 : Int)) (List.take (x.fst + (1 : Int)).toNat (bytesL t)) → true = true ∧ br
   (decide (x_1.r < (0 : Int))) (SV.v (Value.bool false) = SV.v (Value.bool true)) (br (decide (x_1.r ≥ a)) (SV.v (Value.bool false) = SV.v (Value.bool true)) (br (decide (x_1.c < (0 : Int))) (SV.v (Value.bool false) = SV.v (Value.bool true)) (br
   (decide (x_1.c ≥ b)) (SV.v (Value.bool false) = SV.v (Value.bool true)) (true = true ∧ TA (((), (), x_1.G, x_1.K, x_1.Ho, x_1.pe), (x_1.r, x_1.c, false, (), ()), a.toNat + (1 : Nat), RC.mk x_1.l (a.toNat + (1 : Nat)) x_1.ep, ((0 : Nat), (0 : Int),
   x_1.n, x_1.ov), OI.mk x_1.xs (50 : Nat) (0 : Nat), OI.mk x_1.pl x_1.pl.length x_1.pe) ∧ br (decide ((↑(bytesOf x_1.pl).size : Int) > (3 : Int))) (SV.v (Value.bool false) = SV.v (Value.bool true)) (((0 : Int) ≤ IntKind.i64.wrap (x.fst + (1 : Int)) ∧
   IntKind.i64.wrap (x.fst + (1 : Int)) ≤ (↑t.size : Int) ∧ Tm.mk x_1.r x_1.c x_1.l x_1.ep x_1.G x_1.K x_1.Ho x_1.n x_1.ov x_1.xs x_1.pe x_1.pl = feedT (50 : Nat) (0 : Int) (newT a b (50 : Int)) (List.take (IntKind.i64.wrap (x.fst + (1 : Int))).toNat
   (bytesL t))) ∧ ((SV.v (Value.string t) = SV.v (Value.string t) ∧ SV.v (Value.string u) = SV.v (Value.string u) ∧ SV.p (0 : Nat) (0 : Nat) = SV.p (0 : Nat) (0 : Nat) ∧ SV.v (Value.bool false) = SV.v (Value.bool false) ∧ SV.p (13 : Nat) (0 : Nat) =
   SV.p (13 : Nat) (0 : Nat) ∧ SV.v (Value.int IntKind.i64 (IntKind.i64.wrap (x.fst + (1 : Int)))) = SV.v (Value.int IntKind.i64 (IntKind.i64.wrap (x.fst + (1 : Int)))) ∧ True) ∧ (SV.v (Value.int IntKind.i64 a) = SV.v (Value.int IntKind.i64 a) ∧ SV.v
   (Value.int IntKind.i64 b) = SV.v (Value.int IntKind.i64 b) ∧ True) ∧ (SV.v (Value.int IntKind.i64 a) = SV.v (Value.int IntKind.i64 a) ∧ SV.v (Value.int IntKind.i64 b) = SV.v (Value.int IntKind.i64 b) ∧ True) ∧ True ∧ True ∧ True ∧ (SV.h (6 : Nat)
   [a.toNat + (1 : Nat), (0 : Nat)] = SV.h (6 : Nat) [a.toNat + (1 : Nat), (0 : Nat)] ∧ True) ∧ (a.toNat + (1 : Nat) = a.toNat + (1 : Nat) ∧ x_1.ep = x_1.ep ∧ x_1.l = x_1.l) ∧ True ∧ True ∧ (SV.v (Value.int IntKind.i64 x_1.r) = SV.v (Value.int
   IntKind.i64 x_1.r) ∧ SV.v (Value.int IntKind.i64 x_1.c) = SV.v (Value.int IntKind.i64 x_1.c) ∧ SV.v (Value.bool false) = SV.v (Value.bool false) ∧ SV.p (5 : Nat) (0 : Nat) = SV.p (5 : Nat) (0 : Nat) ∧ True) ∧ ((50 : Nat) = (50 : Nat) ∧ (0 : Nat) = (0
   : Nat) ∧ x_1.xs = x_1.xs) ∧ (SV.h (10 : Nat) [(0 : Nat), (0 : Nat)] = SV.h (10 : Nat) [(0 : Nat), (0 : Nat)] ∧ SV.v (Value.int IntKind.i64 (0 : Int)) = SV.v (Value.int IntKind.i64 (0 : Int)) ∧ SV.v (Value.int IntKind.i64 x_1.n) = SV.v (Value.int
   IntKind.i64 x_1.n) ∧ SV.v (Value.bool x_1.ov) = SV.v (Value.bool x_1.ov) ∧ True) ∧ (SV.p (9 : Nat) (0 : Nat) = SV.p (9 : Nat) (0 : Nat) ∧ SV.p (11 : Nat) (0 : Nat) = SV.p (11 : Nat) (0 : Nat) ∧ SV.v (Value.bool x_1.G) = SV.v (Value.bool x_1.G) ∧ SV.v
   (Value.bool x_1.K) = SV.v (Value.bool x_1.K) ∧ SV.v (Value.bool x_1.Ho) = SV.v (Value.bool x_1.Ho) ∧ SV.h (14 : Nat) [x_1.pe, (0 : Nat)] = SV.h (14 : Nat) [x_1.pe, (0 : Nat)] ∧ True) ∧ (SV.p (9 : Nat) (0 : Nat) = SV.p (9 : Nat) (0 : Nat) ∧ SV.p (11 :
   Nat) (0 : Nat) = SV.p (11 : Nat) (0 : Nat) ∧ SV.p (12 : Nat) (0 : Nat) = SV.p (12 : Nat) (0 : Nat) ∧ True) ∧ (x_1.pl.length = x_1.pl.length ∧ x_1.pe = x_1.pe ∧ x_1.pl = x_1.pl) ∧ True) ∧ ((↑t.size : Int) - IntKind.i64.wrap (x.fst + (1 : Int))).toNat
   < ((↑t.size : Int) - x.fst).toNat)))))) (true = true ∧ (a.toNat + (1 : Nat) = a.toNat + (1 : Nat) ∧ GW x.snd.l) ∧ (II (0 : Int) ≤ (0 : Int) ∧ (0 : Int) ≤ a) ∧ ((SV.v (Value.string t) = SV.v (Value.string t) ∧ SV.v (Value.string u) = SV.v
   (Value.string u) ∧ SV.p (0 : Nat) (0 : Nat) = SV.p (0 : Nat) (0 : Nat) ∧ SV.v (Value.bool false) = SV.v (Value.bool false) ∧ SV.p (13 : Nat) (0 : Nat) = SV.p (13 : Nat) (0 : Nat) ∧ SV.h (16 : Nat) [(0 : Nat), (0 : Nat)] = SV.h (16 : Nat) [(0 : Nat),
   (0 : Nat)] ∧ SV.v (Value.int IntKind.i64 (0 : Int)) = SV.v (Value.int IntKind.i64 (0 : Int)) ∧ True) ∧ (SV.v (Value.int IntKind.i64 a) = SV.v (Value.int IntKind.i64 a) ∧ SV.v (Value.int IntKind.i64 b) = SV.v (Value.int IntKind.i64 b) ∧ True) ∧ (SV.v
   (Value.int IntKind.i64 a) = SV.v (Value.int IntKind.i64 a) ∧ SV.v (Value.int IntKind.i64 b) = SV.v (Value.int IntKind.i64 b) ∧ True) ∧ True ∧ True ∧ True ∧ (SV.h (6 : Nat) [a.toNat + (1 : Nat), (0 : Nat)] = SV.h (6 : Nat) [a.toNat + (1 : Nat), (0 :
   Nat)] ∧ True) ∧ (a.toNat + (1 : Nat) = a.toNat + (1 : Nat) ∧ x.snd.ep = x.snd.ep ∧ x.snd.l = x.snd.l) ∧ True ∧ True ∧ (SV.v (Value.int IntKind.i64 x.snd.r) = SV.v (Value.int IntKind.i64 x.snd.r) ∧ SV.v (Value.int IntKind.i64 x.snd.c) = SV.v
   (Value.int IntKind.i64 x.snd.c) ∧ SV.v (Value.bool false) = SV.v (Value.bool false) ∧ SV.p (5 : Nat) (0 : Nat) = SV.p (5 : Nat) (0 : Nat) ∧ True) ∧ ((50 : Nat) = (50 : Nat) ∧ (0 : Nat) = (0 : Nat) ∧ x.snd.xs = x.snd.xs) ∧ (SV.h (10 : Nat) [(0 : Nat),
   (0 : Nat)] = SV.h (10 : Nat) [(0 : Nat), (0 : Nat)] ∧ SV.v (Value.int IntKind.i64 (0 : Int)) = SV.v (Value.int IntKind.i64 (0 : Int)) ∧ SV.v (Value.int IntKind.i64 x.snd.n) = SV.v (Value.int IntKind.i64 x.snd.n) ∧ SV.v (Value.bool x.snd.ov) = SV.v
   (Value.bool x.snd.ov) ∧ True) ∧ (SV.p (9 : Nat) (0 : Nat) = SV.p (9 : Nat) (0 : Nat) ∧ SV.p (11 : Nat) (0 : Nat) = SV.p (11 : Nat) (0 : Nat) ∧ SV.v (Value.bool x.snd.G) = SV.v (Value.bool x.snd.G) ∧ SV.v (Value.bool x.snd.K) = SV.v (Value.bool
   x.snd.K) ∧ SV.v (Value.bool x.snd.Ho) = SV.v (Value.bool x.snd.Ho) ∧ SV.h (14 : Nat) [x.snd.pe, (0 : Nat)] = SV.h (14 : Nat) [x.snd.pe, (0 : Nat)] ∧ True) ∧ (SV.p (9 : Nat) (0 : Nat) = SV.p (9 : Nat) (0 : Nat) ∧ SV.p (11 : Nat) (0 : Nat) = SV.p (11 :
   Nat) (0 : Nat) ∧ SV.p (12 : Nat) (0 : Nat) = SV.p (12 : Nat) (0 : Nat) ∧ True) ∧ (x.snd.pl.length = x.snd.pl.length ∧ x.snd.pe = x.snd.pe ∧ x.snd.pl = x.snd.pl) ∧ True ∧ ((0 : Nat) = (0 : Nat) ∧ x.snd.l.length * nC x.snd.l + (1 : Nat) =
   x.snd.l.length * nC x.snd.l + (1 : Nat) ∧ x.snd.l = x.snd.l) ∧ True) ∧ ∀ (x_1 : Int), (0 : Int) ≤ x_1 ∧ x_1 ≤ a → br (decide (x_1 < (↑(Rws.c x.snd.l).len : Int))) ((II (0 : Int) ≤ (0 : Int) ∧ (0 : Int) ≤ b) ∧ ((SV.v (Value.string t) = SV.v
   (Value.string t) ∧ SV.v (Value.string u) = SV.v (Value.string u) ∧ SV.p (0 : Nat) (0 : Nat) = SV.p (0 : Nat) (0 : Nat) ∧ SV.v (Value.bool false) = SV.v (Value.bool false) ∧ SV.p (13 : Nat) (0 : Nat) = SV.p (13 : Nat) (0 : Nat) ∧ SV.h (16 : Nat) [(0 :
   Nat), (0 : Nat)] = SV.h (16 : Nat) [(0 : Nat), (0 : Nat)] ∧ SV.v (Value.int IntKind.i64 x_1) = SV.v (Value.int IntKind.i64 x_1) ∧ SV.v (Value.int IntKind.i64 (0 : Int)) = SV.v (Value.int IntKind.i64 (0 : Int)) ∧ True) ∧ (SV.v (Value.int IntKind.i64
   a) = SV.v (Value.int IntKind.i64 a) ∧ SV.v (Value.int IntKind.i64 b) = SV.v (Value.int IntKind.i64 b) ∧ True) ∧ (SV.v (Value.int IntKind.i64 a) = SV.v (Value.int IntKind.i64 a) ∧ SV.v (Value.int IntKind.i64 b) = SV.v (Value.int IntKind.i64 b) ∧ True)
   ∧ True ∧ True ∧ True ∧ (SV.h (6 : Nat) [a.toNat + (1 : Nat), (0 : Nat)] = SV.h (6 : Nat) [a.toNat + (1 : Nat), (0 : Nat)] ∧ True) ∧ (a.toNat + (1 : Nat) = a.toNat + (1 : Nat) ∧ x.snd.ep = x.snd.ep ∧ x.snd.l = x.snd.l) ∧ True ∧ True ∧ (SV.v (Value.int
   IntKind.i64 x.snd.r) = SV.v (Value.int IntKind.i64 x.snd.r) ∧ SV.v (Value.int IntKind.i64 x.snd.c) = SV.v (Value.int IntKind.i64 x.snd.c) ∧ SV.v (Value.bool false) = SV.v (Value.bool false) ∧ SV.p (5 : Nat) (0 : Nat) = SV.p (5 : Nat) (0 : Nat) ∧
   True) ∧ ((50 : Nat) = (50 : Nat) ∧ (0 : Nat) = (0 : Nat) ∧ x.snd.xs = x.snd.xs) ∧ (SV.h (10 : Nat) [(0 : Nat), (0 : Nat)] = SV.h (10 : Nat) [(0 : Nat), (0 : Nat)] ∧ SV.v (Value.int IntKind.i64 (0 : Int)) = SV.v (Value.int IntKind.i64 (0 : Int)) ∧
   SV.v (Value.int IntKind.i64 x.snd.n) = SV.v (Value.int IntKind.i64 x.snd.n) ∧ SV.v (Value.bool x.snd.ov) = SV.v (Value.bool x.snd.ov) ∧ True) ∧ (SV.p (9 : Nat) (0 : Nat) = SV.p (9 : Nat) (0 : Nat) ∧ SV.p (11 : Nat) (0 : Nat) = SV.p (11 : Nat) (0 :
   Nat) ∧ SV.v (Value.bool x.snd.G) = SV.v (Value.bool x.snd.G) ∧ SV.v (Value.bool x.snd.K) = SV.v (Value.bool x.snd.K) ∧ SV.v (Value.bool x.snd.Ho) = SV.v (Value.bool x.snd.Ho) ∧ SV.h (14 : Nat) [x.snd.pe, (0 : Nat)] = SV.h (14 : Nat) [x.snd.pe, (0 :
   Nat)] ∧ True) ∧ (SV.p (9 : Nat) (0 : Nat) = SV.p (9 : Nat) (0 : Nat) ∧ SV.p (11 : Nat) (0 : Nat) = SV.p (11 : Nat) (0 : Nat) ∧ SV.p (12 : Nat) (0 : Nat) = SV.p (12 : Nat) (0 : Nat) ∧ True) ∧ (x.snd.pl.length = x.snd.pl.length ∧ x.snd.pe = x.snd.pe ∧
   x.snd.pl = x.snd.pl) ∧ True ∧ ((0 : Nat) = (0 : Nat) ∧ x.snd.l.length * nC x.snd.l + (1 : Nat) = x.snd.l.length * nC x.snd.l + (1 : Nat) ∧ x.snd.l = x.snd.l) ∧ True) ∧ ∀ (x_2 : Int), (0 : Int) ≤ x_2 ∧ x_2 ≤ b → rq (true && (Nat.beq (1 : Nat) (1 :
   Nat) && decide ((0 : Int) ≤ x_1 ∧ x_1 < (↑(Rws.c x.snd.l).len : Int)))) (rq (true && x_1.toNat.blt (Rws.c x.snd.l).len) (rq ((x.snd.l.length * nC x.snd.l + (1 : Nat)).beq (x.snd.l.length * nC x.snd.l + (1 : Nat)) && x_1.toNat.blt (Rws.c x.snd.l).len)
   (br (decide (x_2 < (↑((Rws.c x.snd.l).nAt x_1.toNat) : Int))) (rq (true && (Nat.beq (1 : Nat) (1 : Nat) && decide ((0 : Int) ≤ x_1 ∧ x_1 < (↑(Rws.c x.snd.l).len : Int)))) (rq (true && x_1.toNat.blt (Rws.c x.snd.l).len) (rq ((x.snd.l.length * nC
   x.snd.l + (1 : Nat)).beq (x.snd.l.length * nC x.snd.l + (1 : Nat)) && x_1.toNat.blt (Rws.c x.snd.l).len && ((Rws.c x.snd.l).sz.beq (4 : Nat) && decide ((0 : Int) ≤ x_2 ∧ x_2 < (↑((Rws.c x.snd.l).nAt x_1.toNat) : Int)))) (rq ((x.snd.l.length * nC
   x.snd.l + (1 : Nat)).beq (x.snd.l.length * nC x.snd.l + (1 : Nat)) && x_1.toNat.blt (Rws.c x.snd.l).len && x_2.toNat.blt (x.snd.l.getD x_1.toNat []).length) (br (((x.snd.l.getD x_1.toNat []).getD x_2.toNat C4.no).a != (0 : Int)) (SV.v (Value.bool
   false) = SV.v (Value.bool true)) (br ((x.snd.l.getD x_1.toNat []).getD x_2.toNat C4.no).gd (SV.v (Value.bool false) = SV.v (Value.bool true)) (br (((x.snd.l.getD x_1.toNat []).getD x_2.toNat C4.no).m != (0 : Int)) (SV.v (Value.bool false) = SV.v
   (Value.bool true)) (((0 : Int) ≤ IntKind.i64.wrap (x_2 + (1 : Int)) ∧ IntKind.i64.wrap (x_2 + (1 : Int)) ≤ b) ∧ ((SV.v (Value.string t) = SV.v (Value.string t) ∧ SV.v (Value.string u) = SV.v (Value.string u) ∧ SV.p (0 : Nat) (0 : Nat) = SV.p (0 :
   Nat) (0 : Nat) ∧ SV.v (Value.bool false) = SV.v (Value.bool false) ∧ SV.p (13 : Nat) (0 : Nat) = SV.p (13 : Nat) (0 : Nat) ∧ SV.h (16 : Nat) [(0 : Nat), (0 : Nat)] = SV.h (16 : Nat) [(0 : Nat), (0 : Nat)] ∧ SV.v (Value.int IntKind.i64 x_1) = SV.v
   (Value.int IntKind.i64 x_1) ∧ SV.v (Value.int IntKind.i64 (IntKind.i64.wrap (x_2 + (1 : Int)))) = SV.v (Value.int IntKind.i64 (IntKind.i64.wrap (x_2 + (1 : Int)))) ∧ True) ∧ (SV.v (Value.int IntKind.i64 a) = SV.v (Value.int IntKind.i64 a) ∧ SV.v
   (Value.int IntKind.i64 b) = SV.v (Value.int IntKind.i64 b) ∧ True) ∧ (SV.v (Value.int IntKind.i64 a) = SV.v (Value.int IntKind.i64 a) ∧ SV.v (Value.int IntKind.i64 b) = SV.v (Value.int IntKind.i64 b) ∧ True) ∧ True ∧ True ∧ True ∧ (SV.h (6 : Nat)
   [a.toNat + (1 : Nat), (0 : Nat)] = SV.h (6 : Nat) [a.toNat + (1 : Nat), (0 : Nat)] ∧ True) ∧ (a.toNat + (1 : Nat) = a.toNat + (1 : Nat) ∧ x.snd.ep = x.snd.ep ∧ x.snd.l = x.snd.l) ∧ True ∧ True ∧ (SV.v (Value.int IntKind.i64 x.snd.r) = SV.v (Value.int
   IntKind.i64 x.snd.r) ∧ SV.v (Value.int IntKind.i64 x.snd.c) = SV.v (Value.int IntKind.i64 x.snd.c) ∧ SV.v (Value.bool false) = SV.v (Value.bool false) ∧ SV.p (5 : Nat) (0 : Nat) = SV.p (5 : Nat) (0 : Nat) ∧ True) ∧ ((50 : Nat) = (50 : Nat) ∧ (0 :
   Nat) = (0 : Nat) ∧ x.snd.xs = x.snd.xs) ∧ (SV.h (10 : Nat) [(0 : Nat), (0 : Nat)] = SV.h (10 : Nat) [(0 : Nat), (0 : Nat)] ∧ SV.v (Value.int IntKind.i64 (0 : Int)) = SV.v (Value.int IntKind.i64 (0 : Int)) ∧ SV.v (Value.int IntKind.i64 x.snd.n) = SV.v
   (Value.int IntKind.i64 x.snd.n) ∧ SV.v (Value.bool x.snd.ov) = SV.v (Value.bool x.snd.ov) ∧ True) ∧ (SV.p (9 : Nat) (0 : Nat) = SV.p (9 : Nat) (0 : Nat) ∧ SV.p (11 : Nat) (0 : Nat) = SV.p (11 : Nat) (0 : Nat) ∧ SV.v (Value.bool x.snd.G) = SV.v
   (Value.bool x.snd.G) ∧ SV.v (Value.bool x.snd.K) = SV.v (Value.bool x.snd.K) ∧ SV.v (Value.bool x.snd.Ho) = SV.v (Value.bool x.snd.Ho) ∧ SV.h (14 : Nat) [x.snd.pe, (0 : Nat)] = SV.h (14 : Nat) [x.snd.pe, (0 : Nat)] ∧ True) ∧ (SV.p (9 : Nat) (0 : Nat)
   = SV.p (9 : Nat) (0 : Nat) ∧ SV.p (11 : Nat) (0 : Nat) = SV.p (11 : Nat) (0 : Nat) ∧ SV.p (12 : Nat) (0 : Nat) = SV.p (12 : Nat) (0 : Nat) ∧ True) ∧ (x.snd.pl.length = x.snd.pl.length ∧ x.snd.pe = x.snd.pe ∧ x.snd.pl = x.snd.pl) ∧ True ∧ ((0 : Nat) =
   (0 : Nat) ∧ x.snd.l.length * nC x.snd.l + (1 : Nat) = x.snd.l.length * nC x.snd.l + (1 : Nat) ∧ x.snd.l = x.snd.l) ∧ True) ∧ (b - IntKind.i64.wrap (x_2 + (1 : Int))).toNat < (b - x_2).toNat)))))))) (((0 : Int) ≤ IntKind.i64.wrap (x_1 + (1 : Int)) ∧
   IntKind.i64.wrap (x_1 + (1 : Int)) ≤ a) ∧ ((SV.v (Value.string t) = SV.v (Value.string t) ∧ SV.v (Value.string u) = SV.v (Value.string u) ∧ SV.p (0 : Nat) (0 : Nat) = SV.p (0 : Nat) (0 : Nat) ∧ SV.v (Value.bool false) = SV.v (Value.bool false) ∧ SV.p
   (13 : Nat) (0 : Nat) = SV.p (13 : Nat) (0 : Nat) ∧ SV.h (16 : Nat) [(0 : Nat), (0 : Nat)] = SV.h (16 : Nat) [(0 : Nat), (0 : Nat)] ∧ SV.v (Value.int IntKind.i64 (IntKind.i64.wrap (x_1 + (1 : Int)))) = SV.v (Value.int IntKind.i64 (IntKind.i64.wrap
   (x_1 + (1 : Int)))) ∧ True) ∧ (SV.v (Value.int IntKind.i64 a) = SV.v (Value.int IntKind.i64 a) ∧ SV.v (Value.int IntKind.i64 b) = SV.v (Value.int IntKind.i64 b) ∧ True) ∧ (SV.v (Value.int IntKind.i64 a) = SV.v (Value.int IntKind.i64 a) ∧ SV.v
   (Value.int IntKind.i64 b) = SV.v (Value.int IntKind.i64 b) ∧ True) ∧ True ∧ True ∧ True ∧ (SV.h (6 : Nat) [a.toNat + (1 : Nat), (0 : Nat)] = SV.h (6 : Nat) [a.toNat + (1 : Nat), (0 : Nat)] ∧ True) ∧ (a.toNat + (1 : Nat) = a.toNat + (1 : Nat) ∧
   x.snd.ep = x.snd.ep ∧ x.snd.l = x.snd.l) ∧ True ∧ True ∧ (SV.v (Value.int IntKind.i64 x.snd.r) = SV.v (Value.int IntKind.i64 x.snd.r) ∧ SV.v (Value.int IntKind.i64 x.snd.c) = SV.v (Value.int IntKind.i64 x.snd.c) ∧ SV.v (Value.bool false) = SV.v
   (Value.bool false) ∧ SV.p (5 : Nat) (0 : Nat) = SV.p (5 : Nat) (0 : Nat) ∧ True) ∧ ((50 : Nat) = (50 : Nat) ∧ (0 : Nat) = (0 : Nat) ∧ x.snd.xs = x.snd.xs) ∧ (SV.h (10 : Nat) [(0 : Nat), (0 : Nat)] = SV.h (10 : Nat) [(0 : Nat), (0 : Nat)] ∧ SV.v
   (Value.int IntKind.i64 (0 : Int)) = SV.v (Value.int IntKind.i64 (0 : Int)) ∧ SV.v (Value.int IntKind.i64 x.snd.n) = SV.v (Value.int IntKind.i64 x.snd.n) ∧ SV.v (Value.bool x.snd.ov) = SV.v (Value.bool x.snd.ov) ∧ True) ∧ (SV.p (9 : Nat) (0 : Nat) =
   SV.p (9 : Nat) (0 : Nat) ∧ SV.p (11 : Nat) (0 : Nat) = SV.p (11 : Nat) (0 : Nat) ∧ SV.v (Value.bool x.snd.G) = SV.v (Value.bool x.snd.G) ∧ SV.v (Value.bool x.snd.K) = SV.v (Value.bool x.snd.K) ∧ SV.v (Value.bool x.snd.Ho) = SV.v (Value.bool x.snd.Ho)
   ∧ SV.h (14 : Nat) [x.snd.pe, (0 : Nat)] = SV.h (14 : Nat) [x.snd.pe, (0 : Nat)] ∧ True) ∧ (SV.p (9 : Nat) (0 : Nat) = SV.p (9 : Nat) (0 : Nat) ∧ SV.p (11 : Nat) (0 : Nat) = SV.p (11 : Nat) (0 : Nat) ∧ SV.p (12 : Nat) (0 : Nat) = SV.p (12 : Nat) (0 :
   Nat) ∧ True) ∧ (x.snd.pl.length = x.snd.pl.length ∧ x.snd.pe = x.snd.pe ∧ x.snd.pl = x.snd.pl) ∧ True ∧ ((0 : Nat) = (0 : Nat) ∧ x.snd.l.length * nC x.snd.l + (1 : Nat) = x.snd.l.length * nC x.snd.l + (1 : Nat) ∧ x.snd.l = x.snd.l) ∧ True) ∧ (a -
   IntKind.i64.wrap (x_1 + (1 : Int))).toNat < (a - x_1).toNat))))) (true = true ∧ TA (((), (), x.snd.G, x.snd.K, x.snd.Ho, x.snd.pe), (x.snd.r, x.snd.c, false, (), ()), a.toNat + (1 : Nat), RC.mk x.snd.l (a.toNat + (1 : Nat)) x.snd.ep, ((0 : Nat), (0 :
   Int), x.snd.n, x.snd.ov), OI.mk x.snd.xs (50 : Nat) (0 : Nat), OI.mk x.snd.pl x.snd.pl.length x.snd.pe) ∧ true = true ∧ true = true ∧ TA (((), (), x.snd.G, x.snd.K, x.snd.Ho, x.snd.pe + (1 : Nat)), (x.snd.r, x.snd.c, false, (), ()), a.toNat + (1 :
   Nat), RC.mk x.snd.l (a.toNat + (1 : Nat)) x.snd.ep, ((0 : Nat), (0 : Int), x.snd.n, x.snd.ov), OI.mk x.snd.xs (50 : Nat) (0 : Nat), OI.mk (LI []) (LI []).length (x.snd.pe + (1 : Nat))) ∧ rq (((3 : Nat) + u.size).ble (9223372036854775807 : Nat)) (true
   = true ∧ (TA (((), (), x.snd.G, x.snd.K, x.snd.Ho, x.snd.pe + (1 : Nat)), (x.snd.r, x.snd.c, false, (), ()), a.toNat + (1 : Nat), RC.mk x.snd.l (a.toNat + (1 : Nat)) x.snd.ep, ((0 : Nat), (0 : Int), x.snd.n, x.snd.ov), OI.mk x.snd.xs (50 : Nat) (0 :
   Nat), OI.mk (LI []) (LI []).length (x.snd.pe + (1 : Nat))) ∧ (ByteArray.mk #[(27 : UInt8), (71 : UInt8), (126 : UInt8)] ++ u).size ≤ (1099511627776 : Nat)) ∧ br (u.toList == (ByteArray.mk #[]).toList) (true = true ∧ (a.toNat + (1 : Nat) = a.toNat +
   (1 : Nat) ∧ GW (fdX (((), (), x.snd.G, x.snd.K, x.snd.Ho, x.snd.pe + (1 : Nat)), (x.snd.r, x.snd.c, false, (), ()), a.toNat + (1 : Nat), RC.mk x.snd.l (a.toNat + (1 : Nat)) x.snd.ep, ((0 : Nat), (0 : Int), x.snd.n, x.snd.ov), OI.mk x.snd.xs (50 :
   Nat) (0 : Nat), OI.mk (LI []) (LI []).length (x.snd.pe + (1 : Nat))) (ByteArray.mk #[(27 : UInt8), (71 : UInt8), (126 : UInt8)] ++ u)).l ∧ inB (fdX (((), (), x.snd.G, x.snd.K, x.snd.Ho, x.snd.pe + (1 : Nat)), (x.snd.r, x.snd.c, false, (), ()),
   a.toNat + (1 : Nat), RC.mk x.snd.l (a.toNat + (1 : Nat)) x.snd.ep, ((0 : Nat), (0 : Int), x.snd.n, x.snd.ov), OI.mk x.snd.xs (50 : Nat) (0 : Nat), OI.mk (LI []) (LI []).length (x.snd.pe + (1 : Nat))) (ByteArray.mk #[(27 : UInt8), (71 : UInt8), (126 :
   UInt8)] ++ u)).l x.snd.r x.snd.c = true) ∧ true = true ∧ (a.toNat + (1 : Nat) = a.toNat + (1 : Nat) ∧ GW (fdX (((), (), x.snd.G, x.snd.K, x.snd.Ho, x.snd.pe + (1 : Nat)), (x.snd.r, x.snd.c, false, (), ()), a.toNat + (1 : Nat), RC.mk x.snd.l (a.toNat
   + (1 : Nat)) x.snd.ep, ((0 : Nat), (0 : Int), x.snd.n, x.snd.ov), OI.mk x.snd.xs (50 : Nat) (0 : Nat), OI.mk (LI []) (LI []).length (x.snd.pe + (1 : Nat))) (ByteArray.mk #[(27 : UInt8), (71 : UInt8), (126 : UInt8)] ++ u)).l ∧ inB (fdX (((), (),
   x.snd.G, x.snd.K, x.snd.Ho, x.snd.pe + (1 : Nat)), (x.snd.r, x.snd.c, false, (), ()), a.toNat + (1 : Nat), RC.mk x.snd.l (a.toNat + (1 : Nat)) x.snd.ep, ((0 : Nat), (0 : Int), x.snd.n, x.snd.ov), OI.mk x.snd.xs (50 : Nat) (0 : Nat), OI.mk (LI []) (LI
   []).length (x.snd.pe + (1 : Nat))) (ByteArray.mk #[(27 : UInt8), (71 : UInt8), (126 : UInt8)] ++ u)).l x.snd.r x.snd.c = true) ∧ br ((at2 (fdX (((), (), x.snd.G, x.snd.K, x.snd.Ho, x.snd.pe + (1 : Nat)), (x.snd.r, x.snd.c, false, (), ()), a.toNat +
   (1 : Nat), RC.mk x.snd.l (a.toNat + (1 : Nat)) x.snd.ep, ((0 : Nat), (0 : Int), x.snd.n, x.snd.ov), OI.mk x.snd.xs (50 : Nat) (0 : Nat), OI.mk (LI []) (LI []).length (x.snd.pe + (1 : Nat))) (ByteArray.mk #[(27 : UInt8), (71 : UInt8), (126 : UInt8)]
   ++ u)).l x.snd.r x.snd.c).g == (126 : Int)) (true = true ∧ SV.v (Value.bool true) = SV.v (Value.bool true)) (SV.v (Value.bool false) = SV.v (Value.bool true))) (true = true ∧ SV.v (Value.bool true) = SV.v (Value.bool true))))))))) (true = true ∧ SV.v
   (Value.bool true) = SV.v (Value.bool true))) (true = true ∧ SV.v (Value.bool true) = SV.v (Value.bool true))) (true = true ∧ SV.v (Value.bool true) = SV.v (Value.bool true)))) (by kernel_rfl) ?_
  have hfd : ∀ (x : Tm) (u : ByteArray), fdX (((), (), x.G, x.K, x.Ho, x.pe), (x.r, x.c, false, (), ()), a.toNat + 1, RC.mk x.l (a.toNat + 1) x.ep, (0, 0, x.n, x.ov), OI.mk x.xs 50 0, OI.mk x.pl x.pl.length x.pe) u = feedT 50 0 x (bytesL u) := fun _ _ => rfl
  have hTA : ∀ x : Tm, TI 0 50 x → TA (((), (), x.G, x.K, x.Ho, x.pe), (x.r, x.c, false, (), ()), a.toNat + 1, RC.mk x.l (a.toNat + 1) x.ep, (0, 0, x.n, x.ov), OI.mk x.xs 50 0, OI.mk x.pl x.pl.length x.pe) := fun _ h => ⟨rfl, rfl, rfl, rfl, rfl, h⟩
  simp only [hfd]
  simp only [br_iff, rq_iff, nbeq, II, true_and, and_true, and_self, implies_true, decide_eq_true_eq, decide_eq_false_iff_not, Bool.not_eq_true', Bool.not_eq_false']
  intro ha1 ha2 hb1 hb2 ht hu
  have hm : mayB a b = true := mayB_iff.2 (by omega)
  have hN : TI 0 50 (newT a b 50) := newT_ti (a := a) (b := b) (m := 50) hm (by omega) (by omega)
  have hS : ∀ i, TP 0 50 (newT a b 50) (feedT 50 0 (newT a b 50) ((bytesL t).take i)) := fun i => tp_feed _ hN (byteR_take (bytesL_range t) _)
  have hP : ∀ i, PC (feedT 50 0 (newT a b 50) ((bytesL t).take i)).l := fun i => pc_feed _ hN (byteR_take (bytesL_range t) _) (pc_new a b 50)
  have hC : nC (newT a b 50).l = b.toNat := newL_nC (by omega)
  have hR : (newT a b 50).l.length = a.toNat := newL_length _ _ _
  refine ⟨⟨hm, by decide, by decide⟩, ⟨Int.le_refl 0, by omega, rfl⟩, rfl, fun ⟨i, s⟩ ⟨hi0, hi1, hs⟩ => ?_⟩
  dsimp only at hi0 hi1 hs ⊢
  have hT : TI 0 50 s := hs ▸ (hS _).ti
  have hle : s.l.length = a.toNat := by rw [hs]; exact (hS _).le.trans hR
  have hnc : nC s.l = b.toNat := by rw [hs]; exact (hS _).nc.trans hC
  have hpc : PC s.l := hs ▸ hP _
  refine ⟨fun hlt => ?_, fun hge => ?_⟩
  · rw [wrap64 (x := i + 1) (by omega) (by omega)]
    have hst : feedT 50 0 s (bytesL (t.extract i.toNat (i + 1).toNat)) = feedT 50 0 (newT a b 50) ((bytesL t).take (i + 1).toNat) := by
      rw [bytesL_one hi0 hlt, feedT_succ _ _ _ hi0 hlt, hs]; rfl
    refine ⟨⟨⟨hi0, by omega, by omega⟩, ⟨hTA _ hT, by rw [ByteArray.size_extract]; omega⟩, ?_⟩, ?_⟩
    · rw [hst]
    intro y hy
    have yT : TI 0 50 y := hy ▸ (hS _).ti
    have yle : y.l.length = a.toNat := by rw [hy]; exact (hS _).le.trans hR
    have ync : nC y.l = b.toNat := by rw [hy]; exact (hS _).nc.trans hC
    have y0 := yT.r0
    have y1 := yT.r1
    have y2 := yT.c0
    have y3 := yT.c1
    have y4 := yT.pl
    refine ⟨fun h => absurd h (by omega), fun _ => ⟨fun h => absurd h (by omega), fun _ => ⟨fun h => absurd h (by omega), fun _ => ⟨fun h => absurd h (by omega), fun _ => ⟨hTA _ yT, fun h => absurd h (by rw [bytesOf_size]; omega), fun _ => ⟨⟨by omega, by omega, (tm_eta y).trans hy⟩, by omega⟩⟩⟩⟩⟩⟩
  · have hL : (Rws.c s.l).len = a.toNat := hle
    have hNt : ∀ j : Nat, j < a.toNat → (Rws.c s.l).nAt j = b.toNat := fun j hj => (hT.gw.row (by omega)).trans hnc
    have hZ : (Rws.c s.l).sz = 4 := rfl
    refine ⟨hT.gw, ⟨Int.le_refl 0, by omega⟩, fun x ⟨hx0, hx1⟩ => ⟨fun hlt => ?_, fun hgx => ?_⟩⟩
    · rw [hL] at hlt
      have hj : x.toNat < a.toNat := by omega
      have hbl : x.toNat.blt a.toNat = true := by rw [Nat.blt_eq]; exact hj
      have hdx : decide (0 ≤ x ∧ x < ((a.toNat : Nat) : Int)) = true := decide_eq_true ⟨hx0, hlt⟩
      have hln : (s.l.getD x.toNat []).length = b.toNat := hNt _ hj
      simp only [hL, hNt _ hj, hZ, hln, hbl, hdx, Bool.true_and]
      refine ⟨⟨Int.le_refl 0, by omega⟩, fun y ⟨hy0, hy1⟩ => ⟨trivial, trivial, trivial, fun hly => ?_, fun hgy => ?_⟩⟩
      · have hjy : y.toNat < b.toNat := by omega
        have hby : y.toNat.blt b.toNat = true := by rw [Nat.blt_eq]; exact hjy
        have hdy : decide (0 ≤ y ∧ y < ((b.toNat : Nat) : Int)) = true := decide_eq_true ⟨hy0, hly⟩
        obtain ⟨z1, z2, z3⟩ : ((s.l.getD x.toNat []).getD y.toNat C4.no).a = 0 ∧ ((s.l.getD x.toNat []).getD y.toNat C4.no).gd = false ∧ ((s.l.getD x.toNat []).getD y.toNat C4.no).m = 0 := hpc x.toNat y.toNat (by omega) (by omega)
        rw [z1, z2, z3, hby, hdy, wrap64 (x := y + 1) (by omega) (by omega)]
        exact ⟨trivial, trivial, rfl, rfl, fun h => by simp at h, fun _ => ⟨fun h => by simp at h, fun _ => ⟨fun h => by simp at h, fun _ => ⟨by omega, by omega⟩⟩⟩⟩
      · rw [wrap64 (x := x + 1) (by omega) (by omega)]
        exact ⟨by omega, by omega⟩
    · have hD : TI 0 50 { s with pl := [], pe := s.pe + 1 } := (tp_nil hT _).ti
      have hDA : TA (((), (), s.G, s.K, s.Ho, s.pe + 1), (s.r, s.c, false, (), ()), a.toNat + 1, RC.mk s.l (a.toNat + 1) s.ep, (0, 0, s.n, s.ov), OI.mk s.xs 50 0, OI.mk (LI []) (LI []).length (s.pe + 1)) := ⟨rfl, rfl, rfl, rfl, rfl, hD⟩
      have hz : (({ data := #[27, 71, 126] } : ByteArray) ++ u).size = 3 + u.size := by rw [ByteArray.size_append]; rfl
      refine ⟨hTA _ hT, hDA, Nat.ble_eq_true_of_le (by omega), ⟨hDA, by rw [hz]; omega⟩, fun he => ?_⟩
      have hu0 := empty_of he
      subst hu0
      have hF : fdX (((), (), s.G, s.K, s.Ho, s.pe + 1), (s.r, s.c, false, (), ()), a.toNat + 1, RC.mk s.l (a.toNat + 1) s.ep, (0, 0, s.n, s.ov), OI.mk s.xs 50 0, OI.mk (LI []) (LI []).length (s.pe + 1)) (({ data := #[27, 71, 126] } : ByteArray) ++ ByteArray.empty) = feedT 50 0 { s with pl := [], pe := s.pe + 1 } [27, 71, 126] := rfl
      rw [hF]
      have hQ := tp_feed (m := 50) (fr := 0) [27, 71, 126] hD (fun x hx => by simp at hx; omega)
      have hH := here_plain hD rfl
      have hH : at2 (feedT 50 0 { s with pl := [], pe := s.pe + 1 } [27, 71, 126]).l s.r s.c = ⟨126, 0, false, 0⟩ := hH
      have q1 : (feedT 50 0 { s with pl := [], pe := s.pe + 1 } [27, 71, 126]).l.length = a.toNat := hQ.le.trans hle
      have q2 : nC (feedT 50 0 { s with pl := [], pe := s.pe + 1 } [27, 71, 126]).l = b.toNat := hQ.nc.trans hnc
      have w0 := hT.r0
      have w1 := hT.r1
      have w2 := hT.c0
      have w3 := hT.c1
      have hI : inB (feedT 50 0 { s with pl := [], pe := s.pe + 1 } [27, 71, 126]).l s.r s.c = true := by
        simp [inB, q1, q2]
        omega
      rw [hH]
      exact ⟨⟨hQ.ti.gw, hI⟩, ⟨hQ.ti.gw, hI⟩, fun h => by simp at h⟩
theorem law_bounds {W : World} {vs : List Value} (hG : Gw W) (hp : IPDens (wholeH W) maxLen [.agg [.i .i64, .i .i64], .one .s, .one .s] vs) : Calls Tryd.prog 6 vs.toArray W fun en W' => en = .returned (.bool true) ∧ Ext W W' := by
  simp only [IPDens, IP.den, IT.dens, it_s, it_i] at hp
  obtain ⟨_, _, rfl, ⟨us, rfl, _, _, rfl, ⟨a, rfl, _⟩, _, _, rfl, ⟨b, rfl, _⟩, rfl⟩, _, _, rfl, ⟨t, rfl, _⟩, _, _, rfl, ⟨u, rfl, _⟩, rfl⟩ := hp
  refine law_run (cfgO_ok a b t u) rfl Tryd.func6 [] (by simp) ?_ (run_bounds a b t u) hG
  exact dl_cons (den_a (dl_cons den_v (dl_cons den_v dl_nil))) (dl_cons den_v (dl_cons den_v dl_nil))
end Go.Proofs.YtcbjgpkbfmmdpaaDoor
