/- What is wanted of the texts HbH, HbI, HbJ, HbM, in one. -/
import Derived.Test.YtcbjgpkbfmmdpaaDoorHpMc
import Derived.Test.YtcbjgpkbfmmdpaaDoorVW
set_option linter.unusedSimpArgs false
set_option linter.unusedVariables false
set_option linter.unusedSectionVars false
namespace Go.Proofs.YtcbjgpkbfmmdpaaDoor
open Go Go.Sym
def byT (m : Nat) (fr : Int) (s : Tm) (b : Int) : Tm :=
  if s.pl.length = 0 ∧ b > 126 then s
  else if b = 27 then { s with pl := [27], pe := s.pe + 1 }
  else if 0 < s.pl.length then sqT m fr s b
  else if 32 ≤ b then puT s b
  else ctT s b
def feedT (m : Nat) (fr : Int) (s : Tm) (bs : List Int) : Tm := bs.foldl (byT m fr) s
structure TP (fr : Int) (m : Nat) (s s' : Tm) : Prop where
  ti : TI fr m s'
  le : s'.l.length = s.l.length
  nc : nC s'.l = nC s.l
theorem TP.refl {fr : Int} {m : Nat} {s : Tm} (h : TI fr m s) : TP fr m s s := ⟨h, rfl, rfl⟩
theorem TP.trans {fr : Int} {m : Nat} {s s' s'' : Tm} (h : TP fr m s s') (h' : TP fr m s' s'') : TP fr m s s'' := ⟨h'.ti, h'.le.trans h.le, h'.nc.trans h.nc⟩
section
variable {fr : Int} {m : Nat} {s : Tm}
theorem tp_cur (h : TI fr m s) {r c : Int} (h0 : 0 ≤ r) (h1 : r < s.l.length) (h2 : 0 ≤ c) (h3 : c < nC s.l) : TP fr m s { s with r := r, c := c } :=
  ⟨⟨h.gw, h0, h1, h2, h3, h.q, h.pl, h.pb⟩, rfl, rfl⟩
theorem tp_rows (h : TI fr m s) {l : List (List C4)} (hg : GW l ∧ l.length = s.l.length ∧ nC l = nC s.l) (ep : Nat) : TP fr m s { s with l := l, ep := ep } :=
  ⟨⟨hg.1, h.r0, by simpa only [hg.2.1] using h.r1, h.c0, by simpa only [hg.2.2] using h.c1, h.q, h.pl, h.pb⟩, hg.2.1, hg.2.2⟩
theorem tp_nil (h : TI fr m s) (pe : Nat) : TP fr m s { s with pl := [], pe := pe } :=
  ⟨⟨h.gw, h.r0, h.r1, h.c0, h.c1, h.q, by simp, fun x hx => by simp at hx⟩, rfl, rfl⟩
theorem rows0 (h : TI fr m s) : (1 : Int) ≤ s.l.length := by have := h.gw.r0; omega
theorem cols0 (h : TI fr m s) : (1 : Int) ≤ nC s.l := by have := h.gw.c0; omega
theorem tp_mo (h : TI fr m s) (x y : Int) : TP fr m s (moT s x y) := by
  have h1 := near_bd (x := x) (rows0 h)
  have h2 := near_bd (x := y) (cols0 h)
  exact tp_cur h h1.1 h1.2 h2.1 h2.2
theorem tp_st (h : TI fr m s) (x y : Int) : TP fr m s (stT s x y) := tp_mo h _ _
theorem tp_fd (h : TI fr m s) : TP fr m s (fdT s) := by
  have h1 := near_bd (x := s.r + 1) (rows0 h)
  have hg : GW (if s.r = (s.l.length : Int) - 1 then upF s.l 1 blankC else s.l) ∧ (if s.r = (s.l.length : Int) - 1 then upF s.l 1 blankC else s.l).length = s.l.length ∧ nC (if s.r = (s.l.length : Int) - 1 then upF s.l 1 blankC else s.l) = nC s.l := by
    split
    · exact upF_gw h.gw _ _
    · exact ⟨h.gw, rfl, rfl⟩
  exact (tp_cur h h1.1 h1.2 h.c0 h.c1).trans (tp_rows (tp_cur h h1.1 h1.2 h.c0 h.c1).ti hg (s.ep + 1))
theorem wi_gw {l : List (List C4)} (h : GW l) (a b c d : Int) (x : C4) (g : Bool) : GW (wiL l a b c d x g) ∧ (wiL l a b c d x g).length = l.length ∧ nC (wiL l a b c d x g) = nC l := by
  unfold wiL
  split
  · exact ⟨turnL_gw h, turnL_length, turnL_nC h⟩
  · exact ⟨h, rfl, rfl⟩
theorem tp_wp (h : TI fr m s) (a b c d : Int) : TP fr m s (wpT s a b c d) := tp_rows h (wi_gw h.gw _ _ _ _ _ _) s.ep
theorem tp_ta (h : TI fr m s) : TP fr m s (taT s) := by
  have h2 := near_bd (x := if s.c - s.c % 8 + 8 > (nC s.l : Int) - 1 then s.c + 1 else s.c - s.c % 8 + 8) (cols0 h)
  exact tp_cur h h.r0 h.r1 h2.1 h2.2
theorem tp_ix (h : TI fr m s) : TP fr m s (ixT s) := by
  have h1 := near_bd (x := s.r - 1) (rows0 h)
  have hg : GW (if s.r = 0 then upF s.l (-1) blankC else s.l) ∧ (if s.r = 0 then upF s.l (-1) blankC else s.l).length = s.l.length ∧ nC (if s.r = 0 then upF s.l (-1) blankC else s.l) = nC s.l := by
    split
    · exact upF_gw h.gw _ _
    · exact ⟨h.gw, rfl, rfl⟩
  exact (tp_cur h h1.1 h1.2 h.c0 h.c1).trans (tp_rows (tp_cur h h1.1 h1.2 h.c0 h.c1).ti hg (if s.r = 0 then s.ep + 1 else s.ep))
theorem tp_pl (h : TI fr m s) (x y : Int) : TP fr m s (plT s x y) := by
  have g1 := rows0 h
  have g2 := cols0 h
  have h0 := h.r0
  have h1 := h.r1
  have h2 := h.c0
  have h3 := h.c1
  refine tp_cur h ?_ ?_ ?_ ?_
  · split <;> omega
  · split <;> omega
  · split <;> (try split) <;> omega
  · split <;> (try split) <;> omega
theorem tp_pu (h : TI fr m s) (b : Int) : TP fr m s (puT s b) := by
  have h3 := h.c1
  have h2 := h.c0
  have hg : GW (set2 s.l s.r s.c ⟨glT s.G b, 0, false, 0⟩) ∧ (set2 s.l s.r s.c ⟨glT s.G b, 0, false, 0⟩).length = s.l.length ∧ nC (set2 s.l s.r s.c ⟨glT s.G b, 0, false, 0⟩) = nC s.l := by
    rw [set2_eq h.gw h.r0 h.r1 h.c0 h.c1]
    have := h.gw.r0
    exact ⟨gridF_gw h.gw.r0 h.gw.r1 h.gw.c0 h.gw.c1, gridF_length _ _ _, gridF_nC (by omega)⟩
  have hc : TP fr m s { s with r := s.r, c := if s.c + 1 < nC s.l then s.c + 1 else s.c } := tp_cur h h.r0 h.r1 (by split <;> omega) (by split <;> omega)
  exact hc.trans (tp_rows hc.ti hg s.ep)
theorem tp_z (h : TI fr m s) : TP fr m s (zT m fr s) := by
  unfold zT
  split
  · exact ⟨⟨h.gw, h.r0, h.r1, h.c0, h.c1, h.q, h.pl, h.pb⟩, rfl, rfl⟩
  · have hq := QWf.put [27, 47, 75] h.q (by simp only [List.length_cons, List.length_nil]; omega) (fun x hx => by simp at hx; omega)
    exact ⟨⟨h.gw, h.r0, h.r1, h.c0, h.c1, hq.1, h.pl, h.pb⟩, rfl, rfl⟩
theorem tp_md (h : TI fr m s) (G K Ho : Bool) : TP fr m s { s with G := G, K := K, Ho := Ho } :=
  ⟨⟨h.gw, h.r0, h.r1, h.c0, h.c1, h.q, h.pl, h.pb⟩, rfl, rfl⟩
theorem tp_ite {p : Prop} [Decidable p] {a b : Tm} (ha : TP fr m s a) (hb : TP fr m s b) : TP fr m s (if p then a else b) := by
  split
  · exact ha
  · exact hb
theorem tp_two (h : TI fr m s) (b : Int) : TP fr m s (twoT m fr s b) := by
  unfold twoT
  repeat' (first | exact tp_z h | exact tp_wp h _ _ _ _ | refine tp_ite ?_ ?_)
  all_goals first
    | exact tp_st h _ _
    | exact tp_mo h _ _
    | exact tp_ix h
    | exact tp_wp h _ _ _ _
    | exact tp_z h
    | exact tp_md h _ _ _
    | exact TP.refl h
theorem tp_sq (h : TI fr m s) {b : Int} (hb : 0 ≤ b ∧ b ≤ 255) : TP fr m s (sqT m fr s b) := by
  unfold sqT
  split
  · rename_i hl
    refine ⟨⟨h.gw, h.r0, h.r1, h.c0, h.c1, h.q, ?_, byteR_append h.pb fun x hx => ?_⟩, rfl, rfl⟩
    · simp only [List.length_append, List.length_cons, List.length_nil]; omega
    · simp at hx; subst hx; exact hb
  · split
    · exact (tp_nil h _).trans (tp_two (tp_nil h _).ti b)
    · exact (tp_nil h _).trans (tp_pl (tp_nil h _).ti _ _)
theorem tp_ct (h : TI fr m s) (b : Int) : TP fr m s (ctT s b) := by
  unfold ctT
  repeat' (first | exact tp_z h | exact tp_wp h _ _ _ _ | refine tp_ite ?_ ?_)
  all_goals first
    | exact tp_st h _ _
    | exact tp_ta h
    | exact tp_fd h
    | exact tp_mo h _ _
    | exact TP.refl h
theorem tp_by (h : TI fr m s) {b : Int} (hb : 0 ≤ b ∧ b ≤ 255) : TP fr m s (byT m fr s b) := by
  unfold byT
  split
  · exact TP.refl h
  · split
    · exact ⟨⟨h.gw, h.r0, h.r1, h.c0, h.c1, h.q, by simp, fun x hx => by simp at hx; omega⟩, rfl, rfl⟩
    · split
      · exact tp_sq h hb
      · split
        · exact tp_pu h b
        · exact tp_ct h b
end
theorem tp_feed {fr : Int} {m : Nat} : ∀ (bs : List Int) {s : Tm}, TI fr m s → byteR bs → TP fr m s (feedT m fr s bs)
  | [], s, h, _ => TP.refl h
  | b :: bs, s, h, hb => by
    have h1 := tp_by h (hb b List.mem_cons_self)
    exact h1.trans (tp_feed bs h1.ti fun x hx => hb x (List.mem_cons_of_mem _ hx))
theorem feedT_append (m : Nat) (fr : Int) (s : Tm) (a b : List Int) : feedT m fr s (a ++ b) = feedT m fr (feedT m fr s a) b := by simp [feedT]
theorem feedT_succ (m : Nat) (fr : Int) (s : Tm) {t : ByteArray} {i : Int} (h0 : 0 ≤ i) (h : i < t.size) : feedT m fr s ((bytesL t).take (i + 1).toNat) = byT m fr (feedT m fr s ((bytesL t).take i.toNat)) (byteAt t i.toNat) := by
  rw [bytesL_take_succ h0 h, feedT_append]; rfl
theorem feedT_all (m : Nat) (fr : Int) (s : Tm) (t : ByteArray) : feedT m fr s ((bytesL t).take t.size) = feedT m fr s (bytesL t) := by
  rw [List.take_of_length_le (by rw [bytesL_length]; omega)]
end Go.Proofs.YtcbjgpkbfmmdpaaDoor
namespace Go.Proofs.YtcbjgpkbfmmdpaaDoor
open Go Go.Sym
def fdF (x : TR) (t : ByteArray) (i : Int) : Tm := feedT (trM x) (trF x) (tmS x) ((bytesL t).take i.toNat)
def annFd (j oe qe m : Nat) (fr : Int) (F : Int → Tm) (t : ByteArray) : Ann Unit where
  α := Int
  φ _ i := 0 ≤ i ∧ i ≤ t.size
  μ _ i := (t.size - i).toNat
  get st := getI st.tm 8
  f st i := tmpl [0, 1, 2, 7] [(8, .v (.int .i64 i))] (((tmI j oe qe m fr (F i)).zipIdx j).map (fun p => (p.2, p.1)) ++ [(getY st.tm 0, loopTm st.H (getY st.tm 0) [2] [])]) st
  fx st := match getC st.H j with
    | [_, _, _, _, _, .s b _ _ _] => [.adopt (j + 6) b]
    | _ => []
def tabV12 : List (Nat × ACon Unit) := (25, lcTSeq) :: (28, lcPlay4) :: (27, lcCtl) :: tabU12
theorem tabV12_ok : LCs Tryd.prog tabV12 := ⟨ok_tSeq, ok_play4, ok_ctl, tabU12_ok⟩
def fdX (x : TR) (t : ByteArray) : Tm := feedT (trM x) (trF x) (tmS x) (bytesL t)
def lcTFeed : ACon Unit := mkLC (decP (shCons (shP 0) (shOne shStr)) (shTm 0)) fun ((_, t), x) => .ask (TA x ∧ t.size ≤ 1099511627776) (.one (.t []) (tmE 0 x (fdX x t)) [0, 1, 3, 4, 5, 6])
set_option maxHeartbeats 4000000 in
theorem ok_tFeed : ∀ I : Sym.Inv Unit, LCOk I Tryd.prog 11 lcTFeed := by
  refine lc_mk (fun ((_, t), x) => allCfg Tryd.prog purT tabV12 0 [(129, annFd 0 x.2.2.1 x.2.2.2.2.1.1 (trM x) (trF x) (fdF x t) t)]) (fun _ _ => allCfg_ok mixed purT_ok tabV12_ok) (fun _ => rfl) (n := 90) Tryd.func11 ?_
  intro ⟨⟨u0, t⟩, ⟨u1, u2, G, K, Ho, pe⟩, ⟨r, c, p, u3, u4⟩, oe, ⟨l, oe2, ep⟩, ⟨qe, fr, n, ov⟩, ⟨xs, m, qe2⟩, ⟨pl, pn, pe2⟩⟩ hφ
  obtain ⟨⟨⟨rfl, rfl, rfl, rfl, rfl, hI⟩, hsz⟩, hp⟩ := id hφ
  refine kcast (B := ((fun F : Int → Tm => (II (0 : Int) ≤ (0 : Int) ∧ (0 : Int) ≤ (↑t.size : Int)) ∧ ((SV.y (11 : Nat) = SV.y (11 : Nat) ∧ SV.p (9 : Nat) (0 : Nat) = SV.p (9 : Nat) (0 : Nat) ∧ SV.p (8 : Nat) (0 : Nat) = SV.p (8 : Nat) (0 : Nat) ∧
   SV.v (Value.int IntKind.i64 (↑t.size : Int)) = SV.v (Value.int IntKind.i64 (↑t.size : Int)) ∧ SV.v (Value.int IntKind.i64 (0 : Int)) = SV.v (Value.int IntKind.i64 (0 : Int)) ∧ True) ∧ (SV.p (1 : Nat) (0 : Nat) = SV.p (1 : Nat) (0 : Nat) ∧ SV.p (4 :
   Nat) (0 : Nat) = SV.p (4 : Nat) (0 : Nat) ∧ SV.v (Value.bool G) = SV.v (Value.bool G) ∧ SV.v (Value.bool K) = SV.v (Value.bool K) ∧ SV.v (Value.bool Ho) = SV.v (Value.bool Ho) ∧ SV.h (6 : Nat) [pe, (0 : Nat)] = SV.h (6 : Nat) [pe, (0 : Nat)] ∧ True)
   ∧ (SV.v (Value.int IntKind.i64 r) = SV.v (Value.int IntKind.i64 r) ∧ SV.v (Value.int IntKind.i64 c) = SV.v (Value.int IntKind.i64 c) ∧ SV.v (Value.bool false) = SV.v (Value.bool false) ∧ SV.p (2 : Nat) (0 : Nat) = SV.p (2 : Nat) (0 : Nat) ∧ True) ∧
   (SV.h (3 : Nat) [oe, (0 : Nat)] = SV.h (3 : Nat) [oe, (0 : Nat)] ∧ True) ∧ (oe = oe ∧ ep = ep ∧ l = l) ∧ (SV.h (5 : Nat) [qe, (0 : Nat)] = SV.h (5 : Nat) [qe, (0 : Nat)] ∧ SV.v (Value.int IntKind.i64 fr) = SV.v (Value.int IntKind.i64 (trF ((u1, u2,
   G, K, Ho, pe), (r, c, false, u3, u4), oe, RC.mk l oe ep, (qe, fr, n, ov), OI.mk xs m qe, OI.mk pl pl.length pe))) ∧ SV.v (Value.int IntKind.i64 n) = SV.v (Value.int IntKind.i64 n) ∧ SV.v (Value.bool ov) = SV.v (Value.bool ov) ∧ True) ∧ (m = trM ((u1,
   u2, G, K, Ho, pe), (r, c, false, u3, u4), oe, RC.mk l oe ep, (qe, fr, n, ov), OI.mk xs m qe, OI.mk pl pl.length pe) ∧ qe = qe ∧ xs = xs) ∧ (pl.length = pl.length ∧ pe = pe ∧ pl = pl) ∧ (SV.p (0 : Nat) (0 : Nat) = SV.p (0 : Nat) (0 : Nat) ∧ True) ∧
   (SV.p (0 : Nat) (0 : Nat) = SV.p (0 : Nat) (0 : Nat) ∧ True) ∧ (SV.v (Value.string t) = SV.v (Value.string t) ∧ True) ∧ Obj.deferred (some []) = Obj.deferred (some []) ∧ ((SV.p (7 : Nat) (0 : Nat) = SV.p (7 : Nat) (0 : Nat) ∧ True) ∧ #[(10 : Nat)] =
   #[(10 : Nat)] ∧ codeAt Tryd.f11 [(1 : Nat), (1 : Nat), (1 : Nat), (0 : Nat), (0 : Nat)] = codeAt Tryd.f11 [(1 : Nat), (1 : Nat), (1 : Nat), (0 : Nat), (0 : Nat)] ∧ codeAt Tryd.f11 [(1 : Nat), (1 : Nat), (1 : Nat), (0 : Nat), (1 : Nat)] = codeAt
   Tryd.f11 [(1 : Nat), (1 : Nat), (1 : Nat), (0 : Nat), (1 : Nat)]) ∧ True) ∧ ∀ (x : Int), (0 : Int) ≤ x ∧ x ≤ (↑t.size : Int) → br (decide (x < (↑t.size : Int))) (rq (decide ((0 : Int) ≤ x ∧ x < (↑t.size : Int))) (rq ((F x).pe.beq (F x).pe) (br ((↑(F
   x).pl.length : Int) == (0 : Int)) (br (decide (byteAt t x.toNat > (126 : Int))) (((0 : Int) ≤ IntKind.i64.wrap (x + (1 : Int)) ∧ IntKind.i64.wrap (x + (1 : Int)) ≤ (↑t.size : Int)) ∧ ((SV.y (11 : Nat) = SV.y (11 : Nat) ∧ SV.p (9 : Nat) (0 : Nat) =
   SV.p (9 : Nat) (0 : Nat) ∧ SV.p (8 : Nat) (0 : Nat) = SV.p (8 : Nat) (0 : Nat) ∧ SV.v (Value.int IntKind.i64 (↑t.size : Int)) = SV.v (Value.int IntKind.i64 (↑t.size : Int)) ∧ SV.v (Value.int IntKind.i64 (IntKind.i64.wrap (x + (1 : Int)))) = SV.v
   (Value.int IntKind.i64 (IntKind.i64.wrap (x + (1 : Int)))) ∧ True) ∧ (SV.p (1 : Nat) (0 : Nat) = SV.p (1 : Nat) (0 : Nat) ∧ SV.p (4 : Nat) (0 : Nat) = SV.p (4 : Nat) (0 : Nat) ∧ SV.v (Value.bool (F x).G) = SV.v (Value.bool (F (IntKind.i64.wrap (x +
   (1 : Int)))).G) ∧ SV.v (Value.bool (F x).K) = SV.v (Value.bool (F (IntKind.i64.wrap (x + (1 : Int)))).K) ∧ SV.v (Value.bool (F x).Ho) = SV.v (Value.bool (F (IntKind.i64.wrap (x + (1 : Int)))).Ho) ∧ SV.h (6 : Nat) [(F x).pe, (0 : Nat)] = SV.h (6 :
   Nat) [(F (IntKind.i64.wrap (x + (1 : Int)))).pe, (0 : Nat)] ∧ True) ∧ (SV.v (Value.int IntKind.i64 (F x).r) = SV.v (Value.int IntKind.i64 (F (IntKind.i64.wrap (x + (1 : Int)))).r) ∧ SV.v (Value.int IntKind.i64 (F x).c) = SV.v (Value.int IntKind.i64
   (F (IntKind.i64.wrap (x + (1 : Int)))).c) ∧ SV.v (Value.bool false) = SV.v (Value.bool false) ∧ SV.p (2 : Nat) (0 : Nat) = SV.p (2 : Nat) (0 : Nat) ∧ True) ∧ (SV.h (3 : Nat) [oe, (0 : Nat)] = SV.h (3 : Nat) [oe, (0 : Nat)] ∧ True) ∧ (oe = oe ∧ (F
   x).ep = (F (IntKind.i64.wrap (x + (1 : Int)))).ep ∧ (F x).l = (F (IntKind.i64.wrap (x + (1 : Int)))).l) ∧ (SV.h (5 : Nat) [qe, (0 : Nat)] = SV.h (5 : Nat) [qe, (0 : Nat)] ∧ SV.v (Value.int IntKind.i64 (trF ((u1, u2, G, K, Ho, pe), (r, c, false, u3,
   u4), oe, RC.mk l oe ep, (qe, fr, n, ov), OI.mk xs m qe, OI.mk pl pl.length pe))) = SV.v (Value.int IntKind.i64 (trF ((u1, u2, G, K, Ho, pe), (r, c, false, u3, u4), oe, RC.mk l oe ep, (qe, fr, n, ov), OI.mk xs m qe, OI.mk pl pl.length pe))) ∧ SV.v
   (Value.int IntKind.i64 (F x).n) = SV.v (Value.int IntKind.i64 (F (IntKind.i64.wrap (x + (1 : Int)))).n) ∧ SV.v (Value.bool (F x).ov) = SV.v (Value.bool (F (IntKind.i64.wrap (x + (1 : Int)))).ov) ∧ True) ∧ (trM ((u1, u2, G, K, Ho, pe), (r, c, false,
   u3, u4), oe, RC.mk l oe ep, (qe, fr, n, ov), OI.mk xs m qe, OI.mk pl pl.length pe) = trM ((u1, u2, G, K, Ho, pe), (r, c, false, u3, u4), oe, RC.mk l oe ep, (qe, fr, n, ov), OI.mk xs m qe, OI.mk pl pl.length pe) ∧ qe = qe ∧ (F x).xs = (F
   (IntKind.i64.wrap (x + (1 : Int)))).xs) ∧ ((F x).pl.length = (F (IntKind.i64.wrap (x + (1 : Int)))).pl.length ∧ (F x).pe = (F (IntKind.i64.wrap (x + (1 : Int)))).pe ∧ (F x).pl = (F (IntKind.i64.wrap (x + (1 : Int)))).pl) ∧ (SV.p (0 : Nat) (0 : Nat) =
   SV.p (0 : Nat) (0 : Nat) ∧ True) ∧ (SV.p (0 : Nat) (0 : Nat) = SV.p (0 : Nat) (0 : Nat) ∧ True) ∧ (SV.v (Value.string t) = SV.v (Value.string t) ∧ True) ∧ Obj.deferred (some []) = Obj.deferred (some []) ∧ ((SV.p (7 : Nat) (0 : Nat) = SV.p (7 : Nat)
   (0 : Nat) ∧ True) ∧ #[(10 : Nat)] = #[(10 : Nat)] ∧ codeAt Tryd.f11 [(1 : Nat), (1 : Nat), (1 : Nat), (0 : Nat), (0 : Nat)] = codeAt Tryd.f11 [(1 : Nat), (1 : Nat), (1 : Nat), (0 : Nat), (0 : Nat)] ∧ codeAt Tryd.f11 [(1 : Nat), (1 : Nat), (1 : Nat),
   (0 : Nat), (1 : Nat)] = codeAt Tryd.f11 [(1 : Nat), (1 : Nat), (1 : Nat), (0 : Nat), (1 : Nat)]) ∧ True) ∧ ((↑t.size : Int) - IntKind.i64.wrap (x + (1 : Int))).toNat < ((↑t.size : Int) - x).toNat) (rq (decide ((0 : Int) ≤ x ∧ x < (↑t.size : Int)))
   (br (byteAt t x.toNat == (27 : Int)) (((0 : Int) ≤ IntKind.i64.wrap (x + (1 : Int)) ∧ IntKind.i64.wrap (x + (1 : Int)) ≤ (↑t.size : Int)) ∧ ((SV.y (11 : Nat) = SV.y (11 : Nat) ∧ SV.p (9 : Nat) (0 : Nat) = SV.p (9 : Nat) (0 : Nat) ∧ SV.p (8 : Nat) (0
   : Nat) = SV.p (8 : Nat) (0 : Nat) ∧ SV.v (Value.int IntKind.i64 (↑t.size : Int)) = SV.v (Value.int IntKind.i64 (↑t.size : Int)) ∧ SV.v (Value.int IntKind.i64 (IntKind.i64.wrap (x + (1 : Int)))) = SV.v (Value.int IntKind.i64 (IntKind.i64.wrap (x + (1
   : Int)))) ∧ True) ∧ (SV.p (1 : Nat) (0 : Nat) = SV.p (1 : Nat) (0 : Nat) ∧ SV.p (4 : Nat) (0 : Nat) = SV.p (4 : Nat) (0 : Nat) ∧ SV.v (Value.bool (F x).G) = SV.v (Value.bool (F (IntKind.i64.wrap (x + (1 : Int)))).G) ∧ SV.v (Value.bool (F x).K) = SV.v
   (Value.bool (F (IntKind.i64.wrap (x + (1 : Int)))).K) ∧ SV.v (Value.bool (F x).Ho) = SV.v (Value.bool (F (IntKind.i64.wrap (x + (1 : Int)))).Ho) ∧ SV.h (6 : Nat) [(F x).pe + (1 : Nat), (0 : Nat)] = SV.h (6 : Nat) [(F (IntKind.i64.wrap (x + (1 :
   Int)))).pe, (0 : Nat)] ∧ True) ∧ (SV.v (Value.int IntKind.i64 (F x).r) = SV.v (Value.int IntKind.i64 (F (IntKind.i64.wrap (x + (1 : Int)))).r) ∧ SV.v (Value.int IntKind.i64 (F x).c) = SV.v (Value.int IntKind.i64 (F (IntKind.i64.wrap (x + (1 :
   Int)))).c) ∧ SV.v (Value.bool false) = SV.v (Value.bool false) ∧ SV.p (2 : Nat) (0 : Nat) = SV.p (2 : Nat) (0 : Nat) ∧ True) ∧ (SV.h (3 : Nat) [oe, (0 : Nat)] = SV.h (3 : Nat) [oe, (0 : Nat)] ∧ True) ∧ (oe = oe ∧ (F x).ep = (F (IntKind.i64.wrap (x +
   (1 : Int)))).ep ∧ (F x).l = (F (IntKind.i64.wrap (x + (1 : Int)))).l) ∧ (SV.h (5 : Nat) [qe, (0 : Nat)] = SV.h (5 : Nat) [qe, (0 : Nat)] ∧ SV.v (Value.int IntKind.i64 (trF ((u1, u2, G, K, Ho, pe), (r, c, false, u3, u4), oe, RC.mk l oe ep, (qe, fr, n,
   ov), OI.mk xs m qe, OI.mk pl pl.length pe))) = SV.v (Value.int IntKind.i64 (trF ((u1, u2, G, K, Ho, pe), (r, c, false, u3, u4), oe, RC.mk l oe ep, (qe, fr, n, ov), OI.mk xs m qe, OI.mk pl pl.length pe))) ∧ SV.v (Value.int IntKind.i64 (F x).n) = SV.v
   (Value.int IntKind.i64 (F (IntKind.i64.wrap (x + (1 : Int)))).n) ∧ SV.v (Value.bool (F x).ov) = SV.v (Value.bool (F (IntKind.i64.wrap (x + (1 : Int)))).ov) ∧ True) ∧ (trM ((u1, u2, G, K, Ho, pe), (r, c, false, u3, u4), oe, RC.mk l oe ep, (qe, fr, n,
   ov), OI.mk xs m qe, OI.mk pl pl.length pe) = trM ((u1, u2, G, K, Ho, pe), (r, c, false, u3, u4), oe, RC.mk l oe ep, (qe, fr, n, ov), OI.mk xs m qe, OI.mk pl pl.length pe) ∧ qe = qe ∧ (F x).xs = (F (IntKind.i64.wrap (x + (1 : Int)))).xs) ∧ ((1 : Nat)
   = (F (IntKind.i64.wrap (x + (1 : Int)))).pl.length ∧ (F x).pe + (1 : Nat) = (F (IntKind.i64.wrap (x + (1 : Int)))).pe ∧ LI [(27 : Int)] = (F (IntKind.i64.wrap (x + (1 : Int)))).pl) ∧ (SV.p (0 : Nat) (0 : Nat) = SV.p (0 : Nat) (0 : Nat) ∧ True) ∧
   (SV.p (0 : Nat) (0 : Nat) = SV.p (0 : Nat) (0 : Nat) ∧ True) ∧ (SV.v (Value.string t) = SV.v (Value.string t) ∧ True) ∧ Obj.deferred (some []) = Obj.deferred (some []) ∧ ((SV.p (7 : Nat) (0 : Nat) = SV.p (7 : Nat) (0 : Nat) ∧ True) ∧ #[(10 : Nat)] =
   #[(10 : Nat)] ∧ codeAt Tryd.f11 [(1 : Nat), (1 : Nat), (1 : Nat), (0 : Nat), (0 : Nat)] = codeAt Tryd.f11 [(1 : Nat), (1 : Nat), (1 : Nat), (0 : Nat), (0 : Nat)] ∧ codeAt Tryd.f11 [(1 : Nat), (1 : Nat), (1 : Nat), (0 : Nat), (1 : Nat)] = codeAt
   Tryd.f11 [(1 : Nat), (1 : Nat), (1 : Nat), (0 : Nat), (1 : Nat)]) ∧ True) ∧ ((↑t.size : Int) - IntKind.i64.wrap (x + (1 : Int))).toNat < ((↑t.size : Int) - x).toNat) (rq ((F x).pe.beq (F x).pe) (br (decide ((↑(F x).pl.length : Int) > (0 : Int)))
   (true = true ∧ (TA (((), (), (F x).G, (F x).K, (F x).Ho, (F x).pe), ((F x).r, (F x).c, false, (), ()), oe, RC.mk (F x).l oe (F x).ep, (qe, trF ((u1, u2, G, K, Ho, pe), (r, c, false, u3, u4), oe, RC.mk l oe ep, (qe, fr, n, ov), OI.mk xs m qe, OI.mk pl
   pl.length pe), (F x).n, (F x).ov), OI.mk (F x).xs (trM ((u1, u2, G, K, Ho, pe), (r, c, false, u3, u4), oe, RC.mk l oe ep, (qe, fr, n, ov), OI.mk xs m qe, OI.mk pl pl.length pe)) qe, OI.mk (F x).pl (F x).pl.length (F x).pe) ∧ (0 : Int) ≤ byteAt t
   x.toNat ∧ byteAt t x.toNat ≤ (255 : Int) ∧ (1 : Nat) ≤ (F x).pl.length) ∧ ((0 : Int) ≤ IntKind.i64.wrap (x + (1 : Int)) ∧ IntKind.i64.wrap (x + (1 : Int)) ≤ (↑t.size : Int)) ∧ ((SV.y (11 : Nat) = SV.y (11 : Nat) ∧ SV.p (9 : Nat) (0 : Nat) = SV.p (9 :
   Nat) (0 : Nat) ∧ SV.p (8 : Nat) (0 : Nat) = SV.p (8 : Nat) (0 : Nat) ∧ SV.v (Value.int IntKind.i64 (↑t.size : Int)) = SV.v (Value.int IntKind.i64 (↑t.size : Int)) ∧ SV.v (Value.int IntKind.i64 (IntKind.i64.wrap (x + (1 : Int)))) = SV.v (Value.int
   IntKind.i64 (IntKind.i64.wrap (x + (1 : Int)))) ∧ True) ∧ (SV.p (1 : Nat) (0 : Nat) = SV.p (1 : Nat) (0 : Nat) ∧ SV.p (4 : Nat) (0 : Nat) = SV.p (4 : Nat) (0 : Nat) ∧ SV.v (Value.bool (sqX (((), (), (F x).G, (F x).K, (F x).Ho, (F x).pe), ((F x).r, (F
   x).c, false, (), ()), oe, RC.mk (F x).l oe (F x).ep, (qe, trF ((u1, u2, G, K, Ho, pe), (r, c, false, u3, u4), oe, RC.mk l oe ep, (qe, fr, n, ov), OI.mk xs m qe, OI.mk pl pl.length pe), (F x).n, (F x).ov), OI.mk (F x).xs (trM ((u1, u2, G, K, Ho, pe),
   (r, c, false, u3, u4), oe, RC.mk l oe ep, (qe, fr, n, ov), OI.mk xs m qe, OI.mk pl pl.length pe)) qe, OI.mk (F x).pl (F x).pl.length (F x).pe) (byteAt t x.toNat)).G) = SV.v (Value.bool (F (IntKind.i64.wrap (x + (1 : Int)))).G) ∧ SV.v (Value.bool (sqX
   (((), (), (F x).G, (F x).K, (F x).Ho, (F x).pe), ((F x).r, (F x).c, false, (), ()), oe, RC.mk (F x).l oe (F x).ep, (qe, trF ((u1, u2, G, K, Ho, pe), (r, c, false, u3, u4), oe, RC.mk l oe ep, (qe, fr, n, ov), OI.mk xs m qe, OI.mk pl pl.length pe), (F
   x).n, (F x).ov), OI.mk (F x).xs (trM ((u1, u2, G, K, Ho, pe), (r, c, false, u3, u4), oe, RC.mk l oe ep, (qe, fr, n, ov), OI.mk xs m qe, OI.mk pl pl.length pe)) qe, OI.mk (F x).pl (F x).pl.length (F x).pe) (byteAt t x.toNat)).K) = SV.v (Value.bool (F
   (IntKind.i64.wrap (x + (1 : Int)))).K) ∧ SV.v (Value.bool (sqX (((), (), (F x).G, (F x).K, (F x).Ho, (F x).pe), ((F x).r, (F x).c, false, (), ()), oe, RC.mk (F x).l oe (F x).ep, (qe, trF ((u1, u2, G, K, Ho, pe), (r, c, false, u3, u4), oe, RC.mk l oe
   ep, (qe, fr, n, ov), OI.mk xs m qe, OI.mk pl pl.length pe), (F x).n, (F x).ov), OI.mk (F x).xs (trM ((u1, u2, G, K, Ho, pe), (r, c, false, u3, u4), oe, RC.mk l oe ep, (qe, fr, n, ov), OI.mk xs m qe, OI.mk pl pl.length pe)) qe, OI.mk (F x).pl (F
   x).pl.length (F x).pe) (byteAt t x.toNat)).Ho) = SV.v (Value.bool (F (IntKind.i64.wrap (x + (1 : Int)))).Ho) ∧ SV.h (6 : Nat) [(sqX (((), (), (F x).G, (F x).K, (F x).Ho, (F x).pe), ((F x).r, (F x).c, false, (), ()), oe, RC.mk (F x).l oe (F x).ep,
   (qe, trF ((u1, u2, G, K, Ho, pe), (r, c, false, u3, u4), oe, RC.mk l oe ep, (qe, fr, n, ov), OI.mk xs m qe, OI.mk pl pl.length pe), (F x).n, (F x).ov), OI.mk (F x).xs (trM ((u1, u2, G, K, Ho, pe), (r, c, false, u3, u4), oe, RC.mk l oe ep, (qe, fr, n,
   ov), OI.mk xs m qe, OI.mk pl pl.length pe)) qe, OI.mk (F x).pl (F x).pl.length (F x).pe) (byteAt t x.toNat)).pe, (0 : Nat)] = SV.h (6 : Nat) [(F (IntKind.i64.wrap (x + (1 : Int)))).pe, (0 : Nat)] ∧ True) ∧ (SV.v (Value.int IntKind.i64 (sqX (((), (),
   (F x).G, (F x).K, (F x).Ho, (F x).pe), ((F x).r, (F x).c, false, (), ()), oe, RC.mk (F x).l oe (F x).ep, (qe, trF ((u1, u2, G, K, Ho, pe), (r, c, false, u3, u4), oe, RC.mk l oe ep, (qe, fr, n, ov), OI.mk xs m qe, OI.mk pl pl.length pe), (F x).n, (F
   x).ov), OI.mk (F x).xs (trM ((u1, u2, G, K, Ho, pe), (r, c, false, u3, u4), oe, RC.mk l oe ep, (qe, fr, n, ov), OI.mk xs m qe, OI.mk pl pl.length pe)) qe, OI.mk (F x).pl (F x).pl.length (F x).pe) (byteAt t x.toNat)).r) = SV.v (Value.int IntKind.i64
   (F (IntKind.i64.wrap (x + (1 : Int)))).r) ∧ SV.v (Value.int IntKind.i64 (sqX (((), (), (F x).G, (F x).K, (F x).Ho, (F x).pe), ((F x).r, (F x).c, false, (), ()), oe, RC.mk (F x).l oe (F x).ep, (qe, trF ((u1, u2, G, K, Ho, pe), (r, c, false, u3, u4),
   oe, RC.mk l oe ep, (qe, fr, n, ov), OI.mk xs m qe, OI.mk pl pl.length pe), (F x).n, (F x).ov), OI.mk (F x).xs (trM ((u1, u2, G, K, Ho, pe), (r, c, false, u3, u4), oe, RC.mk l oe ep, (qe, fr, n, ov), OI.mk xs m qe, OI.mk pl pl.length pe)) qe, OI.mk (F
   x).pl (F x).pl.length (F x).pe) (byteAt t x.toNat)).c) = SV.v (Value.int IntKind.i64 (F (IntKind.i64.wrap (x + (1 : Int)))).c) ∧ SV.v (Value.bool false) = SV.v (Value.bool false) ∧ SV.p (2 : Nat) (0 : Nat) = SV.p (2 : Nat) (0 : Nat) ∧ True) ∧ (SV.h
   (3 : Nat) [oe, (0 : Nat)] = SV.h (3 : Nat) [oe, (0 : Nat)] ∧ True) ∧ (oe = oe ∧ (sqX (((), (), (F x).G, (F x).K, (F x).Ho, (F x).pe), ((F x).r, (F x).c, false, (), ()), oe, RC.mk (F x).l oe (F x).ep, (qe, trF ((u1, u2, G, K, Ho, pe), (r, c, false,
   u3, u4), oe, RC.mk l oe ep, (qe, fr, n, ov), OI.mk xs m qe, OI.mk pl pl.length pe), (F x).n, (F x).ov), OI.mk (F x).xs (trM ((u1, u2, G, K, Ho, pe), (r, c, false, u3, u4), oe, RC.mk l oe ep, (qe, fr, n, ov), OI.mk xs m qe, OI.mk pl pl.length pe)) qe,
   OI.mk (F x).pl (F x).pl.length (F x).pe) (byteAt t x.toNat)).ep = (F (IntKind.i64.wrap (x + (1 : Int)))).ep ∧ (sqX (((), (), (F x).G, (F x).K, (F x).Ho, (F x).pe), ((F x).r, (F x).c, false, (), ()), oe, RC.mk (F x).l oe (F x).ep, (qe, trF ((u1, u2,
   G, K, Ho, pe), (r, c, false, u3, u4), oe, RC.mk l oe ep, (qe, fr, n, ov), OI.mk xs m qe, OI.mk pl pl.length pe), (F x).n, (F x).ov), OI.mk (F x).xs (trM ((u1, u2, G, K, Ho, pe), (r, c, false, u3, u4), oe, RC.mk l oe ep, (qe, fr, n, ov), OI.mk xs m
   qe, OI.mk pl pl.length pe)) qe, OI.mk (F x).pl (F x).pl.length (F x).pe) (byteAt t x.toNat)).l = (F (IntKind.i64.wrap (x + (1 : Int)))).l) ∧ (SV.h (5 : Nat) [qe, (0 : Nat)] = SV.h (5 : Nat) [qe, (0 : Nat)] ∧ SV.v (Value.int IntKind.i64 (trF ((u1, u2,
   G, K, Ho, pe), (r, c, false, u3, u4), oe, RC.mk l oe ep, (qe, fr, n, ov), OI.mk xs m qe, OI.mk pl pl.length pe))) = SV.v (Value.int IntKind.i64 (trF ((u1, u2, G, K, Ho, pe), (r, c, false, u3, u4), oe, RC.mk l oe ep, (qe, fr, n, ov), OI.mk xs m qe,
   OI.mk pl pl.length pe))) ∧ SV.v (Value.int IntKind.i64 (sqX (((), (), (F x).G, (F x).K, (F x).Ho, (F x).pe), ((F x).r, (F x).c, false, (), ()), oe, RC.mk (F x).l oe (F x).ep, (qe, trF ((u1, u2, G, K, Ho, pe), (r, c, false, u3, u4), oe, RC.mk l oe ep,
   (qe, fr, n, ov), OI.mk xs m qe, OI.mk pl pl.length pe), (F x).n, (F x).ov), OI.mk (F x).xs (trM ((u1, u2, G, K, Ho, pe), (r, c, false, u3, u4), oe, RC.mk l oe ep, (qe, fr, n, ov), OI.mk xs m qe, OI.mk pl pl.length pe)) qe, OI.mk (F x).pl (F
   x).pl.length (F x).pe) (byteAt t x.toNat)).n) = SV.v (Value.int IntKind.i64 (F (IntKind.i64.wrap (x + (1 : Int)))).n) ∧ SV.v (Value.bool (sqX (((), (), (F x).G, (F x).K, (F x).Ho, (F x).pe), ((F x).r, (F x).c, false, (), ()), oe, RC.mk (F x).l oe (F
   x).ep, (qe, trF ((u1, u2, G, K, Ho, pe), (r, c, false, u3, u4), oe, RC.mk l oe ep, (qe, fr, n, ov), OI.mk xs m qe, OI.mk pl pl.length pe), (F x).n, (F x).ov), OI.mk (F x).xs (trM ((u1, u2, G, K, Ho, pe), (r, c, false, u3, u4), oe, RC.mk l oe ep, (qe,
   fr, n, ov), OI.mk xs m qe, OI.mk pl pl.length pe)) qe, OI.mk (F x).pl (F x).pl.length (F x).pe) (byteAt t x.toNat)).ov) = SV.v (Value.bool (F (IntKind.i64.wrap (x + (1 : Int)))).ov) ∧ True) ∧ (trM ((u1, u2, G, K, Ho, pe), (r, c, false, u3, u4), oe,
   RC.mk l oe ep, (qe, fr, n, ov), OI.mk xs m qe, OI.mk pl pl.length pe) = trM ((u1, u2, G, K, Ho, pe), (r, c, false, u3, u4), oe, RC.mk l oe ep, (qe, fr, n, ov), OI.mk xs m qe, OI.mk pl pl.length pe) ∧ qe = qe ∧ (sqX (((), (), (F x).G, (F x).K, (F
   x).Ho, (F x).pe), ((F x).r, (F x).c, false, (), ()), oe, RC.mk (F x).l oe (F x).ep, (qe, trF ((u1, u2, G, K, Ho, pe), (r, c, false, u3, u4), oe, RC.mk l oe ep, (qe, fr, n, ov), OI.mk xs m qe, OI.mk pl pl.length pe), (F x).n, (F x).ov), OI.mk (F x).xs
   (trM ((u1, u2, G, K, Ho, pe), (r, c, false, u3, u4), oe, RC.mk l oe ep, (qe, fr, n, ov), OI.mk xs m qe, OI.mk pl pl.length pe)) qe, OI.mk (F x).pl (F x).pl.length (F x).pe) (byteAt t x.toNat)).xs = (F (IntKind.i64.wrap (x + (1 : Int)))).xs) ∧ ((sqX
   (((), (), (F x).G, (F x).K, (F x).Ho, (F x).pe), ((F x).r, (F x).c, false, (), ()), oe, RC.mk (F x).l oe (F x).ep, (qe, trF ((u1, u2, G, K, Ho, pe), (r, c, false, u3, u4), oe, RC.mk l oe ep, (qe, fr, n, ov), OI.mk xs m qe, OI.mk pl pl.length pe), (F
   x).n, (F x).ov), OI.mk (F x).xs (trM ((u1, u2, G, K, Ho, pe), (r, c, false, u3, u4), oe, RC.mk l oe ep, (qe, fr, n, ov), OI.mk xs m qe, OI.mk pl pl.length pe)) qe, OI.mk (F x).pl (F x).pl.length (F x).pe) (byteAt t x.toNat)).pl.length = (F
   (IntKind.i64.wrap (x + (1 : Int)))).pl.length ∧ (sqX (((), (), (F x).G, (F x).K, (F x).Ho, (F x).pe), ((F x).r, (F x).c, false, (), ()), oe, RC.mk (F x).l oe (F x).ep, (qe, trF ((u1, u2, G, K, Ho, pe), (r, c, false, u3, u4), oe, RC.mk l oe ep, (qe,
   fr, n, ov), OI.mk xs m qe, OI.mk pl pl.length pe), (F x).n, (F x).ov), OI.mk (F x).xs (trM ((u1, u2, G, K, Ho, pe), (r, c, false, u3, u4), oe, RC.mk l oe ep, (qe, fr, n, ov), OI.mk xs m qe, OI.mk pl pl.length pe)) qe, OI.mk (F x).pl (F x).pl.length
   (F x).pe) (byteAt t x.toNat)).pe = (F (IntKind.i64.wrap (x + (1 : Int)))).pe ∧ (sqX (((), (), (F x).G, (F x).K, (F x).Ho, (F x).pe), ((F x).r, (F x).c, false, (), ()), oe, RC.mk (F x).l oe (F x).ep, (qe, trF ((u1, u2, G, K, Ho, pe), (r, c, false, u3,
   u4), oe, RC.mk l oe ep, (qe, fr, n, ov), OI.mk xs m qe, OI.mk pl pl.length pe), (F x).n, (F x).ov), OI.mk (F x).xs (trM ((u1, u2, G, K, Ho, pe), (r, c, false, u3, u4), oe, RC.mk l oe ep, (qe, fr, n, ov), OI.mk xs m qe, OI.mk pl pl.length pe)) qe,
   OI.mk (F x).pl (F x).pl.length (F x).pe) (byteAt t x.toNat)).pl = (F (IntKind.i64.wrap (x + (1 : Int)))).pl) ∧ (SV.p (0 : Nat) (0 : Nat) = SV.p (0 : Nat) (0 : Nat) ∧ True) ∧ (SV.p (0 : Nat) (0 : Nat) = SV.p (0 : Nat) (0 : Nat) ∧ True) ∧ (SV.v
   (Value.string t) = SV.v (Value.string t) ∧ True) ∧ Obj.deferred (some []) = Obj.deferred (some []) ∧ ((SV.p (7 : Nat) (0 : Nat) = SV.p (7 : Nat) (0 : Nat) ∧ True) ∧ #[(10 : Nat)] = #[(10 : Nat)] ∧ codeAt Tryd.f11 [(1 : Nat), (1 : Nat), (1 : Nat), (0
   : Nat), (0 : Nat)] = codeAt Tryd.f11 [(1 : Nat), (1 : Nat), (1 : Nat), (0 : Nat), (0 : Nat)] ∧ codeAt Tryd.f11 [(1 : Nat), (1 : Nat), (1 : Nat), (0 : Nat), (1 : Nat)] = codeAt Tryd.f11 [(1 : Nat), (1 : Nat), (1 : Nat), (0 : Nat), (1 : Nat)]) ∧ True)
   ∧ ((↑t.size : Int) - IntKind.i64.wrap (x + (1 : Int))).toNat < ((↑t.size : Int) - x).toNat) (br (decide (byteAt t x.toNat ≥ (32 : Int))) (true = true ∧ (TA (((), (), (F x).G, (F x).K, (F x).Ho, (F x).pe), ((F x).r, (F x).c, false, (), ()), oe, RC.mk
   (F x).l oe (F x).ep, (qe, trF ((u1, u2, G, K, Ho, pe), (r, c, false, u3, u4), oe, RC.mk l oe ep, (qe, fr, n, ov), OI.mk xs m qe, OI.mk pl pl.length pe), (F x).n, (F x).ov), OI.mk (F x).xs (trM ((u1, u2, G, K, Ho, pe), (r, c, false, u3, u4), oe, RC.mk
   l oe ep, (qe, fr, n, ov), OI.mk xs m qe, OI.mk pl pl.length pe)) qe, OI.mk (F x).pl (F x).pl.length (F x).pe) ∧ (0 : Int) ≤ byteAt t x.toNat ∧ byteAt t x.toNat ≤ (255 : Int)) ∧ ((0 : Int) ≤ IntKind.i64.wrap (x + (1 : Int)) ∧ IntKind.i64.wrap (x + (1
   : Int)) ≤ (↑t.size : Int)) ∧ ((SV.y (11 : Nat) = SV.y (11 : Nat) ∧ SV.p (9 : Nat) (0 : Nat) = SV.p (9 : Nat) (0 : Nat) ∧ SV.p (8 : Nat) (0 : Nat) = SV.p (8 : Nat) (0 : Nat) ∧ SV.v (Value.int IntKind.i64 (↑t.size : Int)) = SV.v (Value.int IntKind.i64
   (↑t.size : Int)) ∧ SV.v (Value.int IntKind.i64 (IntKind.i64.wrap (x + (1 : Int)))) = SV.v (Value.int IntKind.i64 (IntKind.i64.wrap (x + (1 : Int)))) ∧ True) ∧ (SV.p (1 : Nat) (0 : Nat) = SV.p (1 : Nat) (0 : Nat) ∧ SV.p (4 : Nat) (0 : Nat) = SV.p (4 :
   Nat) (0 : Nat) ∧ SV.v (Value.bool (F x).G) = SV.v (Value.bool (F (IntKind.i64.wrap (x + (1 : Int)))).G) ∧ SV.v (Value.bool (F x).K) = SV.v (Value.bool (F (IntKind.i64.wrap (x + (1 : Int)))).K) ∧ SV.v (Value.bool (F x).Ho) = SV.v (Value.bool (F
   (IntKind.i64.wrap (x + (1 : Int)))).Ho) ∧ SV.h (6 : Nat) [(F x).pe, (0 : Nat)] = SV.h (6 : Nat) [(F (IntKind.i64.wrap (x + (1 : Int)))).pe, (0 : Nat)] ∧ True) ∧ (SV.v (Value.int IntKind.i64 (F x).r) = SV.v (Value.int IntKind.i64 (F (IntKind.i64.wrap
   (x + (1 : Int)))).r) ∧ SV.v (Value.int IntKind.i64 (if (F x).c + (1 : Int) < (↑(nC (F x).l) : Int) then (F x).c + (1 : Int) else (F x).c)) = SV.v (Value.int IntKind.i64 (F (IntKind.i64.wrap (x + (1 : Int)))).c) ∧ SV.v (Value.bool false) = SV.v
   (Value.bool false) ∧ SV.p (2 : Nat) (0 : Nat) = SV.p (2 : Nat) (0 : Nat) ∧ True) ∧ (SV.h (3 : Nat) [oe, (0 : Nat)] = SV.h (3 : Nat) [oe, (0 : Nat)] ∧ True) ∧ (oe = oe ∧ (F x).ep = (F (IntKind.i64.wrap (x + (1 : Int)))).ep ∧ set2 (F x).l (F x).r (F
   x).c (C4.mk (glT (F x).G (byteAt t x.toNat)) (0 : Int) false (0 : Int)) = (F (IntKind.i64.wrap (x + (1 : Int)))).l) ∧ (SV.h (5 : Nat) [qe, (0 : Nat)] = SV.h (5 : Nat) [qe, (0 : Nat)] ∧ SV.v (Value.int IntKind.i64 (trF ((u1, u2, G, K, Ho, pe), (r, c,
   false, u3, u4), oe, RC.mk l oe ep, (qe, fr, n, ov), OI.mk xs m qe, OI.mk pl pl.length pe))) = SV.v (Value.int IntKind.i64 (trF ((u1, u2, G, K, Ho, pe), (r, c, false, u3, u4), oe, RC.mk l oe ep, (qe, fr, n, ov), OI.mk xs m qe, OI.mk pl pl.length pe)))
   ∧ SV.v (Value.int IntKind.i64 (F x).n) = SV.v (Value.int IntKind.i64 (F (IntKind.i64.wrap (x + (1 : Int)))).n) ∧ SV.v (Value.bool (F x).ov) = SV.v (Value.bool (F (IntKind.i64.wrap (x + (1 : Int)))).ov) ∧ True) ∧ (trM ((u1, u2, G, K, Ho, pe), (r, c,
   false, u3, u4), oe, RC.mk l oe ep, (qe, fr, n, ov), OI.mk xs m qe, OI.mk pl pl.length pe) = trM ((u1, u2, G, K, Ho, pe), (r, c, false, u3, u4), oe, RC.mk l oe ep, (qe, fr, n, ov), OI.mk xs m qe, OI.mk pl pl.length pe) ∧ qe = qe ∧ (F x).xs = (F
   (IntKind.i64.wrap (x + (1 : Int)))).xs) ∧ ((F x).pl.length = (F (IntKind.i64.wrap (x + (1 : Int)))).pl.length ∧ (F x).pe = (F (IntKind.i64.wrap (x + (1 : Int)))).pe ∧ (F x).pl = (F (IntKind.i64.wrap (x + (1 : Int)))).pl) ∧ (SV.p (0 : Nat) (0 : Nat) =
   SV.p (0 : Nat) (0 : Nat) ∧ True) ∧ (SV.p (0 : Nat) (0 : Nat) = SV.p (0 : Nat) (0 : Nat) ∧ True) ∧ (SV.v (Value.string t) = SV.v (Value.string t) ∧ True) ∧ Obj.deferred (some []) = Obj.deferred (some []) ∧ ((SV.p (7 : Nat) (0 : Nat) = SV.p (7 : Nat)
   (0 : Nat) ∧ True) ∧ #[(10 : Nat)] = #[(10 : Nat)] ∧ codeAt Tryd.f11 [(1 : Nat), (1 : Nat), (1 : Nat), (0 : Nat), (0 : Nat)] = codeAt Tryd.f11 [(1 : Nat), (1 : Nat), (1 : Nat), (0 : Nat), (0 : Nat)] ∧ codeAt Tryd.f11 [(1 : Nat), (1 : Nat), (1 : Nat),
   (0 : Nat), (1 : Nat)] = codeAt Tryd.f11 [(1 : Nat), (1 : Nat), (1 : Nat), (0 : Nat), (1 : Nat)]) ∧ True) ∧ ((↑t.size : Int) - IntKind.i64.wrap (x + (1 : Int))).toNat < ((↑t.size : Int) - x).toNat) (true = true ∧ true = true ∧ (TA (((), (), (F x).G,
   (F x).K, (F x).Ho, (F x).pe), ((F x).r, (F x).c, false, (), ()), oe, RC.mk (F x).l oe (F x).ep, (qe, trF ((u1, u2, G, K, Ho, pe), (r, c, false, u3, u4), oe, RC.mk l oe ep, (qe, fr, n, ov), OI.mk xs m qe, OI.mk pl pl.length pe), (F x).n, (F x).ov),
   OI.mk (F x).xs (trM ((u1, u2, G, K, Ho, pe), (r, c, false, u3, u4), oe, RC.mk l oe ep, (qe, fr, n, ov), OI.mk xs m qe, OI.mk pl pl.length pe)) qe, OI.mk (F x).pl (F x).pl.length (F x).pe) ∧ (0 : Int) ≤ byteAt t x.toNat ∧ byteAt t x.toNat ≤ (255 :
   Int)) ∧ ((0 : Int) ≤ IntKind.i64.wrap (x + (1 : Int)) ∧ IntKind.i64.wrap (x + (1 : Int)) ≤ (↑t.size : Int)) ∧ ((SV.y (11 : Nat) = SV.y (11 : Nat) ∧ SV.p (9 : Nat) (0 : Nat) = SV.p (9 : Nat) (0 : Nat) ∧ SV.p (8 : Nat) (0 : Nat) = SV.p (8 : Nat) (0 :
   Nat) ∧ SV.v (Value.int IntKind.i64 (↑t.size : Int)) = SV.v (Value.int IntKind.i64 (↑t.size : Int)) ∧ SV.v (Value.int IntKind.i64 (IntKind.i64.wrap (x + (1 : Int)))) = SV.v (Value.int IntKind.i64 (IntKind.i64.wrap (x + (1 : Int)))) ∧ True) ∧ (SV.p (1
   : Nat) (0 : Nat) = SV.p (1 : Nat) (0 : Nat) ∧ SV.p (4 : Nat) (0 : Nat) = SV.p (4 : Nat) (0 : Nat) ∧ SV.v (Value.bool (ctX (((), (), (F x).G, (F x).K, (F x).Ho, (F x).pe), ((F x).r, (F x).c, false, (), ()), oe, RC.mk (F x).l oe (F x).ep, (qe, trF
   ((u1, u2, G, K, Ho, pe), (r, c, false, u3, u4), oe, RC.mk l oe ep, (qe, fr, n, ov), OI.mk xs m qe, OI.mk pl pl.length pe), (F x).n, (F x).ov), OI.mk (F x).xs (trM ((u1, u2, G, K, Ho, pe), (r, c, false, u3, u4), oe, RC.mk l oe ep, (qe, fr, n, ov),
   OI.mk xs m qe, OI.mk pl pl.length pe)) qe, OI.mk (F x).pl (F x).pl.length (F x).pe) (byteAt t x.toNat)).G) = SV.v (Value.bool (F (IntKind.i64.wrap (x + (1 : Int)))).G) ∧ SV.v (Value.bool (ctX (((), (), (F x).G, (F x).K, (F x).Ho, (F x).pe), ((F x).r,
   (F x).c, false, (), ()), oe, RC.mk (F x).l oe (F x).ep, (qe, trF ((u1, u2, G, K, Ho, pe), (r, c, false, u3, u4), oe, RC.mk l oe ep, (qe, fr, n, ov), OI.mk xs m qe, OI.mk pl pl.length pe), (F x).n, (F x).ov), OI.mk (F x).xs (trM ((u1, u2, G, K, Ho,
   pe), (r, c, false, u3, u4), oe, RC.mk l oe ep, (qe, fr, n, ov), OI.mk xs m qe, OI.mk pl pl.length pe)) qe, OI.mk (F x).pl (F x).pl.length (F x).pe) (byteAt t x.toNat)).K) = SV.v (Value.bool (F (IntKind.i64.wrap (x + (1 : Int)))).K) ∧ SV.v (Value.bool
   (ctX (((), (), (F x).G, (F x).K, (F x).Ho, (F x).pe), ((F x).r, (F x).c, false, (), ()), oe, RC.mk (F x).l oe (F x).ep, (qe, trF ((u1, u2, G, K, Ho, pe), (r, c, false, u3, u4), oe, RC.mk l oe ep, (qe, fr, n, ov), OI.mk xs m qe, OI.mk pl pl.length
   pe), (F x).n, (F x).ov), OI.mk (F x).xs (trM ((u1, u2, G, K, Ho, pe), (r, c, false, u3, u4), oe, RC.mk l oe ep, (qe, fr, n, ov), OI.mk xs m qe, OI.mk pl pl.length pe)) qe, OI.mk (F x).pl (F x).pl.length (F x).pe) (byteAt t x.toNat)).Ho) = SV.v
   (Value.bool (F (IntKind.i64.wrap (x + (1 : Int)))).Ho) ∧ SV.h (6 : Nat) [(ctX (((), (), (F x).G, (F x).K, (F x).Ho, (F x).pe), ((F x).r, (F x).c, false, (), ()), oe, RC.mk (F x).l oe (F x).ep, (qe, trF ((u1, u2, G, K, Ho, pe), (r, c, false, u3, u4),
   oe, RC.mk l oe ep, (qe, fr, n, ov), OI.mk xs m qe, OI.mk pl pl.length pe), (F x).n, (F x).ov), OI.mk (F x).xs (trM ((u1, u2, G, K, Ho, pe), (r, c, false, u3, u4), oe, RC.mk l oe ep, (qe, fr, n, ov), OI.mk xs m qe, OI.mk pl pl.length pe)) qe, OI.mk (F
   x).pl (F x).pl.length (F x).pe) (byteAt t x.toNat)).pe, (0 : Nat)] = SV.h (6 : Nat) [(F (IntKind.i64.wrap (x + (1 : Int)))).pe, (0 : Nat)] ∧ True) ∧ (SV.v (Value.int IntKind.i64 (ctX (((), (), (F x).G, (F x).K, (F x).Ho, (F x).pe), ((F x).r, (F x).c,
   false, (), ()), oe, RC.mk (F x).l oe (F x).ep, (qe, trF ((u1, u2, G, K, Ho, pe), (r, c, false, u3, u4), oe, RC.mk l oe ep, (qe, fr, n, ov), OI.mk xs m qe, OI.mk pl pl.length pe), (F x).n, (F x).ov), OI.mk (F x).xs (trM ((u1, u2, G, K, Ho, pe), (r, c,
   false, u3, u4), oe, RC.mk l oe ep, (qe, fr, n, ov), OI.mk xs m qe, OI.mk pl pl.length pe)) qe, OI.mk (F x).pl (F x).pl.length (F x).pe) (byteAt t x.toNat)).r) = SV.v (Value.int IntKind.i64 (F (IntKind.i64.wrap (x + (1 : Int)))).r) ∧ SV.v (Value.int
   IntKind.i64 (ctX (((), (), (F x).G, (F x).K, (F x).Ho, (F x).pe), ((F x).r, (F x).c, false, (), ()), oe, RC.mk (F x).l oe (F x).ep, (qe, trF ((u1, u2, G, K, Ho, pe), (r, c, false, u3, u4), oe, RC.mk l oe ep, (qe, fr, n, ov), OI.mk xs m qe, OI.mk pl
   pl.length pe), (F x).n, (F x).ov), OI.mk (F x).xs (trM ((u1, u2, G, K, Ho, pe), (r, c, false, u3, u4), oe, RC.mk l oe ep, (qe, fr, n, ov), OI.mk xs m qe, OI.mk pl pl.length pe)) qe, OI.mk (F x).pl (F x).pl.length (F x).pe) (byteAt t x.toNat)).c) =
   SV.v (Value.int IntKind.i64 (F (IntKind.i64.wrap (x + (1 : Int)))).c) ∧ SV.v (Value.bool false) = SV.v (Value.bool false) ∧ SV.p (2 : Nat) (0 : Nat) = SV.p (2 : Nat) (0 : Nat) ∧ True) ∧ (SV.h (3 : Nat) [oe, (0 : Nat)] = SV.h (3 : Nat) [oe, (0 : Nat)]
   ∧ True) ∧ (oe = oe ∧ (ctX (((), (), (F x).G, (F x).K, (F x).Ho, (F x).pe), ((F x).r, (F x).c, false, (), ()), oe, RC.mk (F x).l oe (F x).ep, (qe, trF ((u1, u2, G, K, Ho, pe), (r, c, false, u3, u4), oe, RC.mk l oe ep, (qe, fr, n, ov), OI.mk xs m qe,
   OI.mk pl pl.length pe), (F x).n, (F x).ov), OI.mk (F x).xs (trM ((u1, u2, G, K, Ho, pe), (r, c, false, u3, u4), oe, RC.mk l oe ep, (qe, fr, n, ov), OI.mk xs m qe, OI.mk pl pl.length pe)) qe, OI.mk (F x).pl (F x).pl.length (F x).pe) (byteAt t
   x.toNat)).ep = (F (IntKind.i64.wrap (x + (1 : Int)))).ep ∧ (ctX (((), (), (F x).G, (F x).K, (F x).Ho, (F x).pe), ((F x).r, (F x).c, false, (), ()), oe, RC.mk (F x).l oe (F x).ep, (qe, trF ((u1, u2, G, K, Ho, pe), (r, c, false, u3, u4), oe, RC.mk l oe
   ep, (qe, fr, n, ov), OI.mk xs m qe, OI.mk pl pl.length pe), (F x).n, (F x).ov), OI.mk (F x).xs (trM ((u1, u2, G, K, Ho, pe), (r, c, false, u3, u4), oe, RC.mk l oe ep, (qe, fr, n, ov), OI.mk xs m qe, OI.mk pl pl.length pe)) qe, OI.mk (F x).pl (F
   x).pl.length (F x).pe) (byteAt t x.toNat)).l = (F (IntKind.i64.wrap (x + (1 : Int)))).l) ∧ (SV.h (5 : Nat) [qe, (0 : Nat)] = SV.h (5 : Nat) [qe, (0 : Nat)] ∧ SV.v (Value.int IntKind.i64 (trF ((u1, u2, G, K, Ho, pe), (r, c, false, u3, u4), oe, RC.mk l
   oe ep, (qe, fr, n, ov), OI.mk xs m qe, OI.mk pl pl.length pe))) = SV.v (Value.int IntKind.i64 (trF ((u1, u2, G, K, Ho, pe), (r, c, false, u3, u4), oe, RC.mk l oe ep, (qe, fr, n, ov), OI.mk xs m qe, OI.mk pl pl.length pe))) ∧ SV.v (Value.int
   IntKind.i64 (ctX (((), (), (F x).G, (F x).K, (F x).Ho, (F x).pe), ((F x).r, (F x).c, false, (), ()), oe, RC.mk (F x).l oe (F x).ep, (qe, trF ((u1, u2, G, K, Ho, pe), (r, c, false, u3, u4), oe, RC.mk l oe ep, (qe, fr, n, ov), OI.mk xs m qe, OI.mk pl
   pl.length pe), (F x).n, (F x).ov), OI.mk (F x).xs (trM ((u1, u2, G, K, Ho, pe), (r, c, false, u3, u4), oe, RC.mk l oe ep, (qe, fr, n, ov), OI.mk xs m qe, OI.mk pl pl.length pe)) qe, OI.mk (F x).pl (F x).pl.length (F x).pe) (byteAt t x.toNat)).n) =
   SV.v (Value.int IntKind.i64 (F (IntKind.i64.wrap (x + (1 : Int)))).n) ∧ SV.v (Value.bool (ctX (((), (), (F x).G, (F x).K, (F x).Ho, (F x).pe), ((F x).r, (F x).c, false, (), ()), oe, RC.mk (F x).l oe (F x).ep, (qe, trF ((u1, u2, G, K, Ho, pe), (r, c,
   false, u3, u4), oe, RC.mk l oe ep, (qe, fr, n, ov), OI.mk xs m qe, OI.mk pl pl.length pe), (F x).n, (F x).ov), OI.mk (F x).xs (trM ((u1, u2, G, K, Ho, pe), (r, c, false, u3, u4), oe, RC.mk l oe ep, (qe, fr, n, ov), OI.mk xs m qe, OI.mk pl pl.length
   pe)) qe, OI.mk (F x).pl (F x).pl.length (F x).pe) (byteAt t x.toNat)).ov) = SV.v (Value.bool (F (IntKind.i64.wrap (x + (1 : Int)))).ov) ∧ True) ∧ (trM ((u1, u2, G, K, Ho, pe), (r, c, false, u3, u4), oe, RC.mk l oe ep, (qe, fr, n, ov), OI.mk xs m qe,
   OI.mk pl pl.length pe) = trM ((u1, u2, G, K, Ho, pe), (r, c, false, u3, u4), oe, RC.mk l oe ep, (qe, fr, n, ov), OI.mk xs m qe, OI.mk pl pl.length pe) ∧ qe = qe ∧ (ctX (((), (), (F x).G, (F x).K, (F x).Ho, (F x).pe), ((F x).r, (F x).c, false, (),
   ()), oe, RC.mk (F x).l oe (F x).ep, (qe, trF ((u1, u2, G, K, Ho, pe), (r, c, false, u3, u4), oe, RC.mk l oe ep, (qe, fr, n, ov), OI.mk xs m qe, OI.mk pl pl.length pe), (F x).n, (F x).ov), OI.mk (F x).xs (trM ((u1, u2, G, K, Ho, pe), (r, c, false, u3,
   u4), oe, RC.mk l oe ep, (qe, fr, n, ov), OI.mk xs m qe, OI.mk pl pl.length pe)) qe, OI.mk (F x).pl (F x).pl.length (F x).pe) (byteAt t x.toNat)).xs = (F (IntKind.i64.wrap (x + (1 : Int)))).xs) ∧ ((ctX (((), (), (F x).G, (F x).K, (F x).Ho, (F x).pe),
   ((F x).r, (F x).c, false, (), ()), oe, RC.mk (F x).l oe (F x).ep, (qe, trF ((u1, u2, G, K, Ho, pe), (r, c, false, u3, u4), oe, RC.mk l oe ep, (qe, fr, n, ov), OI.mk xs m qe, OI.mk pl pl.length pe), (F x).n, (F x).ov), OI.mk (F x).xs (trM ((u1, u2, G,
   K, Ho, pe), (r, c, false, u3, u4), oe, RC.mk l oe ep, (qe, fr, n, ov), OI.mk xs m qe, OI.mk pl pl.length pe)) qe, OI.mk (F x).pl (F x).pl.length (F x).pe) (byteAt t x.toNat)).pl.length = (F (IntKind.i64.wrap (x + (1 : Int)))).pl.length ∧ (ctX (((),
   (), (F x).G, (F x).K, (F x).Ho, (F x).pe), ((F x).r, (F x).c, false, (), ()), oe, RC.mk (F x).l oe (F x).ep, (qe, trF ((u1, u2, G, K, Ho, pe), (r, c, false, u3, u4), oe, RC.mk l oe ep, (qe, fr, n, ov), OI.mk xs m qe, OI.mk pl pl.length pe), (F x).n,
   (F x).ov), OI.mk (F x).xs (trM ((u1, u2, G, K, Ho, pe), (r, c, false, u3, u4), oe, RC.mk l oe ep, (qe, fr, n, ov), OI.mk xs m qe, OI.mk pl pl.length pe)) qe, OI.mk (F x).pl (F x).pl.length (F x).pe) (byteAt t x.toNat)).pe = (F (IntKind.i64.wrap (x +
   (1 : Int)))).pe ∧ (ctX (((), (), (F x).G, (F x).K, (F x).Ho, (F x).pe), ((F x).r, (F x).c, false, (), ()), oe, RC.mk (F x).l oe (F x).ep, (qe, trF ((u1, u2, G, K, Ho, pe), (r, c, false, u3, u4), oe, RC.mk l oe ep, (qe, fr, n, ov), OI.mk xs m qe,
   OI.mk pl pl.length pe), (F x).n, (F x).ov), OI.mk (F x).xs (trM ((u1, u2, G, K, Ho, pe), (r, c, false, u3, u4), oe, RC.mk l oe ep, (qe, fr, n, ov), OI.mk xs m qe, OI.mk pl pl.length pe)) qe, OI.mk (F x).pl (F x).pl.length (F x).pe) (byteAt t
   x.toNat)).pl = (F (IntKind.i64.wrap (x + (1 : Int)))).pl) ∧ (SV.p (0 : Nat) (0 : Nat) = SV.p (0 : Nat) (0 : Nat) ∧ True) ∧ (SV.p (0 : Nat) (0 : Nat) = SV.p (0 : Nat) (0 : Nat) ∧ True) ∧ (SV.v (Value.string t) = SV.v (Value.string t) ∧ True) ∧
   Obj.deferred (some []) = Obj.deferred (some []) ∧ ((SV.p (7 : Nat) (0 : Nat) = SV.p (7 : Nat) (0 : Nat) ∧ True) ∧ #[(10 : Nat)] = #[(10 : Nat)] ∧ codeAt Tryd.f11 [(1 : Nat), (1 : Nat), (1 : Nat), (0 : Nat), (0 : Nat)] = codeAt Tryd.f11 [(1 : Nat), (1
   : Nat), (1 : Nat), (0 : Nat), (0 : Nat)] ∧ codeAt Tryd.f11 [(1 : Nat), (1 : Nat), (1 : Nat), (0 : Nat), (1 : Nat)] = codeAt Tryd.f11 [(1 : Nat), (1 : Nat), (1 : Nat), (0 : Nat), (1 : Nat)]) ∧ True) ∧ ((↑t.size : Int) - IntKind.i64.wrap (x + (1 :
   Int))).toNat < ((↑t.size : Int) - x).toNat))))))) (rq (decide ((0 : Int) ≤ x ∧ x < (↑t.size : Int))) (br (byteAt t x.toNat == (27 : Int)) (((0 : Int) ≤ IntKind.i64.wrap (x + (1 : Int)) ∧ IntKind.i64.wrap (x + (1 : Int)) ≤ (↑t.size : Int)) ∧ ((SV.y
   (11 : Nat) = SV.y (11 : Nat) ∧ SV.p (9 : Nat) (0 : Nat) = SV.p (9 : Nat) (0 : Nat) ∧ SV.p (8 : Nat) (0 : Nat) = SV.p (8 : Nat) (0 : Nat) ∧ SV.v (Value.int IntKind.i64 (↑t.size : Int)) = SV.v (Value.int IntKind.i64 (↑t.size : Int)) ∧ SV.v (Value.int
   IntKind.i64 (IntKind.i64.wrap (x + (1 : Int)))) = SV.v (Value.int IntKind.i64 (IntKind.i64.wrap (x + (1 : Int)))) ∧ True) ∧ (SV.p (1 : Nat) (0 : Nat) = SV.p (1 : Nat) (0 : Nat) ∧ SV.p (4 : Nat) (0 : Nat) = SV.p (4 : Nat) (0 : Nat) ∧ SV.v (Value.bool
   (F x).G) = SV.v (Value.bool (F (IntKind.i64.wrap (x + (1 : Int)))).G) ∧ SV.v (Value.bool (F x).K) = SV.v (Value.bool (F (IntKind.i64.wrap (x + (1 : Int)))).K) ∧ SV.v (Value.bool (F x).Ho) = SV.v (Value.bool (F (IntKind.i64.wrap (x + (1 : Int)))).Ho)
   ∧ SV.h (6 : Nat) [(F x).pe + (1 : Nat), (0 : Nat)] = SV.h (6 : Nat) [(F (IntKind.i64.wrap (x + (1 : Int)))).pe, (0 : Nat)] ∧ True) ∧ (SV.v (Value.int IntKind.i64 (F x).r) = SV.v (Value.int IntKind.i64 (F (IntKind.i64.wrap (x + (1 : Int)))).r) ∧ SV.v
   (Value.int IntKind.i64 (F x).c) = SV.v (Value.int IntKind.i64 (F (IntKind.i64.wrap (x + (1 : Int)))).c) ∧ SV.v (Value.bool false) = SV.v (Value.bool false) ∧ SV.p (2 : Nat) (0 : Nat) = SV.p (2 : Nat) (0 : Nat) ∧ True) ∧ (SV.h (3 : Nat) [oe, (0 :
   Nat)] = SV.h (3 : Nat) [oe, (0 : Nat)] ∧ True) ∧ (oe = oe ∧ (F x).ep = (F (IntKind.i64.wrap (x + (1 : Int)))).ep ∧ (F x).l = (F (IntKind.i64.wrap (x + (1 : Int)))).l) ∧ (SV.h (5 : Nat) [qe, (0 : Nat)] = SV.h (5 : Nat) [qe, (0 : Nat)] ∧ SV.v
   (Value.int IntKind.i64 (trF ((u1, u2, G, K, Ho, pe), (r, c, false, u3, u4), oe, RC.mk l oe ep, (qe, fr, n, ov), OI.mk xs m qe, OI.mk pl pl.length pe))) = SV.v (Value.int IntKind.i64 (trF ((u1, u2, G, K, Ho, pe), (r, c, false, u3, u4), oe, RC.mk l oe
   ep, (qe, fr, n, ov), OI.mk xs m qe, OI.mk pl pl.length pe))) ∧ SV.v (Value.int IntKind.i64 (F x).n) = SV.v (Value.int IntKind.i64 (F (IntKind.i64.wrap (x + (1 : Int)))).n) ∧ SV.v (Value.bool (F x).ov) = SV.v (Value.bool (F (IntKind.i64.wrap (x + (1 :
   Int)))).ov) ∧ True) ∧ (trM ((u1, u2, G, K, Ho, pe), (r, c, false, u3, u4), oe, RC.mk l oe ep, (qe, fr, n, ov), OI.mk xs m qe, OI.mk pl pl.length pe) = trM ((u1, u2, G, K, Ho, pe), (r, c, false, u3, u4), oe, RC.mk l oe ep, (qe, fr, n, ov), OI.mk xs m
   qe, OI.mk pl pl.length pe) ∧ qe = qe ∧ (F x).xs = (F (IntKind.i64.wrap (x + (1 : Int)))).xs) ∧ ((1 : Nat) = (F (IntKind.i64.wrap (x + (1 : Int)))).pl.length ∧ (F x).pe + (1 : Nat) = (F (IntKind.i64.wrap (x + (1 : Int)))).pe ∧ LI [(27 : Int)] = (F
   (IntKind.i64.wrap (x + (1 : Int)))).pl) ∧ (SV.p (0 : Nat) (0 : Nat) = SV.p (0 : Nat) (0 : Nat) ∧ True) ∧ (SV.p (0 : Nat) (0 : Nat) = SV.p (0 : Nat) (0 : Nat) ∧ True) ∧ (SV.v (Value.string t) = SV.v (Value.string t) ∧ True) ∧ Obj.deferred (some []) =
   Obj.deferred (some []) ∧ ((SV.p (7 : Nat) (0 : Nat) = SV.p (7 : Nat) (0 : Nat) ∧ True) ∧ #[(10 : Nat)] = #[(10 : Nat)] ∧ codeAt Tryd.f11 [(1 : Nat), (1 : Nat), (1 : Nat), (0 : Nat), (0 : Nat)] = codeAt Tryd.f11 [(1 : Nat), (1 : Nat), (1 : Nat), (0 :
   Nat), (0 : Nat)] ∧ codeAt Tryd.f11 [(1 : Nat), (1 : Nat), (1 : Nat), (0 : Nat), (1 : Nat)] = codeAt Tryd.f11 [(1 : Nat), (1 : Nat), (1 : Nat), (0 : Nat), (1 : Nat)]) ∧ True) ∧ ((↑t.size : Int) - IntKind.i64.wrap (x + (1 : Int))).toNat < ((↑t.size :
   Int) - x).toNat) (rq ((F x).pe.beq (F x).pe) (br (decide ((↑(F x).pl.length : Int) > (0 : Int))) (true = true ∧ (TA (((), (), (F x).G, (F x).K, (F x).Ho, (F x).pe), ((F x).r, (F x).c, false, (), ()), oe, RC.mk (F x).l oe (F x).ep, (qe, trF ((u1, u2,
   G, K, Ho, pe), (r, c, false, u3, u4), oe, RC.mk l oe ep, (qe, fr, n, ov), OI.mk xs m qe, OI.mk pl pl.length pe), (F x).n, (F x).ov), OI.mk (F x).xs (trM ((u1, u2, G, K, Ho, pe), (r, c, false, u3, u4), oe, RC.mk l oe ep, (qe, fr, n, ov), OI.mk xs m
   qe, OI.mk pl pl.length pe)) qe, OI.mk (F x).pl (F x).pl.length (F x).pe) ∧ (0 : Int) ≤ byteAt t x.toNat ∧ byteAt t x.toNat ≤ (255 : Int) ∧ (1 : Nat) ≤ (F x).pl.length) ∧ ((0 : Int) ≤ IntKind.i64.wrap (x + (1 : Int)) ∧ IntKind.i64.wrap (x + (1 : Int))
   ≤ (↑t.size : Int)) ∧ ((SV.y (11 : Nat) = SV.y (11 : Nat) ∧ SV.p (9 : Nat) (0 : Nat) = SV.p (9 : Nat) (0 : Nat) ∧ SV.p (8 : Nat) (0 : Nat) = SV.p (8 : Nat) (0 : Nat) ∧ SV.v (Value.int IntKind.i64 (↑t.size : Int)) = SV.v (Value.int IntKind.i64 (↑t.size
   : Int)) ∧ SV.v (Value.int IntKind.i64 (IntKind.i64.wrap (x + (1 : Int)))) = SV.v (Value.int IntKind.i64 (IntKind.i64.wrap (x + (1 : Int)))) ∧ True) ∧ (SV.p (1 : Nat) (0 : Nat) = SV.p (1 : Nat) (0 : Nat) ∧ SV.p (4 : Nat) (0 : Nat) = SV.p (4 : Nat) (0
   : Nat) ∧ SV.v (Value.bool (sqX (((), (), (F x).G, (F x).K, (F x).Ho, (F x).pe), ((F x).r, (F x).c, false, (), ()), oe, RC.mk (F x).l oe (F x).ep, (qe, trF ((u1, u2, G, K, Ho, pe), (r, c, false, u3, u4), oe, RC.mk l oe ep, (qe, fr, n, ov), OI.mk xs m
   qe, OI.mk pl pl.length pe), (F x).n, (F x).ov), OI.mk (F x).xs (trM ((u1, u2, G, K, Ho, pe), (r, c, false, u3, u4), oe, RC.mk l oe ep, (qe, fr, n, ov), OI.mk xs m qe, OI.mk pl pl.length pe)) qe, OI.mk (F x).pl (F x).pl.length (F x).pe) (byteAt t
   x.toNat)).G) = SV.v (Value.bool (F (IntKind.i64.wrap (x + (1 : Int)))).G) ∧ SV.v (Value.bool (sqX (((), (), (F x).G, (F x).K, (F x).Ho, (F x).pe), ((F x).r, (F x).c, false, (), ()), oe, RC.mk (F x).l oe (F x).ep, (qe, trF ((u1, u2, G, K, Ho, pe), (r,
   c, false, u3, u4), oe, RC.mk l oe ep, (qe, fr, n, ov), OI.mk xs m qe, OI.mk pl pl.length pe), (F x).n, (F x).ov), OI.mk (F x).xs (trM ((u1, u2, G, K, Ho, pe), (r, c, false, u3, u4), oe, RC.mk l oe ep, (qe, fr, n, ov), OI.mk xs m qe, OI.mk pl
   pl.length pe)) qe, OI.mk (F x).pl (F x).pl.length (F x).pe) (byteAt t x.toNat)).K) = SV.v (Value.bool (F (IntKind.i64.wrap (x + (1 : Int)))).K) ∧ SV.v (Value.bool (sqX (((), (), (F x).G, (F x).K, (F x).Ho, (F x).pe), ((F x).r, (F x).c, false, (),
   ()), oe, RC.mk (F x).l oe (F x).ep, (qe, trF ((u1, u2, G, K, Ho, pe), (r, c, false, u3, u4), oe, RC.mk l oe ep, (qe, fr, n, ov), OI.mk xs m qe, OI.mk pl pl.length pe), (F x).n, (F x).ov), OI.mk (F x).xs (trM ((u1, u2, G, K, Ho, pe), (r, c, false, u3,
   u4), oe, RC.mk l oe ep, (qe, fr, n, ov), OI.mk xs m qe, OI.mk pl pl.length pe)) qe, OI.mk (F x).pl (F x).pl.length (F x).pe) (byteAt t x.toNat)).Ho) = SV.v (Value.bool (F (IntKind.i64.wrap (x + (1 : Int)))).Ho) ∧ SV.h (6 : Nat) [(sqX (((), (), (F
   x).G, (F x).K, (F x).Ho, (F x).pe), ((F x).r, (F x).c, false, (), ()), oe, RC.mk (F x).l oe (F x).ep, (qe, trF ((u1, u2, G, K, Ho, pe), (r, c, false, u3, u4), oe, RC.mk l oe ep, (qe, fr, n, ov), OI.mk xs m qe, OI.mk pl pl.length pe), (F x).n, (F
   x).ov), OI.mk (F x).xs (trM ((u1, u2, G, K, Ho, pe), (r, c, false, u3, u4), oe, RC.mk l oe ep, (qe, fr, n, ov), OI.mk xs m qe, OI.mk pl pl.length pe)) qe, OI.mk (F x).pl (F x).pl.length (F x).pe) (byteAt t x.toNat)).pe, (0 : Nat)] = SV.h (6 : Nat)
   [(F (IntKind.i64.wrap (x + (1 : Int)))).pe, (0 : Nat)] ∧ True) ∧ (SV.v (Value.int IntKind.i64 (sqX (((), (), (F x).G, (F x).K, (F x).Ho, (F x).pe), ((F x).r, (F x).c, false, (), ()), oe, RC.mk (F x).l oe (F x).ep, (qe, trF ((u1, u2, G, K, Ho, pe),
   (r, c, false, u3, u4), oe, RC.mk l oe ep, (qe, fr, n, ov), OI.mk xs m qe, OI.mk pl pl.length pe), (F x).n, (F x).ov), OI.mk (F x).xs (trM ((u1, u2, G, K, Ho, pe), (r, c, false, u3, u4), oe, RC.mk l oe ep, (qe, fr, n, ov), OI.mk xs m qe, OI.mk pl
   pl.length pe)) qe, OI.mk (F x).pl (F x).pl.length (F x).pe) (byteAt t x.toNat)).r) = SV.v (Value.int IntKind.i64 (F (IntKind.i64.wrap (x + (1 : Int)))).r) ∧ SV.v (Value.int IntKind.i64 (sqX (((), (), (F x).G, (F x).K, (F x).Ho, (F x).pe), ((F x).r,
   (F x).c, false, (), ()), oe, RC.mk (F x).l oe (F x).ep, (qe, trF ((u1, u2, G, K, Ho, pe), (r, c, false, u3, u4), oe, RC.mk l oe ep, (qe, fr, n, ov), OI.mk xs m qe, OI.mk pl pl.length pe), (F x).n, (F x).ov), OI.mk (F x).xs (trM ((u1, u2, G, K, Ho,
   pe), (r, c, false, u3, u4), oe, RC.mk l oe ep, (qe, fr, n, ov), OI.mk xs m qe, OI.mk pl pl.length pe)) qe, OI.mk (F x).pl (F x).pl.length (F x).pe) (byteAt t x.toNat)).c) = SV.v (Value.int IntKind.i64 (F (IntKind.i64.wrap (x + (1 : Int)))).c) ∧ SV.v
   (Value.bool false) = SV.v (Value.bool false) ∧ SV.p (2 : Nat) (0 : Nat) = SV.p (2 : Nat) (0 : Nat) ∧ True) ∧ (SV.h (3 : Nat) [oe, (0 : Nat)] = SV.h (3 : Nat) [oe, (0 : Nat)] ∧ True) ∧ (oe = oe ∧ (sqX (((), (), (F x).G, (F x).K, (F x).Ho, (F x).pe),
   ((F x).r, (F x).c, false, (), ()), oe, RC.mk (F x).l oe (F x).ep, (qe, trF ((u1, u2, G, K, Ho, pe), (r, c, false, u3, u4), oe, RC.mk l oe ep, (qe, fr, n, ov), OI.mk xs m qe, OI.mk pl pl.length pe), (F x).n, (F x).ov), OI.mk (F x).xs (trM ((u1, u2, G,
   K, Ho, pe), (r, c, false, u3, u4), oe, RC.mk l oe ep, (qe, fr, n, ov), OI.mk xs m qe, OI.mk pl pl.length pe)) qe, OI.mk (F x).pl (F x).pl.length (F x).pe) (byteAt t x.toNat)).ep = (F (IntKind.i64.wrap (x + (1 : Int)))).ep ∧ (sqX (((), (), (F x).G, (F
   x).K, (F x).Ho, (F x).pe), ((F x).r, (F x).c, false, (), ()), oe, RC.mk (F x).l oe (F x).ep, (qe, trF ((u1, u2, G, K, Ho, pe), (r, c, false, u3, u4), oe, RC.mk l oe ep, (qe, fr, n, ov), OI.mk xs m qe, OI.mk pl pl.length pe), (F x).n, (F x).ov), OI.mk
   (F x).xs (trM ((u1, u2, G, K, Ho, pe), (r, c, false, u3, u4), oe, RC.mk l oe ep, (qe, fr, n, ov), OI.mk xs m qe, OI.mk pl pl.length pe)) qe, OI.mk (F x).pl (F x).pl.length (F x).pe) (byteAt t x.toNat)).l = (F (IntKind.i64.wrap (x + (1 : Int)))).l) ∧
   (SV.h (5 : Nat) [qe, (0 : Nat)] = SV.h (5 : Nat) [qe, (0 : Nat)] ∧ SV.v (Value.int IntKind.i64 (trF ((u1, u2, G, K, Ho, pe), (r, c, false, u3, u4), oe, RC.mk l oe ep, (qe, fr, n, ov), OI.mk xs m qe, OI.mk pl pl.length pe))) = SV.v (Value.int
   IntKind.i64 (trF ((u1, u2, G, K, Ho, pe), (r, c, false, u3, u4), oe, RC.mk l oe ep, (qe, fr, n, ov), OI.mk xs m qe, OI.mk pl pl.length pe))) ∧ SV.v (Value.int IntKind.i64 (sqX (((), (), (F x).G, (F x).K, (F x).Ho, (F x).pe), ((F x).r, (F x).c, false,
   (), ()), oe, RC.mk (F x).l oe (F x).ep, (qe, trF ((u1, u2, G, K, Ho, pe), (r, c, false, u3, u4), oe, RC.mk l oe ep, (qe, fr, n, ov), OI.mk xs m qe, OI.mk pl pl.length pe), (F x).n, (F x).ov), OI.mk (F x).xs (trM ((u1, u2, G, K, Ho, pe), (r, c, false,
   u3, u4), oe, RC.mk l oe ep, (qe, fr, n, ov), OI.mk xs m qe, OI.mk pl pl.length pe)) qe, OI.mk (F x).pl (F x).pl.length (F x).pe) (byteAt t x.toNat)).n) = SV.v (Value.int IntKind.i64 (F (IntKind.i64.wrap (x + (1 : Int)))).n) ∧ SV.v (Value.bool (sqX
   (((), (), (F x).G, (F x).K, (F x).Ho, (F x).pe), ((F x).r, (F x).c, false, (), ()), oe, RC.mk (F x).l oe (F x).ep, (qe, trF ((u1, u2, G, K, Ho, pe), (r, c, false, u3, u4), oe, RC.mk l oe ep, (qe, fr, n, ov), OI.mk xs m qe, OI.mk pl pl.length pe), (F
   x).n, (F x).ov), OI.mk (F x).xs (trM ((u1, u2, G, K, Ho, pe), (r, c, false, u3, u4), oe, RC.mk l oe ep, (qe, fr, n, ov), OI.mk xs m qe, OI.mk pl pl.length pe)) qe, OI.mk (F x).pl (F x).pl.length (F x).pe) (byteAt t x.toNat)).ov) = SV.v (Value.bool (F
   (IntKind.i64.wrap (x + (1 : Int)))).ov) ∧ True) ∧ (trM ((u1, u2, G, K, Ho, pe), (r, c, false, u3, u4), oe, RC.mk l oe ep, (qe, fr, n, ov), OI.mk xs m qe, OI.mk pl pl.length pe) = trM ((u1, u2, G, K, Ho, pe), (r, c, false, u3, u4), oe, RC.mk l oe ep,
   (qe, fr, n, ov), OI.mk xs m qe, OI.mk pl pl.length pe) ∧ qe = qe ∧ (sqX (((), (), (F x).G, (F x).K, (F x).Ho, (F x).pe), ((F x).r, (F x).c, false, (), ()), oe, RC.mk (F x).l oe (F x).ep, (qe, trF ((u1, u2, G, K, Ho, pe), (r, c, false, u3, u4), oe,
   RC.mk l oe ep, (qe, fr, n, ov), OI.mk xs m qe, OI.mk pl pl.length pe), (F x).n, (F x).ov), OI.mk (F x).xs (trM ((u1, u2, G, K, Ho, pe), (r, c, false, u3, u4), oe, RC.mk l oe ep, (qe, fr, n, ov), OI.mk xs m qe, OI.mk pl pl.length pe)) qe, OI.mk (F
   x).pl (F x).pl.length (F x).pe) (byteAt t x.toNat)).xs = (F (IntKind.i64.wrap (x + (1 : Int)))).xs) ∧ ((sqX (((), (), (F x).G, (F x).K, (F x).Ho, (F x).pe), ((F x).r, (F x).c, false, (), ()), oe, RC.mk (F x).l oe (F x).ep, (qe, trF ((u1, u2, G, K,
   Ho, pe), (r, c, false, u3, u4), oe, RC.mk l oe ep, (qe, fr, n, ov), OI.mk xs m qe, OI.mk pl pl.length pe), (F x).n, (F x).ov), OI.mk (F x).xs (trM ((u1, u2, G, K, Ho, pe), (r, c, false, u3, u4), oe, RC.mk l oe ep, (qe, fr, n, ov), OI.mk xs m qe,
   OI.mk pl pl.length pe)) qe, OI.mk (F x).pl (F x).pl.length (F x).pe) (byteAt t x.toNat)).pl.length = (F (IntKind.i64.wrap (x + (1 : Int)))).pl.length ∧ (sqX (((), (), (F x).G, (F x).K, (F x).Ho, (F x).pe), ((F x).r, (F x).c, false, (), ()), oe, RC.mk
   (F x).l oe (F x).ep, (qe, trF ((u1, u2, G, K, Ho, pe), (r, c, false, u3, u4), oe, RC.mk l oe ep, (qe, fr, n, ov), OI.mk xs m qe, OI.mk pl pl.length pe), (F x).n, (F x).ov), OI.mk (F x).xs (trM ((u1, u2, G, K, Ho, pe), (r, c, false, u3, u4), oe, RC.mk
   l oe ep, (qe, fr, n, ov), OI.mk xs m qe, OI.mk pl pl.length pe)) qe, OI.mk (F x).pl (F x).pl.length (F x).pe) (byteAt t x.toNat)).pe = (F (IntKind.i64.wrap (x + (1 : Int)))).pe ∧ (sqX (((), (), (F x).G, (F x).K, (F x).Ho, (F x).pe), ((F x).r, (F
   x).c, false, (), ()), oe, RC.mk (F x).l oe (F x).ep, (qe, trF ((u1, u2, G, K, Ho, pe), (r, c, false, u3, u4), oe, RC.mk l oe ep, (qe, fr, n, ov), OI.mk xs m qe, OI.mk pl pl.length pe), (F x).n, (F x).ov), OI.mk (F x).xs (trM ((u1, u2, G, K, Ho, pe),
   (r, c, false, u3, u4), oe, RC.mk l oe ep, (qe, fr, n, ov), OI.mk xs m qe, OI.mk pl pl.length pe)) qe, OI.mk (F x).pl (F x).pl.length (F x).pe) (byteAt t x.toNat)).pl = (F (IntKind.i64.wrap (x + (1 : Int)))).pl) ∧ (SV.p (0 : Nat) (0 : Nat) = SV.p (0 :
   Nat) (0 : Nat) ∧ True) ∧ (SV.p (0 : Nat) (0 : Nat) = SV.p (0 : Nat) (0 : Nat) ∧ True) ∧ (SV.v (Value.string t) = SV.v (Value.string t) ∧ True) ∧ Obj.deferred (some []) = Obj.deferred (some []) ∧ ((SV.p (7 : Nat) (0 : Nat) = SV.p (7 : Nat) (0 : Nat) ∧
   True) ∧ #[(10 : Nat)] = #[(10 : Nat)] ∧ codeAt Tryd.f11 [(1 : Nat), (1 : Nat), (1 : Nat), (0 : Nat), (0 : Nat)] = codeAt Tryd.f11 [(1 : Nat), (1 : Nat), (1 : Nat), (0 : Nat), (0 : Nat)] ∧ codeAt Tryd.f11 [(1 : Nat), (1 : Nat), (1 : Nat), (0 : Nat),
   (1 : Nat)] = codeAt Tryd.f11 [(1 : Nat), (1 : Nat), (1 : Nat), (0 : Nat), (1 : Nat)]) ∧ True) ∧ ((↑t.size : Int) - IntKind.i64.wrap (x + (1 : Int))).toNat < ((↑t.size : Int) - x).toNat) (br (decide (byteAt t x.toNat ≥ (32 : Int))) (true = true ∧ (TA
   (((), (), (F x).G, (F x).K, (F x).Ho, (F x).pe), ((F x).r, (F x).c, false, (), ()), oe, RC.mk (F x).l oe (F x).ep, (qe, trF ((u1, u2, G, K, Ho, pe), (r, c, false, u3, u4), oe, RC.mk l oe ep, (qe, fr, n, ov), OI.mk xs m qe, OI.mk pl pl.length pe), (F
   x).n, (F x).ov), OI.mk (F x).xs (trM ((u1, u2, G, K, Ho, pe), (r, c, false, u3, u4), oe, RC.mk l oe ep, (qe, fr, n, ov), OI.mk xs m qe, OI.mk pl pl.length pe)) qe, OI.mk (F x).pl (F x).pl.length (F x).pe) ∧ (0 : Int) ≤ byteAt t x.toNat ∧ byteAt t
   x.toNat ≤ (255 : Int)) ∧ ((0 : Int) ≤ IntKind.i64.wrap (x + (1 : Int)) ∧ IntKind.i64.wrap (x + (1 : Int)) ≤ (↑t.size : Int)) ∧ ((SV.y (11 : Nat) = SV.y (11 : Nat) ∧ SV.p (9 : Nat) (0 : Nat) = SV.p (9 : Nat) (0 : Nat) ∧ SV.p (8 : Nat) (0 : Nat) = SV.p
   (8 : Nat) (0 : Nat) ∧ SV.v (Value.int IntKind.i64 (↑t.size : Int)) = SV.v (Value.int IntKind.i64 (↑t.size : Int)) ∧ SV.v (Value.int IntKind.i64 (IntKind.i64.wrap (x + (1 : Int)))) = SV.v (Value.int IntKind.i64 (IntKind.i64.wrap (x + (1 : Int)))) ∧
   True) ∧ (SV.p (1 : Nat) (0 : Nat) = SV.p (1 : Nat) (0 : Nat) ∧ SV.p (4 : Nat) (0 : Nat) = SV.p (4 : Nat) (0 : Nat) ∧ SV.v (Value.bool (F x).G) = SV.v (Value.bool (F (IntKind.i64.wrap (x + (1 : Int)))).G) ∧ SV.v (Value.bool (F x).K) = SV.v (Value.bool
   (F (IntKind.i64.wrap (x + (1 : Int)))).K) ∧ SV.v (Value.bool (F x).Ho) = SV.v (Value.bool (F (IntKind.i64.wrap (x + (1 : Int)))).Ho) ∧ SV.h (6 : Nat) [(F x).pe, (0 : Nat)] = SV.h (6 : Nat) [(F (IntKind.i64.wrap (x + (1 : Int)))).pe, (0 : Nat)] ∧
   True) ∧ (SV.v (Value.int IntKind.i64 (F x).r) = SV.v (Value.int IntKind.i64 (F (IntKind.i64.wrap (x + (1 : Int)))).r) ∧ SV.v (Value.int IntKind.i64 (if (F x).c + (1 : Int) < (↑(nC (F x).l) : Int) then (F x).c + (1 : Int) else (F x).c)) = SV.v
   (Value.int IntKind.i64 (F (IntKind.i64.wrap (x + (1 : Int)))).c) ∧ SV.v (Value.bool false) = SV.v (Value.bool false) ∧ SV.p (2 : Nat) (0 : Nat) = SV.p (2 : Nat) (0 : Nat) ∧ True) ∧ (SV.h (3 : Nat) [oe, (0 : Nat)] = SV.h (3 : Nat) [oe, (0 : Nat)] ∧
   True) ∧ (oe = oe ∧ (F x).ep = (F (IntKind.i64.wrap (x + (1 : Int)))).ep ∧ set2 (F x).l (F x).r (F x).c (C4.mk (glT (F x).G (byteAt t x.toNat)) (0 : Int) false (0 : Int)) = (F (IntKind.i64.wrap (x + (1 : Int)))).l) ∧ (SV.h (5 : Nat) [qe, (0 : Nat)] =
   SV.h (5 : Nat) [qe, (0 : Nat)] ∧ SV.v (Value.int IntKind.i64 (trF ((u1, u2, G, K, Ho, pe), (r, c, false, u3, u4), oe, RC.mk l oe ep, (qe, fr, n, ov), OI.mk xs m qe, OI.mk pl pl.length pe))) = SV.v (Value.int IntKind.i64 (trF ((u1, u2, G, K, Ho, pe),
   (r, c, false, u3, u4), oe, RC.mk l oe ep, (qe, fr, n, ov), OI.mk xs m qe, OI.mk pl pl.length pe))) ∧ SV.v (Value.int IntKind.i64 (F x).n) = SV.v (Value.int IntKind.i64 (F (IntKind.i64.wrap (x + (1 : Int)))).n) ∧ SV.v (Value.bool (F x).ov) = SV.v
   (Value.bool (F (IntKind.i64.wrap (x + (1 : Int)))).ov) ∧ True) ∧ (trM ((u1, u2, G, K, Ho, pe), (r, c, false, u3, u4), oe, RC.mk l oe ep, (qe, fr, n, ov), OI.mk xs m qe, OI.mk pl pl.length pe) = trM ((u1, u2, G, K, Ho, pe), (r, c, false, u3, u4), oe,
   RC.mk l oe ep, (qe, fr, n, ov), OI.mk xs m qe, OI.mk pl pl.length pe) ∧ qe = qe ∧ (F x).xs = (F (IntKind.i64.wrap (x + (1 : Int)))).xs) ∧ ((F x).pl.length = (F (IntKind.i64.wrap (x + (1 : Int)))).pl.length ∧ (F x).pe = (F (IntKind.i64.wrap (x + (1 :
   Int)))).pe ∧ (F x).pl = (F (IntKind.i64.wrap (x + (1 : Int)))).pl) ∧ (SV.p (0 : Nat) (0 : Nat) = SV.p (0 : Nat) (0 : Nat) ∧ True) ∧ (SV.p (0 : Nat) (0 : Nat) = SV.p (0 : Nat) (0 : Nat) ∧ True) ∧ (SV.v (Value.string t) = SV.v (Value.string t) ∧ True)
   ∧ Obj.deferred (some []) = Obj.deferred (some []) ∧ ((SV.p (7 : Nat) (0 : Nat) = SV.p (7 : Nat) (0 : Nat) ∧ True) ∧ #[(10 : Nat)] = #[(10 : Nat)] ∧ codeAt Tryd.f11 [(1 : Nat), (1 : Nat), (1 : Nat), (0 : Nat), (0 : Nat)] = codeAt Tryd.f11 [(1 : Nat),
   (1 : Nat), (1 : Nat), (0 : Nat), (0 : Nat)] ∧ codeAt Tryd.f11 [(1 : Nat), (1 : Nat), (1 : Nat), (0 : Nat), (1 : Nat)] = codeAt Tryd.f11 [(1 : Nat), (1 : Nat), (1 : Nat), (0 : Nat), (1 : Nat)]) ∧ True) ∧ ((↑t.size : Int) - IntKind.i64.wrap (x + (1 :
   Int))).toNat < ((↑t.size : Int) - x).toNat) (true = true ∧ true = true ∧ (TA (((), (), (F x).G, (F x).K, (F x).Ho, (F x).pe), ((F x).r, (F x).c, false, (), ()), oe, RC.mk (F x).l oe (F x).ep, (qe, trF ((u1, u2, G, K, Ho, pe), (r, c, false, u3, u4),
   oe, RC.mk l oe ep, (qe, fr, n, ov), OI.mk xs m qe, OI.mk pl pl.length pe), (F x).n, (F x).ov), OI.mk (F x).xs (trM ((u1, u2, G, K, Ho, pe), (r, c, false, u3, u4), oe, RC.mk l oe ep, (qe, fr, n, ov), OI.mk xs m qe, OI.mk pl pl.length pe)) qe, OI.mk (F
   x).pl (F x).pl.length (F x).pe) ∧ (0 : Int) ≤ byteAt t x.toNat ∧ byteAt t x.toNat ≤ (255 : Int)) ∧ ((0 : Int) ≤ IntKind.i64.wrap (x + (1 : Int)) ∧ IntKind.i64.wrap (x + (1 : Int)) ≤ (↑t.size : Int)) ∧ ((SV.y (11 : Nat) = SV.y (11 : Nat) ∧ SV.p (9 :
   Nat) (0 : Nat) = SV.p (9 : Nat) (0 : Nat) ∧ SV.p (8 : Nat) (0 : Nat) = SV.p (8 : Nat) (0 : Nat) ∧ SV.v (Value.int IntKind.i64 (↑t.size : Int)) = SV.v (Value.int IntKind.i64 (↑t.size : Int)) ∧ SV.v (Value.int IntKind.i64 (IntKind.i64.wrap (x + (1 :
   Int)))) = SV.v (Value.int IntKind.i64 (IntKind.i64.wrap (x + (1 : Int)))) ∧ True) ∧ (SV.p (1 : Nat) (0 : Nat) = SV.p (1 : Nat) (0 : Nat) ∧ SV.p (4 : Nat) (0 : Nat) = SV.p (4 : Nat) (0 : Nat) ∧ SV.v (Value.bool (ctX (((), (), (F x).G, (F x).K, (F
   x).Ho, (F x).pe), ((F x).r, (F x).c, false, (), ()), oe, RC.mk (F x).l oe (F x).ep, (qe, trF ((u1, u2, G, K, Ho, pe), (r, c, false, u3, u4), oe, RC.mk l oe ep, (qe, fr, n, ov), OI.mk xs m qe, OI.mk pl pl.length pe), (F x).n, (F x).ov), OI.mk (F x).xs
   (trM ((u1, u2, G, K, Ho, pe), (r, c, false, u3, u4), oe, RC.mk l oe ep, (qe, fr, n, ov), OI.mk xs m qe, OI.mk pl pl.length pe)) qe, OI.mk (F x).pl (F x).pl.length (F x).pe) (byteAt t x.toNat)).G) = SV.v (Value.bool (F (IntKind.i64.wrap (x + (1 :
   Int)))).G) ∧ SV.v (Value.bool (ctX (((), (), (F x).G, (F x).K, (F x).Ho, (F x).pe), ((F x).r, (F x).c, false, (), ()), oe, RC.mk (F x).l oe (F x).ep, (qe, trF ((u1, u2, G, K, Ho, pe), (r, c, false, u3, u4), oe, RC.mk l oe ep, (qe, fr, n, ov), OI.mk
   xs m qe, OI.mk pl pl.length pe), (F x).n, (F x).ov), OI.mk (F x).xs (trM ((u1, u2, G, K, Ho, pe), (r, c, false, u3, u4), oe, RC.mk l oe ep, (qe, fr, n, ov), OI.mk xs m qe, OI.mk pl pl.length pe)) qe, OI.mk (F x).pl (F x).pl.length (F x).pe) (byteAt t
   x.toNat)).K) = SV.v (Value.bool (F (IntKind.i64.wrap (x + (1 : Int)))).K) ∧ SV.v (Value.bool (ctX (((), (), (F x).G, (F x).K, (F x).Ho, (F x).pe), ((F x).r, (F x).c, false, (), ()), oe, RC.mk (F x).l oe (F x).ep, (qe, trF ((u1, u2, G, K, Ho, pe), (r,
   c, false, u3, u4), oe, RC.mk l oe ep, (qe, fr, n, ov), OI.mk xs m qe, OI.mk pl pl.length pe), (F x).n, (F x).ov), OI.mk (F x).xs (trM ((u1, u2, G, K, Ho, pe), (r, c, false, u3, u4), oe, RC.mk l oe ep, (qe, fr, n, ov), OI.mk xs m qe, OI.mk pl
   pl.length pe)) qe, OI.mk (F x).pl (F x).pl.length (F x).pe) (byteAt t x.toNat)).Ho) = SV.v (Value.bool (F (IntKind.i64.wrap (x + (1 : Int)))).Ho) ∧ SV.h (6 : Nat) [(ctX (((), (), (F x).G, (F x).K, (F x).Ho, (F x).pe), ((F x).r, (F x).c, false, (),
   ()), oe, RC.mk (F x).l oe (F x).ep, (qe, trF ((u1, u2, G, K, Ho, pe), (r, c, false, u3, u4), oe, RC.mk l oe ep, (qe, fr, n, ov), OI.mk xs m qe, OI.mk pl pl.length pe), (F x).n, (F x).ov), OI.mk (F x).xs (trM ((u1, u2, G, K, Ho, pe), (r, c, false, u3,
   u4), oe, RC.mk l oe ep, (qe, fr, n, ov), OI.mk xs m qe, OI.mk pl pl.length pe)) qe, OI.mk (F x).pl (F x).pl.length (F x).pe) (byteAt t x.toNat)).pe, (0 : Nat)] = SV.h (6 : Nat) [(F (IntKind.i64.wrap (x + (1 : Int)))).pe, (0 : Nat)] ∧ True) ∧ (SV.v
   (Value.int IntKind.i64 (ctX (((), (), (F x).G, (F x).K, (F x).Ho, (F x).pe), ((F x).r, (F x).c, false, (), ()), oe, RC.mk (F x).l oe (F x).ep, (qe, trF ((u1, u2, G, K, Ho, pe), (r, c, false, u3, u4), oe, RC.mk l oe ep, (qe, fr, n, ov), OI.mk xs m qe,
   OI.mk pl pl.length pe), (F x).n, (F x).ov), OI.mk (F x).xs (trM ((u1, u2, G, K, Ho, pe), (r, c, false, u3, u4), oe, RC.mk l oe ep, (qe, fr, n, ov), OI.mk xs m qe, OI.mk pl pl.length pe)) qe, OI.mk (F x).pl (F x).pl.length (F x).pe) (byteAt t
   x.toNat)).r) = SV.v (Value.int IntKind.i64 (F (IntKind.i64.wrap (x + (1 : Int)))).r) ∧ SV.v (Value.int IntKind.i64 (ctX (((), (), (F x).G, (F x).K, (F x).Ho, (F x).pe), ((F x).r, (F x).c, false, (), ()), oe, RC.mk (F x).l oe (F x).ep, (qe, trF ((u1,
   u2, G, K, Ho, pe), (r, c, false, u3, u4), oe, RC.mk l oe ep, (qe, fr, n, ov), OI.mk xs m qe, OI.mk pl pl.length pe), (F x).n, (F x).ov), OI.mk (F x).xs (trM ((u1, u2, G, K, Ho, pe), (r, c, false, u3, u4), oe, RC.mk l oe ep, (qe, fr, n, ov), OI.mk xs
   m qe, OI.mk pl pl.length pe)) qe, OI.mk (F x).pl (F x).pl.length (F x).pe) (byteAt t x.toNat)).c) = SV.v (Value.int IntKind.i64 (F (IntKind.i64.wrap (x + (1 : Int)))).c) ∧ SV.v (Value.bool false) = SV.v (Value.bool false) ∧ SV.p (2 : Nat) (0 : Nat) =
   SV.p (2 : Nat) (0 : Nat) ∧ True) ∧ (SV.h (3 : Nat) [oe, (0 : Nat)] = SV.h (3 : Nat) [oe, (0 : Nat)] ∧ True) ∧ (oe = oe ∧ (ctX (((), (), (F x).G, (F x).K, (F x).Ho, (F x).pe), ((F x).r, (F x).c, false, (), ()), oe, RC.mk (F x).l oe (F x).ep, (qe, trF
   ((u1, u2, G, K, Ho, pe), (r, c, false, u3, u4), oe, RC.mk l oe ep, (qe, fr, n, ov), OI.mk xs m qe, OI.mk pl pl.length pe), (F x).n, (F x).ov), OI.mk (F x).xs (trM ((u1, u2, G, K, Ho, pe), (r, c, false, u3, u4), oe, RC.mk l oe ep, (qe, fr, n, ov),
   OI.mk xs m qe, OI.mk pl pl.length pe)) qe, OI.mk (F x).pl (F x).pl.length (F x).pe) (byteAt t x.toNat)).ep = (F (IntKind.i64.wrap (x + (1 : Int)))).ep ∧ (ctX (((), (), (F x).G, (F x).K, (F x).Ho, (F x).pe), ((F x).r, (F x).c, false, (), ()), oe,
   RC.mk (F x).l oe (F x).ep, (qe, trF ((u1, u2, G, K, Ho, pe), (r, c, false, u3, u4), oe, RC.mk l oe ep, (qe, fr, n, ov), OI.mk xs m qe, OI.mk pl pl.length pe), (F x).n, (F x).ov), OI.mk (F x).xs (trM ((u1, u2, G, K, Ho, pe), (r, c, false, u3, u4), oe,
   RC.mk l oe ep, (qe, fr, n, ov), OI.mk xs m qe, OI.mk pl pl.length pe)) qe, OI.mk (F x).pl (F x).pl.length (F x).pe) (byteAt t x.toNat)).l = (F (IntKind.i64.wrap (x + (1 : Int)))).l) ∧ (SV.h (5 : Nat) [qe, (0 : Nat)] = SV.h (5 : Nat) [qe, (0 : Nat)] ∧
   SV.v (Value.int IntKind.i64 (trF ((u1, u2, G, K, Ho, pe), (r, c, false, u3, u4), oe, RC.mk l oe ep, (qe, fr, n, ov), OI.mk xs m qe, OI.mk pl pl.length pe))) = SV.v (Value.int IntKind.i64 (trF ((u1, u2, G, K, Ho, pe), (r, c, false, u3, u4), oe, RC.mk
   l oe ep, (qe, fr, n, ov), OI.mk xs m qe, OI.mk pl pl.length pe))) ∧ SV.v (Value.int IntKind.i64 (ctX (((), (), (F x).G, (F x).K, (F x).Ho, (F x).pe), ((F x).r, (F x).c, false, (), ()), oe, RC.mk (F x).l oe (F x).ep, (qe, trF ((u1, u2, G, K, Ho, pe),
   (r, c, false, u3, u4), oe, RC.mk l oe ep, (qe, fr, n, ov), OI.mk xs m qe, OI.mk pl pl.length pe), (F x).n, (F x).ov), OI.mk (F x).xs (trM ((u1, u2, G, K, Ho, pe), (r, c, false, u3, u4), oe, RC.mk l oe ep, (qe, fr, n, ov), OI.mk xs m qe, OI.mk pl
   pl.length pe)) qe, OI.mk (F x).pl (F x).pl.length (F x).pe) (byteAt t x.toNat)).n) = SV.v (Value.int IntKind.i64 (F (IntKind.i64.wrap (x + (1 : Int)))).n) ∧ SV.v (Value.bool (ctX (((), (), (F x).G, (F x).K, (F x).Ho, (F x).pe), ((F x).r, (F x).c,
   false, (), ()), oe, RC.mk (F x).l oe (F x).ep, (qe, trF ((u1, u2, G, K, Ho, pe), (r, c, false, u3, u4), oe, RC.mk l oe ep, (qe, fr, n, ov), OI.mk xs m qe, OI.mk pl pl.length pe), (F x).n, (F x).ov), OI.mk (F x).xs (trM ((u1, u2, G, K, Ho, pe), (r, c,
   false, u3, u4), oe, RC.mk l oe ep, (qe, fr, n, ov), OI.mk xs m qe, OI.mk pl pl.length pe)) qe, OI.mk (F x).pl (F x).pl.length (F x).pe) (byteAt t x.toNat)).ov) = SV.v (Value.bool (F (IntKind.i64.wrap (x + (1 : Int)))).ov) ∧ True) ∧ (trM ((u1, u2, G,
   K, Ho, pe), (r, c, false, u3, u4), oe, RC.mk l oe ep, (qe, fr, n, ov), OI.mk xs m qe, OI.mk pl pl.length pe) = trM ((u1, u2, G, K, Ho, pe), (r, c, false, u3, u4), oe, RC.mk l oe ep, (qe, fr, n, ov), OI.mk xs m qe, OI.mk pl pl.length pe) ∧ qe = qe ∧
   (ctX (((), (), (F x).G, (F x).K, (F x).Ho, (F x).pe), ((F x).r, (F x).c, false, (), ()), oe, RC.mk (F x).l oe (F x).ep, (qe, trF ((u1, u2, G, K, Ho, pe), (r, c, false, u3, u4), oe, RC.mk l oe ep, (qe, fr, n, ov), OI.mk xs m qe, OI.mk pl pl.length
   pe), (F x).n, (F x).ov), OI.mk (F x).xs (trM ((u1, u2, G, K, Ho, pe), (r, c, false, u3, u4), oe, RC.mk l oe ep, (qe, fr, n, ov), OI.mk xs m qe, OI.mk pl pl.length pe)) qe, OI.mk (F x).pl (F x).pl.length (F x).pe) (byteAt t x.toNat)).xs = (F
   (IntKind.i64.wrap (x + (1 : Int)))).xs) ∧ ((ctX (((), (), (F x).G, (F x).K, (F x).Ho, (F x).pe), ((F x).r, (F x).c, false, (), ()), oe, RC.mk (F x).l oe (F x).ep, (qe, trF ((u1, u2, G, K, Ho, pe), (r, c, false, u3, u4), oe, RC.mk l oe ep, (qe, fr, n,
   ov), OI.mk xs m qe, OI.mk pl pl.length pe), (F x).n, (F x).ov), OI.mk (F x).xs (trM ((u1, u2, G, K, Ho, pe), (r, c, false, u3, u4), oe, RC.mk l oe ep, (qe, fr, n, ov), OI.mk xs m qe, OI.mk pl pl.length pe)) qe, OI.mk (F x).pl (F x).pl.length (F
   x).pe) (byteAt t x.toNat)).pl.length = (F (IntKind.i64.wrap (x + (1 : Int)))).pl.length ∧ (ctX (((), (), (F x).G, (F x).K, (F x).Ho, (F x).pe), ((F x).r, (F x).c, false, (), ()), oe, RC.mk (F x).l oe (F x).ep, (qe, trF ((u1, u2, G, K, Ho, pe), (r, c,
   false, u3, u4), oe, RC.mk l oe ep, (qe, fr, n, ov), OI.mk xs m qe, OI.mk pl pl.length pe), (F x).n, (F x).ov), OI.mk (F x).xs (trM ((u1, u2, G, K, Ho, pe), (r, c, false, u3, u4), oe, RC.mk l oe ep, (qe, fr, n, ov), OI.mk xs m qe, OI.mk pl pl.length
   pe)) qe, OI.mk (F x).pl (F x).pl.length (F x).pe) (byteAt t x.toNat)).pe = (F (IntKind.i64.wrap (x + (1 : Int)))).pe ∧ (ctX (((), (), (F x).G, (F x).K, (F x).Ho, (F x).pe), ((F x).r, (F x).c, false, (), ()), oe, RC.mk (F x).l oe (F x).ep, (qe, trF
   ((u1, u2, G, K, Ho, pe), (r, c, false, u3, u4), oe, RC.mk l oe ep, (qe, fr, n, ov), OI.mk xs m qe, OI.mk pl pl.length pe), (F x).n, (F x).ov), OI.mk (F x).xs (trM ((u1, u2, G, K, Ho, pe), (r, c, false, u3, u4), oe, RC.mk l oe ep, (qe, fr, n, ov),
   OI.mk xs m qe, OI.mk pl pl.length pe)) qe, OI.mk (F x).pl (F x).pl.length (F x).pe) (byteAt t x.toNat)).pl = (F (IntKind.i64.wrap (x + (1 : Int)))).pl) ∧ (SV.p (0 : Nat) (0 : Nat) = SV.p (0 : Nat) (0 : Nat) ∧ True) ∧ (SV.p (0 : Nat) (0 : Nat) = SV.p
   (0 : Nat) (0 : Nat) ∧ True) ∧ (SV.v (Value.string t) = SV.v (Value.string t) ∧ True) ∧ Obj.deferred (some []) = Obj.deferred (some []) ∧ ((SV.p (7 : Nat) (0 : Nat) = SV.p (7 : Nat) (0 : Nat) ∧ True) ∧ #[(10 : Nat)] = #[(10 : Nat)] ∧ codeAt Tryd.f11
   [(1 : Nat), (1 : Nat), (1 : Nat), (0 : Nat), (0 : Nat)] = codeAt Tryd.f11 [(1 : Nat), (1 : Nat), (1 : Nat), (0 : Nat), (0 : Nat)] ∧ codeAt Tryd.f11 [(1 : Nat), (1 : Nat), (1 : Nat), (0 : Nat), (1 : Nat)] = codeAt Tryd.f11 [(1 : Nat), (1 : Nat), (1 :
   Nat), (0 : Nat), (1 : Nat)]) ∧ True) ∧ ((↑t.size : Int) - IntKind.i64.wrap (x + (1 : Int))).toNat < ((↑t.size : Int) - x).toNat))))))))) ((SV.t [] = SV.t [] ∧ True) ∧ (SV.p (1 : Nat) (0 : Nat) = SV.p (1 : Nat) (0 : Nat) ∧ SV.p (4 : Nat) (0 : Nat) =
   SV.p (4 : Nat) (0 : Nat) ∧ SV.v (Value.bool (F x).G) = SV.v (Value.bool (fdX ((u1, u2, G, K, Ho, pe), (r, c, false, u3, u4), oe, RC.mk l oe ep, (qe, fr, n, ov), OI.mk xs m qe, OI.mk pl pl.length pe) t).G) ∧ SV.v (Value.bool (F x).K) = SV.v
   (Value.bool (fdX ((u1, u2, G, K, Ho, pe), (r, c, false, u3, u4), oe, RC.mk l oe ep, (qe, fr, n, ov), OI.mk xs m qe, OI.mk pl pl.length pe) t).K) ∧ SV.v (Value.bool (F x).Ho) = SV.v (Value.bool (fdX ((u1, u2, G, K, Ho, pe), (r, c, false, u3, u4), oe,
   RC.mk l oe ep, (qe, fr, n, ov), OI.mk xs m qe, OI.mk pl pl.length pe) t).Ho) ∧ SV.h (6 : Nat) [(F x).pe, (0 : Nat)] = SV.h (6 : Nat) [(fdX ((u1, u2, G, K, Ho, pe), (r, c, false, u3, u4), oe, RC.mk l oe ep, (qe, fr, n, ov), OI.mk xs m qe, OI.mk pl
   pl.length pe) t).pe, (0 : Nat)] ∧ True) ∧ (SV.v (Value.int IntKind.i64 (F x).r) = SV.v (Value.int IntKind.i64 (fdX ((u1, u2, G, K, Ho, pe), (r, c, false, u3, u4), oe, RC.mk l oe ep, (qe, fr, n, ov), OI.mk xs m qe, OI.mk pl pl.length pe) t).r) ∧ SV.v
   (Value.int IntKind.i64 (F x).c) = SV.v (Value.int IntKind.i64 (fdX ((u1, u2, G, K, Ho, pe), (r, c, false, u3, u4), oe, RC.mk l oe ep, (qe, fr, n, ov), OI.mk xs m qe, OI.mk pl pl.length pe) t).c) ∧ SV.v (Value.bool false) = SV.v (Value.bool false) ∧
   SV.p (2 : Nat) (0 : Nat) = SV.p (2 : Nat) (0 : Nat) ∧ True) ∧ (SV.h (3 : Nat) [oe, (0 : Nat)] = SV.h (3 : Nat) [oe, (0 : Nat)] ∧ True) ∧ (oe = oe ∧ (F x).ep = (fdX ((u1, u2, G, K, Ho, pe), (r, c, false, u3, u4), oe, RC.mk l oe ep, (qe, fr, n, ov),
   OI.mk xs m qe, OI.mk pl pl.length pe) t).ep ∧ (F x).l = (fdX ((u1, u2, G, K, Ho, pe), (r, c, false, u3, u4), oe, RC.mk l oe ep, (qe, fr, n, ov), OI.mk xs m qe, OI.mk pl pl.length pe) t).l) ∧ (SV.h (5 : Nat) [qe, (0 : Nat)] = SV.h (5 : Nat) [qe, (0 :
   Nat)] ∧ SV.v (Value.int IntKind.i64 (trF ((u1, u2, G, K, Ho, pe), (r, c, false, u3, u4), oe, RC.mk l oe ep, (qe, fr, n, ov), OI.mk xs m qe, OI.mk pl pl.length pe))) = SV.v (Value.int IntKind.i64 fr) ∧ SV.v (Value.int IntKind.i64 (F x).n) = SV.v
   (Value.int IntKind.i64 (fdX ((u1, u2, G, K, Ho, pe), (r, c, false, u3, u4), oe, RC.mk l oe ep, (qe, fr, n, ov), OI.mk xs m qe, OI.mk pl pl.length pe) t).n) ∧ SV.v (Value.bool (F x).ov) = SV.v (Value.bool (fdX ((u1, u2, G, K, Ho, pe), (r, c, false,
   u3, u4), oe, RC.mk l oe ep, (qe, fr, n, ov), OI.mk xs m qe, OI.mk pl pl.length pe) t).ov) ∧ True) ∧ (trM ((u1, u2, G, K, Ho, pe), (r, c, false, u3, u4), oe, RC.mk l oe ep, (qe, fr, n, ov), OI.mk xs m qe, OI.mk pl pl.length pe) = m ∧ qe = qe ∧ (F
   x).xs = (fdX ((u1, u2, G, K, Ho, pe), (r, c, false, u3, u4), oe, RC.mk l oe ep, (qe, fr, n, ov), OI.mk xs m qe, OI.mk pl pl.length pe) t).xs) ∧ ((F x).pl.length = (fdX ((u1, u2, G, K, Ho, pe), (r, c, false, u3, u4), oe, RC.mk l oe ep, (qe, fr, n,
   ov), OI.mk xs m qe, OI.mk pl pl.length pe) t).pl.length ∧ (F x).pe = (fdX ((u1, u2, G, K, Ho, pe), (r, c, false, u3, u4), oe, RC.mk l oe ep, (qe, fr, n, ov), OI.mk xs m qe, OI.mk pl pl.length pe) t).pe ∧ (F x).pl = (fdX ((u1, u2, G, K, Ho, pe), (r,
   c, false, u3, u4), oe, RC.mk l oe ep, (qe, fr, n, ov), OI.mk xs m qe, OI.mk pl pl.length pe) t).pl) ∧ True)) (fdF ((u1, u2, G, K, Ho, pe), (r, c, false, u3, u4), oe, RC.mk l oe ep, (qe, fr, n, ov), OI.mk xs m qe, OI.mk pl pl.length pe) t))) (by
   kernel_rfl) ?_
  clear hp hφ
  have hb := bytesL_range t
  generalize hF : fdF ((u1, u2, G, K, Ho, pe), (r, c, false, u3, u4), oe, RC.mk l oe ep, (qe, fr, n, ov), OI.mk xs m qe, OI.mk pl pl.length pe) t = F
  have eS : ∀ i : Int, 0 ≤ i → i < t.size → F (i + 1) = byT m fr (F i) (byteAt t i.toNat) := by subst hF; exact fun i h0 h1 => feedT_succ _ _ _ h0 h1
  have eT : ∀ i : Int, TI fr m (F i) := by subst hF; exact fun i => (tp_feed _ hI (byteR_take hb _)).ti
  have eE : F t.size = fdX ((u1, u2, G, K, Ho, pe), (r, c, false, u3, u4), oe, RC.mk l oe ep, (qe, fr, n, ov), OI.mk xs m qe, OI.mk pl pl.length pe) t := by subst hF; exact feedT_all _ _ _ _
  clear hF
  simp only [trM, trF, tmS]
  refine ⟨by simp, by simp, fun x hx => ?_⟩
  obtain ⟨hx0, hx1⟩ : (0 : Int) ≤ x ∧ (x : Int) ≤ t.size := hx
  have hT := eT x
  refine br_intro (fun hlt => ?_) (fun hge => ?_)
  · have hlt : x < (t.size : Int) := of_decide_eq_true hlt
    have e := eS x hx0 hlt
    have hbx := byteAt_range t x.toNat
    have hxr : (decide (0 ≤ x ∧ x < (t.size : Int))) = true := decide_eq_true ⟨hx0, hlt⟩
    rw [wrap64 (x := x + 1) (by omega) (by omega), e]
    have hmu : ((t.size : Int) - (x + 1)).toNat < ((t.size : Int) - x).toNat := by omega
    have hbd : 0 ≤ x + 1 ∧ x + 1 ≤ (t.size : Int) := by omega
    clear eS eT eE
    generalize byteAt t x.toNat = b at hbx ⊢
    generalize F x = s at hT ⊢
    obtain ⟨r, c, l, ep, G, K, Ho, n, ov, xs, pe, pl⟩ := s
    have hTA : TA (((), (), G, K, Ho, pe), (r, c, false, (), ()), oe, RC.mk l oe ep, (qe, fr, n, ov), OI.mk xs m qe, OI.mk pl pl.length pe) := ⟨rfl, rfl, rfl, rfl, rfl, hT⟩
    have hsq : sqX (((), (), G, K, Ho, pe), (r, c, false, (), ()), oe, RC.mk l oe ep, (qe, fr, n, ov), OI.mk xs m qe, OI.mk pl pl.length pe) b = sqT m fr ⟨r, c, l, ep, G, K, Ho, n, ov, xs, pe, pl⟩ b := rfl
    have hct : ctX (((), (), G, K, Ho, pe), (r, c, false, (), ()), oe, RC.mk l oe ep, (qe, fr, n, ov), OI.mk xs m qe, OI.mk pl pl.length pe) b = ctT ⟨r, c, l, ep, G, K, Ho, n, ov, xs, pe, pl⟩ b := rfl
    simp only [hsq, hct]
    have h27 : byT m fr ⟨r, c, l, ep, G, K, Ho, n, ov, xs, pe, pl⟩ b = if pl.length = 0 ∧ b > 126 then ⟨r, c, l, ep, G, K, Ho, n, ov, xs, pe, pl⟩ else if b = 27 then ⟨r, c, l, ep, G, K, Ho, n, ov, xs, pe + 1, [27]⟩ else if 0 < pl.length then sqT m fr
     ⟨r, c, l, ep, G, K, Ho, n, ov, xs, pe, pl⟩ b else if 32 ≤ b then puT ⟨r, c, l, ep, G, K, Ho, n, ov, xs, pe, pl⟩ b else ctT ⟨r, c, l, ep, G, K, Ho, n, ov, xs, pe, pl⟩ b := rfl
    generalize byT m fr ⟨r, c, l, ep, G, K, Ho, n, ov, xs, pe, pl⟩ b = B at h27 ⊢
    have hY : ∀ {P1 P2 P3 P4 : Prop}, ¬ (pl.length = 0 ∧ b > 126) → (b = 27 → B = ⟨r, c, l, ep, G, K, Ho, n, ov, xs, pe + 1, [27]⟩ → P1) → (0 < pl.length → B = sqT m fr ⟨r, c, l, ep, G, K, Ho, n, ov, xs, pe, pl⟩ b → P2) → (pl.length = 0 → B = puT ⟨r, c, l, ep, G, K, Ho, n, ov, xs, pe, pl⟩ b → P3) → (pl.length = 0 → B = ctT ⟨r, c, l, ep, G, K, Ho, n, ov, xs, pe, pl⟩ b → P4) →
        br (b == 27) P1 (rq (Nat.beq pe pe) (br (decide ((pl.length : Int) > 0)) P2 (br (decide (b ≥ 32)) P3 P4))) := by
      intro P1 P2 P3 P4 h1 q1 q2 q3 q4
      rw [if_neg h1] at h27
      refine br_intro (fun h3 => ?_) (fun h3 => rq_t (by simp) (br_intro (fun h4 => ?_) (fun h4 => br_intro (fun h5 => ?_) (fun h5 => ?_))))
      · have h3 : b = 27 := by simpa using h3
        exact q1 h3 (by rw [h27, if_pos h3])
      · have h3 : ¬ b = 27 := by simpa using h3
        have h4 : 0 < pl.length := by simpa using h4
        exact q2 h4 (by rw [h27, if_neg h3, if_pos h4])
      · have h3 : ¬ b = 27 := by simpa using h3
        have h4 : pl.length = 0 := by have : ¬ (pl.length : Int) > 0 := of_decide_eq_false h4; omega
        have h5 : b ≥ 32 := of_decide_eq_true h5
        exact q3 h4 (by rw [h27, if_neg h3, if_neg (by omega), if_pos h5])
      · have h3 : ¬ b = 27 := by simpa using h3
        have h4 : pl.length = 0 := by have : ¬ (pl.length : Int) > 0 := of_decide_eq_false h4; omega
        have h5 : ¬ b ≥ 32 := of_decide_eq_false h5
        exact q4 h4 (by rw [h27, if_neg h3, if_neg (by omega), if_neg h5])
    refine rq_t hxr (rq_t (by simp) (br_intro (fun h1 => br_intro (fun h2 => ?_) (fun h2 => rq_t hxr (hY ?_ ?_ ?_ ?_ ?_))) (fun h1 => rq_t hxr (hY ?_ ?_ ?_ ?_ ?_))))
    · have h1 : pl.length = 0 := by simpa using h1
      have h2 : b > 126 := of_decide_eq_true h2
      rw [if_pos ⟨h1, h2⟩] at h27
      clear hY hsq hct hTA
      subst h27
      simp [hmu, hbd]
    · have h2 : ¬ b > 126 := of_decide_eq_false h2
      exact fun h => h2 h.2
    · intro _ hB
      clear hY hsq hct hTA h27
      subst hB
      simp [hmu, hbd]
    · intro h5 hB
      clear hY hsq hct h27
      rw [hB]
      have h7 : 1 ≤ pl.length := h5
      simp [hTA, hmu, hbd, hbx, h7]
    · intro h5 hB
      clear hY hsq hct h27
      subst hB
      simp [puT, hTA, hmu, hbd, hbx]
    · intro h5 hB
      clear hY hsq hct h27
      subst hB
      simp [hTA, hmu, hbd, hbx]
    · have h1 : ¬ pl.length = 0 := by simpa using h1
      exact fun h => h1 h.1
    · intro _ hB
      clear hY hsq hct hTA h27
      subst hB
      simp [hmu, hbd]
    · intro h5 hB
      clear hY hsq hct h27
      rw [hB]
      have h7 : 1 ≤ pl.length := h5
      simp [hTA, hmu, hbd, hbx, h7]
    · intro h5 hB
      clear hY hsq hct h27
      subst hB
      simp [puT, hTA, hmu, hbd, hbx]
    · intro h5 hB
      clear hY hsq hct h27
      subst hB
      simp [hTA, hmu, hbd, hbx]
  · have hge : ¬ (x : Int) < (t.size : Int) := of_decide_eq_false hge
    obtain rfl : x = (t.size : Int) := by omega
    rw [eE]
    simp
end Go.Proofs.YtcbjgpkbfmmdpaaDoor
namespace Go.Proofs.YtcbjgpkbfmmdpaaDoor
open Go Go.Sym
theorem newL_gridF (R C : Nat) (x : C4) : newL R C x = gridF R C fun _ _ => x := by
  unfold newL gridF
  apply List.ext_getElem
  · simp
  · intro i h1 h2
    simp only [List.getElem_replicate, List.getElem_map]
    apply List.ext_getElem <;> simp
theorem newL_gw {R D : Nat} {x : C4} (h0 : 1 ≤ R) (h1 : R ≤ 255) (h2 : 1 ≤ D) (h3 : D ≤ 255) : GW (newL R D x) := by rw [newL_gridF]; exact gridF_gw h0 h1 h2 h3
theorem newL_length (R D : Nat) (x : C4) : (newL R D x).length = R := by rw [newL_gridF, gridF_length]
theorem newL_nC {R D : Nat} {x : C4} (h0 : 1 ≤ R) : nC (newL R D x) = D := by rw [newL_gridF]; exact gridF_nC (by omega)
def newT (a b m : Int) : Tm := ⟨0, 0, newL a.toNat b.toNat blankC, a.toNat + 1, false, false, false, 0, false, List.replicate m.toNat 0, 0, []⟩
theorem newT_ti {a b m : Int} (hm : mayB a b = true) (h0 : 0 ≤ m) (h1 : m ≤ 4096) : TI 0 m.toNat (newT a b m) := by
  have hb := mayB_iff.1 hm
  have e1 := newL_length a.toNat b.toNat blankC
  have e2 := newL_nC (R := a.toNat) (D := b.toNat) (x := blankC) (by omega)
  refine ⟨newL_gw (by omega) (by omega) (by omega) (by omega), Int.le_refl 0, ?_, Int.le_refl 0, ?_, ⟨by simp [newT], by omega, Int.le_refl 0, by omega, Int.le_refl 0, by simp only [newT]; omega, fun x hx => ?_⟩, by simp [newT], fun x hx => by simp [newT] at hx⟩
  · simp only [newT]; rw [e1]; omega
  · simp only [newT]; rw [e2]; omega
  · simp only [newT, List.mem_replicate] at hx; omega
def tabW12 : List (Nat × ACon Unit) := (10, lcMade) :: (11, lcTFeed) :: (13, lcSAt) :: (12, lcCur) :: []
theorem tabW12_ok : LCs Tryd.prog tabW12 := ⟨ok_made, ok_tFeed, ok_sAt, ok_cur, trivial⟩
def lcAwake : ACon Unit := mkLC (decP shNil shHNil) fun _ => .one (.v (.bool true)) [] []
set_option maxHeartbeats 4000000 in
theorem ok_awake : ∀ I : Sym.Inv Unit, LCOk I Tryd.prog 9 lcAwake := by
  refine lc_mk (fun _ => allCfg Tryd.prog [] tabW12 0) (fun _ _ => allCfg_ok mixed trivial tabW12_ok) (fun _ => rfl) (n := 80) Tryd.func9 ?_
  intro ⟨_, _⟩ hφ
  refine kcast (B := (true = true ∧ (true = true ∧ II (0 : Int) ≤ (10 : Int) ∧ II (10 : Int) ≤ (4096 : Int)) ∧ true = true ∧ (TA (((), (), false, false, false,
        (0 : Nat)), ((0 : Int), (0 : Int), false, (), ()), (11 : Nat), RC.mk (newL (10 : Nat) (20 : Nat) blankC) (11 : Nat) (11 : Nat), ((0 : Nat), (0 : Int), (0 :
        Int), false), OI.mk (LI [(0 : Int), (0 : Int), (0 : Int), (0 : Int), (0 : Int), (0 : Int), (0 : Int), (0 : Int), (0 : Int), (0 : Int)]) (10 : Nat) (0 : Nat),
        OI.mk (LI []) (0 : Nat) (0 : Nat)) ∧ (5 : Nat) ≤ (1099511627776 : Nat)) ∧ true = true ∧ ((11 : Nat) = (11 : Nat) ∧ GW [[blankC, blankC, blankC, blankC, blankC,
        blankC, blankC, blankC, blankC, blankC, blankC, blankC, blankC, blankC, blankC, blankC, blankC, blankC, blankC, blankC], [blankC, blankC, blankC, blankC,
        blankC, blankC, blankC, blankC, blankC, blankC, blankC, blankC, blankC, blankC, blankC, blankC, blankC, blankC, blankC, blankC], [blankC, blankC, blankC,
        blankC, blankC, blankC, blankC, blankC, blankC, blankC, blankC, blankC, blankC, blankC, blankC, blankC, blankC, blankC, blankC, blankC], [blankC, blankC,
        blankC, blankC, blankC, C4.mk (120 : Int) (0 : Int) false (0 : Int), blankC, blankC, blankC, blankC, blankC, blankC, blankC, blankC, blankC, blankC, blankC,
        blankC, blankC, blankC], [blankC, blankC, blankC, blankC, blankC, blankC, blankC, blankC, blankC, blankC, blankC, blankC, blankC, blankC, blankC, blankC,
        blankC, blankC, blankC, blankC], [blankC, blankC, blankC, blankC, blankC, blankC, blankC, blankC, blankC, blankC, blankC, blankC, blankC, blankC, blankC,
        blankC, blankC, blankC, blankC, blankC], [blankC, blankC, blankC, blankC, blankC, blankC, blankC, blankC, blankC, blankC, blankC, blankC, blankC, blankC,
        blankC, blankC, blankC, blankC, blankC, blankC], [blankC, blankC, blankC, blankC, blankC, blankC, blankC, blankC, blankC, blankC, blankC, blankC, blankC,
        blankC, blankC, blankC, blankC, blankC, blankC, blankC], [blankC, blankC, blankC, blankC, blankC, blankC, blankC, blankC, blankC, blankC, blankC, blankC,
        blankC, blankC, blankC, blankC, blankC, blankC, blankC, blankC], [blankC, blankC, blankC, blankC, blankC, blankC, blankC, blankC, blankC, blankC, blankC,
        blankC, blankC, blankC, blankC, blankC, blankC, blankC, blankC, blankC]] ∧ true = true) ∧ true = true ∧ (SV.v (Value.bool true) = SV.v (Value.bool true) ∧ True)
        ∧ True)) (by kernel_rfl) ?_
  have hT : TA (((), (), false, false, false, 0), (0, 0, false, (), ()), 11, RC.mk (newL 10 20 blankC) 11 11, (0, 0, 0, false), OI.mk [0, 0, 0, 0, 0, 0, 0, 0, 0, 0] 10 0, OI.mk [] 0 0) := ⟨rfl, rfl, rfl, rfl, rfl, newT_ti (a := 10) (b := 20) (m := 10) (by decide) (by decide) (by decide)⟩
  refine ⟨rfl, ⟨rfl, by decide, by decide⟩, rfl, ⟨hT, by decide⟩, rfl, ⟨rfl, ⟨by decide, by decide, by decide, by decide, by decide⟩, rfl⟩, rfl, ⟨rfl, trivial⟩, trivial⟩
theorem bytesL_append (a b : ByteArray) : bytesL (a ++ b) = bytesL a ++ bytesL b := by simp [bytesL, ByteArray.data_append]
section
variable {m : Nat} {fr : Int}
theorem esc1 (S : Tm) : byT m fr S 27 = { S with pl := [27], pe := S.pe + 1 } := by
  unfold byT
  rw [if_neg (fun h => by omega), if_pos rfl]
theorem esc2 (S : Tm) {b : Int} (h0 : b ≠ 27) (h1 : b ≠ 89) : feedT m fr S [27, b] = twoT m fr { S with pl := [], pe := S.pe + 3 } b := by
  show byT m fr (byT m fr S 27) b = _
  rw [esc1]
  unfold byT
  rw [if_neg (fun h => by simp at h), if_neg h0, if_pos (by simp)]
  unfold sqT
  rw [if_neg (fun h => by rcases h with ⟨_, h⟩ | h <;> simp_all)]
  exact if_pos rfl
end
def tabL12 : List (Nat × ACon Unit) := (9, lcAwake) :: tabW12
theorem tabL12_ok : LCs Tryd.prog tabL12 := ⟨ok_awake, tabW12_ok⟩
def wOf (st : St Unit) (slot : Nat) : Nat := match st.tm[slot]? with
  | some (.p b _) => b - 11
  | _ => 0
def tmOf (w : Nat) (H : List (SB Unit)) : Option Tm :=
  match H[w + 10]?, H[w + 7]?, H[w + 4]?, H[w + 9]?, H[w + 8]?, H[w + 12]? with
  | some (.cells [_, _, .v (.bool G), .v (.bool K), .v (.bool Ho), .h _ [pe, _]] _), some (.cells [.v (.int _ r), .v (.int _ c), _, _, _] _), some (.rows (.c l) _ _ _ ep _), some (.cells [_, _, .v (.int _ n), .v (.bool ov)] _), some (.own (.ints _ xs) _ _ _ _ _), some (.own (.ints _ pl) _ _ _ _ _) =>
    some ⟨r, c, l, ep, G, K, Ho, n, ov, xs, pe, pl⟩
  | _, _, _, _, _, _ => none
def wmI (w oe qe m : Nat) (fr : Int) (s : Tm) : List (Nat × SB Unit) := [(w + 10, .cells [.p (w + 7) 0, .p (w + 9) 0, .v (.bool s.G), .v (.bool s.K), .v (.bool s.Ho), .h (w + 12) [s.pe, 0]] 69),
  (w + 7, .cells [.v (.int .i64 s.r), .v (.int .i64 s.c), .v (.bool false), .p (w + 3) 0, .any] 80), (w + 4, .rows (.c s.l) 40 47 oe s.ep none),
  (w + 9, .cells [.h (w + 8) [qe, 0], .v (.int .i64 fr), .v (.int .i64 s.n), .v (.bool s.ov)] 96), (w + 8, .own (.ints .u8 s.xs) m 5 1 qe true), (w + 12, .own (.ints .u8 s.pl) s.pl.length 5 1 s.pe false)]
def annJ (keep : List Nat) (var : List (Nat × SV)) (slot : Nat) (oe qe m : Nat) (fr : Int) (S : Tm) : Ann Unit where
  α := Tm
  φ _ s := s = S
  μ _ _ := 0
  get st := tmOf (wOf st slot) st.H
  f st s := tmpl keep var (wmI (wOf st slot) oe qe m fr s) st
theorem tm_eta (y : Tm) : Tm.mk y.r y.c y.l y.ep y.G y.K y.Ho y.n y.ov y.xs y.pe y.pl = y := rfl
end Go.Proofs.YtcbjgpkbfmmdpaaDoor
namespace Go.Proofs.YtcbjgpkbfmmdpaaDoor
open Go Go.Sym
def rep (B : ByteArray) : Nat → ByteArray
  | 0 => ByteArray.empty
  | n + 1 => rep B n ++ B
def bC (b : UInt8) : ByteArray := ⟨#[27, b]⟩
theorem rep_size {B : ByteArray} (h : B.size = 2) (n : Nat) : (rep B n).size = 2 * n := by
  induction n with
  | zero => rfl
  | succ n ih => simp only [rep, ByteArray.size_append, ih, h]; omega
theorem bC_size (b : UInt8) : (bC b).size = 2 := rfl
theorem near_step {x d L : Int} {n : Nat} (h0 : 0 ≤ x) (h1 : x < L) (hd : d = 1 ∨ d = 0 ∨ d = -1) : nearI (nearI (x + d * n) L + d) L = nearI (x + d * (n + 1 : Nat)) L := by
  rcases hd with rfl | rfl | rfl
  · rw [Int.one_mul, Int.one_mul]; unfold nearI; repeat' split
    all_goals omega
  · rw [Int.zero_mul, Int.zero_mul, Int.add_zero, Int.add_zero, near_in h0 h1, near_in h0 h1]
  · rw [show (-1 : Int) * (n : Int) = -n by omega, show (-1 : Int) * ((n + 1 : Nat) : Int) = -n - 1 by omega]; unfold nearI; repeat' split
    all_goals omega
theorem rep_feed {m : Nat} {fr : Int} {b : UInt8} {dr dc : Int} (hb : (b.toNat : Int) ≠ 27 ∧ (b.toNat : Int) ≠ 89) (htwo : ∀ s, twoT m fr s (b.toNat : Int) = stT s dr dc) (hd : dr = 1 ∨ dr = 0 ∨ dr = -1) (hc : dc = 1 ∨ dc = 0 ∨ dc = -1) {S : Tm} (h : TI fr m S) :
    ∀ n : Nat, (feedT m fr S (bytesL (rep (bC b) n))).r = nearI (S.r + dr * n) S.l.length ∧ (feedT m fr S (bytesL (rep (bC b) n))).c = nearI (S.c + dc * n) (nC S.l) ∧ (feedT m fr S (bytesL (rep (bC b) n))).l = S.l
  | 0 => by
    simp only [rep]
    refine ⟨?_, ?_, rfl⟩
    · show S.r = _
      rw [show S.r + dr * ((0 : Nat) : Int) = S.r by simp, near_in h.r0 h.r1]
    · show S.c = _
      rw [show S.c + dc * ((0 : Nat) : Int) = S.c by simp, near_in h.c0 h.c1]
  | n + 1 => by
    obtain ⟨i1, i2, i3⟩ := rep_feed hb htwo hd hc h n
    simp only [rep]
    rw [bytesL_append, feedT_append, show bytesL (bC b) = [27, (b.toNat : Int)] from rfl, esc2 _ hb.1 hb.2, htwo]
    refine ⟨?_, ?_, i3⟩
    · show nearI ((feedT m fr S (bytesL (rep (bC b) n))).r + dr) (feedT m fr S (bytesL (rep (bC b) n))).l.length = _
      rw [i1, i3, near_step h.r0 h.r1 hd]
    · show nearI ((feedT m fr S (bytesL (rep (bC b) n))).c + dc) (nC (feedT m fr S (bytesL (rep (bC b) n))).l) = _
      rw [i2, i3, near_step h.c0 h.c1 hc]
def mvI (u v : Int → ByteArray) (slot : Nat) (keep : List Nat) (N : Int) : Ann Unit where
  α := Int
  φ _ i := 0 ≤ i ∧ i ≤ N
  μ _ i := (N - i).toNat
  get st := getI st.tm slot
  f st i := tmpl keep [(9, .v (.string (u i))), (10, .v (.string (v i))), (slot, .v (.int .i64 i))] [] st
def thU (d : Int) (i : Int) : ByteArray := rep (bC 66) i.toNat
def bkU (d : Int) (i : Int) : ByteArray := rep (bC 65) i.toNat
def thV (d : Int) (i : Int) : ByteArray := rep (bC 66) d.toNat ++ rep (bC 67) i.toNat
def bkV (d : Int) (i : Int) : ByteArray := rep (bC 65) d.toNat ++ rep (bC 68) i.toNat
theorem tw66 {m : Nat} {fr : Int} (s : Tm) : twoT m fr s ((66 : UInt8).toNat : Int) = stT s 1 0 := by simp [twoT]
theorem tw65 {m : Nat} {fr : Int} (s : Tm) : twoT m fr s ((65 : UInt8).toNat : Int) = stT s (-1) 0 := by simp [twoT]
theorem tw67 {m : Nat} {fr : Int} (s : Tm) : twoT m fr s ((67 : UInt8).toNat : Int) = stT s 0 1 := by simp [twoT]
theorem tw68 {m : Nat} {fr : Int} (s : Tm) : twoT m fr s ((68 : UInt8).toNat : Int) = stT s 0 (-1) := by simp [twoT]
theorem there_plain {m : Nat} {fr : Int} {S : Tm} (h : TI fr m S) {d r : Int} (hd : 0 ≤ d) (hr : 0 ≤ r) : (feedT m fr S (bytesL (thV d r))).r = nearI (S.r + d) S.l.length ∧ (feedT m fr S (bytesL (thV d r))).c = nearI (S.c + r) (nC S.l) ∧ (feedT m fr S (bytesL (thV d r))).l = S.l := by
  unfold thV
  rw [bytesL_append, feedT_append]
  obtain ⟨i1, i2, i3⟩ := rep_feed (b := 66) (dr := 1) (dc := 0) (by decide) tw66 (by decide) (by decide) h d.toNat
  obtain ⟨j1, j2, j3⟩ := rep_feed (b := 67) (dr := 0) (dc := 1) (by decide) tw67 (by decide) (by decide) (tp_feed (bytesL (rep (bC 66) d.toNat)) h (bytesL_range _)).ti r.toNat
  have n1 := near_bd (x := S.r + d) (rows0 h)
  rw [j1, j2, j3, i1, i2, i3, Int.zero_mul, Int.zero_mul, Int.add_zero, Int.add_zero, Int.one_mul, Int.one_mul, Int.toNat_of_nonneg hd, Int.toNat_of_nonneg hr, near_in h.c0 h.c1, near_in n1.1 n1.2]
  exact ⟨rfl, rfl, rfl⟩
theorem near_le0 {x n : Int} (h : x ≤ 0) (hn : 1 ≤ n) : nearI x n = 0 := by
  unfold nearI
  repeat' split
  all_goals omega
theorem near_le {x n : Int} (h : 0 ≤ x) : nearI x n ≤ x := by
  unfold nearI
  repeat' split
  all_goals omega
theorem near_min {x n : Int} (h : 0 ≤ x) (hn : 1 ≤ n) : nearI x n = if n - 1 < x then n - 1 else x := by
  unfold nearI
  repeat' split
  all_goals omega
theorem back_plain {m : Nat} {fr : Int} {S : Tm} (h : TI fr m S) {d r : Int} (hd : S.r ≤ d) (hr : S.c ≤ r) : (feedT m fr S (bytesL (bkV d r))).r = 0 ∧ (feedT m fr S (bytesL (bkV d r))).c = 0 ∧ (feedT m fr S (bytesL (bkV d r))).l = S.l := by
  have a0 := h.r0
  have a1 := h.c0
  have a2 := rows0 h
  have a3 := cols0 h
  unfold bkV
  rw [bytesL_append, feedT_append]
  obtain ⟨i1, i2, i3⟩ := rep_feed (b := 65) (dr := -1) (dc := 0) (by decide) tw65 (by decide) (by decide) h d.toNat
  obtain ⟨j1, j2, j3⟩ := rep_feed (b := 68) (dr := 0) (dc := -1) (by decide) tw68 (by decide) (by decide) (tp_feed (bytesL (rep (bC 65) d.toNat)) h (bytesL_range _)).ti r.toNat
  rw [j1, j2, j3, i1, i2, i3, Int.zero_mul, Int.zero_mul, Int.add_zero, Int.add_zero, Int.toNat_of_nonneg (show 0 ≤ d by omega), Int.toNat_of_nonneg (show 0 ≤ r by omega), near_in h.c0 h.c1]
  have k1 : nearI (S.r + -1 * d) S.l.length = 0 := near_le0 (by omega) a2
  have k2 : nearI (S.c + -1 * r) (nC S.l) = 0 := near_le0 (by omega) a3
  rw [k1, k2, near_in (Int.le_refl 0) (by omega)]
  exact ⟨rfl, rfl, rfl⟩
def m1S (a b d r : Int) : Tm := feedT 50 0 (newT a b 50) (bytesL (thV d r))
def m2S (a b d r : Int) : Tm := feedT 50 0 (m1S a b d r) (bytesL (bkV d r))
def annRw (keep : List Nat) (slot : Nat) (N : Int) : Ann Unit where
  α := Int
  φ _ i := 0 ≤ i ∧ i ≤ N
  μ _ i := (N - i).toNat
  get st := getI st.tm slot
  f st i := tmpl keep [(slot, .v (.int .i64 i))] [] st
def tabM12 : List (Nat × ACon Unit) := (14, lcSRows) :: tabL12
theorem tabM12_ok : LCs Tryd.prog tabM12 := ⟨ok_sRows, tabL12_ok⟩
noncomputable def cfgM (a b d r : Int) (u1 v1 u2 v2 : Int → ByteArray) (S1 S2 : Tm) : Cfg Unit := allCfg Tryd.prog [] tabM12 0
  [(643, mvI u1 v1 11 [1, 2, 3, 6, 7] d), (963, mvI u2 v2 12 [1, 2, 3, 6, 7] r), (1604, annRw [1, 2, 3, 6, 13, 15, 17] 18 a), (1799, annRw [1, 2, 3, 6, 13, 15, 17, 18] 19 b)]
  [(322, annJ [1, 2, 3, 6, 7] [(49, .v (.bool false))] 7 (a.toNat + 1) 0 50 0 (newT a b 50)), (1222, annJ [1, 2, 3, 6, 7, 10] [] 7 (a.toNat + 1) 0 50 0 S1), (1350, annJ [1, 2, 3, 6, 7, 13] [] 7 (a.toNat + 1) 0 50 0 S2)]
theorem cfgM_ok (a b d r : Int) (u1 v1 u2 v2 : Int → ByteArray) (S1 S2 : Tm) (I : Sym.Inv Unit) : CfgOk I (cfgM a b d r u1 v1 u2 v2 S1 S2) := allCfg_ok mixed trivial tabM12_ok
set_option maxHeartbeats 4000000 in
theorem run_moves (a b d r : Int) (u1 v1 u2 v2 : Int → ByteArray) (S1 S2 : Tm) (g1 : u1 = thU d) (g2 : v1 = bkU d) (g3 : u2 = thV d) (g4 : v2 = bkV d) (g5 : S1 = m1S a b d r) (g6 : S2 = m2S a b d r) : Sym.Ask (bodyK Tryd.prog (run (cfgM a b d r u1 v1 u2 v2 S1 S2) 100) Tryd.f4 [.a [.v (.int .i64 a), .v (.int .i64 b)], .v (.int .i64 d), .v (.int .i64 r)] [] (fun y _ => y = .v (.bool true))) := by
  refine kcast (B := (br (decide (a ≥ (1 : Int))) (br (decide (a ≤ (30 : Int))) (br (decide (b ≥ (1 : Int))) (br (!decide (b ≤ (40 : Int))) (true = true ∧ SV.v (Value.bool true) = SV.v (Value.bool true)) (br (decide (d < (0 : Int))) (true = true ∧
   SV.v (Value.bool true) = SV.v (Value.bool true)) (br (decide (d > (60 : Int))) (true = true ∧ SV.v (Value.bool true) = SV.v (Value.bool true)) (br (decide (r < (0 : Int))) (true = true ∧ SV.v (Value.bool true) = SV.v (Value.bool true)) (br (decide (r
   > (60 : Int))) (true = true ∧ SV.v (Value.bool true) = SV.v (Value.bool true)) (true = true ∧ (mayB a b = true ∧ II (0 : Int) ≤ (50 : Int) ∧ II (50 : Int) ≤ (4096 : Int)) ∧ (Tm.mk (0 : Int) (0 : Int) (newL a.toNat b.toNat blankC) (a.toNat + (1 :
   Nat)) false false false (0 : Int) false (LI [(0 : Int), (0 : Int), (0 : Int), (0 : Int), (0 : Int), (0 : Int), (0 : Int), (0 : Int), (0 : Int), (0 : Int), (0 : Int), (0 : Int), (0 : Int), (0 : Int), (0 : Int), (0 : Int), (0 : Int), (0 : Int), (0 :
   Int), (0 : Int), (0 : Int), (0 : Int), (0 : Int), (0 : Int), (0 : Int), (0 : Int), (0 : Int), (0 : Int), (0 : Int), (0 : Int), (0 : Int), (0 : Int), (0 : Int), (0 : Int), (0 : Int), (0 : Int), (0 : Int), (0 : Int), (0 : Int), (0 : Int), (0 : Int), (0
   : Int), (0 : Int), (0 : Int), (0 : Int), (0 : Int), (0 : Int), (0 : Int), (0 : Int), (0 : Int)]) (0 : Nat) (LI []) = newT a b (50 : Int) ∧ (SV.v (Value.int IntKind.i64 d) = SV.v (Value.int IntKind.i64 d) ∧ SV.v (Value.int IntKind.i64 r) = SV.v
   (Value.int IntKind.i64 r) ∧ SV.p (0 : Nat) (0 : Nat) = SV.p (0 : Nat) (0 : Nat) ∧ SV.v (Value.bool false) = SV.v (Value.bool false) ∧ SV.p (13 : Nat) (0 : Nat) = SV.p (13 : Nat) (0 : Nat) ∧ SV.v (Value.bool false) = SV.v (Value.bool false) ∧ True) ∧
   (SV.v (Value.int IntKind.i64 a) = SV.v (Value.int IntKind.i64 a) ∧ SV.v (Value.int IntKind.i64 b) = SV.v (Value.int IntKind.i64 b) ∧ True) ∧ (SV.v (Value.int IntKind.i64 a) = SV.v (Value.int IntKind.i64 a) ∧ SV.v (Value.int IntKind.i64 b) = SV.v
   (Value.int IntKind.i64 b) ∧ True) ∧ True ∧ True ∧ True ∧ (SV.h (6 : Nat) [a.toNat + (1 : Nat), (0 : Nat)] = SV.h (6 : Nat) [a.toNat + (1 : Nat), (0 : Nat)] ∧ True) ∧ (a.toNat + (1 : Nat) = a.toNat + (1 : Nat) ∧ a.toNat + (1 : Nat) = a.toNat + (1 :
   Nat) ∧ newL a.toNat b.toNat blankC = newL a.toNat b.toNat blankC) ∧ True ∧ True ∧ (SV.v (Value.int IntKind.i64 (0 : Int)) = SV.v (Value.int IntKind.i64 (0 : Int)) ∧ SV.v (Value.int IntKind.i64 (0 : Int)) = SV.v (Value.int IntKind.i64 (0 : Int)) ∧
   SV.v (Value.bool false) = SV.v (Value.bool false) ∧ SV.p (5 : Nat) (0 : Nat) = SV.p (5 : Nat) (0 : Nat) ∧ True) ∧ ((50 : Nat) = (50 : Nat) ∧ (0 : Nat) = (0 : Nat) ∧ LI [(0 : Int), (0 : Int), (0 : Int), (0 : Int), (0 : Int), (0 : Int), (0 : Int), (0 :
   Int), (0 : Int), (0 : Int), (0 : Int), (0 : Int), (0 : Int), (0 : Int), (0 : Int), (0 : Int), (0 : Int), (0 : Int), (0 : Int), (0 : Int), (0 : Int), (0 : Int), (0 : Int), (0 : Int), (0 : Int), (0 : Int), (0 : Int), (0 : Int), (0 : Int), (0 : Int), (0
   : Int), (0 : Int), (0 : Int), (0 : Int), (0 : Int), (0 : Int), (0 : Int), (0 : Int), (0 : Int), (0 : Int), (0 : Int), (0 : Int), (0 : Int), (0 : Int), (0 : Int), (0 : Int), (0 : Int), (0 : Int), (0 : Int), (0 : Int)] = LI [(0 : Int), (0 : Int), (0 :
   Int), (0 : Int), (0 : Int), (0 : Int), (0 : Int), (0 : Int), (0 : Int), (0 : Int), (0 : Int), (0 : Int), (0 : Int), (0 : Int), (0 : Int), (0 : Int), (0 : Int), (0 : Int), (0 : Int), (0 : Int), (0 : Int), (0 : Int), (0 : Int), (0 : Int), (0 : Int), (0
   : Int), (0 : Int), (0 : Int), (0 : Int), (0 : Int), (0 : Int), (0 : Int), (0 : Int), (0 : Int), (0 : Int), (0 : Int), (0 : Int), (0 : Int), (0 : Int), (0 : Int), (0 : Int), (0 : Int), (0 : Int), (0 : Int), (0 : Int), (0 : Int), (0 : Int), (0 : Int),
   (0 : Int), (0 : Int)]) ∧ (SV.h (10 : Nat) [(0 : Nat), (0 : Nat)] = SV.h (10 : Nat) [(0 : Nat), (0 : Nat)] ∧ SV.v (Value.int IntKind.i64 (0 : Int)) = SV.v (Value.int IntKind.i64 (0 : Int)) ∧ SV.v (Value.int IntKind.i64 (0 : Int)) = SV.v (Value.int
   IntKind.i64 (0 : Int)) ∧ SV.v (Value.bool false) = SV.v (Value.bool false) ∧ True) ∧ (SV.p (9 : Nat) (0 : Nat) = SV.p (9 : Nat) (0 : Nat) ∧ SV.p (11 : Nat) (0 : Nat) = SV.p (11 : Nat) (0 : Nat) ∧ SV.v (Value.bool false) = SV.v (Value.bool false) ∧
   SV.v (Value.bool false) = SV.v (Value.bool false) ∧ SV.v (Value.bool false) = SV.v (Value.bool false) ∧ SV.h (14 : Nat) [(0 : Nat), (0 : Nat)] = SV.h (14 : Nat) [(0 : Nat), (0 : Nat)] ∧ True) ∧ (SV.p (9 : Nat) (0 : Nat) = SV.p (9 : Nat) (0 : Nat) ∧
   SV.p (11 : Nat) (0 : Nat) = SV.p (11 : Nat) (0 : Nat) ∧ SV.p (12 : Nat) (0 : Nat) = SV.p (12 : Nat) (0 : Nat) ∧ True) ∧ ((0 : Nat) = (LI []).length ∧ (0 : Nat) = (0 : Nat) ∧ LI [] = LI []) ∧ True) ∧ ∀ (x : Tm), x = newT a b (50 : Int) → (II (0 : Int)
   ≤ (0 : Int) ∧ (0 : Int) ≤ d) ∧ ((SV.v (Value.int IntKind.i64 d) = SV.v (Value.int IntKind.i64 d) ∧ SV.v (Value.int IntKind.i64 r) = SV.v (Value.int IntKind.i64 r) ∧ SV.p (0 : Nat) (0 : Nat) = SV.p (0 : Nat) (0 : Nat) ∧ SV.v (Value.bool false) = SV.v
   (Value.bool false) ∧ SV.p (13 : Nat) (0 : Nat) = SV.p (13 : Nat) (0 : Nat) ∧ SV.v (Value.string (ByteArray.mk #[])) = SV.v (Value.string (u1 (0 : Int))) ∧ SV.v (Value.string (ByteArray.mk #[])) = SV.v (Value.string (v1 (0 : Int))) ∧ SV.v (Value.int
   IntKind.i64 (0 : Int)) = SV.v (Value.int IntKind.i64 (0 : Int)) ∧ True) ∧ (SV.v (Value.int IntKind.i64 a) = SV.v (Value.int IntKind.i64 a) ∧ SV.v (Value.int IntKind.i64 b) = SV.v (Value.int IntKind.i64 b) ∧ True) ∧ (SV.v (Value.int IntKind.i64 a) =
   SV.v (Value.int IntKind.i64 a) ∧ SV.v (Value.int IntKind.i64 b) = SV.v (Value.int IntKind.i64 b) ∧ True) ∧ True ∧ True ∧ True ∧ (SV.h (6 : Nat) [a.toNat + (1 : Nat), (0 : Nat)] = SV.h (6 : Nat) [a.toNat + (1 : Nat), (0 : Nat)] ∧ True) ∧ (a.toNat + (1
   : Nat) = a.toNat + (1 : Nat) ∧ x.ep = x.ep ∧ x.l = x.l) ∧ True ∧ True ∧ (SV.v (Value.int IntKind.i64 x.r) = SV.v (Value.int IntKind.i64 x.r) ∧ SV.v (Value.int IntKind.i64 x.c) = SV.v (Value.int IntKind.i64 x.c) ∧ SV.v (Value.bool false) = SV.v
   (Value.bool false) ∧ SV.p (5 : Nat) (0 : Nat) = SV.p (5 : Nat) (0 : Nat) ∧ True) ∧ ((50 : Nat) = (50 : Nat) ∧ (0 : Nat) = (0 : Nat) ∧ x.xs = x.xs) ∧ (SV.h (10 : Nat) [(0 : Nat), (0 : Nat)] = SV.h (10 : Nat) [(0 : Nat), (0 : Nat)] ∧ SV.v (Value.int
   IntKind.i64 (0 : Int)) = SV.v (Value.int IntKind.i64 (0 : Int)) ∧ SV.v (Value.int IntKind.i64 x.n) = SV.v (Value.int IntKind.i64 x.n) ∧ SV.v (Value.bool x.ov) = SV.v (Value.bool x.ov) ∧ True) ∧ (SV.p (9 : Nat) (0 : Nat) = SV.p (9 : Nat) (0 : Nat) ∧
   SV.p (11 : Nat) (0 : Nat) = SV.p (11 : Nat) (0 : Nat) ∧ SV.v (Value.bool x.G) = SV.v (Value.bool x.G) ∧ SV.v (Value.bool x.K) = SV.v (Value.bool x.K) ∧ SV.v (Value.bool x.Ho) = SV.v (Value.bool x.Ho) ∧ SV.h (14 : Nat) [x.pe, (0 : Nat)] = SV.h (14 :
   Nat) [x.pe, (0 : Nat)] ∧ True) ∧ (SV.p (9 : Nat) (0 : Nat) = SV.p (9 : Nat) (0 : Nat) ∧ SV.p (11 : Nat) (0 : Nat) = SV.p (11 : Nat) (0 : Nat) ∧ SV.p (12 : Nat) (0 : Nat) = SV.p (12 : Nat) (0 : Nat) ∧ True) ∧ (x.pl.length = x.pl.length ∧ x.pe = x.pe ∧
   x.pl = x.pl) ∧ True) ∧ ∀ (x_1 : Int), (0 : Int) ≤ x_1 ∧ x_1 ≤ d → br (decide (x_1 < d)) (rq (((u1 x_1).size + (2 : Nat)).ble (9223372036854775807 : Nat)) (rq (((v1 x_1).size + (2 : Nat)).ble (9223372036854775807 : Nat)) (((0 : Int) ≤ IntKind.i64.wrap
   (x_1 + (1 : Int)) ∧ IntKind.i64.wrap (x_1 + (1 : Int)) ≤ d) ∧ ((SV.v (Value.int IntKind.i64 d) = SV.v (Value.int IntKind.i64 d) ∧ SV.v (Value.int IntKind.i64 r) = SV.v (Value.int IntKind.i64 r) ∧ SV.p (0 : Nat) (0 : Nat) = SV.p (0 : Nat) (0 : Nat) ∧
   SV.v (Value.bool false) = SV.v (Value.bool false) ∧ SV.p (13 : Nat) (0 : Nat) = SV.p (13 : Nat) (0 : Nat) ∧ SV.v (Value.string (u1 x_1 ++ ByteArray.mk #[(27 : UInt8), (66 : UInt8)])) = SV.v (Value.string (u1 (IntKind.i64.wrap (x_1 + (1 : Int))))) ∧
   SV.v (Value.string (v1 x_1 ++ ByteArray.mk #[(27 : UInt8), (65 : UInt8)])) = SV.v (Value.string (v1 (IntKind.i64.wrap (x_1 + (1 : Int))))) ∧ SV.v (Value.int IntKind.i64 (IntKind.i64.wrap (x_1 + (1 : Int)))) = SV.v (Value.int IntKind.i64
   (IntKind.i64.wrap (x_1 + (1 : Int)))) ∧ True) ∧ (SV.v (Value.int IntKind.i64 a) = SV.v (Value.int IntKind.i64 a) ∧ SV.v (Value.int IntKind.i64 b) = SV.v (Value.int IntKind.i64 b) ∧ True) ∧ (SV.v (Value.int IntKind.i64 a) = SV.v (Value.int IntKind.i64
   a) ∧ SV.v (Value.int IntKind.i64 b) = SV.v (Value.int IntKind.i64 b) ∧ True) ∧ True ∧ True ∧ True ∧ (SV.h (6 : Nat) [a.toNat + (1 : Nat), (0 : Nat)] = SV.h (6 : Nat) [a.toNat + (1 : Nat), (0 : Nat)] ∧ True) ∧ (a.toNat + (1 : Nat) = a.toNat + (1 :
   Nat) ∧ x.ep = x.ep ∧ x.l = x.l) ∧ True ∧ True ∧ (SV.v (Value.int IntKind.i64 x.r) = SV.v (Value.int IntKind.i64 x.r) ∧ SV.v (Value.int IntKind.i64 x.c) = SV.v (Value.int IntKind.i64 x.c) ∧ SV.v (Value.bool false) = SV.v (Value.bool false) ∧ SV.p (5 :
   Nat) (0 : Nat) = SV.p (5 : Nat) (0 : Nat) ∧ True) ∧ ((50 : Nat) = (50 : Nat) ∧ (0 : Nat) = (0 : Nat) ∧ x.xs = x.xs) ∧ (SV.h (10 : Nat) [(0 : Nat), (0 : Nat)] = SV.h (10 : Nat) [(0 : Nat), (0 : Nat)] ∧ SV.v (Value.int IntKind.i64 (0 : Int)) = SV.v
   (Value.int IntKind.i64 (0 : Int)) ∧ SV.v (Value.int IntKind.i64 x.n) = SV.v (Value.int IntKind.i64 x.n) ∧ SV.v (Value.bool x.ov) = SV.v (Value.bool x.ov) ∧ True) ∧ (SV.p (9 : Nat) (0 : Nat) = SV.p (9 : Nat) (0 : Nat) ∧ SV.p (11 : Nat) (0 : Nat) =
   SV.p (11 : Nat) (0 : Nat) ∧ SV.v (Value.bool x.G) = SV.v (Value.bool x.G) ∧ SV.v (Value.bool x.K) = SV.v (Value.bool x.K) ∧ SV.v (Value.bool x.Ho) = SV.v (Value.bool x.Ho) ∧ SV.h (14 : Nat) [x.pe, (0 : Nat)] = SV.h (14 : Nat) [x.pe, (0 : Nat)] ∧
   True) ∧ (SV.p (9 : Nat) (0 : Nat) = SV.p (9 : Nat) (0 : Nat) ∧ SV.p (11 : Nat) (0 : Nat) = SV.p (11 : Nat) (0 : Nat) ∧ SV.p (12 : Nat) (0 : Nat) = SV.p (12 : Nat) (0 : Nat) ∧ True) ∧ (x.pl.length = x.pl.length ∧ x.pe = x.pe ∧ x.pl = x.pl) ∧ True) ∧
   (d - IntKind.i64.wrap (x_1 + (1 : Int))).toNat < (d - x_1).toNat))) ((II (0 : Int) ≤ (0 : Int) ∧ (0 : Int) ≤ r) ∧ ((SV.v (Value.int IntKind.i64 d) = SV.v (Value.int IntKind.i64 d) ∧ SV.v (Value.int IntKind.i64 r) = SV.v (Value.int IntKind.i64 r) ∧
   SV.p (0 : Nat) (0 : Nat) = SV.p (0 : Nat) (0 : Nat) ∧ SV.v (Value.bool false) = SV.v (Value.bool false) ∧ SV.p (13 : Nat) (0 : Nat) = SV.p (13 : Nat) (0 : Nat) ∧ SV.v (Value.string (u1 x_1)) = SV.v (Value.string (u2 (0 : Int))) ∧ SV.v (Value.string
   (v1 x_1)) = SV.v (Value.string (v2 (0 : Int))) ∧ SV.v (Value.int IntKind.i64 (0 : Int)) = SV.v (Value.int IntKind.i64 (0 : Int)) ∧ True) ∧ (SV.v (Value.int IntKind.i64 a) = SV.v (Value.int IntKind.i64 a) ∧ SV.v (Value.int IntKind.i64 b) = SV.v
   (Value.int IntKind.i64 b) ∧ True) ∧ (SV.v (Value.int IntKind.i64 a) = SV.v (Value.int IntKind.i64 a) ∧ SV.v (Value.int IntKind.i64 b) = SV.v (Value.int IntKind.i64 b) ∧ True) ∧ True ∧ True ∧ True ∧ (SV.h (6 : Nat) [a.toNat + (1 : Nat), (0 : Nat)] =
   SV.h (6 : Nat) [a.toNat + (1 : Nat), (0 : Nat)] ∧ True) ∧ (a.toNat + (1 : Nat) = a.toNat + (1 : Nat) ∧ x.ep = x.ep ∧ x.l = x.l) ∧ True ∧ True ∧ (SV.v (Value.int IntKind.i64 x.r) = SV.v (Value.int IntKind.i64 x.r) ∧ SV.v (Value.int IntKind.i64 x.c) =
   SV.v (Value.int IntKind.i64 x.c) ∧ SV.v (Value.bool false) = SV.v (Value.bool false) ∧ SV.p (5 : Nat) (0 : Nat) = SV.p (5 : Nat) (0 : Nat) ∧ True) ∧ ((50 : Nat) = (50 : Nat) ∧ (0 : Nat) = (0 : Nat) ∧ x.xs = x.xs) ∧ (SV.h (10 : Nat) [(0 : Nat), (0 :
   Nat)] = SV.h (10 : Nat) [(0 : Nat), (0 : Nat)] ∧ SV.v (Value.int IntKind.i64 (0 : Int)) = SV.v (Value.int IntKind.i64 (0 : Int)) ∧ SV.v (Value.int IntKind.i64 x.n) = SV.v (Value.int IntKind.i64 x.n) ∧ SV.v (Value.bool x.ov) = SV.v (Value.bool x.ov) ∧
   True) ∧ (SV.p (9 : Nat) (0 : Nat) = SV.p (9 : Nat) (0 : Nat) ∧ SV.p (11 : Nat) (0 : Nat) = SV.p (11 : Nat) (0 : Nat) ∧ SV.v (Value.bool x.G) = SV.v (Value.bool x.G) ∧ SV.v (Value.bool x.K) = SV.v (Value.bool x.K) ∧ SV.v (Value.bool x.Ho) = SV.v
   (Value.bool x.Ho) ∧ SV.h (14 : Nat) [x.pe, (0 : Nat)] = SV.h (14 : Nat) [x.pe, (0 : Nat)] ∧ True) ∧ (SV.p (9 : Nat) (0 : Nat) = SV.p (9 : Nat) (0 : Nat) ∧ SV.p (11 : Nat) (0 : Nat) = SV.p (11 : Nat) (0 : Nat) ∧ SV.p (12 : Nat) (0 : Nat) = SV.p (12 :
   Nat) (0 : Nat) ∧ True) ∧ (x.pl.length = x.pl.length ∧ x.pe = x.pe ∧ x.pl = x.pl) ∧ True) ∧ ∀ (x_2 : Int), (0 : Int) ≤ x_2 ∧ x_2 ≤ r → br (decide (x_2 < r)) (rq (((u2 x_2).size + (2 : Nat)).ble (9223372036854775807 : Nat)) (rq (((v2 x_2).size + (2 :
   Nat)).ble (9223372036854775807 : Nat)) (((0 : Int) ≤ IntKind.i64.wrap (x_2 + (1 : Int)) ∧ IntKind.i64.wrap (x_2 + (1 : Int)) ≤ r) ∧ ((SV.v (Value.int IntKind.i64 d) = SV.v (Value.int IntKind.i64 d) ∧ SV.v (Value.int IntKind.i64 r) = SV.v (Value.int
   IntKind.i64 r) ∧ SV.p (0 : Nat) (0 : Nat) = SV.p (0 : Nat) (0 : Nat) ∧ SV.v (Value.bool false) = SV.v (Value.bool false) ∧ SV.p (13 : Nat) (0 : Nat) = SV.p (13 : Nat) (0 : Nat) ∧ SV.v (Value.string (u2 x_2 ++ ByteArray.mk #[(27 : UInt8), (67 :
   UInt8)])) = SV.v (Value.string (u2 (IntKind.i64.wrap (x_2 + (1 : Int))))) ∧ SV.v (Value.string (v2 x_2 ++ ByteArray.mk #[(27 : UInt8), (68 : UInt8)])) = SV.v (Value.string (v2 (IntKind.i64.wrap (x_2 + (1 : Int))))) ∧ SV.v (Value.int IntKind.i64
   (IntKind.i64.wrap (x_2 + (1 : Int)))) = SV.v (Value.int IntKind.i64 (IntKind.i64.wrap (x_2 + (1 : Int)))) ∧ True) ∧ (SV.v (Value.int IntKind.i64 a) = SV.v (Value.int IntKind.i64 a) ∧ SV.v (Value.int IntKind.i64 b) = SV.v (Value.int IntKind.i64 b) ∧
   True) ∧ (SV.v (Value.int IntKind.i64 a) = SV.v (Value.int IntKind.i64 a) ∧ SV.v (Value.int IntKind.i64 b) = SV.v (Value.int IntKind.i64 b) ∧ True) ∧ True ∧ True ∧ True ∧ (SV.h (6 : Nat) [a.toNat + (1 : Nat), (0 : Nat)] = SV.h (6 : Nat) [a.toNat + (1
   : Nat), (0 : Nat)] ∧ True) ∧ (a.toNat + (1 : Nat) = a.toNat + (1 : Nat) ∧ x.ep = x.ep ∧ x.l = x.l) ∧ True ∧ True ∧ (SV.v (Value.int IntKind.i64 x.r) = SV.v (Value.int IntKind.i64 x.r) ∧ SV.v (Value.int IntKind.i64 x.c) = SV.v (Value.int IntKind.i64
   x.c) ∧ SV.v (Value.bool false) = SV.v (Value.bool false) ∧ SV.p (5 : Nat) (0 : Nat) = SV.p (5 : Nat) (0 : Nat) ∧ True) ∧ ((50 : Nat) = (50 : Nat) ∧ (0 : Nat) = (0 : Nat) ∧ x.xs = x.xs) ∧ (SV.h (10 : Nat) [(0 : Nat), (0 : Nat)] = SV.h (10 : Nat) [(0 :
   Nat), (0 : Nat)] ∧ SV.v (Value.int IntKind.i64 (0 : Int)) = SV.v (Value.int IntKind.i64 (0 : Int)) ∧ SV.v (Value.int IntKind.i64 x.n) = SV.v (Value.int IntKind.i64 x.n) ∧ SV.v (Value.bool x.ov) = SV.v (Value.bool x.ov) ∧ True) ∧ (SV.p (9 : Nat) (0 :
   Nat) = SV.p (9 : Nat) (0 : Nat) ∧ SV.p (11 : Nat) (0 : Nat) = SV.p (11 : Nat) (0 : Nat) ∧ SV.v (Value.bool x.G) = SV.v (Value.bool x.G) ∧ SV.v (Value.bool x.K) = SV.v (Value.bool x.K) ∧ SV.v (Value.bool x.Ho) = SV.v (Value.bool x.Ho) ∧ SV.h (14 :
   Nat) [x.pe, (0 : Nat)] = SV.h (14 : Nat) [x.pe, (0 : Nat)] ∧ True) ∧ (SV.p (9 : Nat) (0 : Nat) = SV.p (9 : Nat) (0 : Nat) ∧ SV.p (11 : Nat) (0 : Nat) = SV.p (11 : Nat) (0 : Nat) ∧ SV.p (12 : Nat) (0 : Nat) = SV.p (12 : Nat) (0 : Nat) ∧ True) ∧
   (x.pl.length = x.pl.length ∧ x.pe = x.pe ∧ x.pl = x.pl) ∧ True) ∧ (r - IntKind.i64.wrap (x_2 + (1 : Int))).toNat < (r - x_2).toNat))) ((true = true ∧ (TA (((), (), x.G, x.K, x.Ho, x.pe), (x.r, x.c, false, (), ()), a.toNat + (1 : Nat), RC.mk x.l
   (a.toNat + (1 : Nat)) x.ep, ((0 : Nat), (0 : Int), x.n, x.ov), OI.mk x.xs (50 : Nat) (0 : Nat), OI.mk x.pl x.pl.length x.pe) ∧ (u2 x_2).size ≤ (1099511627776 : Nat)) ∧ Tm.mk (fdX (((), (), x.G, x.K, x.Ho, x.pe), (x.r, x.c, false, (), ()), a.toNat +
   (1 : Nat), RC.mk x.l (a.toNat + (1 : Nat)) x.ep, ((0 : Nat), (0 : Int), x.n, x.ov), OI.mk x.xs (50 : Nat) (0 : Nat), OI.mk x.pl x.pl.length x.pe) (u2 x_2)).r (fdX (((), (), x.G, x.K, x.Ho, x.pe), (x.r, x.c, false, (), ()), a.toNat + (1 : Nat), RC.mk
   x.l (a.toNat + (1 : Nat)) x.ep, ((0 : Nat), (0 : Int), x.n, x.ov), OI.mk x.xs (50 : Nat) (0 : Nat), OI.mk x.pl x.pl.length x.pe) (u2 x_2)).c (fdX (((), (), x.G, x.K, x.Ho, x.pe), (x.r, x.c, false, (), ()), a.toNat + (1 : Nat), RC.mk x.l (a.toNat + (1
   : Nat)) x.ep, ((0 : Nat), (0 : Int), x.n, x.ov), OI.mk x.xs (50 : Nat) (0 : Nat), OI.mk x.pl x.pl.length x.pe) (u2 x_2)).l (fdX (((), (), x.G, x.K, x.Ho, x.pe), (x.r, x.c, false, (), ()), a.toNat + (1 : Nat), RC.mk x.l (a.toNat + (1 : Nat)) x.ep, ((0
   : Nat), (0 : Int), x.n, x.ov), OI.mk x.xs (50 : Nat) (0 : Nat), OI.mk x.pl x.pl.length x.pe) (u2 x_2)).ep (fdX (((), (), x.G, x.K, x.Ho, x.pe), (x.r, x.c, false, (), ()), a.toNat + (1 : Nat), RC.mk x.l (a.toNat + (1 : Nat)) x.ep, ((0 : Nat), (0 :
   Int), x.n, x.ov), OI.mk x.xs (50 : Nat) (0 : Nat), OI.mk x.pl x.pl.length x.pe) (u2 x_2)).G (fdX (((), (), x.G, x.K, x.Ho, x.pe), (x.r, x.c, false, (), ()), a.toNat + (1 : Nat), RC.mk x.l (a.toNat + (1 : Nat)) x.ep, ((0 : Nat), (0 : Int), x.n, x.ov),
   OI.mk x.xs (50 : Nat) (0 : Nat), OI.mk x.pl x.pl.length x.pe) (u2 x_2)).K (fdX (((), (), x.G, x.K, x.Ho, x.pe), (x.r, x.c, false, (), ()), a.toNat + (1 : Nat), RC.mk x.l (a.toNat + (1 : Nat)) x.ep, ((0 : Nat), (0 : Int), x.n, x.ov), OI.mk x.xs (50 :
   Nat) (0 : Nat), OI.mk x.pl x.pl.length x.pe) (u2 x_2)).Ho (fdX (((), (), x.G, x.K, x.Ho, x.pe), (x.r, x.c, false, (), ()), a.toNat + (1 : Nat), RC.mk x.l (a.toNat + (1 : Nat)) x.ep, ((0 : Nat), (0 : Int), x.n, x.ov), OI.mk x.xs (50 : Nat) (0 : Nat),
   OI.mk x.pl x.pl.length x.pe) (u2 x_2)).n (fdX (((), (), x.G, x.K, x.Ho, x.pe), (x.r, x.c, false, (), ()), a.toNat + (1 : Nat), RC.mk x.l (a.toNat + (1 : Nat)) x.ep, ((0 : Nat), (0 : Int), x.n, x.ov), OI.mk x.xs (50 : Nat) (0 : Nat), OI.mk x.pl
   x.pl.length x.pe) (u2 x_2)).ov (fdX (((), (), x.G, x.K, x.Ho, x.pe), (x.r, x.c, false, (), ()), a.toNat + (1 : Nat), RC.mk x.l (a.toNat + (1 : Nat)) x.ep, ((0 : Nat), (0 : Int), x.n, x.ov), OI.mk x.xs (50 : Nat) (0 : Nat), OI.mk x.pl x.pl.length
   x.pe) (u2 x_2)).xs (fdX (((), (), x.G, x.K, x.Ho, x.pe), (x.r, x.c, false, (), ()), a.toNat + (1 : Nat), RC.mk x.l (a.toNat + (1 : Nat)) x.ep, ((0 : Nat), (0 : Int), x.n, x.ov), OI.mk x.xs (50 : Nat) (0 : Nat), OI.mk x.pl x.pl.length x.pe) (u2
   x_2)).pe (fdX (((), (), x.G, x.K, x.Ho, x.pe), (x.r, x.c, false, (), ()), a.toNat + (1 : Nat), RC.mk x.l (a.toNat + (1 : Nat)) x.ep, ((0 : Nat), (0 : Int), x.n, x.ov), OI.mk x.xs (50 : Nat) (0 : Nat), OI.mk x.pl x.pl.length x.pe) (u2 x_2)).pl = S1 ∧
   (SV.v (Value.int IntKind.i64 d) = SV.v (Value.int IntKind.i64 d) ∧ SV.v (Value.int IntKind.i64 r) = SV.v (Value.int IntKind.i64 r) ∧ SV.p (0 : Nat) (0 : Nat) = SV.p (0 : Nat) (0 : Nat) ∧ SV.v (Value.bool false) = SV.v (Value.bool false) ∧ SV.p (13 :
   Nat) (0 : Nat) = SV.p (13 : Nat) (0 : Nat) ∧ SV.v (Value.string (v2 x_2)) = SV.v (Value.string (v2 x_2)) ∧ True) ∧ (SV.v (Value.int IntKind.i64 a) = SV.v (Value.int IntKind.i64 a) ∧ SV.v (Value.int IntKind.i64 b) = SV.v (Value.int IntKind.i64 b) ∧
   True) ∧ (SV.v (Value.int IntKind.i64 a) = SV.v (Value.int IntKind.i64 a) ∧ SV.v (Value.int IntKind.i64 b) = SV.v (Value.int IntKind.i64 b) ∧ True) ∧ True ∧ True ∧ True ∧ (SV.h (6 : Nat) [a.toNat + (1 : Nat), (0 : Nat)] = SV.h (6 : Nat) [a.toNat + (1
   : Nat), (0 : Nat)] ∧ True) ∧ (a.toNat + (1 : Nat) = a.toNat + (1 : Nat) ∧ (fdX (((), (), x.G, x.K, x.Ho, x.pe), (x.r, x.c, false, (), ()), a.toNat + (1 : Nat), RC.mk x.l (a.toNat + (1 : Nat)) x.ep, ((0 : Nat), (0 : Int), x.n, x.ov), OI.mk x.xs (50 :
   Nat) (0 : Nat), OI.mk x.pl x.pl.length x.pe) (u2 x_2)).ep = (fdX (((), (), x.G, x.K, x.Ho, x.pe), (x.r, x.c, false, (), ()), a.toNat + (1 : Nat), RC.mk x.l (a.toNat + (1 : Nat)) x.ep, ((0 : Nat), (0 : Int), x.n, x.ov), OI.mk x.xs (50 : Nat) (0 :
   Nat), OI.mk x.pl x.pl.length x.pe) (u2 x_2)).ep ∧ (fdX (((), (), x.G, x.K, x.Ho, x.pe), (x.r, x.c, false, (), ()), a.toNat + (1 : Nat), RC.mk x.l (a.toNat + (1 : Nat)) x.ep, ((0 : Nat), (0 : Int), x.n, x.ov), OI.mk x.xs (50 : Nat) (0 : Nat), OI.mk
   x.pl x.pl.length x.pe) (u2 x_2)).l = (fdX (((), (), x.G, x.K, x.Ho, x.pe), (x.r, x.c, false, (), ()), a.toNat + (1 : Nat), RC.mk x.l (a.toNat + (1 : Nat)) x.ep, ((0 : Nat), (0 : Int), x.n, x.ov), OI.mk x.xs (50 : Nat) (0 : Nat), OI.mk x.pl
   x.pl.length x.pe) (u2 x_2)).l) ∧ True ∧ True ∧ (SV.v (Value.int IntKind.i64 (fdX (((), (), x.G, x.K, x.Ho, x.pe), (x.r, x.c, false, (), ()), a.toNat + (1 : Nat), RC.mk x.l (a.toNat + (1 : Nat)) x.ep, ((0 : Nat), (0 : Int), x.n, x.ov), OI.mk x.xs (50
   : Nat) (0 : Nat), OI.mk x.pl x.pl.length x.pe) (u2 x_2)).r) = SV.v (Value.int IntKind.i64 (fdX (((), (), x.G, x.K, x.Ho, x.pe), (x.r, x.c, false, (), ()), a.toNat + (1 : Nat), RC.mk x.l (a.toNat + (1 : Nat)) x.ep, ((0 : Nat), (0 : Int), x.n, x.ov),
   OI.mk x.xs (50 : Nat) (0 : Nat), OI.mk x.pl x.pl.length x.pe) (u2 x_2)).r) ∧ SV.v (Value.int IntKind.i64 (fdX (((), (), x.G, x.K, x.Ho, x.pe), (x.r, x.c, false, (), ()), a.toNat + (1 : Nat), RC.mk x.l (a.toNat + (1 : Nat)) x.ep, ((0 : Nat), (0 :
   Int), x.n, x.ov), OI.mk x.xs (50 : Nat) (0 : Nat), OI.mk x.pl x.pl.length x.pe) (u2 x_2)).c) = SV.v (Value.int IntKind.i64 (fdX (((), (), x.G, x.K, x.Ho, x.pe), (x.r, x.c, false, (), ()), a.toNat + (1 : Nat), RC.mk x.l (a.toNat + (1 : Nat)) x.ep, ((0
   : Nat), (0 : Int), x.n, x.ov), OI.mk x.xs (50 : Nat) (0 : Nat), OI.mk x.pl x.pl.length x.pe) (u2 x_2)).c) ∧ SV.v (Value.bool false) = SV.v (Value.bool false) ∧ SV.p (5 : Nat) (0 : Nat) = SV.p (5 : Nat) (0 : Nat) ∧ True) ∧ ((50 : Nat) = (50 : Nat) ∧
   (0 : Nat) = (0 : Nat) ∧ (fdX (((), (), x.G, x.K, x.Ho, x.pe), (x.r, x.c, false, (), ()), a.toNat + (1 : Nat), RC.mk x.l (a.toNat + (1 : Nat)) x.ep, ((0 : Nat), (0 : Int), x.n, x.ov), OI.mk x.xs (50 : Nat) (0 : Nat), OI.mk x.pl x.pl.length x.pe) (u2
   x_2)).xs = (fdX (((), (), x.G, x.K, x.Ho, x.pe), (x.r, x.c, false, (), ()), a.toNat + (1 : Nat), RC.mk x.l (a.toNat + (1 : Nat)) x.ep, ((0 : Nat), (0 : Int), x.n, x.ov), OI.mk x.xs (50 : Nat) (0 : Nat), OI.mk x.pl x.pl.length x.pe) (u2 x_2)).xs) ∧
   (SV.h (10 : Nat) [(0 : Nat), (0 : Nat)] = SV.h (10 : Nat) [(0 : Nat), (0 : Nat)] ∧ SV.v (Value.int IntKind.i64 (0 : Int)) = SV.v (Value.int IntKind.i64 (0 : Int)) ∧ SV.v (Value.int IntKind.i64 (fdX (((), (), x.G, x.K, x.Ho, x.pe), (x.r, x.c, false,
   (), ()), a.toNat + (1 : Nat), RC.mk x.l (a.toNat + (1 : Nat)) x.ep, ((0 : Nat), (0 : Int), x.n, x.ov), OI.mk x.xs (50 : Nat) (0 : Nat), OI.mk x.pl x.pl.length x.pe) (u2 x_2)).n) = SV.v (Value.int IntKind.i64 (fdX (((), (), x.G, x.K, x.Ho, x.pe),
   (x.r, x.c, false, (), ()), a.toNat + (1 : Nat), RC.mk x.l (a.toNat + (1 : Nat)) x.ep, ((0 : Nat), (0 : Int), x.n, x.ov), OI.mk x.xs (50 : Nat) (0 : Nat), OI.mk x.pl x.pl.length x.pe) (u2 x_2)).n) ∧ SV.v (Value.bool (fdX (((), (), x.G, x.K, x.Ho,
   x.pe), (x.r, x.c, false, (), ()), a.toNat + (1 : Nat), RC.mk x.l (a.toNat + (1 : Nat)) x.ep, ((0 : Nat), (0 : Int), x.n, x.ov), OI.mk x.xs (50 : Nat) (0 : Nat), OI.mk x.pl x.pl.length x.pe) (u2 x_2)).ov) = SV.v (Value.bool (fdX (((), (), x.G, x.K,
   x.Ho, x.pe), (x.r, x.c, false, (), ()), a.toNat + (1 : Nat), RC.mk x.l (a.toNat + (1 : Nat)) x.ep, ((0 : Nat), (0 : Int), x.n, x.ov), OI.mk x.xs (50 : Nat) (0 : Nat), OI.mk x.pl x.pl.length x.pe) (u2 x_2)).ov) ∧ True) ∧ (SV.p (9 : Nat) (0 : Nat) =
   SV.p (9 : Nat) (0 : Nat) ∧ SV.p (11 : Nat) (0 : Nat) = SV.p (11 : Nat) (0 : Nat) ∧ SV.v (Value.bool (fdX (((), (), x.G, x.K, x.Ho, x.pe), (x.r, x.c, false, (), ()), a.toNat + (1 : Nat), RC.mk x.l (a.toNat + (1 : Nat)) x.ep, ((0 : Nat), (0 : Int),
   x.n, x.ov), OI.mk x.xs (50 : Nat) (0 : Nat), OI.mk x.pl x.pl.length x.pe) (u2 x_2)).G) = SV.v (Value.bool (fdX (((), (), x.G, x.K, x.Ho, x.pe), (x.r, x.c, false, (), ()), a.toNat + (1 : Nat), RC.mk x.l (a.toNat + (1 : Nat)) x.ep, ((0 : Nat), (0 :
   Int), x.n, x.ov), OI.mk x.xs (50 : Nat) (0 : Nat), OI.mk x.pl x.pl.length x.pe) (u2 x_2)).G) ∧ SV.v (Value.bool (fdX (((), (), x.G, x.K, x.Ho, x.pe), (x.r, x.c, false, (), ()), a.toNat + (1 : Nat), RC.mk x.l (a.toNat + (1 : Nat)) x.ep, ((0 : Nat), (0
   : Int), x.n, x.ov), OI.mk x.xs (50 : Nat) (0 : Nat), OI.mk x.pl x.pl.length x.pe) (u2 x_2)).K) = SV.v (Value.bool (fdX (((), (), x.G, x.K, x.Ho, x.pe), (x.r, x.c, false, (), ()), a.toNat + (1 : Nat), RC.mk x.l (a.toNat + (1 : Nat)) x.ep, ((0 : Nat),
   (0 : Int), x.n, x.ov), OI.mk x.xs (50 : Nat) (0 : Nat), OI.mk x.pl x.pl.length x.pe) (u2 x_2)).K) ∧ SV.v (Value.bool (fdX (((), (), x.G, x.K, x.Ho, x.pe), (x.r, x.c, false, (), ()), a.toNat + (1 : Nat), RC.mk x.l (a.toNat + (1 : Nat)) x.ep, ((0 :
   Nat), (0 : Int), x.n, x.ov), OI.mk x.xs (50 : Nat) (0 : Nat), OI.mk x.pl x.pl.length x.pe) (u2 x_2)).Ho) = SV.v (Value.bool (fdX (((), (), x.G, x.K, x.Ho, x.pe), (x.r, x.c, false, (), ()), a.toNat + (1 : Nat), RC.mk x.l (a.toNat + (1 : Nat)) x.ep,
   ((0 : Nat), (0 : Int), x.n, x.ov), OI.mk x.xs (50 : Nat) (0 : Nat), OI.mk x.pl x.pl.length x.pe) (u2 x_2)).Ho) ∧ SV.h (14 : Nat) [(fdX (((), (), x.G, x.K, x.Ho, x.pe), (x.r, x.c, false, (), ()), a.toNat + (1 : Nat), RC.mk x.l (a.toNat + (1 : Nat))
   x.ep, ((0 : Nat), (0 : Int), x.n, x.ov), OI.mk x.xs (50 : Nat) (0 : Nat), OI.mk x.pl x.pl.length x.pe) (u2 x_2)).pe, (0 : Nat)] = SV.h (14 : Nat) [(fdX (((), (), x.G, x.K, x.Ho, x.pe), (x.r, x.c, false, (), ()), a.toNat + (1 : Nat), RC.mk x.l
   (a.toNat + (1 : Nat)) x.ep, ((0 : Nat), (0 : Int), x.n, x.ov), OI.mk x.xs (50 : Nat) (0 : Nat), OI.mk x.pl x.pl.length x.pe) (u2 x_2)).pe, (0 : Nat)] ∧ True) ∧ (SV.p (9 : Nat) (0 : Nat) = SV.p (9 : Nat) (0 : Nat) ∧ SV.p (11 : Nat) (0 : Nat) = SV.p
   (11 : Nat) (0 : Nat) ∧ SV.p (12 : Nat) (0 : Nat) = SV.p (12 : Nat) (0 : Nat) ∧ True) ∧ ((fdX (((), (), x.G, x.K, x.Ho, x.pe), (x.r, x.c, false, (), ()), a.toNat + (1 : Nat), RC.mk x.l (a.toNat + (1 : Nat)) x.ep, ((0 : Nat), (0 : Int), x.n, x.ov),
   OI.mk x.xs (50 : Nat) (0 : Nat), OI.mk x.pl x.pl.length x.pe) (u2 x_2)).pl.length = (fdX (((), (), x.G, x.K, x.Ho, x.pe), (x.r, x.c, false, (), ()), a.toNat + (1 : Nat), RC.mk x.l (a.toNat + (1 : Nat)) x.ep, ((0 : Nat), (0 : Int), x.n, x.ov), OI.mk
   x.xs (50 : Nat) (0 : Nat), OI.mk x.pl x.pl.length x.pe) (u2 x_2)).pl.length ∧ (fdX (((), (), x.G, x.K, x.Ho, x.pe), (x.r, x.c, false, (), ()), a.toNat + (1 : Nat), RC.mk x.l (a.toNat + (1 : Nat)) x.ep, ((0 : Nat), (0 : Int), x.n, x.ov), OI.mk x.xs
   (50 : Nat) (0 : Nat), OI.mk x.pl x.pl.length x.pe) (u2 x_2)).pe = (fdX (((), (), x.G, x.K, x.Ho, x.pe), (x.r, x.c, false, (), ()), a.toNat + (1 : Nat), RC.mk x.l (a.toNat + (1 : Nat)) x.ep, ((0 : Nat), (0 : Int), x.n, x.ov), OI.mk x.xs (50 : Nat) (0
   : Nat), OI.mk x.pl x.pl.length x.pe) (u2 x_2)).pe ∧ (fdX (((), (), x.G, x.K, x.Ho, x.pe), (x.r, x.c, false, (), ()), a.toNat + (1 : Nat), RC.mk x.l (a.toNat + (1 : Nat)) x.ep, ((0 : Nat), (0 : Int), x.n, x.ov), OI.mk x.xs (50 : Nat) (0 : Nat), OI.mk
   x.pl x.pl.length x.pe) (u2 x_2)).pl = (fdX (((), (), x.G, x.K, x.Ho, x.pe), (x.r, x.c, false, (), ()), a.toNat + (1 : Nat), RC.mk x.l (a.toNat + (1 : Nat)) x.ep, ((0 : Nat), (0 : Int), x.n, x.ov), OI.mk x.xs (50 : Nat) (0 : Nat), OI.mk x.pl
   x.pl.length x.pe) (u2 x_2)).pl) ∧ True) ∧ ∀ (x : Tm), x = S1 → true = true ∧ (true = true ∧ (TA (((), (), x.G, x.K, x.Ho, x.pe), (x.r, x.c, false, (), ()), a.toNat + (1 : Nat), RC.mk x.l (a.toNat + (1 : Nat)) x.ep, ((0 : Nat), (0 : Int), x.n, x.ov),
   OI.mk x.xs (50 : Nat) (0 : Nat), OI.mk x.pl x.pl.length x.pe) ∧ (v2 x_2).size ≤ (1099511627776 : Nat)) ∧ Tm.mk (fdX (((), (), x.G, x.K, x.Ho, x.pe), (x.r, x.c, false, (), ()), a.toNat + (1 : Nat), RC.mk x.l (a.toNat + (1 : Nat)) x.ep, ((0 : Nat), (0
   : Int), x.n, x.ov), OI.mk x.xs (50 : Nat) (0 : Nat), OI.mk x.pl x.pl.length x.pe) (v2 x_2)).r (fdX (((), (), x.G, x.K, x.Ho, x.pe), (x.r, x.c, false, (), ()), a.toNat + (1 : Nat), RC.mk x.l (a.toNat + (1 : Nat)) x.ep, ((0 : Nat), (0 : Int), x.n,
   x.ov), OI.mk x.xs (50 : Nat) (0 : Nat), OI.mk x.pl x.pl.length x.pe) (v2 x_2)).c (fdX (((), (), x.G, x.K, x.Ho, x.pe), (x.r, x.c, false, (), ()), a.toNat + (1 : Nat), RC.mk x.l (a.toNat + (1 : Nat)) x.ep, ((0 : Nat), (0 : Int), x.n, x.ov), OI.mk x.xs
   (50 : Nat) (0 : Nat), OI.mk x.pl x.pl.length x.pe) (v2 x_2)).l (fdX (((), (), x.G, x.K, x.Ho, x.pe), (x.r, x.c, false, (), ()), a.toNat + (1 : Nat), RC.mk x.l (a.toNat + (1 : Nat)) x.ep, ((0 : Nat), (0 : Int), x.n, x.ov), OI.mk x.xs (50 : Nat) (0 :
   Nat), OI.mk x.pl x.pl.length x.pe) (v2 x_2)).ep (fdX (((), (), x.G, x.K, x.Ho, x.pe), (x.r, x.c, false, (), ()), a.toNat + (1 : Nat), RC.mk x.l (a.toNat + (1 : Nat)) x.ep, ((0 : Nat), (0 : Int), x.n, x.ov), OI.mk x.xs (50 : Nat) (0 : Nat), OI.mk x.pl
   x.pl.length x.pe) (v2 x_2)).G (fdX (((), (), x.G, x.K, x.Ho, x.pe), (x.r, x.c, false, (), ()), a.toNat + (1 : Nat), RC.mk x.l (a.toNat + (1 : Nat)) x.ep, ((0 : Nat), (0 : Int), x.n, x.ov), OI.mk x.xs (50 : Nat) (0 : Nat), OI.mk x.pl x.pl.length x.pe)
   (v2 x_2)).K (fdX (((), (), x.G, x.K, x.Ho, x.pe), (x.r, x.c, false, (), ()), a.toNat + (1 : Nat), RC.mk x.l (a.toNat + (1 : Nat)) x.ep, ((0 : Nat), (0 : Int), x.n, x.ov), OI.mk x.xs (50 : Nat) (0 : Nat), OI.mk x.pl x.pl.length x.pe) (v2 x_2)).Ho (fdX
   (((), (), x.G, x.K, x.Ho, x.pe), (x.r, x.c, false, (), ()), a.toNat + (1 : Nat), RC.mk x.l (a.toNat + (1 : Nat)) x.ep, ((0 : Nat), (0 : Int), x.n, x.ov), OI.mk x.xs (50 : Nat) (0 : Nat), OI.mk x.pl x.pl.length x.pe) (v2 x_2)).n (fdX (((), (), x.G,
   x.K, x.Ho, x.pe), (x.r, x.c, false, (), ()), a.toNat + (1 : Nat), RC.mk x.l (a.toNat + (1 : Nat)) x.ep, ((0 : Nat), (0 : Int), x.n, x.ov), OI.mk x.xs (50 : Nat) (0 : Nat), OI.mk x.pl x.pl.length x.pe) (v2 x_2)).ov (fdX (((), (), x.G, x.K, x.Ho,
   x.pe), (x.r, x.c, false, (), ()), a.toNat + (1 : Nat), RC.mk x.l (a.toNat + (1 : Nat)) x.ep, ((0 : Nat), (0 : Int), x.n, x.ov), OI.mk x.xs (50 : Nat) (0 : Nat), OI.mk x.pl x.pl.length x.pe) (v2 x_2)).xs (fdX (((), (), x.G, x.K, x.Ho, x.pe), (x.r,
   x.c, false, (), ()), a.toNat + (1 : Nat), RC.mk x.l (a.toNat + (1 : Nat)) x.ep, ((0 : Nat), (0 : Int), x.n, x.ov), OI.mk x.xs (50 : Nat) (0 : Nat), OI.mk x.pl x.pl.length x.pe) (v2 x_2)).pe (fdX (((), (), x.G, x.K, x.Ho, x.pe), (x.r, x.c, false, (),
   ()), a.toNat + (1 : Nat), RC.mk x.l (a.toNat + (1 : Nat)) x.ep, ((0 : Nat), (0 : Int), x.n, x.ov), OI.mk x.xs (50 : Nat) (0 : Nat), OI.mk x.pl x.pl.length x.pe) (v2 x_2)).pl = S2 ∧ (SV.v (Value.int IntKind.i64 d) = SV.v (Value.int IntKind.i64 d) ∧
   SV.v (Value.int IntKind.i64 r) = SV.v (Value.int IntKind.i64 r) ∧ SV.p (0 : Nat) (0 : Nat) = SV.p (0 : Nat) (0 : Nat) ∧ SV.v (Value.bool false) = SV.v (Value.bool false) ∧ SV.p (13 : Nat) (0 : Nat) = SV.p (13 : Nat) (0 : Nat) ∧ SV.p (15 : Nat) (0 :
   Nat) = SV.p (15 : Nat) (0 : Nat) ∧ True) ∧ (SV.v (Value.int IntKind.i64 a) = SV.v (Value.int IntKind.i64 a) ∧ SV.v (Value.int IntKind.i64 b) = SV.v (Value.int IntKind.i64 b) ∧ True) ∧ (SV.v (Value.int IntKind.i64 a) = SV.v (Value.int IntKind.i64 a) ∧
   SV.v (Value.int IntKind.i64 b) = SV.v (Value.int IntKind.i64 b) ∧ True) ∧ True ∧ True ∧ True ∧ (SV.h (6 : Nat) [a.toNat + (1 : Nat), (0 : Nat)] = SV.h (6 : Nat) [a.toNat + (1 : Nat), (0 : Nat)] ∧ True) ∧ (a.toNat + (1 : Nat) = a.toNat + (1 : Nat) ∧
   (fdX (((), (), x.G, x.K, x.Ho, x.pe), (x.r, x.c, false, (), ()), a.toNat + (1 : Nat), RC.mk x.l (a.toNat + (1 : Nat)) x.ep, ((0 : Nat), (0 : Int), x.n, x.ov), OI.mk x.xs (50 : Nat) (0 : Nat), OI.mk x.pl x.pl.length x.pe) (v2 x_2)).ep = (fdX (((), (),
   x.G, x.K, x.Ho, x.pe), (x.r, x.c, false, (), ()), a.toNat + (1 : Nat), RC.mk x.l (a.toNat + (1 : Nat)) x.ep, ((0 : Nat), (0 : Int), x.n, x.ov), OI.mk x.xs (50 : Nat) (0 : Nat), OI.mk x.pl x.pl.length x.pe) (v2 x_2)).ep ∧ (fdX (((), (), x.G, x.K,
   x.Ho, x.pe), (x.r, x.c, false, (), ()), a.toNat + (1 : Nat), RC.mk x.l (a.toNat + (1 : Nat)) x.ep, ((0 : Nat), (0 : Int), x.n, x.ov), OI.mk x.xs (50 : Nat) (0 : Nat), OI.mk x.pl x.pl.length x.pe) (v2 x_2)).l = (fdX (((), (), x.G, x.K, x.Ho, x.pe),
   (x.r, x.c, false, (), ()), a.toNat + (1 : Nat), RC.mk x.l (a.toNat + (1 : Nat)) x.ep, ((0 : Nat), (0 : Int), x.n, x.ov), OI.mk x.xs (50 : Nat) (0 : Nat), OI.mk x.pl x.pl.length x.pe) (v2 x_2)).l) ∧ True ∧ True ∧ (SV.v (Value.int IntKind.i64 (fdX
   (((), (), x.G, x.K, x.Ho, x.pe), (x.r, x.c, false, (), ()), a.toNat + (1 : Nat), RC.mk x.l (a.toNat + (1 : Nat)) x.ep, ((0 : Nat), (0 : Int), x.n, x.ov), OI.mk x.xs (50 : Nat) (0 : Nat), OI.mk x.pl x.pl.length x.pe) (v2 x_2)).r) = SV.v (Value.int
   IntKind.i64 (fdX (((), (), x.G, x.K, x.Ho, x.pe), (x.r, x.c, false, (), ()), a.toNat + (1 : Nat), RC.mk x.l (a.toNat + (1 : Nat)) x.ep, ((0 : Nat), (0 : Int), x.n, x.ov), OI.mk x.xs (50 : Nat) (0 : Nat), OI.mk x.pl x.pl.length x.pe) (v2 x_2)).r) ∧
   SV.v (Value.int IntKind.i64 (fdX (((), (), x.G, x.K, x.Ho, x.pe), (x.r, x.c, false, (), ()), a.toNat + (1 : Nat), RC.mk x.l (a.toNat + (1 : Nat)) x.ep, ((0 : Nat), (0 : Int), x.n, x.ov), OI.mk x.xs (50 : Nat) (0 : Nat), OI.mk x.pl x.pl.length x.pe)
   (v2 x_2)).c) = SV.v (Value.int IntKind.i64 (fdX (((), (), x.G, x.K, x.Ho, x.pe), (x.r, x.c, false, (), ()), a.toNat + (1 : Nat), RC.mk x.l (a.toNat + (1 : Nat)) x.ep, ((0 : Nat), (0 : Int), x.n, x.ov), OI.mk x.xs (50 : Nat) (0 : Nat), OI.mk x.pl
   x.pl.length x.pe) (v2 x_2)).c) ∧ SV.v (Value.bool false) = SV.v (Value.bool false) ∧ SV.p (5 : Nat) (0 : Nat) = SV.p (5 : Nat) (0 : Nat) ∧ True) ∧ ((50 : Nat) = (50 : Nat) ∧ (0 : Nat) = (0 : Nat) ∧ (fdX (((), (), x.G, x.K, x.Ho, x.pe), (x.r, x.c,
   false, (), ()), a.toNat + (1 : Nat), RC.mk x.l (a.toNat + (1 : Nat)) x.ep, ((0 : Nat), (0 : Int), x.n, x.ov), OI.mk x.xs (50 : Nat) (0 : Nat), OI.mk x.pl x.pl.length x.pe) (v2 x_2)).xs = (fdX (((), (), x.G, x.K, x.Ho, x.pe), (x.r, x.c, false, (),
   ()), a.toNat + (1 : Nat), RC.mk x.l (a.toNat + (1 : Nat)) x.ep, ((0 : Nat), (0 : Int), x.n, x.ov), OI.mk x.xs (50 : Nat) (0 : Nat), OI.mk x.pl x.pl.length x.pe) (v2 x_2)).xs) ∧ (SV.h (10 : Nat) [(0 : Nat), (0 : Nat)] = SV.h (10 : Nat) [(0 : Nat), (0
   : Nat)] ∧ SV.v (Value.int IntKind.i64 (0 : Int)) = SV.v (Value.int IntKind.i64 (0 : Int)) ∧ SV.v (Value.int IntKind.i64 (fdX (((), (), x.G, x.K, x.Ho, x.pe), (x.r, x.c, false, (), ()), a.toNat + (1 : Nat), RC.mk x.l (a.toNat + (1 : Nat)) x.ep, ((0 :
   Nat), (0 : Int), x.n, x.ov), OI.mk x.xs (50 : Nat) (0 : Nat), OI.mk x.pl x.pl.length x.pe) (v2 x_2)).n) = SV.v (Value.int IntKind.i64 (fdX (((), (), x.G, x.K, x.Ho, x.pe), (x.r, x.c, false, (), ()), a.toNat + (1 : Nat), RC.mk x.l (a.toNat + (1 :
   Nat)) x.ep, ((0 : Nat), (0 : Int), x.n, x.ov), OI.mk x.xs (50 : Nat) (0 : Nat), OI.mk x.pl x.pl.length x.pe) (v2 x_2)).n) ∧ SV.v (Value.bool (fdX (((), (), x.G, x.K, x.Ho, x.pe), (x.r, x.c, false, (), ()), a.toNat + (1 : Nat), RC.mk x.l (a.toNat + (1
   : Nat)) x.ep, ((0 : Nat), (0 : Int), x.n, x.ov), OI.mk x.xs (50 : Nat) (0 : Nat), OI.mk x.pl x.pl.length x.pe) (v2 x_2)).ov) = SV.v (Value.bool (fdX (((), (), x.G, x.K, x.Ho, x.pe), (x.r, x.c, false, (), ()), a.toNat + (1 : Nat), RC.mk x.l (a.toNat +
   (1 : Nat)) x.ep, ((0 : Nat), (0 : Int), x.n, x.ov), OI.mk x.xs (50 : Nat) (0 : Nat), OI.mk x.pl x.pl.length x.pe) (v2 x_2)).ov) ∧ True) ∧ (SV.p (9 : Nat) (0 : Nat) = SV.p (9 : Nat) (0 : Nat) ∧ SV.p (11 : Nat) (0 : Nat) = SV.p (11 : Nat) (0 : Nat) ∧
   SV.v (Value.bool (fdX (((), (), x.G, x.K, x.Ho, x.pe), (x.r, x.c, false, (), ()), a.toNat + (1 : Nat), RC.mk x.l (a.toNat + (1 : Nat)) x.ep, ((0 : Nat), (0 : Int), x.n, x.ov), OI.mk x.xs (50 : Nat) (0 : Nat), OI.mk x.pl x.pl.length x.pe) (v2 x_2)).G)
   = SV.v (Value.bool (fdX (((), (), x.G, x.K, x.Ho, x.pe), (x.r, x.c, false, (), ()), a.toNat + (1 : Nat), RC.mk x.l (a.toNat + (1 : Nat)) x.ep, ((0 : Nat), (0 : Int), x.n, x.ov), OI.mk x.xs (50 : Nat) (0 : Nat), OI.mk x.pl x.pl.length x.pe) (v2
   x_2)).G) ∧ SV.v (Value.bool (fdX (((), (), x.G, x.K, x.Ho, x.pe), (x.r, x.c, false, (), ()), a.toNat + (1 : Nat), RC.mk x.l (a.toNat + (1 : Nat)) x.ep, ((0 : Nat), (0 : Int), x.n, x.ov), OI.mk x.xs (50 : Nat) (0 : Nat), OI.mk x.pl x.pl.length x.pe)
   (v2 x_2)).K) = SV.v (Value.bool (fdX (((), (), x.G, x.K, x.Ho, x.pe), (x.r, x.c, false, (), ()), a.toNat + (1 : Nat), RC.mk x.l (a.toNat + (1 : Nat)) x.ep, ((0 : Nat), (0 : Int), x.n, x.ov), OI.mk x.xs (50 : Nat) (0 : Nat), OI.mk x.pl x.pl.length
   x.pe) (v2 x_2)).K) ∧ SV.v (Value.bool (fdX (((), (), x.G, x.K, x.Ho, x.pe), (x.r, x.c, false, (), ()), a.toNat + (1 : Nat), RC.mk x.l (a.toNat + (1 : Nat)) x.ep, ((0 : Nat), (0 : Int), x.n, x.ov), OI.mk x.xs (50 : Nat) (0 : Nat), OI.mk x.pl
   x.pl.length x.pe) (v2 x_2)).Ho) = SV.v (Value.bool (fdX (((), (), x.G, x.K, x.Ho, x.pe), (x.r, x.c, false, (), ()), a.toNat + (1 : Nat), RC.mk x.l (a.toNat + (1 : Nat)) x.ep, ((0 : Nat), (0 : Int), x.n, x.ov), OI.mk x.xs (50 : Nat) (0 : Nat), OI.mk
   x.pl x.pl.length x.pe) (v2 x_2)).Ho) ∧ SV.h (14 : Nat) [(fdX (((), (), x.G, x.K, x.Ho, x.pe), (x.r, x.c, false, (), ()), a.toNat + (1 : Nat), RC.mk x.l (a.toNat + (1 : Nat)) x.ep, ((0 : Nat), (0 : Int), x.n, x.ov), OI.mk x.xs (50 : Nat) (0 : Nat),
   OI.mk x.pl x.pl.length x.pe) (v2 x_2)).pe, (0 : Nat)] = SV.h (14 : Nat) [(fdX (((), (), x.G, x.K, x.Ho, x.pe), (x.r, x.c, false, (), ()), a.toNat + (1 : Nat), RC.mk x.l (a.toNat + (1 : Nat)) x.ep, ((0 : Nat), (0 : Int), x.n, x.ov), OI.mk x.xs (50 :
   Nat) (0 : Nat), OI.mk x.pl x.pl.length x.pe) (v2 x_2)).pe, (0 : Nat)] ∧ True) ∧ (SV.p (9 : Nat) (0 : Nat) = SV.p (9 : Nat) (0 : Nat) ∧ SV.p (11 : Nat) (0 : Nat) = SV.p (11 : Nat) (0 : Nat) ∧ SV.p (12 : Nat) (0 : Nat) = SV.p (12 : Nat) (0 : Nat) ∧
   True) ∧ ((fdX (((), (), x.G, x.K, x.Ho, x.pe), (x.r, x.c, false, (), ()), a.toNat + (1 : Nat), RC.mk x.l (a.toNat + (1 : Nat)) x.ep, ((0 : Nat), (0 : Int), x.n, x.ov), OI.mk x.xs (50 : Nat) (0 : Nat), OI.mk x.pl x.pl.length x.pe) (v2 x_2)).pl.length
   = (fdX (((), (), x.G, x.K, x.Ho, x.pe), (x.r, x.c, false, (), ()), a.toNat + (1 : Nat), RC.mk x.l (a.toNat + (1 : Nat)) x.ep, ((0 : Nat), (0 : Int), x.n, x.ov), OI.mk x.xs (50 : Nat) (0 : Nat), OI.mk x.pl x.pl.length x.pe) (v2 x_2)).pl.length ∧ (fdX
   (((), (), x.G, x.K, x.Ho, x.pe), (x.r, x.c, false, (), ()), a.toNat + (1 : Nat), RC.mk x.l (a.toNat + (1 : Nat)) x.ep, ((0 : Nat), (0 : Int), x.n, x.ov), OI.mk x.xs (50 : Nat) (0 : Nat), OI.mk x.pl x.pl.length x.pe) (v2 x_2)).pe = (fdX (((), (), x.G,
   x.K, x.Ho, x.pe), (x.r, x.c, false, (), ()), a.toNat + (1 : Nat), RC.mk x.l (a.toNat + (1 : Nat)) x.ep, ((0 : Nat), (0 : Int), x.n, x.ov), OI.mk x.xs (50 : Nat) (0 : Nat), OI.mk x.pl x.pl.length x.pe) (v2 x_2)).pe ∧ (fdX (((), (), x.G, x.K, x.Ho,
   x.pe), (x.r, x.c, false, (), ()), a.toNat + (1 : Nat), RC.mk x.l (a.toNat + (1 : Nat)) x.ep, ((0 : Nat), (0 : Int), x.n, x.ov), OI.mk x.xs (50 : Nat) (0 : Nat), OI.mk x.pl x.pl.length x.pe) (v2 x_2)).pl = (fdX (((), (), x.G, x.K, x.Ho, x.pe), (x.r,
   x.c, false, (), ()), a.toNat + (1 : Nat), RC.mk x.l (a.toNat + (1 : Nat)) x.ep, ((0 : Nat), (0 : Int), x.n, x.ov), OI.mk x.xs (50 : Nat) (0 : Nat), OI.mk x.pl x.pl.length x.pe) (v2 x_2)).pl) ∧ (SV.v (Value.int IntKind.i64 x.r) = SV.v (Value.int
   IntKind.i64 x.r) ∧ SV.v (Value.int IntKind.i64 x.c) = SV.v (Value.int IntKind.i64 x.c) ∧ True) ∧ True) ∧ ∀ (x_3 : Tm), x_3 = S2 → true = true ∧ true = true ∧ (a.toNat + (1 : Nat) = a.toNat + (1 : Nat) ∧ GW x_3.l) ∧ (II (0 : Int) ≤ (0 : Int) ∧ (0 :
   Int) ≤ a) ∧ ((SV.v (Value.int IntKind.i64 d) = SV.v (Value.int IntKind.i64 d) ∧ SV.v (Value.int IntKind.i64 r) = SV.v (Value.int IntKind.i64 r) ∧ SV.p (0 : Nat) (0 : Nat) = SV.p (0 : Nat) (0 : Nat) ∧ SV.v (Value.bool false) = SV.v (Value.bool false)
   ∧ SV.p (15 : Nat) (0 : Nat) = SV.p (15 : Nat) (0 : Nat) ∧ SV.p (16 : Nat) (0 : Nat) = SV.p (16 : Nat) (0 : Nat) ∧ SV.h (18 : Nat) [(0 : Nat), (0 : Nat)] = SV.h (18 : Nat) [(0 : Nat), (0 : Nat)] ∧ SV.v (Value.int IntKind.i64 (0 : Int)) = SV.v
   (Value.int IntKind.i64 (0 : Int)) ∧ True) ∧ (SV.v (Value.int IntKind.i64 a) = SV.v (Value.int IntKind.i64 a) ∧ SV.v (Value.int IntKind.i64 b) = SV.v (Value.int IntKind.i64 b) ∧ True) ∧ (SV.v (Value.int IntKind.i64 a) = SV.v (Value.int IntKind.i64 a)
   ∧ SV.v (Value.int IntKind.i64 b) = SV.v (Value.int IntKind.i64 b) ∧ True) ∧ True ∧ True ∧ True ∧ (SV.h (6 : Nat) [a.toNat + (1 : Nat), (0 : Nat)] = SV.h (6 : Nat) [a.toNat + (1 : Nat), (0 : Nat)] ∧ True) ∧ (a.toNat + (1 : Nat) = a.toNat + (1 : Nat) ∧
   x_3.ep = x_3.ep ∧ x_3.l = x_3.l) ∧ True ∧ True ∧ (SV.v (Value.int IntKind.i64 x_3.r) = SV.v (Value.int IntKind.i64 x_3.r) ∧ SV.v (Value.int IntKind.i64 x_3.c) = SV.v (Value.int IntKind.i64 x_3.c) ∧ SV.v (Value.bool false) = SV.v (Value.bool false) ∧
   SV.p (5 : Nat) (0 : Nat) = SV.p (5 : Nat) (0 : Nat) ∧ True) ∧ ((50 : Nat) = (50 : Nat) ∧ (0 : Nat) = (0 : Nat) ∧ x_3.xs = x_3.xs) ∧ (SV.h (10 : Nat) [(0 : Nat), (0 : Nat)] = SV.h (10 : Nat) [(0 : Nat), (0 : Nat)] ∧ SV.v (Value.int IntKind.i64 (0 :
   Int)) = SV.v (Value.int IntKind.i64 (0 : Int)) ∧ SV.v (Value.int IntKind.i64 x_3.n) = SV.v (Value.int IntKind.i64 x_3.n) ∧ SV.v (Value.bool x_3.ov) = SV.v (Value.bool x_3.ov) ∧ True) ∧ (SV.p (9 : Nat) (0 : Nat) = SV.p (9 : Nat) (0 : Nat) ∧ SV.p (11 :
   Nat) (0 : Nat) = SV.p (11 : Nat) (0 : Nat) ∧ SV.v (Value.bool x_3.G) = SV.v (Value.bool x_3.G) ∧ SV.v (Value.bool x_3.K) = SV.v (Value.bool x_3.K) ∧ SV.v (Value.bool x_3.Ho) = SV.v (Value.bool x_3.Ho) ∧ SV.h (14 : Nat) [x_3.pe, (0 : Nat)] = SV.h (14
   : Nat) [x_3.pe, (0 : Nat)] ∧ True) ∧ (SV.p (9 : Nat) (0 : Nat) = SV.p (9 : Nat) (0 : Nat) ∧ SV.p (11 : Nat) (0 : Nat) = SV.p (11 : Nat) (0 : Nat) ∧ SV.p (12 : Nat) (0 : Nat) = SV.p (12 : Nat) (0 : Nat) ∧ True) ∧ (x_3.pl.length = x_3.pl.length ∧
   x_3.pe = x_3.pe ∧ x_3.pl = x_3.pl) ∧ (SV.v (Value.int IntKind.i64 x.r) = SV.v (Value.int IntKind.i64 x.r) ∧ SV.v (Value.int IntKind.i64 x.c) = SV.v (Value.int IntKind.i64 x.c) ∧ True) ∧ (SV.v (Value.int IntKind.i64 x_3.r) = SV.v (Value.int
   IntKind.i64 x_3.r) ∧ SV.v (Value.int IntKind.i64 x_3.c) = SV.v (Value.int IntKind.i64 x_3.c) ∧ True) ∧ True ∧ ((0 : Nat) = (0 : Nat) ∧ x_3.l.length * nC x_3.l + (1 : Nat) = x_3.l.length * nC x_3.l + (1 : Nat) ∧ x_3.l = x_3.l) ∧ True) ∧ ∀ (x_4 : Int),
   (0 : Int) ≤ x_4 ∧ x_4 ≤ a → br (decide (x_4 < (↑(Rws.c x_3.l).len : Int))) ((II (0 : Int) ≤ (0 : Int) ∧ (0 : Int) ≤ b) ∧ ((SV.v (Value.int IntKind.i64 d) = SV.v (Value.int IntKind.i64 d) ∧ SV.v (Value.int IntKind.i64 r) = SV.v (Value.int IntKind.i64
   r) ∧ SV.p (0 : Nat) (0 : Nat) = SV.p (0 : Nat) (0 : Nat) ∧ SV.v (Value.bool false) = SV.v (Value.bool false) ∧ SV.p (15 : Nat) (0 : Nat) = SV.p (15 : Nat) (0 : Nat) ∧ SV.p (16 : Nat) (0 : Nat) = SV.p (16 : Nat) (0 : Nat) ∧ SV.h (18 : Nat) [(0 : Nat),
   (0 : Nat)] = SV.h (18 : Nat) [(0 : Nat), (0 : Nat)] ∧ SV.v (Value.int IntKind.i64 x_4) = SV.v (Value.int IntKind.i64 x_4) ∧ SV.v (Value.int IntKind.i64 (0 : Int)) = SV.v (Value.int IntKind.i64 (0 : Int)) ∧ True) ∧ (SV.v (Value.int IntKind.i64 a) =
   SV.v (Value.int IntKind.i64 a) ∧ SV.v (Value.int IntKind.i64 b) = SV.v (Value.int IntKind.i64 b) ∧ True) ∧ (SV.v (Value.int IntKind.i64 a) = SV.v (Value.int IntKind.i64 a) ∧ SV.v (Value.int IntKind.i64 b) = SV.v (Value.int IntKind.i64 b) ∧ True) ∧
   True ∧ True ∧ True ∧ (SV.h (6 : Nat) [a.toNat + (1 : Nat), (0 : Nat)] = SV.h (6 : Nat) [a.toNat + (1 : Nat), (0 : Nat)] ∧ True) ∧ (a.toNat + (1 : Nat) = a.toNat + (1 : Nat) ∧ x_3.ep = x_3.ep ∧ x_3.l = x_3.l) ∧ True ∧ True ∧ (SV.v (Value.int
   IntKind.i64 x_3.r) = SV.v (Value.int IntKind.i64 x_3.r) ∧ SV.v (Value.int IntKind.i64 x_3.c) = SV.v (Value.int IntKind.i64 x_3.c) ∧ SV.v (Value.bool false) = SV.v (Value.bool false) ∧ SV.p (5 : Nat) (0 : Nat) = SV.p (5 : Nat) (0 : Nat) ∧ True) ∧ ((50
   : Nat) = (50 : Nat) ∧ (0 : Nat) = (0 : Nat) ∧ x_3.xs = x_3.xs) ∧ (SV.h (10 : Nat) [(0 : Nat), (0 : Nat)] = SV.h (10 : Nat) [(0 : Nat), (0 : Nat)] ∧ SV.v (Value.int IntKind.i64 (0 : Int)) = SV.v (Value.int IntKind.i64 (0 : Int)) ∧ SV.v (Value.int
   IntKind.i64 x_3.n) = SV.v (Value.int IntKind.i64 x_3.n) ∧ SV.v (Value.bool x_3.ov) = SV.v (Value.bool x_3.ov) ∧ True) ∧ (SV.p (9 : Nat) (0 : Nat) = SV.p (9 : Nat) (0 : Nat) ∧ SV.p (11 : Nat) (0 : Nat) = SV.p (11 : Nat) (0 : Nat) ∧ SV.v (Value.bool
   x_3.G) = SV.v (Value.bool x_3.G) ∧ SV.v (Value.bool x_3.K) = SV.v (Value.bool x_3.K) ∧ SV.v (Value.bool x_3.Ho) = SV.v (Value.bool x_3.Ho) ∧ SV.h (14 : Nat) [x_3.pe, (0 : Nat)] = SV.h (14 : Nat) [x_3.pe, (0 : Nat)] ∧ True) ∧ (SV.p (9 : Nat) (0 : Nat)
   = SV.p (9 : Nat) (0 : Nat) ∧ SV.p (11 : Nat) (0 : Nat) = SV.p (11 : Nat) (0 : Nat) ∧ SV.p (12 : Nat) (0 : Nat) = SV.p (12 : Nat) (0 : Nat) ∧ True) ∧ (x_3.pl.length = x_3.pl.length ∧ x_3.pe = x_3.pe ∧ x_3.pl = x_3.pl) ∧ (SV.v (Value.int IntKind.i64
   x.r) = SV.v (Value.int IntKind.i64 x.r) ∧ SV.v (Value.int IntKind.i64 x.c) = SV.v (Value.int IntKind.i64 x.c) ∧ True) ∧ (SV.v (Value.int IntKind.i64 x_3.r) = SV.v (Value.int IntKind.i64 x_3.r) ∧ SV.v (Value.int IntKind.i64 x_3.c) = SV.v (Value.int
   IntKind.i64 x_3.c) ∧ True) ∧ True ∧ ((0 : Nat) = (0 : Nat) ∧ x_3.l.length * nC x_3.l + (1 : Nat) = x_3.l.length * nC x_3.l + (1 : Nat) ∧ x_3.l = x_3.l) ∧ True) ∧ ∀ (x_5 : Int), (0 : Int) ≤ x_5 ∧ x_5 ≤ b → rq (true && (Nat.beq (1 : Nat) (1 : Nat) &&
   decide ((0 : Int) ≤ x_4 ∧ x_4 < (↑(Rws.c x_3.l).len : Int)))) (rq (true && x_4.toNat.blt (Rws.c x_3.l).len) (rq ((x_3.l.length * nC x_3.l + (1 : Nat)).beq (x_3.l.length * nC x_3.l + (1 : Nat)) && x_4.toNat.blt (Rws.c x_3.l).len) (br (decide (x_5 <
   (↑((Rws.c x_3.l).nAt x_4.toNat) : Int))) (rq (true && (Nat.beq (1 : Nat) (1 : Nat) && decide ((0 : Int) ≤ x_4 ∧ x_4 < (↑(Rws.c x_3.l).len : Int)))) (rq (true && x_4.toNat.blt (Rws.c x_3.l).len) (rq ((x_3.l.length * nC x_3.l + (1 : Nat)).beq
   (x_3.l.length * nC x_3.l + (1 : Nat)) && x_4.toNat.blt (Rws.c x_3.l).len && ((Rws.c x_3.l).sz.beq (4 : Nat) && decide ((0 : Int) ≤ x_5 ∧ x_5 < (↑((Rws.c x_3.l).nAt x_4.toNat) : Int)))) (rq ((x_3.l.length * nC x_3.l + (1 : Nat)).beq (x_3.l.length * nC
   x_3.l + (1 : Nat)) && x_4.toNat.blt (Rws.c x_3.l).len && x_5.toNat.blt (x_3.l.getD x_4.toNat []).length) (br (!(((x_3.l.getD x_4.toNat []).getD x_5.toNat C4.no).g == (32 : Int) && (((x_3.l.getD x_4.toNat []).getD x_5.toNat C4.no).a == (0 : Int) &&
   (((x_3.l.getD x_4.toNat []).getD x_5.toNat C4.no).gd == false && (((x_3.l.getD x_4.toNat []).getD x_5.toNat C4.no).m == (0 : Int) && true))))) (SV.v (Value.bool false) = SV.v (Value.bool true)) (((0 : Int) ≤ IntKind.i64.wrap (x_5 + (1 : Int)) ∧
   IntKind.i64.wrap (x_5 + (1 : Int)) ≤ b) ∧ ((SV.v (Value.int IntKind.i64 d) = SV.v (Value.int IntKind.i64 d) ∧ SV.v (Value.int IntKind.i64 r) = SV.v (Value.int IntKind.i64 r) ∧ SV.p (0 : Nat) (0 : Nat) = SV.p (0 : Nat) (0 : Nat) ∧ SV.v (Value.bool
   false) = SV.v (Value.bool false) ∧ SV.p (15 : Nat) (0 : Nat) = SV.p (15 : Nat) (0 : Nat) ∧ SV.p (16 : Nat) (0 : Nat) = SV.p (16 : Nat) (0 : Nat) ∧ SV.h (18 : Nat) [(0 : Nat), (0 : Nat)] = SV.h (18 : Nat) [(0 : Nat), (0 : Nat)] ∧ SV.v (Value.int
   IntKind.i64 x_4) = SV.v (Value.int IntKind.i64 x_4) ∧ SV.v (Value.int IntKind.i64 (IntKind.i64.wrap (x_5 + (1 : Int)))) = SV.v (Value.int IntKind.i64 (IntKind.i64.wrap (x_5 + (1 : Int)))) ∧ True) ∧ (SV.v (Value.int IntKind.i64 a) = SV.v (Value.int
   IntKind.i64 a) ∧ SV.v (Value.int IntKind.i64 b) = SV.v (Value.int IntKind.i64 b) ∧ True) ∧ (SV.v (Value.int IntKind.i64 a) = SV.v (Value.int IntKind.i64 a) ∧ SV.v (Value.int IntKind.i64 b) = SV.v (Value.int IntKind.i64 b) ∧ True) ∧ True ∧ True ∧ True
   ∧ (SV.h (6 : Nat) [a.toNat + (1 : Nat), (0 : Nat)] = SV.h (6 : Nat) [a.toNat + (1 : Nat), (0 : Nat)] ∧ True) ∧ (a.toNat + (1 : Nat) = a.toNat + (1 : Nat) ∧ x_3.ep = x_3.ep ∧ x_3.l = x_3.l) ∧ True ∧ True ∧ (SV.v (Value.int IntKind.i64 x_3.r) = SV.v
   (Value.int IntKind.i64 x_3.r) ∧ SV.v (Value.int IntKind.i64 x_3.c) = SV.v (Value.int IntKind.i64 x_3.c) ∧ SV.v (Value.bool false) = SV.v (Value.bool false) ∧ SV.p (5 : Nat) (0 : Nat) = SV.p (5 : Nat) (0 : Nat) ∧ True) ∧ ((50 : Nat) = (50 : Nat) ∧ (0
   : Nat) = (0 : Nat) ∧ x_3.xs = x_3.xs) ∧ (SV.h (10 : Nat) [(0 : Nat), (0 : Nat)] = SV.h (10 : Nat) [(0 : Nat), (0 : Nat)] ∧ SV.v (Value.int IntKind.i64 (0 : Int)) = SV.v (Value.int IntKind.i64 (0 : Int)) ∧ SV.v (Value.int IntKind.i64 x_3.n) = SV.v
   (Value.int IntKind.i64 x_3.n) ∧ SV.v (Value.bool x_3.ov) = SV.v (Value.bool x_3.ov) ∧ True) ∧ (SV.p (9 : Nat) (0 : Nat) = SV.p (9 : Nat) (0 : Nat) ∧ SV.p (11 : Nat) (0 : Nat) = SV.p (11 : Nat) (0 : Nat) ∧ SV.v (Value.bool x_3.G) = SV.v (Value.bool
   x_3.G) ∧ SV.v (Value.bool x_3.K) = SV.v (Value.bool x_3.K) ∧ SV.v (Value.bool x_3.Ho) = SV.v (Value.bool x_3.Ho) ∧ SV.h (14 : Nat) [x_3.pe, (0 : Nat)] = SV.h (14 : Nat) [x_3.pe, (0 : Nat)] ∧ True) ∧ (SV.p (9 : Nat) (0 : Nat) = SV.p (9 : Nat) (0 :
   Nat) ∧ SV.p (11 : Nat) (0 : Nat) = SV.p (11 : Nat) (0 : Nat) ∧ SV.p (12 : Nat) (0 : Nat) = SV.p (12 : Nat) (0 : Nat) ∧ True) ∧ (x_3.pl.length = x_3.pl.length ∧ x_3.pe = x_3.pe ∧ x_3.pl = x_3.pl) ∧ (SV.v (Value.int IntKind.i64 x.r) = SV.v (Value.int
   IntKind.i64 x.r) ∧ SV.v (Value.int IntKind.i64 x.c) = SV.v (Value.int IntKind.i64 x.c) ∧ True) ∧ (SV.v (Value.int IntKind.i64 x_3.r) = SV.v (Value.int IntKind.i64 x_3.r) ∧ SV.v (Value.int IntKind.i64 x_3.c) = SV.v (Value.int IntKind.i64 x_3.c) ∧
   True) ∧ True ∧ ((0 : Nat) = (0 : Nat) ∧ x_3.l.length * nC x_3.l + (1 : Nat) = x_3.l.length * nC x_3.l + (1 : Nat) ∧ x_3.l = x_3.l) ∧ True) ∧ (b - IntKind.i64.wrap (x_5 + (1 : Int))).toNat < (b - x_5).toNat)))))) (((0 : Int) ≤ IntKind.i64.wrap (x_4 +
   (1 : Int)) ∧ IntKind.i64.wrap (x_4 + (1 : Int)) ≤ a) ∧ ((SV.v (Value.int IntKind.i64 d) = SV.v (Value.int IntKind.i64 d) ∧ SV.v (Value.int IntKind.i64 r) = SV.v (Value.int IntKind.i64 r) ∧ SV.p (0 : Nat) (0 : Nat) = SV.p (0 : Nat) (0 : Nat) ∧ SV.v
   (Value.bool false) = SV.v (Value.bool false) ∧ SV.p (15 : Nat) (0 : Nat) = SV.p (15 : Nat) (0 : Nat) ∧ SV.p (16 : Nat) (0 : Nat) = SV.p (16 : Nat) (0 : Nat) ∧ SV.h (18 : Nat) [(0 : Nat), (0 : Nat)] = SV.h (18 : Nat) [(0 : Nat), (0 : Nat)] ∧ SV.v
   (Value.int IntKind.i64 (IntKind.i64.wrap (x_4 + (1 : Int)))) = SV.v (Value.int IntKind.i64 (IntKind.i64.wrap (x_4 + (1 : Int)))) ∧ True) ∧ (SV.v (Value.int IntKind.i64 a) = SV.v (Value.int IntKind.i64 a) ∧ SV.v (Value.int IntKind.i64 b) = SV.v
   (Value.int IntKind.i64 b) ∧ True) ∧ (SV.v (Value.int IntKind.i64 a) = SV.v (Value.int IntKind.i64 a) ∧ SV.v (Value.int IntKind.i64 b) = SV.v (Value.int IntKind.i64 b) ∧ True) ∧ True ∧ True ∧ True ∧ (SV.h (6 : Nat) [a.toNat + (1 : Nat), (0 : Nat)] =
   SV.h (6 : Nat) [a.toNat + (1 : Nat), (0 : Nat)] ∧ True) ∧ (a.toNat + (1 : Nat) = a.toNat + (1 : Nat) ∧ x_3.ep = x_3.ep ∧ x_3.l = x_3.l) ∧ True ∧ True ∧ (SV.v (Value.int IntKind.i64 x_3.r) = SV.v (Value.int IntKind.i64 x_3.r) ∧ SV.v (Value.int
   IntKind.i64 x_3.c) = SV.v (Value.int IntKind.i64 x_3.c) ∧ SV.v (Value.bool false) = SV.v (Value.bool false) ∧ SV.p (5 : Nat) (0 : Nat) = SV.p (5 : Nat) (0 : Nat) ∧ True) ∧ ((50 : Nat) = (50 : Nat) ∧ (0 : Nat) = (0 : Nat) ∧ x_3.xs = x_3.xs) ∧ (SV.h
   (10 : Nat) [(0 : Nat), (0 : Nat)] = SV.h (10 : Nat) [(0 : Nat), (0 : Nat)] ∧ SV.v (Value.int IntKind.i64 (0 : Int)) = SV.v (Value.int IntKind.i64 (0 : Int)) ∧ SV.v (Value.int IntKind.i64 x_3.n) = SV.v (Value.int IntKind.i64 x_3.n) ∧ SV.v (Value.bool
   x_3.ov) = SV.v (Value.bool x_3.ov) ∧ True) ∧ (SV.p (9 : Nat) (0 : Nat) = SV.p (9 : Nat) (0 : Nat) ∧ SV.p (11 : Nat) (0 : Nat) = SV.p (11 : Nat) (0 : Nat) ∧ SV.v (Value.bool x_3.G) = SV.v (Value.bool x_3.G) ∧ SV.v (Value.bool x_3.K) = SV.v (Value.bool
   x_3.K) ∧ SV.v (Value.bool x_3.Ho) = SV.v (Value.bool x_3.Ho) ∧ SV.h (14 : Nat) [x_3.pe, (0 : Nat)] = SV.h (14 : Nat) [x_3.pe, (0 : Nat)] ∧ True) ∧ (SV.p (9 : Nat) (0 : Nat) = SV.p (9 : Nat) (0 : Nat) ∧ SV.p (11 : Nat) (0 : Nat) = SV.p (11 : Nat) (0 :
   Nat) ∧ SV.p (12 : Nat) (0 : Nat) = SV.p (12 : Nat) (0 : Nat) ∧ True) ∧ (x_3.pl.length = x_3.pl.length ∧ x_3.pe = x_3.pe ∧ x_3.pl = x_3.pl) ∧ (SV.v (Value.int IntKind.i64 x.r) = SV.v (Value.int IntKind.i64 x.r) ∧ SV.v (Value.int IntKind.i64 x.c) =
   SV.v (Value.int IntKind.i64 x.c) ∧ True) ∧ (SV.v (Value.int IntKind.i64 x_3.r) = SV.v (Value.int IntKind.i64 x_3.r) ∧ SV.v (Value.int IntKind.i64 x_3.c) = SV.v (Value.int IntKind.i64 x_3.c) ∧ True) ∧ True ∧ ((0 : Nat) = (0 : Nat) ∧ x_3.l.length * nC
   x_3.l + (1 : Nat) = x_3.l.length * nC x_3.l + (1 : Nat) ∧ x_3.l = x_3.l) ∧ True) ∧ (a - IntKind.i64.wrap (x_4 + (1 : Int))).toNat < (a - x_4).toNat))))) (br ((x.r == if IntKind.i64.wrap (a - (1 : Int)) < d then IntKind.i64.wrap (a - (1 : Int)) else
   d) && ((x.c == if IntKind.i64.wrap (b - (1 : Int)) < r then IntKind.i64.wrap (b - (1 : Int)) else r) && true)) (br (x_3.r == (0 : Int) && (x_3.c == (0 : Int) && true)) (true = true ∧ SV.v (Value.bool true) = SV.v (Value.bool true)) (SV.v (Value.bool
   false) = SV.v (Value.bool true))) (SV.v (Value.bool false) = SV.v (Value.bool true))))))))))) (true = true ∧ SV.v (Value.bool true) = SV.v (Value.bool true))) (true = true ∧ SV.v (Value.bool true) = SV.v (Value.bool true))) (true = true ∧ SV.v
   (Value.bool true) = SV.v (Value.bool true)))) (by kernel_rfl) ?_
  have hfd : ∀ (x : Tm) (u : ByteArray), fdX (((), (), x.G, x.K, x.Ho, x.pe), (x.r, x.c, false, (), ()), a.toNat + 1, RC.mk x.l (a.toNat + 1) x.ep, (0, 0, x.n, x.ov), OI.mk x.xs 50 0, OI.mk x.pl x.pl.length x.pe) u = feedT 50 0 x (bytesL u) := fun _ _ => rfl
  have hTA : ∀ x : Tm, TI 0 50 x → TA (((), (), x.G, x.K, x.Ho, x.pe), (x.r, x.c, false, (), ()), a.toNat + 1, RC.mk x.l (a.toNat + 1) x.ep, (0, 0, x.n, x.ov), OI.mk x.xs 50 0, OI.mk x.pl x.pl.length x.pe) := fun _ h => ⟨rfl, rfl, rfl, rfl, rfl, h⟩
  simp only [hfd]
  simp only [br_iff, rq_iff, nbeq, II, true_and, and_true, and_self, implies_true, decide_eq_true_eq, decide_eq_false_iff_not, Bool.not_eq_true', Bool.not_eq_false']
  intro ha1 ha2 hb1 hb2 hd0 hd1 hr0 hr1
  have hm : mayB a b = true := mayB_iff.2 (by omega)
  have hN : TI 0 50 (newT a b 50) := newT_ti (a := a) (b := b) (m := 50) hm (by omega) (by omega)
  have zU : ∀ i : Int, (thU d i).size = 2 * i.toNat := fun i => rep_size (bC_size _) _
  have zV : ∀ i : Int, (bkU d i).size = 2 * i.toNat := fun i => rep_size (bC_size _) _
  have yU : ∀ i : Int, (thV d i).size = 2 * d.toNat + 2 * i.toNat := fun i => by unfold thV; rw [ByteArray.size_append, rep_size (bC_size _), rep_size (bC_size _)]
  have yV : ∀ i : Int, (bkV d i).size = 2 * d.toNat + 2 * i.toNat := fun i => by unfold bkV; rw [ByteArray.size_append, rep_size (bC_size _), rep_size (bC_size _)]
  have sU : ∀ i : Int, 0 ≤ i → thU d i ++ bC 66 = thU d (i + 1) := fun i h => by unfold thU; rw [show (i + 1).toNat = i.toNat + 1 by omega]; rfl
  have sV : ∀ i : Int, 0 ≤ i → bkU d i ++ bC 65 = bkU d (i + 1) := fun i h => by unfold bkU; rw [show (i + 1).toNat = i.toNat + 1 by omega]; rfl
  have tU : ∀ i : Int, 0 ≤ i → thV d i ++ bC 67 = thV d (i + 1) := fun i h => by unfold thV; rw [show (i + 1).toNat = i.toNat + 1 by omega, ByteArray.append_assoc]; rfl
  have tV : ∀ i : Int, 0 ≤ i → bkV d i ++ bC 68 = bkV d (i + 1) := fun i h => by unfold bkV; rw [show (i + 1).toNat = i.toNat + 1 by omega, ByteArray.append_assoc]; rfl
  subst g1; subst g2; subst g3; subst g4; subst g5; subst g6
  have e0 : ∀ u : ByteArray, u ++ ByteArray.empty = u := fun u => ByteArray.append_empty
  refine ⟨⟨hm, by decide, by decide⟩, ⟨rfl, rfl⟩, ?_⟩
  rintro x rfl
  refine ⟨⟨Int.le_refl 0, by omega⟩, ⟨rfl, rfl⟩, fun i ⟨hi0, hi1⟩ => ⟨fun hlt => ?_, fun hge => ?_⟩⟩
  · rw [wrap64 (x := i + 1) (by omega) (by omega), zU, zV, ← sU i hi0, ← sV i hi0]
    exact ⟨Nat.ble_eq_true_of_le (by omega), Nat.ble_eq_true_of_le (by omega), ⟨by omega, by omega⟩, ⟨rfl, rfl⟩, by omega⟩
  obtain rfl : i = d := by omega
  refine ⟨⟨Int.le_refl 0, by omega⟩, ⟨?_, ?_⟩, fun k ⟨hk0, hk1⟩ => ⟨fun hlt => ?_, fun hge2 => ?_⟩⟩
  · rw [show thV i 0 = thU i i from e0 _]
  · rw [show bkV i 0 = bkU i i from e0 _]
  · rw [wrap64 (x := k + 1) (by omega) (by omega), yU, yV, ← tU k hk0, ← tV k hk0]
    exact ⟨Nat.ble_eq_true_of_le (by omega), Nat.ble_eq_true_of_le (by omega), ⟨by omega, by omega⟩, ⟨rfl, rfl⟩, by omega⟩
  obtain rfl : k = r := by omega
  have hW := tp_feed (bytesL (thV i k)) hN (bytesL_range _)
  have hV := tp_feed (bytesL (bkV i k)) hW.ti (bytesL_range _)
  refine ⟨⟨⟨hTA _ hN, by rw [yU]; omega⟩, tm_eta (feedT 50 0 (newT a b 50) (bytesL (thV i k)))⟩, ?_⟩
  rintro x rfl
  refine ⟨⟨⟨hTA _ hW.ti, by rw [yV]; omega⟩, tm_eta (feedT 50 0 (m1S a b i k) (bytesL (bkV i k)))⟩, ?_⟩
  rintro x rfl
  have e1L : ((newT a b 50).l.length : Int) = a := by
    show (((newL a.toNat b.toNat blankC).length : Nat) : Int) = a
    rw [newL_length]; omega
  have e1C : ((nC (newT a b 50).l : Nat) : Int) = b := by
    show ((nC (newL a.toNat b.toNat blankC) : Nat) : Int) = b
    rw [newL_nC (by omega)]; omega
  have hd0 : 0 ≤ i := by omega
  have hr0 : 0 ≤ k := by omega
  obtain ⟨p1, p2, p3⟩ := there_plain hN (d := i) (r := k) hd0 hr0
  rw [e1L] at p1
  rw [e1C] at p2
  have z1 : (newT a b 50).r = 0 := rfl
  have z2 : (newT a b 50).c = 0 := rfl
  rw [z1, Int.zero_add] at p1
  rw [z2, Int.zero_add] at p2
  have p1 : (m1S a b i k).r = nearI i a := p1
  have p2 : (m1S a b i k).c = nearI k b := p2
  have p3 : (m1S a b i k).l = newL a.toNat b.toNat blankC := p3
  obtain ⟨q1, q2, q3⟩ := back_plain (S := m1S a b i k) hW.ti (d := i) (r := k) (by rw [p1]; exact near_le hd0) (by rw [p2]; exact near_le hr0)
  have q1 : (m2S a b i k).r = 0 := q1
  have q2 : (m2S a b i k).c = 0 := q2
  have q3 : (m2S a b i k).l = newL a.toNat b.toNat blankC := q3.trans p3
  have hg : GW (newL a.toNat b.toNat blankC) := newL_gw (by omega) (by omega) (by omega) (by omega)
  have eR : ∀ j : Nat, j < a.toNat → (newL a.toNat b.toNat blankC).getD j [] = List.replicate b.toNat blankC := fun j hj => by simp [newL, List.getD, hj]
  have eX : ∀ j : Nat, j < b.toNat → (List.replicate b.toNat blankC).getD j C4.no = blankC := fun j hj => by simp [List.getD, hj]
  have wa : IntKind.i64.wrap (a - 1) = a - 1 := wrap64 (by omega) (by omega)
  have wb : IntKind.i64.wrap (b - 1) = b - 1 := wrap64 (by omega) (by omega)
  rw [q1, q2, q3, p1, p2, wa, wb, near_min hd0 (by omega), near_min hr0 (by omega)]
  have hL : (Rws.c (newL a.toNat b.toNat blankC)).len = a.toNat := newL_length _ _ _
  have hNt : ∀ j : Nat, j < a.toNat → (Rws.c (newL a.toNat b.toNat blankC)).nAt j = b.toNat := fun j hj => by
    show ((newL a.toNat b.toNat blankC).getD j []).length = _
    rw [eR j hj]; simp
  have hS : (Rws.c (newL a.toNat b.toNat blankC)).sz = 4 := rfl
  refine ⟨hg, ⟨Int.le_refl 0, by omega⟩, fun x ⟨hx0, hx1⟩ => ⟨fun hlt => ?_, fun hge => ⟨fun _ h => by simp at h, fun h => by simp at h⟩⟩⟩
  rw [hL] at hlt
  have hj : x.toNat < a.toNat := by omega
  have hbl : x.toNat.blt a.toNat = true := by rw [Nat.blt_eq]; exact hj
  have hdx : decide (0 ≤ x ∧ x < ((a.toNat : Nat) : Int)) = true := decide_eq_true ⟨hx0, hlt⟩
  simp only [hL, hNt _ hj, hS, eR _ hj, hbl, hdx, Bool.true_and]
  refine ⟨⟨Int.le_refl 0, by omega⟩, fun y ⟨hy0, hy1⟩ => ⟨trivial, trivial, trivial, fun hly => ?_, fun hgy => ?_⟩⟩
  · have hjy : y.toNat < b.toNat := by omega
    have hby : y.toNat.blt b.toNat = true := by rw [Nat.blt_eq]; exact hjy
    have hdy : decide (0 ≤ y ∧ y < ((b.toNat : Nat) : Int)) = true := decide_eq_true ⟨hy0, hly⟩
    rw [eX _ hjy, List.length_replicate, hby, hdy, wrap64 (x := y + 1) (by omega) (by omega)]
    exact ⟨trivial, trivial, rfl, rfl, fun h => by simp [blankC] at h, fun _ => ⟨by omega, by omega⟩⟩
  · rw [wrap64 (x := x + 1) (by omega) (by omega)]
    exact ⟨by omega, by omega⟩
theorem law_moves {W : World} {vs : List Value} (hG : Gw W) (hp : IPDens (wholeH W) maxLen [.agg [.i .i64, .i .i64], .one (.i .i64), .one (.i .i64)] vs) : Calls Tryd.prog 4 vs.toArray W fun en W' => en = .returned (.bool true) ∧ Ext W W' := by
  simp only [IPDens, IP.den, IT.dens, it_s, it_i] at hp
  obtain ⟨_, _, rfl, ⟨us, rfl, _, _, rfl, ⟨a, rfl, _⟩, _, _, rfl, ⟨b, rfl, _⟩, rfl⟩, _, _, rfl, ⟨d, rfl, _⟩, _, _, rfl, ⟨r, rfl, _⟩, rfl⟩ := hp
  refine law_run (cfgM_ok a b d r (thU d) (bkU d) (thV d) (bkV d) (m1S a b d r) (m2S a b d r)) rfl Tryd.func4 [] (by simp) ?_ (run_moves a b d r (thU d) (bkU d) (thV d) (bkV d) (m1S a b d r) (m2S a b d r) rfl rfl rfl rfl rfl rfl) hG
  exact dl_cons (den_a (dl_cons den_v (dl_cons den_v dl_nil))) (dl_cons den_v (dl_cons den_v dl_nil))
end Go.Proofs.YtcbjgpkbfmmdpaaDoor
