/- What is wanted of the texts HaD, HaE, HbA, HbB, HbC, HbD, in one. -/
import Derived.Test.YtcbjgpkbfmmdpaaGreatDoorHpPa
set_option linter.unusedSimpArgs false
set_option linter.unusedVariables false
set_option linter.unusedSectionVars false
namespace Go.Proofs.YtcbjgpkbfmmdpaaGreatDoor
open Go Go.Sym
def fn (l : List (List C4)) (r c : Nat) : C4 := at2 l r c
theorem row_eq {l : List (List C4)} (h : GW l) {j : Nat} (hj : j < l.length) : l.getD j [] = (List.range (nC l)).map fun c => fn l j c := by
  have hr := h.row hj
  apply List.ext_getElem
  · simpa using hr
  · intro i h1 h2
    simp only [List.getElem_map, List.getElem_range, fn, at2, Int.toNat_natCast]
    have e : ∀ (q : List C4) (h : i < q.length), q[i] = q.getD i C4.no := fun q h => by rw [List.getD, List.getElem?_eq_getElem h]; rfl
    exact e _ h1
theorem grid_ext {l : List (List C4)} {R C : Nat} {f : Nat → Nat → C4} (h1 : l.length = R) (h2 : ∀ i, i < R → l.getD i [] = (List.range C).map (f i)) : l = gridF R C f := by
  apply List.ext_getElem
  · rw [gridF_length, h1]
  · intro i h3 h4
    have := h2 i (by omega)
    rw [List.getD, List.getElem?_eq_getElem h3] at this
    simp only [gridF, List.getElem_map, List.getElem_range]
    exact this
theorem fn_gridF {R C : Nat} {f : Nat → Nat → C4} {r c : Nat} (hr : r < R) (hc : c < C) : fn (gridF R C f) r c = f r c := gridF_at hr hc
theorem fn_self {l : List (List C4)} (h : GW l) : gridF l.length (nC l) (fn l) = l := gridF_self h
theorem grid_eq {l m : List (List C4)} (h : GW l) (h' : GW m) (h1 : l.length = m.length) (h2 : nC l = nC m) (h3 : ∀ r c, r < l.length → c < nC l → fn l r c = fn m r c) : l = m := by
  rw [← fn_self h, ← fn_self h', ← h1, ← h2]
  exact gridF_congr h3
def rollF (f : Nat → Nat → C4) (t b n : Int) (x : C4) (r c : Nat) : C4 := if t ≤ r ∧ r ≤ b then (if n ≤ b - r ∧ n ≥ t - r then f (r + n).toNat c else x) else f r c
theorem rollL_eq {l : List (List C4)} (hg : GW l) {t b n : Int} {x : C4} (ht : 0 ≤ t) (htb : t ≤ b) (hb : b < l.length) : rollL l t.toNat b.toNat n x = gridF l.length (nC l) (rollF (fn l) t b n x) := by
  refine grid_ext (mrg_length _ _ _ _) fun i hi => ?_
  have e : (rollL l t.toNat b.toNat n x).getD i [] = mrgAt l [] t.toNat (limL t.toNat (b.toNat + 1 - t.toNat) n (List.replicate (nC l) x)) i := by
    unfold rollL mrg
    rw [List.getD, List.getElem?_map, List.getElem?_range hi]; rfl
  rw [e]
  unfold mrgAt
  cases hc : Nat.blt i t.toNat with
  | true =>
    rw [Nat.blt_eq] at hc
    simp only
    rw [row_eq hg hi]
    refine List.map_congr_left fun c _ => ?_
    rw [rollF, if_neg (by omega)]
  | false =>
    have hc : ¬ i < t.toNat := by rw [← Nat.blt_eq, hc]; simp
    simp only
    by_cases hl : i - t.toNat < b.toNat + 1 - t.toNat
    · rw [limL_get hl]
      simp only
      unfold limAt1
      by_cases hq : n > ((b.toNat + 1 - t.toNat : Nat) : Int) - 1 - (i - t.toNat : Nat) ∨ n < -((i - t.toNat : Nat) : Int)
      · rw [if_pos hq]
        simp only
        apply List.ext_getElem
        · simp
        · intro c h1 h2
          simp only [List.getElem_replicate, List.getElem_map, List.getElem_range]
          rw [rollF, if_pos (by omega), if_neg (by omega)]
      · rw [if_neg hq]
        simp only
        rw [row_eq hg (by omega)]
        refine List.map_congr_left fun c _ => ?_
        rw [rollF, if_pos (by omega), if_pos (by omega)]
        congr 1; omega
    · rw [List.getElem?_eq_none (by rw [limL_length]; omega)]
      simp only
      rw [row_eq hg hi]
      refine List.map_congr_left fun c _ => ?_
      rw [rollF, if_neg (by omega)]
def setF (f : Nat → Nat → C4) (w a : Int) (x : C4) (r c : Nat) : C4 := if r = w ∧ c = a then x else f r c
theorem set2_eq {l : List (List C4)} (hg : GW l) {w a : Int} {x : C4} (hw : 0 ≤ w) (hw2 : w < l.length) (ha : 0 ≤ a) (hb : a < nC l) : set2 l w a x = gridF l.length (nC l) (setF (fn l) w a x) := by
  obtain ⟨i, rfl⟩ : ∃ i : Nat, w = i := ⟨w.toNat, by omega⟩
  obtain ⟨k, rfl⟩ : ∃ k : Nat, a = k := ⟨a.toNat, by omega⟩
  have e := gridF_set (f := fn l) (r := i) (c := k) (x := x) (R := l.length) (C := nC l) (by omega) (by omega)
  rw [fn_self hg] at e
  rw [e]
  refine gridF_congr fun r c _ _ => ?_
  unfold setF
  by_cases h : r = i ∧ c = k
  · rw [if_pos h, if_pos (by omega)]
  · rw [if_neg h, if_neg (by omega)]
section
variable {τ : Type} {I : Sym.Inv τ} {P : Program}
theorem lc_mono {g : FuncId} {lc lc' : ACon τ} (h : ∀ args H, (lc' args H).pre → (lc args H).pre ∧ ∀ x H' ws, (lc args H).has x H' ws → (lc' args H).has x H' ws) (hok : LCOk I P g lc) : LCOk I P g lc' := by
  intro args H e Fr w vs hpre hd hM
  obtain ⟨h1, h2⟩ := h args H hpre
  refine (hok args H e Fr w vs h1 hd hM).mono fun en w' hh => ?_
  obtain ⟨x, Hx, ws, e', v, g1, g2⟩ := hh
  exact ⟨x, Hx, ws, e', v, h2 _ _ _ g1, g2⟩
end
def lcAtIn : ACon Unit := mkLC (decP (shCons (shP 0) (shOne shI2)) shG) fun ((_, (r, c)), (oe, ⟨l, oe2, ep⟩)) => .ask (oe = oe2 ∧ GW l ∧ inB l r c = true) (.one (.t [cv (at2 l r c), .v (.int .i64 0)]) (gbi 0 oe ep l) [])
theorem ok_atIn : ∀ I : Sym.Inv Unit, LCOk I Tryz.prog 34 lcAtIn := fun I => lc_mono (fun args H hp => by
  unfold lcAtIn mkLC at hp ⊢
  unfold lcAt1 mkLC
  split at hp
  · rename_i a ha
    obtain ⟨⟨_, r, c⟩, oe, l, oe2, ep⟩ := a
    refine ⟨⟨⟨hp.1.1, hp.1.2.1⟩, ⟨fun _ => trivial, fun _ => trivial⟩⟩, fun x H' ws hh => ?_⟩
    rcases hh with ⟨_, h⟩ | ⟨h1, _⟩
    · exact h
    · rw [hp.1.2.2] at h1; cases h1
  · exact hp.elim) (ok_at1 I)
section
variable {l : List (List C4)}
theorem rollL_gw (hg : GW l) {t b n : Int} {x : C4} (ht : 0 ≤ t) (htb : t ≤ b) (hb : b < l.length) : GW (rollL l t.toNat b.toNat n x) ∧ (rollL l t.toNat b.toNat n x).length = l.length ∧ nC (rollL l t.toNat b.toNat n x) = nC l := by
  rw [rollL_eq hg ht htb hb]
  exact ⟨gridF_gw hg.r0 hg.r1 hg.c0 hg.c1, gridF_length _ _ _, gridF_nC (by have := hg.r0; omega)⟩
def upF (l : List (List C4)) (n : Int) (x : C4) : List (List C4) := rollL l 0 (l.length - 1) n x
theorem upF_gw (hg : GW l) (n : Int) (x : C4) : GW (upF l n x) ∧ (upF l n x).length = l.length ∧ nC (upF l n x) = nC l := by
  have h0 := hg.r0
  have := rollL_gw hg (t := 0) (b := ((l.length - 1 : Nat) : Int)) (n := n) (x := x) (by omega) (by omega) (by omega)
  exact this
theorem upF_at (hg : GW l) {n : Int} {x : C4} {r c : Nat} (hr : r < l.length) (hc : c < nC l) : fn (upF l n x) r c = rollF (fn l) 0 ((l.length : Int) - 1) n x r c := by
  have h0 := hg.r0
  have := rollL_eq hg (t := 0) (b := ((l.length - 1 : Nat) : Int)) (n := n) (x := x) (by omega) (by omega) (by omega)
  have e : upF l n x = gridF l.length (nC l) (rollF (fn l) 0 ((l.length - 1 : Nat) : Int) n x) := this
  rw [e, fn_gridF hr hc, show ((l.length - 1 : Nat) : Int) = (l.length : Int) - 1 by omega]
end
def tabB6 : List (Nat × ACon Unit) := (105, lcRoll) :: tabQ
theorem tabB6_ok : LCs Tryz.prog tabB6 := ⟨ok_roll, tabQ_ok⟩
def lcUp : ACon Unit := mkLC (decP (shCons (shP 0) (shCons shI (shOne shC))) shG) fun ((_, n, x), (oe, ⟨l, oe2, ep⟩)) => .ask (oe = oe2 ∧ GW l) (.one (.v (.int .i64 0)) (gbi 0 oe (ep + 1) (upF l n x)) [1])
set_option maxHeartbeats 4000000 in
theorem ok_up : ∀ I : Sym.Inv Unit, LCOk I Tryz.prog 84 lcUp := by
  refine lc_mk (fun _ => allCfg Tryz.prog [] tabB6 3) (fun _ _ => allCfg_ok mixed trivial tabB6_ok) (fun _ => rfl) (n := 80) Tryz.func84 ?_
  intro ⟨⟨_, n, x⟩, ⟨oe, ⟨l, oe2, ep⟩⟩⟩ hφ
  obtain ⟨⟨rfl, hg⟩, hp⟩ := id hφ
  refine kcast (B := (true = true ∧ (oe = oe ∧ GW l) ∧ true = true ∧ (oe = oe ∧ GW l) ∧ br (inB l (0 : Int) (0 : Int) && inB l (if (0 : Int) > IntKind.i64.wrap ((↑l.length : Int) - (1 : Int)) then (0 : Int) else IntKind.i64.wrap ((↑l.length : Int) - (1 : Int))) (0 :
 Int)) (br (decide ((if (0 : Int) > IntKind.i64.wrap ((↑l.length : Int) - (1 : Int)) then (0 : Int) else IntKind.i64.wrap ((↑l.length : Int) - (1 : Int))) < (0 : Int))) ((vI (1 : Int) = vI (0 : Int) ∧ True) ∧ (SV.h 1 [oe, 0] = SV.h 1 [oe, 0] ∧ True) ∧
 (oe = oe ∧ ep = ep + 1 ∧ l = upF l n x) ∧ True) ((vI (0 : Int) = vI (0 : Int) ∧ True) ∧ (SV.h 1 [oe, 0] = SV.h 1 [oe, 0] ∧ True) ∧ (oe = oe ∧ ep + 1 = ep + 1 ∧ rollL l (0 : Nat) (if (0 : Int) > IntKind.i64.wrap ((↑l.length : Int) - (1 : Int)) then (0
 : Int) else IntKind.i64.wrap ((↑l.length : Int) - (1 : Int))).toNat n (C4.mk x.g x.a x.gd x.m) = upF l n x) ∧ True)) ((vI (11 : Int) = vI (0 : Int) ∧ True) ∧ (SV.h 1 [oe, 0] = SV.h 1 [oe, 0] ∧ True) ∧ (oe = oe ∧ ep = ep + 1 ∧ l = upF l n x) ∧ True))) (by kernel_rfl) ?_
  clear hp hφ
  have h1 := hg.r0
  have h2 := hg.r1
  have h3 := hg.c0
  have e1 : (if (0 : Int) > IntKind.i64.wrap ((l.length : Int) - 1) then (0 : Int) else IntKind.i64.wrap ((l.length : Int) - 1)) = ((l.length - 1 : Nat) : Int) := by
    rw [wrap64 (by omega) (by omega), if_neg (by omega)]; omega
  have e2 : inB l 0 0 = true := by rw [inB_iff]; omega
  have e3 : inB l ((l.length - 1 : Nat) : Int) 0 = true := by rw [inB_iff]; omega
  have e4 : ¬ (((l.length - 1 : Nat) : Int) < 0) := by omega
  have e5 : ∀ y : C4, C4.mk y.g y.a y.gd y.m = y := fun _ => rfl
  simp only [e1]
  simp [br_iff, hg, e2, e3, e4, e5, upF]
def nearI (x n : Int) : Int := if (if n - 1 < x then n - 1 else x) > 0 then (if n - 1 < x then n - 1 else x) else 0
def lcNear1 : ACon Unit := mkLC (decP (shCons shI (shOne shI)) shHNil) fun ((x, n), _) => .ask (1 ≤ n ∧ n ≤ 255) (.one (.v (.int .i64 (nearI x n))) [] [])
set_option maxHeartbeats 4000000 in
theorem ok_near1 : ∀ I : Sym.Inv Unit, LCOk I Tryz.prog 63 lcNear1 := by
  refine lc_mk (fun _ => allCfg Tryz.prog [] [] 0) (fun _ _ => allCfg_ok mixed trivial trivial) (fun _ => rfl) (n := 60) Tryz.func63 ?_
  intro ⟨⟨x, n⟩, _⟩ hφ
  obtain ⟨⟨h1, h2⟩, hp⟩ := id hφ
  refine kcast (B := ((vI (if (if IntKind.i64.wrap (n - (1 : Int)) < x then IntKind.i64.wrap (n - (1 : Int)) else x) > (0 : Int) then if IntKind.i64.wrap (n - (1 : Int)) < x then IntKind.i64.wrap (n - (1 : Int)) else x else (0 : Int)) = vI (nearI x n) ∧ True) ∧ True)) (by kernel_rfl) ?_
  rw [wrap64 (x := n - 1) (by omega) (by omega)]
  exact ⟨⟨rfl, trivial⟩, trivial⟩
def lcNear : ACon Unit := mkLC (decP (shCons shI2 (shOne shI2)) shHNil) fun (((a, b), (r, c)), _) => .br (mayB a b) (.one (.a [.v (.int .i64 (nearI r a)), .v (.int .i64 (nearI c b))]) [] []) (.one (.a [.v (.int .i64 0), .v (.int .i64 0)]) [] [])
set_option maxHeartbeats 4000000 in
theorem ok_near : ∀ I : Sym.Inv Unit, LCOk I Tryz.prog 39 lcNear := by
  refine lc_mk (fun _ => allCfg Tryz.prog [] [(63, lcNear1), (59, lcMay)] 0) (fun _ _ => allCfg_ok mixed trivial ⟨ok_near1, ok_may, trivial⟩) (fun _ => rfl) (n := 60) Tryz.func39 ?_
  intro ⟨⟨⟨a, b⟩, ⟨r, c⟩⟩, _⟩ hφ
  refine kcast (B := (true = true ∧ br (mayB a b) (true = true ∧ ((1 : Int) ≤ a ∧ a ≤ (255 : Int)) ∧ true = true ∧ ((1 : Int) ≤ b ∧ b ≤ (255 : Int)) ∧ br (mayB a b) ((SV.a [vI (nearI r a), vI (nearI c b)] = SV.a [vI (nearI r a), vI (nearI c b)] ∧ True) ∧ True) ((SV.a [vI
 (nearI r a), vI (nearI c b)] = SV.a [vI (0 : Int), vI (0 : Int)] ∧ True) ∧ True)) (br (mayB a b) ((SV.a [vI (0 : Int), vI (0 : Int)] = SV.a [vI (nearI r a), vI (nearI c b)] ∧ True) ∧ True) ((SV.a [vI (0 : Int), vI (0 : Int)] = SV.a [vI (0 : Int), vI
 (0 : Int)] ∧ True) ∧ True)))) (by kernel_rfl) ?_
  cases h : mayB a b
  · simp only [br_iff, Bool.false_eq_true, false_implies, true_implies, true_and, and_true]
  · rw [mayB_iff] at h
    simp only [br_iff, Bool.true_eq_false, false_implies, true_implies, true_and, and_true]
    omega
def tabL : List (Nat × ACon Unit) := (63, lcNear1) :: (39, lcNear) :: tabB6
theorem tabL_ok : LCs Tryz.prog tabL := ⟨ok_near1, ok_near, tabB6_ok⟩
def upL (l : List (List C4)) (x : C4) : List (List C4) := rollL l 0 (l.length - 1) 1 x
def lcRise : ACon Unit := mkLC (decP (shCons (shP 0) (shCons shB (shOne shC))) shG) fun ((_, p, x), (oe, ⟨l, oe2, ep⟩)) => .ask (oe = oe2 ∧ GW l) (.br p (.one (.v (.int .i64 1)) (gbi 0 oe (ep + 1) (upL l x)) [1]) (.one (.v (.int .i64 0)) (gbi 0 oe ep l) [1]))
set_option maxHeartbeats 4000000 in
theorem ok_rise : ∀ I : Sym.Inv Unit, LCOk I Tryz.prog 100 lcRise := by
  refine lc_mk (fun _ => allCfg Tryz.prog [] tabL 0) (fun _ _ => allCfg_ok mixed trivial tabL_ok) (fun _ => rfl) (n := 60) Tryz.func100 ?_
  intro ⟨⟨_, p, x⟩, ⟨oe, ⟨l, oe2, ep⟩⟩⟩ hφ
  obtain ⟨⟨rfl, hg⟩, hp⟩ := id hφ
  refine kcast (B := (br (!p) (br p ((vI (0 : Int) = vI (1 : Int) ∧ True) ∧ (SV.h 1 [oe, 0] = SV.h 1 [oe, 0] ∧ True) ∧ (oe = oe ∧ ep = ep + 1 ∧ l = upL l x) ∧ True) ((vI (0 : Int) = vI (0 : Int) ∧ True) ∧ (SV.h 1 [oe, 0] = SV.h 1 [oe, 0] ∧ True) ∧ (oe = oe ∧ ep = ep ∧ l
 = l) ∧ True)) (true = true ∧ (oe = oe ∧ GW l) ∧ true = true ∧ (oe = oe ∧ GW l) ∧ br (inB l (0 : Int) (0 : Int) && inB l (if (0 : Int) > IntKind.i64.wrap ((↑l.length : Int) - (1 : Int)) then (0 : Int) else IntKind.i64.wrap ((↑l.length : Int) - (1 :
 Int))) (0 : Int)) (br (decide ((if (0 : Int) > IntKind.i64.wrap ((↑l.length : Int) - (1 : Int)) then (0 : Int) else IntKind.i64.wrap ((↑l.length : Int) - (1 : Int))) < (0 : Int))) (br p ((vI (1 : Int) = vI (1 : Int) ∧ True) ∧ (SV.h 1 [oe, 0] = SV.h 1
 [oe, 0] ∧ True) ∧ (oe = oe ∧ ep = ep + 1 ∧ l = upL l x) ∧ True) ((vI (1 : Int) = vI (0 : Int) ∧ True) ∧ (SV.h 1 [oe, 0] = SV.h 1 [oe, 0] ∧ True) ∧ (oe = oe ∧ ep = ep ∧ l = l) ∧ True)) (br p ((vI (1 : Int) = vI (1 : Int) ∧ True) ∧ (SV.h 1 [oe, 0] =
 SV.h 1 [oe, 0] ∧ True) ∧ (oe = oe ∧ ep + 1 = ep + 1 ∧ rollL l (0 : Nat) (if (0 : Int) > IntKind.i64.wrap ((↑l.length : Int) - (1 : Int)) then (0 : Int) else IntKind.i64.wrap ((↑l.length : Int) - (1 : Int))).toNat (1 : Int) (C4.mk x.g x.a x.gd x.m) =
 upL l x) ∧ True) ((vI (1 : Int) = vI (0 : Int) ∧ True) ∧ (SV.h 1 [oe, 0] = SV.h 1 [oe, 0] ∧ True) ∧ (oe = oe ∧ ep + 1 = ep ∧ rollL l (0 : Nat) (if (0 : Int) > IntKind.i64.wrap ((↑l.length : Int) - (1 : Int)) then (0 : Int) else IntKind.i64.wrap
 ((↑l.length : Int) - (1 : Int))).toNat (1 : Int) (C4.mk x.g x.a x.gd x.m) = l) ∧ True))) (br p ((vI (1 : Int) = vI (1 : Int) ∧ True) ∧ (SV.h 1 [oe, 0] = SV.h 1 [oe, 0] ∧ True) ∧ (oe = oe ∧ ep = ep + 1 ∧ l = upL l x) ∧ True) ((vI (1 : Int) = vI (0 :
 Int) ∧ True) ∧ (SV.h 1 [oe, 0] = SV.h 1 [oe, 0] ∧ True) ∧ (oe = oe ∧ ep = ep ∧ l = l) ∧ True))))) (by kernel_rfl) ?_
  clear hp hφ
  have h1 := hg.r0
  have h2 := hg.r1
  have h3 := hg.c0
  have e1 : (if (0 : Int) > IntKind.i64.wrap ((l.length : Int) - 1) then (0 : Int) else IntKind.i64.wrap ((l.length : Int) - 1)) = ((l.length - 1 : Nat) : Int) := by
    rw [wrap64 (by omega) (by omega), if_neg (by omega)]; omega
  have e2 : inB l 0 0 = true := by rw [inB_iff]; omega
  have e3 : inB l ((l.length - 1 : Nat) : Int) 0 = true := by rw [inB_iff]; omega
  have e4 : ¬ (((l.length - 1 : Nat) : Int) < 0) := by omega
  simp only [e1]
  cases p
  · simp [br_iff]
  · simp [br_iff, hg, e2, e3, e4, upL]
abbrev shPl : Sh (Int × Int × Bool) := shA (shCons shI (shCons shI (shOne shB)))
end Go.Proofs.YtcbjgpkbfmmdpaaGreatDoor
namespace Go.Proofs.YtcbjgpkbfmmdpaaGreatDoor
open Go Go.Sym
abbrev p2 (r c : Int) : SV := .a [.v (.int .i64 r), .v (.int .i64 c)]
abbrev pl3 (r c : Int) (p : Bool) : SV := .a [.v (.int .i64 r), .v (.int .i64 c), .v (.bool p)]
theorem near_bd {x n : Int} (h : 1 ≤ n) : 0 ≤ nearI x n ∧ nearI x n < n := by
  unfold nearI
  split <;> (try split) <;> omega
theorem near_in {x n : Int} (h0 : 0 ≤ x) (h1 : x < n) : nearI x n = x := by
  unfold nearI
  split <;> (try split) <;> omega
def lcNearIn : ACon Unit := mkLC (decP (shCons shI2 (shOne shI2)) shHNil) fun (((a, b), (r, c)), _) => .ask (mayB a b = true) (.one (p2 (nearI r a) (nearI c b)) [] [])
theorem ok_nearIn : ∀ I : Sym.Inv Unit, LCOk I Tryz.prog 39 lcNearIn := fun I => lc_mono (fun args H hp => by
  unfold lcNearIn mkLC at hp ⊢
  unfold lcNear mkLC
  split at hp
  · rename_i a ha
    obtain ⟨⟨⟨a, b⟩, ⟨r, c⟩⟩, _⟩ := a
    refine ⟨⟨fun _ => trivial, fun _ => trivial⟩, fun x H' ws hh => ?_⟩
    rcases hh with ⟨_, h⟩ | ⟨h1, _⟩
    · exact h
    · rw [hp.1] at h1; cases h1
  · exact hp.elim) (ok_near I)
def nxR (r a : Int) : Int := if a - 1 < r + 1 then a - 1 else r + 1
theorem nxR_bd {r a : Int} (h : 1 ≤ a) (h0 : 0 ≤ r) : 0 ≤ nxR r a ∧ nxR r a < a := by
  unfold nxR; split <;> omega
def lcNext : ACon Unit := mkLC (decP (shCons shI2 (shOne shI2)) shHNil) fun (((a, b), (r, c)), _) => .ask (mayB a b = true ∧ 0 ≤ r ∧ r < a) (.one (.t [p2 (nxR r a) 0, .v (.bool (nxR r a == r))]) [] [])
set_option maxHeartbeats 4000000 in
theorem ok_next : ∀ I : Sym.Inv Unit, LCOk I Tryz.prog 115 lcNext := by
  refine lc_mk (fun _ => allCfg Tryz.prog [] [] 0) (fun _ _ => allCfg_ok mixed trivial trivial) (fun _ => rfl) (n := 60) Tryz.func115 ?_
  intro ⟨⟨⟨a, b⟩, ⟨r, c⟩⟩, _⟩ hφ
  obtain ⟨⟨hm, h0, h1⟩, hp⟩ := id hφ
  refine kcast (B := ((SV.t [SV.a [vI (if IntKind.i64.wrap (a - (1 : Int)) < IntKind.i64.wrap (r + (1 : Int)) then IntKind.i64.wrap (a - (1 : Int)) else IntKind.i64.wrap (r + (1 : Int))), vI (0 : Int)], vB ((if IntKind.i64.wrap (a - (1 : Int)) < IntKind.i64.wrap (r + (1
 : Int)) then IntKind.i64.wrap (a - (1 : Int)) else IntKind.i64.wrap (r + (1 : Int))) == r)] = SV.t [SV.a [vI (nxR r a), vI (0 : Int)], vB (nxR r a == r)] ∧ True) ∧ True)) (by kernel_rfl) ?_
  clear hp hφ
  rw [mayB_iff] at hm
  rw [wrap64 (x := r + 1) (by omega) (by omega), wrap64 (x := a - 1) (by omega) (by omega)]
  simp [nxR]
def ahR (a r : Int) (p : Bool) : Int := if p = true then nxR (nearI r a) a else nearI r a
def ahC (b c : Int) (p : Bool) : Int := if p = true then 0 else nearI c b
def ahU (a r : Int) (p : Bool) : Bool := p && (nxR (nearI r a) a == nearI r a)
def tabF1 : List (Nat × ACon Unit) := (39, lcNearIn) :: (115, lcNext) :: (63, lcNear1) :: (59, lcMay) :: []
theorem tabF1_ok : LCs Tryz.prog tabF1 := ⟨ok_nearIn, ok_next, ok_near1, ok_may, trivial⟩
def lcAheadW : ACon Unit := mkLC (decP (shCons shI2 (shOne shPl)) shHNil) fun (((a, b), (r, c, p)), _) => .ask (mayB a b = true) (.one (.t [p2 (ahR a r p) (ahC b c p), .v (.bool (ahU a r p))]) [] [])
set_option maxHeartbeats 4000000 in
theorem ok_aheadW : ∀ I : Sym.Inv Unit, LCOk I Tryz.prog 99 lcAheadW := by
  refine lc_mk (fun _ => allCfg Tryz.prog [] tabF1 0) (fun _ _ => allCfg_ok mixed trivial tabF1_ok) (fun _ => rfl) (n := 60) Tryz.func99 ?_
  intro ⟨⟨⟨a, b⟩, ⟨r, c, p⟩⟩, _⟩ hφ
  obtain ⟨hm, hp⟩ := id hφ
  refine kcast (B := (true = true ∧ mayB a b = true ∧ br (!p) ((SV.t [SV.a [vI (nearI r a), vI (nearI c b)], vB false] = SV.t [SV.a [vI (ahR a r p), vI (ahC b c p)], vB (ahU a r p)] ∧ True) ∧ True) (true = true ∧ br (mayB a b) (true = true ∧ (mayB a b = true ∧ (0 : Int)
 ≤ nearI r a ∧ nearI r a < a) ∧ (SV.t [SV.a [vI (nxR (nearI r a) a), vI (0 : Int)], vB (nxR (nearI r a) a == nearI r a)] = SV.t [SV.a [vI (ahR a r p), vI (ahC b c p)], vB (ahU a r p)] ∧ True) ∧ True) ((SV.t [SV.a [vI (nearI r a), vI (nearI c b)], vB
 false] = SV.t [SV.a [vI (ahR a r p), vI (ahC b c p)], vB (ahU a r p)] ∧ True) ∧ True)))) (by kernel_rfl) ?_
  clear hp hφ
  have hm' := mayB_iff.1 hm
  have hb := near_bd (x := r) hm'.1
  cases p <;> simp [br_iff, hm, ahR, ahC, ahU, hb]
def bhIn (b c : Int) : Bool := decide (nearI c b < b - 1)
def bhR (a b r c w : Int) : Int := if bhIn b c = true then nearI r a else if w = 2 then nxR (nearI r a) a else nearI r a
def bhC (a b r c w : Int) : Int := if bhIn b c = true then nearI c b + 1 else if w = 2 then 0 else nearI c b
def bhP (a b r c w : Int) : Bool := !bhIn b c && (!(w == 1) && !(w == 2))
def bhU (a b r c w : Int) : Bool := !bhIn b c && ((w == 2) && (nxR (nearI r a) a == nearI r a))
def lcBehind : ACon Unit := mkLC (decP (shCons shI2 (shCons shI2 (shOne shI))) shHNil) fun (((a, b), (r, c), w), _) => .ask (mayB a b = true) (.one (.t [pl3 (bhR a b r c w) (bhC a b r c w) (bhP a b r c w), .v (.bool (bhU a b r c w))]) [] [])
set_option maxHeartbeats 4000000 in
theorem ok_behind : ∀ I : Sym.Inv Unit, LCOk I Tryz.prog 101 lcBehind := by
  refine lc_mk (fun _ => allCfg Tryz.prog [] tabF1 0) (fun _ _ => allCfg_ok mixed trivial tabF1_ok) (fun _ => rfl) (n := 60) Tryz.func101 ?_
  intro ⟨⟨⟨a, b⟩, ⟨r, c⟩, w⟩, _⟩ hφ
  obtain ⟨hm, hp⟩ := id hφ
  refine kcast (B := (true = true ∧ br (mayB a b) (true = true ∧ mayB a b = true ∧ br (decide (nearI c b < IntKind.i64.wrap (b - (1 : Int)))) ((SV.t [SV.a [vI (nearI r a), vI (IntKind.i64.wrap (nearI c b + (1 : Int))), vB false], vB false] = SV.t [SV.a [vI (bhR a b r c
 w), vI (bhC a b r c w), vB (bhP a b r c w)], vB (bhU a b r c w)] ∧ True) ∧ True) (br (w == (1 : Int)) ((SV.t [SV.a [vI (nearI r a), vI (nearI c b), vB false], vB false] = SV.t [SV.a [vI (bhR a b r c w), vI (bhC a b r c w), vB (bhP a b r c w)], vB
 (bhU a b r c w)] ∧ True) ∧ True) (br (w == (2 : Int)) (true = true ∧ (mayB a b = true ∧ (0 : Int) ≤ nearI r a ∧ nearI r a < a) ∧ (SV.t [SV.a [vI (nxR (nearI r a) a), vI (0 : Int), vB false], vB (nxR (nearI r a) a == nearI r a)] = SV.t [SV.a [vI (bhR
 a b r c w), vI (bhC a b r c w), vB (bhP a b r c w)], vB (bhU a b r c w)] ∧ True) ∧ True) ((SV.t [SV.a [vI (nearI r a), vI (nearI c b), vB true], vB false] = SV.t [SV.a [vI (bhR a b r c w), vI (bhC a b r c w), vB (bhP a b r c w)], vB (bhU a b r c w)]
 ∧ True) ∧ True)))) ((SV.t [SV.a [vI (0 : Int), vI (0 : Int), vB false], vB false] = SV.t [SV.a [vI (bhR a b r c w), vI (bhC a b r c w), vB (bhP a b r c w)], vB (bhU a b r c w)] ∧ True) ∧ True))) (by kernel_rfl) ?_
  clear hp hφ
  have hm' := mayB_iff.1 hm
  have hb := near_bd (x := r) hm'.1
  have hc := near_bd (x := c) (n := b) hm'.2.2.1
  rw [wrap64 (x := b - 1) (by omega) (by omega), wrap64 (x := nearI c b + 1) (by omega) (by omega)]
  by_cases h1 : nearI c b < b - 1
  · simp [br_iff, hm, bhR, bhC, bhP, bhU, bhIn, h1]
  · by_cases h2 : w = 1
    · subst h2; simp [br_iff, hm, bhR, bhC, bhP, bhU, bhIn, h1]
    · by_cases h3 : w = 2
      · subst h3; simp [br_iff, hm, bhR, bhC, bhP, bhU, bhIn, h1, hb]
      · simp [br_iff, hm, bhR, bhC, bhP, bhU, bhIn, h1, h2, h3]
def riL (l : List (List C4)) (p : Bool) (x : C4) : List (List C4) := if p = true then upF l 1 x else l
def riN (p : Bool) : Int := if p = true then 1 else 0
def riE (p : Bool) (ep : Nat) : Nat := if p = true then ep + 1 else ep
def lcRiseU : ACon Unit := mkLC (decP (shCons (shP 0) (shCons shB (shOne shC))) shG) fun ((_, p, x), (oe, ⟨l, oe2, ep⟩)) => .ask (oe = oe2 ∧ GW l) (.one (.v (.int .i64 (riN p))) (gbi 0 oe (riE p ep) (riL l p x)) [1])
theorem ok_riseU : ∀ I : Sym.Inv Unit, LCOk I Tryz.prog 100 lcRiseU := fun I => lc_mono (fun args H hp => by
  unfold lcRiseU mkLC at hp ⊢
  unfold lcRise mkLC
  split at hp
  · rename_i a ha
    obtain ⟨⟨_, p, x⟩, oe, l, oe2, ep⟩ := a
    refine ⟨⟨hp.1, ⟨fun _ => trivial, fun _ => trivial⟩⟩, fun x H' ws hh => ?_⟩
    rcases hh with ⟨h1, h⟩ | ⟨h1, h⟩ <;> (subst h1; exact h)
  · exact hp.elim) (ok_rise I)
def lcSetIn : ACon Unit := mkLC (decP (shCons (shP 0) (shCons shI2 (shOne shC))) shG) fun ((_, (r, c), x), (oe, ⟨l, oe2, ep⟩)) => .ask (oe = oe2 ∧ GW l ∧ inB l r c = true) (.one (.v (.int .i64 0)) (gbi 0 oe ep (set2 l r c x)) [1])
theorem ok_setIn : ∀ I : Sym.Inv Unit, LCOk I Tryz.prog 96 lcSetIn := fun I => lc_mono (fun args H hp => by
  unfold lcSetIn mkLC at hp ⊢
  unfold lcSet1 mkLC
  split at hp
  · rename_i a ha
    obtain ⟨⟨_, ⟨r, c⟩, x⟩, oe, l, oe2, ep⟩ := a
    refine ⟨⟨⟨hp.1.1, hp.1.2.1⟩, ⟨fun _ => trivial, fun _ => trivial⟩⟩, fun x H' ws hh => ?_⟩
    rcases hh with ⟨_, h⟩ | ⟨h1, _⟩
    · exact h
    · rw [hp.1.2.2] at h1; cases h1
  · exact hp.elim) (ok_set1 I)
theorem riL_gw {l : List (List C4)} (hg : GW l) (p : Bool) (x : C4) : GW (riL l p x) ∧ (riL l p x).length = l.length ∧ nC (riL l p x) = nC l := by
  unfold riL
  split
  · exact upF_gw hg 1 x
  · exact ⟨hg, rfl, rfl⟩
theorem ah_bd {a b r c : Int} {p : Bool} (ha : 1 ≤ a) (hb : 1 ≤ b) : 0 ≤ ahR a r p ∧ ahR a r p < a ∧ 0 ≤ ahC b c p ∧ ahC b c p < b := by
  have h1 := near_bd (x := r) ha
  have h2 := near_bd (x := c) hb
  have h3 := nxR_bd ha h1.1
  unfold ahR ahC
  split <;> omega
def puL1 (l : List (List C4)) (r c : Int) (p : Bool) (x y : C4) : List (List C4) :=
  set2 (riL l (ahU l.length r p) y) (ahR l.length r p) (ahC (nC l) c p) x
def puU (l : List (List C4)) (r c : Int) (p : Bool) (w : Int) : Bool := bhU l.length (nC l) (ahR l.length r p) (ahC (nC l) c p) w
def puL (l : List (List C4)) (r c : Int) (p : Bool) (x : C4) (w : Int) (y : C4) : List (List C4) := riL (puL1 l r c p x y) (puU l r c p w) y
def puPl (a b r c : Int) (p : Bool) (w : Int) : SV := pl3 (bhR a b (ahR a r p) (ahC b c p) w) (bhC a b (ahR a r p) (ahC b c p) w) (bhP a b (ahR a r p) (ahC b c p) w)
def puN (a b r c : Int) (p : Bool) (w : Int) : Int := riN (ahU a r p) + riN (bhU a b (ahR a r p) (ahC b c p) w)
def tabF2 : List (Nat × ACon Unit) := (99, lcAheadW) :: (101, lcBehind) :: (100, lcRiseU) :: (96, lcSetIn) :: (62, lcSize1) :: tabF1
theorem tabF2_ok : LCs Tryz.prog tabF2 := ⟨ok_aheadW, ok_behind, ok_riseU, ok_setIn, ok_size1, tabF1_ok⟩
def lcPut : ACon Unit := mkLC (decP (shCons (shP 0) (shCons shPl (shCons shC (shCons shI (shOne shC))))) shG) fun ((_, (r, c, p), x, w, y), (oe, ⟨l, oe2, ep⟩)) => .ask (oe = oe2 ∧ GW l)
  (.one (.t [puPl l.length (nC l) r c p w, .v (.int .i64 (puN l.length (nC l) r c p w)), .v (.int .i64 0)]) (gbi 0 oe (riE (puU l r c p w) (riE (ahU l.length r p) ep)) (puL l r c p x w y)) [1])
theorem puL1_gw {l : List (List C4)} (hg : GW l) (r c : Int) (p : Bool) (x y : C4) : inB (riL l (ahU l.length r p) y) (ahR l.length r p) (ahC (nC l) c p) = true ∧ GW (puL1 l r c p x y) ∧ (puL1 l r c p x y).length = l.length ∧ nC (puL1 l r c p x y) = nC l := by
  obtain ⟨g1, g2, g3⟩ := riL_gw hg (ahU l.length r p) y
  have h0 := hg.r0
  have h1 := hg.c0
  have hb := ah_bd (a := l.length) (b := nC l) (r := r) (c := c) (p := p) (by omega) (by omega)
  have hi : inB (riL l (ahU l.length r p) y) (ahR l.length r p) (ahC (nC l) c p) = true := by rw [inB_iff, g2, g3]; omega
  refine ⟨hi, ?_⟩
  unfold puL1
  rw [inB_iff] at hi
  rw [set2_eq g1 hi.1 hi.2.1 hi.2.2.1 hi.2.2.2, g2, g3]
  exact ⟨gridF_gw hg.r0 hg.r1 hg.c0 hg.c1, gridF_length _ _ _, gridF_nC (by omega)⟩
theorem riN_bd (p : Bool) : 0 ≤ riN p ∧ riN p ≤ 1 := by unfold riN; split <;> omega
set_option maxHeartbeats 4000000 in
theorem ok_put : ∀ I : Sym.Inv Unit, LCOk I Tryz.prog 81 lcPut := by
  refine lc_mk (fun _ => allCfg Tryz.prog [] tabF2 0) (fun _ _ => allCfg_ok mixed trivial tabF2_ok) (fun _ => rfl) (n := 80) Tryz.func81 ?_
  intro ⟨⟨_, ⟨r, c, p⟩, x, w, y⟩, ⟨oe, ⟨l, oe2, ep⟩⟩⟩ hφ
  obtain ⟨⟨rfl, hg⟩, hp⟩ := id hφ
  refine kcast (B := (true = true ∧ (oe = oe ∧ GW l) ∧ true = true ∧ mayB (↑l.length : Int) (↑(nC l) : Int) = true ∧ true = true ∧ (oe = oe ∧ GW l) ∧ true = true ∧ (oe = oe ∧ GW (riL l (ahU (↑l.length : Int) r p) (C4.mk y.g y.a y.gd y.m)) ∧ inB (riL l (ahU (↑l.length :
 Int) r p) (C4.mk y.g y.a y.gd y.m)) (ahR (↑l.length : Int) r p) (ahC (↑(nC l) : Int) c p) = true) ∧ true = true ∧ mayB (↑l.length : Int) (↑(nC l) : Int) = true ∧ true = true ∧ (oe = oe ∧ GW (set2 (riL l (ahU (↑l.length : Int) r p) (C4.mk y.g y.a y.gd
 y.m)) (ahR (↑l.length : Int) r p) (ahC (↑(nC l) : Int) c p) (C4.mk x.g x.a x.gd x.m))) ∧ (SV.t [SV.a [vI (bhR (↑l.length : Int) (↑(nC l) : Int) (ahR (↑l.length : Int) r p) (ahC (↑(nC l) : Int) c p) w), vI (bhC (↑l.length : Int) (↑(nC l) : Int) (ahR
 (↑l.length : Int) r p) (ahC (↑(nC l) : Int) c p) w), vB (bhP (↑l.length : Int) (↑(nC l) : Int) (ahR (↑l.length : Int) r p) (ahC (↑(nC l) : Int) c p) w)], vI (IntKind.i64.wrap (riN (ahU (↑l.length : Int) r p) + riN (bhU (↑l.length : Int) (↑(nC l) :
 Int) (ahR (↑l.length : Int) r p) (ahC (↑(nC l) : Int) c p) w))), vI (0 : Int)] = SV.t [SV.a [vI (bhR (↑l.length : Int) (↑(nC l) : Int) (ahR (↑l.length : Int) r p) (ahC (↑(nC l) : Int) c p) w), vI (bhC (↑l.length : Int) (↑(nC l) : Int) (ahR (↑l.length
 : Int) r p) (ahC (↑(nC l) : Int) c p) w), vB (bhP (↑l.length : Int) (↑(nC l) : Int) (ahR (↑l.length : Int) r p) (ahC (↑(nC l) : Int) c p) w)], vI (puN (↑l.length : Int) (↑(nC l) : Int) r c p w), vI (0 : Int)] ∧ True) ∧ (SV.h 1 [oe, 0] = SV.h 1 [oe,
 0] ∧ True) ∧ (oe = oe ∧ riE (bhU (↑l.length : Int) (↑(nC l) : Int) (ahR (↑l.length : Int) r p) (ahC (↑(nC l) : Int) c p) w) (riE (ahU (↑l.length : Int) r p) ep) = riE (puU l r c p w) (riE (ahU (↑l.length : Int) r p) ep) ∧ riL (set2 (riL l (ahU
 (↑l.length : Int) r p) (C4.mk y.g y.a y.gd y.m)) (ahR (↑l.length : Int) r p) (ahC (↑(nC l) : Int) c p) (C4.mk x.g x.a x.gd x.m)) (bhU (↑l.length : Int) (↑(nC l) : Int) (ahR (↑l.length : Int) r p) (ahC (↑(nC l) : Int) c p) w) (C4.mk y.g y.a y.gd y.m)
 = puL l r c p x w y) ∧ True)) (by kernel_rfl) ?_
  clear hp hφ
  have eta : ∀ y : C4, C4.mk y.g y.a y.gd y.m = y := fun _ => rfl
  simp only [eta]
  have h0 := hg.r0
  have h1 := hg.c0
  have hm : mayB l.length (nC l) = true := by
    have := hg.r1
    have := hg.c1
    rw [mayB_iff]; omega
  obtain ⟨g1, g2, g3⟩ := riL_gw hg (ahU l.length r p) y
  obtain ⟨p1, p2, p3, p4⟩ := puL1_gw hg r c p x y
  have n1 := riN_bd (ahU l.length r p)
  have n2 := riN_bd (bhU l.length (nC l) (ahR l.length r p) (ahC (nC l) c p) w)
  rw [wrap64 (x := riN (ahU l.length r p) + riN (bhU l.length (nC l) (ahR l.length r p) (ahC (nC l) c p) w)) (by omega) (by omega)]
  simp [br_iff, hg, hm, g1, g2, g3, p1, show GW (set2 (riL l (ahU l.length r p) y) (ahR l.length r p) (ahC (nC l) c p) x) from p2, puL, puU, puN, puL1]
end Go.Proofs.YtcbjgpkbfmmdpaaGreatDoor
namespace Go.Sym
open Go
def shAny : Sh Unit where
  enc _ := .any
  dec x := match x with
    | .any => some ()
    | _ => none
  ok x a h := by
    split at h
    · rfl
    · cases h
end Go.Sym
namespace Go.Proofs.YtcbjgpkbfmmdpaaGreatDoor
open Go Go.Sym
def cutF (n : Int) : Int := if (if (510 : Int) < n then (510 : Int) else n) > -510 then (if (510 : Int) < n then (510 : Int) else n) else -510
theorem cut_bd (n : Int) : -510 ≤ cutF n ∧ cutF n ≤ 510 := by unfold cutF; split <;> split <;> omega
theorem cut_in {n : Int} (h0 : -510 ≤ n) (h1 : n ≤ 510) : cutF n = n := by unfold cutF; split <;> split <;> omega
def lcCut : ACon Unit := mkLC (decP (shOne shI) shHNil) fun (n, _) => .one (.v (.int .i64 (cutF n))) [] []
set_option maxHeartbeats 4000000 in
theorem ok_cut : ∀ I : Sym.Inv Unit, LCOk I Tryz.prog 104 lcCut := by
  refine lc_mk (fun _ => allCfg Tryz.prog [] [] 0) (fun _ _ => allCfg_ok mixed trivial trivial) (fun _ => rfl) (n := 60) Tryz.func104 ?_
  intro ⟨n, _⟩ hφ
  refine kcast (B := ((vI (if (if (510 : Int) < n then (510 : Int) else n) > (-510 : Int) then if (510 : Int) < n then (510 : Int) else n else (-510 : Int)) = vI (cutF n) ∧ True) ∧ True)) (by kernel_rfl) ?_
  simp [cutF]
def stI (x n a : Int) : Int := nearI (nearI x a + cutF n) a
def tabS1 : List (Nat × ACon Unit) := (104, lcCut) :: tabF1
theorem tabS1_ok : LCs Tryz.prog tabS1 := ⟨ok_cut, tabF1_ok⟩
def lcStep : ACon Unit := mkLC (decP (shCons shI2 (shCons shPl (shCons shI (shOne shI)))) shHNil) fun (((a, b), (r, c, _), n, m), _) => .ask (mayB a b = true) (.one (pl3 (stI r n a) (stI c m b) false) [] [])
set_option maxHeartbeats 4000000 in
theorem ok_step : ∀ I : Sym.Inv Unit, LCOk I Tryz.prog 83 lcStep := by
  refine lc_mk (fun _ => allCfg Tryz.prog [] tabS1 0) (fun _ _ => allCfg_ok mixed trivial tabS1_ok) (fun _ => rfl) (n := 60) Tryz.func83 ?_
  intro ⟨⟨⟨a, b⟩, ⟨r, c, p⟩, n, m⟩, _⟩ hφ
  obtain ⟨hm, hp⟩ := id hφ
  refine kcast (B := (true = true ∧ mayB a b = true ∧ true = true ∧ true = true ∧ true = true ∧ mayB a b = true ∧ (SV.a [vI (nearI (IntKind.i64.wrap (nearI r a + cutF n)) a), vI (nearI (IntKind.i64.wrap (nearI c b + cutF m)) b), vB false] = SV.a [vI (stI r n a), vI (stI c m b), vB false] ∧ True) ∧ True)) (by kernel_rfl) ?_
  clear hp hφ
  have hm' := mayB_iff.1 hm
  have h1 := near_bd (x := r) (n := a) hm'.1
  have h2 := near_bd (x := c) (n := b) hm'.2.2.1
  have h3 := cut_bd n
  have h4 := cut_bd m
  rw [wrap64 (x := nearI r a + cutF n) (by omega) (by omega), wrap64 (x := nearI c b + cutF m) (by omega) (by omega)]
  simp [hm, stI]
abbrev SR := (Int × Int × Bool × Unit × Unit) × GB
def shScr (j : Nat) : ShH SR := shHCons (shCells (shCons shI (shCons shI (shCons shB (shCons (shP (j + 1)) (shOne shAny))))) 89) (shGi (j + 1))
def scrI (j : Nat) (r c : Int) (p : Bool) (oe ep : Nat) (l : List (List C4)) : List (SB Unit) := .cells [.v (.int .i64 r), .v (.int .i64 c), .v (.bool p), .p (j + 1) 0, .any] 89 :: gbi (j + 1) oe ep l
theorem gw_may {l : List (List C4)} (hg : GW l) : mayB l.length (nC l) = true := by
  have h0 := hg.r0
  have h1 := hg.r1
  have h2 := hg.c0
  have h3 := hg.c1
  rw [mayB_iff]; omega
def lcSSize : ACon Unit := mkLC (decP (shOne (shP 0)) (shScr 0)) fun (_, ((r, c, p, _, _), (oe, ⟨l, oe2, ep⟩))) => .ask (oe = oe2 ∧ GW l) (.one (p2 l.length (nC l)) (scrI 0 r c p oe ep l) [])
def tabG9 : List (Nat × ACon Unit) := (62, lcSize1) :: (83, lcStep) :: (81, lcPut) :: (61, lcWipe1) :: (84, lcUp) :: tabF1
theorem tabG9_ok : LCs Tryz.prog tabG9 := ⟨ok_size1, ok_step, ok_put, ok_wipe1, ok_up, tabF1_ok⟩
set_option maxHeartbeats 4000000 in
theorem ok_sSize : ∀ I : Sym.Inv Unit, LCOk I Tryz.prog 38 lcSSize := by
  refine lc_mk (fun _ => allCfg Tryz.prog [] tabG9 0) (fun _ _ => allCfg_ok mixed trivial tabG9_ok) (fun _ => rfl) (n := 60) Tryz.func38 ?_
  intro ⟨_, ⟨r, c, p, _, _⟩, oe, ⟨l, oe2, ep⟩⟩ hφ
  obtain ⟨⟨rfl, hg⟩, hp⟩ := id hφ
  refine kcast (B := (true = true ∧ (oe = oe ∧ GW l) ∧ (SV.a [vI (↑l.length : Int), vI (↑(nC l) : Int)] = SV.a [vI (↑l.length : Int), vI (↑(nC l) : Int)] ∧ True) ∧ (vI r = vI r ∧ vI c = vI c ∧ vB p = vB p ∧ SV.p 1 0 = SV.p 1 0 ∧ True) ∧ (SV.h 2 [oe, 0] = SV.h 2 [oe, 0] ∧ True) ∧ (oe = oe ∧ ep = ep ∧ l = l) ∧ True)) (by kernel_rfl) ?_
  simp [hg]
def lcCur : ACon Unit := mkLC (decP (shOne (shP 0)) (shScr 0)) fun (_, ((r, c, p, _, _), (oe, ⟨l, oe2, ep⟩))) => .one (.t [p2 r c, .v (.bool p)]) ((shScr 0).enc ((r, c, p, (), ()), (oe, ⟨l, oe2, ep⟩))) []
set_option maxHeartbeats 4000000 in
theorem ok_cur : ∀ I : Sym.Inv Unit, LCOk I Tryz.prog 16 lcCur := by
  refine lc_mk (fun _ => allCfg Tryz.prog [] tabG9 0) (fun _ _ => allCfg_ok mixed trivial tabG9_ok) (fun _ => rfl) (n := 60) Tryz.func16 ?_
  intro ⟨_, ⟨r, c, p, _, _⟩, oe, ⟨l, oe2, ep⟩⟩ hφ
  refine kcast (B := ((SV.t [SV.a [vI r, vI c], vB p] = SV.t [SV.a [vI r, vI c], vB p] ∧ True) ∧ (vI r = vI r ∧ vI c = vI c ∧ vB p = vB p ∧ SV.p 1 0 = SV.p 1 0 ∧ True) ∧ (SV.h 2 [oe, 0] = SV.h 2 [oe, 0] ∧ True) ∧ (oe2 = oe2 ∧ ep = ep ∧ l = l) ∧ True)) (by kernel_rfl) ?_
  simp
def tabH9 : List (Nat × ACon Unit) := (38, lcSSize) :: (16, lcCur) :: tabG9
theorem tabH9_ok : LCs Tryz.prog tabH9 := ⟨ok_sSize, ok_cur, tabG9_ok⟩
def lcMove : ACon Unit := mkLC (decP (shCons (shP 0) (shOne shI2)) (shScr 0)) fun ((_, (x, y)), ((r, c, p, _, _), (oe, ⟨l, oe2, ep⟩))) => .ask (oe = oe2 ∧ GW l) (.one (.t []) (scrI 0 (nearI x l.length) (nearI y (nC l)) false oe ep l) [0])
set_option maxHeartbeats 4000000 in
theorem ok_move : ∀ I : Sym.Inv Unit, LCOk I Tryz.prog 22 lcMove := by
  refine lc_mk (fun _ => allCfg Tryz.prog [] tabH9 0) (fun _ _ => allCfg_ok mixed trivial tabH9_ok) (fun _ => rfl) (n := 60) Tryz.func22 ?_
  intro ⟨⟨_, x, y⟩, ⟨r, c, p, _, _⟩, oe, ⟨l, oe2, ep⟩⟩ hφ
  obtain ⟨⟨rfl, hg⟩, hp⟩ := id hφ
  refine kcast (B := (true = true ∧ (oe = oe ∧ GW l) ∧ true = true ∧ mayB (↑l.length : Int) (↑(nC l) : Int) = true ∧ (SV.t [] = SV.t [] ∧ True) ∧ (vI (nearI x (↑l.length : Int)) = vI (nearI x (↑l.length : Int)) ∧ vI (nearI y (↑(nC l) : Int)) = vI (nearI y (↑(nC l) : Int)) ∧ vB false = vB false ∧ SV.p 1 0 = SV.p 1 0 ∧ True) ∧ (SV.h 2 [oe, 0] = SV.h 2 [oe, 0] ∧ True) ∧ (oe = oe ∧ ep = ep ∧ l = l) ∧ True)) (by kernel_rfl) ?_
  simp [hg, gw_may hg]
def lcSStep : ACon Unit := mkLC (decP (shCons (shP 0) (shCons shI (shOne shI))) (shScr 0)) fun ((_, x, y), ((r, c, p, _, _), (oe, ⟨l, oe2, ep⟩))) => .ask (oe = oe2 ∧ GW l) (.one (.t []) (scrI 0 (stI r x l.length) (stI c y (nC l)) false oe ep l) [0])
set_option maxHeartbeats 4000000 in
theorem ok_sStep : ∀ I : Sym.Inv Unit, LCOk I Tryz.prog 46 lcSStep := by
  refine lc_mk (fun _ => allCfg Tryz.prog [] tabH9 0) (fun _ _ => allCfg_ok mixed trivial tabH9_ok) (fun _ => rfl) (n := 60) Tryz.func46 ?_
  intro ⟨⟨_, x, y⟩, ⟨r, c, p, _, _⟩, oe, ⟨l, oe2, ep⟩⟩ hφ
  obtain ⟨⟨rfl, hg⟩, hp⟩ := id hφ
  refine kcast (B := (true = true ∧ (oe = oe ∧ GW l) ∧ true = true ∧ mayB (↑l.length : Int) (↑(nC l) : Int) = true ∧ [vI r, vI c, vB p, SV.p 1 0, SV.any] = [vI r, vI c, vB p, SV.p 1 0, SV.any] ∧ (SV.t [] = SV.t [] ∧ True) ∧ (vI (stI r x (↑l.length : Int)) = vI (stI r x
 (↑l.length : Int)) ∧ vI (stI c y (↑(nC l) : Int)) = vI (stI c y (↑(nC l) : Int)) ∧ vB false = vB false ∧ SV.p 1 0 = SV.p 1 0 ∧ True) ∧ (SV.h 2 [oe, 0] = SV.h 2 [oe, 0] ∧ True) ∧ (oe = oe ∧ ep = ep ∧ l = l) ∧ True)) (by kernel_rfl) ?_
  simp [hg, gw_may hg]
def blankC : C4 := ⟨32, 0, false, 0⟩
def feN (r n : Int) (a : Int) : Int := r + cutF n - (if (0 : Int) > (if a - 1 < r + cutF n then a - 1 else r + cutF n) then 0 else (if a - 1 < r + cutF n then a - 1 else r + cutF n))
def lcSFeed : ACon Unit := mkLC (decP (shCons (shP 0) (shOne shI)) (shScr 0)) fun ((_, n), ((r, c, p, _, _), (oe, ⟨l, oe2, ep⟩))) => .ask (oe = oe2 ∧ GW l ∧ 0 ≤ r ∧ r < 255)
  (.one (.t []) (scrI 0 (stI r (cutF n) l.length) (stI c 0 (nC l)) false oe (ep + 1) (upF l (feN r n l.length) blankC)) [0, 2])
set_option maxHeartbeats 4000000 in
theorem ok_sFeed : ∀ I : Sym.Inv Unit, LCOk I Tryz.prog 49 lcSFeed := by
  refine lc_mkD (fun _ => []) (fun _ => allCfg Tryz.prog [] tabH9 0) (fun _ _ => allCfg_ok mixed trivial tabH9_ok) (fun _ => rfl) (n := 60) Tryz.func49 ?_
  intro ⟨⟨_, n⟩, ⟨r, c, p, _, _⟩, oe, ⟨l, oe2, ep⟩⟩ hφ
  obtain ⟨⟨rfl, hg, h0, h1⟩, hp⟩ := id hφ
  refine kcast (B := (true = true ∧ (oe = oe ∧ GW l) ∧ true = true ∧ (oe = oe ∧ GW l) ∧ true = true ∧ (oe = oe ∧ GW (upF l (IntKind.i64.wrap (IntKind.i64.wrap (r + if (if (510 : Int) < n then (510 : Int) else n) > (-510 : Int) then if (510 : Int) < n then (510 : Int)
 else n else (-510 : Int)) - if (if IntKind.i64.wrap ((↑l.length : Int) - (1 : Int)) < IntKind.i64.wrap (r + if (if (510 : Int) < n then (510 : Int) else n) > (-510 : Int) then if (510 : Int) < n then (510 : Int) else n else (-510 : Int)) then
 IntKind.i64.wrap ((↑l.length : Int) - (1 : Int)) else IntKind.i64.wrap (r + if (if (510 : Int) < n then (510 : Int) else n) > (-510 : Int) then if (510 : Int) < n then (510 : Int) else n else (-510 : Int))) > (0 : Int) then if IntKind.i64.wrap
 ((↑l.length : Int) - (1 : Int)) < IntKind.i64.wrap (r + if (if (510 : Int) < n then (510 : Int) else n) > (-510 : Int) then if (510 : Int) < n then (510 : Int) else n else (-510 : Int)) then IntKind.i64.wrap ((↑l.length : Int) - (1 : Int)) else
 IntKind.i64.wrap (r + if (if (510 : Int) < n then (510 : Int) else n) > (-510 : Int) then if (510 : Int) < n then (510 : Int) else n else (-510 : Int)) else (0 : Int))) (C4.mk (32 : Int) (0 : Int) false (0 : Int)))) ∧ true = true ∧ mayB (↑(upF l
 (IntKind.i64.wrap (IntKind.i64.wrap (r + if (if (510 : Int) < n then (510 : Int) else n) > (-510 : Int) then if (510 : Int) < n then (510 : Int) else n else (-510 : Int)) - if (if IntKind.i64.wrap ((↑l.length : Int) - (1 : Int)) < IntKind.i64.wrap (r
 + if (if (510 : Int) < n then (510 : Int) else n) > (-510 : Int) then if (510 : Int) < n then (510 : Int) else n else (-510 : Int)) then IntKind.i64.wrap ((↑l.length : Int) - (1 : Int)) else IntKind.i64.wrap (r + if (if (510 : Int) < n then (510 :
 Int) else n) > (-510 : Int) then if (510 : Int) < n then (510 : Int) else n else (-510 : Int))) > (0 : Int) then if IntKind.i64.wrap ((↑l.length : Int) - (1 : Int)) < IntKind.i64.wrap (r + if (if (510 : Int) < n then (510 : Int) else n) > (-510 :
 Int) then if (510 : Int) < n then (510 : Int) else n else (-510 : Int)) then IntKind.i64.wrap ((↑l.length : Int) - (1 : Int)) else IntKind.i64.wrap (r + if (if (510 : Int) < n then (510 : Int) else n) > (-510 : Int) then if (510 : Int) < n then (510
 : Int) else n else (-510 : Int)) else (0 : Int))) (C4.mk (32 : Int) (0 : Int) false (0 : Int))).length : Int) (↑(nC (upF l (IntKind.i64.wrap (IntKind.i64.wrap (r + if (if (510 : Int) < n then (510 : Int) else n) > (-510 : Int) then if (510 : Int) < n
 then (510 : Int) else n else (-510 : Int)) - if (if IntKind.i64.wrap ((↑l.length : Int) - (1 : Int)) < IntKind.i64.wrap (r + if (if (510 : Int) < n then (510 : Int) else n) > (-510 : Int) then if (510 : Int) < n then (510 : Int) else n else (-510 :
 Int)) then IntKind.i64.wrap ((↑l.length : Int) - (1 : Int)) else IntKind.i64.wrap (r + if (if (510 : Int) < n then (510 : Int) else n) > (-510 : Int) then if (510 : Int) < n then (510 : Int) else n else (-510 : Int))) > (0 : Int) then if
 IntKind.i64.wrap ((↑l.length : Int) - (1 : Int)) < IntKind.i64.wrap (r + if (if (510 : Int) < n then (510 : Int) else n) > (-510 : Int) then if (510 : Int) < n then (510 : Int) else n else (-510 : Int)) then IntKind.i64.wrap ((↑l.length : Int) - (1 :
 Int)) else IntKind.i64.wrap (r + if (if (510 : Int) < n then (510 : Int) else n) > (-510 : Int) then if (510 : Int) < n then (510 : Int) else n else (-510 : Int)) else (0 : Int))) (C4.mk (32 : Int) (0 : Int) false (0 : Int)))) : Int) = true ∧ [vI r,
 vI c, vB p, SV.p 1 0, SV.any] = [vI r, vI c, vB p, SV.p 1 0, SV.any] ∧ (SV.t [] = SV.t [] ∧ True) ∧ (vI (stI r (if (if (510 : Int) < n then (510 : Int) else n) > (-510 : Int) then if (510 : Int) < n then (510 : Int) else n else (-510 : Int)) (↑(upF l
 (IntKind.i64.wrap (IntKind.i64.wrap (r + if (if (510 : Int) < n then (510 : Int) else n) > (-510 : Int) then if (510 : Int) < n then (510 : Int) else n else (-510 : Int)) - if (if IntKind.i64.wrap ((↑l.length : Int) - (1 : Int)) < IntKind.i64.wrap (r
 + if (if (510 : Int) < n then (510 : Int) else n) > (-510 : Int) then if (510 : Int) < n then (510 : Int) else n else (-510 : Int)) then IntKind.i64.wrap ((↑l.length : Int) - (1 : Int)) else IntKind.i64.wrap (r + if (if (510 : Int) < n then (510 :
 Int) else n) > (-510 : Int) then if (510 : Int) < n then (510 : Int) else n else (-510 : Int))) > (0 : Int) then if IntKind.i64.wrap ((↑l.length : Int) - (1 : Int)) < IntKind.i64.wrap (r + if (if (510 : Int) < n then (510 : Int) else n) > (-510 :
 Int) then if (510 : Int) < n then (510 : Int) else n else (-510 : Int)) then IntKind.i64.wrap ((↑l.length : Int) - (1 : Int)) else IntKind.i64.wrap (r + if (if (510 : Int) < n then (510 : Int) else n) > (-510 : Int) then if (510 : Int) < n then (510
 : Int) else n else (-510 : Int)) else (0 : Int))) (C4.mk (32 : Int) (0 : Int) false (0 : Int))).length : Int)) = vI (stI r (cutF n) (↑l.length : Int)) ∧ vI (stI c (0 : Int) (↑(nC (upF l (IntKind.i64.wrap (IntKind.i64.wrap (r + if (if (510 : Int) < n
 then (510 : Int) else n) > (-510 : Int) then if (510 : Int) < n then (510 : Int) else n else (-510 : Int)) - if (if IntKind.i64.wrap ((↑l.length : Int) - (1 : Int)) < IntKind.i64.wrap (r + if (if (510 : Int) < n then (510 : Int) else n) > (-510 :
 Int) then if (510 : Int) < n then (510 : Int) else n else (-510 : Int)) then IntKind.i64.wrap ((↑l.length : Int) - (1 : Int)) else IntKind.i64.wrap (r + if (if (510 : Int) < n then (510 : Int) else n) > (-510 : Int) then if (510 : Int) < n then (510
 : Int) else n else (-510 : Int))) > (0 : Int) then if IntKind.i64.wrap ((↑l.length : Int) - (1 : Int)) < IntKind.i64.wrap (r + if (if (510 : Int) < n then (510 : Int) else n) > (-510 : Int) then if (510 : Int) < n then (510 : Int) else n else (-510 :
 Int)) then IntKind.i64.wrap ((↑l.length : Int) - (1 : Int)) else IntKind.i64.wrap (r + if (if (510 : Int) < n then (510 : Int) else n) > (-510 : Int) then if (510 : Int) < n then (510 : Int) else n else (-510 : Int)) else (0 : Int))) (C4.mk (32 :
 Int) (0 : Int) false (0 : Int)))) : Int)) = vI (stI c (0 : Int) (↑(nC l) : Int)) ∧ vB false = vB false ∧ SV.p 1 0 = SV.p 1 0 ∧ True) ∧ (SV.h 2 [oe, 0] = SV.h 2 [oe, 0] ∧ True) ∧ (oe = oe ∧ ep + 1 = ep + 1 ∧ upF l (IntKind.i64.wrap (IntKind.i64.wrap
 (r + if (if (510 : Int) < n then (510 : Int) else n) > (-510 : Int) then if (510 : Int) < n then (510 : Int) else n else (-510 : Int)) - if (if IntKind.i64.wrap ((↑l.length : Int) - (1 : Int)) < IntKind.i64.wrap (r + if (if (510 : Int) < n then (510
 : Int) else n) > (-510 : Int) then if (510 : Int) < n then (510 : Int) else n else (-510 : Int)) then IntKind.i64.wrap ((↑l.length : Int) - (1 : Int)) else IntKind.i64.wrap (r + if (if (510 : Int) < n then (510 : Int) else n) > (-510 : Int) then if
 (510 : Int) < n then (510 : Int) else n else (-510 : Int))) > (0 : Int) then if IntKind.i64.wrap ((↑l.length : Int) - (1 : Int)) < IntKind.i64.wrap (r + if (if (510 : Int) < n then (510 : Int) else n) > (-510 : Int) then if (510 : Int) < n then (510
 : Int) else n else (-510 : Int)) then IntKind.i64.wrap ((↑l.length : Int) - (1 : Int)) else IntKind.i64.wrap (r + if (if (510 : Int) < n then (510 : Int) else n) > (-510 : Int) then if (510 : Int) < n then (510 : Int) else n else (-510 : Int)) else
 (0 : Int))) (C4.mk (32 : Int) (0 : Int) false (0 : Int)) = upF l (feN r n (↑l.length : Int)) blankC) ∧ True)) (by kernel_rfl) ?_
  clear hp hφ
  have e0 : (if (if (510 : Int) < n then (510 : Int) else n) > (-510 : Int) then (if (510 : Int) < n then (510 : Int) else n) else (-510 : Int)) = cutF n := rfl
  have hc := cut_bd n
  have hl0 := hg.r0
  have hl1 := hg.r1
  simp only [e0]
  rw [wrap64 (x := r + cutF n) (by omega) (by omega), wrap64 (x := (l.length : Int) - 1) (by omega) (by omega), wrap64 (x := r + cutF n - _) (by split <;> split <;> omega) (by split <;> split <;> omega)]
  have eN : feN r n l.length = r + cutF n - (if (if (l.length : Int) - 1 < r + cutF n then (l.length : Int) - 1 else r + cutF n) > 0 then (if (l.length : Int) - 1 < r + cutF n then (l.length : Int) - 1 else r + cutF n) else 0) := by
    unfold feN; split <;> split <;> split <;> omega
  rw [← eN]
  obtain ⟨g1, g2, g3⟩ := upF_gw hg (feN r n l.length) blankC
  have hm := gw_may hg
  simp only [blankC] at g1 g2 g3 ⊢
  simp [hg, g1, g2, g3, hm]
def tabI9 : List (Nat × ACon Unit) := (22, lcMove) :: (46, lcSStep) :: (49, lcSFeed) :: tabH9
theorem tabI9_ok : LCs Tryz.prog tabI9 := ⟨ok_move, ok_sStep, ok_sFeed, tabH9_ok⟩
def lcSPut : ACon Unit := mkLC (decP (shCons (shP 0) (shCons shC (shCons shI (shOne shB)))) (shScr 0)) fun ((_, x, w, g), ((r, c, p, _, _), (oe, ⟨l, oe2, ep⟩))) => .ask (oe = oe2 ∧ g = false ∧ GW l)
  (.one (.t []) (scrI 0 (bhR l.length (nC l) (ahR l.length r p) (ahC (nC l) c p) w) (bhC l.length (nC l) (ahR l.length r p) (ahC (nC l) c p) w) (bhP l.length (nC l) (ahR l.length r p) (ahC (nC l) c p) w) oe (riE (puU l r c p w) (riE (ahU l.length r p) ep)) (puL l r c p x w blankC)) [0, 2])
set_option maxHeartbeats 4000000 in
theorem ok_sPut : ∀ I : Sym.Inv Unit, LCOk I Tryz.prog 43 lcSPut := by
  refine lc_mk (fun _ => allCfg Tryz.prog [] tabI9 0) (fun _ _ => allCfg_ok mixed trivial tabI9_ok) (fun _ => rfl) (n := 60) Tryz.func43 ?_
  intro ⟨⟨_, x, w, g⟩, ⟨r, c, p, _, _⟩, oe, ⟨l, oe2, ep⟩⟩ hφ
  obtain ⟨⟨rfl, rfl, hg⟩, hp⟩ := id hφ
  refine kcast (B := (true = true ∧ (oe = oe ∧ GW l) ∧ (SV.t [] = SV.t [] ∧ True) ∧ (vI (bhR (↑l.length : Int) (↑(nC l) : Int) (ahR (↑l.length : Int) r p) (ahC (↑(nC l) : Int) c p) w) = vI (bhR (↑l.length : Int) (↑(nC l) : Int) (ahR (↑l.length : Int) r p) (ahC (↑(nC l) :
 Int) c p) w) ∧ vI (bhC (↑l.length : Int) (↑(nC l) : Int) (ahR (↑l.length : Int) r p) (ahC (↑(nC l) : Int) c p) w) = vI (bhC (↑l.length : Int) (↑(nC l) : Int) (ahR (↑l.length : Int) r p) (ahC (↑(nC l) : Int) c p) w) ∧ vB (bhP (↑l.length : Int) (↑(nC
 l) : Int) (ahR (↑l.length : Int) r p) (ahC (↑(nC l) : Int) c p) w) = vB (bhP (↑l.length : Int) (↑(nC l) : Int) (ahR (↑l.length : Int) r p) (ahC (↑(nC l) : Int) c p) w) ∧ SV.p 1 0 = SV.p 1 0 ∧ True) ∧ (SV.h 2 [oe, 0] = SV.h 2 [oe, 0] ∧ True) ∧ (oe =
 oe ∧ riE (puU l r c p w) (riE (ahU (↑l.length : Int) r p) ep) = riE (puU l r c p w) (riE (ahU (↑l.length : Int) r p) ep) ∧ puL l r c p (C4.mk x.g x.a x.gd x.m) w (C4.mk (32 : Int) (0 : Int) false (0 : Int)) = puL l r c p x w blankC) ∧ True)) (by kernel_rfl) ?_
  clear hp hφ
  have eta : ∀ y : C4, C4.mk y.g y.a y.gd y.m = y := fun _ => rfl
  simp [hg, eta, blankC]
def wiL (l : List (List C4)) (fr fc tr tc : Int) (x : C4) (g : Bool) : List (List C4) := if tuOk l fr fc tr tc = true then turnL l fr fc tr tc (hWipe x g) else l
def lcSWipe : ACon Unit := mkLC (decP (shCons (shP 0) (shCons shI2 (shCons shI2 (shCons shC (shOne shB))))) (shScr 0)) fun ((_, (fr, fc), (tr, tc), x, g), ((r, c, p, _, _), (oe, ⟨l, oe2, ep⟩))) => .ask (oe = oe2 ∧ GW l)
  (.one (.t []) (scrI 0 r c p oe ep (wiL l (nearI fr l.length) (nearI fc (nC l)) (nearI tr l.length) (nearI tc (nC l)) x g)) [2])
set_option maxHeartbeats 4000000 in
theorem ok_sWipe : ∀ I : Sym.Inv Unit, LCOk I Tryz.prog 37 lcSWipe := by
  refine lc_mk (fun _ => allCfg Tryz.prog [] tabI9 0) (fun _ _ => allCfg_ok mixed trivial tabI9_ok) (fun _ => rfl) (n := 60) Tryz.func37 ?_
  intro ⟨⟨_, ⟨fr, fc⟩, ⟨tr, tc⟩, x, g⟩, ⟨r, c, p, _, _⟩, oe, ⟨l, oe2, ep⟩⟩ hφ
  obtain ⟨⟨rfl, hg⟩, hp⟩ := id hφ
  refine kcast (B := (true = true ∧ (oe = oe ∧ GW l) ∧ true = true ∧ mayB (↑l.length : Int) (↑(nC l) : Int) = true ∧ true = true ∧ (oe = oe ∧ GW l) ∧ true = true ∧ mayB (↑l.length : Int) (↑(nC l) : Int) = true ∧ true = true ∧ (oe = oe ∧ GW l) ∧ br (tuOk l (nearI fr
 (↑l.length : Int)) (nearI fc (↑(nC l) : Int)) (nearI tr (↑l.length : Int)) (nearI tc (↑(nC l) : Int))) ([vI r, vI c, vB p, SV.p 1 0, SV.any] = [vI r, vI c, vB p, SV.p 1 0, SV.any] ∧ [vI r, vI c, vB p, SV.p 1 0, SV.any] = [vI r, vI c, vB p, SV.p 1 0,
 SV.any] ∧ (SV.t [] = SV.t [] ∧ True) ∧ (vI r = vI r ∧ vI c = vI c ∧ vB p = vB p ∧ SV.p 1 0 = SV.p 1 0 ∧ True) ∧ (SV.h 2 [oe, 0] = SV.h 2 [oe, 0] ∧ True) ∧ (oe = oe ∧ ep = ep ∧ turnL l (nearI fr (↑l.length : Int)) (nearI fc (↑(nC l) : Int)) (nearI tr
 (↑l.length : Int)) (nearI tc (↑(nC l) : Int)) (hWipe (C4.mk x.g x.a x.gd x.m) g) = wiL l (nearI fr (↑l.length : Int)) (nearI fc (↑(nC l) : Int)) (nearI tr (↑l.length : Int)) (nearI tc (↑(nC l) : Int)) x g) ∧ True) ([vI r, vI c, vB p, SV.p 1 0,
 SV.any] = [vI r, vI c, vB p, SV.p 1 0, SV.any] ∧ [vI r, vI c, vB p, SV.p 1 0, SV.any] = [vI r, vI c, vB p, SV.p 1 0, SV.any] ∧ (SV.t [] = SV.t [] ∧ True) ∧ (vI r = vI r ∧ vI c = vI c ∧ vB p = vB p ∧ SV.p 1 0 = SV.p 1 0 ∧ True) ∧ (SV.h 2 [oe, 0] =
 SV.h 2 [oe, 0] ∧ True) ∧ (oe = oe ∧ ep = ep ∧ l = wiL l (nearI fr (↑l.length : Int)) (nearI fc (↑(nC l) : Int)) (nearI tr (↑l.length : Int)) (nearI tc (↑(nC l) : Int)) x g) ∧ True))) (by kernel_rfl) ?_
  clear hp hφ
  have eta : ∀ y : C4, C4.mk y.g y.a y.gd y.m = y := fun _ => rfl
  have hm := gw_may hg
  cases h : tuOk l (nearI fr l.length) (nearI fc (nC l)) (nearI tr l.length) (nearI tc (nC l)) <;> simp [br_iff, hg, hm, eta, wiL, h]
def lcSAt : ACon Unit := mkLC (decP (shCons (shP 0) (shOne shI2)) (shScr 0)) fun ((_, (x, y)), ((r, c, p, _, _), (oe, ⟨l, oe2, ep⟩))) => .ask (oe = oe2 ∧ GW l ∧ inB l x y = true) (.one (.t [cv (at2 l x y), .v (.int .i64 0)]) (scrI 0 r c p oe ep l) [])
def tabJ9 : List (Nat × ACon Unit) := (34, lcAtIn) :: (55, lcRows1) :: (35, lcNew) :: tabI9
theorem tabJ9_ok : LCs Tryz.prog tabJ9 := ⟨ok_atIn, ok_rows1, ok_new, tabI9_ok⟩
set_option maxHeartbeats 4000000 in
theorem ok_sAt : ∀ I : Sym.Inv Unit, LCOk I Tryz.prog 15 lcSAt := by
  refine lc_mk (fun _ => allCfg Tryz.prog [] tabJ9 0) (fun _ _ => allCfg_ok mixed trivial tabJ9_ok) (fun _ => rfl) (n := 60) Tryz.func15 ?_
  intro ⟨⟨_, x, y⟩, ⟨r, c, p, _, _⟩, oe, ⟨l, oe2, ep⟩⟩ hφ
  obtain ⟨⟨rfl, hg, hi⟩, hp⟩ := id hφ
  refine kcast (B := (true = true ∧ (oe = oe ∧ GW l ∧ inB l x y = true) ∧ (SV.t [SV.a [SV.v (Value.int IntKind.i32 (at2 l x y).g), vI (at2 l x y).a, vB (at2 l x y).gd, vI (at2 l x y).m], vI (0 : Int)] = SV.t [SV.a [SV.v (Value.int IntKind.i32 (at2 l x y).g), vI (at2 l x
 y).a, vB (at2 l x y).gd, vI (at2 l x y).m], vI (0 : Int)] ∧ True) ∧ (vI r = vI r ∧ vI c = vI c ∧ vB p = vB p ∧ SV.p 1 0 = SV.p 1 0 ∧ True) ∧ (SV.h 2 [oe, 0] = SV.h 2 [oe, 0] ∧ True) ∧ (oe = oe ∧ ep = ep ∧ l = l) ∧ True)) (by kernel_rfl) ?_
  simp [hg, hi]
def lcSRows : ACon Unit := mkLC (decP (shOne (shP 0)) (shScr 0)) fun (_, ((r, c, p, _, _), (oe, ⟨l, oe2, ep⟩))) => .ask (oe = oe2 ∧ GW l) (.one (.h 4 [0, 0]) (scrI 0 r c p oe ep l ++ [.gone, .rows (.c l) 45 105 0 (l.length * nC l + 1) none]) [])
set_option maxHeartbeats 4000000 in
theorem ok_sRows : ∀ I : Sym.Inv Unit, LCOk I Tryz.prog 30 lcSRows := by
  refine lc_mk (fun _ => allCfg Tryz.prog [] tabJ9 0) (fun _ _ => allCfg_ok mixed trivial tabJ9_ok) (fun _ => rfl) (n := 60) Tryz.func30 ?_
  intro ⟨_, ⟨r, c, p, _, _⟩, oe, ⟨l, oe2, ep⟩⟩ hφ
  obtain ⟨⟨rfl, hg⟩, hp⟩ := id hφ
  refine kcast (B := (true = true ∧ (oe = oe ∧ GW l) ∧ (SV.h 4 [0, 0] = SV.h 4 [0, 0] ∧ True) ∧ (vI r = vI r ∧ vI c = vI c ∧ vB p = vB p ∧ SV.p 1 0 = SV.p 1 0 ∧ True) ∧ (SV.h 2 [oe, 0] = SV.h 2 [oe, 0] ∧ True) ∧ (oe = oe ∧ ep = ep ∧ l = l) ∧ True ∧ ((0 : Nat) = (0 : Nat) ∧ l.length * nC l + (1 : Nat) = l.length * nC l + (1 : Nat) ∧ l = l) ∧ True)) (by kernel_rfl) ?_
  simp [hg]
end Go.Proofs.YtcbjgpkbfmmdpaaGreatDoor
namespace Go.Proofs.YtcbjgpkbfmmdpaaGreatDoor
open Go Go.Sym
theorem tmod_emod {a : Int} {m : Nat} (h : 0 ≤ a) : a.tmod (m : Int) = a % (m : Int) := Int.tmod_eq_emod_of_nonneg h
abbrev QB := (Nat × Int × Int × Bool) × OI
def shQi (j : Nat) : ShH QB := shHCons (shCells (shCons (shO j) (shCons shI (shCons shI (shOne shB)))) 82) (shHOne (shOwnI .u8 5 true))
def shQ : ShH QB := shQi 1
structure QWf (fr n : Int) (xs : List Int) (m : Nat) : Prop where
  len : xs.length = m
  most : m ≤ 4096
  fr0 : 0 ≤ fr
  frm : fr < m ∨ (m = 0 ∧ fr = 0)
  n0 : 0 ≤ n
  nm : n ≤ m
  bytes : ∀ x ∈ xs, 0 ≤ x ∧ x ≤ 255
def bqi (j ep : Nat) (fr n : Int) (ov : Bool) (xs : List Int) (m : Nat) : List (SB Unit) := (shQi j).enc ((ep, fr, n, ov), ⟨xs, m, ep⟩)
def bq (ep : Nat) (fr n : Int) (ov : Bool) (xs : List Int) (m : Nat) : List (SB Unit) := shQ.enc ((ep, fr, n, ov), ⟨xs, m, ep⟩)
def altQput : (Unit × Int) × QB → Alt Unit := fun (((), x), ((ep, fr, n, ov), ⟨xs, m, ep2⟩)) =>
  .ask (ep = ep2 ∧ QWf fr n xs m ∧ n < m ∧ 0 ≤ x ∧ x ≤ 255) (.one (.t []) (bq ep fr (n + 1) ov (xs.set ((fr + n) % m).toNat x) m) [0, 1])
def lcQput : ACon Unit := mkLC (decP (shCons (shP 0) (shOne (shInt .u8))) shQ) altQput
set_option maxHeartbeats 4000000 in
theorem ok_qput : ∀ I : Sym.Inv Unit, LCOk I Tryz.prog 94 lcQput := by
  refine lc_mk (fun _ => allCfg Tryz.prog [] [] 0) (fun _ _ => allCfg_ok mixed trivial trivial) (fun _ => rfl) (n := 60) Tryz.func94 ?_
  intro ⟨⟨_, x⟩, ⟨ep, fr, n, ov⟩, ⟨xs, m, ep2⟩⟩ hφ
  obtain ⟨⟨rfl, ⟨h1, h2, h3, h4, h5, h6, h7⟩, h8, h9, h10⟩, _⟩ := id hφ
  refine kcast (B := (rq (ep.beq ep) (rq (decide ((↑m : Int) ≠ (0 : Int))) (rq (ep.beq ep && (true && decide ((0 : Int) ≤ (IntKind.i64.wrap (fr + n)).tmod (↑m : Int) ∧ (IntKind.i64.wrap (fr + n)).tmod (↑m : Int) < (↑m : Int)))) (rq (ep.beq ep && ((IntKind.i64.wrap (fr +
 n)).tmod (↑m : Int)).toNat.blt xs.length) ((SV.t [] = SV.t [] ∧ True) ∧ (SV.h 1 [ep, 0] = SV.h 1 [ep, 0] ∧ vI fr = vI fr ∧ vI (IntKind.i64.wrap (n + (1 : Int))) = vI (n + (1 : Int)) ∧ vB ov = vB ov ∧ True) ∧ (m = m ∧ ep = ep ∧ xs.set
 ((IntKind.i64.wrap (fr + n)).tmod (↑m : Int)).toNat x = xs.set ((fr + n) % (↑m : Int)).toNat x) ∧ True)))))) (by kernel_rfl) ?_
  have hm : 0 < (m : Int) := by omega
  have e1 := Int.emod_nonneg (fr + n) (by omega : (m : Int) ≠ 0)
  have e2 := Int.emod_lt_of_pos (fr + n) hm
  rw [wrap64 (x := fr + n) (by omega) (by omega), wrap64 (x := n + 1) (by omega) (by omega), tmod_emod (a := fr + n) (by omega)]
  simp only [rq_iff, nbeq, Bool.and_eq_true, decide_eq_true_eq, Nat.blt_eq, true_and, and_true, h1]
  refine ⟨by omega, ⟨by omega, by omega⟩, by omega⟩
def altQnew : Int × Unit → Alt Unit := fun (most, _) =>
  .br (decide (0 ≤ most) && decide (most ≤ 4096))
    (.one (.t [.p 1 0, .v (.int .i64 0)]) [.own (.ints .u8 (List.replicate most.toNat 0)) most.toNat 5 1 0 true, .cells [.h 0 [0, 0], .v (.int .i64 0), .v (.int .i64 0), .v (.bool false)] 82] [])
    (.one (.t [.v (.pointer none), .v (.int .i64 1)]) [] [])
def lcQnew : ACon Unit := mkLC (decP (shOne shI) shHNil) altQnew
set_option maxHeartbeats 4000000 in
theorem ok_qnew : ∀ I : Sym.Inv Unit, LCOk I Tryz.prog 18 lcQnew := by
  refine lc_mk (fun _ => allCfg Tryz.prog [] [] 0) (fun _ _ => allCfg_ok mixed trivial trivial) (fun _ => rfl) (n := 60) Tryz.func18 ?_
  intro ⟨most, _⟩ hφ
  refine kcast (B := (br (decide (most < (0 : Int))) (br (decide ((0 : Int) ≤ most) && decide (most ≤ (4096 : Int))) ((SV.t [SV.v (Value.pointer none), vI (1 : Int)] = SV.t [SV.p 1 0, vI (0 : Int)] ∧ True) ∧ False) ((SV.t [SV.v (Value.pointer none), vI (1 : Int)] = SV.t
 [SV.v (Value.pointer none), vI (1 : Int)] ∧ True) ∧ True)) (br (decide (most > (4096 : Int))) (br (decide ((0 : Int) ≤ most) && decide (most ≤ (4096 : Int))) ((SV.t [SV.v (Value.pointer none), vI (1 : Int)] = SV.t [SV.p 1 0, vI (0 : Int)] ∧ True) ∧
 False) ((SV.t [SV.v (Value.pointer none), vI (1 : Int)] = SV.t [SV.v (Value.pointer none), vI (1 : Int)] ∧ True) ∧ True)) (rq (decide ((0 : Int) ≤ most ∧ most ≤ most ∧ (1 : Int) * most ≤ (281474976710656 : Int) ∧ most ≤ (9223372036854775807 : Int)))
 (br (decide ((0 : Int) ≤ most) && decide (most ≤ (4096 : Int))) ((SV.t [SV.p 1 0, vI (0 : Int)] = SV.t [SV.p 1 0, vI (0 : Int)] ∧ True) ∧ (most.toNat = most.toNat ∧ (0 : Nat) = (0 : Nat) ∧ List.replicate (most.toNat * (1 : Nat)) (0 : Int) =
 List.replicate most.toNat (0 : Int)) ∧ (SV.h 0 [0, 0] = SV.h 0 [0, 0] ∧ vI (0 : Int) = vI (0 : Int) ∧ vI (0 : Int) = vI (0 : Int) ∧ vB false = vB false ∧ True) ∧ True) ((SV.t [SV.p 1 0, vI (0 : Int)] = SV.t [SV.v (Value.pointer none), vI (1 : Int)] ∧
 True) ∧ True)))))) (by kernel_rfl) ?_
  simp only [br_iff, rq_iff, Bool.and_eq_true, Bool.and_eq_false_iff, decide_eq_true_eq, decide_eq_false_iff_not]
  by_cases h0 : most < 0
  · simp [h0] <;> omega
  · by_cases h1 : most > 4096
    · simp [h0, h1] <;> omega
    · simp [h0, h1] <;> omega
def tk (xs : List Int) (fr : Int) (m : Nat) (i : Int) : List Int := (List.range i.toNat).map fun j : Nat => xs.getD ((fr + j) % m).toNat 0
theorem tk_length (xs : List Int) (fr : Int) (m : Nat) (i : Int) : (tk xs fr m i).length = i.toNat := by simp [tk]
theorem tk_succ {xs : List Int} {fr : Int} {m : Nat} {i : Int} (h : 0 ≤ i) : tk xs fr m (i + 1) = tk xs fr m i ++ [xs.getD ((fr + i) % m).toNat 0] := by
  unfold tk
  rw [show (i + 1).toNat = i.toNat + 1 by omega, List.range_succ, List.map_append]
  simp [show ((i.toNat : Nat) : Int) = i by omega]
theorem mod_start {fr : Int} {m : Nat} (h : 0 ≤ fr) (h' : fr < m ∨ (m = 0 ∧ fr = 0)) : fr = (fr + 0) % (m : Int) := by
  rcases h' with h' | ⟨rfl, rfl⟩
  · rw [Int.add_zero, Int.emod_eq_of_lt h h']
  · rfl
def qtab : List (Nat × ACon Unit) := [(94, lcQput)]
theorem qtab_ok : LCs Tryz.prog qtab := ⟨ok_qput, trivial⟩
def putL (m : Nat) : List Int → Int → List Int → List Int
  | xs, _, [] => xs
  | xs, s, b :: bs => putL m (xs.set (s % (m : Int)).toNat b) (s + 1) bs
theorem putL_snoc {m : Nat} : ∀ (bs xs : List Int) (s b : Int), putL m xs s (bs ++ [b]) = (putL m xs s bs).set ((s + bs.length) % (m : Int)).toNat b
  | [], xs, s, b => by simp [putL]
  | c :: bs, xs, s, b => by
    simp only [List.cons_append, putL]
    rw [putL_snoc bs]
    have e : s + 1 + (bs.length : Int) = s + ((c :: bs).length : Nat) := by simp only [List.length_cons]; omega
    rw [e]
def byteR (l : List Int) : Prop := ∀ x ∈ l, 0 ≤ x ∧ x ≤ 255
theorem QWf.put1 {fr n x : Int} {xs : List Int} {m : Nat} (h : QWf fr n xs m) (hn : n < m) (hx : 0 ≤ x ∧ x ≤ 255) : QWf fr (n + 1) (xs.set ((fr + n) % (m : Int)).toNat x) m ∧ tk (xs.set ((fr + n) % (m : Int)).toNat x) fr m (n + 1) = tk xs fr m n ++ [x] := by
  obtain ⟨h1, h2, h3, h4, h5, h6, h7⟩ := h
  have hm : 0 < (m : Int) := by omega
  have e1 := Int.emod_nonneg (fr + n) (by omega : (m : Int) ≠ 0)
  have e2 := Int.emod_lt_of_pos (fr + n) hm
  have hlt : ((fr + n) % (m : Int)).toNat < xs.length := by omega
  refine ⟨⟨by simp [h1], h2, h3, h4, by omega, by omega, fun y hy => ?_⟩, ?_⟩
  · rcases List.mem_or_eq_of_mem_set hy with hy | rfl
    · exact h7 y hy
    · exact hx
  · rw [tk_succ h5]
    have e3 : (xs.set ((fr + n) % (m : Int)).toNat x).getD ((fr + n) % (m : Int)).toNat 0 = x := by simp [List.getD, hlt]
    rw [e3]
    congr 1
    unfold tk
    refine List.map_congr_left fun j hj => ?_
    have hj : (j : Int) < n := by have := List.mem_range.1 hj; omega
    have e4 := Int.emod_nonneg (fr + j) (by omega : (m : Int) ≠ 0)
    have hne : ((fr + n) % (m : Int)).toNat ≠ ((fr + j) % (m : Int)).toNat := fun e => by
      have e5 : (fr + n) % (m : Int) = (fr + j) % (m : Int) := by omega
      have e6 := Int.emod_emod_of_dvd (fr + n) (Int.dvd_refl (m : Int))
      have h8 : (m : Int) ∣ ((fr + n) - (fr + j)) := Int.dvd_of_emod_eq_zero (by rw [Int.sub_emod, e5, Int.sub_self, Int.zero_emod])
      have h9 : fr + n - (fr + j) = n - j := by omega
      rw [h9] at h8
      have := Int.le_of_dvd (by omega) h8
      omega
    simp [List.getD, List.getElem?_set_ne hne]
theorem QWf.put {fr : Int} {m : Nat} : ∀ (bs : List Int) {n : Int} {xs : List Int}, QWf fr n xs m → n + bs.length ≤ m → byteR bs →
    QWf fr (n + bs.length) (putL m xs (fr + n) bs) m ∧ tk (putL m xs (fr + n) bs) fr m (n + bs.length) = tk xs fr m n ++ bs
  | [], n, xs, h, _, _ => by simp [putL, h]
  | b :: bs, n, xs, h, hl, hb => by
    simp only [List.length_cons] at hl
    obtain ⟨h1, h2⟩ := h.put1 (x := b) (by omega) (hb b List.mem_cons_self)
    obtain ⟨h3, h4⟩ := QWf.put bs h1 (by omega) fun x hx => hb x (List.mem_cons_of_mem _ hx)
    have e : fr + (n + 1) = fr + n + 1 := by omega
    rw [e] at h3 h4
    have e2 : n + 1 + (bs.length : Int) = n + ((b :: bs).length : Nat) := by simp only [List.length_cons]; omega
    rw [e2] at h3 h4
    refine ⟨h3, ?_⟩
    simp only [putL]
    rw [h4, h2]; simp
def bytesL (s : ByteArray) : List Int := s.data.toList.map fun b => (b.toNat : Int)
theorem bytesL_length (s : ByteArray) : (bytesL s).length = s.size := by simp [bytesL]
theorem bytesL_range (s : ByteArray) : byteR (bytesL s) := fun x hx => by
  simp only [bytesL, List.mem_map] at hx
  obtain ⟨b, _, rfl⟩ := hx
  have := b.toNat_lt
  omega
theorem byteR_take {l : List Int} (h : byteR l) (n : Nat) : byteR (l.take n) := fun x hx => h x (List.mem_of_mem_take hx)
theorem byteR_append {l r : List Int} (h : byteR l) (h' : byteR r) : byteR (l ++ r) := fun x hx => by
  rcases List.mem_append.1 hx with h1 | h1
  · exact h x h1
  · exact h' x h1
theorem bytesL_take_succ {s : ByteArray} {j : Int} (h0 : 0 ≤ j) (h : j < s.size) : (bytesL s).take (j + 1).toNat = (bytesL s).take j.toNat ++ [byteAt s j.toNat] := by
  rw [show (j + 1).toNat = j.toNat + 1 by omega, List.take_succ_eq_append_getElem (by rw [bytesL_length]; omega)]
  congr 1
  have hl : j.toNat < s.data.toList.length := by
    have := bytesL_length s
    simp only [bytesL, List.length_map] at this
    omega
  have hs : j.toNat < s.data.size := by simpa using hl
  simp only [bytesL, byteAt, List.getD, List.getElem_map, List.getElem?_eq_getElem hl, Option.getD_some]
theorem byteAt_range (s : ByteArray) (j : Nat) : 0 ≤ byteAt s j ∧ byteAt s j ≤ 255 := by
  unfold byteAt
  have := (s.data.toList.getD j 0).toNat_lt
  omega
def annB (m ep : Nat) : Ann Unit where
  α := Int
  φ st j := 0 ≤ j ∧ j ≤ (tS st.tm 9).size
  μ st j := ((tS st.tm 9).size - j).toNat
  get st := getI st.tm 48
  f st j := tmpl [0, 9, 40, 41, 42, 47] [(48, .v (.int .i64 j))] [(0, .cells [cAt st.H 0 0, cAt st.H 0 1, .v (.int .i64 (cI st.H 0 2 + j)), cAt st.H 0 3] 82),
    (1, .own (.ints .u8 (putL m (xI st.H 1) (cI st.H 0 1 + cI st.H 0 2) ((bytesL (tS st.tm 9)).take j.toNat))) m 5 1 ep true)] st
def shOneS : ShH ByteArray := shHOne (shCells (shOne shStr) 9)
def shQ1 : ShH (((Nat × Int × Int × Bool) × OI × ByteArray)) := shHCons (shCells (shCons (shO 1) (shCons shI (shCons shI (shOne shB)))) 82) (shHCons (shOwnI .u8 5 true) shOneS)
def altPush1 : (Unit × Unit) × ((Nat × Int × Int × Bool) × OI × ByteArray) → Alt Unit := fun (_, ((ep, fr, n, ov), ⟨xs, m, ep2⟩, s)) =>
  .ask (ep = ep2 ∧ QWf fr n xs m ∧ s.size ≤ 1099511627776) (.br (decide (n + s.size > m))
    (.one (.v (.bool false)) (bq ep fr n true xs m ++ [.cells [.v (.string s)] 9]) [0, 1])
    (.one (.v (.bool true)) (bq ep fr (n + s.size) ov (putL m xs (fr + n) (bytesL s)) m ++ [.cells [.v (.string s)] 9]) [0, 1]))
def lcPush1 : ACon Unit := mkLC (decP (shCons (shP 0) (shOne (shBlk 2 1))) shQ1) altPush1
set_option maxHeartbeats 4000000 in
theorem ok_push1 : ∀ I : Sym.Inv Unit, LCOk I Tryz.prog 79 lcPush1 := by
  refine lc_mk (fun (_, ((ep, fr, n, ov), ⟨xs, m, ep2⟩, s)) => allCfg Tryz.prog [] qtab 3 [(1089, annB m ep)]) (fun _ _ => allCfg_ok mixed trivial qtab_ok) (fun _ => rfl) (n := 60) Tryz.func79 ?_
  intro ⟨_, ⟨ep, fr, n, ov⟩, ⟨xs, m, ep2⟩, s⟩ hφ
  obtain ⟨⟨rfl, hq, hs⟩, _⟩ := id hφ
  refine kcast (B := (rq (ep.beq ep) (br (decide (IntKind.i64.wrap (n + (↑s.size : Int)) > (↑m : Int))) (br (decide (n + (↑s.size : Int) > (↑m : Int))) ((vB false = vB false ∧ True) ∧ (SV.h 1 [ep, 0] = SV.h 1 [ep, 0] ∧ vI fr = vI fr ∧ vI n = vI n ∧ vB true = vB true ∧
 True) ∧ (m = m ∧ ep = ep ∧ xs = xs) ∧ (vS s = vS s ∧ True) ∧ True) ((vB false = vB true ∧ True) ∧ (SV.h 1 [ep, 0] = SV.h 1 [ep, 0] ∧ vI fr = vI fr ∧ vI n = vI (n + (↑s.size : Int)) ∧ vB true = vB ov ∧ True) ∧ (m = m ∧ ep = ep ∧ xs = putL m xs (fr +
 n) (bytesL s)) ∧ (vS s = vS s ∧ True) ∧ True)) ((II (0 : Int) ≤ (0 : Int) ∧ (0 : Int) ≤ (↑s.size : Int)) ∧ ((SV.p 0 0 = SV.p 0 0 ∧ vS s = vS s ∧ SV.s (2 : Nat) (0 : Nat) (1 : Nat) (1 : Nat) = SV.s (2 : Nat) (0 : Nat) (1 : Nat) (1 : Nat) ∧ vI (1 :
 Int) = vI (1 : Int) ∧ vI (0 : Int) = vI (0 : Int) ∧ vI (↑s.size : Int) = vI (↑s.size : Int) ∧ vI (0 : Int) = vI (0 : Int) ∧ True) ∧ (SV.h 1 [ep, 0] = SV.h 1 [ep, 0] ∧ vI fr = vI fr ∧ vI n = vI (n + (0 : Int)) ∧ vB ov = vB ov ∧ True) ∧ (m = m ∧ ep =
 ep ∧ xs = putL m xs (fr + n) (List.take (0 : Nat) (bytesL s))) ∧ (vS s = vS s ∧ True) ∧ True) ∧ ∀ (x : Int), (0 : Int) ≤ x ∧ x ≤ (↑s.size : Int) → br (decide (x < (↑s.size : Int))) (rq (decide ((0 : Int) ≤ x ∧ x < (↑s.size : Int))) (true = true ∧ (ep
 = ep ∧ QWf fr (n + x) (putL m xs (fr + n) (List.take x.toNat (bytesL s))) m ∧ n + x < (↑m : Int) ∧ (0 : Int) ≤ byteAt s x.toNat ∧ byteAt s x.toNat ≤ (255 : Int)) ∧ ((0 : Int) ≤ IntKind.i64.wrap (x + (1 : Int)) ∧ IntKind.i64.wrap (x + (1 : Int)) ≤
 (↑s.size : Int)) ∧ ((SV.p 0 0 = SV.p 0 0 ∧ vS s = vS s ∧ SV.s (2 : Nat) (0 : Nat) (1 : Nat) (1 : Nat) = SV.s (2 : Nat) (0 : Nat) (1 : Nat) (1 : Nat) ∧ vI (1 : Int) = vI (1 : Int) ∧ vI (0 : Int) = vI (0 : Int) ∧ vI (↑s.size : Int) = vI (↑s.size : Int)
 ∧ vI (IntKind.i64.wrap (x + (1 : Int))) = vI (IntKind.i64.wrap (x + (1 : Int))) ∧ True) ∧ (SV.h 1 [ep, 0] = SV.h 1 [ep, 0] ∧ vI fr = vI fr ∧ vI (n + x + (1 : Int)) = vI (n + IntKind.i64.wrap (x + (1 : Int))) ∧ vB ov = vB ov ∧ True) ∧ (m = m ∧ ep = ep
 ∧ (putL m xs (fr + n) (List.take x.toNat (bytesL s))).set ((fr + (n + x)) % (↑m : Int)).toNat (byteAt s x.toNat) = putL m xs (fr + n) (List.take (IntKind.i64.wrap (x + (1 : Int))).toNat (bytesL s))) ∧ (vS s = vS s ∧ True) ∧ True) ∧ ((↑s.size : Int) -
 IntKind.i64.wrap (x + (1 : Int))).toNat < ((↑s.size : Int) - x).toNat)) (br (decide (n + (↑s.size : Int) > (↑m : Int))) ((vB true = vB false ∧ True) ∧ (SV.h 1 [ep, 0] = SV.h 1 [ep, 0] ∧ vI fr = vI fr ∧ vI (n + x) = vI n ∧ vB ov = vB true ∧ True) ∧ (m
 = m ∧ ep = ep ∧ putL m xs (fr + n) (List.take x.toNat (bytesL s)) = xs) ∧ (vS s = vS s ∧ True) ∧ True) ((vB true = vB true ∧ True) ∧ (SV.h 1 [ep, 0] = SV.h 1 [ep, 0] ∧ vI fr = vI fr ∧ vI (n + x) = vI (n + (↑s.size : Int)) ∧ vB ov = vB ov ∧ True) ∧ (m
 = m ∧ ep = ep ∧ putL m xs (fr + n) (List.take x.toNat (bytesL s)) = putL m xs (fr + n) (bytesL s)) ∧ (vS s = vS s ∧ True) ∧ True)))))) (by kernel_rfl) ?_
  obtain ⟨h1, h2, h3, h4, h5, h6, h7⟩ := id hq
  have hsz : (s.size : Int) ≤ 1099511627776 := by omega
  rw [wrap64 (x := n + (s.size : Int)) (by omega) (by omega)]
  by_cases hgt : n + (s.size : Int) > m
  · simp only [rq_iff, br_iff, nbeq, hgt, decide_true, true_and, and_true, reduceCtorEq, false_implies, true_implies, Bool.true_eq_false]
  · simp only [rq_iff, br_iff, nbeq, hgt, decide_false, Bool.false_eq_true, true_and, and_true, reduceCtorEq, false_implies, true_implies, Bool.and_eq_true, decide_eq_true_eq, decide_eq_false_iff_not, SV.v.injEq, Value.int.injEq, II]
    refine ⟨⟨by omega, by omega⟩, ⟨by omega, rfl⟩, fun x ⟨hx0, hx1⟩ => ⟨fun hlt => ?_, fun hge => ?_⟩⟩
    · have hlen : (((bytesL s).take x.toNat).length : Int) = x := by rw [List.length_take, bytesL_length]; omega
      obtain ⟨q1, q2⟩ := hq.put ((bytesL s).take x.toNat) (by omega) (byteR_take (bytesL_range s) _)
      rw [hlen] at q1
      rw [wrap64 (x := x + 1) (by omega) (by omega), bytesL_take_succ hx0 hlt, putL_snoc, hlen]
      refine ⟨⟨hx0, hlt⟩, ⟨q1, by omega, byteAt_range _ _⟩, ⟨by omega, by omega⟩, ⟨by omega, ?_⟩, by omega⟩
      rw [show fr + (n + x) = fr + n + x by omega]
    · have hx : x = s.size := by omega
      subst hx
      refine ⟨rfl, ?_⟩
      rw [List.take_of_length_le (by rw [bytesL_length]; omega)]
end Go.Proofs.YtcbjgpkbfmmdpaaGreatDoor
namespace Go.Proofs.YtcbjgpkbfmmdpaaGreatDoor
open Go Go.Sym
def newS (a b : Int) : List (SB Unit) := [.gone, .gone, .gone] ++ gbi 3 (a.toNat + 1) (a.toNat + 1) (newL a.toNat b.toNat blankC) ++ [.gone, .gone, .cells [.v (.int .i64 0), .v (.int .i64 0), .v (.bool false), .p 3 0, .any] 89]
def lcSNew : ACon Unit := mkLC (decP (shOne shI2) shHNil) fun ((a, b), _) => .ask (mayB a b = true) (.one (.t [.p 7 0, .v (.int .i64 0)]) (newS a b) [])
set_option maxHeartbeats 4000000 in
theorem ok_sNew : ∀ I : Sym.Inv Unit, LCOk I Tryz.prog 17 lcSNew := by
  refine lc_mk (fun _ => allCfg Tryz.prog [] tabJ9 0) (fun _ _ => allCfg_ok mixed trivial tabJ9_ok) (fun _ => rfl) (n := 80) Tryz.func17 ?_
  intro ⟨⟨a, b⟩, _⟩ hφ
  obtain ⟨hm, hp⟩ := id hφ
  refine kcast (B := (true = true ∧ br (mayB a b) (br (decide (b < (1 : Int))) ((SV.t [SV.v (Value.pointer none), vI (10 : Int)] = SV.t [SV.p 7 0, vI (0 : Int)] ∧ True) ∧ True ∧ True ∧ True ∧ (SV.h 4 [a.toNat + 1, 0] = SV.h 4 [a.toNat + 1, 0] ∧ True) ∧ (a.toNat + (1 :
 Nat) = a.toNat + (1 : Nat) ∧ a.toNat + (1 : Nat) = a.toNat + (1 : Nat) ∧ newL a.toNat b.toNat (C4.mk (32 : Int) (0 : Int) false (0 : Int)) = newL a.toNat b.toNat blankC) ∧ False) (br (decide (b > (255 : Int))) ((SV.t [SV.v (Value.pointer none), vI
 (10 : Int)] = SV.t [SV.p 7 0, vI (0 : Int)] ∧ True) ∧ True ∧ True ∧ True ∧ (SV.h 4 [a.toNat + 1, 0] = SV.h 4 [a.toNat + 1, 0] ∧ True) ∧ (a.toNat + (1 : Nat) = a.toNat + (1 : Nat) ∧ a.toNat + (1 : Nat) = a.toNat + (1 : Nat) ∧ newL a.toNat b.toNat
 (C4.mk (32 : Int) (0 : Int) false (0 : Int)) = newL a.toNat b.toNat blankC) ∧ False) ((SV.t [SV.p 7 0, vI (0 : Int)] = SV.t [SV.p 7 0, vI (0 : Int)] ∧ True) ∧ True ∧ True ∧ True ∧ (SV.h 4 [a.toNat + 1, 0] = SV.h 4 [a.toNat + 1, 0] ∧ True) ∧ (a.toNat
 + (1 : Nat) = a.toNat + (1 : Nat) ∧ a.toNat + (1 : Nat) = a.toNat + (1 : Nat) ∧ newL a.toNat b.toNat (C4.mk (32 : Int) (0 : Int) false (0 : Int)) = newL a.toNat b.toNat blankC) ∧ True ∧ True ∧ (vI (0 : Int) = vI (0 : Int) ∧ vI (0 : Int) = vI (0 :
 Int) ∧ vB false = vB false ∧ SV.p 3 0 = SV.p 3 0 ∧ True) ∧ True))) ((SV.t [SV.v (Value.pointer none), vI (10 : Int)] = SV.t [SV.p 7 0, vI (0 : Int)] ∧ True) ∧ True ∧ True ∧ True ∧ False))) (by kernel_rfl) ?_
  clear hp hφ
  have hm' := mayB_iff.1 hm
  simp [br_iff, hm, blankC]
  omega
def tabK12 : List (Nat × ACon Unit) := (17, lcSNew) :: (18, lcQnew) :: []
theorem tabK12_ok : LCs Tryz.prog tabK12 := ⟨ok_sNew, ok_qnew, trivial⟩
def newW (a b m : Int) : List (SB Unit) := newS a b ++ [.own (.ints .u8 (List.replicate m.toNat 0)) m.toNat 5 1 0 true, .cells [.h 8 [0, 0], .v (.int .i64 0), .v (.int .i64 0), .v (.bool false)] 82,
  .cells [.p 7 0, .p 9 0, .v (.bool false), .v (.bool false), .v (.bool false), .h 12 [0, 0]] 63, .cells [.p 7 0, .p 9 0, .p 10 0] 36, .own (.ints .u8 []) 0 5 1 0 false]
def lcMade : ACon Unit := mkLC (decP (shCons shI (shCons shI (shOne shI))) shHNil) fun ((a, b, m), _) => .ask (mayB a b = true ∧ 0 ≤ m ∧ m ≤ 4096) (.one (.t [.p 11 0, .v (.bool true)]) (newW a b m) [])
set_option maxHeartbeats 4000000 in
theorem ok_made : ∀ I : Sym.Inv Unit, LCOk I Tryz.prog 6 lcMade := by
  refine lc_mkF (fun _ => [.nilCell 10 5 (.ints .u8 []) 5 1]) (fun _ => allCfg Tryz.prog [] tabK12 0) (fun _ _ => allCfg_ok mixed trivial tabK12_ok) (fun _ => rfl) (n := 80) Tryz.func6 ?_
  intro ⟨⟨a, b, m⟩, _⟩ hφ
  obtain ⟨⟨hm, h0, h1⟩, hp⟩ := id hφ
  refine kcast (B := (true = true ∧ mayB a b = true ∧ true = true ∧ br (decide ((0 : Int) ≤ m) && decide (m ≤ (4096 : Int))) ((SV.t [SV.p 11 0, vB true] = SV.t [SV.p 11 0, vB true] ∧ True) ∧ True ∧ True ∧ True ∧ (SV.h 4 [a.toNat + 1, 0] = SV.h 4 [a.toNat + 1, 0] ∧ True)
 ∧ (a.toNat + (1 : Nat) = a.toNat + (1 : Nat) ∧ a.toNat + (1 : Nat) = a.toNat + (1 : Nat) ∧ newL a.toNat b.toNat blankC = newL a.toNat b.toNat blankC) ∧ True ∧ True ∧ (vI (0 : Int) = vI (0 : Int) ∧ vI (0 : Int) = vI (0 : Int) ∧ vB false = vB false ∧
 SV.p 3 0 = SV.p 3 0 ∧ True) ∧ (m.toNat = m.toNat ∧ (0 : Nat) = (0 : Nat) ∧ List.replicate m.toNat (0 : Int) = List.replicate m.toNat (0 : Int)) ∧ (SV.h 8 [0, 0] = SV.h 8 [0, 0] ∧ vI (0 : Int) = vI (0 : Int) ∧ vI (0 : Int) = vI (0 : Int) ∧ vB false =
 vB false ∧ True) ∧ (SV.p 7 0 = SV.p 7 0 ∧ SV.p 9 0 = SV.p 9 0 ∧ vB false = vB false ∧ vB false = vB false ∧ vB false = vB false ∧ SV.h 12 [0, 0] = SV.h 12 [0, 0] ∧ True) ∧ (SV.p 7 0 = SV.p 7 0 ∧ SV.p 9 0 = SV.p 9 0 ∧ SV.p 10 0 = SV.p 10 0 ∧ True) ∧
 ((0 : Nat) = (0 : Nat) ∧ (0 : Nat) = (0 : Nat) ∧ LI [] = LI []) ∧ True) False)) (by kernel_rfl) ?_
  clear hp hφ
  simp [br_iff, hm]
  omega
end Go.Proofs.YtcbjgpkbfmmdpaaGreatDoor
namespace Go.Proofs.YtcbjgpkbfmmdpaaGreatDoor
open Go Go.Sym
def lowL : List Int := [9786, 9787, 9829, 9830, 9827, 9824, 8226, 9688, 9675, 9689, 9794, 9792, 9834, 9835, 9788, 9658, 9668, 8597, 8252, 182, 167, 9644, 8616, 8593, 8595, 8594, 8592, 8735, 8596, 9650, 9660]
def highL : List Int := [199, 252, 233, 226, 228, 224, 229, 231, 234, 235, 232, 239, 238, 236, 196, 197, 201, 230, 198, 244, 246, 242, 251, 249, 255, 214, 220, 162, 163, 165, 8359, 402, 225, 237, 243, 250, 241, 209, 170, 186, 191, 8976, 172, 189,
 188, 161, 171, 187, 9617, 9618, 9619, 9474, 9508, 9569, 9570, 9558, 9557, 9571, 9553, 9559, 9565, 9564, 9563, 9488, 9492, 9524, 9516, 9500, 9472, 9532, 9566, 9567, 9562, 9556, 9577, 9574, 9568, 9552, 9580, 9575, 9576, 9572, 9573, 9561, 9560, 9554,
 9555, 9579, 9578, 9496, 9484, 9608, 9604, 9612, 9616, 9600, 945, 223, 915, 960, 931, 963, 181, 964, 934, 920, 937, 948, 8734, 966, 949, 8745, 8801, 177, 8805, 8804, 8992, 8993, 247, 8776, 176, 8729, 183, 8730, 8319, 178, 9632]
def graphL : List Int := [9608, 8543, 179, 8309, 8311, 176, 177, 8594, 8230, 247, 8595, 9620, 9146, 9147, 9473, 9472, 9476, 9148, 9149, 8320, 8321, 8322, 8323, 8324, 8325, 8326, 8327, 8328, 8329, 182]
def linesL : List Int := [9516, 9492, 9484, 9488, 9500, 9496, 9474, 9608, 9532, 9508, 9472, 9618, 9552, 9524, 9553, 9617]
def plainT (n : Int) : Int := if 32 ≤ n ∧ n ≤ 126 then n else 65533
def ofT (set b : Int) : Int :=
  if set = 1 then plainT b
  else if set = 2 then (if b = 0 then 32 else if b < 32 then lowL.getD (b - 1).toNat 0 else if b = 127 then 8962 else if b = 255 then 160 else if 128 ≤ b then highL.getD (b - 128).toNat 0 else plainT b)
  else if set = 3 then (if 94 ≤ b ∧ b ≤ 96 then 32 else if 97 ≤ b ∧ b ≤ 126 then graphL.getD (b - 97).toNat 0 else plainT b)
  else if set = 4 then (if 48 ≤ b ∧ b ≤ 63 then linesL.getD (b - 48).toNat 0 else plainT b)
  else if set = 5 then (if 97 ≤ (if 128 ≤ b then b - 128 else b) ∧ (if 128 ≤ b then b - 128 else b) ≤ 122 then (if 128 ≤ b then b - 128 else b) - 32 else plainT (if 128 ≤ b then b - 128 else b))
  else 65533
def ascL (i : Nat) : List Int := (List.range 256).map fun j => if j < i then plainT j else 0
def defL (i : Nat) : List Int := (List.range 256).map fun j => if j < i then 65533 else plainT j
structure Upto (i : Int) : Prop where
  l : 0 ≤ i
  u : i ≤ 256
def annAsc : Ann Unit where
  α := Int
  φ _ i := Upto i
  μ _ i := (256 - i).toNat
  get st := getI st.tm 5
  f st i := tmpl [0, 1] [(5, .v (.int .i64 i))] [(st.H.length - 1, .ints .i32 (ascL i.toNat) 256 153)] st
def annDef : Ann Unit where
  α := Int
  φ _ i := Upto i
  μ _ i := (256 - i).toNat
  get st := getI st.tm 8
  f st i := tmpl [0, 2, 3] [(8, .v (.int .i64 i))] [(st.H.length - 1, .ints .i32 (defL i.toNat) 256 153)] st
def anns : List (Nat × Ann Unit) := [(257, annAsc), (321, annDef)]
theorem set_range {f g : Nat → Int} {n : Nat} {v : Int} (hn : n < 256) (h1 : ∀ j, j < 256 → j ≠ n → f j = g j) (h2 : v = g n) : ((List.range 256).map f).set n v = (List.range 256).map g := by
  apply List.ext_getElem
  · simp
  · intro i h3 h4
    simp only [List.getElem_set, List.getElem_map, List.getElem_range]
    simp at h4
    split
    · rename_i e; subst e; exact h2
    · rename_i e; exact h1 i h4 (fun x => e x.symm)
theorem asc1 {x : Int} (h0 : 0 ≤ x) (h1 : 32 ≤ x) (h2 : x ≤ 126) : ((ascL x.toNat).set (0 + x.toNat * 1) 65533).set (0 + x.toNat * 1) (IntKind.wrap .i32 x) = ascL (IntKind.wrap .i64 (x + 1)).toNat := by
  rw [List.set_set, wrap64 (by omega) (by omega), IntWalk.i32_in x ⟨by omega, by omega⟩]
  refine set_range (by omega) (fun j hj hne => ?_) ?_
  · by_cases hlt : j < x.toNat
    · rw [if_pos hlt, if_pos (by omega)]
    · rw [if_neg hlt, if_neg (by omega)]
  · rw [if_pos (by omega)]
    unfold plainT
    rw [if_pos (by omega)]
    omega
theorem asc2 {x : Int} (h0 : 0 ≤ x) (h1 : x < 256) (h2 : ¬ (32 ≤ x ∧ x ≤ 126)) : (ascL x.toNat).set (0 + x.toNat * 1) 65533 = ascL (IntKind.wrap .i64 (x + 1)).toNat := by
  rw [wrap64 (by omega) (by omega)]
  refine set_range (by omega) (fun j hj hne => ?_) ?_
  · by_cases hlt : j < x.toNat
    · rw [if_pos hlt, if_pos (by omega)]
    · rw [if_neg hlt, if_neg (by omega)]
  · rw [if_pos (by omega)]
    unfold plainT
    rw [if_neg (by omega)]
theorem upto_next {x : Int} (h0 : 0 ≤ x) (h1 : x < 256) : Upto (IntKind.wrap .i64 (x + 1)) := by rw [wrap64 (by omega) (by omega)]; exact ⟨by omega, by omega⟩
theorem mu_next {x : Int} (h0 : 0 ≤ x) (h1 : x < 256) : (256 - IntKind.wrap .i64 (x + 1)).toNat < (256 - x).toNat := by rw [wrap64 (by omega) (by omega)]; omega
theorem in_range {x : Int} (h0 : 0 ≤ x) (h1 : x < 256) : decide (0 ≤ x ∧ x < 256) = true := decide_eq_true ⟨h0, h1⟩
theorem in_blt {x : Int} (h0 : 0 ≤ x) (h1 : x < 256) : Nat.blt (0 + x.toNat * 1) 256 = true := by rw [Nat.blt_eq]; omega
theorem br_intro {b : Bool} {A B : Prop} (h : b = true → A) (h' : b = false → B) : br b A B := br_iff.2 ⟨h, h'⟩
theorem rq_t {b : Bool} {A : Prop} (h : b = true) (hA : A) : rq b A := by subst h; exact hA
def tabL2 (set : Int) : List Int := (List.range 256).map fun (n : Nat) => ofT set n
theorem getD_tab {L : List Int} {set b : Int} (hL : L = tabL2 set) (h0 : 0 ≤ b) (h1 : b ≤ 255) : L.getD (0 + b.toNat * 1) 0 = ofT set b := by
  subst hL
  unfold tabL2
  rw [List.getD_eq_getElem?_getD, List.getElem?_map, List.getElem?_range (by omega)]
  simp only [Option.map_some, Option.getD_some]
  congr 1
  omega
def altOf (set : Int) : Alt Unit := .one (.p 0 0) [.ints .i32 (tabL2 set) 256 153] []
def OfAsk (set : Int) : Prop := Go.Sym.Ask (bodyK Tryz.prog (run (allCfg Tryz.prog [] [] 300 anns) 60) Tryz.f82 ((shOne shI).enc set) [] (fun y H' => altFin (altOf set) 0 y H'))
set_option maxHeartbeats 4000000 in
theorem of_1 : OfAsk 1 := by
  unfold OfAsk
  refine kcast (B := (Upto (0 : Int) ∧ ((SV.v (Value.pointer none) = SV.v (Value.pointer none) ∧ SV.p 0 0 = SV.p 0 0 ∧ vI (0 : Int) = vI (0 : Int) ∧ True) ∧ LI [(0 : Int), (0 : Int), (0 : Int), (0 : Int), (0 : Int), (0 : Int), (0 : Int), (0 : Int), (0 : Int), (0 : Int),
 (0 : Int), (0 : Int), (0 : Int), (0 : Int), (0 : Int), (0 : Int), (0 : Int), (0 : Int), (0 : Int), (0 : Int), (0 : Int), (0 : Int), (0 : Int), (0 : Int), (0 : Int), (0 : Int), (0 : Int), (0 : Int), (0 : Int), (0 : Int), (0 : Int), (0 : Int), (0 :
 Int), (0 : Int), (0 : Int), (0 : Int), (0 : Int), (0 : Int), (0 : Int), (0 : Int), (0 : Int), (0 : Int), (0 : Int), (0 : Int), (0 : Int), (0 : Int), (0 : Int), (0 : Int), (0 : Int), (0 : Int), (0 : Int), (0 : Int), (0 : Int), (0 : Int), (0 : Int), (0
 : Int), (0 : Int), (0 : Int), (0 : Int), (0 : Int), (0 : Int), (0 : Int), (0 : Int), (0 : Int), (0 : Int), (0 : Int), (0 : Int), (0 : Int), (0 : Int), (0 : Int), (0 : Int), (0 : Int), (0 : Int), (0 : Int), (0 : Int), (0 : Int), (0 : Int), (0 : Int),
 (0 : Int), (0 : Int), (0 : Int), (0 : Int), (0 : Int), (0 : Int), (0 : Int), (0 : Int), (0 : Int), (0 : Int), (0 : Int), (0 : Int), (0 : Int), (0 : Int), (0 : Int), (0 : Int), (0 : Int), (0 : Int), (0 : Int), (0 : Int), (0 : Int), (0 : Int), (0 :
 Int), (0 : Int), (0 : Int), (0 : Int), (0 : Int), (0 : Int), (0 : Int), (0 : Int), (0 : Int), (0 : Int), (0 : Int), (0 : Int), (0 : Int), (0 : Int), (0 : Int), (0 : Int), (0 : Int), (0 : Int), (0 : Int), (0 : Int), (0 : Int), (0 : Int), (0 : Int), (0
 : Int), (0 : Int), (0 : Int), (0 : Int), (0 : Int), (0 : Int), (0 : Int), (0 : Int), (0 : Int), (0 : Int), (0 : Int), (0 : Int), (0 : Int), (0 : Int), (0 : Int), (0 : Int), (0 : Int), (0 : Int), (0 : Int), (0 : Int), (0 : Int), (0 : Int), (0 : Int),
 (0 : Int), (0 : Int), (0 : Int), (0 : Int), (0 : Int), (0 : Int), (0 : Int), (0 : Int), (0 : Int), (0 : Int), (0 : Int), (0 : Int), (0 : Int), (0 : Int), (0 : Int), (0 : Int), (0 : Int), (0 : Int), (0 : Int), (0 : Int), (0 : Int), (0 : Int), (0 :
 Int), (0 : Int), (0 : Int), (0 : Int), (0 : Int), (0 : Int), (0 : Int), (0 : Int), (0 : Int), (0 : Int), (0 : Int), (0 : Int), (0 : Int), (0 : Int), (0 : Int), (0 : Int), (0 : Int), (0 : Int), (0 : Int), (0 : Int), (0 : Int), (0 : Int), (0 : Int), (0
 : Int), (0 : Int), (0 : Int), (0 : Int), (0 : Int), (0 : Int), (0 : Int), (0 : Int), (0 : Int), (0 : Int), (0 : Int), (0 : Int), (0 : Int), (0 : Int), (0 : Int), (0 : Int), (0 : Int), (0 : Int), (0 : Int), (0 : Int), (0 : Int), (0 : Int), (0 : Int),
 (0 : Int), (0 : Int), (0 : Int), (0 : Int), (0 : Int), (0 : Int), (0 : Int), (0 : Int), (0 : Int), (0 : Int), (0 : Int), (0 : Int), (0 : Int), (0 : Int), (0 : Int), (0 : Int), (0 : Int), (0 : Int), (0 : Int), (0 : Int), (0 : Int), (0 : Int), (0 :
 Int), (0 : Int), (0 : Int), (0 : Int), (0 : Int), (0 : Int), (0 : Int), (0 : Int), (0 : Int), (0 : Int), (0 : Int), (0 : Int), (0 : Int), (0 : Int), (0 : Int), (0 : Int), (0 : Int), (0 : Int), (0 : Int), (0 : Int)] = LI [(0 : Int), (0 : Int), (0 :
 Int), (0 : Int), (0 : Int), (0 : Int), (0 : Int), (0 : Int), (0 : Int), (0 : Int), (0 : Int), (0 : Int), (0 : Int), (0 : Int), (0 : Int), (0 : Int), (0 : Int), (0 : Int), (0 : Int), (0 : Int), (0 : Int), (0 : Int), (0 : Int), (0 : Int), (0 : Int), (0
 : Int), (0 : Int), (0 : Int), (0 : Int), (0 : Int), (0 : Int), (0 : Int), (0 : Int), (0 : Int), (0 : Int), (0 : Int), (0 : Int), (0 : Int), (0 : Int), (0 : Int), (0 : Int), (0 : Int), (0 : Int), (0 : Int), (0 : Int), (0 : Int), (0 : Int), (0 : Int),
 (0 : Int), (0 : Int), (0 : Int), (0 : Int), (0 : Int), (0 : Int), (0 : Int), (0 : Int), (0 : Int), (0 : Int), (0 : Int), (0 : Int), (0 : Int), (0 : Int), (0 : Int), (0 : Int), (0 : Int), (0 : Int), (0 : Int), (0 : Int), (0 : Int), (0 : Int), (0 :
 Int), (0 : Int), (0 : Int), (0 : Int), (0 : Int), (0 : Int), (0 : Int), (0 : Int), (0 : Int), (0 : Int), (0 : Int), (0 : Int), (0 : Int), (0 : Int), (0 : Int), (0 : Int), (0 : Int), (0 : Int), (0 : Int), (0 : Int), (0 : Int), (0 : Int), (0 : Int), (0
 : Int), (0 : Int), (0 : Int), (0 : Int), (0 : Int), (0 : Int), (0 : Int), (0 : Int), (0 : Int), (0 : Int), (0 : Int), (0 : Int), (0 : Int), (0 : Int), (0 : Int), (0 : Int), (0 : Int), (0 : Int), (0 : Int), (0 : Int), (0 : Int), (0 : Int), (0 : Int),
 (0 : Int), (0 : Int), (0 : Int), (0 : Int), (0 : Int), (0 : Int), (0 : Int), (0 : Int), (0 : Int), (0 : Int), (0 : Int), (0 : Int), (0 : Int), (0 : Int), (0 : Int), (0 : Int), (0 : Int), (0 : Int), (0 : Int), (0 : Int), (0 : Int), (0 : Int), (0 :
 Int), (0 : Int), (0 : Int), (0 : Int), (0 : Int), (0 : Int), (0 : Int), (0 : Int), (0 : Int), (0 : Int), (0 : Int), (0 : Int), (0 : Int), (0 : Int), (0 : Int), (0 : Int), (0 : Int), (0 : Int), (0 : Int), (0 : Int), (0 : Int), (0 : Int), (0 : Int), (0
 : Int), (0 : Int), (0 : Int), (0 : Int), (0 : Int), (0 : Int), (0 : Int), (0 : Int), (0 : Int), (0 : Int), (0 : Int), (0 : Int), (0 : Int), (0 : Int), (0 : Int), (0 : Int), (0 : Int), (0 : Int), (0 : Int), (0 : Int), (0 : Int), (0 : Int), (0 : Int),
 (0 : Int), (0 : Int), (0 : Int), (0 : Int), (0 : Int), (0 : Int), (0 : Int), (0 : Int), (0 : Int), (0 : Int), (0 : Int), (0 : Int), (0 : Int), (0 : Int), (0 : Int), (0 : Int), (0 : Int), (0 : Int), (0 : Int), (0 : Int), (0 : Int), (0 : Int), (0 :
 Int), (0 : Int), (0 : Int), (0 : Int), (0 : Int), (0 : Int), (0 : Int), (0 : Int), (0 : Int), (0 : Int), (0 : Int), (0 : Int), (0 : Int), (0 : Int), (0 : Int), (0 : Int), (0 : Int), (0 : Int), (0 : Int), (0 : Int), (0 : Int), (0 : Int), (0 : Int), (0
 : Int), (0 : Int), (0 : Int), (0 : Int), (0 : Int), (0 : Int), (0 : Int), (0 : Int), (0 : Int), (0 : Int), (0 : Int), (0 : Int), (0 : Int), (0 : Int), (0 : Int), (0 : Int), (0 : Int), (0 : Int), (0 : Int), (0 : Int), (0 : Int), (0 : Int), (0 : Int),
 (0 : Int), (0 : Int), (0 : Int), (0 : Int)] ∧ True) ∧ ∀ (x : Int), Upto x → br (decide (x < (256 : Int))) (rq (decide ((0 : Int) ≤ x ∧ x < (256 : Int))) (rq (((0 : Nat) + x.toNat * (1 : Nat)).blt (256 : Nat)) (br (decide (x ≥ (32 : Int))) (br (decide
 (x ≤ (126 : Int))) (rq (decide ((0 : Int) ≤ x ∧ x < (256 : Int))) (rq (((0 : Nat) + x.toNat * (1 : Nat)).blt (256 : Nat)) (Upto (IntKind.i64.wrap (x + (1 : Int))) ∧ ((SV.v (Value.pointer none) = SV.v (Value.pointer none) ∧ SV.p 0 0 = SV.p 0 0 ∧ vI
 (IntKind.i64.wrap (x + (1 : Int))) = vI (IntKind.i64.wrap (x + (1 : Int))) ∧ True) ∧ ((ascL x.toNat).set ((0 : Nat) + x.toNat * (1 : Nat)) (65533 : Int)).set ((0 : Nat) + x.toNat * (1 : Nat)) (IntKind.i32.wrap x) = ascL (IntKind.i64.wrap (x + (1 :
 Int))).toNat ∧ True) ∧ ((256 : Int) - IntKind.i64.wrap (x + (1 : Int))).toNat < ((256 : Int) - x).toNat))) (Upto (IntKind.i64.wrap (x + (1 : Int))) ∧ ((SV.v (Value.pointer none) = SV.v (Value.pointer none) ∧ SV.p 0 0 = SV.p 0 0 ∧ vI (IntKind.i64.wrap
 (x + (1 : Int))) = vI (IntKind.i64.wrap (x + (1 : Int))) ∧ True) ∧ (ascL x.toNat).set ((0 : Nat) + x.toNat * (1 : Nat)) (65533 : Int) = ascL (IntKind.i64.wrap (x + (1 : Int))).toNat ∧ True) ∧ ((256 : Int) - IntKind.i64.wrap (x + (1 : Int))).toNat <
 ((256 : Int) - x).toNat)) (Upto (IntKind.i64.wrap (x + (1 : Int))) ∧ ((SV.v (Value.pointer none) = SV.v (Value.pointer none) ∧ SV.p 0 0 = SV.p 0 0 ∧ vI (IntKind.i64.wrap (x + (1 : Int))) = vI (IntKind.i64.wrap (x + (1 : Int))) ∧ True) ∧ (ascL
 x.toNat).set ((0 : Nat) + x.toNat * (1 : Nat)) (65533 : Int) = ascL (IntKind.i64.wrap (x + (1 : Int))).toNat ∧ True) ∧ ((256 : Int) - IntKind.i64.wrap (x + (1 : Int))).toNat < ((256 : Int) - x).toNat)))) ((SV.p 0 0 = SV.p 0 0 ∧ True) ∧ ascL x.toNat =
 LI [(65533 : Int), (65533 : Int), (65533 : Int), (65533 : Int), (65533 : Int), (65533 : Int), (65533 : Int), (65533 : Int), (65533 : Int), (65533 : Int), (65533 : Int), (65533 : Int), (65533 : Int), (65533 : Int), (65533 : Int), (65533 : Int), (65533
 : Int), (65533 : Int), (65533 : Int), (65533 : Int), (65533 : Int), (65533 : Int), (65533 : Int), (65533 : Int), (65533 : Int), (65533 : Int), (65533 : Int), (65533 : Int), (65533 : Int), (65533 : Int), (65533 : Int), (65533 : Int), (32 : Int), (33 :
 Int), (34 : Int), (35 : Int), (36 : Int), (37 : Int), (38 : Int), (39 : Int), (40 : Int), (41 : Int), (42 : Int), (43 : Int), (44 : Int), (45 : Int), (46 : Int), (47 : Int), (48 : Int), (49 : Int), (50 : Int), (51 : Int), (52 : Int), (53 : Int), (54
 : Int), (55 : Int), (56 : Int), (57 : Int), (58 : Int), (59 : Int), (60 : Int), (61 : Int), (62 : Int), (63 : Int), (64 : Int), (65 : Int), (66 : Int), (67 : Int), (68 : Int), (69 : Int), (70 : Int), (71 : Int), (72 : Int), (73 : Int), (74 : Int),
 (75 : Int), (76 : Int), (77 : Int), (78 : Int), (79 : Int), (80 : Int), (81 : Int), (82 : Int), (83 : Int), (84 : Int), (85 : Int), (86 : Int), (87 : Int), (88 : Int), (89 : Int), (90 : Int), (91 : Int), (92 : Int), (93 : Int), (94 : Int), (95 :
 Int), (96 : Int), (97 : Int), (98 : Int), (99 : Int), (100 : Int), (101 : Int), (102 : Int), (103 : Int), (104 : Int), (105 : Int), (106 : Int), (107 : Int), (108 : Int), (109 : Int), (110 : Int), (111 : Int), (112 : Int), (113 : Int), (114 : Int),
 (115 : Int), (116 : Int), (117 : Int), (118 : Int), (119 : Int), (120 : Int), (121 : Int), (122 : Int), (123 : Int), (124 : Int), (125 : Int), (126 : Int), (65533 : Int), (65533 : Int), (65533 : Int), (65533 : Int), (65533 : Int), (65533 : Int),
 (65533 : Int), (65533 : Int), (65533 : Int), (65533 : Int), (65533 : Int), (65533 : Int), (65533 : Int), (65533 : Int), (65533 : Int), (65533 : Int), (65533 : Int), (65533 : Int), (65533 : Int), (65533 : Int), (65533 : Int), (65533 : Int), (65533 :
 Int), (65533 : Int), (65533 : Int), (65533 : Int), (65533 : Int), (65533 : Int), (65533 : Int), (65533 : Int), (65533 : Int), (65533 : Int), (65533 : Int), (65533 : Int), (65533 : Int), (65533 : Int), (65533 : Int), (65533 : Int), (65533 : Int),
 (65533 : Int), (65533 : Int), (65533 : Int), (65533 : Int), (65533 : Int), (65533 : Int), (65533 : Int), (65533 : Int), (65533 : Int), (65533 : Int), (65533 : Int), (65533 : Int), (65533 : Int), (65533 : Int), (65533 : Int), (65533 : Int), (65533 :
 Int), (65533 : Int), (65533 : Int), (65533 : Int), (65533 : Int), (65533 : Int), (65533 : Int), (65533 : Int), (65533 : Int), (65533 : Int), (65533 : Int), (65533 : Int), (65533 : Int), (65533 : Int), (65533 : Int), (65533 : Int), (65533 : Int),
 (65533 : Int), (65533 : Int), (65533 : Int), (65533 : Int), (65533 : Int), (65533 : Int), (65533 : Int), (65533 : Int), (65533 : Int), (65533 : Int), (65533 : Int), (65533 : Int), (65533 : Int), (65533 : Int), (65533 : Int), (65533 : Int), (65533 :
 Int), (65533 : Int), (65533 : Int), (65533 : Int), (65533 : Int), (65533 : Int), (65533 : Int), (65533 : Int), (65533 : Int), (65533 : Int), (65533 : Int), (65533 : Int), (65533 : Int), (65533 : Int), (65533 : Int), (65533 : Int), (65533 : Int),
 (65533 : Int), (65533 : Int), (65533 : Int), (65533 : Int), (65533 : Int), (65533 : Int), (65533 : Int), (65533 : Int), (65533 : Int), (65533 : Int), (65533 : Int), (65533 : Int), (65533 : Int), (65533 : Int), (65533 : Int), (65533 : Int), (65533 :
 Int), (65533 : Int), (65533 : Int), (65533 : Int), (65533 : Int), (65533 : Int), (65533 : Int), (65533 : Int)] ∧ True))) (by
   kernel_rfl) ?_
  refine ⟨⟨by omega, by omega⟩, ?_, ?_⟩
  · repeat' (first | exact trivial | refine And.intro ?_ ?_ | kernel_rfl)
  refine fun (x : Int) hx => ?_
  obtain ⟨hx0, hx1⟩ := hx
  refine br_intro (fun hlt => ?_) (fun hge => ?_)
  · have hlt : x < 256 := of_decide_eq_true hlt
    refine rq_t (in_range hx0 hlt) (rq_t (in_blt hx0 hlt) ?_)
    refine br_intro (fun h32 => ?_) (fun h32 => ?_)
    · have h32 : 32 ≤ x := of_decide_eq_true h32
      refine br_intro (fun h126 => ?_) (fun h126 => ?_)
      · have h126 : x ≤ 126 := of_decide_eq_true h126
        refine rq_t (in_range hx0 hlt) (rq_t (in_blt hx0 hlt) ⟨upto_next hx0 hlt, ?_, mu_next hx0 hlt⟩)
        rw [asc1 hx0 h32 h126]
        repeat' (first | exact trivial | refine And.intro ?_ ?_ | kernel_rfl)
      · have h126 : ¬ x ≤ 126 := of_decide_eq_false h126
        refine ⟨upto_next hx0 hlt, ?_, mu_next hx0 hlt⟩
        rw [asc2 hx0 hlt (fun h => h126 h.2)]
        repeat' (first | exact trivial | refine And.intro ?_ ?_ | kernel_rfl)
    · have h32 : ¬ 32 ≤ x := of_decide_eq_false h32
      refine ⟨upto_next hx0 hlt, ?_, mu_next hx0 hlt⟩
      rw [asc2 hx0 hlt (fun h => h32 h.1)]
      repeat' (first | exact trivial | refine And.intro ?_ ?_ | kernel_rfl)
  have hge : ¬ x < 256 := of_decide_eq_false hge
  obtain rfl : x = 256 := by omega
  repeat' (first | exact trivial | refine And.intro ?_ ?_ | kernel_rfl)
set_option maxHeartbeats 4000000 in
theorem of_3 : OfAsk 3 := by
  unfold OfAsk
  refine kcast (B := (Upto (0 : Int) ∧ ((SV.v (Value.pointer none) = SV.v (Value.pointer none) ∧ SV.p 0 0 = SV.p 0 0 ∧ vI (0 : Int) = vI (0 : Int) ∧ True) ∧ LI [(0 : Int), (0 : Int), (0 : Int), (0 : Int), (0 : Int), (0 : Int), (0 : Int), (0 : Int), (0 : Int), (0 : Int),
 (0 : Int), (0 : Int), (0 : Int), (0 : Int), (0 : Int), (0 : Int), (0 : Int), (0 : Int), (0 : Int), (0 : Int), (0 : Int), (0 : Int), (0 : Int), (0 : Int), (0 : Int), (0 : Int), (0 : Int), (0 : Int), (0 : Int), (0 : Int), (0 : Int), (0 : Int), (0 :
 Int), (0 : Int), (0 : Int), (0 : Int), (0 : Int), (0 : Int), (0 : Int), (0 : Int), (0 : Int), (0 : Int), (0 : Int), (0 : Int), (0 : Int), (0 : Int), (0 : Int), (0 : Int), (0 : Int), (0 : Int), (0 : Int), (0 : Int), (0 : Int), (0 : Int), (0 : Int), (0
 : Int), (0 : Int), (0 : Int), (0 : Int), (0 : Int), (0 : Int), (0 : Int), (0 : Int), (0 : Int), (0 : Int), (0 : Int), (0 : Int), (0 : Int), (0 : Int), (0 : Int), (0 : Int), (0 : Int), (0 : Int), (0 : Int), (0 : Int), (0 : Int), (0 : Int), (0 : Int),
 (0 : Int), (0 : Int), (0 : Int), (0 : Int), (0 : Int), (0 : Int), (0 : Int), (0 : Int), (0 : Int), (0 : Int), (0 : Int), (0 : Int), (0 : Int), (0 : Int), (0 : Int), (0 : Int), (0 : Int), (0 : Int), (0 : Int), (0 : Int), (0 : Int), (0 : Int), (0 :
 Int), (0 : Int), (0 : Int), (0 : Int), (0 : Int), (0 : Int), (0 : Int), (0 : Int), (0 : Int), (0 : Int), (0 : Int), (0 : Int), (0 : Int), (0 : Int), (0 : Int), (0 : Int), (0 : Int), (0 : Int), (0 : Int), (0 : Int), (0 : Int), (0 : Int), (0 : Int), (0
 : Int), (0 : Int), (0 : Int), (0 : Int), (0 : Int), (0 : Int), (0 : Int), (0 : Int), (0 : Int), (0 : Int), (0 : Int), (0 : Int), (0 : Int), (0 : Int), (0 : Int), (0 : Int), (0 : Int), (0 : Int), (0 : Int), (0 : Int), (0 : Int), (0 : Int), (0 : Int),
 (0 : Int), (0 : Int), (0 : Int), (0 : Int), (0 : Int), (0 : Int), (0 : Int), (0 : Int), (0 : Int), (0 : Int), (0 : Int), (0 : Int), (0 : Int), (0 : Int), (0 : Int), (0 : Int), (0 : Int), (0 : Int), (0 : Int), (0 : Int), (0 : Int), (0 : Int), (0 :
 Int), (0 : Int), (0 : Int), (0 : Int), (0 : Int), (0 : Int), (0 : Int), (0 : Int), (0 : Int), (0 : Int), (0 : Int), (0 : Int), (0 : Int), (0 : Int), (0 : Int), (0 : Int), (0 : Int), (0 : Int), (0 : Int), (0 : Int), (0 : Int), (0 : Int), (0 : Int), (0
 : Int), (0 : Int), (0 : Int), (0 : Int), (0 : Int), (0 : Int), (0 : Int), (0 : Int), (0 : Int), (0 : Int), (0 : Int), (0 : Int), (0 : Int), (0 : Int), (0 : Int), (0 : Int), (0 : Int), (0 : Int), (0 : Int), (0 : Int), (0 : Int), (0 : Int), (0 : Int),
 (0 : Int), (0 : Int), (0 : Int), (0 : Int), (0 : Int), (0 : Int), (0 : Int), (0 : Int), (0 : Int), (0 : Int), (0 : Int), (0 : Int), (0 : Int), (0 : Int), (0 : Int), (0 : Int), (0 : Int), (0 : Int), (0 : Int), (0 : Int), (0 : Int), (0 : Int), (0 :
 Int), (0 : Int), (0 : Int), (0 : Int), (0 : Int), (0 : Int), (0 : Int), (0 : Int), (0 : Int), (0 : Int), (0 : Int), (0 : Int), (0 : Int), (0 : Int), (0 : Int), (0 : Int), (0 : Int), (0 : Int), (0 : Int), (0 : Int)] = LI [(0 : Int), (0 : Int), (0 :
 Int), (0 : Int), (0 : Int), (0 : Int), (0 : Int), (0 : Int), (0 : Int), (0 : Int), (0 : Int), (0 : Int), (0 : Int), (0 : Int), (0 : Int), (0 : Int), (0 : Int), (0 : Int), (0 : Int), (0 : Int), (0 : Int), (0 : Int), (0 : Int), (0 : Int), (0 : Int), (0
 : Int), (0 : Int), (0 : Int), (0 : Int), (0 : Int), (0 : Int), (0 : Int), (0 : Int), (0 : Int), (0 : Int), (0 : Int), (0 : Int), (0 : Int), (0 : Int), (0 : Int), (0 : Int), (0 : Int), (0 : Int), (0 : Int), (0 : Int), (0 : Int), (0 : Int), (0 : Int),
 (0 : Int), (0 : Int), (0 : Int), (0 : Int), (0 : Int), (0 : Int), (0 : Int), (0 : Int), (0 : Int), (0 : Int), (0 : Int), (0 : Int), (0 : Int), (0 : Int), (0 : Int), (0 : Int), (0 : Int), (0 : Int), (0 : Int), (0 : Int), (0 : Int), (0 : Int), (0 :
 Int), (0 : Int), (0 : Int), (0 : Int), (0 : Int), (0 : Int), (0 : Int), (0 : Int), (0 : Int), (0 : Int), (0 : Int), (0 : Int), (0 : Int), (0 : Int), (0 : Int), (0 : Int), (0 : Int), (0 : Int), (0 : Int), (0 : Int), (0 : Int), (0 : Int), (0 : Int), (0
 : Int), (0 : Int), (0 : Int), (0 : Int), (0 : Int), (0 : Int), (0 : Int), (0 : Int), (0 : Int), (0 : Int), (0 : Int), (0 : Int), (0 : Int), (0 : Int), (0 : Int), (0 : Int), (0 : Int), (0 : Int), (0 : Int), (0 : Int), (0 : Int), (0 : Int), (0 : Int),
 (0 : Int), (0 : Int), (0 : Int), (0 : Int), (0 : Int), (0 : Int), (0 : Int), (0 : Int), (0 : Int), (0 : Int), (0 : Int), (0 : Int), (0 : Int), (0 : Int), (0 : Int), (0 : Int), (0 : Int), (0 : Int), (0 : Int), (0 : Int), (0 : Int), (0 : Int), (0 :
 Int), (0 : Int), (0 : Int), (0 : Int), (0 : Int), (0 : Int), (0 : Int), (0 : Int), (0 : Int), (0 : Int), (0 : Int), (0 : Int), (0 : Int), (0 : Int), (0 : Int), (0 : Int), (0 : Int), (0 : Int), (0 : Int), (0 : Int), (0 : Int), (0 : Int), (0 : Int), (0
 : Int), (0 : Int), (0 : Int), (0 : Int), (0 : Int), (0 : Int), (0 : Int), (0 : Int), (0 : Int), (0 : Int), (0 : Int), (0 : Int), (0 : Int), (0 : Int), (0 : Int), (0 : Int), (0 : Int), (0 : Int), (0 : Int), (0 : Int), (0 : Int), (0 : Int), (0 : Int),
 (0 : Int), (0 : Int), (0 : Int), (0 : Int), (0 : Int), (0 : Int), (0 : Int), (0 : Int), (0 : Int), (0 : Int), (0 : Int), (0 : Int), (0 : Int), (0 : Int), (0 : Int), (0 : Int), (0 : Int), (0 : Int), (0 : Int), (0 : Int), (0 : Int), (0 : Int), (0 :
 Int), (0 : Int), (0 : Int), (0 : Int), (0 : Int), (0 : Int), (0 : Int), (0 : Int), (0 : Int), (0 : Int), (0 : Int), (0 : Int), (0 : Int), (0 : Int), (0 : Int), (0 : Int), (0 : Int), (0 : Int), (0 : Int), (0 : Int), (0 : Int), (0 : Int), (0 : Int), (0
 : Int), (0 : Int), (0 : Int), (0 : Int), (0 : Int), (0 : Int), (0 : Int), (0 : Int), (0 : Int), (0 : Int), (0 : Int), (0 : Int), (0 : Int), (0 : Int), (0 : Int), (0 : Int), (0 : Int), (0 : Int), (0 : Int), (0 : Int), (0 : Int), (0 : Int), (0 : Int),
 (0 : Int), (0 : Int), (0 : Int), (0 : Int)] ∧ True) ∧ ∀ (x : Int), Upto x → br (decide (x < (256 : Int))) (rq (decide ((0 : Int) ≤ x ∧ x < (256 : Int))) (rq (((0 : Nat) + x.toNat * (1 : Nat)).blt (256 : Nat)) (br (decide (x ≥ (32 : Int))) (br (decide
 (x ≤ (126 : Int))) (rq (decide ((0 : Int) ≤ x ∧ x < (256 : Int))) (rq (((0 : Nat) + x.toNat * (1 : Nat)).blt (256 : Nat)) (Upto (IntKind.i64.wrap (x + (1 : Int))) ∧ ((SV.v (Value.pointer none) = SV.v (Value.pointer none) ∧ SV.p 0 0 = SV.p 0 0 ∧ vI
 (IntKind.i64.wrap (x + (1 : Int))) = vI (IntKind.i64.wrap (x + (1 : Int))) ∧ True) ∧ ((ascL x.toNat).set ((0 : Nat) + x.toNat * (1 : Nat)) (65533 : Int)).set ((0 : Nat) + x.toNat * (1 : Nat)) (IntKind.i32.wrap x) = ascL (IntKind.i64.wrap (x + (1 :
 Int))).toNat ∧ True) ∧ ((256 : Int) - IntKind.i64.wrap (x + (1 : Int))).toNat < ((256 : Int) - x).toNat))) (Upto (IntKind.i64.wrap (x + (1 : Int))) ∧ ((SV.v (Value.pointer none) = SV.v (Value.pointer none) ∧ SV.p 0 0 = SV.p 0 0 ∧ vI (IntKind.i64.wrap
 (x + (1 : Int))) = vI (IntKind.i64.wrap (x + (1 : Int))) ∧ True) ∧ (ascL x.toNat).set ((0 : Nat) + x.toNat * (1 : Nat)) (65533 : Int) = ascL (IntKind.i64.wrap (x + (1 : Int))).toNat ∧ True) ∧ ((256 : Int) - IntKind.i64.wrap (x + (1 : Int))).toNat <
 ((256 : Int) - x).toNat)) (Upto (IntKind.i64.wrap (x + (1 : Int))) ∧ ((SV.v (Value.pointer none) = SV.v (Value.pointer none) ∧ SV.p 0 0 = SV.p 0 0 ∧ vI (IntKind.i64.wrap (x + (1 : Int))) = vI (IntKind.i64.wrap (x + (1 : Int))) ∧ True) ∧ (ascL
 x.toNat).set ((0 : Nat) + x.toNat * (1 : Nat)) (65533 : Int) = ascL (IntKind.i64.wrap (x + (1 : Int))).toNat ∧ True) ∧ ((256 : Int) - IntKind.i64.wrap (x + (1 : Int))).toNat < ((256 : Int) - x).toNat)))) ((SV.p 0 0 = SV.p 0 0 ∧ True) ∧
 (((((((((((((((((((((((((((((((((ascL x.toNat).set (94 : Nat) (32 : Int)).set (95 : Nat) (32 : Int)).set (96 : Nat) (32 : Int)).set (97 : Nat) (9608 : Int)).set (98 : Nat) (8543 : Int)).set (99 : Nat) (179 : Int)).set (100 : Nat) (8309 : Int)).set
 (101 : Nat) (8311 : Int)).set (102 : Nat) (176 : Int)).set (103 : Nat) (177 : Int)).set (104 : Nat) (8594 : Int)).set (105 : Nat) (8230 : Int)).set (106 : Nat) (247 : Int)).set (107 : Nat) (8595 : Int)).set (108 : Nat) (9620 : Int)).set (109 : Nat)
 (9146 : Int)).set (110 : Nat) (9147 : Int)).set (111 : Nat) (9473 : Int)).set (112 : Nat) (9472 : Int)).set (113 : Nat) (9476 : Int)).set (114 : Nat) (9148 : Int)).set (115 : Nat) (9149 : Int)).set (116 : Nat) (8320 : Int)).set (117 : Nat) (8321 :
 Int)).set (118 : Nat) (8322 : Int)).set (119 : Nat) (8323 : Int)).set (120 : Nat) (8324 : Int)).set (121 : Nat) (8325 : Int)).set (122 : Nat) (8326 : Int)).set (123 : Nat) (8327 : Int)).set (124 : Nat) (8328 : Int)).set (125 : Nat) (8329 : Int)).set
 (126 : Nat) (182 : Int) = LI [(65533 : Int), (65533 : Int), (65533 : Int), (65533 : Int), (65533 : Int), (65533 : Int), (65533 : Int), (65533 : Int), (65533 : Int), (65533 : Int), (65533 : Int), (65533 : Int), (65533 : Int), (65533 : Int), (65533 :
 Int), (65533 : Int), (65533 : Int), (65533 : Int), (65533 : Int), (65533 : Int), (65533 : Int), (65533 : Int), (65533 : Int), (65533 : Int), (65533 : Int), (65533 : Int), (65533 : Int), (65533 : Int), (65533 : Int), (65533 : Int), (65533 : Int),
 (65533 : Int), (32 : Int), (33 : Int), (34 : Int), (35 : Int), (36 : Int), (37 : Int), (38 : Int), (39 : Int), (40 : Int), (41 : Int), (42 : Int), (43 : Int), (44 : Int), (45 : Int), (46 : Int), (47 : Int), (48 : Int), (49 : Int), (50 : Int), (51 :
 Int), (52 : Int), (53 : Int), (54 : Int), (55 : Int), (56 : Int), (57 : Int), (58 : Int), (59 : Int), (60 : Int), (61 : Int), (62 : Int), (63 : Int), (64 : Int), (65 : Int), (66 : Int), (67 : Int), (68 : Int), (69 : Int), (70 : Int), (71 : Int), (72
 : Int), (73 : Int), (74 : Int), (75 : Int), (76 : Int), (77 : Int), (78 : Int), (79 : Int), (80 : Int), (81 : Int), (82 : Int), (83 : Int), (84 : Int), (85 : Int), (86 : Int), (87 : Int), (88 : Int), (89 : Int), (90 : Int), (91 : Int), (92 : Int),
 (93 : Int), (32 : Int), (32 : Int), (32 : Int), (9608 : Int), (8543 : Int), (179 : Int), (8309 : Int), (8311 : Int), (176 : Int), (177 : Int), (8594 : Int), (8230 : Int), (247 : Int), (8595 : Int), (9620 : Int), (9146 : Int), (9147 : Int), (9473 :
 Int), (9472 : Int), (9476 : Int), (9148 : Int), (9149 : Int), (8320 : Int), (8321 : Int), (8322 : Int), (8323 : Int), (8324 : Int), (8325 : Int), (8326 : Int), (8327 : Int), (8328 : Int), (8329 : Int), (182 : Int), (65533 : Int), (65533 : Int),
 (65533 : Int), (65533 : Int), (65533 : Int), (65533 : Int), (65533 : Int), (65533 : Int), (65533 : Int), (65533 : Int), (65533 : Int), (65533 : Int), (65533 : Int), (65533 : Int), (65533 : Int), (65533 : Int), (65533 : Int), (65533 : Int), (65533 :
 Int), (65533 : Int), (65533 : Int), (65533 : Int), (65533 : Int), (65533 : Int), (65533 : Int), (65533 : Int), (65533 : Int), (65533 : Int), (65533 : Int), (65533 : Int), (65533 : Int), (65533 : Int), (65533 : Int), (65533 : Int), (65533 : Int),
 (65533 : Int), (65533 : Int), (65533 : Int), (65533 : Int), (65533 : Int), (65533 : Int), (65533 : Int), (65533 : Int), (65533 : Int), (65533 : Int), (65533 : Int), (65533 : Int), (65533 : Int), (65533 : Int), (65533 : Int), (65533 : Int), (65533 :
 Int), (65533 : Int), (65533 : Int), (65533 : Int), (65533 : Int), (65533 : Int), (65533 : Int), (65533 : Int), (65533 : Int), (65533 : Int), (65533 : Int), (65533 : Int), (65533 : Int), (65533 : Int), (65533 : Int), (65533 : Int), (65533 : Int),
 (65533 : Int), (65533 : Int), (65533 : Int), (65533 : Int), (65533 : Int), (65533 : Int), (65533 : Int), (65533 : Int), (65533 : Int), (65533 : Int), (65533 : Int), (65533 : Int), (65533 : Int), (65533 : Int), (65533 : Int), (65533 : Int), (65533 :
 Int), (65533 : Int), (65533 : Int), (65533 : Int), (65533 : Int), (65533 : Int), (65533 : Int), (65533 : Int), (65533 : Int), (65533 : Int), (65533 : Int), (65533 : Int), (65533 : Int), (65533 : Int), (65533 : Int), (65533 : Int), (65533 : Int),
 (65533 : Int), (65533 : Int), (65533 : Int), (65533 : Int), (65533 : Int), (65533 : Int), (65533 : Int), (65533 : Int), (65533 : Int), (65533 : Int), (65533 : Int), (65533 : Int), (65533 : Int), (65533 : Int), (65533 : Int), (65533 : Int), (65533 :
 Int), (65533 : Int), (65533 : Int), (65533 : Int), (65533 : Int), (65533 : Int), (65533 : Int), (65533 : Int), (65533 : Int), (65533 : Int), (65533 : Int), (65533 : Int)] ∧ True))) (by kernel_rfl) ?_
  refine ⟨⟨by omega, by omega⟩, ?_, ?_⟩
  · repeat' (first | exact trivial | refine And.intro ?_ ?_ | kernel_rfl)
  refine fun (x : Int) hx => ?_
  obtain ⟨hx0, hx1⟩ := hx
  refine br_intro (fun hlt => ?_) (fun hge => ?_)
  · have hlt : x < 256 := of_decide_eq_true hlt
    refine rq_t (in_range hx0 hlt) (rq_t (in_blt hx0 hlt) ?_)
    refine br_intro (fun h32 => ?_) (fun h32 => ?_)
    · have h32 : 32 ≤ x := of_decide_eq_true h32
      refine br_intro (fun h126 => ?_) (fun h126 => ?_)
      · have h126 : x ≤ 126 := of_decide_eq_true h126
        refine rq_t (in_range hx0 hlt) (rq_t (in_blt hx0 hlt) ⟨upto_next hx0 hlt, ?_, mu_next hx0 hlt⟩)
        rw [asc1 hx0 h32 h126]
        repeat' (first | exact trivial | refine And.intro ?_ ?_ | kernel_rfl)
      · have h126 : ¬ x ≤ 126 := of_decide_eq_false h126
        refine ⟨upto_next hx0 hlt, ?_, mu_next hx0 hlt⟩
        rw [asc2 hx0 hlt (fun h => h126 h.2)]
        repeat' (first | exact trivial | refine And.intro ?_ ?_ | kernel_rfl)
    · have h32 : ¬ 32 ≤ x := of_decide_eq_false h32
      refine ⟨upto_next hx0 hlt, ?_, mu_next hx0 hlt⟩
      rw [asc2 hx0 hlt (fun h => h32 h.1)]
      repeat' (first | exact trivial | refine And.intro ?_ ?_ | kernel_rfl)
  have hge : ¬ x < 256 := of_decide_eq_false hge
  obtain rfl : x = 256 := by omega
  repeat' (first | exact trivial | refine And.intro ?_ ?_ | kernel_rfl)
def lcOfT : ACon Unit := mkLC (decP (shOne shI) shHNil) fun (set, _) => .ask (set = 1 ∨ set = 3) (altOf set)
theorem ok_ofT : ∀ I : Sym.Inv Unit, LCOk I Tryz.prog 82 lcOfT := by
  refine lc_mk (fun _ => allCfg Tryz.prog [] [] 300 anns) (fun _ _ => allCfg_ok mixed trivial trivial) (fun _ => rfl) (n := 60) Tryz.func82 ?_
  intro ⟨set, _⟩ hφ
  show OfAsk set
  obtain ⟨rfl | rfl, _⟩ := hφ
  · exact of_1
  · exact of_3
def psOf : PS := mkPS (shCons shI (shOne (shInt .u8))) (fun (set, b) => (set = 1 ∨ set = 3) ∧ 0 ≤ b ∧ b ≤ 255) (fun (set, b) => .v (.int .i32 (ofT set b)))
set_option maxHeartbeats 4000000 in
theorem ok_Of : PureOk Tryz.prog 44 psOf := by
  refine pureOk_all (fun _ => allCfg Tryz.prog [] [(82, lcOfT)] 0) (fun _ _ => allCfg_ok mixed trivial ⟨ok_ofT, trivial⟩) (fun _ => rfl) (n := 60) Tryz.func44 (fun _ => rfl) (fun _ => rfl) ?_
  intro ⟨set, b⟩ hφ
  obtain ⟨hs, hb0, hb1⟩ := hφ
  refine kcast (B := (true = true ∧ (set = (1 : Int) ∨ set = (3 : Int)) ∧ rq (decide ((0 : Int) ≤ b ∧ b < (256 : Int))) (rq (((0 : Nat) + b.toNat * (1 : Nat)).blt (256 : Nat)) (SV.v (Value.int IntKind.i32 ((tabL2 set).getD ((0 : Nat) + b.toNat * (1 : Nat)) (0 : Int))) = SV.v (Value.int IntKind.i32 (ofT set b)))))) (by kernel_rfl) ?_
  simp only [rq_iff, nbeq, Bool.and_eq_true, decide_eq_true_eq, Nat.blt_eq, true_and, and_true, SV.v.injEq, Value.int.injEq]
  exact ⟨hs, ⟨by omega, by omega⟩, by omega, getD_tab rfl hb0 hb1⟩
end Go.Proofs.YtcbjgpkbfmmdpaaGreatDoor
