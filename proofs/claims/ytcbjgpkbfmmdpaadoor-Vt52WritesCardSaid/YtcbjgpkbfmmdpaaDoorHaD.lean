/- Layers 1, 4, 6: grids as functions; lines go up; near places: contracts. -/
import Derived.Test.YtcbjgpkbfmmdpaaDoorHaC
set_option linter.unusedSimpArgs false
set_option linter.unusedVariables false
set_option linter.unusedSectionVars false
namespace Go.Sym
open Go
/-- The rows of an item. -/
def rwC (R : Rws) : List (List C4) := match R with
  | .c l => l
  | _ => []
def itRows (b : SB Unit) : List (List C4) := match b with
  | .rows R _ _ _ _ _ => rwC R
  | _ => []
def xR (H : List (SB Unit)) (b : Nat) : List (List C4) := match H[b]? with
  | some it => itRows it
  | none => []
end Go.Sym
namespace Go.Proofs.YtcbjgpkbfmmdpaaDoor
open Go Go.Sym
def fn (l : List (List C4)) (r c : Nat) : C4 := at2 l r c
theorem row_eq {l : List (List C4)} (h : GW l) {j : Nat} (hj : j < l.length) : l.getD j [] = (List.range (nC l)).map fun c => fn l j c := by
  have hr := h.row hj
  apply List.ext_getElem
  · simpa using hr
  · intro i h1 h2
    simp only [List.getElem_map, List.getElem_range, fn, at2, Int.toNat_natCast]
    have e : ∀ (q : List C4) (h : i < q.length), q[i] = q.getD i C4.no := fun q h => by rw [List.getD, List.getElem?_eq_getElem h]; rfl
    exact e _ h1
theorem grid_ext {l : List (List C4)} {R C : Nat} {f : Nat → Nat → C4} (h1 : l.length = R) (h2 : ∀ i, i < R → l.getD i [] = (List.range C).map (f i)) : l = gridF R C f := by
  apply List.ext_getElem
  · rw [gridF_length, h1]
  · intro i h3 h4
    have := h2 i (by omega)
    rw [List.getD, List.getElem?_eq_getElem h3] at this
    simp only [gridF, List.getElem_map, List.getElem_range]
    exact this
theorem fn_gridF {R C : Nat} {f : Nat → Nat → C4} {r c : Nat} (hr : r < R) (hc : c < C) : fn (gridF R C f) r c = f r c := gridF_at hr hc
theorem fn_self {l : List (List C4)} (h : GW l) : gridF l.length (nC l) (fn l) = l := gridF_self h
theorem grid_eq {l m : List (List C4)} (h : GW l) (h' : GW m) (h1 : l.length = m.length) (h2 : nC l = nC m) (h3 : ∀ r c, r < l.length → c < nC l → fn l r c = fn m r c) : l = m := by
  rw [← fn_self h, ← fn_self h', ← h1, ← h2]
  exact gridF_congr h3
/-! ### Rows move -/
def rollF (f : Nat → Nat → C4) (t b n : Int) (x : C4) (r c : Nat) : C4 := if t ≤ r ∧ r ≤ b then (if n ≤ b - r ∧ n ≥ t - r then f (r + n).toNat c else x) else f r c
theorem rollL_eq {l : List (List C4)} (hg : GW l) {t b n : Int} {x : C4} (ht : 0 ≤ t) (htb : t ≤ b) (hb : b < l.length) : rollL l t.toNat b.toNat n x = gridF l.length (nC l) (rollF (fn l) t b n x) := by
  refine grid_ext (mrg_length _ _ _ _) fun i hi => ?_
  have e : (rollL l t.toNat b.toNat n x).getD i [] = mrgAt l [] t.toNat (limL t.toNat (b.toNat + 1 - t.toNat) n (List.replicate (nC l) x)) i := by
    unfold rollL mrg
    rw [List.getD, List.getElem?_map, List.getElem?_range hi]; rfl
  rw [e]
  unfold mrgAt
  cases hc : Nat.blt i t.toNat with
  | true =>
    rw [Nat.blt_eq] at hc
    simp only
    rw [row_eq hg hi]
    refine List.map_congr_left fun c _ => ?_
    rw [rollF, if_neg (by omega)]
  | false =>
    have hc : ¬ i < t.toNat := by rw [← Nat.blt_eq, hc]; simp
    simp only
    by_cases hl : i - t.toNat < b.toNat + 1 - t.toNat
    · rw [limL_get hl]
      simp only
      unfold limAt1
      by_cases hq : n > ((b.toNat + 1 - t.toNat : Nat) : Int) - 1 - (i - t.toNat : Nat) ∨ n < -((i - t.toNat : Nat) : Int)
      · rw [if_pos hq]
        simp only
        apply List.ext_getElem
        · simp
        · intro c h1 h2
          simp only [List.getElem_replicate, List.getElem_map, List.getElem_range]
          rw [rollF, if_pos (by omega), if_neg (by omega)]
      · rw [if_neg hq]
        simp only
        rw [row_eq hg (by omega)]
        refine List.map_congr_left fun c _ => ?_
        rw [rollF, if_pos (by omega), if_pos (by omega)]
        congr 1; omega
    · rw [List.getElem?_eq_none (by rw [limL_length]; omega)]
      simp only
      rw [row_eq hg hi]
      refine List.map_congr_left fun c _ => ?_
      rw [rollF, if_neg (by omega)]
/-! ### A cell is set -/
def setF (f : Nat → Nat → C4) (w a : Int) (x : C4) (r c : Nat) : C4 := if r = w ∧ c = a then x else f r c
theorem set2_eq {l : List (List C4)} (hg : GW l) {w a : Int} {x : C4} (hw : 0 ≤ w) (hw2 : w < l.length) (ha : 0 ≤ a) (hb : a < nC l) : set2 l w a x = gridF l.length (nC l) (setF (fn l) w a x) := by
  obtain ⟨i, rfl⟩ : ∃ i : Nat, w = i := ⟨w.toNat, by omega⟩
  obtain ⟨k, rfl⟩ : ∃ k : Nat, a = k := ⟨a.toNat, by omega⟩
  have e := gridF_set (f := fn l) (r := i) (c := k) (x := x) (R := l.length) (C := nC l) (by omega) (by omega)
  rw [fn_self hg] at e
  rw [e]
  refine gridF_congr fun r c _ _ => ?_
  unfold setF
  by_cases h : r = i ∧ c = k
  · rw [if_pos h, if_pos (by omega)]
  · rw [if_neg h, if_neg (by omega)]
theorem ix_lt {R C r c : Nat} (hr : r < R) (hc : c < C) : r * C + c < R * C := by
  have : (r + 1) * C ≤ R * C := Nat.mul_le_mul_right _ (by omega)
  rw [Nat.add_mul, Nat.one_mul] at this
  omega
theorem ix_div {C r c : Nat} (hc : c < C) : (r * C + c) / C = r := by rw [Nat.add_comm, Nat.add_mul_div_right _ _ (by omega), Nat.div_eq_of_lt hc]; omega
theorem ix_mod {C r c : Nat} (hc : c < C) : (r * C + c) % C = c := by rw [Nat.add_comm, Nat.add_mul_mod_self_right, Nat.mod_eq_of_lt hc]
theorem ix_of {R C j : Nat} (h : j < R * C) : j / C < R ∧ j % C < C ∧ j / C * C + j % C = j := by
  have hC : 0 < C := by
    rcases Nat.eq_zero_or_pos C with hC | hC
    · subst hC; simp at h
    · exact hC
  exact ⟨Nat.div_lt_of_lt_mul (by rw [Nat.mul_comm]; exact h), Nat.mod_lt _ hC, Nat.div_add_mod' j C⟩
section
variable {τ : Type} {I : Sym.Inv τ} {P : Program}
theorem lc_mono {g : FuncId} {lc lc' : ACon τ} (h : ∀ args H, (lc' args H).pre → (lc args H).pre ∧ ∀ x H' ws, (lc args H).has x H' ws → (lc' args H).has x H' ws) (hok : LCOk I P g lc) : LCOk I P g lc' := by
  intro args H e Fr w vs hpre hd hM
  obtain ⟨h1, h2⟩ := h args H hpre
  refine (hok args H e Fr w vs h1 hd hM).mono fun en w' hh => ?_
  obtain ⟨x, Hx, ws, e', v, g1, g2⟩ := hh
  exact ⟨x, Hx, ws, e', v, h2 _ _ _ g1, g2⟩
end
/-- What is at a place that is there. -/
def lcAtIn : ACon Unit := mkLC (decP (shCons (shP 0) (shOne shI2)) shG) fun ((_, (r, c)), (oe, ⟨l, oe2, ep⟩)) => .ask (oe = oe2 ∧ GW l ∧ inB l r c = true) (.one (.t [cv (at2 l r c), .v (.int .i64 0)]) (gbi 0 oe ep l) [])
theorem ok_atIn : ∀ I : Sym.Inv Unit, LCOk I Tryd.prog 29 lcAtIn := fun I => lc_mono (fun args H hp => by
  unfold lcAtIn mkLC at hp ⊢
  unfold lcAt1 mkLC
  split at hp
  · rename_i a ha
    obtain ⟨⟨_, r, c⟩, oe, l, oe2, ep⟩ := a
    refine ⟨⟨⟨hp.1.1, hp.1.2.1⟩, ⟨fun _ => trivial, fun _ => trivial⟩⟩, fun x H' ws hh => ?_⟩
    rcases hh with ⟨_, h⟩ | ⟨h1, _⟩
    · exact h
    · rw [hp.1.2.2] at h1; cases h1
  · exact hp.elim) (ok_at1 I)
section
variable {l : List (List C4)}
theorem rollL_gw (hg : GW l) {t b n : Int} {x : C4} (ht : 0 ≤ t) (htb : t ≤ b) (hb : b < l.length) : GW (rollL l t.toNat b.toNat n x) ∧ (rollL l t.toNat b.toNat n x).length = l.length ∧ nC (rollL l t.toNat b.toNat n x) = nC l := by
  rw [rollL_eq hg ht htb hb]
  exact ⟨gridF_gw hg.r0 hg.r1 hg.c0 hg.c1, gridF_length _ _ _, gridF_nC (by have := hg.r0; omega)⟩
def upF (l : List (List C4)) (n : Int) (x : C4) : List (List C4) := rollL l 0 (l.length - 1) n x
theorem upF_gw (hg : GW l) (n : Int) (x : C4) : GW (upF l n x) ∧ (upF l n x).length = l.length ∧ nC (upF l n x) = nC l := by
  have h0 := hg.r0
  have := rollL_gw hg (t := 0) (b := ((l.length - 1 : Nat) : Int)) (n := n) (x := x) (by omega) (by omega) (by omega)
  exact this
theorem upF_at (hg : GW l) {n : Int} {x : C4} {r c : Nat} (hr : r < l.length) (hc : c < nC l) : fn (upF l n x) r c = rollF (fn l) 0 ((l.length : Int) - 1) n x r c := by
  have h0 := hg.r0
  have := rollL_eq hg (t := 0) (b := ((l.length - 1 : Nat) : Int)) (n := n) (x := x) (by omega) (by omega) (by omega)
  have e : upF l n x = gridF l.length (nC l) (rollF (fn l) 0 ((l.length - 1 : Nat) : Int) n x) := this
  rw [e, fn_gridF hr hc, show ((l.length - 1 : Nat) : Int) = (l.length : Int) - 1 by omega]
end
def tabB6 : List (Nat × ACon Unit) := (93, lcRoll) :: tabQ
theorem tabB6_ok : LCs Tryd.prog tabB6 := ⟨ok_roll, tabQ_ok⟩
def lcUp : ACon Unit := mkLC (decP (shCons (shP 0) (shCons shI (shOne shC))) shG) fun ((_, n, x), (oe, ⟨l, oe2, ep⟩)) => .ask (oe = oe2 ∧ GW l) (.one (.v (.int .i64 0)) (gbi 0 oe (ep + 1) (upF l n x)) [1])
set_option maxHeartbeats 4000000 in
theorem ok_up : ∀ I : Sym.Inv Unit, LCOk I Tryd.prog 79 lcUp := by
  refine lc_mk (fun _ => allCfg Tryd.prog [] tabB6 3) (fun _ _ => allCfg_ok mixed trivial tabB6_ok) (fun _ => rfl) (n := 80) Tryd.func79 ?_
  intro ⟨⟨_, n, x⟩, ⟨oe, ⟨l, oe2, ep⟩⟩⟩ hφ
  obtain ⟨⟨rfl, hg⟩, hp⟩ := id hφ
  refine kcast (B := (true = true ∧ (oe = oe ∧ GW l) ∧ true = true ∧ (oe = oe ∧ GW l) ∧ br (inB l (0 : Int) (0 : Int) && inB l (if (0 : Int) > IntKind.i64.wrap ((↑l.length : Int) - (1 : Int)) then (0 : Int) else IntKind.i64.wrap ((↑l.length : Int) - (1 : Int))) (0 : Int)) (br (decide ((if (0 : Int) > IntKind.i64.wrap ((↑l.length : Int) - (1 : Int)) then (0 : Int) else IntKind.i64.wrap ((↑l.length : Int) - (1 : Int))) < (0 : Int))) ((SV.v (Value.int IntKind.i64 (1 : Int)) = SV.v (Value.int IntKind.i64 (0 : Int)) ∧ True) ∧ (SV.h (1 : Nat) [oe, (0 : Nat)] = SV.h (1 : Nat) [oe, (0 : Nat)] ∧ True) ∧ (oe = oe ∧ ep = ep + (1 : Nat) ∧ l = upF l n x) ∧ True) ((SV.v (Value.int IntKind.i64 (0 : Int)) = SV.v (Value.int IntKind.i64 (0 : Int)) ∧ True) ∧ (SV.h (1 : Nat) [oe, (0 : Nat)] = SV.h (1 : Nat) [oe, (0 : Nat)] ∧ True) ∧ (oe = oe ∧ ep + (1 : Nat) = ep + (1 : Nat) ∧ rollL l (0 : Nat) (if (0 : Int) > IntKind.i64.wrap ((↑l.length : Int) - (1 : Int)) then (0 : Int) else IntKind.i64.wrap ((↑l.length : Int) - (1 : Int))).toNat n (C4.mk x.g x.a x.gd x.m) = upF l n x) ∧ True)) ((SV.v (Value.int IntKind.i64 (11 : Int)) = SV.v (Value.int IntKind.i64 (0 : Int)) ∧ True) ∧ (SV.h (1 : Nat) [oe, (0 : Nat)] = SV.h (1 : Nat) [oe, (0 : Nat)] ∧ True) ∧ (oe = oe ∧ ep = ep + (1 : Nat) ∧ l = upF l n x) ∧ True))) (by kernel_rfl) ?_
  clear hp hφ
  have h1 := hg.r0
  have h2 := hg.r1
  have h3 := hg.c0
  have e1 : (if (0 : Int) > IntKind.i64.wrap ((l.length : Int) - 1) then (0 : Int) else IntKind.i64.wrap ((l.length : Int) - 1)) = ((l.length - 1 : Nat) : Int) := by
    rw [wrap64 (by omega) (by omega), if_neg (by omega)]; omega
  have e2 : inB l 0 0 = true := by rw [inB_iff]; omega
  have e3 : inB l ((l.length - 1 : Nat) : Int) 0 = true := by rw [inB_iff]; omega
  have e4 : ¬ (((l.length - 1 : Nat) : Int) < 0) := by omega
  have e5 : ∀ y : C4, C4.mk y.g y.a y.gd y.m = y := fun _ => rfl
  simp only [e1]
  simp [br_iff, hg, e2, e3, e4, e5, upF]
def nearI (x n : Int) : Int := if (if n - 1 < x then n - 1 else x) > 0 then (if n - 1 < x then n - 1 else x) else 0
def lcNear1 : ACon Unit := mkLC (decP (shCons shI (shOne shI)) shHNil) fun ((x, n), _) => .ask (1 ≤ n ∧ n ≤ 255) (.one (.v (.int .i64 (nearI x n))) [] [])
set_option maxHeartbeats 4000000 in
theorem ok_near1 : ∀ I : Sym.Inv Unit, LCOk I Tryd.prog 82 lcNear1 := by
  refine lc_mk (fun _ => allCfg Tryd.prog [] [] 0) (fun _ _ => allCfg_ok mixed trivial trivial) (fun _ => rfl) (n := 60) Tryd.func82 ?_
  intro ⟨⟨x, n⟩, _⟩ hφ
  obtain ⟨⟨h1, h2⟩, hp⟩ := id hφ
  refine kcast (B := ((SV.v (Value.int IntKind.i64 (if (if IntKind.i64.wrap (n - (1 : Int)) < x then IntKind.i64.wrap (n - (1 : Int)) else x) > (0 : Int) then if IntKind.i64.wrap (n - (1 : Int)) < x then IntKind.i64.wrap (n - (1 : Int)) else x else (0 : Int))) = SV.v (Value.int IntKind.i64 (nearI x n)) ∧ True) ∧ True)) (by kernel_rfl) ?_
  rw [wrap64 (x := n - 1) (by omega) (by omega)]
  exact ⟨⟨rfl, trivial⟩, trivial⟩
def lcNear : ACon Unit := mkLC (decP (shCons shI2 (shOne shI2)) shHNil) fun (((a, b), (r, c)), _) => .br (mayB a b) (.one (.a [.v (.int .i64 (nearI r a)), .v (.int .i64 (nearI c b))]) [] []) (.one (.a [.v (.int .i64 0), .v (.int .i64 0)]) [] [])
set_option maxHeartbeats 4000000 in
theorem ok_near : ∀ I : Sym.Inv Unit, LCOk I Tryd.prog 57 lcNear := by
  refine lc_mk (fun _ => allCfg Tryd.prog [] [(82, lcNear1), (58, lcMay)] 0) (fun _ _ => allCfg_ok mixed trivial ⟨ok_near1, ok_may, trivial⟩) (fun _ => rfl) (n := 60) Tryd.func57 ?_
  intro ⟨⟨⟨a, b⟩, ⟨r, c⟩⟩, _⟩ hφ
  refine kcast (B := (true = true ∧ br (mayB a b) (true = true ∧ ((1 : Int) ≤ a ∧ a ≤ (255 : Int)) ∧ true = true ∧ ((1 : Int) ≤ b ∧ b ≤ (255 : Int)) ∧ br (mayB a b) ((SV.a [SV.v (Value.int IntKind.i64 (nearI r a)), SV.v (Value.int IntKind.i64 (nearI c b))] = SV.a [SV.v (Value.int IntKind.i64 (nearI r a)), SV.v (Value.int IntKind.i64 (nearI c b))] ∧ True) ∧ True) ((SV.a [SV.v (Value.int IntKind.i64 (nearI r a)), SV.v (Value.int IntKind.i64 (nearI c b))] = SV.a [SV.v (Value.int IntKind.i64 (0 : Int)), SV.v (Value.int IntKind.i64 (0 : Int))] ∧ True) ∧ True)) (br (mayB a b) ((SV.a [SV.v (Value.int IntKind.i64 (0 : Int)), SV.v (Value.int IntKind.i64 (0 : Int))] = SV.a [SV.v (Value.int IntKind.i64 (nearI r a)), SV.v (Value.int IntKind.i64 (nearI c b))] ∧ True) ∧ True) ((SV.a [SV.v (Value.int IntKind.i64 (0 : Int)), SV.v (Value.int IntKind.i64 (0 : Int))] = SV.a [SV.v (Value.int IntKind.i64 (0 : Int)), SV.v (Value.int IntKind.i64 (0 : Int))] ∧ True) ∧ True)))) (by kernel_rfl) ?_
  cases h : mayB a b
  · simp only [br_iff, Bool.false_eq_true, false_implies, true_implies, true_and, and_true]
  · rw [mayB_iff] at h
    simp only [br_iff, Bool.true_eq_false, false_implies, true_implies, true_and, and_true]
    omega
def tabL : List (Nat × ACon Unit) := (82, lcNear1) :: (57, lcNear) :: tabB6
theorem tabL_ok : LCs Tryd.prog tabL := ⟨ok_near1, ok_near, tabB6_ok⟩
/-- Lines go up by one, if they must. -/
def upL (l : List (List C4)) (x : C4) : List (List C4) := rollL l 0 (l.length - 1) 1 x
def lcRise : ACon Unit := mkLC (decP (shCons (shP 0) (shCons shB (shOne shC))) shG) fun ((_, p, x), (oe, ⟨l, oe2, ep⟩)) => .ask (oe = oe2 ∧ GW l) (.br p (.one (.v (.int .i64 1)) (gbi 0 oe (ep + 1) (upL l x)) [1]) (.one (.v (.int .i64 0)) (gbi 0 oe ep l) [1]))
set_option maxHeartbeats 4000000 in
theorem ok_rise : ∀ I : Sym.Inv Unit, LCOk I Tryd.prog 90 lcRise := by
  refine lc_mk (fun _ => allCfg Tryd.prog [] tabL 0) (fun _ _ => allCfg_ok mixed trivial tabL_ok) (fun _ => rfl) (n := 60) Tryd.func90 ?_
  intro ⟨⟨_, p, x⟩, ⟨oe, ⟨l, oe2, ep⟩⟩⟩ hφ
  obtain ⟨⟨rfl, hg⟩, hp⟩ := id hφ
  refine kcast (B := (br (!p) (br p ((SV.v (Value.int IntKind.i64 (0 : Int)) = SV.v (Value.int IntKind.i64 (1 : Int)) ∧ True) ∧ (SV.h (1 : Nat) [oe, (0 : Nat)] = SV.h (1 : Nat) [oe, (0 : Nat)] ∧ True) ∧ (oe = oe ∧ ep = ep + (1 : Nat) ∧ l = upL l x) ∧ True) ((SV.v (Value.int IntKind.i64 (0 : Int)) = SV.v (Value.int IntKind.i64 (0 : Int)) ∧ True) ∧ (SV.h (1 : Nat) [oe, (0 : Nat)] = SV.h (1 : Nat) [oe, (0 : Nat)] ∧ True) ∧ (oe = oe ∧ ep = ep ∧ l = l) ∧ True)) (true = true ∧ (oe = oe ∧ GW l) ∧ true = true ∧ (oe = oe ∧ GW l) ∧ br (inB l (0 : Int) (0 : Int) && inB l (if (0 : Int) > IntKind.i64.wrap ((↑l.length : Int) - (1 : Int)) then (0 : Int) else IntKind.i64.wrap ((↑l.length : Int) - (1 : Int))) (0 : Int)) (br (decide ((if (0 : Int) > IntKind.i64.wrap ((↑l.length : Int) - (1 : Int)) then (0 : Int) else IntKind.i64.wrap ((↑l.length : Int) - (1 : Int))) < (0 : Int))) (br p ((SV.v (Value.int IntKind.i64 (1 : Int)) = SV.v (Value.int IntKind.i64 (1 : Int)) ∧ True) ∧ (SV.h (1 : Nat) [oe, (0 : Nat)] = SV.h (1 : Nat) [oe, (0 : Nat)] ∧ True) ∧ (oe = oe ∧ ep = ep + (1 : Nat) ∧ l = upL l x) ∧ True) ((SV.v (Value.int IntKind.i64 (1 : Int)) = SV.v (Value.int IntKind.i64 (0 : Int)) ∧ True) ∧ (SV.h (1 : Nat) [oe, (0 : Nat)] = SV.h (1 : Nat) [oe, (0 : Nat)] ∧ True) ∧ (oe = oe ∧ ep = ep ∧ l = l) ∧ True)) (br p ((SV.v (Value.int IntKind.i64 (1 : Int)) = SV.v (Value.int IntKind.i64 (1 : Int)) ∧ True) ∧ (SV.h (1 : Nat) [oe, (0 : Nat)] = SV.h (1 : Nat) [oe, (0 : Nat)] ∧ True) ∧ (oe = oe ∧ ep + (1 : Nat) = ep + (1 : Nat) ∧ rollL l (0 : Nat) (if (0 : Int) > IntKind.i64.wrap ((↑l.length : Int) - (1 : Int)) then (0 : Int) else IntKind.i64.wrap ((↑l.length : Int) - (1 : Int))).toNat (1 : Int) (C4.mk x.g x.a x.gd x.m) = upL l x) ∧ True) ((SV.v (Value.int IntKind.i64 (1 : Int)) = SV.v (Value.int IntKind.i64 (0 : Int)) ∧ True) ∧ (SV.h (1 : Nat) [oe, (0 : Nat)] = SV.h (1 : Nat) [oe, (0 : Nat)] ∧ True) ∧ (oe = oe ∧ ep + (1 : Nat) = ep ∧ rollL l (0 : Nat) (if (0 : Int) > IntKind.i64.wrap ((↑l.length : Int) - (1 : Int)) then (0 : Int) else IntKind.i64.wrap ((↑l.length : Int) - (1 : Int))).toNat (1 : Int) (C4.mk x.g x.a x.gd x.m) = l) ∧ True))) (br p ((SV.v (Value.int IntKind.i64 (1 : Int)) = SV.v (Value.int IntKind.i64 (1 : Int)) ∧ True) ∧ (SV.h (1 : Nat) [oe, (0 : Nat)] = SV.h (1 : Nat) [oe, (0 : Nat)] ∧ True) ∧ (oe = oe ∧ ep = ep + (1 : Nat) ∧ l = upL l x) ∧ True) ((SV.v (Value.int IntKind.i64 (1 : Int)) = SV.v (Value.int IntKind.i64 (0 : Int)) ∧ True) ∧ (SV.h (1 : Nat) [oe, (0 : Nat)] = SV.h (1 : Nat) [oe, (0 : Nat)] ∧ True) ∧ (oe = oe ∧ ep = ep ∧ l = l) ∧ True))))) (by kernel_rfl) ?_
  clear hp hφ
  have h1 := hg.r0
  have h2 := hg.r1
  have h3 := hg.c0
  have e1 : (if (0 : Int) > IntKind.i64.wrap ((l.length : Int) - 1) then (0 : Int) else IntKind.i64.wrap ((l.length : Int) - 1)) = ((l.length - 1 : Nat) : Int) := by
    rw [wrap64 (by omega) (by omega), if_neg (by omega)]; omega
  have e2 : inB l 0 0 = true := by rw [inB_iff]; omega
  have e3 : inB l ((l.length - 1 : Nat) : Int) 0 = true := by rw [inB_iff]; omega
  have e4 : ¬ (((l.length - 1 : Nat) : Int) < 0) := by omega
  simp only [e1]
  cases p
  · simp [br_iff]
  · simp [br_iff, hg, e2, e3, e4, upL]
abbrev shPl : Sh (Int × Int × Bool) := shA (shCons shI (shCons shI (shOne shB)))
end Go.Proofs.YtcbjgpkbfmmdpaaDoor
