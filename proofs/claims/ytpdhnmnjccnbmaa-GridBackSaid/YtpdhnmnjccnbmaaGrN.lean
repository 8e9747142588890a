/- Layer 1: what a call of a law does, in one contract. -/
import Derived.Test.YtpdhnmnjccnbmaaGrM
set_option linter.unusedSimpArgs false
set_option linter.unusedVariables false
set_option linter.unusedSectionVars false
namespace Go.Proofs.Ytpdhnmnjccnbmaa
open Go Go.Sym

section
variable {τ : Type} {I : Sym.Inv τ} {P : Program}
theorem lc_mono {g : FuncId} {lc lc' : ACon τ} (h : ∀ args H, (lc' args H).pre → (lc args H).pre ∧ ∀ x H' ws, (lc args H).has x H' ws → (lc' args H).has x H' ws) (hok : LCOk I P g lc) : LCOk I P g lc' := by
  intro args H e Fr w vs hpre hd hM
  obtain ⟨h1, h2⟩ := h args H hpre
  refine (hok args H e Fr w vs h1 hd hM).mono fun en w' hh => ?_
  obtain ⟨x, Hx, ws, e', v, g1, g2⟩ := hh
  exact ⟨x, Hx, ws, e', v, h2 _ _ _ g1, g2⟩
end
/-! ### One answer each -/
def suE (l : List (List Int)) (r c : Int) : Int := if inB l r c = true then 0 else 11
def suL (l : List (List Int)) (r c x : Int) : List (List Int) := if inB l r c = true then set2 l r c x else l
def lcSetU : ACon Unit := mkLC (decP (shCons (shP 0) (shCons shI2 (shOne shI))) shG) fun ((_, (r, c), x), (oe, ⟨l, oe2, ep⟩)) => .ask (oe = oe2 ∧ GW l) (.one (.v (.int .i64 (suE l r c))) (gbi 0 oe ep (suL l r c x)) [1])
theorem ok_setU : ∀ I : Sym.Inv Unit, LCOk I Try.prog 20 lcSetU := fun I => lc_mono (fun args H hp => by
  unfold lcSetU mkLC at hp ⊢
  unfold lcSet1 mkLC
  split at hp
  · rename_i a ha
    obtain ⟨⟨_, ⟨r, c⟩, x⟩, oe, l, oe2, ep⟩ := a
    refine ⟨⟨hp.1, ⟨fun _ => trivial, fun _ => trivial⟩⟩, fun y H' ws hh => ?_⟩
    rcases hh with ⟨h1, h⟩ | ⟨h1, h⟩ <;> (simp only [Alt.has, suE, suL, h1, Bool.false_eq_true, if_true, if_false]; exact h)
  · exact hp.elim) (ok_set1 I)
def auX (l : List (List Int)) (r c : Int) : Int := if inB l r c = true then at2 l r c else 0
def lcAtU : ACon Unit := mkLC (decP (shCons (shP 0) (shOne shI2)) shG) fun ((_, (r, c)), (oe, ⟨l, oe2, ep⟩)) => .ask (oe = oe2 ∧ GW l) (.one (.t [.v (.int .i64 (auX l r c)), .v (.int .i64 (suE l r c))]) (gbi 0 oe ep l) [])
theorem ok_atU : ∀ I : Sym.Inv Unit, LCOk I Try.prog 18 lcAtU := fun I => lc_mono (fun args H hp => by
  unfold lcAtU mkLC at hp ⊢
  unfold lcAt1 mkLC
  split at hp
  · rename_i a ha
    obtain ⟨⟨_, ⟨r, c⟩⟩, oe, l, oe2, ep⟩ := a
    refine ⟨⟨hp.1, ⟨fun _ => trivial, fun _ => trivial⟩⟩, fun y H' ws hh => ?_⟩
    rcases hh with ⟨h1, h⟩ | ⟨h1, h⟩ <;> (simp only [Alt.has, suE, auX, h1, Bool.false_eq_true, if_true, if_false]; exact h)
  · exact hp.elim) (ok_at1 I)
def roC (l : List (List Int)) (t b : Int) : Bool := (inB l t 0 && inB l b 0) && !decide (b < t)
def roE (l : List (List Int)) (t b : Int) : Int := if (inB l t 0 && inB l b 0) = true then (if b < t then 1 else 0) else 11
def roL (l : List (List Int)) (t b n x : Int) : List (List Int) := if roC l t b = true then rollL l t.toNat b.toNat n x else l
def roP (l : List (List Int)) (t b : Int) (ep : Nat) : Nat := if roC l t b = true then ep + 1 else ep
def lcRollU : ACon Unit := mkLC (decP (shCons (shP 0) (shCons shI (shCons shI (shCons shI (shOne shI))))) shG) fun ((_, t, b, n, x), (oe, ⟨l, oe2, ep⟩)) => .ask (oe = oe2 ∧ GW l) (.one (.v (.int .i64 (roE l t b))) (gbi 0 oe (roP l t b ep) (roL l t b n x)) [1])
theorem ok_rollU : ∀ I : Sym.Inv Unit, LCOk I Try.prog 22 lcRollU := fun I => lc_mono (fun args H hp => by
  unfold lcRollU mkLC at hp ⊢
  unfold lcRoll1 mkLC
  split at hp
  · rename_i a ha
    obtain ⟨⟨_, t, b, n, x⟩, oe, l, oe2, ep⟩ := a
    refine ⟨⟨hp.1, ⟨fun _ => ⟨fun _ => trivial, fun _ => trivial⟩, fun _ => trivial⟩⟩, fun y H' ws hh => ?_⟩
    rcases hh with ⟨h1, ⟨h2, h⟩ | ⟨h2, h⟩⟩ | ⟨h1, h⟩
    · simp only [Alt.has, roE, roL, roP, roC, h1, h2, of_decide_eq_true h2, Bool.and_false, Bool.not_true, Bool.false_eq_true, if_true, if_false]; exact h
    · simp only [Alt.has, roE, roL, roP, roC, h1, h2, of_decide_eq_false h2, Bool.and_true, Bool.not_false, Bool.false_eq_true, if_true, if_false]; exact h
    · simp only [Alt.has, roE, roL, roP, roC, h1, Bool.false_and, Bool.false_eq_true, if_false]; exact h
  · exact hp.elim) (ok_roll1 I)
def slC (l : List (List Int)) (w a b : Int) : Bool := (inB l w a && inB l w b) && !decide (b < a)
def slE (l : List (List Int)) (w a b : Int) : Int := if (inB l w a && inB l w b) = true then (if b < a then 1 else 0) else 11
def slL (l : List (List Int)) (w a b n x : Int) : List (List Int) := if slC l w a b = true then slide2 l w a b n x else l
def lcSlideU : ACon Unit := mkLC (decP (shCons (shP 0) (shCons shI (shCons shI (shCons shI (shCons shI (shOne shI)))))) shG) fun ((_, w, a, b, n, x), (oe, ⟨l, oe2, ep⟩)) => .ask (oe = oe2 ∧ GW l) (.one (.v (.int .i64 (slE l w a b))) (gbi 0 oe ep (slL l w a b n x)) [1])
theorem ok_slideU : ∀ I : Sym.Inv Unit, LCOk I Try.prog 23 lcSlideU := fun I => lc_mono (fun args H hp => by
  unfold lcSlideU mkLC at hp ⊢
  unfold lcSlide1 mkLC
  split at hp
  · rename_i a ha
    obtain ⟨⟨_, w, a, b, n, x⟩, oe, l, oe2, ep⟩ := a
    refine ⟨⟨hp.1, ⟨fun _ => ⟨fun _ => trivial, fun _ => trivial⟩, fun _ => trivial⟩⟩, fun y H' ws hh => ?_⟩
    rcases hh with ⟨h1, ⟨h2, h⟩ | ⟨h2, h⟩⟩ | ⟨h1, h⟩
    · simp only [Alt.has, slE, slL, slC, h1, h2, of_decide_eq_true h2, Bool.and_false, Bool.not_true, Bool.false_eq_true, if_true, if_false]; exact h
    · simp only [Alt.has, slE, slL, slC, h1, h2, of_decide_eq_false h2, Bool.and_true, Bool.not_false, Bool.false_eq_true, if_true, if_false]; exact h
    · simp only [Alt.has, slE, slL, slC, h1, Bool.false_and, Bool.false_eq_true, if_false]; exact h
  · exact hp.elim) (ok_slide1 I)

/-! ### Calls -/
structure O1 where
  ask : Int
  ar : Int
  ac : Int
  br : Int
  bc : Int
  n : Int
  x : Int
abbrev o1SV (o : O1) : SV := .a [.v (.int .i64 o.ask), .v (.int .i64 o.ar), .v (.int .i64 o.ac), .v (.int .i64 o.br), .v (.int .i64 o.bc), .v (.int .i64 o.n), .v (.int .i64 o.x)]
def shO1 : Sh O1 where
  enc := o1SV
  dec x := match (shA (shCons shI (shCons shI (shCons shI (shCons shI (shCons shI (shCons shI (shOne shI)))))))).dec x with
    | some (a, b, c, d, e, f, g) => some ⟨a, b, c, d, e, f, g⟩
    | none => none
  ok x a h := by
    split at h
    · rename_i h1
      simp only [Option.some.injEq] at h
      subst h
      exact (shA (shCons shI (shCons shI (shCons shI (shCons shI (shCons shI (shCons shI (shOne shI)))))))).ok _ _ h1
    · cases h
/-- What a call leaves, but for other sizes. -/
def opL (l : List (List Int)) (o : O1) : List (List Int) :=
  if o.ask = 0 then suL l o.ar o.ac o.x
  else if o.ask = 1 then fiL l o.ar o.ac o.br o.bc o.x
  else if o.ask = 2 then roL l o.ar o.br o.n o.x
  else if o.ask = 3 then slL l o.ar o.ac o.bc o.n o.x
  else l
def opP (l : List (List Int)) (o : O1) (ep : Nat) : Nat := if o.ask = 2 then roP l o.ar o.br ep else ep
def isRes (o : O1) : Bool := decide (o.ask = 4) && mayB o.br o.bc
section
variable {l : List (List Int)}
theorem suL_gw (hg : GW l) (r c x : Int) : GW (suL l r c x) ∧ (suL l r c x).length = l.length ∧ nC (suL l r c x) = nC l := by
  unfold suL; split
  · rename_i h; exact set2_gw hg h
  · exact ⟨hg, rfl, rfl⟩
theorem fiL_gw (hg : GW l) (ar ac br bc x : Int) : GW (fiL l ar ac br bc x) ∧ (fiL l ar ac br bc x).length = l.length ∧ nC (fiL l ar ac br bc x) = nC l := by
  unfold fiL; split
  · split
    · exact ⟨hg, rfl, rfl⟩
    · exact fillG_gw hg
  · exact ⟨hg, rfl, rfl⟩
theorem roC_in {t b : Int} (h : roC l t b = true) : 0 ≤ t ∧ t ≤ b ∧ b < l.length := by
  unfold roC at h
  simp only [Bool.and_eq_true, inB_iff, Bool.not_eq_true', decide_eq_false_iff_not] at h
  omega
theorem slC_in {w a b : Int} (h : slC l w a b = true) : 0 ≤ w ∧ w < l.length ∧ 0 ≤ a ∧ a ≤ b ∧ b < nC l := by
  unfold slC at h
  simp only [Bool.and_eq_true, inB_iff, Bool.not_eq_true', decide_eq_false_iff_not] at h
  omega
theorem roL_gw (hg : GW l) (t b n x : Int) : GW (roL l t b n x) ∧ (roL l t b n x).length = l.length ∧ nC (roL l t b n x) = nC l := by
  unfold roL; split
  · rename_i h
    obtain ⟨h1, h2, h3⟩ := roC_in h
    exact rollL_gw hg h1 h2 h3
  · exact ⟨hg, rfl, rfl⟩
theorem slL_gw (hg : GW l) (w a b n x : Int) : GW (slL l w a b n x) ∧ (slL l w a b n x).length = l.length ∧ nC (slL l w a b n x) = nC l := by
  unfold slL; split
  · rename_i h
    obtain ⟨h1, h2, h3, h4, h5⟩ := slC_in h
    exact slide2_gw hg h1 h2 h3 h4 h5
  · exact ⟨hg, rfl, rfl⟩
theorem opL_gw (hg : GW l) (o : O1) : GW (opL l o) ∧ (opL l o).length = l.length ∧ nC (opL l o) = nC l := by
  unfold opL
  split
  · exact suL_gw hg _ _ _
  split
  · exact fiL_gw hg _ _ _ _ _
  split
  · exact roL_gw hg _ _ _ _
  split
  · exact slL_gw hg _ _ _ _ _
  · exact ⟨hg, rfl, rfl⟩
/-! The document's answer does the same. -/
theorem lexI {r c r' c' : Int} {C : Int} (h : 0 ≤ c ∧ c < C) (h' : 0 ≤ c' ∧ c' < C) (hr : 0 ≤ r) (hr' : 0 ≤ r') : r' * C + c' < r * C + c ↔ r' < r ∨ (r' = r ∧ c' < c) := by
  obtain ⟨i, rfl⟩ : ∃ i : Nat, r = i := ⟨r.toNat, by omega⟩
  obtain ⟨k, rfl⟩ : ∃ k : Nat, c = k := ⟨c.toNat, by omega⟩
  obtain ⟨i', rfl⟩ : ∃ i : Nat, r' = i := ⟨r'.toNat, by omega⟩
  obtain ⟨k', rfl⟩ : ∃ k : Nat, c' = k := ⟨c'.toNat, by omega⟩
  obtain ⟨D, rfl⟩ : ∃ D : Nat, C = D := ⟨C.toNat, by omega⟩
  have := lex_le (C := D) (r := i) (c := k) (r' := i') (c' := k') (by omega) (by omega)
  rw [← cast_ix, ← cast_ix]
  omega
theorem su_e (r c : Int) : rsE l.length (nC l) r c = suE l r c := rfl
theorem su_fl (hg : GW l) (r c x : Int) : rsL l.length (nC l) (flL l) r c x = flL (suL l r c x) := by
  unfold rsL suL
  have e : inD l.length (nC l) r c = inB l r c := rfl
  rw [e]
  split
  · rename_i h; rw [set2_fl hg h]
  · rfl
theorem fi_e (ar ac br bc : Int) : rfE l.length (nC l) ar ac br bc = fiE l ar ac br bc := by
  unfold rfE fiE
  have e : ∀ r c, inD l.length (nC l) r c = inB l r c := fun _ _ => rfl
  rw [e, e]
  split
  · rename_i h
    rw [Bool.and_eq_true, inB_iff, inB_iff] at h
    have := lexI (C := nC l) (r := ar) (c := ac) (r' := br) (c' := bc) (by omega) (by omega) (by omega) (by omega)
    simp only [this]
  · rfl
theorem fi_fl (hg : GW l) (ar ac br bc x : Int) : rfL l.length (nC l) (flL l) ar ac br bc x = flL (fiL l ar ac br bc x) := by
  unfold rfL fiL
  have e : ∀ r c, inD l.length (nC l) r c = inB l r c := fun _ _ => rfl
  rw [e, e]
  split
  · rename_i h
    rw [Bool.and_eq_true] at h
    have h1 := inB_iff.1 h.1
    have h2 := inB_iff.1 h.2
    have := lexI (C := nC l) (r := ar) (c := ac) (r' := br) (c' := bc) (by omega) (by omega) (by omega) (by omega)
    simp only [this]
    split
    · rfl
    · rename_i h3
      rw [fillG_fl hg h.1 h.2 (by rw [← this] at h3; omega)]
  · rfl
theorem ro_e (t b : Int) : rrE l.length (nC l) t b = roE l t b := rfl
theorem ro_fl (hg : GW l) (t b n x : Int) : rrL l.length (nC l) (flL l) t b n x = flL (roL l t b n x) := by
  unfold rrL roL
  have e : rrC l.length (nC l) t b = roC l t b := rfl
  rw [e]
  split
  · rename_i h
    obtain ⟨h1, h2, h3⟩ := roC_in h
    rw [rollL_fl hg h1 h2 h3, Int.toNat_natCast, Int.toNat_natCast]
  · rfl
theorem sl_e (w a b : Int) : rlE l.length (nC l) w a b = slE l w a b := rfl
theorem sl_fl (hg : GW l) (w a b n x : Int) : rlL l.length (nC l) (flL l) w a b n x = flL (slL l w a b n x) := by
  unfold rlL slL
  have e : rlC l.length (nC l) w a b = slC l w a b := rfl
  rw [e]
  split
  · rename_i h
    obtain ⟨h1, h2, h3, h4, h5⟩ := slC_in h
    rw [slide2_fl hg h1 h2 h3 h4 h5, Int.toNat_natCast, Int.toNat_natCast]
  · rfl
theorem rz_fl (hg : GW l) {a b : Int} (h : mayB a b = true) (x : Int) : rzL l.length (nC l) (flL l) a b x = flL (resL l a.toNat b.toNat x l.length) := by
  have h' := mayB_iff.1 h
  rw [resL_fl hg (by rw [mayB_iff]; omega)]
  unfold rzL
  refine flF_congr fun r c hr hc => ?_
  unfold rzF resF
  rw [Int.toNat_natCast]
  by_cases hq : r < l.length ∧ c < nC l
  · rw [if_pos (by omega), if_pos hq, un_flL hq.1 hq.2]
  · rw [if_neg (by omega), if_neg hq]
end
theorem flL_at {l : List (List Int)} {r c : Int} (h : inB l r c = true) : (flL l).getD (r * nC l + c).toNat 0 = at2 l r c := by
  have h := inB_iff.1 h
  obtain ⟨i, rfl⟩ : ∃ i : Nat, r = i := ⟨r.toNat, by omega⟩
  obtain ⟨k, rfl⟩ : ∃ k : Nat, c = k := ⟨c.toNat, by omega⟩
  rw [← cast_ix, Int.toNat_natCast]
  exact flL_get (by omega) (by omega)
abbrev GRB := (Nat × RI × (Int × Int × Nat) × OI)
def shGR : ShH GRB := shHCons (shCells (shOne (shO 1)) 75) (shHCons (shRowsI .i64 3 63) (shRefF 2))
def tabU : List (Nat × ACon Unit) := (20, lcSetU) :: (18, lcAtU) :: (22, lcRollU) :: (23, lcSlideU) :: (21, lcFill1) :: (24, lcRes1) :: (25, lcSz) ::
  (37, lcRRoll) :: (38, lcRSlide) :: (39, lcRRes) :: tabM
theorem tabU_ok : LCs Try.prog tabU := ⟨ok_setU, ok_atU, ok_rollU, ok_slideU, ok_fill1, ok_res1, ok_sz, ok_rroll, ok_rslide, ok_rres, tabM_ok⟩
def lcDoes : ACon Unit := mkLC (decP (shCons (shP 0) (shCons (shP 2) (shOne shO1))) shGR) fun ((_, _, o), (oe, ⟨l, oe2, ep⟩, (R, C, e), ⟨xs, n, e2⟩)) => .ask (oe = oe2 ∧ e = e2 ∧ GW l ∧ R = l.length ∧ C = nC l ∧ xs = flL l ∧ n = l.length * nC l)
  (.br (isRes o)
    (.one (.t [.p 9 0, .v (.bool true)]) [.cells [.h 8 [o.br.toNat + 1, 0]] 75, .gone, .cells [.v (.int .i64 R), .v (.int .i64 C), .h 3 [e, 0]] 67, .own (.ints .i64 xs) n 3 1 e false, .gone, .gone, .gone, .gone,
      .rows (.i .i64 (resL l o.br.toNat o.bc.toNat o.x l.length)) 3 63 (o.br.toNat + 1) (o.br.toNat + 1) none,
      .cells [.v (.int .i64 o.br), .v (.int .i64 o.bc), .h 10 [(o.br * o.bc).toNat, 0]] 67, .own (.ints .i64 (flL (resL l o.br.toNat o.bc.toNat o.x l.length))) (o.br * o.bc).toNat 3 1 (o.br * o.bc).toNat false] [0, 1, 3])
    (.one (.t [.p 2 0, .v (.bool true)]) (gbi 0 oe (opP l o ep) (opL l o) ++ refF 2 R C (flL (opL l o)) n e) [0, 1, 3]))
set_option maxHeartbeats 4000000 in
theorem ok_does : ∀ I : Sym.Inv Unit, LCOk I Try.prog 17 lcDoes := by
  refine lc_mk (fun _ => allCfg Try.prog [] tabU 3) (fun _ _ => allCfg_ok mixed trivial tabU_ok) (fun _ => rfl) (n := 80) Try.func17 ?_
  intro ⟨⟨_, _, o⟩, oe, ⟨l, oe2, ep⟩, ⟨R, C, e⟩, ⟨xs, n, e2⟩⟩ hφ
  obtain ⟨⟨rfl, rfl, hg, rfl, rfl, rfl, rfl⟩, hp⟩ := id hφ
  refine kcast (B := (br (o.ask == (0 : Int)) (true = true ∧ (oe = oe ∧ GW l) ∧ true = true ∧ (e = e ∧ FW (↑l.length : Int) (↑(nC l) : Int) (flL l) (l.length * nC l)) ∧ br (isRes o) ((SV.t [SV.p (2 : Nat) (0 : Nat), SV.v (Value.bool (suE l o.ar o.ac == rsE (↑l.length : Int) (↑(nC l) : Int) o.ar o.ac))] = SV.t [SV.p (9 : Nat) (0 : Nat), SV.v (Value.bool true)] ∧ True) ∧ (SV.h (1 : Nat) [oe, (0 : Nat)] = SV.h (8 : Nat) [o.br.toNat + (1 : Nat), (0 : Nat)] ∧ True) ∧ True ∧ (SV.v (Value.int IntKind.i64 (↑l.length : Int)) = SV.v (Value.int IntKind.i64 (↑l.length : Int)) ∧ SV.v (Value.int IntKind.i64 (↑(nC l) : Int)) = SV.v (Value.int IntKind.i64 (↑(nC l) : Int)) ∧ SV.h (3 : Nat) [e, (0 : Nat)] = SV.h (3 : Nat) [e, (0 : Nat)] ∧ True) ∧ (l.length * nC l = l.length * nC l ∧ e = e ∧ rsL (↑l.length : Int) (↑(nC l) : Int) (flL l) o.ar o.ac o.x = flL l) ∧ True ∧ False) ((SV.t [SV.p (2 : Nat) (0 : Nat), SV.v (Value.bool (suE l o.ar o.ac == rsE (↑l.length : Int) (↑(nC l) : Int) o.ar o.ac))] = SV.t [SV.p (2 : Nat) (0 : Nat), SV.v (Value.bool true)] ∧ True) ∧ (SV.h (1 : Nat) [oe, (0 : Nat)] = SV.h (1 : Nat) [oe, (0 : Nat)] ∧ True) ∧ (oe = oe ∧ ep = opP l o ep ∧ suL l o.ar o.ac o.x = opL l o) ∧ (SV.v (Value.int IntKind.i64 (↑l.length : Int)) = SV.v (Value.int IntKind.i64 (↑l.length : Int)) ∧ SV.v (Value.int IntKind.i64 (↑(nC l) : Int)) = SV.v (Value.int IntKind.i64 (↑(nC l) : Int)) ∧ SV.h (3 : Nat) [e, (0 : Nat)] = SV.h (3 : Nat) [e, (0 : Nat)] ∧ True) ∧ (l.length * nC l = l.length * nC l ∧ e = e ∧ rsL (↑l.length : Int) (↑(nC l) : Int) (flL l) o.ar o.ac o.x = flL (opL l o)) ∧ True)) (br (o.ask == (1 : Int)) (true = true ∧ (oe = oe ∧ GW l) ∧ true = true ∧ (e = e ∧ FW (↑l.length : Int) (↑(nC l) : Int) (flL l) (l.length * nC l)) ∧ br (isRes o) ((SV.t [SV.p (2 : Nat) (0 : Nat), SV.v (Value.bool (fiE l o.ar o.ac o.br o.bc == rfE (↑l.length : Int) (↑(nC l) : Int) o.ar o.ac o.br o.bc))] = SV.t [SV.p (9 : Nat) (0 : Nat), SV.v (Value.bool true)] ∧ True) ∧ (SV.h (1 : Nat) [oe, (0 : Nat)] = SV.h (8 : Nat) [o.br.toNat + (1 : Nat), (0 : Nat)] ∧ True) ∧ True ∧ (SV.v (Value.int IntKind.i64 (↑l.length : Int)) = SV.v (Value.int IntKind.i64 (↑l.length : Int)) ∧ SV.v (Value.int IntKind.i64 (↑(nC l) : Int)) = SV.v (Value.int IntKind.i64 (↑(nC l) : Int)) ∧ SV.h (3 : Nat) [e, (0 : Nat)] = SV.h (3 : Nat) [e, (0 : Nat)] ∧ True) ∧ (l.length * nC l = l.length * nC l ∧ e = e ∧ rfL (↑l.length : Int) (↑(nC l) : Int) (flL l) o.ar o.ac o.br o.bc o.x = flL l) ∧ True ∧ False) ((SV.t [SV.p (2 : Nat) (0 : Nat), SV.v (Value.bool (fiE l o.ar o.ac o.br o.bc == rfE (↑l.length : Int) (↑(nC l) : Int) o.ar o.ac o.br o.bc))] = SV.t [SV.p (2 : Nat) (0 : Nat), SV.v (Value.bool true)] ∧ True) ∧ (SV.h (1 : Nat) [oe, (0 : Nat)] = SV.h (1 : Nat) [oe, (0 : Nat)] ∧ True) ∧ (oe = oe ∧ ep = opP l o ep ∧ fiL l o.ar o.ac o.br o.bc o.x = opL l o) ∧ (SV.v (Value.int IntKind.i64 (↑l.length : Int)) = SV.v (Value.int IntKind.i64 (↑l.length : Int)) ∧ SV.v (Value.int IntKind.i64 (↑(nC l) : Int)) = SV.v (Value.int IntKind.i64 (↑(nC l) : Int)) ∧ SV.h (3 : Nat) [e, (0 : Nat)] = SV.h (3 : Nat) [e, (0 : Nat)] ∧ True) ∧ (l.length * nC l = l.length * nC l ∧ e = e ∧ rfL (↑l.length : Int) (↑(nC l) : Int) (flL l) o.ar o.ac o.br o.bc o.x = flL (opL l o)) ∧ True)) (br (o.ask == (2 : Int)) (true = true ∧ (oe = oe ∧ GW l) ∧ true = true ∧ (e = e ∧ FW (↑l.length : Int) (↑(nC l) : Int) (flL l) (l.length * nC l)) ∧ br (isRes o) ((SV.t [SV.p (2 : Nat) (0 : Nat), SV.v (Value.bool (roE l o.ar o.br == rrE (↑l.length : Int) (↑(nC l) : Int) o.ar o.br))] = SV.t [SV.p (9 : Nat) (0 : Nat), SV.v (Value.bool true)] ∧ True) ∧ (SV.h (1 : Nat) [oe, (0 : Nat)] = SV.h (8 : Nat) [o.br.toNat + (1 : Nat), (0 : Nat)] ∧ True) ∧ True ∧ (SV.v (Value.int IntKind.i64 (↑l.length : Int)) = SV.v (Value.int IntKind.i64 (↑l.length : Int)) ∧ SV.v (Value.int IntKind.i64 (↑(nC l) : Int)) = SV.v (Value.int IntKind.i64 (↑(nC l) : Int)) ∧ SV.h (3 : Nat) [e, (0 : Nat)] = SV.h (3 : Nat) [e, (0 : Nat)] ∧ True) ∧ (l.length * nC l = l.length * nC l ∧ e = e ∧ rrL (↑l.length : Int) (↑(nC l) : Int) (flL l) o.ar o.br o.n o.x = flL l) ∧ True ∧ False) ((SV.t [SV.p (2 : Nat) (0 : Nat), SV.v (Value.bool (roE l o.ar o.br == rrE (↑l.length : Int) (↑(nC l) : Int) o.ar o.br))] = SV.t [SV.p (2 : Nat) (0 : Nat), SV.v (Value.bool true)] ∧ True) ∧ (SV.h (1 : Nat) [oe, (0 : Nat)] = SV.h (1 : Nat) [oe, (0 : Nat)] ∧ True) ∧ (oe = oe ∧ roP l o.ar o.br ep = opP l o ep ∧ roL l o.ar o.br o.n o.x = opL l o) ∧ (SV.v (Value.int IntKind.i64 (↑l.length : Int)) = SV.v (Value.int IntKind.i64 (↑l.length : Int)) ∧ SV.v (Value.int IntKind.i64 (↑(nC l) : Int)) = SV.v (Value.int IntKind.i64 (↑(nC l) : Int)) ∧ SV.h (3 : Nat) [e, (0 : Nat)] = SV.h (3 : Nat) [e, (0 : Nat)] ∧ True) ∧ (l.length * nC l = l.length * nC l ∧ e = e ∧ rrL (↑l.length : Int) (↑(nC l) : Int) (flL l) o.ar o.br o.n o.x = flL (opL l o)) ∧ True)) (br (o.ask == (3 : Int)) (true = true ∧ (oe = oe ∧ GW l) ∧ true = true ∧ (e = e ∧ FW (↑l.length : Int) (↑(nC l) : Int) (flL l) (l.length * nC l)) ∧ br (isRes o) ((SV.t [SV.p (2 : Nat) (0 : Nat), SV.v (Value.bool (slE l o.ar o.ac o.bc == rlE (↑l.length : Int) (↑(nC l) : Int) o.ar o.ac o.bc))] = SV.t [SV.p (9 : Nat) (0 : Nat), SV.v (Value.bool true)] ∧ True) ∧ (SV.h (1 : Nat) [oe, (0 : Nat)] = SV.h (8 : Nat) [o.br.toNat + (1 : Nat), (0 : Nat)] ∧ True) ∧ True ∧ (SV.v (Value.int IntKind.i64 (↑l.length : Int)) = SV.v (Value.int IntKind.i64 (↑l.length : Int)) ∧ SV.v (Value.int IntKind.i64 (↑(nC l) : Int)) = SV.v (Value.int IntKind.i64 (↑(nC l) : Int)) ∧ SV.h (3 : Nat) [e, (0 : Nat)] = SV.h (3 : Nat) [e, (0 : Nat)] ∧ True) ∧ (l.length * nC l = l.length * nC l ∧ e = e ∧ rlL (↑l.length : Int) (↑(nC l) : Int) (flL l) o.ar o.ac o.bc o.n o.x = flL l) ∧ True ∧ False) ((SV.t [SV.p (2 : Nat) (0 : Nat), SV.v (Value.bool (slE l o.ar o.ac o.bc == rlE (↑l.length : Int) (↑(nC l) : Int) o.ar o.ac o.bc))] = SV.t [SV.p (2 : Nat) (0 : Nat), SV.v (Value.bool true)] ∧ True) ∧ (SV.h (1 : Nat) [oe, (0 : Nat)] = SV.h (1 : Nat) [oe, (0 : Nat)] ∧ True) ∧ (oe = oe ∧ ep = opP l o ep ∧ slL l o.ar o.ac o.bc o.n o.x = opL l o) ∧ (SV.v (Value.int IntKind.i64 (↑l.length : Int)) = SV.v (Value.int IntKind.i64 (↑l.length : Int)) ∧ SV.v (Value.int IntKind.i64 (↑(nC l) : Int)) = SV.v (Value.int IntKind.i64 (↑(nC l) : Int)) ∧ SV.h (3 : Nat) [e, (0 : Nat)] = SV.h (3 : Nat) [e, (0 : Nat)] ∧ True) ∧ (l.length * nC l = l.length * nC l ∧ e = e ∧ rlL (↑l.length : Int) (↑(nC l) : Int) (flL l) o.ar o.ac o.bc o.n o.x = flL (opL l o)) ∧ True)) (br (o.ask == (4 : Int)) (true = true ∧ true = true ∧ (oe = oe ∧ GW l) ∧ br (mayB o.br o.bc) (true = true ∧ br (!mayB o.br o.bc) (br (isRes o) ((SV.t [SV.p (2 : Nat) (0 : Nat), SV.v (Value.bool false)] = SV.t [SV.p (9 : Nat) (0 : Nat), SV.v (Value.bool true)] ∧ True) ∧ (SV.h (8 : Nat) [o.br.toNat + (1 : Nat), (0 : Nat)] = SV.h (8 : Nat) [o.br.toNat + (1 : Nat), (0 : Nat)] ∧ True) ∧ True ∧ (SV.v (Value.int IntKind.i64 (↑l.length : Int)) = SV.v (Value.int IntKind.i64 (↑l.length : Int)) ∧ SV.v (Value.int IntKind.i64 (↑(nC l) : Int)) = SV.v (Value.int IntKind.i64 (↑(nC l) : Int)) ∧ SV.h (3 : Nat) [e, (0 : Nat)] = SV.h (3 : Nat) [e, (0 : Nat)] ∧ True) ∧ (l.length * nC l = l.length * nC l ∧ e = e ∧ flL l = flL l) ∧ True ∧ True ∧ True ∧ True ∧ (o.br.toNat + (1 : Nat) = o.br.toNat + (1 : Nat) ∧ o.br.toNat + (1 : Nat) = o.br.toNat + (1 : Nat) ∧ resL l o.br.toNat o.bc.toNat o.x l.length = resL l o.br.toNat o.bc.toNat o.x l.length) ∧ False) ((SV.t [SV.p (2 : Nat) (0 : Nat), SV.v (Value.bool false)] = SV.t [SV.p (2 : Nat) (0 : Nat), SV.v (Value.bool true)] ∧ True) ∧ (SV.h (8 : Nat) [o.br.toNat + (1 : Nat), (0 : Nat)] = SV.h (1 : Nat) [oe, (0 : Nat)] ∧ True) ∧ False ∧ (SV.v (Value.int IntKind.i64 (↑l.length : Int)) = SV.v (Value.int IntKind.i64 (↑l.length : Int)) ∧ SV.v (Value.int IntKind.i64 (↑(nC l) : Int)) = SV.v (Value.int IntKind.i64 (↑(nC l) : Int)) ∧ SV.h (3 : Nat) [e, (0 : Nat)] = SV.h (3 : Nat) [e, (0 : Nat)] ∧ True) ∧ (l.length * nC l = l.length * nC l ∧ e = e ∧ flL l = flL (opL l o)) ∧ True)) (true = true ∧ (e = e ∧ FW (↑l.length : Int) (↑(nC l) : Int) (flL l) (l.length * nC l) ∧ mayB o.br o.bc = true) ∧ br (isRes o) ((SV.t [SV.p (9 : Nat) (0 : Nat), SV.v (Value.bool true)] = SV.t [SV.p (9 : Nat) (0 : Nat), SV.v (Value.bool true)] ∧ True) ∧ (SV.h (8 : Nat) [o.br.toNat + (1 : Nat), (0 : Nat)] = SV.h (8 : Nat) [o.br.toNat + (1 : Nat), (0 : Nat)] ∧ True) ∧ True ∧ (SV.v (Value.int IntKind.i64 (↑l.length : Int)) = SV.v (Value.int IntKind.i64 (↑l.length : Int)) ∧ SV.v (Value.int IntKind.i64 (↑(nC l) : Int)) = SV.v (Value.int IntKind.i64 (↑(nC l) : Int)) ∧ SV.h (3 : Nat) [e, (0 : Nat)] = SV.h (3 : Nat) [e, (0 : Nat)] ∧ True) ∧ (l.length * nC l = l.length * nC l ∧ e = e ∧ flL l = flL l) ∧ True ∧ True ∧ True ∧ True ∧ (o.br.toNat + (1 : Nat) = o.br.toNat + (1 : Nat) ∧ o.br.toNat + (1 : Nat) = o.br.toNat + (1 : Nat) ∧ resL l o.br.toNat o.bc.toNat o.x l.length = resL l o.br.toNat o.bc.toNat o.x l.length) ∧ (SV.v (Value.int IntKind.i64 o.br) = SV.v (Value.int IntKind.i64 o.br) ∧ SV.v (Value.int IntKind.i64 o.bc) = SV.v (Value.int IntKind.i64 o.bc) ∧ SV.h (10 : Nat) [(o.br * o.bc).toNat, (0 : Nat)] = SV.h (10 : Nat) [(o.br * o.bc).toNat, (0 : Nat)] ∧ True) ∧ ((o.br * o.bc).toNat = (o.br * o.bc).toNat ∧ (o.br * o.bc).toNat = (o.br * o.bc).toNat ∧ rzL (↑l.length : Int) (↑(nC l) : Int) (flL l) o.br o.bc o.x = flL (resL l o.br.toNat o.bc.toNat o.x l.length)) ∧ True) ((SV.t [SV.p (9 : Nat) (0 : Nat), SV.v (Value.bool true)] = SV.t [SV.p (2 : Nat) (0 : Nat), SV.v (Value.bool true)] ∧ True) ∧ (SV.h (8 : Nat) [o.br.toNat + (1 : Nat), (0 : Nat)] = SV.h (1 : Nat) [oe, (0 : Nat)] ∧ True) ∧ False ∧ (SV.v (Value.int IntKind.i64 (↑l.length : Int)) = SV.v (Value.int IntKind.i64 (↑l.length : Int)) ∧ SV.v (Value.int IntKind.i64 (↑(nC l) : Int)) = SV.v (Value.int IntKind.i64 (↑(nC l) : Int)) ∧ SV.h (3 : Nat) [e, (0 : Nat)] = SV.h (3 : Nat) [e, (0 : Nat)] ∧ True) ∧ (l.length * nC l = l.length * nC l ∧ e = e ∧ flL l = flL (opL l o)) ∧ True))) (true = true ∧ br (!mayB o.br o.bc) (br (isRes o) ((SV.t [SV.p (2 : Nat) (0 : Nat), SV.v (Value.bool true)] = SV.t [SV.p (9 : Nat) (0 : Nat), SV.v (Value.bool true)] ∧ True) ∧ (SV.h (1 : Nat) [oe, (0 : Nat)] = SV.h (8 : Nat) [o.br.toNat + (1 : Nat), (0 : Nat)] ∧ True) ∧ True ∧ (SV.v (Value.int IntKind.i64 (↑l.length : Int)) = SV.v (Value.int IntKind.i64 (↑l.length : Int)) ∧ SV.v (Value.int IntKind.i64 (↑(nC l) : Int)) = SV.v (Value.int IntKind.i64 (↑(nC l) : Int)) ∧ SV.h (3 : Nat) [e, (0 : Nat)] = SV.h (3 : Nat) [e, (0 : Nat)] ∧ True) ∧ (l.length * nC l = l.length * nC l ∧ e = e ∧ flL l = flL l) ∧ True ∧ False) ((SV.t [SV.p (2 : Nat) (0 : Nat), SV.v (Value.bool true)] = SV.t [SV.p (2 : Nat) (0 : Nat), SV.v (Value.bool true)] ∧ True) ∧ (SV.h (1 : Nat) [oe, (0 : Nat)] = SV.h (1 : Nat) [oe, (0 : Nat)] ∧ True) ∧ (oe = oe ∧ ep = opP l o ep ∧ l = opL l o) ∧ (SV.v (Value.int IntKind.i64 (↑l.length : Int)) = SV.v (Value.int IntKind.i64 (↑l.length : Int)) ∧ SV.v (Value.int IntKind.i64 (↑(nC l) : Int)) = SV.v (Value.int IntKind.i64 (↑(nC l) : Int)) ∧ SV.h (3 : Nat) [e, (0 : Nat)] = SV.h (3 : Nat) [e, (0 : Nat)] ∧ True) ∧ (l.length * nC l = l.length * nC l ∧ e = e ∧ flL l = flL (opL l o)) ∧ True)) (true = true ∧ (e = e ∧ FW (↑l.length : Int) (↑(nC l) : Int) (flL l) (l.length * nC l) ∧ mayB o.br o.bc = true) ∧ br (isRes o) ((SV.t [SV.p (5 : Nat) (0 : Nat), SV.v (Value.bool false)] = SV.t [SV.p (9 : Nat) (0 : Nat), SV.v (Value.bool true)] ∧ True) ∧ (SV.h (1 : Nat) [oe, (0 : Nat)] = SV.h (8 : Nat) [o.br.toNat + (1 : Nat), (0 : Nat)] ∧ True) ∧ True ∧ (SV.v (Value.int IntKind.i64 (↑l.length : Int)) = SV.v (Value.int IntKind.i64 (↑l.length : Int)) ∧ SV.v (Value.int IntKind.i64 (↑(nC l) : Int)) = SV.v (Value.int IntKind.i64 (↑(nC l) : Int)) ∧ SV.h (3 : Nat) [e, (0 : Nat)] = SV.h (3 : Nat) [e, (0 : Nat)] ∧ True) ∧ (l.length * nC l = l.length * nC l ∧ e = e ∧ flL l = flL l) ∧ True ∧ True ∧ True ∧ False) ((SV.t [SV.p (5 : Nat) (0 : Nat), SV.v (Value.bool false)] = SV.t [SV.p (2 : Nat) (0 : Nat), SV.v (Value.bool true)] ∧ True) ∧ (SV.h (1 : Nat) [oe, (0 : Nat)] = SV.h (1 : Nat) [oe, (0 : Nat)] ∧ True) ∧ (oe = oe ∧ ep = opP l o ep ∧ l = opL l o) ∧ (SV.v (Value.int IntKind.i64 (↑l.length : Int)) = SV.v (Value.int IntKind.i64 (↑l.length : Int)) ∧ SV.v (Value.int IntKind.i64 (↑(nC l) : Int)) = SV.v (Value.int IntKind.i64 (↑(nC l) : Int)) ∧ SV.h (3 : Nat) [e, (0 : Nat)] = SV.h (3 : Nat) [e, (0 : Nat)] ∧ True) ∧ (l.length * nC l = l.length * nC l ∧ e = e ∧ flL l = flL (opL l o)) ∧ True)))) (true = true ∧ (oe = oe ∧ GW l) ∧ true = true ∧ e = e ∧ br (!inD (↑l.length : Int) (↑(nC l) : Int) o.ar o.ac) (br (suE l o.ar o.ac == (11 : Int)) (br (isRes o) ((SV.t [SV.p (2 : Nat) (0 : Nat), SV.v (Value.bool (auX l o.ar o.ac == (0 : Int)))] = SV.t [SV.p (9 : Nat) (0 : Nat), SV.v (Value.bool true)] ∧ True) ∧ (SV.h (1 : Nat) [oe, (0 : Nat)] = SV.h (8 : Nat) [o.br.toNat + (1 : Nat), (0 : Nat)] ∧ True) ∧ True ∧ (SV.v (Value.int IntKind.i64 (↑l.length : Int)) = SV.v (Value.int IntKind.i64 (↑l.length : Int)) ∧ SV.v (Value.int IntKind.i64 (↑(nC l) : Int)) = SV.v (Value.int IntKind.i64 (↑(nC l) : Int)) ∧ SV.h (3 : Nat) [e, (0 : Nat)] = SV.h (3 : Nat) [e, (0 : Nat)] ∧ True) ∧ (l.length * nC l = l.length * nC l ∧ e = e ∧ flL l = flL l) ∧ True ∧ False) ((SV.t [SV.p (2 : Nat) (0 : Nat), SV.v (Value.bool (auX l o.ar o.ac == (0 : Int)))] = SV.t [SV.p (2 : Nat) (0 : Nat), SV.v (Value.bool true)] ∧ True) ∧ (SV.h (1 : Nat) [oe, (0 : Nat)] = SV.h (1 : Nat) [oe, (0 : Nat)] ∧ True) ∧ (oe = oe ∧ ep = opP l o ep ∧ l = opL l o) ∧ (SV.v (Value.int IntKind.i64 (↑l.length : Int)) = SV.v (Value.int IntKind.i64 (↑l.length : Int)) ∧ SV.v (Value.int IntKind.i64 (↑(nC l) : Int)) = SV.v (Value.int IntKind.i64 (↑(nC l) : Int)) ∧ SV.h (3 : Nat) [e, (0 : Nat)] = SV.h (3 : Nat) [e, (0 : Nat)] ∧ True) ∧ (l.length * nC l = l.length * nC l ∧ e = e ∧ flL l = flL (opL l o)) ∧ True)) (br (isRes o) ((SV.t [SV.p (2 : Nat) (0 : Nat), SV.v (Value.bool false)] = SV.t [SV.p (9 : Nat) (0 : Nat), SV.v (Value.bool true)] ∧ True) ∧ (SV.h (1 : Nat) [oe, (0 : Nat)] = SV.h (8 : Nat) [o.br.toNat + (1 : Nat), (0 : Nat)] ∧ True) ∧ True ∧ (SV.v (Value.int IntKind.i64 (↑l.length : Int)) = SV.v (Value.int IntKind.i64 (↑l.length : Int)) ∧ SV.v (Value.int IntKind.i64 (↑(nC l) : Int)) = SV.v (Value.int IntKind.i64 (↑(nC l) : Int)) ∧ SV.h (3 : Nat) [e, (0 : Nat)] = SV.h (3 : Nat) [e, (0 : Nat)] ∧ True) ∧ (l.length * nC l = l.length * nC l ∧ e = e ∧ flL l = flL l) ∧ True ∧ False) ((SV.t [SV.p (2 : Nat) (0 : Nat), SV.v (Value.bool false)] = SV.t [SV.p (2 : Nat) (0 : Nat), SV.v (Value.bool true)] ∧ True) ∧ (SV.h (1 : Nat) [oe, (0 : Nat)] = SV.h (1 : Nat) [oe, (0 : Nat)] ∧ True) ∧ (oe = oe ∧ ep = opP l o ep ∧ l = opL l o) ∧ (SV.v (Value.int IntKind.i64 (↑l.length : Int)) = SV.v (Value.int IntKind.i64 (↑l.length : Int)) ∧ SV.v (Value.int IntKind.i64 (↑(nC l) : Int)) = SV.v (Value.int IntKind.i64 (↑(nC l) : Int)) ∧ SV.h (3 : Nat) [e, (0 : Nat)] = SV.h (3 : Nat) [e, (0 : Nat)] ∧ True) ∧ (l.length * nC l = l.length * nC l ∧ e = e ∧ flL l = flL (opL l o)) ∧ True))) (br (suE l o.ar o.ac == (0 : Int)) (true = true ∧ (e = e ∧ FW (↑l.length : Int) (↑(nC l) : Int) (flL l) (l.length * nC l) ∧ inD (↑l.length : Int) (↑(nC l) : Int) o.ar o.ac = true) ∧ br (isRes o) ((SV.t [SV.p (2 : Nat) (0 : Nat), SV.v (Value.bool (auX l o.ar o.ac == (flL l).getD (o.ar * (↑(nC l) : Int) + o.ac).toNat (0 : Int)))] = SV.t [SV.p (9 : Nat) (0 : Nat), SV.v (Value.bool true)] ∧ True) ∧ (SV.h (1 : Nat) [oe, (0 : Nat)] = SV.h (8 : Nat) [o.br.toNat + (1 : Nat), (0 : Nat)] ∧ True) ∧ True ∧ (SV.v (Value.int IntKind.i64 (↑l.length : Int)) = SV.v (Value.int IntKind.i64 (↑l.length : Int)) ∧ SV.v (Value.int IntKind.i64 (↑(nC l) : Int)) = SV.v (Value.int IntKind.i64 (↑(nC l) : Int)) ∧ SV.h (3 : Nat) [e, (0 : Nat)] = SV.h (3 : Nat) [e, (0 : Nat)] ∧ True) ∧ (l.length * nC l = l.length * nC l ∧ e = e ∧ flL l = flL l) ∧ True ∧ False) ((SV.t [SV.p (2 : Nat) (0 : Nat), SV.v (Value.bool (auX l o.ar o.ac == (flL l).getD (o.ar * (↑(nC l) : Int) + o.ac).toNat (0 : Int)))] = SV.t [SV.p (2 : Nat) (0 : Nat), SV.v (Value.bool true)] ∧ True) ∧ (SV.h (1 : Nat) [oe, (0 : Nat)] = SV.h (1 : Nat) [oe, (0 : Nat)] ∧ True) ∧ (oe = oe ∧ ep = opP l o ep ∧ l = opL l o) ∧ (SV.v (Value.int IntKind.i64 (↑l.length : Int)) = SV.v (Value.int IntKind.i64 (↑l.length : Int)) ∧ SV.v (Value.int IntKind.i64 (↑(nC l) : Int)) = SV.v (Value.int IntKind.i64 (↑(nC l) : Int)) ∧ SV.h (3 : Nat) [e, (0 : Nat)] = SV.h (3 : Nat) [e, (0 : Nat)] ∧ True) ∧ (l.length * nC l = l.length * nC l ∧ e = e ∧ flL l = flL (opL l o)) ∧ True)) (br (isRes o) ((SV.t [SV.p (2 : Nat) (0 : Nat), SV.v (Value.bool false)] = SV.t [SV.p (9 : Nat) (0 : Nat), SV.v (Value.bool true)] ∧ True) ∧ (SV.h (1 : Nat) [oe, (0 : Nat)] = SV.h (8 : Nat) [o.br.toNat + (1 : Nat), (0 : Nat)] ∧ True) ∧ True ∧ (SV.v (Value.int IntKind.i64 (↑l.length : Int)) = SV.v (Value.int IntKind.i64 (↑l.length : Int)) ∧ SV.v (Value.int IntKind.i64 (↑(nC l) : Int)) = SV.v (Value.int IntKind.i64 (↑(nC l) : Int)) ∧ SV.h (3 : Nat) [e, (0 : Nat)] = SV.h (3 : Nat) [e, (0 : Nat)] ∧ True) ∧ (l.length * nC l = l.length * nC l ∧ e = e ∧ flL l = flL l) ∧ True ∧ False) ((SV.t [SV.p (2 : Nat) (0 : Nat), SV.v (Value.bool false)] = SV.t [SV.p (2 : Nat) (0 : Nat), SV.v (Value.bool true)] ∧ True) ∧ (SV.h (1 : Nat) [oe, (0 : Nat)] = SV.h (1 : Nat) [oe, (0 : Nat)] ∧ True) ∧ (oe = oe ∧ ep = opP l o ep ∧ l = opL l o) ∧ (SV.v (Value.int IntKind.i64 (↑l.length : Int)) = SV.v (Value.int IntKind.i64 (↑l.length : Int)) ∧ SV.v (Value.int IntKind.i64 (↑(nC l) : Int)) = SV.v (Value.int IntKind.i64 (↑(nC l) : Int)) ∧ SV.h (3 : Nat) [e, (0 : Nat)] = SV.h (3 : Nat) [e, (0 : Nat)] ∧ True) ∧ (l.length * nC l = l.length * nC l ∧ e = e ∧ flL l = flL (opL l o)) ∧ True)))))))))) (by kernel_rfl) ?_
  clear hp hφ
  have hfw := fw_fl hg
  simp only [LI, II, su_e, fi_e, ro_e, sl_e, su_fl hg, fi_fl hg, ro_fl hg, sl_fl hg, hg, hfw, br_iff, rq_iff, nbeq, true_and, and_true, true_implies, Bool.true_and, Bool.and_true, Bool.and_eq_true, Bool.not_eq_true', Bool.not_eq_false', Nat.ble_eq, Nat.blt_eq, decide_eq_true_eq, decide_eq_false_iff_not]
  refine ⟨fun h => ?_, fun h0 => ⟨fun h => ?_, fun h1 => ⟨fun h => ?_, fun h2 => ⟨fun h => ?_, fun h3 => ⟨fun h => ?_, fun h4 => ?_⟩⟩⟩⟩⟩
  · have h : o.ask = 0 := by simpa using h
    have hR : isRes o = false := by simp [isRes, h]
    have hL : opL l o = suL l o.ar o.ac o.x := by simp [opL, h]
    have hP : opP l o ep = ep := by simp [opP, h]
    rw [hR, hL, hP]; simp
  · have h : o.ask = 1 := by simpa using h
    have hR : isRes o = false := by simp [isRes, h]
    have hL : opL l o = fiL l o.ar o.ac o.br o.bc o.x := by simp [opL, h]
    have hP : opP l o ep = ep := by simp [opP, h]
    rw [hR, hL, hP]; simp
  · have h : o.ask = 2 := by simpa using h
    have hR : isRes o = false := by simp [isRes, h]
    have hL : opL l o = roL l o.ar o.br o.n o.x := by simp [opL, h]
    have hP : opP l o ep = roP l o.ar o.br ep := by simp [opP, h]
    rw [hR, hL, hP]; simp
  · have h : o.ask = 3 := by simpa using h
    have hR : isRes o = false := by simp [isRes, h]
    have hL : opL l o = slL l o.ar o.ac o.bc o.n o.x := by simp [opL, h]
    have hP : opP l o ep = ep := by simp [opP, h]
    rw [hR, hL, hP]; simp
  · have h : o.ask = 4 := by simpa using h
    have hR : isRes o = mayB o.br o.bc := by simp [isRes, h]
    have hL : opL l o = l := by simp [opL, h]
    have hP : opP l o ep = ep := by simp [opP, h]
    rw [hR, hL, hP]
    cases hm : mayB o.br o.bc
    · simp
    · simp [rz_fl hg hm]
  · have e0 : o.ask ≠ 0 := by simpa using h0
    have e1 : o.ask ≠ 1 := by simpa using h1
    have e2 : o.ask ≠ 2 := by simpa using h2
    have e3 : o.ask ≠ 3 := by simpa using h3
    have e4 : o.ask ≠ 4 := by simpa using h4
    have hR : isRes o = false := by simp [isRes, e4]
    have hL : opL l o = l := by simp [opL, e0, e1, e2, e3]
    have hP : opP l o ep = ep := by simp [opP, e2]
    have e : inD l.length (nC l) o.ar o.ac = inB l o.ar o.ac := rfl
    rw [hR, hL, hP, e]
    cases hi : inB l o.ar o.ac
    · simp [suE, auX, hi]
    · rw [flL_at hi]
      simp [suE, auX, hi]
def tabW : List (Nat × ACon Unit) := (17, lcDoes) :: tabU
theorem tabW_ok : LCs Try.prog tabW := ⟨ok_does, tabU_ok⟩
/-! ### A grid is the document's answer's -/
def kd (b : SB Unit) : Nat := match b with
  | .cells l _ => 100 + l.length
  | .ints _ _ _ _ => 2
  | .own _ _ _ _ _ _ => 3
  | .rows _ _ _ _ _ _ => 4
  | .limbo _ _ _ _ _ _ => 5
  | .inp _ => 6
  | .res _ => 7
  | .obj _ => 8
  | .loop _ _ _ _ _ _ _ => 9
  | .gone => 0
structure ShowSt (tm : List SV) (l : List Nat) : Prop where
  h : tm = []
def annSh : Ann Unit where
  α := Nat
  φ st _ := ShowSt st.tm (st.H.map kd)
  μ _ _ := 0
  get _ := some 0
  f st _ := { st with tm := [], H := [] }
/-! ### Loops through all places -/
def gones (l : List Nat) : List (Nat × SB Unit) := l.map fun i => (i, .gone)
def annAo (R : Nat) (b : Nat) (ks : List Nat) (hv : St Unit → Nat → Nat → List (Nat × SB Unit)) : Ann Unit where
  α := Int
  φ _ r := 0 ≤ r ∧ r ≤ R
  μ _ r := ((R : Int) - r).toNat
  get st := getI st.tm 10
  f st r := tmpl [0, 1, 3, 9] [(10, .v (.int .i64 r))] ((b, loopTm st.H b ks []) :: hv st r.toNat 0) st
def annAi (C : Nat) (b : Nat) (ks : List Nat) (hv : St Unit → Nat → Nat → List (Nat × SB Unit)) : Ann Unit where
  α := Int
  φ _ k := 0 ≤ k ∧ k ≤ C
  μ _ k := ((C : Int) - k).toNat
  get st := getI st.tm 15
  f st k := tmpl [0, 1, 3, 4, 9, 10, 14] [(15, .v (.int .i64 k))] ((b, loopTm st.H b ks []) :: hv st (tI st.tm 4).toNat k.toNat) st
def annS1 (R : Int) : Ann Unit where
  α := Int
  φ _ i := 0 ≤ i ∧ i ≤ R
  μ _ i := (R - i).toNat
  get st := getI st.tm 7
  f st i := tmpl [0, 3, 4, 5, 6] [(7, .v (.int .i64 i))] [] st
def annS2 (C : Int) : Ann Unit where
  α := Int
  φ _ k := 0 ≤ k ∧ k ≤ C
  μ _ k := (C - k).toNat
  get st := getI st.tm 8
  f st k := tmpl [0, 3, 4, 5, 6, 7] [(8, .v (.int .i64 k))] [] st
def hvS (C : Nat) (_ : St Unit) (r k : Nat) : List (Nat × SB Unit) := [(9, .cells [.v (.int .i64 ((r * C + k : Nat) : Int))] 3)]
def lcSame : ACon Unit := mkLC (decP (shCons (shP 0) (shOne (shP 2))) shGR) fun (_, (oe, ⟨l, oe2, ep⟩, (R, C, e), ⟨xs, n, e2⟩)) => .ask (oe = oe2 ∧ e = e2 ∧ GW l ∧ R = l.length ∧ C = nC l ∧ xs = flL l ∧ n = l.length * nC l)
  (.one (.v (.bool true)) (gbi 0 oe ep l ++ refF 2 R C xs n e) [])
set_option maxHeartbeats 4000000 in
theorem ok_same : ∀ I : Sym.Inv Unit, LCOk I Try.prog 16 lcSame := by
  refine lc_mk (fun (_, (oe, ⟨l, oe2, ep⟩, (R, C, e), ⟨xs, n, e2⟩)) => allCfg Try.prog [] tabW 3 [(454, annS1 R), (774, annS2 C), (193, annAo l.length 12 [0, 3, 4, 9] (hvS (nC l))), (385, annAi (nC l) 12 [0, 3, 4, 9] (hvS (nC l)))]) (fun _ _ => allCfg_ok mixed trivial tabW_ok) (fun _ => rfl) (n := 80) Try.func16 ?_
  intro ⟨_, oe, ⟨l, oe2, ep⟩, ⟨R, C, e⟩, ⟨xs, n, e2⟩⟩ hφ
  obtain ⟨⟨rfl, rfl, hg, rfl, rfl, rfl, rfl⟩, hp⟩ := id hφ
  refine kcast (B := (true = true ∧ (oe = oe ∧ GW l) ∧ true = true ∧ (oe = oe ∧ GW l) ∧ br ((↑l.length : Int) != (↑l.length : Int)) ((SV.v (Value.bool false) = SV.v (Value.bool true) ∧ True) ∧ (SV.h (1 : Nat) [oe, (0 : Nat)] = SV.h (1 : Nat) [oe, (0 : Nat)] ∧ True) ∧ (oe = oe ∧ ep = ep ∧ l = l) ∧ (SV.v (Value.int IntKind.i64 (↑l.length : Int)) = SV.v (Value.int IntKind.i64 (↑l.length : Int)) ∧ SV.v (Value.int IntKind.i64 (↑(nC l) : Int)) = SV.v (Value.int IntKind.i64 (↑(nC l) : Int)) ∧ SV.h (3 : Nat) [e, (0 : Nat)] = SV.h (3 : Nat) [e, (0 : Nat)] ∧ True) ∧ (l.length * nC l = l.length * nC l ∧ e = e ∧ flL l = flL l) ∧ True) (br ((↑(nC l) : Int) != (↑(nC l) : Int)) ((SV.v (Value.bool false) = SV.v (Value.bool true) ∧ True) ∧ (SV.h (1 : Nat) [oe, (0 : Nat)] = SV.h (1 : Nat) [oe, (0 : Nat)] ∧ True) ∧ (oe = oe ∧ ep = ep ∧ l = l) ∧ (SV.v (Value.int IntKind.i64 (↑l.length : Int)) = SV.v (Value.int IntKind.i64 (↑l.length : Int)) ∧ SV.v (Value.int IntKind.i64 (↑(nC l) : Int)) = SV.v (Value.int IntKind.i64 (↑(nC l) : Int)) ∧ SV.h (3 : Nat) [e, (0 : Nat)] = SV.h (3 : Nat) [e, (0 : Nat)] ∧ True) ∧ (l.length * nC l = l.length * nC l ∧ e = e ∧ flL l = flL l) ∧ True) (br ((↑(Rws.i IntKind.i64 l).len : Int) != (↑l.length : Int)) ((SV.v (Value.bool false) = SV.v (Value.bool true) ∧ True) ∧ (SV.h (1 : Nat) [oe, (0 : Nat)] = SV.h (1 : Nat) [oe, (0 : Nat)] ∧ True) ∧ (oe = oe ∧ ep = ep ∧ l = l) ∧ (SV.v (Value.int IntKind.i64 (↑l.length : Int)) = SV.v (Value.int IntKind.i64 (↑l.length : Int)) ∧ SV.v (Value.int IntKind.i64 (↑(nC l) : Int)) = SV.v (Value.int IntKind.i64 (↑(nC l) : Int)) ∧ SV.h (3 : Nat) [e, (0 : Nat)] = SV.h (3 : Nat) [e, (0 : Nat)] ∧ True) ∧ (l.length * nC l = l.length * nC l ∧ e = e ∧ flL l = flL l) ∧ True) ((II (0 : Int) ≤ (0 : Int) ∧ (0 : Int) ≤ (↑l.length : Int)) ∧ ((SV.p (0 : Nat) (0 : Nat) = SV.p (0 : Nat) (0 : Nat) ∧ SV.p (4 : Nat) (0 : Nat) = SV.p (4 : Nat) (0 : Nat) ∧ SV.p (5 : Nat) (0 : Nat) = SV.p (5 : Nat) (0 : Nat) ∧ SV.p (6 : Nat) (0 : Nat) = SV.p (6 : Nat) (0 : Nat) ∧ SV.h (8 : Nat) [(0 : Nat), (0 : Nat)] = SV.h (8 : Nat) [(0 : Nat), (0 : Nat)] ∧ SV.v (Value.int IntKind.i64 (0 : Int)) = SV.v (Value.int IntKind.i64 (0 : Int)) ∧ True) ∧ (SV.h (1 : Nat) [oe, (0 : Nat)] = SV.h (1 : Nat) [oe, (0 : Nat)] ∧ True) ∧ (oe = oe ∧ ep = ep ∧ l = l) ∧ (SV.v (Value.int IntKind.i64 (↑l.length : Int)) = SV.v (Value.int IntKind.i64 (↑l.length : Int)) ∧ SV.v (Value.int IntKind.i64 (↑(nC l) : Int)) = SV.v (Value.int IntKind.i64 (↑(nC l) : Int)) ∧ SV.h (3 : Nat) [e, (0 : Nat)] = SV.h (3 : Nat) [e, (0 : Nat)] ∧ True) ∧ (l.length * nC l = l.length * nC l ∧ e = e ∧ flL l = flL l) ∧ (SV.p (2 : Nat) (0 : Nat) = SV.p (2 : Nat) (0 : Nat) ∧ True) ∧ (SV.v (Value.bool false) = SV.v (Value.bool false) ∧ True) ∧ (SV.v (Value.int IntKind.i64 (↑l.length : Int)) = SV.v (Value.int IntKind.i64 (↑l.length : Int)) ∧ SV.v (Value.int IntKind.i64 (↑(nC l) : Int)) = SV.v (Value.int IntKind.i64 (↑(nC l) : Int)) ∧ True) ∧ True ∧ ((0 : Nat) = (0 : Nat) ∧ l.length * nC l + (1 : Nat) = l.length * nC l + (1 : Nat) ∧ l = l) ∧ True) ∧ ∀ (x : Int), (0 : Int) ≤ x ∧ x ≤ (↑l.length : Int) → br (decide (x < (↑l.length : Int))) (rq (true && (Nat.beq (1 : Nat) (1 : Nat) && decide ((0 : Int) ≤ x ∧ x < (↑(Rws.i IntKind.i64 l).len : Int)))) (rq (true && x.toNat.blt (Rws.i IntKind.i64 l).len) (rq ((l.length * nC l + (1 : Nat)).beq (l.length * nC l + (1 : Nat)) && x.toNat.blt (Rws.i IntKind.i64 l).len) (br ((↑((Rws.i IntKind.i64 l).nAt x.toNat) : Int) != (↑(nC l) : Int)) ((SV.v (Value.bool false) = SV.v (Value.bool true) ∧ True) ∧ (SV.h (1 : Nat) [oe, (0 : Nat)] = SV.h (1 : Nat) [oe, (0 : Nat)] ∧ True) ∧ (oe = oe ∧ ep = ep ∧ l = l) ∧ (SV.v (Value.int IntKind.i64 (↑l.length : Int)) = SV.v (Value.int IntKind.i64 (↑l.length : Int)) ∧ SV.v (Value.int IntKind.i64 (↑(nC l) : Int)) = SV.v (Value.int IntKind.i64 (↑(nC l) : Int)) ∧ SV.h (3 : Nat) [e, (0 : Nat)] = SV.h (3 : Nat) [e, (0 : Nat)] ∧ True) ∧ (l.length * nC l = l.length * nC l ∧ e = e ∧ flL l = flL l) ∧ True) ((II (0 : Int) ≤ (0 : Int) ∧ (0 : Int) ≤ (↑(nC l) : Int)) ∧ ((SV.p (0 : Nat) (0 : Nat) = SV.p (0 : Nat) (0 : Nat) ∧ SV.p (4 : Nat) (0 : Nat) = SV.p (4 : Nat) (0 : Nat) ∧ SV.p (5 : Nat) (0 : Nat) = SV.p (5 : Nat) (0 : Nat) ∧ SV.p (6 : Nat) (0 : Nat) = SV.p (6 : Nat) (0 : Nat) ∧ SV.h (8 : Nat) [(0 : Nat), (0 : Nat)] = SV.h (8 : Nat) [(0 : Nat), (0 : Nat)] ∧ SV.v (Value.int IntKind.i64 x) = SV.v (Value.int IntKind.i64 x) ∧ SV.v (Value.int IntKind.i64 (0 : Int)) = SV.v (Value.int IntKind.i64 (0 : Int)) ∧ True) ∧ (SV.h (1 : Nat) [oe, (0 : Nat)] = SV.h (1 : Nat) [oe, (0 : Nat)] ∧ True) ∧ (oe = oe ∧ ep = ep ∧ l = l) ∧ (SV.v (Value.int IntKind.i64 (↑l.length : Int)) = SV.v (Value.int IntKind.i64 (↑l.length : Int)) ∧ SV.v (Value.int IntKind.i64 (↑(nC l) : Int)) = SV.v (Value.int IntKind.i64 (↑(nC l) : Int)) ∧ SV.h (3 : Nat) [e, (0 : Nat)] = SV.h (3 : Nat) [e, (0 : Nat)] ∧ True) ∧ (l.length * nC l = l.length * nC l ∧ e = e ∧ flL l = flL l) ∧ (SV.p (2 : Nat) (0 : Nat) = SV.p (2 : Nat) (0 : Nat) ∧ True) ∧ (SV.v (Value.bool false) = SV.v (Value.bool false) ∧ True) ∧ (SV.v (Value.int IntKind.i64 (↑l.length : Int)) = SV.v (Value.int IntKind.i64 (↑l.length : Int)) ∧ SV.v (Value.int IntKind.i64 (↑(nC l) : Int)) = SV.v (Value.int IntKind.i64 (↑(nC l) : Int)) ∧ True) ∧ True ∧ ((0 : Nat) = (0 : Nat) ∧ l.length * nC l + (1 : Nat) = l.length * nC l + (1 : Nat) ∧ l = l) ∧ True) ∧ ∀ (x_1 : Int), (0 : Int) ≤ x_1 ∧ x_1 ≤ (↑(nC l) : Int) → br (decide (x_1 < (↑(nC l) : Int))) (rq (true && (Nat.beq (1 : Nat) (1 : Nat) && decide ((0 : Int) ≤ x ∧ x < (↑(Rws.i IntKind.i64 l).len : Int)))) (rq (true && x.toNat.blt (Rws.i IntKind.i64 l).len) (rq ((l.length * nC l + (1 : Nat)).beq (l.length * nC l + (1 : Nat)) && x.toNat.blt (Rws.i IntKind.i64 l).len && ((Rws.i IntKind.i64 l).sz.beq (1 : Nat) && decide ((0 : Int) ≤ x_1 ∧ x_1 < (↑((Rws.i IntKind.i64 l).nAt x.toNat) : Int)))) (rq ((l.length * nC l + (1 : Nat)).beq (l.length * nC l + (1 : Nat)) && x.toNat.blt (Rws.i IntKind.i64 l).len && x_1.toNat.blt (l.getD x.toNat (LI [])).length) (true = true ∧ (e = e ∧ FW (↑l.length : Int) (↑(nC l) : Int) (flL l) (l.length * nC l) ∧ inD (↑l.length : Int) (↑(nC l) : Int) x x_1 = true) ∧ br ((l.getD x.toNat (LI [])).getD x_1.toNat (0 : Int) != (flL l).getD (x * (↑(nC l) : Int) + x_1).toNat (0 : Int)) ((SV.v (Value.bool false) = SV.v (Value.bool true) ∧ True) ∧ (SV.h (1 : Nat) [oe, (0 : Nat)] = SV.h (1 : Nat) [oe, (0 : Nat)] ∧ True) ∧ (oe = oe ∧ ep = ep ∧ l = l) ∧ (SV.v (Value.int IntKind.i64 (↑l.length : Int)) = SV.v (Value.int IntKind.i64 (↑l.length : Int)) ∧ SV.v (Value.int IntKind.i64 (↑(nC l) : Int)) = SV.v (Value.int IntKind.i64 (↑(nC l) : Int)) ∧ SV.h (3 : Nat) [e, (0 : Nat)] = SV.h (3 : Nat) [e, (0 : Nat)] ∧ True) ∧ (l.length * nC l = l.length * nC l ∧ e = e ∧ flL l = flL l) ∧ True) (((0 : Int) ≤ IntKind.i64.wrap (x_1 + (1 : Int)) ∧ IntKind.i64.wrap (x_1 + (1 : Int)) ≤ (↑(nC l) : Int)) ∧ ((SV.p (0 : Nat) (0 : Nat) = SV.p (0 : Nat) (0 : Nat) ∧ SV.p (4 : Nat) (0 : Nat) = SV.p (4 : Nat) (0 : Nat) ∧ SV.p (5 : Nat) (0 : Nat) = SV.p (5 : Nat) (0 : Nat) ∧ SV.p (6 : Nat) (0 : Nat) = SV.p (6 : Nat) (0 : Nat) ∧ SV.h (8 : Nat) [(0 : Nat), (0 : Nat)] = SV.h (8 : Nat) [(0 : Nat), (0 : Nat)] ∧ SV.v (Value.int IntKind.i64 x) = SV.v (Value.int IntKind.i64 x) ∧ SV.v (Value.int IntKind.i64 (IntKind.i64.wrap (x_1 + (1 : Int)))) = SV.v (Value.int IntKind.i64 (IntKind.i64.wrap (x_1 + (1 : Int)))) ∧ True) ∧ (SV.h (1 : Nat) [oe, (0 : Nat)] = SV.h (1 : Nat) [oe, (0 : Nat)] ∧ True) ∧ (oe = oe ∧ ep = ep ∧ l = l) ∧ (SV.v (Value.int IntKind.i64 (↑l.length : Int)) = SV.v (Value.int IntKind.i64 (↑l.length : Int)) ∧ SV.v (Value.int IntKind.i64 (↑(nC l) : Int)) = SV.v (Value.int IntKind.i64 (↑(nC l) : Int)) ∧ SV.h (3 : Nat) [e, (0 : Nat)] = SV.h (3 : Nat) [e, (0 : Nat)] ∧ True) ∧ (l.length * nC l = l.length * nC l ∧ e = e ∧ flL l = flL l) ∧ (SV.p (2 : Nat) (0 : Nat) = SV.p (2 : Nat) (0 : Nat) ∧ True) ∧ (SV.v (Value.bool false) = SV.v (Value.bool false) ∧ True) ∧ (SV.v (Value.int IntKind.i64 (↑l.length : Int)) = SV.v (Value.int IntKind.i64 (↑l.length : Int)) ∧ SV.v (Value.int IntKind.i64 (↑(nC l) : Int)) = SV.v (Value.int IntKind.i64 (↑(nC l) : Int)) ∧ True) ∧ True ∧ ((0 : Nat) = (0 : Nat) ∧ l.length * nC l + (1 : Nat) = l.length * nC l + (1 : Nat) ∧ l = l) ∧ True) ∧ ((↑(nC l) : Int) - IntKind.i64.wrap (x_1 + (1 : Int))).toNat < ((↑(nC l) : Int) - x_1).toNat)))))) (((0 : Int) ≤ IntKind.i64.wrap (x + (1 : Int)) ∧ IntKind.i64.wrap (x + (1 : Int)) ≤ (↑l.length : Int)) ∧ ((SV.p (0 : Nat) (0 : Nat) = SV.p (0 : Nat) (0 : Nat) ∧ SV.p (4 : Nat) (0 : Nat) = SV.p (4 : Nat) (0 : Nat) ∧ SV.p (5 : Nat) (0 : Nat) = SV.p (5 : Nat) (0 : Nat) ∧ SV.p (6 : Nat) (0 : Nat) = SV.p (6 : Nat) (0 : Nat) ∧ SV.h (8 : Nat) [(0 : Nat), (0 : Nat)] = SV.h (8 : Nat) [(0 : Nat), (0 : Nat)] ∧ SV.v (Value.int IntKind.i64 (IntKind.i64.wrap (x + (1 : Int)))) = SV.v (Value.int IntKind.i64 (IntKind.i64.wrap (x + (1 : Int)))) ∧ True) ∧ (SV.h (1 : Nat) [oe, (0 : Nat)] = SV.h (1 : Nat) [oe, (0 : Nat)] ∧ True) ∧ (oe = oe ∧ ep = ep ∧ l = l) ∧ (SV.v (Value.int IntKind.i64 (↑l.length : Int)) = SV.v (Value.int IntKind.i64 (↑l.length : Int)) ∧ SV.v (Value.int IntKind.i64 (↑(nC l) : Int)) = SV.v (Value.int IntKind.i64 (↑(nC l) : Int)) ∧ SV.h (3 : Nat) [e, (0 : Nat)] = SV.h (3 : Nat) [e, (0 : Nat)] ∧ True) ∧ (l.length * nC l = l.length * nC l ∧ e = e ∧ flL l = flL l) ∧ (SV.p (2 : Nat) (0 : Nat) = SV.p (2 : Nat) (0 : Nat) ∧ True) ∧ (SV.v (Value.bool false) = SV.v (Value.bool false) ∧ True) ∧ (SV.v (Value.int IntKind.i64 (↑l.length : Int)) = SV.v (Value.int IntKind.i64 (↑l.length : Int)) ∧ SV.v (Value.int IntKind.i64 (↑(nC l) : Int)) = SV.v (Value.int IntKind.i64 (↑(nC l) : Int)) ∧ True) ∧ True ∧ ((0 : Nat) = (0 : Nat) ∧ l.length * nC l + (1 : Nat) = l.length * nC l + (1 : Nat) ∧ l = l) ∧ True) ∧ ((↑l.length : Int) - IntKind.i64.wrap (x + (1 : Int))).toNat < ((↑l.length : Int) - x).toNat)))))) (true = true ∧ (oe = oe ∧ GW l) ∧ (II (0 : Int) ≤ (0 : Int) ∧ (0 : Int) ≤ (↑l.length : Int)) ∧ ((SV.y (12 : Nat) = SV.y (12 : Nat) ∧ SV.p (10 : Nat) (0 : Nat) = SV.p (10 : Nat) (0 : Nat) ∧ SV.p (13 : Nat) (0 : Nat) = SV.p (13 : Nat) (0 : Nat) ∧ SV.v (Value.int IntKind.i64 (↑l.length : Int)) = SV.v (Value.int IntKind.i64 (↑l.length : Int)) ∧ SV.v (Value.int IntKind.i64 (0 : Int)) = SV.v (Value.int IntKind.i64 (0 : Int)) ∧ True) ∧ (SV.h (1 : Nat) [oe, (0 : Nat)] = SV.h (1 : Nat) [oe, (0 : Nat)] ∧ True) ∧ (oe = oe ∧ ep = ep ∧ l = l) ∧ (SV.v (Value.int IntKind.i64 (↑l.length : Int)) = SV.v (Value.int IntKind.i64 (↑l.length : Int)) ∧ SV.v (Value.int IntKind.i64 (↑(nC l) : Int)) = SV.v (Value.int IntKind.i64 (↑(nC l) : Int)) ∧ SV.h (3 : Nat) [e, (0 : Nat)] = SV.h (3 : Nat) [e, (0 : Nat)] ∧ True) ∧ (l.length * nC l = l.length * nC l ∧ e = e ∧ flL l = flL l) ∧ (SV.p (2 : Nat) (0 : Nat) = SV.p (2 : Nat) (0 : Nat) ∧ True) ∧ (SV.v (Value.bool false) = SV.v (Value.bool false) ∧ True) ∧ (SV.v (Value.int IntKind.i64 (↑l.length : Int)) = SV.v (Value.int IntKind.i64 (↑l.length : Int)) ∧ SV.v (Value.int IntKind.i64 (↑(nC l) : Int)) = SV.v (Value.int IntKind.i64 (↑(nC l) : Int)) ∧ True) ∧ True ∧ ((0 : Nat) = (0 : Nat) ∧ l.length * nC l + (1 : Nat) = l.length * nC l + (1 : Nat) ∧ l = l) ∧ (SV.v (Value.int IntKind.i64 (0 : Int)) = SV.v (Value.int IntKind.i64 (↑((0 : Nat) * nC l + (0 : Nat)) : Int)) ∧ True) ∧ (SV.p (0 : Nat) (0 : Nat) = SV.p (0 : Nat) (0 : Nat) ∧ True) ∧ Obj.deferred (some []) = Obj.deferred (some []) ∧ ((SV.p (0 : Nat) (0 : Nat) = SV.p (0 : Nat) (0 : Nat) ∧ SV.p (4 : Nat) (0 : Nat) = SV.p (4 : Nat) (0 : Nat) ∧ SV.p (5 : Nat) (0 : Nat) = SV.p (5 : Nat) (0 : Nat) ∧ SV.p (9 : Nat) (0 : Nat) = SV.p (9 : Nat) (0 : Nat) ∧ True) ∧ #[(81 : Nat), (82 : Nat)] = #[(81 : Nat), (82 : Nat)] ∧ codeAt Try.f16 [(1 : Nat), (1 : Nat), (1 : Nat), (1 : Nat), (1 : Nat), (1 : Nat), (0 : Nat), (1 : Nat), (0 : Nat), (0 : Nat)] = codeAt Try.f16 [(1 : Nat), (1 : Nat), (1 : Nat), (1 : Nat), (1 : Nat), (1 : Nat), (0 : Nat), (1 : Nat), (0 : Nat), (0 : Nat)] ∧ codeAt Try.f16 [(1 : Nat), (1 : Nat), (1 : Nat), (1 : Nat), (1 : Nat), (1 : Nat), (0 : Nat), (1 : Nat), (0 : Nat), (1 : Nat)] = codeAt Try.f16 [(1 : Nat), (1 : Nat), (1 : Nat), (1 : Nat), (1 : Nat), (1 : Nat), (0 : Nat), (1 : Nat), (0 : Nat), (1 : Nat)]) ∧ (SV.v (Value.int IntKind.i64 (↑l.length : Int)) = SV.v (Value.int IntKind.i64 (↑l.length : Int)) ∧ SV.v (Value.int IntKind.i64 (↑(nC l) : Int)) = SV.v (Value.int IntKind.i64 (↑(nC l) : Int)) ∧ True) ∧ True) ∧ ∀ (x : Int), (0 : Int) ≤ x ∧ x ≤ (↑l.length : Int) → br (decide (x < (↑l.length : Int))) ((II (0 : Int) ≤ (0 : Int) ∧ (0 : Int) ≤ (↑(nC l) : Int)) ∧ ((SV.y (12 : Nat) = SV.y (12 : Nat) ∧ SV.p (10 : Nat) (0 : Nat) = SV.p (10 : Nat) (0 : Nat) ∧ SV.p (13 : Nat) (0 : Nat) = SV.p (13 : Nat) (0 : Nat) ∧ SV.v (Value.int IntKind.i64 x) = SV.v (Value.int IntKind.i64 x) ∧ SV.v (Value.int IntKind.i64 (↑l.length : Int)) = SV.v (Value.int IntKind.i64 (↑l.length : Int)) ∧ SV.v (Value.int IntKind.i64 x) = SV.v (Value.int IntKind.i64 x) ∧ SV.v (Value.int IntKind.i64 (↑(nC l) : Int)) = SV.v (Value.int IntKind.i64 (↑(nC l) : Int)) ∧ SV.v (Value.int IntKind.i64 (0 : Int)) = SV.v (Value.int IntKind.i64 (0 : Int)) ∧ True) ∧ (SV.h (1 : Nat) [oe, (0 : Nat)] = SV.h (1 : Nat) [oe, (0 : Nat)] ∧ True) ∧ (oe = oe ∧ ep = ep ∧ l = l) ∧ (SV.v (Value.int IntKind.i64 (↑l.length : Int)) = SV.v (Value.int IntKind.i64 (↑l.length : Int)) ∧ SV.v (Value.int IntKind.i64 (↑(nC l) : Int)) = SV.v (Value.int IntKind.i64 (↑(nC l) : Int)) ∧ SV.h (3 : Nat) [e, (0 : Nat)] = SV.h (3 : Nat) [e, (0 : Nat)] ∧ True) ∧ (l.length * nC l = l.length * nC l ∧ e = e ∧ flL l = flL l) ∧ (SV.p (2 : Nat) (0 : Nat) = SV.p (2 : Nat) (0 : Nat) ∧ True) ∧ (SV.v (Value.bool false) = SV.v (Value.bool false) ∧ True) ∧ (SV.v (Value.int IntKind.i64 (↑l.length : Int)) = SV.v (Value.int IntKind.i64 (↑l.length : Int)) ∧ SV.v (Value.int IntKind.i64 (↑(nC l) : Int)) = SV.v (Value.int IntKind.i64 (↑(nC l) : Int)) ∧ True) ∧ True ∧ ((0 : Nat) = (0 : Nat) ∧ l.length * nC l + (1 : Nat) = l.length * nC l + (1 : Nat) ∧ l = l) ∧ (SV.v (Value.int IntKind.i64 (↑(x.toNat * nC l + (0 : Nat)) : Int)) = SV.v (Value.int IntKind.i64 (↑(x.toNat * nC l + (0 : Nat)) : Int)) ∧ True) ∧ (SV.p (0 : Nat) (0 : Nat) = SV.p (0 : Nat) (0 : Nat) ∧ True) ∧ Obj.deferred (some []) = Obj.deferred (some []) ∧ ((SV.p (0 : Nat) (0 : Nat) = SV.p (0 : Nat) (0 : Nat) ∧ SV.p (4 : Nat) (0 : Nat) = SV.p (4 : Nat) (0 : Nat) ∧ SV.p (5 : Nat) (0 : Nat) = SV.p (5 : Nat) (0 : Nat) ∧ SV.p (9 : Nat) (0 : Nat) = SV.p (9 : Nat) (0 : Nat) ∧ True) ∧ #[(81 : Nat), (82 : Nat)] = #[(81 : Nat), (82 : Nat)] ∧ codeAt Try.f16 [(1 : Nat), (1 : Nat), (1 : Nat), (1 : Nat), (1 : Nat), (1 : Nat), (0 : Nat), (1 : Nat), (0 : Nat), (0 : Nat)] = codeAt Try.f16 [(1 : Nat), (1 : Nat), (1 : Nat), (1 : Nat), (1 : Nat), (1 : Nat), (0 : Nat), (1 : Nat), (0 : Nat), (0 : Nat)] ∧ codeAt Try.f16 [(1 : Nat), (1 : Nat), (1 : Nat), (1 : Nat), (1 : Nat), (1 : Nat), (0 : Nat), (1 : Nat), (0 : Nat), (1 : Nat)] = codeAt Try.f16 [(1 : Nat), (1 : Nat), (1 : Nat), (1 : Nat), (1 : Nat), (1 : Nat), (0 : Nat), (1 : Nat), (0 : Nat), (1 : Nat)]) ∧ (SV.v (Value.int IntKind.i64 (↑l.length : Int)) = SV.v (Value.int IntKind.i64 (↑l.length : Int)) ∧ SV.v (Value.int IntKind.i64 (↑(nC l) : Int)) = SV.v (Value.int IntKind.i64 (↑(nC l) : Int)) ∧ True) ∧ True) ∧ ∀ (x_1 : Int), (0 : Int) ≤ x_1 ∧ x_1 ≤ (↑(nC l) : Int) → br (decide (x_1 < (↑(nC l) : Int))) (rq (oe.beq oe && (Nat.beq (1 : Nat) (1 : Nat) && decide ((0 : Int) ≤ x ∧ x < (↑(Rws.i IntKind.i64 l).len : Int)))) (rq (oe.beq oe && x.toNat.blt (Rws.i IntKind.i64 l).len) (rq (ep.beq ep && x.toNat.blt (Rws.i IntKind.i64 l).len && ((Rws.i IntKind.i64 l).sz.beq (1 : Nat) && decide ((0 : Int) ≤ x_1 ∧ x_1 < (↑((Rws.i IntKind.i64 l).nAt x.toNat) : Int)))) (rq (ep.beq ep && x.toNat.blt (Rws.i IntKind.i64 l).len && x_1.toNat.blt (l.getD x.toNat (LI [])).length) (rq (e.beq e) (br (decide ((↑(x.toNat * nC l + x_1.toNat) : Int) ≥ (↑(l.length * nC l) : Int))) ((SV.v (Value.bool false) = SV.v (Value.bool true) ∧ True) ∧ (SV.h (1 : Nat) [oe, (0 : Nat)] = SV.h (1 : Nat) [oe, (0 : Nat)] ∧ True) ∧ (oe = oe ∧ ep = ep ∧ l = l) ∧ (SV.v (Value.int IntKind.i64 (↑l.length : Int)) = SV.v (Value.int IntKind.i64 (↑l.length : Int)) ∧ SV.v (Value.int IntKind.i64 (↑(nC l) : Int)) = SV.v (Value.int IntKind.i64 (↑(nC l) : Int)) ∧ SV.h (3 : Nat) [e, (0 : Nat)] = SV.h (3 : Nat) [e, (0 : Nat)] ∧ True) ∧ (l.length * nC l = l.length * nC l ∧ e = e ∧ flL l = flL l) ∧ True) (br (IntKind.i64.wrap (IntKind.i64.wrap (x * (↑(nC l) : Int)) + x_1) != (↑(x.toNat * nC l + x_1.toNat) : Int)) ((SV.v (Value.bool false) = SV.v (Value.bool true) ∧ True) ∧ (SV.h (1 : Nat) [oe, (0 : Nat)] = SV.h (1 : Nat) [oe, (0 : Nat)] ∧ True) ∧ (oe = oe ∧ ep = ep ∧ l = l) ∧ (SV.v (Value.int IntKind.i64 (↑l.length : Int)) = SV.v (Value.int IntKind.i64 (↑l.length : Int)) ∧ SV.v (Value.int IntKind.i64 (↑(nC l) : Int)) = SV.v (Value.int IntKind.i64 (↑(nC l) : Int)) ∧ SV.h (3 : Nat) [e, (0 : Nat)] = SV.h (3 : Nat) [e, (0 : Nat)] ∧ True) ∧ (l.length * nC l = l.length * nC l ∧ e = e ∧ flL l = flL l) ∧ True) (rq (e.beq e && (Nat.beq (1 : Nat) (1 : Nat) && decide ((0 : Int) ≤ (↑(x.toNat * nC l + x_1.toNat) : Int) ∧ (↑(x.toNat * nC l + x_1.toNat) : Int) < (↑(l.length * nC l) : Int)))) (rq (e.beq e && (↑(x.toNat * nC l + x_1.toNat) : Int).toNat.blt (flL l).length) (br ((l.getD x.toNat (LI [])).getD x_1.toNat (0 : Int) != (flL l).getD (↑(x.toNat * nC l + x_1.toNat) : Int).toNat (0 : Int)) ((SV.v (Value.bool false) = SV.v (Value.bool true) ∧ True) ∧ (SV.h (1 : Nat) [oe, (0 : Nat)] = SV.h (1 : Nat) [oe, (0 : Nat)] ∧ True) ∧ (oe = oe ∧ ep = ep ∧ l = l) ∧ (SV.v (Value.int IntKind.i64 (↑l.length : Int)) = SV.v (Value.int IntKind.i64 (↑l.length : Int)) ∧ SV.v (Value.int IntKind.i64 (↑(nC l) : Int)) = SV.v (Value.int IntKind.i64 (↑(nC l) : Int)) ∧ SV.h (3 : Nat) [e, (0 : Nat)] = SV.h (3 : Nat) [e, (0 : Nat)] ∧ True) ∧ (l.length * nC l = l.length * nC l ∧ e = e ∧ flL l = flL l) ∧ True) (((0 : Int) ≤ IntKind.i64.wrap (x_1 + (1 : Int)) ∧ IntKind.i64.wrap (x_1 + (1 : Int)) ≤ (↑(nC l) : Int)) ∧ ((SV.y (12 : Nat) = SV.y (12 : Nat) ∧ SV.p (10 : Nat) (0 : Nat) = SV.p (10 : Nat) (0 : Nat) ∧ SV.p (13 : Nat) (0 : Nat) = SV.p (13 : Nat) (0 : Nat) ∧ SV.v (Value.int IntKind.i64 x) = SV.v (Value.int IntKind.i64 x) ∧ SV.v (Value.int IntKind.i64 (↑l.length : Int)) = SV.v (Value.int IntKind.i64 (↑l.length : Int)) ∧ SV.v (Value.int IntKind.i64 x) = SV.v (Value.int IntKind.i64 x) ∧ SV.v (Value.int IntKind.i64 (↑(nC l) : Int)) = SV.v (Value.int IntKind.i64 (↑(nC l) : Int)) ∧ SV.v (Value.int IntKind.i64 (IntKind.i64.wrap (x_1 + (1 : Int)))) = SV.v (Value.int IntKind.i64 (IntKind.i64.wrap (x_1 + (1 : Int)))) ∧ True) ∧ (SV.h (1 : Nat) [oe, (0 : Nat)] = SV.h (1 : Nat) [oe, (0 : Nat)] ∧ True) ∧ (oe = oe ∧ ep = ep ∧ l = l) ∧ (SV.v (Value.int IntKind.i64 (↑l.length : Int)) = SV.v (Value.int IntKind.i64 (↑l.length : Int)) ∧ SV.v (Value.int IntKind.i64 (↑(nC l) : Int)) = SV.v (Value.int IntKind.i64 (↑(nC l) : Int)) ∧ SV.h (3 : Nat) [e, (0 : Nat)] = SV.h (3 : Nat) [e, (0 : Nat)] ∧ True) ∧ (l.length * nC l = l.length * nC l ∧ e = e ∧ flL l = flL l) ∧ (SV.p (2 : Nat) (0 : Nat) = SV.p (2 : Nat) (0 : Nat) ∧ True) ∧ (SV.v (Value.bool false) = SV.v (Value.bool false) ∧ True) ∧ (SV.v (Value.int IntKind.i64 (↑l.length : Int)) = SV.v (Value.int IntKind.i64 (↑l.length : Int)) ∧ SV.v (Value.int IntKind.i64 (↑(nC l) : Int)) = SV.v (Value.int IntKind.i64 (↑(nC l) : Int)) ∧ True) ∧ True ∧ ((0 : Nat) = (0 : Nat) ∧ l.length * nC l + (1 : Nat) = l.length * nC l + (1 : Nat) ∧ l = l) ∧ (SV.v (Value.int IntKind.i64 (IntKind.i64.wrap ((↑(x.toNat * nC l + x_1.toNat) : Int) + (1 : Int)))) = SV.v (Value.int IntKind.i64 (↑(x.toNat * nC l + (IntKind.i64.wrap (x_1 + (1 : Int))).toNat) : Int)) ∧ True) ∧ (SV.p (0 : Nat) (0 : Nat) = SV.p (0 : Nat) (0 : Nat) ∧ True) ∧ Obj.deferred (some []) = Obj.deferred (some []) ∧ ((SV.p (0 : Nat) (0 : Nat) = SV.p (0 : Nat) (0 : Nat) ∧ SV.p (4 : Nat) (0 : Nat) = SV.p (4 : Nat) (0 : Nat) ∧ SV.p (5 : Nat) (0 : Nat) = SV.p (5 : Nat) (0 : Nat) ∧ SV.p (9 : Nat) (0 : Nat) = SV.p (9 : Nat) (0 : Nat) ∧ True) ∧ #[(81 : Nat), (82 : Nat)] = #[(81 : Nat), (82 : Nat)] ∧ codeAt Try.f16 [(1 : Nat), (1 : Nat), (1 : Nat), (1 : Nat), (1 : Nat), (1 : Nat), (0 : Nat), (1 : Nat), (0 : Nat), (0 : Nat)] = codeAt Try.f16 [(1 : Nat), (1 : Nat), (1 : Nat), (1 : Nat), (1 : Nat), (1 : Nat), (0 : Nat), (1 : Nat), (0 : Nat), (0 : Nat)] ∧ codeAt Try.f16 [(1 : Nat), (1 : Nat), (1 : Nat), (1 : Nat), (1 : Nat), (1 : Nat), (0 : Nat), (1 : Nat), (0 : Nat), (1 : Nat)] = codeAt Try.f16 [(1 : Nat), (1 : Nat), (1 : Nat), (1 : Nat), (1 : Nat), (1 : Nat), (0 : Nat), (1 : Nat), (0 : Nat), (1 : Nat)]) ∧ (SV.v (Value.int IntKind.i64 (↑l.length : Int)) = SV.v (Value.int IntKind.i64 (↑l.length : Int)) ∧ SV.v (Value.int IntKind.i64 (↑(nC l) : Int)) = SV.v (Value.int IntKind.i64 (↑(nC l) : Int)) ∧ True) ∧ True) ∧ ((↑(nC l) : Int) - IntKind.i64.wrap (x_1 + (1 : Int))).toNat < ((↑(nC l) : Int) - x_1).toNat))))))))))) (((0 : Int) ≤ IntKind.i64.wrap (x + (1 : Int)) ∧ IntKind.i64.wrap (x + (1 : Int)) ≤ (↑l.length : Int)) ∧ ((SV.y (12 : Nat) = SV.y (12 : Nat) ∧ SV.p (10 : Nat) (0 : Nat) = SV.p (10 : Nat) (0 : Nat) ∧ SV.p (13 : Nat) (0 : Nat) = SV.p (13 : Nat) (0 : Nat) ∧ SV.v (Value.int IntKind.i64 (↑l.length : Int)) = SV.v (Value.int IntKind.i64 (↑l.length : Int)) ∧ SV.v (Value.int IntKind.i64 (IntKind.i64.wrap (x + (1 : Int)))) = SV.v (Value.int IntKind.i64 (IntKind.i64.wrap (x + (1 : Int)))) ∧ True) ∧ (SV.h (1 : Nat) [oe, (0 : Nat)] = SV.h (1 : Nat) [oe, (0 : Nat)] ∧ True) ∧ (oe = oe ∧ ep = ep ∧ l = l) ∧ (SV.v (Value.int IntKind.i64 (↑l.length : Int)) = SV.v (Value.int IntKind.i64 (↑l.length : Int)) ∧ SV.v (Value.int IntKind.i64 (↑(nC l) : Int)) = SV.v (Value.int IntKind.i64 (↑(nC l) : Int)) ∧ SV.h (3 : Nat) [e, (0 : Nat)] = SV.h (3 : Nat) [e, (0 : Nat)] ∧ True) ∧ (l.length * nC l = l.length * nC l ∧ e = e ∧ flL l = flL l) ∧ (SV.p (2 : Nat) (0 : Nat) = SV.p (2 : Nat) (0 : Nat) ∧ True) ∧ (SV.v (Value.bool false) = SV.v (Value.bool false) ∧ True) ∧ (SV.v (Value.int IntKind.i64 (↑l.length : Int)) = SV.v (Value.int IntKind.i64 (↑l.length : Int)) ∧ SV.v (Value.int IntKind.i64 (↑(nC l) : Int)) = SV.v (Value.int IntKind.i64 (↑(nC l) : Int)) ∧ True) ∧ True ∧ ((0 : Nat) = (0 : Nat) ∧ l.length * nC l + (1 : Nat) = l.length * nC l + (1 : Nat) ∧ l = l) ∧ (SV.v (Value.int IntKind.i64 (↑(x.toNat * nC l + x_1.toNat) : Int)) = SV.v (Value.int IntKind.i64 (↑((IntKind.i64.wrap (x + (1 : Int))).toNat * nC l + (0 : Nat)) : Int)) ∧ True) ∧ (SV.p (0 : Nat) (0 : Nat) = SV.p (0 : Nat) (0 : Nat) ∧ True) ∧ Obj.deferred (some []) = Obj.deferred (some []) ∧ ((SV.p (0 : Nat) (0 : Nat) = SV.p (0 : Nat) (0 : Nat) ∧ SV.p (4 : Nat) (0 : Nat) = SV.p (4 : Nat) (0 : Nat) ∧ SV.p (5 : Nat) (0 : Nat) = SV.p (5 : Nat) (0 : Nat) ∧ SV.p (9 : Nat) (0 : Nat) = SV.p (9 : Nat) (0 : Nat) ∧ True) ∧ #[(81 : Nat), (82 : Nat)] = #[(81 : Nat), (82 : Nat)] ∧ codeAt Try.f16 [(1 : Nat), (1 : Nat), (1 : Nat), (1 : Nat), (1 : Nat), (1 : Nat), (0 : Nat), (1 : Nat), (0 : Nat), (0 : Nat)] = codeAt Try.f16 [(1 : Nat), (1 : Nat), (1 : Nat), (1 : Nat), (1 : Nat), (1 : Nat), (0 : Nat), (1 : Nat), (0 : Nat), (0 : Nat)] ∧ codeAt Try.f16 [(1 : Nat), (1 : Nat), (1 : Nat), (1 : Nat), (1 : Nat), (1 : Nat), (0 : Nat), (1 : Nat), (0 : Nat), (1 : Nat)] = codeAt Try.f16 [(1 : Nat), (1 : Nat), (1 : Nat), (1 : Nat), (1 : Nat), (1 : Nat), (0 : Nat), (1 : Nat), (0 : Nat), (1 : Nat)]) ∧ (SV.v (Value.int IntKind.i64 (↑l.length : Int)) = SV.v (Value.int IntKind.i64 (↑l.length : Int)) ∧ SV.v (Value.int IntKind.i64 (↑(nC l) : Int)) = SV.v (Value.int IntKind.i64 (↑(nC l) : Int)) ∧ True) ∧ True) ∧ ((↑l.length : Int) - IntKind.i64.wrap (x + (1 : Int))).toNat < ((↑l.length : Int) - x).toNat)) (rq (e.beq e) ((SV.v (Value.bool ((↑(x.toNat * nC l + (0 : Nat)) : Int) == (↑(l.length * nC l) : Int))) = SV.v (Value.bool true) ∧ True) ∧ (SV.h (1 : Nat) [oe, (0 : Nat)] = SV.h (1 : Nat) [oe, (0 : Nat)] ∧ True) ∧ (oe = oe ∧ ep = ep ∧ l = l) ∧ (SV.v (Value.int IntKind.i64 (↑l.length : Int)) = SV.v (Value.int IntKind.i64 (↑l.length : Int)) ∧ SV.v (Value.int IntKind.i64 (↑(nC l) : Int)) = SV.v (Value.int IntKind.i64 (↑(nC l) : Int)) ∧ SV.h (3 : Nat) [e, (0 : Nat)] = SV.h (3 : Nat) [e, (0 : Nat)] ∧ True) ∧ (l.length * nC l = l.length * nC l ∧ e = e ∧ flL l = flL l) ∧ True)))))))) (by kernel_rfl) ?_
  clear hp hφ
  have hfw := fw_fl hg
  simp only [LI, II, LLI, eLen, eNat, eSz, hg, hfw, br_iff, rq_iff, nbeq, true_and, and_true, true_implies, Bool.true_and, Bool.and_true, Bool.and_eq_true, Bool.not_eq_true', Bool.not_eq_false', Nat.ble_eq, Nat.blt_eq, decide_eq_true_eq, decide_eq_false_iff_not, bne_self_eq_false, Bool.false_eq_true, Bool.true_eq_false, false_implies]
  have hR := hg.r1
  have hC := hg.c1
  have hR0 := hg.r0
  have hC0 := hg.c0
  have hat : ∀ i j : Nat, i < l.length → j < nC l → (flL l).getD (i * nC l + j) 0 = (l.getD i []).getD j 0 := fun i j hi hj => by
    rw [flL_get hi hj]; rfl
  refine ⟨by omega, fun r ⟨r0, r1⟩ => ⟨fun r2 => ?_, fun _ => ⟨by omega, by simp, fun r ⟨r0, r1⟩ => ⟨fun r2 => ⟨by omega, fun k ⟨k0, k1⟩ => ⟨fun k2 => ?_, fun k2 => ?_⟩⟩, fun r2 => ?_⟩⟩⟩⟩
  · obtain ⟨i, rfl⟩ : ∃ i : Nat, r = i := ⟨r.toNat, by omega⟩
    have hi : i < l.length := by omega
    have hrow := hg.row hi
    simp only [Int.toNat_natCast, hrow]
    refine ⟨decide_eq_true (by omega), hi, hi, fun h => by simp at h, fun _ => ⟨by omega, fun k ⟨k0, k1⟩ => ⟨fun k2 => ?_, fun k2 => ?_⟩⟩⟩
    · obtain ⟨j, rfl⟩ : ∃ j : Nat, k = j := ⟨k.toNat, by omega⟩
      rw [← cast_ix, wrap64 (x := (j : Int) + 1) (by omega) (by omega)]
      simp only [Int.toNat_natCast, hat i j hi (by omega)]
      exact ⟨decide_eq_true (by omega), hi, ⟨hi, decide_eq_true (by omega)⟩, ⟨hi, by omega⟩, inD_iff.2 (by omega), fun h => by simp at h, fun _ => ⟨by omega, by omega⟩⟩
    · rw [wrap64 (x := (i : Int) + 1) (by omega) (by omega)]; omega
  · obtain ⟨i, rfl⟩ : ∃ i : Nat, r = i := ⟨r.toNat, by omega⟩
    obtain ⟨j, rfl⟩ : ∃ j : Nat, k = j := ⟨k.toNat, by omega⟩
    have hi : i < l.length := by omega
    have hrow := hg.row hi
    have hix := ix_lt (R := l.length) (C := nC l) hi (show j < nC l by omega)
    have hb : l.length * nC l ≤ 255 * 255 := Nat.mul_le_mul hR hC
    obtain ⟨m1, m2⟩ := mul_bd (r := i) (C := nC l) (by omega) (by omega) (by omega) (by omega)
    rw [wrap64 (x := (i : Int) * (nC l : Int)) (by omega) (by omega), wrap64 (x := (i : Int) * (nC l : Int) + j) (by omega) (by omega), ← cast_ix, wrap64 (x := (j : Int) + 1) (by omega) (by omega), show ((j : Int) + 1).toNat = j + 1 by omega]
    simp only [Int.toNat_natCast, hat i j hi (by omega), hrow]
    rw [wrap64 (x := ((i * nC l + j : Nat) : Int) + 1) (by omega) (by omega)]
    exact ⟨decide_eq_true (by omega), hi, ⟨hi, decide_eq_true (by omega)⟩, ⟨hi, by omega⟩, fun h => by omega, fun _ => ⟨fun h => by simp at h, fun _ => ⟨by omega, by rw [flL_length]; omega, fun h => by simp at h, fun _ => ⟨by omega, rfl, by omega⟩⟩⟩⟩
  · obtain ⟨i, rfl⟩ : ∃ i : Nat, r = i := ⟨r.toNat, by omega⟩
    obtain rfl : k = nC l := by omega
    rw [wrap64 (x := (i : Int) + 1) (by omega) (by omega), show ((i : Int) + 1).toNat = i + 1 by omega]
    simp only [Int.toNat_natCast, Nat.add_mul, Nat.one_mul, Nat.add_zero]
    exact ⟨by omega, by first | trivial | rfl, by omega⟩
  · obtain rfl : r = l.length := by omega
    simp
end Go.Proofs.Ytpdhnmnjccnbmaa
