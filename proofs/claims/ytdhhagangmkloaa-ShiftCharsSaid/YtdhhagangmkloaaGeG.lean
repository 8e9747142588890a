/- Layer 6: the law of cells, run. -/
import Derived.Test.YtdhhagangmkloaaGeE
import Derived.Test.YtdhhagangmkloaaVW
set_option linter.unusedSimpArgs false
set_option linter.unusedVariables false
set_option linter.unusedSectionVars false
namespace Go.Proofs.Ytdhhagangmkloaa
open Go Go.Sym

set_option maxHeartbeats 4000000 in
theorem run_chars (L : List ByteArray) (C r c n : Int) (q : Bool) : Sym.Ask (bodyK Try.prog (run (allCfg Try.prog ptabL6 tabL6 4 [] [(1000778, annJ0 [5, 6, 7, 8, 9])]) 80) Try.f5 [.a [.r 0 [], .v (.int .i64 C)], turnSV r c n q] [.inp (.ss L)] (fun y _ => y = .v (.bool true))) := by
  refine kcast (B := (br (decide ((↑L.length : Int) ≥ (1 : Int))) (br (decide ((↑L.length : Int) ≤ (8 : Int))) (br (decide (C ≥ (1 : Int))) (br (!decide (C ≤ (12 : Int))) (True ∧ SV.v (Value.bool true) = SV.v (Value.bool true)) (true = true ∧ ((1 : Nat) ≤ L.length ∧ L.length ≤ (8 : Nat) ∧ (1 : Int) ≤ C ∧ C ≤ (12 : Int)) ∧ true = true ∧ (L.length + (1 : Nat) = L.length + (1 : Nat) ∧ GW (boardL L C.toNat)) ∧ true = true ∧ L.length * C.toNat = L.length * C.toNat ∧ br (!inD (↑L.length : Int) C r c) (br (fdE (boardL L C.toNat) r c != (11 : Int)) (SV.v (Value.bool false) = SV.v (Value.bool true)) (br (fdVF (boardL L C.toNat) r c != (0 : Int)) (SV.v (Value.bool false) = SV.v (Value.bool true)) (br (fdVT (boardL L C.toNat) r c != (0 : Int)) (SV.v (Value.bool false) = SV.v (Value.bool true)) (true = true ∧ (II (0 : Int) ≤ (46 : Int) ∧ II (46 : Int) ≤ (255 : Int)) ∧ true = true ∧ (L.length + (1 : Nat) = L.length + (1 : Nat) ∧ GW (boardL L C.toNat)) ∧ true = true ∧ (II (0 : Int) ≤ (46 : Int) ∧ II (46 : Int) ≤ (255 : Int)) ∧ true = true ∧ (L.length * C.toNat = L.length * C.toNat ∧ FW (↑L.length : Int) C (flatL L C.toNat (L.length * C.toNat)) (L.length * C.toNat)) ∧ br (chE (boardL L C.toNat) r c == rcE (↑L.length : Int) C r c) (true = true ∧ (L.length + (1 : Nat) = L.length + (1 : Nat) ∧ L.length * C.toNat = L.length * C.toNat ∧ GW (chL (boardL L C.toNat) r c n (C4.mk (46 : Int) (0 : Int) false (0 : Int)) q) ∧ (↑L.length : Int) = (↑(chL (boardL L C.toNat) r c n (C4.mk (46 : Int) (0 : Int) false (0 : Int)) q).length : Int) ∧ C = (↑(nC (chL (boardL L C.toNat) r c n (C4.mk (46 : Int) (0 : Int) false (0 : Int)) q)) : Int) ∧ rcL (↑L.length : Int) C (flatL L C.toNat (L.length * C.toNat)) r c n (C4.mk (46 : Int) (0 : Int) false (0 : Int)) q = flL (chL (boardL L C.toNat) r c n (C4.mk (46 : Int) (0 : Int) false (0 : Int)) q) ∧ L.length * C.toNat = (chL (boardL L C.toNat) r c n (C4.mk (46 : Int) (0 : Int) false (0 : Int)) q).length * nC (chL (boardL L C.toNat) r c n (C4.mk (46 : Int) (0 : Int) false (0 : Int)) q)) ∧ True ∧ SV.v (Value.bool true) = SV.v (Value.bool true)) (SV.v (Value.bool false) = SV.v (Value.bool true)))))) (true = true ∧ (L.length * C.toNat = L.length * C.toNat ∧ (flatL L C.toNat (L.length * C.toNat)).length = L.length * C.toNat ∧ (0 : Int) ≤ r ∧ (0 : Int) ≤ c ∧ r ≤ (255 : Int) ∧ (0 : Int) ≤ C ∧ C ≤ (255 : Int) ∧ c ≤ (255 : Int) ∧ r * C + c < (↑(L.length * C.toNat) : Int)) ∧ br ((flatL L C.toNat (L.length * C.toNat)).getD (r * C + c).toNat C4.no).gd (br (fdE (boardL L C.toNat) r c != (15 : Int)) (SV.v (Value.bool false) = SV.v (Value.bool true)) (br (fdVF (boardL L C.toNat) r c != (0 : Int)) (SV.v (Value.bool false) = SV.v (Value.bool true)) (br (fdVT (boardL L C.toNat) r c != (0 : Int)) (SV.v (Value.bool false) = SV.v (Value.bool true)) (true = true ∧ (II (0 : Int) ≤ (46 : Int) ∧ II (46 : Int) ≤ (255 : Int)) ∧ true = true ∧ (L.length + (1 : Nat) = L.length + (1 : Nat) ∧ GW (boardL L C.toNat)) ∧ true = true ∧ (II (0 : Int) ≤ (46 : Int) ∧ II (46 : Int) ≤ (255 : Int)) ∧ true = true ∧ (L.length * C.toNat = L.length * C.toNat ∧ FW (↑L.length : Int) C (flatL L C.toNat (L.length * C.toNat)) (L.length * C.toNat)) ∧ br (chE (boardL L C.toNat) r c == rcE (↑L.length : Int) C r c) (true = true ∧ (L.length + (1 : Nat) = L.length + (1 : Nat) ∧ L.length * C.toNat = L.length * C.toNat ∧ GW (chL (boardL L C.toNat) r c n (C4.mk (46 : Int) (0 : Int) false (0 : Int)) q) ∧ (↑L.length : Int) = (↑(chL (boardL L C.toNat) r c n (C4.mk (46 : Int) (0 : Int) false (0 : Int)) q).length : Int) ∧ C = (↑(nC (chL (boardL L C.toNat) r c n (C4.mk (46 : Int) (0 : Int) false (0 : Int)) q)) : Int) ∧ rcL (↑L.length : Int) C (flatL L C.toNat (L.length * C.toNat)) r c n (C4.mk (46 : Int) (0 : Int) false (0 : Int)) q = flL (chL (boardL L C.toNat) r c n (C4.mk (46 : Int) (0 : Int) false (0 : Int)) q) ∧ L.length * C.toNat = (chL (boardL L C.toNat) r c n (C4.mk (46 : Int) (0 : Int) false (0 : Int)) q).length * nC (chL (boardL L C.toNat) r c n (C4.mk (46 : Int) (0 : Int) false (0 : Int)) q)) ∧ True ∧ SV.v (Value.bool true) = SV.v (Value.bool true)) (SV.v (Value.bool false) = SV.v (Value.bool true)))))) (true = true ∧ (L.length * C.toNat = L.length * C.toNat ∧ FW (↑L.length : Int) C (flatL L C.toNat (L.length * C.toNat)) (L.length * C.toNat) ∧ inD (↑L.length : Int) C r c = true) ∧ br (fdE (boardL L C.toNat) r c != (0 : Int)) (SV.v (Value.bool false) = SV.v (Value.bool true)) (br (fdVF (boardL L C.toNat) r c != fdRF C (flatL L C.toNat (L.length * C.toNat)) r c) (SV.v (Value.bool false) = SV.v (Value.bool true)) (br (fdVT (boardL L C.toNat) r c != fdRT C (flatL L C.toNat (L.length * C.toNat)) r c) (SV.v (Value.bool false) = SV.v (Value.bool true)) (true = true ∧ (II (0 : Int) ≤ (46 : Int) ∧ II (46 : Int) ≤ (255 : Int)) ∧ true = true ∧ (L.length + (1 : Nat) = L.length + (1 : Nat) ∧ GW (boardL L C.toNat)) ∧ true = true ∧ (II (0 : Int) ≤ (46 : Int) ∧ II (46 : Int) ≤ (255 : Int)) ∧ true = true ∧ (L.length * C.toNat = L.length * C.toNat ∧ FW (↑L.length : Int) C (flatL L C.toNat (L.length * C.toNat)) (L.length * C.toNat)) ∧ br (chE (boardL L C.toNat) r c == rcE (↑L.length : Int) C r c) (true = true ∧ (L.length + (1 : Nat) = L.length + (1 : Nat) ∧ L.length * C.toNat = L.length * C.toNat ∧ GW (chL (boardL L C.toNat) r c n (C4.mk (46 : Int) (0 : Int) false (0 : Int)) q) ∧ (↑L.length : Int) = (↑(chL (boardL L C.toNat) r c n (C4.mk (46 : Int) (0 : Int) false (0 : Int)) q).length : Int) ∧ C = (↑(nC (chL (boardL L C.toNat) r c n (C4.mk (46 : Int) (0 : Int) false (0 : Int)) q)) : Int) ∧ rcL (↑L.length : Int) C (flatL L C.toNat (L.length * C.toNat)) r c n (C4.mk (46 : Int) (0 : Int) false (0 : Int)) q = flL (chL (boardL L C.toNat) r c n (C4.mk (46 : Int) (0 : Int) false (0 : Int)) q) ∧ L.length * C.toNat = (chL (boardL L C.toNat) r c n (C4.mk (46 : Int) (0 : Int) false (0 : Int)) q).length * nC (chL (boardL L C.toNat) r c n (C4.mk (46 : Int) (0 : Int) false (0 : Int)) q)) ∧ True ∧ SV.v (Value.bool true) = SV.v (Value.bool true)) (SV.v (Value.bool false) = SV.v (Value.bool true))))))))) (True ∧ SV.v (Value.bool true) = SV.v (Value.bool true))) (True ∧ SV.v (Value.bool true) = SV.v (Value.bool true))) (True ∧ SV.v (Value.bool true) = SV.v (Value.bool true)))) (by kernel_rfl) ?_
  have eta : ∀ y : C4, C4.mk y.g y.a y.gd y.m = y := fun _ => rfl
  simp only [neC_def, eta]
  simp only [II, ge_iff_le, br_iff, rq_iff, nbeq, true_and, and_true, true_implies, false_implies, implies_true, Bool.true_eq_false, Bool.false_eq_true, Bool.true_and, Bool.and_true, Bool.and_eq_true, Bool.not_eq_true', Bool.not_eq_false', Nat.ble_eq, Nat.blt_eq, decide_eq_true_eq, decide_eq_false_iff_not, bne_iff_ne, bne_eq_false_iff_eq, beq_iff_eq, beq_eq_false_iff_ne, ne_eq, reduceCtorEq, SV.v.injEq, Value.bool.injEq]
  intro h1 h2 h3 h4
  obtain ⟨D, rfl⟩ : ∃ D : Nat, C = D := ⟨C.toNat, by omega⟩
  rw [Int.toNat_natCast]
  have hg : GW (boardL L D) := boardL_gw (by omega) (by omega) (by omega) (by omega)
  have hl := boardL_length L D
  have hc := boardL_nC (L := L) (C := D) (by omega)
  have hfl := flL_board (L := L) (C := D) (by omega)
  rw [hfl]
  clear hfl
  generalize boardL L D = l at hg hl hc ⊢
  subst hc
  simp only [← hl] at h1 h2 ⊢
  clear hl
  obtain ⟨g1, d1, d2⟩ := chL_gw hg r c n ⟨46, 0, false, 0⟩ q
  have e1 := ch_fl hg r c n ⟨46, 0, false, 0⟩ q
  have fw0 := flL_fw hg
  have eD : inD l.length (nC l) r c = inB l r c := rfl
  have eE := chE_ref (l := l) r c
  have ix : inB l r c = true → (flL l).getD (r * (nC l : Int) + c).toNat C4.no = at2 l r c := fun hi => by
    have hi := inB_iff.1 hi
    obtain ⟨i, rfl⟩ : ∃ i : Nat, r = i := ⟨r.toNat, by omega⟩
    obtain ⟨k, rfl⟩ : ∃ k : Nat, c = k := ⟨c.toNat, by omega⟩
    rw [← cast_ix, Int.toNat_natCast]
    exact flL_get (by omega) (by omega)
  have hsz : ((l.length * nC l : Nat) : Int) = (l.length : Int) * (nC l : Int) := Int.natCast_mul _ _
  rw [← e1]
  simp only [g1, d1, d2, fw0, hg, eD, eE, flL_length, eq_self_iff_true, true_and, and_true, not_true_eq_false, false_implies, true_implies, implies_true, and_self]
  refine ⟨by omega, fun hi => ?_, fun hi => ?_⟩
  · have hO : fdO l r c = false := by rw [fdO, hi]; rfl
    have f1 : fdE l r c = 11 := by rw [fdE, hi]; rfl
    have f2 : fdVF l r c = 0 := by rw [fdVF, hO]; rfl
    have f3 : fdVT l r c = 0 := by rw [fdVT, hO]; rfl
    simp [f1, f2, f3]
  · have hb := inB_iff.1 hi
    have m1 := ix_bd (R := l.length) hb.2.1 hb.2.2.2 hb.2.2.1
    have hR := hg.r1
    have hC := hg.c1
    rw [ix hi]
    obtain ⟨r1, r2⟩ := fd_ref hi
    cases hgd : (at2 l r c).gd
    · have hO : fdO l r c = true := by rw [fdO, hi, hgd]; rfl
      have f1 : fdE l r c = 0 := by rw [fdE, if_pos hi, if_neg (by rw [hgd]; simp)]
      have f2 : fdVF l r c = fdRF (nC l) (flL l) r c := by rw [fdVF, if_pos hO, r1]
      have f3 : fdVT l r c = fdRT (nC l) (flL l) r c := by rw [fdVT, if_pos hO, r2]
      simp [f1, f2, f3]
      exact ⟨by omega, hi⟩
    · have hO : fdO l r c = false := by rw [fdO, hi, hgd]; rfl
      have f1 : fdE l r c = 15 := by rw [fdE, if_pos hi, if_pos hgd]
      have f2 : fdVF l r c = 0 := by rw [fdVF, hO]; rfl
      have f3 : fdVT l r c = 0 := by rw [fdVT, hO]; rfl
      simp [f1, f2, f3]
      omega
theorem law_chars {W : World} {vs : List Value} (hp : IPDens (wholeH W) maxLen [.agg [.sl [.s], .i .i64], .agg [.i .i64, .i .i64, .i .i64, .b]] vs) : Calls Try.prog 5 vs.toArray W fun en W' => en = .returned (.bool true) ∧ Ext W W' := by
  simp only [IPDens, IP.den, IT.dens, it_i, it_b] at hp
  obtain ⟨_, _, rfl, ⟨us, rfl, v, _, rfl, hL, _, _, rfl, ⟨C, rfl, _⟩, rfl⟩, _, _, rfl, ⟨ws, rfl, _, _, rfl, ⟨n1, rfl, _⟩, _, _, rfl, ⟨n2, rfl, _⟩, _, _, rfl, ⟨n3, rfl, n3a, n3b⟩, _, _, rfl, ⟨n4, rfl⟩, rfl⟩, rfl⟩ := hp
  obtain ⟨L, h1, _, h2⟩ := vv_ss hL
  refine law_run (fun I => allCfg_ok mixed ptabL6_ok tabL6_ok) rfl Try.func5 [(.ss L, v)] (by simpa using h2) ?_ (run_chars L C n1 n2 n3 n4)
  exact dl_cons (den_a (dl_cons (den_r (l := [(.ss L, v)]) rfl h2.1) (dl_cons den_v dl_nil))) (dl_cons (den_a (dl_cons den_v (dl_cons den_v (dl_cons den_v (dl_cons den_v dl_nil))))) dl_nil)
end Go.Proofs.Ytdhhagangmkloaa
