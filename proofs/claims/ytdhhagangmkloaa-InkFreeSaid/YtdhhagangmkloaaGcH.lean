/- Layers 6 and 8: the chapters' examples. -/
import Derived.Test.YtdhhagangmkloaaGcE
import Derived.Test.YtdhhagangmkloaaGcG
set_option linter.unusedSimpArgs false
set_option linter.unusedVariables false
set_option linter.unusedSectionVars false
namespace Go.Proofs.Ytdhhagangmkloaa
open Go Go.Sym

/-- A row of cells that is owned, and is not nil. -/
structure OC where
  xs : List C4
  n : Nat
  ep : Nat
def shOwnC : ShB OC where
  enc a := .own (.recs a.xs) a.n 38 4 a.ep true
  dec x := match x with
    | .own c n T' sz ep nn' => match c with
      | .recs xs => match Nat.beq T' 38 && (Nat.beq sz 4 && (nn' == true)) with
        | true => some ⟨xs, n, ep⟩
        | false => none
      | _ => none
    | _ => none
  ok x a h := by
    split at h
    · split at h
      · split at h
        · rename_i hc
          simp only [Bool.and_eq_true, Nat.beq_eq, beq_iff_eq] at hc
          obtain ⟨rfl, rfl, rfl⟩ := hc
          simp only [Option.some.injEq] at h
          subst h
          rfl
        · cases h
      · cases h
    · cases h
def lcRAt : ACon Unit := mkLC (decP (shCons (shP 0) (shCons shI (shOne shI))) (shHCons (shCells (shCons shI (shCons shI (shOne (shO 1)))) 94) (shHOne shOwnC)))
  fun ((_, i, k), ((R, C, ep), ⟨xs, n, ep2⟩)) => .ask (ep = ep2 ∧ xs.length = n ∧ 0 ≤ i ∧ 0 ≤ k ∧ i ≤ 255 ∧ 0 ≤ C ∧ C ≤ 255 ∧ k ≤ 255 ∧ i * C + k < n)
  (.one (cv (xs.getD (i * C + k).toNat C4.no)) [.cells [.v (.int .i64 R), .v (.int .i64 C), .h 1 [ep, 0]] 94, .own (.recs xs) n 38 4 ep true] [])
set_option maxHeartbeats 4000000 in
theorem ok_rat : ∀ I : Sym.Inv Unit, LCOk I Try.prog 30 lcRAt := by
  refine lc_mk (fun _ => allCfg Try.prog [] tabD 3) (fun _ _ => allCfg_ok mixed trivial tabD_ok) (fun _ => rfl) (n := 80) Try.func30 ?_
  intro ⟨⟨_, i, k⟩, ⟨R, C, ep⟩, ⟨xs, n, ep2⟩⟩ hφ
  obtain ⟨⟨rfl, h1, h2, h3, h4, h5, h6, h7, h8⟩, hp⟩ := id hφ
  refine kcast (B := (rq (ep.beq ep && (true && decide ((0 : Int) ≤ IntKind.i64.wrap (IntKind.i64.wrap (i * C) + k) ∧ IntKind.i64.wrap (IntKind.i64.wrap (i * C) + k) < (↑n : Int)))) (rq (ep.beq ep && (IntKind.i64.wrap (IntKind.i64.wrap (i * C) + k)).toNat.blt xs.length) ((SV.a [SV.v (Value.int IntKind.i32 (xs.getD (IntKind.i64.wrap (IntKind.i64.wrap (i * C) + k)).toNat C4.no).g), SV.v (Value.int IntKind.i64 (xs.getD (IntKind.i64.wrap (IntKind.i64.wrap (i * C) + k)).toNat C4.no).a), SV.v (Value.bool (xs.getD (IntKind.i64.wrap (IntKind.i64.wrap (i * C) + k)).toNat C4.no).gd), SV.v (Value.int IntKind.i64 (xs.getD (IntKind.i64.wrap (IntKind.i64.wrap (i * C) + k)).toNat C4.no).m)] = SV.a [SV.v (Value.int IntKind.i32 (xs.getD (i * C + k).toNat C4.no).g), SV.v (Value.int IntKind.i64 (xs.getD (i * C + k).toNat C4.no).a), SV.v (Value.bool (xs.getD (i * C + k).toNat C4.no).gd), SV.v (Value.int IntKind.i64 (xs.getD (i * C + k).toNat C4.no).m)] ∧ True) ∧ (SV.v (Value.int IntKind.i64 R) = SV.v (Value.int IntKind.i64 R) ∧ SV.v (Value.int IntKind.i64 C) = SV.v (Value.int IntKind.i64 C) ∧ SV.h (1 : Nat) [ep, (0 : Nat)] = SV.h (1 : Nat) [ep, (0 : Nat)] ∧ True) ∧ (n = n ∧ ep = ep ∧ xs = xs) ∧ True)))) (by kernel_rfl) ?_
  clear hp hφ
  have hm1 : 0 ≤ i * C := Int.mul_nonneg h2 h5
  have hm2 : i * C ≤ 255 * 255 := Int.mul_le_mul h4 h6 h5 (by omega)
  rw [wrap64 (x := i * C) (by omega) (by omega), wrap64 (x := i * C + k) (by omega) (by omega)]
  simp only [rq_iff, nbeq, Bool.true_and, Bool.and_true, Bool.and_eq_true, Nat.blt_eq, decide_eq_true_eq, true_and, and_true]
  exact ⟨⟨by omega, h8⟩, by omega⟩
/-- So many steps, turned over. -/
def minusF (n : Int) : Int := 0 - (if (if (510 : Int) < n then (510 : Int) else n) > -510 then (if (510 : Int) < n then (510 : Int) else n) else -510)
def lcMinus : ACon Unit := mkLC (decP (shOne shI) shHNil) fun (n, _) => .one (.v (.int .i64 (minusF n))) [] []
set_option maxHeartbeats 4000000 in
theorem ok_minus : ∀ I : Sym.Inv Unit, LCOk I Try.prog 71 lcMinus := by
  refine lc_mk (fun _ => allCfg Try.prog [] [] 0) (fun _ _ => allCfg_ok mixed trivial trivial) (fun _ => rfl) (n := 60) Try.func71 ?_
  intro ⟨n, _⟩ hφ
  refine kcast (B := ((SV.v (Value.int IntKind.i64 (IntKind.i64.wrap ((0 : Int) - if (if (510 : Int) < n then (510 : Int) else n) > (-510 : Int) then if (510 : Int) < n then (510 : Int) else n else (-510 : Int)))) = SV.v (Value.int IntKind.i64 (minusF n)) ∧ True) ∧ True)) (by kernel_rfl) ?_
  have : IntKind.i64.wrap (minusF n) = minusF n := wrap64 (by unfold minusF; split <;> split <;> omega) (by unfold minusF; split <;> split <;> omega)
  simp only [and_true, SV.v.injEq, Value.int.injEq, true_and]
  exact this
/-- A grid of one row of three cells, and the document's answer's. -/
def shG13 : ShH ((Nat × (C4 × C4 × C4) × Nat × Nat) × (Int × Int × Nat) × (C4 × C4 × C4) × Nat) where
  enc a := [.cells [.h 1 [a.1.1, 0]] 127, .rows (.c [[a.1.2.1.1, a.1.2.1.2.1, a.1.2.1.2.2]]) 38 92 a.1.2.2.1 a.1.2.2.2 none,
    .cells [.v (.int .i64 a.2.1.1), .v (.int .i64 a.2.1.2.1), .h 3 [a.2.1.2.2, 0]] 94, .own (.recs [a.2.2.1.1, a.2.2.1.2.1, a.2.2.1.2.2]) 3 38 4 a.2.2.2 true]
  dec x := match x with
    | [x0, x1, x2, x3] => match (shCells (shOne (shO 1)) 127).dec x0, (shRowsC 38 92).dec x1, (shCells (shCons shI (shCons shI (shOne (shO 3)))) 94).dec x2, shOwnC.dec x3 with
      | some o, some r, some (R, C, e), some q => match r.l with
        | [[a, b, c]] => match q.xs with
          | [a', b', c'] => match Nat.beq q.n 3 with
            | true => some ((o, (a, b, c), r.oe, r.ep), (R, C, e), (a', b', c'), q.ep)
            | false => none
          | _ => none
        | _ => none
      | _, _, _, _ => none
    | _ => none
  ok x a h := by
    split at h
    · split at h
      · rename_i o r R C e q h0 h1 h2 h3
        split at h
        · rename_i a b c hl
          split at h
          · rename_i a' b' c' hq
            split at h
            · rename_i hn
              rw [Nat.beq_eq] at hn
              simp only [Option.some.injEq] at h
              subst h
              rw [ShB.ok _ _ _ h0, ShB.ok _ _ _ h1, ShB.ok _ _ _ h2, ShB.ok _ _ _ h3]
              obtain ⟨l, oe, ep⟩ := r
              obtain ⟨xs, n, ep2⟩ := q
              simp only at hl hq hn
              subst hl; subst hq; subst hn
              rfl
            · cases h
          · cases h
        · cases h
      · cases h
    · cases h
def lcSame13 : ACon Unit := mkLC (decP (shCons (shP 0) (shOne (shP 2))) shG13) fun (_, ((o, (a, b, c), oe, ep), (R, C, e), (a', b', c'), ep2)) => .ask (o = oe ∧ e = ep2 ∧ R = 1 ∧ C = 3 ∧ a = a' ∧ b = b' ∧ c = c')
  (.one (.v (.bool true)) (shG13.enc ((o, (a, b, c), oe, ep), (R, C, e), (a', b', c'), ep2)) [])
def tabJ : List (Nat × ACon Unit) := (71, lcMinus) :: (30, lcRAt) :: (89, lcRoll) :: tabE
theorem tabJ_ok : LCs Try.prog tabJ := ⟨ok_minus, ok_rat, ok_roll, tabE_ok⟩
set_option maxHeartbeats 4000000 in
theorem ok_same13 : ∀ I : Sym.Inv Unit, LCOk I Try.prog 26 lcSame13 := by
  refine lc_mk (fun _ => allCfg Try.prog [] tabJ 8) (fun _ _ => allCfg_ok mixed trivial tabJ_ok) (fun _ => rfl) (n := 80) Try.func26 ?_
  intro ⟨_, ⟨o, ⟨a, b, c⟩, oe, ep⟩, ⟨R, C, e⟩, ⟨a', b', c'⟩, ep2⟩ hφ
  obtain ⟨⟨rfl, rfl, rfl, rfl, rfl, rfl, rfl⟩, hp⟩ := id hφ
  refine kcast (B := (true = true ∧ (o = o ∧ GW [[a, b, c]]) ∧ true = true ∧ (o = o ∧ GW [[a, b, c]]) ∧ true = true ∧ (e = e ∧ [a, b, c].length = (3 : Nat) ∧ II (0 : Int) ≤ (0 : Int) ∧ II (0 : Int) ≤ (0 : Int) ∧ II (0 : Int) ≤ (255 : Int) ∧ II (0 : Int) ≤ (3 : Int) ∧ II (3 : Int) ≤ (255 : Int) ∧ II (0 : Int) ≤ (255 : Int) ∧ II ((0 : Int) * (3 : Int) + (0 : Int)) < (3 : Int)) ∧ br (!((at2 [[a, b, c]] (0 : Int) (0 : Int)).g == ([a, b, c].getD ((0 : Int) * (3 : Int) + (0 : Int)).toNat C4.no).g && ((at2 [[a, b, c]] (0 : Int) (0 : Int)).a == ([a, b, c].getD ((0 : Int) * (3 : Int) + (0 : Int)).toNat C4.no).a && ((at2 [[a, b, c]] (0 : Int) (0 : Int)).gd == ([a, b, c].getD ((0 : Int) * (3 : Int) + (0 : Int)).toNat C4.no).gd && ((at2 [[a, b, c]] (0 : Int) (0 : Int)).m == ([a, b, c].getD ((0 : Int) * (3 : Int) + (0 : Int)).toNat C4.no).m && true))))) ((SV.v (Value.bool false) = SV.v (Value.bool true) ∧ True) ∧ (SV.h (1 : Nat) [o, (0 : Nat)] = SV.h (1 : Nat) [o, (0 : Nat)] ∧ True) ∧ (o = o ∧ ep = ep ∧ LLC [[a, b, c]] = [[a, b, c]]) ∧ (SV.v (Value.int IntKind.i64 (1 : Int)) = SV.v (Value.int IntKind.i64 (1 : Int)) ∧ SV.v (Value.int IntKind.i64 (3 : Int)) = SV.v (Value.int IntKind.i64 (3 : Int)) ∧ SV.h (3 : Nat) [e, (0 : Nat)] = SV.h (3 : Nat) [e, (0 : Nat)] ∧ True) ∧ ((3 : Nat) = (3 : Nat) ∧ e = e ∧ LC4 [a, b, c] = [a, b, c]) ∧ True) (true = true ∧ (o = o ∧ GW [[a, b, c]]) ∧ true = true ∧ (e = e ∧ [a, b, c].length = (3 : Nat) ∧ II (0 : Int) ≤ (0 : Int) ∧ II (0 : Int) ≤ (1 : Int) ∧ II (0 : Int) ≤ (255 : Int) ∧ II (0 : Int) ≤ (3 : Int) ∧ II (3 : Int) ≤ (255 : Int) ∧ II (1 : Int) ≤ (255 : Int) ∧ II ((0 : Int) * (3 : Int) + (1 : Int)) < (3 : Int)) ∧ br (!((at2 [[a, b, c]] (0 : Int) (1 : Int)).g == ([a, b, c].getD ((0 : Int) * (3 : Int) + (1 : Int)).toNat C4.no).g && ((at2 [[a, b, c]] (0 : Int) (1 : Int)).a == ([a, b, c].getD ((0 : Int) * (3 : Int) + (1 : Int)).toNat C4.no).a && ((at2 [[a, b, c]] (0 : Int) (1 : Int)).gd == ([a, b, c].getD ((0 : Int) * (3 : Int) + (1 : Int)).toNat C4.no).gd && ((at2 [[a, b, c]] (0 : Int) (1 : Int)).m == ([a, b, c].getD ((0 : Int) * (3 : Int) + (1 : Int)).toNat C4.no).m && true))))) ((SV.v (Value.bool false) = SV.v (Value.bool true) ∧ True) ∧ (SV.h (1 : Nat) [o, (0 : Nat)] = SV.h (1 : Nat) [o, (0 : Nat)] ∧ True) ∧ (o = o ∧ ep = ep ∧ LLC [[a, b, c]] = [[a, b, c]]) ∧ (SV.v (Value.int IntKind.i64 (1 : Int)) = SV.v (Value.int IntKind.i64 (1 : Int)) ∧ SV.v (Value.int IntKind.i64 (3 : Int)) = SV.v (Value.int IntKind.i64 (3 : Int)) ∧ SV.h (3 : Nat) [e, (0 : Nat)] = SV.h (3 : Nat) [e, (0 : Nat)] ∧ True) ∧ ((3 : Nat) = (3 : Nat) ∧ e = e ∧ LC4 [a, b, c] = [a, b, c]) ∧ True) (true = true ∧ (o = o ∧ GW [[a, b, c]]) ∧ true = true ∧ (e = e ∧ [a, b, c].length = (3 : Nat) ∧ II (0 : Int) ≤ (0 : Int) ∧ II (0 : Int) ≤ (2 : Int) ∧ II (0 : Int) ≤ (255 : Int) ∧ II (0 : Int) ≤ (3 : Int) ∧ II (3 : Int) ≤ (255 : Int) ∧ II (2 : Int) ≤ (255 : Int) ∧ II ((0 : Int) * (3 : Int) + (2 : Int)) < (3 : Int)) ∧ br (!((at2 [[a, b, c]] (0 : Int) (2 : Int)).g == ([a, b, c].getD ((0 : Int) * (3 : Int) + (2 : Int)).toNat C4.no).g && ((at2 [[a, b, c]] (0 : Int) (2 : Int)).a == ([a, b, c].getD ((0 : Int) * (3 : Int) + (2 : Int)).toNat C4.no).a && ((at2 [[a, b, c]] (0 : Int) (2 : Int)).gd == ([a, b, c].getD ((0 : Int) * (3 : Int) + (2 : Int)).toNat C4.no).gd && ((at2 [[a, b, c]] (0 : Int) (2 : Int)).m == ([a, b, c].getD ((0 : Int) * (3 : Int) + (2 : Int)).toNat C4.no).m && true))))) ((SV.v (Value.bool false) = SV.v (Value.bool true) ∧ True) ∧ (SV.h (1 : Nat) [o, (0 : Nat)] = SV.h (1 : Nat) [o, (0 : Nat)] ∧ True) ∧ (o = o ∧ ep = ep ∧ LLC [[a, b, c]] = [[a, b, c]]) ∧ (SV.v (Value.int IntKind.i64 (1 : Int)) = SV.v (Value.int IntKind.i64 (1 : Int)) ∧ SV.v (Value.int IntKind.i64 (3 : Int)) = SV.v (Value.int IntKind.i64 (3 : Int)) ∧ SV.h (3 : Nat) [e, (0 : Nat)] = SV.h (3 : Nat) [e, (0 : Nat)] ∧ True) ∧ ((3 : Nat) = (3 : Nat) ∧ e = e ∧ LC4 [a, b, c] = [a, b, c]) ∧ True) ((SV.v (Value.bool true) = SV.v (Value.bool true) ∧ True) ∧ (SV.h (1 : Nat) [o, (0 : Nat)] = SV.h (1 : Nat) [o, (0 : Nat)] ∧ True) ∧ (o = o ∧ ep = ep ∧ LLC [[a, b, c]] = [[a, b, c]]) ∧ (SV.v (Value.int IntKind.i64 (1 : Int)) = SV.v (Value.int IntKind.i64 (1 : Int)) ∧ SV.v (Value.int IntKind.i64 (3 : Int)) = SV.v (Value.int IntKind.i64 (3 : Int)) ∧ SV.h (3 : Nat) [e, (0 : Nat)] = SV.h (3 : Nat) [e, (0 : Nat)] ∧ True) ∧ ((3 : Nat) = (3 : Nat) ∧ e = e ∧ LC4 [a, b, c] = [a, b, c]) ∧ True))))) (by kernel_rfl) ?_
  clear hp hφ
  have hg : GW [[a, b, c]] := gw_of rfl
  have e0 : at2 [[a, b, c]] 0 0 = a := rfl
  have e1 : at2 [[a, b, c]] 0 1 = b := rfl
  have e2 : at2 [[a, b, c]] 0 2 = c := rfl
  have f0 : [a, b, c].getD ((0 : Int) * 3 + 0).toNat C4.no = a := rfl
  have f1 : [a, b, c].getD ((0 : Int) * 3 + 1).toNat C4.no = b := rfl
  have f2 : [a, b, c].getD ((0 : Int) * 3 + 2).toNat C4.no = c := rfl
  simp [br_iff, hg, e0, e1, e2, f0, f1, f2, II]
def tabI : List (Nat × ACon Unit) := (26, lcSame13) :: tabJ
theorem tabI_ok : LCs Try.prog tabI := ⟨ok_same13, tabJ_ok⟩
set_option maxHeartbeats 4000000 in
theorem ok_awake06 : PureOk Try.prog 27 psAwake := by
  refine pureOk_all (fun _ => allCfg Try.prog [] tabI 8) (fun _ _ => allCfg_ok mixed trivial tabI_ok) (fun _ => rfl) (n := 120) Try.func27 (fun _ => rfl) (fun _ => rfl) ?_
  intro _ hφ
  refine kcast (B := (true = true ∧ (II (0 : Int) ≤ (32 : Int) ∧ II (32 : Int) ≤ (255 : Int)) ∧ true = true ∧ true = true ∧ (II (0 : Int) ≤ (32 : Int) ∧ II (32 : Int) ≤ (255 : Int)) ∧ true = true ∧ (II (0 : Int) ≤ (97 : Int) ∧ II (97 : Int) ≤ (255 : Int)) ∧ true = true ∧ ((2 : Nat) = (2 : Nat) ∧ GW [[C4.mk (32 : Int) (0 : Int) false (0 : Int), C4.mk (32 : Int) (0 : Int) false (0 : Int), C4.mk (32 : Int) (0 : Int) false (0 : Int)]]) ∧ true = true ∧ (II (0 : Int) ≤ (32 : Int) ∧ II (32 : Int) ≤ (255 : Int)) ∧ true = true ∧ (II (0 : Int) ≤ (98 : Int) ∧ II (98 : Int) ≤ (255 : Int)) ∧ true = true ∧ ((2 : Nat) = (2 : Nat) ∧ GW [[C4.mk (97 : Int) (0 : Int) false (0 : Int), C4.mk (32 : Int) (0 : Int) false (0 : Int), C4.mk (32 : Int) (0 : Int) false (0 : Int)]]) ∧ true = true ∧ (II (0 : Int) ≤ (32 : Int) ∧ II (32 : Int) ≤ (255 : Int)) ∧ true = true ∧ (II (0 : Int) ≤ (99 : Int) ∧ II (99 : Int) ≤ (255 : Int)) ∧ true = true ∧ ((2 : Nat) = (2 : Nat) ∧ GW [[C4.mk (97 : Int) (0 : Int) false (0 : Int), C4.mk (98 : Int) (0 : Int) false (0 : Int), C4.mk (32 : Int) (0 : Int) false (0 : Int)]]) ∧ true = true ∧ (II (0 : Int) ≤ (32 : Int) ∧ II (32 : Int) ≤ (255 : Int)) ∧ true = true ∧ true = true ∧ (II (0 : Int) ≤ (32 : Int) ∧ II (32 : Int) ≤ (255 : Int)) ∧ true = true ∧ (II (0 : Int) ≤ (97 : Int) ∧ II (97 : Int) ≤ (255 : Int)) ∧ true = true ∧ ((2 : Nat) = (2 : Nat) ∧ GW [[C4.mk (32 : Int) (0 : Int) false (0 : Int), C4.mk (32 : Int) (0 : Int) false (0 : Int), C4.mk (32 : Int) (0 : Int) false (0 : Int)]]) ∧ true = true ∧ (II (0 : Int) ≤ (32 : Int) ∧ II (32 : Int) ≤ (255 : Int)) ∧ true = true ∧ (II (0 : Int) ≤ (98 : Int) ∧ II (98 : Int) ≤ (255 : Int)) ∧ true = true ∧ ((2 : Nat) = (2 : Nat) ∧ GW [[C4.mk (97 : Int) (0 : Int) false (0 : Int), C4.mk (32 : Int) (0 : Int) false (0 : Int), C4.mk (32 : Int) (0 : Int) false (0 : Int)]]) ∧ true = true ∧ (II (0 : Int) ≤ (32 : Int) ∧ II (32 : Int) ≤ (255 : Int)) ∧ true = true ∧ (II (0 : Int) ≤ (99 : Int) ∧ II (99 : Int) ≤ (255 : Int)) ∧ true = true ∧ ((2 : Nat) = (2 : Nat) ∧ GW [[C4.mk (97 : Int) (0 : Int) false (0 : Int), C4.mk (98 : Int) (0 : Int) false (0 : Int), C4.mk (32 : Int) (0 : Int) false (0 : Int)]]) ∧ true = true ∧ (II (0 : Int) ≤ (32 : Int) ∧ II (32 : Int) ≤ (255 : Int)) ∧ true = true ∧ ((2 : Nat) = (2 : Nat) ∧ GW [[C4.mk (97 : Int) (0 : Int) false (0 : Int), C4.mk (98 : Int) (0 : Int) false (0 : Int), C4.mk (99 : Int) (0 : Int) false (0 : Int)]]) ∧ true = true ∧ true = true ∧ ((2 : Nat) = (2 : Nat) ∧ GW [[C4.mk (97 : Int) (0 : Int) false (0 : Int), C4.mk (98 : Int) (0 : Int) false (0 : Int), C4.mk (99 : Int) (0 : Int) false (0 : Int)]]) ∧ true = true ∧ (II (0 : Int) ≤ (32 : Int) ∧ II (32 : Int) ≤ (255 : Int)) ∧ true = true ∧ ((2 : Nat) = (2 : Nat) ∧ GW [[C4.mk (97 : Int) (0 : Int) false (0 : Int), C4.mk (98 : Int) (0 : Int) false (0 : Int), C4.mk (99 : Int) (0 : Int) false (0 : Int)]]) ∧ true = true ∧ true = true ∧ ((2 : Nat) = (2 : Nat) ∧ GW [[C4.mk (97 : Int) (0 : Int) false (0 : Int), C4.mk (98 : Int) (0 : Int) false (0 : Int), C4.mk (99 : Int) (0 : Int) false (0 : Int)]]) ∧ true = true ∧ (II (0 : Int) ≤ (32 : Int) ∧ II (32 : Int) ≤ (255 : Int)) ∧ true = true ∧ ((0 : Nat) = (0 : Nat) ∧ (3 : Nat) = (3 : Nat) ∧ II (0 : Int) ≤ (0 : Int) ∧ II (0 : Int) ≤ (2 : Int) ∧ II (0 : Int) ≤ (255 : Int) ∧ II (0 : Int) ≤ (3 : Int) ∧ II (3 : Int) ≤ (255 : Int) ∧ II (2 : Int) ≤ (255 : Int) ∧ II (2 : Int) < (3 : Int)) ∧ true = true ∧ ((2 : Nat) = (2 : Nat) ∧ GW [[C4.mk (97 : Int) (0 : Int) false (0 : Int), mvAt (part ((set2 (set2 (set2 (newL (1 : Nat) (3 : Nat) (C4.mk (32 : Int) (0 : Int) false (0 : Int))) (0 : Int) (0 : Int) (C4.mk (97 : Int) (0 : Int) false (0 : Int))) (0 : Int) (1 : Int) (C4.mk (98 : Int) (0 : Int) false (0 : Int))) (0 : Int) (2 : Int) (C4.mk (99 : Int) (0 : Int) false (0 : Int))).getD (0 : Nat) []) (1 : Nat) (2 : Nat)) C4.no (-1 : Int) (C4.mk (32 : Int) (0 : Int) false (0 : Int)) (nat_lit 0), mvAt (part ((set2 (set2 (set2 (newL (1 : Nat) (3 : Nat) (C4.mk (32 : Int) (0 : Int) false (0 : Int))) (0 : Int) (0 : Int) (C4.mk (97 : Int) (0 : Int) false (0 : Int))) (0 : Int) (1 : Int) (C4.mk (98 : Int) (0 : Int) false (0 : Int))) (0 : Int) (2 : Int) (C4.mk (99 : Int) (0 : Int) false (0 : Int))).getD (0 : Nat) []) (1 : Nat) (2 : Nat)) C4.no (-1 : Int) (C4.mk (32 : Int) (0 : Int) false (0 : Int)) (nat_lit 1)]]) ∧ true = true ∧ (II (0 : Int) ≤ (98 : Int) ∧ II (98 : Int) ≤ (255 : Int)) ∧ true = true ∧ ((2 : Nat) = (2 : Nat) ∧ (2 : Nat) = (2 : Nat) ∧ (1 : Int) = (1 : Int) ∧ (3 : Int) = (3 : Int) ∧ C4.mk (97 : Int) (0 : Int) false (0 : Int) = C4.mk (97 : Int) (0 : Int) false (0 : Int) ∧ mvAt (part ((set2 (set2 (set2 (newL (1 : Nat) (3 : Nat) (C4.mk (32 : Int) (0 : Int) false (0 : Int))) (0 : Int) (0 : Int) (C4.mk (97 : Int) (0 : Int) false (0 : Int))) (0 : Int) (1 : Int) (C4.mk (98 : Int) (0 : Int) false (0 : Int))) (0 : Int) (2 : Int) (C4.mk (99 : Int) (0 : Int) false (0 : Int))).getD (0 : Nat) []) (1 : Nat) (2 : Nat)) C4.no (1 : Int) (C4.mk (32 : Int) (0 : Int) false (0 : Int)) (nat_lit 0) = C4.mk (99 : Int) (0 : Int) false (0 : Int) ∧ mvAt (part ((set2 (set2 (set2 (newL (1 : Nat) (3 : Nat) (C4.mk (32 : Int) (0 : Int) false (0 : Int))) (0 : Int) (0 : Int) (C4.mk (97 : Int) (0 : Int) false (0 : Int))) (0 : Int) (1 : Int) (C4.mk (98 : Int) (0 : Int) false (0 : Int))) (0 : Int) (2 : Int) (C4.mk (99 : Int) (0 : Int) false (0 : Int))).getD (0 : Nat) []) (1 : Nat) (2 : Nat)) C4.no (1 : Int) (C4.mk (32 : Int) (0 : Int) false (0 : Int)) (nat_lit 1) = C4.mk (32 : Int) (0 : Int) false (0 : Int)) ∧ SV.v (Value.bool true) = SV.v (Value.bool true))) (by kernel_rfl) ?_
  repeat' first | exact rfl | exact gw_of rfl | decide | apply And.intro
end Go.Proofs.Ytdhhagangmkloaa
