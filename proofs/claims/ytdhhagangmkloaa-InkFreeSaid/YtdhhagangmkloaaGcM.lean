/- Layer 6: boards as grids. -/
import Derived.Test.YtdhhagangmkloaaGcH
set_option linter.unusedSimpArgs false
set_option linter.unusedVariables false
set_option linter.unusedSectionVars false
namespace Go.Proofs.Ytdhhagangmkloaa
open Go Go.Sym
/-- A grid by its cells. -/
def gridF {α : Type} (R C : Nat) (f : Nat → Nat → α) : List (List α) := (List.range R).map fun r => (List.range C).map (f r)
theorem gridF_length {α : Type} (R C : Nat) (f : Nat → Nat → α) : (gridF R C f).length = R := by simp [gridF]
theorem gridF_row {α : Type} {R C : Nat} {f : Nat → Nat → α} {r : Nat} (h : r < R) : (gridF R C f).getD r [] = (List.range C).map (f r) := by simp [gridF, List.getD, h]
theorem gridF_nC {R C : Nat} {f : Nat → Nat → C4} (h : 0 < R) : nC (gridF R C f) = C := by unfold nC; rw [gridF_row h]; simp
theorem gridF_gw {R C : Nat} {f : Nat → Nat → C4} (h0 : 1 ≤ R) (h1 : R ≤ 255) (h2 : 1 ≤ C) (h3 : C ≤ 255) : GW (gridF R C f) := by
  have hn := gridF_nC (C := C) (f := f) (show 0 < R by omega)
  refine ⟨by rw [gridF_length]; exact h0, by rw [gridF_length]; exact h1, by rw [hn]; exact h2, by rw [hn]; exact h3, fun r hr => ?_⟩
  rw [hn]
  simp only [gridF, List.mem_map] at hr
  obtain ⟨i, _, rfl⟩ := hr
  simp
theorem gridF_congr {α : Type} {R C : Nat} {f g : Nat → Nat → α} (h : ∀ r c, r < R → c < C → f r c = g r c) : gridF R C f = gridF R C g := by
  unfold gridF
  refine List.map_congr_left fun r hr => List.map_congr_left fun c hc => h r c (List.mem_range.1 hr) (List.mem_range.1 hc)
theorem gridF_at {R C : Nat} {f : Nat → Nat → C4} {r c : Nat} (hr : r < R) (hc : c < C) : at2 (gridF R C f) r c = f r c := by
  unfold at2
  rw [Int.toNat_natCast, Int.toNat_natCast, gridF_row hr]
  simp [List.getD, hc]
theorem gridF_set {R C : Nat} {f : Nat → Nat → C4} {r c : Nat} {x : C4} (hr : r < R) (hc : c < C) : set2 (gridF R C f) r c x = gridF R C fun r' c' => if r' = r ∧ c' = c then x else f r' c' := by
  unfold set2
  rw [Int.toNat_natCast, Int.toNat_natCast, gridF_row hr]
  unfold gridF
  apply List.ext_getElem
  · simp
  · intro i h1 h2
    have hi : i < R := by simpa using h2
    by_cases hir : r = i
    · subst hir
      rw [List.getElem_set_self]
      simp only [List.getElem_map, List.getElem_range]
      apply List.ext_getElem
      · simp
      · intro j h3 h4
        have hj : j < C := by simpa using h4
        by_cases hjc : c = j
        · subst hjc; rw [List.getElem_set_self]; simp
        · rw [List.getElem_set_ne hjc]; simp [show ¬ j = c from fun e => hjc e.symm]
    · rw [List.getElem_set_ne hir]
      simp only [List.getElem_map, List.getElem_range]
      refine List.map_congr_left fun c' _ => ?_
      rw [if_neg fun e => hir e.1.symm]
theorem newL_gridF (R C : Nat) (x : C4) : newL R C x = gridF R C fun _ _ => x := by
  unfold newL gridF
  apply List.ext_getElem
  · simp
  · intro i h1 h2
    simp only [List.getElem_replicate, List.getElem_map]
    apply List.ext_getElem <;> simp

/-! ### Boards -/
theorem byteAt_rng (s : ByteArray) (j : Nat) : 0 ≤ byteAt s j ∧ byteAt s j ≤ 255 := by
  unfold byteAt
  have := (s.data.toList.getD j 0).toNat_lt
  omega
def cellB (s : ByteArray) (k : Nat) : C4 := if k < s.size then cellOf (byteAt s k) else cellOf 32
def bdAt (L : List ByteArray) (i k r c : Nat) : C4 := if r < i ∨ (r = i ∧ c < k) then cellB (L.getD r ByteArray.empty) c else cellOf 32
def boardL (L : List ByteArray) (C : Nat) : List (List C4) := gridF L.length C fun r c => cellB (L.getD r ByteArray.empty) c
def flatL (L : List ByteArray) (C n : Nat) : List C4 := (List.range n).map fun j => cellB (L.getD (j / C) ByteArray.empty) (j % C)
theorem flatL_succ (L : List ByteArray) (C n : Nat) : flatL L C (n + 1) = flatL L C n ++ [cellB (L.getD (n / C) ByteArray.empty) (n % C)] := by simp [flatL, List.range_succ]
theorem flatL_at (L : List ByteArray) {C i k : Nat} (h : k < C) : flatL L C (i * C + k + 1) = flatL L C (i * C + k) ++ [cellB (L.getD i ByteArray.empty) k] := by
  rw [flatL_succ]
  have e1 : (i * C + k) / C = i := by rw [Nat.add_comm, Nat.add_mul_div_right _ _ (by omega), Nat.div_eq_of_lt h]; omega
  have e2 : (i * C + k) % C = k := by rw [Nat.add_comm, Nat.add_mul_mod_self_right, Nat.mod_eq_of_lt h]
  rw [e1, e2]
theorem bd_zero (L : List ByteArray) (R C : Nat) : newL R C (cellOf 32) = gridF R C (bdAt L 0 0) := by
  rw [newL_gridF]
  refine gridF_congr fun r c _ _ => ?_
  rw [bdAt, if_neg (by omega)]
theorem bd_step (L : List ByteArray) {R C i k : Nat} (hi : i < R) (hk : k < C) : set2 (gridF R C (bdAt L i k)) i k (cellB (L.getD i ByteArray.empty) k) = gridF R C (bdAt L i (k + 1)) := by
  rw [gridF_set hi hk]
  refine gridF_congr fun r c _ _ => ?_
  unfold bdAt
  by_cases h : r = i ∧ c = k
  · obtain ⟨rfl, rfl⟩ := h
    rw [if_pos ⟨rfl, rfl⟩, if_pos (by omega)]
  · rw [if_neg h]
    by_cases h2 : r < i ∨ (r = i ∧ c < k)
    · rw [if_pos h2, if_pos (by omega)]
    · rw [if_neg h2, if_neg (by omega)]
theorem bd_next (L : List ByteArray) (R C i : Nat) : gridF R C (bdAt L i C) = gridF R C (bdAt L (i + 1) 0) := by
  refine gridF_congr fun r c _ hc => ?_
  unfold bdAt
  by_cases h2 : r < i ∨ (r = i ∧ c < C)
  · rw [if_pos h2, if_pos (by omega)]
  · rw [if_neg h2, if_neg (by omega)]
theorem bd_all (L : List ByteArray) (C : Nat) : gridF L.length C (bdAt L L.length 0) = boardL L C := by
  refine gridF_congr fun r c hr _ => ?_
  rw [bdAt, if_pos (by omega)]
def annMo (L : List ByteArray) (C : Nat) : Ann Unit where
  α := Int
  φ _ i := 0 ≤ i ∧ i ≤ L.length
  μ _ i := ((L.length : Int) - i).toNat
  get st := getI st.tm 7
  f st i := tmpl [1, 4, 6] [(7, .v (.int .i64 i))] [(5, .rows (.c (gridF L.length C (bdAt L i.toNat 0))) 38 92 (L.length + 1) (L.length + 1) none),
    (6, .cells [.v (.int .i64 L.length), .v (.int .i64 C), .h 7 [i.toNat * C, 0]] 94), (7, .own (.recs (flatL L C (i.toNat * C))) (i.toNat * C) 38 4 (i.toNat * C) false)] st
  fx st := match getC st.H 6 with
    | [_, _, x] => match nilS x with
      | true => [.nilCell 6 2 (.recs []) 38 4]
      | false => []
    | _ => []
def annMi (L : List ByteArray) (C : Nat) : Ann Unit where
  α := Int
  φ _ k := 0 ≤ k ∧ k ≤ C
  μ _ k := ((C : Int) - k).toNat
  get st := getI st.tm 8
  f st k := tmpl [1, 4, 6, 7] [(8, .v (.int .i64 k))] [(5, .rows (.c (gridF L.length C (bdAt L (tI st.tm 7).toNat k.toNat))) 38 92 (L.length + 1) (L.length + 1) none),
    (6, .cells [.v (.int .i64 L.length), .v (.int .i64 C), .h 7 [(tI st.tm 7).toNat * C + k.toNat, 0]] 94), (7, .own (.recs (flatL L C ((tI st.tm 7).toNat * C + k.toNat))) ((tI st.tm 7).toNat * C + k.toNat) 38 4 ((tI st.tm 7).toNat * C + k.toNat) false)] st
def shBoard : ShH (List ByteArray) := shHOne shSS
def lcMade : ACon Unit := mkLC (decP (shOne (shA (shCons (shR 0) (shOne shI)))) shBoard) fun ((_, C), L) => .ask (1 ≤ L.length ∧ L.length ≤ 8 ∧ 1 ≤ C ∧ C ≤ 12) (.one (.t [.p 4 0, .p 6 0]) [.inp (.ss L), .gone, .gone, .gone, .cells [.h 5 [L.length + 1, 0]] 127, .rows (.c (boardL L C.toNat)) 38 92 (L.length + 1) (L.length + 1) none,
    .cells [.v (.int .i64 L.length), .v (.int .i64 C), .h 7 [L.length * C.toNat, 0]] 94, .own (.recs (flatL L C.toNat (L.length * C.toNat))) (L.length * C.toNat) 38 4 (L.length * C.toNat) false] [])
set_option maxHeartbeats 4000000 in
theorem ok_made : ∀ I : Sym.Inv Unit, LCOk I Try.prog 23 lcMade := by
  refine lc_mk (fun ((_, C), L) => allCfg Try.prog [] tabE 3 [(453, annMo L C.toNat), (644, annMi L C.toNat)]) (fun _ _ => allCfg_ok mixed trivial tabE_ok) (fun _ => rfl) (n := 80) Try.func23 ?_
  intro ⟨⟨_, C⟩, L⟩ hφ
  obtain ⟨⟨h1, h2, h3, h4⟩, hp⟩ := id hφ
  refine kcast (B := (true = true ∧ (II (0 : Int) ≤ (32 : Int) ∧ II (32 : Int) ≤ (255 : Int)) ∧ true = true ∧ br (mayB (↑L.length : Int) C) ((II (0 : Int) ≤ (0 : Int) ∧ (0 : Int) ≤ (↑L.length : Int)) ∧ ((SV.p (1 : Nat) (0 : Nat) = SV.p (1 : Nat) (0 : Nat) ∧ SV.p (4 : Nat) (0 : Nat) = SV.p (4 : Nat) (0 : Nat) ∧ SV.p (6 : Nat) (0 : Nat) = SV.p (6 : Nat) (0 : Nat) ∧ SV.v (Value.int IntKind.i64 (0 : Int)) = SV.v (Value.int IntKind.i64 (0 : Int)) ∧ True) ∧ IC.ss L = IC.ss L ∧ (SV.r (0 : Nat) [] = SV.r (0 : Nat) [] ∧ SV.v (Value.int IntKind.i64 C) = SV.v (Value.int IntKind.i64 C) ∧ True) ∧ True ∧ True ∧ (SV.h (5 : Nat) [(↑L.length : Int).toNat + (1 : Nat), (0 : Nat)] = SV.h (5 : Nat) [(↑L.length : Int).toNat + (1 : Nat), (0 : Nat)] ∧ True) ∧ ((↑L.length : Int).toNat + (1 : Nat) = L.length + (1 : Nat) ∧ (↑L.length : Int).toNat + (1 : Nat) = L.length + (1 : Nat) ∧ newL (↑L.length : Int).toNat C.toNat (C4.mk (32 : Int) (0 : Int) false (0 : Int)) = gridF L.length C.toNat (bdAt L (0 : Nat) (0 : Nat))) ∧ (SV.v (Value.int IntKind.i64 (↑L.length : Int)) = SV.v (Value.int IntKind.i64 (↑L.length : Int)) ∧ SV.v (Value.int IntKind.i64 C) = SV.v (Value.int IntKind.i64 (↑C.toNat : Int)) ∧ SV.h (7 : Nat) [(0 : Nat), (0 : Nat)] = SV.h (7 : Nat) [(0 : Nat) * C.toNat, (0 : Nat)] ∧ True) ∧ ((0 : Nat) = (0 : Nat) * C.toNat ∧ (0 : Nat) = (0 : Nat) * C.toNat ∧ LC4 [] = flatL L C.toNat ((0 : Nat) * C.toNat)) ∧ True) ∧ ∀ (x : Int), (0 : Int) ≤ x ∧ x ≤ (↑L.length : Int) → br (decide (x < (↑L.length : Int))) ((II (0 : Int) ≤ (0 : Int) ∧ (0 : Int) ≤ (↑C.toNat : Int)) ∧ ((SV.p (1 : Nat) (0 : Nat) = SV.p (1 : Nat) (0 : Nat) ∧ SV.p (4 : Nat) (0 : Nat) = SV.p (4 : Nat) (0 : Nat) ∧ SV.p (6 : Nat) (0 : Nat) = SV.p (6 : Nat) (0 : Nat) ∧ SV.v (Value.int IntKind.i64 x) = SV.v (Value.int IntKind.i64 x) ∧ SV.v (Value.int IntKind.i64 (0 : Int)) = SV.v (Value.int IntKind.i64 (0 : Int)) ∧ True) ∧ IC.ss L = IC.ss L ∧ (SV.r (0 : Nat) [] = SV.r (0 : Nat) [] ∧ SV.v (Value.int IntKind.i64 C) = SV.v (Value.int IntKind.i64 C) ∧ True) ∧ True ∧ True ∧ (SV.h (5 : Nat) [(↑L.length : Int).toNat + (1 : Nat), (0 : Nat)] = SV.h (5 : Nat) [(↑L.length : Int).toNat + (1 : Nat), (0 : Nat)] ∧ True) ∧ (L.length + (1 : Nat) = L.length + (1 : Nat) ∧ L.length + (1 : Nat) = L.length + (1 : Nat) ∧ gridF L.length C.toNat (bdAt L x.toNat (0 : Nat)) = gridF L.length C.toNat (bdAt L x.toNat (0 : Nat))) ∧ (SV.v (Value.int IntKind.i64 (↑L.length : Int)) = SV.v (Value.int IntKind.i64 (↑L.length : Int)) ∧ SV.v (Value.int IntKind.i64 (↑C.toNat : Int)) = SV.v (Value.int IntKind.i64 (↑C.toNat : Int)) ∧ SV.h (7 : Nat) [x.toNat * C.toNat, (0 : Nat)] = SV.h (7 : Nat) [x.toNat * C.toNat + (0 : Nat), (0 : Nat)] ∧ True) ∧ (x.toNat * C.toNat = x.toNat * C.toNat + (0 : Nat) ∧ x.toNat * C.toNat = x.toNat * C.toNat + (0 : Nat) ∧ flatL L C.toNat (x.toNat * C.toNat) = flatL L C.toNat (x.toNat * C.toNat + (0 : Nat))) ∧ True) ∧ ∀ (x_1 : Int), (0 : Int) ≤ x_1 ∧ x_1 ≤ (↑C.toNat : Int) → br (decide (x_1 < C)) (true = true ∧ (II (0 : Int) ≤ (32 : Int) ∧ II (32 : Int) ≤ (255 : Int)) ∧ rq (true && (Nat.beq (1 : Nat) (1 : Nat) && (true && decide ((0 : Int) ≤ x ∧ x < (↑L.length : Int))))) (rq (true && (x.toNat.blt L.length && true)) (br (decide (x_1 < (↑(L.getD x.toNat ByteArray.empty).size : Int))) (rq (true && (Nat.beq (1 : Nat) (1 : Nat) && (true && decide ((0 : Int) ≤ x ∧ x < (↑L.length : Int))))) (rq (true && (x.toNat.blt L.length && true)) (rq (decide ((0 : Int) ≤ x_1 ∧ x_1 < (↑(L.getD x.toNat ByteArray.empty).size : Int))) (true = true ∧ ((0 : Int) ≤ byteAt (L.getD x.toNat ByteArray.empty) x_1.toNat ∧ byteAt (L.getD x.toNat ByteArray.empty) x_1.toNat ≤ (255 : Int)) ∧ true = true ∧ ((↑L.length : Int).toNat + (1 : Nat) = L.length + (1 : Nat) ∧ GW (gridF L.length C.toNat (bdAt L x.toNat x_1.toNat))) ∧ br (inB (gridF L.length C.toNat (bdAt L x.toNat x_1.toNat)) x x_1) (rq ((x.toNat * C.toNat + x_1.toNat).beq (x.toNat * C.toNat + x_1.toNat) && (true && decide (x.toNat * C.toNat + x_1.toNat + (1 : Nat) ≤ (9223372036854775807 : Nat) ∧ (x.toNat * C.toNat + x_1.toNat + (1 : Nat)) * (32 : Nat) ≤ (140737488355328 : Nat)))) (((0 : Int) ≤ IntKind.i64.wrap (x_1 + (1 : Int)) ∧ IntKind.i64.wrap (x_1 + (1 : Int)) ≤ (↑C.toNat : Int)) ∧ ((SV.p (1 : Nat) (0 : Nat) = SV.p (1 : Nat) (0 : Nat) ∧ SV.p (4 : Nat) (0 : Nat) = SV.p (4 : Nat) (0 : Nat) ∧ SV.p (6 : Nat) (0 : Nat) = SV.p (6 : Nat) (0 : Nat) ∧ SV.v (Value.int IntKind.i64 x) = SV.v (Value.int IntKind.i64 x) ∧ SV.v (Value.int IntKind.i64 (IntKind.i64.wrap (x_1 + (1 : Int)))) = SV.v (Value.int IntKind.i64 (IntKind.i64.wrap (x_1 + (1 : Int)))) ∧ True) ∧ IC.ss L = IC.ss L ∧ (SV.r (0 : Nat) [] = SV.r (0 : Nat) [] ∧ SV.v (Value.int IntKind.i64 C) = SV.v (Value.int IntKind.i64 C) ∧ True) ∧ True ∧ True ∧ (SV.h (5 : Nat) [(↑L.length : Int).toNat + (1 : Nat), (0 : Nat)] = SV.h (5 : Nat) [(↑L.length : Int).toNat + (1 : Nat), (0 : Nat)] ∧ True) ∧ ((↑L.length : Int).toNat + (1 : Nat) = L.length + (1 : Nat) ∧ L.length + (1 : Nat) = L.length + (1 : Nat) ∧ set2 (gridF L.length C.toNat (bdAt L x.toNat x_1.toNat)) x x_1 (C4.mk (byteAt (L.getD x.toNat ByteArray.empty) x_1.toNat) (0 : Int) (decide ((65 : Int) ≤ byteAt (L.getD x.toNat ByteArray.empty) x_1.toNat) && decide (byteAt (L.getD x.toNat ByteArray.empty) x_1.toNat ≤ (90 : Int))) (0 : Int)) = gridF L.length C.toNat (bdAt L x.toNat (IntKind.i64.wrap (x_1 + (1 : Int))).toNat)) ∧ (SV.v (Value.int IntKind.i64 (↑L.length : Int)) = SV.v (Value.int IntKind.i64 (↑L.length : Int)) ∧ SV.v (Value.int IntKind.i64 (↑C.toNat : Int)) = SV.v (Value.int IntKind.i64 (↑C.toNat : Int)) ∧ SV.h (7 : Nat) [x.toNat * C.toNat + x_1.toNat + (1 : Nat), (0 : Nat)] = SV.h (7 : Nat) [x.toNat * C.toNat + (IntKind.i64.wrap (x_1 + (1 : Int))).toNat, (0 : Nat)] ∧ True) ∧ (x.toNat * C.toNat + x_1.toNat + (1 : Nat) = x.toNat * C.toNat + (IntKind.i64.wrap (x_1 + (1 : Int))).toNat ∧ x.toNat * C.toNat + x_1.toNat + (1 : Nat) = x.toNat * C.toNat + (IntKind.i64.wrap (x_1 + (1 : Int))).toNat ∧ flatL L C.toNat (x.toNat * C.toNat + x_1.toNat) ++ [C4.mk (byteAt (L.getD x.toNat ByteArray.empty) x_1.toNat) (0 : Int) (decide ((65 : Int) ≤ byteAt (L.getD x.toNat ByteArray.empty) x_1.toNat) && decide (byteAt (L.getD x.toNat ByteArray.empty) x_1.toNat ≤ (90 : Int))) (0 : Int)] = flatL L C.toNat (x.toNat * C.toNat + (IntKind.i64.wrap (x_1 + (1 : Int))).toNat)) ∧ True) ∧ ((↑C.toNat : Int) - IntKind.i64.wrap (x_1 + (1 : Int))).toNat < ((↑C.toNat : Int) - x_1).toNat)) ((SV.t [SV.v (Value.pointer none), SV.v (Value.pointer none)] = SV.t [SV.p (4 : Nat) (0 : Nat), SV.p (6 : Nat) (0 : Nat)] ∧ True) ∧ IC.ss L = IC.ss L ∧ True ∧ True ∧ True ∧ (SV.h (5 : Nat) [(↑L.length : Int).toNat + (1 : Nat), (0 : Nat)] = SV.h (5 : Nat) [L.length + (1 : Nat), (0 : Nat)] ∧ True) ∧ ((↑L.length : Int).toNat + (1 : Nat) = L.length + (1 : Nat) ∧ L.length + (1 : Nat) = L.length + (1 : Nat) ∧ gridF L.length C.toNat (bdAt L x.toNat x_1.toNat) = boardL L C.toNat) ∧ (SV.v (Value.int IntKind.i64 (↑L.length : Int)) = SV.v (Value.int IntKind.i64 (↑L.length : Int)) ∧ SV.v (Value.int IntKind.i64 (↑C.toNat : Int)) = SV.v (Value.int IntKind.i64 C) ∧ SV.h (7 : Nat) [x.toNat * C.toNat + x_1.toNat, (0 : Nat)] = SV.h (7 : Nat) [L.length * C.toNat, (0 : Nat)] ∧ True) ∧ (x.toNat * C.toNat + x_1.toNat = L.length * C.toNat ∧ x.toNat * C.toNat + x_1.toNat = L.length * C.toNat ∧ flatL L C.toNat (x.toNat * C.toNat + x_1.toNat) = flatL L C.toNat (L.length * C.toNat)) ∧ True))))) (true = true ∧ ((↑L.length : Int).toNat + (1 : Nat) = L.length + (1 : Nat) ∧ GW (gridF L.length C.toNat (bdAt L x.toNat x_1.toNat))) ∧ br (inB (gridF L.length C.toNat (bdAt L x.toNat x_1.toNat)) x x_1) (rq ((x.toNat * C.toNat + x_1.toNat).beq (x.toNat * C.toNat + x_1.toNat) && (true && decide (x.toNat * C.toNat + x_1.toNat + (1 : Nat) ≤ (9223372036854775807 : Nat) ∧ (x.toNat * C.toNat + x_1.toNat + (1 : Nat)) * (32 : Nat) ≤ (140737488355328 : Nat)))) (((0 : Int) ≤ IntKind.i64.wrap (x_1 + (1 : Int)) ∧ IntKind.i64.wrap (x_1 + (1 : Int)) ≤ (↑C.toNat : Int)) ∧ ((SV.p (1 : Nat) (0 : Nat) = SV.p (1 : Nat) (0 : Nat) ∧ SV.p (4 : Nat) (0 : Nat) = SV.p (4 : Nat) (0 : Nat) ∧ SV.p (6 : Nat) (0 : Nat) = SV.p (6 : Nat) (0 : Nat) ∧ SV.v (Value.int IntKind.i64 x) = SV.v (Value.int IntKind.i64 x) ∧ SV.v (Value.int IntKind.i64 (IntKind.i64.wrap (x_1 + (1 : Int)))) = SV.v (Value.int IntKind.i64 (IntKind.i64.wrap (x_1 + (1 : Int)))) ∧ True) ∧ IC.ss L = IC.ss L ∧ (SV.r (0 : Nat) [] = SV.r (0 : Nat) [] ∧ SV.v (Value.int IntKind.i64 C) = SV.v (Value.int IntKind.i64 C) ∧ True) ∧ True ∧ True ∧ (SV.h (5 : Nat) [(↑L.length : Int).toNat + (1 : Nat), (0 : Nat)] = SV.h (5 : Nat) [(↑L.length : Int).toNat + (1 : Nat), (0 : Nat)] ∧ True) ∧ ((↑L.length : Int).toNat + (1 : Nat) = L.length + (1 : Nat) ∧ L.length + (1 : Nat) = L.length + (1 : Nat) ∧ set2 (gridF L.length C.toNat (bdAt L x.toNat x_1.toNat)) x x_1 (C4.mk (32 : Int) (0 : Int) false (0 : Int)) = gridF L.length C.toNat (bdAt L x.toNat (IntKind.i64.wrap (x_1 + (1 : Int))).toNat)) ∧ (SV.v (Value.int IntKind.i64 (↑L.length : Int)) = SV.v (Value.int IntKind.i64 (↑L.length : Int)) ∧ SV.v (Value.int IntKind.i64 (↑C.toNat : Int)) = SV.v (Value.int IntKind.i64 (↑C.toNat : Int)) ∧ SV.h (7 : Nat) [x.toNat * C.toNat + x_1.toNat + (1 : Nat), (0 : Nat)] = SV.h (7 : Nat) [x.toNat * C.toNat + (IntKind.i64.wrap (x_1 + (1 : Int))).toNat, (0 : Nat)] ∧ True) ∧ (x.toNat * C.toNat + x_1.toNat + (1 : Nat) = x.toNat * C.toNat + (IntKind.i64.wrap (x_1 + (1 : Int))).toNat ∧ x.toNat * C.toNat + x_1.toNat + (1 : Nat) = x.toNat * C.toNat + (IntKind.i64.wrap (x_1 + (1 : Int))).toNat ∧ flatL L C.toNat (x.toNat * C.toNat + x_1.toNat) ++ [C4.mk (32 : Int) (0 : Int) false (0 : Int)] = flatL L C.toNat (x.toNat * C.toNat + (IntKind.i64.wrap (x_1 + (1 : Int))).toNat)) ∧ True) ∧ ((↑C.toNat : Int) - IntKind.i64.wrap (x_1 + (1 : Int))).toNat < ((↑C.toNat : Int) - x_1).toNat)) ((SV.t [SV.v (Value.pointer none), SV.v (Value.pointer none)] = SV.t [SV.p (4 : Nat) (0 : Nat), SV.p (6 : Nat) (0 : Nat)] ∧ True) ∧ IC.ss L = IC.ss L ∧ True ∧ True ∧ True ∧ (SV.h (5 : Nat) [(↑L.length : Int).toNat + (1 : Nat), (0 : Nat)] = SV.h (5 : Nat) [L.length + (1 : Nat), (0 : Nat)] ∧ True) ∧ ((↑L.length : Int).toNat + (1 : Nat) = L.length + (1 : Nat) ∧ L.length + (1 : Nat) = L.length + (1 : Nat) ∧ gridF L.length C.toNat (bdAt L x.toNat x_1.toNat) = boardL L C.toNat) ∧ (SV.v (Value.int IntKind.i64 (↑L.length : Int)) = SV.v (Value.int IntKind.i64 (↑L.length : Int)) ∧ SV.v (Value.int IntKind.i64 (↑C.toNat : Int)) = SV.v (Value.int IntKind.i64 C) ∧ SV.h (7 : Nat) [x.toNat * C.toNat + x_1.toNat, (0 : Nat)] = SV.h (7 : Nat) [L.length * C.toNat, (0 : Nat)] ∧ True) ∧ (x.toNat * C.toNat + x_1.toNat = L.length * C.toNat ∧ x.toNat * C.toNat + x_1.toNat = L.length * C.toNat ∧ flatL L C.toNat (x.toNat * C.toNat + x_1.toNat) = flatL L C.toNat (L.length * C.toNat)) ∧ True))))) (((0 : Int) ≤ IntKind.i64.wrap (x + (1 : Int)) ∧ IntKind.i64.wrap (x + (1 : Int)) ≤ (↑L.length : Int)) ∧ ((SV.p (1 : Nat) (0 : Nat) = SV.p (1 : Nat) (0 : Nat) ∧ SV.p (4 : Nat) (0 : Nat) = SV.p (4 : Nat) (0 : Nat) ∧ SV.p (6 : Nat) (0 : Nat) = SV.p (6 : Nat) (0 : Nat) ∧ SV.v (Value.int IntKind.i64 (IntKind.i64.wrap (x + (1 : Int)))) = SV.v (Value.int IntKind.i64 (IntKind.i64.wrap (x + (1 : Int)))) ∧ True) ∧ IC.ss L = IC.ss L ∧ (SV.r (0 : Nat) [] = SV.r (0 : Nat) [] ∧ SV.v (Value.int IntKind.i64 C) = SV.v (Value.int IntKind.i64 C) ∧ True) ∧ True ∧ True ∧ (SV.h (5 : Nat) [(↑L.length : Int).toNat + (1 : Nat), (0 : Nat)] = SV.h (5 : Nat) [(↑L.length : Int).toNat + (1 : Nat), (0 : Nat)] ∧ True) ∧ (L.length + (1 : Nat) = L.length + (1 : Nat) ∧ L.length + (1 : Nat) = L.length + (1 : Nat) ∧ gridF L.length C.toNat (bdAt L x.toNat x_1.toNat) = gridF L.length C.toNat (bdAt L (IntKind.i64.wrap (x + (1 : Int))).toNat (0 : Nat))) ∧ (SV.v (Value.int IntKind.i64 (↑L.length : Int)) = SV.v (Value.int IntKind.i64 (↑L.length : Int)) ∧ SV.v (Value.int IntKind.i64 (↑C.toNat : Int)) = SV.v (Value.int IntKind.i64 (↑C.toNat : Int)) ∧ SV.h (7 : Nat) [x.toNat * C.toNat + x_1.toNat, (0 : Nat)] = SV.h (7 : Nat) [(IntKind.i64.wrap (x + (1 : Int))).toNat * C.toNat, (0 : Nat)] ∧ True) ∧ (x.toNat * C.toNat + x_1.toNat = (IntKind.i64.wrap (x + (1 : Int))).toNat * C.toNat ∧ x.toNat * C.toNat + x_1.toNat = (IntKind.i64.wrap (x + (1 : Int))).toNat * C.toNat ∧ flatL L C.toNat (x.toNat * C.toNat + x_1.toNat) = flatL L C.toNat ((IntKind.i64.wrap (x + (1 : Int))).toNat * C.toNat)) ∧ True) ∧ ((↑L.length : Int) - IntKind.i64.wrap (x + (1 : Int))).toNat < ((↑L.length : Int) - x).toNat)) ((SV.t [SV.p (4 : Nat) (0 : Nat), SV.p (6 : Nat) (0 : Nat)] = SV.t [SV.p (4 : Nat) (0 : Nat), SV.p (6 : Nat) (0 : Nat)] ∧ True) ∧ IC.ss L = IC.ss L ∧ True ∧ True ∧ True ∧ (SV.h (5 : Nat) [(↑L.length : Int).toNat + (1 : Nat), (0 : Nat)] = SV.h (5 : Nat) [L.length + (1 : Nat), (0 : Nat)] ∧ True) ∧ (L.length + (1 : Nat) = L.length + (1 : Nat) ∧ L.length + (1 : Nat) = L.length + (1 : Nat) ∧ gridF L.length C.toNat (bdAt L x.toNat (0 : Nat)) = boardL L C.toNat) ∧ (SV.v (Value.int IntKind.i64 (↑L.length : Int)) = SV.v (Value.int IntKind.i64 (↑L.length : Int)) ∧ SV.v (Value.int IntKind.i64 (↑C.toNat : Int)) = SV.v (Value.int IntKind.i64 C) ∧ SV.h (7 : Nat) [x.toNat * C.toNat, (0 : Nat)] = SV.h (7 : Nat) [L.length * C.toNat, (0 : Nat)] ∧ True) ∧ (x.toNat * C.toNat = L.length * C.toNat ∧ x.toNat * C.toNat = L.length * C.toNat ∧ flatL L C.toNat (x.toNat * C.toNat) = flatL L C.toNat (L.length * C.toNat)) ∧ True)) ((SV.t [SV.v (Value.pointer none), SV.v (Value.pointer none)] = SV.t [SV.p (4 : Nat) (0 : Nat), SV.p (6 : Nat) (0 : Nat)] ∧ True) ∧ IC.ss L = IC.ss L ∧ True ∧ True ∧ True ∧ False))) (by kernel_rfl) ?_
  clear hp hφ
  obtain ⟨D, rfl⟩ : ∃ D : Nat, C = D := ⟨C.toNat, by omega⟩
  have hm : mayB (L.length : Int) D = true := by rw [mayB_iff]; omega
  have eL : (L.length : Int).toNat = L.length := by omega
  simp only [hm, LC4, LLC, II, eL, nbeq, rq_iff, br_iff, Bool.true_and, Bool.and_true, Bool.true_eq_false, true_implies, false_implies, true_and, and_true, Bool.and_eq_true, Nat.ble_eq, Nat.blt_eq, decide_eq_true_eq, decide_eq_false_iff_not, Int.toNat_natCast]
  have hG : ∀ i k, GW (gridF L.length D (bdAt L i k)) := fun i k => gridF_gw h1 (by omega) (by omega) (by omega)
  have hB : ∀ {i k : Nat} {x y : Int}, 0 ≤ x → x < L.length → 0 ≤ y → y < D → inB (gridF L.length D (bdAt L i k)) x y = true := by
    intro i k x y a b c d
    rw [inB_iff, gridF_length, gridF_nC (by omega)]
    omega
  have e0 : (⟨32, 0, false, 0⟩ : C4) = cellOf 32 := rfl
  have eC : ∀ b : Int, (⟨b, 0, decide (65 ≤ b) && decide (b ≤ 90), 0⟩ : C4) = cellOf b := fun _ => rfl
  simp only [e0, eC]
  refine ⟨by omega, by omega, ⟨bd_zero L L.length D, by rw [Nat.zero_mul], by omega, by omega, by rw [Nat.zero_mul]; rfl⟩, fun x hx => ⟨fun hx2 => ⟨by omega, ⟨by rw [Nat.add_zero], rfl, rfl, by rw [Nat.add_zero]⟩, fun y hy => ⟨fun hy2 => ⟨by omega, by omega, by omega, fun hz => ?_, fun hz => ?_⟩, fun hy2 => ?_⟩⟩, fun hx2 => ?_⟩⟩
  · have hb := byteAt_rng (L.getD x.toNat ByteArray.empty) y.toNat
    refine ⟨by omega, by omega, by omega, hb, hG _ _, fun _ => ?_, fun hf => ?_⟩
    · obtain ⟨i, rfl⟩ : ∃ i : Nat, x = i := ⟨x.toNat, by omega⟩
      obtain ⟨k, rfl⟩ : ∃ k : Nat, y = k := ⟨y.toNat, by omega⟩
      have hm1 : i * D ≤ 7 * 12 := Nat.mul_le_mul (by omega) (by omega)
      rw [wrap64 (by omega) (by omega)]
      have e1 : ((k : Int) + 1).toNat = k + 1 := by omega
      simp only [Int.toNat_natCast, e1] at hz hb ⊢
      have ek : cellOf (byteAt (L.getD i ByteArray.empty) k) = cellB (L.getD i ByteArray.empty) k := by rw [cellB, if_pos (by omega)]
      rw [ek]
      exact ⟨by omega, by omega, ⟨bd_step L (by omega) (by omega), by rw [Nat.add_assoc], by omega, by omega, (flatL_at L (by omega)).symm⟩, by omega⟩
    · rw [hB (by omega) (by omega) (by omega) (by omega)] at hf
      cases hf
  · refine ⟨hG _ _, fun _ => ?_, fun hf => ?_⟩
    · obtain ⟨i, rfl⟩ : ∃ i : Nat, x = i := ⟨x.toNat, by omega⟩
      obtain ⟨k, rfl⟩ : ∃ k : Nat, y = k := ⟨y.toNat, by omega⟩
      have hm1 : i * D ≤ 7 * 12 := Nat.mul_le_mul (by omega) (by omega)
      rw [wrap64 (by omega) (by omega)]
      have e1 : ((k : Int) + 1).toNat = k + 1 := by omega
      simp only [Int.toNat_natCast, e1] at hz ⊢
      have ek : cellOf 32 = cellB (L.getD i ByteArray.empty) k := by rw [cellB, if_neg (by omega)]
      rw [ek]
      exact ⟨by omega, by omega, ⟨bd_step L (by omega) (by omega), by rw [Nat.add_assoc], by omega, by omega, (flatL_at L (by omega)).symm⟩, by omega⟩
    · rw [hB (by omega) (by omega) (by omega) (by omega)] at hf
      cases hf
  · obtain ⟨i, rfl⟩ : ∃ i : Nat, x = i := ⟨x.toNat, by omega⟩
    have ey : y = D := by omega
    subst ey
    rw [wrap64 (by omega) (by omega)]
    have e1 : ((i : Int) + 1).toNat = i + 1 := by omega
    simp only [Int.toNat_natCast, e1]
    have e2 : i * D + D = (i + 1) * D := by rw [Nat.add_mul, Nat.one_mul]
    rw [e2]
    exact ⟨by omega, ⟨bd_next L L.length D i, rfl, rfl, rfl, rfl⟩, by omega⟩
  · have ex : x = L.length := by omega
    subst ex
    rw [Int.toNat_natCast]
    exact ⟨bd_all L D, rfl, rfl, rfl, rfl⟩
end Go.Proofs.Ytdhhagangmkloaa
