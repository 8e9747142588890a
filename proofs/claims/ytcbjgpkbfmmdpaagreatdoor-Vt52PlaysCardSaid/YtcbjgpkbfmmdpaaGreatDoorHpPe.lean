/- What is wanted of the texts HcA, HcB, HcC, in one. -/
import Derived.Test.YtcbjgpkbfmmdpaaGreatDoorHpPd
set_option linter.unusedSimpArgs false
set_option linter.unusedVariables false
set_option linter.unusedSectionVars false
namespace Go.Proofs.YtcbjgpkbfmmdpaaGreatDoor
open Go Go.Sym
structure Dt where
  R : Int
  C : Int
  L : List Int
  le : Nat
  row : Int
  col : Int
  G : Bool
  K : Bool
  Ho : Bool
  pre : ByteArray
  out : ByteArray
  mo : Int
  ov : Bool
structure DI (d : Dt) : Prop where
  r0 : 1 ≤ d.R
  r1 : d.R ≤ 255
  c0 : 1 ≤ d.C
  c1 : d.C ≤ 255
  len : (d.L.length : Int) = d.R * d.C
  row0 : 0 ≤ d.row
  row1 : d.row < d.R
  col0 : 0 ≤ d.col
  col1 : d.col < d.C
  pre : d.pre.size ≤ 3
  out : d.out.size ≤ d.mo
  mo : d.mo ≤ 4096
abbrev DR := (Int × Int × Nat × Int × Int × Bool × Bool × Bool × ByteArray × ByteArray × Int × Bool) × OI
def shDt (j : Nat) : ShH DR := shHCons (shCells (shCons shI (shCons shI (shCons (shO (j + 1)) (shCons shI (shCons shI (shCons shB (shCons shB (shCons shB (shCons shStr (shCons shStr (shCons shI (shOne shB)))))))))))) 41) (shHOne (shOwnI .i32 21 true))
def dtI (j : Nat) (d : Dt) : List (SB Unit) := [.cells [.v (.int .i64 d.R), .v (.int .i64 d.C), .h (j + 1) [d.le, 0], .v (.int .i64 d.row), .v (.int .i64 d.col), .v (.bool d.G), .v (.bool d.K), .v (.bool d.Ho), .v (.string d.pre), .v (.string d.out), .v (.int .i64 d.mo), .v (.bool d.ov)] 41,
  .own (.ints .i32 d.L) d.L.length 21 1 d.le true]
def dtS (x : DR) : Dt := match x with
  | ((R, C, _, row, col, G, K, Ho, pre, out, mo, ov), ⟨L, _, le⟩) => ⟨R, C, L, le, row, col, G, K, Ho, pre, out, mo, ov⟩
def DA (x : DR) : Prop := match x with
  | ((R, C, le2, row, col, G, K, Ho, pre, out, mo, ov), ⟨L, n, le⟩) => le2 = le ∧ n = L.length ∧ DI ⟨R, C, L, le, row, col, G, K, Ho, pre, out, mo, ov⟩
theorem place {R C r c : Int} (h0 : 0 ≤ r) (h1 : r < R) (h2 : 0 ≤ c) (h3 : c < C) : 0 ≤ r * C + c ∧ r * C + c < R * C := by
  have e1 : (r + 1) * C ≤ R * C := Int.mul_le_mul_of_nonneg_right (by omega) (by omega)
  have e2 : (r + 1) * C = r * C + C := by rw [Int.add_mul, Int.one_mul]
  have e3 : 0 ≤ r * C := Int.mul_nonneg h0 (by omega)
  omega
theorem area {R C : Int} (h0 : 1 ≤ R) (h1 : R ≤ 255) (h2 : 1 ≤ C) (h3 : C ≤ 255) : 1 ≤ R * C ∧ R * C ≤ 65025 := by
  have e1 : R * C ≤ 255 * C := Int.mul_le_mul_of_nonneg_right h1 (by omega)
  have e2 : 1 * C ≤ R * C := Int.mul_le_mul_of_nonneg_right h0 (by omega)
  omega
def fiL (n i : Nat) : List Int := (List.range n).map fun j => if j < i then 32 else 0
theorem fiL_zero (n : Nat) : fiL n 0 = List.replicate n 0 := by
  apply List.ext_getElem <;> simp [fiL]
theorem fiL_all (n : Nat) : fiL n n = List.replicate n 32 := by
  apply List.ext_getElem
  · simp [fiL]
  · intro i h1 h2
    simp only [fiL, List.length_map, List.length_range] at h1
    simp [fiL, h1]
theorem fiL_set {n i : Nat} : (fiL n i).set i 32 = fiL n (i + 1) := by
  apply List.ext_getElem
  · simp [fiL]
  · intro j h1 h2
    simp only [fiL, List.getElem_set, List.getElem_map, List.getElem_range]
    by_cases h : i = j
    · rw [if_pos h, if_pos (by omega)]
    · rw [if_neg h]
      by_cases h' : j < i
      · rw [if_pos h', if_pos (by omega)]
      · rw [if_neg h', if_neg (by omega)]
theorem fiL_length (n i : Nat) : (fiL n i).length = n := by simp [fiL]
def annDR (b n ep : Nat) : Ann Unit where
  α := Int
  φ _ i := 0 ≤ i ∧ i ≤ n
  μ _ i := ((n : Int) - i).toNat
  get st := getI st.tm 2
  f st i := tmpl [0] [(2, .v (.int .i64 i))] [(b, .own (.ints .i32 (fiL n i.toNat)) n 21 1 ep true)] st
def rsD (d : Dt) : Dt := { d with L := List.replicate (d.R * d.C).toNat 32, le := d.le + 1, row := 0, col := 0, G := false, K := false, Ho := false, pre := ByteArray.empty }
def lcDReset : ACon Unit := mkLC (decP (shOne (shP 0)) (shDt 0)) fun (_, x) => .ask (DA x) (.one (.t []) (dtI 0 (rsD (dtS x))) [0, 1])
set_option maxHeartbeats 4000000 in
theorem ok_dReset : ∀ I : Sym.Inv Unit, LCOk I Tryz.prog 9 lcDReset := by
  refine lc_mkF (fun _ => [.adopt 1 2]) (fun (_, x) => allCfg Tryz.prog [] [] 0 [(199, annDR 2 ((dtS x).R * (dtS x).C).toNat 0)]) (fun _ _ => allCfg_ok mixed trivial trivial) (fun _ => rfl) (n := 60) Tryz.func9 ?_
  intro ⟨_, ⟨R, C, le2, row, col, G, K, Ho, pre, out, mo, ov⟩, ⟨L, n, le⟩⟩ hφ
  obtain ⟨⟨rfl, rfl, hI⟩, hp⟩ := id hφ
  refine kcast (B := (rq (decide ((0 : Int) ≤ IntKind.i64.wrap (R * C) ∧ IntKind.i64.wrap (R * C) ≤ IntKind.i64.wrap (R * C) ∧ (↑(4 : Nat) : Int) * IntKind.i64.wrap (R * C) ≤ (281474976710656 : Int) ∧ IntKind.i64.wrap (R * C) ≤ (9223372036854775807 : Int))) ((II (0 :
 Int) ≤ (0 : Int) ∧ (0 : Int) ≤ (↑(R * C).toNat : Int)) ∧ ((SV.p 0 0 = SV.p 0 0 ∧ vI (0 : Int) = vI (0 : Int) ∧ True) ∧ (vI R = vI R ∧ vI C = vI C ∧ SV.h 2 [0, 0] = SV.h 2 [0, 0] ∧ vI row = vI row ∧ vI col = vI col ∧ vB G = vB G ∧ vB K = vB K ∧ vB Ho
 = vB Ho ∧ vS pre = vS pre ∧ vS out = vS out ∧ vI mo = vI mo ∧ vB ov = vB ov ∧ True) ∧ (L.length = L.length ∧ le2 = le2 ∧ L = L) ∧ ((IntKind.i64.wrap (R * C)).toNat = (R * C).toNat ∧ (0 : Nat) = (0 : Nat) ∧ List.replicate ((IntKind.i64.wrap (R *
 C)).toNat * (1 : Nat)) (0 : Int) = fiL (R * C).toNat (0 : Nat)) ∧ True) ∧ ∀ (x : Int), (0 : Int) ≤ x ∧ x ≤ (↑(R * C).toNat : Int) → br (decide (x < (↑(R * C).toNat : Int))) (rq (true && (Nat.beq (1 : Nat) (1 : Nat) && decide ((0 : Int) ≤ x ∧ x < (↑(R
 * C).toNat : Int)))) (rq (true && x.toNat.blt (fiL (R * C).toNat x.toNat).length) (((0 : Int) ≤ IntKind.i64.wrap (x + (1 : Int)) ∧ IntKind.i64.wrap (x + (1 : Int)) ≤ (↑(R * C).toNat : Int)) ∧ ((SV.p 0 0 = SV.p 0 0 ∧ vI (IntKind.i64.wrap (x + (1 :
 Int))) = vI (IntKind.i64.wrap (x + (1 : Int))) ∧ True) ∧ (vI R = vI R ∧ vI C = vI C ∧ SV.h 2 [0, 0] = SV.h 2 [0, 0] ∧ vI row = vI row ∧ vI col = vI col ∧ vB G = vB G ∧ vB K = vB K ∧ vB Ho = vB Ho ∧ vS pre = vS pre ∧ vS out = vS out ∧ vI mo = vI mo ∧
 vB ov = vB ov ∧ True) ∧ (L.length = L.length ∧ le2 = le2 ∧ L = L) ∧ ((R * C).toNat = (R * C).toNat ∧ (0 : Nat) = (0 : Nat) ∧ (fiL (R * C).toNat x.toNat).set x.toNat (32 : Int) = fiL (R * C).toNat (IntKind.i64.wrap (x + (1 : Int))).toNat) ∧ True) ∧
 ((↑(R * C).toNat : Int) - IntKind.i64.wrap (x + (1 : Int))).toNat < ((↑(R * C).toNat : Int) - x).toNat))) ((SV.t [] = SV.t [] ∧ True) ∧ (vI R = vI R ∧ vI C = vI C ∧ SV.h 1 [le2 + 1, 0] = SV.h 1 [le2 + 1, 0] ∧ vI (0 : Int) = vI (0 : Int) ∧ vI (0 :
 Int) = vI (0 : Int) ∧ vB false = vB false ∧ vB false = vB false ∧ vB false = vB false ∧ vS (ByteArray.mk #[]) = vS ByteArray.empty ∧ vS out = vS out ∧ vI mo = vI mo ∧ vB ov = vB ov ∧ True) ∧ ((R * C).toNat = (List.replicate (R * C).toNat (32 :
 Int)).length ∧ le2 + 1 = le2 + 1 ∧ fiL (R * C).toNat x.toNat = List.replicate (R * C).toNat (32 : Int)) ∧ True)))) (by kernel_rfl) ?_
  clear hp hφ
  have r0 := hI.r0
  have r1 := hI.r1
  have c0 := hI.c0
  have c1 := hI.c1
  simp only at r0 r1 c0 c1
  have hA := area r0 r1 c0 c1
  have hw : IntKind.i64.wrap (R * C) = R * C := wrap64 (by omega) (by omega)
  rw [hw]
  simp only [rq_iff, br_iff, II, nbeq, fiL_length, Bool.true_and, decide_eq_true_eq, decide_eq_false_iff_not, Nat.blt_eq, true_and, and_true, and_self, Nat.mul_one, fiL_zero, fiL_set]
  refine ⟨⟨by omega, Int.le_refl _, by omega, by omega⟩, ⟨Int.le_refl 0, by omega⟩, fun x ⟨hx0, hx1⟩ => ⟨fun hlt => ⟨⟨hx0, hlt⟩, by omega, ?_⟩, fun hge => ⟨rfl, by simp, ?_⟩⟩⟩
  · rw [wrap64 (x := x + 1) (by omega) (by omega), show (x + 1).toNat = x.toNat + 1 by omega]
    exact ⟨⟨by omega, by omega⟩, rfl, by omega⟩
  · rw [show x.toNat = (R * C).toNat by omega]
    exact fiL_all _
def src (C : Int) (up : Bool) (j : Nat) : Int := if up = true then (j : Int) + C else j - C
def scN (L : List Int) (C : Int) (up : Bool) (n : Nat) : List Int := (List.range L.length).map fun j : Nat => if j < n then (if 0 ≤ src C up j ∧ src C up j < L.length then L.getD (src C up j).toNat 0 else 32) else 0
theorem scN_length (L : List Int) (C : Int) (up : Bool) (n : Nat) : (scN L C up n).length = L.length := by simp [scN]
theorem scN_zero (L : List Int) (C : Int) (up : Bool) : scN L C up 0 = List.replicate L.length 0 := by
  apply List.ext_getElem <;> simp [scN]
theorem scN_set {L : List Int} {C : Int} {up : Bool} {n : Nat} {v : Int} (hv : v = if 0 ≤ src C up n ∧ src C up n < L.length then L.getD (src C up n).toNat 0 else 32) : (scN L C up n).set n v = scN L C up (n + 1) := by
  apply List.ext_getElem
  · simp [scN]
  · intro j h1 h2
    simp only [scN, List.getElem_set, List.getElem_map, List.getElem_range]
    by_cases h : n = j
    · subst h; rw [if_pos rfl, if_pos (by omega), hv]
    · rw [if_neg h]
      by_cases h' : j < n
      · rw [if_pos h', if_pos (show j < n + 1 by omega)]
      · rw [if_neg h', if_neg (by omega)]
def annSc (L : List Int) (C : Int) (up : Bool) : Ann Unit where
  α := Int
  φ _ i := 0 ≤ i ∧ i ≤ L.length
  μ _ i := ((L.length : Int) - i).toNat
  get st := getI st.tm 5
  f st i := tmpl [0, 1, 4] [(5, .v (.int .i64 i))] [(2, .own (.ints .i32 (scN L C up i.toNat)) L.length 21 1 0 true)] st
def scD (d : Dt) (up : Bool) : Dt := { d with L := scN d.L d.C up d.L.length, le := d.le + 1 }
def lcDScroll : ACon Unit := mkLC (decP (shCons (shP 0) (shOne shB)) (shDt 0)) fun ((_, up), x) => .ask (DA x) (.one (.t []) (dtI 0 (scD (dtS x) up)) [0, 1])
set_option maxHeartbeats 4000000 in
theorem ok_dScroll : ∀ I : Sym.Inv Unit, LCOk I Tryz.prog 86 lcDScroll := by
  refine lc_mkF (fun _ => [.adopt 1 2]) (fun ((_, up), x) => allCfg Tryz.prog [] [] 0 [(199, annSc (dtS x).L (dtS x).C up)]) (fun _ _ => allCfg_ok mixed trivial trivial) (fun _ => rfl) (n := 60) Tryz.func86 ?_
  intro ⟨⟨_, up⟩, ⟨R, C, le2, row, col, G, K, Ho, pre, out, mo, ov⟩, ⟨L, n, le⟩⟩ hφ
  obtain ⟨⟨rfl, rfl, hI⟩, hp⟩ := id hφ
  refine kcast (B := (rq (le2.beq le2) (rq (decide ((0 : Int) ≤ (↑L.length : Int) ∧ (↑L.length : Int) ≤ (↑L.length : Int) ∧ (↑(4 : Nat) : Int) * (↑L.length : Int) ≤ (281474976710656 : Int) ∧ (↑L.length : Int) ≤ (9223372036854775807 : Int))) ((II (0 : Int) ≤ (0 : Int) ∧
 (0 : Int) ≤ (↑L.length : Int)) ∧ ((SV.p 0 0 = SV.p 0 0 ∧ vB up = vB up ∧ SV.h 2 [0, 0] = SV.h 2 [0, 0] ∧ vI (0 : Int) = vI (0 : Int) ∧ True) ∧ (vI R = vI R ∧ vI C = vI C ∧ SV.h 1 [le2, 0] = SV.h 1 [le2, 0] ∧ vI row = vI row ∧ vI col = vI col ∧ vB G =
 vB G ∧ vB K = vB K ∧ vB Ho = vB Ho ∧ vS pre = vS pre ∧ vS out = vS out ∧ vI mo = vI mo ∧ vB ov = vB ov ∧ True) ∧ (L.length = L.length ∧ le2 = le2 ∧ L = L) ∧ ((↑L.length : Int).toNat = L.length ∧ (0 : Nat) = (0 : Nat) ∧ List.replicate ((↑L.length :
 Int).toNat * (1 : Nat)) (0 : Int) = scN L C up (0 : Nat)) ∧ True) ∧ ∀ (x : Int), (0 : Int) ≤ x ∧ x ≤ (↑L.length : Int) → rq (le2.beq le2) (br (decide (x < (↑L.length : Int))) (br up (rq (true && (Nat.beq (1 : Nat) (1 : Nat) && decide ((0 : Int) ≤ x ∧
 x < (↑L.length : Int)))) (rq (true && x.toNat.blt (scN L C up x.toNat).length) (br (decide (IntKind.i64.wrap (x + C) ≥ (0 : Int))) (rq (le2.beq le2) (br (decide (IntKind.i64.wrap (x + C) < (↑L.length : Int))) (rq (le2.beq le2 && (Nat.beq (1 : Nat) (1
 : Nat) && decide ((0 : Int) ≤ IntKind.i64.wrap (x + C) ∧ IntKind.i64.wrap (x + C) < (↑L.length : Int)))) (rq (le2.beq le2 && (IntKind.i64.wrap (x + C)).toNat.blt L.length) (rq (true && (Nat.beq (1 : Nat) (1 : Nat) && decide ((0 : Int) ≤ x ∧ x <
 (↑L.length : Int)))) (rq (true && x.toNat.blt ((scN L C up x.toNat).set x.toNat (32 : Int)).length) (((0 : Int) ≤ IntKind.i64.wrap (x + (1 : Int)) ∧ IntKind.i64.wrap (x + (1 : Int)) ≤ (↑L.length : Int)) ∧ ((SV.p 0 0 = SV.p 0 0 ∧ vB up = vB up ∧ SV.h
 2 [0, 0] = SV.h 2 [0, 0] ∧ vI (IntKind.i64.wrap (x + (1 : Int))) = vI (IntKind.i64.wrap (x + (1 : Int))) ∧ True) ∧ (vI R = vI R ∧ vI C = vI C ∧ SV.h 1 [le2, 0] = SV.h 1 [le2, 0] ∧ vI row = vI row ∧ vI col = vI col ∧ vB G = vB G ∧ vB K = vB K ∧ vB Ho
 = vB Ho ∧ vS pre = vS pre ∧ vS out = vS out ∧ vI mo = vI mo ∧ vB ov = vB ov ∧ True) ∧ (L.length = L.length ∧ le2 = le2 ∧ L = L) ∧ (L.length = L.length ∧ (0 : Nat) = (0 : Nat) ∧ ((scN L C up x.toNat).set x.toNat (32 : Int)).set x.toNat (L.getD
 (IntKind.i64.wrap (x + C)).toNat (0 : Int)) = scN L C up (IntKind.i64.wrap (x + (1 : Int))).toNat) ∧ True) ∧ ((↑L.length : Int) - IntKind.i64.wrap (x + (1 : Int))).toNat < ((↑L.length : Int) - x).toNat))))) (((0 : Int) ≤ IntKind.i64.wrap (x + (1 :
 Int)) ∧ IntKind.i64.wrap (x + (1 : Int)) ≤ (↑L.length : Int)) ∧ ((SV.p 0 0 = SV.p 0 0 ∧ vB up = vB up ∧ SV.h 2 [0, 0] = SV.h 2 [0, 0] ∧ vI (IntKind.i64.wrap (x + (1 : Int))) = vI (IntKind.i64.wrap (x + (1 : Int))) ∧ True) ∧ (vI R = vI R ∧ vI C = vI C
 ∧ SV.h 1 [le2, 0] = SV.h 1 [le2, 0] ∧ vI row = vI row ∧ vI col = vI col ∧ vB G = vB G ∧ vB K = vB K ∧ vB Ho = vB Ho ∧ vS pre = vS pre ∧ vS out = vS out ∧ vI mo = vI mo ∧ vB ov = vB ov ∧ True) ∧ (L.length = L.length ∧ le2 = le2 ∧ L = L) ∧ (L.length =
 L.length ∧ (0 : Nat) = (0 : Nat) ∧ (scN L C up x.toNat).set x.toNat (32 : Int) = scN L C up (IntKind.i64.wrap (x + (1 : Int))).toNat) ∧ True) ∧ ((↑L.length : Int) - IntKind.i64.wrap (x + (1 : Int))).toNat < ((↑L.length : Int) - x).toNat))) (((0 :
 Int) ≤ IntKind.i64.wrap (x + (1 : Int)) ∧ IntKind.i64.wrap (x + (1 : Int)) ≤ (↑L.length : Int)) ∧ ((SV.p 0 0 = SV.p 0 0 ∧ vB up = vB up ∧ SV.h 2 [0, 0] = SV.h 2 [0, 0] ∧ vI (IntKind.i64.wrap (x + (1 : Int))) = vI (IntKind.i64.wrap (x + (1 : Int))) ∧
 True) ∧ (vI R = vI R ∧ vI C = vI C ∧ SV.h 1 [le2, 0] = SV.h 1 [le2, 0] ∧ vI row = vI row ∧ vI col = vI col ∧ vB G = vB G ∧ vB K = vB K ∧ vB Ho = vB Ho ∧ vS pre = vS pre ∧ vS out = vS out ∧ vI mo = vI mo ∧ vB ov = vB ov ∧ True) ∧ (L.length = L.length
 ∧ le2 = le2 ∧ L = L) ∧ (L.length = L.length ∧ (0 : Nat) = (0 : Nat) ∧ (scN L C up x.toNat).set x.toNat (32 : Int) = scN L C up (IntKind.i64.wrap (x + (1 : Int))).toNat) ∧ True) ∧ ((↑L.length : Int) - IntKind.i64.wrap (x + (1 : Int))).toNat <
 ((↑L.length : Int) - x).toNat)))) (rq (true && (Nat.beq (1 : Nat) (1 : Nat) && decide ((0 : Int) ≤ x ∧ x < (↑L.length : Int)))) (rq (true && x.toNat.blt (scN L C up x.toNat).length) (br (decide (IntKind.i64.wrap (x - C) ≥ (0 : Int))) (rq (le2.beq
 le2) (br (decide (IntKind.i64.wrap (x - C) < (↑L.length : Int))) (rq (le2.beq le2 && (Nat.beq (1 : Nat) (1 : Nat) && decide ((0 : Int) ≤ IntKind.i64.wrap (x - C) ∧ IntKind.i64.wrap (x - C) < (↑L.length : Int)))) (rq (le2.beq le2 && (IntKind.i64.wrap
 (x - C)).toNat.blt L.length) (rq (true && (Nat.beq (1 : Nat) (1 : Nat) && decide ((0 : Int) ≤ x ∧ x < (↑L.length : Int)))) (rq (true && x.toNat.blt ((scN L C up x.toNat).set x.toNat (32 : Int)).length) (((0 : Int) ≤ IntKind.i64.wrap (x + (1 : Int)) ∧
 IntKind.i64.wrap (x + (1 : Int)) ≤ (↑L.length : Int)) ∧ ((SV.p 0 0 = SV.p 0 0 ∧ vB up = vB up ∧ SV.h 2 [0, 0] = SV.h 2 [0, 0] ∧ vI (IntKind.i64.wrap (x + (1 : Int))) = vI (IntKind.i64.wrap (x + (1 : Int))) ∧ True) ∧ (vI R = vI R ∧ vI C = vI C ∧ SV.h
 1 [le2, 0] = SV.h 1 [le2, 0] ∧ vI row = vI row ∧ vI col = vI col ∧ vB G = vB G ∧ vB K = vB K ∧ vB Ho = vB Ho ∧ vS pre = vS pre ∧ vS out = vS out ∧ vI mo = vI mo ∧ vB ov = vB ov ∧ True) ∧ (L.length = L.length ∧ le2 = le2 ∧ L = L) ∧ (L.length =
 L.length ∧ (0 : Nat) = (0 : Nat) ∧ ((scN L C up x.toNat).set x.toNat (32 : Int)).set x.toNat (L.getD (IntKind.i64.wrap (x - C)).toNat (0 : Int)) = scN L C up (IntKind.i64.wrap (x + (1 : Int))).toNat) ∧ True) ∧ ((↑L.length : Int) - IntKind.i64.wrap (x
 + (1 : Int))).toNat < ((↑L.length : Int) - x).toNat))))) (((0 : Int) ≤ IntKind.i64.wrap (x + (1 : Int)) ∧ IntKind.i64.wrap (x + (1 : Int)) ≤ (↑L.length : Int)) ∧ ((SV.p 0 0 = SV.p 0 0 ∧ vB up = vB up ∧ SV.h 2 [0, 0] = SV.h 2 [0, 0] ∧ vI
 (IntKind.i64.wrap (x + (1 : Int))) = vI (IntKind.i64.wrap (x + (1 : Int))) ∧ True) ∧ (vI R = vI R ∧ vI C = vI C ∧ SV.h 1 [le2, 0] = SV.h 1 [le2, 0] ∧ vI row = vI row ∧ vI col = vI col ∧ vB G = vB G ∧ vB K = vB K ∧ vB Ho = vB Ho ∧ vS pre = vS pre ∧ vS
 out = vS out ∧ vI mo = vI mo ∧ vB ov = vB ov ∧ True) ∧ (L.length = L.length ∧ le2 = le2 ∧ L = L) ∧ (L.length = L.length ∧ (0 : Nat) = (0 : Nat) ∧ (scN L C up x.toNat).set x.toNat (32 : Int) = scN L C up (IntKind.i64.wrap (x + (1 : Int))).toNat) ∧
 True) ∧ ((↑L.length : Int) - IntKind.i64.wrap (x + (1 : Int))).toNat < ((↑L.length : Int) - x).toNat))) (((0 : Int) ≤ IntKind.i64.wrap (x + (1 : Int)) ∧ IntKind.i64.wrap (x + (1 : Int)) ≤ (↑L.length : Int)) ∧ ((SV.p 0 0 = SV.p 0 0 ∧ vB up = vB up ∧
 SV.h 2 [0, 0] = SV.h 2 [0, 0] ∧ vI (IntKind.i64.wrap (x + (1 : Int))) = vI (IntKind.i64.wrap (x + (1 : Int))) ∧ True) ∧ (vI R = vI R ∧ vI C = vI C ∧ SV.h 1 [le2, 0] = SV.h 1 [le2, 0] ∧ vI row = vI row ∧ vI col = vI col ∧ vB G = vB G ∧ vB K = vB K ∧
 vB Ho = vB Ho ∧ vS pre = vS pre ∧ vS out = vS out ∧ vI mo = vI mo ∧ vB ov = vB ov ∧ True) ∧ (L.length = L.length ∧ le2 = le2 ∧ L = L) ∧ (L.length = L.length ∧ (0 : Nat) = (0 : Nat) ∧ (scN L C up x.toNat).set x.toNat (32 : Int) = scN L C up
 (IntKind.i64.wrap (x + (1 : Int))).toNat) ∧ True) ∧ ((↑L.length : Int) - IntKind.i64.wrap (x + (1 : Int))).toNat < ((↑L.length : Int) - x).toNat))))) ((SV.t [] = SV.t [] ∧ True) ∧ (vI R = vI R ∧ vI C = vI C ∧ SV.h 1 [le2 + 1, 0] = SV.h 1 [le2 + 1, 0]
 ∧ vI row = vI row ∧ vI col = vI col ∧ vB G = vB G ∧ vB K = vB K ∧ vB Ho = vB Ho ∧ vS pre = vS pre ∧ vS out = vS out ∧ vI mo = vI mo ∧ vB ov = vB ov ∧ True) ∧ (L.length = (scN L C up L.length).length ∧ le2 + 1 = le2 + 1 ∧ scN L C up x.toNat = scN L C
 up L.length) ∧ True)))))) (by kernel_rfl) ?_
  clear hp hφ
  have r0 := hI.r0
  have r1 := hI.r1
  have c0 := hI.c0
  have c1 := hI.c1
  have hlen := hI.len
  simp only at r0 r1 c0 c1 hlen
  have hA := area r0 r1 c0 c1
  simp only [rq_iff, br_iff, II, nbeq, Bool.true_and, decide_eq_true_eq, decide_eq_false_iff_not, Nat.blt_eq, true_and, and_true, and_self, Nat.mul_one, scN_length]
  refine ⟨⟨by omega, Int.le_refl _, by omega, by omega⟩, ⟨Int.le_refl 0, by omega⟩, ⟨by omega, ?_⟩, fun x ⟨hx0, hx1⟩ => ⟨fun hlt => ?_, fun hge => ?_⟩⟩
  · rw [scN_zero]; rfl
  · have hst : ∀ v : Int, v = (if 0 ≤ src C up x.toNat ∧ src C up x.toNat < L.length then L.getD (src C up x.toNat).toNat 0 else 32) → (scN L C up x.toNat).set x.toNat v = scN L C up (x + 1).toNat := fun v hv => by
      rw [scN_set hv, show (x + 1).toNat = x.toNat + 1 by omega]
    have hmu : (0 ≤ x + 1 ∧ x + 1 ≤ (L.length : Int)) ∧ ((L.length : Int) - (x + 1)).toNat < ((L.length : Int) - x).toNat := by omega
    rw [wrap64 (x := x + 1) (by omega) (by omega), wrap64 (x := x + C) (by omega) (by omega), wrap64 (x := x - C) (by omega) (by omega)]
    have hs1 : up = true → src C up x.toNat = x + C := fun h => by unfold src; rw [if_pos h]; omega
    have hs2 : up = false → src C up x.toNat = x - C := fun h => by unfold src; rw [h, if_neg (by decide)]; omega
    refine ⟨fun hu => ⟨⟨hx0, hlt⟩, by omega, fun h0 => ⟨fun h1 => ⟨⟨by omega, h1⟩, by omega, ⟨hx0, hlt⟩, by rw [List.length_set, scN_length]; omega, hmu.1, ?_, hmu.2⟩, fun h1 => ⟨hmu.1, hst 32 ?_, hmu.2⟩⟩, fun h0 => ⟨hmu.1, hst 32 ?_, hmu.2⟩⟩, fun hu
     => ⟨⟨hx0, hlt⟩, by omega, fun h0 => ⟨fun h1 => ⟨⟨by omega, h1⟩, by omega, ⟨hx0, hlt⟩, by rw [List.length_set, scN_length]; omega, hmu.1, ?_, hmu.2⟩, fun h1 => ⟨hmu.1, hst 32 ?_, hmu.2⟩⟩, fun h0 => ⟨hmu.1, hst 32 ?_, hmu.2⟩⟩⟩
    · rw [List.set_set]; exact hst _ (by rw [hs1 hu, if_pos ⟨by omega, h1⟩])
    · rw [hs1 hu, if_neg (by omega)]
    · rw [hs1 hu, if_neg (by omega)]
    · rw [List.set_set]; exact hst _ (by rw [hs2 hu, if_pos ⟨by omega, h1⟩])
    · rw [hs2 hu, if_neg (by omega)]
    · rw [hs2 hu, if_neg (by omega)]
  · rw [show x.toNat = L.length by omega]
def wpL (L : List Int) (fr : Int) (i : Int) : List Int := (List.range L.length).map fun j : Nat => if fr ≤ (j : Int) ∧ (j : Int) < i then 32 else L.getD j 0
theorem wpL_length (L : List Int) (fr i : Int) : (wpL L fr i).length = L.length := by simp [wpL]
theorem wpL_nil (L : List Int) (fr : Int) : wpL L fr fr = L := by
  apply List.ext_getElem
  · simp [wpL]
  · intro j h1 h2
    simp only [wpL, List.getElem_map, List.getElem_range]
    rw [if_neg (by omega), List.getD, List.getElem?_eq_getElem h2, Option.getD_some]
theorem wpL_set {L : List Int} {fr x : Int} (h : 0 ≤ x ∧ fr ≤ x) : (wpL L fr x).set x.toNat 32 = wpL L fr (x + 1) := by
  apply List.ext_getElem
  · simp [wpL]
  · intro j h1 h2
    simp only [wpL, List.getElem_set, List.getElem_map, List.getElem_range]
    by_cases e : x.toNat = j
    · rw [if_pos e, if_pos (by omega)]
    · rw [if_neg e]
      by_cases h' : fr ≤ (j : Int) ∧ (j : Int) < x
      · rw [if_pos h', if_pos (by omega)]
      · rw [if_neg h', if_neg (by omega)]
def annDW (L : List Int) (le : Nat) (fr to : Int) : Ann Unit where
  α := Int
  φ _ i := fr ≤ i ∧ i ≤ to + 1
  μ _ i := (to + 1 - i).toNat
  get st := getI st.tm 6
  f st i := tmpl [0, 2] [(6, .v (.int .i64 i))] [(1, .own (.ints .i32 (wpL L fr i)) L.length 21 1 le true)] st
def wpD (d : Dt) (fr to : Int) : Dt := { d with L := wpL d.L fr (to + 1) }
def lcDWipe : ACon Unit := mkLC (decP (shCons (shP 0) (shCons shI (shOne shI))) (shDt 0)) fun ((_, fr, to), x) => .ask (DA x ∧ 0 ≤ fr ∧ fr ≤ to + 1 ∧ to < (dtS x).L.length) (.one (.t []) (dtI 0 (wpD (dtS x) fr to)) [1])
set_option maxHeartbeats 4000000 in
theorem ok_dWipe : ∀ I : Sym.Inv Unit, LCOk I Tryz.prog 87 lcDWipe := by
  refine lc_mk (fun ((_, fr, to), x) => allCfg Tryz.prog [] [] 0 [(131, annDW (dtS x).L (dtS x).le fr to)]) (fun _ _ => allCfg_ok mixed trivial trivial) (fun _ => rfl) (n := 60) Tryz.func87 ?_
  intro ⟨⟨_, fr, to⟩, ⟨R, C, le2, row, col, G, K, Ho, pre, out, mo, ov⟩, ⟨L, n, le⟩⟩ hφ
  obtain ⟨⟨⟨rfl, rfl, hI⟩, hf0, hf1, hf2⟩, hp⟩ := id hφ
  refine kcast (B := ((fr ≤ fr ∧ fr ≤ to + (1 : Int)) ∧ ((SV.p 0 0 = SV.p 0 0 ∧ vI to = vI to ∧ vI fr = vI fr ∧ True) ∧ (vI R = vI R ∧ vI C = vI C ∧ SV.h 1 [le2, 0] = SV.h 1 [le2, 0] ∧ vI row = vI row ∧ vI col = vI col ∧ vB G = vB G ∧ vB K = vB K ∧ vB Ho = vB Ho ∧ vS pre
 = vS pre ∧ vS out = vS out ∧ vI mo = vI mo ∧ vB ov = vB ov ∧ True) ∧ (L.length = L.length ∧ le2 = le2 ∧ L = wpL L fr fr) ∧ True) ∧ ∀ (x : Int), fr ≤ x ∧ x ≤ to + (1 : Int) → br (decide (x ≤ to)) (rq (le2.beq le2 && (Nat.beq (1 : Nat) (1 : Nat) &&
 decide ((0 : Int) ≤ x ∧ x < (↑L.length : Int)))) (rq (le2.beq le2 && x.toNat.blt (wpL L fr x).length) ((fr ≤ IntKind.i64.wrap (x + (1 : Int)) ∧ IntKind.i64.wrap (x + (1 : Int)) ≤ to + (1 : Int)) ∧ ((SV.p 0 0 = SV.p 0 0 ∧ vI to = vI to ∧ vI
 (IntKind.i64.wrap (x + (1 : Int))) = vI (IntKind.i64.wrap (x + (1 : Int))) ∧ True) ∧ (vI R = vI R ∧ vI C = vI C ∧ SV.h 1 [le2, 0] = SV.h 1 [le2, 0] ∧ vI row = vI row ∧ vI col = vI col ∧ vB G = vB G ∧ vB K = vB K ∧ vB Ho = vB Ho ∧ vS pre = vS pre ∧ vS
 out = vS out ∧ vI mo = vI mo ∧ vB ov = vB ov ∧ True) ∧ (L.length = L.length ∧ le2 = le2 ∧ (wpL L fr x).set x.toNat (32 : Int) = wpL L fr (IntKind.i64.wrap (x + (1 : Int)))) ∧ True) ∧ (to + (1 : Int) - IntKind.i64.wrap (x + (1 : Int))).toNat < (to +
 (1 : Int) - x).toNat))) ((SV.t [] = SV.t [] ∧ True) ∧ (vI R = vI R ∧ vI C = vI C ∧ SV.h 1 [le2, 0] = SV.h 1 [le2, 0] ∧ vI row = vI row ∧ vI col = vI col ∧ vB G = vB G ∧ vB K = vB K ∧ vB Ho = vB Ho ∧ vS pre = vS pre ∧ vS out = vS out ∧ vI mo = vI mo ∧
 vB ov = vB ov ∧ True) ∧ (L.length = (wpL L fr (to + (1 : Int))).length ∧ le2 = le2 ∧ wpL L fr x = wpL L fr (to + (1 : Int))) ∧ True))) (by kernel_rfl) ?_
  clear hp hφ
  have r0 := hI.r0
  have r1 := hI.r1
  have c0 := hI.c0
  have c1 := hI.c1
  have hlen := hI.len
  simp only at r0 r1 c0 c1 hlen
  have hA := area r0 r1 c0 c1
  simp only [rq_iff, br_iff, II, nbeq, Bool.true_and, decide_eq_true_eq, decide_eq_false_iff_not, Nat.blt_eq, true_and, and_true, and_self, Nat.mul_one, wpL_length, scN_length]
  have hf2 : to < (L.length : Int) := hf2
  refine ⟨⟨Int.le_refl _, hf1⟩, (wpL_nil L fr).symm, fun x ⟨hx0, hx1⟩ => ⟨fun hle => ?_, fun hgt => ?_⟩⟩
  · rw [wrap64 (x := x + 1) (by omega) (by omega), wpL_set (by omega)]
    exact ⟨⟨by omega, by omega⟩, by omega, ⟨by omega, by omega⟩, rfl, by omega⟩
  · rw [show x = to + 1 by omega]
def psROf : PS := mkPS (shCons shI (shOne (shInt .u8))) (fun (set, b) => (set = 1 ∨ set = 3) ∧ 0 ≤ b ∧ b ≤ 255) (fun (set, b) => .v (.int .i32 (ofT set b)))
def rOfAsk (set b : Int) : Prop := Go.Sym.Ask (bodyK Tryz.prog (run (allCfg Tryz.prog [] [] 0) 60) Tryz.f85 ((shCons shI (shOne (shInt .u8))).enc (set, b)) [] (fun y _ => y = .v (.int .i32 (ofT set b))))
set_option maxHeartbeats 4000000 in
theorem rOf1 (b : Int) (h0 : 0 ≤ b) (h1 : b ≤ 255) : rOfAsk 1 b := by
  unfold rOfAsk
  refine kcast (B := (br (decide (IntKind.i64.wrap b ≥ (32 : Int))) (br (decide (IntKind.i64.wrap b ≤ (126 : Int))) (SV.v (Value.int IntKind.i32 (IntKind.i32.wrap (IntKind.i64.wrap b))) = SV.v (Value.int IntKind.i32 (ofT (1 : Int) b))) (SV.v (Value.int IntKind.i32 (65533
 : Int)) = SV.v (Value.int IntKind.i32 (ofT (1 : Int) b)))) (SV.v (Value.int IntKind.i32 (65533 : Int)) = SV.v (Value.int IntKind.i32 (ofT (1 : Int) b))))) (by kernel_rfl) ?_
  have e : ofT 1 b = if 32 ≤ b ∧ b ≤ 126 then b else 65533 := by simp [ofT, plainT]
  have hw : IntKind.i64.wrap b = b := wrap64 (by omega) (by omega)
  have hw2 : IntKind.i32.wrap b = b := IntWalk.i32_in _ ⟨by omega, by omega⟩
  simp only [hw, hw2, e, br_iff, rq_iff, nbeq, SV.v.injEq, Value.int.injEq, true_and, and_true, decide_eq_true_eq, decide_eq_false_iff_not]
  repeat' (first | intro _ | refine And.intro ?_ ?_)
  all_goals (split <;> omega)
set_option maxHeartbeats 4000000 in
theorem rOf3 (b : Int) (h0 : 0 ≤ b) (h1 : b ≤ 255) : rOfAsk 3 b := by
  unfold rOfAsk
  refine kcast (B := (br (decide (IntKind.i64.wrap b ≥ (32 : Int))) (br (decide (IntKind.i64.wrap b ≤ (126 : Int))) (br (decide (IntKind.i64.wrap b ≥ (94 : Int))) (br (decide (IntKind.i64.wrap b ≤ (96 : Int))) (SV.v (Value.int IntKind.i32 (32 : Int)) = SV.v (Value.int
 IntKind.i32 (ofT (3 : Int) b))) (br (decide (IntKind.i64.wrap b ≥ (97 : Int))) (br (decide (IntKind.i64.wrap b ≤ (126 : Int))) (rq (decide ((0 : Int) ≤ IntKind.i64.wrap (IntKind.i64.wrap b - (97 : Int)) ∧ IntKind.i64.wrap (IntKind.i64.wrap b - (97 :
 Int)) < (30 : Int))) (rq (((0 : Nat) + (IntKind.i64.wrap (IntKind.i64.wrap b - (97 : Int))).toNat * (1 : Nat)).blt (30 : Nat)) (SV.v (Value.int IntKind.i32 ((LI [(9608 : Int), (8543 : Int), (179 : Int), (8309 : Int), (8311 : Int), (176 : Int), (177 :
 Int), (8594 : Int), (8230 : Int), (247 : Int), (8595 : Int), (9620 : Int), (9146 : Int), (9147 : Int), (9473 : Int), (9472 : Int), (9476 : Int), (9148 : Int), (9149 : Int), (8320 : Int), (8321 : Int), (8322 : Int), (8323 : Int), (8324 : Int), (8325 :
 Int), (8326 : Int), (8327 : Int), (8328 : Int), (8329 : Int), (182 : Int)]).getD ((0 : Nat) + (IntKind.i64.wrap (IntKind.i64.wrap b - (97 : Int))).toNat * (1 : Nat)) (0 : Int))) = SV.v (Value.int IntKind.i32 (ofT (3 : Int) b))))) (SV.v (Value.int
 IntKind.i32 (IntKind.i32.wrap (IntKind.i64.wrap b))) = SV.v (Value.int IntKind.i32 (ofT (3 : Int) b)))) (SV.v (Value.int IntKind.i32 (IntKind.i32.wrap (IntKind.i64.wrap b))) = SV.v (Value.int IntKind.i32 (ofT (3 : Int) b))))) (br (decide
 (IntKind.i64.wrap b ≥ (97 : Int))) (br (decide (IntKind.i64.wrap b ≤ (126 : Int))) (rq (decide ((0 : Int) ≤ IntKind.i64.wrap (IntKind.i64.wrap b - (97 : Int)) ∧ IntKind.i64.wrap (IntKind.i64.wrap b - (97 : Int)) < (30 : Int))) (rq (((0 : Nat) +
 (IntKind.i64.wrap (IntKind.i64.wrap b - (97 : Int))).toNat * (1 : Nat)).blt (30 : Nat)) (SV.v (Value.int IntKind.i32 ((LI [(9608 : Int), (8543 : Int), (179 : Int), (8309 : Int), (8311 : Int), (176 : Int), (177 : Int), (8594 : Int), (8230 : Int), (247
 : Int), (8595 : Int), (9620 : Int), (9146 : Int), (9147 : Int), (9473 : Int), (9472 : Int), (9476 : Int), (9148 : Int), (9149 : Int), (8320 : Int), (8321 : Int), (8322 : Int), (8323 : Int), (8324 : Int), (8325 : Int), (8326 : Int), (8327 : Int),
 (8328 : Int), (8329 : Int), (182 : Int)]).getD ((0 : Nat) + (IntKind.i64.wrap (IntKind.i64.wrap b - (97 : Int))).toNat * (1 : Nat)) (0 : Int))) = SV.v (Value.int IntKind.i32 (ofT (3 : Int) b))))) (SV.v (Value.int IntKind.i32 (IntKind.i32.wrap
 (IntKind.i64.wrap b))) = SV.v (Value.int IntKind.i32 (ofT (3 : Int) b)))) (SV.v (Value.int IntKind.i32 (IntKind.i32.wrap (IntKind.i64.wrap b))) = SV.v (Value.int IntKind.i32 (ofT (3 : Int) b))))) (br (decide (IntKind.i64.wrap b ≥ (94 : Int))) (br
 (decide (IntKind.i64.wrap b ≤ (96 : Int))) (SV.v (Value.int IntKind.i32 (32 : Int)) = SV.v (Value.int IntKind.i32 (ofT (3 : Int) b))) (br (decide (IntKind.i64.wrap b ≥ (97 : Int))) (br (decide (IntKind.i64.wrap b ≤ (126 : Int))) (rq (decide ((0 :
 Int) ≤ IntKind.i64.wrap (IntKind.i64.wrap b - (97 : Int)) ∧ IntKind.i64.wrap (IntKind.i64.wrap b - (97 : Int)) < (30 : Int))) (rq (((0 : Nat) + (IntKind.i64.wrap (IntKind.i64.wrap b - (97 : Int))).toNat * (1 : Nat)).blt (30 : Nat)) (SV.v (Value.int
 IntKind.i32 ((LI [(9608 : Int), (8543 : Int), (179 : Int), (8309 : Int), (8311 : Int), (176 : Int), (177 : Int), (8594 : Int), (8230 : Int), (247 : Int), (8595 : Int), (9620 : Int), (9146 : Int), (9147 : Int), (9473 : Int), (9472 : Int), (9476 :
 Int), (9148 : Int), (9149 : Int), (8320 : Int), (8321 : Int), (8322 : Int), (8323 : Int), (8324 : Int), (8325 : Int), (8326 : Int), (8327 : Int), (8328 : Int), (8329 : Int), (182 : Int)]).getD ((0 : Nat) + (IntKind.i64.wrap (IntKind.i64.wrap b - (97
 : Int))).toNat * (1 : Nat)) (0 : Int))) = SV.v (Value.int IntKind.i32 (ofT (3 : Int) b))))) (SV.v (Value.int IntKind.i32 (65533 : Int)) = SV.v (Value.int IntKind.i32 (ofT (3 : Int) b)))) (SV.v (Value.int IntKind.i32 (65533 : Int)) = SV.v (Value.int
 IntKind.i32 (ofT (3 : Int) b))))) (br (decide (IntKind.i64.wrap b ≥ (97 : Int))) (br (decide (IntKind.i64.wrap b ≤ (126 : Int))) (rq (decide ((0 : Int) ≤ IntKind.i64.wrap (IntKind.i64.wrap b - (97 : Int)) ∧ IntKind.i64.wrap (IntKind.i64.wrap b - (97
 : Int)) < (30 : Int))) (rq (((0 : Nat) + (IntKind.i64.wrap (IntKind.i64.wrap b - (97 : Int))).toNat * (1 : Nat)).blt (30 : Nat)) (SV.v (Value.int IntKind.i32 ((LI [(9608 : Int), (8543 : Int), (179 : Int), (8309 : Int), (8311 : Int), (176 : Int), (177
 : Int), (8594 : Int), (8230 : Int), (247 : Int), (8595 : Int), (9620 : Int), (9146 : Int), (9147 : Int), (9473 : Int), (9472 : Int), (9476 : Int), (9148 : Int), (9149 : Int), (8320 : Int), (8321 : Int), (8322 : Int), (8323 : Int), (8324 : Int), (8325
 : Int), (8326 : Int), (8327 : Int), (8328 : Int), (8329 : Int), (182 : Int)]).getD ((0 : Nat) + (IntKind.i64.wrap (IntKind.i64.wrap b - (97 : Int))).toNat * (1 : Nat)) (0 : Int))) = SV.v (Value.int IntKind.i32 (ofT (3 : Int) b))))) (SV.v (Value.int
 IntKind.i32 (65533 : Int)) = SV.v (Value.int IntKind.i32 (ofT (3 : Int) b)))) (SV.v (Value.int IntKind.i32 (65533 : Int)) = SV.v (Value.int IntKind.i32 (ofT (3 : Int) b)))))) (br (decide (IntKind.i64.wrap b ≥ (94 : Int))) (br (decide
 (IntKind.i64.wrap b ≤ (96 : Int))) (SV.v (Value.int IntKind.i32 (32 : Int)) = SV.v (Value.int IntKind.i32 (ofT (3 : Int) b))) (br (decide (IntKind.i64.wrap b ≥ (97 : Int))) (br (decide (IntKind.i64.wrap b ≤ (126 : Int))) (rq (decide ((0 : Int) ≤
 IntKind.i64.wrap (IntKind.i64.wrap b - (97 : Int)) ∧ IntKind.i64.wrap (IntKind.i64.wrap b - (97 : Int)) < (30 : Int))) (rq (((0 : Nat) + (IntKind.i64.wrap (IntKind.i64.wrap b - (97 : Int))).toNat * (1 : Nat)).blt (30 : Nat)) (SV.v (Value.int
 IntKind.i32 ((LI [(9608 : Int), (8543 : Int), (179 : Int), (8309 : Int), (8311 : Int), (176 : Int), (177 : Int), (8594 : Int), (8230 : Int), (247 : Int), (8595 : Int), (9620 : Int), (9146 : Int), (9147 : Int), (9473 : Int), (9472 : Int), (9476 :
 Int), (9148 : Int), (9149 : Int), (8320 : Int), (8321 : Int), (8322 : Int), (8323 : Int), (8324 : Int), (8325 : Int), (8326 : Int), (8327 : Int), (8328 : Int), (8329 : Int), (182 : Int)]).getD ((0 : Nat) + (IntKind.i64.wrap (IntKind.i64.wrap b - (97
 : Int))).toNat * (1 : Nat)) (0 : Int))) = SV.v (Value.int IntKind.i32 (ofT (3 : Int) b))))) (SV.v (Value.int IntKind.i32 (65533 : Int)) = SV.v (Value.int IntKind.i32 (ofT (3 : Int) b)))) (SV.v (Value.int IntKind.i32 (65533 : Int)) = SV.v (Value.int
 IntKind.i32 (ofT (3 : Int) b))))) (br (decide (IntKind.i64.wrap b ≥ (97 : Int))) (br (decide (IntKind.i64.wrap b ≤ (126 : Int))) (rq (decide ((0 : Int) ≤ IntKind.i64.wrap (IntKind.i64.wrap b - (97 : Int)) ∧ IntKind.i64.wrap (IntKind.i64.wrap b - (97
 : Int)) < (30 : Int))) (rq (((0 : Nat) + (IntKind.i64.wrap (IntKind.i64.wrap b - (97 : Int))).toNat * (1 : Nat)).blt (30 : Nat)) (SV.v (Value.int IntKind.i32 ((LI [(9608 : Int), (8543 : Int), (179 : Int), (8309 : Int), (8311 : Int), (176 : Int), (177
 : Int), (8594 : Int), (8230 : Int), (247 : Int), (8595 : Int), (9620 : Int), (9146 : Int), (9147 : Int), (9473 : Int), (9472 : Int), (9476 : Int), (9148 : Int), (9149 : Int), (8320 : Int), (8321 : Int), (8322 : Int), (8323 : Int), (8324 : Int), (8325
 : Int), (8326 : Int), (8327 : Int), (8328 : Int), (8329 : Int), (182 : Int)]).getD ((0 : Nat) + (IntKind.i64.wrap (IntKind.i64.wrap b - (97 : Int))).toNat * (1 : Nat)) (0 : Int))) = SV.v (Value.int IntKind.i32 (ofT (3 : Int) b))))) (SV.v (Value.int
 IntKind.i32 (65533 : Int)) = SV.v (Value.int IntKind.i32 (ofT (3 : Int) b)))) (SV.v (Value.int IntKind.i32 (65533 : Int)) = SV.v (Value.int IntKind.i32 (ofT (3 : Int) b))))))) (by kernel_rfl) ?_
  have e : ofT 3 b = if 94 ≤ b ∧ b ≤ 96 then 32 else if 97 ≤ b ∧ b ≤ 126 then graphL.getD (b - 97).toNat 0 else if 32 ≤ b ∧ b ≤ 126 then b else 65533 := by simp [ofT, plainT]
  have hw : IntKind.i64.wrap b = b := wrap64 (by omega) (by omega)
  have hw1 : IntKind.i64.wrap (b - 97) = b - 97 := wrap64 (by omega) (by omega)
  have hw2 : IntKind.i32.wrap b = b := IntWalk.i32_in _ ⟨by omega, by omega⟩
  have hg : ∀ k : Nat, (LI [9608, 8543, 179, 8309, 8311, 176, 177, 8594, 8230, 247, 8595, 9620, 9146, 9147, 9473, 9472, 9476, 9148, 9149, 8320, 8321, 8322, 8323, 8324, 8325, 8326, 8327, 8328, 8329, 182]).getD (0 + k * 1) 0 = graphL.getD k 0 := fun k => by rw [Nat.zero_add, Nat.mul_one]; rfl
  simp only [hw, hw1, hw2, hg, e, br_iff, rq_iff, nbeq, SV.v.injEq, Value.int.injEq, true_and, and_true, decide_eq_true_eq, decide_eq_false_iff_not, Nat.blt_eq]
  repeat' (first | intro _ | refine And.intro ?_ ?_)
  all_goals first
    | omega
    | (rw [if_pos (by omega)])
    | (rw [if_neg (by omega), if_pos (by omega)])
    | (rw [if_neg (by omega), if_neg (by omega), if_pos (by omega)])
    | (rw [if_neg (by omega), if_neg (by omega), if_neg (by omega)])
set_option maxHeartbeats 4000000 in
theorem ok_rOf : PureOk Tryz.prog 85 psROf := by
  refine pureOk_all (fun _ => allCfg Tryz.prog [] [] 0) (fun _ _ => allCfg_ok mixed trivial trivial) (fun _ => rfl) (n := 60) Tryz.func85 (fun _ => rfl) (fun _ => rfl) ?_
  intro ⟨set, b⟩ hφ
  obtain ⟨rfl | rfl, hb0, hb1⟩ := hφ
  · exact rOf1 b hb0 hb1
  · exact rOf3 b hb0 hb1
def purD : List (Nat × PS) := [(85, psROf)]
theorem purD_ok : Pures Tryz.prog purD := ⟨ok_rOf, trivial⟩
end Go.Proofs.YtcbjgpkbfmmdpaaGreatDoor
namespace Go.Proofs.YtcbjgpkbfmmdpaaGreatDoor
open Go Go.Sym
def shArg (j : Nat) : ShL (Unit × Int) := shCons (shP j) (shOne (shInt .u8))
def newD (R C mo : Int) : Dt := ⟨R, C, List.replicate (R * C).toNat 32, 0, 0, 0, false, false, false, ByteArray.empty, ByteArray.empty, mo, false⟩
def lcDNew : ACon Unit := mkLC (decP (shCons shI (shCons shI (shOne shI))) shHNil) fun ((R, C, mo), _) => .ask (1 ≤ R ∧ R ≤ 255 ∧ 1 ≤ C ∧ C ≤ 255) (.one (.p 0 0) (dtI 0 (newD R C mo)) [])
set_option maxHeartbeats 4000000 in
theorem ok_dNew : ∀ I : Sym.Inv Unit, LCOk I Tryz.prog 7 lcDNew := by
  refine lc_mk (fun ((R, C, mo), _) => allCfg Tryz.prog [] [] 0 [(199, annDR 1 (R * C).toNat 0)]) (fun _ _ => allCfg_ok mixed trivial trivial) (fun _ => rfl) (n := 60) Tryz.func7 ?_
  intro ⟨⟨R, C, mo⟩, _⟩ hφ
  obtain ⟨⟨r0, r1, c0, c1⟩, hp⟩ := id hφ
  refine kcast (B := (rq (decide ((0 : Int) ≤ IntKind.i64.wrap (R * C) ∧ IntKind.i64.wrap (R * C) ≤ IntKind.i64.wrap (R * C) ∧ (↑(4 : Nat) : Int) * IntKind.i64.wrap (R * C) ≤ (281474976710656 : Int) ∧ IntKind.i64.wrap (R * C) ≤ (9223372036854775807 : Int))) ((II (0 :
 Int) ≤ (0 : Int) ∧ (0 : Int) ≤ (↑(R * C).toNat : Int)) ∧ ((SV.p 0 0 = SV.p 0 0 ∧ vI (0 : Int) = vI (0 : Int) ∧ True) ∧ (vI R = vI R ∧ vI C = vI C ∧ SV.h 1 [0, 0] = SV.h 1 [0, 0] ∧ vI (0 : Int) = vI (0 : Int) ∧ vI (0 : Int) = vI (0 : Int) ∧ vB false =
 vB false ∧ vB false = vB false ∧ vB false = vB false ∧ vS (ByteArray.mk #[]) = vS (ByteArray.mk #[]) ∧ vS (ByteArray.mk #[]) = vS (ByteArray.mk #[]) ∧ vI mo = vI mo ∧ vB false = vB false ∧ True) ∧ ((IntKind.i64.wrap (R * C)).toNat = (R * C).toNat ∧
 (0 : Nat) = (0 : Nat) ∧ List.replicate ((IntKind.i64.wrap (R * C)).toNat * (1 : Nat)) (0 : Int) = fiL (R * C).toNat (0 : Nat)) ∧ True) ∧ ∀ (x : Int), (0 : Int) ≤ x ∧ x ≤ (↑(R * C).toNat : Int) → br (decide (x < (↑(R * C).toNat : Int))) (rq (true &&
 (Nat.beq (1 : Nat) (1 : Nat) && decide ((0 : Int) ≤ x ∧ x < (↑(R * C).toNat : Int)))) (rq (true && x.toNat.blt (fiL (R * C).toNat x.toNat).length) (((0 : Int) ≤ IntKind.i64.wrap (x + (1 : Int)) ∧ IntKind.i64.wrap (x + (1 : Int)) ≤ (↑(R * C).toNat :
 Int)) ∧ ((SV.p 0 0 = SV.p 0 0 ∧ vI (IntKind.i64.wrap (x + (1 : Int))) = vI (IntKind.i64.wrap (x + (1 : Int))) ∧ True) ∧ (vI R = vI R ∧ vI C = vI C ∧ SV.h 1 [0, 0] = SV.h 1 [0, 0] ∧ vI (0 : Int) = vI (0 : Int) ∧ vI (0 : Int) = vI (0 : Int) ∧ vB false
 = vB false ∧ vB false = vB false ∧ vB false = vB false ∧ vS (ByteArray.mk #[]) = vS (ByteArray.mk #[]) ∧ vS (ByteArray.mk #[]) = vS (ByteArray.mk #[]) ∧ vI mo = vI mo ∧ vB false = vB false ∧ True) ∧ ((R * C).toNat = (R * C).toNat ∧ (0 : Nat) = (0 :
 Nat) ∧ (fiL (R * C).toNat x.toNat).set x.toNat (32 : Int) = fiL (R * C).toNat (IntKind.i64.wrap (x + (1 : Int))).toNat) ∧ True) ∧ ((↑(R * C).toNat : Int) - IntKind.i64.wrap (x + (1 : Int))).toNat < ((↑(R * C).toNat : Int) - x).toNat))) ((SV.p 0 0 =
 SV.p 0 0 ∧ True) ∧ (vI R = vI R ∧ vI C = vI C ∧ SV.h 1 [0, 0] = SV.h 1 [0, 0] ∧ vI (0 : Int) = vI (0 : Int) ∧ vI (0 : Int) = vI (0 : Int) ∧ vB false = vB false ∧ vB false = vB false ∧ vB false = vB false ∧ vS (ByteArray.mk #[]) = vS ByteArray.empty ∧
 vS (ByteArray.mk #[]) = vS ByteArray.empty ∧ vI mo = vI mo ∧ vB false = vB false ∧ True) ∧ ((R * C).toNat = (List.replicate (R * C).toNat (32 : Int)).length ∧ (0 : Nat) = (0 : Nat) ∧ fiL (R * C).toNat x.toNat = List.replicate (R * C).toNat (32 :
 Int)) ∧ True)))) (by kernel_rfl) ?_
  clear hp hφ
  have hA := area r0 r1 c0 c1
  have hw : IntKind.i64.wrap (R * C) = R * C := wrap64 (by omega) (by omega)
  rw [hw]
  simp only [rq_iff, br_iff, II, nbeq, fiL_length, Bool.true_and, decide_eq_true_eq, decide_eq_false_iff_not, Nat.blt_eq, true_and, and_true, and_self, Nat.mul_one, fiL_zero, fiL_set]
  refine ⟨⟨by omega, Int.le_refl _, by omega, by omega⟩, ⟨Int.le_refl 0, by omega⟩, fun x ⟨hx0, hx1⟩ => ⟨fun hlt => ⟨⟨hx0, hlt⟩, by omega, ?_⟩, fun hge => ⟨rfl, by simp, ?_⟩⟩⟩
  · rw [wrap64 (x := x + 1) (by omega) (by omega), show (x + 1).toNat = x.toNat + 1 by omega]
    exact ⟨⟨by omega, by omega⟩, rfl, by omega⟩
  · rw [show x.toNat = (R * C).toNat by omega]
    exact fiL_all _
def mxI (x : Int) : Int := if x ≤ 0 then 0 else x - 1
def mnI (x n : Int) : Int := if n - 1 < x + 1 then n - 1 else x + 1
def puD (d : Dt) (b : Int) : Dt := { d with L := d.L.set (d.row * d.C + d.col).toNat (ofT (if d.G = true then 3 else 1) b), col := mnI d.col d.C }
def puDX (x : DR) (b : Int) : Dt := puD (dtS x) b
def lcDPut : ACon Unit := mkLC (decP (shArg 0) (shDt 0)) fun ((_, b), x) => .ask (DA x ∧ 0 ≤ b ∧ b ≤ 255) (.one (.t []) (dtI 0 (puDX x b)) [0, 1])
set_option maxHeartbeats 4000000 in
theorem ok_dPut : ∀ I : Sym.Inv Unit, LCOk I Tryz.prog 52 lcDPut := by
  refine lc_mk (fun _ => allCfg Tryz.prog purD [] 0) (fun _ _ => allCfg_ok mixed purD_ok trivial) (fun _ => rfl) (n := 60) Tryz.func52 ?_
  intro ⟨⟨_, b⟩, ⟨R, C, le2, row, col, G, K, Ho, pre, out, mo, ov⟩, ⟨L, n, le⟩⟩ hφ
  obtain ⟨⟨⟨rfl, rfl, hI⟩, hb0, hb1⟩, hp⟩ := id hφ
  refine kcast (B := (br G ((((3 : Int) = (1 : Int) ∨ (3 : Int) = (3 : Int)) ∧ (0 : Int) ≤ b ∧ b ≤ (255 : Int)) ∧ rq (le2.beq le2 && (true && decide ((0 : Int) ≤ IntKind.i64.wrap (IntKind.i64.wrap (row * C) + col) ∧ IntKind.i64.wrap (IntKind.i64.wrap (row * C) + col) <
 (↑L.length : Int)))) (rq (le2.beq le2 && (IntKind.i64.wrap (IntKind.i64.wrap (row * C) + col)).toNat.blt L.length) ((SV.t [] = SV.t [] ∧ True) ∧ (vI R = vI R ∧ vI C = vI C ∧ SV.h 1 [le2, 0] = SV.h 1 [le2, 0] ∧ vI row = vI row ∧ vI (if
 IntKind.i64.wrap (C - (1 : Int)) < IntKind.i64.wrap (col + (1 : Int)) then IntKind.i64.wrap (C - (1 : Int)) else IntKind.i64.wrap (col + (1 : Int))) = vI (mnI col C) ∧ vB G = vB G ∧ vB K = vB K ∧ vB Ho = vB Ho ∧ vS pre = vS pre ∧ vS out = vS out ∧ vI
 mo = vI mo ∧ vB ov = vB ov ∧ True) ∧ (L.length = (L.set (row * C + col).toNat (ofT (if G = true then (3 : Int) else (1 : Int)) b)).length ∧ le2 = le2 ∧ L.set (IntKind.i64.wrap (IntKind.i64.wrap (row * C) + col)).toNat (ofT (3 : Int) b) = L.set (row *
 C + col).toNat (ofT (if G = true then (3 : Int) else (1 : Int)) b)) ∧ True))) ((((1 : Int) = (1 : Int) ∨ (1 : Int) = (3 : Int)) ∧ (0 : Int) ≤ b ∧ b ≤ (255 : Int)) ∧ rq (le2.beq le2 && (true && decide ((0 : Int) ≤ IntKind.i64.wrap (IntKind.i64.wrap
 (row * C) + col) ∧ IntKind.i64.wrap (IntKind.i64.wrap (row * C) + col) < (↑L.length : Int)))) (rq (le2.beq le2 && (IntKind.i64.wrap (IntKind.i64.wrap (row * C) + col)).toNat.blt L.length) ((SV.t [] = SV.t [] ∧ True) ∧ (vI R = vI R ∧ vI C = vI C ∧
 SV.h 1 [le2, 0] = SV.h 1 [le2, 0] ∧ vI row = vI row ∧ vI (if IntKind.i64.wrap (C - (1 : Int)) < IntKind.i64.wrap (col + (1 : Int)) then IntKind.i64.wrap (C - (1 : Int)) else IntKind.i64.wrap (col + (1 : Int))) = vI (mnI col C) ∧ vB G = vB G ∧ vB K =
 vB K ∧ vB Ho = vB Ho ∧ vS pre = vS pre ∧ vS out = vS out ∧ vI mo = vI mo ∧ vB ov = vB ov ∧ True) ∧ (L.length = (L.set (row * C + col).toNat (ofT (if G = true then (3 : Int) else (1 : Int)) b)).length ∧ le2 = le2 ∧ L.set (IntKind.i64.wrap
 (IntKind.i64.wrap (row * C) + col)).toNat (ofT (1 : Int) b) = L.set (row * C + col).toNat (ofT (if G = true then (3 : Int) else (1 : Int)) b)) ∧ True))))) (by kernel_rfl) ?_
  clear hp hφ
  have r0 := hI.r0
  have r1 := hI.r1
  have c0 := hI.c0
  have c1 := hI.c1
  have hlen := hI.len
  have rw0 := hI.row0
  have rw1 := hI.row1
  have cl0 := hI.col0
  have cl1 := hI.col1
  have hout := hI.out
  have hmo := hI.mo
  simp only at r0 r1 c0 c1 hlen rw0 rw1 cl0 cl1 hout hmo
  have hA := area r0 r1 c0 c1
  have hP := place rw0 rw1 cl0 cl1
  have hDA : DA ((R, C, le2, row, col, G, K, Ho, pre, out, mo, ov), OI.mk L L.length le2) := ⟨rfl, rfl, hI⟩
  have hrc : 0 ≤ row * C := Int.mul_nonneg rw0 (by omega)
  have w1 : IntKind.i64.wrap (row * C) = row * C := wrap64 (by omega) (by omega)
  have w2 : IntKind.i64.wrap (row * C + col) = row * C + col := wrap64 (by omega) (by omega)
  have w3 : IntKind.i64.wrap (col + 1) = col + 1 := wrap64 (by omega) (by omega)
  have w4 : IntKind.i64.wrap (C - 1) = C - 1 := wrap64 (by omega) (by omega)
  have w5 : IntKind.i64.wrap (col - 1) = col - 1 := wrap64 (by omega) (by omega)
  have w6 : IntKind.i64.wrap (row + 1) = row + 1 := wrap64 (by omega) (by omega)
  have w7 : IntKind.i64.wrap (row - 1) = row - 1 := wrap64 (by omega) (by omega)
  have w8 : IntKind.i64.wrap (R - 1) = R - 1 := wrap64 (by omega) (by omega)
  have w9 : IntKind.i64.wrap ((L.length : Int) - 1) = L.length - 1 := wrap64 (by omega) (by omega)
  have w10 : IntKind.i64.wrap (row * C + C) = row * C + C := wrap64 (by omega) (by omega)
  have w11 : IntKind.i64.wrap (row * C + C - 1) = row * C + C - 1 := wrap64 (by omega) (by omega)
  have w12 : IntKind.i64.wrap ((out.size : Int) + 3) = out.size + 3 := wrap64 (by omega) (by omega)
  simp only [w1, w2, w3, w4, w5, w6, w7, w8, w9, w10, w11, w12, rq_iff, br_iff, II, nbeq, Bool.true_and, decide_eq_true_eq, decide_eq_false_iff_not, Nat.blt_eq, true_and, and_true, and_self, Nat.mul_one]
  cases G
  · exact ⟨fun h => absurd h (by decide), fun _ => ⟨⟨Or.inl trivial, hb0, hb1⟩, ⟨hP.1, by omega⟩, by omega, rfl, by simp, rfl⟩⟩
  · exact ⟨fun _ => ⟨⟨Or.inr trivial, hb0, hb1⟩, ⟨hP.1, by omega⟩, by omega, rfl, by simp, rfl⟩, fun h => absurd h (by decide)⟩
def tbI (c n : Int) : Int := if n ≤ c - c % 8 + 8 then mnI c n else c - c % 8 + 8
def escB : ByteArray := ⟨#[27]⟩
def ctD (d : Dt) (b : Int) : Dt :=
  if b = 8 then { d with col := mxI d.col }
  else if b = 9 then { d with col := tbI d.col d.C }
  else if b = 10 then (if d.row = d.R - 1 then scD d true else { d with row := d.row + 1 })
  else if b = 13 then { d with col := 0 }
  else if b = 27 then { d with pre := escB }
  else d
def ctDX (x : DR) (b : Int) : Dt := ctD (dtS x) b
def annTb (c : Int) : Ann Unit where
  α := Int
  φ _ i := c + 1 ≤ i ∧ i ≤ c - c % 8 + 8
  μ _ i := (c - c % 8 + 8 - i).toNat
  get st := getI st.tm 4
  f st i := tmpl [0, 5] [(4, .v (.int .i64 i))] [] st
def tabA12 : List (Nat × ACon Unit) := (86, lcDScroll) :: (87, lcDWipe) :: (52, lcDPut) :: []
theorem tabA12_ok : LCs Tryz.prog tabA12 := ⟨ok_dScroll, ok_dWipe, ok_dPut, trivial⟩
def lcDCtl : ACon Unit := mkLC (decP (shArg 0) (shDt 0)) fun ((_, b), x) => .ask (DA x ∧ 0 ≤ b ∧ b ≤ 255) (.one (.t []) (dtI 0 (ctDX x b)) [0, 1])
set_option maxHeartbeats 4000000 in
theorem ok_dCtl : ∀ I : Sym.Inv Unit, LCOk I Tryz.prog 53 lcDCtl := by
  refine lc_mk (fun (_, x) => allCfg Tryz.prog [] tabA12 0 [(387, annTb (dtS x).col)]) (fun _ _ => allCfg_ok mixed trivial tabA12_ok) (fun _ => rfl) (n := 60) Tryz.func53 ?_
  intro ⟨⟨_, b⟩, ⟨R, C, le2, row, col, G, K, Ho, pre, out, mo, ov⟩, ⟨L, n, le⟩⟩ hφ
  obtain ⟨⟨⟨rfl, rfl, hI⟩, hb0, hb1⟩, hp⟩ := id hφ
  refine kcast (B := (br (b == (8 : Int)) ((SV.t [] = SV.t [] ∧ True) ∧ (vI R = vI (ctDX ((R, C, le2, row, col, G, K, Ho, pre, out, mo, ov), OI.mk L L.length le2) b).R ∧ vI C = vI (ctDX ((R, C, le2, row, col, G, K, Ho, pre, out, mo, ov), OI.mk L L.length le2) b).C ∧ SV.h
 1 [le2, 0] = SV.h 1 [(ctDX ((R, C, le2, row, col, G, K, Ho, pre, out, mo, ov), OI.mk L L.length le2) b).le, 0] ∧ vI row = vI (ctDX ((R, C, le2, row, col, G, K, Ho, pre, out, mo, ov), OI.mk L L.length le2) b).row ∧ vI (if (0 : Int) > IntKind.i64.wrap
 (col - (1 : Int)) then (0 : Int) else IntKind.i64.wrap (col - (1 : Int))) = vI (ctDX ((R, C, le2, row, col, G, K, Ho, pre, out, mo, ov), OI.mk L L.length le2) b).col ∧ vB G = vB (ctDX ((R, C, le2, row, col, G, K, Ho, pre, out, mo, ov), OI.mk L
 L.length le2) b).G ∧ vB K = vB (ctDX ((R, C, le2, row, col, G, K, Ho, pre, out, mo, ov), OI.mk L L.length le2) b).K ∧ vB Ho = vB (ctDX ((R, C, le2, row, col, G, K, Ho, pre, out, mo, ov), OI.mk L L.length le2) b).Ho ∧ vS pre = vS (ctDX ((R, C, le2,
 row, col, G, K, Ho, pre, out, mo, ov), OI.mk L L.length le2) b).pre ∧ vS out = vS (ctDX ((R, C, le2, row, col, G, K, Ho, pre, out, mo, ov), OI.mk L L.length le2) b).out ∧ vI mo = vI (ctDX ((R, C, le2, row, col, G, K, Ho, pre, out, mo, ov), OI.mk L
 L.length le2) b).mo ∧ vB ov = vB (ctDX ((R, C, le2, row, col, G, K, Ho, pre, out, mo, ov), OI.mk L L.length le2) b).ov ∧ True) ∧ (L.length = (ctDX ((R, C, le2, row, col, G, K, Ho, pre, out, mo, ov), OI.mk L L.length le2) b).L.length ∧ le2 = (ctDX
 ((R, C, le2, row, col, G, K, Ho, pre, out, mo, ov), OI.mk L L.length le2) b).le ∧ L = (ctDX ((R, C, le2, row, col, G, K, Ho, pre, out, mo, ov), OI.mk L L.length le2) b).L) ∧ True) (br (b == (9 : Int)) ((col + (1 : Int) ≤ IntKind.i64.wrap (col + (1 :
 Int)) ∧ IntKind.i64.wrap (col + (1 : Int)) ≤ col - col % (8 : Int) + (8 : Int)) ∧ ((SV.p 0 0 = SV.p 0 0 ∧ vI (IntKind.i64.wrap (col + (1 : Int))) = vI (IntKind.i64.wrap (col + (1 : Int))) ∧ SV.v (Value.int IntKind.u8 b) = SV.v (Value.int IntKind.u8
 b) ∧ True) ∧ (vI R = vI R ∧ vI C = vI C ∧ SV.h 1 [le2, 0] = SV.h 1 [le2, 0] ∧ vI row = vI row ∧ vI col = vI col ∧ vB G = vB G ∧ vB K = vB K ∧ vB Ho = vB Ho ∧ vS pre = vS pre ∧ vS out = vS out ∧ vI mo = vI mo ∧ vB ov = vB ov ∧ True) ∧ (L.length =
 L.length ∧ le2 = le2 ∧ L = L) ∧ True) ∧ ∀ (x : Int), col + (1 : Int) ≤ x ∧ x ≤ col - col % (8 : Int) + (8 : Int) → br (x.tmod (8 : Int) != (0 : Int)) ((col + (1 : Int) ≤ IntKind.i64.wrap (x + (1 : Int)) ∧ IntKind.i64.wrap (x + (1 : Int)) ≤ col - col
 % (8 : Int) + (8 : Int)) ∧ ((SV.p 0 0 = SV.p 0 0 ∧ vI (IntKind.i64.wrap (x + (1 : Int))) = vI (IntKind.i64.wrap (x + (1 : Int))) ∧ SV.v (Value.int IntKind.u8 b) = SV.v (Value.int IntKind.u8 b) ∧ True) ∧ (vI R = vI R ∧ vI C = vI C ∧ SV.h 1 [le2, 0] =
 SV.h 1 [le2, 0] ∧ vI row = vI row ∧ vI col = vI col ∧ vB G = vB G ∧ vB K = vB K ∧ vB Ho = vB Ho ∧ vS pre = vS pre ∧ vS out = vS out ∧ vI mo = vI mo ∧ vB ov = vB ov ∧ True) ∧ (L.length = L.length ∧ le2 = le2 ∧ L = L) ∧ True) ∧ (col - col % (8 : Int) +
 (8 : Int) - IntKind.i64.wrap (x + (1 : Int))).toNat < (col - col % (8 : Int) + (8 : Int) - x).toNat) (br (decide (x ≥ C)) ((SV.t [] = SV.t [] ∧ True) ∧ (vI R = vI (ctDX ((R, C, le2, row, col, G, K, Ho, pre, out, mo, ov), OI.mk L L.length le2) b).R ∧
 vI C = vI (ctDX ((R, C, le2, row, col, G, K, Ho, pre, out, mo, ov), OI.mk L L.length le2) b).C ∧ SV.h 1 [le2, 0] = SV.h 1 [(ctDX ((R, C, le2, row, col, G, K, Ho, pre, out, mo, ov), OI.mk L L.length le2) b).le, 0] ∧ vI row = vI (ctDX ((R, C, le2, row,
 col, G, K, Ho, pre, out, mo, ov), OI.mk L L.length le2) b).row ∧ vI (if IntKind.i64.wrap (C - (1 : Int)) < IntKind.i64.wrap (col + (1 : Int)) then IntKind.i64.wrap (C - (1 : Int)) else IntKind.i64.wrap (col + (1 : Int))) = vI (ctDX ((R, C, le2, row,
 col, G, K, Ho, pre, out, mo, ov), OI.mk L L.length le2) b).col ∧ vB G = vB (ctDX ((R, C, le2, row, col, G, K, Ho, pre, out, mo, ov), OI.mk L L.length le2) b).G ∧ vB K = vB (ctDX ((R, C, le2, row, col, G, K, Ho, pre, out, mo, ov), OI.mk L L.length
 le2) b).K ∧ vB Ho = vB (ctDX ((R, C, le2, row, col, G, K, Ho, pre, out, mo, ov), OI.mk L L.length le2) b).Ho ∧ vS pre = vS (ctDX ((R, C, le2, row, col, G, K, Ho, pre, out, mo, ov), OI.mk L L.length le2) b).pre ∧ vS out = vS (ctDX ((R, C, le2, row,
 col, G, K, Ho, pre, out, mo, ov), OI.mk L L.length le2) b).out ∧ vI mo = vI (ctDX ((R, C, le2, row, col, G, K, Ho, pre, out, mo, ov), OI.mk L L.length le2) b).mo ∧ vB ov = vB (ctDX ((R, C, le2, row, col, G, K, Ho, pre, out, mo, ov), OI.mk L L.length
 le2) b).ov ∧ True) ∧ (L.length = (ctDX ((R, C, le2, row, col, G, K, Ho, pre, out, mo, ov), OI.mk L L.length le2) b).L.length ∧ le2 = (ctDX ((R, C, le2, row, col, G, K, Ho, pre, out, mo, ov), OI.mk L L.length le2) b).le ∧ L = (ctDX ((R, C, le2, row,
 col, G, K, Ho, pre, out, mo, ov), OI.mk L L.length le2) b).L) ∧ True) ((SV.t [] = SV.t [] ∧ True) ∧ (vI R = vI (ctDX ((R, C, le2, row, col, G, K, Ho, pre, out, mo, ov), OI.mk L L.length le2) b).R ∧ vI C = vI (ctDX ((R, C, le2, row, col, G, K, Ho,
 pre, out, mo, ov), OI.mk L L.length le2) b).C ∧ SV.h 1 [le2, 0] = SV.h 1 [(ctDX ((R, C, le2, row, col, G, K, Ho, pre, out, mo, ov), OI.mk L L.length le2) b).le, 0] ∧ vI row = vI (ctDX ((R, C, le2, row, col, G, K, Ho, pre, out, mo, ov), OI.mk L
 L.length le2) b).row ∧ vI x = vI (ctDX ((R, C, le2, row, col, G, K, Ho, pre, out, mo, ov), OI.mk L L.length le2) b).col ∧ vB G = vB (ctDX ((R, C, le2, row, col, G, K, Ho, pre, out, mo, ov), OI.mk L L.length le2) b).G ∧ vB K = vB (ctDX ((R, C, le2,
 row, col, G, K, Ho, pre, out, mo, ov), OI.mk L L.length le2) b).K ∧ vB Ho = vB (ctDX ((R, C, le2, row, col, G, K, Ho, pre, out, mo, ov), OI.mk L L.length le2) b).Ho ∧ vS pre = vS (ctDX ((R, C, le2, row, col, G, K, Ho, pre, out, mo, ov), OI.mk L
 L.length le2) b).pre ∧ vS out = vS (ctDX ((R, C, le2, row, col, G, K, Ho, pre, out, mo, ov), OI.mk L L.length le2) b).out ∧ vI mo = vI (ctDX ((R, C, le2, row, col, G, K, Ho, pre, out, mo, ov), OI.mk L L.length le2) b).mo ∧ vB ov = vB (ctDX ((R, C,
 le2, row, col, G, K, Ho, pre, out, mo, ov), OI.mk L L.length le2) b).ov ∧ True) ∧ (L.length = (ctDX ((R, C, le2, row, col, G, K, Ho, pre, out, mo, ov), OI.mk L L.length le2) b).L.length ∧ le2 = (ctDX ((R, C, le2, row, col, G, K, Ho, pre, out, mo,
 ov), OI.mk L L.length le2) b).le ∧ L = (ctDX ((R, C, le2, row, col, G, K, Ho, pre, out, mo, ov), OI.mk L L.length le2) b).L) ∧ True))) (br (b == (10 : Int)) (br (row == IntKind.i64.wrap (R - (1 : Int))) (true = true ∧ DA ((R, C, le2, row, col, G, K,
 Ho, pre, out, mo, ov), OI.mk L L.length le2) ∧ (SV.t [] = SV.t [] ∧ True) ∧ (vI R = vI (ctDX ((R, C, le2, row, col, G, K, Ho, pre, out, mo, ov), OI.mk L L.length le2) b).R ∧ vI C = vI (ctDX ((R, C, le2, row, col, G, K, Ho, pre, out, mo, ov), OI.mk L
 L.length le2) b).C ∧ SV.h 1 [le2 + 1, 0] = SV.h 1 [(ctDX ((R, C, le2, row, col, G, K, Ho, pre, out, mo, ov), OI.mk L L.length le2) b).le, 0] ∧ vI row = vI (ctDX ((R, C, le2, row, col, G, K, Ho, pre, out, mo, ov), OI.mk L L.length le2) b).row ∧ vI col
 = vI (ctDX ((R, C, le2, row, col, G, K, Ho, pre, out, mo, ov), OI.mk L L.length le2) b).col ∧ vB G = vB (ctDX ((R, C, le2, row, col, G, K, Ho, pre, out, mo, ov), OI.mk L L.length le2) b).G ∧ vB K = vB (ctDX ((R, C, le2, row, col, G, K, Ho, pre, out,
 mo, ov), OI.mk L L.length le2) b).K ∧ vB Ho = vB (ctDX ((R, C, le2, row, col, G, K, Ho, pre, out, mo, ov), OI.mk L L.length le2) b).Ho ∧ vS pre = vS (ctDX ((R, C, le2, row, col, G, K, Ho, pre, out, mo, ov), OI.mk L L.length le2) b).pre ∧ vS out = vS
 (ctDX ((R, C, le2, row, col, G, K, Ho, pre, out, mo, ov), OI.mk L L.length le2) b).out ∧ vI mo = vI (ctDX ((R, C, le2, row, col, G, K, Ho, pre, out, mo, ov), OI.mk L L.length le2) b).mo ∧ vB ov = vB (ctDX ((R, C, le2, row, col, G, K, Ho, pre, out,
 mo, ov), OI.mk L L.length le2) b).ov ∧ True) ∧ ((scN L C true L.length).length = (ctDX ((R, C, le2, row, col, G, K, Ho, pre, out, mo, ov), OI.mk L L.length le2) b).L.length ∧ le2 + 1 = (ctDX ((R, C, le2, row, col, G, K, Ho, pre, out, mo, ov), OI.mk L
 L.length le2) b).le ∧ scN L C true L.length = (ctDX ((R, C, le2, row, col, G, K, Ho, pre, out, mo, ov), OI.mk L L.length le2) b).L) ∧ True) ((SV.t [] = SV.t [] ∧ True) ∧ (vI R = vI (ctDX ((R, C, le2, row, col, G, K, Ho, pre, out, mo, ov), OI.mk L
 L.length le2) b).R ∧ vI C = vI (ctDX ((R, C, le2, row, col, G, K, Ho, pre, out, mo, ov), OI.mk L L.length le2) b).C ∧ SV.h 1 [le2, 0] = SV.h 1 [(ctDX ((R, C, le2, row, col, G, K, Ho, pre, out, mo, ov), OI.mk L L.length le2) b).le, 0] ∧ vI
 (IntKind.i64.wrap (row + (1 : Int))) = vI (ctDX ((R, C, le2, row, col, G, K, Ho, pre, out, mo, ov), OI.mk L L.length le2) b).row ∧ vI col = vI (ctDX ((R, C, le2, row, col, G, K, Ho, pre, out, mo, ov), OI.mk L L.length le2) b).col ∧ vB G = vB (ctDX
 ((R, C, le2, row, col, G, K, Ho, pre, out, mo, ov), OI.mk L L.length le2) b).G ∧ vB K = vB (ctDX ((R, C, le2, row, col, G, K, Ho, pre, out, mo, ov), OI.mk L L.length le2) b).K ∧ vB Ho = vB (ctDX ((R, C, le2, row, col, G, K, Ho, pre, out, mo, ov),
 OI.mk L L.length le2) b).Ho ∧ vS pre = vS (ctDX ((R, C, le2, row, col, G, K, Ho, pre, out, mo, ov), OI.mk L L.length le2) b).pre ∧ vS out = vS (ctDX ((R, C, le2, row, col, G, K, Ho, pre, out, mo, ov), OI.mk L L.length le2) b).out ∧ vI mo = vI (ctDX
 ((R, C, le2, row, col, G, K, Ho, pre, out, mo, ov), OI.mk L L.length le2) b).mo ∧ vB ov = vB (ctDX ((R, C, le2, row, col, G, K, Ho, pre, out, mo, ov), OI.mk L L.length le2) b).ov ∧ True) ∧ (L.length = (ctDX ((R, C, le2, row, col, G, K, Ho, pre, out,
 mo, ov), OI.mk L L.length le2) b).L.length ∧ le2 = (ctDX ((R, C, le2, row, col, G, K, Ho, pre, out, mo, ov), OI.mk L L.length le2) b).le ∧ L = (ctDX ((R, C, le2, row, col, G, K, Ho, pre, out, mo, ov), OI.mk L L.length le2) b).L) ∧ True)) (br (b ==
 (13 : Int)) ((SV.t [] = SV.t [] ∧ True) ∧ (vI R = vI (ctDX ((R, C, le2, row, col, G, K, Ho, pre, out, mo, ov), OI.mk L L.length le2) b).R ∧ vI C = vI (ctDX ((R, C, le2, row, col, G, K, Ho, pre, out, mo, ov), OI.mk L L.length le2) b).C ∧ SV.h 1 [le2,
 0] = SV.h 1 [(ctDX ((R, C, le2, row, col, G, K, Ho, pre, out, mo, ov), OI.mk L L.length le2) b).le, 0] ∧ vI row = vI (ctDX ((R, C, le2, row, col, G, K, Ho, pre, out, mo, ov), OI.mk L L.length le2) b).row ∧ vI (0 : Int) = vI (ctDX ((R, C, le2, row,
 col, G, K, Ho, pre, out, mo, ov), OI.mk L L.length le2) b).col ∧ vB G = vB (ctDX ((R, C, le2, row, col, G, K, Ho, pre, out, mo, ov), OI.mk L L.length le2) b).G ∧ vB K = vB (ctDX ((R, C, le2, row, col, G, K, Ho, pre, out, mo, ov), OI.mk L L.length
 le2) b).K ∧ vB Ho = vB (ctDX ((R, C, le2, row, col, G, K, Ho, pre, out, mo, ov), OI.mk L L.length le2) b).Ho ∧ vS pre = vS (ctDX ((R, C, le2, row, col, G, K, Ho, pre, out, mo, ov), OI.mk L L.length le2) b).pre ∧ vS out = vS (ctDX ((R, C, le2, row,
 col, G, K, Ho, pre, out, mo, ov), OI.mk L L.length le2) b).out ∧ vI mo = vI (ctDX ((R, C, le2, row, col, G, K, Ho, pre, out, mo, ov), OI.mk L L.length le2) b).mo ∧ vB ov = vB (ctDX ((R, C, le2, row, col, G, K, Ho, pre, out, mo, ov), OI.mk L L.length
 le2) b).ov ∧ True) ∧ (L.length = (ctDX ((R, C, le2, row, col, G, K, Ho, pre, out, mo, ov), OI.mk L L.length le2) b).L.length ∧ le2 = (ctDX ((R, C, le2, row, col, G, K, Ho, pre, out, mo, ov), OI.mk L L.length le2) b).le ∧ L = (ctDX ((R, C, le2, row,
 col, G, K, Ho, pre, out, mo, ov), OI.mk L L.length le2) b).L) ∧ True) (br (b == (27 : Int)) ((SV.t [] = SV.t [] ∧ True) ∧ (vI R = vI (ctDX ((R, C, le2, row, col, G, K, Ho, pre, out, mo, ov), OI.mk L L.length le2) b).R ∧ vI C = vI (ctDX ((R, C, le2,
 row, col, G, K, Ho, pre, out, mo, ov), OI.mk L L.length le2) b).C ∧ SV.h 1 [le2, 0] = SV.h 1 [(ctDX ((R, C, le2, row, col, G, K, Ho, pre, out, mo, ov), OI.mk L L.length le2) b).le, 0] ∧ vI row = vI (ctDX ((R, C, le2, row, col, G, K, Ho, pre, out, mo,
 ov), OI.mk L L.length le2) b).row ∧ vI col = vI (ctDX ((R, C, le2, row, col, G, K, Ho, pre, out, mo, ov), OI.mk L L.length le2) b).col ∧ vB G = vB (ctDX ((R, C, le2, row, col, G, K, Ho, pre, out, mo, ov), OI.mk L L.length le2) b).G ∧ vB K = vB (ctDX
 ((R, C, le2, row, col, G, K, Ho, pre, out, mo, ov), OI.mk L L.length le2) b).K ∧ vB Ho = vB (ctDX ((R, C, le2, row, col, G, K, Ho, pre, out, mo, ov), OI.mk L L.length le2) b).Ho ∧ vS (ByteArray.mk #[(27 : UInt8)]) = vS (ctDX ((R, C, le2, row, col, G,
 K, Ho, pre, out, mo, ov), OI.mk L L.length le2) b).pre ∧ vS out = vS (ctDX ((R, C, le2, row, col, G, K, Ho, pre, out, mo, ov), OI.mk L L.length le2) b).out ∧ vI mo = vI (ctDX ((R, C, le2, row, col, G, K, Ho, pre, out, mo, ov), OI.mk L L.length le2)
 b).mo ∧ vB ov = vB (ctDX ((R, C, le2, row, col, G, K, Ho, pre, out, mo, ov), OI.mk L L.length le2) b).ov ∧ True) ∧ (L.length = (ctDX ((R, C, le2, row, col, G, K, Ho, pre, out, mo, ov), OI.mk L L.length le2) b).L.length ∧ le2 = (ctDX ((R, C, le2, row,
 col, G, K, Ho, pre, out, mo, ov), OI.mk L L.length le2) b).le ∧ L = (ctDX ((R, C, le2, row, col, G, K, Ho, pre, out, mo, ov), OI.mk L L.length le2) b).L) ∧ True) ((SV.t [] = SV.t [] ∧ True) ∧ (vI R = vI (ctDX ((R, C, le2, row, col, G, K, Ho, pre,
 out, mo, ov), OI.mk L L.length le2) b).R ∧ vI C = vI (ctDX ((R, C, le2, row, col, G, K, Ho, pre, out, mo, ov), OI.mk L L.length le2) b).C ∧ SV.h 1 [le2, 0] = SV.h 1 [(ctDX ((R, C, le2, row, col, G, K, Ho, pre, out, mo, ov), OI.mk L L.length le2)
 b).le, 0] ∧ vI row = vI (ctDX ((R, C, le2, row, col, G, K, Ho, pre, out, mo, ov), OI.mk L L.length le2) b).row ∧ vI col = vI (ctDX ((R, C, le2, row, col, G, K, Ho, pre, out, mo, ov), OI.mk L L.length le2) b).col ∧ vB G = vB (ctDX ((R, C, le2, row,
 col, G, K, Ho, pre, out, mo, ov), OI.mk L L.length le2) b).G ∧ vB K = vB (ctDX ((R, C, le2, row, col, G, K, Ho, pre, out, mo, ov), OI.mk L L.length le2) b).K ∧ vB Ho = vB (ctDX ((R, C, le2, row, col, G, K, Ho, pre, out, mo, ov), OI.mk L L.length le2)
 b).Ho ∧ vS pre = vS (ctDX ((R, C, le2, row, col, G, K, Ho, pre, out, mo, ov), OI.mk L L.length le2) b).pre ∧ vS out = vS (ctDX ((R, C, le2, row, col, G, K, Ho, pre, out, mo, ov), OI.mk L L.length le2) b).out ∧ vI mo = vI (ctDX ((R, C, le2, row, col,
 G, K, Ho, pre, out, mo, ov), OI.mk L L.length le2) b).mo ∧ vB ov = vB (ctDX ((R, C, le2, row, col, G, K, Ho, pre, out, mo, ov), OI.mk L L.length le2) b).ov ∧ True) ∧ (L.length = (ctDX ((R, C, le2, row, col, G, K, Ho, pre, out, mo, ov), OI.mk L
 L.length le2) b).L.length ∧ le2 = (ctDX ((R, C, le2, row, col, G, K, Ho, pre, out, mo, ov), OI.mk L L.length le2) b).le ∧ L = (ctDX ((R, C, le2, row, col, G, K, Ho, pre, out, mo, ov), OI.mk L L.length le2) b).L) ∧ True))))))) (by kernel_rfl) ?_
  clear hp hφ
  have r0 := hI.r0
  have r1 := hI.r1
  have c0 := hI.c0
  have c1 := hI.c1
  have hlen := hI.len
  have rw0 := hI.row0
  have rw1 := hI.row1
  have cl0 := hI.col0
  have cl1 := hI.col1
  have hout := hI.out
  have hmo := hI.mo
  simp only at r0 r1 c0 c1 hlen rw0 rw1 cl0 cl1 hout hmo
  have hA := area r0 r1 c0 c1
  have hP := place rw0 rw1 cl0 cl1
  have hDA : DA ((R, C, le2, row, col, G, K, Ho, pre, out, mo, ov), OI.mk L L.length le2) := ⟨rfl, rfl, hI⟩
  have hrc : 0 ≤ row * C := Int.mul_nonneg rw0 (by omega)
  have w1 : IntKind.i64.wrap (row * C) = row * C := wrap64 (by omega) (by omega)
  have w2 : IntKind.i64.wrap (row * C + col) = row * C + col := wrap64 (by omega) (by omega)
  have w3 : IntKind.i64.wrap (col + 1) = col + 1 := wrap64 (by omega) (by omega)
  have w4 : IntKind.i64.wrap (C - 1) = C - 1 := wrap64 (by omega) (by omega)
  have w5 : IntKind.i64.wrap (col - 1) = col - 1 := wrap64 (by omega) (by omega)
  have w6 : IntKind.i64.wrap (row + 1) = row + 1 := wrap64 (by omega) (by omega)
  have w7 : IntKind.i64.wrap (row - 1) = row - 1 := wrap64 (by omega) (by omega)
  have w8 : IntKind.i64.wrap (R - 1) = R - 1 := wrap64 (by omega) (by omega)
  have w9 : IntKind.i64.wrap ((L.length : Int) - 1) = L.length - 1 := wrap64 (by omega) (by omega)
  have w10 : IntKind.i64.wrap (row * C + C) = row * C + C := wrap64 (by omega) (by omega)
  have w11 : IntKind.i64.wrap (row * C + C - 1) = row * C + C - 1 := wrap64 (by omega) (by omega)
  have w12 : IntKind.i64.wrap ((out.size : Int) + 3) = out.size + 3 := wrap64 (by omega) (by omega)
  simp only [w1, w2, w3, w4, w5, w6, w7, w8, w9, w10, w11, w12, rq_iff, br_iff, II, nbeq, Bool.true_and, decide_eq_true_eq, decide_eq_false_iff_not, Nat.blt_eq, true_and, and_true, and_self, Nat.mul_one]
  have e1 : (if 0 > col - 1 then 0 else col - 1) = mxI col := by unfold mxI; split <;> split <;> omega
  have e2 : (if C - 1 < col + 1 then C - 1 else col + 1) = mnI col C := rfl
  have e3 : (if 0 > row - 1 then 0 else row - 1) = mxI row := by unfold mxI; split <;> split <;> omega
  have e4 : (if R - 1 < row + 1 then R - 1 else row + 1) = mnI row R := rfl
  simp only [e1, e2, e3, e4]
  by_cases h8 : b = 8
  · subst h8
    simp [ctDX, ctD, dtS]
  by_cases h9 : b = 9
  · subst h9
    simp [ctDX, ctD, dtS]
    refine ⟨by omega, fun x hx0 hx1 => ?_⟩
    have em : x.tmod 8 = x % 8 := Int.tmod_eq_emod_of_nonneg (by omega)
    rw [em, wrap64 (x := x + 1) (by omega) (by omega)]
    refine ⟨fun hn => by omega, fun hz => ⟨fun hC => ?_, fun hC => ?_⟩⟩
    · unfold tbI
      rw [if_pos (by omega)]
    · unfold tbI
      rw [if_neg (by omega)]
      omega
  by_cases h10 : b = 10
  · subst h10
    by_cases hr : row = R - 1
    · subst hr
      simp [ctDX, ctD, dtS, scD, hDA]
    · simp [ctDX, ctD, dtS, scD, hDA, hr]
  by_cases h13 : b = 13
  · subst h13
    simp [ctDX, ctD, dtS]
  by_cases h27 : b = 27
  · subst h27
    simp [ctDX, ctD, dtS]
    rfl
  have q : ∀ v : Int, b ≠ v → v ≠ b := fun v h e => h e.symm
  simp [ctDX, ctD, dtS, h8, q _ h8, h9, q _ h9, h10, q _ h10, h13, q _ h13, h27, q _ h27]
def repB : ByteArray := ⟨#[27, 47, 75]⟩
def twD (d : Dt) (b : Int) : Dt :=
  if b = 65 then { d with row := mxI d.row }
  else if b = 66 then { d with row := mnI d.row d.R }
  else if b = 67 then { d with col := mnI d.col d.C }
  else if b = 68 then { d with col := mxI d.col }
  else if b = 72 then { d with row := 0, col := 0 }
  else if b = 73 then (if d.row = 0 then scD d false else { d with row := d.row - 1 })
  else if b = 74 then wpD d (d.row * d.C + d.col) ((d.L.length : Int) - 1)
  else if b = 75 then wpD d (d.row * d.C + d.col) (d.row * d.C + d.C - 1)
  else if b = 70 then { d with G := true }
  else if b = 71 then { d with G := false }
  else if b = 61 then { d with K := true }
  else if b = 62 then { d with K := false }
  else if b = 91 then { d with Ho := true }
  else if b = 92 then { d with Ho := false }
  else if b = 90 then (if (d.out.size : Int) + 3 > d.mo then { d with ov := true } else { d with out := d.out ++ repB })
  else d
def twDX (x : DR) (b : Int) : Dt := twD (dtS x) b
def lcDTwo : ACon Unit := mkLC (decP (shArg 0) (shDt 0)) fun ((_, b), x) => .ask (DA x ∧ 0 ≤ b ∧ b ≤ 255) (.one (.t []) (dtI 0 (twDX x b)) [0, 1])
set_option maxHeartbeats 4000000 in
theorem ok_dTwo : ∀ I : Sym.Inv Unit, LCOk I Tryz.prog 54 lcDTwo := by
  refine lc_mk (fun _ => allCfg Tryz.prog [] tabA12 0) (fun _ _ => allCfg_ok mixed trivial tabA12_ok) (fun _ => rfl) (n := 90) Tryz.func54 ?_
  intro ⟨⟨_, b⟩, ⟨R, C, le2, row, col, G, K, Ho, pre, out, mo, ov⟩, ⟨L, n, le⟩⟩ hφ
  obtain ⟨⟨⟨rfl, rfl, hI⟩, hb0, hb1⟩, hp⟩ := id hφ
  refine kcast (B := (br (b == (65 : Int)) ((SV.t [] = SV.t [] ∧ True) ∧ (vI R = vI (twDX ((R, C, le2, row, col, G, K, Ho, pre, out, mo, ov), OI.mk L L.length le2) b).R ∧ vI C = vI (twDX ((R, C, le2, row, col, G, K, Ho, pre, out, mo, ov), OI.mk L L.length le2) b).C ∧
 SV.h 1 [le2, 0] = SV.h 1 [(twDX ((R, C, le2, row, col, G, K, Ho, pre, out, mo, ov), OI.mk L L.length le2) b).le, 0] ∧ vI (if (0 : Int) > IntKind.i64.wrap (row - (1 : Int)) then (0 : Int) else IntKind.i64.wrap (row - (1 : Int))) = vI (twDX ((R, C,
 le2, row, col, G, K, Ho, pre, out, mo, ov), OI.mk L L.length le2) b).row ∧ vI col = vI (twDX ((R, C, le2, row, col, G, K, Ho, pre, out, mo, ov), OI.mk L L.length le2) b).col ∧ vB G = vB (twDX ((R, C, le2, row, col, G, K, Ho, pre, out, mo, ov), OI.mk
 L L.length le2) b).G ∧ vB K = vB (twDX ((R, C, le2, row, col, G, K, Ho, pre, out, mo, ov), OI.mk L L.length le2) b).K ∧ vB Ho = vB (twDX ((R, C, le2, row, col, G, K, Ho, pre, out, mo, ov), OI.mk L L.length le2) b).Ho ∧ vS pre = vS (twDX ((R, C, le2,
 row, col, G, K, Ho, pre, out, mo, ov), OI.mk L L.length le2) b).pre ∧ vS out = vS (twDX ((R, C, le2, row, col, G, K, Ho, pre, out, mo, ov), OI.mk L L.length le2) b).out ∧ vI mo = vI (twDX ((R, C, le2, row, col, G, K, Ho, pre, out, mo, ov), OI.mk L
 L.length le2) b).mo ∧ vB ov = vB (twDX ((R, C, le2, row, col, G, K, Ho, pre, out, mo, ov), OI.mk L L.length le2) b).ov ∧ True) ∧ (L.length = (twDX ((R, C, le2, row, col, G, K, Ho, pre, out, mo, ov), OI.mk L L.length le2) b).L.length ∧ le2 = (twDX
 ((R, C, le2, row, col, G, K, Ho, pre, out, mo, ov), OI.mk L L.length le2) b).le ∧ L = (twDX ((R, C, le2, row, col, G, K, Ho, pre, out, mo, ov), OI.mk L L.length le2) b).L) ∧ True) (br (b == (66 : Int)) ((SV.t [] = SV.t [] ∧ True) ∧ (vI R = vI (twDX
 ((R, C, le2, row, col, G, K, Ho, pre, out, mo, ov), OI.mk L L.length le2) b).R ∧ vI C = vI (twDX ((R, C, le2, row, col, G, K, Ho, pre, out, mo, ov), OI.mk L L.length le2) b).C ∧ SV.h 1 [le2, 0] = SV.h 1 [(twDX ((R, C, le2, row, col, G, K, Ho, pre,
 out, mo, ov), OI.mk L L.length le2) b).le, 0] ∧ vI (if IntKind.i64.wrap (R - (1 : Int)) < IntKind.i64.wrap (row + (1 : Int)) then IntKind.i64.wrap (R - (1 : Int)) else IntKind.i64.wrap (row + (1 : Int))) = vI (twDX ((R, C, le2, row, col, G, K, Ho,
 pre, out, mo, ov), OI.mk L L.length le2) b).row ∧ vI col = vI (twDX ((R, C, le2, row, col, G, K, Ho, pre, out, mo, ov), OI.mk L L.length le2) b).col ∧ vB G = vB (twDX ((R, C, le2, row, col, G, K, Ho, pre, out, mo, ov), OI.mk L L.length le2) b).G ∧ vB
 K = vB (twDX ((R, C, le2, row, col, G, K, Ho, pre, out, mo, ov), OI.mk L L.length le2) b).K ∧ vB Ho = vB (twDX ((R, C, le2, row, col, G, K, Ho, pre, out, mo, ov), OI.mk L L.length le2) b).Ho ∧ vS pre = vS (twDX ((R, C, le2, row, col, G, K, Ho, pre,
 out, mo, ov), OI.mk L L.length le2) b).pre ∧ vS out = vS (twDX ((R, C, le2, row, col, G, K, Ho, pre, out, mo, ov), OI.mk L L.length le2) b).out ∧ vI mo = vI (twDX ((R, C, le2, row, col, G, K, Ho, pre, out, mo, ov), OI.mk L L.length le2) b).mo ∧ vB ov
 = vB (twDX ((R, C, le2, row, col, G, K, Ho, pre, out, mo, ov), OI.mk L L.length le2) b).ov ∧ True) ∧ (L.length = (twDX ((R, C, le2, row, col, G, K, Ho, pre, out, mo, ov), OI.mk L L.length le2) b).L.length ∧ le2 = (twDX ((R, C, le2, row, col, G, K,
 Ho, pre, out, mo, ov), OI.mk L L.length le2) b).le ∧ L = (twDX ((R, C, le2, row, col, G, K, Ho, pre, out, mo, ov), OI.mk L L.length le2) b).L) ∧ True) (br (b == (67 : Int)) ((SV.t [] = SV.t [] ∧ True) ∧ (vI R = vI (twDX ((R, C, le2, row, col, G, K,
 Ho, pre, out, mo, ov), OI.mk L L.length le2) b).R ∧ vI C = vI (twDX ((R, C, le2, row, col, G, K, Ho, pre, out, mo, ov), OI.mk L L.length le2) b).C ∧ SV.h 1 [le2, 0] = SV.h 1 [(twDX ((R, C, le2, row, col, G, K, Ho, pre, out, mo, ov), OI.mk L L.length
 le2) b).le, 0] ∧ vI row = vI (twDX ((R, C, le2, row, col, G, K, Ho, pre, out, mo, ov), OI.mk L L.length le2) b).row ∧ vI (if IntKind.i64.wrap (C - (1 : Int)) < IntKind.i64.wrap (col + (1 : Int)) then IntKind.i64.wrap (C - (1 : Int)) else
 IntKind.i64.wrap (col + (1 : Int))) = vI (twDX ((R, C, le2, row, col, G, K, Ho, pre, out, mo, ov), OI.mk L L.length le2) b).col ∧ vB G = vB (twDX ((R, C, le2, row, col, G, K, Ho, pre, out, mo, ov), OI.mk L L.length le2) b).G ∧ vB K = vB (twDX ((R, C,
 le2, row, col, G, K, Ho, pre, out, mo, ov), OI.mk L L.length le2) b).K ∧ vB Ho = vB (twDX ((R, C, le2, row, col, G, K, Ho, pre, out, mo, ov), OI.mk L L.length le2) b).Ho ∧ vS pre = vS (twDX ((R, C, le2, row, col, G, K, Ho, pre, out, mo, ov), OI.mk L
 L.length le2) b).pre ∧ vS out = vS (twDX ((R, C, le2, row, col, G, K, Ho, pre, out, mo, ov), OI.mk L L.length le2) b).out ∧ vI mo = vI (twDX ((R, C, le2, row, col, G, K, Ho, pre, out, mo, ov), OI.mk L L.length le2) b).mo ∧ vB ov = vB (twDX ((R, C,
 le2, row, col, G, K, Ho, pre, out, mo, ov), OI.mk L L.length le2) b).ov ∧ True) ∧ (L.length = (twDX ((R, C, le2, row, col, G, K, Ho, pre, out, mo, ov), OI.mk L L.length le2) b).L.length ∧ le2 = (twDX ((R, C, le2, row, col, G, K, Ho, pre, out, mo,
 ov), OI.mk L L.length le2) b).le ∧ L = (twDX ((R, C, le2, row, col, G, K, Ho, pre, out, mo, ov), OI.mk L L.length le2) b).L) ∧ True) (br (b == (68 : Int)) ((SV.t [] = SV.t [] ∧ True) ∧ (vI R = vI (twDX ((R, C, le2, row, col, G, K, Ho, pre, out, mo,
 ov), OI.mk L L.length le2) b).R ∧ vI C = vI (twDX ((R, C, le2, row, col, G, K, Ho, pre, out, mo, ov), OI.mk L L.length le2) b).C ∧ SV.h 1 [le2, 0] = SV.h 1 [(twDX ((R, C, le2, row, col, G, K, Ho, pre, out, mo, ov), OI.mk L L.length le2) b).le, 0] ∧
 vI row = vI (twDX ((R, C, le2, row, col, G, K, Ho, pre, out, mo, ov), OI.mk L L.length le2) b).row ∧ vI (if (0 : Int) > IntKind.i64.wrap (col - (1 : Int)) then (0 : Int) else IntKind.i64.wrap (col - (1 : Int))) = vI (twDX ((R, C, le2, row, col, G, K,
 Ho, pre, out, mo, ov), OI.mk L L.length le2) b).col ∧ vB G = vB (twDX ((R, C, le2, row, col, G, K, Ho, pre, out, mo, ov), OI.mk L L.length le2) b).G ∧ vB K = vB (twDX ((R, C, le2, row, col, G, K, Ho, pre, out, mo, ov), OI.mk L L.length le2) b).K ∧ vB
 Ho = vB (twDX ((R, C, le2, row, col, G, K, Ho, pre, out, mo, ov), OI.mk L L.length le2) b).Ho ∧ vS pre = vS (twDX ((R, C, le2, row, col, G, K, Ho, pre, out, mo, ov), OI.mk L L.length le2) b).pre ∧ vS out = vS (twDX ((R, C, le2, row, col, G, K, Ho,
 pre, out, mo, ov), OI.mk L L.length le2) b).out ∧ vI mo = vI (twDX ((R, C, le2, row, col, G, K, Ho, pre, out, mo, ov), OI.mk L L.length le2) b).mo ∧ vB ov = vB (twDX ((R, C, le2, row, col, G, K, Ho, pre, out, mo, ov), OI.mk L L.length le2) b).ov ∧
 True) ∧ (L.length = (twDX ((R, C, le2, row, col, G, K, Ho, pre, out, mo, ov), OI.mk L L.length le2) b).L.length ∧ le2 = (twDX ((R, C, le2, row, col, G, K, Ho, pre, out, mo, ov), OI.mk L L.length le2) b).le ∧ L = (twDX ((R, C, le2, row, col, G, K, Ho,
 pre, out, mo, ov), OI.mk L L.length le2) b).L) ∧ True) (br (b == (72 : Int)) ((SV.t [] = SV.t [] ∧ True) ∧ (vI R = vI (twDX ((R, C, le2, row, col, G, K, Ho, pre, out, mo, ov), OI.mk L L.length le2) b).R ∧ vI C = vI (twDX ((R, C, le2, row, col, G, K,
 Ho, pre, out, mo, ov), OI.mk L L.length le2) b).C ∧ SV.h 1 [le2, 0] = SV.h 1 [(twDX ((R, C, le2, row, col, G, K, Ho, pre, out, mo, ov), OI.mk L L.length le2) b).le, 0] ∧ vI (0 : Int) = vI (twDX ((R, C, le2, row, col, G, K, Ho, pre, out, mo, ov),
 OI.mk L L.length le2) b).row ∧ vI (0 : Int) = vI (twDX ((R, C, le2, row, col, G, K, Ho, pre, out, mo, ov), OI.mk L L.length le2) b).col ∧ vB G = vB (twDX ((R, C, le2, row, col, G, K, Ho, pre, out, mo, ov), OI.mk L L.length le2) b).G ∧ vB K = vB (twDX
 ((R, C, le2, row, col, G, K, Ho, pre, out, mo, ov), OI.mk L L.length le2) b).K ∧ vB Ho = vB (twDX ((R, C, le2, row, col, G, K, Ho, pre, out, mo, ov), OI.mk L L.length le2) b).Ho ∧ vS pre = vS (twDX ((R, C, le2, row, col, G, K, Ho, pre, out, mo, ov),
 OI.mk L L.length le2) b).pre ∧ vS out = vS (twDX ((R, C, le2, row, col, G, K, Ho, pre, out, mo, ov), OI.mk L L.length le2) b).out ∧ vI mo = vI (twDX ((R, C, le2, row, col, G, K, Ho, pre, out, mo, ov), OI.mk L L.length le2) b).mo ∧ vB ov = vB (twDX
 ((R, C, le2, row, col, G, K, Ho, pre, out, mo, ov), OI.mk L L.length le2) b).ov ∧ True) ∧ (L.length = (twDX ((R, C, le2, row, col, G, K, Ho, pre, out, mo, ov), OI.mk L L.length le2) b).L.length ∧ le2 = (twDX ((R, C, le2, row, col, G, K, Ho, pre, out,
 mo, ov), OI.mk L L.length le2) b).le ∧ L = (twDX ((R, C, le2, row, col, G, K, Ho, pre, out, mo, ov), OI.mk L L.length le2) b).L) ∧ True) (br (b == (73 : Int)) (br (row == (0 : Int)) (true = true ∧ DA ((R, C, le2, row, col, G, K, Ho, pre, out, mo,
 ov), OI.mk L L.length le2) ∧ (SV.t [] = SV.t [] ∧ True) ∧ (vI R = vI (twDX ((R, C, le2, row, col, G, K, Ho, pre, out, mo, ov), OI.mk L L.length le2) b).R ∧ vI C = vI (twDX ((R, C, le2, row, col, G, K, Ho, pre, out, mo, ov), OI.mk L L.length le2) b).C
 ∧ SV.h 1 [le2 + 1, 0] = SV.h 1 [(twDX ((R, C, le2, row, col, G, K, Ho, pre, out, mo, ov), OI.mk L L.length le2) b).le, 0] ∧ vI row = vI (twDX ((R, C, le2, row, col, G, K, Ho, pre, out, mo, ov), OI.mk L L.length le2) b).row ∧ vI col = vI (twDX ((R, C,
 le2, row, col, G, K, Ho, pre, out, mo, ov), OI.mk L L.length le2) b).col ∧ vB G = vB (twDX ((R, C, le2, row, col, G, K, Ho, pre, out, mo, ov), OI.mk L L.length le2) b).G ∧ vB K = vB (twDX ((R, C, le2, row, col, G, K, Ho, pre, out, mo, ov), OI.mk L
 L.length le2) b).K ∧ vB Ho = vB (twDX ((R, C, le2, row, col, G, K, Ho, pre, out, mo, ov), OI.mk L L.length le2) b).Ho ∧ vS pre = vS (twDX ((R, C, le2, row, col, G, K, Ho, pre, out, mo, ov), OI.mk L L.length le2) b).pre ∧ vS out = vS (twDX ((R, C,
 le2, row, col, G, K, Ho, pre, out, mo, ov), OI.mk L L.length le2) b).out ∧ vI mo = vI (twDX ((R, C, le2, row, col, G, K, Ho, pre, out, mo, ov), OI.mk L L.length le2) b).mo ∧ vB ov = vB (twDX ((R, C, le2, row, col, G, K, Ho, pre, out, mo, ov), OI.mk L
 L.length le2) b).ov ∧ True) ∧ ((scN L C false L.length).length = (twDX ((R, C, le2, row, col, G, K, Ho, pre, out, mo, ov), OI.mk L L.length le2) b).L.length ∧ le2 + 1 = (twDX ((R, C, le2, row, col, G, K, Ho, pre, out, mo, ov), OI.mk L L.length le2)
 b).le ∧ scN L C false L.length = (twDX ((R, C, le2, row, col, G, K, Ho, pre, out, mo, ov), OI.mk L L.length le2) b).L) ∧ True) ((SV.t [] = SV.t [] ∧ True) ∧ (vI R = vI (twDX ((R, C, le2, row, col, G, K, Ho, pre, out, mo, ov), OI.mk L L.length le2)
 b).R ∧ vI C = vI (twDX ((R, C, le2, row, col, G, K, Ho, pre, out, mo, ov), OI.mk L L.length le2) b).C ∧ SV.h 1 [le2, 0] = SV.h 1 [(twDX ((R, C, le2, row, col, G, K, Ho, pre, out, mo, ov), OI.mk L L.length le2) b).le, 0] ∧ vI (IntKind.i64.wrap (row -
 (1 : Int))) = vI (twDX ((R, C, le2, row, col, G, K, Ho, pre, out, mo, ov), OI.mk L L.length le2) b).row ∧ vI col = vI (twDX ((R, C, le2, row, col, G, K, Ho, pre, out, mo, ov), OI.mk L L.length le2) b).col ∧ vB G = vB (twDX ((R, C, le2, row, col, G,
 K, Ho, pre, out, mo, ov), OI.mk L L.length le2) b).G ∧ vB K = vB (twDX ((R, C, le2, row, col, G, K, Ho, pre, out, mo, ov), OI.mk L L.length le2) b).K ∧ vB Ho = vB (twDX ((R, C, le2, row, col, G, K, Ho, pre, out, mo, ov), OI.mk L L.length le2) b).Ho ∧
 vS pre = vS (twDX ((R, C, le2, row, col, G, K, Ho, pre, out, mo, ov), OI.mk L L.length le2) b).pre ∧ vS out = vS (twDX ((R, C, le2, row, col, G, K, Ho, pre, out, mo, ov), OI.mk L L.length le2) b).out ∧ vI mo = vI (twDX ((R, C, le2, row, col, G, K,
 Ho, pre, out, mo, ov), OI.mk L L.length le2) b).mo ∧ vB ov = vB (twDX ((R, C, le2, row, col, G, K, Ho, pre, out, mo, ov), OI.mk L L.length le2) b).ov ∧ True) ∧ (L.length = (twDX ((R, C, le2, row, col, G, K, Ho, pre, out, mo, ov), OI.mk L L.length
 le2) b).L.length ∧ le2 = (twDX ((R, C, le2, row, col, G, K, Ho, pre, out, mo, ov), OI.mk L L.length le2) b).le ∧ L = (twDX ((R, C, le2, row, col, G, K, Ho, pre, out, mo, ov), OI.mk L L.length le2) b).L) ∧ True)) (br (b == (74 : Int)) (rq (le2.beq
 le2) (true = true ∧ (DA ((R, C, le2, row, col, G, K, Ho, pre, out, mo, ov), OI.mk L L.length le2) ∧ (0 : Int) ≤ IntKind.i64.wrap (IntKind.i64.wrap (row * C) + col) ∧ IntKind.i64.wrap (IntKind.i64.wrap (row * C) + col) ≤ IntKind.i64.wrap ((↑L.length :
 Int) - (1 : Int)) + (1 : Int) ∧ IntKind.i64.wrap ((↑L.length : Int) - (1 : Int)) < (↑L.length : Int)) ∧ (SV.t [] = SV.t [] ∧ True) ∧ (vI R = vI (twDX ((R, C, le2, row, col, G, K, Ho, pre, out, mo, ov), OI.mk L L.length le2) b).R ∧ vI C = vI (twDX
 ((R, C, le2, row, col, G, K, Ho, pre, out, mo, ov), OI.mk L L.length le2) b).C ∧ SV.h 1 [le2, 0] = SV.h 1 [(twDX ((R, C, le2, row, col, G, K, Ho, pre, out, mo, ov), OI.mk L L.length le2) b).le, 0] ∧ vI row = vI (twDX ((R, C, le2, row, col, G, K, Ho,
 pre, out, mo, ov), OI.mk L L.length le2) b).row ∧ vI col = vI (twDX ((R, C, le2, row, col, G, K, Ho, pre, out, mo, ov), OI.mk L L.length le2) b).col ∧ vB G = vB (twDX ((R, C, le2, row, col, G, K, Ho, pre, out, mo, ov), OI.mk L L.length le2) b).G ∧ vB
 K = vB (twDX ((R, C, le2, row, col, G, K, Ho, pre, out, mo, ov), OI.mk L L.length le2) b).K ∧ vB Ho = vB (twDX ((R, C, le2, row, col, G, K, Ho, pre, out, mo, ov), OI.mk L L.length le2) b).Ho ∧ vS pre = vS (twDX ((R, C, le2, row, col, G, K, Ho, pre,
 out, mo, ov), OI.mk L L.length le2) b).pre ∧ vS out = vS (twDX ((R, C, le2, row, col, G, K, Ho, pre, out, mo, ov), OI.mk L L.length le2) b).out ∧ vI mo = vI (twDX ((R, C, le2, row, col, G, K, Ho, pre, out, mo, ov), OI.mk L L.length le2) b).mo ∧ vB ov
 = vB (twDX ((R, C, le2, row, col, G, K, Ho, pre, out, mo, ov), OI.mk L L.length le2) b).ov ∧ True) ∧ ((wpL L (IntKind.i64.wrap (IntKind.i64.wrap (row * C) + col)) (IntKind.i64.wrap ((↑L.length : Int) - (1 : Int)) + (1 : Int))).length = (twDX ((R, C,
 le2, row, col, G, K, Ho, pre, out, mo, ov), OI.mk L L.length le2) b).L.length ∧ le2 = (twDX ((R, C, le2, row, col, G, K, Ho, pre, out, mo, ov), OI.mk L L.length le2) b).le ∧ wpL L (IntKind.i64.wrap (IntKind.i64.wrap (row * C) + col))
 (IntKind.i64.wrap ((↑L.length : Int) - (1 : Int)) + (1 : Int)) = (twDX ((R, C, le2, row, col, G, K, Ho, pre, out, mo, ov), OI.mk L L.length le2) b).L) ∧ True)) (br (b == (75 : Int)) (true = true ∧ (DA ((R, C, le2, row, col, G, K, Ho, pre, out, mo,
 ov), OI.mk L L.length le2) ∧ (0 : Int) ≤ IntKind.i64.wrap (IntKind.i64.wrap (row * C) + col) ∧ IntKind.i64.wrap (IntKind.i64.wrap (row * C) + col) ≤ IntKind.i64.wrap (IntKind.i64.wrap (IntKind.i64.wrap (row * C) + C) - (1 : Int)) + (1 : Int) ∧
 IntKind.i64.wrap (IntKind.i64.wrap (IntKind.i64.wrap (row * C) + C) - (1 : Int)) < (↑L.length : Int)) ∧ (SV.t [] = SV.t [] ∧ True) ∧ (vI R = vI (twDX ((R, C, le2, row, col, G, K, Ho, pre, out, mo, ov), OI.mk L L.length le2) b).R ∧ vI C = vI (twDX
 ((R, C, le2, row, col, G, K, Ho, pre, out, mo, ov), OI.mk L L.length le2) b).C ∧ SV.h 1 [le2, 0] = SV.h 1 [(twDX ((R, C, le2, row, col, G, K, Ho, pre, out, mo, ov), OI.mk L L.length le2) b).le, 0] ∧ vI row = vI (twDX ((R, C, le2, row, col, G, K, Ho,
 pre, out, mo, ov), OI.mk L L.length le2) b).row ∧ vI col = vI (twDX ((R, C, le2, row, col, G, K, Ho, pre, out, mo, ov), OI.mk L L.length le2) b).col ∧ vB G = vB (twDX ((R, C, le2, row, col, G, K, Ho, pre, out, mo, ov), OI.mk L L.length le2) b).G ∧ vB
 K = vB (twDX ((R, C, le2, row, col, G, K, Ho, pre, out, mo, ov), OI.mk L L.length le2) b).K ∧ vB Ho = vB (twDX ((R, C, le2, row, col, G, K, Ho, pre, out, mo, ov), OI.mk L L.length le2) b).Ho ∧ vS pre = vS (twDX ((R, C, le2, row, col, G, K, Ho, pre,
 out, mo, ov), OI.mk L L.length le2) b).pre ∧ vS out = vS (twDX ((R, C, le2, row, col, G, K, Ho, pre, out, mo, ov), OI.mk L L.length le2) b).out ∧ vI mo = vI (twDX ((R, C, le2, row, col, G, K, Ho, pre, out, mo, ov), OI.mk L L.length le2) b).mo ∧ vB ov
 = vB (twDX ((R, C, le2, row, col, G, K, Ho, pre, out, mo, ov), OI.mk L L.length le2) b).ov ∧ True) ∧ ((wpL L (IntKind.i64.wrap (IntKind.i64.wrap (row * C) + col)) (IntKind.i64.wrap (IntKind.i64.wrap (IntKind.i64.wrap (row * C) + C) - (1 : Int)) + (1
 : Int))).length = (twDX ((R, C, le2, row, col, G, K, Ho, pre, out, mo, ov), OI.mk L L.length le2) b).L.length ∧ le2 = (twDX ((R, C, le2, row, col, G, K, Ho, pre, out, mo, ov), OI.mk L L.length le2) b).le ∧ wpL L (IntKind.i64.wrap (IntKind.i64.wrap
 (row * C) + col)) (IntKind.i64.wrap (IntKind.i64.wrap (IntKind.i64.wrap (row * C) + C) - (1 : Int)) + (1 : Int)) = (twDX ((R, C, le2, row, col, G, K, Ho, pre, out, mo, ov), OI.mk L L.length le2) b).L) ∧ True) (br (b == (70 : Int)) ((SV.t [] = SV.t []
 ∧ True) ∧ (vI R = vI (twDX ((R, C, le2, row, col, G, K, Ho, pre, out, mo, ov), OI.mk L L.length le2) b).R ∧ vI C = vI (twDX ((R, C, le2, row, col, G, K, Ho, pre, out, mo, ov), OI.mk L L.length le2) b).C ∧ SV.h 1 [le2, 0] = SV.h 1 [(twDX ((R, C, le2,
 row, col, G, K, Ho, pre, out, mo, ov), OI.mk L L.length le2) b).le, 0] ∧ vI row = vI (twDX ((R, C, le2, row, col, G, K, Ho, pre, out, mo, ov), OI.mk L L.length le2) b).row ∧ vI col = vI (twDX ((R, C, le2, row, col, G, K, Ho, pre, out, mo, ov), OI.mk
 L L.length le2) b).col ∧ vB true = vB (twDX ((R, C, le2, row, col, G, K, Ho, pre, out, mo, ov), OI.mk L L.length le2) b).G ∧ vB K = vB (twDX ((R, C, le2, row, col, G, K, Ho, pre, out, mo, ov), OI.mk L L.length le2) b).K ∧ vB Ho = vB (twDX ((R, C,
 le2, row, col, G, K, Ho, pre, out, mo, ov), OI.mk L L.length le2) b).Ho ∧ vS pre = vS (twDX ((R, C, le2, row, col, G, K, Ho, pre, out, mo, ov), OI.mk L L.length le2) b).pre ∧ vS out = vS (twDX ((R, C, le2, row, col, G, K, Ho, pre, out, mo, ov), OI.mk
 L L.length le2) b).out ∧ vI mo = vI (twDX ((R, C, le2, row, col, G, K, Ho, pre, out, mo, ov), OI.mk L L.length le2) b).mo ∧ vB ov = vB (twDX ((R, C, le2, row, col, G, K, Ho, pre, out, mo, ov), OI.mk L L.length le2) b).ov ∧ True) ∧ (L.length = (twDX
 ((R, C, le2, row, col, G, K, Ho, pre, out, mo, ov), OI.mk L L.length le2) b).L.length ∧ le2 = (twDX ((R, C, le2, row, col, G, K, Ho, pre, out, mo, ov), OI.mk L L.length le2) b).le ∧ L = (twDX ((R, C, le2, row, col, G, K, Ho, pre, out, mo, ov), OI.mk
 L L.length le2) b).L) ∧ True) (br (b == (71 : Int)) ((SV.t [] = SV.t [] ∧ True) ∧ (vI R = vI (twDX ((R, C, le2, row, col, G, K, Ho, pre, out, mo, ov), OI.mk L L.length le2) b).R ∧ vI C = vI (twDX ((R, C, le2, row, col, G, K, Ho, pre, out, mo, ov),
 OI.mk L L.length le2) b).C ∧ SV.h 1 [le2, 0] = SV.h 1 [(twDX ((R, C, le2, row, col, G, K, Ho, pre, out, mo, ov), OI.mk L L.length le2) b).le, 0] ∧ vI row = vI (twDX ((R, C, le2, row, col, G, K, Ho, pre, out, mo, ov), OI.mk L L.length le2) b).row ∧ vI
 col = vI (twDX ((R, C, le2, row, col, G, K, Ho, pre, out, mo, ov), OI.mk L L.length le2) b).col ∧ vB false = vB (twDX ((R, C, le2, row, col, G, K, Ho, pre, out, mo, ov), OI.mk L L.length le2) b).G ∧ vB K = vB (twDX ((R, C, le2, row, col, G, K, Ho,
 pre, out, mo, ov), OI.mk L L.length le2) b).K ∧ vB Ho = vB (twDX ((R, C, le2, row, col, G, K, Ho, pre, out, mo, ov), OI.mk L L.length le2) b).Ho ∧ vS pre = vS (twDX ((R, C, le2, row, col, G, K, Ho, pre, out, mo, ov), OI.mk L L.length le2) b).pre ∧ vS
 out = vS (twDX ((R, C, le2, row, col, G, K, Ho, pre, out, mo, ov), OI.mk L L.length le2) b).out ∧ vI mo = vI (twDX ((R, C, le2, row, col, G, K, Ho, pre, out, mo, ov), OI.mk L L.length le2) b).mo ∧ vB ov = vB (twDX ((R, C, le2, row, col, G, K, Ho,
 pre, out, mo, ov), OI.mk L L.length le2) b).ov ∧ True) ∧ (L.length = (twDX ((R, C, le2, row, col, G, K, Ho, pre, out, mo, ov), OI.mk L L.length le2) b).L.length ∧ le2 = (twDX ((R, C, le2, row, col, G, K, Ho, pre, out, mo, ov), OI.mk L L.length le2)
 b).le ∧ L = (twDX ((R, C, le2, row, col, G, K, Ho, pre, out, mo, ov), OI.mk L L.length le2) b).L) ∧ True) (br (b == (61 : Int)) ((SV.t [] = SV.t [] ∧ True) ∧ (vI R = vI (twDX ((R, C, le2, row, col, G, K, Ho, pre, out, mo, ov), OI.mk L L.length le2)
 b).R ∧ vI C = vI (twDX ((R, C, le2, row, col, G, K, Ho, pre, out, mo, ov), OI.mk L L.length le2) b).C ∧ SV.h 1 [le2, 0] = SV.h 1 [(twDX ((R, C, le2, row, col, G, K, Ho, pre, out, mo, ov), OI.mk L L.length le2) b).le, 0] ∧ vI row = vI (twDX ((R, C,
 le2, row, col, G, K, Ho, pre, out, mo, ov), OI.mk L L.length le2) b).row ∧ vI col = vI (twDX ((R, C, le2, row, col, G, K, Ho, pre, out, mo, ov), OI.mk L L.length le2) b).col ∧ vB G = vB (twDX ((R, C, le2, row, col, G, K, Ho, pre, out, mo, ov), OI.mk
 L L.length le2) b).G ∧ vB true = vB (twDX ((R, C, le2, row, col, G, K, Ho, pre, out, mo, ov), OI.mk L L.length le2) b).K ∧ vB Ho = vB (twDX ((R, C, le2, row, col, G, K, Ho, pre, out, mo, ov), OI.mk L L.length le2) b).Ho ∧ vS pre = vS (twDX ((R, C,
 le2, row, col, G, K, Ho, pre, out, mo, ov), OI.mk L L.length le2) b).pre ∧ vS out = vS (twDX ((R, C, le2, row, col, G, K, Ho, pre, out, mo, ov), OI.mk L L.length le2) b).out ∧ vI mo = vI (twDX ((R, C, le2, row, col, G, K, Ho, pre, out, mo, ov), OI.mk
 L L.length le2) b).mo ∧ vB ov = vB (twDX ((R, C, le2, row, col, G, K, Ho, pre, out, mo, ov), OI.mk L L.length le2) b).ov ∧ True) ∧ (L.length = (twDX ((R, C, le2, row, col, G, K, Ho, pre, out, mo, ov), OI.mk L L.length le2) b).L.length ∧ le2 = (twDX
 ((R, C, le2, row, col, G, K, Ho, pre, out, mo, ov), OI.mk L L.length le2) b).le ∧ L = (twDX ((R, C, le2, row, col, G, K, Ho, pre, out, mo, ov), OI.mk L L.length le2) b).L) ∧ True) (br (b == (62 : Int)) ((SV.t [] = SV.t [] ∧ True) ∧ (vI R = vI (twDX
 ((R, C, le2, row, col, G, K, Ho, pre, out, mo, ov), OI.mk L L.length le2) b).R ∧ vI C = vI (twDX ((R, C, le2, row, col, G, K, Ho, pre, out, mo, ov), OI.mk L L.length le2) b).C ∧ SV.h 1 [le2, 0] = SV.h 1 [(twDX ((R, C, le2, row, col, G, K, Ho, pre,
 out, mo, ov), OI.mk L L.length le2) b).le, 0] ∧ vI row = vI (twDX ((R, C, le2, row, col, G, K, Ho, pre, out, mo, ov), OI.mk L L.length le2) b).row ∧ vI col = vI (twDX ((R, C, le2, row, col, G, K, Ho, pre, out, mo, ov), OI.mk L L.length le2) b).col ∧
 vB G = vB (twDX ((R, C, le2, row, col, G, K, Ho, pre, out, mo, ov), OI.mk L L.length le2) b).G ∧ vB false = vB (twDX ((R, C, le2, row, col, G, K, Ho, pre, out, mo, ov), OI.mk L L.length le2) b).K ∧ vB Ho = vB (twDX ((R, C, le2, row, col, G, K, Ho,
 pre, out, mo, ov), OI.mk L L.length le2) b).Ho ∧ vS pre = vS (twDX ((R, C, le2, row, col, G, K, Ho, pre, out, mo, ov), OI.mk L L.length le2) b).pre ∧ vS out = vS (twDX ((R, C, le2, row, col, G, K, Ho, pre, out, mo, ov), OI.mk L L.length le2) b).out ∧
 vI mo = vI (twDX ((R, C, le2, row, col, G, K, Ho, pre, out, mo, ov), OI.mk L L.length le2) b).mo ∧ vB ov = vB (twDX ((R, C, le2, row, col, G, K, Ho, pre, out, mo, ov), OI.mk L L.length le2) b).ov ∧ True) ∧ (L.length = (twDX ((R, C, le2, row, col, G,
 K, Ho, pre, out, mo, ov), OI.mk L L.length le2) b).L.length ∧ le2 = (twDX ((R, C, le2, row, col, G, K, Ho, pre, out, mo, ov), OI.mk L L.length le2) b).le ∧ L = (twDX ((R, C, le2, row, col, G, K, Ho, pre, out, mo, ov), OI.mk L L.length le2) b).L) ∧
 True) (br (b == (91 : Int)) ((SV.t [] = SV.t [] ∧ True) ∧ (vI R = vI (twDX ((R, C, le2, row, col, G, K, Ho, pre, out, mo, ov), OI.mk L L.length le2) b).R ∧ vI C = vI (twDX ((R, C, le2, row, col, G, K, Ho, pre, out, mo, ov), OI.mk L L.length le2) b).C
 ∧ SV.h 1 [le2, 0] = SV.h 1 [(twDX ((R, C, le2, row, col, G, K, Ho, pre, out, mo, ov), OI.mk L L.length le2) b).le, 0] ∧ vI row = vI (twDX ((R, C, le2, row, col, G, K, Ho, pre, out, mo, ov), OI.mk L L.length le2) b).row ∧ vI col = vI (twDX ((R, C,
 le2, row, col, G, K, Ho, pre, out, mo, ov), OI.mk L L.length le2) b).col ∧ vB G = vB (twDX ((R, C, le2, row, col, G, K, Ho, pre, out, mo, ov), OI.mk L L.length le2) b).G ∧ vB K = vB (twDX ((R, C, le2, row, col, G, K, Ho, pre, out, mo, ov), OI.mk L
 L.length le2) b).K ∧ vB true = vB (twDX ((R, C, le2, row, col, G, K, Ho, pre, out, mo, ov), OI.mk L L.length le2) b).Ho ∧ vS pre = vS (twDX ((R, C, le2, row, col, G, K, Ho, pre, out, mo, ov), OI.mk L L.length le2) b).pre ∧ vS out = vS (twDX ((R, C,
 le2, row, col, G, K, Ho, pre, out, mo, ov), OI.mk L L.length le2) b).out ∧ vI mo = vI (twDX ((R, C, le2, row, col, G, K, Ho, pre, out, mo, ov), OI.mk L L.length le2) b).mo ∧ vB ov = vB (twDX ((R, C, le2, row, col, G, K, Ho, pre, out, mo, ov), OI.mk L
 L.length le2) b).ov ∧ True) ∧ (L.length = (twDX ((R, C, le2, row, col, G, K, Ho, pre, out, mo, ov), OI.mk L L.length le2) b).L.length ∧ le2 = (twDX ((R, C, le2, row, col, G, K, Ho, pre, out, mo, ov), OI.mk L L.length le2) b).le ∧ L = (twDX ((R, C,
 le2, row, col, G, K, Ho, pre, out, mo, ov), OI.mk L L.length le2) b).L) ∧ True) (br (b == (92 : Int)) ((SV.t [] = SV.t [] ∧ True) ∧ (vI R = vI (twDX ((R, C, le2, row, col, G, K, Ho, pre, out, mo, ov), OI.mk L L.length le2) b).R ∧ vI C = vI (twDX ((R,
 C, le2, row, col, G, K, Ho, pre, out, mo, ov), OI.mk L L.length le2) b).C ∧ SV.h 1 [le2, 0] = SV.h 1 [(twDX ((R, C, le2, row, col, G, K, Ho, pre, out, mo, ov), OI.mk L L.length le2) b).le, 0] ∧ vI row = vI (twDX ((R, C, le2, row, col, G, K, Ho, pre,
 out, mo, ov), OI.mk L L.length le2) b).row ∧ vI col = vI (twDX ((R, C, le2, row, col, G, K, Ho, pre, out, mo, ov), OI.mk L L.length le2) b).col ∧ vB G = vB (twDX ((R, C, le2, row, col, G, K, Ho, pre, out, mo, ov), OI.mk L L.length le2) b).G ∧ vB K =
 vB (twDX ((R, C, le2, row, col, G, K, Ho, pre, out, mo, ov), OI.mk L L.length le2) b).K ∧ vB false = vB (twDX ((R, C, le2, row, col, G, K, Ho, pre, out, mo, ov), OI.mk L L.length le2) b).Ho ∧ vS pre = vS (twDX ((R, C, le2, row, col, G, K, Ho, pre,
 out, mo, ov), OI.mk L L.length le2) b).pre ∧ vS out = vS (twDX ((R, C, le2, row, col, G, K, Ho, pre, out, mo, ov), OI.mk L L.length le2) b).out ∧ vI mo = vI (twDX ((R, C, le2, row, col, G, K, Ho, pre, out, mo, ov), OI.mk L L.length le2) b).mo ∧ vB ov
 = vB (twDX ((R, C, le2, row, col, G, K, Ho, pre, out, mo, ov), OI.mk L L.length le2) b).ov ∧ True) ∧ (L.length = (twDX ((R, C, le2, row, col, G, K, Ho, pre, out, mo, ov), OI.mk L L.length le2) b).L.length ∧ le2 = (twDX ((R, C, le2, row, col, G, K,
 Ho, pre, out, mo, ov), OI.mk L L.length le2) b).le ∧ L = (twDX ((R, C, le2, row, col, G, K, Ho, pre, out, mo, ov), OI.mk L L.length le2) b).L) ∧ True) (br (b == (90 : Int)) (br (decide (IntKind.i64.wrap ((↑out.size : Int) + (3 : Int)) > mo)) ((SV.t
 [] = SV.t [] ∧ True) ∧ (vI R = vI (twDX ((R, C, le2, row, col, G, K, Ho, pre, out, mo, ov), OI.mk L L.length le2) b).R ∧ vI C = vI (twDX ((R, C, le2, row, col, G, K, Ho, pre, out, mo, ov), OI.mk L L.length le2) b).C ∧ SV.h 1 [le2, 0] = SV.h 1 [(twDX
 ((R, C, le2, row, col, G, K, Ho, pre, out, mo, ov), OI.mk L L.length le2) b).le, 0] ∧ vI row = vI (twDX ((R, C, le2, row, col, G, K, Ho, pre, out, mo, ov), OI.mk L L.length le2) b).row ∧ vI col = vI (twDX ((R, C, le2, row, col, G, K, Ho, pre, out,
 mo, ov), OI.mk L L.length le2) b).col ∧ vB G = vB (twDX ((R, C, le2, row, col, G, K, Ho, pre, out, mo, ov), OI.mk L L.length le2) b).G ∧ vB K = vB (twDX ((R, C, le2, row, col, G, K, Ho, pre, out, mo, ov), OI.mk L L.length le2) b).K ∧ vB Ho = vB (twDX
 ((R, C, le2, row, col, G, K, Ho, pre, out, mo, ov), OI.mk L L.length le2) b).Ho ∧ vS pre = vS (twDX ((R, C, le2, row, col, G, K, Ho, pre, out, mo, ov), OI.mk L L.length le2) b).pre ∧ vS out = vS (twDX ((R, C, le2, row, col, G, K, Ho, pre, out, mo,
 ov), OI.mk L L.length le2) b).out ∧ vI mo = vI (twDX ((R, C, le2, row, col, G, K, Ho, pre, out, mo, ov), OI.mk L L.length le2) b).mo ∧ vB true = vB (twDX ((R, C, le2, row, col, G, K, Ho, pre, out, mo, ov), OI.mk L L.length le2) b).ov ∧ True) ∧
 (L.length = (twDX ((R, C, le2, row, col, G, K, Ho, pre, out, mo, ov), OI.mk L L.length le2) b).L.length ∧ le2 = (twDX ((R, C, le2, row, col, G, K, Ho, pre, out, mo, ov), OI.mk L L.length le2) b).le ∧ L = (twDX ((R, C, le2, row, col, G, K, Ho, pre,
 out, mo, ov), OI.mk L L.length le2) b).L) ∧ True) (rq ((out.size + (3 : Nat)).ble (9223372036854775807 : Nat)) ((SV.t [] = SV.t [] ∧ True) ∧ (vI R = vI (twDX ((R, C, le2, row, col, G, K, Ho, pre, out, mo, ov), OI.mk L L.length le2) b).R ∧ vI C = vI
 (twDX ((R, C, le2, row, col, G, K, Ho, pre, out, mo, ov), OI.mk L L.length le2) b).C ∧ SV.h 1 [le2, 0] = SV.h 1 [(twDX ((R, C, le2, row, col, G, K, Ho, pre, out, mo, ov), OI.mk L L.length le2) b).le, 0] ∧ vI row = vI (twDX ((R, C, le2, row, col, G,
 K, Ho, pre, out, mo, ov), OI.mk L L.length le2) b).row ∧ vI col = vI (twDX ((R, C, le2, row, col, G, K, Ho, pre, out, mo, ov), OI.mk L L.length le2) b).col ∧ vB G = vB (twDX ((R, C, le2, row, col, G, K, Ho, pre, out, mo, ov), OI.mk L L.length le2)
 b).G ∧ vB K = vB (twDX ((R, C, le2, row, col, G, K, Ho, pre, out, mo, ov), OI.mk L L.length le2) b).K ∧ vB Ho = vB (twDX ((R, C, le2, row, col, G, K, Ho, pre, out, mo, ov), OI.mk L L.length le2) b).Ho ∧ vS pre = vS (twDX ((R, C, le2, row, col, G, K,
 Ho, pre, out, mo, ov), OI.mk L L.length le2) b).pre ∧ vS (out ++ ByteArray.mk #[(27 : UInt8), (47 : UInt8), (75 : UInt8)]) = vS (twDX ((R, C, le2, row, col, G, K, Ho, pre, out, mo, ov), OI.mk L L.length le2) b).out ∧ vI mo = vI (twDX ((R, C, le2,
 row, col, G, K, Ho, pre, out, mo, ov), OI.mk L L.length le2) b).mo ∧ vB ov = vB (twDX ((R, C, le2, row, col, G, K, Ho, pre, out, mo, ov), OI.mk L L.length le2) b).ov ∧ True) ∧ (L.length = (twDX ((R, C, le2, row, col, G, K, Ho, pre, out, mo, ov),
 OI.mk L L.length le2) b).L.length ∧ le2 = (twDX ((R, C, le2, row, col, G, K, Ho, pre, out, mo, ov), OI.mk L L.length le2) b).le ∧ L = (twDX ((R, C, le2, row, col, G, K, Ho, pre, out, mo, ov), OI.mk L L.length le2) b).L) ∧ True))) ((SV.t [] = SV.t []
 ∧ True) ∧ (vI R = vI (twDX ((R, C, le2, row, col, G, K, Ho, pre, out, mo, ov), OI.mk L L.length le2) b).R ∧ vI C = vI (twDX ((R, C, le2, row, col, G, K, Ho, pre, out, mo, ov), OI.mk L L.length le2) b).C ∧ SV.h 1 [le2, 0] = SV.h 1 [(twDX ((R, C, le2,
 row, col, G, K, Ho, pre, out, mo, ov), OI.mk L L.length le2) b).le, 0] ∧ vI row = vI (twDX ((R, C, le2, row, col, G, K, Ho, pre, out, mo, ov), OI.mk L L.length le2) b).row ∧ vI col = vI (twDX ((R, C, le2, row, col, G, K, Ho, pre, out, mo, ov), OI.mk
 L L.length le2) b).col ∧ vB G = vB (twDX ((R, C, le2, row, col, G, K, Ho, pre, out, mo, ov), OI.mk L L.length le2) b).G ∧ vB K = vB (twDX ((R, C, le2, row, col, G, K, Ho, pre, out, mo, ov), OI.mk L L.length le2) b).K ∧ vB Ho = vB (twDX ((R, C, le2,
 row, col, G, K, Ho, pre, out, mo, ov), OI.mk L L.length le2) b).Ho ∧ vS pre = vS (twDX ((R, C, le2, row, col, G, K, Ho, pre, out, mo, ov), OI.mk L L.length le2) b).pre ∧ vS out = vS (twDX ((R, C, le2, row, col, G, K, Ho, pre, out, mo, ov), OI.mk L
 L.length le2) b).out ∧ vI mo = vI (twDX ((R, C, le2, row, col, G, K, Ho, pre, out, mo, ov), OI.mk L L.length le2) b).mo ∧ vB ov = vB (twDX ((R, C, le2, row, col, G, K, Ho, pre, out, mo, ov), OI.mk L L.length le2) b).ov ∧ True) ∧ (L.length = (twDX
 ((R, C, le2, row, col, G, K, Ho, pre, out, mo, ov), OI.mk L L.length le2) b).L.length ∧ le2 = (twDX ((R, C, le2, row, col, G, K, Ho, pre, out, mo, ov), OI.mk L L.length le2) b).le ∧ L = (twDX ((R, C, le2, row, col, G, K, Ho, pre, out, mo, ov), OI.mk
 L L.length le2) b).L) ∧ True))))))))))))))))) (by kernel_rfl) ?_
  clear hp hφ
  have r0 := hI.r0
  have r1 := hI.r1
  have c0 := hI.c0
  have c1 := hI.c1
  have hlen := hI.len
  have rw0 := hI.row0
  have rw1 := hI.row1
  have cl0 := hI.col0
  have cl1 := hI.col1
  have hout := hI.out
  have hmo := hI.mo
  simp only at r0 r1 c0 c1 hlen rw0 rw1 cl0 cl1 hout hmo
  have hA := area r0 r1 c0 c1
  have hP := place rw0 rw1 cl0 cl1
  have hDA : DA ((R, C, le2, row, col, G, K, Ho, pre, out, mo, ov), OI.mk L L.length le2) := ⟨rfl, rfl, hI⟩
  have hrc : 0 ≤ row * C := Int.mul_nonneg rw0 (by omega)
  have w1 : IntKind.i64.wrap (row * C) = row * C := wrap64 (by omega) (by omega)
  have w2 : IntKind.i64.wrap (row * C + col) = row * C + col := wrap64 (by omega) (by omega)
  have w3 : IntKind.i64.wrap (col + 1) = col + 1 := wrap64 (by omega) (by omega)
  have w4 : IntKind.i64.wrap (C - 1) = C - 1 := wrap64 (by omega) (by omega)
  have w5 : IntKind.i64.wrap (col - 1) = col - 1 := wrap64 (by omega) (by omega)
  have w6 : IntKind.i64.wrap (row + 1) = row + 1 := wrap64 (by omega) (by omega)
  have w7 : IntKind.i64.wrap (row - 1) = row - 1 := wrap64 (by omega) (by omega)
  have w8 : IntKind.i64.wrap (R - 1) = R - 1 := wrap64 (by omega) (by omega)
  have w9 : IntKind.i64.wrap ((L.length : Int) - 1) = L.length - 1 := wrap64 (by omega) (by omega)
  have w10 : IntKind.i64.wrap (row * C + C) = row * C + C := wrap64 (by omega) (by omega)
  have w11 : IntKind.i64.wrap (row * C + C - 1) = row * C + C - 1 := wrap64 (by omega) (by omega)
  have w12 : IntKind.i64.wrap ((out.size : Int) + 3) = out.size + 3 := wrap64 (by omega) (by omega)
  simp only [w1, w2, w3, w4, w5, w6, w7, w8, w9, w10, w11, w12, rq_iff, br_iff, II, nbeq, Bool.true_and, decide_eq_true_eq, decide_eq_false_iff_not, Nat.blt_eq, true_and, and_true, and_self, Nat.mul_one]
  have e1 : (if 0 > col - 1 then 0 else col - 1) = mxI col := by unfold mxI; split <;> split <;> omega
  have e2 : (if C - 1 < col + 1 then C - 1 else col + 1) = mnI col C := rfl
  have e3 : (if 0 > row - 1 then 0 else row - 1) = mxI row := by unfold mxI; split <;> split <;> omega
  have e4 : (if R - 1 < row + 1 then R - 1 else row + 1) = mnI row R := rfl
  simp only [e1, e2, e3, e4]
  by_cases h65 : b = 65
  · subst h65
    simp [twDX, twD, dtS]
  by_cases h66 : b = 66
  · subst h66
    simp [twDX, twD, dtS]
  by_cases h67 : b = 67
  · subst h67
    simp [twDX, twD, dtS]
  by_cases h68 : b = 68
  · subst h68
    simp [twDX, twD, dtS]
  by_cases h72 : b = 72
  · subst h72
    simp [twDX, twD, dtS]
  by_cases h73 : b = 73
  · subst h73
    by_cases hr : row = 0
    · subst hr
      simp [twDX, twD, dtS, scD, hDA]
    · simp [twDX, twD, dtS, scD, hDA, hr]
  by_cases h74 : b = 74
  · subst h74
    simp [twDX, twD, dtS, wpD, hDA]
    have hQ : (row + 1) * C ≤ R * C := Int.mul_le_mul_of_nonneg_right (by omega) (by omega)
    rw [Int.add_mul, Int.one_mul] at hQ
    exact ⟨hP.1, by omega, by omega⟩
  by_cases h75 : b = 75
  · subst h75
    simp [twDX, twD, dtS, wpD, hDA]
    have hQ : (row + 1) * C ≤ R * C := Int.mul_le_mul_of_nonneg_right (by omega) (by omega)
    rw [Int.add_mul, Int.one_mul] at hQ
    exact ⟨hP.1, by omega, by omega⟩
  by_cases h70 : b = 70
  · subst h70
    simp [twDX, twD, dtS]
  by_cases h71 : b = 71
  · subst h71
    simp [twDX, twD, dtS]
  by_cases h61 : b = 61
  · subst h61
    simp [twDX, twD, dtS]
  by_cases h62 : b = 62
  · subst h62
    simp [twDX, twD, dtS]
  by_cases h91 : b = 91
  · subst h91
    simp [twDX, twD, dtS]
  by_cases h92 : b = 92
  · subst h92
    simp [twDX, twD, dtS]
  by_cases h90 : b = 90
  · subst h90
    by_cases ho : (out.size : Int) + 3 > mo
    · simp [twDX, twD, dtS, hDA, ho]
    · simp [twDX, twD, dtS, hDA, ho]
      exact ⟨by omega, rfl⟩
  have q : ∀ v : Int, b ≠ v → v ≠ b := fun v h e => h e.symm
  simp [twDX, twD, dtS, h65, q _ h65, h66, q _ h66, h67, q _ h67, h68, q _ h68, h72, q _ h72, h73, q _ h73, h74, q _ h74, h75, q _ h75, h70, q _ h70, h71, q _ h71, h61, q _ h61, h62, q _ h62, h91, q _ h91, h92, q _ h92, h90, q _ h90]
end Go.Proofs.YtcbjgpkbfmmdpaaGreatDoor
namespace Go.Proofs.YtcbjgpkbfmmdpaaGreatDoor
open Go Go.Sym
def eyB : ByteArray := ⟨#[27, 89]⟩
def byD (d : Dt) (b : Int) : Dt :=
  if b = 27 then { d with pre := escB }
  else if d.pre.size = 0 then (if 32 ≤ b ∧ b ≤ 126 then puD d b else if b < 32 then ctD d b else d)
  else if d.pre.size = 1 then (if b = 89 then { d with pre := eyB } else twD { d with pre := ByteArray.empty } b)
  else if d.pre.size = 2 then { d with pre := d.pre ++ bytesOf [b] }
  else { d with pre := ByteArray.empty, row := if 0 ≤ byteAt d.pre 2 - 32 ∧ byteAt d.pre 2 - 32 < d.R then byteAt d.pre 2 - 32 else d.row, col := if 0 ≤ b - 32 then (if d.C - 1 < b - 32 then d.C - 1 else b - 32) else d.col }
def byDX (x : DR) (b : Int) : Dt := byD (dtS x) b
def tabB12 : List (Nat × ACon Unit) := (53, lcDCtl) :: (54, lcDTwo) :: tabA12
theorem tabB12_ok : LCs Tryz.prog tabB12 := ⟨ok_dCtl, ok_dTwo, tabA12_ok⟩
def lcDByte : ACon Unit := mkLC (decP (shArg 0) (shDt 0)) fun ((_, b), x) => .ask (DA x ∧ 0 ≤ b ∧ b ≤ 255) (.one (.t []) (dtI 0 (byDX x b)) [0, 1])
set_option maxHeartbeats 4000000 in
theorem ok_dByte : ∀ I : Sym.Inv Unit, LCOk I Tryz.prog 28 lcDByte := by
  refine lc_mk (fun _ => allCfg Tryz.prog [] tabB12 0) (fun _ _ => allCfg_ok mixed trivial tabB12_ok) (fun _ => rfl) (n := 90) Tryz.func28 ?_
  intro ⟨⟨_, b⟩, ⟨R, C, le2, row, col, G, K, Ho, pre, out, mo, ov⟩, ⟨L, n, le⟩⟩ hφ
  obtain ⟨⟨⟨rfl, rfl, hI⟩, hb0, hb1⟩, hp⟩ := id hφ
  refine kcast (B := ((fun B : Dt => br (b == (27 : Int)) ((SV.t [] = SV.t [] ∧ True) ∧ (vI R = vI B.R ∧ vI C = vI B.C ∧ SV.h 1 [le2, 0] = SV.h 1 [B.le, 0] ∧ vI row = vI B.row ∧ vI col = vI B.col ∧ vB G = vB B.G ∧ vB K = vB B.K ∧ vB Ho = vB B.Ho ∧ vS (ByteArray.mk #[(27
 : UInt8)]) = vS B.pre ∧ vS out = vS B.out ∧ vI mo = vI B.mo ∧ vB ov = vB B.ov ∧ True) ∧ (L.length = B.L.length ∧ le2 = B.le ∧ L = B.L) ∧ True) (br ((↑pre.size : Int) == (0 : Int)) (br (decide (b ≥ (32 : Int))) (br (decide (b ≤ (126 : Int))) (true =
 true ∧ (DA ((R, C, le2, row, col, G, K, Ho, pre, out, mo, ov), OI.mk L L.length le2) ∧ (0 : Int) ≤ b ∧ b ≤ (255 : Int)) ∧ (SV.t [] = SV.t [] ∧ True) ∧ (vI R = vI B.R ∧ vI C = vI B.C ∧ SV.h 1 [le2, 0] = SV.h 1 [B.le, 0] ∧ vI row = vI B.row ∧ vI (mnI
 col C) = vI B.col ∧ vB G = vB B.G ∧ vB K = vB B.K ∧ vB Ho = vB B.Ho ∧ vS pre = vS B.pre ∧ vS out = vS B.out ∧ vI mo = vI B.mo ∧ vB ov = vB B.ov ∧ True) ∧ ((L.set (row * C + col).toNat (ofT (if G = true then (3 : Int) else (1 : Int)) b)).length =
 B.L.length ∧ le2 = B.le ∧ L.set (row * C + col).toNat (ofT (if G = true then (3 : Int) else (1 : Int)) b) = B.L) ∧ True) (br (decide (b < (32 : Int))) (true = true ∧ (DA ((R, C, le2, row, col, G, K, Ho, pre, out, mo, ov), OI.mk L L.length le2) ∧ (0 :
 Int) ≤ b ∧ b ≤ (255 : Int)) ∧ (SV.t [] = SV.t [] ∧ True) ∧ (vI (ctDX ((R, C, le2, row, col, G, K, Ho, pre, out, mo, ov), OI.mk L L.length le2) b).R = vI B.R ∧ vI (ctDX ((R, C, le2, row, col, G, K, Ho, pre, out, mo, ov), OI.mk L L.length le2) b).C =
 vI B.C ∧ SV.h 1 [(ctDX ((R, C, le2, row, col, G, K, Ho, pre, out, mo, ov), OI.mk L L.length le2) b).le, 0] = SV.h 1 [B.le, 0] ∧ vI (ctDX ((R, C, le2, row, col, G, K, Ho, pre, out, mo, ov), OI.mk L L.length le2) b).row = vI B.row ∧ vI (ctDX ((R, C,
 le2, row, col, G, K, Ho, pre, out, mo, ov), OI.mk L L.length le2) b).col = vI B.col ∧ vB (ctDX ((R, C, le2, row, col, G, K, Ho, pre, out, mo, ov), OI.mk L L.length le2) b).G = vB B.G ∧ vB (ctDX ((R, C, le2, row, col, G, K, Ho, pre, out, mo, ov),
 OI.mk L L.length le2) b).K = vB B.K ∧ vB (ctDX ((R, C, le2, row, col, G, K, Ho, pre, out, mo, ov), OI.mk L L.length le2) b).Ho = vB B.Ho ∧ vS (ctDX ((R, C, le2, row, col, G, K, Ho, pre, out, mo, ov), OI.mk L L.length le2) b).pre = vS B.pre ∧ vS (ctDX
 ((R, C, le2, row, col, G, K, Ho, pre, out, mo, ov), OI.mk L L.length le2) b).out = vS B.out ∧ vI (ctDX ((R, C, le2, row, col, G, K, Ho, pre, out, mo, ov), OI.mk L L.length le2) b).mo = vI B.mo ∧ vB (ctDX ((R, C, le2, row, col, G, K, Ho, pre, out, mo,
 ov), OI.mk L L.length le2) b).ov = vB B.ov ∧ True) ∧ ((ctDX ((R, C, le2, row, col, G, K, Ho, pre, out, mo, ov), OI.mk L L.length le2) b).L.length = B.L.length ∧ (ctDX ((R, C, le2, row, col, G, K, Ho, pre, out, mo, ov), OI.mk L L.length le2) b).le =
 B.le ∧ (ctDX ((R, C, le2, row, col, G, K, Ho, pre, out, mo, ov), OI.mk L L.length le2) b).L = B.L) ∧ True) ((SV.t [] = SV.t [] ∧ True) ∧ (vI R = vI B.R ∧ vI C = vI B.C ∧ SV.h 1 [le2, 0] = SV.h 1 [B.le, 0] ∧ vI row = vI B.row ∧ vI col = vI B.col ∧ vB
 G = vB B.G ∧ vB K = vB B.K ∧ vB Ho = vB B.Ho ∧ vS pre = vS B.pre ∧ vS out = vS B.out ∧ vI mo = vI B.mo ∧ vB ov = vB B.ov ∧ True) ∧ (L.length = B.L.length ∧ le2 = B.le ∧ L = B.L) ∧ True))) (br (decide (b < (32 : Int))) (true = true ∧ (DA ((R, C, le2,
 row, col, G, K, Ho, pre, out, mo, ov), OI.mk L L.length le2) ∧ (0 : Int) ≤ b ∧ b ≤ (255 : Int)) ∧ (SV.t [] = SV.t [] ∧ True) ∧ (vI (ctDX ((R, C, le2, row, col, G, K, Ho, pre, out, mo, ov), OI.mk L L.length le2) b).R = vI B.R ∧ vI (ctDX ((R, C, le2,
 row, col, G, K, Ho, pre, out, mo, ov), OI.mk L L.length le2) b).C = vI B.C ∧ SV.h 1 [(ctDX ((R, C, le2, row, col, G, K, Ho, pre, out, mo, ov), OI.mk L L.length le2) b).le, 0] = SV.h 1 [B.le, 0] ∧ vI (ctDX ((R, C, le2, row, col, G, K, Ho, pre, out,
 mo, ov), OI.mk L L.length le2) b).row = vI B.row ∧ vI (ctDX ((R, C, le2, row, col, G, K, Ho, pre, out, mo, ov), OI.mk L L.length le2) b).col = vI B.col ∧ vB (ctDX ((R, C, le2, row, col, G, K, Ho, pre, out, mo, ov), OI.mk L L.length le2) b).G = vB B.G
 ∧ vB (ctDX ((R, C, le2, row, col, G, K, Ho, pre, out, mo, ov), OI.mk L L.length le2) b).K = vB B.K ∧ vB (ctDX ((R, C, le2, row, col, G, K, Ho, pre, out, mo, ov), OI.mk L L.length le2) b).Ho = vB B.Ho ∧ vS (ctDX ((R, C, le2, row, col, G, K, Ho, pre,
 out, mo, ov), OI.mk L L.length le2) b).pre = vS B.pre ∧ vS (ctDX ((R, C, le2, row, col, G, K, Ho, pre, out, mo, ov), OI.mk L L.length le2) b).out = vS B.out ∧ vI (ctDX ((R, C, le2, row, col, G, K, Ho, pre, out, mo, ov), OI.mk L L.length le2) b).mo =
 vI B.mo ∧ vB (ctDX ((R, C, le2, row, col, G, K, Ho, pre, out, mo, ov), OI.mk L L.length le2) b).ov = vB B.ov ∧ True) ∧ ((ctDX ((R, C, le2, row, col, G, K, Ho, pre, out, mo, ov), OI.mk L L.length le2) b).L.length = B.L.length ∧ (ctDX ((R, C, le2, row,
 col, G, K, Ho, pre, out, mo, ov), OI.mk L L.length le2) b).le = B.le ∧ (ctDX ((R, C, le2, row, col, G, K, Ho, pre, out, mo, ov), OI.mk L L.length le2) b).L = B.L) ∧ True) ((SV.t [] = SV.t [] ∧ True) ∧ (vI R = vI B.R ∧ vI C = vI B.C ∧ SV.h 1 [le2, 0]
 = SV.h 1 [B.le, 0] ∧ vI row = vI B.row ∧ vI col = vI B.col ∧ vB G = vB B.G ∧ vB K = vB B.K ∧ vB Ho = vB B.Ho ∧ vS pre = vS B.pre ∧ vS out = vS B.out ∧ vI mo = vI B.mo ∧ vB ov = vB B.ov ∧ True) ∧ (L.length = B.L.length ∧ le2 = B.le ∧ L = B.L) ∧
 True))) (br ((↑pre.size : Int) == (1 : Int)) (br (b == (89 : Int)) ((SV.t [] = SV.t [] ∧ True) ∧ (vI R = vI B.R ∧ vI C = vI B.C ∧ SV.h 1 [le2, 0] = SV.h 1 [B.le, 0] ∧ vI row = vI B.row ∧ vI col = vI B.col ∧ vB G = vB B.G ∧ vB K = vB B.K ∧ vB Ho = vB
 B.Ho ∧ vS (ByteArray.mk #[(27 : UInt8), (89 : UInt8)]) = vS B.pre ∧ vS out = vS B.out ∧ vI mo = vI B.mo ∧ vB ov = vB B.ov ∧ True) ∧ (L.length = B.L.length ∧ le2 = B.le ∧ L = B.L) ∧ True) (true = true ∧ (DA ((R, C, le2, row, col, G, K, Ho,
 ByteArray.mk #[], out, mo, ov), OI.mk L L.length le2) ∧ (0 : Int) ≤ b ∧ b ≤ (255 : Int)) ∧ (SV.t [] = SV.t [] ∧ True) ∧ (vI (twDX ((R, C, le2, row, col, G, K, Ho, ByteArray.mk #[], out, mo, ov), OI.mk L L.length le2) b).R = vI B.R ∧ vI (twDX ((R, C,
 le2, row, col, G, K, Ho, ByteArray.mk #[], out, mo, ov), OI.mk L L.length le2) b).C = vI B.C ∧ SV.h (1 : Nat) [(twDX ((R, C, le2, row, col, G, K, Ho, ByteArray.mk #[], out, mo, ov), OI.mk L L.length le2) b).le, (0 : Nat)] = SV.h 1 [B.le, 0] ∧ vI
 (twDX ((R, C, le2, row, col, G, K, Ho, ByteArray.mk #[], out, mo, ov), OI.mk L L.length le2) b).row = vI B.row ∧ vI (twDX ((R, C, le2, row, col, G, K, Ho, ByteArray.mk #[], out, mo, ov), OI.mk L L.length le2) b).col = vI B.col ∧ vB (twDX ((R, C, le2,
 row, col, G, K, Ho, ByteArray.mk #[], out, mo, ov), OI.mk L L.length le2) b).G = vB B.G ∧ vB (twDX ((R, C, le2, row, col, G, K, Ho, ByteArray.mk #[], out, mo, ov), OI.mk L L.length le2) b).K = vB B.K ∧ vB (twDX ((R, C, le2, row, col, G, K, Ho,
 ByteArray.mk #[], out, mo, ov), OI.mk L L.length le2) b).Ho = vB B.Ho ∧ vS (twDX ((R, C, le2, row, col, G, K, Ho, ByteArray.mk #[], out, mo, ov), OI.mk L L.length le2) b).pre = vS B.pre ∧ vS (twDX ((R, C, le2, row, col, G, K, Ho, ByteArray.mk #[],
 out, mo, ov), OI.mk L L.length le2) b).out = vS B.out ∧ vI (twDX ((R, C, le2, row, col, G, K, Ho, ByteArray.mk #[], out, mo, ov), OI.mk L L.length le2) b).mo = vI B.mo ∧ vB (twDX ((R, C, le2, row, col, G, K, Ho, ByteArray.mk #[], out, mo, ov), OI.mk
 L L.length le2) b).ov = vB B.ov ∧ True) ∧ ((twDX ((R, C, le2, row, col, G, K, Ho, ByteArray.mk #[], out, mo, ov), OI.mk L L.length le2) b).L.length = B.L.length ∧ (twDX ((R, C, le2, row, col, G, K, Ho, ByteArray.mk #[], out, mo, ov), OI.mk L L.length
 le2) b).le = B.le ∧ (twDX ((R, C, le2, row, col, G, K, Ho, ByteArray.mk #[], out, mo, ov), OI.mk L L.length le2) b).L = B.L) ∧ True)) (br ((↑pre.size : Int) == (2 : Int)) (rq ((pre.size + (bytesOf (intsOf (List.take (1 : Nat) (List.drop (0 : Nat)
 (setAll (List.map (fun i => SV.v (Value.int IntKind.u8 (0 : Int)).cells[i % (1 : Nat)]!) (List.range (1 : Nat))) (0 : Nat) [SV.v (Value.int IntKind.u8 b)]))))).size).ble (9223372036854775807 : Nat)) ((SV.t [] = SV.t [] ∧ True) ∧ (vI R = vI B.R ∧ vI C
 = vI B.C ∧ SV.h 1 [le2, 0] = SV.h 1 [B.le, 0] ∧ vI row = vI B.row ∧ vI col = vI B.col ∧ vB G = vB B.G ∧ vB K = vB B.K ∧ vB Ho = vB B.Ho ∧ vS (pre ++ bytesOf (intsOf (List.take (1 : Nat) (List.drop (0 : Nat) (setAll (List.map (fun i => SV.v (Value.int
 IntKind.u8 (0 : Int)).cells[i % (1 : Nat)]!) (List.range (1 : Nat))) (0 : Nat) [SV.v (Value.int IntKind.u8 b)]))))) = vS B.pre ∧ vS out = vS B.out ∧ vI mo = vI B.mo ∧ vB ov = vB B.ov ∧ True) ∧ (L.length = B.L.length ∧ le2 = B.le ∧ L = B.L) ∧ True))
 (rq (decide ((0 : Int) ≤ (2 : Int) ∧ (2 : Int) < (↑pre.size : Int))) (br (decide (IntKind.i64.wrap (IntKind.i64.wrap (byteAt pre (2 : Nat)) - (32 : Int)) ≥ (0 : Int))) (br (decide (IntKind.i64.wrap (IntKind.i64.wrap (byteAt pre (2 : Nat)) - (32 :
 Int)) < R)) (br (decide (IntKind.i64.wrap (IntKind.i64.wrap b - (32 : Int)) ≥ (0 : Int))) ((SV.t [] = SV.t [] ∧ True) ∧ (vI R = vI B.R ∧ vI C = vI B.C ∧ SV.h 1 [le2, 0] = SV.h 1 [B.le, 0] ∧ vI (IntKind.i64.wrap (IntKind.i64.wrap (byteAt pre (2 :
 Nat)) - (32 : Int))) = vI B.row ∧ vI (if IntKind.i64.wrap (C - (1 : Int)) < IntKind.i64.wrap (IntKind.i64.wrap b - (32 : Int)) then IntKind.i64.wrap (C - (1 : Int)) else IntKind.i64.wrap (IntKind.i64.wrap b - (32 : Int))) = vI B.col ∧ vB G = vB B.G ∧
 vB K = vB B.K ∧ vB Ho = vB B.Ho ∧ vS (ByteArray.mk #[]) = vS B.pre ∧ vS out = vS B.out ∧ vI mo = vI B.mo ∧ vB ov = vB B.ov ∧ True) ∧ (L.length = B.L.length ∧ le2 = B.le ∧ L = B.L) ∧ True) ((SV.t [] = SV.t [] ∧ True) ∧ (vI R = vI B.R ∧ vI C = vI B.C ∧
 SV.h 1 [le2, 0] = SV.h 1 [B.le, 0] ∧ vI (IntKind.i64.wrap (IntKind.i64.wrap (byteAt pre (2 : Nat)) - (32 : Int))) = vI B.row ∧ vI col = vI B.col ∧ vB G = vB B.G ∧ vB K = vB B.K ∧ vB Ho = vB B.Ho ∧ vS (ByteArray.mk #[]) = vS B.pre ∧ vS out = vS B.out
 ∧ vI mo = vI B.mo ∧ vB ov = vB B.ov ∧ True) ∧ (L.length = B.L.length ∧ le2 = B.le ∧ L = B.L) ∧ True)) (br (decide (IntKind.i64.wrap (IntKind.i64.wrap b - (32 : Int)) ≥ (0 : Int))) ((SV.t [] = SV.t [] ∧ True) ∧ (vI R = vI B.R ∧ vI C = vI B.C ∧ SV.h 1
 [le2, 0] = SV.h 1 [B.le, 0] ∧ vI row = vI B.row ∧ vI (if IntKind.i64.wrap (C - (1 : Int)) < IntKind.i64.wrap (IntKind.i64.wrap b - (32 : Int)) then IntKind.i64.wrap (C - (1 : Int)) else IntKind.i64.wrap (IntKind.i64.wrap b - (32 : Int))) = vI B.col ∧
 vB G = vB B.G ∧ vB K = vB B.K ∧ vB Ho = vB B.Ho ∧ vS (ByteArray.mk #[]) = vS B.pre ∧ vS out = vS B.out ∧ vI mo = vI B.mo ∧ vB ov = vB B.ov ∧ True) ∧ (L.length = B.L.length ∧ le2 = B.le ∧ L = B.L) ∧ True) ((SV.t [] = SV.t [] ∧ True) ∧ (vI R = vI B.R ∧
 vI C = vI B.C ∧ SV.h 1 [le2, 0] = SV.h 1 [B.le, 0] ∧ vI row = vI B.row ∧ vI col = vI B.col ∧ vB G = vB B.G ∧ vB K = vB B.K ∧ vB Ho = vB B.Ho ∧ vS (ByteArray.mk #[]) = vS B.pre ∧ vS out = vS B.out ∧ vI mo = vI B.mo ∧ vB ov = vB B.ov ∧ True) ∧
 (L.length = B.L.length ∧ le2 = B.le ∧ L = B.L) ∧ True))) (br (decide (IntKind.i64.wrap (IntKind.i64.wrap b - (32 : Int)) ≥ (0 : Int))) ((SV.t [] = SV.t [] ∧ True) ∧ (vI R = vI B.R ∧ vI C = vI B.C ∧ SV.h 1 [le2, 0] = SV.h 1 [B.le, 0] ∧ vI row = vI
 B.row ∧ vI (if IntKind.i64.wrap (C - (1 : Int)) < IntKind.i64.wrap (IntKind.i64.wrap b - (32 : Int)) then IntKind.i64.wrap (C - (1 : Int)) else IntKind.i64.wrap (IntKind.i64.wrap b - (32 : Int))) = vI B.col ∧ vB G = vB B.G ∧ vB K = vB B.K ∧ vB Ho =
 vB B.Ho ∧ vS (ByteArray.mk #[]) = vS B.pre ∧ vS out = vS B.out ∧ vI mo = vI B.mo ∧ vB ov = vB B.ov ∧ True) ∧ (L.length = B.L.length ∧ le2 = B.le ∧ L = B.L) ∧ True) ((SV.t [] = SV.t [] ∧ True) ∧ (vI R = vI B.R ∧ vI C = vI B.C ∧ SV.h 1 [le2, 0] = SV.h
 1 [B.le, 0] ∧ vI row = vI B.row ∧ vI col = vI B.col ∧ vB G = vB B.G ∧ vB K = vB B.K ∧ vB Ho = vB B.Ho ∧ vS (ByteArray.mk #[]) = vS B.pre ∧ vS out = vS B.out ∧ vI mo = vI B.mo ∧ vB ov = vB B.ov ∧ True) ∧ (L.length = B.L.length ∧ le2 = B.le ∧ L = B.L)
 ∧ True)))))))) (byDX ((R, C, le2, row, col, G, K, Ho, pre, out, mo, ov), OI.mk L L.length le2) b))) (by kernel_rfl) ?_
  clear hp hφ
  have hpr := hI.pre
  simp only at hpr
  have hDA : DA ((R, C, le2, row, col, G, K, Ho, pre, out, mo, ov), OI.mk L L.length le2) := ⟨rfl, rfl, hI⟩
  have hDE : DA ((R, C, le2, row, col, G, K, Ho, ByteArray.empty, out, mo, ov), OI.mk L L.length le2) := ⟨rfl, rfl, hI.r0, hI.r1, hI.c0, hI.c1, hI.len, hI.row0, hI.row1, hI.col0, hI.col1, Nat.zero_le _, hI.out, hI.mo⟩
  have z0 : (ByteArray.mk #[]) = ByteArray.empty := rfl
  by_cases h27 : b = 27
  · subst h27
    simp [br_iff, rq_iff, byDX, byD, dtS, escB]
  by_cases p0 : pre.size = 0
  · by_cases h32 : 32 ≤ b
    · by_cases h126 : b ≤ 126
      · simp [br_iff, rq_iff, nbeq, byDX, byD, dtS, h27, p0, h32, h126, hDA, hb0, hb1, puD]
        rfl
      · have h1 : ¬ b < 32 := by omega
        simp [br_iff, rq_iff, nbeq, byDX, byD, dtS, h27, p0, h32, h126, hDA, hb0, hb1, h1]
    · have h1 : b < 32 := by omega
      simp [br_iff, rq_iff, nbeq, byDX, byD, dtS, h27, p0, h32, h1, hDA, hb0, hb1, ctDX]
  by_cases p1 : pre.size = 1
  · by_cases h89 : b = 89
    · subst h89
      simp [br_iff, rq_iff, nbeq, byDX, byD, dtS, p1, eyB]
    · simp [br_iff, rq_iff, nbeq, byDX, byD, dtS, h27, p1, h89, hDE, hb0, hb1, twDX, z0]
  by_cases p2 : pre.size = 2
  · simp [br_iff, rq_iff, nbeq, byDX, byD, dtS, h27, p2]
    refine ⟨?_, rfl⟩
    show 2 + 1 ≤ 9223372036854775807
    omega
  have p3 : pre.size = 3 := by omega
  have hbr := byteAt_range pre 2
  have c0 := hI.c0
  have c1 := hI.c1
  simp only at c0 c1
  have w1 : IntKind.i64.wrap (byteAt pre 2) = byteAt pre 2 := wrap64 (by omega) (by omega)
  have w2 : IntKind.i64.wrap (byteAt pre 2 - 32) = byteAt pre 2 - 32 := wrap64 (by omega) (by omega)
  have w3 : IntKind.i64.wrap b = b := wrap64 (by omega) (by omega)
  have w4 : IntKind.i64.wrap (b - 32) = b - 32 := wrap64 (by omega) (by omega)
  have w5 : IntKind.i64.wrap (C - 1) = C - 1 := wrap64 (by omega) (by omega)
  simp only [br_iff, rq_iff, nbeq, byDX, byD, dtS, h27, p3, w1, w2, w3, w4, w5]
  simp [z0]
  generalize byteAt pre 2 = y
  repeat' (first | intro _ | refine And.intro ?_ ?_)
  all_goals first
    | omega
    | (split <;> first | omega | (split <;> omega))
end Go.Proofs.YtcbjgpkbfmmdpaaGreatDoor
