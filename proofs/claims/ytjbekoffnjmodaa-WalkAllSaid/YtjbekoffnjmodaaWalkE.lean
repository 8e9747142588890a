/- The law of all places: it answers true. -/
import Derived.Test.YtjbekoffnjmodaaWalkB
set_option linter.unusedSimpArgs false
set_option linter.unusedVariables false
set_option linter.unusedSectionVars false
namespace Go.Proofs.Ytjbekoffnjmodaa
open Go Go.Sym

/-- The cursor ahead of glyph i: a rows down, b columns on. -/
structure Inv6 (R C : Int) (au : Bool) (x : Int × Int × Int × Bool) : Prop where
  e : ∃ a b, x.1 = a * C + b ∧ 0 ≤ b ∧ b < C ∧ 0 ≤ a ∧ (a < R ∨ a = R ∧ b = 0) ∧
    ((a = R ∧ au = true ∧ x.2.1 = R - 1 ∧ x.2.2.1 = 0 ∧ x.2.2.2 = false) ∨
     (a < R ∧ x.2.1 = a ∧ x.2.2.1 = b ∧ x.2.2.2 = false ∧ (au = true ∨ 0 < b ∨ a = 0)) ∨
     (0 < a ∧ b = 0 ∧ au = false ∧ x.2.1 = a - 1 ∧ x.2.2.1 = C - 1 ∧ x.2.2.2 = true))
def ann6 (R C : Int) (au : Bool) : Ann Empty where
  α := Int × Int × Int × Bool
  φ := Inv6 R C au
  μ x := (R * C - x.1).toNat
  get st := match getI st.tm 8, getC st.H 1 with
    | some i, [.v (.int _ r), .v (.int _ c), .v (.bool p)] => some (i, r, c, p)
    | _, _ => none
  f st x := tmpl [1, 2, 4, 5, 6, 7] [(8, .v (.int .i64 x.1))] [(1, .cells [.v (.int .i64 x.2.1), .v (.int .i64 x.2.2.1), .v (.bool x.2.2.2)] 27)] st
def psL6 : PS := mkPS (shCons (shA (shCons shI (shOne shI))) (shOne shB)) (fun ((R, C), _) => i64 R ∧ i64 C) (fun ((_, _), _) => .v (.bool true))

theorem br_f' {b : Bool} {A B : Prop} (h : b = false) (hB : B) : br b A B := by subst h; exact hB
theorem br_t' {b : Bool} {A B : Prop} (h : b = true) (hA : A) : br b A B := by subst h; exact hA
theorem row_lt {a b R C : Int} (hb : b < C) (h0 : 0 ≤ b) (ha : a < R) : a * C + b + 1 ≤ R * C ∧ (a * C + b + 1 = R * C ↔ a = R - 1 ∧ b = C - 1) := by
  have h1 : (a + 1) * C ≤ R * C := Int.mul_le_mul_of_nonneg_right (by omega) (by omega)
  rw [Int.add_mul] at h1
  refine ⟨by omega, fun h => ?_, fun h => ?_⟩
  · have hb' : b = C - 1 := by omega
    by_cases hlt : a < R - 1
    · have h2 : (a + 2) * C ≤ R * C := Int.mul_le_mul_of_nonneg_right (by omega) (by omega)
      rw [Int.add_mul] at h2
      omega
    · exact ⟨by omega, hb'⟩
  · obtain ⟨rfl, rfl⟩ := h
    rw [Int.sub_mul]; omega
theorem at6 {R C i r c : Int} {au p : Bool} (hm : may R C) (h : Inv6 R C au (i, r, c, p)) (hi : i < R * C) :
    ∃ a b, i = a * C + b ∧ 0 ≤ b ∧ b < C ∧ 0 ≤ a ∧ a < R ∧ aheadR R C r p = a ∧ aheadC R C c p = b ∧ aheadU R C r p = false := by
  have hq := hm
  unfold may at hq
  obtain ⟨⟨a, b, h1, h2, h3, h4, h5, h6⟩⟩ := h
  simp only at h1 h6
  have ha : a < R := by
    rcases h5 with h5 | ⟨rfl, rfl⟩
    · exact h5
    · omega
  refine ⟨a, b, h1, h2, h3, h4, ha, ?_⟩
  rcases h6 with ⟨h, _⟩ | ⟨_, rfl, rfl, rfl, _⟩ | ⟨h7, rfl, h8, rfl, rfl, rfl⟩
  · omega
  · unfold aheadR aheadC aheadU nearP nearI
    simp only [hm, Bool.false_eq_true, and_false, if_false, if_true, false_and, decide_false, and_true]
    omega
  · unfold aheadR aheadC aheadU nextI nearI
    simp only [hm, and_self, if_true, true_and, decide_eq_false_iff_not]
    omega
theorem end6 {R C i r c : Int} {au p : Bool} (hm : may R C) (h : Inv6 R C au (i, r, c, p)) (hi : ¬ i < R * C) :
    aheadR R C r p = R - 1 ∧ aheadC R C c p = 0 ∧ aheadU R C r p = !au := by
  have hq := hm
  unfold may at hq
  obtain ⟨⟨a, b, h1, h2, h3, h4, h5, h6⟩⟩ := h
  simp only at h1 h6
  have ha : a = R ∧ b = 0 := by
    rcases h5 with h5 | h5
    · have := (row_lt h3 h2 h5).1; omega
    · exact h5
  obtain ⟨rfl, rfl⟩ := ha
  rcases h6 with ⟨_, rfl, rfl, rfl, rfl⟩ | ⟨h, _⟩ | ⟨h7, _, rfl, rfl, rfl, rfl⟩
  · unfold aheadR aheadC aheadU nearP nearI
    simp only [hm, Bool.false_eq_true, and_false, if_false, if_true, false_and, decide_false, Bool.not_true, and_true]
    omega
  · omega
  · unfold aheadR aheadC aheadU nextI nearI
    simp only [hm, and_self, if_true, true_and, Bool.not_false, decide_eq_true_eq]
    omega
theorem behA {R C a b i : Int} (hm : may R C) (h : i = a * C + b) (hb : 0 ≤ b) (hc : b < C) (ha : 0 ≤ a) (hr : a < R) :
    behU R C a b 2 = (i == R * C - 1) ∧ Inv6 R C true (i + 1, behR R C a b 2, behC R C b 2, behP R C b 2) := by
  have hq := hm
  unfold may at hq
  have hl := row_lt hc hb hr
  have hn1 : nearI b C = b := by unfold nearI; omega
  have hn2 : nearI a R = a := by unfold nearI; omega
  constructor
  · unfold behU nextI
    rw [hn1, hn2, Bool.eq_iff_iff, decide_eq_true_eq, beq_iff_eq]
    have := hl.2
    constructor
    · rintro ⟨_, h1, _, h2⟩
      have : a * C + b + 1 = R * C := this.2 (by omega)
      omega
    · intro h1
      have := this.1 (by omega)
      exact ⟨hm, by omega, rfl, by omega⟩
  · unfold behR behC behP nextI
    rw [hn1, hn2]
    simp only [hm, if_true, true_and, ne_eq, not_true_eq_false, and_false, decide_false]
    by_cases hbc : b < C - 1
    · simp only [hbc, not_true_eq_false, false_and, if_false, if_true]
      exact ⟨a, b + 1, by simp only; omega, by omega, by omega, ha, .inl hr, .inr (.inl ⟨hr, rfl, rfl, rfl, .inl rfl⟩)⟩
    · have : b = C - 1 := by omega
      simp only [hbc, not_false_eq_true, true_and, if_true, if_false]
      refine ⟨a + 1, 0, by simp only [Int.add_mul]; omega, by omega, by omega, by omega, by omega, ?_⟩
      by_cases hl : a + 1 < R
      · exact .inr (.inl ⟨hl, by simp only; omega, rfl, rfl, .inl rfl⟩)
      · exact .inl ⟨by omega, rfl, by simp only; omega, rfl, rfl⟩
theorem behB {R C a b i : Int} (hm : may R C) (h : i = a * C + b) (hb : 0 ≤ b) (hc : b < C) (ha : 0 ≤ a) (hr : a < R) :
    behU R C a b 3 = false ∧ Inv6 R C false (i + 1, behR R C a b 3, behC R C b 3, behP R C b 3) := by
  have hq := hm
  unfold may at hq
  have hn1 : nearI b C = b := by unfold nearI; omega
  have hn2 : nearI a R = a := by unfold nearI; omega
  constructor
  · unfold behU
    simp
  · unfold behR behC behP
    rw [hn1, hn2]
    simp only [hm, if_true, true_and, show ¬ ((3 : Int) = 2) by omega, and_false, if_false, show ((3 : Int) ≠ 1) by omega, show ((3 : Int) ≠ 2) by omega, ne_eq, not_false_eq_true, and_true, show ¬ ((3 : Int) = 1) by omega]
    by_cases hbc : b < C - 1
    · simp only [hbc, not_true_eq_false, if_true, decide_false]
      exact ⟨a, b + 1, by simp only; omega, by omega, by omega, ha, .inl hr, .inr (.inl ⟨hr, rfl, rfl, rfl, .inr (.inl (by omega))⟩)⟩
    · have : b = C - 1 := by omega
      simp only [hbc, not_false_eq_true, if_false, decide_true]
      exact ⟨a + 1, 0, by simp only [Int.add_mul]; omega, by omega, by omega, by omega, by omega, .inr (.inr ⟨by omega, rfl, rfl, by simp only; omega, by simp only; omega, rfl⟩)⟩

set_option maxHeartbeats 4000000 in
theorem law_all : PureOk Try.prog 6 psL6 := by
  refine pureOk_mkA (τ := Empty) (fun ((R, C), au) => pureCfg Try.prog [(11, psMayR), (12, psAwake), (15, psAhead), (19, psIndex), (16, psBehind)] 0 [(10, ann6 R C au)])
    (fun _ _ => pureCfg_ok mixed ⟨ok_mayR, ok_awake, ok_ahead, ok_index, ok_behind, trivial⟩) (fun _ => rfl) (n := 60) Try.func6 (fun _ => by kernel_rfl) (fun _ => by kernel_rfl) ?_
  intro ⟨⟨R, C⟩, au⟩ hφ
  cases au
  · refine kcast (B := (True ∧   br (!decide (may (R, C).fst (R, C).snd)) (True ∧ SV.v (Value.bool true) = SV.v (Value.bool true))     (br (decide (IntKind.i64.wrap ((R, C).fst * (R, C).snd) > 600))       (True ∧ SV.v (Value.bool true) = SV.v (Value.bool true))       (Inv6 R C false (0, 0, 0, false) ∧         ((SV.v (Value.bool false) = SV.v (Value.bool false) ∧               SV.p 0 0 = SV.p 0 0 ∧                 SV.v (Value.bool false) = SV.v (Value.bool false) ∧                   SV.v (Value.int IntKind.i64 3) = SV.v (Value.int IntKind.i64 3) ∧                     SV.p 1 0 = SV.p 1 0 ∧                       SV.v (Value.int IntKind.i64 (IntKind.i64.wrap ((R, C).fst * (R, C).snd))) =                           SV.v (Value.int IntKind.i64 (IntKind.i64.wrap ((R, C).fst * (R, C).snd))) ∧                         SV.v (Value.int IntKind.i64 0) = SV.v (Value.int IntKind.i64 0) ∧ True) ∧             (SV.v (Value.int IntKind.i64 (R, C).fst) = SV.v (Value.int IntKind.i64 (R, C).fst) ∧                 SV.v (Value.int IntKind.i64 (R, C).snd) = SV.v (Value.int IntKind.i64 (R, C).snd) ∧ True) ∧               (SV.v (Value.int IntKind.i64 0) = SV.v (Value.int IntKind.i64 0) ∧                   SV.v (Value.int IntKind.i64 0) = SV.v (Value.int IntKind.i64 0) ∧                     SV.v (Value.bool false) = SV.v (Value.bool false) ∧ True) ∧                 True) ∧           ∀ (x : (ann6 R C false).α),             Inv6 R C false x →               br (decide (x.fst < IntKind.i64.wrap ((R, C).fst * (R, C).snd)))                 (True ∧                   True ∧                     br (aheadU (R, C).fst (R, C).snd x.snd.fst x.snd.snd.snd)                       (SV.v (Value.bool false) = SV.v (Value.bool true))                       (br                         (idxE (R, C).fst (R, C).snd (aheadR (R, C).fst (R, C).snd x.snd.fst x.snd.snd.snd)                             (aheadC (R, C).fst (R, C).snd x.snd.snd.fst x.snd.snd.snd) !=                           0)                         (SV.v (Value.bool false) = SV.v (Value.bool true))                         (br                           (idxN (R, C).fst (R, C).snd (aheadR (R, C).fst (R, C).snd x.snd.fst x.snd.snd.snd)                               (aheadC (R, C).fst (R, C).snd x.snd.snd.fst x.snd.snd.snd) !=                             x.fst)                           (SV.v (Value.bool false) = SV.v (Value.bool true))                           (True ∧                             br                               (!behU (R, C).fst (R, C).snd (aheadR (R, C).fst (R, C).snd x.snd.fst x.snd.snd.snd)                                     (aheadC (R, C).fst (R, C).snd x.snd.snd.fst x.snd.snd.snd) 3 ==                                   false)                               (SV.v (Value.bool false) = SV.v (Value.bool true))                               (Inv6 R C false                                   (IntKind.i64.wrap (x.fst + 1),                                     behR (R, C).fst (R, C).snd (aheadR (R, C).fst (R, C).snd x.snd.fst x.snd.snd.snd)                                       (aheadC (R, C).fst (R, C).snd x.snd.snd.fst x.snd.snd.snd) 3,                                     behC (R, C).fst (R, C).snd                                       (aheadC (R, C).fst (R, C).snd x.snd.snd.fst x.snd.snd.snd) 3,                                     behP (R, C).fst (R, C).snd                                       (aheadC (R, C).fst (R, C).snd x.snd.snd.fst x.snd.snd.snd) 3) ∧                                 ((SV.v (Value.bool false) = SV.v (Value.bool false) ∧                                       SV.p 0 0 = SV.p 0 0 ∧                                         SV.v (Value.bool false) = SV.v (Value.bool false) ∧                                           SV.v (Value.int IntKind.i64 3) = SV.v (Value.int IntKind.i64 3) ∧                                             SV.p 1 0 = SV.p 1 0 ∧                                               SV.v                                                     (Value.int IntKind.i64                                                       (IntKind.i64.wrap ((R, C).fst * (R, C).snd))) =                                                   SV.v                                                     (Value.int IntKind.i64                                                       (IntKind.i64.wrap ((R, C).fst * (R, C).snd))) ∧                                                 SV.v (Value.int IntKind.i64 (IntKind.i64.wrap (x.fst + 1))) =                                                     SV.v (Value.int IntKind.i64 (IntKind.i64.wrap (x.fst + 1))) ∧                                                   True) ∧                                     (SV.v (Value.int IntKind.i64 (R, C).fst) = SV.v (Value.int IntKind.i64 (R, C).fst) ∧                                         SV.v (Value.int IntKind.i64 (R, C).snd) =                                             SV.v (Value.int IntKind.i64 (R, C).snd) ∧                                           True) ∧                                       (SV.v                                               (Value.int IntKind.i64                                                 (behR (R, C).fst (R, C).snd                                                   (aheadR (R, C).fst (R, C).snd x.snd.fst x.snd.snd.snd)                                                   (aheadC (R, C).fst (R, C).snd x.snd.snd.fst x.snd.snd.snd) 3)) =                                             SV.v                                               (Value.int IntKind.i64                                                 (behR (R, C).fst (R, C).snd                                                       (aheadR (R, C).fst (R, C).snd x.snd.fst x.snd.snd.snd)                                                       (aheadC (R, C).fst (R, C).snd x.snd.snd.fst x.snd.snd.snd) 3,                                                     behC (R, C).fst (R, C).snd                                                       (aheadC (R, C).fst (R, C).snd x.snd.snd.fst x.snd.snd.snd) 3,                                                     behP (R, C).fst (R, C).snd                                                       (aheadC (R, C).fst (R, C).snd x.snd.snd.fst x.snd.snd.snd)                                                       3).fst) ∧                                           SV.v                                                 (Value.int IntKind.i64                                                   (behC (R, C).fst (R, C).snd                                                     (aheadC (R, C).fst (R, C).snd x.snd.snd.fst x.snd.snd.snd) 3)) =                                               SV.v                                                 (Value.int IntKind.i64                                                   (behR (R, C).fst (R, C).snd                                                           (aheadR (R, C).fst (R, C).snd x.snd.fst x.snd.snd.snd)                                                           (aheadC (R, C).fst (R, C).snd x.snd.snd.fst x.snd.snd.snd) 3,                                                         behC (R, C).fst (R, C).snd                                                           (aheadC (R, C).fst (R, C).snd x.snd.snd.fst x.snd.snd.snd) 3,                                                         behP (R, C).fst (R, C).snd                                                           (aheadC (R, C).fst (R, C).snd x.snd.snd.fst x.snd.snd.snd)                                                           3).snd.fst) ∧                                             SV.v                                                   (Value.bool                                                     (behP (R, C).fst (R, C).snd                                                       (aheadC (R, C).fst (R, C).snd x.snd.snd.fst x.snd.snd.snd) 3)) =                                                 SV.v                                                   (Value.bool                                                     (behR (R, C).fst (R, C).snd                                                             (aheadR (R, C).fst (R, C).snd x.snd.fst x.snd.snd.snd)                                                             (aheadC (R, C).fst (R, C).snd x.snd.snd.fst x.snd.snd.snd)                                                             3,                                                           behC (R, C).fst (R, C).snd                                                             (aheadC (R, C).fst (R, C).snd x.snd.snd.fst x.snd.snd.snd)                                                             3,                                                           behP (R, C).fst (R, C).snd                                                             (aheadC (R, C).fst (R, C).snd x.snd.snd.fst x.snd.snd.snd)                                                             3).snd.snd) ∧                                               True) ∧                                         True) ∧                                   (ann6 R C false).μ                                       (IntKind.i64.wrap (x.fst + 1),                                         behR (R, C).fst (R, C).snd                                           (aheadR (R, C).fst (R, C).snd x.snd.fst x.snd.snd.snd)                                           (aheadC (R, C).fst (R, C).snd x.snd.snd.fst x.snd.snd.snd) 3,                                         behC (R, C).fst (R, C).snd                                           (aheadC (R, C).fst (R, C).snd x.snd.snd.fst x.snd.snd.snd) 3,                                         behP (R, C).fst (R, C).snd                                           (aheadC (R, C).fst (R, C).snd x.snd.snd.fst x.snd.snd.snd) 3) <                                     (ann6 R C false).μ x)))))                 (True ∧                   br                     (aheadR (R, C).fst (R, C).snd x.snd.fst x.snd.snd.snd == IntKind.i64.wrap ((R, C).fst - 1) &&                       (aheadC (R, C).fst (R, C).snd x.snd.snd.fst x.snd.snd.snd == 0 && true))                     (br (aheadU (R, C).fst (R, C).snd x.snd.fst x.snd.snd.snd == !false)                       (True ∧ SV.v (Value.bool true) = SV.v (Value.bool true))                       (SV.v (Value.bool false) = SV.v (Value.bool true)))                     (SV.v (Value.bool false) = SV.v (Value.bool true))))))) (by kernel_rfl) ?_
    dsimp only
    refine ⟨trivial, br_intro (fun _ => ⟨trivial, rfl⟩) fun hm => br_intro (fun _ => ⟨trivial, rfl⟩) fun hn => ?_⟩
    have hm : may R C := by simpa using hm
    have hq := hm
    unfold may at hq
    have hb := mul_b (r := R) (c := C) (by omega) (by omega) (by omega) (by omega)
    have hw : IntKind.wrap .i64 (R * C) = R * C := wrap64 (by omega) (by omega)
    simp only [hw] at hn ⊢
    have hn : R * C ≤ 600 := by simpa using hn
    refine ⟨⟨0, 0, by simp, by omega, by omega, by omega, by omega, .inr (.inl ⟨by omega, rfl, rfl, rfl, .inr (.inr rfl)⟩)⟩, ?_, ?_⟩
    · repeat' (first | exact trivial | exact rfl | refine And.intro ?_ ?_)
    rintro ⟨i, r, c, p⟩ hx
    refine br_intro (fun hi => ?_) (fun hi => ?_)
    · have hi : i < R * C := by simpa using hi
      obtain ⟨a, b, h1, h2, h3, h4, h5, h6, h7, h8⟩ := at6 hm hx hi
      have hlt := row_lt h3 h2 h5
      have h0 : 0 ≤ a * C := Int.mul_nonneg h4 (by omega)
      have hidx : idxN R C a b = i ∧ idxE R C a b = 0 := by have hin : inP R C a b := ⟨h4, h5, h2, h3⟩; unfold idxN idxE; rw [if_pos ⟨hm, hin⟩, if_pos hm, if_pos hin]; exact ⟨h1.symm, rfl⟩
      have hbeh := behB hm h1 h2 h3 h4 h5
      dsimp only
      simp only [h6, h7, h8, hidx.1, hidx.2, hbeh.1, wrap64 (x := i + 1) (by omega) (by omega), wrap64 (x := R * C - 1) (by omega) (by omega)]
      refine ⟨trivial, trivial, br_f' rfl (br_f' rfl (br_f' (by simp) ⟨trivial, br_f' (by simp) ⟨hbeh.2, ?_, ?_⟩⟩))⟩
      · repeat' (first | exact trivial | exact rfl | refine And.intro ?_ ?_)
      · show (R * C - (i + 1)).toNat < (R * C - i).toNat
        omega
    · have hi : ¬ i < R * C := by simpa using hi
      obtain ⟨h6, h7, h8⟩ := end6 hm hx hi
      dsimp only
      simp only [h6, h7, h8, wrap64 (x := R - 1) (by omega) (by omega)]
      exact ⟨trivial, br_t' (by simp) (br_t' rfl ⟨trivial, trivial⟩)⟩
  · refine kcast (B := (True ∧   br (!decide (may (R, C).fst (R, C).snd)) (True ∧ SV.v (Value.bool true) = SV.v (Value.bool true))     (br (decide (IntKind.i64.wrap ((R, C).fst * (R, C).snd) > 600))       (True ∧ SV.v (Value.bool true) = SV.v (Value.bool true))       (Inv6 R C true (0, 0, 0, false) ∧         ((SV.v (Value.bool true) = SV.v (Value.bool true) ∧               SV.p 0 0 = SV.p 0 0 ∧                 SV.v (Value.bool false) = SV.v (Value.bool false) ∧                   SV.v (Value.int IntKind.i64 2) = SV.v (Value.int IntKind.i64 2) ∧                     SV.p 1 0 = SV.p 1 0 ∧                       SV.v (Value.int IntKind.i64 (IntKind.i64.wrap ((R, C).fst * (R, C).snd))) =                           SV.v (Value.int IntKind.i64 (IntKind.i64.wrap ((R, C).fst * (R, C).snd))) ∧                         SV.v (Value.int IntKind.i64 0) = SV.v (Value.int IntKind.i64 0) ∧ True) ∧             (SV.v (Value.int IntKind.i64 (R, C).fst) = SV.v (Value.int IntKind.i64 (R, C).fst) ∧                 SV.v (Value.int IntKind.i64 (R, C).snd) = SV.v (Value.int IntKind.i64 (R, C).snd) ∧ True) ∧               (SV.v (Value.int IntKind.i64 0) = SV.v (Value.int IntKind.i64 0) ∧                   SV.v (Value.int IntKind.i64 0) = SV.v (Value.int IntKind.i64 0) ∧                     SV.v (Value.bool false) = SV.v (Value.bool false) ∧ True) ∧                 True) ∧           ∀ (x : (ann6 R C true).α),             Inv6 R C true x →               br (decide (x.fst < IntKind.i64.wrap ((R, C).fst * (R, C).snd)))                 (True ∧                   True ∧                     br (aheadU (R, C).fst (R, C).snd x.snd.fst x.snd.snd.snd)                       (SV.v (Value.bool false) = SV.v (Value.bool true))                       (br                         (idxE (R, C).fst (R, C).snd (aheadR (R, C).fst (R, C).snd x.snd.fst x.snd.snd.snd)                             (aheadC (R, C).fst (R, C).snd x.snd.snd.fst x.snd.snd.snd) !=                           0)                         (SV.v (Value.bool false) = SV.v (Value.bool true))                         (br                           (idxN (R, C).fst (R, C).snd (aheadR (R, C).fst (R, C).snd x.snd.fst x.snd.snd.snd)                               (aheadC (R, C).fst (R, C).snd x.snd.snd.fst x.snd.snd.snd) !=                             x.fst)                           (SV.v (Value.bool false) = SV.v (Value.bool true))                           (True ∧                             br                               (!behU (R, C).fst (R, C).snd (aheadR (R, C).fst (R, C).snd x.snd.fst x.snd.snd.snd)                                     (aheadC (R, C).fst (R, C).snd x.snd.snd.fst x.snd.snd.snd) 2 ==                                   (x.fst == IntKind.i64.wrap (IntKind.i64.wrap ((R, C).fst * (R, C).snd) - 1)))                               (SV.v (Value.bool false) = SV.v (Value.bool true))                               (Inv6 R C true                                   (IntKind.i64.wrap (x.fst + 1),                                     behR (R, C).fst (R, C).snd (aheadR (R, C).fst (R, C).snd x.snd.fst x.snd.snd.snd)                                       (aheadC (R, C).fst (R, C).snd x.snd.snd.fst x.snd.snd.snd) 2,                                     behC (R, C).fst (R, C).snd                                       (aheadC (R, C).fst (R, C).snd x.snd.snd.fst x.snd.snd.snd) 2,                                     behP (R, C).fst (R, C).snd                                       (aheadC (R, C).fst (R, C).snd x.snd.snd.fst x.snd.snd.snd) 2) ∧                                 ((SV.v (Value.bool true) = SV.v (Value.bool true) ∧                                       SV.p 0 0 = SV.p 0 0 ∧                                         SV.v (Value.bool false) = SV.v (Value.bool false) ∧                                           SV.v (Value.int IntKind.i64 2) = SV.v (Value.int IntKind.i64 2) ∧                                             SV.p 1 0 = SV.p 1 0 ∧                                               SV.v                                                     (Value.int IntKind.i64                                                       (IntKind.i64.wrap ((R, C).fst * (R, C).snd))) =                                                   SV.v                                                     (Value.int IntKind.i64                                                       (IntKind.i64.wrap ((R, C).fst * (R, C).snd))) ∧                                                 SV.v (Value.int IntKind.i64 (IntKind.i64.wrap (x.fst + 1))) =                                                     SV.v (Value.int IntKind.i64 (IntKind.i64.wrap (x.fst + 1))) ∧                                                   True) ∧                                     (SV.v (Value.int IntKind.i64 (R, C).fst) = SV.v (Value.int IntKind.i64 (R, C).fst) ∧                                         SV.v (Value.int IntKind.i64 (R, C).snd) =                                             SV.v (Value.int IntKind.i64 (R, C).snd) ∧                                           True) ∧                                       (SV.v                                               (Value.int IntKind.i64                                                 (behR (R, C).fst (R, C).snd                                                   (aheadR (R, C).fst (R, C).snd x.snd.fst x.snd.snd.snd)                                                   (aheadC (R, C).fst (R, C).snd x.snd.snd.fst x.snd.snd.snd) 2)) =                                             SV.v                                               (Value.int IntKind.i64                                                 (behR (R, C).fst (R, C).snd                                                       (aheadR (R, C).fst (R, C).snd x.snd.fst x.snd.snd.snd)                                                       (aheadC (R, C).fst (R, C).snd x.snd.snd.fst x.snd.snd.snd) 2,                                                     behC (R, C).fst (R, C).snd                                                       (aheadC (R, C).fst (R, C).snd x.snd.snd.fst x.snd.snd.snd) 2,                                                     behP (R, C).fst (R, C).snd                                                       (aheadC (R, C).fst (R, C).snd x.snd.snd.fst x.snd.snd.snd)                                                       2).fst) ∧                                           SV.v                                                 (Value.int IntKind.i64                                                   (behC (R, C).fst (R, C).snd                                                     (aheadC (R, C).fst (R, C).snd x.snd.snd.fst x.snd.snd.snd) 2)) =                                               SV.v                                                 (Value.int IntKind.i64                                                   (behR (R, C).fst (R, C).snd                                                           (aheadR (R, C).fst (R, C).snd x.snd.fst x.snd.snd.snd)                                                           (aheadC (R, C).fst (R, C).snd x.snd.snd.fst x.snd.snd.snd) 2,                                                         behC (R, C).fst (R, C).snd                                                           (aheadC (R, C).fst (R, C).snd x.snd.snd.fst x.snd.snd.snd) 2,                                                         behP (R, C).fst (R, C).snd                                                           (aheadC (R, C).fst (R, C).snd x.snd.snd.fst x.snd.snd.snd)                                                           2).snd.fst) ∧                                             SV.v                                                   (Value.bool                                                     (behP (R, C).fst (R, C).snd                                                       (aheadC (R, C).fst (R, C).snd x.snd.snd.fst x.snd.snd.snd) 2)) =                                                 SV.v                                                   (Value.bool                                                     (behR (R, C).fst (R, C).snd                                                             (aheadR (R, C).fst (R, C).snd x.snd.fst x.snd.snd.snd)                                                             (aheadC (R, C).fst (R, C).snd x.snd.snd.fst x.snd.snd.snd)                                                             2,                                                           behC (R, C).fst (R, C).snd                                                             (aheadC (R, C).fst (R, C).snd x.snd.snd.fst x.snd.snd.snd)                                                             2,                                                           behP (R, C).fst (R, C).snd                                                             (aheadC (R, C).fst (R, C).snd x.snd.snd.fst x.snd.snd.snd)                                                             2).snd.snd) ∧                                               True) ∧                                         True) ∧                                   (ann6 R C true).μ                                       (IntKind.i64.wrap (x.fst + 1),                                         behR (R, C).fst (R, C).snd                                           (aheadR (R, C).fst (R, C).snd x.snd.fst x.snd.snd.snd)                                           (aheadC (R, C).fst (R, C).snd x.snd.snd.fst x.snd.snd.snd) 2,                                         behC (R, C).fst (R, C).snd                                           (aheadC (R, C).fst (R, C).snd x.snd.snd.fst x.snd.snd.snd) 2,                                         behP (R, C).fst (R, C).snd                                           (aheadC (R, C).fst (R, C).snd x.snd.snd.fst x.snd.snd.snd) 2) <                                     (ann6 R C true).μ x)))))                 (True ∧                   br                     (aheadR (R, C).fst (R, C).snd x.snd.fst x.snd.snd.snd == IntKind.i64.wrap ((R, C).fst - 1) &&                       (aheadC (R, C).fst (R, C).snd x.snd.snd.fst x.snd.snd.snd == 0 && true))                     (br (aheadU (R, C).fst (R, C).snd x.snd.fst x.snd.snd.snd == !true)                       (True ∧ SV.v (Value.bool true) = SV.v (Value.bool true))                       (SV.v (Value.bool false) = SV.v (Value.bool true)))                     (SV.v (Value.bool false) = SV.v (Value.bool true))))))) (by kernel_rfl) ?_
    dsimp only
    refine ⟨trivial, br_intro (fun _ => ⟨trivial, rfl⟩) fun hm => br_intro (fun _ => ⟨trivial, rfl⟩) fun hn => ?_⟩
    have hm : may R C := by simpa using hm
    have hq := hm
    unfold may at hq
    have hb := mul_b (r := R) (c := C) (by omega) (by omega) (by omega) (by omega)
    have hw : IntKind.wrap .i64 (R * C) = R * C := wrap64 (by omega) (by omega)
    simp only [hw] at hn ⊢
    have hn : R * C ≤ 600 := by simpa using hn
    refine ⟨⟨0, 0, by simp, by omega, by omega, by omega, by omega, .inr (.inl ⟨by omega, rfl, rfl, rfl, .inr (.inr rfl)⟩)⟩, ?_, ?_⟩
    · repeat' (first | exact trivial | exact rfl | refine And.intro ?_ ?_)
    rintro ⟨i, r, c, p⟩ hx
    refine br_intro (fun hi => ?_) (fun hi => ?_)
    · have hi : i < R * C := by simpa using hi
      obtain ⟨a, b, h1, h2, h3, h4, h5, h6, h7, h8⟩ := at6 hm hx hi
      have hlt := row_lt h3 h2 h5
      have h0 : 0 ≤ a * C := Int.mul_nonneg h4 (by omega)
      have hidx : idxN R C a b = i ∧ idxE R C a b = 0 := by have hin : inP R C a b := ⟨h4, h5, h2, h3⟩; unfold idxN idxE; rw [if_pos ⟨hm, hin⟩, if_pos hm, if_pos hin]; exact ⟨h1.symm, rfl⟩
      have hbeh := behA hm h1 h2 h3 h4 h5
      dsimp only
      simp only [h6, h7, h8, hidx.1, hidx.2, hbeh.1, wrap64 (x := i + 1) (by omega) (by omega), wrap64 (x := R * C - 1) (by omega) (by omega)]
      refine ⟨trivial, trivial, br_f' rfl (br_f' rfl (br_f' (by simp) ⟨trivial, br_f' (by simp) ⟨hbeh.2, ?_, ?_⟩⟩))⟩
      · repeat' (first | exact trivial | exact rfl | refine And.intro ?_ ?_)
      · show (R * C - (i + 1)).toNat < (R * C - i).toNat
        omega
    · have hi : ¬ i < R * C := by simpa using hi
      obtain ⟨h6, h7, h8⟩ := end6 hm hx hi
      dsimp only
      simp only [h6, h7, h8, wrap64 (x := R - 1) (by omega) (by omega)]
      exact ⟨trivial, br_t' (by simp) (br_t' rfl ⟨trivial, trivial⟩)⟩

end Go.Proofs.Ytjbekoffnjmodaa
