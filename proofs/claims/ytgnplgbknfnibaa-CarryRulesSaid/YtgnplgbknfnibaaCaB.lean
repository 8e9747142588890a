/- Contracts of layer 2: which glyph a byte is in a set: the program's table. -/
import Derived.Test.YtgnplgbknfnibaaCaA
import Derived.Test.YtgnplgbknfnibaaSymR
set_option linter.unusedSimpArgs false
set_option linter.unusedVariables false
set_option linter.unusedSectionVars false
namespace Go.Proofs.Ytgnplgbknfnibaa
open Go Go.Sym

def ascL (i : Nat) : List Int := (List.range 256).map fun j => if j < i then plainT j else 0
def defL (i : Nat) : List Int := (List.range 256).map fun j => if j < i then 65533 else plainT j
structure Upto (i : Int) : Prop where
  l : 0 ≤ i
  u : i ≤ 256
/-- The loop of the table of Ascii. -/
def annAsc : Ann Empty where
  α := Int
  φ := Upto
  μ i := (256 - i).toNat
  get st := getI st.tm 5
  f st i := tmpl [0, 1] [(5, .v (.int .i64 i))] [(st.H.length - 1, .ints .i32 (ascL i.toNat) 256 58)] st
/-- The loop of a set that is none. -/
def annDef : Ann Empty where
  α := Int
  φ := Upto
  μ i := (256 - i).toNat
  get st := getI st.tm 8
  f st i := tmpl [0, 2, 3] [(8, .v (.int .i64 i))] [(st.H.length - 1, .ints .i32 (defL i.toNat) 256 58)] st
def anns : List (Nat × Ann Empty) := [(257, annAsc), (321, annDef)]

theorem set_range {f g : Nat → Int} {n : Nat} {v : Int} (hn : n < 256) (h1 : ∀ j, j < 256 → j ≠ n → f j = g j) (h2 : v = g n) : ((List.range 256).map f).set n v = (List.range 256).map g := by
  apply List.ext_getElem
  · simp
  · intro i h3 h4
    simp only [List.getElem_set, List.getElem_map, List.getElem_range]
    simp at h4
    split
    · rename_i e; subst e; exact h2
    · rename_i e; exact h1 i h4 (fun x => e x.symm)

theorem asc1 {x : Int} (h0 : 0 ≤ x) (h1 : 32 ≤ x) (h2 : x ≤ 126) : ((ascL x.toNat).set (0 + x.toNat * 1) 65533).set (0 + x.toNat * 1) (IntKind.wrap .i32 x) = ascL (IntKind.wrap .i64 (x + 1)).toNat := by
  rw [List.set_set, wrap64 (by omega) (by omega), IntWalk.i32_in x ⟨by omega, by omega⟩]
  refine set_range (by omega) (fun j hj hne => ?_) ?_
  · by_cases hlt : j < x.toNat
    · rw [if_pos hlt, if_pos (by omega)]
    · rw [if_neg hlt, if_neg (by omega)]
  · rw [if_pos (by omega)]
    unfold plainT
    rw [if_pos (by omega)]
    omega
theorem asc2 {x : Int} (h0 : 0 ≤ x) (h1 : x < 256) (h2 : ¬ (32 ≤ x ∧ x ≤ 126)) : (ascL x.toNat).set (0 + x.toNat * 1) 65533 = ascL (IntKind.wrap .i64 (x + 1)).toNat := by
  rw [wrap64 (by omega) (by omega)]
  refine set_range (by omega) (fun j hj hne => ?_) ?_
  · by_cases hlt : j < x.toNat
    · rw [if_pos hlt, if_pos (by omega)]
    · rw [if_neg hlt, if_neg (by omega)]
  · rw [if_pos (by omega)]
    unfold plainT
    rw [if_neg (by omega)]
theorem def1 {x : Int} (h0 : 0 ≤ x) (h1 : x < 256) : (defL x.toNat).set (0 + x.toNat * 1) 65533 = defL (IntKind.wrap .i64 (x + 1)).toNat := by
  rw [wrap64 (by omega) (by omega)]
  refine set_range (by omega) (fun j hj hne => ?_) ?_
  · by_cases hlt : j < x.toNat
    · rw [if_pos hlt, if_pos (by omega)]
    · rw [if_neg hlt, if_neg (by omega)]
  · rw [if_pos (by omega)]
theorem upto_next {x : Int} (h0 : 0 ≤ x) (h1 : x < 256) : Upto (IntKind.wrap .i64 (x + 1)) := by rw [wrap64 (by omega) (by omega)]; exact ⟨by omega, by omega⟩
theorem mu_next {x : Int} (h0 : 0 ≤ x) (h1 : x < 256) : (256 - IntKind.wrap .i64 (x + 1)).toNat < (256 - x).toNat := by rw [wrap64 (by omega) (by omega)]; omega
theorem in_range {x : Int} (h0 : 0 ≤ x) (h1 : x < 256) : decide (0 ≤ x ∧ x < 256) = true := decide_eq_true ⟨h0, h1⟩
theorem in_blt {x : Int} (h0 : 0 ≤ x) (h1 : x < 256) : Nat.blt (0 + x.toNat * 1) 256 = true := by rw [Nat.blt_eq]; omega
def tabL (set : Int) : List Int := (List.range 256).map fun (n : Nat) => ofT set n
theorem getD_tab {L : List Int} {set b : Int} (hL : L = tabL set) (h0 : 0 ≤ b) (h1 : b ≤ 255) : SV.v (.int .i32 (L.getD (0 + b.toNat * 1) 0)) = SV.v (.int .i32 (ofT set b)) := by
  subst hL
  congr 2
  unfold tabL
  rw [List.getD_eq_getElem?_getD, List.getElem?_map, List.getElem?_range (by omega)]
  simp only [Option.map_some, Option.getD_some]
  congr 1
  omega

def rowT (set : Int) : Row := ⟨.i32, tabL set, 256, 58⟩
def OfAsk (set : Int) : Prop := Go.Sym.Ask (bodyK Try.prog (run (pureCfg (τ := Empty) Try.prog [] 300 anns) 60) Try.f21 ((shOne shI).enc set) [] (tabK (rowT set)))
theorem def_tab {set : Int} (h : ∀ b, ofT set b = 65533) : defL (256 : Int).toNat = tabL set := by
  unfold defL tabL
  refine List.map_congr_left fun j hj => ?_
  have := List.mem_range.1 hj
  rw [h, if_pos (by omega)]
set_option maxHeartbeats 4000000 in
theorem of_1 : OfAsk 1 := by
  unfold OfAsk
  refine kcast (B := (Upto 0 ∧ ((SV.v (Value.pointer none) = SV.v (Value.pointer none) ∧ SV.p 0 0 = SV.p 0 0 ∧ SV.v (Value.int IntKind.i64 0) = SV.v (Value.int IntKind.i64 0) ∧ True) ∧ LI [0, 0, 0, 0, 0, 0, 0, 0, 0, 0, 0, 0, 0, 0, 0, 0, 0, 0, 0, 0, 0, 0, 0, 0, 0, 0, 0, 0, 0, 0, 0, 0, 0, 0, 0, 0, 0, 0, 0, 0, 0, 0, 0, 0, 0, 0, 0, 0, 0, 0, 0, 0, 0, 0, 0, 0, 0, 0, 0, 0, 0, 0, 0, 0, 0, 0, 0, 0, 0, 0, 0, 0, 0, 0, 0, 0, 0, 0, 0, 0, 0, 0, 0, 0, 0, 0, 0, 0, 0, 0, 0, 0, 0, 0, 0, 0, 0, 0, 0, 0, 0, 0, 0, 0, 0, 0, 0, 0, 0, 0, 0, 0, 0, 0, 0, 0, 0, 0, 0, 0, 0, 0, 0, 0, 0, 0, 0, 0, 0, 0, 0, 0, 0, 0, 0, 0, 0, 0, 0, 0, 0, 0, 0, 0, 0, 0, 0, 0, 0, 0, 0, 0, 0, 0, 0, 0, 0, 0, 0, 0, 0, 0, 0, 0, 0, 0, 0, 0, 0, 0, 0, 0, 0, 0, 0, 0, 0, 0, 0, 0, 0, 0, 0, 0, 0, 0, 0, 0, 0, 0, 0, 0, 0, 0, 0, 0, 0, 0, 0, 0, 0, 0, 0, 0, 0, 0, 0, 0, 0, 0, 0, 0, 0, 0, 0, 0, 0, 0, 0, 0, 0, 0, 0, 0, 0, 0, 0, 0, 0, 0, 0, 0, 0, 0, 0, 0, 0, 0, 0, 0, 0, 0, 0, 0, 0, 0, 0, 0, 0, 0, 0, 0, 0, 0, 0, 0] = LI [0, 0, 0, 0, 0, 0, 0, 0, 0, 0, 0, 0, 0, 0, 0, 0, 0, 0, 0, 0, 0, 0, 0, 0, 0, 0, 0, 0, 0, 0, 0, 0, 0, 0, 0, 0, 0, 0, 0, 0, 0, 0, 0, 0, 0, 0, 0, 0, 0, 0, 0, 0, 0, 0, 0, 0, 0, 0, 0, 0, 0, 0, 0, 0, 0, 0, 0, 0, 0, 0, 0, 0, 0, 0, 0, 0, 0, 0, 0, 0, 0, 0, 0, 0, 0, 0, 0, 0, 0, 0, 0, 0, 0, 0, 0, 0, 0, 0, 0, 0, 0, 0, 0, 0, 0, 0, 0, 0, 0, 0, 0, 0, 0, 0, 0, 0, 0, 0, 0, 0, 0, 0, 0, 0, 0, 0, 0, 0, 0, 0, 0, 0, 0, 0, 0, 0, 0, 0, 0, 0, 0, 0, 0, 0, 0, 0, 0, 0, 0, 0, 0, 0, 0, 0, 0, 0, 0, 0, 0, 0, 0, 0, 0, 0, 0, 0, 0, 0, 0, 0, 0, 0, 0, 0, 0, 0, 0, 0, 0, 0, 0, 0, 0, 0, 0, 0, 0, 0, 0, 0, 0, 0, 0, 0, 0, 0, 0, 0, 0, 0, 0, 0, 0, 0, 0, 0, 0, 0, 0, 0, 0, 0, 0, 0, 0, 0, 0, 0, 0, 0, 0, 0, 0, 0, 0, 0, 0, 0, 0, 0, 0, 0, 0, 0, 0, 0, 0, 0, 0, 0, 0, 0, 0, 0, 0, 0, 0, 0, 0, 0, 0, 0, 0, 0, 0, 0] ∧ True) ∧ ∀ (x : Int), Upto x → br (decide (x < 256)) (rq (decide (0 ≤ x ∧ x < 256)) (rq ((0 + x.toNat * 1).blt 256) (br (decide (x ≥ 32)) (br (decide (x ≤ 126)) (rq (decide (0 ≤ x ∧ x < 256)) (rq ((0 + x.toNat * 1).blt 256) (Upto (IntKind.i64.wrap (x + 1)) ∧ ((SV.v (Value.pointer none) = SV.v (Value.pointer none) ∧ SV.p 0 0 = SV.p 0 0 ∧ SV.v (Value.int IntKind.i64 (IntKind.i64.wrap (x + 1))) = SV.v (Value.int IntKind.i64 (IntKind.i64.wrap (x + 1))) ∧ True) ∧ ((ascL x.toNat).set (0 + x.toNat * 1) 65533).set (0 + x.toNat * 1) (IntKind.i32.wrap x) = ascL (IntKind.i64.wrap (x + 1)).toNat ∧ True) ∧ annAsc.μ (IntKind.i64.wrap (x + 1)) < annAsc.μ x))) (Upto (IntKind.i64.wrap (x + 1)) ∧ ((SV.v (Value.pointer none) = SV.v (Value.pointer none) ∧ SV.p 0 0 = SV.p 0 0 ∧ SV.v (Value.int IntKind.i64 (IntKind.i64.wrap (x + 1))) = SV.v (Value.int IntKind.i64 (IntKind.i64.wrap (x + 1))) ∧ True) ∧ (ascL x.toNat).set (0 + x.toNat * 1) 65533 = ascL (IntKind.i64.wrap (x + 1)).toNat ∧ True) ∧ annAsc.μ (IntKind.i64.wrap (x + 1)) < annAsc.μ x)) (Upto (IntKind.i64.wrap (x + 1)) ∧ ((SV.v (Value.pointer none) = SV.v (Value.pointer none) ∧ SV.p 0 0 = SV.p 0 0 ∧ SV.v (Value.int IntKind.i64 (IntKind.i64.wrap (x + 1))) = SV.v (Value.int IntKind.i64 (IntKind.i64.wrap (x + 1))) ∧ True) ∧ (ascL x.toNat).set (0 + x.toNat * 1) 65533 = ascL (IntKind.i64.wrap (x + 1)).toNat ∧ True) ∧ annAsc.μ (IntKind.i64.wrap (x + 1)) < annAsc.μ x)))) (ascL x.toNat = LI [65533, 65533, 65533, 65533, 65533, 65533, 65533, 65533, 65533, 65533, 65533, 65533, 65533, 65533, 65533, 65533, 65533, 65533, 65533, 65533, 65533, 65533, 65533, 65533, 65533, 65533, 65533, 65533, 65533, 65533, 65533, 65533, 32, 33, 34, 35, 36, 37, 38, 39, 40, 41, 42, 43, 44, 45, 46, 47, 48, 49, 50, 51, 52, 53, 54, 55, 56, 57, 58, 59, 60, 61, 62, 63, 64, 65, 66, 67, 68, 69, 70, 71, 72, 73, 74, 75, 76, 77, 78, 79, 80, 81, 82, 83, 84, 85, 86, 87, 88, 89, 90, 91, 92, 93, 94, 95, 96, 97, 98, 99, 100, 101, 102, 103, 104, 105, 106, 107, 108, 109, 110, 111, 112, 113, 114, 115, 116, 117, 118, 119, 120, 121, 122, 123, 124, 125, 126, 65533, 65533, 65533, 65533, 65533, 65533, 65533, 65533, 65533, 65533, 65533, 65533, 65533, 65533, 65533, 65533, 65533, 65533, 65533, 65533, 65533, 65533, 65533, 65533, 65533, 65533, 65533, 65533, 65533, 65533, 65533, 65533, 65533, 65533, 65533, 65533, 65533, 65533, 65533, 65533, 65533, 65533, 65533, 65533, 65533, 65533, 65533, 65533, 65533, 65533, 65533, 65533, 65533, 65533, 65533, 65533, 65533, 65533, 65533, 65533, 65533, 65533, 65533, 65533, 65533, 65533, 65533, 65533, 65533, 65533, 65533, 65533, 65533, 65533, 65533, 65533, 65533, 65533, 65533, 65533, 65533, 65533, 65533, 65533, 65533, 65533, 65533, 65533, 65533, 65533, 65533, 65533, 65533, 65533, 65533, 65533, 65533, 65533, 65533, 65533, 65533, 65533, 65533, 65533, 65533, 65533, 65533, 65533, 65533, 65533, 65533, 65533, 65533, 65533, 65533, 65533, 65533, 65533, 65533, 65533, 65533, 65533, 65533, 65533, 65533, 65533, 65533, 65533, 65533]))) (by kernel_rfl) ?_
  refine ⟨⟨by omega, by omega⟩, ?_, ?_⟩
  · repeat' (first | exact trivial | refine And.intro ?_ ?_ | kernel_rfl)
  refine fun (x : Int) hx => ?_
  obtain ⟨hx0, hx1⟩ := hx
  refine br_intro (fun hlt => ?_) (fun hge => ?_)
  · have hlt : x < 256 := of_decide_eq_true hlt
    refine rq_t (in_range hx0 hlt) (rq_t (in_blt hx0 hlt) ?_)
    refine br_intro (fun h32 => ?_) (fun h32 => ?_)
    · have h32 : 32 ≤ x := of_decide_eq_true h32
      refine br_intro (fun h126 => ?_) (fun h126 => ?_)
      · have h126 : x ≤ 126 := of_decide_eq_true h126
        refine rq_t (in_range hx0 hlt) (rq_t (in_blt hx0 hlt) ⟨upto_next hx0 hlt, ?_, mu_next hx0 hlt⟩)
        rw [asc1 hx0 h32 h126]
        repeat' (first | exact trivial | refine And.intro ?_ ?_ | kernel_rfl)
      · have h126 : ¬ x ≤ 126 := of_decide_eq_false h126
        refine ⟨upto_next hx0 hlt, ?_, mu_next hx0 hlt⟩
        rw [asc2 hx0 hlt (fun h => h126 h.2)]
        repeat' (first | exact trivial | refine And.intro ?_ ?_ | kernel_rfl)
    · have h32 : ¬ 32 ≤ x := of_decide_eq_false h32
      refine ⟨upto_next hx0 hlt, ?_, mu_next hx0 hlt⟩
      rw [asc2 hx0 hlt (fun h => h32 h.1)]
      repeat' (first | exact trivial | refine And.intro ?_ ?_ | kernel_rfl)
  have hge : ¬ x < 256 := of_decide_eq_false hge
  obtain rfl : x = 256 := by omega
  show (_ : List Int) = _
  kernel_rfl
set_option maxHeartbeats 4000000 in
theorem of_2 : OfAsk 2 := by
  unfold OfAsk
  refine kcast (B := (Upto 0 ∧ ((SV.v (Value.pointer none) = SV.v (Value.pointer none) ∧ SV.p 0 0 = SV.p 0 0 ∧ SV.v (Value.int IntKind.i64 0) = SV.v (Value.int IntKind.i64 0) ∧ True) ∧ LI [0, 0, 0, 0, 0, 0, 0, 0, 0, 0, 0, 0, 0, 0, 0, 0, 0, 0, 0, 0, 0, 0, 0, 0, 0, 0, 0, 0, 0, 0, 0, 0, 0, 0, 0, 0, 0, 0, 0, 0, 0, 0, 0, 0, 0, 0, 0, 0, 0, 0, 0, 0, 0, 0, 0, 0, 0, 0, 0, 0, 0, 0, 0, 0, 0, 0, 0, 0, 0, 0, 0, 0, 0, 0, 0, 0, 0, 0, 0, 0, 0, 0, 0, 0, 0, 0, 0, 0, 0, 0, 0, 0, 0, 0, 0, 0, 0, 0, 0, 0, 0, 0, 0, 0, 0, 0, 0, 0, 0, 0, 0, 0, 0, 0, 0, 0, 0, 0, 0, 0, 0, 0, 0, 0, 0, 0, 0, 0, 0, 0, 0, 0, 0, 0, 0, 0, 0, 0, 0, 0, 0, 0, 0, 0, 0, 0, 0, 0, 0, 0, 0, 0, 0, 0, 0, 0, 0, 0, 0, 0, 0, 0, 0, 0, 0, 0, 0, 0, 0, 0, 0, 0, 0, 0, 0, 0, 0, 0, 0, 0, 0, 0, 0, 0, 0, 0, 0, 0, 0, 0, 0, 0, 0, 0, 0, 0, 0, 0, 0, 0, 0, 0, 0, 0, 0, 0, 0, 0, 0, 0, 0, 0, 0, 0, 0, 0, 0, 0, 0, 0, 0, 0, 0, 0, 0, 0, 0, 0, 0, 0, 0, 0, 0, 0, 0, 0, 0, 0, 0, 0, 0, 0, 0, 0, 0, 0, 0, 0, 0, 0, 0, 0, 0, 0, 0, 0] = LI [0, 0, 0, 0, 0, 0, 0, 0, 0, 0, 0, 0, 0, 0, 0, 0, 0, 0, 0, 0, 0, 0, 0, 0, 0, 0, 0, 0, 0, 0, 0, 0, 0, 0, 0, 0, 0, 0, 0, 0, 0, 0, 0, 0, 0, 0, 0, 0, 0, 0, 0, 0, 0, 0, 0, 0, 0, 0, 0, 0, 0, 0, 0, 0, 0, 0, 0, 0, 0, 0, 0, 0, 0, 0, 0, 0, 0, 0, 0, 0, 0, 0, 0, 0, 0, 0, 0, 0, 0, 0, 0, 0, 0, 0, 0, 0, 0, 0, 0, 0, 0, 0, 0, 0, 0, 0, 0, 0, 0, 0, 0, 0, 0, 0, 0, 0, 0, 0, 0, 0, 0, 0, 0, 0, 0, 0, 0, 0, 0, 0, 0, 0, 0, 0, 0, 0, 0, 0, 0, 0, 0, 0, 0, 0, 0, 0, 0, 0, 0, 0, 0, 0, 0, 0, 0, 0, 0, 0, 0, 0, 0, 0, 0, 0, 0, 0, 0, 0, 0, 0, 0, 0, 0, 0, 0, 0, 0, 0, 0, 0, 0, 0, 0, 0, 0, 0, 0, 0, 0, 0, 0, 0, 0, 0, 0, 0, 0, 0, 0, 0, 0, 0, 0, 0, 0, 0, 0, 0, 0, 0, 0, 0, 0, 0, 0, 0, 0, 0, 0, 0, 0, 0, 0, 0, 0, 0, 0, 0, 0, 0, 0, 0, 0, 0, 0, 0, 0, 0, 0, 0, 0, 0, 0, 0, 0, 0, 0, 0, 0, 0, 0, 0, 0, 0, 0, 0] ∧ True) ∧ ∀ (x : Int), Upto x → br (decide (x < 256)) (rq (decide (0 ≤ x ∧ x < 256)) (rq ((0 + x.toNat * 1).blt 256) (br (decide (x ≥ 32)) (br (decide (x ≤ 126)) (rq (decide (0 ≤ x ∧ x < 256)) (rq ((0 + x.toNat * 1).blt 256) (Upto (IntKind.i64.wrap (x + 1)) ∧ ((SV.v (Value.pointer none) = SV.v (Value.pointer none) ∧ SV.p 0 0 = SV.p 0 0 ∧ SV.v (Value.int IntKind.i64 (IntKind.i64.wrap (x + 1))) = SV.v (Value.int IntKind.i64 (IntKind.i64.wrap (x + 1))) ∧ True) ∧ ((ascL x.toNat).set (0 + x.toNat * 1) 65533).set (0 + x.toNat * 1) (IntKind.i32.wrap x) = ascL (IntKind.i64.wrap (x + 1)).toNat ∧ True) ∧ annAsc.μ (IntKind.i64.wrap (x + 1)) < annAsc.μ x))) (Upto (IntKind.i64.wrap (x + 1)) ∧ ((SV.v (Value.pointer none) = SV.v (Value.pointer none) ∧ SV.p 0 0 = SV.p 0 0 ∧ SV.v (Value.int IntKind.i64 (IntKind.i64.wrap (x + 1))) = SV.v (Value.int IntKind.i64 (IntKind.i64.wrap (x + 1))) ∧ True) ∧ (ascL x.toNat).set (0 + x.toNat * 1) 65533 = ascL (IntKind.i64.wrap (x + 1)).toNat ∧ True) ∧ annAsc.μ (IntKind.i64.wrap (x + 1)) < annAsc.μ x)) (Upto (IntKind.i64.wrap (x + 1)) ∧ ((SV.v (Value.pointer none) = SV.v (Value.pointer none) ∧ SV.p 0 0 = SV.p 0 0 ∧ SV.v (Value.int IntKind.i64 (IntKind.i64.wrap (x + 1))) = SV.v (Value.int IntKind.i64 (IntKind.i64.wrap (x + 1))) ∧ True) ∧ (ascL x.toNat).set (0 + x.toNat * 1) 65533 = ascL (IntKind.i64.wrap (x + 1)).toNat ∧ True) ∧ annAsc.μ (IntKind.i64.wrap (x + 1)) < annAsc.μ x)))) ((((((((((((((((((((((((((((((((((((((((((((((((((((((((((((((((((((((((((((((((((((((((((((((((((((((((((((((((((((((((((((((((((((((((((((((((((((((((((((((((((ascL x.toNat).set 0 32).set 1 9786).set 2 9787).set 3 9829).set 4 9830).set 5 9827).set 6 9824).set 7 8226).set 8 9688).set 9 9675).set 10 9689).set 11 9794).set 12 9792).set 13 9834).set 14 9835).set 15 9788).set 16 9658).set 17 9668).set 18 8597).set 19 8252).set 20 182).set 21 167).set 22 9644).set 23 8616).set 24 8593).set 25 8595).set 26 8594).set 27 8592).set 28 8735).set 29 8596).set 30 9650).set 31 9660).set 127 8962).set 128 199).set 129 252).set 130 233).set 131 226).set 132 228).set 133 224).set 134 229).set 135 231).set 136 234).set 137 235).set 138 232).set 139 239).set 140 238).set 141 236).set 142 196).set 143 197).set 144 201).set 145 230).set 146 198).set 147 244).set 148 246).set 149 242).set 150 251).set 151 249).set 152 255).set 153 214).set 154 220).set 155 162).set 156 163).set 157 165).set 158 8359).set 159 402).set 160 225).set 161 237).set 162 243).set 163 250).set 164 241).set 165 209).set 166 170).set 167 186).set 168 191).set 169 8976).set 170 172).set 171 189).set 172 188).set 173 161).set 174 171).set 175 187).set 176 9617).set 177 9618).set 178 9619).set 179 9474).set 180 9508).set 181 9569).set 182 9570).set 183 9558).set 184 9557).set 185 9571).set 186 9553).set 187 9559).set 188 9565).set 189 9564).set 190 9563).set 191 9488).set 192 9492).set 193 9524).set 194 9516).set 195 9500).set 196 9472).set 197 9532).set 198 9566).set 199 9567).set 200 9562).set 201 9556).set 202 9577).set 203 9574).set 204 9568).set 205 9552).set 206 9580).set 207 9575).set 208 9576).set 209 9572).set 210 9573).set 211 9561).set 212 9560).set 213 9554).set 214 9555).set 215 9579).set 216 9578).set 217 9496).set 218 9484).set 219 9608).set 220 9604).set 221 9612).set 222 9616).set 223 9600).set 224 945).set 225 223).set 226 915).set 227 960).set 228 931).set 229 963).set 230 181).set 231 964).set 232 934).set 233 920).set 234 937).set 235 948).set 236 8734).set 237 966).set 238 949).set 239 8745).set 240 8801).set 241 177).set 242 8805).set 243 8804).set 244 8992).set 245 8993).set 246 247).set 247 8776).set 248 176).set 249 8729).set 250 183).set 251 8730).set 252 8319).set 253 178).set 254 9632).set 255 160 = LI [32, 9786, 9787, 9829, 9830, 9827, 9824, 8226, 9688, 9675, 9689, 9794, 9792, 9834, 9835, 9788, 9658, 9668, 8597, 8252, 182, 167, 9644, 8616, 8593, 8595, 8594, 8592, 8735, 8596, 9650, 9660, 32, 33, 34, 35, 36, 37, 38, 39, 40, 41, 42, 43, 44, 45, 46, 47, 48, 49, 50, 51, 52, 53, 54, 55, 56, 57, 58, 59, 60, 61, 62, 63, 64, 65, 66, 67, 68, 69, 70, 71, 72, 73, 74, 75, 76, 77, 78, 79, 80, 81, 82, 83, 84, 85, 86, 87, 88, 89, 90, 91, 92, 93, 94, 95, 96, 97, 98, 99, 100, 101, 102, 103, 104, 105, 106, 107, 108, 109, 110, 111, 112, 113, 114, 115, 116, 117, 118, 119, 120, 121, 122, 123, 124, 125, 126, 8962, 199, 252, 233, 226, 228, 224, 229, 231, 234, 235, 232, 239, 238, 236, 196, 197, 201, 230, 198, 244, 246, 242, 251, 249, 255, 214, 220, 162, 163, 165, 8359, 402, 225, 237, 243, 250, 241, 209, 170, 186, 191, 8976, 172, 189, 188, 161, 171, 187, 9617, 9618, 9619, 9474, 9508, 9569, 9570, 9558, 9557, 9571, 9553, 9559, 9565, 9564, 9563, 9488, 9492, 9524, 9516, 9500, 9472, 9532, 9566, 9567, 9562, 9556, 9577, 9574, 9568, 9552, 9580, 9575, 9576, 9572, 9573, 9561, 9560, 9554, 9555, 9579, 9578, 9496, 9484, 9608, 9604, 9612, 9616, 9600, 945, 223, 915, 960, 931, 963, 181, 964, 934, 920, 937, 948, 8734, 966, 949, 8745, 8801, 177, 8805, 8804, 8992, 8993, 247, 8776, 176, 8729, 183, 8730, 8319, 178, 9632, 160]))) (by kernel_rfl) ?_
  refine ⟨⟨by omega, by omega⟩, ?_, ?_⟩
  · repeat' (first | exact trivial | refine And.intro ?_ ?_ | kernel_rfl)
  refine fun (x : Int) hx => ?_
  obtain ⟨hx0, hx1⟩ := hx
  refine br_intro (fun hlt => ?_) (fun hge => ?_)
  · have hlt : x < 256 := of_decide_eq_true hlt
    refine rq_t (in_range hx0 hlt) (rq_t (in_blt hx0 hlt) ?_)
    refine br_intro (fun h32 => ?_) (fun h32 => ?_)
    · have h32 : 32 ≤ x := of_decide_eq_true h32
      refine br_intro (fun h126 => ?_) (fun h126 => ?_)
      · have h126 : x ≤ 126 := of_decide_eq_true h126
        refine rq_t (in_range hx0 hlt) (rq_t (in_blt hx0 hlt) ⟨upto_next hx0 hlt, ?_, mu_next hx0 hlt⟩)
        rw [asc1 hx0 h32 h126]
        repeat' (first | exact trivial | refine And.intro ?_ ?_ | kernel_rfl)
      · have h126 : ¬ x ≤ 126 := of_decide_eq_false h126
        refine ⟨upto_next hx0 hlt, ?_, mu_next hx0 hlt⟩
        rw [asc2 hx0 hlt (fun h => h126 h.2)]
        repeat' (first | exact trivial | refine And.intro ?_ ?_ | kernel_rfl)
    · have h32 : ¬ 32 ≤ x := of_decide_eq_false h32
      refine ⟨upto_next hx0 hlt, ?_, mu_next hx0 hlt⟩
      rw [asc2 hx0 hlt (fun h => h32 h.1)]
      repeat' (first | exact trivial | refine And.intro ?_ ?_ | kernel_rfl)
  have hge : ¬ x < 256 := of_decide_eq_false hge
  obtain rfl : x = 256 := by omega
  show (_ : List Int) = _
  kernel_rfl
set_option maxHeartbeats 4000000 in
theorem of_3 : OfAsk 3 := by
  unfold OfAsk
  refine kcast (B := (Upto 0 ∧ ((SV.v (Value.pointer none) = SV.v (Value.pointer none) ∧ SV.p 0 0 = SV.p 0 0 ∧ SV.v (Value.int IntKind.i64 0) = SV.v (Value.int IntKind.i64 0) ∧ True) ∧ LI [0, 0, 0, 0, 0, 0, 0, 0, 0, 0, 0, 0, 0, 0, 0, 0, 0, 0, 0, 0, 0, 0, 0, 0, 0, 0, 0, 0, 0, 0, 0, 0, 0, 0, 0, 0, 0, 0, 0, 0, 0, 0, 0, 0, 0, 0, 0, 0, 0, 0, 0, 0, 0, 0, 0, 0, 0, 0, 0, 0, 0, 0, 0, 0, 0, 0, 0, 0, 0, 0, 0, 0, 0, 0, 0, 0, 0, 0, 0, 0, 0, 0, 0, 0, 0, 0, 0, 0, 0, 0, 0, 0, 0, 0, 0, 0, 0, 0, 0, 0, 0, 0, 0, 0, 0, 0, 0, 0, 0, 0, 0, 0, 0, 0, 0, 0, 0, 0, 0, 0, 0, 0, 0, 0, 0, 0, 0, 0, 0, 0, 0, 0, 0, 0, 0, 0, 0, 0, 0, 0, 0, 0, 0, 0, 0, 0, 0, 0, 0, 0, 0, 0, 0, 0, 0, 0, 0, 0, 0, 0, 0, 0, 0, 0, 0, 0, 0, 0, 0, 0, 0, 0, 0, 0, 0, 0, 0, 0, 0, 0, 0, 0, 0, 0, 0, 0, 0, 0, 0, 0, 0, 0, 0, 0, 0, 0, 0, 0, 0, 0, 0, 0, 0, 0, 0, 0, 0, 0, 0, 0, 0, 0, 0, 0, 0, 0, 0, 0, 0, 0, 0, 0, 0, 0, 0, 0, 0, 0, 0, 0, 0, 0, 0, 0, 0, 0, 0, 0, 0, 0, 0, 0, 0, 0, 0, 0, 0, 0, 0, 0, 0, 0, 0, 0, 0, 0] = LI [0, 0, 0, 0, 0, 0, 0, 0, 0, 0, 0, 0, 0, 0, 0, 0, 0, 0, 0, 0, 0, 0, 0, 0, 0, 0, 0, 0, 0, 0, 0, 0, 0, 0, 0, 0, 0, 0, 0, 0, 0, 0, 0, 0, 0, 0, 0, 0, 0, 0, 0, 0, 0, 0, 0, 0, 0, 0, 0, 0, 0, 0, 0, 0, 0, 0, 0, 0, 0, 0, 0, 0, 0, 0, 0, 0, 0, 0, 0, 0, 0, 0, 0, 0, 0, 0, 0, 0, 0, 0, 0, 0, 0, 0, 0, 0, 0, 0, 0, 0, 0, 0, 0, 0, 0, 0, 0, 0, 0, 0, 0, 0, 0, 0, 0, 0, 0, 0, 0, 0, 0, 0, 0, 0, 0, 0, 0, 0, 0, 0, 0, 0, 0, 0, 0, 0, 0, 0, 0, 0, 0, 0, 0, 0, 0, 0, 0, 0, 0, 0, 0, 0, 0, 0, 0, 0, 0, 0, 0, 0, 0, 0, 0, 0, 0, 0, 0, 0, 0, 0, 0, 0, 0, 0, 0, 0, 0, 0, 0, 0, 0, 0, 0, 0, 0, 0, 0, 0, 0, 0, 0, 0, 0, 0, 0, 0, 0, 0, 0, 0, 0, 0, 0, 0, 0, 0, 0, 0, 0, 0, 0, 0, 0, 0, 0, 0, 0, 0, 0, 0, 0, 0, 0, 0, 0, 0, 0, 0, 0, 0, 0, 0, 0, 0, 0, 0, 0, 0, 0, 0, 0, 0, 0, 0, 0, 0, 0, 0, 0, 0, 0, 0, 0, 0, 0, 0] ∧ True) ∧ ∀ (x : Int), Upto x → br (decide (x < 256)) (rq (decide (0 ≤ x ∧ x < 256)) (rq ((0 + x.toNat * 1).blt 256) (br (decide (x ≥ 32)) (br (decide (x ≤ 126)) (rq (decide (0 ≤ x ∧ x < 256)) (rq ((0 + x.toNat * 1).blt 256) (Upto (IntKind.i64.wrap (x + 1)) ∧ ((SV.v (Value.pointer none) = SV.v (Value.pointer none) ∧ SV.p 0 0 = SV.p 0 0 ∧ SV.v (Value.int IntKind.i64 (IntKind.i64.wrap (x + 1))) = SV.v (Value.int IntKind.i64 (IntKind.i64.wrap (x + 1))) ∧ True) ∧ ((ascL x.toNat).set (0 + x.toNat * 1) 65533).set (0 + x.toNat * 1) (IntKind.i32.wrap x) = ascL (IntKind.i64.wrap (x + 1)).toNat ∧ True) ∧ annAsc.μ (IntKind.i64.wrap (x + 1)) < annAsc.μ x))) (Upto (IntKind.i64.wrap (x + 1)) ∧ ((SV.v (Value.pointer none) = SV.v (Value.pointer none) ∧ SV.p 0 0 = SV.p 0 0 ∧ SV.v (Value.int IntKind.i64 (IntKind.i64.wrap (x + 1))) = SV.v (Value.int IntKind.i64 (IntKind.i64.wrap (x + 1))) ∧ True) ∧ (ascL x.toNat).set (0 + x.toNat * 1) 65533 = ascL (IntKind.i64.wrap (x + 1)).toNat ∧ True) ∧ annAsc.μ (IntKind.i64.wrap (x + 1)) < annAsc.μ x)) (Upto (IntKind.i64.wrap (x + 1)) ∧ ((SV.v (Value.pointer none) = SV.v (Value.pointer none) ∧ SV.p 0 0 = SV.p 0 0 ∧ SV.v (Value.int IntKind.i64 (IntKind.i64.wrap (x + 1))) = SV.v (Value.int IntKind.i64 (IntKind.i64.wrap (x + 1))) ∧ True) ∧ (ascL x.toNat).set (0 + x.toNat * 1) 65533 = ascL (IntKind.i64.wrap (x + 1)).toNat ∧ True) ∧ annAsc.μ (IntKind.i64.wrap (x + 1)) < annAsc.μ x)))) ((((((((((((((((((((((((((((((((((ascL x.toNat).set 94 32).set 95 32).set 96 32).set 97 9608).set 98 8543).set 99 179).set 100 8309).set 101 8311).set 102 176).set 103 177).set 104 8594).set 105 8230).set 106 247).set 107 8595).set 108 9620).set 109 9146).set 110 9147).set 111 9473).set 112 9472).set 113 9476).set 114 9148).set 115 9149).set 116 8320).set 117 8321).set 118 8322).set 119 8323).set 120 8324).set 121 8325).set 122 8326).set 123 8327).set 124 8328).set 125 8329).set 126 182 = LI [65533, 65533, 65533, 65533, 65533, 65533, 65533, 65533, 65533, 65533, 65533, 65533, 65533, 65533, 65533, 65533, 65533, 65533, 65533, 65533, 65533, 65533, 65533, 65533, 65533, 65533, 65533, 65533, 65533, 65533, 65533, 65533, 32, 33, 34, 35, 36, 37, 38, 39, 40, 41, 42, 43, 44, 45, 46, 47, 48, 49, 50, 51, 52, 53, 54, 55, 56, 57, 58, 59, 60, 61, 62, 63, 64, 65, 66, 67, 68, 69, 70, 71, 72, 73, 74, 75, 76, 77, 78, 79, 80, 81, 82, 83, 84, 85, 86, 87, 88, 89, 90, 91, 92, 93, 32, 32, 32, 9608, 8543, 179, 8309, 8311, 176, 177, 8594, 8230, 247, 8595, 9620, 9146, 9147, 9473, 9472, 9476, 9148, 9149, 8320, 8321, 8322, 8323, 8324, 8325, 8326, 8327, 8328, 8329, 182, 65533, 65533, 65533, 65533, 65533, 65533, 65533, 65533, 65533, 65533, 65533, 65533, 65533, 65533, 65533, 65533, 65533, 65533, 65533, 65533, 65533, 65533, 65533, 65533, 65533, 65533, 65533, 65533, 65533, 65533, 65533, 65533, 65533, 65533, 65533, 65533, 65533, 65533, 65533, 65533, 65533, 65533, 65533, 65533, 65533, 65533, 65533, 65533, 65533, 65533, 65533, 65533, 65533, 65533, 65533, 65533, 65533, 65533, 65533, 65533, 65533, 65533, 65533, 65533, 65533, 65533, 65533, 65533, 65533, 65533, 65533, 65533, 65533, 65533, 65533, 65533, 65533, 65533, 65533, 65533, 65533, 65533, 65533, 65533, 65533, 65533, 65533, 65533, 65533, 65533, 65533, 65533, 65533, 65533, 65533, 65533, 65533, 65533, 65533, 65533, 65533, 65533, 65533, 65533, 65533, 65533, 65533, 65533, 65533, 65533, 65533, 65533, 65533, 65533, 65533, 65533, 65533, 65533, 65533, 65533, 65533, 65533, 65533, 65533, 65533, 65533, 65533, 65533, 65533]))) (by kernel_rfl) ?_
  refine ⟨⟨by omega, by omega⟩, ?_, ?_⟩
  · repeat' (first | exact trivial | refine And.intro ?_ ?_ | kernel_rfl)
  refine fun (x : Int) hx => ?_
  obtain ⟨hx0, hx1⟩ := hx
  refine br_intro (fun hlt => ?_) (fun hge => ?_)
  · have hlt : x < 256 := of_decide_eq_true hlt
    refine rq_t (in_range hx0 hlt) (rq_t (in_blt hx0 hlt) ?_)
    refine br_intro (fun h32 => ?_) (fun h32 => ?_)
    · have h32 : 32 ≤ x := of_decide_eq_true h32
      refine br_intro (fun h126 => ?_) (fun h126 => ?_)
      · have h126 : x ≤ 126 := of_decide_eq_true h126
        refine rq_t (in_range hx0 hlt) (rq_t (in_blt hx0 hlt) ⟨upto_next hx0 hlt, ?_, mu_next hx0 hlt⟩)
        rw [asc1 hx0 h32 h126]
        repeat' (first | exact trivial | refine And.intro ?_ ?_ | kernel_rfl)
      · have h126 : ¬ x ≤ 126 := of_decide_eq_false h126
        refine ⟨upto_next hx0 hlt, ?_, mu_next hx0 hlt⟩
        rw [asc2 hx0 hlt (fun h => h126 h.2)]
        repeat' (first | exact trivial | refine And.intro ?_ ?_ | kernel_rfl)
    · have h32 : ¬ 32 ≤ x := of_decide_eq_false h32
      refine ⟨upto_next hx0 hlt, ?_, mu_next hx0 hlt⟩
      rw [asc2 hx0 hlt (fun h => h32 h.1)]
      repeat' (first | exact trivial | refine And.intro ?_ ?_ | kernel_rfl)
  have hge : ¬ x < 256 := of_decide_eq_false hge
  obtain rfl : x = 256 := by omega
  show (_ : List Int) = _
  kernel_rfl
set_option maxHeartbeats 4000000 in
theorem of_4 : OfAsk 4 := by
  unfold OfAsk
  refine kcast (B := (Upto 0 ∧ ((SV.v (Value.pointer none) = SV.v (Value.pointer none) ∧ SV.p 0 0 = SV.p 0 0 ∧ SV.v (Value.int IntKind.i64 0) = SV.v (Value.int IntKind.i64 0) ∧ True) ∧ LI [0, 0, 0, 0, 0, 0, 0, 0, 0, 0, 0, 0, 0, 0, 0, 0, 0, 0, 0, 0, 0, 0, 0, 0, 0, 0, 0, 0, 0, 0, 0, 0, 0, 0, 0, 0, 0, 0, 0, 0, 0, 0, 0, 0, 0, 0, 0, 0, 0, 0, 0, 0, 0, 0, 0, 0, 0, 0, 0, 0, 0, 0, 0, 0, 0, 0, 0, 0, 0, 0, 0, 0, 0, 0, 0, 0, 0, 0, 0, 0, 0, 0, 0, 0, 0, 0, 0, 0, 0, 0, 0, 0, 0, 0, 0, 0, 0, 0, 0, 0, 0, 0, 0, 0, 0, 0, 0, 0, 0, 0, 0, 0, 0, 0, 0, 0, 0, 0, 0, 0, 0, 0, 0, 0, 0, 0, 0, 0, 0, 0, 0, 0, 0, 0, 0, 0, 0, 0, 0, 0, 0, 0, 0, 0, 0, 0, 0, 0, 0, 0, 0, 0, 0, 0, 0, 0, 0, 0, 0, 0, 0, 0, 0, 0, 0, 0, 0, 0, 0, 0, 0, 0, 0, 0, 0, 0, 0, 0, 0, 0, 0, 0, 0, 0, 0, 0, 0, 0, 0, 0, 0, 0, 0, 0, 0, 0, 0, 0, 0, 0, 0, 0, 0, 0, 0, 0, 0, 0, 0, 0, 0, 0, 0, 0, 0, 0, 0, 0, 0, 0, 0, 0, 0, 0, 0, 0, 0, 0, 0, 0, 0, 0, 0, 0, 0, 0, 0, 0, 0, 0, 0, 0, 0, 0, 0, 0, 0, 0, 0, 0, 0, 0, 0, 0, 0, 0] = LI [0, 0, 0, 0, 0, 0, 0, 0, 0, 0, 0, 0, 0, 0, 0, 0, 0, 0, 0, 0, 0, 0, 0, 0, 0, 0, 0, 0, 0, 0, 0, 0, 0, 0, 0, 0, 0, 0, 0, 0, 0, 0, 0, 0, 0, 0, 0, 0, 0, 0, 0, 0, 0, 0, 0, 0, 0, 0, 0, 0, 0, 0, 0, 0, 0, 0, 0, 0, 0, 0, 0, 0, 0, 0, 0, 0, 0, 0, 0, 0, 0, 0, 0, 0, 0, 0, 0, 0, 0, 0, 0, 0, 0, 0, 0, 0, 0, 0, 0, 0, 0, 0, 0, 0, 0, 0, 0, 0, 0, 0, 0, 0, 0, 0, 0, 0, 0, 0, 0, 0, 0, 0, 0, 0, 0, 0, 0, 0, 0, 0, 0, 0, 0, 0, 0, 0, 0, 0, 0, 0, 0, 0, 0, 0, 0, 0, 0, 0, 0, 0, 0, 0, 0, 0, 0, 0, 0, 0, 0, 0, 0, 0, 0, 0, 0, 0, 0, 0, 0, 0, 0, 0, 0, 0, 0, 0, 0, 0, 0, 0, 0, 0, 0, 0, 0, 0, 0, 0, 0, 0, 0, 0, 0, 0, 0, 0, 0, 0, 0, 0, 0, 0, 0, 0, 0, 0, 0, 0, 0, 0, 0, 0, 0, 0, 0, 0, 0, 0, 0, 0, 0, 0, 0, 0, 0, 0, 0, 0, 0, 0, 0, 0, 0, 0, 0, 0, 0, 0, 0, 0, 0, 0, 0, 0, 0, 0, 0, 0, 0, 0, 0, 0, 0, 0, 0, 0] ∧ True) ∧ ∀ (x : Int), Upto x → br (decide (x < 256)) (rq (decide (0 ≤ x ∧ x < 256)) (rq ((0 + x.toNat * 1).blt 256) (br (decide (x ≥ 32)) (br (decide (x ≤ 126)) (rq (decide (0 ≤ x ∧ x < 256)) (rq ((0 + x.toNat * 1).blt 256) (Upto (IntKind.i64.wrap (x + 1)) ∧ ((SV.v (Value.pointer none) = SV.v (Value.pointer none) ∧ SV.p 0 0 = SV.p 0 0 ∧ SV.v (Value.int IntKind.i64 (IntKind.i64.wrap (x + 1))) = SV.v (Value.int IntKind.i64 (IntKind.i64.wrap (x + 1))) ∧ True) ∧ ((ascL x.toNat).set (0 + x.toNat * 1) 65533).set (0 + x.toNat * 1) (IntKind.i32.wrap x) = ascL (IntKind.i64.wrap (x + 1)).toNat ∧ True) ∧ annAsc.μ (IntKind.i64.wrap (x + 1)) < annAsc.μ x))) (Upto (IntKind.i64.wrap (x + 1)) ∧ ((SV.v (Value.pointer none) = SV.v (Value.pointer none) ∧ SV.p 0 0 = SV.p 0 0 ∧ SV.v (Value.int IntKind.i64 (IntKind.i64.wrap (x + 1))) = SV.v (Value.int IntKind.i64 (IntKind.i64.wrap (x + 1))) ∧ True) ∧ (ascL x.toNat).set (0 + x.toNat * 1) 65533 = ascL (IntKind.i64.wrap (x + 1)).toNat ∧ True) ∧ annAsc.μ (IntKind.i64.wrap (x + 1)) < annAsc.μ x)) (Upto (IntKind.i64.wrap (x + 1)) ∧ ((SV.v (Value.pointer none) = SV.v (Value.pointer none) ∧ SV.p 0 0 = SV.p 0 0 ∧ SV.v (Value.int IntKind.i64 (IntKind.i64.wrap (x + 1))) = SV.v (Value.int IntKind.i64 (IntKind.i64.wrap (x + 1))) ∧ True) ∧ (ascL x.toNat).set (0 + x.toNat * 1) 65533 = ascL (IntKind.i64.wrap (x + 1)).toNat ∧ True) ∧ annAsc.μ (IntKind.i64.wrap (x + 1)) < annAsc.μ x)))) (((((((((((((((((ascL x.toNat).set 48 9516).set 49 9492).set 50 9484).set 51 9488).set 52 9500).set 53 9496).set 54 9474).set 55 9608).set 56 9532).set 57 9508).set 58 9472).set 59 9618).set 60 9552).set 61 9524).set 62 9553).set 63 9617 = LI [65533, 65533, 65533, 65533, 65533, 65533, 65533, 65533, 65533, 65533, 65533, 65533, 65533, 65533, 65533, 65533, 65533, 65533, 65533, 65533, 65533, 65533, 65533, 65533, 65533, 65533, 65533, 65533, 65533, 65533, 65533, 65533, 32, 33, 34, 35, 36, 37, 38, 39, 40, 41, 42, 43, 44, 45, 46, 47, 9516, 9492, 9484, 9488, 9500, 9496, 9474, 9608, 9532, 9508, 9472, 9618, 9552, 9524, 9553, 9617, 64, 65, 66, 67, 68, 69, 70, 71, 72, 73, 74, 75, 76, 77, 78, 79, 80, 81, 82, 83, 84, 85, 86, 87, 88, 89, 90, 91, 92, 93, 94, 95, 96, 97, 98, 99, 100, 101, 102, 103, 104, 105, 106, 107, 108, 109, 110, 111, 112, 113, 114, 115, 116, 117, 118, 119, 120, 121, 122, 123, 124, 125, 126, 65533, 65533, 65533, 65533, 65533, 65533, 65533, 65533, 65533, 65533, 65533, 65533, 65533, 65533, 65533, 65533, 65533, 65533, 65533, 65533, 65533, 65533, 65533, 65533, 65533, 65533, 65533, 65533, 65533, 65533, 65533, 65533, 65533, 65533, 65533, 65533, 65533, 65533, 65533, 65533, 65533, 65533, 65533, 65533, 65533, 65533, 65533, 65533, 65533, 65533, 65533, 65533, 65533, 65533, 65533, 65533, 65533, 65533, 65533, 65533, 65533, 65533, 65533, 65533, 65533, 65533, 65533, 65533, 65533, 65533, 65533, 65533, 65533, 65533, 65533, 65533, 65533, 65533, 65533, 65533, 65533, 65533, 65533, 65533, 65533, 65533, 65533, 65533, 65533, 65533, 65533, 65533, 65533, 65533, 65533, 65533, 65533, 65533, 65533, 65533, 65533, 65533, 65533, 65533, 65533, 65533, 65533, 65533, 65533, 65533, 65533, 65533, 65533, 65533, 65533, 65533, 65533, 65533, 65533, 65533, 65533, 65533, 65533, 65533, 65533, 65533, 65533, 65533, 65533]))) (by kernel_rfl) ?_
  refine ⟨⟨by omega, by omega⟩, ?_, ?_⟩
  · repeat' (first | exact trivial | refine And.intro ?_ ?_ | kernel_rfl)
  refine fun (x : Int) hx => ?_
  obtain ⟨hx0, hx1⟩ := hx
  refine br_intro (fun hlt => ?_) (fun hge => ?_)
  · have hlt : x < 256 := of_decide_eq_true hlt
    refine rq_t (in_range hx0 hlt) (rq_t (in_blt hx0 hlt) ?_)
    refine br_intro (fun h32 => ?_) (fun h32 => ?_)
    · have h32 : 32 ≤ x := of_decide_eq_true h32
      refine br_intro (fun h126 => ?_) (fun h126 => ?_)
      · have h126 : x ≤ 126 := of_decide_eq_true h126
        refine rq_t (in_range hx0 hlt) (rq_t (in_blt hx0 hlt) ⟨upto_next hx0 hlt, ?_, mu_next hx0 hlt⟩)
        rw [asc1 hx0 h32 h126]
        repeat' (first | exact trivial | refine And.intro ?_ ?_ | kernel_rfl)
      · have h126 : ¬ x ≤ 126 := of_decide_eq_false h126
        refine ⟨upto_next hx0 hlt, ?_, mu_next hx0 hlt⟩
        rw [asc2 hx0 hlt (fun h => h126 h.2)]
        repeat' (first | exact trivial | refine And.intro ?_ ?_ | kernel_rfl)
    · have h32 : ¬ 32 ≤ x := of_decide_eq_false h32
      refine ⟨upto_next hx0 hlt, ?_, mu_next hx0 hlt⟩
      rw [asc2 hx0 hlt (fun h => h32 h.1)]
      repeat' (first | exact trivial | refine And.intro ?_ ?_ | kernel_rfl)
  have hge : ¬ x < 256 := of_decide_eq_false hge
  obtain rfl : x = 256 := by omega
  show (_ : List Int) = _
  kernel_rfl
set_option maxHeartbeats 4000000 in
theorem of_5 : OfAsk 5 := by
  unfold OfAsk
  refine kcast (B := (Upto 0 ∧ ((SV.v (Value.pointer none) = SV.v (Value.pointer none) ∧ SV.p 0 0 = SV.p 0 0 ∧ SV.v (Value.int IntKind.i64 0) = SV.v (Value.int IntKind.i64 0) ∧ True) ∧ LI [0, 0, 0, 0, 0, 0, 0, 0, 0, 0, 0, 0, 0, 0, 0, 0, 0, 0, 0, 0, 0, 0, 0, 0, 0, 0, 0, 0, 0, 0, 0, 0, 0, 0, 0, 0, 0, 0, 0, 0, 0, 0, 0, 0, 0, 0, 0, 0, 0, 0, 0, 0, 0, 0, 0, 0, 0, 0, 0, 0, 0, 0, 0, 0, 0, 0, 0, 0, 0, 0, 0, 0, 0, 0, 0, 0, 0, 0, 0, 0, 0, 0, 0, 0, 0, 0, 0, 0, 0, 0, 0, 0, 0, 0, 0, 0, 0, 0, 0, 0, 0, 0, 0, 0, 0, 0, 0, 0, 0, 0, 0, 0, 0, 0, 0, 0, 0, 0, 0, 0, 0, 0, 0, 0, 0, 0, 0, 0, 0, 0, 0, 0, 0, 0, 0, 0, 0, 0, 0, 0, 0, 0, 0, 0, 0, 0, 0, 0, 0, 0, 0, 0, 0, 0, 0, 0, 0, 0, 0, 0, 0, 0, 0, 0, 0, 0, 0, 0, 0, 0, 0, 0, 0, 0, 0, 0, 0, 0, 0, 0, 0, 0, 0, 0, 0, 0, 0, 0, 0, 0, 0, 0, 0, 0, 0, 0, 0, 0, 0, 0, 0, 0, 0, 0, 0, 0, 0, 0, 0, 0, 0, 0, 0, 0, 0, 0, 0, 0, 0, 0, 0, 0, 0, 0, 0, 0, 0, 0, 0, 0, 0, 0, 0, 0, 0, 0, 0, 0, 0, 0, 0, 0, 0, 0, 0, 0, 0, 0, 0, 0, 0, 0, 0, 0, 0, 0] = LI [0, 0, 0, 0, 0, 0, 0, 0, 0, 0, 0, 0, 0, 0, 0, 0, 0, 0, 0, 0, 0, 0, 0, 0, 0, 0, 0, 0, 0, 0, 0, 0, 0, 0, 0, 0, 0, 0, 0, 0, 0, 0, 0, 0, 0, 0, 0, 0, 0, 0, 0, 0, 0, 0, 0, 0, 0, 0, 0, 0, 0, 0, 0, 0, 0, 0, 0, 0, 0, 0, 0, 0, 0, 0, 0, 0, 0, 0, 0, 0, 0, 0, 0, 0, 0, 0, 0, 0, 0, 0, 0, 0, 0, 0, 0, 0, 0, 0, 0, 0, 0, 0, 0, 0, 0, 0, 0, 0, 0, 0, 0, 0, 0, 0, 0, 0, 0, 0, 0, 0, 0, 0, 0, 0, 0, 0, 0, 0, 0, 0, 0, 0, 0, 0, 0, 0, 0, 0, 0, 0, 0, 0, 0, 0, 0, 0, 0, 0, 0, 0, 0, 0, 0, 0, 0, 0, 0, 0, 0, 0, 0, 0, 0, 0, 0, 0, 0, 0, 0, 0, 0, 0, 0, 0, 0, 0, 0, 0, 0, 0, 0, 0, 0, 0, 0, 0, 0, 0, 0, 0, 0, 0, 0, 0, 0, 0, 0, 0, 0, 0, 0, 0, 0, 0, 0, 0, 0, 0, 0, 0, 0, 0, 0, 0, 0, 0, 0, 0, 0, 0, 0, 0, 0, 0, 0, 0, 0, 0, 0, 0, 0, 0, 0, 0, 0, 0, 0, 0, 0, 0, 0, 0, 0, 0, 0, 0, 0, 0, 0, 0, 0, 0, 0, 0, 0, 0] ∧ True) ∧ ∀ (x : Int), Upto x → br (decide (x < 256)) (rq (decide (0 ≤ x ∧ x < 256)) (rq ((0 + x.toNat * 1).blt 256) (br (decide (x ≥ 32)) (br (decide (x ≤ 126)) (rq (decide (0 ≤ x ∧ x < 256)) (rq ((0 + x.toNat * 1).blt 256) (Upto (IntKind.i64.wrap (x + 1)) ∧ ((SV.v (Value.pointer none) = SV.v (Value.pointer none) ∧ SV.p 0 0 = SV.p 0 0 ∧ SV.v (Value.int IntKind.i64 (IntKind.i64.wrap (x + 1))) = SV.v (Value.int IntKind.i64 (IntKind.i64.wrap (x + 1))) ∧ True) ∧ ((ascL x.toNat).set (0 + x.toNat * 1) 65533).set (0 + x.toNat * 1) (IntKind.i32.wrap x) = ascL (IntKind.i64.wrap (x + 1)).toNat ∧ True) ∧ annAsc.μ (IntKind.i64.wrap (x + 1)) < annAsc.μ x))) (Upto (IntKind.i64.wrap (x + 1)) ∧ ((SV.v (Value.pointer none) = SV.v (Value.pointer none) ∧ SV.p 0 0 = SV.p 0 0 ∧ SV.v (Value.int IntKind.i64 (IntKind.i64.wrap (x + 1))) = SV.v (Value.int IntKind.i64 (IntKind.i64.wrap (x + 1))) ∧ True) ∧ (ascL x.toNat).set (0 + x.toNat * 1) 65533 = ascL (IntKind.i64.wrap (x + 1)).toNat ∧ True) ∧ annAsc.μ (IntKind.i64.wrap (x + 1)) < annAsc.μ x)) (Upto (IntKind.i64.wrap (x + 1)) ∧ ((SV.v (Value.pointer none) = SV.v (Value.pointer none) ∧ SV.p 0 0 = SV.p 0 0 ∧ SV.v (Value.int IntKind.i64 (IntKind.i64.wrap (x + 1))) = SV.v (Value.int IntKind.i64 (IntKind.i64.wrap (x + 1))) ∧ True) ∧ (ascL x.toNat).set (0 + x.toNat * 1) 65533 = ascL (IntKind.i64.wrap (x + 1)).toNat ∧ True) ∧ annAsc.μ (IntKind.i64.wrap (x + 1)) < annAsc.μ x)))) (List.take 128 (((((((((((((((((((((((((((ascL x.toNat).set 97 65).set 98 66).set 99 67).set 100 68).set 101 69).set 102 70).set 103 71).set 104 72).set 105 73).set 106 74).set 107 75).set 108 76).set 109 77).set 110 78).set 111 79).set 112 80).set 113 81).set 114 82).set 115 83).set 116 84).set 117 85).set 118 86).set 119 87).set 120 88).set 121 89).set 122 90) ++ List.take 128 (List.drop 0 (((((((((((((((((((((((((((ascL x.toNat).set 97 65).set 98 66).set 99 67).set 100 68).set 101 69).set 102 70).set 103 71).set 104 72).set 105 73).set 106 74).set 107 75).set 108 76).set 109 77).set 110 78).set 111 79).set 112 80).set 113 81).set 114 82).set 115 83).set 116 84).set 117 85).set 118 86).set 119 87).set 120 88).set 121 89).set 122 90)) ++ List.drop 256 (((((((((((((((((((((((((((ascL x.toNat).set 97 65).set 98 66).set 99 67).set 100 68).set 101 69).set 102 70).set 103 71).set 104 72).set 105 73).set 106 74).set 107 75).set 108 76).set 109 77).set 110 78).set 111 79).set 112 80).set 113 81).set 114 82).set 115 83).set 116 84).set 117 85).set 118 86).set 119 87).set 120 88).set 121 89).set 122 90) = LI [65533, 65533, 65533, 65533, 65533, 65533, 65533, 65533, 65533, 65533, 65533, 65533, 65533, 65533, 65533, 65533, 65533, 65533, 65533, 65533, 65533, 65533, 65533, 65533, 65533, 65533, 65533, 65533, 65533, 65533, 65533, 65533, 32, 33, 34, 35, 36, 37, 38, 39, 40, 41, 42, 43, 44, 45, 46, 47, 48, 49, 50, 51, 52, 53, 54, 55, 56, 57, 58, 59, 60, 61, 62, 63, 64, 65, 66, 67, 68, 69, 70, 71, 72, 73, 74, 75, 76, 77, 78, 79, 80, 81, 82, 83, 84, 85, 86, 87, 88, 89, 90, 91, 92, 93, 94, 95, 96, 65, 66, 67, 68, 69, 70, 71, 72, 73, 74, 75, 76, 77, 78, 79, 80, 81, 82, 83, 84, 85, 86, 87, 88, 89, 90, 123, 124, 125, 126, 65533, 65533, 65533, 65533, 65533, 65533, 65533, 65533, 65533, 65533, 65533, 65533, 65533, 65533, 65533, 65533, 65533, 65533, 65533, 65533, 65533, 65533, 65533, 65533, 65533, 65533, 65533, 65533, 65533, 65533, 65533, 65533, 65533, 32, 33, 34, 35, 36, 37, 38, 39, 40, 41, 42, 43, 44, 45, 46, 47, 48, 49, 50, 51, 52, 53, 54, 55, 56, 57, 58, 59, 60, 61, 62, 63, 64, 65, 66, 67, 68, 69, 70, 71, 72, 73, 74, 75, 76, 77, 78, 79, 80, 81, 82, 83, 84, 85, 86, 87, 88, 89, 90, 91, 92, 93, 94, 95, 96, 65, 66, 67, 68, 69, 70, 71, 72, 73, 74, 75, 76, 77, 78, 79, 80, 81, 82, 83, 84, 85, 86, 87, 88, 89, 90, 123, 124, 125, 126, 65533]))) (by kernel_rfl) ?_
  refine ⟨⟨by omega, by omega⟩, ?_, ?_⟩
  · repeat' (first | exact trivial | refine And.intro ?_ ?_ | kernel_rfl)
  refine fun (x : Int) hx => ?_
  obtain ⟨hx0, hx1⟩ := hx
  refine br_intro (fun hlt => ?_) (fun hge => ?_)
  · have hlt : x < 256 := of_decide_eq_true hlt
    refine rq_t (in_range hx0 hlt) (rq_t (in_blt hx0 hlt) ?_)
    refine br_intro (fun h32 => ?_) (fun h32 => ?_)
    · have h32 : 32 ≤ x := of_decide_eq_true h32
      refine br_intro (fun h126 => ?_) (fun h126 => ?_)
      · have h126 : x ≤ 126 := of_decide_eq_true h126
        refine rq_t (in_range hx0 hlt) (rq_t (in_blt hx0 hlt) ⟨upto_next hx0 hlt, ?_, mu_next hx0 hlt⟩)
        rw [asc1 hx0 h32 h126]
        repeat' (first | exact trivial | refine And.intro ?_ ?_ | kernel_rfl)
      · have h126 : ¬ x ≤ 126 := of_decide_eq_false h126
        refine ⟨upto_next hx0 hlt, ?_, mu_next hx0 hlt⟩
        rw [asc2 hx0 hlt (fun h => h126 h.2)]
        repeat' (first | exact trivial | refine And.intro ?_ ?_ | kernel_rfl)
    · have h32 : ¬ 32 ≤ x := of_decide_eq_false h32
      refine ⟨upto_next hx0 hlt, ?_, mu_next hx0 hlt⟩
      rw [asc2 hx0 hlt (fun h => h32 h.1)]
      repeat' (first | exact trivial | refine And.intro ?_ ?_ | kernel_rfl)
  have hge : ¬ x < 256 := of_decide_eq_false hge
  obtain rfl : x = 256 := by omega
  show (_ : List Int) = _
  kernel_rfl
set_option maxHeartbeats 4000000 in
theorem of_d0 (m : Nat) : OfAsk (Int.negSucc m) := by
  unfold OfAsk
  refine kcast (B := (Upto 0 ∧ ((SV.v (Value.pointer none) = SV.v (Value.pointer none) ∧ SV.p 0 0 = SV.p 0 0 ∧ SV.v (Value.int IntKind.i64 0) = SV.v (Value.int IntKind.i64 0) ∧ True) ∧ LI [0, 0, 0, 0, 0, 0, 0, 0, 0, 0, 0, 0, 0, 0, 0, 0, 0, 0, 0, 0, 0, 0, 0, 0, 0, 0, 0, 0, 0, 0, 0, 0, 0, 0, 0, 0, 0, 0, 0, 0, 0, 0, 0, 0, 0, 0, 0, 0, 0, 0, 0, 0, 0, 0, 0, 0, 0, 0, 0, 0, 0, 0, 0, 0, 0, 0, 0, 0, 0, 0, 0, 0, 0, 0, 0, 0, 0, 0, 0, 0, 0, 0, 0, 0, 0, 0, 0, 0, 0, 0, 0, 0, 0, 0, 0, 0, 0, 0, 0, 0, 0, 0, 0, 0, 0, 0, 0, 0, 0, 0, 0, 0, 0, 0, 0, 0, 0, 0, 0, 0, 0, 0, 0, 0, 0, 0, 0, 0, 0, 0, 0, 0, 0, 0, 0, 0, 0, 0, 0, 0, 0, 0, 0, 0, 0, 0, 0, 0, 0, 0, 0, 0, 0, 0, 0, 0, 0, 0, 0, 0, 0, 0, 0, 0, 0, 0, 0, 0, 0, 0, 0, 0, 0, 0, 0, 0, 0, 0, 0, 0, 0, 0, 0, 0, 0, 0, 0, 0, 0, 0, 0, 0, 0, 0, 0, 0, 0, 0, 0, 0, 0, 0, 0, 0, 0, 0, 0, 0, 0, 0, 0, 0, 0, 0, 0, 0, 0, 0, 0, 0, 0, 0, 0, 0, 0, 0, 0, 0, 0, 0, 0, 0, 0, 0, 0, 0, 0, 0, 0, 0, 0, 0, 0, 0, 0, 0, 0, 0, 0, 0, 0, 0, 0, 0, 0, 0] = LI [0, 0, 0, 0, 0, 0, 0, 0, 0, 0, 0, 0, 0, 0, 0, 0, 0, 0, 0, 0, 0, 0, 0, 0, 0, 0, 0, 0, 0, 0, 0, 0, 0, 0, 0, 0, 0, 0, 0, 0, 0, 0, 0, 0, 0, 0, 0, 0, 0, 0, 0, 0, 0, 0, 0, 0, 0, 0, 0, 0, 0, 0, 0, 0, 0, 0, 0, 0, 0, 0, 0, 0, 0, 0, 0, 0, 0, 0, 0, 0, 0, 0, 0, 0, 0, 0, 0, 0, 0, 0, 0, 0, 0, 0, 0, 0, 0, 0, 0, 0, 0, 0, 0, 0, 0, 0, 0, 0, 0, 0, 0, 0, 0, 0, 0, 0, 0, 0, 0, 0, 0, 0, 0, 0, 0, 0, 0, 0, 0, 0, 0, 0, 0, 0, 0, 0, 0, 0, 0, 0, 0, 0, 0, 0, 0, 0, 0, 0, 0, 0, 0, 0, 0, 0, 0, 0, 0, 0, 0, 0, 0, 0, 0, 0, 0, 0, 0, 0, 0, 0, 0, 0, 0, 0, 0, 0, 0, 0, 0, 0, 0, 0, 0, 0, 0, 0, 0, 0, 0, 0, 0, 0, 0, 0, 0, 0, 0, 0, 0, 0, 0, 0, 0, 0, 0, 0, 0, 0, 0, 0, 0, 0, 0, 0, 0, 0, 0, 0, 0, 0, 0, 0, 0, 0, 0, 0, 0, 0, 0, 0, 0, 0, 0, 0, 0, 0, 0, 0, 0, 0, 0, 0, 0, 0, 0, 0, 0, 0, 0, 0, 0, 0, 0, 0, 0, 0] ∧ True) ∧ ∀ (x : Int), Upto x → br (decide (x < 256)) (rq (decide (0 ≤ x ∧ x < 256)) (rq ((0 + x.toNat * 1).blt 256) (br (decide (x ≥ 32)) (br (decide (x ≤ 126)) (rq (decide (0 ≤ x ∧ x < 256)) (rq ((0 + x.toNat * 1).blt 256) (Upto (IntKind.i64.wrap (x + 1)) ∧ ((SV.v (Value.pointer none) = SV.v (Value.pointer none) ∧ SV.p 0 0 = SV.p 0 0 ∧ SV.v (Value.int IntKind.i64 (IntKind.i64.wrap (x + 1))) = SV.v (Value.int IntKind.i64 (IntKind.i64.wrap (x + 1))) ∧ True) ∧ ((ascL x.toNat).set (0 + x.toNat * 1) 65533).set (0 + x.toNat * 1) (IntKind.i32.wrap x) = ascL (IntKind.i64.wrap (x + 1)).toNat ∧ True) ∧ annAsc.μ (IntKind.i64.wrap (x + 1)) < annAsc.μ x))) (Upto (IntKind.i64.wrap (x + 1)) ∧ ((SV.v (Value.pointer none) = SV.v (Value.pointer none) ∧ SV.p 0 0 = SV.p 0 0 ∧ SV.v (Value.int IntKind.i64 (IntKind.i64.wrap (x + 1))) = SV.v (Value.int IntKind.i64 (IntKind.i64.wrap (x + 1))) ∧ True) ∧ (ascL x.toNat).set (0 + x.toNat * 1) 65533 = ascL (IntKind.i64.wrap (x + 1)).toNat ∧ True) ∧ annAsc.μ (IntKind.i64.wrap (x + 1)) < annAsc.μ x)) (Upto (IntKind.i64.wrap (x + 1)) ∧ ((SV.v (Value.pointer none) = SV.v (Value.pointer none) ∧ SV.p 0 0 = SV.p 0 0 ∧ SV.v (Value.int IntKind.i64 (IntKind.i64.wrap (x + 1))) = SV.v (Value.int IntKind.i64 (IntKind.i64.wrap (x + 1))) ∧ True) ∧ (ascL x.toNat).set (0 + x.toNat * 1) 65533 = ascL (IntKind.i64.wrap (x + 1)).toNat ∧ True) ∧ annAsc.μ (IntKind.i64.wrap (x + 1)) < annAsc.μ x)))) (Upto 0 ∧ ((SV.v (Value.int IntKind.i64 (Int.negSucc m)) = SV.v (Value.int IntKind.i64 (Int.negSucc m)) ∧ SV.v (Value.pointer none) = SV.v (Value.pointer none) ∧ SV.p 0 0 = SV.p 0 0 ∧ SV.v (Value.int IntKind.i64 0) = SV.v (Value.int IntKind.i64 0) ∧ True) ∧ ascL x.toNat = LI [65533, 65533, 65533, 65533, 65533, 65533, 65533, 65533, 65533, 65533, 65533, 65533, 65533, 65533, 65533, 65533, 65533, 65533, 65533, 65533, 65533, 65533, 65533, 65533, 65533, 65533, 65533, 65533, 65533, 65533, 65533, 65533, 32, 33, 34, 35, 36, 37, 38, 39, 40, 41, 42, 43, 44, 45, 46, 47, 48, 49, 50, 51, 52, 53, 54, 55, 56, 57, 58, 59, 60, 61, 62, 63, 64, 65, 66, 67, 68, 69, 70, 71, 72, 73, 74, 75, 76, 77, 78, 79, 80, 81, 82, 83, 84, 85, 86, 87, 88, 89, 90, 91, 92, 93, 94, 95, 96, 97, 98, 99, 100, 101, 102, 103, 104, 105, 106, 107, 108, 109, 110, 111, 112, 113, 114, 115, 116, 117, 118, 119, 120, 121, 122, 123, 124, 125, 126, 65533, 65533, 65533, 65533, 65533, 65533, 65533, 65533, 65533, 65533, 65533, 65533, 65533, 65533, 65533, 65533, 65533, 65533, 65533, 65533, 65533, 65533, 65533, 65533, 65533, 65533, 65533, 65533, 65533, 65533, 65533, 65533, 65533, 65533, 65533, 65533, 65533, 65533, 65533, 65533, 65533, 65533, 65533, 65533, 65533, 65533, 65533, 65533, 65533, 65533, 65533, 65533, 65533, 65533, 65533, 65533, 65533, 65533, 65533, 65533, 65533, 65533, 65533, 65533, 65533, 65533, 65533, 65533, 65533, 65533, 65533, 65533, 65533, 65533, 65533, 65533, 65533, 65533, 65533, 65533, 65533, 65533, 65533, 65533, 65533, 65533, 65533, 65533, 65533, 65533, 65533, 65533, 65533, 65533, 65533, 65533, 65533, 65533, 65533, 65533, 65533, 65533, 65533, 65533, 65533, 65533, 65533, 65533, 65533, 65533, 65533, 65533, 65533, 65533, 65533, 65533, 65533, 65533, 65533, 65533, 65533, 65533, 65533, 65533, 65533, 65533, 65533, 65533, 65533] ∧ True) ∧ ∀ (x : Int), Upto x → br (decide (x < 256)) (rq (decide (0 ≤ x ∧ x < 256)) (rq ((0 + x.toNat * 1).blt 256) (Upto (IntKind.i64.wrap (x + 1)) ∧ ((SV.v (Value.int IntKind.i64 (Int.negSucc m)) = SV.v (Value.int IntKind.i64 (Int.negSucc m)) ∧ SV.v (Value.pointer none) = SV.v (Value.pointer none) ∧ SV.p 0 0 = SV.p 0 0 ∧ SV.v (Value.int IntKind.i64 (IntKind.i64.wrap (x + 1))) = SV.v (Value.int IntKind.i64 (IntKind.i64.wrap (x + 1))) ∧ True) ∧ (defL x.toNat).set (0 + x.toNat * 1) 65533 = defL (IntKind.i64.wrap (x + 1)).toNat ∧ True) ∧ annDef.μ (IntKind.i64.wrap (x + 1)) < annDef.μ x))) (defL x.toNat = tabL (Int.negSucc m))))) (by kernel_rfl) ?_
  refine ⟨⟨by omega, by omega⟩, ?_, ?_⟩
  · repeat' (first | exact trivial | refine And.intro ?_ ?_ | kernel_rfl)
  refine fun (x : Int) hx => ?_
  obtain ⟨hx0, hx1⟩ := hx
  refine br_intro (fun hlt => ?_) (fun hge => ?_)
  · have hlt : x < 256 := of_decide_eq_true hlt
    refine rq_t (in_range hx0 hlt) (rq_t (in_blt hx0 hlt) ?_)
    refine br_intro (fun h32 => ?_) (fun h32 => ?_)
    · have h32 : 32 ≤ x := of_decide_eq_true h32
      refine br_intro (fun h126 => ?_) (fun h126 => ?_)
      · have h126 : x ≤ 126 := of_decide_eq_true h126
        refine rq_t (in_range hx0 hlt) (rq_t (in_blt hx0 hlt) ⟨upto_next hx0 hlt, ?_, mu_next hx0 hlt⟩)
        rw [asc1 hx0 h32 h126]
        repeat' (first | exact trivial | refine And.intro ?_ ?_ | kernel_rfl)
      · have h126 : ¬ x ≤ 126 := of_decide_eq_false h126
        refine ⟨upto_next hx0 hlt, ?_, mu_next hx0 hlt⟩
        rw [asc2 hx0 hlt (fun h => h126 h.2)]
        repeat' (first | exact trivial | refine And.intro ?_ ?_ | kernel_rfl)
    · have h32 : ¬ 32 ≤ x := of_decide_eq_false h32
      refine ⟨upto_next hx0 hlt, ?_, mu_next hx0 hlt⟩
      rw [asc2 hx0 hlt (fun h => h32 h.1)]
      repeat' (first | exact trivial | refine And.intro ?_ ?_ | kernel_rfl)
  have hge : ¬ x < 256 := of_decide_eq_false hge
  obtain rfl : x = 256 := by omega
  refine ⟨⟨by omega, by omega⟩, ?_, ?_⟩
  · repeat' (first | exact trivial | refine And.intro ?_ ?_ | kernel_rfl)
  refine fun (x : Int) hx => ?_
  obtain ⟨hx0, hx1⟩ := hx
  refine br_intro (fun hlt => ?_) (fun hge => ?_)
  · have hlt : x < 256 := of_decide_eq_true hlt
    refine rq_t (in_range hx0 hlt) (rq_t (in_blt hx0 hlt) ⟨upto_next hx0 hlt, ?_, mu_next hx0 hlt⟩)
    rw [def1 hx0 hlt]
    repeat' (first | exact trivial | refine And.intro ?_ ?_ | kernel_rfl)
  have hge : ¬ x < 256 := of_decide_eq_false hge
  obtain rfl : x = 256 := by omega
  show (_ : List Int) = _
  exact def_tab fun b => by simp [ofT] <;> omega
set_option maxHeartbeats 4000000 in
theorem of_d1 (m : Nat) : OfAsk 0 := by
  unfold OfAsk
  refine kcast (B := (Upto 0 ∧ ((SV.v (Value.pointer none) = SV.v (Value.pointer none) ∧ SV.p 0 0 = SV.p 0 0 ∧ SV.v (Value.int IntKind.i64 0) = SV.v (Value.int IntKind.i64 0) ∧ True) ∧ LI [0, 0, 0, 0, 0, 0, 0, 0, 0, 0, 0, 0, 0, 0, 0, 0, 0, 0, 0, 0, 0, 0, 0, 0, 0, 0, 0, 0, 0, 0, 0, 0, 0, 0, 0, 0, 0, 0, 0, 0, 0, 0, 0, 0, 0, 0, 0, 0, 0, 0, 0, 0, 0, 0, 0, 0, 0, 0, 0, 0, 0, 0, 0, 0, 0, 0, 0, 0, 0, 0, 0, 0, 0, 0, 0, 0, 0, 0, 0, 0, 0, 0, 0, 0, 0, 0, 0, 0, 0, 0, 0, 0, 0, 0, 0, 0, 0, 0, 0, 0, 0, 0, 0, 0, 0, 0, 0, 0, 0, 0, 0, 0, 0, 0, 0, 0, 0, 0, 0, 0, 0, 0, 0, 0, 0, 0, 0, 0, 0, 0, 0, 0, 0, 0, 0, 0, 0, 0, 0, 0, 0, 0, 0, 0, 0, 0, 0, 0, 0, 0, 0, 0, 0, 0, 0, 0, 0, 0, 0, 0, 0, 0, 0, 0, 0, 0, 0, 0, 0, 0, 0, 0, 0, 0, 0, 0, 0, 0, 0, 0, 0, 0, 0, 0, 0, 0, 0, 0, 0, 0, 0, 0, 0, 0, 0, 0, 0, 0, 0, 0, 0, 0, 0, 0, 0, 0, 0, 0, 0, 0, 0, 0, 0, 0, 0, 0, 0, 0, 0, 0, 0, 0, 0, 0, 0, 0, 0, 0, 0, 0, 0, 0, 0, 0, 0, 0, 0, 0, 0, 0, 0, 0, 0, 0, 0, 0, 0, 0, 0, 0, 0, 0, 0, 0, 0, 0] = LI [0, 0, 0, 0, 0, 0, 0, 0, 0, 0, 0, 0, 0, 0, 0, 0, 0, 0, 0, 0, 0, 0, 0, 0, 0, 0, 0, 0, 0, 0, 0, 0, 0, 0, 0, 0, 0, 0, 0, 0, 0, 0, 0, 0, 0, 0, 0, 0, 0, 0, 0, 0, 0, 0, 0, 0, 0, 0, 0, 0, 0, 0, 0, 0, 0, 0, 0, 0, 0, 0, 0, 0, 0, 0, 0, 0, 0, 0, 0, 0, 0, 0, 0, 0, 0, 0, 0, 0, 0, 0, 0, 0, 0, 0, 0, 0, 0, 0, 0, 0, 0, 0, 0, 0, 0, 0, 0, 0, 0, 0, 0, 0, 0, 0, 0, 0, 0, 0, 0, 0, 0, 0, 0, 0, 0, 0, 0, 0, 0, 0, 0, 0, 0, 0, 0, 0, 0, 0, 0, 0, 0, 0, 0, 0, 0, 0, 0, 0, 0, 0, 0, 0, 0, 0, 0, 0, 0, 0, 0, 0, 0, 0, 0, 0, 0, 0, 0, 0, 0, 0, 0, 0, 0, 0, 0, 0, 0, 0, 0, 0, 0, 0, 0, 0, 0, 0, 0, 0, 0, 0, 0, 0, 0, 0, 0, 0, 0, 0, 0, 0, 0, 0, 0, 0, 0, 0, 0, 0, 0, 0, 0, 0, 0, 0, 0, 0, 0, 0, 0, 0, 0, 0, 0, 0, 0, 0, 0, 0, 0, 0, 0, 0, 0, 0, 0, 0, 0, 0, 0, 0, 0, 0, 0, 0, 0, 0, 0, 0, 0, 0, 0, 0, 0, 0, 0, 0] ∧ True) ∧ ∀ (x : Int), Upto x → br (decide (x < 256)) (rq (decide (0 ≤ x ∧ x < 256)) (rq ((0 + x.toNat * 1).blt 256) (br (decide (x ≥ 32)) (br (decide (x ≤ 126)) (rq (decide (0 ≤ x ∧ x < 256)) (rq ((0 + x.toNat * 1).blt 256) (Upto (IntKind.i64.wrap (x + 1)) ∧ ((SV.v (Value.pointer none) = SV.v (Value.pointer none) ∧ SV.p 0 0 = SV.p 0 0 ∧ SV.v (Value.int IntKind.i64 (IntKind.i64.wrap (x + 1))) = SV.v (Value.int IntKind.i64 (IntKind.i64.wrap (x + 1))) ∧ True) ∧ ((ascL x.toNat).set (0 + x.toNat * 1) 65533).set (0 + x.toNat * 1) (IntKind.i32.wrap x) = ascL (IntKind.i64.wrap (x + 1)).toNat ∧ True) ∧ annAsc.μ (IntKind.i64.wrap (x + 1)) < annAsc.μ x))) (Upto (IntKind.i64.wrap (x + 1)) ∧ ((SV.v (Value.pointer none) = SV.v (Value.pointer none) ∧ SV.p 0 0 = SV.p 0 0 ∧ SV.v (Value.int IntKind.i64 (IntKind.i64.wrap (x + 1))) = SV.v (Value.int IntKind.i64 (IntKind.i64.wrap (x + 1))) ∧ True) ∧ (ascL x.toNat).set (0 + x.toNat * 1) 65533 = ascL (IntKind.i64.wrap (x + 1)).toNat ∧ True) ∧ annAsc.μ (IntKind.i64.wrap (x + 1)) < annAsc.μ x)) (Upto (IntKind.i64.wrap (x + 1)) ∧ ((SV.v (Value.pointer none) = SV.v (Value.pointer none) ∧ SV.p 0 0 = SV.p 0 0 ∧ SV.v (Value.int IntKind.i64 (IntKind.i64.wrap (x + 1))) = SV.v (Value.int IntKind.i64 (IntKind.i64.wrap (x + 1))) ∧ True) ∧ (ascL x.toNat).set (0 + x.toNat * 1) 65533 = ascL (IntKind.i64.wrap (x + 1)).toNat ∧ True) ∧ annAsc.μ (IntKind.i64.wrap (x + 1)) < annAsc.μ x)))) (Upto 0 ∧ ((SV.v (Value.int IntKind.i64 0) = SV.v (Value.int IntKind.i64 0) ∧ SV.v (Value.pointer none) = SV.v (Value.pointer none) ∧ SV.p 0 0 = SV.p 0 0 ∧ SV.v (Value.int IntKind.i64 0) = SV.v (Value.int IntKind.i64 0) ∧ True) ∧ ascL x.toNat = LI [65533, 65533, 65533, 65533, 65533, 65533, 65533, 65533, 65533, 65533, 65533, 65533, 65533, 65533, 65533, 65533, 65533, 65533, 65533, 65533, 65533, 65533, 65533, 65533, 65533, 65533, 65533, 65533, 65533, 65533, 65533, 65533, 32, 33, 34, 35, 36, 37, 38, 39, 40, 41, 42, 43, 44, 45, 46, 47, 48, 49, 50, 51, 52, 53, 54, 55, 56, 57, 58, 59, 60, 61, 62, 63, 64, 65, 66, 67, 68, 69, 70, 71, 72, 73, 74, 75, 76, 77, 78, 79, 80, 81, 82, 83, 84, 85, 86, 87, 88, 89, 90, 91, 92, 93, 94, 95, 96, 97, 98, 99, 100, 101, 102, 103, 104, 105, 106, 107, 108, 109, 110, 111, 112, 113, 114, 115, 116, 117, 118, 119, 120, 121, 122, 123, 124, 125, 126, 65533, 65533, 65533, 65533, 65533, 65533, 65533, 65533, 65533, 65533, 65533, 65533, 65533, 65533, 65533, 65533, 65533, 65533, 65533, 65533, 65533, 65533, 65533, 65533, 65533, 65533, 65533, 65533, 65533, 65533, 65533, 65533, 65533, 65533, 65533, 65533, 65533, 65533, 65533, 65533, 65533, 65533, 65533, 65533, 65533, 65533, 65533, 65533, 65533, 65533, 65533, 65533, 65533, 65533, 65533, 65533, 65533, 65533, 65533, 65533, 65533, 65533, 65533, 65533, 65533, 65533, 65533, 65533, 65533, 65533, 65533, 65533, 65533, 65533, 65533, 65533, 65533, 65533, 65533, 65533, 65533, 65533, 65533, 65533, 65533, 65533, 65533, 65533, 65533, 65533, 65533, 65533, 65533, 65533, 65533, 65533, 65533, 65533, 65533, 65533, 65533, 65533, 65533, 65533, 65533, 65533, 65533, 65533, 65533, 65533, 65533, 65533, 65533, 65533, 65533, 65533, 65533, 65533, 65533, 65533, 65533, 65533, 65533, 65533, 65533, 65533, 65533, 65533, 65533] ∧ True) ∧ ∀ (x : Int), Upto x → br (decide (x < 256)) (rq (decide (0 ≤ x ∧ x < 256)) (rq ((0 + x.toNat * 1).blt 256) (Upto (IntKind.i64.wrap (x + 1)) ∧ ((SV.v (Value.int IntKind.i64 0) = SV.v (Value.int IntKind.i64 0) ∧ SV.v (Value.pointer none) = SV.v (Value.pointer none) ∧ SV.p 0 0 = SV.p 0 0 ∧ SV.v (Value.int IntKind.i64 (IntKind.i64.wrap (x + 1))) = SV.v (Value.int IntKind.i64 (IntKind.i64.wrap (x + 1))) ∧ True) ∧ (defL x.toNat).set (0 + x.toNat * 1) 65533 = defL (IntKind.i64.wrap (x + 1)).toNat ∧ True) ∧ annDef.μ (IntKind.i64.wrap (x + 1)) < annDef.μ x))) (defL x.toNat = LI [65533, 65533, 65533, 65533, 65533, 65533, 65533, 65533, 65533, 65533, 65533, 65533, 65533, 65533, 65533, 65533, 65533, 65533, 65533, 65533, 65533, 65533, 65533, 65533, 65533, 65533, 65533, 65533, 65533, 65533, 65533, 65533, 65533, 65533, 65533, 65533, 65533, 65533, 65533, 65533, 65533, 65533, 65533, 65533, 65533, 65533, 65533, 65533, 65533, 65533, 65533, 65533, 65533, 65533, 65533, 65533, 65533, 65533, 65533, 65533, 65533, 65533, 65533, 65533, 65533, 65533, 65533, 65533, 65533, 65533, 65533, 65533, 65533, 65533, 65533, 65533, 65533, 65533, 65533, 65533, 65533, 65533, 65533, 65533, 65533, 65533, 65533, 65533, 65533, 65533, 65533, 65533, 65533, 65533, 65533, 65533, 65533, 65533, 65533, 65533, 65533, 65533, 65533, 65533, 65533, 65533, 65533, 65533, 65533, 65533, 65533, 65533, 65533, 65533, 65533, 65533, 65533, 65533, 65533, 65533, 65533, 65533, 65533, 65533, 65533, 65533, 65533, 65533, 65533, 65533, 65533, 65533, 65533, 65533, 65533, 65533, 65533, 65533, 65533, 65533, 65533, 65533, 65533, 65533, 65533, 65533, 65533, 65533, 65533, 65533, 65533, 65533, 65533, 65533, 65533, 65533, 65533, 65533, 65533, 65533, 65533, 65533, 65533, 65533, 65533, 65533, 65533, 65533, 65533, 65533, 65533, 65533, 65533, 65533, 65533, 65533, 65533, 65533, 65533, 65533, 65533, 65533, 65533, 65533, 65533, 65533, 65533, 65533, 65533, 65533, 65533, 65533, 65533, 65533, 65533, 65533, 65533, 65533, 65533, 65533, 65533, 65533, 65533, 65533, 65533, 65533, 65533, 65533, 65533, 65533, 65533, 65533, 65533, 65533, 65533, 65533, 65533, 65533, 65533, 65533, 65533, 65533, 65533, 65533, 65533, 65533, 65533, 65533, 65533, 65533, 65533, 65533, 65533, 65533, 65533, 65533, 65533, 65533, 65533, 65533, 65533, 65533, 65533, 65533, 65533, 65533, 65533, 65533, 65533, 65533, 65533, 65533, 65533, 65533, 65533, 65533])))) (by kernel_rfl) ?_
  refine ⟨⟨by omega, by omega⟩, ?_, ?_⟩
  · repeat' (first | exact trivial | refine And.intro ?_ ?_ | kernel_rfl)
  refine fun (x : Int) hx => ?_
  obtain ⟨hx0, hx1⟩ := hx
  refine br_intro (fun hlt => ?_) (fun hge => ?_)
  · have hlt : x < 256 := of_decide_eq_true hlt
    refine rq_t (in_range hx0 hlt) (rq_t (in_blt hx0 hlt) ?_)
    refine br_intro (fun h32 => ?_) (fun h32 => ?_)
    · have h32 : 32 ≤ x := of_decide_eq_true h32
      refine br_intro (fun h126 => ?_) (fun h126 => ?_)
      · have h126 : x ≤ 126 := of_decide_eq_true h126
        refine rq_t (in_range hx0 hlt) (rq_t (in_blt hx0 hlt) ⟨upto_next hx0 hlt, ?_, mu_next hx0 hlt⟩)
        rw [asc1 hx0 h32 h126]
        repeat' (first | exact trivial | refine And.intro ?_ ?_ | kernel_rfl)
      · have h126 : ¬ x ≤ 126 := of_decide_eq_false h126
        refine ⟨upto_next hx0 hlt, ?_, mu_next hx0 hlt⟩
        rw [asc2 hx0 hlt (fun h => h126 h.2)]
        repeat' (first | exact trivial | refine And.intro ?_ ?_ | kernel_rfl)
    · have h32 : ¬ 32 ≤ x := of_decide_eq_false h32
      refine ⟨upto_next hx0 hlt, ?_, mu_next hx0 hlt⟩
      rw [asc2 hx0 hlt (fun h => h32 h.1)]
      repeat' (first | exact trivial | refine And.intro ?_ ?_ | kernel_rfl)
  have hge : ¬ x < 256 := of_decide_eq_false hge
  obtain rfl : x = 256 := by omega
  refine ⟨⟨by omega, by omega⟩, ?_, ?_⟩
  · repeat' (first | exact trivial | refine And.intro ?_ ?_ | kernel_rfl)
  refine fun (x : Int) hx => ?_
  obtain ⟨hx0, hx1⟩ := hx
  refine br_intro (fun hlt => ?_) (fun hge => ?_)
  · have hlt : x < 256 := of_decide_eq_true hlt
    refine rq_t (in_range hx0 hlt) (rq_t (in_blt hx0 hlt) ⟨upto_next hx0 hlt, ?_, mu_next hx0 hlt⟩)
    rw [def1 hx0 hlt]
    repeat' (first | exact trivial | refine And.intro ?_ ?_ | kernel_rfl)
  have hge : ¬ x < 256 := of_decide_eq_false hge
  obtain rfl : x = 256 := by omega
  show (_ : List Int) = _
  kernel_rfl
set_option maxHeartbeats 4000000 in
theorem of_d2 (m : Nat) : OfAsk (Int.ofNat (m + 6)) := by
  unfold OfAsk
  refine kcast (B := (Upto 0 ∧ ((SV.v (Value.pointer none) = SV.v (Value.pointer none) ∧ SV.p 0 0 = SV.p 0 0 ∧ SV.v (Value.int IntKind.i64 0) = SV.v (Value.int IntKind.i64 0) ∧ True) ∧ LI [0, 0, 0, 0, 0, 0, 0, 0, 0, 0, 0, 0, 0, 0, 0, 0, 0, 0, 0, 0, 0, 0, 0, 0, 0, 0, 0, 0, 0, 0, 0, 0, 0, 0, 0, 0, 0, 0, 0, 0, 0, 0, 0, 0, 0, 0, 0, 0, 0, 0, 0, 0, 0, 0, 0, 0, 0, 0, 0, 0, 0, 0, 0, 0, 0, 0, 0, 0, 0, 0, 0, 0, 0, 0, 0, 0, 0, 0, 0, 0, 0, 0, 0, 0, 0, 0, 0, 0, 0, 0, 0, 0, 0, 0, 0, 0, 0, 0, 0, 0, 0, 0, 0, 0, 0, 0, 0, 0, 0, 0, 0, 0, 0, 0, 0, 0, 0, 0, 0, 0, 0, 0, 0, 0, 0, 0, 0, 0, 0, 0, 0, 0, 0, 0, 0, 0, 0, 0, 0, 0, 0, 0, 0, 0, 0, 0, 0, 0, 0, 0, 0, 0, 0, 0, 0, 0, 0, 0, 0, 0, 0, 0, 0, 0, 0, 0, 0, 0, 0, 0, 0, 0, 0, 0, 0, 0, 0, 0, 0, 0, 0, 0, 0, 0, 0, 0, 0, 0, 0, 0, 0, 0, 0, 0, 0, 0, 0, 0, 0, 0, 0, 0, 0, 0, 0, 0, 0, 0, 0, 0, 0, 0, 0, 0, 0, 0, 0, 0, 0, 0, 0, 0, 0, 0, 0, 0, 0, 0, 0, 0, 0, 0, 0, 0, 0, 0, 0, 0, 0, 0, 0, 0, 0, 0, 0, 0, 0, 0, 0, 0, 0, 0, 0, 0, 0, 0] = LI [0, 0, 0, 0, 0, 0, 0, 0, 0, 0, 0, 0, 0, 0, 0, 0, 0, 0, 0, 0, 0, 0, 0, 0, 0, 0, 0, 0, 0, 0, 0, 0, 0, 0, 0, 0, 0, 0, 0, 0, 0, 0, 0, 0, 0, 0, 0, 0, 0, 0, 0, 0, 0, 0, 0, 0, 0, 0, 0, 0, 0, 0, 0, 0, 0, 0, 0, 0, 0, 0, 0, 0, 0, 0, 0, 0, 0, 0, 0, 0, 0, 0, 0, 0, 0, 0, 0, 0, 0, 0, 0, 0, 0, 0, 0, 0, 0, 0, 0, 0, 0, 0, 0, 0, 0, 0, 0, 0, 0, 0, 0, 0, 0, 0, 0, 0, 0, 0, 0, 0, 0, 0, 0, 0, 0, 0, 0, 0, 0, 0, 0, 0, 0, 0, 0, 0, 0, 0, 0, 0, 0, 0, 0, 0, 0, 0, 0, 0, 0, 0, 0, 0, 0, 0, 0, 0, 0, 0, 0, 0, 0, 0, 0, 0, 0, 0, 0, 0, 0, 0, 0, 0, 0, 0, 0, 0, 0, 0, 0, 0, 0, 0, 0, 0, 0, 0, 0, 0, 0, 0, 0, 0, 0, 0, 0, 0, 0, 0, 0, 0, 0, 0, 0, 0, 0, 0, 0, 0, 0, 0, 0, 0, 0, 0, 0, 0, 0, 0, 0, 0, 0, 0, 0, 0, 0, 0, 0, 0, 0, 0, 0, 0, 0, 0, 0, 0, 0, 0, 0, 0, 0, 0, 0, 0, 0, 0, 0, 0, 0, 0, 0, 0, 0, 0, 0, 0] ∧ True) ∧ ∀ (x : Int), Upto x → br (decide (x < 256)) (rq (decide (0 ≤ x ∧ x < 256)) (rq ((0 + x.toNat * 1).blt 256) (br (decide (x ≥ 32)) (br (decide (x ≤ 126)) (rq (decide (0 ≤ x ∧ x < 256)) (rq ((0 + x.toNat * 1).blt 256) (Upto (IntKind.i64.wrap (x + 1)) ∧ ((SV.v (Value.pointer none) = SV.v (Value.pointer none) ∧ SV.p 0 0 = SV.p 0 0 ∧ SV.v (Value.int IntKind.i64 (IntKind.i64.wrap (x + 1))) = SV.v (Value.int IntKind.i64 (IntKind.i64.wrap (x + 1))) ∧ True) ∧ ((ascL x.toNat).set (0 + x.toNat * 1) 65533).set (0 + x.toNat * 1) (IntKind.i32.wrap x) = ascL (IntKind.i64.wrap (x + 1)).toNat ∧ True) ∧ annAsc.μ (IntKind.i64.wrap (x + 1)) < annAsc.μ x))) (Upto (IntKind.i64.wrap (x + 1)) ∧ ((SV.v (Value.pointer none) = SV.v (Value.pointer none) ∧ SV.p 0 0 = SV.p 0 0 ∧ SV.v (Value.int IntKind.i64 (IntKind.i64.wrap (x + 1))) = SV.v (Value.int IntKind.i64 (IntKind.i64.wrap (x + 1))) ∧ True) ∧ (ascL x.toNat).set (0 + x.toNat * 1) 65533 = ascL (IntKind.i64.wrap (x + 1)).toNat ∧ True) ∧ annAsc.μ (IntKind.i64.wrap (x + 1)) < annAsc.μ x)) (Upto (IntKind.i64.wrap (x + 1)) ∧ ((SV.v (Value.pointer none) = SV.v (Value.pointer none) ∧ SV.p 0 0 = SV.p 0 0 ∧ SV.v (Value.int IntKind.i64 (IntKind.i64.wrap (x + 1))) = SV.v (Value.int IntKind.i64 (IntKind.i64.wrap (x + 1))) ∧ True) ∧ (ascL x.toNat).set (0 + x.toNat * 1) 65533 = ascL (IntKind.i64.wrap (x + 1)).toNat ∧ True) ∧ annAsc.μ (IntKind.i64.wrap (x + 1)) < annAsc.μ x)))) (Upto 0 ∧ ((SV.v (Value.int IntKind.i64 (Int.ofNat (m + 6))) = SV.v (Value.int IntKind.i64 (Int.ofNat (m + 6))) ∧ SV.v (Value.pointer none) = SV.v (Value.pointer none) ∧ SV.p 0 0 = SV.p 0 0 ∧ SV.v (Value.int IntKind.i64 0) = SV.v (Value.int IntKind.i64 0) ∧ True) ∧ ascL x.toNat = LI [65533, 65533, 65533, 65533, 65533, 65533, 65533, 65533, 65533, 65533, 65533, 65533, 65533, 65533, 65533, 65533, 65533, 65533, 65533, 65533, 65533, 65533, 65533, 65533, 65533, 65533, 65533, 65533, 65533, 65533, 65533, 65533, 32, 33, 34, 35, 36, 37, 38, 39, 40, 41, 42, 43, 44, 45, 46, 47, 48, 49, 50, 51, 52, 53, 54, 55, 56, 57, 58, 59, 60, 61, 62, 63, 64, 65, 66, 67, 68, 69, 70, 71, 72, 73, 74, 75, 76, 77, 78, 79, 80, 81, 82, 83, 84, 85, 86, 87, 88, 89, 90, 91, 92, 93, 94, 95, 96, 97, 98, 99, 100, 101, 102, 103, 104, 105, 106, 107, 108, 109, 110, 111, 112, 113, 114, 115, 116, 117, 118, 119, 120, 121, 122, 123, 124, 125, 126, 65533, 65533, 65533, 65533, 65533, 65533, 65533, 65533, 65533, 65533, 65533, 65533, 65533, 65533, 65533, 65533, 65533, 65533, 65533, 65533, 65533, 65533, 65533, 65533, 65533, 65533, 65533, 65533, 65533, 65533, 65533, 65533, 65533, 65533, 65533, 65533, 65533, 65533, 65533, 65533, 65533, 65533, 65533, 65533, 65533, 65533, 65533, 65533, 65533, 65533, 65533, 65533, 65533, 65533, 65533, 65533, 65533, 65533, 65533, 65533, 65533, 65533, 65533, 65533, 65533, 65533, 65533, 65533, 65533, 65533, 65533, 65533, 65533, 65533, 65533, 65533, 65533, 65533, 65533, 65533, 65533, 65533, 65533, 65533, 65533, 65533, 65533, 65533, 65533, 65533, 65533, 65533, 65533, 65533, 65533, 65533, 65533, 65533, 65533, 65533, 65533, 65533, 65533, 65533, 65533, 65533, 65533, 65533, 65533, 65533, 65533, 65533, 65533, 65533, 65533, 65533, 65533, 65533, 65533, 65533, 65533, 65533, 65533, 65533, 65533, 65533, 65533, 65533, 65533] ∧ True) ∧ ∀ (x : Int), Upto x → br (decide (x < 256)) (rq (decide (0 ≤ x ∧ x < 256)) (rq ((0 + x.toNat * 1).blt 256) (Upto (IntKind.i64.wrap (x + 1)) ∧ ((SV.v (Value.int IntKind.i64 (Int.ofNat (m + 6))) = SV.v (Value.int IntKind.i64 (Int.ofNat (m + 6))) ∧ SV.v (Value.pointer none) = SV.v (Value.pointer none) ∧ SV.p 0 0 = SV.p 0 0 ∧ SV.v (Value.int IntKind.i64 (IntKind.i64.wrap (x + 1))) = SV.v (Value.int IntKind.i64 (IntKind.i64.wrap (x + 1))) ∧ True) ∧ (defL x.toNat).set (0 + x.toNat * 1) 65533 = defL (IntKind.i64.wrap (x + 1)).toNat ∧ True) ∧ annDef.μ (IntKind.i64.wrap (x + 1)) < annDef.μ x))) (defL x.toNat = tabL (Int.ofNat (m + 6)))))) (by kernel_rfl) ?_
  refine ⟨⟨by omega, by omega⟩, ?_, ?_⟩
  · repeat' (first | exact trivial | refine And.intro ?_ ?_ | kernel_rfl)
  refine fun (x : Int) hx => ?_
  obtain ⟨hx0, hx1⟩ := hx
  refine br_intro (fun hlt => ?_) (fun hge => ?_)
  · have hlt : x < 256 := of_decide_eq_true hlt
    refine rq_t (in_range hx0 hlt) (rq_t (in_blt hx0 hlt) ?_)
    refine br_intro (fun h32 => ?_) (fun h32 => ?_)
    · have h32 : 32 ≤ x := of_decide_eq_true h32
      refine br_intro (fun h126 => ?_) (fun h126 => ?_)
      · have h126 : x ≤ 126 := of_decide_eq_true h126
        refine rq_t (in_range hx0 hlt) (rq_t (in_blt hx0 hlt) ⟨upto_next hx0 hlt, ?_, mu_next hx0 hlt⟩)
        rw [asc1 hx0 h32 h126]
        repeat' (first | exact trivial | refine And.intro ?_ ?_ | kernel_rfl)
      · have h126 : ¬ x ≤ 126 := of_decide_eq_false h126
        refine ⟨upto_next hx0 hlt, ?_, mu_next hx0 hlt⟩
        rw [asc2 hx0 hlt (fun h => h126 h.2)]
        repeat' (first | exact trivial | refine And.intro ?_ ?_ | kernel_rfl)
    · have h32 : ¬ 32 ≤ x := of_decide_eq_false h32
      refine ⟨upto_next hx0 hlt, ?_, mu_next hx0 hlt⟩
      rw [asc2 hx0 hlt (fun h => h32 h.1)]
      repeat' (first | exact trivial | refine And.intro ?_ ?_ | kernel_rfl)
  have hge : ¬ x < 256 := of_decide_eq_false hge
  obtain rfl : x = 256 := by omega
  refine ⟨⟨by omega, by omega⟩, ?_, ?_⟩
  · repeat' (first | exact trivial | refine And.intro ?_ ?_ | kernel_rfl)
  refine fun (x : Int) hx => ?_
  obtain ⟨hx0, hx1⟩ := hx
  refine br_intro (fun hlt => ?_) (fun hge => ?_)
  · have hlt : x < 256 := of_decide_eq_true hlt
    refine rq_t (in_range hx0 hlt) (rq_t (in_blt hx0 hlt) ⟨upto_next hx0 hlt, ?_, mu_next hx0 hlt⟩)
    rw [def1 hx0 hlt]
    repeat' (first | exact trivial | refine And.intro ?_ ?_ | kernel_rfl)
  have hge : ¬ x < 256 := of_decide_eq_false hge
  obtain rfl : x = 256 := by omega
  show (_ : List Int) = _
  exact def_tab fun b => by simp [ofT] <;> omega

def tsOf : TS := mkTS (shOne shI) (fun _ => True) rowT
theorem ok_of : TabOk Try.prog 21 tsOf := by
  refine tabOk_mkA (τ := Empty) (fun _ => pureCfg Try.prog [] 300 anns) (fun _ _ => pureCfg_ok mixed trivial) (fun _ => rfl) (n := 60) Try.func21 (fun _ => by kernel_rfl) ?_
  intro set _
  show OfAsk set
  by_cases h1 : set = 1
  · subst h1; exact of_1
  by_cases h2 : set = 2
  · subst h2; exact of_2
  by_cases h3 : set = 3
  · subst h3; exact of_3
  by_cases h4 : set = 4
  · subst h4; exact of_4
  by_cases h5 : set = 5
  · subst h5; exact of_5
  obtain ⟨m, rfl⟩ | rfl | ⟨m, rfl⟩ : (∃ m : Nat, set = Int.negSucc m) ∨ set = 0 ∨ ∃ m : Nat, set = Int.ofNat (m + 6) := by
    rcases Int.lt_trichotomy set 0 with h | h | h
    · exact .inl ⟨(-set - 1).toNat, by omega⟩
    · exact .inr (.inl h)
    · exact .inr (.inr ⟨(set - 6).toNat, by show set = ((((set - 6).toNat + 6 : Nat)) : Int); omega⟩)
  · exact of_d0 m
  · exact of_d1 0
  · exact of_d2 m

end Go.Proofs.Ytgnplgbknfnibaa
