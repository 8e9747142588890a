/- Layer 2: the glyph of a byte: contracts. -/
import Derived.Test.YtgpfdajjkalloaaChecked
import Derived.Test.YtgpfdajjkalloaaVY
set_option linter.unusedSimpArgs false
set_option linter.unusedVariables false
set_option linter.unusedSectionVars false
namespace Go.Proofs.Ytgpfdajjkalloaa
open Go Go.Sym
theorem mixed : Try.prog.follows .mixedOrders = true := by kernel_rfl
theorem rq_iff {b : Bool} {A : Prop} : rq b A ↔ (b = true ∧ A) := by cases b <;> simp [rq]
theorem br_iff {b : Bool} {A B : Prop} : br b A B ↔ ((b = true → A) ∧ (b = false → B)) := by cases b <;> simp [br]
theorem nbeq (n : Nat) : Nat.beq n n = true := by rw [Nat.beq_eq]
def lowL : List Int := [9786, 9787, 9829, 9830, 9827, 9824, 8226, 9688, 9675, 9689, 9794, 9792, 9834, 9835, 9788, 9658, 9668, 8597, 8252, 182, 167, 9644, 8616, 8593, 8595, 8594, 8592, 8735, 8596, 9650, 9660]
def highL : List Int := [199, 252, 233, 226, 228, 224, 229, 231, 234, 235, 232, 239, 238, 236, 196, 197, 201, 230, 198, 244, 246, 242, 251, 249, 255, 214, 220, 162, 163, 165, 8359, 402, 225, 237, 243, 250, 241, 209, 170, 186, 191, 8976, 172, 189,
 188, 161, 171, 187, 9617, 9618, 9619, 9474, 9508, 9569, 9570, 9558, 9557, 9571, 9553, 9559, 9565, 9564, 9563, 9488, 9492, 9524, 9516, 9500, 9472, 9532, 9566, 9567, 9562, 9556, 9577, 9574, 9568, 9552, 9580, 9575, 9576, 9572, 9573, 9561, 9560, 9554,
 9555, 9579, 9578, 9496, 9484, 9608, 9604, 9612, 9616, 9600, 945, 223, 915, 960, 931, 963, 181, 964, 934, 920, 937, 948, 8734, 966, 949, 8745, 8801, 177, 8805, 8804, 8992, 8993, 247, 8776, 176, 8729, 183, 8730, 8319, 178, 9632]
def graphL : List Int := [9608, 8543, 179, 8309, 8311, 176, 177, 8594, 8230, 247, 8595, 9620, 9146, 9147, 9473, 9472, 9476, 9148, 9149, 8320, 8321, 8322, 8323, 8324, 8325, 8326, 8327, 8328, 8329, 182]
def linesL : List Int := [9516, 9492, 9484, 9488, 9500, 9496, 9474, 9608, 9532, 9508, 9472, 9618, 9552, 9524, 9553, 9617]
def plainT (n : Int) : Int := if 32 ≤ n ∧ n ≤ 126 then n else 65533
def ofT (set b : Int) : Int :=
  if set = 1 then plainT b
  else if set = 2 then (if b = 0 then 32 else if b < 32 then lowL.getD (b - 1).toNat 0 else if b = 127 then 8962 else if b = 255 then 160 else if 128 ≤ b then highL.getD (b - 128).toNat 0 else plainT b)
  else if set = 3 then (if 94 ≤ b ∧ b ≤ 96 then 32 else if 97 ≤ b ∧ b ≤ 126 then graphL.getD (b - 97).toNat 0 else plainT b)
  else if set = 4 then (if 48 ≤ b ∧ b ≤ 63 then linesL.getD (b - 48).toNat 0 else plainT b)
  else if set = 5 then (if 97 ≤ (if 128 ≤ b then b - 128 else b) ∧ (if 128 ≤ b then b - 128 else b) ≤ 122 then (if 128 ≤ b then b - 128 else b) - 32 else plainT (if 128 ≤ b then b - 128 else b))
  else 65533
theorem byte_nat {b : Int} (h : 0 ≤ b ∧ b ≤ 255) : ∃ n : Nat, n < 256 ∧ b = (n : Int) := ⟨b.toNat, by omega, by omega⟩
def ascL (i : Nat) : List Int := (List.range 256).map fun j => if j < i then plainT j else 0
def defL (i : Nat) : List Int := (List.range 256).map fun j => if j < i then 65533 else plainT j
structure Upto (i : Int) : Prop where
  l : 0 ≤ i
  u : i ≤ 256
/-- The loop of the table of Ascii. -/
def annAsc : Ann Unit where
  α := Int
  φ _ i := Upto i
  μ _ i := (256 - i).toNat
  get st := getI st.tm 5
  f st i := tmpl [0, 1] [(5, .v (.int .i64 i))] [(st.H.length - 1, .ints .i32 (ascL i.toNat) 256 56)] st
/-- The loop of a set that is none. -/
def annDef : Ann Unit where
  α := Int
  φ _ i := Upto i
  μ _ i := (256 - i).toNat
  get st := getI st.tm 8
  f st i := tmpl [0, 2, 3] [(8, .v (.int .i64 i))] [(st.H.length - 1, .ints .i32 (defL i.toNat) 256 56)] st
def anns : List (Nat × Ann Unit) := [(257, annAsc), (321, annDef)]

theorem set_range {f g : Nat → Int} {n : Nat} {v : Int} (hn : n < 256) (h1 : ∀ j, j < 256 → j ≠ n → f j = g j) (h2 : v = g n) : ((List.range 256).map f).set n v = (List.range 256).map g := by
  apply List.ext_getElem
  · simp
  · intro i h3 h4
    simp only [List.getElem_set, List.getElem_map, List.getElem_range]
    simp at h4
    split
    · rename_i e; subst e; exact h2
    · rename_i e; exact h1 i h4 (fun x => e x.symm)

theorem asc1 {x : Int} (h0 : 0 ≤ x) (h1 : 32 ≤ x) (h2 : x ≤ 126) : ((ascL x.toNat).set (0 + x.toNat * 1) 65533).set (0 + x.toNat * 1) (IntKind.wrap .i32 x) = ascL (IntKind.wrap .i64 (x + 1)).toNat := by
  rw [List.set_set, wrap64 (by omega) (by omega), IntWalk.i32_in x ⟨by omega, by omega⟩]
  refine set_range (by omega) (fun j hj hne => ?_) ?_
  · by_cases hlt : j < x.toNat
    · rw [if_pos hlt, if_pos (by omega)]
    · rw [if_neg hlt, if_neg (by omega)]
  · rw [if_pos (by omega)]
    unfold plainT
    rw [if_pos (by omega)]
    omega
theorem asc2 {x : Int} (h0 : 0 ≤ x) (h1 : x < 256) (h2 : ¬ (32 ≤ x ∧ x ≤ 126)) : (ascL x.toNat).set (0 + x.toNat * 1) 65533 = ascL (IntKind.wrap .i64 (x + 1)).toNat := by
  rw [wrap64 (by omega) (by omega)]
  refine set_range (by omega) (fun j hj hne => ?_) ?_
  · by_cases hlt : j < x.toNat
    · rw [if_pos hlt, if_pos (by omega)]
    · rw [if_neg hlt, if_neg (by omega)]
  · rw [if_pos (by omega)]
    unfold plainT
    rw [if_neg (by omega)]
theorem def1 {x : Int} (h0 : 0 ≤ x) (h1 : x < 256) : (defL x.toNat).set (0 + x.toNat * 1) 65533 = defL (IntKind.wrap .i64 (x + 1)).toNat := by
  rw [wrap64 (by omega) (by omega)]
  refine set_range (by omega) (fun j hj hne => ?_) ?_
  · by_cases hlt : j < x.toNat
    · rw [if_pos hlt, if_pos (by omega)]
    · rw [if_neg hlt, if_neg (by omega)]
  · rw [if_pos (by omega)]
theorem upto_next {x : Int} (h0 : 0 ≤ x) (h1 : x < 256) : Upto (IntKind.wrap .i64 (x + 1)) := by rw [wrap64 (by omega) (by omega)]; exact ⟨by omega, by omega⟩
theorem mu_next {x : Int} (h0 : 0 ≤ x) (h1 : x < 256) : (256 - IntKind.wrap .i64 (x + 1)).toNat < (256 - x).toNat := by rw [wrap64 (by omega) (by omega)]; omega
theorem in_range {x : Int} (h0 : 0 ≤ x) (h1 : x < 256) : decide (0 ≤ x ∧ x < 256) = true := decide_eq_true ⟨h0, h1⟩
theorem in_blt {x : Int} (h0 : 0 ≤ x) (h1 : x < 256) : Nat.blt (0 + x.toNat * 1) 256 = true := by rw [Nat.blt_eq]; omega
theorem br_intro {b : Bool} {A B : Prop} (h : b = true → A) (h' : b = false → B) : br b A B := br_iff.2 ⟨h, h'⟩
theorem rq_t {b : Bool} {A : Prop} (h : b = true) (hA : A) : rq b A := by subst h; exact hA
def tabL2 (set : Int) : List Int := (List.range 256).map fun (n : Nat) => ofT set n
theorem getD_tab {L : List Int} {set b : Int} (hL : L = tabL2 set) (h0 : 0 ≤ b) (h1 : b ≤ 255) : L.getD (0 + b.toNat * 1) 0 = ofT set b := by
  subst hL
  unfold tabL2
  rw [List.getD_eq_getElem?_getD, List.getElem?_map, List.getElem?_range (by omega)]
  simp only [Option.map_some, Option.getD_some]
  congr 1
  omega
def altOf (set : Int) : Alt Unit := .one (.p 0 0) [.ints .i32 (tabL2 set) 256 56] []
def OfAsk (set : Int) : Prop := Go.Sym.Ask (bodyK Try.prog (run (allCfg Try.prog [] [] 300 anns) 60) Try.f18 ((shOne shI).enc set) [] (fun y H' => altFin (altOf set) 0 y H'))
theorem def_tab {set : Int} (h : ∀ b, ofT set b = 65533) : defL (256 : Int).toNat = tabL2 set := by
  unfold defL tabL2
  refine List.map_congr_left fun j hj => ?_
  have := List.mem_range.1 hj
  rw [h, if_pos (by omega)]
set_option maxHeartbeats 4000000 in
theorem of_1 : OfAsk 1 := by
  unfold OfAsk
  refine kcast (B := (Upto (0 : Int) ∧ ((SV.v (Value.pointer none) = SV.v (Value.pointer none) ∧ SV.p (0 : Nat) (0 : Nat) = SV.p (0 : Nat) (0 : Nat) ∧ SV.v (Value.int IntKind.i64 (0 : Int)) = SV.v (Value.int IntKind.i64 (0 : Int)) ∧ True) ∧ LI [(0 :
   Int), (0 : Int), (0 : Int), (0 : Int), (0 : Int), (0 : Int), (0 : Int), (0 : Int), (0 : Int), (0 : Int), (0 : Int), (0 : Int), (0 : Int), (0 : Int), (0 : Int), (0 : Int), (0 : Int), (0 : Int), (0 : Int), (0 : Int), (0 : Int), (0 : Int), (0 : Int), (0
   : Int), (0 : Int), (0 : Int), (0 : Int), (0 : Int), (0 : Int), (0 : Int), (0 : Int), (0 : Int), (0 : Int), (0 : Int), (0 : Int), (0 : Int), (0 : Int), (0 : Int), (0 : Int), (0 : Int), (0 : Int), (0 : Int), (0 : Int), (0 : Int), (0 : Int), (0 : Int),
   (0 : Int), (0 : Int), (0 : Int), (0 : Int), (0 : Int), (0 : Int), (0 : Int), (0 : Int), (0 : Int), (0 : Int), (0 : Int), (0 : Int), (0 : Int), (0 : Int), (0 : Int), (0 : Int), (0 : Int), (0 : Int), (0 : Int), (0 : Int), (0 : Int), (0 : Int), (0 :
   Int), (0 : Int), (0 : Int), (0 : Int), (0 : Int), (0 : Int), (0 : Int), (0 : Int), (0 : Int), (0 : Int), (0 : Int), (0 : Int), (0 : Int), (0 : Int), (0 : Int), (0 : Int), (0 : Int), (0 : Int), (0 : Int), (0 : Int), (0 : Int), (0 : Int), (0 : Int), (0
   : Int), (0 : Int), (0 : Int), (0 : Int), (0 : Int), (0 : Int), (0 : Int), (0 : Int), (0 : Int), (0 : Int), (0 : Int), (0 : Int), (0 : Int), (0 : Int), (0 : Int), (0 : Int), (0 : Int), (0 : Int), (0 : Int), (0 : Int), (0 : Int), (0 : Int), (0 : Int),
   (0 : Int), (0 : Int), (0 : Int), (0 : Int), (0 : Int), (0 : Int), (0 : Int), (0 : Int), (0 : Int), (0 : Int), (0 : Int), (0 : Int), (0 : Int), (0 : Int), (0 : Int), (0 : Int), (0 : Int), (0 : Int), (0 : Int), (0 : Int), (0 : Int), (0 : Int), (0 :
   Int), (0 : Int), (0 : Int), (0 : Int), (0 : Int), (0 : Int), (0 : Int), (0 : Int), (0 : Int), (0 : Int), (0 : Int), (0 : Int), (0 : Int), (0 : Int), (0 : Int), (0 : Int), (0 : Int), (0 : Int), (0 : Int), (0 : Int), (0 : Int), (0 : Int), (0 : Int), (0
   : Int), (0 : Int), (0 : Int), (0 : Int), (0 : Int), (0 : Int), (0 : Int), (0 : Int), (0 : Int), (0 : Int), (0 : Int), (0 : Int), (0 : Int), (0 : Int), (0 : Int), (0 : Int), (0 : Int), (0 : Int), (0 : Int), (0 : Int), (0 : Int), (0 : Int), (0 : Int),
   (0 : Int), (0 : Int), (0 : Int), (0 : Int), (0 : Int), (0 : Int), (0 : Int), (0 : Int), (0 : Int), (0 : Int), (0 : Int), (0 : Int), (0 : Int), (0 : Int), (0 : Int), (0 : Int), (0 : Int), (0 : Int), (0 : Int), (0 : Int), (0 : Int), (0 : Int), (0 :
   Int), (0 : Int), (0 : Int), (0 : Int), (0 : Int), (0 : Int), (0 : Int), (0 : Int), (0 : Int), (0 : Int), (0 : Int), (0 : Int), (0 : Int), (0 : Int), (0 : Int), (0 : Int), (0 : Int), (0 : Int), (0 : Int), (0 : Int), (0 : Int), (0 : Int), (0 : Int), (0
   : Int), (0 : Int), (0 : Int), (0 : Int), (0 : Int), (0 : Int), (0 : Int), (0 : Int), (0 : Int), (0 : Int), (0 : Int), (0 : Int), (0 : Int), (0 : Int), (0 : Int), (0 : Int), (0 : Int), (0 : Int), (0 : Int), (0 : Int), (0 : Int), (0 : Int), (0 : Int),
   (0 : Int), (0 : Int), (0 : Int), (0 : Int), (0 : Int), (0 : Int)] = LI [(0 : Int), (0 : Int), (0 : Int), (0 : Int), (0 : Int), (0 : Int), (0 : Int), (0 : Int), (0 : Int), (0 : Int), (0 : Int), (0 : Int), (0 : Int), (0 : Int), (0 : Int), (0 : Int), (0
   : Int), (0 : Int), (0 : Int), (0 : Int), (0 : Int), (0 : Int), (0 : Int), (0 : Int), (0 : Int), (0 : Int), (0 : Int), (0 : Int), (0 : Int), (0 : Int), (0 : Int), (0 : Int), (0 : Int), (0 : Int), (0 : Int), (0 : Int), (0 : Int), (0 : Int), (0 : Int),
   (0 : Int), (0 : Int), (0 : Int), (0 : Int), (0 : Int), (0 : Int), (0 : Int), (0 : Int), (0 : Int), (0 : Int), (0 : Int), (0 : Int), (0 : Int), (0 : Int), (0 : Int), (0 : Int), (0 : Int), (0 : Int), (0 : Int), (0 : Int), (0 : Int), (0 : Int), (0 :
   Int), (0 : Int), (0 : Int), (0 : Int), (0 : Int), (0 : Int), (0 : Int), (0 : Int), (0 : Int), (0 : Int), (0 : Int), (0 : Int), (0 : Int), (0 : Int), (0 : Int), (0 : Int), (0 : Int), (0 : Int), (0 : Int), (0 : Int), (0 : Int), (0 : Int), (0 : Int), (0
   : Int), (0 : Int), (0 : Int), (0 : Int), (0 : Int), (0 : Int), (0 : Int), (0 : Int), (0 : Int), (0 : Int), (0 : Int), (0 : Int), (0 : Int), (0 : Int), (0 : Int), (0 : Int), (0 : Int), (0 : Int), (0 : Int), (0 : Int), (0 : Int), (0 : Int), (0 : Int),
   (0 : Int), (0 : Int), (0 : Int), (0 : Int), (0 : Int), (0 : Int), (0 : Int), (0 : Int), (0 : Int), (0 : Int), (0 : Int), (0 : Int), (0 : Int), (0 : Int), (0 : Int), (0 : Int), (0 : Int), (0 : Int), (0 : Int), (0 : Int), (0 : Int), (0 : Int), (0 :
   Int), (0 : Int), (0 : Int), (0 : Int), (0 : Int), (0 : Int), (0 : Int), (0 : Int), (0 : Int), (0 : Int), (0 : Int), (0 : Int), (0 : Int), (0 : Int), (0 : Int), (0 : Int), (0 : Int), (0 : Int), (0 : Int), (0 : Int), (0 : Int), (0 : Int), (0 : Int), (0
   : Int), (0 : Int), (0 : Int), (0 : Int), (0 : Int), (0 : Int), (0 : Int), (0 : Int), (0 : Int), (0 : Int), (0 : Int), (0 : Int), (0 : Int), (0 : Int), (0 : Int), (0 : Int), (0 : Int), (0 : Int), (0 : Int), (0 : Int), (0 : Int), (0 : Int), (0 : Int),
   (0 : Int), (0 : Int), (0 : Int), (0 : Int), (0 : Int), (0 : Int), (0 : Int), (0 : Int), (0 : Int), (0 : Int), (0 : Int), (0 : Int), (0 : Int), (0 : Int), (0 : Int), (0 : Int), (0 : Int), (0 : Int), (0 : Int), (0 : Int), (0 : Int), (0 : Int), (0 :
   Int), (0 : Int), (0 : Int), (0 : Int), (0 : Int), (0 : Int), (0 : Int), (0 : Int), (0 : Int), (0 : Int), (0 : Int), (0 : Int), (0 : Int), (0 : Int), (0 : Int), (0 : Int), (0 : Int), (0 : Int), (0 : Int), (0 : Int), (0 : Int), (0 : Int), (0 : Int), (0
   : Int), (0 : Int), (0 : Int), (0 : Int), (0 : Int), (0 : Int), (0 : Int), (0 : Int), (0 : Int), (0 : Int), (0 : Int), (0 : Int), (0 : Int), (0 : Int), (0 : Int), (0 : Int), (0 : Int), (0 : Int), (0 : Int), (0 : Int), (0 : Int), (0 : Int), (0 : Int),
   (0 : Int), (0 : Int), (0 : Int), (0 : Int), (0 : Int), (0 : Int), (0 : Int), (0 : Int), (0 : Int), (0 : Int), (0 : Int), (0 : Int), (0 : Int)] ∧ True) ∧ ∀ (x : Int), Upto x → br (decide (x < (256 : Int))) (rq (decide ((0 : Int) ≤ x ∧ x < (256 :
   Int))) (rq (((0 : Nat) + x.toNat * (1 : Nat)).blt (256 : Nat)) (br (decide (x ≥ (32 : Int))) (br (decide (x ≤ (126 : Int))) (rq (decide ((0 : Int) ≤ x ∧ x < (256 : Int))) (rq (((0 : Nat) + x.toNat * (1 : Nat)).blt (256 : Nat)) (Upto (IntKind.i64.wrap
   (x + (1 : Int))) ∧ ((SV.v (Value.pointer none) = SV.v (Value.pointer none) ∧ SV.p (0 : Nat) (0 : Nat) = SV.p (0 : Nat) (0 : Nat) ∧ SV.v (Value.int IntKind.i64 (IntKind.i64.wrap (x + (1 : Int)))) = SV.v (Value.int IntKind.i64 (IntKind.i64.wrap (x + (1
   : Int)))) ∧ True) ∧ ((ascL x.toNat).set ((0 : Nat) + x.toNat * (1 : Nat)) (65533 : Int)).set ((0 : Nat) + x.toNat * (1 : Nat)) (IntKind.i32.wrap x) = ascL (IntKind.i64.wrap (x + (1 : Int))).toNat ∧ True) ∧ ((256 : Int) - IntKind.i64.wrap (x + (1 :
   Int))).toNat < ((256 : Int) - x).toNat))) (Upto (IntKind.i64.wrap (x + (1 : Int))) ∧ ((SV.v (Value.pointer none) = SV.v (Value.pointer none) ∧ SV.p (0 : Nat) (0 : Nat) = SV.p (0 : Nat) (0 : Nat) ∧ SV.v (Value.int IntKind.i64 (IntKind.i64.wrap (x + (1
   : Int)))) = SV.v (Value.int IntKind.i64 (IntKind.i64.wrap (x + (1 : Int)))) ∧ True) ∧ (ascL x.toNat).set ((0 : Nat) + x.toNat * (1 : Nat)) (65533 : Int) = ascL (IntKind.i64.wrap (x + (1 : Int))).toNat ∧ True) ∧ ((256 : Int) - IntKind.i64.wrap (x + (1
   : Int))).toNat < ((256 : Int) - x).toNat)) (Upto (IntKind.i64.wrap (x + (1 : Int))) ∧ ((SV.v (Value.pointer none) = SV.v (Value.pointer none) ∧ SV.p (0 : Nat) (0 : Nat) = SV.p (0 : Nat) (0 : Nat) ∧ SV.v (Value.int IntKind.i64 (IntKind.i64.wrap (x +
   (1 : Int)))) = SV.v (Value.int IntKind.i64 (IntKind.i64.wrap (x + (1 : Int)))) ∧ True) ∧ (ascL x.toNat).set ((0 : Nat) + x.toNat * (1 : Nat)) (65533 : Int) = ascL (IntKind.i64.wrap (x + (1 : Int))).toNat ∧ True) ∧ ((256 : Int) - IntKind.i64.wrap (x +
   (1 : Int))).toNat < ((256 : Int) - x).toNat)))) ((SV.p (0 : Nat) (0 : Nat) = SV.p (0 : Nat) (0 : Nat) ∧ True) ∧ ascL x.toNat = LI [(65533 : Int), (65533 : Int), (65533 : Int), (65533 : Int), (65533 : Int), (65533 : Int), (65533 : Int), (65533 : Int),
   (65533 : Int), (65533 : Int), (65533 : Int), (65533 : Int), (65533 : Int), (65533 : Int), (65533 : Int), (65533 : Int), (65533 : Int), (65533 : Int), (65533 : Int), (65533 : Int), (65533 : Int), (65533 : Int), (65533 : Int), (65533 : Int), (65533 :
   Int), (65533 : Int), (65533 : Int), (65533 : Int), (65533 : Int), (65533 : Int), (65533 : Int), (65533 : Int), (32 : Int), (33 : Int), (34 : Int), (35 : Int), (36 : Int), (37 : Int), (38 : Int), (39 : Int), (40 : Int), (41 : Int), (42 : Int), (43 :
   Int), (44 : Int), (45 : Int), (46 : Int), (47 : Int), (48 : Int), (49 : Int), (50 : Int), (51 : Int), (52 : Int), (53 : Int), (54 : Int), (55 : Int), (56 : Int), (57 : Int), (58 : Int), (59 : Int), (60 : Int), (61 : Int), (62 : Int), (63 : Int), (64
   : Int), (65 : Int), (66 : Int), (67 : Int), (68 : Int), (69 : Int), (70 : Int), (71 : Int), (72 : Int), (73 : Int), (74 : Int), (75 : Int), (76 : Int), (77 : Int), (78 : Int), (79 : Int), (80 : Int), (81 : Int), (82 : Int), (83 : Int), (84 : Int),
   (85 : Int), (86 : Int), (87 : Int), (88 : Int), (89 : Int), (90 : Int), (91 : Int), (92 : Int), (93 : Int), (94 : Int), (95 : Int), (96 : Int), (97 : Int), (98 : Int), (99 : Int), (100 : Int), (101 : Int), (102 : Int), (103 : Int), (104 : Int), (105
   : Int), (106 : Int), (107 : Int), (108 : Int), (109 : Int), (110 : Int), (111 : Int), (112 : Int), (113 : Int), (114 : Int), (115 : Int), (116 : Int), (117 : Int), (118 : Int), (119 : Int), (120 : Int), (121 : Int), (122 : Int), (123 : Int), (124 :
   Int), (125 : Int), (126 : Int), (65533 : Int), (65533 : Int), (65533 : Int), (65533 : Int), (65533 : Int), (65533 : Int), (65533 : Int), (65533 : Int), (65533 : Int), (65533 : Int), (65533 : Int), (65533 : Int), (65533 : Int), (65533 : Int), (65533 :
   Int), (65533 : Int), (65533 : Int), (65533 : Int), (65533 : Int), (65533 : Int), (65533 : Int), (65533 : Int), (65533 : Int), (65533 : Int), (65533 : Int), (65533 : Int), (65533 : Int), (65533 : Int), (65533 : Int), (65533 : Int), (65533 : Int),
   (65533 : Int), (65533 : Int), (65533 : Int), (65533 : Int), (65533 : Int), (65533 : Int), (65533 : Int), (65533 : Int), (65533 : Int), (65533 : Int), (65533 : Int), (65533 : Int), (65533 : Int), (65533 : Int), (65533 : Int), (65533 : Int), (65533 :
   Int), (65533 : Int), (65533 : Int), (65533 : Int), (65533 : Int), (65533 : Int), (65533 : Int), (65533 : Int), (65533 : Int), (65533 : Int), (65533 : Int), (65533 : Int), (65533 : Int), (65533 : Int), (65533 : Int), (65533 : Int), (65533 : Int),
   (65533 : Int), (65533 : Int), (65533 : Int), (65533 : Int), (65533 : Int), (65533 : Int), (65533 : Int), (65533 : Int), (65533 : Int), (65533 : Int), (65533 : Int), (65533 : Int), (65533 : Int), (65533 : Int), (65533 : Int), (65533 : Int), (65533 :
   Int), (65533 : Int), (65533 : Int), (65533 : Int), (65533 : Int), (65533 : Int), (65533 : Int), (65533 : Int), (65533 : Int), (65533 : Int), (65533 : Int), (65533 : Int), (65533 : Int), (65533 : Int), (65533 : Int), (65533 : Int), (65533 : Int),
   (65533 : Int), (65533 : Int), (65533 : Int), (65533 : Int), (65533 : Int), (65533 : Int), (65533 : Int), (65533 : Int), (65533 : Int), (65533 : Int), (65533 : Int), (65533 : Int), (65533 : Int), (65533 : Int), (65533 : Int), (65533 : Int), (65533 :
   Int), (65533 : Int), (65533 : Int), (65533 : Int), (65533 : Int), (65533 : Int), (65533 : Int), (65533 : Int), (65533 : Int), (65533 : Int), (65533 : Int), (65533 : Int), (65533 : Int), (65533 : Int), (65533 : Int), (65533 : Int)] ∧ True))) (by
   kernel_rfl) ?_
  refine ⟨⟨by omega, by omega⟩, ?_, ?_⟩
  · repeat' (first | exact trivial | refine And.intro ?_ ?_ | kernel_rfl)
  refine fun (x : Int) hx => ?_
  obtain ⟨hx0, hx1⟩ := hx
  refine br_intro (fun hlt => ?_) (fun hge => ?_)
  · have hlt : x < 256 := of_decide_eq_true hlt
    refine rq_t (in_range hx0 hlt) (rq_t (in_blt hx0 hlt) ?_)
    refine br_intro (fun h32 => ?_) (fun h32 => ?_)
    · have h32 : 32 ≤ x := of_decide_eq_true h32
      refine br_intro (fun h126 => ?_) (fun h126 => ?_)
      · have h126 : x ≤ 126 := of_decide_eq_true h126
        refine rq_t (in_range hx0 hlt) (rq_t (in_blt hx0 hlt) ⟨upto_next hx0 hlt, ?_, mu_next hx0 hlt⟩)
        rw [asc1 hx0 h32 h126]
        repeat' (first | exact trivial | refine And.intro ?_ ?_ | kernel_rfl)
      · have h126 : ¬ x ≤ 126 := of_decide_eq_false h126
        refine ⟨upto_next hx0 hlt, ?_, mu_next hx0 hlt⟩
        rw [asc2 hx0 hlt (fun h => h126 h.2)]
        repeat' (first | exact trivial | refine And.intro ?_ ?_ | kernel_rfl)
    · have h32 : ¬ 32 ≤ x := of_decide_eq_false h32
      refine ⟨upto_next hx0 hlt, ?_, mu_next hx0 hlt⟩
      rw [asc2 hx0 hlt (fun h => h32 h.1)]
      repeat' (first | exact trivial | refine And.intro ?_ ?_ | kernel_rfl)
  have hge : ¬ x < 256 := of_decide_eq_false hge
  obtain rfl : x = 256 := by omega
  repeat' (first | exact trivial | refine And.intro ?_ ?_ | kernel_rfl)
set_option maxHeartbeats 4000000 in
theorem of_2 : OfAsk 2 := by
  unfold OfAsk
  refine kcast (B := (Upto (0 : Int) ∧ ((SV.v (Value.pointer none) = SV.v (Value.pointer none) ∧ SV.p (0 : Nat) (0 : Nat) = SV.p (0 : Nat) (0 : Nat) ∧ SV.v (Value.int IntKind.i64 (0 : Int)) = SV.v (Value.int IntKind.i64 (0 : Int)) ∧ True) ∧ LI [(0 :
   Int), (0 : Int), (0 : Int), (0 : Int), (0 : Int), (0 : Int), (0 : Int), (0 : Int), (0 : Int), (0 : Int), (0 : Int), (0 : Int), (0 : Int), (0 : Int), (0 : Int), (0 : Int), (0 : Int), (0 : Int), (0 : Int), (0 : Int), (0 : Int), (0 : Int), (0 : Int), (0
   : Int), (0 : Int), (0 : Int), (0 : Int), (0 : Int), (0 : Int), (0 : Int), (0 : Int), (0 : Int), (0 : Int), (0 : Int), (0 : Int), (0 : Int), (0 : Int), (0 : Int), (0 : Int), (0 : Int), (0 : Int), (0 : Int), (0 : Int), (0 : Int), (0 : Int), (0 : Int),
   (0 : Int), (0 : Int), (0 : Int), (0 : Int), (0 : Int), (0 : Int), (0 : Int), (0 : Int), (0 : Int), (0 : Int), (0 : Int), (0 : Int), (0 : Int), (0 : Int), (0 : Int), (0 : Int), (0 : Int), (0 : Int), (0 : Int), (0 : Int), (0 : Int), (0 : Int), (0 :
   Int), (0 : Int), (0 : Int), (0 : Int), (0 : Int), (0 : Int), (0 : Int), (0 : Int), (0 : Int), (0 : Int), (0 : Int), (0 : Int), (0 : Int), (0 : Int), (0 : Int), (0 : Int), (0 : Int), (0 : Int), (0 : Int), (0 : Int), (0 : Int), (0 : Int), (0 : Int), (0
   : Int), (0 : Int), (0 : Int), (0 : Int), (0 : Int), (0 : Int), (0 : Int), (0 : Int), (0 : Int), (0 : Int), (0 : Int), (0 : Int), (0 : Int), (0 : Int), (0 : Int), (0 : Int), (0 : Int), (0 : Int), (0 : Int), (0 : Int), (0 : Int), (0 : Int), (0 : Int),
   (0 : Int), (0 : Int), (0 : Int), (0 : Int), (0 : Int), (0 : Int), (0 : Int), (0 : Int), (0 : Int), (0 : Int), (0 : Int), (0 : Int), (0 : Int), (0 : Int), (0 : Int), (0 : Int), (0 : Int), (0 : Int), (0 : Int), (0 : Int), (0 : Int), (0 : Int), (0 :
   Int), (0 : Int), (0 : Int), (0 : Int), (0 : Int), (0 : Int), (0 : Int), (0 : Int), (0 : Int), (0 : Int), (0 : Int), (0 : Int), (0 : Int), (0 : Int), (0 : Int), (0 : Int), (0 : Int), (0 : Int), (0 : Int), (0 : Int), (0 : Int), (0 : Int), (0 : Int), (0
   : Int), (0 : Int), (0 : Int), (0 : Int), (0 : Int), (0 : Int), (0 : Int), (0 : Int), (0 : Int), (0 : Int), (0 : Int), (0 : Int), (0 : Int), (0 : Int), (0 : Int), (0 : Int), (0 : Int), (0 : Int), (0 : Int), (0 : Int), (0 : Int), (0 : Int), (0 : Int),
   (0 : Int), (0 : Int), (0 : Int), (0 : Int), (0 : Int), (0 : Int), (0 : Int), (0 : Int), (0 : Int), (0 : Int), (0 : Int), (0 : Int), (0 : Int), (0 : Int), (0 : Int), (0 : Int), (0 : Int), (0 : Int), (0 : Int), (0 : Int), (0 : Int), (0 : Int), (0 :
   Int), (0 : Int), (0 : Int), (0 : Int), (0 : Int), (0 : Int), (0 : Int), (0 : Int), (0 : Int), (0 : Int), (0 : Int), (0 : Int), (0 : Int), (0 : Int), (0 : Int), (0 : Int), (0 : Int), (0 : Int), (0 : Int), (0 : Int), (0 : Int), (0 : Int), (0 : Int), (0
   : Int), (0 : Int), (0 : Int), (0 : Int), (0 : Int), (0 : Int), (0 : Int), (0 : Int), (0 : Int), (0 : Int), (0 : Int), (0 : Int), (0 : Int), (0 : Int), (0 : Int), (0 : Int), (0 : Int), (0 : Int), (0 : Int), (0 : Int), (0 : Int), (0 : Int), (0 : Int),
   (0 : Int), (0 : Int), (0 : Int), (0 : Int), (0 : Int), (0 : Int)] = LI [(0 : Int), (0 : Int), (0 : Int), (0 : Int), (0 : Int), (0 : Int), (0 : Int), (0 : Int), (0 : Int), (0 : Int), (0 : Int), (0 : Int), (0 : Int), (0 : Int), (0 : Int), (0 : Int), (0
   : Int), (0 : Int), (0 : Int), (0 : Int), (0 : Int), (0 : Int), (0 : Int), (0 : Int), (0 : Int), (0 : Int), (0 : Int), (0 : Int), (0 : Int), (0 : Int), (0 : Int), (0 : Int), (0 : Int), (0 : Int), (0 : Int), (0 : Int), (0 : Int), (0 : Int), (0 : Int),
   (0 : Int), (0 : Int), (0 : Int), (0 : Int), (0 : Int), (0 : Int), (0 : Int), (0 : Int), (0 : Int), (0 : Int), (0 : Int), (0 : Int), (0 : Int), (0 : Int), (0 : Int), (0 : Int), (0 : Int), (0 : Int), (0 : Int), (0 : Int), (0 : Int), (0 : Int), (0 :
   Int), (0 : Int), (0 : Int), (0 : Int), (0 : Int), (0 : Int), (0 : Int), (0 : Int), (0 : Int), (0 : Int), (0 : Int), (0 : Int), (0 : Int), (0 : Int), (0 : Int), (0 : Int), (0 : Int), (0 : Int), (0 : Int), (0 : Int), (0 : Int), (0 : Int), (0 : Int), (0
   : Int), (0 : Int), (0 : Int), (0 : Int), (0 : Int), (0 : Int), (0 : Int), (0 : Int), (0 : Int), (0 : Int), (0 : Int), (0 : Int), (0 : Int), (0 : Int), (0 : Int), (0 : Int), (0 : Int), (0 : Int), (0 : Int), (0 : Int), (0 : Int), (0 : Int), (0 : Int),
   (0 : Int), (0 : Int), (0 : Int), (0 : Int), (0 : Int), (0 : Int), (0 : Int), (0 : Int), (0 : Int), (0 : Int), (0 : Int), (0 : Int), (0 : Int), (0 : Int), (0 : Int), (0 : Int), (0 : Int), (0 : Int), (0 : Int), (0 : Int), (0 : Int), (0 : Int), (0 :
   Int), (0 : Int), (0 : Int), (0 : Int), (0 : Int), (0 : Int), (0 : Int), (0 : Int), (0 : Int), (0 : Int), (0 : Int), (0 : Int), (0 : Int), (0 : Int), (0 : Int), (0 : Int), (0 : Int), (0 : Int), (0 : Int), (0 : Int), (0 : Int), (0 : Int), (0 : Int), (0
   : Int), (0 : Int), (0 : Int), (0 : Int), (0 : Int), (0 : Int), (0 : Int), (0 : Int), (0 : Int), (0 : Int), (0 : Int), (0 : Int), (0 : Int), (0 : Int), (0 : Int), (0 : Int), (0 : Int), (0 : Int), (0 : Int), (0 : Int), (0 : Int), (0 : Int), (0 : Int),
   (0 : Int), (0 : Int), (0 : Int), (0 : Int), (0 : Int), (0 : Int), (0 : Int), (0 : Int), (0 : Int), (0 : Int), (0 : Int), (0 : Int), (0 : Int), (0 : Int), (0 : Int), (0 : Int), (0 : Int), (0 : Int), (0 : Int), (0 : Int), (0 : Int), (0 : Int), (0 :
   Int), (0 : Int), (0 : Int), (0 : Int), (0 : Int), (0 : Int), (0 : Int), (0 : Int), (0 : Int), (0 : Int), (0 : Int), (0 : Int), (0 : Int), (0 : Int), (0 : Int), (0 : Int), (0 : Int), (0 : Int), (0 : Int), (0 : Int), (0 : Int), (0 : Int), (0 : Int), (0
   : Int), (0 : Int), (0 : Int), (0 : Int), (0 : Int), (0 : Int), (0 : Int), (0 : Int), (0 : Int), (0 : Int), (0 : Int), (0 : Int), (0 : Int), (0 : Int), (0 : Int), (0 : Int), (0 : Int), (0 : Int), (0 : Int), (0 : Int), (0 : Int), (0 : Int), (0 : Int),
   (0 : Int), (0 : Int), (0 : Int), (0 : Int), (0 : Int), (0 : Int), (0 : Int), (0 : Int), (0 : Int), (0 : Int), (0 : Int), (0 : Int), (0 : Int)] ∧ True) ∧ ∀ (x : Int), Upto x → br (decide (x < (256 : Int))) (rq (decide ((0 : Int) ≤ x ∧ x < (256 :
   Int))) (rq (((0 : Nat) + x.toNat * (1 : Nat)).blt (256 : Nat)) (br (decide (x ≥ (32 : Int))) (br (decide (x ≤ (126 : Int))) (rq (decide ((0 : Int) ≤ x ∧ x < (256 : Int))) (rq (((0 : Nat) + x.toNat * (1 : Nat)).blt (256 : Nat)) (Upto (IntKind.i64.wrap
   (x + (1 : Int))) ∧ ((SV.v (Value.pointer none) = SV.v (Value.pointer none) ∧ SV.p (0 : Nat) (0 : Nat) = SV.p (0 : Nat) (0 : Nat) ∧ SV.v (Value.int IntKind.i64 (IntKind.i64.wrap (x + (1 : Int)))) = SV.v (Value.int IntKind.i64 (IntKind.i64.wrap (x + (1
   : Int)))) ∧ True) ∧ ((ascL x.toNat).set ((0 : Nat) + x.toNat * (1 : Nat)) (65533 : Int)).set ((0 : Nat) + x.toNat * (1 : Nat)) (IntKind.i32.wrap x) = ascL (IntKind.i64.wrap (x + (1 : Int))).toNat ∧ True) ∧ ((256 : Int) - IntKind.i64.wrap (x + (1 :
   Int))).toNat < ((256 : Int) - x).toNat))) (Upto (IntKind.i64.wrap (x + (1 : Int))) ∧ ((SV.v (Value.pointer none) = SV.v (Value.pointer none) ∧ SV.p (0 : Nat) (0 : Nat) = SV.p (0 : Nat) (0 : Nat) ∧ SV.v (Value.int IntKind.i64 (IntKind.i64.wrap (x + (1
   : Int)))) = SV.v (Value.int IntKind.i64 (IntKind.i64.wrap (x + (1 : Int)))) ∧ True) ∧ (ascL x.toNat).set ((0 : Nat) + x.toNat * (1 : Nat)) (65533 : Int) = ascL (IntKind.i64.wrap (x + (1 : Int))).toNat ∧ True) ∧ ((256 : Int) - IntKind.i64.wrap (x + (1
   : Int))).toNat < ((256 : Int) - x).toNat)) (Upto (IntKind.i64.wrap (x + (1 : Int))) ∧ ((SV.v (Value.pointer none) = SV.v (Value.pointer none) ∧ SV.p (0 : Nat) (0 : Nat) = SV.p (0 : Nat) (0 : Nat) ∧ SV.v (Value.int IntKind.i64 (IntKind.i64.wrap (x +
   (1 : Int)))) = SV.v (Value.int IntKind.i64 (IntKind.i64.wrap (x + (1 : Int)))) ∧ True) ∧ (ascL x.toNat).set ((0 : Nat) + x.toNat * (1 : Nat)) (65533 : Int) = ascL (IntKind.i64.wrap (x + (1 : Int))).toNat ∧ True) ∧ ((256 : Int) - IntKind.i64.wrap (x +
   (1 : Int))).toNat < ((256 : Int) - x).toNat)))) ((SV.p (0 : Nat) (0 : Nat) = SV.p (0 : Nat) (0 : Nat) ∧ True) ∧
   (((((((((((((((((((((((((((((((((((((((((((((((((((((((((((((((((((((((((((((((((((((((((((((((((((((((((((((((((((((((((((((((((((((((((((((((((((((((((((((((((ascL x.toNat).set (0 : Nat) (32 : Int)).set (1 : Nat) (9786 : Int)).set (2 : Nat) (9787 :
   Int)).set (3 : Nat) (9829 : Int)).set (4 : Nat) (9830 : Int)).set (5 : Nat) (9827 : Int)).set (6 : Nat) (9824 : Int)).set (7 : Nat) (8226 : Int)).set (8 : Nat) (9688 : Int)).set (9 : Nat) (9675 : Int)).set (10 : Nat) (9689 : Int)).set (11 : Nat)
   (9794 : Int)).set (12 : Nat) (9792 : Int)).set (13 : Nat) (9834 : Int)).set (14 : Nat) (9835 : Int)).set (15 : Nat) (9788 : Int)).set (16 : Nat) (9658 : Int)).set (17 : Nat) (9668 : Int)).set (18 : Nat) (8597 : Int)).set (19 : Nat) (8252 : Int)).set
   (20 : Nat) (182 : Int)).set (21 : Nat) (167 : Int)).set (22 : Nat) (9644 : Int)).set (23 : Nat) (8616 : Int)).set (24 : Nat) (8593 : Int)).set (25 : Nat) (8595 : Int)).set (26 : Nat) (8594 : Int)).set (27 : Nat) (8592 : Int)).set (28 : Nat) (8735 :
   Int)).set (29 : Nat) (8596 : Int)).set (30 : Nat) (9650 : Int)).set (31 : Nat) (9660 : Int)).set (127 : Nat) (8962 : Int)).set (128 : Nat) (199 : Int)).set (129 : Nat) (252 : Int)).set (130 : Nat) (233 : Int)).set (131 : Nat) (226 : Int)).set (132 :
   Nat) (228 : Int)).set (133 : Nat) (224 : Int)).set (134 : Nat) (229 : Int)).set (135 : Nat) (231 : Int)).set (136 : Nat) (234 : Int)).set (137 : Nat) (235 : Int)).set (138 : Nat) (232 : Int)).set (139 : Nat) (239 : Int)).set (140 : Nat) (238 :
   Int)).set (141 : Nat) (236 : Int)).set (142 : Nat) (196 : Int)).set (143 : Nat) (197 : Int)).set (144 : Nat) (201 : Int)).set (145 : Nat) (230 : Int)).set (146 : Nat) (198 : Int)).set (147 : Nat) (244 : Int)).set (148 : Nat) (246 : Int)).set (149 :
   Nat) (242 : Int)).set (150 : Nat) (251 : Int)).set (151 : Nat) (249 : Int)).set (152 : Nat) (255 : Int)).set (153 : Nat) (214 : Int)).set (154 : Nat) (220 : Int)).set (155 : Nat) (162 : Int)).set (156 : Nat) (163 : Int)).set (157 : Nat) (165 :
   Int)).set (158 : Nat) (8359 : Int)).set (159 : Nat) (402 : Int)).set (160 : Nat) (225 : Int)).set (161 : Nat) (237 : Int)).set (162 : Nat) (243 : Int)).set (163 : Nat) (250 : Int)).set (164 : Nat) (241 : Int)).set (165 : Nat) (209 : Int)).set (166 :
   Nat) (170 : Int)).set (167 : Nat) (186 : Int)).set (168 : Nat) (191 : Int)).set (169 : Nat) (8976 : Int)).set (170 : Nat) (172 : Int)).set (171 : Nat) (189 : Int)).set (172 : Nat) (188 : Int)).set (173 : Nat) (161 : Int)).set (174 : Nat) (171 :
   Int)).set (175 : Nat) (187 : Int)).set (176 : Nat) (9617 : Int)).set (177 : Nat) (9618 : Int)).set (178 : Nat) (9619 : Int)).set (179 : Nat) (9474 : Int)).set (180 : Nat) (9508 : Int)).set (181 : Nat) (9569 : Int)).set (182 : Nat) (9570 : Int)).set
   (183 : Nat) (9558 : Int)).set (184 : Nat) (9557 : Int)).set (185 : Nat) (9571 : Int)).set (186 : Nat) (9553 : Int)).set (187 : Nat) (9559 : Int)).set (188 : Nat) (9565 : Int)).set (189 : Nat) (9564 : Int)).set (190 : Nat) (9563 : Int)).set (191 :
   Nat) (9488 : Int)).set (192 : Nat) (9492 : Int)).set (193 : Nat) (9524 : Int)).set (194 : Nat) (9516 : Int)).set (195 : Nat) (9500 : Int)).set (196 : Nat) (9472 : Int)).set (197 : Nat) (9532 : Int)).set (198 : Nat) (9566 : Int)).set (199 : Nat) (9567
   : Int)).set (200 : Nat) (9562 : Int)).set (201 : Nat) (9556 : Int)).set (202 : Nat) (9577 : Int)).set (203 : Nat) (9574 : Int)).set (204 : Nat) (9568 : Int)).set (205 : Nat) (9552 : Int)).set (206 : Nat) (9580 : Int)).set (207 : Nat) (9575 :
   Int)).set (208 : Nat) (9576 : Int)).set (209 : Nat) (9572 : Int)).set (210 : Nat) (9573 : Int)).set (211 : Nat) (9561 : Int)).set (212 : Nat) (9560 : Int)).set (213 : Nat) (9554 : Int)).set (214 : Nat) (9555 : Int)).set (215 : Nat) (9579 : Int)).set
   (216 : Nat) (9578 : Int)).set (217 : Nat) (9496 : Int)).set (218 : Nat) (9484 : Int)).set (219 : Nat) (9608 : Int)).set (220 : Nat) (9604 : Int)).set (221 : Nat) (9612 : Int)).set (222 : Nat) (9616 : Int)).set (223 : Nat) (9600 : Int)).set (224 :
   Nat) (945 : Int)).set (225 : Nat) (223 : Int)).set (226 : Nat) (915 : Int)).set (227 : Nat) (960 : Int)).set (228 : Nat) (931 : Int)).set (229 : Nat) (963 : Int)).set (230 : Nat) (181 : Int)).set (231 : Nat) (964 : Int)).set (232 : Nat) (934 :
   Int)).set (233 : Nat) (920 : Int)).set (234 : Nat) (937 : Int)).set (235 : Nat) (948 : Int)).set (236 : Nat) (8734 : Int)).set (237 : Nat) (966 : Int)).set (238 : Nat) (949 : Int)).set (239 : Nat) (8745 : Int)).set (240 : Nat) (8801 : Int)).set (241
   : Nat) (177 : Int)).set (242 : Nat) (8805 : Int)).set (243 : Nat) (8804 : Int)).set (244 : Nat) (8992 : Int)).set (245 : Nat) (8993 : Int)).set (246 : Nat) (247 : Int)).set (247 : Nat) (8776 : Int)).set (248 : Nat) (176 : Int)).set (249 : Nat) (8729
   : Int)).set (250 : Nat) (183 : Int)).set (251 : Nat) (8730 : Int)).set (252 : Nat) (8319 : Int)).set (253 : Nat) (178 : Int)).set (254 : Nat) (9632 : Int)).set (255 : Nat) (160 : Int) = LI [(32 : Int), (9786 : Int), (9787 : Int), (9829 : Int), (9830
   : Int), (9827 : Int), (9824 : Int), (8226 : Int), (9688 : Int), (9675 : Int), (9689 : Int), (9794 : Int), (9792 : Int), (9834 : Int), (9835 : Int), (9788 : Int), (9658 : Int), (9668 : Int), (8597 : Int), (8252 : Int), (182 : Int), (167 : Int), (9644
   : Int), (8616 : Int), (8593 : Int), (8595 : Int), (8594 : Int), (8592 : Int), (8735 : Int), (8596 : Int), (9650 : Int), (9660 : Int), (32 : Int), (33 : Int), (34 : Int), (35 : Int), (36 : Int), (37 : Int), (38 : Int), (39 : Int), (40 : Int), (41 :
   Int), (42 : Int), (43 : Int), (44 : Int), (45 : Int), (46 : Int), (47 : Int), (48 : Int), (49 : Int), (50 : Int), (51 : Int), (52 : Int), (53 : Int), (54 : Int), (55 : Int), (56 : Int), (57 : Int), (58 : Int), (59 : Int), (60 : Int), (61 : Int), (62
   : Int), (63 : Int), (64 : Int), (65 : Int), (66 : Int), (67 : Int), (68 : Int), (69 : Int), (70 : Int), (71 : Int), (72 : Int), (73 : Int), (74 : Int), (75 : Int), (76 : Int), (77 : Int), (78 : Int), (79 : Int), (80 : Int), (81 : Int), (82 : Int),
   (83 : Int), (84 : Int), (85 : Int), (86 : Int), (87 : Int), (88 : Int), (89 : Int), (90 : Int), (91 : Int), (92 : Int), (93 : Int), (94 : Int), (95 : Int), (96 : Int), (97 : Int), (98 : Int), (99 : Int), (100 : Int), (101 : Int), (102 : Int), (103 :
   Int), (104 : Int), (105 : Int), (106 : Int), (107 : Int), (108 : Int), (109 : Int), (110 : Int), (111 : Int), (112 : Int), (113 : Int), (114 : Int), (115 : Int), (116 : Int), (117 : Int), (118 : Int), (119 : Int), (120 : Int), (121 : Int), (122 :
   Int), (123 : Int), (124 : Int), (125 : Int), (126 : Int), (8962 : Int), (199 : Int), (252 : Int), (233 : Int), (226 : Int), (228 : Int), (224 : Int), (229 : Int), (231 : Int), (234 : Int), (235 : Int), (232 : Int), (239 : Int), (238 : Int), (236 :
   Int), (196 : Int), (197 : Int), (201 : Int), (230 : Int), (198 : Int), (244 : Int), (246 : Int), (242 : Int), (251 : Int), (249 : Int), (255 : Int), (214 : Int), (220 : Int), (162 : Int), (163 : Int), (165 : Int), (8359 : Int), (402 : Int), (225 :
   Int), (237 : Int), (243 : Int), (250 : Int), (241 : Int), (209 : Int), (170 : Int), (186 : Int), (191 : Int), (8976 : Int), (172 : Int), (189 : Int), (188 : Int), (161 : Int), (171 : Int), (187 : Int), (9617 : Int), (9618 : Int), (9619 : Int), (9474
   : Int), (9508 : Int), (9569 : Int), (9570 : Int), (9558 : Int), (9557 : Int), (9571 : Int), (9553 : Int), (9559 : Int), (9565 : Int), (9564 : Int), (9563 : Int), (9488 : Int), (9492 : Int), (9524 : Int), (9516 : Int), (9500 : Int), (9472 : Int),
   (9532 : Int), (9566 : Int), (9567 : Int), (9562 : Int), (9556 : Int), (9577 : Int), (9574 : Int), (9568 : Int), (9552 : Int), (9580 : Int), (9575 : Int), (9576 : Int), (9572 : Int), (9573 : Int), (9561 : Int), (9560 : Int), (9554 : Int), (9555 :
   Int), (9579 : Int), (9578 : Int), (9496 : Int), (9484 : Int), (9608 : Int), (9604 : Int), (9612 : Int), (9616 : Int), (9600 : Int), (945 : Int), (223 : Int), (915 : Int), (960 : Int), (931 : Int), (963 : Int), (181 : Int), (964 : Int), (934 : Int),
   (920 : Int), (937 : Int), (948 : Int), (8734 : Int), (966 : Int), (949 : Int), (8745 : Int), (8801 : Int), (177 : Int), (8805 : Int), (8804 : Int), (8992 : Int), (8993 : Int), (247 : Int), (8776 : Int), (176 : Int), (8729 : Int), (183 : Int), (8730 :
   Int), (8319 : Int), (178 : Int), (9632 : Int), (160 : Int)] ∧ True))) (by kernel_rfl) ?_
  refine ⟨⟨by omega, by omega⟩, ?_, ?_⟩
  · repeat' (first | exact trivial | refine And.intro ?_ ?_ | kernel_rfl)
  refine fun (x : Int) hx => ?_
  obtain ⟨hx0, hx1⟩ := hx
  refine br_intro (fun hlt => ?_) (fun hge => ?_)
  · have hlt : x < 256 := of_decide_eq_true hlt
    refine rq_t (in_range hx0 hlt) (rq_t (in_blt hx0 hlt) ?_)
    refine br_intro (fun h32 => ?_) (fun h32 => ?_)
    · have h32 : 32 ≤ x := of_decide_eq_true h32
      refine br_intro (fun h126 => ?_) (fun h126 => ?_)
      · have h126 : x ≤ 126 := of_decide_eq_true h126
        refine rq_t (in_range hx0 hlt) (rq_t (in_blt hx0 hlt) ⟨upto_next hx0 hlt, ?_, mu_next hx0 hlt⟩)
        rw [asc1 hx0 h32 h126]
        repeat' (first | exact trivial | refine And.intro ?_ ?_ | kernel_rfl)
      · have h126 : ¬ x ≤ 126 := of_decide_eq_false h126
        refine ⟨upto_next hx0 hlt, ?_, mu_next hx0 hlt⟩
        rw [asc2 hx0 hlt (fun h => h126 h.2)]
        repeat' (first | exact trivial | refine And.intro ?_ ?_ | kernel_rfl)
    · have h32 : ¬ 32 ≤ x := of_decide_eq_false h32
      refine ⟨upto_next hx0 hlt, ?_, mu_next hx0 hlt⟩
      rw [asc2 hx0 hlt (fun h => h32 h.1)]
      repeat' (first | exact trivial | refine And.intro ?_ ?_ | kernel_rfl)
  have hge : ¬ x < 256 := of_decide_eq_false hge
  obtain rfl : x = 256 := by omega
  repeat' (first | exact trivial | refine And.intro ?_ ?_ | kernel_rfl)
set_option maxHeartbeats 4000000 in
theorem of_3 : OfAsk 3 := by
  unfold OfAsk
  refine kcast (B := (Upto (0 : Int) ∧ ((SV.v (Value.pointer none) = SV.v (Value.pointer none) ∧ SV.p (0 : Nat) (0 : Nat) = SV.p (0 : Nat) (0 : Nat) ∧ SV.v (Value.int IntKind.i64 (0 : Int)) = SV.v (Value.int IntKind.i64 (0 : Int)) ∧ True) ∧ LI [(0 :
   Int), (0 : Int), (0 : Int), (0 : Int), (0 : Int), (0 : Int), (0 : Int), (0 : Int), (0 : Int), (0 : Int), (0 : Int), (0 : Int), (0 : Int), (0 : Int), (0 : Int), (0 : Int), (0 : Int), (0 : Int), (0 : Int), (0 : Int), (0 : Int), (0 : Int), (0 : Int), (0
   : Int), (0 : Int), (0 : Int), (0 : Int), (0 : Int), (0 : Int), (0 : Int), (0 : Int), (0 : Int), (0 : Int), (0 : Int), (0 : Int), (0 : Int), (0 : Int), (0 : Int), (0 : Int), (0 : Int), (0 : Int), (0 : Int), (0 : Int), (0 : Int), (0 : Int), (0 : Int),
   (0 : Int), (0 : Int), (0 : Int), (0 : Int), (0 : Int), (0 : Int), (0 : Int), (0 : Int), (0 : Int), (0 : Int), (0 : Int), (0 : Int), (0 : Int), (0 : Int), (0 : Int), (0 : Int), (0 : Int), (0 : Int), (0 : Int), (0 : Int), (0 : Int), (0 : Int), (0 :
   Int), (0 : Int), (0 : Int), (0 : Int), (0 : Int), (0 : Int), (0 : Int), (0 : Int), (0 : Int), (0 : Int), (0 : Int), (0 : Int), (0 : Int), (0 : Int), (0 : Int), (0 : Int), (0 : Int), (0 : Int), (0 : Int), (0 : Int), (0 : Int), (0 : Int), (0 : Int), (0
   : Int), (0 : Int), (0 : Int), (0 : Int), (0 : Int), (0 : Int), (0 : Int), (0 : Int), (0 : Int), (0 : Int), (0 : Int), (0 : Int), (0 : Int), (0 : Int), (0 : Int), (0 : Int), (0 : Int), (0 : Int), (0 : Int), (0 : Int), (0 : Int), (0 : Int), (0 : Int),
   (0 : Int), (0 : Int), (0 : Int), (0 : Int), (0 : Int), (0 : Int), (0 : Int), (0 : Int), (0 : Int), (0 : Int), (0 : Int), (0 : Int), (0 : Int), (0 : Int), (0 : Int), (0 : Int), (0 : Int), (0 : Int), (0 : Int), (0 : Int), (0 : Int), (0 : Int), (0 :
   Int), (0 : Int), (0 : Int), (0 : Int), (0 : Int), (0 : Int), (0 : Int), (0 : Int), (0 : Int), (0 : Int), (0 : Int), (0 : Int), (0 : Int), (0 : Int), (0 : Int), (0 : Int), (0 : Int), (0 : Int), (0 : Int), (0 : Int), (0 : Int), (0 : Int), (0 : Int), (0
   : Int), (0 : Int), (0 : Int), (0 : Int), (0 : Int), (0 : Int), (0 : Int), (0 : Int), (0 : Int), (0 : Int), (0 : Int), (0 : Int), (0 : Int), (0 : Int), (0 : Int), (0 : Int), (0 : Int), (0 : Int), (0 : Int), (0 : Int), (0 : Int), (0 : Int), (0 : Int),
   (0 : Int), (0 : Int), (0 : Int), (0 : Int), (0 : Int), (0 : Int), (0 : Int), (0 : Int), (0 : Int), (0 : Int), (0 : Int), (0 : Int), (0 : Int), (0 : Int), (0 : Int), (0 : Int), (0 : Int), (0 : Int), (0 : Int), (0 : Int), (0 : Int), (0 : Int), (0 :
   Int), (0 : Int), (0 : Int), (0 : Int), (0 : Int), (0 : Int), (0 : Int), (0 : Int), (0 : Int), (0 : Int), (0 : Int), (0 : Int), (0 : Int), (0 : Int), (0 : Int), (0 : Int), (0 : Int), (0 : Int), (0 : Int), (0 : Int), (0 : Int), (0 : Int), (0 : Int), (0
   : Int), (0 : Int), (0 : Int), (0 : Int), (0 : Int), (0 : Int), (0 : Int), (0 : Int), (0 : Int), (0 : Int), (0 : Int), (0 : Int), (0 : Int), (0 : Int), (0 : Int), (0 : Int), (0 : Int), (0 : Int), (0 : Int), (0 : Int), (0 : Int), (0 : Int), (0 : Int),
   (0 : Int), (0 : Int), (0 : Int), (0 : Int), (0 : Int), (0 : Int)] = LI [(0 : Int), (0 : Int), (0 : Int), (0 : Int), (0 : Int), (0 : Int), (0 : Int), (0 : Int), (0 : Int), (0 : Int), (0 : Int), (0 : Int), (0 : Int), (0 : Int), (0 : Int), (0 : Int), (0
   : Int), (0 : Int), (0 : Int), (0 : Int), (0 : Int), (0 : Int), (0 : Int), (0 : Int), (0 : Int), (0 : Int), (0 : Int), (0 : Int), (0 : Int), (0 : Int), (0 : Int), (0 : Int), (0 : Int), (0 : Int), (0 : Int), (0 : Int), (0 : Int), (0 : Int), (0 : Int),
   (0 : Int), (0 : Int), (0 : Int), (0 : Int), (0 : Int), (0 : Int), (0 : Int), (0 : Int), (0 : Int), (0 : Int), (0 : Int), (0 : Int), (0 : Int), (0 : Int), (0 : Int), (0 : Int), (0 : Int), (0 : Int), (0 : Int), (0 : Int), (0 : Int), (0 : Int), (0 :
   Int), (0 : Int), (0 : Int), (0 : Int), (0 : Int), (0 : Int), (0 : Int), (0 : Int), (0 : Int), (0 : Int), (0 : Int), (0 : Int), (0 : Int), (0 : Int), (0 : Int), (0 : Int), (0 : Int), (0 : Int), (0 : Int), (0 : Int), (0 : Int), (0 : Int), (0 : Int), (0
   : Int), (0 : Int), (0 : Int), (0 : Int), (0 : Int), (0 : Int), (0 : Int), (0 : Int), (0 : Int), (0 : Int), (0 : Int), (0 : Int), (0 : Int), (0 : Int), (0 : Int), (0 : Int), (0 : Int), (0 : Int), (0 : Int), (0 : Int), (0 : Int), (0 : Int), (0 : Int),
   (0 : Int), (0 : Int), (0 : Int), (0 : Int), (0 : Int), (0 : Int), (0 : Int), (0 : Int), (0 : Int), (0 : Int), (0 : Int), (0 : Int), (0 : Int), (0 : Int), (0 : Int), (0 : Int), (0 : Int), (0 : Int), (0 : Int), (0 : Int), (0 : Int), (0 : Int), (0 :
   Int), (0 : Int), (0 : Int), (0 : Int), (0 : Int), (0 : Int), (0 : Int), (0 : Int), (0 : Int), (0 : Int), (0 : Int), (0 : Int), (0 : Int), (0 : Int), (0 : Int), (0 : Int), (0 : Int), (0 : Int), (0 : Int), (0 : Int), (0 : Int), (0 : Int), (0 : Int), (0
   : Int), (0 : Int), (0 : Int), (0 : Int), (0 : Int), (0 : Int), (0 : Int), (0 : Int), (0 : Int), (0 : Int), (0 : Int), (0 : Int), (0 : Int), (0 : Int), (0 : Int), (0 : Int), (0 : Int), (0 : Int), (0 : Int), (0 : Int), (0 : Int), (0 : Int), (0 : Int),
   (0 : Int), (0 : Int), (0 : Int), (0 : Int), (0 : Int), (0 : Int), (0 : Int), (0 : Int), (0 : Int), (0 : Int), (0 : Int), (0 : Int), (0 : Int), (0 : Int), (0 : Int), (0 : Int), (0 : Int), (0 : Int), (0 : Int), (0 : Int), (0 : Int), (0 : Int), (0 :
   Int), (0 : Int), (0 : Int), (0 : Int), (0 : Int), (0 : Int), (0 : Int), (0 : Int), (0 : Int), (0 : Int), (0 : Int), (0 : Int), (0 : Int), (0 : Int), (0 : Int), (0 : Int), (0 : Int), (0 : Int), (0 : Int), (0 : Int), (0 : Int), (0 : Int), (0 : Int), (0
   : Int), (0 : Int), (0 : Int), (0 : Int), (0 : Int), (0 : Int), (0 : Int), (0 : Int), (0 : Int), (0 : Int), (0 : Int), (0 : Int), (0 : Int), (0 : Int), (0 : Int), (0 : Int), (0 : Int), (0 : Int), (0 : Int), (0 : Int), (0 : Int), (0 : Int), (0 : Int),
   (0 : Int), (0 : Int), (0 : Int), (0 : Int), (0 : Int), (0 : Int), (0 : Int), (0 : Int), (0 : Int), (0 : Int), (0 : Int), (0 : Int), (0 : Int)] ∧ True) ∧ ∀ (x : Int), Upto x → br (decide (x < (256 : Int))) (rq (decide ((0 : Int) ≤ x ∧ x < (256 :
   Int))) (rq (((0 : Nat) + x.toNat * (1 : Nat)).blt (256 : Nat)) (br (decide (x ≥ (32 : Int))) (br (decide (x ≤ (126 : Int))) (rq (decide ((0 : Int) ≤ x ∧ x < (256 : Int))) (rq (((0 : Nat) + x.toNat * (1 : Nat)).blt (256 : Nat)) (Upto (IntKind.i64.wrap
   (x + (1 : Int))) ∧ ((SV.v (Value.pointer none) = SV.v (Value.pointer none) ∧ SV.p (0 : Nat) (0 : Nat) = SV.p (0 : Nat) (0 : Nat) ∧ SV.v (Value.int IntKind.i64 (IntKind.i64.wrap (x + (1 : Int)))) = SV.v (Value.int IntKind.i64 (IntKind.i64.wrap (x + (1
   : Int)))) ∧ True) ∧ ((ascL x.toNat).set ((0 : Nat) + x.toNat * (1 : Nat)) (65533 : Int)).set ((0 : Nat) + x.toNat * (1 : Nat)) (IntKind.i32.wrap x) = ascL (IntKind.i64.wrap (x + (1 : Int))).toNat ∧ True) ∧ ((256 : Int) - IntKind.i64.wrap (x + (1 :
   Int))).toNat < ((256 : Int) - x).toNat))) (Upto (IntKind.i64.wrap (x + (1 : Int))) ∧ ((SV.v (Value.pointer none) = SV.v (Value.pointer none) ∧ SV.p (0 : Nat) (0 : Nat) = SV.p (0 : Nat) (0 : Nat) ∧ SV.v (Value.int IntKind.i64 (IntKind.i64.wrap (x + (1
   : Int)))) = SV.v (Value.int IntKind.i64 (IntKind.i64.wrap (x + (1 : Int)))) ∧ True) ∧ (ascL x.toNat).set ((0 : Nat) + x.toNat * (1 : Nat)) (65533 : Int) = ascL (IntKind.i64.wrap (x + (1 : Int))).toNat ∧ True) ∧ ((256 : Int) - IntKind.i64.wrap (x + (1
   : Int))).toNat < ((256 : Int) - x).toNat)) (Upto (IntKind.i64.wrap (x + (1 : Int))) ∧ ((SV.v (Value.pointer none) = SV.v (Value.pointer none) ∧ SV.p (0 : Nat) (0 : Nat) = SV.p (0 : Nat) (0 : Nat) ∧ SV.v (Value.int IntKind.i64 (IntKind.i64.wrap (x +
   (1 : Int)))) = SV.v (Value.int IntKind.i64 (IntKind.i64.wrap (x + (1 : Int)))) ∧ True) ∧ (ascL x.toNat).set ((0 : Nat) + x.toNat * (1 : Nat)) (65533 : Int) = ascL (IntKind.i64.wrap (x + (1 : Int))).toNat ∧ True) ∧ ((256 : Int) - IntKind.i64.wrap (x +
   (1 : Int))).toNat < ((256 : Int) - x).toNat)))) ((SV.p (0 : Nat) (0 : Nat) = SV.p (0 : Nat) (0 : Nat) ∧ True) ∧ (((((((((((((((((((((((((((((((((ascL x.toNat).set (94 : Nat) (32 : Int)).set (95 : Nat) (32 : Int)).set (96 : Nat) (32 : Int)).set (97 :
   Nat) (9608 : Int)).set (98 : Nat) (8543 : Int)).set (99 : Nat) (179 : Int)).set (100 : Nat) (8309 : Int)).set (101 : Nat) (8311 : Int)).set (102 : Nat) (176 : Int)).set (103 : Nat) (177 : Int)).set (104 : Nat) (8594 : Int)).set (105 : Nat) (8230 :
   Int)).set (106 : Nat) (247 : Int)).set (107 : Nat) (8595 : Int)).set (108 : Nat) (9620 : Int)).set (109 : Nat) (9146 : Int)).set (110 : Nat) (9147 : Int)).set (111 : Nat) (9473 : Int)).set (112 : Nat) (9472 : Int)).set (113 : Nat) (9476 : Int)).set
   (114 : Nat) (9148 : Int)).set (115 : Nat) (9149 : Int)).set (116 : Nat) (8320 : Int)).set (117 : Nat) (8321 : Int)).set (118 : Nat) (8322 : Int)).set (119 : Nat) (8323 : Int)).set (120 : Nat) (8324 : Int)).set (121 : Nat) (8325 : Int)).set (122 :
   Nat) (8326 : Int)).set (123 : Nat) (8327 : Int)).set (124 : Nat) (8328 : Int)).set (125 : Nat) (8329 : Int)).set (126 : Nat) (182 : Int) = LI [(65533 : Int), (65533 : Int), (65533 : Int), (65533 : Int), (65533 : Int), (65533 : Int), (65533 : Int),
   (65533 : Int), (65533 : Int), (65533 : Int), (65533 : Int), (65533 : Int), (65533 : Int), (65533 : Int), (65533 : Int), (65533 : Int), (65533 : Int), (65533 : Int), (65533 : Int), (65533 : Int), (65533 : Int), (65533 : Int), (65533 : Int), (65533 :
   Int), (65533 : Int), (65533 : Int), (65533 : Int), (65533 : Int), (65533 : Int), (65533 : Int), (65533 : Int), (65533 : Int), (32 : Int), (33 : Int), (34 : Int), (35 : Int), (36 : Int), (37 : Int), (38 : Int), (39 : Int), (40 : Int), (41 : Int), (42
   : Int), (43 : Int), (44 : Int), (45 : Int), (46 : Int), (47 : Int), (48 : Int), (49 : Int), (50 : Int), (51 : Int), (52 : Int), (53 : Int), (54 : Int), (55 : Int), (56 : Int), (57 : Int), (58 : Int), (59 : Int), (60 : Int), (61 : Int), (62 : Int),
   (63 : Int), (64 : Int), (65 : Int), (66 : Int), (67 : Int), (68 : Int), (69 : Int), (70 : Int), (71 : Int), (72 : Int), (73 : Int), (74 : Int), (75 : Int), (76 : Int), (77 : Int), (78 : Int), (79 : Int), (80 : Int), (81 : Int), (82 : Int), (83 :
   Int), (84 : Int), (85 : Int), (86 : Int), (87 : Int), (88 : Int), (89 : Int), (90 : Int), (91 : Int), (92 : Int), (93 : Int), (32 : Int), (32 : Int), (32 : Int), (9608 : Int), (8543 : Int), (179 : Int), (8309 : Int), (8311 : Int), (176 : Int), (177 :
   Int), (8594 : Int), (8230 : Int), (247 : Int), (8595 : Int), (9620 : Int), (9146 : Int), (9147 : Int), (9473 : Int), (9472 : Int), (9476 : Int), (9148 : Int), (9149 : Int), (8320 : Int), (8321 : Int), (8322 : Int), (8323 : Int), (8324 : Int), (8325 :
   Int), (8326 : Int), (8327 : Int), (8328 : Int), (8329 : Int), (182 : Int), (65533 : Int), (65533 : Int), (65533 : Int), (65533 : Int), (65533 : Int), (65533 : Int), (65533 : Int), (65533 : Int), (65533 : Int), (65533 : Int), (65533 : Int), (65533 :
   Int), (65533 : Int), (65533 : Int), (65533 : Int), (65533 : Int), (65533 : Int), (65533 : Int), (65533 : Int), (65533 : Int), (65533 : Int), (65533 : Int), (65533 : Int), (65533 : Int), (65533 : Int), (65533 : Int), (65533 : Int), (65533 : Int),
   (65533 : Int), (65533 : Int), (65533 : Int), (65533 : Int), (65533 : Int), (65533 : Int), (65533 : Int), (65533 : Int), (65533 : Int), (65533 : Int), (65533 : Int), (65533 : Int), (65533 : Int), (65533 : Int), (65533 : Int), (65533 : Int), (65533 :
   Int), (65533 : Int), (65533 : Int), (65533 : Int), (65533 : Int), (65533 : Int), (65533 : Int), (65533 : Int), (65533 : Int), (65533 : Int), (65533 : Int), (65533 : Int), (65533 : Int), (65533 : Int), (65533 : Int), (65533 : Int), (65533 : Int),
   (65533 : Int), (65533 : Int), (65533 : Int), (65533 : Int), (65533 : Int), (65533 : Int), (65533 : Int), (65533 : Int), (65533 : Int), (65533 : Int), (65533 : Int), (65533 : Int), (65533 : Int), (65533 : Int), (65533 : Int), (65533 : Int), (65533 :
   Int), (65533 : Int), (65533 : Int), (65533 : Int), (65533 : Int), (65533 : Int), (65533 : Int), (65533 : Int), (65533 : Int), (65533 : Int), (65533 : Int), (65533 : Int), (65533 : Int), (65533 : Int), (65533 : Int), (65533 : Int), (65533 : Int),
   (65533 : Int), (65533 : Int), (65533 : Int), (65533 : Int), (65533 : Int), (65533 : Int), (65533 : Int), (65533 : Int), (65533 : Int), (65533 : Int), (65533 : Int), (65533 : Int), (65533 : Int), (65533 : Int), (65533 : Int), (65533 : Int), (65533 :
   Int), (65533 : Int), (65533 : Int), (65533 : Int), (65533 : Int), (65533 : Int), (65533 : Int), (65533 : Int), (65533 : Int), (65533 : Int), (65533 : Int), (65533 : Int), (65533 : Int), (65533 : Int), (65533 : Int), (65533 : Int), (65533 : Int),
   (65533 : Int), (65533 : Int)] ∧ True))) (by kernel_rfl) ?_
  refine ⟨⟨by omega, by omega⟩, ?_, ?_⟩
  · repeat' (first | exact trivial | refine And.intro ?_ ?_ | kernel_rfl)
  refine fun (x : Int) hx => ?_
  obtain ⟨hx0, hx1⟩ := hx
  refine br_intro (fun hlt => ?_) (fun hge => ?_)
  · have hlt : x < 256 := of_decide_eq_true hlt
    refine rq_t (in_range hx0 hlt) (rq_t (in_blt hx0 hlt) ?_)
    refine br_intro (fun h32 => ?_) (fun h32 => ?_)
    · have h32 : 32 ≤ x := of_decide_eq_true h32
      refine br_intro (fun h126 => ?_) (fun h126 => ?_)
      · have h126 : x ≤ 126 := of_decide_eq_true h126
        refine rq_t (in_range hx0 hlt) (rq_t (in_blt hx0 hlt) ⟨upto_next hx0 hlt, ?_, mu_next hx0 hlt⟩)
        rw [asc1 hx0 h32 h126]
        repeat' (first | exact trivial | refine And.intro ?_ ?_ | kernel_rfl)
      · have h126 : ¬ x ≤ 126 := of_decide_eq_false h126
        refine ⟨upto_next hx0 hlt, ?_, mu_next hx0 hlt⟩
        rw [asc2 hx0 hlt (fun h => h126 h.2)]
        repeat' (first | exact trivial | refine And.intro ?_ ?_ | kernel_rfl)
    · have h32 : ¬ 32 ≤ x := of_decide_eq_false h32
      refine ⟨upto_next hx0 hlt, ?_, mu_next hx0 hlt⟩
      rw [asc2 hx0 hlt (fun h => h32 h.1)]
      repeat' (first | exact trivial | refine And.intro ?_ ?_ | kernel_rfl)
  have hge : ¬ x < 256 := of_decide_eq_false hge
  obtain rfl : x = 256 := by omega
  repeat' (first | exact trivial | refine And.intro ?_ ?_ | kernel_rfl)
set_option maxHeartbeats 4000000 in
theorem of_4 : OfAsk 4 := by
  unfold OfAsk
  refine kcast (B := (Upto (0 : Int) ∧ ((SV.v (Value.pointer none) = SV.v (Value.pointer none) ∧ SV.p (0 : Nat) (0 : Nat) = SV.p (0 : Nat) (0 : Nat) ∧ SV.v (Value.int IntKind.i64 (0 : Int)) = SV.v (Value.int IntKind.i64 (0 : Int)) ∧ True) ∧ LI [(0 :
   Int), (0 : Int), (0 : Int), (0 : Int), (0 : Int), (0 : Int), (0 : Int), (0 : Int), (0 : Int), (0 : Int), (0 : Int), (0 : Int), (0 : Int), (0 : Int), (0 : Int), (0 : Int), (0 : Int), (0 : Int), (0 : Int), (0 : Int), (0 : Int), (0 : Int), (0 : Int), (0
   : Int), (0 : Int), (0 : Int), (0 : Int), (0 : Int), (0 : Int), (0 : Int), (0 : Int), (0 : Int), (0 : Int), (0 : Int), (0 : Int), (0 : Int), (0 : Int), (0 : Int), (0 : Int), (0 : Int), (0 : Int), (0 : Int), (0 : Int), (0 : Int), (0 : Int), (0 : Int),
   (0 : Int), (0 : Int), (0 : Int), (0 : Int), (0 : Int), (0 : Int), (0 : Int), (0 : Int), (0 : Int), (0 : Int), (0 : Int), (0 : Int), (0 : Int), (0 : Int), (0 : Int), (0 : Int), (0 : Int), (0 : Int), (0 : Int), (0 : Int), (0 : Int), (0 : Int), (0 :
   Int), (0 : Int), (0 : Int), (0 : Int), (0 : Int), (0 : Int), (0 : Int), (0 : Int), (0 : Int), (0 : Int), (0 : Int), (0 : Int), (0 : Int), (0 : Int), (0 : Int), (0 : Int), (0 : Int), (0 : Int), (0 : Int), (0 : Int), (0 : Int), (0 : Int), (0 : Int), (0
   : Int), (0 : Int), (0 : Int), (0 : Int), (0 : Int), (0 : Int), (0 : Int), (0 : Int), (0 : Int), (0 : Int), (0 : Int), (0 : Int), (0 : Int), (0 : Int), (0 : Int), (0 : Int), (0 : Int), (0 : Int), (0 : Int), (0 : Int), (0 : Int), (0 : Int), (0 : Int),
   (0 : Int), (0 : Int), (0 : Int), (0 : Int), (0 : Int), (0 : Int), (0 : Int), (0 : Int), (0 : Int), (0 : Int), (0 : Int), (0 : Int), (0 : Int), (0 : Int), (0 : Int), (0 : Int), (0 : Int), (0 : Int), (0 : Int), (0 : Int), (0 : Int), (0 : Int), (0 :
   Int), (0 : Int), (0 : Int), (0 : Int), (0 : Int), (0 : Int), (0 : Int), (0 : Int), (0 : Int), (0 : Int), (0 : Int), (0 : Int), (0 : Int), (0 : Int), (0 : Int), (0 : Int), (0 : Int), (0 : Int), (0 : Int), (0 : Int), (0 : Int), (0 : Int), (0 : Int), (0
   : Int), (0 : Int), (0 : Int), (0 : Int), (0 : Int), (0 : Int), (0 : Int), (0 : Int), (0 : Int), (0 : Int), (0 : Int), (0 : Int), (0 : Int), (0 : Int), (0 : Int), (0 : Int), (0 : Int), (0 : Int), (0 : Int), (0 : Int), (0 : Int), (0 : Int), (0 : Int),
   (0 : Int), (0 : Int), (0 : Int), (0 : Int), (0 : Int), (0 : Int), (0 : Int), (0 : Int), (0 : Int), (0 : Int), (0 : Int), (0 : Int), (0 : Int), (0 : Int), (0 : Int), (0 : Int), (0 : Int), (0 : Int), (0 : Int), (0 : Int), (0 : Int), (0 : Int), (0 :
   Int), (0 : Int), (0 : Int), (0 : Int), (0 : Int), (0 : Int), (0 : Int), (0 : Int), (0 : Int), (0 : Int), (0 : Int), (0 : Int), (0 : Int), (0 : Int), (0 : Int), (0 : Int), (0 : Int), (0 : Int), (0 : Int), (0 : Int), (0 : Int), (0 : Int), (0 : Int), (0
   : Int), (0 : Int), (0 : Int), (0 : Int), (0 : Int), (0 : Int), (0 : Int), (0 : Int), (0 : Int), (0 : Int), (0 : Int), (0 : Int), (0 : Int), (0 : Int), (0 : Int), (0 : Int), (0 : Int), (0 : Int), (0 : Int), (0 : Int), (0 : Int), (0 : Int), (0 : Int),
   (0 : Int), (0 : Int), (0 : Int), (0 : Int), (0 : Int), (0 : Int)] = LI [(0 : Int), (0 : Int), (0 : Int), (0 : Int), (0 : Int), (0 : Int), (0 : Int), (0 : Int), (0 : Int), (0 : Int), (0 : Int), (0 : Int), (0 : Int), (0 : Int), (0 : Int), (0 : Int), (0
   : Int), (0 : Int), (0 : Int), (0 : Int), (0 : Int), (0 : Int), (0 : Int), (0 : Int), (0 : Int), (0 : Int), (0 : Int), (0 : Int), (0 : Int), (0 : Int), (0 : Int), (0 : Int), (0 : Int), (0 : Int), (0 : Int), (0 : Int), (0 : Int), (0 : Int), (0 : Int),
   (0 : Int), (0 : Int), (0 : Int), (0 : Int), (0 : Int), (0 : Int), (0 : Int), (0 : Int), (0 : Int), (0 : Int), (0 : Int), (0 : Int), (0 : Int), (0 : Int), (0 : Int), (0 : Int), (0 : Int), (0 : Int), (0 : Int), (0 : Int), (0 : Int), (0 : Int), (0 :
   Int), (0 : Int), (0 : Int), (0 : Int), (0 : Int), (0 : Int), (0 : Int), (0 : Int), (0 : Int), (0 : Int), (0 : Int), (0 : Int), (0 : Int), (0 : Int), (0 : Int), (0 : Int), (0 : Int), (0 : Int), (0 : Int), (0 : Int), (0 : Int), (0 : Int), (0 : Int), (0
   : Int), (0 : Int), (0 : Int), (0 : Int), (0 : Int), (0 : Int), (0 : Int), (0 : Int), (0 : Int), (0 : Int), (0 : Int), (0 : Int), (0 : Int), (0 : Int), (0 : Int), (0 : Int), (0 : Int), (0 : Int), (0 : Int), (0 : Int), (0 : Int), (0 : Int), (0 : Int),
   (0 : Int), (0 : Int), (0 : Int), (0 : Int), (0 : Int), (0 : Int), (0 : Int), (0 : Int), (0 : Int), (0 : Int), (0 : Int), (0 : Int), (0 : Int), (0 : Int), (0 : Int), (0 : Int), (0 : Int), (0 : Int), (0 : Int), (0 : Int), (0 : Int), (0 : Int), (0 :
   Int), (0 : Int), (0 : Int), (0 : Int), (0 : Int), (0 : Int), (0 : Int), (0 : Int), (0 : Int), (0 : Int), (0 : Int), (0 : Int), (0 : Int), (0 : Int), (0 : Int), (0 : Int), (0 : Int), (0 : Int), (0 : Int), (0 : Int), (0 : Int), (0 : Int), (0 : Int), (0
   : Int), (0 : Int), (0 : Int), (0 : Int), (0 : Int), (0 : Int), (0 : Int), (0 : Int), (0 : Int), (0 : Int), (0 : Int), (0 : Int), (0 : Int), (0 : Int), (0 : Int), (0 : Int), (0 : Int), (0 : Int), (0 : Int), (0 : Int), (0 : Int), (0 : Int), (0 : Int),
   (0 : Int), (0 : Int), (0 : Int), (0 : Int), (0 : Int), (0 : Int), (0 : Int), (0 : Int), (0 : Int), (0 : Int), (0 : Int), (0 : Int), (0 : Int), (0 : Int), (0 : Int), (0 : Int), (0 : Int), (0 : Int), (0 : Int), (0 : Int), (0 : Int), (0 : Int), (0 :
   Int), (0 : Int), (0 : Int), (0 : Int), (0 : Int), (0 : Int), (0 : Int), (0 : Int), (0 : Int), (0 : Int), (0 : Int), (0 : Int), (0 : Int), (0 : Int), (0 : Int), (0 : Int), (0 : Int), (0 : Int), (0 : Int), (0 : Int), (0 : Int), (0 : Int), (0 : Int), (0
   : Int), (0 : Int), (0 : Int), (0 : Int), (0 : Int), (0 : Int), (0 : Int), (0 : Int), (0 : Int), (0 : Int), (0 : Int), (0 : Int), (0 : Int), (0 : Int), (0 : Int), (0 : Int), (0 : Int), (0 : Int), (0 : Int), (0 : Int), (0 : Int), (0 : Int), (0 : Int),
   (0 : Int), (0 : Int), (0 : Int), (0 : Int), (0 : Int), (0 : Int), (0 : Int), (0 : Int), (0 : Int), (0 : Int), (0 : Int), (0 : Int), (0 : Int)] ∧ True) ∧ ∀ (x : Int), Upto x → br (decide (x < (256 : Int))) (rq (decide ((0 : Int) ≤ x ∧ x < (256 :
   Int))) (rq (((0 : Nat) + x.toNat * (1 : Nat)).blt (256 : Nat)) (br (decide (x ≥ (32 : Int))) (br (decide (x ≤ (126 : Int))) (rq (decide ((0 : Int) ≤ x ∧ x < (256 : Int))) (rq (((0 : Nat) + x.toNat * (1 : Nat)).blt (256 : Nat)) (Upto (IntKind.i64.wrap
   (x + (1 : Int))) ∧ ((SV.v (Value.pointer none) = SV.v (Value.pointer none) ∧ SV.p (0 : Nat) (0 : Nat) = SV.p (0 : Nat) (0 : Nat) ∧ SV.v (Value.int IntKind.i64 (IntKind.i64.wrap (x + (1 : Int)))) = SV.v (Value.int IntKind.i64 (IntKind.i64.wrap (x + (1
   : Int)))) ∧ True) ∧ ((ascL x.toNat).set ((0 : Nat) + x.toNat * (1 : Nat)) (65533 : Int)).set ((0 : Nat) + x.toNat * (1 : Nat)) (IntKind.i32.wrap x) = ascL (IntKind.i64.wrap (x + (1 : Int))).toNat ∧ True) ∧ ((256 : Int) - IntKind.i64.wrap (x + (1 :
   Int))).toNat < ((256 : Int) - x).toNat))) (Upto (IntKind.i64.wrap (x + (1 : Int))) ∧ ((SV.v (Value.pointer none) = SV.v (Value.pointer none) ∧ SV.p (0 : Nat) (0 : Nat) = SV.p (0 : Nat) (0 : Nat) ∧ SV.v (Value.int IntKind.i64 (IntKind.i64.wrap (x + (1
   : Int)))) = SV.v (Value.int IntKind.i64 (IntKind.i64.wrap (x + (1 : Int)))) ∧ True) ∧ (ascL x.toNat).set ((0 : Nat) + x.toNat * (1 : Nat)) (65533 : Int) = ascL (IntKind.i64.wrap (x + (1 : Int))).toNat ∧ True) ∧ ((256 : Int) - IntKind.i64.wrap (x + (1
   : Int))).toNat < ((256 : Int) - x).toNat)) (Upto (IntKind.i64.wrap (x + (1 : Int))) ∧ ((SV.v (Value.pointer none) = SV.v (Value.pointer none) ∧ SV.p (0 : Nat) (0 : Nat) = SV.p (0 : Nat) (0 : Nat) ∧ SV.v (Value.int IntKind.i64 (IntKind.i64.wrap (x +
   (1 : Int)))) = SV.v (Value.int IntKind.i64 (IntKind.i64.wrap (x + (1 : Int)))) ∧ True) ∧ (ascL x.toNat).set ((0 : Nat) + x.toNat * (1 : Nat)) (65533 : Int) = ascL (IntKind.i64.wrap (x + (1 : Int))).toNat ∧ True) ∧ ((256 : Int) - IntKind.i64.wrap (x +
   (1 : Int))).toNat < ((256 : Int) - x).toNat)))) ((SV.p (0 : Nat) (0 : Nat) = SV.p (0 : Nat) (0 : Nat) ∧ True) ∧ ((((((((((((((((ascL x.toNat).set (48 : Nat) (9516 : Int)).set (49 : Nat) (9492 : Int)).set (50 : Nat) (9484 : Int)).set (51 : Nat) (9488
   : Int)).set (52 : Nat) (9500 : Int)).set (53 : Nat) (9496 : Int)).set (54 : Nat) (9474 : Int)).set (55 : Nat) (9608 : Int)).set (56 : Nat) (9532 : Int)).set (57 : Nat) (9508 : Int)).set (58 : Nat) (9472 : Int)).set (59 : Nat) (9618 : Int)).set (60 :
   Nat) (9552 : Int)).set (61 : Nat) (9524 : Int)).set (62 : Nat) (9553 : Int)).set (63 : Nat) (9617 : Int) = LI [(65533 : Int), (65533 : Int), (65533 : Int), (65533 : Int), (65533 : Int), (65533 : Int), (65533 : Int), (65533 : Int), (65533 : Int),
   (65533 : Int), (65533 : Int), (65533 : Int), (65533 : Int), (65533 : Int), (65533 : Int), (65533 : Int), (65533 : Int), (65533 : Int), (65533 : Int), (65533 : Int), (65533 : Int), (65533 : Int), (65533 : Int), (65533 : Int), (65533 : Int), (65533 :
   Int), (65533 : Int), (65533 : Int), (65533 : Int), (65533 : Int), (65533 : Int), (65533 : Int), (32 : Int), (33 : Int), (34 : Int), (35 : Int), (36 : Int), (37 : Int), (38 : Int), (39 : Int), (40 : Int), (41 : Int), (42 : Int), (43 : Int), (44 :
   Int), (45 : Int), (46 : Int), (47 : Int), (9516 : Int), (9492 : Int), (9484 : Int), (9488 : Int), (9500 : Int), (9496 : Int), (9474 : Int), (9608 : Int), (9532 : Int), (9508 : Int), (9472 : Int), (9618 : Int), (9552 : Int), (9524 : Int), (9553 :
   Int), (9617 : Int), (64 : Int), (65 : Int), (66 : Int), (67 : Int), (68 : Int), (69 : Int), (70 : Int), (71 : Int), (72 : Int), (73 : Int), (74 : Int), (75 : Int), (76 : Int), (77 : Int), (78 : Int), (79 : Int), (80 : Int), (81 : Int), (82 : Int),
   (83 : Int), (84 : Int), (85 : Int), (86 : Int), (87 : Int), (88 : Int), (89 : Int), (90 : Int), (91 : Int), (92 : Int), (93 : Int), (94 : Int), (95 : Int), (96 : Int), (97 : Int), (98 : Int), (99 : Int), (100 : Int), (101 : Int), (102 : Int), (103 :
   Int), (104 : Int), (105 : Int), (106 : Int), (107 : Int), (108 : Int), (109 : Int), (110 : Int), (111 : Int), (112 : Int), (113 : Int), (114 : Int), (115 : Int), (116 : Int), (117 : Int), (118 : Int), (119 : Int), (120 : Int), (121 : Int), (122 :
   Int), (123 : Int), (124 : Int), (125 : Int), (126 : Int), (65533 : Int), (65533 : Int), (65533 : Int), (65533 : Int), (65533 : Int), (65533 : Int), (65533 : Int), (65533 : Int), (65533 : Int), (65533 : Int), (65533 : Int), (65533 : Int), (65533 :
   Int), (65533 : Int), (65533 : Int), (65533 : Int), (65533 : Int), (65533 : Int), (65533 : Int), (65533 : Int), (65533 : Int), (65533 : Int), (65533 : Int), (65533 : Int), (65533 : Int), (65533 : Int), (65533 : Int), (65533 : Int), (65533 : Int),
   (65533 : Int), (65533 : Int), (65533 : Int), (65533 : Int), (65533 : Int), (65533 : Int), (65533 : Int), (65533 : Int), (65533 : Int), (65533 : Int), (65533 : Int), (65533 : Int), (65533 : Int), (65533 : Int), (65533 : Int), (65533 : Int), (65533 :
   Int), (65533 : Int), (65533 : Int), (65533 : Int), (65533 : Int), (65533 : Int), (65533 : Int), (65533 : Int), (65533 : Int), (65533 : Int), (65533 : Int), (65533 : Int), (65533 : Int), (65533 : Int), (65533 : Int), (65533 : Int), (65533 : Int),
   (65533 : Int), (65533 : Int), (65533 : Int), (65533 : Int), (65533 : Int), (65533 : Int), (65533 : Int), (65533 : Int), (65533 : Int), (65533 : Int), (65533 : Int), (65533 : Int), (65533 : Int), (65533 : Int), (65533 : Int), (65533 : Int), (65533 :
   Int), (65533 : Int), (65533 : Int), (65533 : Int), (65533 : Int), (65533 : Int), (65533 : Int), (65533 : Int), (65533 : Int), (65533 : Int), (65533 : Int), (65533 : Int), (65533 : Int), (65533 : Int), (65533 : Int), (65533 : Int), (65533 : Int),
   (65533 : Int), (65533 : Int), (65533 : Int), (65533 : Int), (65533 : Int), (65533 : Int), (65533 : Int), (65533 : Int), (65533 : Int), (65533 : Int), (65533 : Int), (65533 : Int), (65533 : Int), (65533 : Int), (65533 : Int), (65533 : Int), (65533 :
   Int), (65533 : Int), (65533 : Int), (65533 : Int), (65533 : Int), (65533 : Int), (65533 : Int), (65533 : Int), (65533 : Int), (65533 : Int), (65533 : Int), (65533 : Int), (65533 : Int), (65533 : Int), (65533 : Int), (65533 : Int), (65533 : Int),
   (65533 : Int)] ∧ True))) (by kernel_rfl) ?_
  refine ⟨⟨by omega, by omega⟩, ?_, ?_⟩
  · repeat' (first | exact trivial | refine And.intro ?_ ?_ | kernel_rfl)
  refine fun (x : Int) hx => ?_
  obtain ⟨hx0, hx1⟩ := hx
  refine br_intro (fun hlt => ?_) (fun hge => ?_)
  · have hlt : x < 256 := of_decide_eq_true hlt
    refine rq_t (in_range hx0 hlt) (rq_t (in_blt hx0 hlt) ?_)
    refine br_intro (fun h32 => ?_) (fun h32 => ?_)
    · have h32 : 32 ≤ x := of_decide_eq_true h32
      refine br_intro (fun h126 => ?_) (fun h126 => ?_)
      · have h126 : x ≤ 126 := of_decide_eq_true h126
        refine rq_t (in_range hx0 hlt) (rq_t (in_blt hx0 hlt) ⟨upto_next hx0 hlt, ?_, mu_next hx0 hlt⟩)
        rw [asc1 hx0 h32 h126]
        repeat' (first | exact trivial | refine And.intro ?_ ?_ | kernel_rfl)
      · have h126 : ¬ x ≤ 126 := of_decide_eq_false h126
        refine ⟨upto_next hx0 hlt, ?_, mu_next hx0 hlt⟩
        rw [asc2 hx0 hlt (fun h => h126 h.2)]
        repeat' (first | exact trivial | refine And.intro ?_ ?_ | kernel_rfl)
    · have h32 : ¬ 32 ≤ x := of_decide_eq_false h32
      refine ⟨upto_next hx0 hlt, ?_, mu_next hx0 hlt⟩
      rw [asc2 hx0 hlt (fun h => h32 h.1)]
      repeat' (first | exact trivial | refine And.intro ?_ ?_ | kernel_rfl)
  have hge : ¬ x < 256 := of_decide_eq_false hge
  obtain rfl : x = 256 := by omega
  repeat' (first | exact trivial | refine And.intro ?_ ?_ | kernel_rfl)
set_option maxHeartbeats 4000000 in
theorem of_5 : OfAsk 5 := by
  unfold OfAsk
  refine kcast (B := (Upto (0 : Int) ∧ ((SV.v (Value.pointer none) = SV.v (Value.pointer none) ∧ SV.p (0 : Nat) (0 : Nat) = SV.p (0 : Nat) (0 : Nat) ∧ SV.v (Value.int IntKind.i64 (0 : Int)) = SV.v (Value.int IntKind.i64 (0 : Int)) ∧ True) ∧ LI [(0 :
   Int), (0 : Int), (0 : Int), (0 : Int), (0 : Int), (0 : Int), (0 : Int), (0 : Int), (0 : Int), (0 : Int), (0 : Int), (0 : Int), (0 : Int), (0 : Int), (0 : Int), (0 : Int), (0 : Int), (0 : Int), (0 : Int), (0 : Int), (0 : Int), (0 : Int), (0 : Int), (0
   : Int), (0 : Int), (0 : Int), (0 : Int), (0 : Int), (0 : Int), (0 : Int), (0 : Int), (0 : Int), (0 : Int), (0 : Int), (0 : Int), (0 : Int), (0 : Int), (0 : Int), (0 : Int), (0 : Int), (0 : Int), (0 : Int), (0 : Int), (0 : Int), (0 : Int), (0 : Int),
   (0 : Int), (0 : Int), (0 : Int), (0 : Int), (0 : Int), (0 : Int), (0 : Int), (0 : Int), (0 : Int), (0 : Int), (0 : Int), (0 : Int), (0 : Int), (0 : Int), (0 : Int), (0 : Int), (0 : Int), (0 : Int), (0 : Int), (0 : Int), (0 : Int), (0 : Int), (0 :
   Int), (0 : Int), (0 : Int), (0 : Int), (0 : Int), (0 : Int), (0 : Int), (0 : Int), (0 : Int), (0 : Int), (0 : Int), (0 : Int), (0 : Int), (0 : Int), (0 : Int), (0 : Int), (0 : Int), (0 : Int), (0 : Int), (0 : Int), (0 : Int), (0 : Int), (0 : Int), (0
   : Int), (0 : Int), (0 : Int), (0 : Int), (0 : Int), (0 : Int), (0 : Int), (0 : Int), (0 : Int), (0 : Int), (0 : Int), (0 : Int), (0 : Int), (0 : Int), (0 : Int), (0 : Int), (0 : Int), (0 : Int), (0 : Int), (0 : Int), (0 : Int), (0 : Int), (0 : Int),
   (0 : Int), (0 : Int), (0 : Int), (0 : Int), (0 : Int), (0 : Int), (0 : Int), (0 : Int), (0 : Int), (0 : Int), (0 : Int), (0 : Int), (0 : Int), (0 : Int), (0 : Int), (0 : Int), (0 : Int), (0 : Int), (0 : Int), (0 : Int), (0 : Int), (0 : Int), (0 :
   Int), (0 : Int), (0 : Int), (0 : Int), (0 : Int), (0 : Int), (0 : Int), (0 : Int), (0 : Int), (0 : Int), (0 : Int), (0 : Int), (0 : Int), (0 : Int), (0 : Int), (0 : Int), (0 : Int), (0 : Int), (0 : Int), (0 : Int), (0 : Int), (0 : Int), (0 : Int), (0
   : Int), (0 : Int), (0 : Int), (0 : Int), (0 : Int), (0 : Int), (0 : Int), (0 : Int), (0 : Int), (0 : Int), (0 : Int), (0 : Int), (0 : Int), (0 : Int), (0 : Int), (0 : Int), (0 : Int), (0 : Int), (0 : Int), (0 : Int), (0 : Int), (0 : Int), (0 : Int),
   (0 : Int), (0 : Int), (0 : Int), (0 : Int), (0 : Int), (0 : Int), (0 : Int), (0 : Int), (0 : Int), (0 : Int), (0 : Int), (0 : Int), (0 : Int), (0 : Int), (0 : Int), (0 : Int), (0 : Int), (0 : Int), (0 : Int), (0 : Int), (0 : Int), (0 : Int), (0 :
   Int), (0 : Int), (0 : Int), (0 : Int), (0 : Int), (0 : Int), (0 : Int), (0 : Int), (0 : Int), (0 : Int), (0 : Int), (0 : Int), (0 : Int), (0 : Int), (0 : Int), (0 : Int), (0 : Int), (0 : Int), (0 : Int), (0 : Int), (0 : Int), (0 : Int), (0 : Int), (0
   : Int), (0 : Int), (0 : Int), (0 : Int), (0 : Int), (0 : Int), (0 : Int), (0 : Int), (0 : Int), (0 : Int), (0 : Int), (0 : Int), (0 : Int), (0 : Int), (0 : Int), (0 : Int), (0 : Int), (0 : Int), (0 : Int), (0 : Int), (0 : Int), (0 : Int), (0 : Int),
   (0 : Int), (0 : Int), (0 : Int), (0 : Int), (0 : Int), (0 : Int)] = LI [(0 : Int), (0 : Int), (0 : Int), (0 : Int), (0 : Int), (0 : Int), (0 : Int), (0 : Int), (0 : Int), (0 : Int), (0 : Int), (0 : Int), (0 : Int), (0 : Int), (0 : Int), (0 : Int), (0
   : Int), (0 : Int), (0 : Int), (0 : Int), (0 : Int), (0 : Int), (0 : Int), (0 : Int), (0 : Int), (0 : Int), (0 : Int), (0 : Int), (0 : Int), (0 : Int), (0 : Int), (0 : Int), (0 : Int), (0 : Int), (0 : Int), (0 : Int), (0 : Int), (0 : Int), (0 : Int),
   (0 : Int), (0 : Int), (0 : Int), (0 : Int), (0 : Int), (0 : Int), (0 : Int), (0 : Int), (0 : Int), (0 : Int), (0 : Int), (0 : Int), (0 : Int), (0 : Int), (0 : Int), (0 : Int), (0 : Int), (0 : Int), (0 : Int), (0 : Int), (0 : Int), (0 : Int), (0 :
   Int), (0 : Int), (0 : Int), (0 : Int), (0 : Int), (0 : Int), (0 : Int), (0 : Int), (0 : Int), (0 : Int), (0 : Int), (0 : Int), (0 : Int), (0 : Int), (0 : Int), (0 : Int), (0 : Int), (0 : Int), (0 : Int), (0 : Int), (0 : Int), (0 : Int), (0 : Int), (0
   : Int), (0 : Int), (0 : Int), (0 : Int), (0 : Int), (0 : Int), (0 : Int), (0 : Int), (0 : Int), (0 : Int), (0 : Int), (0 : Int), (0 : Int), (0 : Int), (0 : Int), (0 : Int), (0 : Int), (0 : Int), (0 : Int), (0 : Int), (0 : Int), (0 : Int), (0 : Int),
   (0 : Int), (0 : Int), (0 : Int), (0 : Int), (0 : Int), (0 : Int), (0 : Int), (0 : Int), (0 : Int), (0 : Int), (0 : Int), (0 : Int), (0 : Int), (0 : Int), (0 : Int), (0 : Int), (0 : Int), (0 : Int), (0 : Int), (0 : Int), (0 : Int), (0 : Int), (0 :
   Int), (0 : Int), (0 : Int), (0 : Int), (0 : Int), (0 : Int), (0 : Int), (0 : Int), (0 : Int), (0 : Int), (0 : Int), (0 : Int), (0 : Int), (0 : Int), (0 : Int), (0 : Int), (0 : Int), (0 : Int), (0 : Int), (0 : Int), (0 : Int), (0 : Int), (0 : Int), (0
   : Int), (0 : Int), (0 : Int), (0 : Int), (0 : Int), (0 : Int), (0 : Int), (0 : Int), (0 : Int), (0 : Int), (0 : Int), (0 : Int), (0 : Int), (0 : Int), (0 : Int), (0 : Int), (0 : Int), (0 : Int), (0 : Int), (0 : Int), (0 : Int), (0 : Int), (0 : Int),
   (0 : Int), (0 : Int), (0 : Int), (0 : Int), (0 : Int), (0 : Int), (0 : Int), (0 : Int), (0 : Int), (0 : Int), (0 : Int), (0 : Int), (0 : Int), (0 : Int), (0 : Int), (0 : Int), (0 : Int), (0 : Int), (0 : Int), (0 : Int), (0 : Int), (0 : Int), (0 :
   Int), (0 : Int), (0 : Int), (0 : Int), (0 : Int), (0 : Int), (0 : Int), (0 : Int), (0 : Int), (0 : Int), (0 : Int), (0 : Int), (0 : Int), (0 : Int), (0 : Int), (0 : Int), (0 : Int), (0 : Int), (0 : Int), (0 : Int), (0 : Int), (0 : Int), (0 : Int), (0
   : Int), (0 : Int), (0 : Int), (0 : Int), (0 : Int), (0 : Int), (0 : Int), (0 : Int), (0 : Int), (0 : Int), (0 : Int), (0 : Int), (0 : Int), (0 : Int), (0 : Int), (0 : Int), (0 : Int), (0 : Int), (0 : Int), (0 : Int), (0 : Int), (0 : Int), (0 : Int),
   (0 : Int), (0 : Int), (0 : Int), (0 : Int), (0 : Int), (0 : Int), (0 : Int), (0 : Int), (0 : Int), (0 : Int), (0 : Int), (0 : Int), (0 : Int)] ∧ True) ∧ ∀ (x : Int), Upto x → br (decide (x < (256 : Int))) (rq (decide ((0 : Int) ≤ x ∧ x < (256 :
   Int))) (rq (((0 : Nat) + x.toNat * (1 : Nat)).blt (256 : Nat)) (br (decide (x ≥ (32 : Int))) (br (decide (x ≤ (126 : Int))) (rq (decide ((0 : Int) ≤ x ∧ x < (256 : Int))) (rq (((0 : Nat) + x.toNat * (1 : Nat)).blt (256 : Nat)) (Upto (IntKind.i64.wrap
   (x + (1 : Int))) ∧ ((SV.v (Value.pointer none) = SV.v (Value.pointer none) ∧ SV.p (0 : Nat) (0 : Nat) = SV.p (0 : Nat) (0 : Nat) ∧ SV.v (Value.int IntKind.i64 (IntKind.i64.wrap (x + (1 : Int)))) = SV.v (Value.int IntKind.i64 (IntKind.i64.wrap (x + (1
   : Int)))) ∧ True) ∧ ((ascL x.toNat).set ((0 : Nat) + x.toNat * (1 : Nat)) (65533 : Int)).set ((0 : Nat) + x.toNat * (1 : Nat)) (IntKind.i32.wrap x) = ascL (IntKind.i64.wrap (x + (1 : Int))).toNat ∧ True) ∧ ((256 : Int) - IntKind.i64.wrap (x + (1 :
   Int))).toNat < ((256 : Int) - x).toNat))) (Upto (IntKind.i64.wrap (x + (1 : Int))) ∧ ((SV.v (Value.pointer none) = SV.v (Value.pointer none) ∧ SV.p (0 : Nat) (0 : Nat) = SV.p (0 : Nat) (0 : Nat) ∧ SV.v (Value.int IntKind.i64 (IntKind.i64.wrap (x + (1
   : Int)))) = SV.v (Value.int IntKind.i64 (IntKind.i64.wrap (x + (1 : Int)))) ∧ True) ∧ (ascL x.toNat).set ((0 : Nat) + x.toNat * (1 : Nat)) (65533 : Int) = ascL (IntKind.i64.wrap (x + (1 : Int))).toNat ∧ True) ∧ ((256 : Int) - IntKind.i64.wrap (x + (1
   : Int))).toNat < ((256 : Int) - x).toNat)) (Upto (IntKind.i64.wrap (x + (1 : Int))) ∧ ((SV.v (Value.pointer none) = SV.v (Value.pointer none) ∧ SV.p (0 : Nat) (0 : Nat) = SV.p (0 : Nat) (0 : Nat) ∧ SV.v (Value.int IntKind.i64 (IntKind.i64.wrap (x +
   (1 : Int)))) = SV.v (Value.int IntKind.i64 (IntKind.i64.wrap (x + (1 : Int)))) ∧ True) ∧ (ascL x.toNat).set ((0 : Nat) + x.toNat * (1 : Nat)) (65533 : Int) = ascL (IntKind.i64.wrap (x + (1 : Int))).toNat ∧ True) ∧ ((256 : Int) - IntKind.i64.wrap (x +
   (1 : Int))).toNat < ((256 : Int) - x).toNat)))) ((SV.p (0 : Nat) (0 : Nat) = SV.p (0 : Nat) (0 : Nat) ∧ True) ∧ List.take (128 : Nat) (((((((((((((((((((((((((((ascL x.toNat).set (97 : Nat) (65 : Int)).set (98 : Nat) (66 : Int)).set (99 : Nat) (67 :
   Int)).set (100 : Nat) (68 : Int)).set (101 : Nat) (69 : Int)).set (102 : Nat) (70 : Int)).set (103 : Nat) (71 : Int)).set (104 : Nat) (72 : Int)).set (105 : Nat) (73 : Int)).set (106 : Nat) (74 : Int)).set (107 : Nat) (75 : Int)).set (108 : Nat) (76
   : Int)).set (109 : Nat) (77 : Int)).set (110 : Nat) (78 : Int)).set (111 : Nat) (79 : Int)).set (112 : Nat) (80 : Int)).set (113 : Nat) (81 : Int)).set (114 : Nat) (82 : Int)).set (115 : Nat) (83 : Int)).set (116 : Nat) (84 : Int)).set (117 : Nat)
   (85 : Int)).set (118 : Nat) (86 : Int)).set (119 : Nat) (87 : Int)).set (120 : Nat) (88 : Int)).set (121 : Nat) (89 : Int)).set (122 : Nat) (90 : Int)) ++ List.take (128 : Nat) (List.drop (0 : Nat) (((((((((((((((((((((((((((ascL x.toNat).set (97 :
   Nat) (65 : Int)).set (98 : Nat) (66 : Int)).set (99 : Nat) (67 : Int)).set (100 : Nat) (68 : Int)).set (101 : Nat) (69 : Int)).set (102 : Nat) (70 : Int)).set (103 : Nat) (71 : Int)).set (104 : Nat) (72 : Int)).set (105 : Nat) (73 : Int)).set (106 :
   Nat) (74 : Int)).set (107 : Nat) (75 : Int)).set (108 : Nat) (76 : Int)).set (109 : Nat) (77 : Int)).set (110 : Nat) (78 : Int)).set (111 : Nat) (79 : Int)).set (112 : Nat) (80 : Int)).set (113 : Nat) (81 : Int)).set (114 : Nat) (82 : Int)).set (115
   : Nat) (83 : Int)).set (116 : Nat) (84 : Int)).set (117 : Nat) (85 : Int)).set (118 : Nat) (86 : Int)).set (119 : Nat) (87 : Int)).set (120 : Nat) (88 : Int)).set (121 : Nat) (89 : Int)).set (122 : Nat) (90 : Int))) ++ List.drop (256 : Nat)
   (((((((((((((((((((((((((((ascL x.toNat).set (97 : Nat) (65 : Int)).set (98 : Nat) (66 : Int)).set (99 : Nat) (67 : Int)).set (100 : Nat) (68 : Int)).set (101 : Nat) (69 : Int)).set (102 : Nat) (70 : Int)).set (103 : Nat) (71 : Int)).set (104 : Nat)
   (72 : Int)).set (105 : Nat) (73 : Int)).set (106 : Nat) (74 : Int)).set (107 : Nat) (75 : Int)).set (108 : Nat) (76 : Int)).set (109 : Nat) (77 : Int)).set (110 : Nat) (78 : Int)).set (111 : Nat) (79 : Int)).set (112 : Nat) (80 : Int)).set (113 :
   Nat) (81 : Int)).set (114 : Nat) (82 : Int)).set (115 : Nat) (83 : Int)).set (116 : Nat) (84 : Int)).set (117 : Nat) (85 : Int)).set (118 : Nat) (86 : Int)).set (119 : Nat) (87 : Int)).set (120 : Nat) (88 : Int)).set (121 : Nat) (89 : Int)).set (122
   : Nat) (90 : Int)) = LI [(65533 : Int), (65533 : Int), (65533 : Int), (65533 : Int), (65533 : Int), (65533 : Int), (65533 : Int), (65533 : Int), (65533 : Int), (65533 : Int), (65533 : Int), (65533 : Int), (65533 : Int), (65533 : Int), (65533 : Int),
   (65533 : Int), (65533 : Int), (65533 : Int), (65533 : Int), (65533 : Int), (65533 : Int), (65533 : Int), (65533 : Int), (65533 : Int), (65533 : Int), (65533 : Int), (65533 : Int), (65533 : Int), (65533 : Int), (65533 : Int), (65533 : Int), (65533 :
   Int), (32 : Int), (33 : Int), (34 : Int), (35 : Int), (36 : Int), (37 : Int), (38 : Int), (39 : Int), (40 : Int), (41 : Int), (42 : Int), (43 : Int), (44 : Int), (45 : Int), (46 : Int), (47 : Int), (48 : Int), (49 : Int), (50 : Int), (51 : Int), (52
   : Int), (53 : Int), (54 : Int), (55 : Int), (56 : Int), (57 : Int), (58 : Int), (59 : Int), (60 : Int), (61 : Int), (62 : Int), (63 : Int), (64 : Int), (65 : Int), (66 : Int), (67 : Int), (68 : Int), (69 : Int), (70 : Int), (71 : Int), (72 : Int),
   (73 : Int), (74 : Int), (75 : Int), (76 : Int), (77 : Int), (78 : Int), (79 : Int), (80 : Int), (81 : Int), (82 : Int), (83 : Int), (84 : Int), (85 : Int), (86 : Int), (87 : Int), (88 : Int), (89 : Int), (90 : Int), (91 : Int), (92 : Int), (93 :
   Int), (94 : Int), (95 : Int), (96 : Int), (65 : Int), (66 : Int), (67 : Int), (68 : Int), (69 : Int), (70 : Int), (71 : Int), (72 : Int), (73 : Int), (74 : Int), (75 : Int), (76 : Int), (77 : Int), (78 : Int), (79 : Int), (80 : Int), (81 : Int), (82
   : Int), (83 : Int), (84 : Int), (85 : Int), (86 : Int), (87 : Int), (88 : Int), (89 : Int), (90 : Int), (123 : Int), (124 : Int), (125 : Int), (126 : Int), (65533 : Int), (65533 : Int), (65533 : Int), (65533 : Int), (65533 : Int), (65533 : Int),
   (65533 : Int), (65533 : Int), (65533 : Int), (65533 : Int), (65533 : Int), (65533 : Int), (65533 : Int), (65533 : Int), (65533 : Int), (65533 : Int), (65533 : Int), (65533 : Int), (65533 : Int), (65533 : Int), (65533 : Int), (65533 : Int), (65533 :
   Int), (65533 : Int), (65533 : Int), (65533 : Int), (65533 : Int), (65533 : Int), (65533 : Int), (65533 : Int), (65533 : Int), (65533 : Int), (65533 : Int), (32 : Int), (33 : Int), (34 : Int), (35 : Int), (36 : Int), (37 : Int), (38 : Int), (39 :
   Int), (40 : Int), (41 : Int), (42 : Int), (43 : Int), (44 : Int), (45 : Int), (46 : Int), (47 : Int), (48 : Int), (49 : Int), (50 : Int), (51 : Int), (52 : Int), (53 : Int), (54 : Int), (55 : Int), (56 : Int), (57 : Int), (58 : Int), (59 : Int), (60
   : Int), (61 : Int), (62 : Int), (63 : Int), (64 : Int), (65 : Int), (66 : Int), (67 : Int), (68 : Int), (69 : Int), (70 : Int), (71 : Int), (72 : Int), (73 : Int), (74 : Int), (75 : Int), (76 : Int), (77 : Int), (78 : Int), (79 : Int), (80 : Int),
   (81 : Int), (82 : Int), (83 : Int), (84 : Int), (85 : Int), (86 : Int), (87 : Int), (88 : Int), (89 : Int), (90 : Int), (91 : Int), (92 : Int), (93 : Int), (94 : Int), (95 : Int), (96 : Int), (65 : Int), (66 : Int), (67 : Int), (68 : Int), (69 :
   Int), (70 : Int), (71 : Int), (72 : Int), (73 : Int), (74 : Int), (75 : Int), (76 : Int), (77 : Int), (78 : Int), (79 : Int), (80 : Int), (81 : Int), (82 : Int), (83 : Int), (84 : Int), (85 : Int), (86 : Int), (87 : Int), (88 : Int), (89 : Int), (90
   : Int), (123 : Int), (124 : Int), (125 : Int), (126 : Int), (65533 : Int)] ∧ True))) (by kernel_rfl) ?_
  refine ⟨⟨by omega, by omega⟩, ?_, ?_⟩
  · repeat' (first | exact trivial | refine And.intro ?_ ?_ | kernel_rfl)
  refine fun (x : Int) hx => ?_
  obtain ⟨hx0, hx1⟩ := hx
  refine br_intro (fun hlt => ?_) (fun hge => ?_)
  · have hlt : x < 256 := of_decide_eq_true hlt
    refine rq_t (in_range hx0 hlt) (rq_t (in_blt hx0 hlt) ?_)
    refine br_intro (fun h32 => ?_) (fun h32 => ?_)
    · have h32 : 32 ≤ x := of_decide_eq_true h32
      refine br_intro (fun h126 => ?_) (fun h126 => ?_)
      · have h126 : x ≤ 126 := of_decide_eq_true h126
        refine rq_t (in_range hx0 hlt) (rq_t (in_blt hx0 hlt) ⟨upto_next hx0 hlt, ?_, mu_next hx0 hlt⟩)
        rw [asc1 hx0 h32 h126]
        repeat' (first | exact trivial | refine And.intro ?_ ?_ | kernel_rfl)
      · have h126 : ¬ x ≤ 126 := of_decide_eq_false h126
        refine ⟨upto_next hx0 hlt, ?_, mu_next hx0 hlt⟩
        rw [asc2 hx0 hlt (fun h => h126 h.2)]
        repeat' (first | exact trivial | refine And.intro ?_ ?_ | kernel_rfl)
    · have h32 : ¬ 32 ≤ x := of_decide_eq_false h32
      refine ⟨upto_next hx0 hlt, ?_, mu_next hx0 hlt⟩
      rw [asc2 hx0 hlt (fun h => h32 h.1)]
      repeat' (first | exact trivial | refine And.intro ?_ ?_ | kernel_rfl)
  have hge : ¬ x < 256 := of_decide_eq_false hge
  obtain rfl : x = 256 := by omega
  repeat' (first | exact trivial | refine And.intro ?_ ?_ | kernel_rfl)
set_option maxHeartbeats 4000000 in
theorem of_d0 (m : Nat) : OfAsk (Int.negSucc m) := by
  unfold OfAsk
  refine kcast (B := (Upto (0 : Int) ∧ ((SV.v (Value.pointer none) = SV.v (Value.pointer none) ∧ SV.p (0 : Nat) (0 : Nat) = SV.p (0 : Nat) (0 : Nat) ∧ SV.v (Value.int IntKind.i64 (0 : Int)) = SV.v (Value.int IntKind.i64 (0 : Int)) ∧ True) ∧ LI [(0 :
   Int), (0 : Int), (0 : Int), (0 : Int), (0 : Int), (0 : Int), (0 : Int), (0 : Int), (0 : Int), (0 : Int), (0 : Int), (0 : Int), (0 : Int), (0 : Int), (0 : Int), (0 : Int), (0 : Int), (0 : Int), (0 : Int), (0 : Int), (0 : Int), (0 : Int), (0 : Int), (0
   : Int), (0 : Int), (0 : Int), (0 : Int), (0 : Int), (0 : Int), (0 : Int), (0 : Int), (0 : Int), (0 : Int), (0 : Int), (0 : Int), (0 : Int), (0 : Int), (0 : Int), (0 : Int), (0 : Int), (0 : Int), (0 : Int), (0 : Int), (0 : Int), (0 : Int), (0 : Int),
   (0 : Int), (0 : Int), (0 : Int), (0 : Int), (0 : Int), (0 : Int), (0 : Int), (0 : Int), (0 : Int), (0 : Int), (0 : Int), (0 : Int), (0 : Int), (0 : Int), (0 : Int), (0 : Int), (0 : Int), (0 : Int), (0 : Int), (0 : Int), (0 : Int), (0 : Int), (0 :
   Int), (0 : Int), (0 : Int), (0 : Int), (0 : Int), (0 : Int), (0 : Int), (0 : Int), (0 : Int), (0 : Int), (0 : Int), (0 : Int), (0 : Int), (0 : Int), (0 : Int), (0 : Int), (0 : Int), (0 : Int), (0 : Int), (0 : Int), (0 : Int), (0 : Int), (0 : Int), (0
   : Int), (0 : Int), (0 : Int), (0 : Int), (0 : Int), (0 : Int), (0 : Int), (0 : Int), (0 : Int), (0 : Int), (0 : Int), (0 : Int), (0 : Int), (0 : Int), (0 : Int), (0 : Int), (0 : Int), (0 : Int), (0 : Int), (0 : Int), (0 : Int), (0 : Int), (0 : Int),
   (0 : Int), (0 : Int), (0 : Int), (0 : Int), (0 : Int), (0 : Int), (0 : Int), (0 : Int), (0 : Int), (0 : Int), (0 : Int), (0 : Int), (0 : Int), (0 : Int), (0 : Int), (0 : Int), (0 : Int), (0 : Int), (0 : Int), (0 : Int), (0 : Int), (0 : Int), (0 :
   Int), (0 : Int), (0 : Int), (0 : Int), (0 : Int), (0 : Int), (0 : Int), (0 : Int), (0 : Int), (0 : Int), (0 : Int), (0 : Int), (0 : Int), (0 : Int), (0 : Int), (0 : Int), (0 : Int), (0 : Int), (0 : Int), (0 : Int), (0 : Int), (0 : Int), (0 : Int), (0
   : Int), (0 : Int), (0 : Int), (0 : Int), (0 : Int), (0 : Int), (0 : Int), (0 : Int), (0 : Int), (0 : Int), (0 : Int), (0 : Int), (0 : Int), (0 : Int), (0 : Int), (0 : Int), (0 : Int), (0 : Int), (0 : Int), (0 : Int), (0 : Int), (0 : Int), (0 : Int),
   (0 : Int), (0 : Int), (0 : Int), (0 : Int), (0 : Int), (0 : Int), (0 : Int), (0 : Int), (0 : Int), (0 : Int), (0 : Int), (0 : Int), (0 : Int), (0 : Int), (0 : Int), (0 : Int), (0 : Int), (0 : Int), (0 : Int), (0 : Int), (0 : Int), (0 : Int), (0 :
   Int), (0 : Int), (0 : Int), (0 : Int), (0 : Int), (0 : Int), (0 : Int), (0 : Int), (0 : Int), (0 : Int), (0 : Int), (0 : Int), (0 : Int), (0 : Int), (0 : Int), (0 : Int), (0 : Int), (0 : Int), (0 : Int), (0 : Int), (0 : Int), (0 : Int), (0 : Int), (0
   : Int), (0 : Int), (0 : Int), (0 : Int), (0 : Int), (0 : Int), (0 : Int), (0 : Int), (0 : Int), (0 : Int), (0 : Int), (0 : Int), (0 : Int), (0 : Int), (0 : Int), (0 : Int), (0 : Int), (0 : Int), (0 : Int), (0 : Int), (0 : Int), (0 : Int), (0 : Int),
   (0 : Int), (0 : Int), (0 : Int), (0 : Int), (0 : Int), (0 : Int)] = LI [(0 : Int), (0 : Int), (0 : Int), (0 : Int), (0 : Int), (0 : Int), (0 : Int), (0 : Int), (0 : Int), (0 : Int), (0 : Int), (0 : Int), (0 : Int), (0 : Int), (0 : Int), (0 : Int), (0
   : Int), (0 : Int), (0 : Int), (0 : Int), (0 : Int), (0 : Int), (0 : Int), (0 : Int), (0 : Int), (0 : Int), (0 : Int), (0 : Int), (0 : Int), (0 : Int), (0 : Int), (0 : Int), (0 : Int), (0 : Int), (0 : Int), (0 : Int), (0 : Int), (0 : Int), (0 : Int),
   (0 : Int), (0 : Int), (0 : Int), (0 : Int), (0 : Int), (0 : Int), (0 : Int), (0 : Int), (0 : Int), (0 : Int), (0 : Int), (0 : Int), (0 : Int), (0 : Int), (0 : Int), (0 : Int), (0 : Int), (0 : Int), (0 : Int), (0 : Int), (0 : Int), (0 : Int), (0 :
   Int), (0 : Int), (0 : Int), (0 : Int), (0 : Int), (0 : Int), (0 : Int), (0 : Int), (0 : Int), (0 : Int), (0 : Int), (0 : Int), (0 : Int), (0 : Int), (0 : Int), (0 : Int), (0 : Int), (0 : Int), (0 : Int), (0 : Int), (0 : Int), (0 : Int), (0 : Int), (0
   : Int), (0 : Int), (0 : Int), (0 : Int), (0 : Int), (0 : Int), (0 : Int), (0 : Int), (0 : Int), (0 : Int), (0 : Int), (0 : Int), (0 : Int), (0 : Int), (0 : Int), (0 : Int), (0 : Int), (0 : Int), (0 : Int), (0 : Int), (0 : Int), (0 : Int), (0 : Int),
   (0 : Int), (0 : Int), (0 : Int), (0 : Int), (0 : Int), (0 : Int), (0 : Int), (0 : Int), (0 : Int), (0 : Int), (0 : Int), (0 : Int), (0 : Int), (0 : Int), (0 : Int), (0 : Int), (0 : Int), (0 : Int), (0 : Int), (0 : Int), (0 : Int), (0 : Int), (0 :
   Int), (0 : Int), (0 : Int), (0 : Int), (0 : Int), (0 : Int), (0 : Int), (0 : Int), (0 : Int), (0 : Int), (0 : Int), (0 : Int), (0 : Int), (0 : Int), (0 : Int), (0 : Int), (0 : Int), (0 : Int), (0 : Int), (0 : Int), (0 : Int), (0 : Int), (0 : Int), (0
   : Int), (0 : Int), (0 : Int), (0 : Int), (0 : Int), (0 : Int), (0 : Int), (0 : Int), (0 : Int), (0 : Int), (0 : Int), (0 : Int), (0 : Int), (0 : Int), (0 : Int), (0 : Int), (0 : Int), (0 : Int), (0 : Int), (0 : Int), (0 : Int), (0 : Int), (0 : Int),
   (0 : Int), (0 : Int), (0 : Int), (0 : Int), (0 : Int), (0 : Int), (0 : Int), (0 : Int), (0 : Int), (0 : Int), (0 : Int), (0 : Int), (0 : Int), (0 : Int), (0 : Int), (0 : Int), (0 : Int), (0 : Int), (0 : Int), (0 : Int), (0 : Int), (0 : Int), (0 :
   Int), (0 : Int), (0 : Int), (0 : Int), (0 : Int), (0 : Int), (0 : Int), (0 : Int), (0 : Int), (0 : Int), (0 : Int), (0 : Int), (0 : Int), (0 : Int), (0 : Int), (0 : Int), (0 : Int), (0 : Int), (0 : Int), (0 : Int), (0 : Int), (0 : Int), (0 : Int), (0
   : Int), (0 : Int), (0 : Int), (0 : Int), (0 : Int), (0 : Int), (0 : Int), (0 : Int), (0 : Int), (0 : Int), (0 : Int), (0 : Int), (0 : Int), (0 : Int), (0 : Int), (0 : Int), (0 : Int), (0 : Int), (0 : Int), (0 : Int), (0 : Int), (0 : Int), (0 : Int),
   (0 : Int), (0 : Int), (0 : Int), (0 : Int), (0 : Int), (0 : Int), (0 : Int), (0 : Int), (0 : Int), (0 : Int), (0 : Int), (0 : Int), (0 : Int)] ∧ True) ∧ ∀ (x : Int), Upto x → br (decide (x < (256 : Int))) (rq (decide ((0 : Int) ≤ x ∧ x < (256 :
   Int))) (rq (((0 : Nat) + x.toNat * (1 : Nat)).blt (256 : Nat)) (br (decide (x ≥ (32 : Int))) (br (decide (x ≤ (126 : Int))) (rq (decide ((0 : Int) ≤ x ∧ x < (256 : Int))) (rq (((0 : Nat) + x.toNat * (1 : Nat)).blt (256 : Nat)) (Upto (IntKind.i64.wrap
   (x + (1 : Int))) ∧ ((SV.v (Value.pointer none) = SV.v (Value.pointer none) ∧ SV.p (0 : Nat) (0 : Nat) = SV.p (0 : Nat) (0 : Nat) ∧ SV.v (Value.int IntKind.i64 (IntKind.i64.wrap (x + (1 : Int)))) = SV.v (Value.int IntKind.i64 (IntKind.i64.wrap (x + (1
   : Int)))) ∧ True) ∧ ((ascL x.toNat).set ((0 : Nat) + x.toNat * (1 : Nat)) (65533 : Int)).set ((0 : Nat) + x.toNat * (1 : Nat)) (IntKind.i32.wrap x) = ascL (IntKind.i64.wrap (x + (1 : Int))).toNat ∧ True) ∧ ((256 : Int) - IntKind.i64.wrap (x + (1 :
   Int))).toNat < ((256 : Int) - x).toNat))) (Upto (IntKind.i64.wrap (x + (1 : Int))) ∧ ((SV.v (Value.pointer none) = SV.v (Value.pointer none) ∧ SV.p (0 : Nat) (0 : Nat) = SV.p (0 : Nat) (0 : Nat) ∧ SV.v (Value.int IntKind.i64 (IntKind.i64.wrap (x + (1
   : Int)))) = SV.v (Value.int IntKind.i64 (IntKind.i64.wrap (x + (1 : Int)))) ∧ True) ∧ (ascL x.toNat).set ((0 : Nat) + x.toNat * (1 : Nat)) (65533 : Int) = ascL (IntKind.i64.wrap (x + (1 : Int))).toNat ∧ True) ∧ ((256 : Int) - IntKind.i64.wrap (x + (1
   : Int))).toNat < ((256 : Int) - x).toNat)) (Upto (IntKind.i64.wrap (x + (1 : Int))) ∧ ((SV.v (Value.pointer none) = SV.v (Value.pointer none) ∧ SV.p (0 : Nat) (0 : Nat) = SV.p (0 : Nat) (0 : Nat) ∧ SV.v (Value.int IntKind.i64 (IntKind.i64.wrap (x +
   (1 : Int)))) = SV.v (Value.int IntKind.i64 (IntKind.i64.wrap (x + (1 : Int)))) ∧ True) ∧ (ascL x.toNat).set ((0 : Nat) + x.toNat * (1 : Nat)) (65533 : Int) = ascL (IntKind.i64.wrap (x + (1 : Int))).toNat ∧ True) ∧ ((256 : Int) - IntKind.i64.wrap (x +
   (1 : Int))).toNat < ((256 : Int) - x).toNat)))) (Upto (0 : Int) ∧ ((SV.v (Value.int IntKind.i64 (Int.negSucc m)) = SV.v (Value.int IntKind.i64 (Int.negSucc m)) ∧ SV.v (Value.pointer none) = SV.v (Value.pointer none) ∧ SV.p (0 : Nat) (0 : Nat) = SV.p
   (0 : Nat) (0 : Nat) ∧ SV.v (Value.int IntKind.i64 (0 : Int)) = SV.v (Value.int IntKind.i64 (0 : Int)) ∧ True) ∧ ascL x.toNat = LI [(65533 : Int), (65533 : Int), (65533 : Int), (65533 : Int), (65533 : Int), (65533 : Int), (65533 : Int), (65533 : Int),
   (65533 : Int), (65533 : Int), (65533 : Int), (65533 : Int), (65533 : Int), (65533 : Int), (65533 : Int), (65533 : Int), (65533 : Int), (65533 : Int), (65533 : Int), (65533 : Int), (65533 : Int), (65533 : Int), (65533 : Int), (65533 : Int), (65533 :
   Int), (65533 : Int), (65533 : Int), (65533 : Int), (65533 : Int), (65533 : Int), (65533 : Int), (65533 : Int), (32 : Int), (33 : Int), (34 : Int), (35 : Int), (36 : Int), (37 : Int), (38 : Int), (39 : Int), (40 : Int), (41 : Int), (42 : Int), (43 :
   Int), (44 : Int), (45 : Int), (46 : Int), (47 : Int), (48 : Int), (49 : Int), (50 : Int), (51 : Int), (52 : Int), (53 : Int), (54 : Int), (55 : Int), (56 : Int), (57 : Int), (58 : Int), (59 : Int), (60 : Int), (61 : Int), (62 : Int), (63 : Int), (64
   : Int), (65 : Int), (66 : Int), (67 : Int), (68 : Int), (69 : Int), (70 : Int), (71 : Int), (72 : Int), (73 : Int), (74 : Int), (75 : Int), (76 : Int), (77 : Int), (78 : Int), (79 : Int), (80 : Int), (81 : Int), (82 : Int), (83 : Int), (84 : Int),
   (85 : Int), (86 : Int), (87 : Int), (88 : Int), (89 : Int), (90 : Int), (91 : Int), (92 : Int), (93 : Int), (94 : Int), (95 : Int), (96 : Int), (97 : Int), (98 : Int), (99 : Int), (100 : Int), (101 : Int), (102 : Int), (103 : Int), (104 : Int), (105
   : Int), (106 : Int), (107 : Int), (108 : Int), (109 : Int), (110 : Int), (111 : Int), (112 : Int), (113 : Int), (114 : Int), (115 : Int), (116 : Int), (117 : Int), (118 : Int), (119 : Int), (120 : Int), (121 : Int), (122 : Int), (123 : Int), (124 :
   Int), (125 : Int), (126 : Int), (65533 : Int), (65533 : Int), (65533 : Int), (65533 : Int), (65533 : Int), (65533 : Int), (65533 : Int), (65533 : Int), (65533 : Int), (65533 : Int), (65533 : Int), (65533 : Int), (65533 : Int), (65533 : Int), (65533 :
   Int), (65533 : Int), (65533 : Int), (65533 : Int), (65533 : Int), (65533 : Int), (65533 : Int), (65533 : Int), (65533 : Int), (65533 : Int), (65533 : Int), (65533 : Int), (65533 : Int), (65533 : Int), (65533 : Int), (65533 : Int), (65533 : Int),
   (65533 : Int), (65533 : Int), (65533 : Int), (65533 : Int), (65533 : Int), (65533 : Int), (65533 : Int), (65533 : Int), (65533 : Int), (65533 : Int), (65533 : Int), (65533 : Int), (65533 : Int), (65533 : Int), (65533 : Int), (65533 : Int), (65533 :
   Int), (65533 : Int), (65533 : Int), (65533 : Int), (65533 : Int), (65533 : Int), (65533 : Int), (65533 : Int), (65533 : Int), (65533 : Int), (65533 : Int), (65533 : Int), (65533 : Int), (65533 : Int), (65533 : Int), (65533 : Int), (65533 : Int),
   (65533 : Int), (65533 : Int), (65533 : Int), (65533 : Int), (65533 : Int), (65533 : Int), (65533 : Int), (65533 : Int), (65533 : Int), (65533 : Int), (65533 : Int), (65533 : Int), (65533 : Int), (65533 : Int), (65533 : Int), (65533 : Int), (65533 :
   Int), (65533 : Int), (65533 : Int), (65533 : Int), (65533 : Int), (65533 : Int), (65533 : Int), (65533 : Int), (65533 : Int), (65533 : Int), (65533 : Int), (65533 : Int), (65533 : Int), (65533 : Int), (65533 : Int), (65533 : Int), (65533 : Int),
   (65533 : Int), (65533 : Int), (65533 : Int), (65533 : Int), (65533 : Int), (65533 : Int), (65533 : Int), (65533 : Int), (65533 : Int), (65533 : Int), (65533 : Int), (65533 : Int), (65533 : Int), (65533 : Int), (65533 : Int), (65533 : Int), (65533 :
   Int), (65533 : Int), (65533 : Int), (65533 : Int), (65533 : Int), (65533 : Int), (65533 : Int), (65533 : Int), (65533 : Int), (65533 : Int), (65533 : Int), (65533 : Int), (65533 : Int), (65533 : Int), (65533 : Int), (65533 : Int)] ∧ True) ∧ ∀ (x :
   Int), Upto x → br (decide (x < (256 : Int))) (rq (decide ((0 : Int) ≤ x ∧ x < (256 : Int))) (rq (((0 : Nat) + x.toNat * (1 : Nat)).blt (256 : Nat)) (Upto (IntKind.i64.wrap (x + (1 : Int))) ∧ ((SV.v (Value.int IntKind.i64 (Int.negSucc m)) = SV.v
   (Value.int IntKind.i64 (Int.negSucc m)) ∧ SV.v (Value.pointer none) = SV.v (Value.pointer none) ∧ SV.p (0 : Nat) (0 : Nat) = SV.p (0 : Nat) (0 : Nat) ∧ SV.v (Value.int IntKind.i64 (IntKind.i64.wrap (x + (1 : Int)))) = SV.v (Value.int IntKind.i64
   (IntKind.i64.wrap (x + (1 : Int)))) ∧ True) ∧ (defL x.toNat).set ((0 : Nat) + x.toNat * (1 : Nat)) (65533 : Int) = defL (IntKind.i64.wrap (x + (1 : Int))).toNat ∧ True) ∧ ((256 : Int) - IntKind.i64.wrap (x + (1 : Int))).toNat < ((256 : Int) -
   x).toNat))) ((SV.p (0 : Nat) (0 : Nat) = SV.p (0 : Nat) (0 : Nat) ∧ True) ∧ defL x.toNat = tabL2 (Int.negSucc m) ∧ True)))) (by kernel_rfl) ?_
  refine ⟨⟨by omega, by omega⟩, ?_, ?_⟩
  · repeat' (first | exact trivial | refine And.intro ?_ ?_ | kernel_rfl)
  refine fun (x : Int) hx => ?_
  obtain ⟨hx0, hx1⟩ := hx
  refine br_intro (fun hlt => ?_) (fun hge => ?_)
  · have hlt : x < 256 := of_decide_eq_true hlt
    refine rq_t (in_range hx0 hlt) (rq_t (in_blt hx0 hlt) ?_)
    refine br_intro (fun h32 => ?_) (fun h32 => ?_)
    · have h32 : 32 ≤ x := of_decide_eq_true h32
      refine br_intro (fun h126 => ?_) (fun h126 => ?_)
      · have h126 : x ≤ 126 := of_decide_eq_true h126
        refine rq_t (in_range hx0 hlt) (rq_t (in_blt hx0 hlt) ⟨upto_next hx0 hlt, ?_, mu_next hx0 hlt⟩)
        rw [asc1 hx0 h32 h126]
        repeat' (first | exact trivial | refine And.intro ?_ ?_ | kernel_rfl)
      · have h126 : ¬ x ≤ 126 := of_decide_eq_false h126
        refine ⟨upto_next hx0 hlt, ?_, mu_next hx0 hlt⟩
        rw [asc2 hx0 hlt (fun h => h126 h.2)]
        repeat' (first | exact trivial | refine And.intro ?_ ?_ | kernel_rfl)
    · have h32 : ¬ 32 ≤ x := of_decide_eq_false h32
      refine ⟨upto_next hx0 hlt, ?_, mu_next hx0 hlt⟩
      rw [asc2 hx0 hlt (fun h => h32 h.1)]
      repeat' (first | exact trivial | refine And.intro ?_ ?_ | kernel_rfl)
  have hge : ¬ x < 256 := of_decide_eq_false hge
  obtain rfl : x = 256 := by omega
  refine ⟨⟨by omega, by omega⟩, ?_, ?_⟩
  · repeat' (first | exact trivial | refine And.intro ?_ ?_ | kernel_rfl)
  refine fun (x : Int) hx => ?_
  obtain ⟨hx0, hx1⟩ := hx
  refine br_intro (fun hlt => ?_) (fun hge => ?_)
  · have hlt : x < 256 := of_decide_eq_true hlt
    refine rq_t (in_range hx0 hlt) (rq_t (in_blt hx0 hlt) ⟨upto_next hx0 hlt, ?_, mu_next hx0 hlt⟩)
    rw [def1 hx0 hlt]
    repeat' (first | exact trivial | refine And.intro ?_ ?_ | kernel_rfl)
  have hge : ¬ x < 256 := of_decide_eq_false hge
  obtain rfl : x = 256 := by omega
  have hd := def_tab (set := Int.negSucc m) fun b => by simp [ofT] <;> omega
  rw [hd]
  repeat' (first | exact trivial | refine And.intro ?_ ?_ | kernel_rfl)
set_option maxHeartbeats 4000000 in
theorem of_d1 (m : Nat) : OfAsk (0) := by
  unfold OfAsk
  refine kcast (B := (Upto (0 : Int) ∧ ((SV.v (Value.pointer none) = SV.v (Value.pointer none) ∧ SV.p (0 : Nat) (0 : Nat) = SV.p (0 : Nat) (0 : Nat) ∧ SV.v (Value.int IntKind.i64 (0 : Int)) = SV.v (Value.int IntKind.i64 (0 : Int)) ∧ True) ∧ LI [(0 :
   Int), (0 : Int), (0 : Int), (0 : Int), (0 : Int), (0 : Int), (0 : Int), (0 : Int), (0 : Int), (0 : Int), (0 : Int), (0 : Int), (0 : Int), (0 : Int), (0 : Int), (0 : Int), (0 : Int), (0 : Int), (0 : Int), (0 : Int), (0 : Int), (0 : Int), (0 : Int), (0
   : Int), (0 : Int), (0 : Int), (0 : Int), (0 : Int), (0 : Int), (0 : Int), (0 : Int), (0 : Int), (0 : Int), (0 : Int), (0 : Int), (0 : Int), (0 : Int), (0 : Int), (0 : Int), (0 : Int), (0 : Int), (0 : Int), (0 : Int), (0 : Int), (0 : Int), (0 : Int),
   (0 : Int), (0 : Int), (0 : Int), (0 : Int), (0 : Int), (0 : Int), (0 : Int), (0 : Int), (0 : Int), (0 : Int), (0 : Int), (0 : Int), (0 : Int), (0 : Int), (0 : Int), (0 : Int), (0 : Int), (0 : Int), (0 : Int), (0 : Int), (0 : Int), (0 : Int), (0 :
   Int), (0 : Int), (0 : Int), (0 : Int), (0 : Int), (0 : Int), (0 : Int), (0 : Int), (0 : Int), (0 : Int), (0 : Int), (0 : Int), (0 : Int), (0 : Int), (0 : Int), (0 : Int), (0 : Int), (0 : Int), (0 : Int), (0 : Int), (0 : Int), (0 : Int), (0 : Int), (0
   : Int), (0 : Int), (0 : Int), (0 : Int), (0 : Int), (0 : Int), (0 : Int), (0 : Int), (0 : Int), (0 : Int), (0 : Int), (0 : Int), (0 : Int), (0 : Int), (0 : Int), (0 : Int), (0 : Int), (0 : Int), (0 : Int), (0 : Int), (0 : Int), (0 : Int), (0 : Int),
   (0 : Int), (0 : Int), (0 : Int), (0 : Int), (0 : Int), (0 : Int), (0 : Int), (0 : Int), (0 : Int), (0 : Int), (0 : Int), (0 : Int), (0 : Int), (0 : Int), (0 : Int), (0 : Int), (0 : Int), (0 : Int), (0 : Int), (0 : Int), (0 : Int), (0 : Int), (0 :
   Int), (0 : Int), (0 : Int), (0 : Int), (0 : Int), (0 : Int), (0 : Int), (0 : Int), (0 : Int), (0 : Int), (0 : Int), (0 : Int), (0 : Int), (0 : Int), (0 : Int), (0 : Int), (0 : Int), (0 : Int), (0 : Int), (0 : Int), (0 : Int), (0 : Int), (0 : Int), (0
   : Int), (0 : Int), (0 : Int), (0 : Int), (0 : Int), (0 : Int), (0 : Int), (0 : Int), (0 : Int), (0 : Int), (0 : Int), (0 : Int), (0 : Int), (0 : Int), (0 : Int), (0 : Int), (0 : Int), (0 : Int), (0 : Int), (0 : Int), (0 : Int), (0 : Int), (0 : Int),
   (0 : Int), (0 : Int), (0 : Int), (0 : Int), (0 : Int), (0 : Int), (0 : Int), (0 : Int), (0 : Int), (0 : Int), (0 : Int), (0 : Int), (0 : Int), (0 : Int), (0 : Int), (0 : Int), (0 : Int), (0 : Int), (0 : Int), (0 : Int), (0 : Int), (0 : Int), (0 :
   Int), (0 : Int), (0 : Int), (0 : Int), (0 : Int), (0 : Int), (0 : Int), (0 : Int), (0 : Int), (0 : Int), (0 : Int), (0 : Int), (0 : Int), (0 : Int), (0 : Int), (0 : Int), (0 : Int), (0 : Int), (0 : Int), (0 : Int), (0 : Int), (0 : Int), (0 : Int), (0
   : Int), (0 : Int), (0 : Int), (0 : Int), (0 : Int), (0 : Int), (0 : Int), (0 : Int), (0 : Int), (0 : Int), (0 : Int), (0 : Int), (0 : Int), (0 : Int), (0 : Int), (0 : Int), (0 : Int), (0 : Int), (0 : Int), (0 : Int), (0 : Int), (0 : Int), (0 : Int),
   (0 : Int), (0 : Int), (0 : Int), (0 : Int), (0 : Int), (0 : Int)] = LI [(0 : Int), (0 : Int), (0 : Int), (0 : Int), (0 : Int), (0 : Int), (0 : Int), (0 : Int), (0 : Int), (0 : Int), (0 : Int), (0 : Int), (0 : Int), (0 : Int), (0 : Int), (0 : Int), (0
   : Int), (0 : Int), (0 : Int), (0 : Int), (0 : Int), (0 : Int), (0 : Int), (0 : Int), (0 : Int), (0 : Int), (0 : Int), (0 : Int), (0 : Int), (0 : Int), (0 : Int), (0 : Int), (0 : Int), (0 : Int), (0 : Int), (0 : Int), (0 : Int), (0 : Int), (0 : Int),
   (0 : Int), (0 : Int), (0 : Int), (0 : Int), (0 : Int), (0 : Int), (0 : Int), (0 : Int), (0 : Int), (0 : Int), (0 : Int), (0 : Int), (0 : Int), (0 : Int), (0 : Int), (0 : Int), (0 : Int), (0 : Int), (0 : Int), (0 : Int), (0 : Int), (0 : Int), (0 :
   Int), (0 : Int), (0 : Int), (0 : Int), (0 : Int), (0 : Int), (0 : Int), (0 : Int), (0 : Int), (0 : Int), (0 : Int), (0 : Int), (0 : Int), (0 : Int), (0 : Int), (0 : Int), (0 : Int), (0 : Int), (0 : Int), (0 : Int), (0 : Int), (0 : Int), (0 : Int), (0
   : Int), (0 : Int), (0 : Int), (0 : Int), (0 : Int), (0 : Int), (0 : Int), (0 : Int), (0 : Int), (0 : Int), (0 : Int), (0 : Int), (0 : Int), (0 : Int), (0 : Int), (0 : Int), (0 : Int), (0 : Int), (0 : Int), (0 : Int), (0 : Int), (0 : Int), (0 : Int),
   (0 : Int), (0 : Int), (0 : Int), (0 : Int), (0 : Int), (0 : Int), (0 : Int), (0 : Int), (0 : Int), (0 : Int), (0 : Int), (0 : Int), (0 : Int), (0 : Int), (0 : Int), (0 : Int), (0 : Int), (0 : Int), (0 : Int), (0 : Int), (0 : Int), (0 : Int), (0 :
   Int), (0 : Int), (0 : Int), (0 : Int), (0 : Int), (0 : Int), (0 : Int), (0 : Int), (0 : Int), (0 : Int), (0 : Int), (0 : Int), (0 : Int), (0 : Int), (0 : Int), (0 : Int), (0 : Int), (0 : Int), (0 : Int), (0 : Int), (0 : Int), (0 : Int), (0 : Int), (0
   : Int), (0 : Int), (0 : Int), (0 : Int), (0 : Int), (0 : Int), (0 : Int), (0 : Int), (0 : Int), (0 : Int), (0 : Int), (0 : Int), (0 : Int), (0 : Int), (0 : Int), (0 : Int), (0 : Int), (0 : Int), (0 : Int), (0 : Int), (0 : Int), (0 : Int), (0 : Int),
   (0 : Int), (0 : Int), (0 : Int), (0 : Int), (0 : Int), (0 : Int), (0 : Int), (0 : Int), (0 : Int), (0 : Int), (0 : Int), (0 : Int), (0 : Int), (0 : Int), (0 : Int), (0 : Int), (0 : Int), (0 : Int), (0 : Int), (0 : Int), (0 : Int), (0 : Int), (0 :
   Int), (0 : Int), (0 : Int), (0 : Int), (0 : Int), (0 : Int), (0 : Int), (0 : Int), (0 : Int), (0 : Int), (0 : Int), (0 : Int), (0 : Int), (0 : Int), (0 : Int), (0 : Int), (0 : Int), (0 : Int), (0 : Int), (0 : Int), (0 : Int), (0 : Int), (0 : Int), (0
   : Int), (0 : Int), (0 : Int), (0 : Int), (0 : Int), (0 : Int), (0 : Int), (0 : Int), (0 : Int), (0 : Int), (0 : Int), (0 : Int), (0 : Int), (0 : Int), (0 : Int), (0 : Int), (0 : Int), (0 : Int), (0 : Int), (0 : Int), (0 : Int), (0 : Int), (0 : Int),
   (0 : Int), (0 : Int), (0 : Int), (0 : Int), (0 : Int), (0 : Int), (0 : Int), (0 : Int), (0 : Int), (0 : Int), (0 : Int), (0 : Int), (0 : Int)] ∧ True) ∧ ∀ (x : Int), Upto x → br (decide (x < (256 : Int))) (rq (decide ((0 : Int) ≤ x ∧ x < (256 :
   Int))) (rq (((0 : Nat) + x.toNat * (1 : Nat)).blt (256 : Nat)) (br (decide (x ≥ (32 : Int))) (br (decide (x ≤ (126 : Int))) (rq (decide ((0 : Int) ≤ x ∧ x < (256 : Int))) (rq (((0 : Nat) + x.toNat * (1 : Nat)).blt (256 : Nat)) (Upto (IntKind.i64.wrap
   (x + (1 : Int))) ∧ ((SV.v (Value.pointer none) = SV.v (Value.pointer none) ∧ SV.p (0 : Nat) (0 : Nat) = SV.p (0 : Nat) (0 : Nat) ∧ SV.v (Value.int IntKind.i64 (IntKind.i64.wrap (x + (1 : Int)))) = SV.v (Value.int IntKind.i64 (IntKind.i64.wrap (x + (1
   : Int)))) ∧ True) ∧ ((ascL x.toNat).set ((0 : Nat) + x.toNat * (1 : Nat)) (65533 : Int)).set ((0 : Nat) + x.toNat * (1 : Nat)) (IntKind.i32.wrap x) = ascL (IntKind.i64.wrap (x + (1 : Int))).toNat ∧ True) ∧ ((256 : Int) - IntKind.i64.wrap (x + (1 :
   Int))).toNat < ((256 : Int) - x).toNat))) (Upto (IntKind.i64.wrap (x + (1 : Int))) ∧ ((SV.v (Value.pointer none) = SV.v (Value.pointer none) ∧ SV.p (0 : Nat) (0 : Nat) = SV.p (0 : Nat) (0 : Nat) ∧ SV.v (Value.int IntKind.i64 (IntKind.i64.wrap (x + (1
   : Int)))) = SV.v (Value.int IntKind.i64 (IntKind.i64.wrap (x + (1 : Int)))) ∧ True) ∧ (ascL x.toNat).set ((0 : Nat) + x.toNat * (1 : Nat)) (65533 : Int) = ascL (IntKind.i64.wrap (x + (1 : Int))).toNat ∧ True) ∧ ((256 : Int) - IntKind.i64.wrap (x + (1
   : Int))).toNat < ((256 : Int) - x).toNat)) (Upto (IntKind.i64.wrap (x + (1 : Int))) ∧ ((SV.v (Value.pointer none) = SV.v (Value.pointer none) ∧ SV.p (0 : Nat) (0 : Nat) = SV.p (0 : Nat) (0 : Nat) ∧ SV.v (Value.int IntKind.i64 (IntKind.i64.wrap (x +
   (1 : Int)))) = SV.v (Value.int IntKind.i64 (IntKind.i64.wrap (x + (1 : Int)))) ∧ True) ∧ (ascL x.toNat).set ((0 : Nat) + x.toNat * (1 : Nat)) (65533 : Int) = ascL (IntKind.i64.wrap (x + (1 : Int))).toNat ∧ True) ∧ ((256 : Int) - IntKind.i64.wrap (x +
   (1 : Int))).toNat < ((256 : Int) - x).toNat)))) (Upto (0 : Int) ∧ ((SV.v (Value.int IntKind.i64 (0 : Int)) = SV.v (Value.int IntKind.i64 (0 : Int)) ∧ SV.v (Value.pointer none) = SV.v (Value.pointer none) ∧ SV.p (0 : Nat) (0 : Nat) = SV.p (0 : Nat) (0
   : Nat) ∧ SV.v (Value.int IntKind.i64 (0 : Int)) = SV.v (Value.int IntKind.i64 (0 : Int)) ∧ True) ∧ ascL x.toNat = LI [(65533 : Int), (65533 : Int), (65533 : Int), (65533 : Int), (65533 : Int), (65533 : Int), (65533 : Int), (65533 : Int), (65533 :
   Int), (65533 : Int), (65533 : Int), (65533 : Int), (65533 : Int), (65533 : Int), (65533 : Int), (65533 : Int), (65533 : Int), (65533 : Int), (65533 : Int), (65533 : Int), (65533 : Int), (65533 : Int), (65533 : Int), (65533 : Int), (65533 : Int),
   (65533 : Int), (65533 : Int), (65533 : Int), (65533 : Int), (65533 : Int), (65533 : Int), (65533 : Int), (32 : Int), (33 : Int), (34 : Int), (35 : Int), (36 : Int), (37 : Int), (38 : Int), (39 : Int), (40 : Int), (41 : Int), (42 : Int), (43 : Int),
   (44 : Int), (45 : Int), (46 : Int), (47 : Int), (48 : Int), (49 : Int), (50 : Int), (51 : Int), (52 : Int), (53 : Int), (54 : Int), (55 : Int), (56 : Int), (57 : Int), (58 : Int), (59 : Int), (60 : Int), (61 : Int), (62 : Int), (63 : Int), (64 :
   Int), (65 : Int), (66 : Int), (67 : Int), (68 : Int), (69 : Int), (70 : Int), (71 : Int), (72 : Int), (73 : Int), (74 : Int), (75 : Int), (76 : Int), (77 : Int), (78 : Int), (79 : Int), (80 : Int), (81 : Int), (82 : Int), (83 : Int), (84 : Int), (85
   : Int), (86 : Int), (87 : Int), (88 : Int), (89 : Int), (90 : Int), (91 : Int), (92 : Int), (93 : Int), (94 : Int), (95 : Int), (96 : Int), (97 : Int), (98 : Int), (99 : Int), (100 : Int), (101 : Int), (102 : Int), (103 : Int), (104 : Int), (105 :
   Int), (106 : Int), (107 : Int), (108 : Int), (109 : Int), (110 : Int), (111 : Int), (112 : Int), (113 : Int), (114 : Int), (115 : Int), (116 : Int), (117 : Int), (118 : Int), (119 : Int), (120 : Int), (121 : Int), (122 : Int), (123 : Int), (124 :
   Int), (125 : Int), (126 : Int), (65533 : Int), (65533 : Int), (65533 : Int), (65533 : Int), (65533 : Int), (65533 : Int), (65533 : Int), (65533 : Int), (65533 : Int), (65533 : Int), (65533 : Int), (65533 : Int), (65533 : Int), (65533 : Int), (65533 :
   Int), (65533 : Int), (65533 : Int), (65533 : Int), (65533 : Int), (65533 : Int), (65533 : Int), (65533 : Int), (65533 : Int), (65533 : Int), (65533 : Int), (65533 : Int), (65533 : Int), (65533 : Int), (65533 : Int), (65533 : Int), (65533 : Int),
   (65533 : Int), (65533 : Int), (65533 : Int), (65533 : Int), (65533 : Int), (65533 : Int), (65533 : Int), (65533 : Int), (65533 : Int), (65533 : Int), (65533 : Int), (65533 : Int), (65533 : Int), (65533 : Int), (65533 : Int), (65533 : Int), (65533 :
   Int), (65533 : Int), (65533 : Int), (65533 : Int), (65533 : Int), (65533 : Int), (65533 : Int), (65533 : Int), (65533 : Int), (65533 : Int), (65533 : Int), (65533 : Int), (65533 : Int), (65533 : Int), (65533 : Int), (65533 : Int), (65533 : Int),
   (65533 : Int), (65533 : Int), (65533 : Int), (65533 : Int), (65533 : Int), (65533 : Int), (65533 : Int), (65533 : Int), (65533 : Int), (65533 : Int), (65533 : Int), (65533 : Int), (65533 : Int), (65533 : Int), (65533 : Int), (65533 : Int), (65533 :
   Int), (65533 : Int), (65533 : Int), (65533 : Int), (65533 : Int), (65533 : Int), (65533 : Int), (65533 : Int), (65533 : Int), (65533 : Int), (65533 : Int), (65533 : Int), (65533 : Int), (65533 : Int), (65533 : Int), (65533 : Int), (65533 : Int),
   (65533 : Int), (65533 : Int), (65533 : Int), (65533 : Int), (65533 : Int), (65533 : Int), (65533 : Int), (65533 : Int), (65533 : Int), (65533 : Int), (65533 : Int), (65533 : Int), (65533 : Int), (65533 : Int), (65533 : Int), (65533 : Int), (65533 :
   Int), (65533 : Int), (65533 : Int), (65533 : Int), (65533 : Int), (65533 : Int), (65533 : Int), (65533 : Int), (65533 : Int), (65533 : Int), (65533 : Int), (65533 : Int), (65533 : Int), (65533 : Int), (65533 : Int), (65533 : Int)] ∧ True) ∧ ∀ (x :
   Int), Upto x → br (decide (x < (256 : Int))) (rq (decide ((0 : Int) ≤ x ∧ x < (256 : Int))) (rq (((0 : Nat) + x.toNat * (1 : Nat)).blt (256 : Nat)) (Upto (IntKind.i64.wrap (x + (1 : Int))) ∧ ((SV.v (Value.int IntKind.i64 (0 : Int)) = SV.v (Value.int
   IntKind.i64 (0 : Int)) ∧ SV.v (Value.pointer none) = SV.v (Value.pointer none) ∧ SV.p (0 : Nat) (0 : Nat) = SV.p (0 : Nat) (0 : Nat) ∧ SV.v (Value.int IntKind.i64 (IntKind.i64.wrap (x + (1 : Int)))) = SV.v (Value.int IntKind.i64 (IntKind.i64.wrap (x
   + (1 : Int)))) ∧ True) ∧ (defL x.toNat).set ((0 : Nat) + x.toNat * (1 : Nat)) (65533 : Int) = defL (IntKind.i64.wrap (x + (1 : Int))).toNat ∧ True) ∧ ((256 : Int) - IntKind.i64.wrap (x + (1 : Int))).toNat < ((256 : Int) - x).toNat))) ((SV.p (0 : Nat)
   (0 : Nat) = SV.p (0 : Nat) (0 : Nat) ∧ True) ∧ defL x.toNat = LI [(65533 : Int), (65533 : Int), (65533 : Int), (65533 : Int), (65533 : Int), (65533 : Int), (65533 : Int), (65533 : Int), (65533 : Int), (65533 : Int), (65533 : Int), (65533 : Int),
   (65533 : Int), (65533 : Int), (65533 : Int), (65533 : Int), (65533 : Int), (65533 : Int), (65533 : Int), (65533 : Int), (65533 : Int), (65533 : Int), (65533 : Int), (65533 : Int), (65533 : Int), (65533 : Int), (65533 : Int), (65533 : Int), (65533 :
   Int), (65533 : Int), (65533 : Int), (65533 : Int), (65533 : Int), (65533 : Int), (65533 : Int), (65533 : Int), (65533 : Int), (65533 : Int), (65533 : Int), (65533 : Int), (65533 : Int), (65533 : Int), (65533 : Int), (65533 : Int), (65533 : Int),
   (65533 : Int), (65533 : Int), (65533 : Int), (65533 : Int), (65533 : Int), (65533 : Int), (65533 : Int), (65533 : Int), (65533 : Int), (65533 : Int), (65533 : Int), (65533 : Int), (65533 : Int), (65533 : Int), (65533 : Int), (65533 : Int), (65533 :
   Int), (65533 : Int), (65533 : Int), (65533 : Int), (65533 : Int), (65533 : Int), (65533 : Int), (65533 : Int), (65533 : Int), (65533 : Int), (65533 : Int), (65533 : Int), (65533 : Int), (65533 : Int), (65533 : Int), (65533 : Int), (65533 : Int),
   (65533 : Int), (65533 : Int), (65533 : Int), (65533 : Int), (65533 : Int), (65533 : Int), (65533 : Int), (65533 : Int), (65533 : Int), (65533 : Int), (65533 : Int), (65533 : Int), (65533 : Int), (65533 : Int), (65533 : Int), (65533 : Int), (65533 :
   Int), (65533 : Int), (65533 : Int), (65533 : Int), (65533 : Int), (65533 : Int), (65533 : Int), (65533 : Int), (65533 : Int), (65533 : Int), (65533 : Int), (65533 : Int), (65533 : Int), (65533 : Int), (65533 : Int), (65533 : Int), (65533 : Int),
   (65533 : Int), (65533 : Int), (65533 : Int), (65533 : Int), (65533 : Int), (65533 : Int), (65533 : Int), (65533 : Int), (65533 : Int), (65533 : Int), (65533 : Int), (65533 : Int), (65533 : Int), (65533 : Int), (65533 : Int), (65533 : Int), (65533 :
   Int), (65533 : Int), (65533 : Int), (65533 : Int), (65533 : Int), (65533 : Int), (65533 : Int), (65533 : Int), (65533 : Int), (65533 : Int), (65533 : Int), (65533 : Int), (65533 : Int), (65533 : Int), (65533 : Int), (65533 : Int), (65533 : Int),
   (65533 : Int), (65533 : Int), (65533 : Int), (65533 : Int), (65533 : Int), (65533 : Int), (65533 : Int), (65533 : Int), (65533 : Int), (65533 : Int), (65533 : Int), (65533 : Int), (65533 : Int), (65533 : Int), (65533 : Int), (65533 : Int), (65533 :
   Int), (65533 : Int), (65533 : Int), (65533 : Int), (65533 : Int), (65533 : Int), (65533 : Int), (65533 : Int), (65533 : Int), (65533 : Int), (65533 : Int), (65533 : Int), (65533 : Int), (65533 : Int), (65533 : Int), (65533 : Int), (65533 : Int),
   (65533 : Int), (65533 : Int), (65533 : Int), (65533 : Int), (65533 : Int), (65533 : Int), (65533 : Int), (65533 : Int), (65533 : Int), (65533 : Int), (65533 : Int), (65533 : Int), (65533 : Int), (65533 : Int), (65533 : Int), (65533 : Int), (65533 :
   Int), (65533 : Int), (65533 : Int), (65533 : Int), (65533 : Int), (65533 : Int), (65533 : Int), (65533 : Int), (65533 : Int), (65533 : Int), (65533 : Int), (65533 : Int), (65533 : Int), (65533 : Int), (65533 : Int), (65533 : Int), (65533 : Int),
   (65533 : Int), (65533 : Int), (65533 : Int), (65533 : Int), (65533 : Int), (65533 : Int), (65533 : Int), (65533 : Int), (65533 : Int), (65533 : Int), (65533 : Int), (65533 : Int), (65533 : Int), (65533 : Int), (65533 : Int), (65533 : Int), (65533 :
   Int), (65533 : Int), (65533 : Int), (65533 : Int), (65533 : Int), (65533 : Int), (65533 : Int), (65533 : Int), (65533 : Int), (65533 : Int), (65533 : Int), (65533 : Int), (65533 : Int), (65533 : Int), (65533 : Int), (65533 : Int), (65533 : Int),
   (65533 : Int), (65533 : Int), (65533 : Int), (65533 : Int), (65533 : Int), (65533 : Int), (65533 : Int), (65533 : Int), (65533 : Int), (65533 : Int), (65533 : Int), (65533 : Int), (65533 : Int)] ∧ True)))) (by kernel_rfl) ?_
  refine ⟨⟨by omega, by omega⟩, ?_, ?_⟩
  · repeat' (first | exact trivial | refine And.intro ?_ ?_ | kernel_rfl)
  refine fun (x : Int) hx => ?_
  obtain ⟨hx0, hx1⟩ := hx
  refine br_intro (fun hlt => ?_) (fun hge => ?_)
  · have hlt : x < 256 := of_decide_eq_true hlt
    refine rq_t (in_range hx0 hlt) (rq_t (in_blt hx0 hlt) ?_)
    refine br_intro (fun h32 => ?_) (fun h32 => ?_)
    · have h32 : 32 ≤ x := of_decide_eq_true h32
      refine br_intro (fun h126 => ?_) (fun h126 => ?_)
      · have h126 : x ≤ 126 := of_decide_eq_true h126
        refine rq_t (in_range hx0 hlt) (rq_t (in_blt hx0 hlt) ⟨upto_next hx0 hlt, ?_, mu_next hx0 hlt⟩)
        rw [asc1 hx0 h32 h126]
        repeat' (first | exact trivial | refine And.intro ?_ ?_ | kernel_rfl)
      · have h126 : ¬ x ≤ 126 := of_decide_eq_false h126
        refine ⟨upto_next hx0 hlt, ?_, mu_next hx0 hlt⟩
        rw [asc2 hx0 hlt (fun h => h126 h.2)]
        repeat' (first | exact trivial | refine And.intro ?_ ?_ | kernel_rfl)
    · have h32 : ¬ 32 ≤ x := of_decide_eq_false h32
      refine ⟨upto_next hx0 hlt, ?_, mu_next hx0 hlt⟩
      rw [asc2 hx0 hlt (fun h => h32 h.1)]
      repeat' (first | exact trivial | refine And.intro ?_ ?_ | kernel_rfl)
  have hge : ¬ x < 256 := of_decide_eq_false hge
  obtain rfl : x = 256 := by omega
  refine ⟨⟨by omega, by omega⟩, ?_, ?_⟩
  · repeat' (first | exact trivial | refine And.intro ?_ ?_ | kernel_rfl)
  refine fun (x : Int) hx => ?_
  obtain ⟨hx0, hx1⟩ := hx
  refine br_intro (fun hlt => ?_) (fun hge => ?_)
  · have hlt : x < 256 := of_decide_eq_true hlt
    refine rq_t (in_range hx0 hlt) (rq_t (in_blt hx0 hlt) ⟨upto_next hx0 hlt, ?_, mu_next hx0 hlt⟩)
    rw [def1 hx0 hlt]
    repeat' (first | exact trivial | refine And.intro ?_ ?_ | kernel_rfl)
  have hge : ¬ x < 256 := of_decide_eq_false hge
  obtain rfl : x = 256 := by omega
  have hd := def_tab (set := 0) fun b => by simp [ofT] <;> omega
  rw [hd]
  repeat' (first | exact trivial | refine And.intro ?_ ?_ | kernel_rfl)
set_option maxHeartbeats 4000000 in
theorem of_d2 (m : Nat) : OfAsk (Int.ofNat (m + 6)) := by
  unfold OfAsk
  refine kcast (B := (Upto (0 : Int) ∧ ((SV.v (Value.pointer none) = SV.v (Value.pointer none) ∧ SV.p (0 : Nat) (0 : Nat) = SV.p (0 : Nat) (0 : Nat) ∧ SV.v (Value.int IntKind.i64 (0 : Int)) = SV.v (Value.int IntKind.i64 (0 : Int)) ∧ True) ∧ LI [(0 :
   Int), (0 : Int), (0 : Int), (0 : Int), (0 : Int), (0 : Int), (0 : Int), (0 : Int), (0 : Int), (0 : Int), (0 : Int), (0 : Int), (0 : Int), (0 : Int), (0 : Int), (0 : Int), (0 : Int), (0 : Int), (0 : Int), (0 : Int), (0 : Int), (0 : Int), (0 : Int), (0
   : Int), (0 : Int), (0 : Int), (0 : Int), (0 : Int), (0 : Int), (0 : Int), (0 : Int), (0 : Int), (0 : Int), (0 : Int), (0 : Int), (0 : Int), (0 : Int), (0 : Int), (0 : Int), (0 : Int), (0 : Int), (0 : Int), (0 : Int), (0 : Int), (0 : Int), (0 : Int),
   (0 : Int), (0 : Int), (0 : Int), (0 : Int), (0 : Int), (0 : Int), (0 : Int), (0 : Int), (0 : Int), (0 : Int), (0 : Int), (0 : Int), (0 : Int), (0 : Int), (0 : Int), (0 : Int), (0 : Int), (0 : Int), (0 : Int), (0 : Int), (0 : Int), (0 : Int), (0 :
   Int), (0 : Int), (0 : Int), (0 : Int), (0 : Int), (0 : Int), (0 : Int), (0 : Int), (0 : Int), (0 : Int), (0 : Int), (0 : Int), (0 : Int), (0 : Int), (0 : Int), (0 : Int), (0 : Int), (0 : Int), (0 : Int), (0 : Int), (0 : Int), (0 : Int), (0 : Int), (0
   : Int), (0 : Int), (0 : Int), (0 : Int), (0 : Int), (0 : Int), (0 : Int), (0 : Int), (0 : Int), (0 : Int), (0 : Int), (0 : Int), (0 : Int), (0 : Int), (0 : Int), (0 : Int), (0 : Int), (0 : Int), (0 : Int), (0 : Int), (0 : Int), (0 : Int), (0 : Int),
   (0 : Int), (0 : Int), (0 : Int), (0 : Int), (0 : Int), (0 : Int), (0 : Int), (0 : Int), (0 : Int), (0 : Int), (0 : Int), (0 : Int), (0 : Int), (0 : Int), (0 : Int), (0 : Int), (0 : Int), (0 : Int), (0 : Int), (0 : Int), (0 : Int), (0 : Int), (0 :
   Int), (0 : Int), (0 : Int), (0 : Int), (0 : Int), (0 : Int), (0 : Int), (0 : Int), (0 : Int), (0 : Int), (0 : Int), (0 : Int), (0 : Int), (0 : Int), (0 : Int), (0 : Int), (0 : Int), (0 : Int), (0 : Int), (0 : Int), (0 : Int), (0 : Int), (0 : Int), (0
   : Int), (0 : Int), (0 : Int), (0 : Int), (0 : Int), (0 : Int), (0 : Int), (0 : Int), (0 : Int), (0 : Int), (0 : Int), (0 : Int), (0 : Int), (0 : Int), (0 : Int), (0 : Int), (0 : Int), (0 : Int), (0 : Int), (0 : Int), (0 : Int), (0 : Int), (0 : Int),
   (0 : Int), (0 : Int), (0 : Int), (0 : Int), (0 : Int), (0 : Int), (0 : Int), (0 : Int), (0 : Int), (0 : Int), (0 : Int), (0 : Int), (0 : Int), (0 : Int), (0 : Int), (0 : Int), (0 : Int), (0 : Int), (0 : Int), (0 : Int), (0 : Int), (0 : Int), (0 :
   Int), (0 : Int), (0 : Int), (0 : Int), (0 : Int), (0 : Int), (0 : Int), (0 : Int), (0 : Int), (0 : Int), (0 : Int), (0 : Int), (0 : Int), (0 : Int), (0 : Int), (0 : Int), (0 : Int), (0 : Int), (0 : Int), (0 : Int), (0 : Int), (0 : Int), (0 : Int), (0
   : Int), (0 : Int), (0 : Int), (0 : Int), (0 : Int), (0 : Int), (0 : Int), (0 : Int), (0 : Int), (0 : Int), (0 : Int), (0 : Int), (0 : Int), (0 : Int), (0 : Int), (0 : Int), (0 : Int), (0 : Int), (0 : Int), (0 : Int), (0 : Int), (0 : Int), (0 : Int),
   (0 : Int), (0 : Int), (0 : Int), (0 : Int), (0 : Int), (0 : Int)] = LI [(0 : Int), (0 : Int), (0 : Int), (0 : Int), (0 : Int), (0 : Int), (0 : Int), (0 : Int), (0 : Int), (0 : Int), (0 : Int), (0 : Int), (0 : Int), (0 : Int), (0 : Int), (0 : Int), (0
   : Int), (0 : Int), (0 : Int), (0 : Int), (0 : Int), (0 : Int), (0 : Int), (0 : Int), (0 : Int), (0 : Int), (0 : Int), (0 : Int), (0 : Int), (0 : Int), (0 : Int), (0 : Int), (0 : Int), (0 : Int), (0 : Int), (0 : Int), (0 : Int), (0 : Int), (0 : Int),
   (0 : Int), (0 : Int), (0 : Int), (0 : Int), (0 : Int), (0 : Int), (0 : Int), (0 : Int), (0 : Int), (0 : Int), (0 : Int), (0 : Int), (0 : Int), (0 : Int), (0 : Int), (0 : Int), (0 : Int), (0 : Int), (0 : Int), (0 : Int), (0 : Int), (0 : Int), (0 :
   Int), (0 : Int), (0 : Int), (0 : Int), (0 : Int), (0 : Int), (0 : Int), (0 : Int), (0 : Int), (0 : Int), (0 : Int), (0 : Int), (0 : Int), (0 : Int), (0 : Int), (0 : Int), (0 : Int), (0 : Int), (0 : Int), (0 : Int), (0 : Int), (0 : Int), (0 : Int), (0
   : Int), (0 : Int), (0 : Int), (0 : Int), (0 : Int), (0 : Int), (0 : Int), (0 : Int), (0 : Int), (0 : Int), (0 : Int), (0 : Int), (0 : Int), (0 : Int), (0 : Int), (0 : Int), (0 : Int), (0 : Int), (0 : Int), (0 : Int), (0 : Int), (0 : Int), (0 : Int),
   (0 : Int), (0 : Int), (0 : Int), (0 : Int), (0 : Int), (0 : Int), (0 : Int), (0 : Int), (0 : Int), (0 : Int), (0 : Int), (0 : Int), (0 : Int), (0 : Int), (0 : Int), (0 : Int), (0 : Int), (0 : Int), (0 : Int), (0 : Int), (0 : Int), (0 : Int), (0 :
   Int), (0 : Int), (0 : Int), (0 : Int), (0 : Int), (0 : Int), (0 : Int), (0 : Int), (0 : Int), (0 : Int), (0 : Int), (0 : Int), (0 : Int), (0 : Int), (0 : Int), (0 : Int), (0 : Int), (0 : Int), (0 : Int), (0 : Int), (0 : Int), (0 : Int), (0 : Int), (0
   : Int), (0 : Int), (0 : Int), (0 : Int), (0 : Int), (0 : Int), (0 : Int), (0 : Int), (0 : Int), (0 : Int), (0 : Int), (0 : Int), (0 : Int), (0 : Int), (0 : Int), (0 : Int), (0 : Int), (0 : Int), (0 : Int), (0 : Int), (0 : Int), (0 : Int), (0 : Int),
   (0 : Int), (0 : Int), (0 : Int), (0 : Int), (0 : Int), (0 : Int), (0 : Int), (0 : Int), (0 : Int), (0 : Int), (0 : Int), (0 : Int), (0 : Int), (0 : Int), (0 : Int), (0 : Int), (0 : Int), (0 : Int), (0 : Int), (0 : Int), (0 : Int), (0 : Int), (0 :
   Int), (0 : Int), (0 : Int), (0 : Int), (0 : Int), (0 : Int), (0 : Int), (0 : Int), (0 : Int), (0 : Int), (0 : Int), (0 : Int), (0 : Int), (0 : Int), (0 : Int), (0 : Int), (0 : Int), (0 : Int), (0 : Int), (0 : Int), (0 : Int), (0 : Int), (0 : Int), (0
   : Int), (0 : Int), (0 : Int), (0 : Int), (0 : Int), (0 : Int), (0 : Int), (0 : Int), (0 : Int), (0 : Int), (0 : Int), (0 : Int), (0 : Int), (0 : Int), (0 : Int), (0 : Int), (0 : Int), (0 : Int), (0 : Int), (0 : Int), (0 : Int), (0 : Int), (0 : Int),
   (0 : Int), (0 : Int), (0 : Int), (0 : Int), (0 : Int), (0 : Int), (0 : Int), (0 : Int), (0 : Int), (0 : Int), (0 : Int), (0 : Int), (0 : Int)] ∧ True) ∧ ∀ (x : Int), Upto x → br (decide (x < (256 : Int))) (rq (decide ((0 : Int) ≤ x ∧ x < (256 :
   Int))) (rq (((0 : Nat) + x.toNat * (1 : Nat)).blt (256 : Nat)) (br (decide (x ≥ (32 : Int))) (br (decide (x ≤ (126 : Int))) (rq (decide ((0 : Int) ≤ x ∧ x < (256 : Int))) (rq (((0 : Nat) + x.toNat * (1 : Nat)).blt (256 : Nat)) (Upto (IntKind.i64.wrap
   (x + (1 : Int))) ∧ ((SV.v (Value.pointer none) = SV.v (Value.pointer none) ∧ SV.p (0 : Nat) (0 : Nat) = SV.p (0 : Nat) (0 : Nat) ∧ SV.v (Value.int IntKind.i64 (IntKind.i64.wrap (x + (1 : Int)))) = SV.v (Value.int IntKind.i64 (IntKind.i64.wrap (x + (1
   : Int)))) ∧ True) ∧ ((ascL x.toNat).set ((0 : Nat) + x.toNat * (1 : Nat)) (65533 : Int)).set ((0 : Nat) + x.toNat * (1 : Nat)) (IntKind.i32.wrap x) = ascL (IntKind.i64.wrap (x + (1 : Int))).toNat ∧ True) ∧ ((256 : Int) - IntKind.i64.wrap (x + (1 :
   Int))).toNat < ((256 : Int) - x).toNat))) (Upto (IntKind.i64.wrap (x + (1 : Int))) ∧ ((SV.v (Value.pointer none) = SV.v (Value.pointer none) ∧ SV.p (0 : Nat) (0 : Nat) = SV.p (0 : Nat) (0 : Nat) ∧ SV.v (Value.int IntKind.i64 (IntKind.i64.wrap (x + (1
   : Int)))) = SV.v (Value.int IntKind.i64 (IntKind.i64.wrap (x + (1 : Int)))) ∧ True) ∧ (ascL x.toNat).set ((0 : Nat) + x.toNat * (1 : Nat)) (65533 : Int) = ascL (IntKind.i64.wrap (x + (1 : Int))).toNat ∧ True) ∧ ((256 : Int) - IntKind.i64.wrap (x + (1
   : Int))).toNat < ((256 : Int) - x).toNat)) (Upto (IntKind.i64.wrap (x + (1 : Int))) ∧ ((SV.v (Value.pointer none) = SV.v (Value.pointer none) ∧ SV.p (0 : Nat) (0 : Nat) = SV.p (0 : Nat) (0 : Nat) ∧ SV.v (Value.int IntKind.i64 (IntKind.i64.wrap (x +
   (1 : Int)))) = SV.v (Value.int IntKind.i64 (IntKind.i64.wrap (x + (1 : Int)))) ∧ True) ∧ (ascL x.toNat).set ((0 : Nat) + x.toNat * (1 : Nat)) (65533 : Int) = ascL (IntKind.i64.wrap (x + (1 : Int))).toNat ∧ True) ∧ ((256 : Int) - IntKind.i64.wrap (x +
   (1 : Int))).toNat < ((256 : Int) - x).toNat)))) (Upto (0 : Int) ∧ ((SV.v (Value.int IntKind.i64 (Int.ofNat (m + (6 : Nat)))) = SV.v (Value.int IntKind.i64 (Int.ofNat (m + (6 : Nat)))) ∧ SV.v (Value.pointer none) = SV.v (Value.pointer none) ∧ SV.p (0
   : Nat) (0 : Nat) = SV.p (0 : Nat) (0 : Nat) ∧ SV.v (Value.int IntKind.i64 (0 : Int)) = SV.v (Value.int IntKind.i64 (0 : Int)) ∧ True) ∧ ascL x.toNat = LI [(65533 : Int), (65533 : Int), (65533 : Int), (65533 : Int), (65533 : Int), (65533 : Int),
   (65533 : Int), (65533 : Int), (65533 : Int), (65533 : Int), (65533 : Int), (65533 : Int), (65533 : Int), (65533 : Int), (65533 : Int), (65533 : Int), (65533 : Int), (65533 : Int), (65533 : Int), (65533 : Int), (65533 : Int), (65533 : Int), (65533 :
   Int), (65533 : Int), (65533 : Int), (65533 : Int), (65533 : Int), (65533 : Int), (65533 : Int), (65533 : Int), (65533 : Int), (65533 : Int), (32 : Int), (33 : Int), (34 : Int), (35 : Int), (36 : Int), (37 : Int), (38 : Int), (39 : Int), (40 : Int),
   (41 : Int), (42 : Int), (43 : Int), (44 : Int), (45 : Int), (46 : Int), (47 : Int), (48 : Int), (49 : Int), (50 : Int), (51 : Int), (52 : Int), (53 : Int), (54 : Int), (55 : Int), (56 : Int), (57 : Int), (58 : Int), (59 : Int), (60 : Int), (61 :
   Int), (62 : Int), (63 : Int), (64 : Int), (65 : Int), (66 : Int), (67 : Int), (68 : Int), (69 : Int), (70 : Int), (71 : Int), (72 : Int), (73 : Int), (74 : Int), (75 : Int), (76 : Int), (77 : Int), (78 : Int), (79 : Int), (80 : Int), (81 : Int), (82
   : Int), (83 : Int), (84 : Int), (85 : Int), (86 : Int), (87 : Int), (88 : Int), (89 : Int), (90 : Int), (91 : Int), (92 : Int), (93 : Int), (94 : Int), (95 : Int), (96 : Int), (97 : Int), (98 : Int), (99 : Int), (100 : Int), (101 : Int), (102 : Int),
   (103 : Int), (104 : Int), (105 : Int), (106 : Int), (107 : Int), (108 : Int), (109 : Int), (110 : Int), (111 : Int), (112 : Int), (113 : Int), (114 : Int), (115 : Int), (116 : Int), (117 : Int), (118 : Int), (119 : Int), (120 : Int), (121 : Int),
   (122 : Int), (123 : Int), (124 : Int), (125 : Int), (126 : Int), (65533 : Int), (65533 : Int), (65533 : Int), (65533 : Int), (65533 : Int), (65533 : Int), (65533 : Int), (65533 : Int), (65533 : Int), (65533 : Int), (65533 : Int), (65533 : Int),
   (65533 : Int), (65533 : Int), (65533 : Int), (65533 : Int), (65533 : Int), (65533 : Int), (65533 : Int), (65533 : Int), (65533 : Int), (65533 : Int), (65533 : Int), (65533 : Int), (65533 : Int), (65533 : Int), (65533 : Int), (65533 : Int), (65533 :
   Int), (65533 : Int), (65533 : Int), (65533 : Int), (65533 : Int), (65533 : Int), (65533 : Int), (65533 : Int), (65533 : Int), (65533 : Int), (65533 : Int), (65533 : Int), (65533 : Int), (65533 : Int), (65533 : Int), (65533 : Int), (65533 : Int),
   (65533 : Int), (65533 : Int), (65533 : Int), (65533 : Int), (65533 : Int), (65533 : Int), (65533 : Int), (65533 : Int), (65533 : Int), (65533 : Int), (65533 : Int), (65533 : Int), (65533 : Int), (65533 : Int), (65533 : Int), (65533 : Int), (65533 :
   Int), (65533 : Int), (65533 : Int), (65533 : Int), (65533 : Int), (65533 : Int), (65533 : Int), (65533 : Int), (65533 : Int), (65533 : Int), (65533 : Int), (65533 : Int), (65533 : Int), (65533 : Int), (65533 : Int), (65533 : Int), (65533 : Int),
   (65533 : Int), (65533 : Int), (65533 : Int), (65533 : Int), (65533 : Int), (65533 : Int), (65533 : Int), (65533 : Int), (65533 : Int), (65533 : Int), (65533 : Int), (65533 : Int), (65533 : Int), (65533 : Int), (65533 : Int), (65533 : Int), (65533 :
   Int), (65533 : Int), (65533 : Int), (65533 : Int), (65533 : Int), (65533 : Int), (65533 : Int), (65533 : Int), (65533 : Int), (65533 : Int), (65533 : Int), (65533 : Int), (65533 : Int), (65533 : Int), (65533 : Int), (65533 : Int), (65533 : Int),
   (65533 : Int), (65533 : Int), (65533 : Int), (65533 : Int), (65533 : Int), (65533 : Int), (65533 : Int), (65533 : Int), (65533 : Int), (65533 : Int), (65533 : Int), (65533 : Int), (65533 : Int), (65533 : Int), (65533 : Int), (65533 : Int), (65533 :
   Int), (65533 : Int)] ∧ True) ∧ ∀ (x : Int), Upto x → br (decide (x < (256 : Int))) (rq (decide ((0 : Int) ≤ x ∧ x < (256 : Int))) (rq (((0 : Nat) + x.toNat * (1 : Nat)).blt (256 : Nat)) (Upto (IntKind.i64.wrap (x + (1 : Int))) ∧ ((SV.v (Value.int
   IntKind.i64 (Int.ofNat (m + (6 : Nat)))) = SV.v (Value.int IntKind.i64 (Int.ofNat (m + (6 : Nat)))) ∧ SV.v (Value.pointer none) = SV.v (Value.pointer none) ∧ SV.p (0 : Nat) (0 : Nat) = SV.p (0 : Nat) (0 : Nat) ∧ SV.v (Value.int IntKind.i64
   (IntKind.i64.wrap (x + (1 : Int)))) = SV.v (Value.int IntKind.i64 (IntKind.i64.wrap (x + (1 : Int)))) ∧ True) ∧ (defL x.toNat).set ((0 : Nat) + x.toNat * (1 : Nat)) (65533 : Int) = defL (IntKind.i64.wrap (x + (1 : Int))).toNat ∧ True) ∧ ((256 : Int)
   - IntKind.i64.wrap (x + (1 : Int))).toNat < ((256 : Int) - x).toNat))) ((SV.p (0 : Nat) (0 : Nat) = SV.p (0 : Nat) (0 : Nat) ∧ True) ∧ defL x.toNat = tabL2 (Int.ofNat (m + (6 : Nat))) ∧ True)))) (by kernel_rfl) ?_
  refine ⟨⟨by omega, by omega⟩, ?_, ?_⟩
  · repeat' (first | exact trivial | refine And.intro ?_ ?_ | kernel_rfl)
  refine fun (x : Int) hx => ?_
  obtain ⟨hx0, hx1⟩ := hx
  refine br_intro (fun hlt => ?_) (fun hge => ?_)
  · have hlt : x < 256 := of_decide_eq_true hlt
    refine rq_t (in_range hx0 hlt) (rq_t (in_blt hx0 hlt) ?_)
    refine br_intro (fun h32 => ?_) (fun h32 => ?_)
    · have h32 : 32 ≤ x := of_decide_eq_true h32
      refine br_intro (fun h126 => ?_) (fun h126 => ?_)
      · have h126 : x ≤ 126 := of_decide_eq_true h126
        refine rq_t (in_range hx0 hlt) (rq_t (in_blt hx0 hlt) ⟨upto_next hx0 hlt, ?_, mu_next hx0 hlt⟩)
        rw [asc1 hx0 h32 h126]
        repeat' (first | exact trivial | refine And.intro ?_ ?_ | kernel_rfl)
      · have h126 : ¬ x ≤ 126 := of_decide_eq_false h126
        refine ⟨upto_next hx0 hlt, ?_, mu_next hx0 hlt⟩
        rw [asc2 hx0 hlt (fun h => h126 h.2)]
        repeat' (first | exact trivial | refine And.intro ?_ ?_ | kernel_rfl)
    · have h32 : ¬ 32 ≤ x := of_decide_eq_false h32
      refine ⟨upto_next hx0 hlt, ?_, mu_next hx0 hlt⟩
      rw [asc2 hx0 hlt (fun h => h32 h.1)]
      repeat' (first | exact trivial | refine And.intro ?_ ?_ | kernel_rfl)
  have hge : ¬ x < 256 := of_decide_eq_false hge
  obtain rfl : x = 256 := by omega
  refine ⟨⟨by omega, by omega⟩, ?_, ?_⟩
  · repeat' (first | exact trivial | refine And.intro ?_ ?_ | kernel_rfl)
  refine fun (x : Int) hx => ?_
  obtain ⟨hx0, hx1⟩ := hx
  refine br_intro (fun hlt => ?_) (fun hge => ?_)
  · have hlt : x < 256 := of_decide_eq_true hlt
    refine rq_t (in_range hx0 hlt) (rq_t (in_blt hx0 hlt) ⟨upto_next hx0 hlt, ?_, mu_next hx0 hlt⟩)
    rw [def1 hx0 hlt]
    repeat' (first | exact trivial | refine And.intro ?_ ?_ | kernel_rfl)
  have hge : ¬ x < 256 := of_decide_eq_false hge
  obtain rfl : x = 256 := by omega
  have hd := def_tab (set := Int.ofNat (m + 6)) fun b => by simp [ofT] <;> omega
  rw [hd]
  repeat' (first | exact trivial | refine And.intro ?_ ?_ | kernel_rfl)
theorem of_all (set : Int) : OfAsk set := by
  by_cases h1 : set = 1
  · subst h1; exact of_1
  by_cases h2 : set = 2
  · subst h2; exact of_2
  by_cases h3 : set = 3
  · subst h3; exact of_3
  by_cases h4 : set = 4
  · subst h4; exact of_4
  by_cases h5 : set = 5
  · subst h5; exact of_5
  obtain ⟨m, rfl⟩ | rfl | ⟨m, rfl⟩ : (∃ m : Nat, set = Int.negSucc m) ∨ set = 0 ∨ ∃ m : Nat, set = Int.ofNat (m + 6) := by
    rcases Int.lt_trichotomy set 0 with h | h | h
    · exact .inl ⟨(-set - 1).toNat, by omega⟩
    · exact .inr (.inl h)
    · exact .inr (.inr ⟨(set - 6).toNat, by show set = ((((set - 6).toNat + 6 : Nat)) : Int); omega⟩)
  · exact of_d0 m
  · exact of_d1 0
  · exact of_d2 m
def lcOfT : ACon Unit := mkLC (decP (shOne shI) shHNil) fun (set, _) => altOf set
theorem ok_ofT : ∀ I : Sym.Inv Unit, LCOk I Try.prog 18 lcOfT := by
  refine lc_mk (fun _ => allCfg Try.prog [] [] 300 anns) (fun _ _ => allCfg_ok mixed trivial trivial) (fun _ => rfl) (n := 60) Try.func18 ?_
  intro ⟨set, _⟩ hφ
  exact of_all set
def psOf : PS := mkPS (shCons shI (shOne (shInt .u8))) (fun (set, b) => 0 ≤ b ∧ b ≤ 255) (fun (set, b) => .v (.int .i32 (ofT set b)))
set_option maxHeartbeats 4000000 in
theorem ok_Of : PureOk Try.prog 11 psOf := by
  refine pureOk_all (fun _ => allCfg Try.prog [] [(18, lcOfT)] 0) (fun _ _ => allCfg_ok mixed trivial ⟨ok_ofT, trivial⟩) (fun _ => rfl) (n := 60) Try.func11 (fun _ => rfl) (fun _ => rfl) ?_
  intro ⟨set, b⟩ hφ
  obtain ⟨hb0, hb1⟩ := hφ
  refine kcast (B := (true = true ∧ rq (decide ((0 : Int) ≤ b ∧ b < (256 : Int))) (rq (((0 : Nat) + b.toNat * (1 : Nat)).blt (256 : Nat)) (SV.v (Value.int IntKind.i32 ((tabL2 set).getD ((0 : Nat) + b.toNat * (1 : Nat)) (0 : Int))) = SV.v (Value.int IntKind.i32 (ofT set b)))))) (by kernel_rfl) ?_
  simp only [rq_iff, nbeq, Bool.and_eq_true, decide_eq_true_eq, Nat.blt_eq, true_and, and_true, SV.v.injEq, Value.int.injEq]
  exact ⟨⟨by omega, by omega⟩, by omega, getD_tab rfl hb0 hb1⟩
end Go.Proofs.Ytgpfdajjkalloaa
