/- The document's glyph of a byte: a contract. -/
import Derived.Test.YtgpfdajjkalloaaGtD
set_option linter.unusedSimpArgs false
set_option linter.unusedVariables false
set_option linter.unusedSectionVars false
namespace Go.Proofs.Ytgpfdajjkalloaa
open Go Go.Sym

def psROf : PS := mkPS (shCons shI (shOne (shInt .u8))) (fun (set, b) => 0 ≤ b ∧ b ≤ 255) (fun (set, b) => .v (.int .i32 (ofT set b)))
def rOfAsk (set b : Int) : Prop := Go.Sym.Ask (bodyK Try.prog (run (allCfg Try.prog [] [] 0) 60) Try.f10 ((shCons shI (shOne (shInt .u8))).enc (set, b)) [] (fun y _ => y = .v (.int .i32 (ofT set b))))
theorem plain_eq (b : Int) : plainT b = if 32 ≤ b ∧ b ≤ 126 then b else 65533 := rfl
theorem o1_0 {b : Int} (h : 32 ≤ b ∧ b ≤ 126) : ofT 1 b = b := by
  simp only [ofT, plain_eq, reduceIte, Int.reduceEq]
  repeat' split
  all_goals first
    | (exfalso; omega)
    | with_reducible rfl
    | omega
theorem o1_1 {b : Int} (h : ¬ (32 ≤ b ∧ b ≤ 126)) : ofT 1 b = 65533 := by
  simp only [ofT, plain_eq, reduceIte, Int.reduceEq]
  repeat' split
  all_goals first
    | (exfalso; omega)
    | with_reducible rfl
    | omega
theorem o2_0 {b : Int} (h : b = 0) : ofT 2 b = 32 := by
  simp only [ofT, plain_eq, reduceIte, Int.reduceEq]
  repeat' split
  all_goals first
    | (exfalso; omega)
    | with_reducible rfl
    | omega
theorem o2_1 {b : Int} (h : b ≠ 0 ∧ b < 32) : ofT 2 b = lowL.getD (b - 1).toNat 0 := by
  simp only [ofT, plain_eq, reduceIte, Int.reduceEq]
  repeat' split
  all_goals first
    | (exfalso; omega)
    | with_reducible rfl
    | omega
theorem o2_2 {b : Int} (h : b = 127) : ofT 2 b = 8962 := by
  simp only [ofT, plain_eq, reduceIte, Int.reduceEq]
  repeat' split
  all_goals first
    | (exfalso; omega)
    | with_reducible rfl
    | omega
theorem o2_3 {b : Int} (h : b = 255) : ofT 2 b = 160 := by
  simp only [ofT, plain_eq, reduceIte, Int.reduceEq]
  repeat' split
  all_goals first
    | (exfalso; omega)
    | with_reducible rfl
    | omega
theorem o2_4 {b : Int} (h : 128 ≤ b ∧ b ≠ 255) : ofT 2 b = highL.getD (b - 128).toNat 0 := by
  simp only [ofT, plain_eq, reduceIte, Int.reduceEq]
  repeat' split
  all_goals first
    | (exfalso; omega)
    | with_reducible rfl
    | omega
theorem o2_5 {b : Int} (h : 32 ≤ b ∧ b ≤ 126) : ofT 2 b = b := by
  simp only [ofT, plain_eq, reduceIte, Int.reduceEq]
  repeat' split
  all_goals first
    | (exfalso; omega)
    | with_reducible rfl
    | omega
theorem o3_0 {b : Int} (h : 94 ≤ b ∧ b ≤ 96) : ofT 3 b = 32 := by
  simp only [ofT, plain_eq, reduceIte, Int.reduceEq]
  repeat' split
  all_goals first
    | (exfalso; omega)
    | with_reducible rfl
    | omega
theorem o3_1 {b : Int} (h : 97 ≤ b ∧ b ≤ 126) : ofT 3 b = graphL.getD (b - 97).toNat 0 := by
  simp only [ofT, plain_eq, reduceIte, Int.reduceEq]
  repeat' split
  all_goals first
    | (exfalso; omega)
    | with_reducible rfl
    | omega
theorem o3_2 {b : Int} (h : 32 ≤ b ∧ b ≤ 93) : ofT 3 b = b := by
  simp only [ofT, plain_eq, reduceIte, Int.reduceEq]
  repeat' split
  all_goals first
    | (exfalso; omega)
    | with_reducible rfl
    | omega
theorem o3_3 {b : Int} (h : b < 32 ∨ 126 < b) : ofT 3 b = 65533 := by
  simp only [ofT, plain_eq, reduceIte, Int.reduceEq]
  repeat' split
  all_goals first
    | (exfalso; omega)
    | with_reducible rfl
    | omega
theorem o4_0 {b : Int} (h : 48 ≤ b ∧ b ≤ 63) : ofT 4 b = linesL.getD (b - 48).toNat 0 := by
  simp only [ofT, plain_eq, reduceIte, Int.reduceEq]
  repeat' split
  all_goals first
    | (exfalso; omega)
    | with_reducible rfl
    | omega
theorem o4_1 {b : Int} (h : 32 ≤ b ∧ b ≤ 126 ∧ ¬ (48 ≤ b ∧ b ≤ 63)) : ofT 4 b = b := by
  simp only [ofT, plain_eq, reduceIte, Int.reduceEq]
  repeat' split
  all_goals first
    | (exfalso; omega)
    | with_reducible rfl
    | omega
theorem o4_2 {b : Int} (h : b < 32 ∨ 126 < b) : ofT 4 b = 65533 := by
  simp only [ofT, plain_eq, reduceIte, Int.reduceEq]
  repeat' split
  all_goals first
    | (exfalso; omega)
    | with_reducible rfl
    | omega
theorem o5_0 {b : Int} (h : 97 ≤ b ∧ b ≤ 122) : ofT 5 b = b - 32 := by
  simp only [ofT, plain_eq, reduceIte, Int.reduceEq]
  repeat' split
  all_goals first
    | (exfalso; omega)
    | with_reducible rfl
    | omega
theorem o5_1 {b : Int} (h : 32 ≤ b ∧ b ≤ 126 ∧ ¬ (97 ≤ b ∧ b ≤ 122)) : ofT 5 b = b := by
  simp only [ofT, plain_eq, reduceIte, Int.reduceEq]
  repeat' split
  all_goals first
    | (exfalso; omega)
    | with_reducible rfl
    | omega
theorem o5_2 {b : Int} (h : b < 32 ∨ b = 127) : ofT 5 b = 65533 := by
  simp only [ofT, plain_eq, reduceIte, Int.reduceEq]
  repeat' split
  all_goals first
    | (exfalso; omega)
    | with_reducible rfl
    | omega
theorem o5_3 {b : Int} (h : 225 ≤ b ∧ b ≤ 250) : ofT 5 b = b - 128 - 32 := by
  simp only [ofT, plain_eq, reduceIte, Int.reduceEq]
  repeat' split
  all_goals first
    | (exfalso; omega)
    | with_reducible rfl
    | omega
theorem o5_4 {b : Int} (h : 160 ≤ b ∧ b ≤ 254 ∧ ¬ (225 ≤ b ∧ b ≤ 250)) : ofT 5 b = b - 128 := by
  simp only [ofT, plain_eq, reduceIte, Int.reduceEq]
  repeat' split
  all_goals first
    | (exfalso; omega)
    | with_reducible rfl
    | omega
theorem o5_5 {b : Int} (h : 128 ≤ b ∧ b < 160 ∨ b = 255) : ofT 5 b = 65533 := by
  simp only [ofT, plain_eq, reduceIte, Int.reduceEq]
  repeat' split
  all_goals first
    | (exfalso; omega)
    | with_reducible rfl
    | omega
set_option maxHeartbeats 4000000 in
theorem rOf1 (b : Int) (h0 : 0 ≤ b) (h1 : b ≤ 255) : rOfAsk 1 b := by
  unfold rOfAsk
  refine kcast (B := (br (decide (IntKind.i64.wrap b ≥ (32 : Int))) (br (decide (IntKind.i64.wrap b ≤ (126 : Int))) (SV.v (Value.int IntKind.i32 (IntKind.i32.wrap (IntKind.i64.wrap b))) = SV.v (Value.int IntKind.i32 (ofT (1 : Int) b))) (SV.v
   (Value.int IntKind.i32 (65533 : Int)) = SV.v (Value.int IntKind.i32 (ofT (1 : Int) b)))) (SV.v (Value.int IntKind.i32 (65533 : Int)) = SV.v (Value.int IntKind.i32 (ofT (1 : Int) b))))) (by kernel_rfl) ?_
  have hw : IntKind.i64.wrap b = b := wrap64 (by omega) (by omega)
  have hw1 : IntKind.i64.wrap (b - 1) = b - 1 := wrap64 (by omega) (by omega)
  have hw97 : IntKind.i64.wrap (b - 97) = b - 97 := wrap64 (by omega) (by omega)
  have hw128 : IntKind.i64.wrap (b - 128) = b - 128 := wrap64 (by omega) (by omega)
  have hw48 : IntKind.i64.wrap (b - 48) = b - 48 := wrap64 (by omega) (by omega)
  have hw32 : IntKind.i64.wrap (b - 32) = b - 32 := wrap64 (by omega) (by omega)
  have hw160 : IntKind.i64.wrap (b - 128 - 32) = b - 128 - 32 := wrap64 (by omega) (by omega)
  have hv : IntKind.i32.wrap b = b := IntWalk.i32_in _ ⟨by omega, by omega⟩
  have hv128 : IntKind.i32.wrap (b - 128) = b - 128 := IntWalk.i32_in _ ⟨by omega, by omega⟩
  have hv32 : IntKind.i32.wrap (b - 32) = b - 32 := IntWalk.i32_in _ ⟨by omega, by omega⟩
  have hv160 : IntKind.i32.wrap (b - 128 - 32) = b - 128 - 32 := IntWalk.i32_in _ ⟨by omega, by omega⟩
  simp only [hw, hw1, hw97, hw128, hw48, hw32, hw160, hv, hv128, hv32, hv160, br_iff, rq_iff, nbeq, SV.v.injEq, Value.int.injEq, true_and, and_true, decide_eq_true_eq, decide_eq_false_iff_not, Nat.blt_eq, beq_iff_eq, beq_eq_false_iff_ne]
  clear hw hw1 hw97 hw128 hw48 hw32 hw160 hv hv128 hv32 hv160
  repeat' (first | intro _ | refine And.intro ?_ ?_)
  all_goals first
    | (exfalso; omega)
    | (rw [o1_0 (by omega)])
    | (rw [o1_1 (by omega)])
    | omega
set_option maxHeartbeats 4000000 in
theorem rOf2 (b : Int) (h0 : 0 ≤ b) (h1 : b ≤ 255) : rOfAsk 2 b := by
  unfold rOfAsk
  refine kcast (B := (br (decide (IntKind.i64.wrap b ≥ (32 : Int))) (br (decide (IntKind.i64.wrap b ≤ (126 : Int))) (br (IntKind.i64.wrap b == (0 : Int)) (SV.v (Value.int IntKind.i32 (32 : Int)) = SV.v (Value.int IntKind.i32 (ofT (2 : Int) b))) (br
   (decide (IntKind.i64.wrap b < (32 : Int))) (rq (decide ((0 : Int) ≤ IntKind.i64.wrap (IntKind.i64.wrap b - (1 : Int)) ∧ IntKind.i64.wrap (IntKind.i64.wrap b - (1 : Int)) < (31 : Int))) (rq (((0 : Nat) + (IntKind.i64.wrap (IntKind.i64.wrap b - (1 :
   Int))).toNat * (1 : Nat)).blt (31 : Nat)) (SV.v (Value.int IntKind.i32 ((LI [(9786 : Int), (9787 : Int), (9829 : Int), (9830 : Int), (9827 : Int), (9824 : Int), (8226 : Int), (9688 : Int), (9675 : Int), (9689 : Int), (9794 : Int), (9792 : Int), (9834
   : Int), (9835 : Int), (9788 : Int), (9658 : Int), (9668 : Int), (8597 : Int), (8252 : Int), (182 : Int), (167 : Int), (9644 : Int), (8616 : Int), (8593 : Int), (8595 : Int), (8594 : Int), (8592 : Int), (8735 : Int), (8596 : Int), (9650 : Int), (9660
   : Int)]).getD ((0 : Nat) + (IntKind.i64.wrap (IntKind.i64.wrap b - (1 : Int))).toNat * (1 : Nat)) (0 : Int))) = SV.v (Value.int IntKind.i32 (ofT (2 : Int) b))))) (br (IntKind.i64.wrap b == (127 : Int)) (SV.v (Value.int IntKind.i32 (8962 : Int)) =
   SV.v (Value.int IntKind.i32 (ofT (2 : Int) b))) (br (IntKind.i64.wrap b == (255 : Int)) (SV.v (Value.int IntKind.i32 (160 : Int)) = SV.v (Value.int IntKind.i32 (ofT (2 : Int) b))) (br (decide (IntKind.i64.wrap b ≥ (128 : Int))) (rq (decide ((0 : Int)
   ≤ IntKind.i64.wrap (IntKind.i64.wrap b - (128 : Int)) ∧ IntKind.i64.wrap (IntKind.i64.wrap b - (128 : Int)) < (127 : Int))) (rq (((0 : Nat) + (IntKind.i64.wrap (IntKind.i64.wrap b - (128 : Int))).toNat * (1 : Nat)).blt (127 : Nat)) (SV.v (Value.int
   IntKind.i32 ((LI [(199 : Int), (252 : Int), (233 : Int), (226 : Int), (228 : Int), (224 : Int), (229 : Int), (231 : Int), (234 : Int), (235 : Int), (232 : Int), (239 : Int), (238 : Int), (236 : Int), (196 : Int), (197 : Int), (201 : Int), (230 :
   Int), (198 : Int), (244 : Int), (246 : Int), (242 : Int), (251 : Int), (249 : Int), (255 : Int), (214 : Int), (220 : Int), (162 : Int), (163 : Int), (165 : Int), (8359 : Int), (402 : Int), (225 : Int), (237 : Int), (243 : Int), (250 : Int), (241 :
   Int), (209 : Int), (170 : Int), (186 : Int), (191 : Int), (8976 : Int), (172 : Int), (189 : Int), (188 : Int), (161 : Int), (171 : Int), (187 : Int), (9617 : Int), (9618 : Int), (9619 : Int), (9474 : Int), (9508 : Int), (9569 : Int), (9570 : Int),
   (9558 : Int), (9557 : Int), (9571 : Int), (9553 : Int), (9559 : Int), (9565 : Int), (9564 : Int), (9563 : Int), (9488 : Int), (9492 : Int), (9524 : Int), (9516 : Int), (9500 : Int), (9472 : Int), (9532 : Int), (9566 : Int), (9567 : Int), (9562 :
   Int), (9556 : Int), (9577 : Int), (9574 : Int), (9568 : Int), (9552 : Int), (9580 : Int), (9575 : Int), (9576 : Int), (9572 : Int), (9573 : Int), (9561 : Int), (9560 : Int), (9554 : Int), (9555 : Int), (9579 : Int), (9578 : Int), (9496 : Int), (9484
   : Int), (9608 : Int), (9604 : Int), (9612 : Int), (9616 : Int), (9600 : Int), (945 : Int), (223 : Int), (915 : Int), (960 : Int), (931 : Int), (963 : Int), (181 : Int), (964 : Int), (934 : Int), (920 : Int), (937 : Int), (948 : Int), (8734 : Int),
   (966 : Int), (949 : Int), (8745 : Int), (8801 : Int), (177 : Int), (8805 : Int), (8804 : Int), (8992 : Int), (8993 : Int), (247 : Int), (8776 : Int), (176 : Int), (8729 : Int), (183 : Int), (8730 : Int), (8319 : Int), (178 : Int), (9632 : Int)]).getD
   ((0 : Nat) + (IntKind.i64.wrap (IntKind.i64.wrap b - (128 : Int))).toNat * (1 : Nat)) (0 : Int))) = SV.v (Value.int IntKind.i32 (ofT (2 : Int) b))))) (SV.v (Value.int IntKind.i32 (IntKind.i32.wrap (IntKind.i64.wrap b))) = SV.v (Value.int IntKind.i32
   (ofT (2 : Int) b)))))))) (br (IntKind.i64.wrap b == (0 : Int)) (SV.v (Value.int IntKind.i32 (32 : Int)) = SV.v (Value.int IntKind.i32 (ofT (2 : Int) b))) (br (decide (IntKind.i64.wrap b < (32 : Int))) (rq (decide ((0 : Int) ≤ IntKind.i64.wrap
   (IntKind.i64.wrap b - (1 : Int)) ∧ IntKind.i64.wrap (IntKind.i64.wrap b - (1 : Int)) < (31 : Int))) (rq (((0 : Nat) + (IntKind.i64.wrap (IntKind.i64.wrap b - (1 : Int))).toNat * (1 : Nat)).blt (31 : Nat)) (SV.v (Value.int IntKind.i32 ((LI [(9786 :
   Int), (9787 : Int), (9829 : Int), (9830 : Int), (9827 : Int), (9824 : Int), (8226 : Int), (9688 : Int), (9675 : Int), (9689 : Int), (9794 : Int), (9792 : Int), (9834 : Int), (9835 : Int), (9788 : Int), (9658 : Int), (9668 : Int), (8597 : Int), (8252
   : Int), (182 : Int), (167 : Int), (9644 : Int), (8616 : Int), (8593 : Int), (8595 : Int), (8594 : Int), (8592 : Int), (8735 : Int), (8596 : Int), (9650 : Int), (9660 : Int)]).getD ((0 : Nat) + (IntKind.i64.wrap (IntKind.i64.wrap b - (1 : Int))).toNat
   * (1 : Nat)) (0 : Int))) = SV.v (Value.int IntKind.i32 (ofT (2 : Int) b))))) (br (IntKind.i64.wrap b == (127 : Int)) (SV.v (Value.int IntKind.i32 (8962 : Int)) = SV.v (Value.int IntKind.i32 (ofT (2 : Int) b))) (br (IntKind.i64.wrap b == (255 : Int))
   (SV.v (Value.int IntKind.i32 (160 : Int)) = SV.v (Value.int IntKind.i32 (ofT (2 : Int) b))) (br (decide (IntKind.i64.wrap b ≥ (128 : Int))) (rq (decide ((0 : Int) ≤ IntKind.i64.wrap (IntKind.i64.wrap b - (128 : Int)) ∧ IntKind.i64.wrap
   (IntKind.i64.wrap b - (128 : Int)) < (127 : Int))) (rq (((0 : Nat) + (IntKind.i64.wrap (IntKind.i64.wrap b - (128 : Int))).toNat * (1 : Nat)).blt (127 : Nat)) (SV.v (Value.int IntKind.i32 ((LI [(199 : Int), (252 : Int), (233 : Int), (226 : Int), (228
   : Int), (224 : Int), (229 : Int), (231 : Int), (234 : Int), (235 : Int), (232 : Int), (239 : Int), (238 : Int), (236 : Int), (196 : Int), (197 : Int), (201 : Int), (230 : Int), (198 : Int), (244 : Int), (246 : Int), (242 : Int), (251 : Int), (249 :
   Int), (255 : Int), (214 : Int), (220 : Int), (162 : Int), (163 : Int), (165 : Int), (8359 : Int), (402 : Int), (225 : Int), (237 : Int), (243 : Int), (250 : Int), (241 : Int), (209 : Int), (170 : Int), (186 : Int), (191 : Int), (8976 : Int), (172 :
   Int), (189 : Int), (188 : Int), (161 : Int), (171 : Int), (187 : Int), (9617 : Int), (9618 : Int), (9619 : Int), (9474 : Int), (9508 : Int), (9569 : Int), (9570 : Int), (9558 : Int), (9557 : Int), (9571 : Int), (9553 : Int), (9559 : Int), (9565 :
   Int), (9564 : Int), (9563 : Int), (9488 : Int), (9492 : Int), (9524 : Int), (9516 : Int), (9500 : Int), (9472 : Int), (9532 : Int), (9566 : Int), (9567 : Int), (9562 : Int), (9556 : Int), (9577 : Int), (9574 : Int), (9568 : Int), (9552 : Int), (9580
   : Int), (9575 : Int), (9576 : Int), (9572 : Int), (9573 : Int), (9561 : Int), (9560 : Int), (9554 : Int), (9555 : Int), (9579 : Int), (9578 : Int), (9496 : Int), (9484 : Int), (9608 : Int), (9604 : Int), (9612 : Int), (9616 : Int), (9600 : Int), (945
   : Int), (223 : Int), (915 : Int), (960 : Int), (931 : Int), (963 : Int), (181 : Int), (964 : Int), (934 : Int), (920 : Int), (937 : Int), (948 : Int), (8734 : Int), (966 : Int), (949 : Int), (8745 : Int), (8801 : Int), (177 : Int), (8805 : Int),
   (8804 : Int), (8992 : Int), (8993 : Int), (247 : Int), (8776 : Int), (176 : Int), (8729 : Int), (183 : Int), (8730 : Int), (8319 : Int), (178 : Int), (9632 : Int)]).getD ((0 : Nat) + (IntKind.i64.wrap (IntKind.i64.wrap b - (128 : Int))).toNat * (1 :
   Nat)) (0 : Int))) = SV.v (Value.int IntKind.i32 (ofT (2 : Int) b))))) (SV.v (Value.int IntKind.i32 (65533 : Int)) = SV.v (Value.int IntKind.i32 (ofT (2 : Int) b))))))))) (br (IntKind.i64.wrap b == (0 : Int)) (SV.v (Value.int IntKind.i32 (32 : Int)) =
   SV.v (Value.int IntKind.i32 (ofT (2 : Int) b))) (br (decide (IntKind.i64.wrap b < (32 : Int))) (rq (decide ((0 : Int) ≤ IntKind.i64.wrap (IntKind.i64.wrap b - (1 : Int)) ∧ IntKind.i64.wrap (IntKind.i64.wrap b - (1 : Int)) < (31 : Int))) (rq (((0 :
   Nat) + (IntKind.i64.wrap (IntKind.i64.wrap b - (1 : Int))).toNat * (1 : Nat)).blt (31 : Nat)) (SV.v (Value.int IntKind.i32 ((LI [(9786 : Int), (9787 : Int), (9829 : Int), (9830 : Int), (9827 : Int), (9824 : Int), (8226 : Int), (9688 : Int), (9675 :
   Int), (9689 : Int), (9794 : Int), (9792 : Int), (9834 : Int), (9835 : Int), (9788 : Int), (9658 : Int), (9668 : Int), (8597 : Int), (8252 : Int), (182 : Int), (167 : Int), (9644 : Int), (8616 : Int), (8593 : Int), (8595 : Int), (8594 : Int), (8592 :
   Int), (8735 : Int), (8596 : Int), (9650 : Int), (9660 : Int)]).getD ((0 : Nat) + (IntKind.i64.wrap (IntKind.i64.wrap b - (1 : Int))).toNat * (1 : Nat)) (0 : Int))) = SV.v (Value.int IntKind.i32 (ofT (2 : Int) b))))) (br (IntKind.i64.wrap b == (127 :
   Int)) (SV.v (Value.int IntKind.i32 (8962 : Int)) = SV.v (Value.int IntKind.i32 (ofT (2 : Int) b))) (br (IntKind.i64.wrap b == (255 : Int)) (SV.v (Value.int IntKind.i32 (160 : Int)) = SV.v (Value.int IntKind.i32 (ofT (2 : Int) b))) (br (decide
   (IntKind.i64.wrap b ≥ (128 : Int))) (rq (decide ((0 : Int) ≤ IntKind.i64.wrap (IntKind.i64.wrap b - (128 : Int)) ∧ IntKind.i64.wrap (IntKind.i64.wrap b - (128 : Int)) < (127 : Int))) (rq (((0 : Nat) + (IntKind.i64.wrap (IntKind.i64.wrap b - (128 :
   Int))).toNat * (1 : Nat)).blt (127 : Nat)) (SV.v (Value.int IntKind.i32 ((LI [(199 : Int), (252 : Int), (233 : Int), (226 : Int), (228 : Int), (224 : Int), (229 : Int), (231 : Int), (234 : Int), (235 : Int), (232 : Int), (239 : Int), (238 : Int),
   (236 : Int), (196 : Int), (197 : Int), (201 : Int), (230 : Int), (198 : Int), (244 : Int), (246 : Int), (242 : Int), (251 : Int), (249 : Int), (255 : Int), (214 : Int), (220 : Int), (162 : Int), (163 : Int), (165 : Int), (8359 : Int), (402 : Int),
   (225 : Int), (237 : Int), (243 : Int), (250 : Int), (241 : Int), (209 : Int), (170 : Int), (186 : Int), (191 : Int), (8976 : Int), (172 : Int), (189 : Int), (188 : Int), (161 : Int), (171 : Int), (187 : Int), (9617 : Int), (9618 : Int), (9619 : Int),
   (9474 : Int), (9508 : Int), (9569 : Int), (9570 : Int), (9558 : Int), (9557 : Int), (9571 : Int), (9553 : Int), (9559 : Int), (9565 : Int), (9564 : Int), (9563 : Int), (9488 : Int), (9492 : Int), (9524 : Int), (9516 : Int), (9500 : Int), (9472 :
   Int), (9532 : Int), (9566 : Int), (9567 : Int), (9562 : Int), (9556 : Int), (9577 : Int), (9574 : Int), (9568 : Int), (9552 : Int), (9580 : Int), (9575 : Int), (9576 : Int), (9572 : Int), (9573 : Int), (9561 : Int), (9560 : Int), (9554 : Int), (9555
   : Int), (9579 : Int), (9578 : Int), (9496 : Int), (9484 : Int), (9608 : Int), (9604 : Int), (9612 : Int), (9616 : Int), (9600 : Int), (945 : Int), (223 : Int), (915 : Int), (960 : Int), (931 : Int), (963 : Int), (181 : Int), (964 : Int), (934 : Int),
   (920 : Int), (937 : Int), (948 : Int), (8734 : Int), (966 : Int), (949 : Int), (8745 : Int), (8801 : Int), (177 : Int), (8805 : Int), (8804 : Int), (8992 : Int), (8993 : Int), (247 : Int), (8776 : Int), (176 : Int), (8729 : Int), (183 : Int), (8730 :
   Int), (8319 : Int), (178 : Int), (9632 : Int)]).getD ((0 : Nat) + (IntKind.i64.wrap (IntKind.i64.wrap b - (128 : Int))).toNat * (1 : Nat)) (0 : Int))) = SV.v (Value.int IntKind.i32 (ofT (2 : Int) b))))) (SV.v (Value.int IntKind.i32 (65533 : Int)) =
   SV.v (Value.int IntKind.i32 (ofT (2 : Int) b)))))))))) (by kernel_rfl) ?_
  have hw : IntKind.i64.wrap b = b := wrap64 (by omega) (by omega)
  have hw1 : IntKind.i64.wrap (b - 1) = b - 1 := wrap64 (by omega) (by omega)
  have hw97 : IntKind.i64.wrap (b - 97) = b - 97 := wrap64 (by omega) (by omega)
  have hw128 : IntKind.i64.wrap (b - 128) = b - 128 := wrap64 (by omega) (by omega)
  have hw48 : IntKind.i64.wrap (b - 48) = b - 48 := wrap64 (by omega) (by omega)
  have hw32 : IntKind.i64.wrap (b - 32) = b - 32 := wrap64 (by omega) (by omega)
  have hw160 : IntKind.i64.wrap (b - 128 - 32) = b - 128 - 32 := wrap64 (by omega) (by omega)
  have hv : IntKind.i32.wrap b = b := IntWalk.i32_in _ ⟨by omega, by omega⟩
  have hv128 : IntKind.i32.wrap (b - 128) = b - 128 := IntWalk.i32_in _ ⟨by omega, by omega⟩
  have hv32 : IntKind.i32.wrap (b - 32) = b - 32 := IntWalk.i32_in _ ⟨by omega, by omega⟩
  have hv160 : IntKind.i32.wrap (b - 128 - 32) = b - 128 - 32 := IntWalk.i32_in _ ⟨by omega, by omega⟩
  have g_low : ∀ k : Nat, (LI [9786, 9787, 9829, 9830, 9827, 9824, 8226, 9688, 9675, 9689, 9794, 9792, 9834, 9835, 9788, 9658, 9668, 8597, 8252, 182, 167, 9644, 8616, 8593, 8595, 8594, 8592, 8735, 8596, 9650, 9660]).getD (0 + k * 1) 0 = lowL.getD k 0 := fun k => by rw [Nat.zero_add, Nat.mul_one]; rfl
  have g_high : ∀ k : Nat, (LI [199, 252, 233, 226, 228, 224, 229, 231, 234, 235, 232, 239, 238, 236, 196, 197, 201, 230, 198, 244, 246, 242, 251, 249, 255, 214, 220, 162, 163, 165, 8359, 402, 225, 237, 243, 250, 241, 209, 170, 186, 191, 8976, 172,
   189, 188, 161, 171, 187, 9617, 9618, 9619, 9474, 9508, 9569, 9570, 9558, 9557, 9571, 9553, 9559, 9565, 9564, 9563, 9488, 9492, 9524, 9516, 9500, 9472, 9532, 9566, 9567, 9562, 9556, 9577, 9574, 9568, 9552, 9580, 9575, 9576, 9572, 9573, 9561, 9560,
   9554, 9555, 9579, 9578, 9496, 9484, 9608, 9604, 9612, 9616, 9600, 945, 223, 915, 960, 931, 963, 181, 964, 934, 920, 937, 948, 8734, 966, 949, 8745, 8801, 177, 8805, 8804, 8992, 8993, 247, 8776, 176, 8729, 183, 8730, 8319, 178, 9632]).getD (0 + k * 1)
   0 = highL.getD k 0 := fun k => by rw [Nat.zero_add, Nat.mul_one]; rfl
  simp only [hw, hw1, hw97, hw128, hw48, hw32, hw160, hv, hv128, hv32, hv160, g_low, g_high, br_iff, rq_iff, nbeq, SV.v.injEq, Value.int.injEq, true_and, and_true, decide_eq_true_eq, decide_eq_false_iff_not, Nat.blt_eq, beq_iff_eq, beq_eq_false_iff_ne]
  clear hw hw1 hw97 hw128 hw48 hw32 hw160 hv hv128 hv32 hv160 g_low g_high
  repeat' (first | intro _ | refine And.intro ?_ ?_)
  all_goals first
    | (exfalso; omega)
    | (rw [o2_0 (by omega)])
    | (rw [o2_1 (by omega)])
    | (rw [o2_2 (by omega)])
    | (rw [o2_3 (by omega)])
    | (rw [o2_4 (by omega)])
    | (rw [o2_5 (by omega)])
    | omega
set_option maxHeartbeats 4000000 in
theorem rOf3 (b : Int) (h0 : 0 ≤ b) (h1 : b ≤ 255) : rOfAsk 3 b := by
  unfold rOfAsk
  refine kcast (B := (br (decide (IntKind.i64.wrap b ≥ (32 : Int))) (br (decide (IntKind.i64.wrap b ≤ (126 : Int))) (br (decide (IntKind.i64.wrap b ≥ (94 : Int))) (br (decide (IntKind.i64.wrap b ≤ (96 : Int))) (SV.v (Value.int IntKind.i32 (32 : Int))
   = SV.v (Value.int IntKind.i32 (ofT (3 : Int) b))) (br (decide (IntKind.i64.wrap b ≥ (97 : Int))) (br (decide (IntKind.i64.wrap b ≤ (126 : Int))) (rq (decide ((0 : Int) ≤ IntKind.i64.wrap (IntKind.i64.wrap b - (97 : Int)) ∧ IntKind.i64.wrap
   (IntKind.i64.wrap b - (97 : Int)) < (30 : Int))) (rq (((0 : Nat) + (IntKind.i64.wrap (IntKind.i64.wrap b - (97 : Int))).toNat * (1 : Nat)).blt (30 : Nat)) (SV.v (Value.int IntKind.i32 ((LI [(9608 : Int), (8543 : Int), (179 : Int), (8309 : Int), (8311
   : Int), (176 : Int), (177 : Int), (8594 : Int), (8230 : Int), (247 : Int), (8595 : Int), (9620 : Int), (9146 : Int), (9147 : Int), (9473 : Int), (9472 : Int), (9476 : Int), (9148 : Int), (9149 : Int), (8320 : Int), (8321 : Int), (8322 : Int), (8323 :
   Int), (8324 : Int), (8325 : Int), (8326 : Int), (8327 : Int), (8328 : Int), (8329 : Int), (182 : Int)]).getD ((0 : Nat) + (IntKind.i64.wrap (IntKind.i64.wrap b - (97 : Int))).toNat * (1 : Nat)) (0 : Int))) = SV.v (Value.int IntKind.i32 (ofT (3 : Int)
   b))))) (SV.v (Value.int IntKind.i32 (IntKind.i32.wrap (IntKind.i64.wrap b))) = SV.v (Value.int IntKind.i32 (ofT (3 : Int) b)))) (SV.v (Value.int IntKind.i32 (IntKind.i32.wrap (IntKind.i64.wrap b))) = SV.v (Value.int IntKind.i32 (ofT (3 : Int) b)))))
   (br (decide (IntKind.i64.wrap b ≥ (97 : Int))) (br (decide (IntKind.i64.wrap b ≤ (126 : Int))) (rq (decide ((0 : Int) ≤ IntKind.i64.wrap (IntKind.i64.wrap b - (97 : Int)) ∧ IntKind.i64.wrap (IntKind.i64.wrap b - (97 : Int)) < (30 : Int))) (rq (((0 :
   Nat) + (IntKind.i64.wrap (IntKind.i64.wrap b - (97 : Int))).toNat * (1 : Nat)).blt (30 : Nat)) (SV.v (Value.int IntKind.i32 ((LI [(9608 : Int), (8543 : Int), (179 : Int), (8309 : Int), (8311 : Int), (176 : Int), (177 : Int), (8594 : Int), (8230 :
   Int), (247 : Int), (8595 : Int), (9620 : Int), (9146 : Int), (9147 : Int), (9473 : Int), (9472 : Int), (9476 : Int), (9148 : Int), (9149 : Int), (8320 : Int), (8321 : Int), (8322 : Int), (8323 : Int), (8324 : Int), (8325 : Int), (8326 : Int), (8327 :
   Int), (8328 : Int), (8329 : Int), (182 : Int)]).getD ((0 : Nat) + (IntKind.i64.wrap (IntKind.i64.wrap b - (97 : Int))).toNat * (1 : Nat)) (0 : Int))) = SV.v (Value.int IntKind.i32 (ofT (3 : Int) b))))) (SV.v (Value.int IntKind.i32 (IntKind.i32.wrap
   (IntKind.i64.wrap b))) = SV.v (Value.int IntKind.i32 (ofT (3 : Int) b)))) (SV.v (Value.int IntKind.i32 (IntKind.i32.wrap (IntKind.i64.wrap b))) = SV.v (Value.int IntKind.i32 (ofT (3 : Int) b))))) (br (decide (IntKind.i64.wrap b ≥ (94 : Int))) (br
   (decide (IntKind.i64.wrap b ≤ (96 : Int))) (SV.v (Value.int IntKind.i32 (32 : Int)) = SV.v (Value.int IntKind.i32 (ofT (3 : Int) b))) (br (decide (IntKind.i64.wrap b ≥ (97 : Int))) (br (decide (IntKind.i64.wrap b ≤ (126 : Int))) (rq (decide ((0 :
   Int) ≤ IntKind.i64.wrap (IntKind.i64.wrap b - (97 : Int)) ∧ IntKind.i64.wrap (IntKind.i64.wrap b - (97 : Int)) < (30 : Int))) (rq (((0 : Nat) + (IntKind.i64.wrap (IntKind.i64.wrap b - (97 : Int))).toNat * (1 : Nat)).blt (30 : Nat)) (SV.v (Value.int
   IntKind.i32 ((LI [(9608 : Int), (8543 : Int), (179 : Int), (8309 : Int), (8311 : Int), (176 : Int), (177 : Int), (8594 : Int), (8230 : Int), (247 : Int), (8595 : Int), (9620 : Int), (9146 : Int), (9147 : Int), (9473 : Int), (9472 : Int), (9476 :
   Int), (9148 : Int), (9149 : Int), (8320 : Int), (8321 : Int), (8322 : Int), (8323 : Int), (8324 : Int), (8325 : Int), (8326 : Int), (8327 : Int), (8328 : Int), (8329 : Int), (182 : Int)]).getD ((0 : Nat) + (IntKind.i64.wrap (IntKind.i64.wrap b - (97
   : Int))).toNat * (1 : Nat)) (0 : Int))) = SV.v (Value.int IntKind.i32 (ofT (3 : Int) b))))) (SV.v (Value.int IntKind.i32 (65533 : Int)) = SV.v (Value.int IntKind.i32 (ofT (3 : Int) b)))) (SV.v (Value.int IntKind.i32 (65533 : Int)) = SV.v (Value.int
   IntKind.i32 (ofT (3 : Int) b))))) (br (decide (IntKind.i64.wrap b ≥ (97 : Int))) (br (decide (IntKind.i64.wrap b ≤ (126 : Int))) (rq (decide ((0 : Int) ≤ IntKind.i64.wrap (IntKind.i64.wrap b - (97 : Int)) ∧ IntKind.i64.wrap (IntKind.i64.wrap b - (97
   : Int)) < (30 : Int))) (rq (((0 : Nat) + (IntKind.i64.wrap (IntKind.i64.wrap b - (97 : Int))).toNat * (1 : Nat)).blt (30 : Nat)) (SV.v (Value.int IntKind.i32 ((LI [(9608 : Int), (8543 : Int), (179 : Int), (8309 : Int), (8311 : Int), (176 : Int), (177
   : Int), (8594 : Int), (8230 : Int), (247 : Int), (8595 : Int), (9620 : Int), (9146 : Int), (9147 : Int), (9473 : Int), (9472 : Int), (9476 : Int), (9148 : Int), (9149 : Int), (8320 : Int), (8321 : Int), (8322 : Int), (8323 : Int), (8324 : Int), (8325
   : Int), (8326 : Int), (8327 : Int), (8328 : Int), (8329 : Int), (182 : Int)]).getD ((0 : Nat) + (IntKind.i64.wrap (IntKind.i64.wrap b - (97 : Int))).toNat * (1 : Nat)) (0 : Int))) = SV.v (Value.int IntKind.i32 (ofT (3 : Int) b))))) (SV.v (Value.int
   IntKind.i32 (65533 : Int)) = SV.v (Value.int IntKind.i32 (ofT (3 : Int) b)))) (SV.v (Value.int IntKind.i32 (65533 : Int)) = SV.v (Value.int IntKind.i32 (ofT (3 : Int) b)))))) (br (decide (IntKind.i64.wrap b ≥ (94 : Int))) (br (decide
   (IntKind.i64.wrap b ≤ (96 : Int))) (SV.v (Value.int IntKind.i32 (32 : Int)) = SV.v (Value.int IntKind.i32 (ofT (3 : Int) b))) (br (decide (IntKind.i64.wrap b ≥ (97 : Int))) (br (decide (IntKind.i64.wrap b ≤ (126 : Int))) (rq (decide ((0 : Int) ≤
   IntKind.i64.wrap (IntKind.i64.wrap b - (97 : Int)) ∧ IntKind.i64.wrap (IntKind.i64.wrap b - (97 : Int)) < (30 : Int))) (rq (((0 : Nat) + (IntKind.i64.wrap (IntKind.i64.wrap b - (97 : Int))).toNat * (1 : Nat)).blt (30 : Nat)) (SV.v (Value.int
   IntKind.i32 ((LI [(9608 : Int), (8543 : Int), (179 : Int), (8309 : Int), (8311 : Int), (176 : Int), (177 : Int), (8594 : Int), (8230 : Int), (247 : Int), (8595 : Int), (9620 : Int), (9146 : Int), (9147 : Int), (9473 : Int), (9472 : Int), (9476 :
   Int), (9148 : Int), (9149 : Int), (8320 : Int), (8321 : Int), (8322 : Int), (8323 : Int), (8324 : Int), (8325 : Int), (8326 : Int), (8327 : Int), (8328 : Int), (8329 : Int), (182 : Int)]).getD ((0 : Nat) + (IntKind.i64.wrap (IntKind.i64.wrap b - (97
   : Int))).toNat * (1 : Nat)) (0 : Int))) = SV.v (Value.int IntKind.i32 (ofT (3 : Int) b))))) (SV.v (Value.int IntKind.i32 (65533 : Int)) = SV.v (Value.int IntKind.i32 (ofT (3 : Int) b)))) (SV.v (Value.int IntKind.i32 (65533 : Int)) = SV.v (Value.int
   IntKind.i32 (ofT (3 : Int) b))))) (br (decide (IntKind.i64.wrap b ≥ (97 : Int))) (br (decide (IntKind.i64.wrap b ≤ (126 : Int))) (rq (decide ((0 : Int) ≤ IntKind.i64.wrap (IntKind.i64.wrap b - (97 : Int)) ∧ IntKind.i64.wrap (IntKind.i64.wrap b - (97
   : Int)) < (30 : Int))) (rq (((0 : Nat) + (IntKind.i64.wrap (IntKind.i64.wrap b - (97 : Int))).toNat * (1 : Nat)).blt (30 : Nat)) (SV.v (Value.int IntKind.i32 ((LI [(9608 : Int), (8543 : Int), (179 : Int), (8309 : Int), (8311 : Int), (176 : Int), (177
   : Int), (8594 : Int), (8230 : Int), (247 : Int), (8595 : Int), (9620 : Int), (9146 : Int), (9147 : Int), (9473 : Int), (9472 : Int), (9476 : Int), (9148 : Int), (9149 : Int), (8320 : Int), (8321 : Int), (8322 : Int), (8323 : Int), (8324 : Int), (8325
   : Int), (8326 : Int), (8327 : Int), (8328 : Int), (8329 : Int), (182 : Int)]).getD ((0 : Nat) + (IntKind.i64.wrap (IntKind.i64.wrap b - (97 : Int))).toNat * (1 : Nat)) (0 : Int))) = SV.v (Value.int IntKind.i32 (ofT (3 : Int) b))))) (SV.v (Value.int
   IntKind.i32 (65533 : Int)) = SV.v (Value.int IntKind.i32 (ofT (3 : Int) b)))) (SV.v (Value.int IntKind.i32 (65533 : Int)) = SV.v (Value.int IntKind.i32 (ofT (3 : Int) b))))))) (by kernel_rfl) ?_
  have hw : IntKind.i64.wrap b = b := wrap64 (by omega) (by omega)
  have hw1 : IntKind.i64.wrap (b - 1) = b - 1 := wrap64 (by omega) (by omega)
  have hw97 : IntKind.i64.wrap (b - 97) = b - 97 := wrap64 (by omega) (by omega)
  have hw128 : IntKind.i64.wrap (b - 128) = b - 128 := wrap64 (by omega) (by omega)
  have hw48 : IntKind.i64.wrap (b - 48) = b - 48 := wrap64 (by omega) (by omega)
  have hw32 : IntKind.i64.wrap (b - 32) = b - 32 := wrap64 (by omega) (by omega)
  have hw160 : IntKind.i64.wrap (b - 128 - 32) = b - 128 - 32 := wrap64 (by omega) (by omega)
  have hv : IntKind.i32.wrap b = b := IntWalk.i32_in _ ⟨by omega, by omega⟩
  have hv128 : IntKind.i32.wrap (b - 128) = b - 128 := IntWalk.i32_in _ ⟨by omega, by omega⟩
  have hv32 : IntKind.i32.wrap (b - 32) = b - 32 := IntWalk.i32_in _ ⟨by omega, by omega⟩
  have hv160 : IntKind.i32.wrap (b - 128 - 32) = b - 128 - 32 := IntWalk.i32_in _ ⟨by omega, by omega⟩
  have g_graph : ∀ k : Nat, (LI [9608, 8543, 179, 8309, 8311, 176, 177, 8594, 8230, 247, 8595, 9620, 9146, 9147, 9473, 9472, 9476, 9148, 9149, 8320, 8321, 8322, 8323, 8324, 8325, 8326, 8327, 8328, 8329, 182]).getD (0 + k * 1) 0 = graphL.getD k 0 := fun k => by rw [Nat.zero_add, Nat.mul_one]; rfl
  simp only [hw, hw1, hw97, hw128, hw48, hw32, hw160, hv, hv128, hv32, hv160, g_graph, br_iff, rq_iff, nbeq, SV.v.injEq, Value.int.injEq, true_and, and_true, decide_eq_true_eq, decide_eq_false_iff_not, Nat.blt_eq, beq_iff_eq, beq_eq_false_iff_ne]
  clear hw hw1 hw97 hw128 hw48 hw32 hw160 hv hv128 hv32 hv160 g_graph
  repeat' (first | intro _ | refine And.intro ?_ ?_)
  all_goals first
    | (exfalso; omega)
    | (rw [o3_0 (by omega)])
    | (rw [o3_1 (by omega)])
    | (rw [o3_2 (by omega)])
    | (rw [o3_3 (by omega)])
    | omega
set_option maxHeartbeats 4000000 in
theorem rOf4 (b : Int) (h0 : 0 ≤ b) (h1 : b ≤ 255) : rOfAsk 4 b := by
  unfold rOfAsk
  refine kcast (B := (br (decide (IntKind.i64.wrap b ≥ (32 : Int))) (br (decide (IntKind.i64.wrap b ≤ (126 : Int))) (br (decide (IntKind.i64.wrap b ≥ (48 : Int))) (br (decide (IntKind.i64.wrap b ≤ (63 : Int))) (rq (decide ((0 : Int) ≤
   IntKind.i64.wrap (IntKind.i64.wrap b - (48 : Int)) ∧ IntKind.i64.wrap (IntKind.i64.wrap b - (48 : Int)) < (16 : Int))) (rq (((0 : Nat) + (IntKind.i64.wrap (IntKind.i64.wrap b - (48 : Int))).toNat * (1 : Nat)).blt (16 : Nat)) (SV.v (Value.int
   IntKind.i32 ((LI [(9516 : Int), (9492 : Int), (9484 : Int), (9488 : Int), (9500 : Int), (9496 : Int), (9474 : Int), (9608 : Int), (9532 : Int), (9508 : Int), (9472 : Int), (9618 : Int), (9552 : Int), (9524 : Int), (9553 : Int), (9617 : Int)]).getD
   ((0 : Nat) + (IntKind.i64.wrap (IntKind.i64.wrap b - (48 : Int))).toNat * (1 : Nat)) (0 : Int))) = SV.v (Value.int IntKind.i32 (ofT (4 : Int) b))))) (SV.v (Value.int IntKind.i32 (IntKind.i32.wrap (IntKind.i64.wrap b))) = SV.v (Value.int IntKind.i32
   (ofT (4 : Int) b)))) (SV.v (Value.int IntKind.i32 (IntKind.i32.wrap (IntKind.i64.wrap b))) = SV.v (Value.int IntKind.i32 (ofT (4 : Int) b)))) (br (decide (IntKind.i64.wrap b ≥ (48 : Int))) (br (decide (IntKind.i64.wrap b ≤ (63 : Int))) (rq (decide
   ((0 : Int) ≤ IntKind.i64.wrap (IntKind.i64.wrap b - (48 : Int)) ∧ IntKind.i64.wrap (IntKind.i64.wrap b - (48 : Int)) < (16 : Int))) (rq (((0 : Nat) + (IntKind.i64.wrap (IntKind.i64.wrap b - (48 : Int))).toNat * (1 : Nat)).blt (16 : Nat)) (SV.v
   (Value.int IntKind.i32 ((LI [(9516 : Int), (9492 : Int), (9484 : Int), (9488 : Int), (9500 : Int), (9496 : Int), (9474 : Int), (9608 : Int), (9532 : Int), (9508 : Int), (9472 : Int), (9618 : Int), (9552 : Int), (9524 : Int), (9553 : Int), (9617 :
   Int)]).getD ((0 : Nat) + (IntKind.i64.wrap (IntKind.i64.wrap b - (48 : Int))).toNat * (1 : Nat)) (0 : Int))) = SV.v (Value.int IntKind.i32 (ofT (4 : Int) b))))) (SV.v (Value.int IntKind.i32 (65533 : Int)) = SV.v (Value.int IntKind.i32 (ofT (4 : Int)
   b)))) (SV.v (Value.int IntKind.i32 (65533 : Int)) = SV.v (Value.int IntKind.i32 (ofT (4 : Int) b))))) (br (decide (IntKind.i64.wrap b ≥ (48 : Int))) (br (decide (IntKind.i64.wrap b ≤ (63 : Int))) (rq (decide ((0 : Int) ≤ IntKind.i64.wrap
   (IntKind.i64.wrap b - (48 : Int)) ∧ IntKind.i64.wrap (IntKind.i64.wrap b - (48 : Int)) < (16 : Int))) (rq (((0 : Nat) + (IntKind.i64.wrap (IntKind.i64.wrap b - (48 : Int))).toNat * (1 : Nat)).blt (16 : Nat)) (SV.v (Value.int IntKind.i32 ((LI [(9516 :
   Int), (9492 : Int), (9484 : Int), (9488 : Int), (9500 : Int), (9496 : Int), (9474 : Int), (9608 : Int), (9532 : Int), (9508 : Int), (9472 : Int), (9618 : Int), (9552 : Int), (9524 : Int), (9553 : Int), (9617 : Int)]).getD ((0 : Nat) +
   (IntKind.i64.wrap (IntKind.i64.wrap b - (48 : Int))).toNat * (1 : Nat)) (0 : Int))) = SV.v (Value.int IntKind.i32 (ofT (4 : Int) b))))) (SV.v (Value.int IntKind.i32 (65533 : Int)) = SV.v (Value.int IntKind.i32 (ofT (4 : Int) b)))) (SV.v (Value.int
   IntKind.i32 (65533 : Int)) = SV.v (Value.int IntKind.i32 (ofT (4 : Int) b)))))) (by kernel_rfl) ?_
  have hw : IntKind.i64.wrap b = b := wrap64 (by omega) (by omega)
  have hw1 : IntKind.i64.wrap (b - 1) = b - 1 := wrap64 (by omega) (by omega)
  have hw97 : IntKind.i64.wrap (b - 97) = b - 97 := wrap64 (by omega) (by omega)
  have hw128 : IntKind.i64.wrap (b - 128) = b - 128 := wrap64 (by omega) (by omega)
  have hw48 : IntKind.i64.wrap (b - 48) = b - 48 := wrap64 (by omega) (by omega)
  have hw32 : IntKind.i64.wrap (b - 32) = b - 32 := wrap64 (by omega) (by omega)
  have hw160 : IntKind.i64.wrap (b - 128 - 32) = b - 128 - 32 := wrap64 (by omega) (by omega)
  have hv : IntKind.i32.wrap b = b := IntWalk.i32_in _ ⟨by omega, by omega⟩
  have hv128 : IntKind.i32.wrap (b - 128) = b - 128 := IntWalk.i32_in _ ⟨by omega, by omega⟩
  have hv32 : IntKind.i32.wrap (b - 32) = b - 32 := IntWalk.i32_in _ ⟨by omega, by omega⟩
  have hv160 : IntKind.i32.wrap (b - 128 - 32) = b - 128 - 32 := IntWalk.i32_in _ ⟨by omega, by omega⟩
  have g_lines : ∀ k : Nat, (LI [9516, 9492, 9484, 9488, 9500, 9496, 9474, 9608, 9532, 9508, 9472, 9618, 9552, 9524, 9553, 9617]).getD (0 + k * 1) 0 = linesL.getD k 0 := fun k => by rw [Nat.zero_add, Nat.mul_one]; rfl
  simp only [hw, hw1, hw97, hw128, hw48, hw32, hw160, hv, hv128, hv32, hv160, g_lines, br_iff, rq_iff, nbeq, SV.v.injEq, Value.int.injEq, true_and, and_true, decide_eq_true_eq, decide_eq_false_iff_not, Nat.blt_eq, beq_iff_eq, beq_eq_false_iff_ne]
  clear hw hw1 hw97 hw128 hw48 hw32 hw160 hv hv128 hv32 hv160 g_lines
  repeat' (first | intro _ | refine And.intro ?_ ?_)
  all_goals first
    | (exfalso; omega)
    | (rw [o4_0 (by omega)])
    | (rw [o4_1 (by omega)])
    | (rw [o4_2 (by omega)])
    | omega
set_option maxHeartbeats 4000000 in
theorem rOf5 (b : Int) (h0 : 0 ≤ b) (h1 : b ≤ 255) : rOfAsk 5 b := by
  unfold rOfAsk
  refine kcast (B := (br (decide (IntKind.i64.wrap b ≥ (128 : Int))) (br (decide (IntKind.i64.wrap (IntKind.i64.wrap b - (128 : Int)) ≥ (32 : Int))) (br (decide (IntKind.i64.wrap (IntKind.i64.wrap b - (128 : Int)) ≤ (126 : Int))) (br (decide
   (IntKind.i64.wrap (IntKind.i64.wrap b - (128 : Int)) ≥ (97 : Int))) (br (decide (IntKind.i64.wrap (IntKind.i64.wrap b - (128 : Int)) ≤ (122 : Int))) (SV.v (Value.int IntKind.i32 (IntKind.i32.wrap (IntKind.i64.wrap (IntKind.i64.wrap (IntKind.i64.wrap
   b - (128 : Int)) - (32 : Int))))) = SV.v (Value.int IntKind.i32 (ofT (5 : Int) b))) (SV.v (Value.int IntKind.i32 (IntKind.i32.wrap (IntKind.i64.wrap (IntKind.i64.wrap b - (128 : Int))))) = SV.v (Value.int IntKind.i32 (ofT (5 : Int) b)))) (SV.v
   (Value.int IntKind.i32 (IntKind.i32.wrap (IntKind.i64.wrap (IntKind.i64.wrap b - (128 : Int))))) = SV.v (Value.int IntKind.i32 (ofT (5 : Int) b)))) (br (decide (IntKind.i64.wrap (IntKind.i64.wrap b - (128 : Int)) ≥ (97 : Int))) (br (decide
   (IntKind.i64.wrap (IntKind.i64.wrap b - (128 : Int)) ≤ (122 : Int))) (SV.v (Value.int IntKind.i32 (IntKind.i32.wrap (IntKind.i64.wrap (IntKind.i64.wrap (IntKind.i64.wrap b - (128 : Int)) - (32 : Int))))) = SV.v (Value.int IntKind.i32 (ofT (5 : Int)
   b))) (SV.v (Value.int IntKind.i32 (65533 : Int)) = SV.v (Value.int IntKind.i32 (ofT (5 : Int) b)))) (SV.v (Value.int IntKind.i32 (65533 : Int)) = SV.v (Value.int IntKind.i32 (ofT (5 : Int) b))))) (br (decide (IntKind.i64.wrap (IntKind.i64.wrap b -
   (128 : Int)) ≥ (97 : Int))) (br (decide (IntKind.i64.wrap (IntKind.i64.wrap b - (128 : Int)) ≤ (122 : Int))) (SV.v (Value.int IntKind.i32 (IntKind.i32.wrap (IntKind.i64.wrap (IntKind.i64.wrap (IntKind.i64.wrap b - (128 : Int)) - (32 : Int))))) = SV.v
   (Value.int IntKind.i32 (ofT (5 : Int) b))) (SV.v (Value.int IntKind.i32 (65533 : Int)) = SV.v (Value.int IntKind.i32 (ofT (5 : Int) b)))) (SV.v (Value.int IntKind.i32 (65533 : Int)) = SV.v (Value.int IntKind.i32 (ofT (5 : Int) b))))) (br (decide
   (IntKind.i64.wrap b ≥ (32 : Int))) (br (decide (IntKind.i64.wrap b ≤ (126 : Int))) (br (decide (IntKind.i64.wrap b ≥ (97 : Int))) (br (decide (IntKind.i64.wrap b ≤ (122 : Int))) (SV.v (Value.int IntKind.i32 (IntKind.i32.wrap (IntKind.i64.wrap
   (IntKind.i64.wrap b - (32 : Int))))) = SV.v (Value.int IntKind.i32 (ofT (5 : Int) b))) (SV.v (Value.int IntKind.i32 (IntKind.i32.wrap (IntKind.i64.wrap b))) = SV.v (Value.int IntKind.i32 (ofT (5 : Int) b)))) (SV.v (Value.int IntKind.i32
   (IntKind.i32.wrap (IntKind.i64.wrap b))) = SV.v (Value.int IntKind.i32 (ofT (5 : Int) b)))) (br (decide (IntKind.i64.wrap b ≥ (97 : Int))) (br (decide (IntKind.i64.wrap b ≤ (122 : Int))) (SV.v (Value.int IntKind.i32 (IntKind.i32.wrap
   (IntKind.i64.wrap (IntKind.i64.wrap b - (32 : Int))))) = SV.v (Value.int IntKind.i32 (ofT (5 : Int) b))) (SV.v (Value.int IntKind.i32 (65533 : Int)) = SV.v (Value.int IntKind.i32 (ofT (5 : Int) b)))) (SV.v (Value.int IntKind.i32 (65533 : Int)) = SV.v
   (Value.int IntKind.i32 (ofT (5 : Int) b))))) (br (decide (IntKind.i64.wrap b ≥ (97 : Int))) (br (decide (IntKind.i64.wrap b ≤ (122 : Int))) (SV.v (Value.int IntKind.i32 (IntKind.i32.wrap (IntKind.i64.wrap (IntKind.i64.wrap b - (32 : Int))))) = SV.v
   (Value.int IntKind.i32 (ofT (5 : Int) b))) (SV.v (Value.int IntKind.i32 (65533 : Int)) = SV.v (Value.int IntKind.i32 (ofT (5 : Int) b)))) (SV.v (Value.int IntKind.i32 (65533 : Int)) = SV.v (Value.int IntKind.i32 (ofT (5 : Int) b))))))) (by
   kernel_rfl) ?_
  have hw : IntKind.i64.wrap b = b := wrap64 (by omega) (by omega)
  have hw1 : IntKind.i64.wrap (b - 1) = b - 1 := wrap64 (by omega) (by omega)
  have hw97 : IntKind.i64.wrap (b - 97) = b - 97 := wrap64 (by omega) (by omega)
  have hw128 : IntKind.i64.wrap (b - 128) = b - 128 := wrap64 (by omega) (by omega)
  have hw48 : IntKind.i64.wrap (b - 48) = b - 48 := wrap64 (by omega) (by omega)
  have hw32 : IntKind.i64.wrap (b - 32) = b - 32 := wrap64 (by omega) (by omega)
  have hw160 : IntKind.i64.wrap (b - 128 - 32) = b - 128 - 32 := wrap64 (by omega) (by omega)
  have hv : IntKind.i32.wrap b = b := IntWalk.i32_in _ ⟨by omega, by omega⟩
  have hv128 : IntKind.i32.wrap (b - 128) = b - 128 := IntWalk.i32_in _ ⟨by omega, by omega⟩
  have hv32 : IntKind.i32.wrap (b - 32) = b - 32 := IntWalk.i32_in _ ⟨by omega, by omega⟩
  have hv160 : IntKind.i32.wrap (b - 128 - 32) = b - 128 - 32 := IntWalk.i32_in _ ⟨by omega, by omega⟩
  simp only [hw, hw1, hw97, hw128, hw48, hw32, hw160, hv, hv128, hv32, hv160, br_iff, rq_iff, nbeq, SV.v.injEq, Value.int.injEq, true_and, and_true, decide_eq_true_eq, decide_eq_false_iff_not, Nat.blt_eq, beq_iff_eq, beq_eq_false_iff_ne]
  clear hw hw1 hw97 hw128 hw48 hw32 hw160 hv hv128 hv32 hv160
  repeat' (first | intro _ | refine And.intro ?_ ?_)
  all_goals first
    | (exfalso; omega)
    | (rw [o5_0 (by omega)])
    | (rw [o5_1 (by omega)])
    | (rw [o5_2 (by omega)])
    | (rw [o5_3 (by omega)])
    | (rw [o5_4 (by omega)])
    | (rw [o5_5 (by omega)])
    | omega
set_option maxHeartbeats 4000000 in
theorem rOfda (m : Nat) (b : Int) (h0 : 0 ≤ b) (h1 : b ≤ 255) : rOfAsk (Int.negSucc m) b := by
  unfold rOfAsk
  refine kcast (B := (br (decide (IntKind.i64.wrap b ≥ (32 : Int))) (br (decide (IntKind.i64.wrap b ≤ (126 : Int))) (SV.v (Value.int IntKind.i32 (65533 : Int)) = SV.v (Value.int IntKind.i32 (ofT (Int.negSucc m) b))) (SV.v (Value.int IntKind.i32
   (65533 : Int)) = SV.v (Value.int IntKind.i32 (ofT (Int.negSucc m) b)))) (SV.v (Value.int IntKind.i32 (65533 : Int)) = SV.v (Value.int IntKind.i32 (ofT (Int.negSucc m) b))))) (by kernel_rfl) ?_
  have e : ofT (Int.negSucc m) b = 65533 := by simp [ofT] <;> omega
  rw [e]
  simp [br_iff, rq_iff]
set_option maxHeartbeats 4000000 in
theorem rOfdb (m : Nat) (b : Int) (h0 : 0 ≤ b) (h1 : b ≤ 255) : rOfAsk (0) b := by
  unfold rOfAsk
  refine kcast (B := (br (decide (IntKind.i64.wrap b ≥ (32 : Int))) (br (decide (IntKind.i64.wrap b ≤ (126 : Int))) (SV.v (Value.int IntKind.i32 (65533 : Int)) = SV.v (Value.int IntKind.i32 (ofT (0 : Int) b))) (SV.v (Value.int IntKind.i32 (65533 :
   Int)) = SV.v (Value.int IntKind.i32 (ofT (0 : Int) b)))) (SV.v (Value.int IntKind.i32 (65533 : Int)) = SV.v (Value.int IntKind.i32 (ofT (0 : Int) b))))) (by kernel_rfl) ?_
  have e : ofT (0) b = 65533 := by simp [ofT] <;> omega
  rw [e]
  simp [br_iff, rq_iff]
set_option maxHeartbeats 4000000 in
theorem rOfdc (m : Nat) (b : Int) (h0 : 0 ≤ b) (h1 : b ≤ 255) : rOfAsk (Int.ofNat (m + 6)) b := by
  unfold rOfAsk
  refine kcast (B := (br (decide (IntKind.i64.wrap b ≥ (32 : Int))) (br (decide (IntKind.i64.wrap b ≤ (126 : Int))) (SV.v (Value.int IntKind.i32 (65533 : Int)) = SV.v (Value.int IntKind.i32 (ofT (Int.ofNat (m + (6 : Nat))) b))) (SV.v (Value.int
   IntKind.i32 (65533 : Int)) = SV.v (Value.int IntKind.i32 (ofT (Int.ofNat (m + (6 : Nat))) b)))) (SV.v (Value.int IntKind.i32 (65533 : Int)) = SV.v (Value.int IntKind.i32 (ofT (Int.ofNat (m + (6 : Nat))) b))))) (by kernel_rfl) ?_
  have e : ofT (Int.ofNat (m + 6)) b = 65533 := by simp [ofT] <;> omega
  rw [e]
  simp [br_iff, rq_iff]
set_option maxHeartbeats 4000000 in
theorem ok_rOf : PureOk Try.prog 10 psROf := by
  refine pureOk_all (fun _ => allCfg Try.prog [] [] 0) (fun _ _ => allCfg_ok mixed trivial trivial) (fun _ => rfl) (n := 60) Try.func10 (fun _ => rfl) (fun _ => rfl) ?_
  intro ⟨set, b⟩ hφ
  obtain ⟨hb0, hb1⟩ := hφ
  show rOfAsk set b
  by_cases n1 : set = 1
  · subst n1; exact rOf1 b hb0 hb1
  by_cases n2 : set = 2
  · subst n2; exact rOf2 b hb0 hb1
  by_cases n3 : set = 3
  · subst n3; exact rOf3 b hb0 hb1
  by_cases n4 : set = 4
  · subst n4; exact rOf4 b hb0 hb1
  by_cases n5 : set = 5
  · subst n5; exact rOf5 b hb0 hb1
  obtain ⟨m, rfl⟩ | rfl | ⟨m, rfl⟩ : (∃ m : Nat, set = Int.negSucc m) ∨ set = 0 ∨ ∃ m : Nat, set = Int.ofNat (m + 6) := by
    rcases Int.lt_trichotomy set 0 with h | h | h
    · exact .inl ⟨(-set - 1).toNat, by omega⟩
    · exact .inr (.inl h)
    · exact .inr (.inr ⟨(set - 6).toNat, by show set = ((((set - 6).toNat + 6 : Nat)) : Int); omega⟩)
  · exact rOfda m b hb0 hb1
  · exact rOfdb 0 b hb0 hb1
  · exact rOfdc m b hb0 hb1
end Go.Proofs.Ytgpfdajjkalloaa
