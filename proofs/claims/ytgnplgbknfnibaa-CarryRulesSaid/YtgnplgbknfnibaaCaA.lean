/- Contracts of layer 2: which glyph a byte is in a set (the program's, and the document's). -/
import Derived.Test.YtgnplgbknfnibaaSymI
import Derived.Test.YtgnplgbknfnibaaProg
set_option linter.unusedSimpArgs false
set_option linter.unusedVariables false
set_option linter.unusedSectionVars false
namespace Go.Proofs.Ytgnplgbknfnibaa
open Go Go.Sym

theorem mixed : Try.prog.follows .mixedOrders = true := by kernel_rfl
theorem br_f {b : Bool} {A B : Prop} (h : b = false) (hB : B) : br b A B := by subst h; exact hB
theorem br_t {b : Bool} {A B : Prop} (h : b = true) (hA : A) : br b A B := by subst h; exact hA
theorem rq_t {b : Bool} {A : Prop} (h : b = true) (hA : A) : rq b A := by subst h; exact hA
instance decBr (b : Bool) (A B : Prop) [Decidable A] [Decidable B] : Decidable (br b A B) := match b with
  | true => inferInstanceAs (Decidable A)
  | false => inferInstanceAs (Decidable B)
instance decRq (b : Bool) (A : Prop) [Decidable A] : Decidable (rq b A) := match b with
  | true => inferInstanceAs (Decidable A)
  | false => inferInstanceAs (Decidable False)
instance decInt (k : IntKind) (x y : Int) : Decidable (SV.v (.int k x) = SV.v (.int k y)) := decidable_of_iff (x = y) (by simp)
instance decBool (x y : Bool) : Decidable (SV.v (.bool x) = SV.v (.bool y)) := decidable_of_iff (x = y) (by simp)
theorem byte_nat {b : Int} (h : 0 ≤ b ∧ b ≤ 255) : ∃ n : Nat, n < 256 ∧ b = (n : Int) := ⟨b.toNat, by omega, by omega⟩
def lowL : List Int := [9786, 9787, 9829, 9830, 9827, 9824, 8226, 9688, 9675, 9689, 9794, 9792, 9834, 9835, 9788, 9658, 9668, 8597, 8252, 182, 167, 9644, 8616, 8593, 8595, 8594, 8592, 8735, 8596, 9650, 9660]
def highL : List Int := [199, 252, 233, 226, 228, 224, 229, 231, 234, 235, 232, 239, 238, 236, 196, 197, 201, 230, 198, 244, 246, 242, 251, 249, 255, 214, 220, 162, 163, 165, 8359, 402, 225, 237, 243, 250, 241, 209, 170, 186, 191, 8976, 172, 189, 188, 161, 171, 187, 9617, 9618, 9619, 9474, 9508, 9569, 9570, 9558, 9557, 9571, 9553, 9559, 9565, 9564, 9563, 9488, 9492, 9524, 9516, 9500, 9472, 9532, 9566, 9567, 9562, 9556, 9577, 9574, 9568, 9552, 9580, 9575, 9576, 9572, 9573, 9561, 9560, 9554, 9555, 9579, 9578, 9496, 9484, 9608, 9604, 9612, 9616, 9600, 945, 223, 915, 960, 931, 963, 181, 964, 934, 920, 937, 948, 8734, 966, 949, 8745, 8801, 177, 8805, 8804, 8992, 8993, 247, 8776, 176, 8729, 183, 8730, 8319, 178, 9632]
def graphL : List Int := [9608, 8543, 179, 8309, 8311, 176, 177, 8594, 8230, 247, 8595, 9620, 9146, 9147, 9473, 9472, 9476, 9148, 9149, 8320, 8321, 8322, 8323, 8324, 8325, 8326, 8327, 8328, 8329, 182]
def linesL : List Int := [9516, 9492, 9484, 9488, 9500, 9496, 9474, 9608, 9532, 9508, 9472, 9618, 9552, 9524, 9553, 9617]
def plainT (n : Int) : Int := if 32 ≤ n ∧ n ≤ 126 then n else 65533
def ofT (set b : Int) : Int :=
  if set = 1 then plainT b
  else if set = 2 then (if b = 0 then 32 else if b < 32 then lowL.getD (b - 1).toNat 0 else if b = 127 then 8962 else if b = 255 then 160 else if 128 ≤ b then highL.getD (b - 128).toNat 0 else plainT b)
  else if set = 3 then (if 94 ≤ b ∧ b ≤ 96 then 32 else if 97 ≤ b ∧ b ≤ 126 then graphL.getD (b - 97).toNat 0 else plainT b)
  else if set = 4 then (if 48 ≤ b ∧ b ≤ 63 then linesL.getD (b - 48).toNat 0 else plainT b)
  else if set = 5 then (if 97 ≤ (if 128 ≤ b then b - 128 else b) ∧ (if 128 ≤ b then b - 128 else b) ≤ 122 then (if 128 ≤ b then b - 128 else b) - 32 else plainT (if 128 ≤ b then b - 128 else b))
  else 65533
def shU8 : Sh Int := shInt .u8
def shR : Sh Int := shInt .i32
def psOf : PS := mkPS (shCons shI (shOne shU8)) (fun (_, b) => 0 ≤ b ∧ b ≤ 255) (fun (set, b) => .v (.int .i32 (ofT set b)))

end Go.Proofs.Ytgnplgbknfnibaa
