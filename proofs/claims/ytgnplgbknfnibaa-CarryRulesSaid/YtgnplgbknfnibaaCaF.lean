/- What is kept of attributes, as bits. -/
import Derived.Test.YtgnplgbknfnibaaCaA
set_option linter.unusedSimpArgs false
set_option linter.unusedVariables false
set_option linter.unusedSectionVars false
namespace Go.Proofs.Ytgnplgbknfnibaa
open Go Go.Sym

def maskT (p : Int) : Int := if p = 2 then 16255 else if p = 1 then 0 else 62
def attrT (p a : Int) : Int :=
  if bitsK .and .i64 (bitsK .and .i64 a (maskT p)) 64 = 0 then bitsK .andNot .i64 (bitsK .and .i64 a (maskT p)) 16128 else bitsK .and .i64 a (maskT p)

def toI (B : BitVec 64) : Int := IntKind.wrap .i64 (B.toNat : Int)
def ofI (a : Int) : BitVec 64 := BitVec.ofInt 64 a
theorem ofI_toI (B : BitVec 64) : ofI (toI B) = B := by
  apply BitVec.eq_of_toNat_eq
  have h := B.isLt
  unfold ofI toI IntKind.wrap
  simp only [IntKind.bits, IntKind.signed, BitVec.toNat_ofInt]
  simp
  omega
theorem toI_inj {A B : BitVec 64} (h : toI A = toI B) : A = B := by rw [← ofI_toI A, h, ofI_toI]
theorem and_eq (a b : Int) : bitsK .and .i64 a b = toI (ofI a &&& ofI b) := rfl
theorem andNot_eq (a b : Int) : bitsK .andNot .i64 a b = toI (ofI a &&& ~~~ ofI b) := rfl
def maskB (p : Int) : BitVec 64 := if p = 2 then 16255#64 else if p = 1 then 0#64 else 62#64
theorem mask_eq (p : Int) : ofI (maskT p) = maskB p := by
  unfold maskT maskB
  split
  · rfl
  · split <;> rfl
def attrB (p : Int) (A : BitVec 64) : BitVec 64 := if (A &&& maskB p) &&& 64#64 = 0#64 then (A &&& maskB p) &&& ~~~ 16128#64 else A &&& maskB p
theorem toI_zero : toI 0#64 = 0 := rfl
theorem attr_eq (p a : Int) : attrT p a = toI (attrB p (ofI a)) := by
  unfold attrT attrB
  simp only [and_eq, andNot_eq, ofI_toI, mask_eq]
  have e1 : ofI 64 = 64#64 := rfl
  have e2 : ofI 16128 = 16128#64 := rfl
  rw [e1, e2]
  by_cases h : (ofI a &&& maskB p) &&& 64#64 = 0#64
  · rw [if_pos (by rw [h]; rfl), if_pos h]
  · rw [if_neg (fun e => h (toI_inj (e.trans toI_zero.symm))), if_neg h]
theorem attrB3 {p : Int} (h1 : p ≠ 2) (h2 : p ≠ 1) (A : BitVec 64) : attrB p A = A &&& 62#64 := by
  have hm : maskB p = 62#64 := by unfold maskB; rw [if_neg h1, if_neg h2]
  unfold attrB
  rw [hm, BitVec.and_assoc, show (62#64 &&& 64#64 : BitVec 64) = 0#64 from rfl, BitVec.and_zero, if_pos rfl, BitVec.and_assoc]
  rfl
theorem attrB1 (A : BitVec 64) : attrB 1 A = 0#64 := by
  have hm : maskB 1 = 0#64 := rfl
  unfold attrB
  rw [hm, BitVec.and_zero]
  simp
theorem attrB2 (A : BitVec 64) : attrB 2 A = if A &&& 64#64 = 0#64 then A &&& 127#64 else A &&& 16255#64 := by
  have hm : maskB 2 = 16255#64 := rfl
  unfold attrB
  rw [hm, BitVec.and_assoc, show (16255#64 &&& 64#64 : BitVec 64) = 64#64 from rfl, BitVec.and_assoc, show (16255#64 &&& ~~~ 16128#64 : BitVec 64) = 127#64 from rfl]
theorem attr_twice (p : Int) (A : BitVec 64) : attrB p (attrB p A) = attrB p A := by
  by_cases h2 : p = 2
  · subst h2
    rw [attrB2 A]
    split
    · rename_i h
      rw [attrB2, BitVec.and_assoc, show (127#64 &&& 64#64 : BitVec 64) = 64#64 from rfl, if_pos h, BitVec.and_assoc]; rfl
    · rename_i h
      rw [attrB2, BitVec.and_assoc, show (16255#64 &&& 64#64 : BitVec 64) = 64#64 from rfl, if_neg h, BitVec.and_assoc]; rfl
  · by_cases h1 : p = 1
    · subst h1; rw [attrB1, attrB1]
    · rw [attrB3 h2 h1, attrB3 h2 h1, BitVec.and_assoc]; rfl
theorem attr_part (p : Int) (A : BitVec 64) : attrB p A &&& ~~~ A = 0#64 := by
  have key : ∀ m : BitVec 64, (A &&& m) &&& ~~~ A = 0#64 := fun m => by
    apply BitVec.eq_of_getLsbD_eq
    intro i hi
    simp
    intro h1 _ _
    exact h1
  by_cases h2 : p = 2
  · subst h2; rw [attrB2]; split <;> exact key _
  · by_cases h1 : p = 1
    · subst h1; rw [attrB1]; simp
    · rw [attrB3 h2 h1]; exact key _
theorem attrB_zero (p : Int) : attrB p 0#64 = 0#64 := by unfold attrB; simp
theorem attr_either (p q : Int) (A : BitVec 64) : attrB p (attrB q A) = attrB q (attrB p A) := by
  have c23 : ∀ {r : Int}, r ≠ 2 → r ≠ 1 → ∀ A : BitVec 64, attrB 2 (attrB r A) = attrB r (attrB 2 A) := fun h2 h1 A => by
    rw [attrB3 h2 h1, attrB3 h2 h1, attrB2 (A &&& 62#64), BitVec.and_assoc, show (62#64 &&& 64#64 : BitVec 64) = 0#64 from rfl, BitVec.and_zero, if_pos rfl, attrB2]
    split
    · rw [BitVec.and_assoc, BitVec.and_assoc]; rfl
    · rw [BitVec.and_assoc, BitVec.and_assoc]; rfl
  by_cases p1 : p = 1
  · subst p1; rw [attrB1, attrB1, attrB_zero]
  by_cases q1 : q = 1
  · subst q1; rw [attrB1, attrB1, attrB_zero]
  by_cases p2 : p = 2
  · subst p2
    by_cases q2 : q = 2
    · subst q2; rfl
    · exact c23 q2 q1 A
  · by_cases q2 : q = 2
    · subst q2; exact (c23 p2 p1 A).symm
    · rw [attrB3 p2 p1, attrB3 p2 p1, attrB3 q2 q1, attrB3 q2 q1]
theorem attrT_twice (p a : Int) : attrT p (attrT p a) = attrT p a := by rw [attr_eq p (attrT p a), attr_eq p a, ofI_toI, attr_twice]
theorem attrT_either (p q a : Int) : attrT p (attrT q a) = attrT q (attrT p a) := by rw [attr_eq p (attrT q a), attr_eq q a, ofI_toI, attr_eq q (attrT p a), attr_eq p a, ofI_toI, attr_either]
theorem attrT_part (p a : Int) : bitsK .andNot .i64 (attrT p a) a = 0 := by rw [andNot_eq, attr_eq, ofI_toI, attr_part]; rfl

end Go.Proofs.Ytgnplgbknfnibaa
