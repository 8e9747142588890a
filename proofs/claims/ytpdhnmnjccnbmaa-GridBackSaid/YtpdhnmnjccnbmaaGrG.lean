/- Contracts of layer 1: rows move. -/
import Derived.Test.YtpdhnmnjccnbmaaGrE
set_option linter.unusedSimpArgs false
set_option linter.unusedVariables false
set_option linter.unusedSectionVars false
namespace Go.Proofs.Ytpdhnmnjccnbmaa
open Go Go.Sym

/-- A part of the outer row: the epoch, from where, how many. -/
def shOut (b : Nat) : Sh (Nat × Nat × Nat) where
  enc a := .h b [a.1, 0, a.2.1, a.2.2, 0]
  dec x := match x with
    | .h b' q => match Nat.beq b' b with
      | true => match q with
        | [oe, o, lo, len, z] => match o with
          | 0 => match z with
            | 0 => some (oe, lo, len)
            | _ => none
          | _ => none
        | _ => none
      | false => none
    | _ => none
  ok x a h := by
    split at h
    · split at h
      · rename_i hT
        rw [Nat.beq_eq] at hT
        subst hT
        split at h
        · split at h
          · split at h
            · simp only [Option.some.injEq] at h; subst h; rfl
            · cases h
          · cases h
        · cases h
      · cases h
    · cases h
/-- Headers that go to the front by n, and what fills the rest. -/
def limAt1 {α : Type} (lo len : Nat) (n : Int) (x : α) (i : Nat) : Nat ⊕ α := if n > (len : Int) - 1 - i ∨ n < -(i : Int) then .inr x else .inl (lo + (i + n).toNat)
def limL {α : Type} (lo len : Nat) (n : Int) (x : α) : List (Nat ⊕ α) := (List.range len).map (limAt1 lo len n x)
theorem limL_length {α : Type} (lo len : Nat) (n : Int) (x : α) : (limL lo len n x).length = len := by simp [limL]
theorem limL_succ {α : Type} {lo len : Nat} {n : Int} {x : α} {k : Int} (h0 : 0 ≤ k) (h1 : k < len) : (limL lo len n x).take (k + 1).toNat = (limL lo len n x).take k.toNat ++ [limAt1 lo len n x k.toNat] := by
  rw [show (k + 1).toNat = k.toNat + 1 by omega, List.take_succ_eq_append_getElem (by rw [limL_length]; omega)]
  simp [limL]
theorem limL_get {α : Type} {lo len : Nat} {n : Int} {x : α} {i : Nat} (h : i < len) : (limL lo len n x)[i]? = some (limAt1 lo len n x i) := by simp [limL, h]
theorem limL_fits {α : Type} {lo len N : Nat} {n : Int} {x : α} (h : lo + len ≤ N) {p j : Nat} (hp : p < N) (hj : ixAt (limL lo len n x) lo p = some j) :
    j < N ∧ ∀ p' j', p' < N → p ≠ p' → ixAt (limL lo len n x) lo p' = some j' → j ≠ j' := by
  have key : ∀ p j, p < N → ixAt (limL lo len n x) lo p = some j → (j = p ∧ (p < lo ∨ lo + len ≤ p)) ∨ (lo ≤ p ∧ p < lo + len ∧ (j : Int) = p + n ∧ lo ≤ j ∧ j < lo + len) := fun p j hp hj => by
    unfold ixAt at hj
    split at hj
    · rename_i hb
      rw [Nat.blt_eq] at hb
      simp only [Option.some.injEq] at hj
      exact .inl ⟨hj.symm, .inl hb⟩
    · rename_i hb
      have hb : ¬ p < lo := by rw [← Nat.blt_eq, hb]; simp
      by_cases hl : p - lo < len
      · rw [limL_get hl] at hj
        have hj2 : (match limAt1 lo len n x (p - lo) with
          | .inl j => some j
          | .inr _ => none) = some j := hj
        unfold limAt1 at hj2
        by_cases hc : n > (len : Int) - 1 - (p - lo : Nat) ∨ n < -((p - lo : Nat) : Int)
        · rw [if_pos hc] at hj2; cases hj2
        · rw [if_neg hc] at hj2
          simp only [Option.some.injEq] at hj2
          right
          omega
      · rw [List.getElem?_eq_none (by rw [limL_length]; omega)] at hj
        simp only [Option.some.injEq] at hj
        exact .inl ⟨hj.symm, .inr (by omega)⟩
  have h1 := key p j hp hj
  refine ⟨by omega, fun p' j' hp' hne hj' => ?_⟩
  have h2 := key p' j' hp' hj'
  omega
def annMR (lo len : Nat) (n : Int) (row : List Int) (ep : Nat) : Ann Unit where
  α := Int
  φ _ k := 0 ≤ k ∧ k ≤ len
  μ _ k := ((len : Int) - k).toNat
  get st := getI st.tm 14
  f st k := tmpl [0, 1, 2, 13] [(14, .v (.int .i64 k)), (7, .h 4 [k.toNat, 0])] [(4, .limbo 0 ep (.i .i64 ((limL lo len n row).take k.toNat)) 3 63 k.toNat)] st
  fx st := match isOwn st.H 4 with
    | true => [.asLimbo 4 0 (some .i64) 3]
    | false => []
def lcMovR : ACon Unit := mkLC (decP (shCons (shOut 0) (shCons shI (shOne (shF 44 (shCons (shP 1) (shOne (shP 2))))))) (shHCons (shRowsI .i64 3 63) (shHCons (shCells (shOne shI) 3) (shHCons (shCells (shOne (shP 3)) 28) (shHOne (shCells (shOne (shO 0)) 75))))))
  fun (((oe1, lo, len), n, _), (⟨l, oe, ep⟩, x, _, oe3)) => .ask (oe1 = oe ∧ oe3 = oe ∧ GW l ∧ lo + len ≤ l.length ∧ 0 < len) (.one (.h 4 [len, 0])
    [.rows (.i .i64 l) 3 63 oe ep none, .cells [.v (.int .i64 x)] 3, .cells [.p 3 0] 28, .cells [.h 0 [oe, 0]] 75, .limbo 0 ep (.i .i64 (limL lo len n (List.replicate (nC l) x))) 3 63 len] [])
set_option maxHeartbeats 4000000 in
theorem ok_movR : ∀ I : Sym.Inv Unit, LCOk I Try.prog 45 lcMovR := by
  refine lc_mk (fun (((oe1, lo, len), n, _), (⟨l, oe, ep⟩, x, _, oe3)) => allCfg Try.prog [] tabD 3 [(257, annMR lo len n (List.replicate (nC l) x) ep)]) (fun _ _ => allCfg_ok mixed trivial tabD_ok) (fun _ => rfl) (n := 80) Try.func45 ?_
  intro ⟨⟨⟨oe1, lo, len⟩, n, _⟩, ⟨l, oe, ep⟩, x, _, oe3⟩ hφ
  obtain ⟨⟨rfl, rfl, hg, h1, h2⟩, hp⟩ := id hφ
  refine kcast (B := (rq (oe3.beq oe3 && Nat.blt (0 : Nat) (Rws.i IntKind.i64 l).len) (rq (decide ((0 : Int) ≤ (0 : Int) ∧ (0 : Int) ≤ (↑len : Int) ∧ (↑(24 : Nat) : Int) * (↑len : Int) ≤ (281474976710656 : Int) ∧ (↑len : Int) ≤ (9223372036854775807 : Int))) (rq (oe3.beq oe3 && Nat.blt (0 : Nat) (Rws.i IntKind.i64 l).len) (NoRow [] (0 : Nat) ∧ (II (0 : Int) ≤ (0 : Int) ∧ (0 : Int) ≤ (↑len : Int)) ∧ ((SV.h (0 : Nat) [oe3, (0 : Nat), lo, len, (0 : Nat)] = SV.h (0 : Nat) [oe3, (0 : Nat), lo, len, (0 : Nat)] ∧ SV.v (Value.int IntKind.i64 n) = SV.v (Value.int IntKind.i64 n) ∧ SV.f (Fn.func (44 : Nat)) [SV.p (1 : Nat) (0 : Nat), SV.p (2 : Nat) (0 : Nat)] = SV.f (Fn.func (44 : Nat)) [SV.p (1 : Nat) (0 : Nat), SV.p (2 : Nat) (0 : Nat)] ∧ SV.h (4 : Nat) [(0 : Nat), (0 : Nat)] = SV.h (4 : Nat) [(0 : Nat), (0 : Nat)] ∧ SV.v (Value.int IntKind.i64 (↑len : Int)) = SV.v (Value.int IntKind.i64 (↑len : Int)) ∧ SV.v (Value.int IntKind.i64 (0 : Int)) = SV.v (Value.int IntKind.i64 (0 : Int)) ∧ True) ∧ (oe3 = oe3 ∧ ep = ep ∧ l = l) ∧ (SV.v (Value.int IntKind.i64 x) = SV.v (Value.int IntKind.i64 x) ∧ True) ∧ (SV.p (3 : Nat) (0 : Nat) = SV.p (3 : Nat) (0 : Nat) ∧ True) ∧ (SV.h (0 : Nat) [oe3, (0 : Nat)] = SV.h (0 : Nat) [oe3, (0 : Nat)] ∧ True) ∧ (ep = ep ∧ (0 : Nat) = (0 : Nat) ∧ LJI [] = []) ∧ True) ∧ ∀ (x_1 : Int), (0 : Int) ≤ x_1 ∧ x_1 ≤ (↑len : Int) → br (decide (x_1 < (↑len : Int))) (rq (oe3.beq oe3 && Nat.blt (0 : Nat) (Rws.i IntKind.i64 l).len) (br (decide (n > IntKind.i64.wrap (IntKind.i64.wrap ((↑len : Int) - (1 : Int)) - x_1))) (rq (oe3.beq oe3 && (Nat.beq (1 : Nat) (1 : Nat) && decide ((0 : Int) ≤ (0 : Int) ∧ (0 : Int) < (↑(Rws.i IntKind.i64 l).len : Int)))) (rq (oe3.beq oe3 && Nat.blt (0 : Nat) (Rws.i IntKind.i64 l).len) (rq (ep.beq ep && Nat.blt (0 : Nat) (Rws.i IntKind.i64 l).len) (true = true ∧ ((1 : Int) ≤ (↑((Rws.i IntKind.i64 l).nAt (0 : Nat)) : Int) ∧ (↑((Rws.i IntKind.i64 l).nAt (0 : Nat)) : Int) ≤ (255 : Int)) ∧ rq (true && (x_1.toNat.beq x_1.toNat && (true && decide ((Lim.i IntKind.i64 (List.take x_1.toNat (limL lo len n (List.replicate (nC l) x)))).len + (1 : Nat) ≤ (9223372036854775807 : Nat) ∧ ((Lim.i IntKind.i64 (List.take x_1.toNat (limL lo len n (List.replicate (nC l) x)))).len + (1 : Nat)) * (24 : Nat) ≤ (140737488355328 : Nat))))) (((0 : Int) ≤ IntKind.i64.wrap (x_1 + (1 : Int)) ∧ IntKind.i64.wrap (x_1 + (1 : Int)) ≤ (↑len : Int)) ∧ ((SV.h (0 : Nat) [oe3, (0 : Nat), lo, len, (0 : Nat)] = SV.h (0 : Nat) [oe3, (0 : Nat), lo, len, (0 : Nat)] ∧ SV.v (Value.int IntKind.i64 n) = SV.v (Value.int IntKind.i64 n) ∧ SV.f (Fn.func (44 : Nat)) [SV.p (1 : Nat) (0 : Nat), SV.p (2 : Nat) (0 : Nat)] = SV.f (Fn.func (44 : Nat)) [SV.p (1 : Nat) (0 : Nat), SV.p (2 : Nat) (0 : Nat)] ∧ SV.h (4 : Nat) [x_1.toNat + (1 : Nat), (0 : Nat)] = SV.h (4 : Nat) [(IntKind.i64.wrap (x_1 + (1 : Int))).toNat, (0 : Nat)] ∧ SV.v (Value.int IntKind.i64 (↑len : Int)) = SV.v (Value.int IntKind.i64 (↑len : Int)) ∧ SV.v (Value.int IntKind.i64 (IntKind.i64.wrap (x_1 + (1 : Int)))) = SV.v (Value.int IntKind.i64 (IntKind.i64.wrap (x_1 + (1 : Int)))) ∧ True) ∧ (oe3 = oe3 ∧ ep = ep ∧ l = l) ∧ (SV.v (Value.int IntKind.i64 x) = SV.v (Value.int IntKind.i64 x) ∧ True) ∧ (SV.p (3 : Nat) (0 : Nat) = SV.p (3 : Nat) (0 : Nat) ∧ True) ∧ (SV.h (0 : Nat) [oe3, (0 : Nat)] = SV.h (0 : Nat) [oe3, (0 : Nat)] ∧ True) ∧ (ep = ep ∧ x_1.toNat + (1 : Nat) = (IntKind.i64.wrap (x_1 + (1 : Int))).toNat ∧ List.take x_1.toNat (limL lo len n (List.replicate (nC l) x)) ++ [Sum.inr (List.replicate (↑((Rws.i IntKind.i64 l).nAt (0 : Nat)) : Int).toNat x)] = List.take (IntKind.i64.wrap (x_1 + (1 : Int))).toNat (limL lo len n (List.replicate (nC l) x))) ∧ True) ∧ ((↑len : Int) - IntKind.i64.wrap (x_1 + (1 : Int))).toNat < ((↑len : Int) - x_1).toNat))))) (br (decide (n < IntKind.i64.wrap ((0 : Int) - x_1))) (rq (oe3.beq oe3 && (Nat.beq (1 : Nat) (1 : Nat) && decide ((0 : Int) ≤ (0 : Int) ∧ (0 : Int) < (↑(Rws.i IntKind.i64 l).len : Int)))) (rq (oe3.beq oe3 && Nat.blt (0 : Nat) (Rws.i IntKind.i64 l).len) (rq (ep.beq ep && Nat.blt (0 : Nat) (Rws.i IntKind.i64 l).len) (true = true ∧ ((1 : Int) ≤ (↑((Rws.i IntKind.i64 l).nAt (0 : Nat)) : Int) ∧ (↑((Rws.i IntKind.i64 l).nAt (0 : Nat)) : Int) ≤ (255 : Int)) ∧ rq (true && (x_1.toNat.beq x_1.toNat && (true && decide ((Lim.i IntKind.i64 (List.take x_1.toNat (limL lo len n (List.replicate (nC l) x)))).len + (1 : Nat) ≤ (9223372036854775807 : Nat) ∧ ((Lim.i IntKind.i64 (List.take x_1.toNat (limL lo len n (List.replicate (nC l) x)))).len + (1 : Nat)) * (24 : Nat) ≤ (140737488355328 : Nat))))) (((0 : Int) ≤ IntKind.i64.wrap (x_1 + (1 : Int)) ∧ IntKind.i64.wrap (x_1 + (1 : Int)) ≤ (↑len : Int)) ∧ ((SV.h (0 : Nat) [oe3, (0 : Nat), lo, len, (0 : Nat)] = SV.h (0 : Nat) [oe3, (0 : Nat), lo, len, (0 : Nat)] ∧ SV.v (Value.int IntKind.i64 n) = SV.v (Value.int IntKind.i64 n) ∧ SV.f (Fn.func (44 : Nat)) [SV.p (1 : Nat) (0 : Nat), SV.p (2 : Nat) (0 : Nat)] = SV.f (Fn.func (44 : Nat)) [SV.p (1 : Nat) (0 : Nat), SV.p (2 : Nat) (0 : Nat)] ∧ SV.h (4 : Nat) [x_1.toNat + (1 : Nat), (0 : Nat)] = SV.h (4 : Nat) [(IntKind.i64.wrap (x_1 + (1 : Int))).toNat, (0 : Nat)] ∧ SV.v (Value.int IntKind.i64 (↑len : Int)) = SV.v (Value.int IntKind.i64 (↑len : Int)) ∧ SV.v (Value.int IntKind.i64 (IntKind.i64.wrap (x_1 + (1 : Int)))) = SV.v (Value.int IntKind.i64 (IntKind.i64.wrap (x_1 + (1 : Int)))) ∧ True) ∧ (oe3 = oe3 ∧ ep = ep ∧ l = l) ∧ (SV.v (Value.int IntKind.i64 x) = SV.v (Value.int IntKind.i64 x) ∧ True) ∧ (SV.p (3 : Nat) (0 : Nat) = SV.p (3 : Nat) (0 : Nat) ∧ True) ∧ (SV.h (0 : Nat) [oe3, (0 : Nat)] = SV.h (0 : Nat) [oe3, (0 : Nat)] ∧ True) ∧ (ep = ep ∧ x_1.toNat + (1 : Nat) = (IntKind.i64.wrap (x_1 + (1 : Int))).toNat ∧ List.take x_1.toNat (limL lo len n (List.replicate (nC l) x)) ++ [Sum.inr (List.replicate (↑((Rws.i IntKind.i64 l).nAt (0 : Nat)) : Int).toNat x)] = List.take (IntKind.i64.wrap (x_1 + (1 : Int))).toNat (limL lo len n (List.replicate (nC l) x))) ∧ True) ∧ ((↑len : Int) - IntKind.i64.wrap (x_1 + (1 : Int))).toNat < ((↑len : Int) - x_1).toNat))))) (rq (oe3.beq oe3 && (Nat.beq (1 : Nat) (1 : Nat) && ((lo + len).ble (Rws.i IntKind.i64 l).len && decide ((0 : Int) ≤ IntKind.i64.wrap (x_1 + n) ∧ IntKind.i64.wrap (x_1 + n) < (↑len : Int))))) (rq (oe3.beq oe3 && (lo + (IntKind.i64.wrap (x_1 + n)).toNat).blt (Rws.i IntKind.i64 l).len) (rq (true && (x_1.toNat.beq x_1.toNat && (ep.beq ep && decide ((Lim.i IntKind.i64 (List.take x_1.toNat (limL lo len n (List.replicate (nC l) x)))).len + (1 : Nat) ≤ (9223372036854775807 : Nat) ∧ ((Lim.i IntKind.i64 (List.take x_1.toNat (limL lo len n (List.replicate (nC l) x)))).len + (1 : Nat)) * (24 : Nat) ≤ (140737488355328 : Nat))))) (((0 : Int) ≤ IntKind.i64.wrap (x_1 + (1 : Int)) ∧ IntKind.i64.wrap (x_1 + (1 : Int)) ≤ (↑len : Int)) ∧ ((SV.h (0 : Nat) [oe3, (0 : Nat), lo, len, (0 : Nat)] = SV.h (0 : Nat) [oe3, (0 : Nat), lo, len, (0 : Nat)] ∧ SV.v (Value.int IntKind.i64 n) = SV.v (Value.int IntKind.i64 n) ∧ SV.f (Fn.func (44 : Nat)) [SV.p (1 : Nat) (0 : Nat), SV.p (2 : Nat) (0 : Nat)] = SV.f (Fn.func (44 : Nat)) [SV.p (1 : Nat) (0 : Nat), SV.p (2 : Nat) (0 : Nat)] ∧ SV.h (4 : Nat) [x_1.toNat + (1 : Nat), (0 : Nat)] = SV.h (4 : Nat) [(IntKind.i64.wrap (x_1 + (1 : Int))).toNat, (0 : Nat)] ∧ SV.v (Value.int IntKind.i64 (↑len : Int)) = SV.v (Value.int IntKind.i64 (↑len : Int)) ∧ SV.v (Value.int IntKind.i64 (IntKind.i64.wrap (x_1 + (1 : Int)))) = SV.v (Value.int IntKind.i64 (IntKind.i64.wrap (x_1 + (1 : Int)))) ∧ True) ∧ (oe3 = oe3 ∧ ep = ep ∧ l = l) ∧ (SV.v (Value.int IntKind.i64 x) = SV.v (Value.int IntKind.i64 x) ∧ True) ∧ (SV.p (3 : Nat) (0 : Nat) = SV.p (3 : Nat) (0 : Nat) ∧ True) ∧ (SV.h (0 : Nat) [oe3, (0 : Nat)] = SV.h (0 : Nat) [oe3, (0 : Nat)] ∧ True) ∧ (ep = ep ∧ x_1.toNat + (1 : Nat) = (IntKind.i64.wrap (x_1 + (1 : Int))).toNat ∧ List.take x_1.toNat (limL lo len n (List.replicate (nC l) x)) ++ [Sum.inl (lo + (IntKind.i64.wrap (x_1 + n)).toNat)] = List.take (IntKind.i64.wrap (x_1 + (1 : Int))).toNat (limL lo len n (List.replicate (nC l) x))) ∧ True) ∧ ((↑len : Int) - IntKind.i64.wrap (x_1 + (1 : Int))).toNat < ((↑len : Int) - x_1).toNat))))))) ((SV.h (4 : Nat) [x_1.toNat, (0 : Nat)] = SV.h (4 : Nat) [len, (0 : Nat)] ∧ True) ∧ (oe3 = oe3 ∧ ep = ep ∧ l = l) ∧ (SV.v (Value.int IntKind.i64 x) = SV.v (Value.int IntKind.i64 x) ∧ True) ∧ (SV.p (3 : Nat) (0 : Nat) = SV.p (3 : Nat) (0 : Nat) ∧ True) ∧ (SV.h (0 : Nat) [oe3, (0 : Nat)] = SV.h (0 : Nat) [oe3, (0 : Nat)] ∧ True) ∧ (ep = ep ∧ x_1.toNat = len ∧ List.take x_1.toNat (limL lo len n (List.replicate (nC l) x)) = limL lo len n (List.replicate (nC l) x)) ∧ True)))))) (by kernel_rfl) ?_
  clear hp hφ
  have hL := hg.r1
  have hC := hg.c1
  have hC0 := hg.c0
  have e0 : (l.getD 0 []).length = nC l := rfl
  have eLim : ∀ k : Nat, k ≤ len → (Lim.i IntKind.i64 ((limL lo len n (List.replicate (nC l) x)).take k)).len = k := fun k hk => by
    show ((limL lo len n (List.replicate (nC l) x)).take k).length = k
    rw [List.length_take, limL_length]; omega
  simp only [LI, II, LLI, LJI, eLen, eNat, eSz, e0, nbeq, rq_iff, br_iff, hg, Bool.true_and, Bool.and_true, true_and, and_true, Bool.and_eq_true, Nat.ble_eq, Nat.blt_eq, decide_eq_true_eq, decide_eq_false_iff_not, Int.toNat_natCast]
  refine ⟨by omega, by omega, by omega, ⟨rfl, rfl⟩, ⟨by omega, by omega⟩, fun k ⟨hk0, hk1⟩ => ⟨fun hlt => ⟨by omega, ?_⟩, fun hge => ?_⟩⟩
  · rw [wrap64 (x := (len : Int) - 1) (by omega) (by omega), wrap64 (x := (len : Int) - 1 - k) (by omega) (by omega), wrap64 (x := k + 1) (by omega) (by omega), wrap64 (x := 0 - k) (by omega) (by omega), eLim _ (by omega)]
    have hs := limL_succ (lo := lo) (len := len) (n := n) (x := List.replicate (nC l) x) hk0 (by omega)
    have e3 : k.toNat + 1 = (k + 1).toNat := by omega
    have e4 : ((k.toNat : Nat) : Int) = k := by omega
    rw [e3, hs]
    have eT : Int.toNat (nC l : Int) = nC l := by omega
    refine ⟨fun h5 => ?_, fun h5 => ⟨fun h6 => ?_, fun h6 => ?_⟩⟩
    · have : limAt1 lo len n (List.replicate (nC l) x) k.toNat = .inr (List.replicate (nC l) x) := if_pos (.inl (by rw [e4]; omega))
      rw [this]
      exact ⟨decide_eq_true (by omega), by omega, by omega, ⟨by omega, by omega⟩, ⟨by omega, by omega⟩, ⟨by omega, by omega⟩, ⟨rfl, rfl, rfl⟩, by omega⟩
    · have : limAt1 lo len n (List.replicate (nC l) x) k.toNat = .inr (List.replicate (nC l) x) := if_pos (.inr (by rw [e4]; omega))
      rw [this]
      exact ⟨decide_eq_true (by omega), by omega, by omega, ⟨by omega, by omega⟩, ⟨by omega, by omega⟩, ⟨by omega, by omega⟩, ⟨rfl, rfl, rfl⟩, by omega⟩
    · have : limAt1 lo len n (List.replicate (nC l) x) k.toNat = .inl (lo + (k + n).toNat) := by
        unfold limAt1
        rw [if_neg (by rw [e4]; omega), e4]
      rw [wrap64 (x := k + n) (by omega) (by omega), this]
      exact ⟨⟨by omega, by omega, by omega⟩, by omega, ⟨by omega, by omega⟩, ⟨by omega, by omega⟩, ⟨rfl, rfl, rfl⟩, by omega⟩
  · have hk : k = len := by omega
    subst hk
    have : (limL lo len n (List.replicate (nC l) x)).take (Int.toNat (len : Int)) = limL lo len n (List.replicate (nC l) x) := List.take_of_length_le (by rw [limL_length]; omega)
    rw [this]
    simp
def rollL (l : List (List Int)) (top bot : Nat) (n : Int) (x : Int) : List (List Int) := mrg l [] top (limL top (bot + 1 - top) n (List.replicate (nC l) x))
def lcRoll1 : ACon Unit := mkLC (decP (shCons (shP 0) (shCons shI (shCons shI (shCons shI (shOne shI))))) shG) fun ((_, t, b, n, x), (oe, ⟨l, oe2, ep⟩)) => .ask (oe = oe2 ∧ GW l) (.br (inB l t 0 && inB l b 0)
  (.br (decide (b < t)) (.one (.v (.int .i64 1)) (gbi 0 oe ep l) [1]) (.one (.v (.int .i64 0)) (gbi 0 oe (ep + 1) (rollL l t.toNat b.toNat n x)) [1])) (.one (.v (.int .i64 11)) (gbi 0 oe ep l) [1]))
def tabG : List (Nat × ACon Unit) := (45, lcMovR) :: tabD
theorem tabG_ok : LCs Try.prog tabG := ⟨ok_movR, tabD_ok⟩
set_option maxHeartbeats 4000000 in
theorem ok_roll1 : ∀ I : Sym.Inv Unit, LCOk I Try.prog 22 lcRoll1 := by
  refine lc_mk (fun _ => allCfg Try.prog [] tabG 3) (fun _ _ => allCfg_ok mixed trivial tabG_ok) (fun _ => rfl) (n := 80) Try.func22 ?_
  intro ⟨⟨_, t, b, n, x⟩, ⟨oe, ⟨l, oe2, ep⟩⟩⟩ hφ
  obtain ⟨⟨rfl, hg⟩, hp⟩ := id hφ
  refine kcast (B := (true = true ∧ (oe = oe ∧ GW l) ∧ br (inB l t (0 : Int) && inB l b (0 : Int)) (br (decide (b < t)) (br (inB l t (0 : Int) && inB l b (0 : Int)) (br (decide (b < t)) ((SV.v (Value.int IntKind.i64 (1 : Int)) = SV.v (Value.int IntKind.i64 (1 : Int)) ∧ True) ∧ (SV.h (1 : Nat) [oe, (0 : Nat)] = SV.h (1 : Nat) [oe, (0 : Nat)] ∧ True) ∧ (oe = oe ∧ ep = ep ∧ l = l) ∧ True) ((SV.v (Value.int IntKind.i64 (1 : Int)) = SV.v (Value.int IntKind.i64 (0 : Int)) ∧ True) ∧ (SV.h (1 : Nat) [oe, (0 : Nat)] = SV.h (1 : Nat) [oe, (0 : Nat)] ∧ True) ∧ (oe = oe ∧ ep = ep + (1 : Nat) ∧ l = rollL l t.toNat b.toNat n x) ∧ True)) ((SV.v (Value.int IntKind.i64 (1 : Int)) = SV.v (Value.int IntKind.i64 (11 : Int)) ∧ True) ∧ (SV.h (1 : Nat) [oe, (0 : Nat)] = SV.h (1 : Nat) [oe, (0 : Nat)] ∧ True) ∧ (oe = oe ∧ ep = ep ∧ l = l) ∧ True)) (rq (oe.beq oe && (true && decide ((0 : Int) ≤ t ∧ t ≤ (↑(Rws.i IntKind.i64 l).len : Int) ∧ (↑(Rws.i IntKind.i64 l).len : Int) ≤ (↑(Rws.i IntKind.i64 l).len : Int)))) (rq (oe.beq oe && (true && decide ((0 : Int) ≤ t ∧ t ≤ IntKind.i64.wrap (b + (1 : Int)) ∧ IntKind.i64.wrap (b + (1 : Int)) ≤ (↑(Rws.i IntKind.i64 l).len : Int)))) (true = true ∧ (oe = oe ∧ oe = oe ∧ GW l ∧ t.toNat + ((IntKind.i64.wrap (b + (1 : Int))).toNat - t.toNat) ≤ l.length ∧ (0 : Nat) < (IntKind.i64.wrap (b + (1 : Int))).toNat - t.toNat) ∧ rq (oe.beq oe && (ep.beq ep && (((IntKind.i64.wrap (b + (1 : Int))).toNat - t.toNat).beq ((IntKind.i64.wrap (b + (1 : Int))).toNat - t.toNat) && ((t.toNat + ((↑(Rws.i IntKind.i64 l).len : Int).toNat - t.toNat)).ble (Rws.i IntKind.i64 l).len && ((Lim.i IntKind.i64 (limL t.toNat ((IntKind.i64.wrap (b + (1 : Int))).toNat - t.toNat) n (List.replicate (nC l) x))).len.ble ((↑(Rws.i IntKind.i64 l).len : Int).toNat - t.toNat) && (Nat.blt (0 : Nat) (Rws.i IntKind.i64 l).len && fitsB (Rws.i IntKind.i64 l).len t.toNat (Lim.i IntKind.i64 (limL t.toNat ((IntKind.i64.wrap (b + (1 : Int))).toNat - t.toNat) n (List.replicate (nC l) x))))))))) ((oe = oe ∧ ep = ep ∧ l = l) ∧ [SV.h (1 : Nat) [oe, (0 : Nat)]] = [SV.h (1 : Nat) [oe, (0 : Nat)]] ∧ [SV.p (0 : Nat) (0 : Nat)] = [SV.p (0 : Nat) (0 : Nat)] ∧ br (inB l t (0 : Int) && inB l b (0 : Int)) (br (decide (b < t)) ((SV.v (Value.int IntKind.i64 (0 : Int)) = SV.v (Value.int IntKind.i64 (1 : Int)) ∧ True) ∧ (SV.h (1 : Nat) [oe, (0 : Nat)] = SV.h (1 : Nat) [oe, (0 : Nat)] ∧ True) ∧ (oe = oe ∧ ep + (1 : Nat) = ep ∧ mrg l (LI []) t.toNat (limL t.toNat ((IntKind.i64.wrap (b + (1 : Int))).toNat - t.toNat) n (List.replicate (nC l) x)) = l) ∧ True) ((SV.v (Value.int IntKind.i64 (0 : Int)) = SV.v (Value.int IntKind.i64 (0 : Int)) ∧ True) ∧ (SV.h (1 : Nat) [oe, (0 : Nat)] = SV.h (1 : Nat) [oe, (0 : Nat)] ∧ True) ∧ (oe = oe ∧ ep + (1 : Nat) = ep + (1 : Nat) ∧ mrg l (LI []) t.toNat (limL t.toNat ((IntKind.i64.wrap (b + (1 : Int))).toNat - t.toNat) n (List.replicate (nC l) x)) = rollL l t.toNat b.toNat n x) ∧ True)) ((SV.v (Value.int IntKind.i64 (0 : Int)) = SV.v (Value.int IntKind.i64 (11 : Int)) ∧ True) ∧ (SV.h (1 : Nat) [oe, (0 : Nat)] = SV.h (1 : Nat) [oe, (0 : Nat)] ∧ True) ∧ (oe = oe ∧ ep + (1 : Nat) = ep ∧ mrg l (LI []) t.toNat (limL t.toNat ((IntKind.i64.wrap (b + (1 : Int))).toNat - t.toNat) n (List.replicate (nC l) x)) = l) ∧ True)))))) (br (inB l t (0 : Int) && inB l b (0 : Int)) (br (decide (b < t)) ((SV.v (Value.int IntKind.i64 (11 : Int)) = SV.v (Value.int IntKind.i64 (1 : Int)) ∧ True) ∧ (SV.h (1 : Nat) [oe, (0 : Nat)] = SV.h (1 : Nat) [oe, (0 : Nat)] ∧ True) ∧ (oe = oe ∧ ep = ep ∧ l = l) ∧ True) ((SV.v (Value.int IntKind.i64 (11 : Int)) = SV.v (Value.int IntKind.i64 (0 : Int)) ∧ True) ∧ (SV.h (1 : Nat) [oe, (0 : Nat)] = SV.h (1 : Nat) [oe, (0 : Nat)] ∧ True) ∧ (oe = oe ∧ ep = ep + (1 : Nat) ∧ l = rollL l t.toNat b.toNat n x) ∧ True)) ((SV.v (Value.int IntKind.i64 (11 : Int)) = SV.v (Value.int IntKind.i64 (11 : Int)) ∧ True) ∧ (SV.h (1 : Nat) [oe, (0 : Nat)] = SV.h (1 : Nat) [oe, (0 : Nat)] ∧ True) ∧ (oe = oe ∧ ep = ep ∧ l = l) ∧ True)))) (by kernel_rfl) ?_
  refine ⟨rfl, ⟨rfl, hg⟩, ?_⟩
  clear hp hφ
  have hg1 := hg.r1
  have hg2 := hg.c1
  cases h : inB l t 0 <;> cases h' : inB l b 0
  · simp only [br_iff, Bool.and_self, Bool.false_eq_true, false_implies, true_implies, true_and, and_true]
  · simp only [br_iff, Bool.false_and, Bool.false_eq_true, false_implies, true_implies, true_and, and_true]
  · simp only [br_iff, Bool.and_false, Bool.false_eq_true, false_implies, true_implies, true_and, and_true]
  rw [inB_iff] at h h'
  by_cases hba : b < t
  · simp only [br_iff, rq_iff, hba, decide_true, Bool.and_self, Bool.true_eq_false, false_implies, true_implies, true_and, and_true]
  have ew : IntKind.i64.wrap (b + 1) = b + 1 := wrap64 (by omega) (by omega)
  have e7 : (b + 1).toNat - t.toNat = b.toNat + 1 - t.toNat := by omega
  have eLim : (Lim.i IntKind.i64 (limL t.toNat (b.toNat + 1 - t.toNat) n (List.replicate (nC l) x))).len = b.toNat + 1 - t.toNat := limL_length _ _ _ _
  have hf : fitsB l.length t.toNat (Lim.i IntKind.i64 (limL t.toNat (b.toNat + 1 - t.toNat) n (List.replicate (nC l) x))) = true := fitsB_of fun p j hp hj => limL_fits (by omega) hp hj
  simp only [LI, II, LLI, eLen, eNat, eSz, br_iff, rq_iff, nbeq, hba, hg, ew, e7, eLim, hf, decide_false, Bool.and_self, Bool.true_eq_false, Bool.false_eq_true, false_implies, true_implies, true_and, and_true, Bool.true_and, Bool.and_true, Bool.and_eq_true, Nat.ble_eq, Nat.blt_eq, decide_eq_true_eq]
  exact ⟨decide_eq_true (by omega), by omega, ⟨by omega, by omega⟩, ⟨by omega, by omega, by omega⟩, rfl⟩
def lcRoll : ACon Unit := lcOr lcRoll1 lcRoll0
theorem ok_roll : ∀ I : Sym.Inv Unit, LCOk I Try.prog 22 lcRoll := lcOr_ok ok_roll1 ok_roll0

end Go.Proofs.Ytpdhnmnjccnbmaa
