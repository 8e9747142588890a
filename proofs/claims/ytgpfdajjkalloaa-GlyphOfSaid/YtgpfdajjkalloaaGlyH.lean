/- The law of the glyphs of a set answers true. -/
import Derived.Test.YtgpfdajjkalloaaGlyD
set_option linter.unusedSimpArgs false
set_option linter.unusedVariables false
set_option linter.unusedSectionVars false
namespace Go.Proofs.Ytgpfdajjkalloaa
open Go Go.Sym

/-- How many of the first bytes have a glyph. -/
def cnt (set : Int) (i : Nat) : Nat := ((List.range i).filter fun (j : Nat) => ofT set (j : Int) != 65533).length
theorem cnt_on {set i : Int} (h0 : 0 ≤ i) (h : (ofT set i != 65533) = true) : (cnt set (i + 1).toNat : Int) = cnt set i.toNat + 1 := by
  have e : (i + 1).toNat = i.toNat + 1 := by omega
  unfold cnt
  rw [e, List.range_succ, List.filter_append]
  have : (ofT set ((i.toNat : Nat) : Int) != 65533) = true := by rw [show ((i.toNat : Nat) : Int) = i by omega]; exact h
  simp only [List.filter_cons, this, if_true, List.filter_nil, List.length_append, List.length_cons, List.length_nil]
  omega
theorem cnt_off {set i : Int} (h0 : 0 ≤ i) (h : (ofT set i != 65533) = false) : (cnt set (i + 1).toNat : Int) = cnt set i.toNat := by
  have e : (i + 1).toNat = i.toNat + 1 := by omega
  unfold cnt
  rw [e, List.range_succ, List.filter_append]
  have : (ofT set ((i.toNat : Nat) : Int) != 65533) = false := by rw [show ((i.toNat : Nat) : Int) = i by omega]; exact h
  simp only [List.filter_cons, this, Bool.false_eq_true, if_false, List.filter_nil, List.length_append, List.length_nil]
  omega
theorem cnt_le (set : Int) (n : Nat) : cnt set n ≤ n := by
  unfold cnt
  have := List.length_filter_le (fun (j : Nat) => ofT set (j : Int) != 65533) (List.range n)
  simpa using this
structure InvA (set : Int) (x : Int × Int × Int) : Prop where
  l : 0 ≤ x.1
  u : x.1 ≤ 256
  n : x.2.1 = cnt set x.1.toNat
  p : -1 ≤ x.2.2 ∧ x.2.2 < x.1
structure InvB (set : Int) (x : Int × Int) : Prop where
  l : 0 ≤ x.1
  u : x.1 ≤ 256
  n : x.2 = cnt set x.1.toNat
def annA (set : Int) : Ann Empty where
  α := Int × Int × Int
  φ := InvA set
  μ x := (256 - x.1).toNat
  get st := match getI st.tm 7, getC st.H 2, getC st.H 3 with
    | some i, [.v (.int _ n)], [.v (.int _ l)] => some (i, n, l)
    | _, _, _ => none
  f st x := tmpl [0, 1, 6] [(7, .v (.int .i64 x.1))] [(2, .cells [.v (.int .i64 x.2.1)] 3), (3, .cells [.v (.int .i64 x.2.2)] 3), (getY st.tm 0, loopTm st.H (getY st.tm 0) [0, 1, 2, 4, 5, 6, 7] [])] st
def annB (set : Int) : Ann Empty where
  α := Int × Int
  φ := InvB set
  μ x := (256 - x.1).toNat
  get st := match getI st.tm 11, getI st.tm 10 with
    | some i, some n => some (i, n)
    | _, _ => none
  f st x := tmpl [0, 1, 2, 4, 5] [(11, .v (.int .i64 x.1)), (10, .v (.int .i64 x.2))] [] st
def psLO : PS := mkPS (shCons shI (shOne shU8)) (fun (s, b) => i64 s ∧ u8 b) (fun _ => .v (.bool true))
set_option maxHeartbeats 4000000 in
theorem law_of : PureOk Try.prog 3 psLO := by
  refine pureOk_mkA (τ := Empty) (fun (set, b) => pureTab Try.prog [(11, psOf), (10, psOf), (12, psAwake)] [(18, tsOf)] 0 [(129, annA set), (16 * 64 + 2, annB set)]) (fun _ _ => pureTab_ok mixed ⟨ok_Of, ok_rOf, ok_awake, trivial⟩ ⟨ok_of, trivial⟩) (fun _ => rfl) (n := 60) Try.func3 (fun _ => by kernel_rfl) (fun _ => by kernel_rfl) ?_
  intro ⟨set, b⟩ hφ
  obtain ⟨_, hb0, hb1⟩ : i64 set ∧ u8 b := hφ
  refine kcast (B := (True ∧ InvA set (0, 0, -1) ∧ ((SV.y 6 = SV.y 6 ∧ SV.p 4 0 = SV.p 4 0 ∧ SV.p 7 0 = SV.p 7 0 ∧ SV.v (Value.int IntKind.i64 0) = SV.v (Value.int IntKind.i64 0) ∧ True) ∧ (SV.v (Value.int IntKind.i64 set) = SV.v (Value.int IntKind.i64 set) ∧ True) ∧ (SV.v (Value.bool false) = SV.v (Value.bool false) ∧ True) ∧ (SV.v (Value.int IntKind.i64 0) = SV.v (Value.int IntKind.i64 0) ∧ True) ∧ (SV.v (Value.int IntKind.i64 (-1)) = SV.v (Value.int IntKind.i64 (-1)) ∧ True) ∧ (SV.v (Value.int IntKind.i64 set) = SV.v (Value.int IntKind.i64 set) ∧ True) ∧ Obj.deferred (some []) = Obj.deferred (some []) ∧ ((SV.v (Value.int IntKind.i64 set) = SV.v (Value.int IntKind.i64 set) ∧ SV.v (Value.int IntKind.u8 b) = SV.v (Value.int IntKind.u8 b) ∧ SV.p 0 0 = SV.p 0 0 ∧ SV.p 1 0 = SV.p 1 0 ∧ SV.p 2 0 = SV.p 2 0 ∧ SV.p 3 0 = SV.p 3 0 ∧ SV.f (Fn.func 17) [SV.p 4 0] = SV.f (Fn.func 17) [SV.p 4 0] ∧ True) ∧ #[17, 18] = #[17, 18] ∧ codeAt Try.f3 [1, 1, 1, 1, 1, 0, 1, 0, 0] = codeAt Try.f3 [1, 1, 1, 1, 1, 0, 1, 0, 0] ∧ codeAt Try.f3 [1, 1, 1, 1, 1, 0, 1, 0, 1] = codeAt Try.f3 [1, 1, 1, 1, 1, 0, 1, 0, 1]) ∧ tabL set = tabL set ∧ True) ∧ ∀ (x : Int × Int × Int), InvA set x → br (decide (x.fst < 256)) (rq (decide (0 ≤ x.fst ∧ x.fst < 256)) (rq ((0 + x.fst.toNat * 1).blt 256) (br ((tabL set).getD (0 + x.fst.toNat * 1) 0 != 65533) (br (decide (IntKind.i64.wrap (IntKind.u8.wrap x.fst) ≤ x.snd.snd)) (SV.v (Value.bool false) = SV.v (Value.bool true)) ((0 ≤ IntKind.u8.wrap x.fst ∧ IntKind.u8.wrap x.fst ≤ 255) ∧ br ((tabL set).getD (0 + x.fst.toNat * 1) 0 != ofT set (IntKind.u8.wrap x.fst)) (SV.v (Value.bool false) = SV.v (Value.bool true)) (br ((tabL set).getD (0 + x.fst.toNat * 1) 0 == 65533) (SV.v (Value.bool false) = SV.v (Value.bool true)) (InvA set (IntKind.i64.wrap (x.fst + 1), IntKind.i64.wrap (x.snd.fst + 1), IntKind.i64.wrap (IntKind.u8.wrap x.fst)) ∧ ((SV.y 6 = SV.y 6 ∧ SV.p 4 0 = SV.p 4 0 ∧ SV.p 7 0 = SV.p 7 0 ∧ SV.v (Value.int IntKind.i64 (IntKind.i64.wrap (x.fst + 1))) = SV.v (Value.int IntKind.i64 (IntKind.i64.wrap (x.fst + 1))) ∧ True) ∧ (SV.v (Value.int IntKind.i64 set) = SV.v (Value.int IntKind.i64 set) ∧ True) ∧ (SV.v (Value.bool false) = SV.v (Value.bool false) ∧ True) ∧ (SV.v (Value.int IntKind.i64 (IntKind.i64.wrap (x.snd.fst + 1))) = SV.v (Value.int IntKind.i64 (IntKind.i64.wrap (x.snd.fst + 1), IntKind.i64.wrap (IntKind.u8.wrap x.fst)).fst) ∧ True) ∧ (SV.v (Value.int IntKind.i64 (IntKind.i64.wrap (IntKind.u8.wrap x.fst))) = SV.v (Value.int IntKind.i64 (IntKind.i64.wrap (x.snd.fst + 1), IntKind.i64.wrap (IntKind.u8.wrap x.fst)).snd) ∧ True) ∧ (SV.v (Value.int IntKind.i64 set) = SV.v (Value.int IntKind.i64 set) ∧ True) ∧ Obj.deferred (some []) = Obj.deferred (some []) ∧ ((SV.v (Value.int IntKind.i64 set) = SV.v (Value.int IntKind.i64 set) ∧ SV.v (Value.int IntKind.u8 b) = SV.v (Value.int IntKind.u8 b) ∧ SV.p 0 0 = SV.p 0 0 ∧ SV.p 1 0 = SV.p 1 0 ∧ SV.p 2 0 = SV.p 2 0 ∧ SV.p 3 0 = SV.p 3 0 ∧ SV.f (Fn.func 17) [SV.p 4 0] = SV.f (Fn.func 17) [SV.p 4 0] ∧ True) ∧ #[17, 18] = #[17, 18] ∧ codeAt Try.f3 [1, 1, 1, 1, 1, 0, 1, 0, 0] = codeAt Try.f3 [1, 1, 1, 1, 1, 0, 1, 0, 0] ∧ codeAt Try.f3 [1, 1, 1, 1, 1, 0, 1, 0, 1] = codeAt Try.f3 [1, 1, 1, 1, 1, 0, 1, 0, 1]) ∧ tabL set = tabL set ∧ True) ∧ (annA set).μ (IntKind.i64.wrap (x.fst + 1), IntKind.i64.wrap (x.snd.fst + 1), IntKind.i64.wrap (IntKind.u8.wrap x.fst)) < (annA set).μ x)))) (InvA set (IntKind.i64.wrap (x.fst + 1), x.snd.fst, x.snd.snd) ∧ ((SV.y 6 = SV.y 6 ∧ SV.p 4 0 = SV.p 4 0 ∧ SV.p 7 0 = SV.p 7 0 ∧ SV.v (Value.int IntKind.i64 (IntKind.i64.wrap (x.fst + 1))) = SV.v (Value.int IntKind.i64 (IntKind.i64.wrap (x.fst + 1))) ∧ True) ∧ (SV.v (Value.int IntKind.i64 set) = SV.v (Value.int IntKind.i64 set) ∧ True) ∧ (SV.v (Value.bool false) = SV.v (Value.bool false) ∧ True) ∧ (SV.v (Value.int IntKind.i64 x.snd.fst) = SV.v (Value.int IntKind.i64 (x.snd.fst, x.snd.snd).fst) ∧ True) ∧ (SV.v (Value.int IntKind.i64 x.snd.snd) = SV.v (Value.int IntKind.i64 (x.snd.fst, x.snd.snd).snd) ∧ True) ∧ (SV.v (Value.int IntKind.i64 set) = SV.v (Value.int IntKind.i64 set) ∧ True) ∧ Obj.deferred (some []) = Obj.deferred (some []) ∧ ((SV.v (Value.int IntKind.i64 set) = SV.v (Value.int IntKind.i64 set) ∧ SV.v (Value.int IntKind.u8 b) = SV.v (Value.int IntKind.u8 b) ∧ SV.p 0 0 = SV.p 0 0 ∧ SV.p 1 0 = SV.p 1 0 ∧ SV.p 2 0 = SV.p 2 0 ∧ SV.p 3 0 = SV.p 3 0 ∧ SV.f (Fn.func 17) [SV.p 4 0] = SV.f (Fn.func 17) [SV.p 4 0] ∧ True) ∧ #[17, 18] = #[17, 18] ∧ codeAt Try.f3 [1, 1, 1, 1, 1, 0, 1, 0, 0] = codeAt Try.f3 [1, 1, 1, 1, 1, 0, 1, 0, 0] ∧ codeAt Try.f3 [1, 1, 1, 1, 1, 0, 1, 0, 1] = codeAt Try.f3 [1, 1, 1, 1, 1, 0, 1, 0, 1]) ∧ tabL set = tabL set ∧ True) ∧ (annA set).μ (IntKind.i64.wrap (x.fst + 1), x.snd.fst, x.snd.snd) < (annA set).μ x)))) (InvB set (0, 0) ∧ ((SV.v (Value.int IntKind.i64 set) = SV.v (Value.int IntKind.i64 set) ∧ SV.v (Value.int IntKind.u8 b) = SV.v (Value.int IntKind.u8 b) ∧ SV.p 0 0 = SV.p 0 0 ∧ SV.p 1 0 = SV.p 1 0 ∧ SV.p 2 0 = SV.p 2 0 ∧ SV.v (Value.int IntKind.i64 0) = SV.v (Value.int IntKind.i64 0) ∧ SV.v (Value.int IntKind.i64 0) = SV.v (Value.int IntKind.i64 0) ∧ True) ∧ (SV.v (Value.int IntKind.i64 set) = SV.v (Value.int IntKind.i64 set) ∧ True) ∧ (SV.v (Value.bool false) = SV.v (Value.bool false) ∧ True) ∧ (SV.v (Value.int IntKind.i64 x.snd.fst) = SV.v (Value.int IntKind.i64 x.snd.fst) ∧ True) ∧ (SV.v (Value.int IntKind.i64 x.snd.snd) = SV.v (Value.int IntKind.i64 x.snd.snd) ∧ True) ∧ (SV.v (Value.int IntKind.i64 set) = SV.v (Value.int IntKind.i64 set) ∧ True) ∧ Obj.deferred (some []) = Obj.deferred (some []) ∧ ((SV.v (Value.int IntKind.i64 set) = SV.v (Value.int IntKind.i64 set) ∧ SV.v (Value.int IntKind.u8 b) = SV.v (Value.int IntKind.u8 b) ∧ SV.p 0 0 = SV.p 0 0 ∧ SV.p 1 0 = SV.p 1 0 ∧ SV.p 2 0 = SV.p 2 0 ∧ SV.p 3 0 = SV.p 3 0 ∧ SV.f (Fn.func 17) [SV.p 4 0] = SV.f (Fn.func 17) [SV.p 4 0] ∧ True) ∧ #[17, 18] = #[17, 18] ∧ codeAt Try.f3 [1, 1, 1, 1, 1, 0, 1, 0, 0] = codeAt Try.f3 [1, 1, 1, 1, 1, 0, 1, 0, 0] ∧ codeAt Try.f3 [1, 1, 1, 1, 1, 0, 1, 0, 1] = codeAt Try.f3 [1, 1, 1, 1, 1, 0, 1, 0, 1]) ∧ tabL set = tabL set ∧ True) ∧ ∀ (x_1 : Int × Int), InvB set x_1 → br (decide (x_1.fst < 256)) ((0 ≤ IntKind.u8.wrap x_1.fst ∧ IntKind.u8.wrap x_1.fst ≤ 255) ∧ br (ofT set (IntKind.u8.wrap x_1.fst) != 65533) (InvB set (IntKind.i64.wrap (x_1.fst + 1), IntKind.i64.wrap (x_1.snd + 1)) ∧ ((SV.v (Value.int IntKind.i64 set) = SV.v (Value.int IntKind.i64 set) ∧ SV.v (Value.int IntKind.u8 b) = SV.v (Value.int IntKind.u8 b) ∧ SV.p 0 0 = SV.p 0 0 ∧ SV.p 1 0 = SV.p 1 0 ∧ SV.p 2 0 = SV.p 2 0 ∧ SV.v (Value.int IntKind.i64 (IntKind.i64.wrap (x_1.snd + 1))) = SV.v (Value.int IntKind.i64 (IntKind.i64.wrap (x_1.snd + 1))) ∧ SV.v (Value.int IntKind.i64 (IntKind.i64.wrap (x_1.fst + 1))) = SV.v (Value.int IntKind.i64 (IntKind.i64.wrap (x_1.fst + 1))) ∧ True) ∧ (SV.v (Value.int IntKind.i64 set) = SV.v (Value.int IntKind.i64 set) ∧ True) ∧ (SV.v (Value.bool false) = SV.v (Value.bool false) ∧ True) ∧ (SV.v (Value.int IntKind.i64 x.snd.fst) = SV.v (Value.int IntKind.i64 x.snd.fst) ∧ True) ∧ (SV.v (Value.int IntKind.i64 x.snd.snd) = SV.v (Value.int IntKind.i64 x.snd.snd) ∧ True) ∧ (SV.v (Value.int IntKind.i64 set) = SV.v (Value.int IntKind.i64 set) ∧ True) ∧ Obj.deferred (some []) = Obj.deferred (some []) ∧ ((SV.v (Value.int IntKind.i64 set) = SV.v (Value.int IntKind.i64 set) ∧ SV.v (Value.int IntKind.u8 b) = SV.v (Value.int IntKind.u8 b) ∧ SV.p 0 0 = SV.p 0 0 ∧ SV.p 1 0 = SV.p 1 0 ∧ SV.p 2 0 = SV.p 2 0 ∧ SV.p 3 0 = SV.p 3 0 ∧ SV.f (Fn.func 17) [SV.p 4 0] = SV.f (Fn.func 17) [SV.p 4 0] ∧ True) ∧ #[17, 18] = #[17, 18] ∧ codeAt Try.f3 [1, 1, 1, 1, 1, 0, 1, 0, 0] = codeAt Try.f3 [1, 1, 1, 1, 1, 0, 1, 0, 0] ∧ codeAt Try.f3 [1, 1, 1, 1, 1, 0, 1, 0, 1] = codeAt Try.f3 [1, 1, 1, 1, 1, 0, 1, 0, 1]) ∧ tabL set = tabL set ∧ True) ∧ (annB set).μ (IntKind.i64.wrap (x_1.fst + 1), IntKind.i64.wrap (x_1.snd + 1)) < (annB set).μ x_1) (InvB set (IntKind.i64.wrap (x_1.fst + 1), x_1.snd) ∧ ((SV.v (Value.int IntKind.i64 set) = SV.v (Value.int IntKind.i64 set) ∧ SV.v (Value.int IntKind.u8 b) = SV.v (Value.int IntKind.u8 b) ∧ SV.p 0 0 = SV.p 0 0 ∧ SV.p 1 0 = SV.p 1 0 ∧ SV.p 2 0 = SV.p 2 0 ∧ SV.v (Value.int IntKind.i64 x_1.snd) = SV.v (Value.int IntKind.i64 x_1.snd) ∧ SV.v (Value.int IntKind.i64 (IntKind.i64.wrap (x_1.fst + 1))) = SV.v (Value.int IntKind.i64 (IntKind.i64.wrap (x_1.fst + 1))) ∧ True) ∧ (SV.v (Value.int IntKind.i64 set) = SV.v (Value.int IntKind.i64 set) ∧ True) ∧ (SV.v (Value.bool false) = SV.v (Value.bool false) ∧ True) ∧ (SV.v (Value.int IntKind.i64 x.snd.fst) = SV.v (Value.int IntKind.i64 x.snd.fst) ∧ True) ∧ (SV.v (Value.int IntKind.i64 x.snd.snd) = SV.v (Value.int IntKind.i64 x.snd.snd) ∧ True) ∧ (SV.v (Value.int IntKind.i64 set) = SV.v (Value.int IntKind.i64 set) ∧ True) ∧ Obj.deferred (some []) = Obj.deferred (some []) ∧ ((SV.v (Value.int IntKind.i64 set) = SV.v (Value.int IntKind.i64 set) ∧ SV.v (Value.int IntKind.u8 b) = SV.v (Value.int IntKind.u8 b) ∧ SV.p 0 0 = SV.p 0 0 ∧ SV.p 1 0 = SV.p 1 0 ∧ SV.p 2 0 = SV.p 2 0 ∧ SV.p 3 0 = SV.p 3 0 ∧ SV.f (Fn.func 17) [SV.p 4 0] = SV.f (Fn.func 17) [SV.p 4 0] ∧ True) ∧ #[17, 18] = #[17, 18] ∧ codeAt Try.f3 [1, 1, 1, 1, 1, 0, 1, 0, 0] = codeAt Try.f3 [1, 1, 1, 1, 1, 0, 1, 0, 0] ∧ codeAt Try.f3 [1, 1, 1, 1, 1, 0, 1, 0, 1] = codeAt Try.f3 [1, 1, 1, 1, 1, 0, 1, 0, 1]) ∧ tabL set = tabL set ∧ True) ∧ (annB set).μ (IntKind.i64.wrap (x_1.fst + 1), x_1.snd) < (annB set).μ x_1)) (br (x.snd.fst == x_1.snd) ((0 ≤ b ∧ b ≤ 255) ∧ (0 ≤ b ∧ b ≤ 255) ∧ br (ofT set b == ofT set b) (True ∧ SV.v (Value.bool true) = SV.v (Value.bool true)) (SV.v (Value.bool false) = SV.v (Value.bool true))) (SV.v (Value.bool false) = SV.v (Value.bool true)))))) (by kernel_rfl) ?_
  refine ⟨trivial, ⟨by simp, by simp, by simp [cnt], by simp⟩, ?_, fun x hx => ?_⟩
  · repeat' (first | exact trivial | refine And.intro ?_ ?_ | rfl)
  obtain ⟨i, n, l⟩ := x
  obtain ⟨h0, h1, hn, hl⟩ := id hx
  dsimp only at h0 h1 hn hl ⊢
  have hle := cnt_le set i.toNat
  refine br_intro (fun hlt => ?_) (fun hge => ?_)
  · have hlt : i < 256 := of_decide_eq_true hlt
    refine rq_t (in_range h0 hlt) (rq_t (in_blt h0 hlt) ?_)
    rw [tab_at h0 hlt, wrap_u8 h0 hlt, wrap64 (x := i) (by omega) (by omega)]
    refine br_intro (fun hne => ?_) (fun heq => ?_)
    · refine br_f (decide_eq_false (by omega)) ⟨⟨h0, by omega⟩, br_f (by simp) (br_f (by simpa using hne) ⟨?_, ?_, mu_next h0 hlt⟩)⟩
      · rw [wrap64 (x := i + 1) (by omega) (by omega), wrap64 (x := n + 1) (by omega) (by omega)]
        exact ⟨by simp only; omega, by simp only; omega, by simp only; rw [cnt_on h0 hne]; omega, by simp only; omega⟩
      · repeat' (first | exact trivial | refine And.intro ?_ ?_ | rfl)
    · refine ⟨?_, ?_, mu_next h0 hlt⟩
      · rw [wrap64 (x := i + 1) (by omega) (by omega)]
        exact ⟨by simp only; omega, by simp only; omega, by simp only; rw [cnt_off h0 heq]; omega, by simp only; omega⟩
      · repeat' (first | exact trivial | refine And.intro ?_ ?_ | rfl)
  · have hge : ¬ i < 256 := of_decide_eq_false hge
    obtain rfl : i = 256 := by omega
    refine ⟨⟨by simp, by simp, by simp [cnt]⟩, ?_, fun y hy => ?_⟩
    · repeat' (first | exact trivial | refine And.intro ?_ ?_ | rfl)
    obtain ⟨k, q⟩ := y
    obtain ⟨k0, k1, kn⟩ := id hy
    dsimp only at k0 k1 kn ⊢
    have hle2 := cnt_le set k.toNat
    refine br_intro (fun hlt => ?_) (fun hge => ?_)
    · have hlt : k < 256 := of_decide_eq_true hlt
      rw [wrap_u8 k0 hlt]
      refine ⟨⟨k0, by omega⟩, br_intro (fun hne => ?_) (fun heq => ?_)⟩
      · refine ⟨?_, ?_, mu_next k0 hlt⟩
        · rw [wrap64 (x := k + 1) (by omega) (by omega), wrap64 (x := q + 1) (by omega) (by omega)]
          exact ⟨by simp only; omega, by simp only; omega, by simp only; rw [cnt_on k0 hne]; omega⟩
        · repeat' (first | exact trivial | refine And.intro ?_ ?_ | rfl)
      · refine ⟨?_, ?_, mu_next k0 hlt⟩
        · rw [wrap64 (x := k + 1) (by omega) (by omega)]
          exact ⟨by simp only; omega, by simp only; omega, by simp only; rw [cnt_off k0 heq]; omega⟩
        · repeat' (first | exact trivial | refine And.intro ?_ ?_ | rfl)
    · have hge : ¬ k < 256 := of_decide_eq_false hge
      obtain rfl : k = 256 := by omega
      exact br_t (by rw [beq_iff_eq]; omega) ⟨⟨hb0, hb1⟩, ⟨hb0, hb1⟩, br_t (by simp) ⟨trivial, rfl⟩⟩

end Go.Proofs.Ytgpfdajjkalloaa
