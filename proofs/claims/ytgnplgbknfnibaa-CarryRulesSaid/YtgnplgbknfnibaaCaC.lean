/- Contracts of layer 2: the glyph of a byte, and the byte of a glyph. -/
import Derived.Test.YtgnplgbknfnibaaCaB
set_option linter.unusedSimpArgs false
set_option linter.unusedVariables false
set_option linter.unusedSectionVars false
namespace Go.Proofs.Ytgnplgbknfnibaa
open Go Go.Sym

def hit (set r : Int) (n : Nat) : Bool := ofT set n == r && r != 65533
def backT (set r : Int) : Int :=
  match (List.range 256).find? (hit set r) with
  | some n => n
  | none => -1
theorem find_range {p : Nat → Bool} {n m : Nat} (hn : n < m) (hp : p n = true) (hb : ∀ j, j < n → p j = false) : (List.range m).find? p = some n := by
  rw [List.find?_eq_some_iff_append]
  refine ⟨hp, List.range n, (List.range m).drop (n + 1), ?_, fun j hj => by simp [hb j (List.mem_range.1 hj)]⟩
  apply List.ext_getElem
  · simp; omega
  · intro i h1 h2
    simp only [List.length_range] at h1
    rw [List.getElem_range]
    by_cases hi : i < n
    · rw [List.getElem_append_left (by simpa using hi)]; simp
    · rw [List.getElem_append_right (by simpa using (by omega : n ≤ i))]
      simp only [List.length_range]
      by_cases he : i = n
      · subst he; simp
      · rw [List.getElem_cons]
        simp [show ¬ (i - n = 0) by omega]
        omega
theorem back_some {set r : Int} {n : Nat} (hn : n < 256) (hp : hit set r n = true) (hb : ∀ j, j < n → hit set r j = false) : backT set r = n := by
  unfold backT; rw [find_range hn hp hb]
theorem back_none {set r : Int} (hb : ∀ j, j < 256 → hit set r j = false) : backT set r = -1 := by
  unfold backT
  have : (List.range 256).find? (hit set r) = none := by
    rw [List.find?_eq_none]; intro j hj; simp [hb j (List.mem_range.1 hj)]
  rw [this]
def psBack : PS := mkPS (shCons shI (shOne shR)) (fun _ => True) (fun (set, r) => .t [.v (.int .u8 (max 0 (backT set r))), .v (.bool (decide (0 ≤ backT set r)))])
def psRBack : PS := mkPS (shCons shI (shOne shR)) (fun _ => True) (fun (set, r) => .v (.int .i64 (backT set r)))
structure NoHit (set r : Int) (i : Int) : Prop where
  l : 0 ≤ i
  u : i ≤ 256
  h : ∀ j : Nat, j < i.toNat → hit set r j = false

theorem wrap_u8 {x : Int} (h0 : 0 ≤ x) (h1 : x < 256) : IntKind.wrap .u8 x = x := by
  have := IntWalk.u8_in x ⟨h0, by omega⟩
  exact this
theorem nohit_next {set r x : Int} (h : NoHit set r x) (h1 : x < 256) (hn : hit set r x.toNat = false) : NoHit set r (IntKind.wrap .i64 (x + 1)) := by
  obtain ⟨h0, _, hj⟩ := h
  rw [wrap64 (by omega) (by omega)]
  refine ⟨by omega, by omega, fun j hjl => ?_⟩
  by_cases he : j = x.toNat
  · subst he; exact hn
  · exact hj j (by omega)
theorem hit_nat {set r x : Int} (h0 : 0 ≤ x) : hit set r x.toNat = (ofT set x == r && r != 65533) := by
  unfold hit
  rw [show ((x.toNat : Nat) : Int) = x by omega]
theorem tab_at {set x : Int} (h0 : 0 ≤ x) (h1 : x < 256) : (tabL set).getD (0 + x.toNat * 1) 0 = ofT set x := by
  have := getD_tab (L := tabL set) (set := set) (b := x) rfl h0 (by omega)
  simpa using this

def annBk (set r : Int) : Ann Empty where
  α := Int
  φ := NoHit set r
  μ i := (256 - i).toNat
  get st := getI st.tm 7
  f st i := tmpl [0, 1, 6] [(7, .v (.int .i64 i))] [(getY st.tm 0, loopTm st.H (getY st.tm 0) [0, 1, 3, 4, 5] [])] st
set_option maxHeartbeats 4000000 in
theorem ok_back : PureOk Try.prog 12 psBack := by
  refine pureOk_mkA (τ := Empty) (fun (set, r) => pureTab Try.prog [] [(21, tsOf)] 0 [(129, annBk set r)]) (fun _ _ => pureTab_ok mixed trivial ⟨ok_of, trivial⟩) (fun _ => rfl) (n := 60) Try.func12 (fun _ => by kernel_rfl) (fun _ => by kernel_rfl) ?_
  intro ⟨set, r⟩ _
  refine kcast (B := (True ∧ NoHit set r 0 ∧ ((SV.y 5 = SV.y 5 ∧ SV.p 3 0 = SV.p 3 0 ∧ SV.p 6 0 = SV.p 6 0 ∧ SV.v (Value.int IntKind.i64 0) = SV.v (Value.int IntKind.i64 0) ∧ True) ∧ (SV.v (Value.int IntKind.i32 r) = SV.v (Value.int IntKind.i32 r) ∧ True) ∧ (SV.v (Value.int IntKind.u8 0) = SV.v (Value.int IntKind.u8 0) ∧ True) ∧ (SV.v (Value.bool false) = SV.v (Value.bool false) ∧ True) ∧ (SV.v (Value.int IntKind.i64 set) = SV.v (Value.int IntKind.i64 set) ∧ True) ∧ Obj.deferred (some []) = Obj.deferred (some []) ∧ ((SV.v (Value.int IntKind.i64 set) = SV.v (Value.int IntKind.i64 set) ∧ SV.v (Value.int IntKind.i32 r) = SV.v (Value.int IntKind.i32 r) ∧ SV.p 0 0 = SV.p 0 0 ∧ SV.p 1 0 = SV.p 1 0 ∧ SV.p 2 0 = SV.p 2 0 ∧ True) ∧ #[10, 11] = #[10, 11] ∧ codeAt Try.f12 [1, 0, 1, 0, 0] = codeAt Try.f12 [1, 0, 1, 0, 0] ∧ codeAt Try.f12 [1, 0, 1, 0, 1] = codeAt Try.f12 [1, 0, 1, 0, 1]) ∧ tabL set = tabL set ∧ True) ∧ ∀ (x : Int), NoHit set r x → br (decide (x < 256)) (rq (decide (0 ≤ x ∧ x < 256)) (rq ((0 + x.toNat * 1).blt 256) (br ((tabL set).getD (0 + x.toNat * 1) 0 != 65533) (br ((tabL set).getD (0 + x.toNat * 1) 0 == r) (SV.t [SV.v (Value.int IntKind.u8 (IntKind.u8.wrap x)), SV.v (Value.bool true)] = SV.t [SV.v (Value.int IntKind.u8 (max 0 (backT set r))), SV.v (Value.bool (decide (0 ≤ backT set r)))]) (NoHit set r (IntKind.i64.wrap (x + 1)) ∧ ((SV.y 5 = SV.y 5 ∧ SV.p 3 0 = SV.p 3 0 ∧ SV.p 6 0 = SV.p 6 0 ∧ SV.v (Value.int IntKind.i64 (IntKind.i64.wrap (x + 1))) = SV.v (Value.int IntKind.i64 (IntKind.i64.wrap (x + 1))) ∧ True) ∧ (SV.v (Value.int IntKind.i32 r) = SV.v (Value.int IntKind.i32 r) ∧ True) ∧ (SV.v (Value.int IntKind.u8 0) = SV.v (Value.int IntKind.u8 0) ∧ True) ∧ (SV.v (Value.bool false) = SV.v (Value.bool false) ∧ True) ∧ (SV.v (Value.int IntKind.i64 set) = SV.v (Value.int IntKind.i64 set) ∧ True) ∧ Obj.deferred (some []) = Obj.deferred (some []) ∧ ((SV.v (Value.int IntKind.i64 set) = SV.v (Value.int IntKind.i64 set) ∧ SV.v (Value.int IntKind.i32 r) = SV.v (Value.int IntKind.i32 r) ∧ SV.p 0 0 = SV.p 0 0 ∧ SV.p 1 0 = SV.p 1 0 ∧ SV.p 2 0 = SV.p 2 0 ∧ True) ∧ #[10, 11] = #[10, 11] ∧ codeAt Try.f12 [1, 0, 1, 0, 0] = codeAt Try.f12 [1, 0, 1, 0, 0] ∧ codeAt Try.f12 [1, 0, 1, 0, 1] = codeAt Try.f12 [1, 0, 1, 0, 1]) ∧ tabL set = tabL set ∧ True) ∧ (annBk set r).μ (IntKind.i64.wrap (x + 1)) < (annBk set r).μ x)) (NoHit set r (IntKind.i64.wrap (x + 1)) ∧ ((SV.y 5 = SV.y 5 ∧ SV.p 3 0 = SV.p 3 0 ∧ SV.p 6 0 = SV.p 6 0 ∧ SV.v (Value.int IntKind.i64 (IntKind.i64.wrap (x + 1))) = SV.v (Value.int IntKind.i64 (IntKind.i64.wrap (x + 1))) ∧ True) ∧ (SV.v (Value.int IntKind.i32 r) = SV.v (Value.int IntKind.i32 r) ∧ True) ∧ (SV.v (Value.int IntKind.u8 0) = SV.v (Value.int IntKind.u8 0) ∧ True) ∧ (SV.v (Value.bool false) = SV.v (Value.bool false) ∧ True) ∧ (SV.v (Value.int IntKind.i64 set) = SV.v (Value.int IntKind.i64 set) ∧ True) ∧ Obj.deferred (some []) = Obj.deferred (some []) ∧ ((SV.v (Value.int IntKind.i64 set) = SV.v (Value.int IntKind.i64 set) ∧ SV.v (Value.int IntKind.i32 r) = SV.v (Value.int IntKind.i32 r) ∧ SV.p 0 0 = SV.p 0 0 ∧ SV.p 1 0 = SV.p 1 0 ∧ SV.p 2 0 = SV.p 2 0 ∧ True) ∧ #[10, 11] = #[10, 11] ∧ codeAt Try.f12 [1, 0, 1, 0, 0] = codeAt Try.f12 [1, 0, 1, 0, 0] ∧ codeAt Try.f12 [1, 0, 1, 0, 1] = codeAt Try.f12 [1, 0, 1, 0, 1]) ∧ tabL set = tabL set ∧ True) ∧ (annBk set r).μ (IntKind.i64.wrap (x + 1)) < (annBk set r).μ x)))) (SV.t [SV.v (Value.int IntKind.u8 0), SV.v (Value.bool false)] = SV.t [SV.v (Value.int IntKind.u8 (max 0 (backT set r))), SV.v (Value.bool (decide (0 ≤ backT set r)))]))) (by kernel_rfl) ?_
  refine ⟨trivial, ⟨by omega, by omega, fun j hj => by simp at hj⟩, ?_, fun (x : Int) hx => ?_⟩
  · repeat' (first | exact trivial | refine And.intro ?_ ?_ | rfl)
  obtain ⟨hx0, hx1, hxj⟩ := id hx
  refine br_intro (fun hlt => ?_) (fun hge => ?_)
  · have hlt : x < 256 := of_decide_eq_true hlt
    refine rq_t (in_range hx0 hlt) (rq_t (in_blt hx0 hlt) ?_)
    rw [tab_at hx0 hlt]
    refine br_intro (fun hn => br_intro (fun he => ?_) (fun he => ?_)) (fun hn => ?_)
    · have hr : (r != 65533) = true := by rw [beq_iff_eq] at he; rw [← he]; exact hn
      have := back_some (set := set) (r := r) (n := x.toNat) (by omega) (by rw [hit_nat hx0, he, hr]; rfl) (fun j hj => hxj j hj)
      rw [this, show ((x.toNat : Nat) : Int) = x by omega, wrap_u8 hx0 hlt, show max 0 x = x by omega, show decide (0 ≤ x) = true from decide_eq_true hx0]
    · refine ⟨nohit_next hx hlt (by rw [hit_nat hx0, he]; rfl), ?_, mu_next hx0 hlt⟩
      repeat' (first | exact trivial | refine And.intro ?_ ?_ | rfl)
    · refine ⟨nohit_next hx hlt (by
        rw [hit_nat hx0]
        have : ofT set x = 65533 := by simpa using hn
        rw [this]
        by_cases hr : r = 65533
        · subst hr; rfl
        · have : ((65533 : Int) == r) = false := by simpa using fun h => hr h.symm
          rw [this]; rfl), ?_, mu_next hx0 hlt⟩
      repeat' (first | exact trivial | refine And.intro ?_ ?_ | rfl)
  · have hge : ¬ x < 256 := of_decide_eq_false hge
    have := back_none (set := set) (r := r) (fun j hj => hxj j (by omega))
    rw [this]
    rfl

end Go.Proofs.Ytgnplgbknfnibaa
