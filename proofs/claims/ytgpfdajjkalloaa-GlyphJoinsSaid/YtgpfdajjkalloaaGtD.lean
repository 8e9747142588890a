/- Layer 2: the byte of a glyph: a contract. -/
import Derived.Test.YtgpfdajjkalloaaGtC
set_option linter.unusedSimpArgs false
set_option linter.unusedVariables false
set_option linter.unusedSectionVars false
namespace Go.Proofs.Ytgpfdajjkalloaa
open Go Go.Sym

def hit (set r : Int) (n : Nat) : Bool := ofT set n == r && r != 65533
def backT (set r : Int) : Int :=
  match (List.range 256).find? (hit set r) with
  | some n => n
  | none => -1
theorem find_range {p : Nat → Bool} {n m : Nat} (hn : n < m) (hp : p n = true) (hb : ∀ j, j < n → p j = false) : (List.range m).find? p = some n := by
  rw [List.find?_eq_some_iff_append]
  refine ⟨hp, List.range n, (List.range m).drop (n + 1), ?_, fun j hj => by simp [hb j (List.mem_range.1 hj)]⟩
  apply List.ext_getElem
  · simp; omega
  · intro i h1 h2
    simp only [List.length_range] at h1
    rw [List.getElem_range]
    by_cases hi : i < n
    · rw [List.getElem_append_left (by simpa using hi)]; simp
    · rw [List.getElem_append_right (by simpa using (by omega : n ≤ i))]
      simp only [List.length_range]
      by_cases he : i = n
      · subst he; simp
      · rw [List.getElem_cons]
        simp [show ¬ (i - n = 0) by omega]
        omega
theorem back_some {set r : Int} {n : Nat} (hn : n < 256) (hp : hit set r n = true) (hb : ∀ j, j < n → hit set r j = false) : backT set r = n := by
  unfold backT; rw [find_range hn hp hb]
theorem back_none {set r : Int} (hb : ∀ j, j < 256 → hit set r j = false) : backT set r = -1 := by
  unfold backT
  have : (List.range 256).find? (hit set r) = none := by
    rw [List.find?_eq_none]; intro j hj; simp [hb j (List.mem_range.1 hj)]
  rw [this]
/-- What has a glyph is turned back to a byte that has it. -/
theorem back_of {set b : Int} (h0 : 0 ≤ b) (h1 : b < 256) (h2 : ofT set b ≠ 65533) : 0 ≤ backT set (ofT set b) ∧ backT set (ofT set b) ≤ 255 ∧ ofT set (backT set (ofT set b)) = ofT set b := by
  have hh : hit set (ofT set b) b.toNat = true := by
    unfold hit
    rw [show ((b.toNat : Nat) : Int) = b by omega]
    simp [h2]
  unfold backT
  cases hf : (List.range 256).find? (hit set (ofT set b)) with
  | none =>
    rw [List.find?_eq_none] at hf
    exact absurd hh (hf b.toNat (List.mem_range.2 (by omega)))
  | some n =>
    have e1 := List.find?_some hf
    have e2 := List.mem_range.1 (List.mem_of_find?_eq_some hf)
    simp only [hit, Bool.and_eq_true, beq_iff_eq] at e1
    exact ⟨by simp, by simp only; omega, e1.1⟩
structure NoHit (set r : Int) (i : Int) : Prop where
  l : 0 ≤ i
  u : i ≤ 256
  h : ∀ j : Nat, j < i.toNat → hit set r j = false

theorem wrap_u8 {x : Int} (h0 : 0 ≤ x) (h1 : x < 256) : IntKind.wrap .u8 x = x := by
  have := IntWalk.u8_in x ⟨h0, by omega⟩
  exact this
theorem nohit_next {set r x : Int} (h : NoHit set r x) (h1 : x < 256) (hn : hit set r x.toNat = false) : NoHit set r (IntKind.wrap .i64 (x + 1)) := by
  obtain ⟨h0, _, hj⟩ := h
  rw [wrap64 (by omega) (by omega)]
  refine ⟨by omega, by omega, fun j hjl => ?_⟩
  by_cases he : j = x.toNat
  · subst he; exact hn
  · exact hj j (by omega)
theorem hit_nat {set r x : Int} (h0 : 0 ≤ x) : hit set r x.toNat = (ofT set x == r && r != 65533) := by
  unfold hit
  rw [show ((x.toNat : Nat) : Int) = x by omega]
theorem tab_at {set x : Int} (h0 : 0 ≤ x) (h1 : x < 256) : (tabL2 set).getD (0 + x.toNat * 1) 0 = ofT set x := getD_tab rfl h0 (by omega)
def annBk (set r : Int) : Ann Unit where
  α := Int
  φ _ i := NoHit set r i
  μ _ i := (256 - i).toNat
  get st := getI st.tm 7
  f st i := tmpl [0, 1, 6] [(7, .v (.int .i64 i))] [(getY st.tm 0, loopTm st.H (getY st.tm 0) [0, 1, 3, 4, 5] [])] st
def lcBack : ACon Unit := mkLC (decP (shCons shI (shOne (shInt .i32))) shHNil) fun ((set, r), _) => .one (.t [.v (.int .u8 (max 0 (backT set r))), .v (.bool (decide (0 ≤ backT set r)))]) [] []
set_option maxHeartbeats 4000000 in
theorem ok_back : ∀ I : Sym.Inv Unit, LCOk I Try.prog 13 lcBack := by
  refine lc_mk (fun ((set, r), _) => allCfg Try.prog [] [(18, lcOfT)] 0 [(129, annBk set r)]) (fun _ _ => allCfg_ok mixed trivial ⟨ok_ofT, trivial⟩) (fun _ => rfl) (n := 60) Try.func13 ?_
  intro ⟨⟨set, r⟩, _⟩ hφ
  refine kcast (B := (true = true ∧ NoHit set r (0 : Int) ∧ ((SV.y (5 : Nat) = SV.y (5 : Nat) ∧ SV.p (3 : Nat) (0 : Nat) = SV.p (3 : Nat) (0 : Nat) ∧ SV.p (6 : Nat) (0 : Nat) = SV.p (6 : Nat) (0 : Nat) ∧ SV.v (Value.int IntKind.i64 (0 : Int)) = SV.v
   (Value.int IntKind.i64 (0 : Int)) ∧ True) ∧ (SV.v (Value.int IntKind.i32 r) = SV.v (Value.int IntKind.i32 r) ∧ True) ∧ (SV.v (Value.int IntKind.u8 (0 : Int)) = SV.v (Value.int IntKind.u8 (0 : Int)) ∧ True) ∧ (SV.v (Value.bool false) = SV.v
   (Value.bool false) ∧ True) ∧ (SV.v (Value.int IntKind.i64 set) = SV.v (Value.int IntKind.i64 set) ∧ True) ∧ Obj.deferred (some []) = Obj.deferred (some []) ∧ ((SV.v (Value.int IntKind.i64 set) = SV.v (Value.int IntKind.i64 set) ∧ SV.v (Value.int
   IntKind.i32 r) = SV.v (Value.int IntKind.i32 r) ∧ SV.p (0 : Nat) (0 : Nat) = SV.p (0 : Nat) (0 : Nat) ∧ SV.p (1 : Nat) (0 : Nat) = SV.p (1 : Nat) (0 : Nat) ∧ SV.p (2 : Nat) (0 : Nat) = SV.p (2 : Nat) (0 : Nat) ∧ True) ∧ #[(10 : Nat), (11 : Nat)] =
   #[(10 : Nat), (11 : Nat)] ∧ codeAt Try.f13 [(1 : Nat), (0 : Nat), (1 : Nat), (0 : Nat), (0 : Nat)] = codeAt Try.f13 [(1 : Nat), (0 : Nat), (1 : Nat), (0 : Nat), (0 : Nat)] ∧ codeAt Try.f13 [(1 : Nat), (0 : Nat), (1 : Nat), (0 : Nat), (1 : Nat)] =
   codeAt Try.f13 [(1 : Nat), (0 : Nat), (1 : Nat), (0 : Nat), (1 : Nat)]) ∧ tabL2 set = tabL2 set ∧ True) ∧ ∀ (x : Int), NoHit set r x → br (decide (x < (256 : Int))) (rq (decide ((0 : Int) ≤ x ∧ x < (256 : Int))) (rq (((0 : Nat) + x.toNat * (1 :
   Nat)).blt (256 : Nat)) (br ((tabL2 set).getD ((0 : Nat) + x.toNat * (1 : Nat)) (0 : Int) != (65533 : Int)) (br ((tabL2 set).getD ((0 : Nat) + x.toNat * (1 : Nat)) (0 : Int) == r) ((SV.t [SV.v (Value.int IntKind.u8 (IntKind.u8.wrap x)), SV.v
   (Value.bool true)] = SV.t [SV.v (Value.int IntKind.u8 (max (0 : Int) (backT set r))), SV.v (Value.bool (decide ((0 : Int) ≤ backT set r)))] ∧ True) ∧ True) (NoHit set r (IntKind.i64.wrap (x + (1 : Int))) ∧ ((SV.y (5 : Nat) = SV.y (5 : Nat) ∧ SV.p (3
   : Nat) (0 : Nat) = SV.p (3 : Nat) (0 : Nat) ∧ SV.p (6 : Nat) (0 : Nat) = SV.p (6 : Nat) (0 : Nat) ∧ SV.v (Value.int IntKind.i64 (IntKind.i64.wrap (x + (1 : Int)))) = SV.v (Value.int IntKind.i64 (IntKind.i64.wrap (x + (1 : Int)))) ∧ True) ∧ (SV.v
   (Value.int IntKind.i32 r) = SV.v (Value.int IntKind.i32 r) ∧ True) ∧ (SV.v (Value.int IntKind.u8 (0 : Int)) = SV.v (Value.int IntKind.u8 (0 : Int)) ∧ True) ∧ (SV.v (Value.bool false) = SV.v (Value.bool false) ∧ True) ∧ (SV.v (Value.int IntKind.i64
   set) = SV.v (Value.int IntKind.i64 set) ∧ True) ∧ Obj.deferred (some []) = Obj.deferred (some []) ∧ ((SV.v (Value.int IntKind.i64 set) = SV.v (Value.int IntKind.i64 set) ∧ SV.v (Value.int IntKind.i32 r) = SV.v (Value.int IntKind.i32 r) ∧ SV.p (0 :
   Nat) (0 : Nat) = SV.p (0 : Nat) (0 : Nat) ∧ SV.p (1 : Nat) (0 : Nat) = SV.p (1 : Nat) (0 : Nat) ∧ SV.p (2 : Nat) (0 : Nat) = SV.p (2 : Nat) (0 : Nat) ∧ True) ∧ #[(10 : Nat), (11 : Nat)] = #[(10 : Nat), (11 : Nat)] ∧ codeAt Try.f13 [(1 : Nat), (0 :
   Nat), (1 : Nat), (0 : Nat), (0 : Nat)] = codeAt Try.f13 [(1 : Nat), (0 : Nat), (1 : Nat), (0 : Nat), (0 : Nat)] ∧ codeAt Try.f13 [(1 : Nat), (0 : Nat), (1 : Nat), (0 : Nat), (1 : Nat)] = codeAt Try.f13 [(1 : Nat), (0 : Nat), (1 : Nat), (0 : Nat), (1
   : Nat)]) ∧ tabL2 set = tabL2 set ∧ True) ∧ ((256 : Int) - IntKind.i64.wrap (x + (1 : Int))).toNat < ((256 : Int) - x).toNat)) (NoHit set r (IntKind.i64.wrap (x + (1 : Int))) ∧ ((SV.y (5 : Nat) = SV.y (5 : Nat) ∧ SV.p (3 : Nat) (0 : Nat) = SV.p (3 :
   Nat) (0 : Nat) ∧ SV.p (6 : Nat) (0 : Nat) = SV.p (6 : Nat) (0 : Nat) ∧ SV.v (Value.int IntKind.i64 (IntKind.i64.wrap (x + (1 : Int)))) = SV.v (Value.int IntKind.i64 (IntKind.i64.wrap (x + (1 : Int)))) ∧ True) ∧ (SV.v (Value.int IntKind.i32 r) = SV.v
   (Value.int IntKind.i32 r) ∧ True) ∧ (SV.v (Value.int IntKind.u8 (0 : Int)) = SV.v (Value.int IntKind.u8 (0 : Int)) ∧ True) ∧ (SV.v (Value.bool false) = SV.v (Value.bool false) ∧ True) ∧ (SV.v (Value.int IntKind.i64 set) = SV.v (Value.int IntKind.i64
   set) ∧ True) ∧ Obj.deferred (some []) = Obj.deferred (some []) ∧ ((SV.v (Value.int IntKind.i64 set) = SV.v (Value.int IntKind.i64 set) ∧ SV.v (Value.int IntKind.i32 r) = SV.v (Value.int IntKind.i32 r) ∧ SV.p (0 : Nat) (0 : Nat) = SV.p (0 : Nat) (0 :
   Nat) ∧ SV.p (1 : Nat) (0 : Nat) = SV.p (1 : Nat) (0 : Nat) ∧ SV.p (2 : Nat) (0 : Nat) = SV.p (2 : Nat) (0 : Nat) ∧ True) ∧ #[(10 : Nat), (11 : Nat)] = #[(10 : Nat), (11 : Nat)] ∧ codeAt Try.f13 [(1 : Nat), (0 : Nat), (1 : Nat), (0 : Nat), (0 : Nat)]
   = codeAt Try.f13 [(1 : Nat), (0 : Nat), (1 : Nat), (0 : Nat), (0 : Nat)] ∧ codeAt Try.f13 [(1 : Nat), (0 : Nat), (1 : Nat), (0 : Nat), (1 : Nat)] = codeAt Try.f13 [(1 : Nat), (0 : Nat), (1 : Nat), (0 : Nat), (1 : Nat)]) ∧ tabL2 set = tabL2 set ∧
   True) ∧ ((256 : Int) - IntKind.i64.wrap (x + (1 : Int))).toNat < ((256 : Int) - x).toNat)))) ((SV.t [SV.v (Value.int IntKind.u8 (0 : Int)), SV.v (Value.bool false)] = SV.t [SV.v (Value.int IntKind.u8 (max (0 : Int) (backT set r))), SV.v (Value.bool
   (decide ((0 : Int) ≤ backT set r)))] ∧ True) ∧ True))) (by kernel_rfl) ?_
  refine ⟨rfl, ⟨by omega, by omega, fun j hj => by simp at hj⟩, ?_, fun (x : Int) hx => ?_⟩
  · repeat' (first | exact trivial | refine And.intro ?_ ?_ | rfl)
  obtain ⟨hx0, hx1, hxj⟩ := id hx
  refine br_intro (fun hlt => ?_) (fun hge => ?_)
  · have hlt : x < 256 := of_decide_eq_true hlt
    refine rq_t (in_range hx0 hlt) (rq_t (in_blt hx0 hlt) ?_)
    rw [tab_at hx0 hlt]
    refine br_intro (fun hn => br_intro (fun he => ?_) (fun he => ?_)) (fun hn => ?_)
    · have hr : (r != 65533) = true := by rw [beq_iff_eq] at he; rw [← he]; exact hn
      have := back_some (set := set) (r := r) (n := x.toNat) (by omega) (by rw [hit_nat hx0, he, hr]; rfl) (fun j hj => hxj j hj)
      rw [this, show ((x.toNat : Nat) : Int) = x by omega, wrap_u8 hx0 hlt, show max 0 x = x by omega, show decide (0 ≤ x) = true from decide_eq_true hx0]
      exact ⟨⟨rfl, trivial⟩, trivial⟩
    · refine ⟨nohit_next hx hlt (by rw [hit_nat hx0, he]; rfl), ?_, mu_next hx0 hlt⟩
      repeat' (first | exact trivial | refine And.intro ?_ ?_ | rfl)
    · have hn' : hit set r x.toNat = false := by
        rw [hit_nat hx0]
        simp only [bne_eq_false_iff_eq] at hn
        rw [hn]
        by_cases h : (65533 : Int) = r
        · subst h; rfl
        · simp [h]
      refine ⟨nohit_next hx hlt hn', ?_, mu_next hx0 hlt⟩
      repeat' (first | exact trivial | refine And.intro ?_ ?_ | rfl)
  · have hge : ¬ x < 256 := of_decide_eq_false hge
    have := back_none (set := set) (r := r) (fun j hj => hxj j (by omega))
    rw [this]
    exact ⟨⟨rfl, trivial⟩, trivial⟩
end Go.Proofs.Ytgpfdajjkalloaa
