/- Texts GfA, GfB, GfC, GfD, GfF, GfG, GfN in one. -/
import Derived.Test.YtdhhagangmkloaaGcJ
import Derived.Test.YtdhhagangmkloaaGeE
set_option linter.unusedSimpArgs false
set_option linter.unusedVariables false
set_option linter.unusedSectionVars false
/- Layer 8: where a glyph is to be put, contracts. -/
namespace Go.Sym
open Go
def itEp (b : SB Unit) : Nat := match b with
  | .rows _ _ _ _ ep _ => ep
  | _ => 0
def xE (H : List (SB Unit)) (b : Nat) : Nat := match H[b]? with
  | some it => itEp it
  | none => 0
end Go.Sym
namespace Go.Proofs.Ytdhhagangmkloaa
open Go Go.Sym

abbrev p2 (r c : Int) : SV := .a [.v (.int .i64 r), .v (.int .i64 c)]
abbrev pl3 (r c : Int) (p : Bool) : SV := .a [.v (.int .i64 r), .v (.int .i64 c), .v (.bool p)]
theorem near_bd {x n : Int} (h : 1 ≤ n) : 0 ≤ nearI x n ∧ nearI x n < n := by
  unfold nearI
  split <;> (try split) <;> omega
theorem near_in {x n : Int} (h0 : 0 ≤ x) (h1 : x < n) : nearI x n = x := by
  unfold nearI
  split <;> (try split) <;> omega
def lcNearIn : ACon Unit := mkLC (decP (shCons shI2 (shOne shI2)) shHNil) fun (((a, b), (r, c)), _) => .ask (mayB a b = true) (.one (p2 (nearI r a) (nearI c b)) [] [])
theorem ok_nearIn : ∀ I : Sym.Inv Unit, LCOk I Try.prog 95 lcNearIn := fun I => lc_mono (fun args H hp => by
  unfold lcNearIn mkLC at hp ⊢
  unfold lcNear mkLC
  split at hp
  · rename_i a ha
    obtain ⟨⟨⟨a, b⟩, ⟨r, c⟩⟩, _⟩ := a
    refine ⟨⟨fun _ => trivial, fun _ => trivial⟩, fun x H' ws hh => ?_⟩
    rcases hh with ⟨_, h⟩ | ⟨h1, _⟩
    · exact h
    · rw [hp.1] at h1; cases h1
  · exact hp.elim) (ok_near I)
def nxR (r a : Int) : Int := if a - 1 < r + 1 then a - 1 else r + 1
theorem nxR_bd {r a : Int} (h : 1 ≤ a) (h0 : 0 ≤ r) : 0 ≤ nxR r a ∧ nxR r a < a := by
  unfold nxR; split <;> omega
def lcNext : ACon Unit := mkLC (decP (shCons shI2 (shOne shI2)) shHNil) fun (((a, b), (r, c)), _) => .ask (mayB a b = true ∧ 0 ≤ r ∧ r < a) (.one (.t [p2 (nxR r a) 0, .v (.bool (nxR r a == r))]) [] [])
set_option maxHeartbeats 4000000 in
theorem ok_next : ∀ I : Sym.Inv Unit, LCOk I Try.prog 96 lcNext := by
  refine lc_mk (fun _ => allCfg Try.prog [] [] 0) (fun _ _ => allCfg_ok mixed trivial trivial) (fun _ => rfl) (n := 60) Try.func96 ?_
  intro ⟨⟨⟨a, b⟩, ⟨r, c⟩⟩, _⟩ hφ
  obtain ⟨⟨hm, h0, h1⟩, hp⟩ := id hφ
  refine kcast (B := ((SV.t [SV.a [SV.v (Value.int IntKind.i64 (if IntKind.i64.wrap (a - (1 : Int)) < IntKind.i64.wrap (r + (1 : Int)) then IntKind.i64.wrap (a - (1 : Int)) else IntKind.i64.wrap (r + (1 : Int)))), SV.v (Value.int IntKind.i64 (0 : Int))], SV.v (Value.bool ((if IntKind.i64.wrap (a - (1 : Int)) < IntKind.i64.wrap (r + (1 : Int)) then IntKind.i64.wrap (a - (1 : Int)) else IntKind.i64.wrap (r + (1 : Int))) == r))] = SV.t [SV.a [SV.v (Value.int IntKind.i64 (nxR r a)), SV.v (Value.int IntKind.i64 (0 : Int))], SV.v (Value.bool (nxR r a == r))] ∧ True) ∧ True)) (by kernel_rfl) ?_
  clear hp hφ
  rw [mayB_iff] at hm
  rw [wrap64 (x := r + 1) (by omega) (by omega), wrap64 (x := a - 1) (by omega) (by omega)]
  simp [nxR]
def ahR (a r : Int) (p : Bool) : Int := if p = true then nxR (nearI r a) a else nearI r a
def ahC (b c : Int) (p : Bool) : Int := if p = true then 0 else nearI c b
def ahU (a r : Int) (p : Bool) : Bool := p && (nxR (nearI r a) a == nearI r a)
def tabF1 : List (Nat × ACon Unit) := (95, lcNearIn) :: (96, lcNext) :: (109, lcNear1) :: (74, lcMay) :: []
theorem tabF1_ok : LCs Try.prog tabF1 := ⟨ok_nearIn, ok_next, ok_near1, ok_may, trivial⟩
def lcAheadW : ACon Unit := mkLC (decP (shCons shI2 (shOne shPl)) shHNil) fun (((a, b), (r, c, p)), _) => .ask (mayB a b = true) (.one (.t [p2 (ahR a r p) (ahC b c p), .v (.bool (ahU a r p))]) [] [])
set_option maxHeartbeats 4000000 in
theorem ok_aheadW : ∀ I : Sym.Inv Unit, LCOk I Try.prog 64 lcAheadW := by
  refine lc_mk (fun _ => allCfg Try.prog [] tabF1 0) (fun _ _ => allCfg_ok mixed trivial tabF1_ok) (fun _ => rfl) (n := 60) Try.func64 ?_
  intro ⟨⟨⟨a, b⟩, ⟨r, c, p⟩⟩, _⟩ hφ
  obtain ⟨hm, hp⟩ := id hφ
  refine kcast (B := (true = true ∧ mayB a b = true ∧ br (!p) ((SV.t [SV.a [SV.v (Value.int IntKind.i64 (nearI r a)), SV.v (Value.int IntKind.i64 (nearI c b))], SV.v (Value.bool false)] = SV.t [SV.a [SV.v (Value.int IntKind.i64 (ahR a r p)), SV.v (Value.int IntKind.i64 (ahC b c p))], SV.v (Value.bool (ahU a r p))] ∧ True) ∧ True) (true = true ∧ br (mayB a b) (true = true ∧ (mayB a b = true ∧ (0 : Int) ≤ nearI r a ∧ nearI r a < a) ∧ (SV.t [SV.a [SV.v (Value.int IntKind.i64 (nxR (nearI r a) a)), SV.v (Value.int IntKind.i64 (0 : Int))], SV.v (Value.bool (nxR (nearI r a) a == nearI r a))] = SV.t [SV.a [SV.v (Value.int IntKind.i64 (ahR a r p)), SV.v (Value.int IntKind.i64 (ahC b c p))], SV.v (Value.bool (ahU a r p))] ∧ True) ∧ True) ((SV.t [SV.a [SV.v (Value.int IntKind.i64 (nearI r a)), SV.v (Value.int IntKind.i64 (nearI c b))], SV.v (Value.bool false)] = SV.t [SV.a [SV.v (Value.int IntKind.i64 (ahR a r p)), SV.v (Value.int IntKind.i64 (ahC b c p))], SV.v (Value.bool (ahU a r p))] ∧ True) ∧ True)))) (by kernel_rfl) ?_
  clear hp hφ
  have hm' := mayB_iff.1 hm
  have hb := near_bd (x := r) hm'.1
  cases p <;> simp [br_iff, hm, ahR, ahC, ahU, hb]
def bhIn (b c : Int) : Bool := decide (nearI c b < b - 1)
def bhR (a b r c w : Int) : Int := if bhIn b c = true then nearI r a else if w = 2 then nxR (nearI r a) a else nearI r a
def bhC (a b r c w : Int) : Int := if bhIn b c = true then nearI c b + 1 else if w = 2 then 0 else nearI c b
def bhP (a b r c w : Int) : Bool := !bhIn b c && (!(w == 1) && !(w == 2))
def bhU (a b r c w : Int) : Bool := !bhIn b c && ((w == 2) && (nxR (nearI r a) a == nearI r a))
def lcBehind : ACon Unit := mkLC (decP (shCons shI2 (shCons shI2 (shOne shI))) shHNil) fun (((a, b), (r, c), w), _) => .ask (mayB a b = true) (.one (.t [pl3 (bhR a b r c w) (bhC a b r c w) (bhP a b r c w), .v (.bool (bhU a b r c w))]) [] [])
set_option maxHeartbeats 4000000 in
theorem ok_behind : ∀ I : Sym.Inv Unit, LCOk I Try.prog 82 lcBehind := by
  refine lc_mk (fun _ => allCfg Try.prog [] tabF1 0) (fun _ _ => allCfg_ok mixed trivial tabF1_ok) (fun _ => rfl) (n := 60) Try.func82 ?_
  intro ⟨⟨⟨a, b⟩, ⟨r, c⟩, w⟩, _⟩ hφ
  obtain ⟨hm, hp⟩ := id hφ
  refine kcast (B := (true = true ∧ br (mayB a b) (true = true ∧ mayB a b = true ∧ br (decide (nearI c b < IntKind.i64.wrap (b - (1 : Int)))) ((SV.t [SV.a [SV.v (Value.int IntKind.i64 (nearI r a)), SV.v (Value.int IntKind.i64 (IntKind.i64.wrap (nearI c b + (1 : Int)))), SV.v (Value.bool false)], SV.v (Value.bool false)] = SV.t [SV.a [SV.v (Value.int IntKind.i64 (bhR a b r c w)), SV.v (Value.int IntKind.i64 (bhC a b r c w)), SV.v (Value.bool (bhP a b r c w))], SV.v (Value.bool (bhU a b r c w))] ∧ True) ∧ True) (br (w == (1 : Int)) ((SV.t [SV.a [SV.v (Value.int IntKind.i64 (nearI r a)), SV.v (Value.int IntKind.i64 (nearI c b)), SV.v (Value.bool false)], SV.v (Value.bool false)] = SV.t [SV.a [SV.v (Value.int IntKind.i64 (bhR a b r c w)), SV.v (Value.int IntKind.i64 (bhC a b r c w)), SV.v (Value.bool (bhP a b r c w))], SV.v (Value.bool (bhU a b r c w))] ∧ True) ∧ True) (br (w == (2 : Int)) (true = true ∧ (mayB a b = true ∧ (0 : Int) ≤ nearI r a ∧ nearI r a < a) ∧ (SV.t [SV.a [SV.v (Value.int IntKind.i64 (nxR (nearI r a) a)), SV.v (Value.int IntKind.i64 (0 : Int)), SV.v (Value.bool false)], SV.v (Value.bool (nxR (nearI r a) a == nearI r a))] = SV.t [SV.a [SV.v (Value.int IntKind.i64 (bhR a b r c w)), SV.v (Value.int IntKind.i64 (bhC a b r c w)), SV.v (Value.bool (bhP a b r c w))], SV.v (Value.bool (bhU a b r c w))] ∧ True) ∧ True) ((SV.t [SV.a [SV.v (Value.int IntKind.i64 (nearI r a)), SV.v (Value.int IntKind.i64 (nearI c b)), SV.v (Value.bool true)], SV.v (Value.bool false)] = SV.t [SV.a [SV.v (Value.int IntKind.i64 (bhR a b r c w)), SV.v (Value.int IntKind.i64 (bhC a b r c w)), SV.v (Value.bool (bhP a b r c w))], SV.v (Value.bool (bhU a b r c w))] ∧ True) ∧ True)))) ((SV.t [SV.a [SV.v (Value.int IntKind.i64 (0 : Int)), SV.v (Value.int IntKind.i64 (0 : Int)), SV.v (Value.bool false)], SV.v (Value.bool false)] = SV.t [SV.a [SV.v (Value.int IntKind.i64 (bhR a b r c w)), SV.v (Value.int IntKind.i64 (bhC a b r c w)), SV.v (Value.bool (bhP a b r c w))], SV.v (Value.bool (bhU a b r c w))] ∧ True) ∧ True))) (by kernel_rfl) ?_
  clear hp hφ
  have hm' := mayB_iff.1 hm
  have hb := near_bd (x := r) hm'.1
  have hc := near_bd (x := c) (n := b) hm'.2.2.1
  rw [wrap64 (x := b - 1) (by omega) (by omega), wrap64 (x := nearI c b + 1) (by omega) (by omega)]
  by_cases h1 : nearI c b < b - 1
  · simp [br_iff, hm, bhR, bhC, bhP, bhU, bhIn, h1]
  · by_cases h2 : w = 1
    · subst h2; simp [br_iff, hm, bhR, bhC, bhP, bhU, bhIn, h1]
    · by_cases h3 : w = 2
      · subst h3; simp [br_iff, hm, bhR, bhC, bhP, bhU, bhIn, h1, hb]
      · simp [br_iff, hm, bhR, bhC, bhP, bhU, bhIn, h1, h2, h3]
def lcIdx : ACon Unit := mkLC (decP (shCons shI2 (shOne shI2)) shHNil) fun (((a, b), (r, c)), _) => .ask (mayB a b = true ∧ inD a b r c = true) (.one (.t [.v (.int .i64 (r * b + c)), .v (.int .i64 0)]) [] [])
set_option maxHeartbeats 4000000 in
theorem ok_idx : ∀ I : Sym.Inv Unit, LCOk I Try.prog 93 lcIdx := by
  refine lc_mk (fun _ => allCfg Try.prog [] tabF1 0) (fun _ _ => allCfg_ok mixed trivial tabF1_ok) (fun _ => rfl) (n := 60) Try.func93 ?_
  intro ⟨⟨⟨a, b⟩, ⟨r, c⟩⟩, _⟩ hφ
  obtain ⟨⟨hm, hi⟩, hp⟩ := id hφ
  refine kcast (B := (true = true ∧ br (mayB a b) (true = true ∧ mayB a b = true ∧ br (!(nearI r a == r && (nearI c b == c && true))) ((SV.t [SV.v (Value.int IntKind.i64 (0 : Int)), SV.v (Value.int IntKind.i64 (11 : Int))] = SV.t [SV.v (Value.int IntKind.i64 (r * b + c)), SV.v (Value.int IntKind.i64 (0 : Int))] ∧ True) ∧ True) ((SV.t [SV.v (Value.int IntKind.i64 (IntKind.i64.wrap (IntKind.i64.wrap (r * b) + c))), SV.v (Value.int IntKind.i64 (0 : Int))] = SV.t [SV.v (Value.int IntKind.i64 (r * b + c)), SV.v (Value.int IntKind.i64 (0 : Int))] ∧ True) ∧ True)) ((SV.t [SV.v (Value.int IntKind.i64 (0 : Int)), SV.v (Value.int IntKind.i64 (10 : Int))] = SV.t [SV.v (Value.int IntKind.i64 (r * b + c)), SV.v (Value.int IntKind.i64 (0 : Int))] ∧ True) ∧ True))) (by kernel_rfl) ?_
  clear hp hφ
  have hm' := mayB_iff.1 hm
  have hi' := inD_iff.1 hi
  obtain ⟨m1, m2⟩ := mul_bd (r := r) (C := b) (by omega) (by omega) (by omega) (by omega)
  rw [wrap64 (x := r * b) (by omega) (by omega), wrap64 (x := r * b + c) (by omega) (by omega), near_in hi'.1 hi'.2.1, near_in hi'.2.2.1 hi'.2.2.2]
  simp [br_iff, hm]
def lcOf : ACon Unit := mkLC (decP (shCons shI2 (shOne shI)) shHNil) fun (((a, b), n), _) => .ask (mayB a b = true ∧ 0 ≤ n ∧ n < a * b) (.one (.t [p2 (n / b) (n % b), .v (.int .i64 0)]) [] [])
set_option maxHeartbeats 4000000 in
theorem ok_of : ∀ I : Sym.Inv Unit, LCOk I Try.prog 94 lcOf := by
  refine lc_mk (fun _ => allCfg Try.prog [] tabF1 0) (fun _ _ => allCfg_ok mixed trivial tabF1_ok) (fun _ => rfl) (n := 60) Try.func94 ?_
  intro ⟨⟨⟨a, b⟩, n⟩, _⟩ hφ
  obtain ⟨⟨hm, h0, h1⟩, hp⟩ := id hφ
  refine kcast (B := (true = true ∧ br (mayB a b) (br (decide (n < (0 : Int))) ((SV.t [SV.a [SV.v (Value.int IntKind.i64 (0 : Int)), SV.v (Value.int IntKind.i64 (0 : Int))], SV.v (Value.int IntKind.i64 (11 : Int))] = SV.t [SV.a [SV.v (Value.int IntKind.i64 (n / b)), SV.v (Value.int IntKind.i64 (n % b))], SV.v (Value.int IntKind.i64 (0 : Int))] ∧ True) ∧ True) (br (decide (n ≥ IntKind.i64.wrap (a * b))) ((SV.t [SV.a [SV.v (Value.int IntKind.i64 (0 : Int)), SV.v (Value.int IntKind.i64 (0 : Int))], SV.v (Value.int IntKind.i64 (11 : Int))] = SV.t [SV.a [SV.v (Value.int IntKind.i64 (n / b)), SV.v (Value.int IntKind.i64 (n % b))], SV.v (Value.int IntKind.i64 (0 : Int))] ∧ True) ∧ True) (rq (decide (b ≠ (0 : Int))) (rq (decide (b ≠ (0 : Int))) ((SV.t [SV.a [SV.v (Value.int IntKind.i64 (IntKind.i64.wrap (n.tdiv b))), SV.v (Value.int IntKind.i64 (n.tmod b))], SV.v (Value.int IntKind.i64 (0 : Int))] = SV.t [SV.a [SV.v (Value.int IntKind.i64 (n / b)), SV.v (Value.int IntKind.i64 (n % b))], SV.v (Value.int IntKind.i64 (0 : Int))] ∧ True) ∧ True))))) ((SV.t [SV.a [SV.v (Value.int IntKind.i64 (0 : Int)), SV.v (Value.int IntKind.i64 (0 : Int))], SV.v (Value.int IntKind.i64 (10 : Int))] = SV.t [SV.a [SV.v (Value.int IntKind.i64 (n / b)), SV.v (Value.int IntKind.i64 (n % b))], SV.v (Value.int IntKind.i64 (0 : Int))] ∧ True) ∧ True))) (by kernel_rfl) ?_
  clear hp hφ
  have hm' := mayB_iff.1 hm
  have hd := Int.ediv_le_self b h0
  have hd0 : 0 ≤ n / b := Int.ediv_nonneg h0 (by omega)
  have hb1 : (a * b : Int) ≤ 1073741824 := by
    have : a * b ≤ 32768 * 32768 := Int.mul_le_mul (by omega) (by omega) (by omega) (by omega)
    omega
  rw [wrap64 (x := a * b) (by omega) (by omega), Int.tdiv_eq_ediv_of_nonneg h0, Int.tmod_eq_emod_of_nonneg h0, wrap64 (x := n / b) (by omega) (by omega)]
  have hb0 : b ≠ 0 := by omega
  simp [br_iff, rq, hm, hb0, Int.not_lt.2 h0, Int.not_le.2 h1]
end Go.Proofs.Ytdhhagangmkloaa

/- Layer 8: a cell is put where the cursor is, contracts of the program and of the document's answer. -/
namespace Go.Proofs.Ytdhhagangmkloaa
open Go Go.Sym

def riL (l : List (List C4)) (p : Bool) (x : C4) : List (List C4) := if p = true then upF l 1 x else l
def riN (p : Bool) : Int := if p = true then 1 else 0
def riE (p : Bool) (ep : Nat) : Nat := if p = true then ep + 1 else ep
def lcRiseU : ACon Unit := mkLC (decP (shCons (shP 0) (shCons shB (shOne shC))) shG) fun ((_, p, x), (oe, ⟨l, oe2, ep⟩)) => .ask (oe = oe2 ∧ GW l) (.one (.v (.int .i64 (riN p))) (gbi 0 oe (riE p ep) (riL l p x)) [1])
theorem ok_riseU : ∀ I : Sym.Inv Unit, LCOk I Try.prog 81 lcRiseU := fun I => lc_mono (fun args H hp => by
  unfold lcRiseU mkLC at hp ⊢
  unfold lcRise mkLC
  split at hp
  · rename_i a ha
    obtain ⟨⟨_, p, x⟩, oe, l, oe2, ep⟩ := a
    refine ⟨⟨hp.1, ⟨fun _ => trivial, fun _ => trivial⟩⟩, fun x H' ws hh => ?_⟩
    rcases hh with ⟨h1, h⟩ | ⟨h1, h⟩ <;> (subst h1; exact h)
  · exact hp.elim) (ok_rise I)
def lcSetIn : ACon Unit := mkLC (decP (shCons (shP 0) (shCons shI2 (shOne shC))) shG) fun ((_, (r, c), x), (oe, ⟨l, oe2, ep⟩)) => .ask (oe = oe2 ∧ GW l ∧ inB l r c = true) (.one (.v (.int .i64 0)) (gbi 0 oe ep (set2 l r c x)) [1])
theorem ok_setIn : ∀ I : Sym.Inv Unit, LCOk I Try.prog 65 lcSetIn := fun I => lc_mono (fun args H hp => by
  unfold lcSetIn mkLC at hp ⊢
  unfold lcSet1 mkLC
  split at hp
  · rename_i a ha
    obtain ⟨⟨_, ⟨r, c⟩, x⟩, oe, l, oe2, ep⟩ := a
    refine ⟨⟨⟨hp.1.1, hp.1.2.1⟩, ⟨fun _ => trivial, fun _ => trivial⟩⟩, fun x H' ws hh => ?_⟩
    rcases hh with ⟨_, h⟩ | ⟨h1, _⟩
    · exact h
    · rw [hp.1.2.2] at h1; cases h1
  · exact hp.elim) (ok_set1 I)
theorem riL_gw {l : List (List C4)} (hg : GW l) (p : Bool) (x : C4) : GW (riL l p x) ∧ (riL l p x).length = l.length ∧ nC (riL l p x) = nC l := by
  unfold riL
  split
  · exact upF_gw hg 1 x
  · exact ⟨hg, rfl, rfl⟩
/-- Where a glyph is put, of a board of so many rows and columns. -/
def puR (a r : Int) (p : Bool) : Int := ahR a r p
theorem ah_bd {a b r c : Int} {p : Bool} (ha : 1 ≤ a) (hb : 1 ≤ b) : 0 ≤ ahR a r p ∧ ahR a r p < a ∧ 0 ≤ ahC b c p ∧ ahC b c p < b := by
  have h1 := near_bd (x := r) ha
  have h2 := near_bd (x := c) hb
  have h3 := nxR_bd ha h1.1
  unfold ahR ahC
  split <;> omega
def puL1 (l : List (List C4)) (r c : Int) (p : Bool) (x y : C4) : List (List C4) :=
  set2 (riL l (ahU l.length r p) y) (ahR l.length r p) (ahC (nC l) c p) x
def puU (l : List (List C4)) (r c : Int) (p : Bool) (w : Int) : Bool := bhU l.length (nC l) (ahR l.length r p) (ahC (nC l) c p) w
def puL (l : List (List C4)) (r c : Int) (p : Bool) (x : C4) (w : Int) (y : C4) : List (List C4) := riL (puL1 l r c p x y) (puU l r c p w) y
def puPl (a b r c : Int) (p : Bool) (w : Int) : SV := pl3 (bhR a b (ahR a r p) (ahC b c p) w) (bhC a b (ahR a r p) (ahC b c p) w) (bhP a b (ahR a r p) (ahC b c p) w)
def puN (a b r c : Int) (p : Bool) (w : Int) : Int := riN (ahU a r p) + riN (bhU a b (ahR a r p) (ahC b c p) w)
def tabF2 : List (Nat × ACon Unit) := (64, lcAheadW) :: (82, lcBehind) :: (81, lcRiseU) :: (65, lcSetIn) :: (63, lcSize1) :: tabF1
theorem tabF2_ok : LCs Try.prog tabF2 := ⟨ok_aheadW, ok_behind, ok_riseU, ok_setIn, ok_size1, tabF1_ok⟩
def lcPut : ACon Unit := mkLC (decP (shCons (shP 0) (shCons shPl (shCons shC (shCons shI (shOne shC))))) shG) fun ((_, (r, c, p), x, w, y), (oe, ⟨l, oe2, ep⟩)) => .ask (oe = oe2 ∧ GW l)
  (.one (.t [puPl l.length (nC l) r c p w, .v (.int .i64 (puN l.length (nC l) r c p w)), .v (.int .i64 0)]) (gbi 0 oe (riE (puU l r c p w) (riE (ahU l.length r p) ep)) (puL l r c p x w y)) [1])
theorem puL1_gw {l : List (List C4)} (hg : GW l) (r c : Int) (p : Bool) (x y : C4) : inB (riL l (ahU l.length r p) y) (ahR l.length r p) (ahC (nC l) c p) = true ∧ GW (puL1 l r c p x y) ∧ (puL1 l r c p x y).length = l.length ∧ nC (puL1 l r c p x y) = nC l := by
  obtain ⟨g1, g2, g3⟩ := riL_gw hg (ahU l.length r p) y
  have h0 := hg.r0
  have h1 := hg.c0
  have hb := ah_bd (a := l.length) (b := nC l) (r := r) (c := c) (p := p) (by omega) (by omega)
  have hi : inB (riL l (ahU l.length r p) y) (ahR l.length r p) (ahC (nC l) c p) = true := by rw [inB_iff, g2, g3]; omega
  refine ⟨hi, ?_⟩
  unfold puL1
  rw [inB_iff] at hi
  rw [set2_eq g1 hi.1 hi.2.1 hi.2.2.1 hi.2.2.2, g2, g3]
  exact ⟨gridF_gw hg.r0 hg.r1 hg.c0 hg.c1, gridF_length _ _ _, gridF_nC (by omega)⟩
theorem riN_bd (p : Bool) : 0 ≤ riN p ∧ riN p ≤ 1 := by unfold riN; split <;> omega
set_option maxHeartbeats 4000000 in
theorem ok_put : ∀ I : Sym.Inv Unit, LCOk I Try.prog 46 lcPut := by
  refine lc_mk (fun _ => allCfg Try.prog [] tabF2 0) (fun _ _ => allCfg_ok mixed trivial tabF2_ok) (fun _ => rfl) (n := 80) Try.func46 ?_
  intro ⟨⟨_, ⟨r, c, p⟩, x, w, y⟩, ⟨oe, ⟨l, oe2, ep⟩⟩⟩ hφ
  obtain ⟨⟨rfl, hg⟩, hp⟩ := id hφ
  refine kcast (B := (true = true ∧ (oe = oe ∧ GW l) ∧ true = true ∧ mayB (↑l.length : Int) (↑(nC l) : Int) = true ∧ true = true ∧ (oe = oe ∧ GW l) ∧ true = true ∧ (oe = oe ∧ GW (riL l (ahU (↑l.length : Int) r p) (C4.mk y.g y.a y.gd y.m)) ∧ inB (riL l (ahU (↑l.length : Int) r p) (C4.mk y.g y.a y.gd y.m)) (ahR (↑l.length : Int) r p) (ahC (↑(nC l) : Int) c p) = true) ∧ true = true ∧ mayB (↑l.length : Int) (↑(nC l) : Int) = true ∧ true = true ∧ (oe = oe ∧ GW (set2 (riL l (ahU (↑l.length : Int) r p) (C4.mk y.g y.a y.gd y.m)) (ahR (↑l.length : Int) r p) (ahC (↑(nC l) : Int) c p) (C4.mk x.g x.a x.gd x.m))) ∧ (SV.t [SV.a [SV.v (Value.int IntKind.i64 (bhR (↑l.length : Int) (↑(nC l) : Int) (ahR (↑l.length : Int) r p) (ahC (↑(nC l) : Int) c p) w)), SV.v (Value.int IntKind.i64 (bhC (↑l.length : Int) (↑(nC l) : Int) (ahR (↑l.length : Int) r p) (ahC (↑(nC l) : Int) c p) w)), SV.v (Value.bool (bhP (↑l.length : Int) (↑(nC l) : Int) (ahR (↑l.length : Int) r p) (ahC (↑(nC l) : Int) c p) w))], SV.v (Value.int IntKind.i64 (IntKind.i64.wrap (riN (ahU (↑l.length : Int) r p) + riN (bhU (↑l.length : Int) (↑(nC l) : Int) (ahR (↑l.length : Int) r p) (ahC (↑(nC l) : Int) c p) w)))), SV.v (Value.int IntKind.i64 (0 : Int))] = SV.t [SV.a [SV.v (Value.int IntKind.i64 (bhR (↑l.length : Int) (↑(nC l) : Int) (ahR (↑l.length : Int) r p) (ahC (↑(nC l) : Int) c p) w)), SV.v (Value.int IntKind.i64 (bhC (↑l.length : Int) (↑(nC l) : Int) (ahR (↑l.length : Int) r p) (ahC (↑(nC l) : Int) c p) w)), SV.v (Value.bool (bhP (↑l.length : Int) (↑(nC l) : Int) (ahR (↑l.length : Int) r p) (ahC (↑(nC l) : Int) c p) w))], SV.v (Value.int IntKind.i64 (puN (↑l.length : Int) (↑(nC l) : Int) r c p w)), SV.v (Value.int IntKind.i64 (0 : Int))] ∧ True) ∧ (SV.h (1 : Nat) [oe, (0 : Nat)] = SV.h (1 : Nat) [oe, (0 : Nat)] ∧ True) ∧ (oe = oe ∧ riE (bhU (↑l.length : Int) (↑(nC l) : Int) (ahR (↑l.length : Int) r p) (ahC (↑(nC l) : Int) c p) w) (riE (ahU (↑l.length : Int) r p) ep) = riE (puU l r c p w) (riE (ahU (↑l.length : Int) r p) ep) ∧ riL (set2 (riL l (ahU (↑l.length : Int) r p) (C4.mk y.g y.a y.gd y.m)) (ahR (↑l.length : Int) r p) (ahC (↑(nC l) : Int) c p) (C4.mk x.g x.a x.gd x.m)) (bhU (↑l.length : Int) (↑(nC l) : Int) (ahR (↑l.length : Int) r p) (ahC (↑(nC l) : Int) c p) w) (C4.mk y.g y.a y.gd y.m) = puL l r c p x w y) ∧ True)) (by kernel_rfl) ?_
  clear hp hφ
  have eta : ∀ y : C4, C4.mk y.g y.a y.gd y.m = y := fun _ => rfl
  simp only [eta]
  have h0 := hg.r0
  have h1 := hg.c0
  have hm : mayB l.length (nC l) = true := by
    have := hg.r1
    have := hg.c1
    rw [mayB_iff]; omega
  obtain ⟨g1, g2, g3⟩ := riL_gw hg (ahU l.length r p) y
  obtain ⟨p1, p2, p3, p4⟩ := puL1_gw hg r c p x y
  have n1 := riN_bd (ahU l.length r p)
  have n2 := riN_bd (bhU l.length (nC l) (ahR l.length r p) (ahC (nC l) c p) w)
  rw [wrap64 (x := riN (ahU l.length r p) + riN (bhU l.length (nC l) (ahR l.length r p) (ahC (nC l) c p) w)) (by omega) (by omega)]
  simp [br_iff, hg, hm, g1, g2, g3, p1, show GW (set2 (riL l (ahU l.length r p) y) (ahR l.length r p) (ahC (nC l) c p) x) from p2, puL, puU, puN, puL1]
end Go.Proofs.Ytdhhagangmkloaa

/- Layer 8: the document's answer: a cell is put. -/
namespace Go.Proofs.Ytdhhagangmkloaa
open Go Go.Sym

def lcRNear1 : ACon Unit := mkLC (decP (shCons shI (shOne shI)) shHNil) fun ((x, n), _) => .ask (1 ≤ n ∧ n ≤ 255) (.one (.v (.int .i64 (nearI x n))) [] [])
set_option maxHeartbeats 4000000 in
theorem ok_rnear1 : ∀ I : Sym.Inv Unit, LCOk I Try.prog 105 lcRNear1 := by
  refine lc_mk (fun _ => allCfg Try.prog [] [] 0) (fun _ _ => allCfg_ok mixed trivial trivial) (fun _ => rfl) (n := 60) Try.func105 ?_
  intro ⟨⟨x, n⟩, _⟩ hφ
  obtain ⟨⟨h1, h2⟩, hp⟩ := id hφ
  refine kcast (B := (br (decide (x < (0 : Int))) ((SV.v (Value.int IntKind.i64 (0 : Int)) = SV.v (Value.int IntKind.i64 (nearI x n)) ∧ True) ∧ True) (br (decide (x ≥ n)) ((SV.v (Value.int IntKind.i64 (IntKind.i64.wrap (n - (1 : Int)))) = SV.v (Value.int IntKind.i64 (nearI x n)) ∧ True) ∧ True) ((SV.v (Value.int IntKind.i64 x) = SV.v (Value.int IntKind.i64 (nearI x n)) ∧ True) ∧ True)))) (by kernel_rfl) ?_
  clear hp hφ
  rw [wrap64 (x := n - 1) (by omega) (by omega)]
  by_cases a1 : x < 0
  · rw [show nearI x n = 0 by unfold nearI; split <;> (try split) <;> omega]; simp [br_iff, a1]
  · by_cases a2 : x ≥ n
    · rw [show nearI x n = n - 1 by unfold nearI; split <;> (try split) <;> omega]; simp [br_iff, a1, a2]
    · rw [near_in (by omega) (by omega)]; simp [br_iff, a1, a2]
def lcRNear : ACon Unit := mkLC (decP (shCons shI2 (shOne shI2)) shHNil) fun (((a, b), (r, c)), _) => .ask (mayB a b = true) (.one (p2 (nearI r a) (nearI c b)) [] [])
set_option maxHeartbeats 4000000 in
theorem ok_rnear : ∀ I : Sym.Inv Unit, LCOk I Try.prog 83 lcRNear := by
  refine lc_mk (fun _ => allCfg Try.prog [] [(105, lcRNear1)] 0) (fun _ _ => allCfg_ok mixed trivial ⟨ok_rnear1, trivial⟩) (fun _ => rfl) (n := 60) Try.func83 ?_
  intro ⟨⟨⟨a, b⟩, ⟨r, c⟩⟩, _⟩ hφ
  obtain ⟨hm, hp⟩ := id hφ
  refine kcast (B := (true = true ∧ ((1 : Int) ≤ a ∧ a ≤ (255 : Int)) ∧ true = true ∧ ((1 : Int) ≤ b ∧ b ≤ (255 : Int)) ∧ (SV.a [SV.v (Value.int IntKind.i64 (nearI r a)), SV.v (Value.int IntKind.i64 (nearI c b))] = SV.a [SV.v (Value.int IntKind.i64 (nearI r a)), SV.v (Value.int IntKind.i64 (nearI c b))] ∧ True) ∧ True)) (by kernel_rfl) ?_
  clear hp hφ
  have hm' := mayB_iff.1 hm
  simp
  omega
def lcRNext : ACon Unit := mkLC (decP (shCons shI2 (shOne shI2)) shHNil) fun (((a, b), (r, c)), _) => .ask (mayB a b = true ∧ 0 ≤ r ∧ r < a) (.one (.t [p2 (nxR r a) 0, .v (.bool (nxR r a == r))]) [] [])
set_option maxHeartbeats 4000000 in
theorem ok_rnext : ∀ I : Sym.Inv Unit, LCOk I Try.prog 85 lcRNext := by
  refine lc_mk (fun _ => allCfg Try.prog [] [] 0) (fun _ _ => allCfg_ok mixed trivial trivial) (fun _ => rfl) (n := 60) Try.func85 ?_
  intro ⟨⟨⟨a, b⟩, ⟨r, c⟩⟩, _⟩ hφ
  obtain ⟨⟨hm, h0, h1⟩, hp⟩ := id hφ
  refine kcast (B := (br (r == IntKind.i64.wrap (a - (1 : Int))) ((SV.t [SV.a [SV.v (Value.int IntKind.i64 r), SV.v (Value.int IntKind.i64 (0 : Int))], SV.v (Value.bool true)] = SV.t [SV.a [SV.v (Value.int IntKind.i64 (nxR r a)), SV.v (Value.int IntKind.i64 (0 : Int))], SV.v (Value.bool (nxR r a == r))] ∧ True) ∧ True) ((SV.t [SV.a [SV.v (Value.int IntKind.i64 (IntKind.i64.wrap (r + (1 : Int)))), SV.v (Value.int IntKind.i64 (0 : Int))], SV.v (Value.bool false)] = SV.t [SV.a [SV.v (Value.int IntKind.i64 (nxR r a)), SV.v (Value.int IntKind.i64 (0 : Int))], SV.v (Value.bool (nxR r a == r))] ∧ True) ∧ True))) (by kernel_rfl) ?_
  clear hp hφ
  have hm' := mayB_iff.1 hm
  rw [wrap64 (x := r + 1) (by omega) (by omega), wrap64 (x := a - 1) (by omega) (by omega)]
  by_cases h : r = a - 1
  · have e : nxR r a = r := by unfold nxR; split <;> omega
    subst h
    simp [br_iff, e]
  · have e : nxR r a = r + 1 := by unfold nxR; split <;> omega
    have e2 : r + 1 ≠ r := by omega
    simp [br_iff, e, h, e2]
def tabR1 : List (Nat × ACon Unit) := (83, lcRNear) :: (85, lcRNext) :: []
theorem tabR1_ok : LCs Try.prog tabR1 := ⟨ok_rnear, ok_rnext, trivial⟩
def lcRBehind : ACon Unit := mkLC (decP (shCons shI2 (shCons shI2 (shOne shI))) shHNil) fun (((a, b), (r, c), w), _) => .ask (mayB a b = true) (.one (.t [p2 (bhR a b r c w) (bhC a b r c w), .v (.bool (bhP a b r c w)), .v (.bool (bhU a b r c w))]) [] [])
set_option maxHeartbeats 4000000 in
theorem ok_rbehind : ∀ I : Sym.Inv Unit, LCOk I Try.prog 86 lcRBehind := by
  refine lc_mk (fun _ => allCfg Try.prog [] tabR1 0) (fun _ _ => allCfg_ok mixed trivial tabR1_ok) (fun _ => rfl) (n := 60) Try.func86 ?_
  intro ⟨⟨⟨a, b⟩, ⟨r, c⟩, w⟩, _⟩ hφ
  obtain ⟨hm, hp⟩ := id hφ
  refine kcast (B := (true = true ∧ mayB a b = true ∧ br (decide (nearI c b < IntKind.i64.wrap (b - (1 : Int)))) ((SV.t [SV.a [SV.v (Value.int IntKind.i64 (nearI r a)), SV.v (Value.int IntKind.i64 (IntKind.i64.wrap (nearI c b + (1 : Int))))], SV.v (Value.bool false), SV.v (Value.bool false)] = SV.t [SV.a [SV.v (Value.int IntKind.i64 (bhR a b r c w)), SV.v (Value.int IntKind.i64 (bhC a b r c w))], SV.v (Value.bool (bhP a b r c w)), SV.v (Value.bool (bhU a b r c w))] ∧ True) ∧ True) (br (w == (1 : Int)) ((SV.t [SV.a [SV.v (Value.int IntKind.i64 (nearI r a)), SV.v (Value.int IntKind.i64 (nearI c b))], SV.v (Value.bool false), SV.v (Value.bool false)] = SV.t [SV.a [SV.v (Value.int IntKind.i64 (bhR a b r c w)), SV.v (Value.int IntKind.i64 (bhC a b r c w))], SV.v (Value.bool (bhP a b r c w)), SV.v (Value.bool (bhU a b r c w))] ∧ True) ∧ True) (br (w == (2 : Int)) (true = true ∧ (mayB a b = true ∧ (0 : Int) ≤ nearI r a ∧ nearI r a < a) ∧ (SV.t [SV.a [SV.v (Value.int IntKind.i64 (nxR (nearI r a) a)), SV.v (Value.int IntKind.i64 (0 : Int))], SV.v (Value.bool false), SV.v (Value.bool (nxR (nearI r a) a == nearI r a))] = SV.t [SV.a [SV.v (Value.int IntKind.i64 (bhR a b r c w)), SV.v (Value.int IntKind.i64 (bhC a b r c w))], SV.v (Value.bool (bhP a b r c w)), SV.v (Value.bool (bhU a b r c w))] ∧ True) ∧ True) ((SV.t [SV.a [SV.v (Value.int IntKind.i64 (nearI r a)), SV.v (Value.int IntKind.i64 (nearI c b))], SV.v (Value.bool true), SV.v (Value.bool false)] = SV.t [SV.a [SV.v (Value.int IntKind.i64 (bhR a b r c w)), SV.v (Value.int IntKind.i64 (bhC a b r c w))], SV.v (Value.bool (bhP a b r c w)), SV.v (Value.bool (bhU a b r c w))] ∧ True) ∧ True))))) (by kernel_rfl) ?_
  clear hp hφ
  have hm' := mayB_iff.1 hm
  have hb := near_bd (x := r) hm'.1
  have hc := near_bd (x := c) (n := b) hm'.2.2.1
  rw [wrap64 (x := b - 1) (by omega) (by omega), wrap64 (x := nearI c b + 1) (by omega) (by omega)]
  by_cases h1 : nearI c b < b - 1
  · simp [br_iff, hm, bhR, bhC, bhP, bhU, bhIn, h1]
  · by_cases h2 : w = 1
    · subst h2; simp [br_iff, hm, bhR, bhC, bhP, bhU, bhIn, h1]
    · by_cases h3 : w = 2
      · subst h3; simp [br_iff, hm, bhR, bhC, bhP, bhU, bhIn, h1, hb]
      · simp [br_iff, hm, bhR, bhC, bhP, bhU, bhIn, h1, h2, h3]
def lcRSize : ACon Unit := mkLC (decP (shOne (shP 0)) (shRefF 0)) fun (_, ((R, C, ep), ⟨xs, m, ep2⟩)) => .ask (ep = ep2) (.one (p2 R C) (refF 0 R C xs m ep) [])
set_option maxHeartbeats 4000000 in
theorem ok_rsize : ∀ I : Sym.Inv Unit, LCOk I Try.prog 84 lcRSize := by
  refine lc_mk (fun _ => allCfg Try.prog [] [] 0) (fun _ _ => allCfg_ok mixed trivial trivial) (fun _ => rfl) (n := 60) Try.func84 ?_
  intro ⟨_, ⟨R, C, ep⟩, ⟨xs, m, ep2⟩⟩ hφ
  obtain ⟨rfl, hp⟩ := id hφ
  refine kcast (B := ((SV.a [SV.v (Value.int IntKind.i64 R), SV.v (Value.int IntKind.i64 C)] = SV.a [SV.v (Value.int IntKind.i64 R), SV.v (Value.int IntKind.i64 C)] ∧ True) ∧ (SV.v (Value.int IntKind.i64 R) = SV.v (Value.int IntKind.i64 R) ∧ SV.v (Value.int IntKind.i64 C) = SV.v (Value.int IntKind.i64 C) ∧ SV.h (1 : Nat) [ep, (0 : Nat)] = SV.h (1 : Nat) [ep, (0 : Nat)] ∧ True) ∧ (m = m ∧ ep = ep ∧ xs = xs) ∧ True)) (by kernel_rfl) ?_
  clear hp hφ
  simp
def tabR2 : List (Nat × ACon Unit) := (84, lcRSize) :: (86, lcRBehind) :: (55, lcRUp) :: tabR1
theorem tabR2_ok : LCs Try.prog tabR2 := ⟨ok_rsize, ok_rbehind, ok_rup, tabR1_ok⟩
def uxL (R C : Int) (xs : List C4) (p : Bool) (y : C4) : List C4 := if p = true then rmL R C xs 0 1 y else xs
def rpL1 (R C : Int) (xs : List C4) (r c : Int) (p : Bool) (x y : C4) : List C4 := (uxL R C xs (ahU R r p) y).set (ahR R r p * C + ahC C c p).toNat x
def rpL (R C : Int) (xs : List C4) (r c : Int) (p : Bool) (x : C4) (w : Int) (y : C4) : List C4 := uxL R C (rpL1 R C xs r c p x y) (bhU R C (ahR R r p) (ahC C c p) w) y
theorem rmL_fw {R C : Int} {xs : List C4} {m : Nat} (hw : FW R C xs m) (t n : Int) (x : C4) : FW R C (rmL R C xs t n x) m := by
  have h1 := hw.r0
  have h3 := hw.c0
  refine ⟨hw.r0, hw.r1, hw.c0, hw.c1, ?_, hw.sz⟩
  unfold rmL
  rw [flF_length]
  have := hw.sz
  have e : ((R.toNat * C.toNat : Nat) : Int) = R * C := by rw [Int.natCast_mul, Int.toNat_of_nonneg (by omega), Int.toNat_of_nonneg (by omega)]
  omega
theorem uxL_fw {R C : Int} {xs : List C4} {m : Nat} (hw : FW R C xs m) (p : Bool) (y : C4) : FW R C (uxL R C xs p y) m := by
  unfold uxL; split
  · exact rmL_fw hw 0 1 y
  · exact hw
theorem rpL1_fw {R C : Int} {xs : List C4} {m : Nat} (hw : FW R C xs m) (r c : Int) (p : Bool) (x y : C4) : FW R C (rpL1 R C xs r c p x y) m := by
  have h := uxL_fw hw (ahU R r p) y
  refine ⟨hw.r0, hw.r1, hw.c0, hw.c1, ?_, hw.sz⟩
  unfold rpL1
  rw [List.length_set]; exact h.len
def lcRPut : ACon Unit := mkLC (decP (shCons (shP 0) (shCons shPl (shCons shC (shCons shI (shOne shC))))) (shRefF 0)) fun ((_, (r, c, p), x, w, y), ((R, C, ep), ⟨xs, m, ep2⟩)) => .ask (ep = ep2 ∧ FW R C xs m)
  (.one (.t [puPl R C r c p w, .v (.int .i64 (puN R C r c p w))]) (refF 0 R C (rpL R C xs r c p x w y) m ep) [1])
set_option maxHeartbeats 4000000 in
theorem ok_rput : ∀ I : Sym.Inv Unit, LCOk I Try.prog 47 lcRPut := by
  refine lc_mk (fun _ => allCfg Try.prog [] tabR2 0) (fun _ _ => allCfg_ok mixed trivial tabR2_ok) (fun _ => rfl) (n := 80) Try.func47 ?_
  intro ⟨⟨_, ⟨r, c, p⟩, x, w, y⟩, ⟨R, C, ep⟩, ⟨xs, m, ep2⟩⟩ hφ
  obtain ⟨⟨rfl, hw⟩, hp⟩ := id hφ
  refine kcast (B := (true = true ∧ ep = ep ∧ true = true ∧ mayB R C = true ∧ true = true ∧ ep = ep ∧ true = true ∧ mayB R C = true ∧ br p (true = true ∧ ep = ep ∧ true = true ∧ (mayB R C = true ∧ (0 : Int) ≤ nearI r R ∧ nearI r R < R) ∧ true = true ∧ ep = ep ∧ true = true ∧ (mayB R C = true ∧ (0 : Int) ≤ nearI r R ∧ nearI r R < R) ∧ br (nxR (nearI r R) R == nearI r R) (true = true ∧ (ep = ep ∧ FW R C xs m) ∧ rq (ep.beq ep && (true && decide ((0 : Int) ≤ IntKind.i64.wrap (IntKind.i64.wrap (nxR (nearI r R) R * C) + (0 : Int)) ∧ IntKind.i64.wrap (IntKind.i64.wrap (nxR (nearI r R) R * C) + (0 : Int)) < (↑m : Int)))) (rq (ep.beq ep && (IntKind.i64.wrap (IntKind.i64.wrap (nxR (nearI r R) R * C) + (0 : Int))).toNat.blt (rmL R C xs (0 : Int) (1 : Int) (C4.mk y.g y.a y.gd y.m)).length) (true = true ∧ ep = ep ∧ true = true ∧ mayB R C = true ∧ true = true ∧ ep = ep ∧ true = true ∧ mayB R C = true ∧ br (bhU R C (nxR (nearI r R) R) (0 : Int) w) (true = true ∧ (ep = ep ∧ FW R C ((rmL R C xs (0 : Int) (1 : Int) (C4.mk y.g y.a y.gd y.m)).set (IntKind.i64.wrap (IntKind.i64.wrap (nxR (nearI r R) R * C) + (0 : Int))).toNat (C4.mk x.g x.a x.gd x.m)) m) ∧ (SV.t [SV.a [SV.v (Value.int IntKind.i64 (bhR R C (nxR (nearI r R) R) (0 : Int) w)), SV.v (Value.int IntKind.i64 (bhC R C (nxR (nearI r R) R) (0 : Int) w)), SV.v (Value.bool (bhP R C (nxR (nearI r R) R) (0 : Int) w))], SV.v (Value.int IntKind.i64 (2 : Int))] = SV.t [SV.a [SV.v (Value.int IntKind.i64 (bhR R C (ahR R r p) (ahC C c p) w)), SV.v (Value.int IntKind.i64 (bhC R C (ahR R r p) (ahC C c p) w)), SV.v (Value.bool (bhP R C (ahR R r p) (ahC C c p) w))], SV.v (Value.int IntKind.i64 (puN R C r c p w))] ∧ True) ∧ (SV.v (Value.int IntKind.i64 R) = SV.v (Value.int IntKind.i64 R) ∧ SV.v (Value.int IntKind.i64 C) = SV.v (Value.int IntKind.i64 C) ∧ SV.h (1 : Nat) [ep, (0 : Nat)] = SV.h (1 : Nat) [ep, (0 : Nat)] ∧ True) ∧ (m = m ∧ ep = ep ∧ rmL R C ((rmL R C xs (0 : Int) (1 : Int) (C4.mk y.g y.a y.gd y.m)).set (IntKind.i64.wrap (IntKind.i64.wrap (nxR (nearI r R) R * C) + (0 : Int))).toNat (C4.mk x.g x.a x.gd x.m)) (0 : Int) (1 : Int) (C4.mk y.g y.a y.gd y.m) = rpL R C xs r c p x w y) ∧ True) ((SV.t [SV.a [SV.v (Value.int IntKind.i64 (bhR R C (nxR (nearI r R) R) (0 : Int) w)), SV.v (Value.int IntKind.i64 (bhC R C (nxR (nearI r R) R) (0 : Int) w)), SV.v (Value.bool (bhP R C (nxR (nearI r R) R) (0 : Int) w))], SV.v (Value.int IntKind.i64 (1 : Int))] = SV.t [SV.a [SV.v (Value.int IntKind.i64 (bhR R C (ahR R r p) (ahC C c p) w)), SV.v (Value.int IntKind.i64 (bhC R C (ahR R r p) (ahC C c p) w)), SV.v (Value.bool (bhP R C (ahR R r p) (ahC C c p) w))], SV.v (Value.int IntKind.i64 (puN R C r c p w))] ∧ True) ∧ (SV.v (Value.int IntKind.i64 R) = SV.v (Value.int IntKind.i64 R) ∧ SV.v (Value.int IntKind.i64 C) = SV.v (Value.int IntKind.i64 C) ∧ SV.h (1 : Nat) [ep, (0 : Nat)] = SV.h (1 : Nat) [ep, (0 : Nat)] ∧ True) ∧ (m = m ∧ ep = ep ∧ (rmL R C xs (0 : Int) (1 : Int) (C4.mk y.g y.a y.gd y.m)).set (IntKind.i64.wrap (IntKind.i64.wrap (nxR (nearI r R) R * C) + (0 : Int))).toNat (C4.mk x.g x.a x.gd x.m) = rpL R C xs r c p x w y) ∧ True)))) (rq (ep.beq ep && (true && decide ((0 : Int) ≤ IntKind.i64.wrap (IntKind.i64.wrap (nxR (nearI r R) R * C) + (0 : Int)) ∧ IntKind.i64.wrap (IntKind.i64.wrap (nxR (nearI r R) R * C) + (0 : Int)) < (↑m : Int)))) (rq (ep.beq ep && (IntKind.i64.wrap (IntKind.i64.wrap (nxR (nearI r R) R * C) + (0 : Int))).toNat.blt xs.length) (true = true ∧ ep = ep ∧ true = true ∧ mayB R C = true ∧ true = true ∧ ep = ep ∧ true = true ∧ mayB R C = true ∧ br (bhU R C (nxR (nearI r R) R) (0 : Int) w) (true = true ∧ (ep = ep ∧ FW R C (xs.set (IntKind.i64.wrap (IntKind.i64.wrap (nxR (nearI r R) R * C) + (0 : Int))).toNat (C4.mk x.g x.a x.gd x.m)) m) ∧ (SV.t [SV.a [SV.v (Value.int IntKind.i64 (bhR R C (nxR (nearI r R) R) (0 : Int) w)), SV.v (Value.int IntKind.i64 (bhC R C (nxR (nearI r R) R) (0 : Int) w)), SV.v (Value.bool (bhP R C (nxR (nearI r R) R) (0 : Int) w))], SV.v (Value.int IntKind.i64 (1 : Int))] = SV.t [SV.a [SV.v (Value.int IntKind.i64 (bhR R C (ahR R r p) (ahC C c p) w)), SV.v (Value.int IntKind.i64 (bhC R C (ahR R r p) (ahC C c p) w)), SV.v (Value.bool (bhP R C (ahR R r p) (ahC C c p) w))], SV.v (Value.int IntKind.i64 (puN R C r c p w))] ∧ True) ∧ (SV.v (Value.int IntKind.i64 R) = SV.v (Value.int IntKind.i64 R) ∧ SV.v (Value.int IntKind.i64 C) = SV.v (Value.int IntKind.i64 C) ∧ SV.h (1 : Nat) [ep, (0 : Nat)] = SV.h (1 : Nat) [ep, (0 : Nat)] ∧ True) ∧ (m = m ∧ ep = ep ∧ rmL R C (xs.set (IntKind.i64.wrap (IntKind.i64.wrap (nxR (nearI r R) R * C) + (0 : Int))).toNat (C4.mk x.g x.a x.gd x.m)) (0 : Int) (1 : Int) (C4.mk y.g y.a y.gd y.m) = rpL R C xs r c p x w y) ∧ True) ((SV.t [SV.a [SV.v (Value.int IntKind.i64 (bhR R C (nxR (nearI r R) R) (0 : Int) w)), SV.v (Value.int IntKind.i64 (bhC R C (nxR (nearI r R) R) (0 : Int) w)), SV.v (Value.bool (bhP R C (nxR (nearI r R) R) (0 : Int) w))], SV.v (Value.int IntKind.i64 (0 : Int))] = SV.t [SV.a [SV.v (Value.int IntKind.i64 (bhR R C (ahR R r p) (ahC C c p) w)), SV.v (Value.int IntKind.i64 (bhC R C (ahR R r p) (ahC C c p) w)), SV.v (Value.bool (bhP R C (ahR R r p) (ahC C c p) w))], SV.v (Value.int IntKind.i64 (puN R C r c p w))] ∧ True) ∧ (SV.v (Value.int IntKind.i64 R) = SV.v (Value.int IntKind.i64 R) ∧ SV.v (Value.int IntKind.i64 C) = SV.v (Value.int IntKind.i64 C) ∧ SV.h (1 : Nat) [ep, (0 : Nat)] = SV.h (1 : Nat) [ep, (0 : Nat)] ∧ True) ∧ (m = m ∧ ep = ep ∧ xs.set (IntKind.i64.wrap (IntKind.i64.wrap (nxR (nearI r R) R * C) + (0 : Int))).toNat (C4.mk x.g x.a x.gd x.m) = rpL R C xs r c p x w y) ∧ True))))) (rq (ep.beq ep && (true && decide ((0 : Int) ≤ IntKind.i64.wrap (IntKind.i64.wrap (nearI r R * C) + nearI c C) ∧ IntKind.i64.wrap (IntKind.i64.wrap (nearI r R * C) + nearI c C) < (↑m : Int)))) (rq (ep.beq ep && (IntKind.i64.wrap (IntKind.i64.wrap (nearI r R * C) + nearI c C)).toNat.blt xs.length) (true = true ∧ ep = ep ∧ true = true ∧ mayB R C = true ∧ true = true ∧ ep = ep ∧ true = true ∧ mayB R C = true ∧ br (bhU R C (nearI r R) (nearI c C) w) (true = true ∧ (ep = ep ∧ FW R C (xs.set (IntKind.i64.wrap (IntKind.i64.wrap (nearI r R * C) + nearI c C)).toNat (C4.mk x.g x.a x.gd x.m)) m) ∧ (SV.t [SV.a [SV.v (Value.int IntKind.i64 (bhR R C (nearI r R) (nearI c C) w)), SV.v (Value.int IntKind.i64 (bhC R C (nearI r R) (nearI c C) w)), SV.v (Value.bool (bhP R C (nearI r R) (nearI c C) w))], SV.v (Value.int IntKind.i64 (1 : Int))] = SV.t [SV.a [SV.v (Value.int IntKind.i64 (bhR R C (ahR R r p) (ahC C c p) w)), SV.v (Value.int IntKind.i64 (bhC R C (ahR R r p) (ahC C c p) w)), SV.v (Value.bool (bhP R C (ahR R r p) (ahC C c p) w))], SV.v (Value.int IntKind.i64 (puN R C r c p w))] ∧ True) ∧ (SV.v (Value.int IntKind.i64 R) = SV.v (Value.int IntKind.i64 R) ∧ SV.v (Value.int IntKind.i64 C) = SV.v (Value.int IntKind.i64 C) ∧ SV.h (1 : Nat) [ep, (0 : Nat)] = SV.h (1 : Nat) [ep, (0 : Nat)] ∧ True) ∧ (m = m ∧ ep = ep ∧ rmL R C (xs.set (IntKind.i64.wrap (IntKind.i64.wrap (nearI r R * C) + nearI c C)).toNat (C4.mk x.g x.a x.gd x.m)) (0 : Int) (1 : Int) (C4.mk y.g y.a y.gd y.m) = rpL R C xs r c p x w y) ∧ True) ((SV.t [SV.a [SV.v (Value.int IntKind.i64 (bhR R C (nearI r R) (nearI c C) w)), SV.v (Value.int IntKind.i64 (bhC R C (nearI r R) (nearI c C) w)), SV.v (Value.bool (bhP R C (nearI r R) (nearI c C) w))], SV.v (Value.int IntKind.i64 (0 : Int))] = SV.t [SV.a [SV.v (Value.int IntKind.i64 (bhR R C (ahR R r p) (ahC C c p) w)), SV.v (Value.int IntKind.i64 (bhC R C (ahR R r p) (ahC C c p) w)), SV.v (Value.bool (bhP R C (ahR R r p) (ahC C c p) w))], SV.v (Value.int IntKind.i64 (puN R C r c p w))] ∧ True) ∧ (SV.v (Value.int IntKind.i64 R) = SV.v (Value.int IntKind.i64 R) ∧ SV.v (Value.int IntKind.i64 C) = SV.v (Value.int IntKind.i64 C) ∧ SV.h (1 : Nat) [ep, (0 : Nat)] = SV.h (1 : Nat) [ep, (0 : Nat)] ∧ True) ∧ (m = m ∧ ep = ep ∧ xs.set (IntKind.i64.wrap (IntKind.i64.wrap (nearI r R * C) + nearI c C)).toNat (C4.mk x.g x.a x.gd x.m) = rpL R C xs r c p x w y) ∧ True)))))) (by kernel_rfl) ?_
  clear hp hφ
  have eta : ∀ y : C4, C4.mk y.g y.a y.gd y.m = y := fun _ => rfl
  have h1 := hw.r0
  have h2 := hw.r1
  have h3 := hw.c0
  have h4 := hw.c1
  have hsz := hw.sz
  have hlen := hw.len
  have hm : mayB R C = true := by rw [mayB_iff]; omega
  have hb := near_bd (x := r) h1
  have hc := near_bd (x := c) h3
  have hx := nxR_bd h1 hb.1
  have hF := rpL1_fw hw r c p x y
  have hU := (uxL_fw hw (ahU R r p) y).len
  have hI := ah_bd (a := R) (b := C) (r := r) (c := c) (p := p) h1 h3
  obtain ⟨m1, m2⟩ := mul_bd (r := ahR R r p) (C := C) (by omega) (by omega) (by omega) (by omega)
  have m3 := ix_bd (R := R) (C := C) hI.2.1 hI.2.2.2 hI.2.2.1
  simp only [eta, nbeq, Bool.true_and]
  revert hF hU hI m1 m2 m3
  unfold rpL puN rpL1
  cases p
  · simp only [ahU, ahR, ahC, Bool.false_and, Bool.false_eq_true, if_false]
    intro hF hU hI m1 m2 m3
    rw [wrap64 (x := nearI r R * C) (by omega) (by omega), wrap64 (x := nearI r R * C + nearI c C) (by omega) (by omega)]
    simp only [uxL, Bool.false_eq_true, if_false] at hF hU ⊢
    have k1 : decide (0 ≤ nearI r R * C + nearI c C ∧ nearI r R * C + nearI c C < (m : Int)) = true := decide_eq_true (by omega)
    have k2 : (nearI r R * C + nearI c C).toNat.blt xs.length = true := by rw [Nat.blt_eq]; omega
    cases hu : bhU R C (nearI r R) (nearI c C) w <;>
      simp [br_iff, rq_iff, hm, hb, hw, hF, k1, k2, hu, uxL, riN]
  · simp only [ahU, ahR, ahC, Bool.true_and, if_true]
    intro hF hU hI m1 m2 m3
    rw [wrap64 (x := nxR (nearI r R) R * C) (by omega) (by omega), wrap64 (x := nxR (nearI r R) R * C + 0) (by omega) (by omega)]
    have k1 : decide (0 ≤ nxR (nearI r R) R * C + 0 ∧ nxR (nearI r R) R * C + 0 < (m : Int)) = true := decide_eq_true (by omega)
    cases hn : nxR (nearI r R) R == nearI r R
    · rw [hn] at hF hU
      simp only [uxL, Bool.false_eq_true, if_false] at hF hU ⊢
      have k2 : (nxR (nearI r R) R * C + 0).toNat.blt xs.length = true := by rw [Nat.blt_eq]; omega
      cases hu : bhU R C (nxR (nearI r R) R) 0 w <;>
        simp only [br_iff, rq_iff, hm, hb, hw, hF, k1, k2, hu, uxL, riN, Bool.and_true, Bool.true_and, Bool.false_eq_true, Bool.true_eq_false, false_implies, true_implies, true_and, and_true, if_true, if_false, and_self, implies_true, Int.reduceAdd]
    · rw [hn] at hF hU
      simp only [uxL, if_true] at hF hU ⊢
      have k2 : (nxR (nearI r R) R * C + 0).toNat.blt (rmL R C xs 0 1 y).length = true := by rw [Nat.blt_eq]; omega
      cases hu : bhU R C (nxR (nearI r R) R) 0 w <;>
        simp only [br_iff, rq_iff, hm, hb, hw, hF, k1, k2, hu, uxL, riN, Bool.and_true, Bool.true_and, Bool.false_eq_true, Bool.true_eq_false, false_implies, true_implies, true_and, and_true, if_true, if_false, and_self, implies_true, Int.reduceAdd]
end Go.Proofs.Ytdhhagangmkloaa

/- Layer 8: what is put is what the document says, as plain laws; contracts of the pen. -/
namespace Go.Proofs.Ytdhhagangmkloaa
open Go Go.Sym

theorem fw_fl {l : List (List C4)} (hg : GW l) : FW l.length (nC l) (flL l) (l.length * nC l) := by
  have := hg.r0; have := hg.r1; have := hg.c0; have := hg.c1
  exact ⟨by omega, by omega, by omega, by omega, flL_length l, Int.natCast_mul _ _⟩
theorem set2_fl {l : List (List C4)} (hg : GW l) {r c : Int} {x : C4} (h : inB l r c = true) : flL (set2 l r c x) = (flL l).set (r * nC l + c).toNat x := by
  rw [inB_iff] at h
  obtain ⟨i, rfl⟩ : ∃ i : Nat, r = i := ⟨r.toNat, by omega⟩
  obtain ⟨k, rfl⟩ : ∃ k : Nat, c = k := ⟨c.toNat, by omega⟩
  have h0 := hg.r0
  rw [set2_eq hg h.1 h.2.1 h.2.2.1 h.2.2.2, flL_gridF (by omega), show ((i : Int) * (nC l : Int) + (k : Int)).toNat = i * nC l + k by rw [← Int.natCast_mul]; omega]
  have e : flL l = flF l.length (nC l) (fn l) := rfl
  rw [e, flF_set (by omega) (by omega)]
  exact flF_congr fun r' c' _ _ => by
    unfold setF
    by_cases h1 : r' = i ∧ c' = k
    · rw [if_pos h1, if_pos (by omega)]
    · rw [if_neg h1, if_neg (by omega)]
theorem riL_fl {l : List (List C4)} (hg : GW l) (p : Bool) (x : C4) : flL (riL l p x) = uxL l.length (nC l) (flL l) p x := by
  unfold riL uxL
  split
  · exact up_fl hg 1 x
  · rfl
theorem puL_gw {l : List (List C4)} (hg : GW l) (r c : Int) (p : Bool) (x : C4) (w : Int) (y : C4) : GW (puL l r c p x w y) ∧ (puL l r c p x w y).length = l.length ∧ nC (puL l r c p x w y) = nC l := by
  obtain ⟨_, p2, p3, p4⟩ := puL1_gw hg r c p x y
  obtain ⟨g1, g2, g3⟩ := riL_gw p2 (puU l r c p w) y
  exact ⟨g1, g2.trans p3, g3.trans p4⟩
theorem pu_fl {l : List (List C4)} (hg : GW l) (r c : Int) (p : Bool) (x : C4) (w : Int) (y : C4) : flL (puL l r c p x w y) = rpL l.length (nC l) (flL l) r c p x w y := by
  obtain ⟨p1, p2, p3, p4⟩ := puL1_gw hg r c p x y
  obtain ⟨g1, g2, g3⟩ := riL_gw hg (ahU l.length r p) y
  unfold puL
  rw [riL_fl p2, p3, p4]
  unfold rpL puU
  congr 1
  unfold puL1 rpL1
  rw [set2_fl g1 p1, riL_fl hg, g3]
/-! ### The pen -/
abbrev shPen : Sh (Int × Int × Bool × Int × ByteArray) := shA (shCons shI (shCons shI (shCons shB (shCons shI (shOne shStr)))))
abbrev penSV (r c : Int) (q : Bool) (w : Int) (s : ByteArray) : SV := .a [.v (.int .i64 r), .v (.int .i64 c), .v (.bool q), .v (.int .i64 w), .v (.string s)]
def lcCursor : ACon Unit := mkLC (decP (shOne shPen) shHNil) fun ((r, c, q, _, _), _) => .one (pl3 r c q) [] []
set_option maxHeartbeats 4000000 in
theorem ok_cursor : ∀ I : Sym.Inv Unit, LCOk I Try.prog 45 lcCursor := by
  refine lc_mk (fun _ => allCfg Try.prog [] [] 0) (fun _ _ => allCfg_ok mixed trivial trivial) (fun _ => rfl) (n := 60) Try.func45 ?_
  intro ⟨⟨r, c, q, w, s⟩, _⟩ hφ
  refine kcast (B := ((SV.a [SV.v (Value.int IntKind.i64 r), SV.v (Value.int IntKind.i64 c), SV.v (Value.bool q)] = SV.a [SV.v (Value.int IntKind.i64 r), SV.v (Value.int IntKind.i64 c), SV.v (Value.bool q)] ∧ True) ∧ True)) (by kernel_rfl) ?_
  simp
def lcLike : ACon Unit := mkLC (decP (shCons shPl (shOne shPl)) shHNil) fun (((r, c, q), (r', c', q')), _) => .ask (r = r' ∧ c = c' ∧ q = q') (.one (.v (.bool true)) [] [])
set_option maxHeartbeats 4000000 in
theorem ok_like : ∀ I : Sym.Inv Unit, LCOk I Try.prog 48 lcLike := by
  refine lc_mk (fun _ => allCfg Try.prog [] [] 0) (fun _ _ => allCfg_ok mixed trivial trivial) (fun _ => rfl) (n := 60) Try.func48 ?_
  intro ⟨⟨⟨r, c, q⟩, ⟨r', c', q'⟩⟩, _⟩ hφ
  obtain ⟨⟨rfl, rfl, rfl⟩, hp⟩ := id hφ
  refine kcast (B := (br (r == r && (c == c && true)) ((SV.v (Value.bool (q == q)) = SV.v (Value.bool true) ∧ True) ∧ True) ((SV.v (Value.bool false) = SV.v (Value.bool true) ∧ True) ∧ True))) (by kernel_rfl) ?_
  clear hp hφ
  simp [br_iff]
def fewPen (n : Nat) (C : Int) (s : ByteArray) : Bool := fewB n C && decide (s.size ≤ 60)
def ptabF : List (Nat × PS) := [(43, psAwake)]
theorem ptabF_ok : Pures Try.prog ptabF := ⟨ok_awake08, trivial⟩
def tabF3 : List (Nat × ACon Unit) := (45, lcCursor) :: (44, lcPlace) :: (48, lcLike) :: (46, lcPut) :: (47, lcRPut) :: (39, lcAtIn) :: (40, lcCopy) :: (49, lcGSame) :: (23, lcMade) :: (26, lcSame) ::
  (63, lcSize1) :: (64, lcAheadW) :: tabE
theorem tabF3_ok : LCs Try.prog tabF3 := ⟨ok_cursor, ok_place, ok_like, ok_put, ok_rput, ok_atIn, ok_copy, ok_gsame, ok_made, ok_same, ok_size1, ok_aheadW, tabE_ok⟩
end Go.Proofs.Ytdhhagangmkloaa

/- Layer 8: the first place that is not guarded. -/
namespace Go.Proofs.Ytdhhagangmkloaa
open Go Go.Sym
/-- Which place is so many on, going round. -/
def opX (N : Nat) (m by' i : Int) : Int := (m + i * by') % N
def opP (xs : List C4) (N : Nat) (m by' : Int) (i : Nat) : Bool := !(xs.getD (opX N m by' i).toNat C4.no).gd
def opS (xs : List C4) (N : Nat) (m by' : Int) : Option Nat := (List.range N).find? (opP xs N m by')
def opR (xs : List C4) (C : Nat) (N : Nat) (m by' : Int) : Int := match opS xs N m by' with
  | some i => opX N m by' i / C
  | none => 0
def opC (xs : List C4) (C : Nat) (N : Nat) (m by' : Int) : Int := match opS xs N m by' with
  | some i => opX N m by' i % C
  | none => 0
def opB (xs : List C4) (N : Nat) (m by' : Int) : Bool := (opS xs N m by').isSome
def atX (l : List (List C4)) (r c : Int) : Int := nearI r l.length * nC l + nearI c (nC l)
def lcOpen : ACon Unit := mkLC (decP (shCons (shP 0) (shCons shI2 (shOne shI))) shG) fun ((_, (r, c), b), (oe, ⟨l, oe2, ep⟩)) => .ask (oe = oe2 ∧ GW l ∧ (b = 1 ∨ b = -1))
  (.one (.t [p2 (opR (flL l) (nC l) (l.length * nC l) (atX l r c) b) (opC (flL l) (nC l) (l.length * nC l) (atX l r c) b), .v (.bool (opB (flL l) (l.length * nC l) (atX l r c) b))]) (gbi 0 oe ep l) [])
def tabF4 : List (Nat × ACon Unit) := (63, lcSize1) :: (39, lcAtIn) :: (108, lcAround) :: (93, lcIdx) :: (94, lcOf) :: tabF1
theorem tabF4_ok : LCs Try.prog tabF4 := ⟨ok_size1, ok_atIn, ok_around, ok_idx, ok_of, tabF1_ok⟩
theorem tmod_go (Y : Int) {N : Int} (h : 0 < N) : (Y.tmod N + N).tmod N = Y % N := by
  have h1 := Int.lt_tmod_of_pos Y h
  rw [Int.tmod_eq_emod_of_nonneg (by omega), Int.add_emod_right]
  have h2 := Int.mul_tdiv_add_tmod Y N
  conv => rhs; rw [← h2, Int.add_comm, Int.add_mul_emod_self_left]
theorem opX_bd {N : Nat} (h : 0 < N) (m b i : Int) : 0 ≤ opX N m b i ∧ opX N m b i < N := by
  unfold opX
  exact ⟨Int.emod_nonneg _ (by omega), Int.emod_lt_of_pos _ (by omega)⟩
theorem opS_some {xs : List C4} {N : Nat} {m b : Int} {i : Nat} (hi : i < N) (h : ∀ j < i, opP xs N m b j = false) (h1 : opP xs N m b i = true) : opS xs N m b = some i := by
  unfold opS
  rw [List.find?_range_eq_some]
  exact ⟨h1, List.mem_range.2 hi, fun j hj => by rw [h j hj]; rfl⟩
theorem opS_none {xs : List C4} {N : Nat} {m b : Int} (h : ∀ j < N, opP xs N m b j = false) : opS xs N m b = none := by
  unfold opS
  rw [List.find?_range_eq_none]
  exact fun j hj => by rw [h j hj]; rfl
theorem at2_ix {l : List (List C4)} (hg : GW l) {k : Int} (h0 : 0 ≤ k) (h1 : k < (l.length * nC l : Nat)) : inB l (k / nC l) (k % nC l) = true ∧ at2 l (k / nC l) (k % nC l) = (flL l).getD k.toNat C4.no := by
  obtain ⟨n, rfl⟩ : ∃ n : Nat, k = n := ⟨k.toNat, by omega⟩
  have hc := hg.c0
  obtain ⟨j1, j2, j3⟩ := ix_of (R := l.length) (C := nC l) (j := n) (by omega)
  have e1 : (n : Int) / (nC l : Int) = ((n / nC l : Nat) : Int) := by simp
  have e2 : (n : Int) % (nC l : Int) = ((n % nC l : Nat) : Int) := by simp
  rw [e1, e2]
  refine ⟨by rw [inB_iff]; exact ⟨Int.natCast_nonneg _, Int.ofNat_lt.2 j1, Int.natCast_nonneg _, Int.ofNat_lt.2 j2⟩, ?_⟩
  have := flL_get (l := l) j1 j2
  rw [j3] at this
  rw [Int.toNat_natCast, this]; rfl
def annAr (l : List (List C4)) (m b : Int) : Ann Unit where
  α := Int
  φ _ i := 0 ≤ i ∧ i ≤ (l.length * nC l : Nat) ∧ ∀ j < i.toNat, opP (flL l) (l.length * nC l) m b j = false
  μ _ i := (((l.length * nC l : Nat) : Int) - i).toNat
  get st := getI st.tm 25
  f st i := tmpl [0, 1, 2, 3, 5, 7, 24] [(25, .v (.int .i64 i))] ((11, loopTm st.H 11 [3, 4, 6, 7, 8, 9] []) :: gones []) st
set_option maxHeartbeats 4000000 in
theorem ok_open : ∀ I : Sym.Inv Unit, LCOk I Try.prog 91 lcOpen := by
  refine lc_mk (fun ((_, (r, c), b), (oe, ⟨l, oe2, ep⟩)) => allCfg Try.prog [] tabF4 3 [(257, annAr l (atX l r c) b)]) (fun _ _ => allCfg_ok mixed trivial tabF4_ok) (fun _ => rfl) (n := 80) Try.func91 ?_
  intro ⟨⟨_, ⟨r, c⟩, b⟩, ⟨oe, ⟨l, oe2, ep⟩⟩⟩ hφ
  obtain ⟨⟨rfl, hg, hb⟩, hp⟩ := id hφ
  refine kcast (B := (true = true ∧ (oe = oe ∧ GW l) ∧ true = true ∧ true = true ∧ mayB (↑l.length : Int) (↑(nC l) : Int) = true ∧ true = true ∧ (mayB (↑l.length : Int) (↑(nC l) : Int) = true ∧ inD (↑l.length : Int) (↑(nC l) : Int) (nearI r (↑l.length : Int)) (nearI c (↑(nC l) : Int)) = true) ∧ (II (0 : Int) ≤ (0 : Int) ∧ (0 : Int) ≤ (↑(l.length * nC l) : Int) ∧ ∀ (j : Nat), j < (0 : Nat) → opP (flL l) (l.length * nC l) (atX l r c) b j = false) ∧ ((SV.y (11 : Nat) = SV.y (11 : Nat) ∧ SV.p (7 : Nat) (0 : Nat) = SV.p (7 : Nat) (0 : Nat) ∧ SV.p (8 : Nat) (0 : Nat) = SV.p (8 : Nat) (0 : Nat) ∧ SV.p (9 : Nat) (0 : Nat) = SV.p (9 : Nat) (0 : Nat) ∧ SV.v (Value.int IntKind.i64 (nearI r (↑l.length : Int) * (↑(nC l) : Int) + nearI c (↑(nC l) : Int))) = SV.v (Value.int IntKind.i64 (nearI r (↑l.length : Int) * (↑(nC l) : Int) + nearI c (↑(nC l) : Int))) ∧ SV.v (Value.int IntKind.i64 (IntKind.i64.wrap ((↑l.length : Int) * (↑(nC l) : Int)))) = SV.v (Value.int IntKind.i64 (IntKind.i64.wrap ((↑l.length : Int) * (↑(nC l) : Int)))) ∧ SV.v (Value.int IntKind.i64 (IntKind.i64.wrap ((↑l.length : Int) * (↑(nC l) : Int)))) = SV.v (Value.int IntKind.i64 (IntKind.i64.wrap ((↑l.length : Int) * (↑(nC l) : Int)))) ∧ SV.v (Value.int IntKind.i64 (0 : Int)) = SV.v (Value.int IntKind.i64 (0 : Int)) ∧ True) ∧ (SV.h (1 : Nat) [oe, (0 : Nat)] = SV.h (1 : Nat) [oe, (0 : Nat)] ∧ True) ∧ (oe = oe ∧ ep = ep ∧ l = l) ∧ (SV.p (0 : Nat) (0 : Nat) = SV.p (0 : Nat) (0 : Nat) ∧ True) ∧ (SV.v (Value.int IntKind.i64 r) = SV.v (Value.int IntKind.i64 r) ∧ SV.v (Value.int IntKind.i64 c) = SV.v (Value.int IntKind.i64 c) ∧ True) ∧ (SV.v (Value.int IntKind.i64 (0 : Int)) = SV.v (Value.int IntKind.i64 (0 : Int)) ∧ SV.v (Value.int IntKind.i64 (0 : Int)) = SV.v (Value.int IntKind.i64 (0 : Int)) ∧ True) ∧ (SV.v (Value.int IntKind.i64 (0 : Int)) = SV.v (Value.int IntKind.i64 (0 : Int)) ∧ SV.v (Value.int IntKind.i64 (0 : Int)) = SV.v (Value.int IntKind.i64 (0 : Int)) ∧ True) ∧ (SV.v (Value.bool false) = SV.v (Value.bool false) ∧ True) ∧ (SV.v (Value.int IntKind.i64 (↑l.length : Int)) = SV.v (Value.int IntKind.i64 (↑l.length : Int)) ∧ SV.v (Value.int IntKind.i64 (↑(nC l) : Int)) = SV.v (Value.int IntKind.i64 (↑(nC l) : Int)) ∧ True) ∧ (SV.v (Value.int IntKind.i64 r) = SV.v (Value.int IntKind.i64 r) ∧ SV.v (Value.int IntKind.i64 c) = SV.v (Value.int IntKind.i64 c) ∧ True) ∧ (SV.v (Value.int IntKind.i64 b) = SV.v (Value.int IntKind.i64 b) ∧ True) ∧ Obj.deferred (some []) = Obj.deferred (some []) ∧ ((SV.p (2 : Nat) (0 : Nat) = SV.p (2 : Nat) (0 : Nat) ∧ SV.p (3 : Nat) (0 : Nat) = SV.p (3 : Nat) (0 : Nat) ∧ SV.p (4 : Nat) (0 : Nat) = SV.p (4 : Nat) (0 : Nat) ∧ SV.v (Value.bool false) = SV.v (Value.bool false) ∧ SV.p (5 : Nat) (0 : Nat) = SV.p (5 : Nat) (0 : Nat) ∧ SV.p (6 : Nat) (0 : Nat) = SV.p (6 : Nat) (0 : Nat) ∧ True) ∧ #[(19 : Nat)] = #[(19 : Nat)] ∧ codeAt Try.f91 [(1 : Nat), (0 : Nat), (1 : Nat), (1 : Nat), (0 : Nat), (1 : Nat), (0 : Nat), (0 : Nat)] = codeAt Try.f91 [(1 : Nat), (0 : Nat), (1 : Nat), (1 : Nat), (0 : Nat), (1 : Nat), (0 : Nat), (0 : Nat)] ∧ codeAt Try.f91 [(1 : Nat), (0 : Nat), (1 : Nat), (1 : Nat), (0 : Nat), (1 : Nat), (0 : Nat), (1 : Nat)] = codeAt Try.f91 [(1 : Nat), (0 : Nat), (1 : Nat), (1 : Nat), (0 : Nat), (1 : Nat), (0 : Nat), (1 : Nat)]) ∧ True) ∧ ∀ (x : Int), ((0 : Int) ≤ x ∧ x ≤ (↑(l.length * nC l) : Int) ∧ ∀ (j : Nat), j < x.toNat → opP (flL l) (l.length * nC l) (atX l r c) b j = false) → br (decide (x < IntKind.i64.wrap ((↑l.length : Int) * (↑(nC l) : Int)))) (rq (decide (IntKind.i64.wrap ((↑l.length : Int) * (↑(nC l) : Int)) ≠ (0 : Int))) (rq (decide (IntKind.i64.wrap ((↑l.length : Int) * (↑(nC l) : Int)) ≠ (0 : Int))) (true = true ∧ (mayB (↑l.length : Int) (↑(nC l) : Int) = true ∧ (0 : Int) ≤ (IntKind.i64.wrap ((IntKind.i64.wrap (nearI r (↑l.length : Int) * (↑(nC l) : Int) + nearI c (↑(nC l) : Int) + IntKind.i64.wrap (x * b))).tmod (IntKind.i64.wrap ((↑l.length : Int) * (↑(nC l) : Int))) + IntKind.i64.wrap ((↑l.length : Int) * (↑(nC l) : Int)))).tmod (IntKind.i64.wrap ((↑l.length : Int) * (↑(nC l) : Int))) ∧ (IntKind.i64.wrap ((IntKind.i64.wrap (nearI r (↑l.length : Int) * (↑(nC l) : Int) + nearI c (↑(nC l) : Int) + IntKind.i64.wrap (x * b))).tmod (IntKind.i64.wrap ((↑l.length : Int) * (↑(nC l) : Int))) + IntKind.i64.wrap ((↑l.length : Int) * (↑(nC l) : Int)))).tmod (IntKind.i64.wrap ((↑l.length : Int) * (↑(nC l) : Int))) < (↑l.length : Int) * (↑(nC l) : Int)) ∧ rq (decide (IntKind.i64.wrap ((↑l.length : Int) * (↑(nC l) : Int)) ≠ (0 : Int))) (rq (decide (IntKind.i64.wrap ((↑l.length : Int) * (↑(nC l) : Int)) ≠ (0 : Int))) (true = true ∧ (mayB (↑l.length : Int) (↑(nC l) : Int) = true ∧ (0 : Int) ≤ (IntKind.i64.wrap ((IntKind.i64.wrap (nearI r (↑l.length : Int) * (↑(nC l) : Int) + nearI c (↑(nC l) : Int) + IntKind.i64.wrap (x * b))).tmod (IntKind.i64.wrap ((↑l.length : Int) * (↑(nC l) : Int))) + IntKind.i64.wrap ((↑l.length : Int) * (↑(nC l) : Int)))).tmod (IntKind.i64.wrap ((↑l.length : Int) * (↑(nC l) : Int))) ∧ (IntKind.i64.wrap ((IntKind.i64.wrap (nearI r (↑l.length : Int) * (↑(nC l) : Int) + nearI c (↑(nC l) : Int) + IntKind.i64.wrap (x * b))).tmod (IntKind.i64.wrap ((↑l.length : Int) * (↑(nC l) : Int))) + IntKind.i64.wrap ((↑l.length : Int) * (↑(nC l) : Int)))).tmod (IntKind.i64.wrap ((↑l.length : Int) * (↑(nC l) : Int))) < (↑l.length : Int) * (↑(nC l) : Int)) ∧ true = true ∧ (oe = oe ∧ GW l ∧ inB l ((IntKind.i64.wrap ((IntKind.i64.wrap (nearI r (↑l.length : Int) * (↑(nC l) : Int) + nearI c (↑(nC l) : Int) + IntKind.i64.wrap (x * b))).tmod (IntKind.i64.wrap ((↑l.length : Int) * (↑(nC l) : Int))) + IntKind.i64.wrap ((↑l.length : Int) * (↑(nC l) : Int)))).tmod (IntKind.i64.wrap ((↑l.length : Int) * (↑(nC l) : Int))) / (↑(nC l) : Int)) ((IntKind.i64.wrap ((IntKind.i64.wrap (nearI r (↑l.length : Int) * (↑(nC l) : Int) + nearI c (↑(nC l) : Int) + IntKind.i64.wrap (x * b))).tmod (IntKind.i64.wrap ((↑l.length : Int) * (↑(nC l) : Int))) + IntKind.i64.wrap ((↑l.length : Int) * (↑(nC l) : Int)))).tmod (IntKind.i64.wrap ((↑l.length : Int) * (↑(nC l) : Int))) % (↑(nC l) : Int)) = true) ∧ br (at2 l ((IntKind.i64.wrap ((IntKind.i64.wrap (nearI r (↑l.length : Int) * (↑(nC l) : Int) + nearI c (↑(nC l) : Int) + IntKind.i64.wrap (x * b))).tmod (IntKind.i64.wrap ((↑l.length : Int) * (↑(nC l) : Int))) + IntKind.i64.wrap ((↑l.length : Int) * (↑(nC l) : Int)))).tmod (IntKind.i64.wrap ((↑l.length : Int) * (↑(nC l) : Int))) / (↑(nC l) : Int)) ((IntKind.i64.wrap ((IntKind.i64.wrap (nearI r (↑l.length : Int) * (↑(nC l) : Int) + nearI c (↑(nC l) : Int) + IntKind.i64.wrap (x * b))).tmod (IntKind.i64.wrap ((↑l.length : Int) * (↑(nC l) : Int))) + IntKind.i64.wrap ((↑l.length : Int) * (↑(nC l) : Int)))).tmod (IntKind.i64.wrap ((↑l.length : Int) * (↑(nC l) : Int))) % (↑(nC l) : Int))).gd (((0 : Int) ≤ IntKind.i64.wrap (x + (1 : Int)) ∧ IntKind.i64.wrap (x + (1 : Int)) ≤ (↑(l.length * nC l) : Int) ∧ ∀ (j : Nat), j < (IntKind.i64.wrap (x + (1 : Int))).toNat → opP (flL l) (l.length * nC l) (atX l r c) b j = false) ∧ ((SV.y (11 : Nat) = SV.y (11 : Nat) ∧ SV.p (7 : Nat) (0 : Nat) = SV.p (7 : Nat) (0 : Nat) ∧ SV.p (8 : Nat) (0 : Nat) = SV.p (8 : Nat) (0 : Nat) ∧ SV.p (9 : Nat) (0 : Nat) = SV.p (9 : Nat) (0 : Nat) ∧ SV.v (Value.int IntKind.i64 (nearI r (↑l.length : Int) * (↑(nC l) : Int) + nearI c (↑(nC l) : Int))) = SV.v (Value.int IntKind.i64 (nearI r (↑l.length : Int) * (↑(nC l) : Int) + nearI c (↑(nC l) : Int))) ∧ SV.v (Value.int IntKind.i64 (IntKind.i64.wrap ((↑l.length : Int) * (↑(nC l) : Int)))) = SV.v (Value.int IntKind.i64 (IntKind.i64.wrap ((↑l.length : Int) * (↑(nC l) : Int)))) ∧ SV.v (Value.int IntKind.i64 (IntKind.i64.wrap ((↑l.length : Int) * (↑(nC l) : Int)))) = SV.v (Value.int IntKind.i64 (IntKind.i64.wrap ((↑l.length : Int) * (↑(nC l) : Int)))) ∧ SV.v (Value.int IntKind.i64 (IntKind.i64.wrap (x + (1 : Int)))) = SV.v (Value.int IntKind.i64 (IntKind.i64.wrap (x + (1 : Int)))) ∧ True) ∧ (SV.h (1 : Nat) [oe, (0 : Nat)] = SV.h (1 : Nat) [oe, (0 : Nat)] ∧ True) ∧ (oe = oe ∧ ep = ep ∧ l = l) ∧ (SV.p (0 : Nat) (0 : Nat) = SV.p (0 : Nat) (0 : Nat) ∧ True) ∧ (SV.v (Value.int IntKind.i64 r) = SV.v (Value.int IntKind.i64 r) ∧ SV.v (Value.int IntKind.i64 c) = SV.v (Value.int IntKind.i64 c) ∧ True) ∧ (SV.v (Value.int IntKind.i64 (0 : Int)) = SV.v (Value.int IntKind.i64 (0 : Int)) ∧ SV.v (Value.int IntKind.i64 (0 : Int)) = SV.v (Value.int IntKind.i64 (0 : Int)) ∧ True) ∧ (SV.v (Value.int IntKind.i64 (0 : Int)) = SV.v (Value.int IntKind.i64 (0 : Int)) ∧ SV.v (Value.int IntKind.i64 (0 : Int)) = SV.v (Value.int IntKind.i64 (0 : Int)) ∧ True) ∧ (SV.v (Value.bool false) = SV.v (Value.bool false) ∧ True) ∧ (SV.v (Value.int IntKind.i64 (↑l.length : Int)) = SV.v (Value.int IntKind.i64 (↑l.length : Int)) ∧ SV.v (Value.int IntKind.i64 (↑(nC l) : Int)) = SV.v (Value.int IntKind.i64 (↑(nC l) : Int)) ∧ True) ∧ (SV.v (Value.int IntKind.i64 r) = SV.v (Value.int IntKind.i64 r) ∧ SV.v (Value.int IntKind.i64 c) = SV.v (Value.int IntKind.i64 c) ∧ True) ∧ (SV.v (Value.int IntKind.i64 b) = SV.v (Value.int IntKind.i64 b) ∧ True) ∧ Obj.deferred (some []) = Obj.deferred (some []) ∧ ((SV.p (2 : Nat) (0 : Nat) = SV.p (2 : Nat) (0 : Nat) ∧ SV.p (3 : Nat) (0 : Nat) = SV.p (3 : Nat) (0 : Nat) ∧ SV.p (4 : Nat) (0 : Nat) = SV.p (4 : Nat) (0 : Nat) ∧ SV.v (Value.bool false) = SV.v (Value.bool false) ∧ SV.p (5 : Nat) (0 : Nat) = SV.p (5 : Nat) (0 : Nat) ∧ SV.p (6 : Nat) (0 : Nat) = SV.p (6 : Nat) (0 : Nat) ∧ True) ∧ #[(19 : Nat)] = #[(19 : Nat)] ∧ codeAt Try.f91 [(1 : Nat), (0 : Nat), (1 : Nat), (1 : Nat), (0 : Nat), (1 : Nat), (0 : Nat), (0 : Nat)] = codeAt Try.f91 [(1 : Nat), (0 : Nat), (1 : Nat), (1 : Nat), (0 : Nat), (1 : Nat), (0 : Nat), (0 : Nat)] ∧ codeAt Try.f91 [(1 : Nat), (0 : Nat), (1 : Nat), (1 : Nat), (0 : Nat), (1 : Nat), (0 : Nat), (1 : Nat)] = codeAt Try.f91 [(1 : Nat), (0 : Nat), (1 : Nat), (1 : Nat), (0 : Nat), (1 : Nat), (0 : Nat), (1 : Nat)]) ∧ True) ∧ ((↑(l.length * nC l) : Int) - IntKind.i64.wrap (x + (1 : Int))).toNat < ((↑(l.length * nC l) : Int) - x).toNat) ((SV.t [SV.a [SV.v (Value.int IntKind.i64 ((IntKind.i64.wrap ((IntKind.i64.wrap (nearI r (↑l.length : Int) * (↑(nC l) : Int) + nearI c (↑(nC l) : Int) + IntKind.i64.wrap (x * b))).tmod (IntKind.i64.wrap ((↑l.length : Int) * (↑(nC l) : Int))) + IntKind.i64.wrap ((↑l.length : Int) * (↑(nC l) : Int)))).tmod (IntKind.i64.wrap ((↑l.length : Int) * (↑(nC l) : Int))) / (↑(nC l) : Int))), SV.v (Value.int IntKind.i64 ((IntKind.i64.wrap ((IntKind.i64.wrap (nearI r (↑l.length : Int) * (↑(nC l) : Int) + nearI c (↑(nC l) : Int) + IntKind.i64.wrap (x * b))).tmod (IntKind.i64.wrap ((↑l.length : Int) * (↑(nC l) : Int))) + IntKind.i64.wrap ((↑l.length : Int) * (↑(nC l) : Int)))).tmod (IntKind.i64.wrap ((↑l.length : Int) * (↑(nC l) : Int))) % (↑(nC l) : Int)))], SV.v (Value.bool true)] = SV.t [SV.a [SV.v (Value.int IntKind.i64 (opR (flL l) (nC l) (l.length * nC l) (atX l r c) b)), SV.v (Value.int IntKind.i64 (opC (flL l) (nC l) (l.length * nC l) (atX l r c) b))], SV.v (Value.bool (opB (flL l) (l.length * nC l) (atX l r c) b))] ∧ True) ∧ (SV.h (1 : Nat) [oe, (0 : Nat)] = SV.h (1 : Nat) [oe, (0 : Nat)] ∧ True) ∧ (oe = oe ∧ ep = ep ∧ l = l) ∧ True)))))) ((SV.t [SV.a [SV.v (Value.int IntKind.i64 (0 : Int)), SV.v (Value.int IntKind.i64 (0 : Int))], SV.v (Value.bool false)] = SV.t [SV.a [SV.v (Value.int IntKind.i64 (opR (flL l) (nC l) (l.length * nC l) (atX l r c) b)), SV.v (Value.int IntKind.i64 (opC (flL l) (nC l) (l.length * nC l) (atX l r c) b))], SV.v (Value.bool (opB (flL l) (l.length * nC l) (atX l r c) b))] ∧ True) ∧ (SV.h (1 : Nat) [oe, (0 : Nat)] = SV.h (1 : Nat) [oe, (0 : Nat)] ∧ True) ∧ (oe = oe ∧ ep = ep ∧ l = l) ∧ True))) (by kernel_rfl) ?_
  clear hp hφ
  have eta : ∀ y : C4, C4.mk y.g y.a y.gd y.m = y := fun _ => rfl
  have r0 := hg.r0
  have r1 := hg.r1
  have c0 := hg.c0
  have c1 := hg.c1
  have hm : mayB l.length (nC l) = true := by rw [mayB_iff]; omega
  obtain ⟨q1, q2⟩ := near_bd (x := r) (n := l.length) (by omega)
  obtain ⟨q3, q4⟩ := near_bd (x := c) (n := nC l) (by omega)
  have hin : inD l.length (nC l) (nearI r l.length) (nearI c (nC l)) = true := by rw [inD_iff]; omega
  have hix := ix_bd (R := (l.length : Int)) (C := nC l) q2 q4 q3
  obtain ⟨m1, m2⟩ := mul_bd (r := nearI r l.length) (C := nC l) (by omega) (by omega) (by omega) (by omega)
  obtain ⟨m3, m4⟩ := mul_bd (r := l.length) (C := nC l) (by omega) (by omega) (by omega) (by omega)
  have hN : (l.length : Int) * (nC l : Int) = ((l.length * nC l : Nat) : Int) := (Int.natCast_mul _ _).symm
  have hA : atX l r c = nearI r l.length * nC l + nearI c (nC l) := rfl
  rw [← hA] at hix ⊢
  rw [hN] at hix m3 m4 ⊢
  have hNp : 0 < l.length * nC l := by omega
  rw [wrap64 (x := ((l.length * nC l : Nat) : Int)) (by omega) (by omega)]
  simp only [eta, II, ge_iff_le, br_iff, rq_iff, nbeq, hm, hin, hg, true_and, and_true, true_implies, false_implies, implies_true, Bool.true_eq_false, Bool.false_eq_true, Bool.true_and, Bool.and_true, Bool.and_eq_true, Bool.not_eq_true', Bool.not_eq_false', Nat.ble_eq, Nat.blt_eq, decide_eq_true_eq, decide_eq_false_iff_not, bne_iff_ne, bne_eq_false_iff_eq, beq_iff_eq, beq_eq_false_iff_ne, ne_eq, reduceCtorEq, SV.v.injEq, Value.bool.injEq]
  refine ⟨⟨by omega, by omega, fun j hj => absurd hj (Nat.not_lt_zero j)⟩, fun x ⟨x0, x1, x2⟩ => ⟨fun x3 => ?_, fun x3 => ?_⟩⟩
  · have hY : -65025 ≤ x * b ∧ x * b ≤ 65025 := by rcases hb with rfl | rfl <;> omega
    have hX : (IntKind.i64.wrap ((IntKind.i64.wrap (atX l r c + IntKind.i64.wrap (x * b))).tmod ↑(l.length * nC l) + ↑(l.length * nC l))).tmod ↑(l.length * nC l) = opX (l.length * nC l) (atX l r c) b x := by
      have g1 := Int.lt_tmod_of_pos (atX l r c + x * b) (show (0 : Int) < ↑(l.length * nC l) by omega)
      have g2 := Int.tmod_lt_of_pos (atX l r c + x * b) (show (0 : Int) < ↑(l.length * nC l) by omega)
      rw [wrap64 (x := x * b) (by omega) (by omega), wrap64 (x := atX l r c + x * b) (by omega) (by omega), wrap64 (x := (atX l r c + x * b).tmod ↑(l.length * nC l) + ↑(l.length * nC l)) (by omega) (by omega)]
      exact tmod_go _ (by omega)
    have hbd := opX_bd hNp (atX l r c) b x
    obtain ⟨a1, a2⟩ := at2_ix hg hbd.1 hbd.2
    have e1 : ((x.toNat : Nat) : Int) = x := by omega
    have hP : opP (flL l) (l.length * nC l) (atX l r c) b x.toNat = !((flL l).getD (opX (l.length * nC l) (atX l r c) b x).toNat C4.no).gd := by rw [opP, e1]
    rw [hX, a1, a2, wrap64 (x := x + 1) (by omega) (by omega)]
    refine ⟨by omega, by omega, hbd, by omega, by omega, hbd, rfl, fun h => ⟨⟨by omega, by omega, fun j hj => ?_⟩, by omega⟩, fun h => ?_⟩
    · by_cases hj2 : j < x.toNat
      · exact x2 j hj2
      · rw [show j = x.toNat by omega, hP, h]; rfl
    · have hS := opS_some (by omega) x2 (hP.trans (by rw [h]; rfl))
      rw [opR, opC, opB, hS]
      simp only [e1, Option.isSome]
  · have hS := opS_none (xs := flL l) (m := atX l r c) (b := b) (N := l.length * nC l) (fun j hj => x2 j (by omega))
    rw [opR, opC, opB, hS]
    simp only [Option.isSome]
def lcFree : ACon Unit := mkLC (decP (shCons (shP 0) (shOne shI2)) shG) fun ((_, (r, c)), (oe, ⟨l, oe2, ep⟩)) => .ask (oe = oe2 ∧ GW l)
  (.one (.t [p2 (opR (flL l) (nC l) (l.length * nC l) (atX l r c) 1) (opC (flL l) (nC l) (l.length * nC l) (atX l r c) 1), .v (.bool (opB (flL l) (l.length * nC l) (atX l r c) 1))]) (gbi 0 oe ep l) [])
set_option maxHeartbeats 4000000 in
theorem ok_free : ∀ I : Sym.Inv Unit, LCOk I Try.prog 58 lcFree := by
  refine lc_mk (fun _ => allCfg Try.prog [] [(91, lcOpen)] 3) (fun _ _ => allCfg_ok mixed trivial ⟨ok_open, trivial⟩) (fun _ => rfl) (n := 80) Try.func58 ?_
  intro ⟨⟨_, ⟨r, c⟩⟩, ⟨oe, ⟨l, oe2, ep⟩⟩⟩ hφ
  obtain ⟨⟨rfl, hg⟩, hp⟩ := id hφ
  refine kcast (B := (true = true ∧ (oe = oe ∧ GW l ∧ ((1 : Int) = (1 : Int) ∨ (1 : Int) = (-1 : Int))) ∧ (SV.t [SV.a [SV.v (Value.int IntKind.i64 (opR (flL l) (nC l) (l.length * nC l) (atX l r c) (1 : Int))), SV.v (Value.int IntKind.i64 (opC (flL l) (nC l) (l.length * nC l) (atX l r c) (1 : Int)))], SV.v (Value.bool (opB (flL l) (l.length * nC l) (atX l r c) (1 : Int)))] = SV.t [SV.a [SV.v (Value.int IntKind.i64 (opR (flL l) (nC l) (l.length * nC l) (atX l r c) (1 : Int))), SV.v (Value.int IntKind.i64 (opC (flL l) (nC l) (l.length * nC l) (atX l r c) (1 : Int)))], SV.v (Value.bool (opB (flL l) (l.length * nC l) (atX l r c) (1 : Int)))] ∧ True) ∧ (SV.h (1 : Nat) [oe, (0 : Nat)] = SV.h (1 : Nat) [oe, (0 : Nat)] ∧ True) ∧ (oe = oe ∧ ep = ep ∧ l = l) ∧ True)) (by kernel_rfl) ?_
  clear hp hφ
  simp [hg]
def lcLast : ACon Unit := mkLC (decP (shCons (shP 0) (shOne shI2)) shG) fun ((_, (r, c)), (oe, ⟨l, oe2, ep⟩)) => .ask (oe = oe2 ∧ GW l)
  (.one (.t [p2 (opR (flL l) (nC l) (l.length * nC l) (atX l r c) (-1)) (opC (flL l) (nC l) (l.length * nC l) (atX l r c) (-1)), .v (.bool (opB (flL l) (l.length * nC l) (atX l r c) (-1)))]) (gbi 0 oe ep l) [])
set_option maxHeartbeats 4000000 in
theorem ok_last : ∀ I : Sym.Inv Unit, LCOk I Try.prog 60 lcLast := by
  refine lc_mk (fun _ => allCfg Try.prog [] [(91, lcOpen)] 3) (fun _ _ => allCfg_ok mixed trivial ⟨ok_open, trivial⟩) (fun _ => rfl) (n := 80) Try.func60 ?_
  intro ⟨⟨_, ⟨r, c⟩⟩, ⟨oe, ⟨l, oe2, ep⟩⟩⟩ hφ
  obtain ⟨⟨rfl, hg⟩, hp⟩ := id hφ
  refine kcast (B := (true = true ∧ (oe = oe ∧ GW l ∧ ((-1 : Int) = (1 : Int) ∨ (-1 : Int) = (-1 : Int))) ∧ (SV.t [SV.a [SV.v (Value.int IntKind.i64 (opR (flL l) (nC l) (l.length * nC l) (atX l r c) (-1 : Int))), SV.v (Value.int IntKind.i64 (opC (flL l) (nC l) (l.length * nC l) (atX l r c) (-1 : Int)))], SV.v (Value.bool (opB (flL l) (l.length * nC l) (atX l r c) (-1 : Int)))] = SV.t [SV.a [SV.v (Value.int IntKind.i64 (opR (flL l) (nC l) (l.length * nC l) (atX l r c) (-1 : Int))), SV.v (Value.int IntKind.i64 (opC (flL l) (nC l) (l.length * nC l) (atX l r c) (-1 : Int)))], SV.v (Value.bool (opB (flL l) (l.length * nC l) (atX l r c) (-1 : Int)))] ∧ True) ∧ (SV.h (1 : Nat) [oe, (0 : Nat)] = SV.h (1 : Nat) [oe, (0 : Nat)] ∧ True) ∧ (oe = oe ∧ ep = ep ∧ l = l) ∧ True)) (by kernel_rfl) ?_
  clear hp hφ
  simp [hg]
end Go.Proofs.Ytdhhagangmkloaa

/- Layer 8: a cell is put to the first place that is not guarded; the document's answer. -/
namespace Go.Proofs.Ytdhhagangmkloaa
open Go Go.Sym
def fuX (xs : List C4) (N : Nat) (m : Int) : Int := match opS xs N m 1 with
  | some i => opX N m 1 i
  | none => 0
theorem opR_fu (xs : List C4) (C N : Nat) (m : Int) : opR xs C N m 1 = fuX xs N m / C := by
  unfold opR fuX
  cases opS xs N m 1 with
  | none => exact (Int.zero_ediv _).symm
  | some i => rfl
theorem opC_fu (xs : List C4) (C N : Nat) (m : Int) : opC xs C N m 1 = fuX xs N m % C := by
  unfold opC fuX
  cases opS xs N m 1 with
  | none => exact (Int.zero_emod _).symm
  | some i => rfl
theorem fuX_bd {N : Nat} (h : 0 < N) (xs : List C4) (m : Int) : 0 ≤ fuX xs N m ∧ fuX xs N m < N := by
  unfold fuX; split
  · exact opX_bd h _ _ _
  · omega
def guX (xs : List C4) (N : Nat) (m : Int) (x : C4) : List C4 := if opB xs N m 1 = true then xs.set (fuX xs N m).toNat x else xs
def guK (xs : List C4) (N : Nat) (m : Int) : Int := (fuX xs N m + 1) % N
def guR (xs : List C4) (C N : Nat) (m : Int) (x : C4) (nr : Int) : Int := if opB xs N m 1 = true then if opB (guX xs N m x) N (guK xs N m) 1 = true then opR (guX xs N m x) C N (guK xs N m) 1 else nr else 0
def guC (xs : List C4) (C N : Nat) (m : Int) (x : C4) (nc : Int) : Int := if opB xs N m 1 = true then if opB (guX xs N m x) N (guK xs N m) 1 = true then opC (guX xs N m x) C N (guK xs N m) 1 else nc else 0
def guE (xs : List C4) (N : Nat) (m : Int) : Int := if opB xs N m 1 = true then 0 else 15
abbrev nN (l : List (List C4)) : Nat := l.length * nC l
def guL (l : List (List C4)) (r c : Int) (x : C4) : List (List C4) := if opB (flL l) (nN l) (atX l r c) 1 = true then set2 l (opR (flL l) (nC l) (nN l) (atX l r c) 1) (opC (flL l) (nC l) (nN l) (atX l r c) 1) x else l
section
variable {l : List (List C4)}
theorem nN_bd (hg : GW l) : 0 < nN l ∧ nN l ≤ 65025 := ⟨Nat.mul_pos (by have := hg.r0; omega) (by have := hg.c0; omega), Nat.mul_le_mul hg.r1 hg.c1⟩
theorem fu_in (hg : GW l) (m : Int) : inB l (opR (flL l) (nC l) (nN l) m 1) (opC (flL l) (nC l) (nN l) m 1) = true ∧ opR (flL l) (nC l) (nN l) m 1 * nC l + opC (flL l) (nC l) (nN l) m 1 = fuX (flL l) (nN l) m := by
  rw [opR_fu, opC_fu]
  have h := fuX_bd (nN_bd hg).1 (flL l) m
  exact ⟨(at2_ix hg h.1 h.2).1, Int.ediv_mul_add_emod _ _⟩
theorem set2_gw (hg : GW l) {r c : Int} {x : C4} (h : inB l r c = true) : GW (set2 l r c x) ∧ (set2 l r c x).length = l.length ∧ nC (set2 l r c x) = nC l := by
  rw [inB_iff] at h
  have h0 := hg.r0
  rw [set2_eq hg h.1 h.2.1 h.2.2.1 h.2.2.2]
  exact ⟨gridF_gw hg.r0 hg.r1 hg.c0 hg.c1, gridF_length _ _ _, gridF_nC (by omega)⟩
theorem atX_ix (hg : GW l) {l' : List (List C4)} (h2 : l'.length = l.length) (h3 : nC l' = nC l) {k : Int} (h0 : 0 ≤ k) (h1 : k < nN l) : atX l' (k / nC l) (k % nC l) = k := by
  have hki := inB_iff.1 (at2_ix hg h0 h1).1
  unfold atX
  rw [h2, h3, near_in hki.1 hki.2.1, near_in hki.2.2.1 hki.2.2.2, Int.ediv_mul_add_emod]
theorem guL_gw (hg : GW l) (r c : Int) (x : C4) : GW (guL l r c x) ∧ (guL l r c x).length = l.length ∧ nC (guL l r c x) = nC l := by
  unfold guL; split
  · exact set2_gw hg (fu_in hg _).1
  · exact ⟨hg, rfl, rfl⟩
theorem gu_fl (hg : GW l) (r c : Int) (x : C4) : flL (guL l r c x) = guX (flL l) (nN l) (atX l r c) x := by
  unfold guL guX; split
  · rw [set2_fl hg (fu_in hg _).1, (fu_in hg _).2]
  · rfl
end
def lcGuard : ACon Unit := mkLC (decP (shCons (shP 0) (shCons shPl (shOne shC))) shG) fun ((_, (r, c, p), x), (oe, ⟨l, oe2, ep⟩)) => .ask (oe = oe2 ∧ GW l)
  (.one (.t [pl3 (guR (flL l) (nC l) (nN l) (atX l r c) x (nearI r l.length)) (guC (flL l) (nC l) (nN l) (atX l r c) x (nearI c (nC l))) false, .v (.int .i64 (guE (flL l) (nN l) (atX l r c)))]) (gbi 0 oe ep (guL l r c x)) [1])
def tabF5 : List (Nat × ACon Unit) := (58, lcFree) :: (60, lcLast) :: (93, lcIdx) :: (94, lcOf) :: tabF2
theorem tabF5_ok : LCs Try.prog tabF5 := ⟨ok_free, ok_last, ok_idx, ok_of, tabF2_ok⟩
set_option maxHeartbeats 4000000 in
theorem ok_guard : ∀ I : Sym.Inv Unit, LCOk I Try.prog 61 lcGuard := by
  refine lc_mk (fun _ => allCfg Try.prog [] tabF5 0) (fun _ _ => allCfg_ok mixed trivial tabF5_ok) (fun _ => rfl) (n := 80) Try.func61 ?_
  intro ⟨⟨_, ⟨r, c, p⟩, x⟩, ⟨oe, ⟨l, oe2, ep⟩⟩⟩ hφ
  obtain ⟨⟨rfl, hg⟩, hp⟩ := id hφ
  refine kcast (B := (true = true ∧ (oe = oe ∧ GW l) ∧ br (!opB (flL l) (l.length * nC l) (atX l r c) (1 : Int)) ((SV.t [SV.a [SV.v (Value.int IntKind.i64 (0 : Int)), SV.v (Value.int IntKind.i64 (0 : Int)), SV.v (Value.bool false)], SV.v (Value.int IntKind.i64 (15 : Int))] = SV.t [SV.a [SV.v (Value.int IntKind.i64 (guR (flL l) (nC l) (nN l) (atX l r c) x (nearI r (↑l.length : Int)))), SV.v (Value.int IntKind.i64 (guC (flL l) (nC l) (nN l) (atX l r c) x (nearI c (↑(nC l) : Int)))), SV.v (Value.bool false)], SV.v (Value.int IntKind.i64 (guE (flL l) (nN l) (atX l r c)))] ∧ True) ∧ (SV.h (1 : Nat) [oe, (0 : Nat)] = SV.h (1 : Nat) [oe, (0 : Nat)] ∧ True) ∧ (oe = oe ∧ ep = ep ∧ l = guL l r c x) ∧ True) (true = true ∧ (oe = oe ∧ GW l ∧ inB l (opR (flL l) (nC l) (l.length * nC l) (atX l r c) (1 : Int)) (opC (flL l) (nC l) (l.length * nC l) (atX l r c) (1 : Int)) = true) ∧ true = true ∧ (oe = oe ∧ GW (set2 l (opR (flL l) (nC l) (l.length * nC l) (atX l r c) (1 : Int)) (opC (flL l) (nC l) (l.length * nC l) (atX l r c) (1 : Int)) (C4.mk x.g x.a x.gd x.m))) ∧ true = true ∧ (mayB (↑(set2 l (opR (flL l) (nC l) (l.length * nC l) (atX l r c) (1 : Int)) (opC (flL l) (nC l) (l.length * nC l) (atX l r c) (1 : Int)) (C4.mk x.g x.a x.gd x.m)).length : Int) (↑(nC (set2 l (opR (flL l) (nC l) (l.length * nC l) (atX l r c) (1 : Int)) (opC (flL l) (nC l) (l.length * nC l) (atX l r c) (1 : Int)) (C4.mk x.g x.a x.gd x.m))) : Int) = true ∧ inD (↑(set2 l (opR (flL l) (nC l) (l.length * nC l) (atX l r c) (1 : Int)) (opC (flL l) (nC l) (l.length * nC l) (atX l r c) (1 : Int)) (C4.mk x.g x.a x.gd x.m)).length : Int) (↑(nC (set2 l (opR (flL l) (nC l) (l.length * nC l) (atX l r c) (1 : Int)) (opC (flL l) (nC l) (l.length * nC l) (atX l r c) (1 : Int)) (C4.mk x.g x.a x.gd x.m))) : Int) (opR (flL l) (nC l) (l.length * nC l) (atX l r c) (1 : Int)) (opC (flL l) (nC l) (l.length * nC l) (atX l r c) (1 : Int)) = true) ∧ rq (decide (IntKind.i64.wrap ((↑(set2 l (opR (flL l) (nC l) (l.length * nC l) (atX l r c) (1 : Int)) (opC (flL l) (nC l) (l.length * nC l) (atX l r c) (1 : Int)) (C4.mk x.g x.a x.gd x.m)).length : Int) * (↑(nC (set2 l (opR (flL l) (nC l) (l.length * nC l) (atX l r c) (1 : Int)) (opC (flL l) (nC l) (l.length * nC l) (atX l r c) (1 : Int)) (C4.mk x.g x.a x.gd x.m))) : Int)) ≠ (0 : Int))) (true = true ∧ (mayB (↑(set2 l (opR (flL l) (nC l) (l.length * nC l) (atX l r c) (1 : Int)) (opC (flL l) (nC l) (l.length * nC l) (atX l r c) (1 : Int)) (C4.mk x.g x.a x.gd x.m)).length : Int) (↑(nC (set2 l (opR (flL l) (nC l) (l.length * nC l) (atX l r c) (1 : Int)) (opC (flL l) (nC l) (l.length * nC l) (atX l r c) (1 : Int)) (C4.mk x.g x.a x.gd x.m))) : Int) = true ∧ (0 : Int) ≤ (IntKind.i64.wrap (opR (flL l) (nC l) (l.length * nC l) (atX l r c) (1 : Int) * (↑(nC (set2 l (opR (flL l) (nC l) (l.length * nC l) (atX l r c) (1 : Int)) (opC (flL l) (nC l) (l.length * nC l) (atX l r c) (1 : Int)) (C4.mk x.g x.a x.gd x.m))) : Int) + opC (flL l) (nC l) (l.length * nC l) (atX l r c) (1 : Int) + (1 : Int))).tmod (IntKind.i64.wrap ((↑(set2 l (opR (flL l) (nC l) (l.length * nC l) (atX l r c) (1 : Int)) (opC (flL l) (nC l) (l.length * nC l) (atX l r c) (1 : Int)) (C4.mk x.g x.a x.gd x.m)).length : Int) * (↑(nC (set2 l (opR (flL l) (nC l) (l.length * nC l) (atX l r c) (1 : Int)) (opC (flL l) (nC l) (l.length * nC l) (atX l r c) (1 : Int)) (C4.mk x.g x.a x.gd x.m))) : Int))) ∧ (IntKind.i64.wrap (opR (flL l) (nC l) (l.length * nC l) (atX l r c) (1 : Int) * (↑(nC (set2 l (opR (flL l) (nC l) (l.length * nC l) (atX l r c) (1 : Int)) (opC (flL l) (nC l) (l.length * nC l) (atX l r c) (1 : Int)) (C4.mk x.g x.a x.gd x.m))) : Int) + opC (flL l) (nC l) (l.length * nC l) (atX l r c) (1 : Int) + (1 : Int))).tmod (IntKind.i64.wrap ((↑(set2 l (opR (flL l) (nC l) (l.length * nC l) (atX l r c) (1 : Int)) (opC (flL l) (nC l) (l.length * nC l) (atX l r c) (1 : Int)) (C4.mk x.g x.a x.gd x.m)).length : Int) * (↑(nC (set2 l (opR (flL l) (nC l) (l.length * nC l) (atX l r c) (1 : Int)) (opC (flL l) (nC l) (l.length * nC l) (atX l r c) (1 : Int)) (C4.mk x.g x.a x.gd x.m))) : Int))) < (↑(set2 l (opR (flL l) (nC l) (l.length * nC l) (atX l r c) (1 : Int)) (opC (flL l) (nC l) (l.length * nC l) (atX l r c) (1 : Int)) (C4.mk x.g x.a x.gd x.m)).length : Int) * (↑(nC (set2 l (opR (flL l) (nC l) (l.length * nC l) (atX l r c) (1 : Int)) (opC (flL l) (nC l) (l.length * nC l) (atX l r c) (1 : Int)) (C4.mk x.g x.a x.gd x.m))) : Int)) ∧ rq (decide (IntKind.i64.wrap ((↑(set2 l (opR (flL l) (nC l) (l.length * nC l) (atX l r c) (1 : Int)) (opC (flL l) (nC l) (l.length * nC l) (atX l r c) (1 : Int)) (C4.mk x.g x.a x.gd x.m)).length : Int) * (↑(nC (set2 l (opR (flL l) (nC l) (l.length * nC l) (atX l r c) (1 : Int)) (opC (flL l) (nC l) (l.length * nC l) (atX l r c) (1 : Int)) (C4.mk x.g x.a x.gd x.m))) : Int)) ≠ (0 : Int))) (true = true ∧ (mayB (↑(set2 l (opR (flL l) (nC l) (l.length * nC l) (atX l r c) (1 : Int)) (opC (flL l) (nC l) (l.length * nC l) (atX l r c) (1 : Int)) (C4.mk x.g x.a x.gd x.m)).length : Int) (↑(nC (set2 l (opR (flL l) (nC l) (l.length * nC l) (atX l r c) (1 : Int)) (opC (flL l) (nC l) (l.length * nC l) (atX l r c) (1 : Int)) (C4.mk x.g x.a x.gd x.m))) : Int) = true ∧ (0 : Int) ≤ (IntKind.i64.wrap (opR (flL l) (nC l) (l.length * nC l) (atX l r c) (1 : Int) * (↑(nC (set2 l (opR (flL l) (nC l) (l.length * nC l) (atX l r c) (1 : Int)) (opC (flL l) (nC l) (l.length * nC l) (atX l r c) (1 : Int)) (C4.mk x.g x.a x.gd x.m))) : Int) + opC (flL l) (nC l) (l.length * nC l) (atX l r c) (1 : Int) + (1 : Int))).tmod (IntKind.i64.wrap ((↑(set2 l (opR (flL l) (nC l) (l.length * nC l) (atX l r c) (1 : Int)) (opC (flL l) (nC l) (l.length * nC l) (atX l r c) (1 : Int)) (C4.mk x.g x.a x.gd x.m)).length : Int) * (↑(nC (set2 l (opR (flL l) (nC l) (l.length * nC l) (atX l r c) (1 : Int)) (opC (flL l) (nC l) (l.length * nC l) (atX l r c) (1 : Int)) (C4.mk x.g x.a x.gd x.m))) : Int))) ∧ (IntKind.i64.wrap (opR (flL l) (nC l) (l.length * nC l) (atX l r c) (1 : Int) * (↑(nC (set2 l (opR (flL l) (nC l) (l.length * nC l) (atX l r c) (1 : Int)) (opC (flL l) (nC l) (l.length * nC l) (atX l r c) (1 : Int)) (C4.mk x.g x.a x.gd x.m))) : Int) + opC (flL l) (nC l) (l.length * nC l) (atX l r c) (1 : Int) + (1 : Int))).tmod (IntKind.i64.wrap ((↑(set2 l (opR (flL l) (nC l) (l.length * nC l) (atX l r c) (1 : Int)) (opC (flL l) (nC l) (l.length * nC l) (atX l r c) (1 : Int)) (C4.mk x.g x.a x.gd x.m)).length : Int) * (↑(nC (set2 l (opR (flL l) (nC l) (l.length * nC l) (atX l r c) (1 : Int)) (opC (flL l) (nC l) (l.length * nC l) (atX l r c) (1 : Int)) (C4.mk x.g x.a x.gd x.m))) : Int))) < (↑(set2 l (opR (flL l) (nC l) (l.length * nC l) (atX l r c) (1 : Int)) (opC (flL l) (nC l) (l.length * nC l) (atX l r c) (1 : Int)) (C4.mk x.g x.a x.gd x.m)).length : Int) * (↑(nC (set2 l (opR (flL l) (nC l) (l.length * nC l) (atX l r c) (1 : Int)) (opC (flL l) (nC l) (l.length * nC l) (atX l r c) (1 : Int)) (C4.mk x.g x.a x.gd x.m))) : Int)) ∧ true = true ∧ (oe = oe ∧ GW (set2 l (opR (flL l) (nC l) (l.length * nC l) (atX l r c) (1 : Int)) (opC (flL l) (nC l) (l.length * nC l) (atX l r c) (1 : Int)) (C4.mk x.g x.a x.gd x.m))) ∧ br (!opB (flL (set2 l (opR (flL l) (nC l) (l.length * nC l) (atX l r c) (1 : Int)) (opC (flL l) (nC l) (l.length * nC l) (atX l r c) (1 : Int)) (C4.mk x.g x.a x.gd x.m))) ((set2 l (opR (flL l) (nC l) (l.length * nC l) (atX l r c) (1 : Int)) (opC (flL l) (nC l) (l.length * nC l) (atX l r c) (1 : Int)) (C4.mk x.g x.a x.gd x.m)).length * nC (set2 l (opR (flL l) (nC l) (l.length * nC l) (atX l r c) (1 : Int)) (opC (flL l) (nC l) (l.length * nC l) (atX l r c) (1 : Int)) (C4.mk x.g x.a x.gd x.m))) (atX (set2 l (opR (flL l) (nC l) (l.length * nC l) (atX l r c) (1 : Int)) (opC (flL l) (nC l) (l.length * nC l) (atX l r c) (1 : Int)) (C4.mk x.g x.a x.gd x.m)) ((IntKind.i64.wrap (opR (flL l) (nC l) (l.length * nC l) (atX l r c) (1 : Int) * (↑(nC (set2 l (opR (flL l) (nC l) (l.length * nC l) (atX l r c) (1 : Int)) (opC (flL l) (nC l) (l.length * nC l) (atX l r c) (1 : Int)) (C4.mk x.g x.a x.gd x.m))) : Int) + opC (flL l) (nC l) (l.length * nC l) (atX l r c) (1 : Int) + (1 : Int))).tmod (IntKind.i64.wrap ((↑(set2 l (opR (flL l) (nC l) (l.length * nC l) (atX l r c) (1 : Int)) (opC (flL l) (nC l) (l.length * nC l) (atX l r c) (1 : Int)) (C4.mk x.g x.a x.gd x.m)).length : Int) * (↑(nC (set2 l (opR (flL l) (nC l) (l.length * nC l) (atX l r c) (1 : Int)) (opC (flL l) (nC l) (l.length * nC l) (atX l r c) (1 : Int)) (C4.mk x.g x.a x.gd x.m))) : Int))) / (↑(nC (set2 l (opR (flL l) (nC l) (l.length * nC l) (atX l r c) (1 : Int)) (opC (flL l) (nC l) (l.length * nC l) (atX l r c) (1 : Int)) (C4.mk x.g x.a x.gd x.m))) : Int)) ((IntKind.i64.wrap (opR (flL l) (nC l) (l.length * nC l) (atX l r c) (1 : Int) * (↑(nC (set2 l (opR (flL l) (nC l) (l.length * nC l) (atX l r c) (1 : Int)) (opC (flL l) (nC l) (l.length * nC l) (atX l r c) (1 : Int)) (C4.mk x.g x.a x.gd x.m))) : Int) + opC (flL l) (nC l) (l.length * nC l) (atX l r c) (1 : Int) + (1 : Int))).tmod (IntKind.i64.wrap ((↑(set2 l (opR (flL l) (nC l) (l.length * nC l) (atX l r c) (1 : Int)) (opC (flL l) (nC l) (l.length * nC l) (atX l r c) (1 : Int)) (C4.mk x.g x.a x.gd x.m)).length : Int) * (↑(nC (set2 l (opR (flL l) (nC l) (l.length * nC l) (atX l r c) (1 : Int)) (opC (flL l) (nC l) (l.length * nC l) (atX l r c) (1 : Int)) (C4.mk x.g x.a x.gd x.m))) : Int))) % (↑(nC (set2 l (opR (flL l) (nC l) (l.length * nC l) (atX l r c) (1 : Int)) (opC (flL l) (nC l) (l.length * nC l) (atX l r c) (1 : Int)) (C4.mk x.g x.a x.gd x.m))) : Int))) (1 : Int)) (true = true ∧ mayB (↑(set2 l (opR (flL l) (nC l) (l.length * nC l) (atX l r c) (1 : Int)) (opC (flL l) (nC l) (l.length * nC l) (atX l r c) (1 : Int)) (C4.mk x.g x.a x.gd x.m)).length : Int) (↑(nC (set2 l (opR (flL l) (nC l) (l.length * nC l) (atX l r c) (1 : Int)) (opC (flL l) (nC l) (l.length * nC l) (atX l r c) (1 : Int)) (C4.mk x.g x.a x.gd x.m))) : Int) = true ∧ (SV.t [SV.a [SV.v (Value.int IntKind.i64 (nearI r (↑(set2 l (opR (flL l) (nC l) (l.length * nC l) (atX l r c) (1 : Int)) (opC (flL l) (nC l) (l.length * nC l) (atX l r c) (1 : Int)) (C4.mk x.g x.a x.gd x.m)).length : Int))), SV.v (Value.int IntKind.i64 (nearI c (↑(nC (set2 l (opR (flL l) (nC l) (l.length * nC l) (atX l r c) (1 : Int)) (opC (flL l) (nC l) (l.length * nC l) (atX l r c) (1 : Int)) (C4.mk x.g x.a x.gd x.m))) : Int))), SV.v (Value.bool false)], SV.v (Value.int IntKind.i64 (0 : Int))] = SV.t [SV.a [SV.v (Value.int IntKind.i64 (guR (flL l) (nC l) (nN l) (atX l r c) x (nearI r (↑l.length : Int)))), SV.v (Value.int IntKind.i64 (guC (flL l) (nC l) (nN l) (atX l r c) x (nearI c (↑(nC l) : Int)))), SV.v (Value.bool false)], SV.v (Value.int IntKind.i64 (guE (flL l) (nN l) (atX l r c)))] ∧ True) ∧ (SV.h (1 : Nat) [oe, (0 : Nat)] = SV.h (1 : Nat) [oe, (0 : Nat)] ∧ True) ∧ (oe = oe ∧ ep = ep ∧ set2 l (opR (flL l) (nC l) (l.length * nC l) (atX l r c) (1 : Int)) (opC (flL l) (nC l) (l.length * nC l) (atX l r c) (1 : Int)) (C4.mk x.g x.a x.gd x.m) = guL l r c x) ∧ True) ((SV.t [SV.a [SV.v (Value.int IntKind.i64 (opR (flL (set2 l (opR (flL l) (nC l) (l.length * nC l) (atX l r c) (1 : Int)) (opC (flL l) (nC l) (l.length * nC l) (atX l r c) (1 : Int)) (C4.mk x.g x.a x.gd x.m))) (nC (set2 l (opR (flL l) (nC l) (l.length * nC l) (atX l r c) (1 : Int)) (opC (flL l) (nC l) (l.length * nC l) (atX l r c) (1 : Int)) (C4.mk x.g x.a x.gd x.m))) ((set2 l (opR (flL l) (nC l) (l.length * nC l) (atX l r c) (1 : Int)) (opC (flL l) (nC l) (l.length * nC l) (atX l r c) (1 : Int)) (C4.mk x.g x.a x.gd x.m)).length * nC (set2 l (opR (flL l) (nC l) (l.length * nC l) (atX l r c) (1 : Int)) (opC (flL l) (nC l) (l.length * nC l) (atX l r c) (1 : Int)) (C4.mk x.g x.a x.gd x.m))) (atX (set2 l (opR (flL l) (nC l) (l.length * nC l) (atX l r c) (1 : Int)) (opC (flL l) (nC l) (l.length * nC l) (atX l r c) (1 : Int)) (C4.mk x.g x.a x.gd x.m)) ((IntKind.i64.wrap (opR (flL l) (nC l) (l.length * nC l) (atX l r c) (1 : Int) * (↑(nC (set2 l (opR (flL l) (nC l) (l.length * nC l) (atX l r c) (1 : Int)) (opC (flL l) (nC l) (l.length * nC l) (atX l r c) (1 : Int)) (C4.mk x.g x.a x.gd x.m))) : Int) + opC (flL l) (nC l) (l.length * nC l) (atX l r c) (1 : Int) + (1 : Int))).tmod (IntKind.i64.wrap ((↑(set2 l (opR (flL l) (nC l) (l.length * nC l) (atX l r c) (1 : Int)) (opC (flL l) (nC l) (l.length * nC l) (atX l r c) (1 : Int)) (C4.mk x.g x.a x.gd x.m)).length : Int) * (↑(nC (set2 l (opR (flL l) (nC l) (l.length * nC l) (atX l r c) (1 : Int)) (opC (flL l) (nC l) (l.length * nC l) (atX l r c) (1 : Int)) (C4.mk x.g x.a x.gd x.m))) : Int))) / (↑(nC (set2 l (opR (flL l) (nC l) (l.length * nC l) (atX l r c) (1 : Int)) (opC (flL l) (nC l) (l.length * nC l) (atX l r c) (1 : Int)) (C4.mk x.g x.a x.gd x.m))) : Int)) ((IntKind.i64.wrap (opR (flL l) (nC l) (l.length * nC l) (atX l r c) (1 : Int) * (↑(nC (set2 l (opR (flL l) (nC l) (l.length * nC l) (atX l r c) (1 : Int)) (opC (flL l) (nC l) (l.length * nC l) (atX l r c) (1 : Int)) (C4.mk x.g x.a x.gd x.m))) : Int) + opC (flL l) (nC l) (l.length * nC l) (atX l r c) (1 : Int) + (1 : Int))).tmod (IntKind.i64.wrap ((↑(set2 l (opR (flL l) (nC l) (l.length * nC l) (atX l r c) (1 : Int)) (opC (flL l) (nC l) (l.length * nC l) (atX l r c) (1 : Int)) (C4.mk x.g x.a x.gd x.m)).length : Int) * (↑(nC (set2 l (opR (flL l) (nC l) (l.length * nC l) (atX l r c) (1 : Int)) (opC (flL l) (nC l) (l.length * nC l) (atX l r c) (1 : Int)) (C4.mk x.g x.a x.gd x.m))) : Int))) % (↑(nC (set2 l (opR (flL l) (nC l) (l.length * nC l) (atX l r c) (1 : Int)) (opC (flL l) (nC l) (l.length * nC l) (atX l r c) (1 : Int)) (C4.mk x.g x.a x.gd x.m))) : Int))) (1 : Int))), SV.v (Value.int IntKind.i64 (opC (flL (set2 l (opR (flL l) (nC l) (l.length * nC l) (atX l r c) (1 : Int)) (opC (flL l) (nC l) (l.length * nC l) (atX l r c) (1 : Int)) (C4.mk x.g x.a x.gd x.m))) (nC (set2 l (opR (flL l) (nC l) (l.length * nC l) (atX l r c) (1 : Int)) (opC (flL l) (nC l) (l.length * nC l) (atX l r c) (1 : Int)) (C4.mk x.g x.a x.gd x.m))) ((set2 l (opR (flL l) (nC l) (l.length * nC l) (atX l r c) (1 : Int)) (opC (flL l) (nC l) (l.length * nC l) (atX l r c) (1 : Int)) (C4.mk x.g x.a x.gd x.m)).length * nC (set2 l (opR (flL l) (nC l) (l.length * nC l) (atX l r c) (1 : Int)) (opC (flL l) (nC l) (l.length * nC l) (atX l r c) (1 : Int)) (C4.mk x.g x.a x.gd x.m))) (atX (set2 l (opR (flL l) (nC l) (l.length * nC l) (atX l r c) (1 : Int)) (opC (flL l) (nC l) (l.length * nC l) (atX l r c) (1 : Int)) (C4.mk x.g x.a x.gd x.m)) ((IntKind.i64.wrap (opR (flL l) (nC l) (l.length * nC l) (atX l r c) (1 : Int) * (↑(nC (set2 l (opR (flL l) (nC l) (l.length * nC l) (atX l r c) (1 : Int)) (opC (flL l) (nC l) (l.length * nC l) (atX l r c) (1 : Int)) (C4.mk x.g x.a x.gd x.m))) : Int) + opC (flL l) (nC l) (l.length * nC l) (atX l r c) (1 : Int) + (1 : Int))).tmod (IntKind.i64.wrap ((↑(set2 l (opR (flL l) (nC l) (l.length * nC l) (atX l r c) (1 : Int)) (opC (flL l) (nC l) (l.length * nC l) (atX l r c) (1 : Int)) (C4.mk x.g x.a x.gd x.m)).length : Int) * (↑(nC (set2 l (opR (flL l) (nC l) (l.length * nC l) (atX l r c) (1 : Int)) (opC (flL l) (nC l) (l.length * nC l) (atX l r c) (1 : Int)) (C4.mk x.g x.a x.gd x.m))) : Int))) / (↑(nC (set2 l (opR (flL l) (nC l) (l.length * nC l) (atX l r c) (1 : Int)) (opC (flL l) (nC l) (l.length * nC l) (atX l r c) (1 : Int)) (C4.mk x.g x.a x.gd x.m))) : Int)) ((IntKind.i64.wrap (opR (flL l) (nC l) (l.length * nC l) (atX l r c) (1 : Int) * (↑(nC (set2 l (opR (flL l) (nC l) (l.length * nC l) (atX l r c) (1 : Int)) (opC (flL l) (nC l) (l.length * nC l) (atX l r c) (1 : Int)) (C4.mk x.g x.a x.gd x.m))) : Int) + opC (flL l) (nC l) (l.length * nC l) (atX l r c) (1 : Int) + (1 : Int))).tmod (IntKind.i64.wrap ((↑(set2 l (opR (flL l) (nC l) (l.length * nC l) (atX l r c) (1 : Int)) (opC (flL l) (nC l) (l.length * nC l) (atX l r c) (1 : Int)) (C4.mk x.g x.a x.gd x.m)).length : Int) * (↑(nC (set2 l (opR (flL l) (nC l) (l.length * nC l) (atX l r c) (1 : Int)) (opC (flL l) (nC l) (l.length * nC l) (atX l r c) (1 : Int)) (C4.mk x.g x.a x.gd x.m))) : Int))) % (↑(nC (set2 l (opR (flL l) (nC l) (l.length * nC l) (atX l r c) (1 : Int)) (opC (flL l) (nC l) (l.length * nC l) (atX l r c) (1 : Int)) (C4.mk x.g x.a x.gd x.m))) : Int))) (1 : Int))), SV.v (Value.bool false)], SV.v (Value.int IntKind.i64 (0 : Int))] = SV.t [SV.a [SV.v (Value.int IntKind.i64 (guR (flL l) (nC l) (nN l) (atX l r c) x (nearI r (↑l.length : Int)))), SV.v (Value.int IntKind.i64 (guC (flL l) (nC l) (nN l) (atX l r c) x (nearI c (↑(nC l) : Int)))), SV.v (Value.bool false)], SV.v (Value.int IntKind.i64 (guE (flL l) (nN l) (atX l r c)))] ∧ True) ∧ (SV.h (1 : Nat) [oe, (0 : Nat)] = SV.h (1 : Nat) [oe, (0 : Nat)] ∧ True) ∧ (oe = oe ∧ ep = ep ∧ set2 l (opR (flL l) (nC l) (l.length * nC l) (atX l r c) (1 : Int)) (opC (flL l) (nC l) (l.length * nC l) (atX l r c) (1 : Int)) (C4.mk x.g x.a x.gd x.m) = guL l r c x) ∧ True)))))) (by kernel_rfl) ?_
  clear hp hφ
  have eta : ∀ y : C4, C4.mk y.g y.a y.gd y.m = y := fun _ => rfl
  obtain ⟨i1, i2⟩ := fu_in hg (atX l r c)
  obtain ⟨g1, g2, g3⟩ := set2_gw hg (x := x) i1
  have r0 := hg.r0
  have r1 := hg.r1
  have c0 := hg.c0
  have c1 := hg.c1
  have hm : mayB l.length (nC l) = true := by rw [mayB_iff]; omega
  have hN : (l.length : Int) * (nC l : Int) = (nN l : Int) := (Int.natCast_mul _ _).symm
  obtain ⟨n0, n1⟩ := nN_bd hg
  have hf := fuX_bd n0 (flL l) (atX l r c)
  simp only [eta, g2, g3, i2]
  have hNN : l.length * nC l = nN l := rfl
  have hK : (IntKind.i64.wrap (fuX (flL l) (nN l) (atX l r c) + 1)).tmod (nN l) = guK (flL l) (nN l) (atX l r c) := by
    rw [wrap64 (x := fuX (flL l) (nN l) (atX l r c) + 1) (by omega) (by omega), Int.tmod_eq_emod_of_nonneg (by omega)]; rfl
  have hkb : 0 ≤ guK (flL l) (nN l) (atX l r c) ∧ guK (flL l) (nN l) (atX l r c) < nN l := by
    unfold guK
    exact ⟨Int.emod_nonneg _ (by omega), Int.emod_lt_of_pos _ (by omega)⟩
  have hki := inB_iff.1 (at2_ix hg hkb.1 hkb.2).1
  have hii := inB_iff.1 i1
  have hin : inD l.length (nC l) (opR (flL l) (nC l) (nN l) (atX l r c) 1) (opC (flL l) (nC l) (nN l) (atX l r c) 1) = true := by rw [inD_iff]; exact hii
  have hA : atX (set2 l (opR (flL l) (nC l) (nN l) (atX l r c) 1) (opC (flL l) (nC l) (nN l) (atX l r c) 1) x) (guK (flL l) (nN l) (atX l r c) / nC l) (guK (flL l) (nN l) (atX l r c) % nC l) = guK (flL l) (nN l) (atX l r c) := by
    exact atX_ix hg g2 g3 hkb.1 hkb.2
  rw [hN, hNN, wrap64 (x := (nN l : Int)) (by omega) (by omega)]
  simp only [hK, hA]
  cases hB : opB (flL l) (nN l) (atX l r c) 1
  · simp [br_iff, guR, guC, guE, guL, hB, hg]
  · have hF : flL (set2 l (opR (flL l) (nC l) (nN l) (atX l r c) 1) (opC (flL l) (nC l) (nN l) (atX l r c) 1) x) = guX (flL l) (nN l) (atX l r c) x := by
      have := gu_fl hg r c x
      rwa [guL, if_pos hB] at this
    have hn0 : decide ((nN l : Int) ≠ 0) = true := decide_eq_true (by omega)
    rw [hF]
    cases hB2 : opB (guX (flL l) (nN l) (atX l r c) x) (nN l) (guK (flL l) (nN l) (atX l r c)) 1 <;>
      simp only [br_iff, rq_iff, guR, guC, guE, guL, hB, hB2, hg, hm, hin, i1, g1, hn0, hkb, Bool.not_true, Bool.not_false, Bool.false_eq_true, Bool.true_eq_false, false_implies, true_implies, true_and, and_true, if_true, if_false, and_self, implies_true]
/-! ### The document's answer -/
def lcRPlace : ACon Unit := mkLC (decP (shCons (shP 0) (shOne shI)) (shRefF 0)) fun ((_, k), ((R, C, ep), ⟨xs, m, ep2⟩)) => .ask (ep = ep2 ∧ 1 ≤ C ∧ 0 ≤ k ∧ k ≤ 65025) (.one (p2 (k / C.toNat) (k % C.toNat)) (refF 0 R C xs m ep) [])
set_option maxHeartbeats 4000000 in
theorem ok_rplace : ∀ I : Sym.Inv Unit, LCOk I Try.prog 92 lcRPlace := by
  refine lc_mk (fun _ => allCfg Try.prog [] [] 0) (fun _ _ => allCfg_ok mixed trivial trivial) (fun _ => rfl) (n := 60) Try.func92 ?_
  intro ⟨⟨_, k⟩, ⟨R, C, ep⟩, ⟨xs, m, ep2⟩⟩ hφ
  obtain ⟨⟨rfl, h1, h2, h3⟩, hp⟩ := id hφ
  refine kcast (B := (rq (decide (C ≠ (0 : Int))) (rq (decide (C ≠ (0 : Int))) ((SV.a [SV.v (Value.int IntKind.i64 (IntKind.i64.wrap (k.tdiv C))), SV.v (Value.int IntKind.i64 (k.tmod C))] = SV.a [SV.v (Value.int IntKind.i64 (k / (↑C.toNat : Int))), SV.v (Value.int IntKind.i64 (k % (↑C.toNat : Int)))] ∧ True) ∧ (SV.v (Value.int IntKind.i64 R) = SV.v (Value.int IntKind.i64 R) ∧ SV.v (Value.int IntKind.i64 C) = SV.v (Value.int IntKind.i64 C) ∧ SV.h (1 : Nat) [ep, (0 : Nat)] = SV.h (1 : Nat) [ep, (0 : Nat)] ∧ True) ∧ (m = m ∧ ep = ep ∧ xs = xs) ∧ True)))) (by kernel_rfl) ?_
  clear hp hφ
  obtain ⟨D, rfl⟩ : ∃ D : Nat, C = D := ⟨C.toNat, by omega⟩
  have hd := Int.ediv_le_self (D : Int) h2
  have hd0 : 0 ≤ k / (D : Int) := Int.ediv_nonneg h2 (by omega)
  rw [Int.tdiv_eq_ediv_of_nonneg h2, Int.tmod_eq_emod_of_nonneg h2, wrap64 (x := k / (D : Int)) (by omega) (by omega)]
  simp [rq_iff]
  omega
def byI (b : Bool) : Int := if b = true then -1 else 1
def annRf (R C : Int) (xs : List C4) (n : Nat) (m b : Int) : Ann Unit where
  α := Int
  φ _ i := 0 ≤ i ∧ i ≤ n ∧ ∀ j < i.toNat, opP xs n m b j = false
  μ _ i := ((n : Int) - i).toNat
  get st := getI st.tm 10
  f st i := tmpl [0, 2, 6, 7, 8, 9] [(10, .v (.int .i64 i))] [] st
def lcRFree : ACon Unit := mkLC (decP (shCons (shP 0) (shCons shI2 (shOne shB))) (shRefF 0)) fun ((_, (r, c), b), ((R, C, ep), ⟨xs, n, ep2⟩)) => .ask (ep = ep2 ∧ FW R C xs n)
  (.one (.t [p2 (opR xs C.toNat n (nearI r R * C + nearI c C) (byI b)) (opC xs C.toNat n (nearI r R * C + nearI c C) (byI b)), .v (.bool (opB xs n (nearI r R * C + nearI c C) (byI b)))]) (refF 0 R C xs n ep) [])
def tabR3 : List (Nat × ACon Unit) := (92, lcRPlace) :: tabR2
theorem tabR3_ok : LCs Try.prog tabR3 := ⟨ok_rplace, tabR2_ok⟩
set_option maxHeartbeats 4000000 in
theorem ok_rfree : ∀ I : Sym.Inv Unit, LCOk I Try.prog 59 lcRFree := by
  refine lc_mk (fun ((_, (r, c), b), ((R, C, ep), ⟨xs, n, ep2⟩)) => allCfg Try.prog [] tabR3 0 [(323, annRf R C xs n (nearI r R * C + nearI c C) (byI b))]) (fun _ _ => allCfg_ok mixed trivial tabR3_ok) (fun _ => rfl) (n := 80) Try.func59 ?_
  intro ⟨⟨_, ⟨r, c⟩, b⟩, ⟨R, C, ep⟩, ⟨xs, n, ep2⟩⟩ hφ
  obtain ⟨⟨rfl, hw⟩, hp⟩ := id hφ
  refine kcast (B := (true = true ∧ ep = ep ∧ true = true ∧ mayB R C = true ∧ true = true ∧ ep = ep ∧ true = true ∧ mayB R C = true ∧ rq (ep.beq ep) ((II (0 : Int) ≤ (0 : Int) ∧ (0 : Int) ≤ (↑n : Int) ∧ ∀ (j : Nat), j < (0 : Nat) → opP xs n (nearI r R * C + nearI c C) (byI b) j = false) ∧ ((SV.p (0 : Nat) (0 : Nat) = SV.p (0 : Nat) (0 : Nat) ∧ SV.v (Value.bool b) = SV.v (Value.bool b) ∧ SV.p (3 : Nat) (0 : Nat) = SV.p (3 : Nat) (0 : Nat) ∧ SV.v (Value.bool false) = SV.v (Value.bool false) ∧ SV.p (4 : Nat) (0 : Nat) = SV.p (4 : Nat) (0 : Nat) ∧ SV.v (Value.int IntKind.i64 (↑n : Int)) = SV.v (Value.int IntKind.i64 (↑n : Int)) ∧ SV.v (Value.int IntKind.i64 (0 : Int)) = SV.v (Value.int IntKind.i64 (0 : Int)) ∧ True) ∧ (SV.v (Value.int IntKind.i64 R) = SV.v (Value.int IntKind.i64 R) ∧ SV.v (Value.int IntKind.i64 C) = SV.v (Value.int IntKind.i64 C) ∧ SV.h (1 : Nat) [ep, (0 : Nat)] = SV.h (1 : Nat) [ep, (0 : Nat)] ∧ True) ∧ (n = n ∧ ep = ep ∧ xs = xs) ∧ (SV.v (Value.int IntKind.i64 r) = SV.v (Value.int IntKind.i64 r) ∧ SV.v (Value.int IntKind.i64 c) = SV.v (Value.int IntKind.i64 c) ∧ True) ∧ (SV.v (Value.int IntKind.i64 (0 : Int)) = SV.v (Value.int IntKind.i64 (0 : Int)) ∧ SV.v (Value.int IntKind.i64 (0 : Int)) = SV.v (Value.int IntKind.i64 (0 : Int)) ∧ True) ∧ (SV.v (Value.int IntKind.i64 (nearI r R)) = SV.v (Value.int IntKind.i64 (nearI r R)) ∧ SV.v (Value.int IntKind.i64 (nearI c C)) = SV.v (Value.int IntKind.i64 (nearI c C)) ∧ True) ∧ True) ∧ ∀ (x : Int), ((0 : Int) ≤ x ∧ x ≤ (↑n : Int) ∧ ∀ (j : Nat), j < x.toNat → opP xs n (nearI r R * C + nearI c C) (byI b) j = false) → br (decide (x < (↑n : Int))) (rq (decide ((↑n : Int) ≠ (0 : Int))) (br b (rq (decide ((↑n : Int) ≠ (0 : Int))) (rq (ep.beq ep && (Nat.beq (4 : Nat) (4 : Nat) && decide ((0 : Int) ≤ (IntKind.i64.wrap (IntKind.i64.wrap (IntKind.i64.wrap (IntKind.i64.wrap (nearI r R * C) + nearI c C) - x) + (↑n : Int))).tmod (↑n : Int) ∧ (IntKind.i64.wrap (IntKind.i64.wrap (IntKind.i64.wrap (IntKind.i64.wrap (nearI r R * C) + nearI c C) - x) + (↑n : Int))).tmod (↑n : Int) < (↑n : Int)))) (rq (ep.beq ep && ((IntKind.i64.wrap (IntKind.i64.wrap (IntKind.i64.wrap (IntKind.i64.wrap (nearI r R * C) + nearI c C) - x) + (↑n : Int))).tmod (↑n : Int)).toNat.blt n) (rq (ep.beq ep && ((IntKind.i64.wrap (IntKind.i64.wrap (IntKind.i64.wrap (IntKind.i64.wrap (nearI r R * C) + nearI c C) - x) + (↑n : Int))).tmod (↑n : Int)).toNat.blt xs.length) (br (!(xs.getD ((IntKind.i64.wrap (IntKind.i64.wrap (IntKind.i64.wrap (IntKind.i64.wrap (nearI r R * C) + nearI c C) - x) + (↑n : Int))).tmod (↑n : Int)).toNat C4.no).gd) (true = true ∧ (ep = ep ∧ (1 : Int) ≤ C ∧ (0 : Int) ≤ (IntKind.i64.wrap (IntKind.i64.wrap (IntKind.i64.wrap (IntKind.i64.wrap (nearI r R * C) + nearI c C) - x) + (↑n : Int))).tmod (↑n : Int) ∧ (IntKind.i64.wrap (IntKind.i64.wrap (IntKind.i64.wrap (IntKind.i64.wrap (nearI r R * C) + nearI c C) - x) + (↑n : Int))).tmod (↑n : Int) ≤ (65025 : Int)) ∧ (SV.t [SV.a [SV.v (Value.int IntKind.i64 ((IntKind.i64.wrap (IntKind.i64.wrap (IntKind.i64.wrap (IntKind.i64.wrap (nearI r R * C) + nearI c C) - x) + (↑n : Int))).tmod (↑n : Int) / (↑C.toNat : Int))), SV.v (Value.int IntKind.i64 ((IntKind.i64.wrap (IntKind.i64.wrap (IntKind.i64.wrap (IntKind.i64.wrap (nearI r R * C) + nearI c C) - x) + (↑n : Int))).tmod (↑n : Int) % (↑C.toNat : Int)))], SV.v (Value.bool true)] = SV.t [SV.a [SV.v (Value.int IntKind.i64 (opR xs C.toNat n (nearI r R * C + nearI c C) (byI b))), SV.v (Value.int IntKind.i64 (opC xs C.toNat n (nearI r R * C + nearI c C) (byI b)))], SV.v (Value.bool (opB xs n (nearI r R * C + nearI c C) (byI b)))] ∧ True) ∧ (SV.v (Value.int IntKind.i64 R) = SV.v (Value.int IntKind.i64 R) ∧ SV.v (Value.int IntKind.i64 C) = SV.v (Value.int IntKind.i64 C) ∧ SV.h (1 : Nat) [ep, (0 : Nat)] = SV.h (1 : Nat) [ep, (0 : Nat)] ∧ True) ∧ (n = n ∧ ep = ep ∧ xs = xs) ∧ True) (((0 : Int) ≤ IntKind.i64.wrap (x + (1 : Int)) ∧ IntKind.i64.wrap (x + (1 : Int)) ≤ (↑n : Int) ∧ ∀ (j : Nat), j < (IntKind.i64.wrap (x + (1 : Int))).toNat → opP xs n (nearI r R * C + nearI c C) (byI b) j = false) ∧ ((SV.p (0 : Nat) (0 : Nat) = SV.p (0 : Nat) (0 : Nat) ∧ SV.v (Value.bool b) = SV.v (Value.bool b) ∧ SV.p (3 : Nat) (0 : Nat) = SV.p (3 : Nat) (0 : Nat) ∧ SV.v (Value.bool false) = SV.v (Value.bool false) ∧ SV.p (4 : Nat) (0 : Nat) = SV.p (4 : Nat) (0 : Nat) ∧ SV.v (Value.int IntKind.i64 (↑n : Int)) = SV.v (Value.int IntKind.i64 (↑n : Int)) ∧ SV.v (Value.int IntKind.i64 (IntKind.i64.wrap (x + (1 : Int)))) = SV.v (Value.int IntKind.i64 (IntKind.i64.wrap (x + (1 : Int)))) ∧ True) ∧ (SV.v (Value.int IntKind.i64 R) = SV.v (Value.int IntKind.i64 R) ∧ SV.v (Value.int IntKind.i64 C) = SV.v (Value.int IntKind.i64 C) ∧ SV.h (1 : Nat) [ep, (0 : Nat)] = SV.h (1 : Nat) [ep, (0 : Nat)] ∧ True) ∧ (n = n ∧ ep = ep ∧ xs = xs) ∧ (SV.v (Value.int IntKind.i64 r) = SV.v (Value.int IntKind.i64 r) ∧ SV.v (Value.int IntKind.i64 c) = SV.v (Value.int IntKind.i64 c) ∧ True) ∧ (SV.v (Value.int IntKind.i64 (0 : Int)) = SV.v (Value.int IntKind.i64 (0 : Int)) ∧ SV.v (Value.int IntKind.i64 (0 : Int)) = SV.v (Value.int IntKind.i64 (0 : Int)) ∧ True) ∧ (SV.v (Value.int IntKind.i64 (nearI r R)) = SV.v (Value.int IntKind.i64 (nearI r R)) ∧ SV.v (Value.int IntKind.i64 (nearI c C)) = SV.v (Value.int IntKind.i64 (nearI c C)) ∧ True) ∧ True) ∧ ((↑n : Int) - IntKind.i64.wrap (x + (1 : Int))).toNat < ((↑n : Int) - x).toNat)))))) (rq (ep.beq ep && (Nat.beq (4 : Nat) (4 : Nat) && decide ((0 : Int) ≤ (IntKind.i64.wrap (IntKind.i64.wrap (IntKind.i64.wrap (nearI r R * C) + nearI c C) + x)).tmod (↑n : Int) ∧ (IntKind.i64.wrap (IntKind.i64.wrap (IntKind.i64.wrap (nearI r R * C) + nearI c C) + x)).tmod (↑n : Int) < (↑n : Int)))) (rq (ep.beq ep && ((IntKind.i64.wrap (IntKind.i64.wrap (IntKind.i64.wrap (nearI r R * C) + nearI c C) + x)).tmod (↑n : Int)).toNat.blt n) (rq (ep.beq ep && ((IntKind.i64.wrap (IntKind.i64.wrap (IntKind.i64.wrap (nearI r R * C) + nearI c C) + x)).tmod (↑n : Int)).toNat.blt xs.length) (br (!(xs.getD ((IntKind.i64.wrap (IntKind.i64.wrap (IntKind.i64.wrap (nearI r R * C) + nearI c C) + x)).tmod (↑n : Int)).toNat C4.no).gd) (true = true ∧ (ep = ep ∧ (1 : Int) ≤ C ∧ (0 : Int) ≤ (IntKind.i64.wrap (IntKind.i64.wrap (IntKind.i64.wrap (nearI r R * C) + nearI c C) + x)).tmod (↑n : Int) ∧ (IntKind.i64.wrap (IntKind.i64.wrap (IntKind.i64.wrap (nearI r R * C) + nearI c C) + x)).tmod (↑n : Int) ≤ (65025 : Int)) ∧ (SV.t [SV.a [SV.v (Value.int IntKind.i64 ((IntKind.i64.wrap (IntKind.i64.wrap (IntKind.i64.wrap (nearI r R * C) + nearI c C) + x)).tmod (↑n : Int) / (↑C.toNat : Int))), SV.v (Value.int IntKind.i64 ((IntKind.i64.wrap (IntKind.i64.wrap (IntKind.i64.wrap (nearI r R * C) + nearI c C) + x)).tmod (↑n : Int) % (↑C.toNat : Int)))], SV.v (Value.bool true)] = SV.t [SV.a [SV.v (Value.int IntKind.i64 (opR xs C.toNat n (nearI r R * C + nearI c C) (byI b))), SV.v (Value.int IntKind.i64 (opC xs C.toNat n (nearI r R * C + nearI c C) (byI b)))], SV.v (Value.bool (opB xs n (nearI r R * C + nearI c C) (byI b)))] ∧ True) ∧ (SV.v (Value.int IntKind.i64 R) = SV.v (Value.int IntKind.i64 R) ∧ SV.v (Value.int IntKind.i64 C) = SV.v (Value.int IntKind.i64 C) ∧ SV.h (1 : Nat) [ep, (0 : Nat)] = SV.h (1 : Nat) [ep, (0 : Nat)] ∧ True) ∧ (n = n ∧ ep = ep ∧ xs = xs) ∧ True) (((0 : Int) ≤ IntKind.i64.wrap (x + (1 : Int)) ∧ IntKind.i64.wrap (x + (1 : Int)) ≤ (↑n : Int) ∧ ∀ (j : Nat), j < (IntKind.i64.wrap (x + (1 : Int))).toNat → opP xs n (nearI r R * C + nearI c C) (byI b) j = false) ∧ ((SV.p (0 : Nat) (0 : Nat) = SV.p (0 : Nat) (0 : Nat) ∧ SV.v (Value.bool b) = SV.v (Value.bool b) ∧ SV.p (3 : Nat) (0 : Nat) = SV.p (3 : Nat) (0 : Nat) ∧ SV.v (Value.bool false) = SV.v (Value.bool false) ∧ SV.p (4 : Nat) (0 : Nat) = SV.p (4 : Nat) (0 : Nat) ∧ SV.v (Value.int IntKind.i64 (↑n : Int)) = SV.v (Value.int IntKind.i64 (↑n : Int)) ∧ SV.v (Value.int IntKind.i64 (IntKind.i64.wrap (x + (1 : Int)))) = SV.v (Value.int IntKind.i64 (IntKind.i64.wrap (x + (1 : Int)))) ∧ True) ∧ (SV.v (Value.int IntKind.i64 R) = SV.v (Value.int IntKind.i64 R) ∧ SV.v (Value.int IntKind.i64 C) = SV.v (Value.int IntKind.i64 C) ∧ SV.h (1 : Nat) [ep, (0 : Nat)] = SV.h (1 : Nat) [ep, (0 : Nat)] ∧ True) ∧ (n = n ∧ ep = ep ∧ xs = xs) ∧ (SV.v (Value.int IntKind.i64 r) = SV.v (Value.int IntKind.i64 r) ∧ SV.v (Value.int IntKind.i64 c) = SV.v (Value.int IntKind.i64 c) ∧ True) ∧ (SV.v (Value.int IntKind.i64 (0 : Int)) = SV.v (Value.int IntKind.i64 (0 : Int)) ∧ SV.v (Value.int IntKind.i64 (0 : Int)) = SV.v (Value.int IntKind.i64 (0 : Int)) ∧ True) ∧ (SV.v (Value.int IntKind.i64 (nearI r R)) = SV.v (Value.int IntKind.i64 (nearI r R)) ∧ SV.v (Value.int IntKind.i64 (nearI c C)) = SV.v (Value.int IntKind.i64 (nearI c C)) ∧ True) ∧ True) ∧ ((↑n : Int) - IntKind.i64.wrap (x + (1 : Int))).toNat < ((↑n : Int) - x).toNat))))))) ((SV.t [SV.a [SV.v (Value.int IntKind.i64 (0 : Int)), SV.v (Value.int IntKind.i64 (0 : Int))], SV.v (Value.bool false)] = SV.t [SV.a [SV.v (Value.int IntKind.i64 (opR xs C.toNat n (nearI r R * C + nearI c C) (byI b))), SV.v (Value.int IntKind.i64 (opC xs C.toNat n (nearI r R * C + nearI c C) (byI b)))], SV.v (Value.bool (opB xs n (nearI r R * C + nearI c C) (byI b)))] ∧ True) ∧ (SV.v (Value.int IntKind.i64 R) = SV.v (Value.int IntKind.i64 R) ∧ SV.v (Value.int IntKind.i64 C) = SV.v (Value.int IntKind.i64 C) ∧ SV.h (1 : Nat) [ep, (0 : Nat)] = SV.h (1 : Nat) [ep, (0 : Nat)] ∧ True) ∧ (n = n ∧ ep = ep ∧ xs = xs) ∧ True)))) (by kernel_rfl) ?_
  clear hp hφ
  have eta : ∀ y : C4, C4.mk y.g y.a y.gd y.m = y := fun _ => rfl
  have h1 := hw.r0
  have h2 := hw.r1
  have h3 := hw.c0
  have h4 := hw.c1
  have hsz := hw.sz
  have hlen := hw.len
  have hm : mayB R C = true := by rw [mayB_iff]; omega
  obtain ⟨q1, q2⟩ := near_bd (x := r) (n := R) (by omega)
  obtain ⟨q3, q4⟩ := near_bd (x := c) (n := C) (by omega)
  have hix := ix_bd q2 q4 q3
  obtain ⟨m1, m2⟩ := mul_bd (r := nearI r R) (C := C) (by omega) (by omega) (by omega) (by omega)
  obtain ⟨m3, m4⟩ := mul_bd (r := R) (C := C) (by omega) (by omega) (by omega) (by omega)
  simp only [eta, II, ge_iff_le, br_iff, rq_iff, nbeq, hm, hw, hlen, true_and, and_true, true_implies, false_implies, implies_true, Bool.true_eq_false, Bool.false_eq_true, Bool.true_and, Bool.and_true, Bool.and_eq_true, Bool.not_eq_true', Bool.not_eq_false', Nat.ble_eq, Nat.blt_eq, decide_eq_true_eq, decide_eq_false_iff_not, bne_iff_ne, bne_eq_false_iff_eq, beq_iff_eq, beq_eq_false_iff_ne, ne_eq, reduceCtorEq, SV.v.injEq, Value.bool.injEq]
  rw [wrap64 (x := nearI r R * C) (by omega) (by omega), wrap64 (x := nearI r R * C + nearI c C) (by omega) (by omega)]
  have hm0 : 0 ≤ nearI r R * C + nearI c C := by omega
  generalize nearI r R * C + nearI c C = m at hix hm0 ⊢
  have hn0 : 0 < n := by omega
  have core : ∀ x Y : Int, 0 ≤ x → x < n → (∀ j < x.toNat, opP xs n m (byI b) j = false) → Y = opX n m (byI b) x →
      (0 ≤ Y ∧ Y < n) ∧ Y.toNat < n ∧ Y.toNat < n ∧
        ((xs.getD Y.toNat C4.no).gd = false → (1 ≤ C ∧ 0 ≤ Y ∧ Y ≤ 65025) ∧
          SV.t [SV.a [SV.v (Value.int IntKind.i64 (Y / ↑C.toNat)), SV.v (Value.int IntKind.i64 (Y % ↑C.toNat))], SV.v (Value.bool true)] = SV.t [SV.a [SV.v (Value.int IntKind.i64 (opR xs C.toNat n m (byI b))), SV.v (Value.int IntKind.i64 (opC xs C.toNat n m (byI b)))], SV.v (Value.bool (opB xs n m (byI b)))]) ∧
        ((xs.getD Y.toNat C4.no).gd = true → (0 ≤ IntKind.i64.wrap (x + 1) ∧ IntKind.i64.wrap (x + 1) ≤ n ∧ ∀ (j : Nat), j < (IntKind.i64.wrap (x + 1)).toNat → opP xs n m (byI b) j = false) ∧ ((n : Int) - IntKind.i64.wrap (x + 1)).toNat < ((n : Int) - x).toNat) := by
    intro x Y x0 x1 x2 hY
    have hbd := opX_bd hn0 m (byI b) x
    rw [← hY] at hbd
    have e1 : ((x.toNat : Nat) : Int) = x := by omega
    have hP : opP xs n m (byI b) x.toNat = !(xs.getD Y.toNat C4.no).gd := by rw [opP, e1, hY]
    rw [wrap64 (x := x + 1) (by omega) (by omega)]
    refine ⟨hbd, by omega, by omega, fun h => ⟨by omega, ?_⟩, fun h => ⟨⟨by omega, by omega, fun j hj => ?_⟩, by omega⟩⟩
    · have hS := opS_some (by omega) x2 (hP.trans (by rw [h]; rfl))
      rw [opR, opC, opB, hS]
      simp only [e1, Option.isSome, hY]
    · by_cases hj2 : j < x.toNat
      · exact x2 j hj2
      · rw [show j = x.toNat by omega, hP, h]; rfl
  refine ⟨⟨by omega, by omega, fun j hj => absurd hj (Nat.not_lt_zero j)⟩, fun x ⟨x0, x1, x2⟩ => ⟨fun x3 => ⟨by omega, fun h => ?_, fun h => ?_⟩, fun x3 => ?_⟩⟩
  · refine ⟨by omega, core x _ x0 x3 x2 ?_⟩
    rw [wrap64 (x := m - x) (by omega) (by omega), wrap64 (x := m - x + n) (by omega) (by omega), Int.tmod_eq_emod_of_nonneg (by omega), Int.add_emod_right, h]
    unfold opX byI
    rw [if_pos rfl, show m + x * -1 = m - x by omega]
  · refine core x _ x0 x3 x2 ?_
    rw [wrap64 (x := m + x) (by omega) (by omega), Int.tmod_eq_emod_of_nonneg (by omega), h]
    unfold opX byI
    rw [if_neg (by simp), Int.mul_one]
  · have hS := opS_none (xs := xs) (m := m) (b := byI b) (N := n) (fun j hj => x2 j (by omega))
    rw [opR, opC, opB, hS]
    simp only [Option.isSome]
end Go.Proofs.Ytdhhagangmkloaa

/- Layer 8: the document's answer: a cell is put to the first place that is not guarded. -/
namespace Go.Proofs.Ytdhhagangmkloaa
open Go Go.Sym
def mX (R C r c : Int) : Int := nearI r R * C + nearI c C
theorem guX_len (xs : List C4) (N : Nat) (m : Int) (x : C4) : (guX xs N m x).length = xs.length := by
  unfold guX; split
  · exact List.length_set
  · rfl
theorem guX_fw {R C : Int} {xs : List C4} {n : Nat} (hw : FW R C xs n) (m : Int) (x : C4) : FW R C (guX xs n m x) n :=
  ⟨hw.r0, hw.r1, hw.c0, hw.c1, by rw [guX_len, hw.len], hw.sz⟩
def lcRGuard : ACon Unit := mkLC (decP (shCons (shP 0) (shCons shPl (shOne shC))) (shRefF 0)) fun ((_, (r, c, p), x), ((R, C, ep), ⟨xs, n, ep2⟩)) => .ask (ep = ep2 ∧ FW R C xs n)
  (.one (.t [pl3 (guR xs C.toNat n (mX R C r c) x (nearI r R)) (guC xs C.toNat n (mX R C r c) x (nearI c C)) false, .v (.int .i64 (guE xs n (mX R C r c)))]) (refF 0 R C (guX xs n (mX R C r c) x) n ep) [1])
def tabR4 : List (Nat × ACon Unit) := (59, lcRFree) :: tabR3
theorem tabR4_ok : LCs Try.prog tabR4 := ⟨ok_rfree, tabR3_ok⟩
theorem ix_dv {R C : Int} {n : Nat} (h1 : 1 ≤ R) (h3 : 1 ≤ C) (hs : (n : Int) = R * C) {k : Int} (k0 : 0 ≤ k) (k1 : k < n) : 0 ≤ k / C ∧ k / C < R ∧ 0 ≤ k % C ∧ k % C < C :=
  ⟨Int.ediv_nonneg k0 (by omega), Int.ediv_lt_of_lt_mul (by omega) (by omega), Int.emod_nonneg _ (by omega), Int.emod_lt_of_pos _ (by omega)⟩
set_option maxHeartbeats 4000000 in
theorem ok_rguard : ∀ I : Sym.Inv Unit, LCOk I Try.prog 62 lcRGuard := by
  refine lc_mk (fun _ => allCfg Try.prog [] tabR4 0) (fun _ _ => allCfg_ok mixed trivial tabR4_ok) (fun _ => rfl) (n := 80) Try.func62 ?_
  intro ⟨⟨_, ⟨r, c, p⟩, x⟩, ⟨R, C, ep⟩, ⟨xs, n, ep2⟩⟩ hφ
  obtain ⟨⟨rfl, hw⟩, hp⟩ := id hφ
  refine kcast (B := (true = true ∧ (ep = ep ∧ FW R C xs n) ∧ br (!opB xs n (nearI r R * C + nearI c C) (1 : Int)) ((SV.t [SV.a [SV.v (Value.int IntKind.i64 (0 : Int)), SV.v (Value.int IntKind.i64 (0 : Int)), SV.v (Value.bool false)], SV.v (Value.int IntKind.i64 (15 : Int))] = SV.t [SV.a [SV.v (Value.int IntKind.i64 (guR xs C.toNat n (mX R C r c) x (nearI r R))), SV.v (Value.int IntKind.i64 (guC xs C.toNat n (mX R C r c) x (nearI c C))), SV.v (Value.bool false)], SV.v (Value.int IntKind.i64 (guE xs n (mX R C r c)))] ∧ True) ∧ (SV.v (Value.int IntKind.i64 R) = SV.v (Value.int IntKind.i64 R) ∧ SV.v (Value.int IntKind.i64 C) = SV.v (Value.int IntKind.i64 C) ∧ SV.h (1 : Nat) [ep, (0 : Nat)] = SV.h (1 : Nat) [ep, (0 : Nat)] ∧ True) ∧ (n = n ∧ ep = ep ∧ xs = guX xs n (mX R C r c) x) ∧ True) (rq (ep.beq ep && (true && decide ((0 : Int) ≤ IntKind.i64.wrap (IntKind.i64.wrap (opR xs C.toNat n (nearI r R * C + nearI c C) (1 : Int) * C) + opC xs C.toNat n (nearI r R * C + nearI c C) (1 : Int)) ∧ IntKind.i64.wrap (IntKind.i64.wrap (opR xs C.toNat n (nearI r R * C + nearI c C) (1 : Int) * C) + opC xs C.toNat n (nearI r R * C + nearI c C) (1 : Int)) < (↑n : Int)))) (rq (ep.beq ep && (IntKind.i64.wrap (IntKind.i64.wrap (opR xs C.toNat n (nearI r R * C + nearI c C) (1 : Int) * C) + opC xs C.toNat n (nearI r R * C + nearI c C) (1 : Int))).toNat.blt xs.length) (rq (ep.beq ep) (rq (decide ((↑n : Int) ≠ (0 : Int))) (true = true ∧ (ep = ep ∧ (1 : Int) ≤ C ∧ (0 : Int) ≤ (IntKind.i64.wrap (IntKind.i64.wrap (IntKind.i64.wrap (opR xs C.toNat n (nearI r R * C + nearI c C) (1 : Int) * C) + opC xs C.toNat n (nearI r R * C + nearI c C) (1 : Int)) + (1 : Int))).tmod (↑n : Int) ∧ (IntKind.i64.wrap (IntKind.i64.wrap (IntKind.i64.wrap (opR xs C.toNat n (nearI r R * C + nearI c C) (1 : Int) * C) + opC xs C.toNat n (nearI r R * C + nearI c C) (1 : Int)) + (1 : Int))).tmod (↑n : Int) ≤ (65025 : Int)) ∧ true = true ∧ (ep = ep ∧ FW R C (xs.set (IntKind.i64.wrap (IntKind.i64.wrap (opR xs C.toNat n (nearI r R * C + nearI c C) (1 : Int) * C) + opC xs C.toNat n (nearI r R * C + nearI c C) (1 : Int))).toNat (C4.mk x.g x.a x.gd x.m)) n) ∧ br (!opB (xs.set (IntKind.i64.wrap (IntKind.i64.wrap (opR xs C.toNat n (nearI r R * C + nearI c C) (1 : Int) * C) + opC xs C.toNat n (nearI r R * C + nearI c C) (1 : Int))).toNat (C4.mk x.g x.a x.gd x.m)) n (nearI ((IntKind.i64.wrap (IntKind.i64.wrap (IntKind.i64.wrap (opR xs C.toNat n (nearI r R * C + nearI c C) (1 : Int) * C) + opC xs C.toNat n (nearI r R * C + nearI c C) (1 : Int)) + (1 : Int))).tmod (↑n : Int) / (↑C.toNat : Int)) R * C + nearI ((IntKind.i64.wrap (IntKind.i64.wrap (IntKind.i64.wrap (opR xs C.toNat n (nearI r R * C + nearI c C) (1 : Int) * C) + opC xs C.toNat n (nearI r R * C + nearI c C) (1 : Int)) + (1 : Int))).tmod (↑n : Int) % (↑C.toNat : Int)) C) (1 : Int)) (true = true ∧ ep = ep ∧ true = true ∧ mayB R C = true ∧ (SV.t [SV.a [SV.v (Value.int IntKind.i64 (nearI r R)), SV.v (Value.int IntKind.i64 (nearI c C)), SV.v (Value.bool false)], SV.v (Value.int IntKind.i64 (0 : Int))] = SV.t [SV.a [SV.v (Value.int IntKind.i64 (guR xs C.toNat n (mX R C r c) x (nearI r R))), SV.v (Value.int IntKind.i64 (guC xs C.toNat n (mX R C r c) x (nearI c C))), SV.v (Value.bool false)], SV.v (Value.int IntKind.i64 (guE xs n (mX R C r c)))] ∧ True) ∧ (SV.v (Value.int IntKind.i64 R) = SV.v (Value.int IntKind.i64 R) ∧ SV.v (Value.int IntKind.i64 C) = SV.v (Value.int IntKind.i64 C) ∧ SV.h (1 : Nat) [ep, (0 : Nat)] = SV.h (1 : Nat) [ep, (0 : Nat)] ∧ True) ∧ (n = n ∧ ep = ep ∧ xs.set (IntKind.i64.wrap (IntKind.i64.wrap (opR xs C.toNat n (nearI r R * C + nearI c C) (1 : Int) * C) + opC xs C.toNat n (nearI r R * C + nearI c C) (1 : Int))).toNat (C4.mk x.g x.a x.gd x.m) = guX xs n (mX R C r c) x) ∧ True) ((SV.t [SV.a [SV.v (Value.int IntKind.i64 (opR (xs.set (IntKind.i64.wrap (IntKind.i64.wrap (opR xs C.toNat n (nearI r R * C + nearI c C) (1 : Int) * C) + opC xs C.toNat n (nearI r R * C + nearI c C) (1 : Int))).toNat (C4.mk x.g x.a x.gd x.m)) C.toNat n (nearI ((IntKind.i64.wrap (IntKind.i64.wrap (IntKind.i64.wrap (opR xs C.toNat n (nearI r R * C + nearI c C) (1 : Int) * C) + opC xs C.toNat n (nearI r R * C + nearI c C) (1 : Int)) + (1 : Int))).tmod (↑n : Int) / (↑C.toNat : Int)) R * C + nearI ((IntKind.i64.wrap (IntKind.i64.wrap (IntKind.i64.wrap (opR xs C.toNat n (nearI r R * C + nearI c C) (1 : Int) * C) + opC xs C.toNat n (nearI r R * C + nearI c C) (1 : Int)) + (1 : Int))).tmod (↑n : Int) % (↑C.toNat : Int)) C) (1 : Int))), SV.v (Value.int IntKind.i64 (opC (xs.set (IntKind.i64.wrap (IntKind.i64.wrap (opR xs C.toNat n (nearI r R * C + nearI c C) (1 : Int) * C) + opC xs C.toNat n (nearI r R * C + nearI c C) (1 : Int))).toNat (C4.mk x.g x.a x.gd x.m)) C.toNat n (nearI ((IntKind.i64.wrap (IntKind.i64.wrap (IntKind.i64.wrap (opR xs C.toNat n (nearI r R * C + nearI c C) (1 : Int) * C) + opC xs C.toNat n (nearI r R * C + nearI c C) (1 : Int)) + (1 : Int))).tmod (↑n : Int) / (↑C.toNat : Int)) R * C + nearI ((IntKind.i64.wrap (IntKind.i64.wrap (IntKind.i64.wrap (opR xs C.toNat n (nearI r R * C + nearI c C) (1 : Int) * C) + opC xs C.toNat n (nearI r R * C + nearI c C) (1 : Int)) + (1 : Int))).tmod (↑n : Int) % (↑C.toNat : Int)) C) (1 : Int))), SV.v (Value.bool false)], SV.v (Value.int IntKind.i64 (0 : Int))] = SV.t [SV.a [SV.v (Value.int IntKind.i64 (guR xs C.toNat n (mX R C r c) x (nearI r R))), SV.v (Value.int IntKind.i64 (guC xs C.toNat n (mX R C r c) x (nearI c C))), SV.v (Value.bool false)], SV.v (Value.int IntKind.i64 (guE xs n (mX R C r c)))] ∧ True) ∧ (SV.v (Value.int IntKind.i64 R) = SV.v (Value.int IntKind.i64 R) ∧ SV.v (Value.int IntKind.i64 C) = SV.v (Value.int IntKind.i64 C) ∧ SV.h (1 : Nat) [ep, (0 : Nat)] = SV.h (1 : Nat) [ep, (0 : Nat)] ∧ True) ∧ (n = n ∧ ep = ep ∧ xs.set (IntKind.i64.wrap (IntKind.i64.wrap (opR xs C.toNat n (nearI r R * C + nearI c C) (1 : Int) * C) + opC xs C.toNat n (nearI r R * C + nearI c C) (1 : Int))).toNat (C4.mk x.g x.a x.gd x.m) = guX xs n (mX R C r c) x) ∧ True)))))))) (by kernel_rfl) ?_
  clear hp hφ
  have eta : ∀ y : C4, C4.mk y.g y.a y.gd y.m = y := fun _ => rfl
  have h1 := hw.r0
  have h2 := hw.r1
  have h3 := hw.c0
  have h4 := hw.c1
  have hsz := hw.sz
  have hlen := hw.len
  have hm : mayB R C = true := by rw [mayB_iff]; omega
  obtain ⟨m3, m4⟩ := mul_bd (r := R) (C := C) (by omega) (by omega) (by omega) (by omega)
  have hn0 : 0 < n := by
    have : 1 * 1 ≤ R * C := Int.mul_le_mul h1 h3 (by omega) (by omega)
    omega
  have hb : byI false = 1 := rfl
  have hmX : nearI r R * C + nearI c C = mX R C r c := rfl
  obtain ⟨f0, f1⟩ := fuX_bd hn0 xs (mX R C r c)
  have hfd := ix_dv h1 h3 hsz f0 f1
  have hg := guX_fw hw (mX R C r c) x
  obtain ⟨D, rfl⟩ : ∃ D : Nat, C = D := ⟨C.toNat, by omega⟩
  have i2 : opR xs D n (mX R D r c) 1 * D + opC xs D n (mX R D r c) 1 = fuX xs n (mX R D r c) := by rw [opR_fu, opC_fu]; exact Int.ediv_mul_add_emod _ _
  have i3 : 0 ≤ opR xs D n (mX R D r c) 1 * D ∧ opR xs D n (mX R D r c) 1 * D ≤ 65025 := by
    rw [opR_fu]; exact mul_bd hfd.1 (by omega) (by omega) (by omega)
  have hK : (IntKind.i64.wrap (fuX xs n (mX R D r c) + 1)).tmod n = guK xs n (mX R D r c) := by
    rw [wrap64 (x := fuX xs n (mX R D r c) + 1) (by omega) (by omega), Int.tmod_eq_emod_of_nonneg (by omega)]; rfl
  have hkb : 0 ≤ guK xs n (mX R D r c) ∧ guK xs n (mX R D r c) < n := by
    unfold guK
    exact ⟨Int.emod_nonneg _ (by omega), Int.emod_lt_of_pos _ (by omega)⟩
  have hkd := ix_dv h1 h3 hsz hkb.1 hkb.2
  have hA : nearI (guK xs n (mX R D r c) / D) R * D + nearI (guK xs n (mX R D r c) % D) D = guK xs n (mX R D r c) := by
    rw [near_in hkd.1 hkd.2.1, near_in hkd.2.2.1 hkd.2.2.2]; exact Int.ediv_mul_add_emod _ _
  simp only [eta, hb, hmX, Int.toNat_natCast]
  rw [wrap64 (x := opR xs D n (mX R D r c) 1 * D) (by omega) (by omega), wrap64 (x := opR xs D n (mX R D r c) 1 * D + opC xs D n (mX R D r c) 1) (by omega) (by omega), i2, hK, hA]
  have hc1 : (1 : Int) ≤ D := h3
  cases hB : opB xs n (mX R D r c) 1
  · simp [br_iff, guR, guC, guE, guX, hB, hw]
  · have hF : xs.set (fuX xs n (mX R D r c)).toNat x = guX xs n (mX R D r c) x := by rw [guX, if_pos hB]
    rw [hF]
    have hl2 : (guX xs n (mX R D r c) x).length = n := by rw [guX_len, hlen]
    cases hB2 : opB (guX xs n (mX R D r c) x) n (guK xs n (mX R D r c)) 1 <;>
      simp only [br_iff, rq_iff, nbeq, guR, guC, guE, hB, hB2, hw, hg, hm, hl2, hlen, Bool.not_true, Bool.not_false, Bool.and_true, Bool.true_and, Bool.and_eq_true, Nat.ble_eq, Nat.blt_eq, decide_eq_true_eq, ne_eq, Bool.false_eq_true, Bool.true_eq_false, false_implies, true_implies, true_and, and_true, if_true, if_false, and_self, implies_true] <;> omega
end Go.Proofs.Ytdhhagangmkloaa

