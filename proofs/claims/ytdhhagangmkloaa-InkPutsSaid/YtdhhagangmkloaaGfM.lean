/- Texts GfA, GfB, GfC, GfD in one. -/
import Derived.Test.YtdhhagangmkloaaGcJ
import Derived.Test.YtdhhagangmkloaaGeE
set_option linter.unusedSimpArgs false
set_option linter.unusedVariables false
set_option linter.unusedSectionVars false
/- Layer 8: where a glyph is to be put, contracts. -/
namespace Go.Sym
open Go
def itEp (b : SB Unit) : Nat := match b with
  | .rows _ _ _ _ ep _ => ep
  | _ => 0
def xE (H : List (SB Unit)) (b : Nat) : Nat := match H[b]? with
  | some it => itEp it
  | none => 0
end Go.Sym
namespace Go.Proofs.Ytdhhagangmkloaa
open Go Go.Sym

abbrev p2 (r c : Int) : SV := .a [.v (.int .i64 r), .v (.int .i64 c)]
abbrev pl3 (r c : Int) (p : Bool) : SV := .a [.v (.int .i64 r), .v (.int .i64 c), .v (.bool p)]
theorem near_bd {x n : Int} (h : 1 ≤ n) : 0 ≤ nearI x n ∧ nearI x n < n := by
  unfold nearI
  split <;> (try split) <;> omega
theorem near_in {x n : Int} (h0 : 0 ≤ x) (h1 : x < n) : nearI x n = x := by
  unfold nearI
  split <;> (try split) <;> omega
def lcNearIn : ACon Unit := mkLC (decP (shCons shI2 (shOne shI2)) shHNil) fun (((a, b), (r, c)), _) => .ask (mayB a b = true) (.one (p2 (nearI r a) (nearI c b)) [] [])
theorem ok_nearIn : ∀ I : Sym.Inv Unit, LCOk I Try.prog 95 lcNearIn := fun I => lc_mono (fun args H hp => by
  unfold lcNearIn mkLC at hp ⊢
  unfold lcNear mkLC
  split at hp
  · rename_i a ha
    obtain ⟨⟨⟨a, b⟩, ⟨r, c⟩⟩, _⟩ := a
    refine ⟨⟨fun _ => trivial, fun _ => trivial⟩, fun x H' ws hh => ?_⟩
    rcases hh with ⟨_, h⟩ | ⟨h1, _⟩
    · exact h
    · rw [hp.1] at h1; cases h1
  · exact hp.elim) (ok_near I)
def nxR (r a : Int) : Int := if a - 1 < r + 1 then a - 1 else r + 1
theorem nxR_bd {r a : Int} (h : 1 ≤ a) (h0 : 0 ≤ r) : 0 ≤ nxR r a ∧ nxR r a < a := by
  unfold nxR; split <;> omega
def lcNext : ACon Unit := mkLC (decP (shCons shI2 (shOne shI2)) shHNil) fun (((a, b), (r, c)), _) => .ask (mayB a b = true ∧ 0 ≤ r ∧ r < a) (.one (.t [p2 (nxR r a) 0, .v (.bool (nxR r a == r))]) [] [])
set_option maxHeartbeats 4000000 in
theorem ok_next : ∀ I : Sym.Inv Unit, LCOk I Try.prog 96 lcNext := by
  refine lc_mk (fun _ => allCfg Try.prog [] [] 0) (fun _ _ => allCfg_ok mixed trivial trivial) (fun _ => rfl) (n := 60) Try.func96 ?_
  intro ⟨⟨⟨a, b⟩, ⟨r, c⟩⟩, _⟩ hφ
  obtain ⟨⟨hm, h0, h1⟩, hp⟩ := id hφ
  refine kcast (B := ((SV.t [SV.a [SV.v (Value.int IntKind.i64 (if IntKind.i64.wrap (a - (1 : Int)) < IntKind.i64.wrap (r + (1 : Int)) then IntKind.i64.wrap (a - (1 : Int)) else IntKind.i64.wrap (r + (1 : Int)))), SV.v (Value.int IntKind.i64 (0 : Int))], SV.v (Value.bool ((if IntKind.i64.wrap (a - (1 : Int)) < IntKind.i64.wrap (r + (1 : Int)) then IntKind.i64.wrap (a - (1 : Int)) else IntKind.i64.wrap (r + (1 : Int))) == r))] = SV.t [SV.a [SV.v (Value.int IntKind.i64 (nxR r a)), SV.v (Value.int IntKind.i64 (0 : Int))], SV.v (Value.bool (nxR r a == r))] ∧ True) ∧ True)) (by kernel_rfl) ?_
  clear hp hφ
  rw [mayB_iff] at hm
  rw [wrap64 (x := r + 1) (by omega) (by omega), wrap64 (x := a - 1) (by omega) (by omega)]
  simp [nxR]
def ahR (a r : Int) (p : Bool) : Int := if p = true then nxR (nearI r a) a else nearI r a
def ahC (b c : Int) (p : Bool) : Int := if p = true then 0 else nearI c b
def ahU (a r : Int) (p : Bool) : Bool := p && (nxR (nearI r a) a == nearI r a)
def tabF1 : List (Nat × ACon Unit) := (95, lcNearIn) :: (96, lcNext) :: (109, lcNear1) :: (74, lcMay) :: []
theorem tabF1_ok : LCs Try.prog tabF1 := ⟨ok_nearIn, ok_next, ok_near1, ok_may, trivial⟩
def lcAheadW : ACon Unit := mkLC (decP (shCons shI2 (shOne shPl)) shHNil) fun (((a, b), (r, c, p)), _) => .ask (mayB a b = true) (.one (.t [p2 (ahR a r p) (ahC b c p), .v (.bool (ahU a r p))]) [] [])
set_option maxHeartbeats 4000000 in
theorem ok_aheadW : ∀ I : Sym.Inv Unit, LCOk I Try.prog 64 lcAheadW := by
  refine lc_mk (fun _ => allCfg Try.prog [] tabF1 0) (fun _ _ => allCfg_ok mixed trivial tabF1_ok) (fun _ => rfl) (n := 60) Try.func64 ?_
  intro ⟨⟨⟨a, b⟩, ⟨r, c, p⟩⟩, _⟩ hφ
  obtain ⟨hm, hp⟩ := id hφ
  refine kcast (B := (true = true ∧ mayB a b = true ∧ br (!p) ((SV.t [SV.a [SV.v (Value.int IntKind.i64 (nearI r a)), SV.v (Value.int IntKind.i64 (nearI c b))], SV.v (Value.bool false)] = SV.t [SV.a [SV.v (Value.int IntKind.i64 (ahR a r p)), SV.v (Value.int IntKind.i64 (ahC b c p))], SV.v (Value.bool (ahU a r p))] ∧ True) ∧ True) (true = true ∧ br (mayB a b) (true = true ∧ (mayB a b = true ∧ (0 : Int) ≤ nearI r a ∧ nearI r a < a) ∧ (SV.t [SV.a [SV.v (Value.int IntKind.i64 (nxR (nearI r a) a)), SV.v (Value.int IntKind.i64 (0 : Int))], SV.v (Value.bool (nxR (nearI r a) a == nearI r a))] = SV.t [SV.a [SV.v (Value.int IntKind.i64 (ahR a r p)), SV.v (Value.int IntKind.i64 (ahC b c p))], SV.v (Value.bool (ahU a r p))] ∧ True) ∧ True) ((SV.t [SV.a [SV.v (Value.int IntKind.i64 (nearI r a)), SV.v (Value.int IntKind.i64 (nearI c b))], SV.v (Value.bool false)] = SV.t [SV.a [SV.v (Value.int IntKind.i64 (ahR a r p)), SV.v (Value.int IntKind.i64 (ahC b c p))], SV.v (Value.bool (ahU a r p))] ∧ True) ∧ True)))) (by kernel_rfl) ?_
  clear hp hφ
  have hm' := mayB_iff.1 hm
  have hb := near_bd (x := r) hm'.1
  cases p <;> simp [br_iff, hm, ahR, ahC, ahU, hb]
def bhIn (b c : Int) : Bool := decide (nearI c b < b - 1)
def bhR (a b r c w : Int) : Int := if bhIn b c = true then nearI r a else if w = 2 then nxR (nearI r a) a else nearI r a
def bhC (a b r c w : Int) : Int := if bhIn b c = true then nearI c b + 1 else if w = 2 then 0 else nearI c b
def bhP (a b r c w : Int) : Bool := !bhIn b c && (!(w == 1) && !(w == 2))
def bhU (a b r c w : Int) : Bool := !bhIn b c && ((w == 2) && (nxR (nearI r a) a == nearI r a))
def lcBehind : ACon Unit := mkLC (decP (shCons shI2 (shCons shI2 (shOne shI))) shHNil) fun (((a, b), (r, c), w), _) => .ask (mayB a b = true) (.one (.t [pl3 (bhR a b r c w) (bhC a b r c w) (bhP a b r c w), .v (.bool (bhU a b r c w))]) [] [])
set_option maxHeartbeats 4000000 in
theorem ok_behind : ∀ I : Sym.Inv Unit, LCOk I Try.prog 82 lcBehind := by
  refine lc_mk (fun _ => allCfg Try.prog [] tabF1 0) (fun _ _ => allCfg_ok mixed trivial tabF1_ok) (fun _ => rfl) (n := 60) Try.func82 ?_
  intro ⟨⟨⟨a, b⟩, ⟨r, c⟩, w⟩, _⟩ hφ
  obtain ⟨hm, hp⟩ := id hφ
  refine kcast (B := (true = true ∧ br (mayB a b) (true = true ∧ mayB a b = true ∧ br (decide (nearI c b < IntKind.i64.wrap (b - (1 : Int)))) ((SV.t [SV.a [SV.v (Value.int IntKind.i64 (nearI r a)), SV.v (Value.int IntKind.i64 (IntKind.i64.wrap (nearI c b + (1 : Int)))), SV.v (Value.bool false)], SV.v (Value.bool false)] = SV.t [SV.a [SV.v (Value.int IntKind.i64 (bhR a b r c w)), SV.v (Value.int IntKind.i64 (bhC a b r c w)), SV.v (Value.bool (bhP a b r c w))], SV.v (Value.bool (bhU a b r c w))] ∧ True) ∧ True) (br (w == (1 : Int)) ((SV.t [SV.a [SV.v (Value.int IntKind.i64 (nearI r a)), SV.v (Value.int IntKind.i64 (nearI c b)), SV.v (Value.bool false)], SV.v (Value.bool false)] = SV.t [SV.a [SV.v (Value.int IntKind.i64 (bhR a b r c w)), SV.v (Value.int IntKind.i64 (bhC a b r c w)), SV.v (Value.bool (bhP a b r c w))], SV.v (Value.bool (bhU a b r c w))] ∧ True) ∧ True) (br (w == (2 : Int)) (true = true ∧ (mayB a b = true ∧ (0 : Int) ≤ nearI r a ∧ nearI r a < a) ∧ (SV.t [SV.a [SV.v (Value.int IntKind.i64 (nxR (nearI r a) a)), SV.v (Value.int IntKind.i64 (0 : Int)), SV.v (Value.bool false)], SV.v (Value.bool (nxR (nearI r a) a == nearI r a))] = SV.t [SV.a [SV.v (Value.int IntKind.i64 (bhR a b r c w)), SV.v (Value.int IntKind.i64 (bhC a b r c w)), SV.v (Value.bool (bhP a b r c w))], SV.v (Value.bool (bhU a b r c w))] ∧ True) ∧ True) ((SV.t [SV.a [SV.v (Value.int IntKind.i64 (nearI r a)), SV.v (Value.int IntKind.i64 (nearI c b)), SV.v (Value.bool true)], SV.v (Value.bool false)] = SV.t [SV.a [SV.v (Value.int IntKind.i64 (bhR a b r c w)), SV.v (Value.int IntKind.i64 (bhC a b r c w)), SV.v (Value.bool (bhP a b r c w))], SV.v (Value.bool (bhU a b r c w))] ∧ True) ∧ True)))) ((SV.t [SV.a [SV.v (Value.int IntKind.i64 (0 : Int)), SV.v (Value.int IntKind.i64 (0 : Int)), SV.v (Value.bool false)], SV.v (Value.bool false)] = SV.t [SV.a [SV.v (Value.int IntKind.i64 (bhR a b r c w)), SV.v (Value.int IntKind.i64 (bhC a b r c w)), SV.v (Value.bool (bhP a b r c w))], SV.v (Value.bool (bhU a b r c w))] ∧ True) ∧ True))) (by kernel_rfl) ?_
  clear hp hφ
  have hm' := mayB_iff.1 hm
  have hb := near_bd (x := r) hm'.1
  have hc := near_bd (x := c) (n := b) hm'.2.2.1
  rw [wrap64 (x := b - 1) (by omega) (by omega), wrap64 (x := nearI c b + 1) (by omega) (by omega)]
  by_cases h1 : nearI c b < b - 1
  · simp [br_iff, hm, bhR, bhC, bhP, bhU, bhIn, h1]
  · by_cases h2 : w = 1
    · subst h2; simp [br_iff, hm, bhR, bhC, bhP, bhU, bhIn, h1]
    · by_cases h3 : w = 2
      · subst h3; simp [br_iff, hm, bhR, bhC, bhP, bhU, bhIn, h1, hb]
      · simp [br_iff, hm, bhR, bhC, bhP, bhU, bhIn, h1, h2, h3]
def lcIdx : ACon Unit := mkLC (decP (shCons shI2 (shOne shI2)) shHNil) fun (((a, b), (r, c)), _) => .ask (mayB a b = true ∧ inD a b r c = true) (.one (.t [.v (.int .i64 (r * b + c)), .v (.int .i64 0)]) [] [])
set_option maxHeartbeats 4000000 in
theorem ok_idx : ∀ I : Sym.Inv Unit, LCOk I Try.prog 93 lcIdx := by
  refine lc_mk (fun _ => allCfg Try.prog [] tabF1 0) (fun _ _ => allCfg_ok mixed trivial tabF1_ok) (fun _ => rfl) (n := 60) Try.func93 ?_
  intro ⟨⟨⟨a, b⟩, ⟨r, c⟩⟩, _⟩ hφ
  obtain ⟨⟨hm, hi⟩, hp⟩ := id hφ
  refine kcast (B := (true = true ∧ br (mayB a b) (true = true ∧ mayB a b = true ∧ br (!(nearI r a == r && (nearI c b == c && true))) ((SV.t [SV.v (Value.int IntKind.i64 (0 : Int)), SV.v (Value.int IntKind.i64 (11 : Int))] = SV.t [SV.v (Value.int IntKind.i64 (r * b + c)), SV.v (Value.int IntKind.i64 (0 : Int))] ∧ True) ∧ True) ((SV.t [SV.v (Value.int IntKind.i64 (IntKind.i64.wrap (IntKind.i64.wrap (r * b) + c))), SV.v (Value.int IntKind.i64 (0 : Int))] = SV.t [SV.v (Value.int IntKind.i64 (r * b + c)), SV.v (Value.int IntKind.i64 (0 : Int))] ∧ True) ∧ True)) ((SV.t [SV.v (Value.int IntKind.i64 (0 : Int)), SV.v (Value.int IntKind.i64 (10 : Int))] = SV.t [SV.v (Value.int IntKind.i64 (r * b + c)), SV.v (Value.int IntKind.i64 (0 : Int))] ∧ True) ∧ True))) (by kernel_rfl) ?_
  clear hp hφ
  have hm' := mayB_iff.1 hm
  have hi' := inD_iff.1 hi
  obtain ⟨m1, m2⟩ := mul_bd (r := r) (C := b) (by omega) (by omega) (by omega) (by omega)
  rw [wrap64 (x := r * b) (by omega) (by omega), wrap64 (x := r * b + c) (by omega) (by omega), near_in hi'.1 hi'.2.1, near_in hi'.2.2.1 hi'.2.2.2]
  simp [br_iff, hm]
def lcOf : ACon Unit := mkLC (decP (shCons shI2 (shOne shI)) shHNil) fun (((a, b), n), _) => .ask (mayB a b = true ∧ 0 ≤ n ∧ n < a * b) (.one (.t [p2 (n / b) (n % b), .v (.int .i64 0)]) [] [])
set_option maxHeartbeats 4000000 in
theorem ok_of : ∀ I : Sym.Inv Unit, LCOk I Try.prog 94 lcOf := by
  refine lc_mk (fun _ => allCfg Try.prog [] tabF1 0) (fun _ _ => allCfg_ok mixed trivial tabF1_ok) (fun _ => rfl) (n := 60) Try.func94 ?_
  intro ⟨⟨⟨a, b⟩, n⟩, _⟩ hφ
  obtain ⟨⟨hm, h0, h1⟩, hp⟩ := id hφ
  refine kcast (B := (true = true ∧ br (mayB a b) (br (decide (n < (0 : Int))) ((SV.t [SV.a [SV.v (Value.int IntKind.i64 (0 : Int)), SV.v (Value.int IntKind.i64 (0 : Int))], SV.v (Value.int IntKind.i64 (11 : Int))] = SV.t [SV.a [SV.v (Value.int IntKind.i64 (n / b)), SV.v (Value.int IntKind.i64 (n % b))], SV.v (Value.int IntKind.i64 (0 : Int))] ∧ True) ∧ True) (br (decide (n ≥ IntKind.i64.wrap (a * b))) ((SV.t [SV.a [SV.v (Value.int IntKind.i64 (0 : Int)), SV.v (Value.int IntKind.i64 (0 : Int))], SV.v (Value.int IntKind.i64 (11 : Int))] = SV.t [SV.a [SV.v (Value.int IntKind.i64 (n / b)), SV.v (Value.int IntKind.i64 (n % b))], SV.v (Value.int IntKind.i64 (0 : Int))] ∧ True) ∧ True) (rq (decide (b ≠ (0 : Int))) (rq (decide (b ≠ (0 : Int))) ((SV.t [SV.a [SV.v (Value.int IntKind.i64 (IntKind.i64.wrap (n.tdiv b))), SV.v (Value.int IntKind.i64 (n.tmod b))], SV.v (Value.int IntKind.i64 (0 : Int))] = SV.t [SV.a [SV.v (Value.int IntKind.i64 (n / b)), SV.v (Value.int IntKind.i64 (n % b))], SV.v (Value.int IntKind.i64 (0 : Int))] ∧ True) ∧ True))))) ((SV.t [SV.a [SV.v (Value.int IntKind.i64 (0 : Int)), SV.v (Value.int IntKind.i64 (0 : Int))], SV.v (Value.int IntKind.i64 (10 : Int))] = SV.t [SV.a [SV.v (Value.int IntKind.i64 (n / b)), SV.v (Value.int IntKind.i64 (n % b))], SV.v (Value.int IntKind.i64 (0 : Int))] ∧ True) ∧ True))) (by kernel_rfl) ?_
  clear hp hφ
  have hm' := mayB_iff.1 hm
  have hd := Int.ediv_le_self b h0
  have hd0 : 0 ≤ n / b := Int.ediv_nonneg h0 (by omega)
  have hb1 : (a * b : Int) ≤ 1073741824 := by
    have : a * b ≤ 32768 * 32768 := Int.mul_le_mul (by omega) (by omega) (by omega) (by omega)
    omega
  rw [wrap64 (x := a * b) (by omega) (by omega), Int.tdiv_eq_ediv_of_nonneg h0, Int.tmod_eq_emod_of_nonneg h0, wrap64 (x := n / b) (by omega) (by omega)]
  have hb0 : b ≠ 0 := by omega
  simp [br_iff, rq, hm, hb0, Int.not_lt.2 h0, Int.not_le.2 h1]
end Go.Proofs.Ytdhhagangmkloaa

/- Layer 8: a cell is put where the cursor is, contracts of the program and of the document's answer. -/
namespace Go.Proofs.Ytdhhagangmkloaa
open Go Go.Sym

def riL (l : List (List C4)) (p : Bool) (x : C4) : List (List C4) := if p = true then upF l 1 x else l
def riN (p : Bool) : Int := if p = true then 1 else 0
def riE (p : Bool) (ep : Nat) : Nat := if p = true then ep + 1 else ep
def lcRiseU : ACon Unit := mkLC (decP (shCons (shP 0) (shCons shB (shOne shC))) shG) fun ((_, p, x), (oe, ⟨l, oe2, ep⟩)) => .ask (oe = oe2 ∧ GW l) (.one (.v (.int .i64 (riN p))) (gbi 0 oe (riE p ep) (riL l p x)) [1])
theorem ok_riseU : ∀ I : Sym.Inv Unit, LCOk I Try.prog 81 lcRiseU := fun I => lc_mono (fun args H hp => by
  unfold lcRiseU mkLC at hp ⊢
  unfold lcRise mkLC
  split at hp
  · rename_i a ha
    obtain ⟨⟨_, p, x⟩, oe, l, oe2, ep⟩ := a
    refine ⟨⟨hp.1, ⟨fun _ => trivial, fun _ => trivial⟩⟩, fun x H' ws hh => ?_⟩
    rcases hh with ⟨h1, h⟩ | ⟨h1, h⟩ <;> (subst h1; exact h)
  · exact hp.elim) (ok_rise I)
def lcSetIn : ACon Unit := mkLC (decP (shCons (shP 0) (shCons shI2 (shOne shC))) shG) fun ((_, (r, c), x), (oe, ⟨l, oe2, ep⟩)) => .ask (oe = oe2 ∧ GW l ∧ inB l r c = true) (.one (.v (.int .i64 0)) (gbi 0 oe ep (set2 l r c x)) [1])
theorem ok_setIn : ∀ I : Sym.Inv Unit, LCOk I Try.prog 65 lcSetIn := fun I => lc_mono (fun args H hp => by
  unfold lcSetIn mkLC at hp ⊢
  unfold lcSet1 mkLC
  split at hp
  · rename_i a ha
    obtain ⟨⟨_, ⟨r, c⟩, x⟩, oe, l, oe2, ep⟩ := a
    refine ⟨⟨⟨hp.1.1, hp.1.2.1⟩, ⟨fun _ => trivial, fun _ => trivial⟩⟩, fun x H' ws hh => ?_⟩
    rcases hh with ⟨_, h⟩ | ⟨h1, _⟩
    · exact h
    · rw [hp.1.2.2] at h1; cases h1
  · exact hp.elim) (ok_set1 I)
theorem riL_gw {l : List (List C4)} (hg : GW l) (p : Bool) (x : C4) : GW (riL l p x) ∧ (riL l p x).length = l.length ∧ nC (riL l p x) = nC l := by
  unfold riL
  split
  · exact upF_gw hg 1 x
  · exact ⟨hg, rfl, rfl⟩
/-- Where a glyph is put, of a board of so many rows and columns. -/
def puR (a r : Int) (p : Bool) : Int := ahR a r p
theorem ah_bd {a b r c : Int} {p : Bool} (ha : 1 ≤ a) (hb : 1 ≤ b) : 0 ≤ ahR a r p ∧ ahR a r p < a ∧ 0 ≤ ahC b c p ∧ ahC b c p < b := by
  have h1 := near_bd (x := r) ha
  have h2 := near_bd (x := c) hb
  have h3 := nxR_bd ha h1.1
  unfold ahR ahC
  split <;> omega
def puL1 (l : List (List C4)) (r c : Int) (p : Bool) (x y : C4) : List (List C4) :=
  set2 (riL l (ahU l.length r p) y) (ahR l.length r p) (ahC (nC l) c p) x
def puU (l : List (List C4)) (r c : Int) (p : Bool) (w : Int) : Bool := bhU l.length (nC l) (ahR l.length r p) (ahC (nC l) c p) w
def puL (l : List (List C4)) (r c : Int) (p : Bool) (x : C4) (w : Int) (y : C4) : List (List C4) := riL (puL1 l r c p x y) (puU l r c p w) y
def puPl (a b r c : Int) (p : Bool) (w : Int) : SV := pl3 (bhR a b (ahR a r p) (ahC b c p) w) (bhC a b (ahR a r p) (ahC b c p) w) (bhP a b (ahR a r p) (ahC b c p) w)
def puN (a b r c : Int) (p : Bool) (w : Int) : Int := riN (ahU a r p) + riN (bhU a b (ahR a r p) (ahC b c p) w)
def tabF2 : List (Nat × ACon Unit) := (64, lcAheadW) :: (82, lcBehind) :: (81, lcRiseU) :: (65, lcSetIn) :: (63, lcSize1) :: tabF1
theorem tabF2_ok : LCs Try.prog tabF2 := ⟨ok_aheadW, ok_behind, ok_riseU, ok_setIn, ok_size1, tabF1_ok⟩
def lcPut : ACon Unit := mkLC (decP (shCons (shP 0) (shCons shPl (shCons shC (shCons shI (shOne shC))))) shG) fun ((_, (r, c, p), x, w, y), (oe, ⟨l, oe2, ep⟩)) => .ask (oe = oe2 ∧ GW l)
  (.one (.t [puPl l.length (nC l) r c p w, .v (.int .i64 (puN l.length (nC l) r c p w)), .v (.int .i64 0)]) (gbi 0 oe (riE (puU l r c p w) (riE (ahU l.length r p) ep)) (puL l r c p x w y)) [1])
theorem puL1_gw {l : List (List C4)} (hg : GW l) (r c : Int) (p : Bool) (x y : C4) : inB (riL l (ahU l.length r p) y) (ahR l.length r p) (ahC (nC l) c p) = true ∧ GW (puL1 l r c p x y) ∧ (puL1 l r c p x y).length = l.length ∧ nC (puL1 l r c p x y) = nC l := by
  obtain ⟨g1, g2, g3⟩ := riL_gw hg (ahU l.length r p) y
  have h0 := hg.r0
  have h1 := hg.c0
  have hb := ah_bd (a := l.length) (b := nC l) (r := r) (c := c) (p := p) (by omega) (by omega)
  have hi : inB (riL l (ahU l.length r p) y) (ahR l.length r p) (ahC (nC l) c p) = true := by rw [inB_iff, g2, g3]; omega
  refine ⟨hi, ?_⟩
  unfold puL1
  rw [inB_iff] at hi
  rw [set2_eq g1 hi.1 hi.2.1 hi.2.2.1 hi.2.2.2, g2, g3]
  exact ⟨gridF_gw hg.r0 hg.r1 hg.c0 hg.c1, gridF_length _ _ _, gridF_nC (by omega)⟩
theorem riN_bd (p : Bool) : 0 ≤ riN p ∧ riN p ≤ 1 := by unfold riN; split <;> omega
set_option maxHeartbeats 4000000 in
theorem ok_put : ∀ I : Sym.Inv Unit, LCOk I Try.prog 46 lcPut := by
  refine lc_mk (fun _ => allCfg Try.prog [] tabF2 0) (fun _ _ => allCfg_ok mixed trivial tabF2_ok) (fun _ => rfl) (n := 80) Try.func46 ?_
  intro ⟨⟨_, ⟨r, c, p⟩, x, w, y⟩, ⟨oe, ⟨l, oe2, ep⟩⟩⟩ hφ
  obtain ⟨⟨rfl, hg⟩, hp⟩ := id hφ
  refine kcast (B := (true = true ∧ (oe = oe ∧ GW l) ∧ true = true ∧ mayB (↑l.length : Int) (↑(nC l) : Int) = true ∧ true = true ∧ (oe = oe ∧ GW l) ∧ true = true ∧ (oe = oe ∧ GW (riL l (ahU (↑l.length : Int) r p) (C4.mk y.g y.a y.gd y.m)) ∧ inB (riL l (ahU (↑l.length : Int) r p) (C4.mk y.g y.a y.gd y.m)) (ahR (↑l.length : Int) r p) (ahC (↑(nC l) : Int) c p) = true) ∧ true = true ∧ mayB (↑l.length : Int) (↑(nC l) : Int) = true ∧ true = true ∧ (oe = oe ∧ GW (set2 (riL l (ahU (↑l.length : Int) r p) (C4.mk y.g y.a y.gd y.m)) (ahR (↑l.length : Int) r p) (ahC (↑(nC l) : Int) c p) (C4.mk x.g x.a x.gd x.m))) ∧ (SV.t [SV.a [SV.v (Value.int IntKind.i64 (bhR (↑l.length : Int) (↑(nC l) : Int) (ahR (↑l.length : Int) r p) (ahC (↑(nC l) : Int) c p) w)), SV.v (Value.int IntKind.i64 (bhC (↑l.length : Int) (↑(nC l) : Int) (ahR (↑l.length : Int) r p) (ahC (↑(nC l) : Int) c p) w)), SV.v (Value.bool (bhP (↑l.length : Int) (↑(nC l) : Int) (ahR (↑l.length : Int) r p) (ahC (↑(nC l) : Int) c p) w))], SV.v (Value.int IntKind.i64 (IntKind.i64.wrap (riN (ahU (↑l.length : Int) r p) + riN (bhU (↑l.length : Int) (↑(nC l) : Int) (ahR (↑l.length : Int) r p) (ahC (↑(nC l) : Int) c p) w)))), SV.v (Value.int IntKind.i64 (0 : Int))] = SV.t [SV.a [SV.v (Value.int IntKind.i64 (bhR (↑l.length : Int) (↑(nC l) : Int) (ahR (↑l.length : Int) r p) (ahC (↑(nC l) : Int) c p) w)), SV.v (Value.int IntKind.i64 (bhC (↑l.length : Int) (↑(nC l) : Int) (ahR (↑l.length : Int) r p) (ahC (↑(nC l) : Int) c p) w)), SV.v (Value.bool (bhP (↑l.length : Int) (↑(nC l) : Int) (ahR (↑l.length : Int) r p) (ahC (↑(nC l) : Int) c p) w))], SV.v (Value.int IntKind.i64 (puN (↑l.length : Int) (↑(nC l) : Int) r c p w)), SV.v (Value.int IntKind.i64 (0 : Int))] ∧ True) ∧ (SV.h (1 : Nat) [oe, (0 : Nat)] = SV.h (1 : Nat) [oe, (0 : Nat)] ∧ True) ∧ (oe = oe ∧ riE (bhU (↑l.length : Int) (↑(nC l) : Int) (ahR (↑l.length : Int) r p) (ahC (↑(nC l) : Int) c p) w) (riE (ahU (↑l.length : Int) r p) ep) = riE (puU l r c p w) (riE (ahU (↑l.length : Int) r p) ep) ∧ riL (set2 (riL l (ahU (↑l.length : Int) r p) (C4.mk y.g y.a y.gd y.m)) (ahR (↑l.length : Int) r p) (ahC (↑(nC l) : Int) c p) (C4.mk x.g x.a x.gd x.m)) (bhU (↑l.length : Int) (↑(nC l) : Int) (ahR (↑l.length : Int) r p) (ahC (↑(nC l) : Int) c p) w) (C4.mk y.g y.a y.gd y.m) = puL l r c p x w y) ∧ True)) (by kernel_rfl) ?_
  clear hp hφ
  have eta : ∀ y : C4, C4.mk y.g y.a y.gd y.m = y := fun _ => rfl
  simp only [eta]
  have h0 := hg.r0
  have h1 := hg.c0
  have hm : mayB l.length (nC l) = true := by
    have := hg.r1
    have := hg.c1
    rw [mayB_iff]; omega
  obtain ⟨g1, g2, g3⟩ := riL_gw hg (ahU l.length r p) y
  obtain ⟨p1, p2, p3, p4⟩ := puL1_gw hg r c p x y
  have n1 := riN_bd (ahU l.length r p)
  have n2 := riN_bd (bhU l.length (nC l) (ahR l.length r p) (ahC (nC l) c p) w)
  rw [wrap64 (x := riN (ahU l.length r p) + riN (bhU l.length (nC l) (ahR l.length r p) (ahC (nC l) c p) w)) (by omega) (by omega)]
  simp [br_iff, hg, hm, g1, g2, g3, p1, show GW (set2 (riL l (ahU l.length r p) y) (ahR l.length r p) (ahC (nC l) c p) x) from p2, puL, puU, puN, puL1]
end Go.Proofs.Ytdhhagangmkloaa

/- Layer 8: the document's answer: a cell is put. -/
namespace Go.Proofs.Ytdhhagangmkloaa
open Go Go.Sym

def lcRNear1 : ACon Unit := mkLC (decP (shCons shI (shOne shI)) shHNil) fun ((x, n), _) => .ask (1 ≤ n ∧ n ≤ 255) (.one (.v (.int .i64 (nearI x n))) [] [])
set_option maxHeartbeats 4000000 in
theorem ok_rnear1 : ∀ I : Sym.Inv Unit, LCOk I Try.prog 105 lcRNear1 := by
  refine lc_mk (fun _ => allCfg Try.prog [] [] 0) (fun _ _ => allCfg_ok mixed trivial trivial) (fun _ => rfl) (n := 60) Try.func105 ?_
  intro ⟨⟨x, n⟩, _⟩ hφ
  obtain ⟨⟨h1, h2⟩, hp⟩ := id hφ
  refine kcast (B := (br (decide (x < (0 : Int))) ((SV.v (Value.int IntKind.i64 (0 : Int)) = SV.v (Value.int IntKind.i64 (nearI x n)) ∧ True) ∧ True) (br (decide (x ≥ n)) ((SV.v (Value.int IntKind.i64 (IntKind.i64.wrap (n - (1 : Int)))) = SV.v (Value.int IntKind.i64 (nearI x n)) ∧ True) ∧ True) ((SV.v (Value.int IntKind.i64 x) = SV.v (Value.int IntKind.i64 (nearI x n)) ∧ True) ∧ True)))) (by kernel_rfl) ?_
  clear hp hφ
  rw [wrap64 (x := n - 1) (by omega) (by omega)]
  by_cases a1 : x < 0
  · rw [show nearI x n = 0 by unfold nearI; split <;> (try split) <;> omega]; simp [br_iff, a1]
  · by_cases a2 : x ≥ n
    · rw [show nearI x n = n - 1 by unfold nearI; split <;> (try split) <;> omega]; simp [br_iff, a1, a2]
    · rw [near_in (by omega) (by omega)]; simp [br_iff, a1, a2]
def lcRNear : ACon Unit := mkLC (decP (shCons shI2 (shOne shI2)) shHNil) fun (((a, b), (r, c)), _) => .ask (mayB a b = true) (.one (p2 (nearI r a) (nearI c b)) [] [])
set_option maxHeartbeats 4000000 in
theorem ok_rnear : ∀ I : Sym.Inv Unit, LCOk I Try.prog 83 lcRNear := by
  refine lc_mk (fun _ => allCfg Try.prog [] [(105, lcRNear1)] 0) (fun _ _ => allCfg_ok mixed trivial ⟨ok_rnear1, trivial⟩) (fun _ => rfl) (n := 60) Try.func83 ?_
  intro ⟨⟨⟨a, b⟩, ⟨r, c⟩⟩, _⟩ hφ
  obtain ⟨hm, hp⟩ := id hφ
  refine kcast (B := (true = true ∧ ((1 : Int) ≤ a ∧ a ≤ (255 : Int)) ∧ true = true ∧ ((1 : Int) ≤ b ∧ b ≤ (255 : Int)) ∧ (SV.a [SV.v (Value.int IntKind.i64 (nearI r a)), SV.v (Value.int IntKind.i64 (nearI c b))] = SV.a [SV.v (Value.int IntKind.i64 (nearI r a)), SV.v (Value.int IntKind.i64 (nearI c b))] ∧ True) ∧ True)) (by kernel_rfl) ?_
  clear hp hφ
  have hm' := mayB_iff.1 hm
  simp
  omega
def lcRNext : ACon Unit := mkLC (decP (shCons shI2 (shOne shI2)) shHNil) fun (((a, b), (r, c)), _) => .ask (mayB a b = true ∧ 0 ≤ r ∧ r < a) (.one (.t [p2 (nxR r a) 0, .v (.bool (nxR r a == r))]) [] [])
set_option maxHeartbeats 4000000 in
theorem ok_rnext : ∀ I : Sym.Inv Unit, LCOk I Try.prog 85 lcRNext := by
  refine lc_mk (fun _ => allCfg Try.prog [] [] 0) (fun _ _ => allCfg_ok mixed trivial trivial) (fun _ => rfl) (n := 60) Try.func85 ?_
  intro ⟨⟨⟨a, b⟩, ⟨r, c⟩⟩, _⟩ hφ
  obtain ⟨⟨hm, h0, h1⟩, hp⟩ := id hφ
  refine kcast (B := (br (r == IntKind.i64.wrap (a - (1 : Int))) ((SV.t [SV.a [SV.v (Value.int IntKind.i64 r), SV.v (Value.int IntKind.i64 (0 : Int))], SV.v (Value.bool true)] = SV.t [SV.a [SV.v (Value.int IntKind.i64 (nxR r a)), SV.v (Value.int IntKind.i64 (0 : Int))], SV.v (Value.bool (nxR r a == r))] ∧ True) ∧ True) ((SV.t [SV.a [SV.v (Value.int IntKind.i64 (IntKind.i64.wrap (r + (1 : Int)))), SV.v (Value.int IntKind.i64 (0 : Int))], SV.v (Value.bool false)] = SV.t [SV.a [SV.v (Value.int IntKind.i64 (nxR r a)), SV.v (Value.int IntKind.i64 (0 : Int))], SV.v (Value.bool (nxR r a == r))] ∧ True) ∧ True))) (by kernel_rfl) ?_
  clear hp hφ
  have hm' := mayB_iff.1 hm
  rw [wrap64 (x := r + 1) (by omega) (by omega), wrap64 (x := a - 1) (by omega) (by omega)]
  by_cases h : r = a - 1
  · have e : nxR r a = r := by unfold nxR; split <;> omega
    subst h
    simp [br_iff, e]
  · have e : nxR r a = r + 1 := by unfold nxR; split <;> omega
    have e2 : r + 1 ≠ r := by omega
    simp [br_iff, e, h, e2]
def tabR1 : List (Nat × ACon Unit) := (83, lcRNear) :: (85, lcRNext) :: []
theorem tabR1_ok : LCs Try.prog tabR1 := ⟨ok_rnear, ok_rnext, trivial⟩
def lcRBehind : ACon Unit := mkLC (decP (shCons shI2 (shCons shI2 (shOne shI))) shHNil) fun (((a, b), (r, c), w), _) => .ask (mayB a b = true) (.one (.t [p2 (bhR a b r c w) (bhC a b r c w), .v (.bool (bhP a b r c w)), .v (.bool (bhU a b r c w))]) [] [])
set_option maxHeartbeats 4000000 in
theorem ok_rbehind : ∀ I : Sym.Inv Unit, LCOk I Try.prog 86 lcRBehind := by
  refine lc_mk (fun _ => allCfg Try.prog [] tabR1 0) (fun _ _ => allCfg_ok mixed trivial tabR1_ok) (fun _ => rfl) (n := 60) Try.func86 ?_
  intro ⟨⟨⟨a, b⟩, ⟨r, c⟩, w⟩, _⟩ hφ
  obtain ⟨hm, hp⟩ := id hφ
  refine kcast (B := (true = true ∧ mayB a b = true ∧ br (decide (nearI c b < IntKind.i64.wrap (b - (1 : Int)))) ((SV.t [SV.a [SV.v (Value.int IntKind.i64 (nearI r a)), SV.v (Value.int IntKind.i64 (IntKind.i64.wrap (nearI c b + (1 : Int))))], SV.v (Value.bool false), SV.v (Value.bool false)] = SV.t [SV.a [SV.v (Value.int IntKind.i64 (bhR a b r c w)), SV.v (Value.int IntKind.i64 (bhC a b r c w))], SV.v (Value.bool (bhP a b r c w)), SV.v (Value.bool (bhU a b r c w))] ∧ True) ∧ True) (br (w == (1 : Int)) ((SV.t [SV.a [SV.v (Value.int IntKind.i64 (nearI r a)), SV.v (Value.int IntKind.i64 (nearI c b))], SV.v (Value.bool false), SV.v (Value.bool false)] = SV.t [SV.a [SV.v (Value.int IntKind.i64 (bhR a b r c w)), SV.v (Value.int IntKind.i64 (bhC a b r c w))], SV.v (Value.bool (bhP a b r c w)), SV.v (Value.bool (bhU a b r c w))] ∧ True) ∧ True) (br (w == (2 : Int)) (true = true ∧ (mayB a b = true ∧ (0 : Int) ≤ nearI r a ∧ nearI r a < a) ∧ (SV.t [SV.a [SV.v (Value.int IntKind.i64 (nxR (nearI r a) a)), SV.v (Value.int IntKind.i64 (0 : Int))], SV.v (Value.bool false), SV.v (Value.bool (nxR (nearI r a) a == nearI r a))] = SV.t [SV.a [SV.v (Value.int IntKind.i64 (bhR a b r c w)), SV.v (Value.int IntKind.i64 (bhC a b r c w))], SV.v (Value.bool (bhP a b r c w)), SV.v (Value.bool (bhU a b r c w))] ∧ True) ∧ True) ((SV.t [SV.a [SV.v (Value.int IntKind.i64 (nearI r a)), SV.v (Value.int IntKind.i64 (nearI c b))], SV.v (Value.bool true), SV.v (Value.bool false)] = SV.t [SV.a [SV.v (Value.int IntKind.i64 (bhR a b r c w)), SV.v (Value.int IntKind.i64 (bhC a b r c w))], SV.v (Value.bool (bhP a b r c w)), SV.v (Value.bool (bhU a b r c w))] ∧ True) ∧ True))))) (by kernel_rfl) ?_
  clear hp hφ
  have hm' := mayB_iff.1 hm
  have hb := near_bd (x := r) hm'.1
  have hc := near_bd (x := c) (n := b) hm'.2.2.1
  rw [wrap64 (x := b - 1) (by omega) (by omega), wrap64 (x := nearI c b + 1) (by omega) (by omega)]
  by_cases h1 : nearI c b < b - 1
  · simp [br_iff, hm, bhR, bhC, bhP, bhU, bhIn, h1]
  · by_cases h2 : w = 1
    · subst h2; simp [br_iff, hm, bhR, bhC, bhP, bhU, bhIn, h1]
    · by_cases h3 : w = 2
      · subst h3; simp [br_iff, hm, bhR, bhC, bhP, bhU, bhIn, h1, hb]
      · simp [br_iff, hm, bhR, bhC, bhP, bhU, bhIn, h1, h2, h3]
def lcRSize : ACon Unit := mkLC (decP (shOne (shP 0)) (shRefF 0)) fun (_, ((R, C, ep), ⟨xs, m, ep2⟩)) => .ask (ep = ep2) (.one (p2 R C) (refF 0 R C xs m ep) [])
set_option maxHeartbeats 4000000 in
theorem ok_rsize : ∀ I : Sym.Inv Unit, LCOk I Try.prog 84 lcRSize := by
  refine lc_mk (fun _ => allCfg Try.prog [] [] 0) (fun _ _ => allCfg_ok mixed trivial trivial) (fun _ => rfl) (n := 60) Try.func84 ?_
  intro ⟨_, ⟨R, C, ep⟩, ⟨xs, m, ep2⟩⟩ hφ
  obtain ⟨rfl, hp⟩ := id hφ
  refine kcast (B := ((SV.a [SV.v (Value.int IntKind.i64 R), SV.v (Value.int IntKind.i64 C)] = SV.a [SV.v (Value.int IntKind.i64 R), SV.v (Value.int IntKind.i64 C)] ∧ True) ∧ (SV.v (Value.int IntKind.i64 R) = SV.v (Value.int IntKind.i64 R) ∧ SV.v (Value.int IntKind.i64 C) = SV.v (Value.int IntKind.i64 C) ∧ SV.h (1 : Nat) [ep, (0 : Nat)] = SV.h (1 : Nat) [ep, (0 : Nat)] ∧ True) ∧ (m = m ∧ ep = ep ∧ xs = xs) ∧ True)) (by kernel_rfl) ?_
  clear hp hφ
  simp
def tabR2 : List (Nat × ACon Unit) := (84, lcRSize) :: (86, lcRBehind) :: (55, lcRUp) :: tabR1
theorem tabR2_ok : LCs Try.prog tabR2 := ⟨ok_rsize, ok_rbehind, ok_rup, tabR1_ok⟩
def uxL (R C : Int) (xs : List C4) (p : Bool) (y : C4) : List C4 := if p = true then rmL R C xs 0 1 y else xs
def rpL1 (R C : Int) (xs : List C4) (r c : Int) (p : Bool) (x y : C4) : List C4 := (uxL R C xs (ahU R r p) y).set (ahR R r p * C + ahC C c p).toNat x
def rpL (R C : Int) (xs : List C4) (r c : Int) (p : Bool) (x : C4) (w : Int) (y : C4) : List C4 := uxL R C (rpL1 R C xs r c p x y) (bhU R C (ahR R r p) (ahC C c p) w) y
theorem rmL_fw {R C : Int} {xs : List C4} {m : Nat} (hw : FW R C xs m) (t n : Int) (x : C4) : FW R C (rmL R C xs t n x) m := by
  have h1 := hw.r0
  have h3 := hw.c0
  refine ⟨hw.r0, hw.r1, hw.c0, hw.c1, ?_, hw.sz⟩
  unfold rmL
  rw [flF_length]
  have := hw.sz
  have e : ((R.toNat * C.toNat : Nat) : Int) = R * C := by rw [Int.natCast_mul, Int.toNat_of_nonneg (by omega), Int.toNat_of_nonneg (by omega)]
  omega
theorem uxL_fw {R C : Int} {xs : List C4} {m : Nat} (hw : FW R C xs m) (p : Bool) (y : C4) : FW R C (uxL R C xs p y) m := by
  unfold uxL; split
  · exact rmL_fw hw 0 1 y
  · exact hw
theorem rpL1_fw {R C : Int} {xs : List C4} {m : Nat} (hw : FW R C xs m) (r c : Int) (p : Bool) (x y : C4) : FW R C (rpL1 R C xs r c p x y) m := by
  have h := uxL_fw hw (ahU R r p) y
  refine ⟨hw.r0, hw.r1, hw.c0, hw.c1, ?_, hw.sz⟩
  unfold rpL1
  rw [List.length_set]; exact h.len
def lcRPut : ACon Unit := mkLC (decP (shCons (shP 0) (shCons shPl (shCons shC (shCons shI (shOne shC))))) (shRefF 0)) fun ((_, (r, c, p), x, w, y), ((R, C, ep), ⟨xs, m, ep2⟩)) => .ask (ep = ep2 ∧ FW R C xs m)
  (.one (.t [puPl R C r c p w, .v (.int .i64 (puN R C r c p w))]) (refF 0 R C (rpL R C xs r c p x w y) m ep) [1])
set_option maxHeartbeats 4000000 in
theorem ok_rput : ∀ I : Sym.Inv Unit, LCOk I Try.prog 47 lcRPut := by
  refine lc_mk (fun _ => allCfg Try.prog [] tabR2 0) (fun _ _ => allCfg_ok mixed trivial tabR2_ok) (fun _ => rfl) (n := 80) Try.func47 ?_
  intro ⟨⟨_, ⟨r, c, p⟩, x, w, y⟩, ⟨R, C, ep⟩, ⟨xs, m, ep2⟩⟩ hφ
  obtain ⟨⟨rfl, hw⟩, hp⟩ := id hφ
  refine kcast (B := (true = true ∧ ep = ep ∧ true = true ∧ mayB R C = true ∧ true = true ∧ ep = ep ∧ true = true ∧ mayB R C = true ∧ br p (true = true ∧ ep = ep ∧ true = true ∧ (mayB R C = true ∧ (0 : Int) ≤ nearI r R ∧ nearI r R < R) ∧ true = true ∧ ep = ep ∧ true = true ∧ (mayB R C = true ∧ (0 : Int) ≤ nearI r R ∧ nearI r R < R) ∧ br (nxR (nearI r R) R == nearI r R) (true = true ∧ (ep = ep ∧ FW R C xs m) ∧ rq (ep.beq ep && (true && decide ((0 : Int) ≤ IntKind.i64.wrap (IntKind.i64.wrap (nxR (nearI r R) R * C) + (0 : Int)) ∧ IntKind.i64.wrap (IntKind.i64.wrap (nxR (nearI r R) R * C) + (0 : Int)) < (↑m : Int)))) (rq (ep.beq ep && (IntKind.i64.wrap (IntKind.i64.wrap (nxR (nearI r R) R * C) + (0 : Int))).toNat.blt (rmL R C xs (0 : Int) (1 : Int) (C4.mk y.g y.a y.gd y.m)).length) (true = true ∧ ep = ep ∧ true = true ∧ mayB R C = true ∧ true = true ∧ ep = ep ∧ true = true ∧ mayB R C = true ∧ br (bhU R C (nxR (nearI r R) R) (0 : Int) w) (true = true ∧ (ep = ep ∧ FW R C ((rmL R C xs (0 : Int) (1 : Int) (C4.mk y.g y.a y.gd y.m)).set (IntKind.i64.wrap (IntKind.i64.wrap (nxR (nearI r R) R * C) + (0 : Int))).toNat (C4.mk x.g x.a x.gd x.m)) m) ∧ (SV.t [SV.a [SV.v (Value.int IntKind.i64 (bhR R C (nxR (nearI r R) R) (0 : Int) w)), SV.v (Value.int IntKind.i64 (bhC R C (nxR (nearI r R) R) (0 : Int) w)), SV.v (Value.bool (bhP R C (nxR (nearI r R) R) (0 : Int) w))], SV.v (Value.int IntKind.i64 (2 : Int))] = SV.t [SV.a [SV.v (Value.int IntKind.i64 (bhR R C (ahR R r p) (ahC C c p) w)), SV.v (Value.int IntKind.i64 (bhC R C (ahR R r p) (ahC C c p) w)), SV.v (Value.bool (bhP R C (ahR R r p) (ahC C c p) w))], SV.v (Value.int IntKind.i64 (puN R C r c p w))] ∧ True) ∧ (SV.v (Value.int IntKind.i64 R) = SV.v (Value.int IntKind.i64 R) ∧ SV.v (Value.int IntKind.i64 C) = SV.v (Value.int IntKind.i64 C) ∧ SV.h (1 : Nat) [ep, (0 : Nat)] = SV.h (1 : Nat) [ep, (0 : Nat)] ∧ True) ∧ (m = m ∧ ep = ep ∧ rmL R C ((rmL R C xs (0 : Int) (1 : Int) (C4.mk y.g y.a y.gd y.m)).set (IntKind.i64.wrap (IntKind.i64.wrap (nxR (nearI r R) R * C) + (0 : Int))).toNat (C4.mk x.g x.a x.gd x.m)) (0 : Int) (1 : Int) (C4.mk y.g y.a y.gd y.m) = rpL R C xs r c p x w y) ∧ True) ((SV.t [SV.a [SV.v (Value.int IntKind.i64 (bhR R C (nxR (nearI r R) R) (0 : Int) w)), SV.v (Value.int IntKind.i64 (bhC R C (nxR (nearI r R) R) (0 : Int) w)), SV.v (Value.bool (bhP R C (nxR (nearI r R) R) (0 : Int) w))], SV.v (Value.int IntKind.i64 (1 : Int))] = SV.t [SV.a [SV.v (Value.int IntKind.i64 (bhR R C (ahR R r p) (ahC C c p) w)), SV.v (Value.int IntKind.i64 (bhC R C (ahR R r p) (ahC C c p) w)), SV.v (Value.bool (bhP R C (ahR R r p) (ahC C c p) w))], SV.v (Value.int IntKind.i64 (puN R C r c p w))] ∧ True) ∧ (SV.v (Value.int IntKind.i64 R) = SV.v (Value.int IntKind.i64 R) ∧ SV.v (Value.int IntKind.i64 C) = SV.v (Value.int IntKind.i64 C) ∧ SV.h (1 : Nat) [ep, (0 : Nat)] = SV.h (1 : Nat) [ep, (0 : Nat)] ∧ True) ∧ (m = m ∧ ep = ep ∧ (rmL R C xs (0 : Int) (1 : Int) (C4.mk y.g y.a y.gd y.m)).set (IntKind.i64.wrap (IntKind.i64.wrap (nxR (nearI r R) R * C) + (0 : Int))).toNat (C4.mk x.g x.a x.gd x.m) = rpL R C xs r c p x w y) ∧ True)))) (rq (ep.beq ep && (true && decide ((0 : Int) ≤ IntKind.i64.wrap (IntKind.i64.wrap (nxR (nearI r R) R * C) + (0 : Int)) ∧ IntKind.i64.wrap (IntKind.i64.wrap (nxR (nearI r R) R * C) + (0 : Int)) < (↑m : Int)))) (rq (ep.beq ep && (IntKind.i64.wrap (IntKind.i64.wrap (nxR (nearI r R) R * C) + (0 : Int))).toNat.blt xs.length) (true = true ∧ ep = ep ∧ true = true ∧ mayB R C = true ∧ true = true ∧ ep = ep ∧ true = true ∧ mayB R C = true ∧ br (bhU R C (nxR (nearI r R) R) (0 : Int) w) (true = true ∧ (ep = ep ∧ FW R C (xs.set (IntKind.i64.wrap (IntKind.i64.wrap (nxR (nearI r R) R * C) + (0 : Int))).toNat (C4.mk x.g x.a x.gd x.m)) m) ∧ (SV.t [SV.a [SV.v (Value.int IntKind.i64 (bhR R C (nxR (nearI r R) R) (0 : Int) w)), SV.v (Value.int IntKind.i64 (bhC R C (nxR (nearI r R) R) (0 : Int) w)), SV.v (Value.bool (bhP R C (nxR (nearI r R) R) (0 : Int) w))], SV.v (Value.int IntKind.i64 (1 : Int))] = SV.t [SV.a [SV.v (Value.int IntKind.i64 (bhR R C (ahR R r p) (ahC C c p) w)), SV.v (Value.int IntKind.i64 (bhC R C (ahR R r p) (ahC C c p) w)), SV.v (Value.bool (bhP R C (ahR R r p) (ahC C c p) w))], SV.v (Value.int IntKind.i64 (puN R C r c p w))] ∧ True) ∧ (SV.v (Value.int IntKind.i64 R) = SV.v (Value.int IntKind.i64 R) ∧ SV.v (Value.int IntKind.i64 C) = SV.v (Value.int IntKind.i64 C) ∧ SV.h (1 : Nat) [ep, (0 : Nat)] = SV.h (1 : Nat) [ep, (0 : Nat)] ∧ True) ∧ (m = m ∧ ep = ep ∧ rmL R C (xs.set (IntKind.i64.wrap (IntKind.i64.wrap (nxR (nearI r R) R * C) + (0 : Int))).toNat (C4.mk x.g x.a x.gd x.m)) (0 : Int) (1 : Int) (C4.mk y.g y.a y.gd y.m) = rpL R C xs r c p x w y) ∧ True) ((SV.t [SV.a [SV.v (Value.int IntKind.i64 (bhR R C (nxR (nearI r R) R) (0 : Int) w)), SV.v (Value.int IntKind.i64 (bhC R C (nxR (nearI r R) R) (0 : Int) w)), SV.v (Value.bool (bhP R C (nxR (nearI r R) R) (0 : Int) w))], SV.v (Value.int IntKind.i64 (0 : Int))] = SV.t [SV.a [SV.v (Value.int IntKind.i64 (bhR R C (ahR R r p) (ahC C c p) w)), SV.v (Value.int IntKind.i64 (bhC R C (ahR R r p) (ahC C c p) w)), SV.v (Value.bool (bhP R C (ahR R r p) (ahC C c p) w))], SV.v (Value.int IntKind.i64 (puN R C r c p w))] ∧ True) ∧ (SV.v (Value.int IntKind.i64 R) = SV.v (Value.int IntKind.i64 R) ∧ SV.v (Value.int IntKind.i64 C) = SV.v (Value.int IntKind.i64 C) ∧ SV.h (1 : Nat) [ep, (0 : Nat)] = SV.h (1 : Nat) [ep, (0 : Nat)] ∧ True) ∧ (m = m ∧ ep = ep ∧ xs.set (IntKind.i64.wrap (IntKind.i64.wrap (nxR (nearI r R) R * C) + (0 : Int))).toNat (C4.mk x.g x.a x.gd x.m) = rpL R C xs r c p x w y) ∧ True))))) (rq (ep.beq ep && (true && decide ((0 : Int) ≤ IntKind.i64.wrap (IntKind.i64.wrap (nearI r R * C) + nearI c C) ∧ IntKind.i64.wrap (IntKind.i64.wrap (nearI r R * C) + nearI c C) < (↑m : Int)))) (rq (ep.beq ep && (IntKind.i64.wrap (IntKind.i64.wrap (nearI r R * C) + nearI c C)).toNat.blt xs.length) (true = true ∧ ep = ep ∧ true = true ∧ mayB R C = true ∧ true = true ∧ ep = ep ∧ true = true ∧ mayB R C = true ∧ br (bhU R C (nearI r R) (nearI c C) w) (true = true ∧ (ep = ep ∧ FW R C (xs.set (IntKind.i64.wrap (IntKind.i64.wrap (nearI r R * C) + nearI c C)).toNat (C4.mk x.g x.a x.gd x.m)) m) ∧ (SV.t [SV.a [SV.v (Value.int IntKind.i64 (bhR R C (nearI r R) (nearI c C) w)), SV.v (Value.int IntKind.i64 (bhC R C (nearI r R) (nearI c C) w)), SV.v (Value.bool (bhP R C (nearI r R) (nearI c C) w))], SV.v (Value.int IntKind.i64 (1 : Int))] = SV.t [SV.a [SV.v (Value.int IntKind.i64 (bhR R C (ahR R r p) (ahC C c p) w)), SV.v (Value.int IntKind.i64 (bhC R C (ahR R r p) (ahC C c p) w)), SV.v (Value.bool (bhP R C (ahR R r p) (ahC C c p) w))], SV.v (Value.int IntKind.i64 (puN R C r c p w))] ∧ True) ∧ (SV.v (Value.int IntKind.i64 R) = SV.v (Value.int IntKind.i64 R) ∧ SV.v (Value.int IntKind.i64 C) = SV.v (Value.int IntKind.i64 C) ∧ SV.h (1 : Nat) [ep, (0 : Nat)] = SV.h (1 : Nat) [ep, (0 : Nat)] ∧ True) ∧ (m = m ∧ ep = ep ∧ rmL R C (xs.set (IntKind.i64.wrap (IntKind.i64.wrap (nearI r R * C) + nearI c C)).toNat (C4.mk x.g x.a x.gd x.m)) (0 : Int) (1 : Int) (C4.mk y.g y.a y.gd y.m) = rpL R C xs r c p x w y) ∧ True) ((SV.t [SV.a [SV.v (Value.int IntKind.i64 (bhR R C (nearI r R) (nearI c C) w)), SV.v (Value.int IntKind.i64 (bhC R C (nearI r R) (nearI c C) w)), SV.v (Value.bool (bhP R C (nearI r R) (nearI c C) w))], SV.v (Value.int IntKind.i64 (0 : Int))] = SV.t [SV.a [SV.v (Value.int IntKind.i64 (bhR R C (ahR R r p) (ahC C c p) w)), SV.v (Value.int IntKind.i64 (bhC R C (ahR R r p) (ahC C c p) w)), SV.v (Value.bool (bhP R C (ahR R r p) (ahC C c p) w))], SV.v (Value.int IntKind.i64 (puN R C r c p w))] ∧ True) ∧ (SV.v (Value.int IntKind.i64 R) = SV.v (Value.int IntKind.i64 R) ∧ SV.v (Value.int IntKind.i64 C) = SV.v (Value.int IntKind.i64 C) ∧ SV.h (1 : Nat) [ep, (0 : Nat)] = SV.h (1 : Nat) [ep, (0 : Nat)] ∧ True) ∧ (m = m ∧ ep = ep ∧ xs.set (IntKind.i64.wrap (IntKind.i64.wrap (nearI r R * C) + nearI c C)).toNat (C4.mk x.g x.a x.gd x.m) = rpL R C xs r c p x w y) ∧ True)))))) (by kernel_rfl) ?_
  clear hp hφ
  have eta : ∀ y : C4, C4.mk y.g y.a y.gd y.m = y := fun _ => rfl
  have h1 := hw.r0
  have h2 := hw.r1
  have h3 := hw.c0
  have h4 := hw.c1
  have hsz := hw.sz
  have hlen := hw.len
  have hm : mayB R C = true := by rw [mayB_iff]; omega
  have hb := near_bd (x := r) h1
  have hc := near_bd (x := c) h3
  have hx := nxR_bd h1 hb.1
  have hF := rpL1_fw hw r c p x y
  have hU := (uxL_fw hw (ahU R r p) y).len
  have hI := ah_bd (a := R) (b := C) (r := r) (c := c) (p := p) h1 h3
  obtain ⟨m1, m2⟩ := mul_bd (r := ahR R r p) (C := C) (by omega) (by omega) (by omega) (by omega)
  have m3 := ix_bd (R := R) (C := C) hI.2.1 hI.2.2.2 hI.2.2.1
  simp only [eta, nbeq, Bool.true_and]
  revert hF hU hI m1 m2 m3
  unfold rpL puN rpL1
  cases p
  · simp only [ahU, ahR, ahC, Bool.false_and, Bool.false_eq_true, if_false]
    intro hF hU hI m1 m2 m3
    rw [wrap64 (x := nearI r R * C) (by omega) (by omega), wrap64 (x := nearI r R * C + nearI c C) (by omega) (by omega)]
    simp only [uxL, Bool.false_eq_true, if_false] at hF hU ⊢
    have k1 : decide (0 ≤ nearI r R * C + nearI c C ∧ nearI r R * C + nearI c C < (m : Int)) = true := decide_eq_true (by omega)
    have k2 : (nearI r R * C + nearI c C).toNat.blt xs.length = true := by rw [Nat.blt_eq]; omega
    cases hu : bhU R C (nearI r R) (nearI c C) w <;>
      simp [br_iff, rq_iff, hm, hb, hw, hF, k1, k2, hu, uxL, riN]
  · simp only [ahU, ahR, ahC, Bool.true_and, if_true]
    intro hF hU hI m1 m2 m3
    rw [wrap64 (x := nxR (nearI r R) R * C) (by omega) (by omega), wrap64 (x := nxR (nearI r R) R * C + 0) (by omega) (by omega)]
    have k1 : decide (0 ≤ nxR (nearI r R) R * C + 0 ∧ nxR (nearI r R) R * C + 0 < (m : Int)) = true := decide_eq_true (by omega)
    cases hn : nxR (nearI r R) R == nearI r R
    · rw [hn] at hF hU
      simp only [uxL, Bool.false_eq_true, if_false] at hF hU ⊢
      have k2 : (nxR (nearI r R) R * C + 0).toNat.blt xs.length = true := by rw [Nat.blt_eq]; omega
      cases hu : bhU R C (nxR (nearI r R) R) 0 w <;>
        simp only [br_iff, rq_iff, hm, hb, hw, hF, k1, k2, hu, uxL, riN, Bool.and_true, Bool.true_and, Bool.false_eq_true, Bool.true_eq_false, false_implies, true_implies, true_and, and_true, if_true, if_false, and_self, implies_true, Int.reduceAdd]
    · rw [hn] at hF hU
      simp only [uxL, if_true] at hF hU ⊢
      have k2 : (nxR (nearI r R) R * C + 0).toNat.blt (rmL R C xs 0 1 y).length = true := by rw [Nat.blt_eq]; omega
      cases hu : bhU R C (nxR (nearI r R) R) 0 w <;>
        simp only [br_iff, rq_iff, hm, hb, hw, hF, k1, k2, hu, uxL, riN, Bool.and_true, Bool.true_and, Bool.false_eq_true, Bool.true_eq_false, false_implies, true_implies, true_and, and_true, if_true, if_false, and_self, implies_true, Int.reduceAdd]
end Go.Proofs.Ytdhhagangmkloaa

/- Layer 8: what is put is what the document says, as plain laws; contracts of the pen. -/
namespace Go.Proofs.Ytdhhagangmkloaa
open Go Go.Sym

theorem fw_fl {l : List (List C4)} (hg : GW l) : FW l.length (nC l) (flL l) (l.length * nC l) := by
  have := hg.r0; have := hg.r1; have := hg.c0; have := hg.c1
  exact ⟨by omega, by omega, by omega, by omega, flL_length l, Int.natCast_mul _ _⟩
theorem set2_fl {l : List (List C4)} (hg : GW l) {r c : Int} {x : C4} (h : inB l r c = true) : flL (set2 l r c x) = (flL l).set (r * nC l + c).toNat x := by
  rw [inB_iff] at h
  obtain ⟨i, rfl⟩ : ∃ i : Nat, r = i := ⟨r.toNat, by omega⟩
  obtain ⟨k, rfl⟩ : ∃ k : Nat, c = k := ⟨c.toNat, by omega⟩
  have h0 := hg.r0
  rw [set2_eq hg h.1 h.2.1 h.2.2.1 h.2.2.2, flL_gridF (by omega), show ((i : Int) * (nC l : Int) + (k : Int)).toNat = i * nC l + k by rw [← Int.natCast_mul]; omega]
  have e : flL l = flF l.length (nC l) (fn l) := rfl
  rw [e, flF_set (by omega) (by omega)]
  exact flF_congr fun r' c' _ _ => by
    unfold setF
    by_cases h1 : r' = i ∧ c' = k
    · rw [if_pos h1, if_pos (by omega)]
    · rw [if_neg h1, if_neg (by omega)]
theorem riL_fl {l : List (List C4)} (hg : GW l) (p : Bool) (x : C4) : flL (riL l p x) = uxL l.length (nC l) (flL l) p x := by
  unfold riL uxL
  split
  · exact up_fl hg 1 x
  · rfl
theorem puL_gw {l : List (List C4)} (hg : GW l) (r c : Int) (p : Bool) (x : C4) (w : Int) (y : C4) : GW (puL l r c p x w y) ∧ (puL l r c p x w y).length = l.length ∧ nC (puL l r c p x w y) = nC l := by
  obtain ⟨_, p2, p3, p4⟩ := puL1_gw hg r c p x y
  obtain ⟨g1, g2, g3⟩ := riL_gw p2 (puU l r c p w) y
  exact ⟨g1, g2.trans p3, g3.trans p4⟩
theorem pu_fl {l : List (List C4)} (hg : GW l) (r c : Int) (p : Bool) (x : C4) (w : Int) (y : C4) : flL (puL l r c p x w y) = rpL l.length (nC l) (flL l) r c p x w y := by
  obtain ⟨p1, p2, p3, p4⟩ := puL1_gw hg r c p x y
  obtain ⟨g1, g2, g3⟩ := riL_gw hg (ahU l.length r p) y
  unfold puL
  rw [riL_fl p2, p3, p4]
  unfold rpL puU
  congr 1
  unfold puL1 rpL1
  rw [set2_fl g1 p1, riL_fl hg, g3]
/-! ### The pen -/
abbrev shPen : Sh (Int × Int × Bool × Int × ByteArray) := shA (shCons shI (shCons shI (shCons shB (shCons shI (shOne shStr)))))
abbrev penSV (r c : Int) (q : Bool) (w : Int) (s : ByteArray) : SV := .a [.v (.int .i64 r), .v (.int .i64 c), .v (.bool q), .v (.int .i64 w), .v (.string s)]
def lcCursor : ACon Unit := mkLC (decP (shOne shPen) shHNil) fun ((r, c, q, _, _), _) => .one (pl3 r c q) [] []
set_option maxHeartbeats 4000000 in
theorem ok_cursor : ∀ I : Sym.Inv Unit, LCOk I Try.prog 45 lcCursor := by
  refine lc_mk (fun _ => allCfg Try.prog [] [] 0) (fun _ _ => allCfg_ok mixed trivial trivial) (fun _ => rfl) (n := 60) Try.func45 ?_
  intro ⟨⟨r, c, q, w, s⟩, _⟩ hφ
  refine kcast (B := ((SV.a [SV.v (Value.int IntKind.i64 r), SV.v (Value.int IntKind.i64 c), SV.v (Value.bool q)] = SV.a [SV.v (Value.int IntKind.i64 r), SV.v (Value.int IntKind.i64 c), SV.v (Value.bool q)] ∧ True) ∧ True)) (by kernel_rfl) ?_
  simp
def lcLike : ACon Unit := mkLC (decP (shCons shPl (shOne shPl)) shHNil) fun (((r, c, q), (r', c', q')), _) => .ask (r = r' ∧ c = c' ∧ q = q') (.one (.v (.bool true)) [] [])
set_option maxHeartbeats 4000000 in
theorem ok_like : ∀ I : Sym.Inv Unit, LCOk I Try.prog 48 lcLike := by
  refine lc_mk (fun _ => allCfg Try.prog [] [] 0) (fun _ _ => allCfg_ok mixed trivial trivial) (fun _ => rfl) (n := 60) Try.func48 ?_
  intro ⟨⟨⟨r, c, q⟩, ⟨r', c', q'⟩⟩, _⟩ hφ
  obtain ⟨⟨rfl, rfl, rfl⟩, hp⟩ := id hφ
  refine kcast (B := (br (r == r && (c == c && true)) ((SV.v (Value.bool (q == q)) = SV.v (Value.bool true) ∧ True) ∧ True) ((SV.v (Value.bool false) = SV.v (Value.bool true) ∧ True) ∧ True))) (by kernel_rfl) ?_
  clear hp hφ
  simp [br_iff]
def fewPen (n : Nat) (C : Int) (s : ByteArray) : Bool := fewB n C && decide (s.size ≤ 60)
def ptabF : List (Nat × PS) := [(43, psAwake)]
theorem ptabF_ok : Pures Try.prog ptabF := ⟨ok_awake08, trivial⟩
def tabF3 : List (Nat × ACon Unit) := (45, lcCursor) :: (44, lcPlace) :: (48, lcLike) :: (46, lcPut) :: (47, lcRPut) :: (39, lcAtIn) :: (40, lcCopy) :: (49, lcGSame) :: (23, lcMade) :: (26, lcSame) ::
  (63, lcSize1) :: (64, lcAheadW) :: tabE
theorem tabF3_ok : LCs Try.prog tabF3 := ⟨ok_cursor, ok_place, ok_like, ok_put, ok_rput, ok_atIn, ok_copy, ok_gsame, ok_made, ok_same, ok_size1, ok_aheadW, tabE_ok⟩
end Go.Proofs.Ytdhhagangmkloaa

