/- Layers 4 and 8: where a glyph is put, and a cell that is put: contracts. -/
import Derived.Test.YtcbjgpkbfmmdpaaDoorHaD
set_option linter.unusedSimpArgs false
set_option linter.unusedVariables false
set_option linter.unusedSectionVars false
namespace Go.Sym
open Go
def itEp (b : SB Unit) : Nat := match b with
  | .rows _ _ _ _ ep _ => ep
  | _ => 0
def xE (H : List (SB Unit)) (b : Nat) : Nat := match H[b]? with
  | some it => itEp it
  | none => 0
end Go.Sym
namespace Go.Proofs.YtcbjgpkbfmmdpaaDoor
open Go Go.Sym
abbrev p2 (r c : Int) : SV := .a [.v (.int .i64 r), .v (.int .i64 c)]
abbrev pl3 (r c : Int) (p : Bool) : SV := .a [.v (.int .i64 r), .v (.int .i64 c), .v (.bool p)]
theorem near_bd {x n : Int} (h : 1 ≤ n) : 0 ≤ nearI x n ∧ nearI x n < n := by
  unfold nearI
  split <;> (try split) <;> omega
theorem near_in {x n : Int} (h0 : 0 ≤ x) (h1 : x < n) : nearI x n = x := by
  unfold nearI
  split <;> (try split) <;> omega
def lcNearIn : ACon Unit := mkLC (decP (shCons shI2 (shOne shI2)) shHNil) fun (((a, b), (r, c)), _) => .ask (mayB a b = true) (.one (p2 (nearI r a) (nearI c b)) [] [])
theorem ok_nearIn : ∀ I : Sym.Inv Unit, LCOk I Tryd.prog 57 lcNearIn := fun I => lc_mono (fun args H hp => by
  unfold lcNearIn mkLC at hp ⊢
  unfold lcNear mkLC
  split at hp
  · rename_i a ha
    obtain ⟨⟨⟨a, b⟩, ⟨r, c⟩⟩, _⟩ := a
    refine ⟨⟨fun _ => trivial, fun _ => trivial⟩, fun x H' ws hh => ?_⟩
    rcases hh with ⟨_, h⟩ | ⟨h1, _⟩
    · exact h
    · rw [hp.1] at h1; cases h1
  · exact hp.elim) (ok_near I)
def nxR (r a : Int) : Int := if a - 1 < r + 1 then a - 1 else r + 1
theorem nxR_bd {r a : Int} (h : 1 ≤ a) (h0 : 0 ≤ r) : 0 ≤ nxR r a ∧ nxR r a < a := by
  unfold nxR; split <;> omega
def lcNext : ACon Unit := mkLC (decP (shCons shI2 (shOne shI2)) shHNil) fun (((a, b), (r, c)), _) => .ask (mayB a b = true ∧ 0 ≤ r ∧ r < a) (.one (.t [p2 (nxR r a) 0, .v (.bool (nxR r a == r))]) [] [])
set_option maxHeartbeats 4000000 in
theorem ok_next : ∀ I : Sym.Inv Unit, LCOk I Tryd.prog 99 lcNext := by
  refine lc_mk (fun _ => allCfg Tryd.prog [] [] 0) (fun _ _ => allCfg_ok mixed trivial trivial) (fun _ => rfl) (n := 60) Tryd.func99 ?_
  intro ⟨⟨⟨a, b⟩, ⟨r, c⟩⟩, _⟩ hφ
  obtain ⟨⟨hm, h0, h1⟩, hp⟩ := id hφ
  refine kcast (B := ((SV.t [SV.a [SV.v (Value.int IntKind.i64 (if IntKind.i64.wrap (a - (1 : Int)) < IntKind.i64.wrap (r + (1 : Int)) then IntKind.i64.wrap (a - (1 : Int)) else IntKind.i64.wrap (r + (1 : Int)))), SV.v (Value.int IntKind.i64 (0 : Int))], SV.v (Value.bool ((if IntKind.i64.wrap (a - (1 : Int)) < IntKind.i64.wrap (r + (1 : Int)) then IntKind.i64.wrap (a - (1 : Int)) else IntKind.i64.wrap (r + (1 : Int))) == r))] = SV.t [SV.a [SV.v (Value.int IntKind.i64 (nxR r a)), SV.v (Value.int IntKind.i64 (0 : Int))], SV.v (Value.bool (nxR r a == r))] ∧ True) ∧ True)) (by kernel_rfl) ?_
  clear hp hφ
  rw [mayB_iff] at hm
  rw [wrap64 (x := r + 1) (by omega) (by omega), wrap64 (x := a - 1) (by omega) (by omega)]
  simp [nxR]
def ahR (a r : Int) (p : Bool) : Int := if p = true then nxR (nearI r a) a else nearI r a
def ahC (b c : Int) (p : Bool) : Int := if p = true then 0 else nearI c b
def ahU (a r : Int) (p : Bool) : Bool := p && (nxR (nearI r a) a == nearI r a)
def tabF1 : List (Nat × ACon Unit) := (57, lcNearIn) :: (99, lcNext) :: (82, lcNear1) :: (58, lcMay) :: []
theorem tabF1_ok : LCs Tryd.prog tabF1 := ⟨ok_nearIn, ok_next, ok_near1, ok_may, trivial⟩
def lcAheadW : ACon Unit := mkLC (decP (shCons shI2 (shOne shPl)) shHNil) fun (((a, b), (r, c, p)), _) => .ask (mayB a b = true) (.one (.t [p2 (ahR a r p) (ahC b c p), .v (.bool (ahU a r p))]) [] [])
set_option maxHeartbeats 4000000 in
theorem ok_aheadW : ∀ I : Sym.Inv Unit, LCOk I Tryd.prog 89 lcAheadW := by
  refine lc_mk (fun _ => allCfg Tryd.prog [] tabF1 0) (fun _ _ => allCfg_ok mixed trivial tabF1_ok) (fun _ => rfl) (n := 60) Tryd.func89 ?_
  intro ⟨⟨⟨a, b⟩, ⟨r, c, p⟩⟩, _⟩ hφ
  obtain ⟨hm, hp⟩ := id hφ
  refine kcast (B := (true = true ∧ mayB a b = true ∧ br (!p) ((SV.t [SV.a [SV.v (Value.int IntKind.i64 (nearI r a)), SV.v (Value.int IntKind.i64 (nearI c b))], SV.v (Value.bool false)] = SV.t [SV.a [SV.v (Value.int IntKind.i64 (ahR a r p)), SV.v (Value.int IntKind.i64 (ahC b c p))], SV.v (Value.bool (ahU a r p))] ∧ True) ∧ True) (true = true ∧ br (mayB a b) (true = true ∧ (mayB a b = true ∧ (0 : Int) ≤ nearI r a ∧ nearI r a < a) ∧ (SV.t [SV.a [SV.v (Value.int IntKind.i64 (nxR (nearI r a) a)), SV.v (Value.int IntKind.i64 (0 : Int))], SV.v (Value.bool (nxR (nearI r a) a == nearI r a))] = SV.t [SV.a [SV.v (Value.int IntKind.i64 (ahR a r p)), SV.v (Value.int IntKind.i64 (ahC b c p))], SV.v (Value.bool (ahU a r p))] ∧ True) ∧ True) ((SV.t [SV.a [SV.v (Value.int IntKind.i64 (nearI r a)), SV.v (Value.int IntKind.i64 (nearI c b))], SV.v (Value.bool false)] = SV.t [SV.a [SV.v (Value.int IntKind.i64 (ahR a r p)), SV.v (Value.int IntKind.i64 (ahC b c p))], SV.v (Value.bool (ahU a r p))] ∧ True) ∧ True)))) (by kernel_rfl) ?_
  clear hp hφ
  have hm' := mayB_iff.1 hm
  have hb := near_bd (x := r) hm'.1
  cases p <;> simp [br_iff, hm, ahR, ahC, ahU, hb]
def bhIn (b c : Int) : Bool := decide (nearI c b < b - 1)
def bhR (a b r c w : Int) : Int := if bhIn b c = true then nearI r a else if w = 2 then nxR (nearI r a) a else nearI r a
def bhC (a b r c w : Int) : Int := if bhIn b c = true then nearI c b + 1 else if w = 2 then 0 else nearI c b
def bhP (a b r c w : Int) : Bool := !bhIn b c && (!(w == 1) && !(w == 2))
def bhU (a b r c w : Int) : Bool := !bhIn b c && ((w == 2) && (nxR (nearI r a) a == nearI r a))
def lcBehind : ACon Unit := mkLC (decP (shCons shI2 (shCons shI2 (shOne shI))) shHNil) fun (((a, b), (r, c), w), _) => .ask (mayB a b = true) (.one (.t [pl3 (bhR a b r c w) (bhC a b r c w) (bhP a b r c w), .v (.bool (bhU a b r c w))]) [] [])
set_option maxHeartbeats 4000000 in
theorem ok_behind : ∀ I : Sym.Inv Unit, LCOk I Tryd.prog 91 lcBehind := by
  refine lc_mk (fun _ => allCfg Tryd.prog [] tabF1 0) (fun _ _ => allCfg_ok mixed trivial tabF1_ok) (fun _ => rfl) (n := 60) Tryd.func91 ?_
  intro ⟨⟨⟨a, b⟩, ⟨r, c⟩, w⟩, _⟩ hφ
  obtain ⟨hm, hp⟩ := id hφ
  refine kcast (B := (true = true ∧ br (mayB a b) (true = true ∧ mayB a b = true ∧ br (decide (nearI c b < IntKind.i64.wrap (b - (1 : Int)))) ((SV.t [SV.a [SV.v (Value.int IntKind.i64 (nearI r a)), SV.v (Value.int IntKind.i64 (IntKind.i64.wrap (nearI c b + (1 : Int)))), SV.v (Value.bool false)], SV.v (Value.bool false)] = SV.t [SV.a [SV.v (Value.int IntKind.i64 (bhR a b r c w)), SV.v (Value.int IntKind.i64 (bhC a b r c w)), SV.v (Value.bool (bhP a b r c w))], SV.v (Value.bool (bhU a b r c w))] ∧ True) ∧ True) (br (w == (1 : Int)) ((SV.t [SV.a [SV.v (Value.int IntKind.i64 (nearI r a)), SV.v (Value.int IntKind.i64 (nearI c b)), SV.v (Value.bool false)], SV.v (Value.bool false)] = SV.t [SV.a [SV.v (Value.int IntKind.i64 (bhR a b r c w)), SV.v (Value.int IntKind.i64 (bhC a b r c w)), SV.v (Value.bool (bhP a b r c w))], SV.v (Value.bool (bhU a b r c w))] ∧ True) ∧ True) (br (w == (2 : Int)) (true = true ∧ (mayB a b = true ∧ (0 : Int) ≤ nearI r a ∧ nearI r a < a) ∧ (SV.t [SV.a [SV.v (Value.int IntKind.i64 (nxR (nearI r a) a)), SV.v (Value.int IntKind.i64 (0 : Int)), SV.v (Value.bool false)], SV.v (Value.bool (nxR (nearI r a) a == nearI r a))] = SV.t [SV.a [SV.v (Value.int IntKind.i64 (bhR a b r c w)), SV.v (Value.int IntKind.i64 (bhC a b r c w)), SV.v (Value.bool (bhP a b r c w))], SV.v (Value.bool (bhU a b r c w))] ∧ True) ∧ True) ((SV.t [SV.a [SV.v (Value.int IntKind.i64 (nearI r a)), SV.v (Value.int IntKind.i64 (nearI c b)), SV.v (Value.bool true)], SV.v (Value.bool false)] = SV.t [SV.a [SV.v (Value.int IntKind.i64 (bhR a b r c w)), SV.v (Value.int IntKind.i64 (bhC a b r c w)), SV.v (Value.bool (bhP a b r c w))], SV.v (Value.bool (bhU a b r c w))] ∧ True) ∧ True)))) ((SV.t [SV.a [SV.v (Value.int IntKind.i64 (0 : Int)), SV.v (Value.int IntKind.i64 (0 : Int)), SV.v (Value.bool false)], SV.v (Value.bool false)] = SV.t [SV.a [SV.v (Value.int IntKind.i64 (bhR a b r c w)), SV.v (Value.int IntKind.i64 (bhC a b r c w)), SV.v (Value.bool (bhP a b r c w))], SV.v (Value.bool (bhU a b r c w))] ∧ True) ∧ True))) (by kernel_rfl) ?_
  clear hp hφ
  have hm' := mayB_iff.1 hm
  have hb := near_bd (x := r) hm'.1
  have hc := near_bd (x := c) (n := b) hm'.2.2.1
  rw [wrap64 (x := b - 1) (by omega) (by omega), wrap64 (x := nearI c b + 1) (by omega) (by omega)]
  by_cases h1 : nearI c b < b - 1
  · simp [br_iff, hm, bhR, bhC, bhP, bhU, bhIn, h1]
  · by_cases h2 : w = 1
    · subst h2; simp [br_iff, hm, bhR, bhC, bhP, bhU, bhIn, h1]
    · by_cases h3 : w = 2
      · subst h3; simp [br_iff, hm, bhR, bhC, bhP, bhU, bhIn, h1, hb]
      · simp [br_iff, hm, bhR, bhC, bhP, bhU, bhIn, h1, h2, h3]

def riL (l : List (List C4)) (p : Bool) (x : C4) : List (List C4) := if p = true then upF l 1 x else l
def riN (p : Bool) : Int := if p = true then 1 else 0
def riE (p : Bool) (ep : Nat) : Nat := if p = true then ep + 1 else ep
def lcRiseU : ACon Unit := mkLC (decP (shCons (shP 0) (shCons shB (shOne shC))) shG) fun ((_, p, x), (oe, ⟨l, oe2, ep⟩)) => .ask (oe = oe2 ∧ GW l) (.one (.v (.int .i64 (riN p))) (gbi 0 oe (riE p ep) (riL l p x)) [1])
theorem ok_riseU : ∀ I : Sym.Inv Unit, LCOk I Tryd.prog 90 lcRiseU := fun I => lc_mono (fun args H hp => by
  unfold lcRiseU mkLC at hp ⊢
  unfold lcRise mkLC
  split at hp
  · rename_i a ha
    obtain ⟨⟨_, p, x⟩, oe, l, oe2, ep⟩ := a
    refine ⟨⟨hp.1, ⟨fun _ => trivial, fun _ => trivial⟩⟩, fun x H' ws hh => ?_⟩
    rcases hh with ⟨h1, h⟩ | ⟨h1, h⟩ <;> (subst h1; exact h)
  · exact hp.elim) (ok_rise I)
def lcSetIn : ACon Unit := mkLC (decP (shCons (shP 0) (shCons shI2 (shOne shC))) shG) fun ((_, (r, c), x), (oe, ⟨l, oe2, ep⟩)) => .ask (oe = oe2 ∧ GW l ∧ inB l r c = true) (.one (.v (.int .i64 0)) (gbi 0 oe ep (set2 l r c x)) [1])
theorem ok_setIn : ∀ I : Sym.Inv Unit, LCOk I Tryd.prog 86 lcSetIn := fun I => lc_mono (fun args H hp => by
  unfold lcSetIn mkLC at hp ⊢
  unfold lcSet1 mkLC
  split at hp
  · rename_i a ha
    obtain ⟨⟨_, ⟨r, c⟩, x⟩, oe, l, oe2, ep⟩ := a
    refine ⟨⟨⟨hp.1.1, hp.1.2.1⟩, ⟨fun _ => trivial, fun _ => trivial⟩⟩, fun x H' ws hh => ?_⟩
    rcases hh with ⟨_, h⟩ | ⟨h1, _⟩
    · exact h
    · rw [hp.1.2.2] at h1; cases h1
  · exact hp.elim) (ok_set1 I)
theorem riL_gw {l : List (List C4)} (hg : GW l) (p : Bool) (x : C4) : GW (riL l p x) ∧ (riL l p x).length = l.length ∧ nC (riL l p x) = nC l := by
  unfold riL
  split
  · exact upF_gw hg 1 x
  · exact ⟨hg, rfl, rfl⟩
/-- Where a glyph is put, of a board of so many rows and columns. -/
def puR (a r : Int) (p : Bool) : Int := ahR a r p
theorem ah_bd {a b r c : Int} {p : Bool} (ha : 1 ≤ a) (hb : 1 ≤ b) : 0 ≤ ahR a r p ∧ ahR a r p < a ∧ 0 ≤ ahC b c p ∧ ahC b c p < b := by
  have h1 := near_bd (x := r) ha
  have h2 := near_bd (x := c) hb
  have h3 := nxR_bd ha h1.1
  unfold ahR ahC
  split <;> omega
def puL1 (l : List (List C4)) (r c : Int) (p : Bool) (x y : C4) : List (List C4) :=
  set2 (riL l (ahU l.length r p) y) (ahR l.length r p) (ahC (nC l) c p) x
def puU (l : List (List C4)) (r c : Int) (p : Bool) (w : Int) : Bool := bhU l.length (nC l) (ahR l.length r p) (ahC (nC l) c p) w
def puL (l : List (List C4)) (r c : Int) (p : Bool) (x : C4) (w : Int) (y : C4) : List (List C4) := riL (puL1 l r c p x y) (puU l r c p w) y
def puPl (a b r c : Int) (p : Bool) (w : Int) : SV := pl3 (bhR a b (ahR a r p) (ahC b c p) w) (bhC a b (ahR a r p) (ahC b c p) w) (bhP a b (ahR a r p) (ahC b c p) w)
def puN (a b r c : Int) (p : Bool) (w : Int) : Int := riN (ahU a r p) + riN (bhU a b (ahR a r p) (ahC b c p) w)
def tabF2 : List (Nat × ACon Unit) := (89, lcAheadW) :: (91, lcBehind) :: (90, lcRiseU) :: (86, lcSetIn) :: (50, lcSize1) :: tabF1
theorem tabF2_ok : LCs Tryd.prog tabF2 := ⟨ok_aheadW, ok_behind, ok_riseU, ok_setIn, ok_size1, tabF1_ok⟩
def lcPut : ACon Unit := mkLC (decP (shCons (shP 0) (shCons shPl (shCons shC (shCons shI (shOne shC))))) shG) fun ((_, (r, c, p), x, w, y), (oe, ⟨l, oe2, ep⟩)) => .ask (oe = oe2 ∧ GW l)
  (.one (.t [puPl l.length (nC l) r c p w, .v (.int .i64 (puN l.length (nC l) r c p w)), .v (.int .i64 0)]) (gbi 0 oe (riE (puU l r c p w) (riE (ahU l.length r p) ep)) (puL l r c p x w y)) [1])
theorem puL1_gw {l : List (List C4)} (hg : GW l) (r c : Int) (p : Bool) (x y : C4) : inB (riL l (ahU l.length r p) y) (ahR l.length r p) (ahC (nC l) c p) = true ∧ GW (puL1 l r c p x y) ∧ (puL1 l r c p x y).length = l.length ∧ nC (puL1 l r c p x y) = nC l := by
  obtain ⟨g1, g2, g3⟩ := riL_gw hg (ahU l.length r p) y
  have h0 := hg.r0
  have h1 := hg.c0
  have hb := ah_bd (a := l.length) (b := nC l) (r := r) (c := c) (p := p) (by omega) (by omega)
  have hi : inB (riL l (ahU l.length r p) y) (ahR l.length r p) (ahC (nC l) c p) = true := by rw [inB_iff, g2, g3]; omega
  refine ⟨hi, ?_⟩
  unfold puL1
  rw [inB_iff] at hi
  rw [set2_eq g1 hi.1 hi.2.1 hi.2.2.1 hi.2.2.2, g2, g3]
  exact ⟨gridF_gw hg.r0 hg.r1 hg.c0 hg.c1, gridF_length _ _ _, gridF_nC (by omega)⟩
theorem riN_bd (p : Bool) : 0 ≤ riN p ∧ riN p ≤ 1 := by unfold riN; split <;> omega
set_option maxHeartbeats 4000000 in
theorem ok_put : ∀ I : Sym.Inv Unit, LCOk I Tryd.prog 77 lcPut := by
  refine lc_mk (fun _ => allCfg Tryd.prog [] tabF2 0) (fun _ _ => allCfg_ok mixed trivial tabF2_ok) (fun _ => rfl) (n := 80) Tryd.func77 ?_
  intro ⟨⟨_, ⟨r, c, p⟩, x, w, y⟩, ⟨oe, ⟨l, oe2, ep⟩⟩⟩ hφ
  obtain ⟨⟨rfl, hg⟩, hp⟩ := id hφ
  refine kcast (B := (true = true ∧ (oe = oe ∧ GW l) ∧ true = true ∧ mayB (↑l.length : Int) (↑(nC l) : Int) = true ∧ true = true ∧ (oe = oe ∧ GW l) ∧ true = true ∧ (oe = oe ∧ GW (riL l (ahU (↑l.length : Int) r p) (C4.mk y.g y.a y.gd y.m)) ∧ inB (riL l (ahU (↑l.length : Int) r p) (C4.mk y.g y.a y.gd y.m)) (ahR (↑l.length : Int) r p) (ahC (↑(nC l) : Int) c p) = true) ∧ true = true ∧ mayB (↑l.length : Int) (↑(nC l) : Int) = true ∧ true = true ∧ (oe = oe ∧ GW (set2 (riL l (ahU (↑l.length : Int) r p) (C4.mk y.g y.a y.gd y.m)) (ahR (↑l.length : Int) r p) (ahC (↑(nC l) : Int) c p) (C4.mk x.g x.a x.gd x.m))) ∧ (SV.t [SV.a [SV.v (Value.int IntKind.i64 (bhR (↑l.length : Int) (↑(nC l) : Int) (ahR (↑l.length : Int) r p) (ahC (↑(nC l) : Int) c p) w)), SV.v (Value.int IntKind.i64 (bhC (↑l.length : Int) (↑(nC l) : Int) (ahR (↑l.length : Int) r p) (ahC (↑(nC l) : Int) c p) w)), SV.v (Value.bool (bhP (↑l.length : Int) (↑(nC l) : Int) (ahR (↑l.length : Int) r p) (ahC (↑(nC l) : Int) c p) w))], SV.v (Value.int IntKind.i64 (IntKind.i64.wrap (riN (ahU (↑l.length : Int) r p) + riN (bhU (↑l.length : Int) (↑(nC l) : Int) (ahR (↑l.length : Int) r p) (ahC (↑(nC l) : Int) c p) w)))), SV.v (Value.int IntKind.i64 (0 : Int))] = SV.t [SV.a [SV.v (Value.int IntKind.i64 (bhR (↑l.length : Int) (↑(nC l) : Int) (ahR (↑l.length : Int) r p) (ahC (↑(nC l) : Int) c p) w)), SV.v (Value.int IntKind.i64 (bhC (↑l.length : Int) (↑(nC l) : Int) (ahR (↑l.length : Int) r p) (ahC (↑(nC l) : Int) c p) w)), SV.v (Value.bool (bhP (↑l.length : Int) (↑(nC l) : Int) (ahR (↑l.length : Int) r p) (ahC (↑(nC l) : Int) c p) w))], SV.v (Value.int IntKind.i64 (puN (↑l.length : Int) (↑(nC l) : Int) r c p w)), SV.v (Value.int IntKind.i64 (0 : Int))] ∧ True) ∧ (SV.h (1 : Nat) [oe, (0 : Nat)] = SV.h (1 : Nat) [oe, (0 : Nat)] ∧ True) ∧ (oe = oe ∧ riE (bhU (↑l.length : Int) (↑(nC l) : Int) (ahR (↑l.length : Int) r p) (ahC (↑(nC l) : Int) c p) w) (riE (ahU (↑l.length : Int) r p) ep) = riE (puU l r c p w) (riE (ahU (↑l.length : Int) r p) ep) ∧ riL (set2 (riL l (ahU (↑l.length : Int) r p) (C4.mk y.g y.a y.gd y.m)) (ahR (↑l.length : Int) r p) (ahC (↑(nC l) : Int) c p) (C4.mk x.g x.a x.gd x.m)) (bhU (↑l.length : Int) (↑(nC l) : Int) (ahR (↑l.length : Int) r p) (ahC (↑(nC l) : Int) c p) w) (C4.mk y.g y.a y.gd y.m) = puL l r c p x w y) ∧ True)) (by kernel_rfl) ?_
  clear hp hφ
  have eta : ∀ y : C4, C4.mk y.g y.a y.gd y.m = y := fun _ => rfl
  simp only [eta]
  have h0 := hg.r0
  have h1 := hg.c0
  have hm : mayB l.length (nC l) = true := by
    have := hg.r1
    have := hg.c1
    rw [mayB_iff]; omega
  obtain ⟨g1, g2, g3⟩ := riL_gw hg (ahU l.length r p) y
  obtain ⟨p1, p2, p3, p4⟩ := puL1_gw hg r c p x y
  have n1 := riN_bd (ahU l.length r p)
  have n2 := riN_bd (bhU l.length (nC l) (ahR l.length r p) (ahC (nC l) c p) w)
  rw [wrap64 (x := riN (ahU l.length r p) + riN (bhU l.length (nC l) (ahR l.length r p) (ahC (nC l) c p) w)) (by omega) (by omega)]
  simp [br_iff, hg, hm, g1, g2, g3, p1, show GW (set2 (riL l (ahU l.length r p) y) (ahR l.length r p) (ahC (nC l) c p) x) from p2, puL, puU, puN, puL1]
end Go.Proofs.YtcbjgpkbfmmdpaaDoor
