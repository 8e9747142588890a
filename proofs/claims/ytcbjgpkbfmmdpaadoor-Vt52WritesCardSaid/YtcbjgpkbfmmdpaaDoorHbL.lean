/- The law of what is written, run. -/
import Derived.Test.YtcbjgpkbfmmdpaaDoorHbJ
import Derived.Test.YtcbjgpkbfmmdpaaDoorVW
set_option linter.unusedSimpArgs false
set_option linter.unusedVariables false
set_option linter.unusedSectionVars false
namespace Go.Proofs.YtcbjgpkbfmmdpaaDoor
open Go Go.Sym

/-! ### Plain: what bytes do -/
theorem bytesL_append (a b : ByteArray) : bytesL (a ++ b) = bytesL a ++ bytesL b := by simp [bytesL, ByteArray.data_append]
theorem bytesL_getD {t : ByteArray} {j : Nat} (h : j < t.size) : (bytesL t).getD j 0 = byteAt t j := by
  have hl : j < t.data.toList.length := by simpa using h
  simp only [bytesL, byteAt, List.getD, List.getElem?_map, List.getElem?_eq_getElem hl, Option.map_some, Option.getD_some]
theorem bytesL_mem {t : ByteArray} {x : Int} (h : x ∈ bytesL t) : ∃ j, j < t.size ∧ x = byteAt t j := by
  obtain ⟨j, hj, rfl⟩ := List.mem_iff_getElem.1 h
  have hj' : j < t.size := by rwa [bytesL_length] at hj
  refine ⟨j, hj', ?_⟩
  rw [← bytesL_getD hj', List.getD, List.getElem?_eq_getElem hj, Option.getD_some]
section
variable {m : Nat} {fr : Int}
theorem esc1 (S : Tm) : byT m fr S 27 = { S with pl := [27], pe := S.pe + 1 } := by
  unfold byT
  rw [if_neg (fun h => by omega), if_pos rfl]
theorem esc2 (S : Tm) {b : Int} (h0 : b ≠ 27) (h1 : b ≠ 89) : feedT m fr S [27, b] = twoT m fr { S with pl := [], pe := S.pe + 3 } b := by
  show byT m fr (byT m fr S 27) b = _
  rw [esc1]
  unfold byT
  rw [if_neg (fun h => by simp at h), if_neg h0, if_pos (by simp)]
  unfold sqT
  rw [if_neg (fun h => by rcases h with ⟨_, h⟩ | h <;> simp_all)]
  exact if_pos rfl
theorem at2_set2 {l : List (List C4)} (hg : GW l) {w a : Int} {x : C4} (hw : 0 ≤ w) (hw2 : w < l.length) (ha : 0 ≤ a) (hb : a < nC l) {r c : Int} (h1 : 0 ≤ r) (h2 : r < l.length) (h3 : 0 ≤ c) (h4 : c < nC l) :
    at2 (set2 l w a x) r c = if r = w ∧ c = a then x else at2 l r c := by
  rw [set2_eq hg hw hw2 ha hb]
  obtain ⟨i, rfl⟩ : ∃ i : Nat, r = i := ⟨r.toNat, by omega⟩
  obtain ⟨k, rfl⟩ : ∃ k : Nat, c = k := ⟨c.toNat, by omega⟩
  rw [gridF_at (by omega) (by omega)]
  rfl
theorem gl_plain {b : Int} (h : 32 ≤ b ∧ b ≤ 126) : glT false b = b := by
  show ofT 1 b = b
  unfold ofT plainT
  rw [if_pos rfl, if_pos h]
/-- Letters stand where they are put. -/
theorem puts : ∀ (bs : List Int) (S : Tm), TI fr m S → S.pl = [] → S.G = false → S.r = 0 → S.c + bs.length < nC S.l → (∀ x ∈ bs, 32 ≤ x ∧ x ≤ 126) →
    (feedT m fr S bs).r = 0 ∧ (feedT m fr S bs).c = S.c + bs.length ∧ (∀ i : Int, 0 ≤ i → i < S.c → at2 (feedT m fr S bs).l 0 i = at2 S.l 0 i) ∧ ∀ j : Nat, j < bs.length → at2 (feedT m fr S bs).l 0 (S.c + j) = ⟨bs.getD j 0, 0, false, 0⟩
  | [], S, _, _, _, hr, _, _ => ⟨hr, by simp [feedT], fun _ _ _ => rfl, fun j hj => by simp at hj⟩
  | b :: bs, S, h, hp, hG, hr, hc, hb => by
    have hb0 := hb b List.mem_cons_self
    have e : byT m fr S b = puT S b := by
      unfold byT
      rw [if_neg (fun h => by omega), if_neg (by omega), if_neg (by rw [hp]; simp), if_pos hb0.1]
    have hT := tp_pu h b
    simp only [List.length_cons] at hc
    have h0 := h.c0
    have ec : (puT S b).c = S.c + 1 := by unfold puT; simp only; rw [if_pos (by omega)]
    have el : (puT S b).l = set2 S.l S.r S.c ⟨b, 0, false, 0⟩ := by unfold puT; simp only; rw [hG, gl_plain hb0]
    have ih := puts bs (puT S b) hT.ti hp hG hr (by rw [ec, hT.nc]; omega) (fun x hx => hb x (List.mem_cons_of_mem _ hx))
    rw [show feedT m fr S (b :: bs) = feedT m fr (puT S b) bs from by rw [← e]; rfl]
    obtain ⟨i1, i2, i3, i4⟩ := ih
    have hs : ∀ i : Int, 0 ≤ i → i < nC S.l → at2 (puT S b).l 0 i = if i = S.c then ⟨b, 0, false, 0⟩ else at2 S.l 0 i := by
      intro i h0 h1
      have h2 := h.r1
      rw [el, at2_set2 h.gw h.r0 h.r1 h.c0 h.c1 (Int.le_refl 0) (by omega) h0 h1, hr]
      by_cases hi : i = S.c <;> simp [hi]
    rw [ec] at i2 i3 i4
    refine ⟨i1, by rw [i2]; simp only [List.length_cons]; omega, fun i h0 h1 => ?_, fun j hj => ?_⟩
    · rw [i3 i h0 (by omega), hs i h0 (by omega), if_neg (by omega)]
    · cases j with
      | zero =>
        rw [show S.c + ((0 : Nat) : Int) = S.c by omega, i3 S.c h.c0 (by omega), hs S.c h.c0 (by omega), if_pos rfl]
        rfl
      | succ j =>
        have := i4 j (by simp only [List.length_cons] at hj; omega)
        rw [show S.c + ((j + 1 : Nat) : Int) = S.c + 1 + j by omega, this]
        rfl
end
/-- The cursor home, the graphics set out. -/
theorem home {m : Nat} {fr : Int} {S : Tm} (h : TI fr m S) : feedT m fr S [27, 71, 27, 72] = { S with r := 0, c := 0, G := false, pl := [], pe := S.pe + 6 } := by
  have e1 := rows0 h
  have e2 := cols0 h
  rw [show ([27, 71, 27, 72] : List Int) = [27, 71] ++ [27, 72] from rfl, feedT_append, esc2 _ (by decide) (by decide), esc2 _ (by decide) (by decide)]
  simp [twoT, moT, near_in (x := 0) (n := (S.l.length : Int)) (by omega) (by omega), near_in (x := 0) (n := (nC S.l : Int)) (by omega) (by omega)]
theorem writes_plain {S : Tm} (h : TI 0 50 S) {t : ByteArray} (ht : t.size < nC S.l) (hb : ∀ j, j < t.size → 32 ≤ byteAt t j ∧ byteAt t j ≤ 126) :
    (feedT 50 0 S (bytesL (⟨#[27, 71, 27, 72]⟩ ++ t))).r = 0 ∧ (feedT 50 0 S (bytesL (⟨#[27, 71, 27, 72]⟩ ++ t))).c = t.size ∧ ∀ j : Nat, j < t.size → at2 (feedT 50 0 S (bytesL (⟨#[27, 71, 27, 72]⟩ ++ t))).l 0 j = ⟨byteAt t j, 0, false, 0⟩ := by
  have hh := (tp_feed (m := 50) (fr := 0) [27, 71, 27, 72] h (fun x hx => by simp at hx; omega)).ti
  rw [bytesL_append, feedT_append, show bytesL ⟨#[27, 71, 27, 72]⟩ = [27, 71, 27, 72] from rfl]
  rw [home h] at hh ⊢
  obtain ⟨p1, p2, _, p4⟩ := puts (bytesL t) _ hh rfl rfl rfl (by simp only [bytesL_length]; omega) (fun x hx => by
    obtain ⟨j, hj, rfl⟩ := bytesL_mem hx
    exact hb j hj)
  refine ⟨p1, by rw [p2, bytesL_length]; simp, fun j hj => ?_⟩
  have := p4 j (by rw [bytesL_length]; exact hj)
  rw [bytesL_getD hj] at this
  simpa using this

def tabL12 : List (Nat × ACon Unit) := (9, lcAwake) :: tabW12
theorem tabL12_ok : LCs Tryd.prog tabL12 := ⟨ok_awake, tabW12_ok⟩
/-- The text's bytes are asked, one by one. -/
def annW1 (t : ByteArray) : Ann Unit where
  α := Int
  φ _ i := 0 ≤ i ∧ i ≤ t.size ∧ ∀ j : Nat, (j : Int) < i → 32 ≤ byteAt t j ∧ byteAt t j ≤ 126
  μ _ i := (t.size - i).toNat
  get st := getI st.tm 7
  f st i := tmpl [1, 2, 3, 6] [(7, .v (.int .i64 i))] [] st
/-- The first line's cells are read. -/
def annW2 (t : ByteArray) : Ann Unit where
  α := Int
  φ _ i := 0 ≤ i ∧ i ≤ t.size
  μ _ i := (t.size - i).toNat
  get st := getI st.tm 12
  f st i := tmpl [2, 6, 8, 10] [(12, .v (.int .i64 i))] [] st
/-- Where a world's items begin: its object is the twelfth of them. -/
def wOf (st : St Unit) (slot : Nat) : Nat := match st.tm[slot]? with
  | some (.p b _) => b - 11
  | _ => 0
/-- What varies of a world. -/
def tmOf (w : Nat) (H : List (SB Unit)) : Option Tm :=
  match H[w + 10]?, H[w + 7]?, H[w + 4]?, H[w + 9]?, H[w + 8]?, H[w + 12]? with
  | some (.cells [_, _, .v (.bool G), .v (.bool K), .v (.bool Ho), .h _ [pe, _]] _), some (.cells [.v (.int _ r), .v (.int _ c), _, _, _] _), some (.rows (.c l) _ _ _ ep _), some (.cells [_, _, .v (.int _ n), .v (.bool ov)] _), some (.own (.ints _ xs) _ _ _ _ _), some (.own (.ints _ pl) _ _ _ _ _) =>
    some ⟨r, c, l, ep, G, K, Ho, n, ov, xs, pe, pl⟩
  | _, _, _, _, _, _ => none
def wmI (w oe qe m : Nat) (fr : Int) (s : Tm) : List (Nat × SB Unit) := [(w + 10, .cells [.p (w + 7) 0, .p (w + 9) 0, .v (.bool s.G), .v (.bool s.K), .v (.bool s.Ho), .h (w + 12) [s.pe, 0]] 69),
  (w + 7, .cells [.v (.int .i64 s.r), .v (.int .i64 s.c), .v (.bool false), .p (w + 3) 0, .any] 80), (w + 4, .rows (.c s.l) 40 47 oe s.ep none),
  (w + 9, .cells [.h (w + 8) [qe, 0], .v (.int .i64 fr), .v (.int .i64 s.n), .v (.bool s.ov)] 96), (w + 8, .own (.ints .u8 s.xs) m 5 1 qe true), (w + 12, .own (.ints .u8 s.pl) s.pl.length 5 1 s.pe false)]
/-- A world, as a terminal's state. -/
def annJ (keep : List Nat) (var : List (Nat × SV)) (slot : Nat) (oe qe m : Nat) (fr : Int) (S : Tm) : Ann Unit where
  α := Tm
  φ _ s := s = S
  μ _ _ := 0
  get st := tmOf (wOf st slot) st.H
  f st s := tmpl keep var (wmI (wOf st slot) oe qe m fr s) st
theorem tm_eta (y : Tm) : Tm.mk y.r y.c y.l y.ep y.G y.K y.Ho y.n y.ov y.xs y.pe y.pl = y := rfl
def w1S (a b : Int) (s : ByteArray) : Tm := feedT 50 0 (newT a b 50) (bytesL s)
def w2S (a b : Int) (s t : ByteArray) : Tm := feedT 50 0 (w1S a b s) (bytesL (⟨#[27, 71, 27, 72]⟩ ++ t))
noncomputable def cfgW (a b : Int) (s t : ByteArray) : Cfg Unit := allCfg Tryd.prog [] tabL12 0 [(324, annW1 t), (1028, annW2 t)] [(642, annJ [1, 2, 3, 6, 8] [(57, .v (.bool false))] 8 (a.toNat + 1) 0 50 0 (newT a b 50)), (774, annJ [1, 2, 3, 6, 8] [] 8 (a.toNat + 1) 0 50 0 (w1S a b s)), (839, annJ [1, 2, 3, 6, 8] [] 8 (a.toNat + 1) 0 50 0 (w2S a b s t))]
theorem cfgW_ok (a b : Int) (s t : ByteArray) (I : Sym.Inv Unit) : CfgOk I (cfgW a b s t) := allCfg_ok mixed trivial tabL12_ok
set_option maxHeartbeats 4000000 in
theorem run_writes (a b : Int) (s t : ByteArray) : Sym.Ask (bodyK Tryd.prog (run (cfgW a b s t) 80) Tryd.f3 [.a [.v (.int .i64 a), .v (.int .i64 b)], .v (.string s), .v (.string t)] [] (fun y _ => y = .v (.bool true))) := by
  refine kcast (B := (br (decide (a ≥ (1 : Int))) (br (decide (a ≤ (30 : Int))) (br (decide (b ≥ (1 : Int))) (br (!decide (b ≤ (40 : Int))) (true = true ∧ SV.v (Value.bool true) = SV.v (Value.bool true)) (br (decide ((↑s.size : Int) > (300 : Int)))
   (true = true ∧ SV.v (Value.bool true) = SV.v (Value.bool true)) (br (decide ((↑t.size : Int) ≥ b)) (true = true ∧ SV.v (Value.bool true) = SV.v (Value.bool true)) ((II (0 : Int) ≤ (0 : Int) ∧ (0 : Int) ≤ (↑t.size : Int) ∧ ∀ (j : Nat), (↑j : Int) < (0
   : Int) → (32 : Int) ≤ byteAt t j ∧ byteAt t j ≤ (126 : Int)) ∧ ((SV.v (Value.string s) = SV.v (Value.string s) ∧ SV.v (Value.string t) = SV.v (Value.string t) ∧ SV.p (0 : Nat) (0 : Nat) = SV.p (0 : Nat) (0 : Nat) ∧ SV.v (Value.bool false) = SV.v
   (Value.bool false) ∧ SV.v (Value.int IntKind.i64 (0 : Int)) = SV.v (Value.int IntKind.i64 (0 : Int)) ∧ True) ∧ (SV.v (Value.int IntKind.i64 a) = SV.v (Value.int IntKind.i64 a) ∧ SV.v (Value.int IntKind.i64 b) = SV.v (Value.int IntKind.i64 b) ∧ True)
   ∧ (SV.v (Value.int IntKind.i64 a) = SV.v (Value.int IntKind.i64 a) ∧ SV.v (Value.int IntKind.i64 b) = SV.v (Value.int IntKind.i64 b) ∧ True) ∧ True) ∧ ∀ (x : Int), ((0 : Int) ≤ x ∧ x ≤ (↑t.size : Int) ∧ ∀ (j : Nat), (↑j : Int) < x → (32 : Int) ≤
   byteAt t j ∧ byteAt t j ≤ (126 : Int)) → br (decide (x < (↑t.size : Int))) (rq (decide ((0 : Int) ≤ x ∧ x < (↑t.size : Int))) (br (decide (byteAt t x.toNat < (32 : Int))) (true = true ∧ SV.v (Value.bool true) = SV.v (Value.bool true)) (rq (decide ((0
   : Int) ≤ x ∧ x < (↑t.size : Int))) (br (decide (byteAt t x.toNat > (126 : Int))) (true = true ∧ SV.v (Value.bool true) = SV.v (Value.bool true)) (((0 : Int) ≤ IntKind.i64.wrap (x + (1 : Int)) ∧ IntKind.i64.wrap (x + (1 : Int)) ≤ (↑t.size : Int) ∧ ∀
   (j : Nat), (↑j : Int) < IntKind.i64.wrap (x + (1 : Int)) → (32 : Int) ≤ byteAt t j ∧ byteAt t j ≤ (126 : Int)) ∧ ((SV.v (Value.string s) = SV.v (Value.string s) ∧ SV.v (Value.string t) = SV.v (Value.string t) ∧ SV.p (0 : Nat) (0 : Nat) = SV.p (0 :
   Nat) (0 : Nat) ∧ SV.v (Value.bool false) = SV.v (Value.bool false) ∧ SV.v (Value.int IntKind.i64 (IntKind.i64.wrap (x + (1 : Int)))) = SV.v (Value.int IntKind.i64 (IntKind.i64.wrap (x + (1 : Int)))) ∧ True) ∧ (SV.v (Value.int IntKind.i64 a) = SV.v
   (Value.int IntKind.i64 a) ∧ SV.v (Value.int IntKind.i64 b) = SV.v (Value.int IntKind.i64 b) ∧ True) ∧ (SV.v (Value.int IntKind.i64 a) = SV.v (Value.int IntKind.i64 a) ∧ SV.v (Value.int IntKind.i64 b) = SV.v (Value.int IntKind.i64 b) ∧ True) ∧ True) ∧
   ((↑t.size : Int) - IntKind.i64.wrap (x + (1 : Int))).toNat < ((↑t.size : Int) - x).toNat))))) (true = true ∧ (mayB a b = true ∧ II (0 : Int) ≤ (50 : Int) ∧ II (50 : Int) ≤ (4096 : Int)) ∧ (Tm.mk (0 : Int) (0 : Int) (newL a.toNat b.toNat blankC)
   (a.toNat + (1 : Nat)) false false false (0 : Int) false (LI [(0 : Int), (0 : Int), (0 : Int), (0 : Int), (0 : Int), (0 : Int), (0 : Int), (0 : Int), (0 : Int), (0 : Int), (0 : Int), (0 : Int), (0 : Int), (0 : Int), (0 : Int), (0 : Int), (0 : Int), (0
   : Int), (0 : Int), (0 : Int), (0 : Int), (0 : Int), (0 : Int), (0 : Int), (0 : Int), (0 : Int), (0 : Int), (0 : Int), (0 : Int), (0 : Int), (0 : Int), (0 : Int), (0 : Int), (0 : Int), (0 : Int), (0 : Int), (0 : Int), (0 : Int), (0 : Int), (0 : Int),
   (0 : Int), (0 : Int), (0 : Int), (0 : Int), (0 : Int), (0 : Int), (0 : Int), (0 : Int), (0 : Int), (0 : Int)]) (0 : Nat) (LI []) = newT a b (50 : Int) ∧ (SV.v (Value.string s) = SV.v (Value.string s) ∧ SV.v (Value.string t) = SV.v (Value.string t) ∧
   SV.p (0 : Nat) (0 : Nat) = SV.p (0 : Nat) (0 : Nat) ∧ SV.v (Value.bool false) = SV.v (Value.bool false) ∧ SV.p (13 : Nat) (0 : Nat) = SV.p (13 : Nat) (0 : Nat) ∧ SV.v (Value.bool false) = SV.v (Value.bool false) ∧ True) ∧ (SV.v (Value.int IntKind.i64
   a) = SV.v (Value.int IntKind.i64 a) ∧ SV.v (Value.int IntKind.i64 b) = SV.v (Value.int IntKind.i64 b) ∧ True) ∧ (SV.v (Value.int IntKind.i64 a) = SV.v (Value.int IntKind.i64 a) ∧ SV.v (Value.int IntKind.i64 b) = SV.v (Value.int IntKind.i64 b) ∧ True)
   ∧ True ∧ True ∧ True ∧ (SV.h (6 : Nat) [a.toNat + (1 : Nat), (0 : Nat)] = SV.h (6 : Nat) [a.toNat + (1 : Nat), (0 : Nat)] ∧ True) ∧ (a.toNat + (1 : Nat) = a.toNat + (1 : Nat) ∧ a.toNat + (1 : Nat) = a.toNat + (1 : Nat) ∧ newL a.toNat b.toNat blankC =
   newL a.toNat b.toNat blankC) ∧ True ∧ True ∧ (SV.v (Value.int IntKind.i64 (0 : Int)) = SV.v (Value.int IntKind.i64 (0 : Int)) ∧ SV.v (Value.int IntKind.i64 (0 : Int)) = SV.v (Value.int IntKind.i64 (0 : Int)) ∧ SV.v (Value.bool false) = SV.v
   (Value.bool false) ∧ SV.p (5 : Nat) (0 : Nat) = SV.p (5 : Nat) (0 : Nat) ∧ True) ∧ ((50 : Nat) = (50 : Nat) ∧ (0 : Nat) = (0 : Nat) ∧ LI [(0 : Int), (0 : Int), (0 : Int), (0 : Int), (0 : Int), (0 : Int), (0 : Int), (0 : Int), (0 : Int), (0 : Int), (0
   : Int), (0 : Int), (0 : Int), (0 : Int), (0 : Int), (0 : Int), (0 : Int), (0 : Int), (0 : Int), (0 : Int), (0 : Int), (0 : Int), (0 : Int), (0 : Int), (0 : Int), (0 : Int), (0 : Int), (0 : Int), (0 : Int), (0 : Int), (0 : Int), (0 : Int), (0 : Int),
   (0 : Int), (0 : Int), (0 : Int), (0 : Int), (0 : Int), (0 : Int), (0 : Int), (0 : Int), (0 : Int), (0 : Int), (0 : Int), (0 : Int), (0 : Int), (0 : Int), (0 : Int), (0 : Int), (0 : Int)] = LI [(0 : Int), (0 : Int), (0 : Int), (0 : Int), (0 : Int), (0
   : Int), (0 : Int), (0 : Int), (0 : Int), (0 : Int), (0 : Int), (0 : Int), (0 : Int), (0 : Int), (0 : Int), (0 : Int), (0 : Int), (0 : Int), (0 : Int), (0 : Int), (0 : Int), (0 : Int), (0 : Int), (0 : Int), (0 : Int), (0 : Int), (0 : Int), (0 : Int),
   (0 : Int), (0 : Int), (0 : Int), (0 : Int), (0 : Int), (0 : Int), (0 : Int), (0 : Int), (0 : Int), (0 : Int), (0 : Int), (0 : Int), (0 : Int), (0 : Int), (0 : Int), (0 : Int), (0 : Int), (0 : Int), (0 : Int), (0 : Int), (0 : Int), (0 : Int)]) ∧ (SV.h
   (10 : Nat) [(0 : Nat), (0 : Nat)] = SV.h (10 : Nat) [(0 : Nat), (0 : Nat)] ∧ SV.v (Value.int IntKind.i64 (0 : Int)) = SV.v (Value.int IntKind.i64 (0 : Int)) ∧ SV.v (Value.int IntKind.i64 (0 : Int)) = SV.v (Value.int IntKind.i64 (0 : Int)) ∧ SV.v
   (Value.bool false) = SV.v (Value.bool false) ∧ True) ∧ (SV.p (9 : Nat) (0 : Nat) = SV.p (9 : Nat) (0 : Nat) ∧ SV.p (11 : Nat) (0 : Nat) = SV.p (11 : Nat) (0 : Nat) ∧ SV.v (Value.bool false) = SV.v (Value.bool false) ∧ SV.v (Value.bool false) = SV.v
   (Value.bool false) ∧ SV.v (Value.bool false) = SV.v (Value.bool false) ∧ SV.h (14 : Nat) [(0 : Nat), (0 : Nat)] = SV.h (14 : Nat) [(0 : Nat), (0 : Nat)] ∧ True) ∧ (SV.p (9 : Nat) (0 : Nat) = SV.p (9 : Nat) (0 : Nat) ∧ SV.p (11 : Nat) (0 : Nat) = SV.p
   (11 : Nat) (0 : Nat) ∧ SV.p (12 : Nat) (0 : Nat) = SV.p (12 : Nat) (0 : Nat) ∧ True) ∧ ((0 : Nat) = (LI []).length ∧ (0 : Nat) = (0 : Nat) ∧ LI [] = LI []) ∧ True) ∧ ∀ (x : Tm), x = newT a b (50 : Int) → (true = true ∧ (TA (((), (), x.G, x.K, x.Ho,
   x.pe), (x.r, x.c, false, (), ()), a.toNat + (1 : Nat), RC.mk x.l (a.toNat + (1 : Nat)) x.ep, ((0 : Nat), (0 : Int), x.n, x.ov), OI.mk x.xs (50 : Nat) (0 : Nat), OI.mk x.pl x.pl.length x.pe) ∧ s.size ≤ (1099511627776 : Nat)) ∧ Tm.mk (fdX (((), (),
   x.G, x.K, x.Ho, x.pe), (x.r, x.c, false, (), ()), a.toNat + (1 : Nat), RC.mk x.l (a.toNat + (1 : Nat)) x.ep, ((0 : Nat), (0 : Int), x.n, x.ov), OI.mk x.xs (50 : Nat) (0 : Nat), OI.mk x.pl x.pl.length x.pe) s).r (fdX (((), (), x.G, x.K, x.Ho, x.pe),
   (x.r, x.c, false, (), ()), a.toNat + (1 : Nat), RC.mk x.l (a.toNat + (1 : Nat)) x.ep, ((0 : Nat), (0 : Int), x.n, x.ov), OI.mk x.xs (50 : Nat) (0 : Nat), OI.mk x.pl x.pl.length x.pe) s).c (fdX (((), (), x.G, x.K, x.Ho, x.pe), (x.r, x.c, false, (),
   ()), a.toNat + (1 : Nat), RC.mk x.l (a.toNat + (1 : Nat)) x.ep, ((0 : Nat), (0 : Int), x.n, x.ov), OI.mk x.xs (50 : Nat) (0 : Nat), OI.mk x.pl x.pl.length x.pe) s).l (fdX (((), (), x.G, x.K, x.Ho, x.pe), (x.r, x.c, false, (), ()), a.toNat + (1 :
   Nat), RC.mk x.l (a.toNat + (1 : Nat)) x.ep, ((0 : Nat), (0 : Int), x.n, x.ov), OI.mk x.xs (50 : Nat) (0 : Nat), OI.mk x.pl x.pl.length x.pe) s).ep (fdX (((), (), x.G, x.K, x.Ho, x.pe), (x.r, x.c, false, (), ()), a.toNat + (1 : Nat), RC.mk x.l
   (a.toNat + (1 : Nat)) x.ep, ((0 : Nat), (0 : Int), x.n, x.ov), OI.mk x.xs (50 : Nat) (0 : Nat), OI.mk x.pl x.pl.length x.pe) s).G (fdX (((), (), x.G, x.K, x.Ho, x.pe), (x.r, x.c, false, (), ()), a.toNat + (1 : Nat), RC.mk x.l (a.toNat + (1 : Nat))
   x.ep, ((0 : Nat), (0 : Int), x.n, x.ov), OI.mk x.xs (50 : Nat) (0 : Nat), OI.mk x.pl x.pl.length x.pe) s).K (fdX (((), (), x.G, x.K, x.Ho, x.pe), (x.r, x.c, false, (), ()), a.toNat + (1 : Nat), RC.mk x.l (a.toNat + (1 : Nat)) x.ep, ((0 : Nat), (0 :
   Int), x.n, x.ov), OI.mk x.xs (50 : Nat) (0 : Nat), OI.mk x.pl x.pl.length x.pe) s).Ho (fdX (((), (), x.G, x.K, x.Ho, x.pe), (x.r, x.c, false, (), ()), a.toNat + (1 : Nat), RC.mk x.l (a.toNat + (1 : Nat)) x.ep, ((0 : Nat), (0 : Int), x.n, x.ov), OI.mk
   x.xs (50 : Nat) (0 : Nat), OI.mk x.pl x.pl.length x.pe) s).n (fdX (((), (), x.G, x.K, x.Ho, x.pe), (x.r, x.c, false, (), ()), a.toNat + (1 : Nat), RC.mk x.l (a.toNat + (1 : Nat)) x.ep, ((0 : Nat), (0 : Int), x.n, x.ov), OI.mk x.xs (50 : Nat) (0 :
   Nat), OI.mk x.pl x.pl.length x.pe) s).ov (fdX (((), (), x.G, x.K, x.Ho, x.pe), (x.r, x.c, false, (), ()), a.toNat + (1 : Nat), RC.mk x.l (a.toNat + (1 : Nat)) x.ep, ((0 : Nat), (0 : Int), x.n, x.ov), OI.mk x.xs (50 : Nat) (0 : Nat), OI.mk x.pl
   x.pl.length x.pe) s).xs (fdX (((), (), x.G, x.K, x.Ho, x.pe), (x.r, x.c, false, (), ()), a.toNat + (1 : Nat), RC.mk x.l (a.toNat + (1 : Nat)) x.ep, ((0 : Nat), (0 : Int), x.n, x.ov), OI.mk x.xs (50 : Nat) (0 : Nat), OI.mk x.pl x.pl.length x.pe) s).pe
   (fdX (((), (), x.G, x.K, x.Ho, x.pe), (x.r, x.c, false, (), ()), a.toNat + (1 : Nat), RC.mk x.l (a.toNat + (1 : Nat)) x.ep, ((0 : Nat), (0 : Int), x.n, x.ov), OI.mk x.xs (50 : Nat) (0 : Nat), OI.mk x.pl x.pl.length x.pe) s).pl = w1S a b s ∧ (SV.v
   (Value.string s) = SV.v (Value.string s) ∧ SV.v (Value.string t) = SV.v (Value.string t) ∧ SV.p (0 : Nat) (0 : Nat) = SV.p (0 : Nat) (0 : Nat) ∧ SV.v (Value.bool false) = SV.v (Value.bool false) ∧ SV.p (13 : Nat) (0 : Nat) = SV.p (13 : Nat) (0 : Nat)
   ∧ True) ∧ (SV.v (Value.int IntKind.i64 a) = SV.v (Value.int IntKind.i64 a) ∧ SV.v (Value.int IntKind.i64 b) = SV.v (Value.int IntKind.i64 b) ∧ True) ∧ (SV.v (Value.int IntKind.i64 a) = SV.v (Value.int IntKind.i64 a) ∧ SV.v (Value.int IntKind.i64 b) =
   SV.v (Value.int IntKind.i64 b) ∧ True) ∧ True ∧ True ∧ True ∧ (SV.h (6 : Nat) [a.toNat + (1 : Nat), (0 : Nat)] = SV.h (6 : Nat) [a.toNat + (1 : Nat), (0 : Nat)] ∧ True) ∧ (a.toNat + (1 : Nat) = a.toNat + (1 : Nat) ∧ (fdX (((), (), x.G, x.K, x.Ho,
   x.pe), (x.r, x.c, false, (), ()), a.toNat + (1 : Nat), RC.mk x.l (a.toNat + (1 : Nat)) x.ep, ((0 : Nat), (0 : Int), x.n, x.ov), OI.mk x.xs (50 : Nat) (0 : Nat), OI.mk x.pl x.pl.length x.pe) s).ep = (fdX (((), (), x.G, x.K, x.Ho, x.pe), (x.r, x.c,
   false, (), ()), a.toNat + (1 : Nat), RC.mk x.l (a.toNat + (1 : Nat)) x.ep, ((0 : Nat), (0 : Int), x.n, x.ov), OI.mk x.xs (50 : Nat) (0 : Nat), OI.mk x.pl x.pl.length x.pe) s).ep ∧ (fdX (((), (), x.G, x.K, x.Ho, x.pe), (x.r, x.c, false, (), ()),
   a.toNat + (1 : Nat), RC.mk x.l (a.toNat + (1 : Nat)) x.ep, ((0 : Nat), (0 : Int), x.n, x.ov), OI.mk x.xs (50 : Nat) (0 : Nat), OI.mk x.pl x.pl.length x.pe) s).l = (fdX (((), (), x.G, x.K, x.Ho, x.pe), (x.r, x.c, false, (), ()), a.toNat + (1 : Nat),
   RC.mk x.l (a.toNat + (1 : Nat)) x.ep, ((0 : Nat), (0 : Int), x.n, x.ov), OI.mk x.xs (50 : Nat) (0 : Nat), OI.mk x.pl x.pl.length x.pe) s).l) ∧ True ∧ True ∧ (SV.v (Value.int IntKind.i64 (fdX (((), (), x.G, x.K, x.Ho, x.pe), (x.r, x.c, false, (), ()),
   a.toNat + (1 : Nat), RC.mk x.l (a.toNat + (1 : Nat)) x.ep, ((0 : Nat), (0 : Int), x.n, x.ov), OI.mk x.xs (50 : Nat) (0 : Nat), OI.mk x.pl x.pl.length x.pe) s).r) = SV.v (Value.int IntKind.i64 (fdX (((), (), x.G, x.K, x.Ho, x.pe), (x.r, x.c, false,
   (), ()), a.toNat + (1 : Nat), RC.mk x.l (a.toNat + (1 : Nat)) x.ep, ((0 : Nat), (0 : Int), x.n, x.ov), OI.mk x.xs (50 : Nat) (0 : Nat), OI.mk x.pl x.pl.length x.pe) s).r) ∧ SV.v (Value.int IntKind.i64 (fdX (((), (), x.G, x.K, x.Ho, x.pe), (x.r, x.c,
   false, (), ()), a.toNat + (1 : Nat), RC.mk x.l (a.toNat + (1 : Nat)) x.ep, ((0 : Nat), (0 : Int), x.n, x.ov), OI.mk x.xs (50 : Nat) (0 : Nat), OI.mk x.pl x.pl.length x.pe) s).c) = SV.v (Value.int IntKind.i64 (fdX (((), (), x.G, x.K, x.Ho, x.pe),
   (x.r, x.c, false, (), ()), a.toNat + (1 : Nat), RC.mk x.l (a.toNat + (1 : Nat)) x.ep, ((0 : Nat), (0 : Int), x.n, x.ov), OI.mk x.xs (50 : Nat) (0 : Nat), OI.mk x.pl x.pl.length x.pe) s).c) ∧ SV.v (Value.bool false) = SV.v (Value.bool false) ∧ SV.p (5
   : Nat) (0 : Nat) = SV.p (5 : Nat) (0 : Nat) ∧ True) ∧ ((50 : Nat) = (50 : Nat) ∧ (0 : Nat) = (0 : Nat) ∧ (fdX (((), (), x.G, x.K, x.Ho, x.pe), (x.r, x.c, false, (), ()), a.toNat + (1 : Nat), RC.mk x.l (a.toNat + (1 : Nat)) x.ep, ((0 : Nat), (0 :
   Int), x.n, x.ov), OI.mk x.xs (50 : Nat) (0 : Nat), OI.mk x.pl x.pl.length x.pe) s).xs = (fdX (((), (), x.G, x.K, x.Ho, x.pe), (x.r, x.c, false, (), ()), a.toNat + (1 : Nat), RC.mk x.l (a.toNat + (1 : Nat)) x.ep, ((0 : Nat), (0 : Int), x.n, x.ov),
   OI.mk x.xs (50 : Nat) (0 : Nat), OI.mk x.pl x.pl.length x.pe) s).xs) ∧ (SV.h (10 : Nat) [(0 : Nat), (0 : Nat)] = SV.h (10 : Nat) [(0 : Nat), (0 : Nat)] ∧ SV.v (Value.int IntKind.i64 (0 : Int)) = SV.v (Value.int IntKind.i64 (0 : Int)) ∧ SV.v
   (Value.int IntKind.i64 (fdX (((), (), x.G, x.K, x.Ho, x.pe), (x.r, x.c, false, (), ()), a.toNat + (1 : Nat), RC.mk x.l (a.toNat + (1 : Nat)) x.ep, ((0 : Nat), (0 : Int), x.n, x.ov), OI.mk x.xs (50 : Nat) (0 : Nat), OI.mk x.pl x.pl.length x.pe) s).n)
   = SV.v (Value.int IntKind.i64 (fdX (((), (), x.G, x.K, x.Ho, x.pe), (x.r, x.c, false, (), ()), a.toNat + (1 : Nat), RC.mk x.l (a.toNat + (1 : Nat)) x.ep, ((0 : Nat), (0 : Int), x.n, x.ov), OI.mk x.xs (50 : Nat) (0 : Nat), OI.mk x.pl x.pl.length x.pe)
   s).n) ∧ SV.v (Value.bool (fdX (((), (), x.G, x.K, x.Ho, x.pe), (x.r, x.c, false, (), ()), a.toNat + (1 : Nat), RC.mk x.l (a.toNat + (1 : Nat)) x.ep, ((0 : Nat), (0 : Int), x.n, x.ov), OI.mk x.xs (50 : Nat) (0 : Nat), OI.mk x.pl x.pl.length x.pe)
   s).ov) = SV.v (Value.bool (fdX (((), (), x.G, x.K, x.Ho, x.pe), (x.r, x.c, false, (), ()), a.toNat + (1 : Nat), RC.mk x.l (a.toNat + (1 : Nat)) x.ep, ((0 : Nat), (0 : Int), x.n, x.ov), OI.mk x.xs (50 : Nat) (0 : Nat), OI.mk x.pl x.pl.length x.pe)
   s).ov) ∧ True) ∧ (SV.p (9 : Nat) (0 : Nat) = SV.p (9 : Nat) (0 : Nat) ∧ SV.p (11 : Nat) (0 : Nat) = SV.p (11 : Nat) (0 : Nat) ∧ SV.v (Value.bool (fdX (((), (), x.G, x.K, x.Ho, x.pe), (x.r, x.c, false, (), ()), a.toNat + (1 : Nat), RC.mk x.l (a.toNat
   + (1 : Nat)) x.ep, ((0 : Nat), (0 : Int), x.n, x.ov), OI.mk x.xs (50 : Nat) (0 : Nat), OI.mk x.pl x.pl.length x.pe) s).G) = SV.v (Value.bool (fdX (((), (), x.G, x.K, x.Ho, x.pe), (x.r, x.c, false, (), ()), a.toNat + (1 : Nat), RC.mk x.l (a.toNat + (1
   : Nat)) x.ep, ((0 : Nat), (0 : Int), x.n, x.ov), OI.mk x.xs (50 : Nat) (0 : Nat), OI.mk x.pl x.pl.length x.pe) s).G) ∧ SV.v (Value.bool (fdX (((), (), x.G, x.K, x.Ho, x.pe), (x.r, x.c, false, (), ()), a.toNat + (1 : Nat), RC.mk x.l (a.toNat + (1 :
   Nat)) x.ep, ((0 : Nat), (0 : Int), x.n, x.ov), OI.mk x.xs (50 : Nat) (0 : Nat), OI.mk x.pl x.pl.length x.pe) s).K) = SV.v (Value.bool (fdX (((), (), x.G, x.K, x.Ho, x.pe), (x.r, x.c, false, (), ()), a.toNat + (1 : Nat), RC.mk x.l (a.toNat + (1 :
   Nat)) x.ep, ((0 : Nat), (0 : Int), x.n, x.ov), OI.mk x.xs (50 : Nat) (0 : Nat), OI.mk x.pl x.pl.length x.pe) s).K) ∧ SV.v (Value.bool (fdX (((), (), x.G, x.K, x.Ho, x.pe), (x.r, x.c, false, (), ()), a.toNat + (1 : Nat), RC.mk x.l (a.toNat + (1 :
   Nat)) x.ep, ((0 : Nat), (0 : Int), x.n, x.ov), OI.mk x.xs (50 : Nat) (0 : Nat), OI.mk x.pl x.pl.length x.pe) s).Ho) = SV.v (Value.bool (fdX (((), (), x.G, x.K, x.Ho, x.pe), (x.r, x.c, false, (), ()), a.toNat + (1 : Nat), RC.mk x.l (a.toNat + (1 :
   Nat)) x.ep, ((0 : Nat), (0 : Int), x.n, x.ov), OI.mk x.xs (50 : Nat) (0 : Nat), OI.mk x.pl x.pl.length x.pe) s).Ho) ∧ SV.h (14 : Nat) [(fdX (((), (), x.G, x.K, x.Ho, x.pe), (x.r, x.c, false, (), ()), a.toNat + (1 : Nat), RC.mk x.l (a.toNat + (1 :
   Nat)) x.ep, ((0 : Nat), (0 : Int), x.n, x.ov), OI.mk x.xs (50 : Nat) (0 : Nat), OI.mk x.pl x.pl.length x.pe) s).pe, (0 : Nat)] = SV.h (14 : Nat) [(fdX (((), (), x.G, x.K, x.Ho, x.pe), (x.r, x.c, false, (), ()), a.toNat + (1 : Nat), RC.mk x.l (a.toNat
   + (1 : Nat)) x.ep, ((0 : Nat), (0 : Int), x.n, x.ov), OI.mk x.xs (50 : Nat) (0 : Nat), OI.mk x.pl x.pl.length x.pe) s).pe, (0 : Nat)] ∧ True) ∧ (SV.p (9 : Nat) (0 : Nat) = SV.p (9 : Nat) (0 : Nat) ∧ SV.p (11 : Nat) (0 : Nat) = SV.p (11 : Nat) (0 :
   Nat) ∧ SV.p (12 : Nat) (0 : Nat) = SV.p (12 : Nat) (0 : Nat) ∧ True) ∧ ((fdX (((), (), x.G, x.K, x.Ho, x.pe), (x.r, x.c, false, (), ()), a.toNat + (1 : Nat), RC.mk x.l (a.toNat + (1 : Nat)) x.ep, ((0 : Nat), (0 : Int), x.n, x.ov), OI.mk x.xs (50 :
   Nat) (0 : Nat), OI.mk x.pl x.pl.length x.pe) s).pl.length = (fdX (((), (), x.G, x.K, x.Ho, x.pe), (x.r, x.c, false, (), ()), a.toNat + (1 : Nat), RC.mk x.l (a.toNat + (1 : Nat)) x.ep, ((0 : Nat), (0 : Int), x.n, x.ov), OI.mk x.xs (50 : Nat) (0 :
   Nat), OI.mk x.pl x.pl.length x.pe) s).pl.length ∧ (fdX (((), (), x.G, x.K, x.Ho, x.pe), (x.r, x.c, false, (), ()), a.toNat + (1 : Nat), RC.mk x.l (a.toNat + (1 : Nat)) x.ep, ((0 : Nat), (0 : Int), x.n, x.ov), OI.mk x.xs (50 : Nat) (0 : Nat), OI.mk
   x.pl x.pl.length x.pe) s).pe = (fdX (((), (), x.G, x.K, x.Ho, x.pe), (x.r, x.c, false, (), ()), a.toNat + (1 : Nat), RC.mk x.l (a.toNat + (1 : Nat)) x.ep, ((0 : Nat), (0 : Int), x.n, x.ov), OI.mk x.xs (50 : Nat) (0 : Nat), OI.mk x.pl x.pl.length
   x.pe) s).pe ∧ (fdX (((), (), x.G, x.K, x.Ho, x.pe), (x.r, x.c, false, (), ()), a.toNat + (1 : Nat), RC.mk x.l (a.toNat + (1 : Nat)) x.ep, ((0 : Nat), (0 : Int), x.n, x.ov), OI.mk x.xs (50 : Nat) (0 : Nat), OI.mk x.pl x.pl.length x.pe) s).pl = (fdX
   (((), (), x.G, x.K, x.Ho, x.pe), (x.r, x.c, false, (), ()), a.toNat + (1 : Nat), RC.mk x.l (a.toNat + (1 : Nat)) x.ep, ((0 : Nat), (0 : Int), x.n, x.ov), OI.mk x.xs (50 : Nat) (0 : Nat), OI.mk x.pl x.pl.length x.pe) s).pl) ∧ True) ∧ ∀ (x : Tm), x =
   w1S a b s → rq (decide ((↑((4 : Nat) + t.size) : Int) ≤ (9223372036854775807 : Int))) (true = true ∧ (TA (((), (), x.G, x.K, x.Ho, x.pe), (x.r, x.c, false, (), ()), a.toNat + (1 : Nat), RC.mk x.l (a.toNat + (1 : Nat)) x.ep, ((0 : Nat), (0 : Int),
   x.n, x.ov), OI.mk x.xs (50 : Nat) (0 : Nat), OI.mk x.pl x.pl.length x.pe) ∧ (ByteArray.mk #[(27 : UInt8), (71 : UInt8), (27 : UInt8), (72 : UInt8)] ++ t).size ≤ (1099511627776 : Nat)) ∧ Tm.mk (fdX (((), (), x.G, x.K, x.Ho, x.pe), (x.r, x.c, false,
   (), ()), a.toNat + (1 : Nat), RC.mk x.l (a.toNat + (1 : Nat)) x.ep, ((0 : Nat), (0 : Int), x.n, x.ov), OI.mk x.xs (50 : Nat) (0 : Nat), OI.mk x.pl x.pl.length x.pe) (ByteArray.mk #[(27 : UInt8), (71 : UInt8), (27 : UInt8), (72 : UInt8)] ++ t)).r (fdX
   (((), (), x.G, x.K, x.Ho, x.pe), (x.r, x.c, false, (), ()), a.toNat + (1 : Nat), RC.mk x.l (a.toNat + (1 : Nat)) x.ep, ((0 : Nat), (0 : Int), x.n, x.ov), OI.mk x.xs (50 : Nat) (0 : Nat), OI.mk x.pl x.pl.length x.pe) (ByteArray.mk #[(27 : UInt8), (71
   : UInt8), (27 : UInt8), (72 : UInt8)] ++ t)).c (fdX (((), (), x.G, x.K, x.Ho, x.pe), (x.r, x.c, false, (), ()), a.toNat + (1 : Nat), RC.mk x.l (a.toNat + (1 : Nat)) x.ep, ((0 : Nat), (0 : Int), x.n, x.ov), OI.mk x.xs (50 : Nat) (0 : Nat), OI.mk x.pl
   x.pl.length x.pe) (ByteArray.mk #[(27 : UInt8), (71 : UInt8), (27 : UInt8), (72 : UInt8)] ++ t)).l (fdX (((), (), x.G, x.K, x.Ho, x.pe), (x.r, x.c, false, (), ()), a.toNat + (1 : Nat), RC.mk x.l (a.toNat + (1 : Nat)) x.ep, ((0 : Nat), (0 : Int), x.n,
   x.ov), OI.mk x.xs (50 : Nat) (0 : Nat), OI.mk x.pl x.pl.length x.pe) (ByteArray.mk #[(27 : UInt8), (71 : UInt8), (27 : UInt8), (72 : UInt8)] ++ t)).ep (fdX (((), (), x.G, x.K, x.Ho, x.pe), (x.r, x.c, false, (), ()), a.toNat + (1 : Nat), RC.mk x.l
   (a.toNat + (1 : Nat)) x.ep, ((0 : Nat), (0 : Int), x.n, x.ov), OI.mk x.xs (50 : Nat) (0 : Nat), OI.mk x.pl x.pl.length x.pe) (ByteArray.mk #[(27 : UInt8), (71 : UInt8), (27 : UInt8), (72 : UInt8)] ++ t)).G (fdX (((), (), x.G, x.K, x.Ho, x.pe), (x.r,
   x.c, false, (), ()), a.toNat + (1 : Nat), RC.mk x.l (a.toNat + (1 : Nat)) x.ep, ((0 : Nat), (0 : Int), x.n, x.ov), OI.mk x.xs (50 : Nat) (0 : Nat), OI.mk x.pl x.pl.length x.pe) (ByteArray.mk #[(27 : UInt8), (71 : UInt8), (27 : UInt8), (72 : UInt8)]
   ++ t)).K (fdX (((), (), x.G, x.K, x.Ho, x.pe), (x.r, x.c, false, (), ()), a.toNat + (1 : Nat), RC.mk x.l (a.toNat + (1 : Nat)) x.ep, ((0 : Nat), (0 : Int), x.n, x.ov), OI.mk x.xs (50 : Nat) (0 : Nat), OI.mk x.pl x.pl.length x.pe) (ByteArray.mk #[(27
   : UInt8), (71 : UInt8), (27 : UInt8), (72 : UInt8)] ++ t)).Ho (fdX (((), (), x.G, x.K, x.Ho, x.pe), (x.r, x.c, false, (), ()), a.toNat + (1 : Nat), RC.mk x.l (a.toNat + (1 : Nat)) x.ep, ((0 : Nat), (0 : Int), x.n, x.ov), OI.mk x.xs (50 : Nat) (0 :
   Nat), OI.mk x.pl x.pl.length x.pe) (ByteArray.mk #[(27 : UInt8), (71 : UInt8), (27 : UInt8), (72 : UInt8)] ++ t)).n (fdX (((), (), x.G, x.K, x.Ho, x.pe), (x.r, x.c, false, (), ()), a.toNat + (1 : Nat), RC.mk x.l (a.toNat + (1 : Nat)) x.ep, ((0 :
   Nat), (0 : Int), x.n, x.ov), OI.mk x.xs (50 : Nat) (0 : Nat), OI.mk x.pl x.pl.length x.pe) (ByteArray.mk #[(27 : UInt8), (71 : UInt8), (27 : UInt8), (72 : UInt8)] ++ t)).ov (fdX (((), (), x.G, x.K, x.Ho, x.pe), (x.r, x.c, false, (), ()), a.toNat + (1
   : Nat), RC.mk x.l (a.toNat + (1 : Nat)) x.ep, ((0 : Nat), (0 : Int), x.n, x.ov), OI.mk x.xs (50 : Nat) (0 : Nat), OI.mk x.pl x.pl.length x.pe) (ByteArray.mk #[(27 : UInt8), (71 : UInt8), (27 : UInt8), (72 : UInt8)] ++ t)).xs (fdX (((), (), x.G, x.K,
   x.Ho, x.pe), (x.r, x.c, false, (), ()), a.toNat + (1 : Nat), RC.mk x.l (a.toNat + (1 : Nat)) x.ep, ((0 : Nat), (0 : Int), x.n, x.ov), OI.mk x.xs (50 : Nat) (0 : Nat), OI.mk x.pl x.pl.length x.pe) (ByteArray.mk #[(27 : UInt8), (71 : UInt8), (27 :
   UInt8), (72 : UInt8)] ++ t)).pe (fdX (((), (), x.G, x.K, x.Ho, x.pe), (x.r, x.c, false, (), ()), a.toNat + (1 : Nat), RC.mk x.l (a.toNat + (1 : Nat)) x.ep, ((0 : Nat), (0 : Int), x.n, x.ov), OI.mk x.xs (50 : Nat) (0 : Nat), OI.mk x.pl x.pl.length
   x.pe) (ByteArray.mk #[(27 : UInt8), (71 : UInt8), (27 : UInt8), (72 : UInt8)] ++ t)).pl = w2S a b s t ∧ (SV.v (Value.string s) = SV.v (Value.string s) ∧ SV.v (Value.string t) = SV.v (Value.string t) ∧ SV.p (0 : Nat) (0 : Nat) = SV.p (0 : Nat) (0 :
   Nat) ∧ SV.v (Value.bool false) = SV.v (Value.bool false) ∧ SV.p (13 : Nat) (0 : Nat) = SV.p (13 : Nat) (0 : Nat) ∧ True) ∧ (SV.v (Value.int IntKind.i64 a) = SV.v (Value.int IntKind.i64 a) ∧ SV.v (Value.int IntKind.i64 b) = SV.v (Value.int IntKind.i64
   b) ∧ True) ∧ (SV.v (Value.int IntKind.i64 a) = SV.v (Value.int IntKind.i64 a) ∧ SV.v (Value.int IntKind.i64 b) = SV.v (Value.int IntKind.i64 b) ∧ True) ∧ True ∧ True ∧ True ∧ (SV.h (6 : Nat) [a.toNat + (1 : Nat), (0 : Nat)] = SV.h (6 : Nat) [a.toNat
   + (1 : Nat), (0 : Nat)] ∧ True) ∧ (a.toNat + (1 : Nat) = a.toNat + (1 : Nat) ∧ (fdX (((), (), x.G, x.K, x.Ho, x.pe), (x.r, x.c, false, (), ()), a.toNat + (1 : Nat), RC.mk x.l (a.toNat + (1 : Nat)) x.ep, ((0 : Nat), (0 : Int), x.n, x.ov), OI.mk x.xs
   (50 : Nat) (0 : Nat), OI.mk x.pl x.pl.length x.pe) (ByteArray.mk #[(27 : UInt8), (71 : UInt8), (27 : UInt8), (72 : UInt8)] ++ t)).ep = (fdX (((), (), x.G, x.K, x.Ho, x.pe), (x.r, x.c, false, (), ()), a.toNat + (1 : Nat), RC.mk x.l (a.toNat + (1 :
   Nat)) x.ep, ((0 : Nat), (0 : Int), x.n, x.ov), OI.mk x.xs (50 : Nat) (0 : Nat), OI.mk x.pl x.pl.length x.pe) (ByteArray.mk #[(27 : UInt8), (71 : UInt8), (27 : UInt8), (72 : UInt8)] ++ t)).ep ∧ (fdX (((), (), x.G, x.K, x.Ho, x.pe), (x.r, x.c, false,
   (), ()), a.toNat + (1 : Nat), RC.mk x.l (a.toNat + (1 : Nat)) x.ep, ((0 : Nat), (0 : Int), x.n, x.ov), OI.mk x.xs (50 : Nat) (0 : Nat), OI.mk x.pl x.pl.length x.pe) (ByteArray.mk #[(27 : UInt8), (71 : UInt8), (27 : UInt8), (72 : UInt8)] ++ t)).l =
   (fdX (((), (), x.G, x.K, x.Ho, x.pe), (x.r, x.c, false, (), ()), a.toNat + (1 : Nat), RC.mk x.l (a.toNat + (1 : Nat)) x.ep, ((0 : Nat), (0 : Int), x.n, x.ov), OI.mk x.xs (50 : Nat) (0 : Nat), OI.mk x.pl x.pl.length x.pe) (ByteArray.mk #[(27 : UInt8),
   (71 : UInt8), (27 : UInt8), (72 : UInt8)] ++ t)).l) ∧ True ∧ True ∧ (SV.v (Value.int IntKind.i64 (fdX (((), (), x.G, x.K, x.Ho, x.pe), (x.r, x.c, false, (), ()), a.toNat + (1 : Nat), RC.mk x.l (a.toNat + (1 : Nat)) x.ep, ((0 : Nat), (0 : Int), x.n,
   x.ov), OI.mk x.xs (50 : Nat) (0 : Nat), OI.mk x.pl x.pl.length x.pe) (ByteArray.mk #[(27 : UInt8), (71 : UInt8), (27 : UInt8), (72 : UInt8)] ++ t)).r) = SV.v (Value.int IntKind.i64 (fdX (((), (), x.G, x.K, x.Ho, x.pe), (x.r, x.c, false, (), ()),
   a.toNat + (1 : Nat), RC.mk x.l (a.toNat + (1 : Nat)) x.ep, ((0 : Nat), (0 : Int), x.n, x.ov), OI.mk x.xs (50 : Nat) (0 : Nat), OI.mk x.pl x.pl.length x.pe) (ByteArray.mk #[(27 : UInt8), (71 : UInt8), (27 : UInt8), (72 : UInt8)] ++ t)).r) ∧ SV.v
   (Value.int IntKind.i64 (fdX (((), (), x.G, x.K, x.Ho, x.pe), (x.r, x.c, false, (), ()), a.toNat + (1 : Nat), RC.mk x.l (a.toNat + (1 : Nat)) x.ep, ((0 : Nat), (0 : Int), x.n, x.ov), OI.mk x.xs (50 : Nat) (0 : Nat), OI.mk x.pl x.pl.length x.pe)
   (ByteArray.mk #[(27 : UInt8), (71 : UInt8), (27 : UInt8), (72 : UInt8)] ++ t)).c) = SV.v (Value.int IntKind.i64 (fdX (((), (), x.G, x.K, x.Ho, x.pe), (x.r, x.c, false, (), ()), a.toNat + (1 : Nat), RC.mk x.l (a.toNat + (1 : Nat)) x.ep, ((0 : Nat), (0
   : Int), x.n, x.ov), OI.mk x.xs (50 : Nat) (0 : Nat), OI.mk x.pl x.pl.length x.pe) (ByteArray.mk #[(27 : UInt8), (71 : UInt8), (27 : UInt8), (72 : UInt8)] ++ t)).c) ∧ SV.v (Value.bool false) = SV.v (Value.bool false) ∧ SV.p (5 : Nat) (0 : Nat) = SV.p
   (5 : Nat) (0 : Nat) ∧ True) ∧ ((50 : Nat) = (50 : Nat) ∧ (0 : Nat) = (0 : Nat) ∧ (fdX (((), (), x.G, x.K, x.Ho, x.pe), (x.r, x.c, false, (), ()), a.toNat + (1 : Nat), RC.mk x.l (a.toNat + (1 : Nat)) x.ep, ((0 : Nat), (0 : Int), x.n, x.ov), OI.mk x.xs
   (50 : Nat) (0 : Nat), OI.mk x.pl x.pl.length x.pe) (ByteArray.mk #[(27 : UInt8), (71 : UInt8), (27 : UInt8), (72 : UInt8)] ++ t)).xs = (fdX (((), (), x.G, x.K, x.Ho, x.pe), (x.r, x.c, false, (), ()), a.toNat + (1 : Nat), RC.mk x.l (a.toNat + (1 :
   Nat)) x.ep, ((0 : Nat), (0 : Int), x.n, x.ov), OI.mk x.xs (50 : Nat) (0 : Nat), OI.mk x.pl x.pl.length x.pe) (ByteArray.mk #[(27 : UInt8), (71 : UInt8), (27 : UInt8), (72 : UInt8)] ++ t)).xs) ∧ (SV.h (10 : Nat) [(0 : Nat), (0 : Nat)] = SV.h (10 :
   Nat) [(0 : Nat), (0 : Nat)] ∧ SV.v (Value.int IntKind.i64 (0 : Int)) = SV.v (Value.int IntKind.i64 (0 : Int)) ∧ SV.v (Value.int IntKind.i64 (fdX (((), (), x.G, x.K, x.Ho, x.pe), (x.r, x.c, false, (), ()), a.toNat + (1 : Nat), RC.mk x.l (a.toNat + (1
   : Nat)) x.ep, ((0 : Nat), (0 : Int), x.n, x.ov), OI.mk x.xs (50 : Nat) (0 : Nat), OI.mk x.pl x.pl.length x.pe) (ByteArray.mk #[(27 : UInt8), (71 : UInt8), (27 : UInt8), (72 : UInt8)] ++ t)).n) = SV.v (Value.int IntKind.i64 (fdX (((), (), x.G, x.K,
   x.Ho, x.pe), (x.r, x.c, false, (), ()), a.toNat + (1 : Nat), RC.mk x.l (a.toNat + (1 : Nat)) x.ep, ((0 : Nat), (0 : Int), x.n, x.ov), OI.mk x.xs (50 : Nat) (0 : Nat), OI.mk x.pl x.pl.length x.pe) (ByteArray.mk #[(27 : UInt8), (71 : UInt8), (27 :
   UInt8), (72 : UInt8)] ++ t)).n) ∧ SV.v (Value.bool (fdX (((), (), x.G, x.K, x.Ho, x.pe), (x.r, x.c, false, (), ()), a.toNat + (1 : Nat), RC.mk x.l (a.toNat + (1 : Nat)) x.ep, ((0 : Nat), (0 : Int), x.n, x.ov), OI.mk x.xs (50 : Nat) (0 : Nat), OI.mk
   x.pl x.pl.length x.pe) (ByteArray.mk #[(27 : UInt8), (71 : UInt8), (27 : UInt8), (72 : UInt8)] ++ t)).ov) = SV.v (Value.bool (fdX (((), (), x.G, x.K, x.Ho, x.pe), (x.r, x.c, false, (), ()), a.toNat + (1 : Nat), RC.mk x.l (a.toNat + (1 : Nat)) x.ep,
   ((0 : Nat), (0 : Int), x.n, x.ov), OI.mk x.xs (50 : Nat) (0 : Nat), OI.mk x.pl x.pl.length x.pe) (ByteArray.mk #[(27 : UInt8), (71 : UInt8), (27 : UInt8), (72 : UInt8)] ++ t)).ov) ∧ True) ∧ (SV.p (9 : Nat) (0 : Nat) = SV.p (9 : Nat) (0 : Nat) ∧ SV.p
   (11 : Nat) (0 : Nat) = SV.p (11 : Nat) (0 : Nat) ∧ SV.v (Value.bool (fdX (((), (), x.G, x.K, x.Ho, x.pe), (x.r, x.c, false, (), ()), a.toNat + (1 : Nat), RC.mk x.l (a.toNat + (1 : Nat)) x.ep, ((0 : Nat), (0 : Int), x.n, x.ov), OI.mk x.xs (50 : Nat)
   (0 : Nat), OI.mk x.pl x.pl.length x.pe) (ByteArray.mk #[(27 : UInt8), (71 : UInt8), (27 : UInt8), (72 : UInt8)] ++ t)).G) = SV.v (Value.bool (fdX (((), (), x.G, x.K, x.Ho, x.pe), (x.r, x.c, false, (), ()), a.toNat + (1 : Nat), RC.mk x.l (a.toNat + (1
   : Nat)) x.ep, ((0 : Nat), (0 : Int), x.n, x.ov), OI.mk x.xs (50 : Nat) (0 : Nat), OI.mk x.pl x.pl.length x.pe) (ByteArray.mk #[(27 : UInt8), (71 : UInt8), (27 : UInt8), (72 : UInt8)] ++ t)).G) ∧ SV.v (Value.bool (fdX (((), (), x.G, x.K, x.Ho, x.pe),
   (x.r, x.c, false, (), ()), a.toNat + (1 : Nat), RC.mk x.l (a.toNat + (1 : Nat)) x.ep, ((0 : Nat), (0 : Int), x.n, x.ov), OI.mk x.xs (50 : Nat) (0 : Nat), OI.mk x.pl x.pl.length x.pe) (ByteArray.mk #[(27 : UInt8), (71 : UInt8), (27 : UInt8), (72 :
   UInt8)] ++ t)).K) = SV.v (Value.bool (fdX (((), (), x.G, x.K, x.Ho, x.pe), (x.r, x.c, false, (), ()), a.toNat + (1 : Nat), RC.mk x.l (a.toNat + (1 : Nat)) x.ep, ((0 : Nat), (0 : Int), x.n, x.ov), OI.mk x.xs (50 : Nat) (0 : Nat), OI.mk x.pl
   x.pl.length x.pe) (ByteArray.mk #[(27 : UInt8), (71 : UInt8), (27 : UInt8), (72 : UInt8)] ++ t)).K) ∧ SV.v (Value.bool (fdX (((), (), x.G, x.K, x.Ho, x.pe), (x.r, x.c, false, (), ()), a.toNat + (1 : Nat), RC.mk x.l (a.toNat + (1 : Nat)) x.ep, ((0 :
   Nat), (0 : Int), x.n, x.ov), OI.mk x.xs (50 : Nat) (0 : Nat), OI.mk x.pl x.pl.length x.pe) (ByteArray.mk #[(27 : UInt8), (71 : UInt8), (27 : UInt8), (72 : UInt8)] ++ t)).Ho) = SV.v (Value.bool (fdX (((), (), x.G, x.K, x.Ho, x.pe), (x.r, x.c, false,
   (), ()), a.toNat + (1 : Nat), RC.mk x.l (a.toNat + (1 : Nat)) x.ep, ((0 : Nat), (0 : Int), x.n, x.ov), OI.mk x.xs (50 : Nat) (0 : Nat), OI.mk x.pl x.pl.length x.pe) (ByteArray.mk #[(27 : UInt8), (71 : UInt8), (27 : UInt8), (72 : UInt8)] ++ t)).Ho) ∧
   SV.h (14 : Nat) [(fdX (((), (), x.G, x.K, x.Ho, x.pe), (x.r, x.c, false, (), ()), a.toNat + (1 : Nat), RC.mk x.l (a.toNat + (1 : Nat)) x.ep, ((0 : Nat), (0 : Int), x.n, x.ov), OI.mk x.xs (50 : Nat) (0 : Nat), OI.mk x.pl x.pl.length x.pe)
   (ByteArray.mk #[(27 : UInt8), (71 : UInt8), (27 : UInt8), (72 : UInt8)] ++ t)).pe, (0 : Nat)] = SV.h (14 : Nat) [(fdX (((), (), x.G, x.K, x.Ho, x.pe), (x.r, x.c, false, (), ()), a.toNat + (1 : Nat), RC.mk x.l (a.toNat + (1 : Nat)) x.ep, ((0 : Nat),
   (0 : Int), x.n, x.ov), OI.mk x.xs (50 : Nat) (0 : Nat), OI.mk x.pl x.pl.length x.pe) (ByteArray.mk #[(27 : UInt8), (71 : UInt8), (27 : UInt8), (72 : UInt8)] ++ t)).pe, (0 : Nat)] ∧ True) ∧ (SV.p (9 : Nat) (0 : Nat) = SV.p (9 : Nat) (0 : Nat) ∧ SV.p
   (11 : Nat) (0 : Nat) = SV.p (11 : Nat) (0 : Nat) ∧ SV.p (12 : Nat) (0 : Nat) = SV.p (12 : Nat) (0 : Nat) ∧ True) ∧ ((fdX (((), (), x.G, x.K, x.Ho, x.pe), (x.r, x.c, false, (), ()), a.toNat + (1 : Nat), RC.mk x.l (a.toNat + (1 : Nat)) x.ep, ((0 :
   Nat), (0 : Int), x.n, x.ov), OI.mk x.xs (50 : Nat) (0 : Nat), OI.mk x.pl x.pl.length x.pe) (ByteArray.mk #[(27 : UInt8), (71 : UInt8), (27 : UInt8), (72 : UInt8)] ++ t)).pl.length = (fdX (((), (), x.G, x.K, x.Ho, x.pe), (x.r, x.c, false, (), ()),
   a.toNat + (1 : Nat), RC.mk x.l (a.toNat + (1 : Nat)) x.ep, ((0 : Nat), (0 : Int), x.n, x.ov), OI.mk x.xs (50 : Nat) (0 : Nat), OI.mk x.pl x.pl.length x.pe) (ByteArray.mk #[(27 : UInt8), (71 : UInt8), (27 : UInt8), (72 : UInt8)] ++ t)).pl.length ∧
   (fdX (((), (), x.G, x.K, x.Ho, x.pe), (x.r, x.c, false, (), ()), a.toNat + (1 : Nat), RC.mk x.l (a.toNat + (1 : Nat)) x.ep, ((0 : Nat), (0 : Int), x.n, x.ov), OI.mk x.xs (50 : Nat) (0 : Nat), OI.mk x.pl x.pl.length x.pe) (ByteArray.mk #[(27 : UInt8),
   (71 : UInt8), (27 : UInt8), (72 : UInt8)] ++ t)).pe = (fdX (((), (), x.G, x.K, x.Ho, x.pe), (x.r, x.c, false, (), ()), a.toNat + (1 : Nat), RC.mk x.l (a.toNat + (1 : Nat)) x.ep, ((0 : Nat), (0 : Int), x.n, x.ov), OI.mk x.xs (50 : Nat) (0 : Nat),
   OI.mk x.pl x.pl.length x.pe) (ByteArray.mk #[(27 : UInt8), (71 : UInt8), (27 : UInt8), (72 : UInt8)] ++ t)).pe ∧ (fdX (((), (), x.G, x.K, x.Ho, x.pe), (x.r, x.c, false, (), ()), a.toNat + (1 : Nat), RC.mk x.l (a.toNat + (1 : Nat)) x.ep, ((0 : Nat),
   (0 : Int), x.n, x.ov), OI.mk x.xs (50 : Nat) (0 : Nat), OI.mk x.pl x.pl.length x.pe) (ByteArray.mk #[(27 : UInt8), (71 : UInt8), (27 : UInt8), (72 : UInt8)] ++ t)).pl = (fdX (((), (), x.G, x.K, x.Ho, x.pe), (x.r, x.c, false, (), ()), a.toNat + (1 :
   Nat), RC.mk x.l (a.toNat + (1 : Nat)) x.ep, ((0 : Nat), (0 : Int), x.n, x.ov), OI.mk x.xs (50 : Nat) (0 : Nat), OI.mk x.pl x.pl.length x.pe) (ByteArray.mk #[(27 : UInt8), (71 : UInt8), (27 : UInt8), (72 : UInt8)] ++ t)).pl) ∧ True) ∧ ∀ (x : Tm), x =
   w2S a b s t → true = true ∧ (II (0 : Int) ≤ (0 : Int) ∧ (0 : Int) ≤ (↑t.size : Int)) ∧ ((SV.v (Value.string t) = SV.v (Value.string t) ∧ SV.v (Value.bool false) = SV.v (Value.bool false) ∧ SV.p (13 : Nat) (0 : Nat) = SV.p (13 : Nat) (0 : Nat) ∧ SV.p
   (15 : Nat) (0 : Nat) = SV.p (15 : Nat) (0 : Nat) ∧ SV.v (Value.int IntKind.i64 (0 : Int)) = SV.v (Value.int IntKind.i64 (0 : Int)) ∧ True) ∧ (SV.v (Value.int IntKind.i64 a) = SV.v (Value.int IntKind.i64 a) ∧ SV.v (Value.int IntKind.i64 b) = SV.v
   (Value.int IntKind.i64 b) ∧ True) ∧ (SV.v (Value.int IntKind.i64 a) = SV.v (Value.int IntKind.i64 a) ∧ SV.v (Value.int IntKind.i64 b) = SV.v (Value.int IntKind.i64 b) ∧ True) ∧ True ∧ True ∧ True ∧ (SV.h (6 : Nat) [a.toNat + (1 : Nat), (0 : Nat)] =
   SV.h (6 : Nat) [a.toNat + (1 : Nat), (0 : Nat)] ∧ True) ∧ (a.toNat + (1 : Nat) = a.toNat + (1 : Nat) ∧ x.ep = x.ep ∧ x.l = x.l) ∧ True ∧ True ∧ (SV.v (Value.int IntKind.i64 x.r) = SV.v (Value.int IntKind.i64 x.r) ∧ SV.v (Value.int IntKind.i64 x.c) =
   SV.v (Value.int IntKind.i64 x.c) ∧ SV.v (Value.bool false) = SV.v (Value.bool false) ∧ SV.p (5 : Nat) (0 : Nat) = SV.p (5 : Nat) (0 : Nat) ∧ True) ∧ ((50 : Nat) = (50 : Nat) ∧ (0 : Nat) = (0 : Nat) ∧ x.xs = x.xs) ∧ (SV.h (10 : Nat) [(0 : Nat), (0 :
   Nat)] = SV.h (10 : Nat) [(0 : Nat), (0 : Nat)] ∧ SV.v (Value.int IntKind.i64 (0 : Int)) = SV.v (Value.int IntKind.i64 (0 : Int)) ∧ SV.v (Value.int IntKind.i64 x.n) = SV.v (Value.int IntKind.i64 x.n) ∧ SV.v (Value.bool x.ov) = SV.v (Value.bool x.ov) ∧
   True) ∧ (SV.p (9 : Nat) (0 : Nat) = SV.p (9 : Nat) (0 : Nat) ∧ SV.p (11 : Nat) (0 : Nat) = SV.p (11 : Nat) (0 : Nat) ∧ SV.v (Value.bool x.G) = SV.v (Value.bool x.G) ∧ SV.v (Value.bool x.K) = SV.v (Value.bool x.K) ∧ SV.v (Value.bool x.Ho) = SV.v
   (Value.bool x.Ho) ∧ SV.h (14 : Nat) [x.pe, (0 : Nat)] = SV.h (14 : Nat) [x.pe, (0 : Nat)] ∧ True) ∧ (SV.p (9 : Nat) (0 : Nat) = SV.p (9 : Nat) (0 : Nat) ∧ SV.p (11 : Nat) (0 : Nat) = SV.p (11 : Nat) (0 : Nat) ∧ SV.p (12 : Nat) (0 : Nat) = SV.p (12 :
   Nat) (0 : Nat) ∧ True) ∧ (x.pl.length = x.pl.length ∧ x.pe = x.pe ∧ x.pl = x.pl) ∧ (SV.v (Value.int IntKind.i64 x.r) = SV.v (Value.int IntKind.i64 x.r) ∧ SV.v (Value.int IntKind.i64 x.c) = SV.v (Value.int IntKind.i64 x.c) ∧ True) ∧ True) ∧ ∀ (x_1 :
   Int), (0 : Int) ≤ x_1 ∧ x_1 ≤ (↑t.size : Int) → br (decide (x_1 < (↑t.size : Int))) (true = true ∧ (a.toNat + (1 : Nat) = a.toNat + (1 : Nat) ∧ GW x.l ∧ inB x.l (0 : Int) x_1 = true) ∧ rq (decide ((0 : Int) ≤ x_1 ∧ x_1 < (↑t.size : Int))) (br (!((at2
   x.l (0 : Int) x_1).g == IntKind.i32.wrap (byteAt t x_1.toNat) && ((at2 x.l (0 : Int) x_1).a == (0 : Int) && ((at2 x.l (0 : Int) x_1).gd == false && ((at2 x.l (0 : Int) x_1).m == (0 : Int) && true))))) (SV.v (Value.bool false) = SV.v (Value.bool
   true)) (((0 : Int) ≤ IntKind.i64.wrap (x_1 + (1 : Int)) ∧ IntKind.i64.wrap (x_1 + (1 : Int)) ≤ (↑t.size : Int)) ∧ ((SV.v (Value.string t) = SV.v (Value.string t) ∧ SV.v (Value.bool false) = SV.v (Value.bool false) ∧ SV.p (13 : Nat) (0 : Nat) = SV.p
   (13 : Nat) (0 : Nat) ∧ SV.p (15 : Nat) (0 : Nat) = SV.p (15 : Nat) (0 : Nat) ∧ SV.v (Value.int IntKind.i64 (IntKind.i64.wrap (x_1 + (1 : Int)))) = SV.v (Value.int IntKind.i64 (IntKind.i64.wrap (x_1 + (1 : Int)))) ∧ True) ∧ (SV.v (Value.int
   IntKind.i64 a) = SV.v (Value.int IntKind.i64 a) ∧ SV.v (Value.int IntKind.i64 b) = SV.v (Value.int IntKind.i64 b) ∧ True) ∧ (SV.v (Value.int IntKind.i64 a) = SV.v (Value.int IntKind.i64 a) ∧ SV.v (Value.int IntKind.i64 b) = SV.v (Value.int
   IntKind.i64 b) ∧ True) ∧ True ∧ True ∧ True ∧ (SV.h (6 : Nat) [a.toNat + (1 : Nat), (0 : Nat)] = SV.h (6 : Nat) [a.toNat + (1 : Nat), (0 : Nat)] ∧ True) ∧ (a.toNat + (1 : Nat) = a.toNat + (1 : Nat) ∧ x.ep = x.ep ∧ x.l = x.l) ∧ True ∧ True ∧ (SV.v
   (Value.int IntKind.i64 x.r) = SV.v (Value.int IntKind.i64 x.r) ∧ SV.v (Value.int IntKind.i64 x.c) = SV.v (Value.int IntKind.i64 x.c) ∧ SV.v (Value.bool false) = SV.v (Value.bool false) ∧ SV.p (5 : Nat) (0 : Nat) = SV.p (5 : Nat) (0 : Nat) ∧ True) ∧
   ((50 : Nat) = (50 : Nat) ∧ (0 : Nat) = (0 : Nat) ∧ x.xs = x.xs) ∧ (SV.h (10 : Nat) [(0 : Nat), (0 : Nat)] = SV.h (10 : Nat) [(0 : Nat), (0 : Nat)] ∧ SV.v (Value.int IntKind.i64 (0 : Int)) = SV.v (Value.int IntKind.i64 (0 : Int)) ∧ SV.v (Value.int
   IntKind.i64 x.n) = SV.v (Value.int IntKind.i64 x.n) ∧ SV.v (Value.bool x.ov) = SV.v (Value.bool x.ov) ∧ True) ∧ (SV.p (9 : Nat) (0 : Nat) = SV.p (9 : Nat) (0 : Nat) ∧ SV.p (11 : Nat) (0 : Nat) = SV.p (11 : Nat) (0 : Nat) ∧ SV.v (Value.bool x.G) =
   SV.v (Value.bool x.G) ∧ SV.v (Value.bool x.K) = SV.v (Value.bool x.K) ∧ SV.v (Value.bool x.Ho) = SV.v (Value.bool x.Ho) ∧ SV.h (14 : Nat) [x.pe, (0 : Nat)] = SV.h (14 : Nat) [x.pe, (0 : Nat)] ∧ True) ∧ (SV.p (9 : Nat) (0 : Nat) = SV.p (9 : Nat) (0 :
   Nat) ∧ SV.p (11 : Nat) (0 : Nat) = SV.p (11 : Nat) (0 : Nat) ∧ SV.p (12 : Nat) (0 : Nat) = SV.p (12 : Nat) (0 : Nat) ∧ True) ∧ (x.pl.length = x.pl.length ∧ x.pe = x.pe ∧ x.pl = x.pl) ∧ (SV.v (Value.int IntKind.i64 x.r) = SV.v (Value.int IntKind.i64
   x.r) ∧ SV.v (Value.int IntKind.i64 x.c) = SV.v (Value.int IntKind.i64 x.c) ∧ True) ∧ True) ∧ ((↑t.size : Int) - IntKind.i64.wrap (x_1 + (1 : Int))).toNat < ((↑t.size : Int) - x_1).toNat))) (br (x.r == (0 : Int) && (x.c == (↑t.size : Int) && true))
   (true = true ∧ SV.v (Value.bool true) = SV.v (Value.bool true)) (SV.v (Value.bool false) = SV.v (Value.bool true)))))))) (true = true ∧ SV.v (Value.bool true) = SV.v (Value.bool true))) (true = true ∧ SV.v (Value.bool true) = SV.v (Value.bool true)))
   (true = true ∧ SV.v (Value.bool true) = SV.v (Value.bool true)))) (by kernel_rfl) ?_
  have hfd : ∀ (x : Tm) (u : ByteArray), fdX (((), (), x.G, x.K, x.Ho, x.pe), (x.r, x.c, false, (), ()), a.toNat + 1, RC.mk x.l (a.toNat + 1) x.ep, (0, 0, x.n, x.ov), OI.mk x.xs 50 0, OI.mk x.pl x.pl.length x.pe) u = feedT 50 0 x (bytesL u) := fun _ _ => rfl
  have hTA : ∀ x : Tm, TI 0 50 x → TA (((), (), x.G, x.K, x.Ho, x.pe), (x.r, x.c, false, (), ()), a.toNat + 1, RC.mk x.l (a.toNat + 1) x.ep, (0, 0, x.n, x.ov), OI.mk x.xs 50 0, OI.mk x.pl x.pl.length x.pe) := fun _ h => ⟨rfl, rfl, rfl, rfl, rfl, h⟩
  simp only [hfd]
  simp only [br_iff, rq_iff, nbeq, II, true_and, and_true, and_self, implies_true, decide_eq_true_eq, decide_eq_false_iff_not, Bool.not_eq_true', Bool.not_eq_false']
  intro ha1 ha2 hb1 hb2 hs ht
  have hm : mayB a b = true := mayB_iff.2 (by omega)
  have hN : TI 0 50 (newT a b 50) := newT_ti (a := a) (b := b) (m := 50) hm (by omega) (by omega)
  have hW := tp_feed (bytesL s) hN (bytesL_range s)
  refine ⟨⟨Int.le_refl 0, by omega, fun j hj => by omega⟩, fun x ⟨hx0, hx1, hx2⟩ => ⟨fun hlt => ⟨⟨hx0, hlt⟩, fun h3 => ⟨⟨hx0, hlt⟩, fun h4 => ?_⟩⟩, fun hge => ⟨⟨hm, by decide, by decide⟩, ⟨rfl, rfl⟩, ?_⟩⟩⟩
  · rw [wrap64 (x := x + 1) (by omega) (by omega)]
    refine ⟨⟨by omega, by omega, fun j hj => ?_⟩, by omega⟩
    by_cases hj' : (j : Int) < x
    · exact hx2 j hj'
    · obtain rfl : j = x.toNat := by omega
      omega
  · rintro x rfl
    refine ⟨⟨⟨hTA _ hN, by omega⟩, tm_eta (feedT 50 0 (newT a b 50) (bytesL s))⟩, ?_⟩
    rintro x rfl
    have hsz : ((⟨#[27, 71, 27, 72]⟩ ++ t : ByteArray)).size = 4 + t.size := by rw [ByteArray.size_append]; rfl
    refine ⟨⟨by omega, ⟨hTA _ hW.ti, by omega⟩, tm_eta (feedT 50 0 (w1S a b s) (bytesL (⟨#[27, 71, 27, 72]⟩ ++ t)))⟩, ?_⟩
    have hc : nC (w1S a b s).l = b.toNat := hW.nc.trans (newL_nC (by omega))
    have hr : (w1S a b s).l.length = a.toNat := hW.le.trans (newL_length _ _ _)
    obtain ⟨q1, q2, q3⟩ := writes_plain (S := w1S a b s) hW.ti (t := t) (by omega) (fun j hj => hx2 j (by omega))
    have hV := tp_feed (bytesL (⟨#[27, 71, 27, 72]⟩ ++ t)) hW.ti (bytesL_range _)
    rintro x rfl
    refine ⟨⟨Int.le_refl 0, by omega⟩, fun y ⟨hy0, hy1⟩ => ⟨fun hlt => ⟨⟨hV.ti.gw, ?_⟩, ⟨hy0, hlt⟩, fun hbad => ?_, fun _ => ?_⟩, fun hge hbad => ?_⟩⟩
    · have e1 : (w2S a b s t).l.length = a.toNat := hV.le.trans hr
      have e2 : nC (w2S a b s t).l = b.toNat := hV.nc.trans hc
      simp [inB, e1, e2]
      omega
    · have e := q3 y.toNat (by omega)
      rw [show ((y.toNat : Nat) : Int) = y by omega] at e
      have hr2 := byteAt_range t y.toNat
      rw [show at2 (w2S a b s t).l 0 y = _ from e, IntWalk.i32_in _ ⟨by omega, by omega⟩] at hbad
      simp at hbad
    · rw [wrap64 (x := y + 1) (by omega) (by omega)]
      omega
    · rw [show (w2S a b s t).r = 0 from q1, show (w2S a b s t).c = t.size from q2] at hbad
      simp at hbad
theorem law_writes {W : World} {vs : List Value} (hG : Gw W) (hp : IPDens (wholeH W) maxLen [.agg [.i .i64, .i .i64], .one .s, .one .s] vs) : Calls Tryd.prog 3 vs.toArray W fun en W' => en = .returned (.bool true) ∧ Ext W W' := by
  simp only [IPDens, IP.den, IT.dens, it_s, it_i] at hp
  obtain ⟨_, _, rfl, ⟨us, rfl, _, _, rfl, ⟨a, rfl, _⟩, _, _, rfl, ⟨b, rfl, _⟩, rfl⟩, _, _, rfl, ⟨s, rfl, _⟩, _, _, rfl, ⟨t, rfl, _⟩, rfl⟩ := hp
  refine law_run (cfgW_ok a b s t) rfl Tryd.func3 [] (by simp) ?_ (run_writes a b s t) hG
  exact dl_cons (den_a (dl_cons den_v (dl_cons den_v dl_nil))) (dl_cons den_v (dl_cons den_v dl_nil))
end Go.Proofs.YtcbjgpkbfmmdpaaDoor
