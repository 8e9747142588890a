/- Layer 1: what comes in, and a grid behind some calls. -/
import Derived.Test.YtpdhnmnjccnbmaaGrN
import Derived.Test.YtpdhnmnjccnbmaaVW
set_option linter.unusedSimpArgs false
set_option linter.unusedVariables false
set_option linter.unusedSectionVars false
namespace Go.Sym
open Go
/-- A handle's epoch. -/
def svEp (x : SV) : Nat := match x with
  | .h _ q => match q with
    | e :: _ => e
    | [] => 0
  | _ => 0
end Go.Sym
namespace Go.Proofs.Ytpdhnmnjccnbmaa
open Go Go.Sym

def o1 : O1 := ⟨0, 0, 0, 0, 0, 0, 0⟩
def o1IC (o : O1) (fo : Nat) : IC := match fo with
  | 0 => .pl (.int .i64 o.ask)
  | 1 => .pl (.int .i64 o.ar)
  | 2 => .pl (.int .i64 o.ac)
  | 3 => .pl (.int .i64 o.br)
  | 4 => .pl (.int .i64 o.bc)
  | 5 => .pl (.int .i64 o.n)
  | _ => .pl (.int .i64 o.x)
def o1sIC (l : List O1) : IC := .sl l.length 7 fun i fo => o1IC (l.getD i o1) fo
theorem maxLen_le : maxLen ≤ 9223372036854775807 := by decide
theorem o1s_in {ro : PH} {v : Value} (h : IT.den ro maxLen (.sl [.i .i64, .i .i64, .i .i64, .i .i64, .i .i64, .i .i64, .i .i64]) v) : ∃ l : List O1, l.length ≤ 9223372036854775807 ∧ VV ro (o1sIC l) v := by
  obtain ⟨l, h1, h2, h3⟩ := vv_sl (α := O1) o1 (φ := fun _ => True) (c := o1IC) h fun vs hvs => by
    simp only [IT.dens, it_i] at hvs
    obtain ⟨_, _, rfl, ⟨n1, rfl, _⟩, _, _, rfl, ⟨n2, rfl, _⟩, _, _, rfl, ⟨n3, rfl, _⟩, _, _, rfl, ⟨n4, rfl, _⟩, _, _, rfl, ⟨n5, rfl, _⟩, _, _, rfl, ⟨n6, rfl, _⟩, _, _, rfl, ⟨n7, rfl, _⟩, rfl⟩ := hvs
    refine ⟨⟨n1, n2, n3, n4, n5, n6, n7⟩, trivial, fun fo hf => ?_⟩
    simp only [List.length_cons, List.length_nil] at hf
    match fo, hf with
    | 0, _ => exact ⟨_, rfl, rfl⟩
    | 1, _ => exact ⟨_, rfl, rfl⟩
    | 2, _ => exact ⟨_, rfl, rfl⟩
    | 3, _ => exact ⟨_, rfl, rfl⟩
    | 4, _ => exact ⟨_, rfl, rfl⟩
    | 5, _ => exact ⟨_, rfl, rfl⟩
    | 6, _ => exact ⟨_, rfl, rfl⟩
  exact ⟨l, Nat.le_trans h1 maxLen_le, h3⟩
theorem isRes_iff {o : O1} : isRes o = true ↔ o.ask = 4 ∧ mayB o.br o.bc = true := by
  unfold isRes
  rw [Bool.and_eq_true, decide_eq_true_eq]
/-- The first calls make nothing that is too great. -/
structure FewTo (l : List O1) (i : Int) : Prop where
  h : ∀ j : Nat, (j : Int) < i → isRes (l.getD j o1) = true → (l.getD j o1).br ≤ 12 ∧ (l.getD j o1).bc ≤ 20
theorem fewTo_zero (l : List O1) : FewTo l 0 := ⟨fun j hj => by omega⟩
theorem fewTo_step {l : List O1} {i : Int} (h : FewTo l i) (i0 : 0 ≤ i) (h2 : isRes (l.getD i.toNat o1) = true → (l.getD i.toNat o1).br ≤ 12 ∧ (l.getD i.toNat o1).bc ≤ 20) : FewTo l (i + 1) := ⟨fun j hj hr => by
  by_cases hji : (j : Int) < i
  · exact h.h j hji hr
  · obtain rfl : j = i.toNat := by omega
    exact h2 hr⟩
/-- Few goes through the calls. -/
def annFw (l : List O1) : Ann Unit where
  α := Int
  φ _ i := 0 ≤ i ∧ i ≤ l.length ∧ FewTo l i
  μ _ i := ((l.length : Int) - i).toNat
  get st := getI st.tm 3
  f st i := tmpl [0] [(3, .v (.int .i64 i))] [] st
/-- A grid and the document's answer's, behind some calls; the first item of theirs but one is the k-th. -/
def twoH (k : Nat) (oe ep e : Nat) (l : List (List Int)) : List (Nat × SB Unit) := [(k + 1, .cells [.h (k + 2) [oe, 0]] 75), (k + 2, .rows (.i .i64 l) 3 63 oe ep none),
  (k + 3, .cells [.v (.int .i64 l.length), .v (.int .i64 (nC l)), .h (k + 4) [e, 0]] 67), (k + 4, .own (.ints .i64 (flL l)) (l.length * nC l) 3 1 e false)]
/-- A grid that is not too great. -/
structure Sm (l : List (List Int)) : Prop where
  r : l.length ≤ 12
  c : nC l ≤ 20
def annBe (k n : Nat) : Ann Unit where
  α := Int × Nat × Nat × Nat × List (List Int)
  φ _ x := 0 ≤ x.1 ∧ x.1 ≤ n ∧ GW x.2.2.2.2 ∧ Sm x.2.2.2.2
  μ _ x := ((n : Int) - x.1).toNat
  get st := match getI st.tm 7 with
    | some i => some (i, svEp (cAt st.H (k + 1) 0), xE st.H (k + 2), xE st.H (k + 4), xR st.H (k + 2))
    | none => none
  f st x := tmpl [0, 4, 6] [(7, .v (.int .i64 x.1))] (twoH k x.2.1 x.2.2.1 x.2.2.2.1 x.2.2.2.2) st
  fx st := match Nat.beq (ptB (tmAt st.tm 6)) (k + 3) with
    | true => []
    | false => [.mv (k + 2) (k + 9), .mv (k + 3) (k + 10), .mv (k + 4) (k + 11)]
/-- The same, of a law's own loop. -/
def annPl (k n : Nat) (keep : List Nat) (si sr : Nat) : Ann Unit where
  α := Int × Nat × Nat × Nat × List (List Int)
  φ _ x := 0 ≤ x.1 ∧ x.1 ≤ n ∧ GW x.2.2.2.2
  μ _ x := ((n : Int) - x.1).toNat
  get st := match getI st.tm si with
    | some i => some (i, svEp (cAt st.H (k + 1) 0), xE st.H (k + 2), xE st.H (k + 4), xR st.H (k + 2))
    | none => none
  f st x := tmpl keep [(si, .v (.int .i64 x.1))] (twoH k x.2.1 x.2.2.1 x.2.2.2.1 x.2.2.2.2) st
  fx st := match Nat.beq (ptB (tmAt st.tm sr)) (k + 3) with
    | true => []
    | false => [.mv (k + 2) (k + 9), .mv (k + 3) (k + 10), .mv (k + 4) (k + 11)]
structure Is69 (l : List (List Int)) : Prop where
  h : l = newL 6 9 0
/-- The grid that is begun with. -/
def annB1 (k : Nat) : Ann Unit where
  α := Nat × Nat × List (List Int)
  φ _ x := Is69 x.2.2
  μ _ _ := 0
  get st := some (svEp (cAt st.H (k + 1) 0), xE st.H (k + 2), xR st.H (k + 2))
  f st x := { tmpl [0] [(4, .p (k + 1) 0), (5, .v (.int .i64 0))] [] st with H := st.H ++ [.gone, .cells [.h (k + 2) [x.1, 0]] 75, .rows (.i .i64 x.2.2) 3 63 x.1 x.2.1 none] }
/-- Loops through all places of a grid whose size is known when they begin. -/
def annAoX (b : Nat) (ks : List Nat) (hv : St Unit → Nat → Nat → List (Nat × SB Unit)) : Ann Unit where
  α := Int
  φ st r := 0 ≤ r ∧ r ≤ tI st.tm 9
  μ st r := (tI st.tm 9 - r).toNat
  get st := getI st.tm 10
  f st r := tmpl [0, 1, 3, 9] [(10, .v (.int .i64 r))] ((b, loopTm st.H b ks []) :: hv st r.toNat 0) st
def annAiX (b : Nat) (ks : List Nat) (hv : St Unit → Nat → Nat → List (Nat × SB Unit)) : Ann Unit where
  α := Int
  φ st k := 0 ≤ k ∧ k ≤ tI st.tm 14
  μ st k := (tI st.tm 14 - k).toNat
  get st := getI st.tm 15
  f st k := tmpl [0, 1, 3, 4, 9, 10, 14] [(15, .v (.int .i64 k))] ((b, loopTm st.H b ks []) :: hv st (tI st.tm 4).toNat k.toNat) st
def tabX : List (Nat × ACon Unit) := (28, lcCopy1) :: (30, lcGSame) :: (16, lcSame) :: tabW
theorem tabX_ok : LCs Try.prog tabX := ⟨ok_copy1, ok_gsame, ok_same, tabW_ok⟩
theorem new_gw {a b : Nat} {x : Int} (h0 : 1 ≤ a) (h1 : a ≤ 255) (h2 : 1 ≤ b) (h3 : b ≤ 255) : GW (newL a b x) ∧ (newL a b x).length = a ∧ nC (newL a b x) = b ∧ flL (newL a b x) = List.replicate (a * b) x := by
  rw [newL_gridF]
  refine ⟨gridF_gw h0 h1 h2 h3, gridF_length _ _ _, gridF_nC (by omega), ?_⟩
  rw [flL_gridF (by omega), flF_const]
theorem new69 : GW (newL 6 9 0) ∧ (newL 6 9 0).length = 6 ∧ nC (newL 6 9 0) = 9 ∧ flL (newL 6 9 0) = List.replicate 54 0 := new_gw (by omega) (by omega) (by omega) (by omega)
theorem etaO : ∀ o : O1, O1.mk o.ask o.ar o.ac o.br o.bc o.n o.x = o := fun _ => rfl
theorem auX_in {l : List (List Int)} {r c : Nat} (hr : r < l.length) (hc : c < nC l) : auX l r c = fn l r c := by
  unfold auX
  rw [if_pos (inB_iff.2 (by omega))]; rfl
theorem sl_at {l : List (List Int)} (hg : GW l) {w a b n x : Int} {i k : Nat} (hi : i < l.length) (hk : k < nC l) : fn (slL l w a b n x) i k = if slC l w a b = true then slideF (fn l) w a b n x i k else fn l i k := by
  unfold slL
  split
  · rename_i h
    obtain ⟨h1, h2, h3, h4, h5⟩ := slC_in h
    rw [slide2_eq hg h1 h2 h3 h4 h5, fn_gridF hi hk]
  · rfl
theorem slE_zero {l : List (List Int)} {w a b : Int} (h : slC l w a b = true) : slE l w a b = 0 := by
  unfold slC at h
  rw [Bool.and_eq_true, Bool.not_eq_true', decide_eq_false_iff_not] at h
  unfold slE
  rw [if_pos h.1, if_neg h.2]
theorem slideF_two {f : Nat → Nat → Int} {w a b n x : Int} (hn : n = 1 ∨ n = -1) (ha : 0 ≤ a) {r c : Nat} : slideF (slideF f w a b n x) w a b n x r c = slideF f w a b (2 * n) x r c := by
  simp only [slideF]
  by_cases h1 : (r : Int) = w ∧ a ≤ c ∧ (c : Int) ≤ b
  · rw [if_pos h1, if_pos h1]
    by_cases h2 : n ≤ b - c ∧ n ≥ a - c
    · rw [if_pos h2, if_pos (by omega)]
      by_cases h3 : 2 * n ≤ b - c ∧ 2 * n ≥ a - c
      · rw [if_pos (by omega), if_pos h3]
        congr 1; omega
      · rw [if_neg (by omega), if_neg h3]
    · rw [if_neg h2, if_neg (by omega)]
  · rw [if_neg h1, if_neg h1, if_neg h1]
theorem suE_in {l : List (List Int)} {r c : Nat} (hr : r < l.length) (hc : c < nC l) : suE l r c = 0 := by
  unfold suE
  rw [if_pos (inB_iff.2 (by omega))]
end Go.Proofs.Ytpdhnmnjccnbmaa
