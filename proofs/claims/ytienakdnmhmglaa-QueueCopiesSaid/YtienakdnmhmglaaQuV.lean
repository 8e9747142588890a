/- The law of copies, run. -/
import Derived.Test.YtienakdnmhmglaaQuS
set_option linter.unusedSimpArgs false
set_option linter.unusedVariables false
set_option linter.unusedSectionVars false
namespace Go.Sym
/-- Of two lists the one that a parameter is. -/
def selA {α : Type} (x : SV) (l m : List α) : List α := match x with
  | .r b _ => match b with
    | 0 => l
    | _ => m
  | _ => m
end Go.Sym
namespace Go.Proofs.Ytienakdnmhmglaa
open Go Go.Sym

/-- Calls of one queue and of the document's. -/
def annC1 (most : Int) (l : List Opr) : Ann Unit where
  α := Int × Int × Int × Bool × List Int
  φ _ x := 0 ≤ x.1 ∧ x.1 ≤ l.length ∧ QWf x.2.1 x.2.2.1 x.2.2.2.2 most.toNat
  μ _ x := (l.length - x.1).toNat
  get st := match getI st.tm 10 with
    | some i => match cAt st.H 3 3 with
      | .v (.bool ov) => some (i, cI st.H 3 1, cI st.H 3 2, ov, xI st.H 2)
      | _ => none
    | none => none
  f st x := tmpl [0, 1, 2, 7, 9] [(10, .v (.int .i64 x.1))] [(2, .own (.ints .u8 x.2.2.2.2) most.toNat 5 1 0 true), (3, .cells [.h 2 [0, 0], .v (.int .i64 x.2.1), .v (.int .i64 x.2.2.1), .v (.bool x.2.2.2.1)] 50),
    (4, shX.enc (bytesOf (tk x.2.2.2.2 x.2.1 most.toNat x.2.2.1), most, x.2.2.2.1))] st
/-- .. of the copy. -/
def annC2 (most : Int) (l : List Opr) : Ann Unit where
  α := Int × Int × Int × Bool × List Int
  φ _ x := 0 ≤ x.1 ∧ x.1 ≤ l.length ∧ QWf x.2.1 x.2.2.1 x.2.2.2.2 most.toNat
  μ _ x := (l.length - x.1).toNat
  get st := match getI st.tm 13 with
    | some i => match cAt st.H 19 3 with
      | .v (.bool ov) => some (i, cI st.H 19 1, cI st.H 19 2, ov, xI st.H 18)
      | _ => none
    | none => none
  f st x := tmpl [0, 1, 2, 7, 9, 11, 12] [(13, .v (.int .i64 x.1))] [(18, .own (.ints .u8 x.2.2.2.2) most.toNat 5 1 0 true), (19, .cells [.h 18 [0, 0], .v (.int .i64 x.2.1), .v (.int .i64 x.2.2.1), .v (.bool x.2.2.2.1)] 50),
    (15, shX.enc (bytesOf (tk x.2.2.2.2 x.2.1 most.toNat x.2.2.1), most, x.2.2.2.1))] st
def annV0 (l m : List Opr) : Ann Unit where
  α := Int × Int
  φ st x := 0 ≤ x.1 ∧ x.1 ≤ (selA (tmAt st.tm 0) l m).length ∧ FewI (selA (tmAt st.tm 0) l m) x.1 x.2
  μ st x := ((selA (tmAt st.tm 0) l m).length - x.1).toNat
  get st := match getI st.tm 4 with
    | some k => match getI st.tm 3 with
      | some n => some (k, n)
      | none => none
    | none => none
  f st x := tmpl [0] [(4, .v (.int .i64 x.1)), (3, .v (.int .i64 x.2))] [] st
def annV1 (l m : List Opr) : Ann Unit where
  α := Int × Int
  φ st x := 0 ≤ x.1 ∧ x.1 ≤ ((selA (tmAt st.tm 0) l m).getD (tI st.tm 4).toNat op0).2.1.length ∧ FewK (selA (tmAt st.tm 0) l m) (tI st.tm 4) (tI st.tm 3) x.1 x.2
  μ st x := (((selA (tmAt st.tm 0) l m).getD (tI st.tm 4).toNat op0).2.1.length - x.1).toNat
  get st := match getI st.tm 5 with
    | some k => match getI st.tm 3 with
      | some n => some (k, n)
      | none => none
    | none => none
  f st x := tmpl [0, 4] [(5, .v (.int .i64 x.1)), (3, .v (.int .i64 x.2))] [] st
/-- One call, whatever it is: the queue is well formed behind it, and the place is the next one. -/
theorem qround {most : Int} {l : List Opr} (hl : OpsIn l) (m0 : 0 ≤ most) (m1 : most ≤ 4096) {i fr n : Int} {xs : List Int} (i0 : 0 ≤ i) (il : i < l.length) (hq : QWf fr n xs most.toNat) :
    (0 ≤ i ∧ i < l.length) ∧ i.toNat < l.length ∧ i.toNat < l.length ∧
      (QWf fr n xs most.toNat ∧ most = most.toNat ∧ (l.getD i.toNat op0).2.1.length ≤ 1099511627776 ∧ (bytesLs (l.getD i.toNat op0).2.1).length ≤ 1099511627776) ∧
      ((l.getD i.toNat op0).1 = 0 →
        (n + (bytesLs (l.getD i.toNat op0).2.1).length > most.toNat →
          (0 ≤ IntKind.i64.wrap (i + 1) ∧ IntKind.i64.wrap (i + 1) ≤ l.length ∧ QWf fr n xs most.toNat) ∧ (l.length - IntKind.i64.wrap (i + 1)).toNat < (l.length - i).toNat) ∧
        (¬ n + (bytesLs (l.getD i.toNat op0).2.1).length > most.toNat →
          (0 ≤ IntKind.i64.wrap (i + 1) ∧ IntKind.i64.wrap (i + 1) ≤ l.length ∧ QWf fr (n + (bytesLs (l.getD i.toNat op0).2.1).length) (putL most.toNat xs (fr + n) (bytesLs (l.getD i.toNat op0).2.1)) most.toNat) ∧ (l.length - IntKind.i64.wrap (i + 1)).toNat < (l.length - i).toNat)) ∧
      (¬ (l.getD i.toNat op0).1 = 0 →
        ((l.getD i.toNat op0).1 = 1 →
          (0 ≤ IntKind.i64.wrap (i + 1) ∧ IntKind.i64.wrap (i + 1) ≤ l.length ∧ QWf ((fr + n) % (most.toNat : Int)) 0 xs most.toNat) ∧ (l.length - IntKind.i64.wrap (i + 1)).toNat < (l.length - i).toNat) ∧
        (¬ (l.getD i.toNat op0).1 = 1 →
          ((l.getD i.toNat op0).1 = 3 →
            (0 ≤ IntKind.i64.wrap (i + 1) ∧ IntKind.i64.wrap (i + 1) ≤ l.length ∧ QWf ((fr + n) % (most.toNat : Int)) 0 xs most.toNat) ∧ (l.length - IntKind.i64.wrap (i + 1)).toNat < (l.length - i).toNat) ∧
          (¬ (l.getD i.toNat op0).1 = 3 →
            (0 ≤ IntKind.i64.wrap (i + 1) ∧ IntKind.i64.wrap (i + 1) ≤ l.length ∧ QWf ((fr + kq (l.getD i.toNat op0).2.2 n) % (most.toNat : Int)) (n - kq (l.getD i.toNat op0).2.2 n) xs most.toNat) ∧ (l.length - IntKind.i64.wrap (i + 1)).toNat < (l.length - i).toNat))) := by
  have hlen := hl.len
  have hat := hl.at i.toNat
  generalize l.getD i.toNat op0 = o at *
  obtain ⟨ask, LL, N⟩ := o
  simp only at hat ⊢
  have hn0 := hq.n0
  have hnm := hq.nm
  have hz : QWf ((fr + n) % (most.toNat : Int)) 0 xs most.toNat := by
    have := hq.get hn0 (Int.le_refl _)
    rwa [Int.sub_self] at this
  have hk := kq_spec (k := N) hn0
  rw [wrap64 (x := i + 1) (by omega) (by omega)]
  exact ⟨⟨i0, il⟩, by omega, by omega, ⟨hq, by omega, by omega, hat.2⟩, fun _ => ⟨fun _ => ⟨⟨by omega, by omega, hq⟩, by omega⟩, fun hgt => ⟨⟨by omega, by omega, (hq.put (bytesLs LL) (by omega) (bytesLs_range LL)).1⟩, by omega⟩⟩,
    fun _ => ⟨fun _ => ⟨⟨by omega, by omega, hz⟩, by omega⟩, fun _ => ⟨fun _ => ⟨⟨by omega, by omega, hz⟩, by omega⟩, fun _ => ⟨⟨by omega, by omega, hq.get hk.1 hk.2⟩, by omega⟩⟩⟩⟩
theorem few_inR {l : List Opr} (hl : OpsR l) {i n0 k n : Int} (i0 : 0 ≤ i) (il : i < l.length) (xf : FewI l i n0) (h20 : (l.getD i.toNat op0).2.1.length ≤ 20) (k0 : 0 ≤ k) (kl : k < (l.getD i.toNat op0).2.1.length) (yf : FewK l i n0 k n) :
    (0 ≤ i ∧ i < l.length) ∧ i.toNat < l.length ∧ i.toNat < l.length ∧ (i.toNat < l.length ∧ 0 ≤ k ∧ k < (l.getD i.toNat op0).2.1.length) ∧ (i.toNat < l.length ∧ k.toNat < (l.getD i.toNat op0).2.1.length) ∧
      (0 ≤ IntKind.i64.wrap (k + 1) ∧ IntKind.i64.wrap (k + 1) ≤ (l.getD i.toNat op0).2.1.length ∧ FewK l i n0 (IntKind.i64.wrap (k + 1)) (IntKind.i64.wrap (n + ((l.getD i.toNat op0).2.1.getD k.toNat ByteArray.empty).size))) ∧ ((l.getD i.toNat op0).2.1.length - IntKind.i64.wrap (k + 1)).toNat < ((l.getD i.toNat op0).2.1.length - k).toNat := by
  have hf := fewk_next hl i0 il xf h20 k0 kl yf
  have hw : IntKind.i64.wrap (k + 1) = k + 1 := wrap64 (by omega) (by omega)
  exact ⟨⟨i0, il⟩, by omega, by omega, ⟨by omega, k0, kl⟩, ⟨by omega, by omega⟩, ⟨by omega, by omega, hf⟩, by omega⟩
theorem few_outR {l : List Opr} (hl : OpsR l) {i n0 k n : Int} (i0 : 0 ≤ i) (il : i < l.length) (xf : FewI l i n0) (h20 : (l.getD i.toNat op0).2.1.length ≤ 20) (k0 : k ≤ (l.getD i.toNat op0).2.1.length) (kl : ¬ k < (l.getD i.toNat op0).2.1.length)
 (yf : FewK l i n0 k n) : (0 ≤ IntKind.i64.wrap (i + 1) ∧ IntKind.i64.wrap (i + 1) ≤ l.length ∧ FewI l (IntKind.i64.wrap (i + 1)) n) ∧ (l.length - IntKind.i64.wrap (i + 1)).toNat < (l.length - i).toNat := by
  have hlen := hl.len
  rw [show reachBytes = 140737488351232 from rfl] at hlen
  have hf := few_next i0 il hl.len xf h20 (by omega) yf
  have hw : IntKind.i64.wrap (i + 1) = i + 1 := wrap64 (by omega) (by omega)
  exact ⟨⟨by omega, by omega, hf⟩, by omega⟩
noncomputable def cfgCopies (most : Int) (l m : List Opr) : Cfg Unit := allCfg Try.prog ptab' qtabL 0 [(260, annV0 l m), (584, annV1 l m), (452, annC1 most l), (964, annC2 most m)]
set_option maxHeartbeats 40000000 in
theorem run_copies (most : Int) (l m : List Opr) (hr : OpsR l) (hs : OpsR m) : Sym.Ask (bodyK Try.prog (run (cfgCopies most l m) 80) Try.f7 [.v (.int .i64 most), .r 0 [], .r 1 []] [.inp (opsIC l), .inp (opsIC m)] (fun y _ => y = .v (.bool true))) := by
  refine kcast (B := (true = true ∧ br (decide ((0 : Int) ≤ most) && decide (most ≤ (4096 : Int))) ((II (0 : Int) ≤ (0 : Int) ∧ (0 : Int) ≤ (↑l.length : Int) ∧ FewI l (0 : Int) (0 : Int)) ∧ ((SV.r (0 : Nat) [] = SV.r (0 : Nat) [] ∧ SV.v (Value.int
   IntKind.i64 (0 : Int)) = SV.v (Value.int IntKind.i64 (0 : Int)) ∧ SV.v (Value.int IntKind.i64 (0 : Int)) = SV.v (Value.int IntKind.i64 (0 : Int)) ∧ True) ∧ opsIC l = opsIC l ∧ opsIC m = opsIC m ∧ (most.toNat = most.toNat ∧ (0 : Nat) = (0 : Nat) ∧
   List.replicate most.toNat (0 : Int) = List.replicate most.toNat (0 : Int)) ∧ (SV.h (2 : Nat) [(0 : Nat), (0 : Nat)] = SV.h (2 : Nat) [(0 : Nat), (0 : Nat)] ∧ SV.v (Value.int IntKind.i64 (0 : Int)) = SV.v (Value.int IntKind.i64 (0 : Int)) ∧ SV.v
   (Value.int IntKind.i64 (0 : Int)) = SV.v (Value.int IntKind.i64 (0 : Int)) ∧ SV.v (Value.bool false) = SV.v (Value.bool false) ∧ True) ∧ True) ∧ ∀ (x : Int × Int), (0 : Int) ≤ x.fst ∧ x.fst ≤ (↑l.length : Int) ∧ FewI l x.fst x.snd → br (decide (x.fst
   < (↑l.length : Int))) (rq (true && (Nat.beq (3 : Nat) (3 : Nat) && (true && decide ((0 : Int) ≤ x.fst ∧ x.fst < (↑l.length : Int))))) (rq (true && (x.fst.toNat.blt l.length && true)) (rq (true && (x.fst.toNat.blt l.length && true)) (rq
   (x.fst.toNat.blt l.length && true) (br (decide ((↑(l.getD x.fst.toNat op0).snd.fst.length : Int) > (20 : Int))) (True ∧ SV.v (Value.bool true) = SV.v (Value.bool true)) ((II (0 : Int) ≤ (0 : Int) ∧ (0 : Int) ≤ (↑(l.getD x.fst.toNat
   op0).snd.fst.length : Int) ∧ FewK l x.fst x.snd (0 : Int) x.snd) ∧ ((SV.r (0 : Nat) [] = SV.r (0 : Nat) [] ∧ SV.v (Value.int IntKind.i64 x.snd) = SV.v (Value.int IntKind.i64 x.snd) ∧ SV.v (Value.int IntKind.i64 x.fst) = SV.v (Value.int IntKind.i64
   x.fst) ∧ SV.v (Value.int IntKind.i64 (0 : Int)) = SV.v (Value.int IntKind.i64 (0 : Int)) ∧ True) ∧ opsIC l = opsIC l ∧ opsIC m = opsIC m ∧ (most.toNat = most.toNat ∧ (0 : Nat) = (0 : Nat) ∧ List.replicate most.toNat (0 : Int) = List.replicate
   most.toNat (0 : Int)) ∧ (SV.h (2 : Nat) [(0 : Nat), (0 : Nat)] = SV.h (2 : Nat) [(0 : Nat), (0 : Nat)] ∧ SV.v (Value.int IntKind.i64 (0 : Int)) = SV.v (Value.int IntKind.i64 (0 : Int)) ∧ SV.v (Value.int IntKind.i64 (0 : Int)) = SV.v (Value.int
   IntKind.i64 (0 : Int)) ∧ SV.v (Value.bool false) = SV.v (Value.bool false) ∧ True) ∧ True) ∧ ∀ (x_1 : Int × Int), (0 : Int) ≤ x_1.fst ∧ x_1.fst ≤ (↑(l.getD x.fst.toNat op0).snd.fst.length : Int) ∧ FewK l x.fst x.snd x_1.fst x_1.snd → rq (true &&
   (Nat.beq (3 : Nat) (3 : Nat) && (true && decide ((0 : Int) ≤ x.fst ∧ x.fst < (↑l.length : Int))))) (rq (true && (x.fst.toNat.blt l.length && true)) (rq (true && (x.fst.toNat.blt l.length && true)) (rq (x.fst.toNat.blt l.length && true) (br (decide
   (x_1.fst < (↑(l.getD x.fst.toNat op0).snd.fst.length : Int))) (rq (true && (Nat.beq (3 : Nat) (3 : Nat) && (true && decide ((0 : Int) ≤ x.fst ∧ x.fst < (↑l.length : Int))))) (rq (true && (x.fst.toNat.blt l.length && true)) (rq (true &&
   (x.fst.toNat.blt l.length && true)) (rq (x.fst.toNat.blt l.length && true && (Nat.beq (1 : Nat) (1 : Nat) && (true && decide ((0 : Int) ≤ x_1.fst ∧ x_1.fst < (↑(l.getD x.fst.toNat op0).snd.fst.length : Int))))) (rq (x.fst.toNat.blt l.length && true
   && (x_1.fst.toNat.blt (l.getD x.fst.toNat op0).snd.fst.length && true)) (((0 : Int) ≤ IntKind.i64.wrap (x_1.fst + (1 : Int)) ∧ IntKind.i64.wrap (x_1.fst + (1 : Int)) ≤ (↑(l.getD x.fst.toNat op0).snd.fst.length : Int) ∧ FewK l x.fst x.snd
   (IntKind.i64.wrap (x_1.fst + (1 : Int))) (IntKind.i64.wrap (x_1.snd + (↑((l.getD x.fst.toNat op0).snd.fst.getD x_1.fst.toNat ByteArray.empty).size : Int)))) ∧ ((SV.r (0 : Nat) [] = SV.r (0 : Nat) [] ∧ SV.v (Value.int IntKind.i64 (IntKind.i64.wrap
   (x_1.snd + (↑((l.getD x.fst.toNat op0).snd.fst.getD x_1.fst.toNat ByteArray.empty).size : Int)))) = SV.v (Value.int IntKind.i64 (IntKind.i64.wrap (x_1.snd + (↑((l.getD x.fst.toNat op0).snd.fst.getD x_1.fst.toNat ByteArray.empty).size : Int)))) ∧ SV.v
   (Value.int IntKind.i64 x.fst) = SV.v (Value.int IntKind.i64 x.fst) ∧ SV.v (Value.int IntKind.i64 (IntKind.i64.wrap (x_1.fst + (1 : Int)))) = SV.v (Value.int IntKind.i64 (IntKind.i64.wrap (x_1.fst + (1 : Int)))) ∧ True) ∧ opsIC l = opsIC l ∧ opsIC m =
   opsIC m ∧ (most.toNat = most.toNat ∧ (0 : Nat) = (0 : Nat) ∧ List.replicate most.toNat (0 : Int) = List.replicate most.toNat (0 : Int)) ∧ (SV.h (2 : Nat) [(0 : Nat), (0 : Nat)] = SV.h (2 : Nat) [(0 : Nat), (0 : Nat)] ∧ SV.v (Value.int IntKind.i64 (0
   : Int)) = SV.v (Value.int IntKind.i64 (0 : Int)) ∧ SV.v (Value.int IntKind.i64 (0 : Int)) = SV.v (Value.int IntKind.i64 (0 : Int)) ∧ SV.v (Value.bool false) = SV.v (Value.bool false) ∧ True) ∧ True) ∧ ((↑(l.getD x.fst.toNat op0).snd.fst.length : Int)
   - IntKind.i64.wrap (x_1.fst + (1 : Int))).toNat < ((↑(l.getD x.fst.toNat op0).snd.fst.length : Int) - x_1.fst).toNat)))))) (((0 : Int) ≤ IntKind.i64.wrap (x.fst + (1 : Int)) ∧ IntKind.i64.wrap (x.fst + (1 : Int)) ≤ (↑l.length : Int) ∧ FewI l
   (IntKind.i64.wrap (x.fst + (1 : Int))) x_1.snd) ∧ ((SV.r (0 : Nat) [] = SV.r (0 : Nat) [] ∧ SV.v (Value.int IntKind.i64 x_1.snd) = SV.v (Value.int IntKind.i64 x_1.snd) ∧ SV.v (Value.int IntKind.i64 (IntKind.i64.wrap (x.fst + (1 : Int)))) = SV.v
   (Value.int IntKind.i64 (IntKind.i64.wrap (x.fst + (1 : Int)))) ∧ True) ∧ opsIC l = opsIC l ∧ opsIC m = opsIC m ∧ (most.toNat = most.toNat ∧ (0 : Nat) = (0 : Nat) ∧ List.replicate most.toNat (0 : Int) = List.replicate most.toNat (0 : Int)) ∧ (SV.h (2
   : Nat) [(0 : Nat), (0 : Nat)] = SV.h (2 : Nat) [(0 : Nat), (0 : Nat)] ∧ SV.v (Value.int IntKind.i64 (0 : Int)) = SV.v (Value.int IntKind.i64 (0 : Int)) ∧ SV.v (Value.int IntKind.i64 (0 : Int)) = SV.v (Value.int IntKind.i64 (0 : Int)) ∧ SV.v
   (Value.bool false) = SV.v (Value.bool false) ∧ True) ∧ True) ∧ ((↑l.length : Int) - IntKind.i64.wrap (x.fst + (1 : Int))).toNat < ((↑l.length : Int) - x.fst).toNat))))))))))) (br (decide ((↑l.length : Int) ≤ (60 : Int))) (br (!decide (x.snd ≤ (20000
   : Int))) (True ∧ SV.v (Value.bool true) = SV.v (Value.bool true)) ((II (0 : Int) ≤ (0 : Int) ∧ (0 : Int) ≤ (↑m.length : Int) ∧ FewI m (0 : Int) (0 : Int)) ∧ ((SV.r (1 : Nat) [] = SV.r (1 : Nat) [] ∧ SV.v (Value.int IntKind.i64 (0 : Int)) = SV.v
   (Value.int IntKind.i64 (0 : Int)) ∧ SV.v (Value.int IntKind.i64 (0 : Int)) = SV.v (Value.int IntKind.i64 (0 : Int)) ∧ True) ∧ opsIC l = opsIC l ∧ opsIC m = opsIC m ∧ (most.toNat = most.toNat ∧ (0 : Nat) = (0 : Nat) ∧ List.replicate most.toNat (0 :
   Int) = List.replicate most.toNat (0 : Int)) ∧ (SV.h (2 : Nat) [(0 : Nat), (0 : Nat)] = SV.h (2 : Nat) [(0 : Nat), (0 : Nat)] ∧ SV.v (Value.int IntKind.i64 (0 : Int)) = SV.v (Value.int IntKind.i64 (0 : Int)) ∧ SV.v (Value.int IntKind.i64 (0 : Int)) =
   SV.v (Value.int IntKind.i64 (0 : Int)) ∧ SV.v (Value.bool false) = SV.v (Value.bool false) ∧ True) ∧ True) ∧ ∀ (x : Int × Int), (0 : Int) ≤ x.fst ∧ x.fst ≤ (↑m.length : Int) ∧ FewI m x.fst x.snd → br (decide (x.fst < (↑m.length : Int))) (rq (true &&
   (Nat.beq (3 : Nat) (3 : Nat) && (true && decide ((0 : Int) ≤ x.fst ∧ x.fst < (↑m.length : Int))))) (rq (true && (x.fst.toNat.blt m.length && true)) (rq (true && (x.fst.toNat.blt m.length && true)) (rq (x.fst.toNat.blt m.length && true) (br (decide
   ((↑(m.getD x.fst.toNat op0).snd.fst.length : Int) > (20 : Int))) (True ∧ SV.v (Value.bool true) = SV.v (Value.bool true)) ((II (0 : Int) ≤ (0 : Int) ∧ (0 : Int) ≤ (↑(m.getD x.fst.toNat op0).snd.fst.length : Int) ∧ FewK m x.fst x.snd (0 : Int) x.snd)
   ∧ ((SV.r (1 : Nat) [] = SV.r (1 : Nat) [] ∧ SV.v (Value.int IntKind.i64 x.snd) = SV.v (Value.int IntKind.i64 x.snd) ∧ SV.v (Value.int IntKind.i64 x.fst) = SV.v (Value.int IntKind.i64 x.fst) ∧ SV.v (Value.int IntKind.i64 (0 : Int)) = SV.v (Value.int
   IntKind.i64 (0 : Int)) ∧ True) ∧ opsIC l = opsIC l ∧ opsIC m = opsIC m ∧ (most.toNat = most.toNat ∧ (0 : Nat) = (0 : Nat) ∧ List.replicate most.toNat (0 : Int) = List.replicate most.toNat (0 : Int)) ∧ (SV.h (2 : Nat) [(0 : Nat), (0 : Nat)] = SV.h (2
   : Nat) [(0 : Nat), (0 : Nat)] ∧ SV.v (Value.int IntKind.i64 (0 : Int)) = SV.v (Value.int IntKind.i64 (0 : Int)) ∧ SV.v (Value.int IntKind.i64 (0 : Int)) = SV.v (Value.int IntKind.i64 (0 : Int)) ∧ SV.v (Value.bool false) = SV.v (Value.bool false) ∧
   True) ∧ True) ∧ ∀ (x_1 : Int × Int), (0 : Int) ≤ x_1.fst ∧ x_1.fst ≤ (↑(m.getD x.fst.toNat op0).snd.fst.length : Int) ∧ FewK m x.fst x.snd x_1.fst x_1.snd → rq (true && (Nat.beq (3 : Nat) (3 : Nat) && (true && decide ((0 : Int) ≤ x.fst ∧ x.fst <
   (↑m.length : Int))))) (rq (true && (x.fst.toNat.blt m.length && true)) (rq (true && (x.fst.toNat.blt m.length && true)) (rq (x.fst.toNat.blt m.length && true) (br (decide (x_1.fst < (↑(m.getD x.fst.toNat op0).snd.fst.length : Int))) (rq (true &&
   (Nat.beq (3 : Nat) (3 : Nat) && (true && decide ((0 : Int) ≤ x.fst ∧ x.fst < (↑m.length : Int))))) (rq (true && (x.fst.toNat.blt m.length && true)) (rq (true && (x.fst.toNat.blt m.length && true)) (rq (x.fst.toNat.blt m.length && true && (Nat.beq (1
   : Nat) (1 : Nat) && (true && decide ((0 : Int) ≤ x_1.fst ∧ x_1.fst < (↑(m.getD x.fst.toNat op0).snd.fst.length : Int))))) (rq (x.fst.toNat.blt m.length && true && (x_1.fst.toNat.blt (m.getD x.fst.toNat op0).snd.fst.length && true)) (((0 : Int) ≤
   IntKind.i64.wrap (x_1.fst + (1 : Int)) ∧ IntKind.i64.wrap (x_1.fst + (1 : Int)) ≤ (↑(m.getD x.fst.toNat op0).snd.fst.length : Int) ∧ FewK m x.fst x.snd (IntKind.i64.wrap (x_1.fst + (1 : Int))) (IntKind.i64.wrap (x_1.snd + (↑((m.getD x.fst.toNat
   op0).snd.fst.getD x_1.fst.toNat ByteArray.empty).size : Int)))) ∧ ((SV.r (1 : Nat) [] = SV.r (1 : Nat) [] ∧ SV.v (Value.int IntKind.i64 (IntKind.i64.wrap (x_1.snd + (↑((m.getD x.fst.toNat op0).snd.fst.getD x_1.fst.toNat ByteArray.empty).size :
   Int)))) = SV.v (Value.int IntKind.i64 (IntKind.i64.wrap (x_1.snd + (↑((m.getD x.fst.toNat op0).snd.fst.getD x_1.fst.toNat ByteArray.empty).size : Int)))) ∧ SV.v (Value.int IntKind.i64 x.fst) = SV.v (Value.int IntKind.i64 x.fst) ∧ SV.v (Value.int
   IntKind.i64 (IntKind.i64.wrap (x_1.fst + (1 : Int)))) = SV.v (Value.int IntKind.i64 (IntKind.i64.wrap (x_1.fst + (1 : Int)))) ∧ True) ∧ opsIC l = opsIC l ∧ opsIC m = opsIC m ∧ (most.toNat = most.toNat ∧ (0 : Nat) = (0 : Nat) ∧ List.replicate
   most.toNat (0 : Int) = List.replicate most.toNat (0 : Int)) ∧ (SV.h (2 : Nat) [(0 : Nat), (0 : Nat)] = SV.h (2 : Nat) [(0 : Nat), (0 : Nat)] ∧ SV.v (Value.int IntKind.i64 (0 : Int)) = SV.v (Value.int IntKind.i64 (0 : Int)) ∧ SV.v (Value.int
   IntKind.i64 (0 : Int)) = SV.v (Value.int IntKind.i64 (0 : Int)) ∧ SV.v (Value.bool false) = SV.v (Value.bool false) ∧ True) ∧ True) ∧ ((↑(m.getD x.fst.toNat op0).snd.fst.length : Int) - IntKind.i64.wrap (x_1.fst + (1 : Int))).toNat < ((↑(m.getD
   x.fst.toNat op0).snd.fst.length : Int) - x_1.fst).toNat)))))) (((0 : Int) ≤ IntKind.i64.wrap (x.fst + (1 : Int)) ∧ IntKind.i64.wrap (x.fst + (1 : Int)) ≤ (↑m.length : Int) ∧ FewI m (IntKind.i64.wrap (x.fst + (1 : Int))) x_1.snd) ∧ ((SV.r (1 : Nat) []
   = SV.r (1 : Nat) [] ∧ SV.v (Value.int IntKind.i64 x_1.snd) = SV.v (Value.int IntKind.i64 x_1.snd) ∧ SV.v (Value.int IntKind.i64 (IntKind.i64.wrap (x.fst + (1 : Int)))) = SV.v (Value.int IntKind.i64 (IntKind.i64.wrap (x.fst + (1 : Int)))) ∧ True) ∧
   opsIC l = opsIC l ∧ opsIC m = opsIC m ∧ (most.toNat = most.toNat ∧ (0 : Nat) = (0 : Nat) ∧ List.replicate most.toNat (0 : Int) = List.replicate most.toNat (0 : Int)) ∧ (SV.h (2 : Nat) [(0 : Nat), (0 : Nat)] = SV.h (2 : Nat) [(0 : Nat), (0 : Nat)] ∧
   SV.v (Value.int IntKind.i64 (0 : Int)) = SV.v (Value.int IntKind.i64 (0 : Int)) ∧ SV.v (Value.int IntKind.i64 (0 : Int)) = SV.v (Value.int IntKind.i64 (0 : Int)) ∧ SV.v (Value.bool false) = SV.v (Value.bool false) ∧ True) ∧ True) ∧ ((↑m.length : Int)
   - IntKind.i64.wrap (x.fst + (1 : Int))).toNat < ((↑m.length : Int) - x.fst).toNat))))))))))) (br (decide ((↑m.length : Int) ≤ (60 : Int))) (br (!decide (x.snd ≤ (20000 : Int))) (True ∧ SV.v (Value.bool true) = SV.v (Value.bool true)) ((II (0 : Int) ≤
   (0 : Int) ∧ (0 : Int) ≤ (↑l.length : Int) ∧ QWf (0 : Int) (0 : Int) (List.replicate most.toNat (0 : Int)) most.toNat) ∧ ((SV.v (Value.int IntKind.i64 most) = SV.v (Value.int IntKind.i64 most) ∧ SV.r (0 : Nat) [] = SV.r (0 : Nat) [] ∧ SV.r (1 : Nat)
   [] = SV.r (1 : Nat) [] ∧ SV.p (3 : Nat) (0 : Nat) = SV.p (3 : Nat) (0 : Nat) ∧ SV.p (4 : Nat) (0 : Nat) = SV.p (4 : Nat) (0 : Nat) ∧ SV.v (Value.int IntKind.i64 (0 : Int)) = SV.v (Value.int IntKind.i64 (0 : Int)) ∧ True) ∧ opsIC l = opsIC l ∧ opsIC m
   = opsIC m ∧ (most.toNat = most.toNat ∧ (0 : Nat) = (0 : Nat) ∧ List.replicate most.toNat (0 : Int) = List.replicate most.toNat (0 : Int)) ∧ (SV.h (2 : Nat) [(0 : Nat), (0 : Nat)] = SV.h (2 : Nat) [(0 : Nat), (0 : Nat)] ∧ SV.v (Value.int IntKind.i64
   (0 : Int)) = SV.v (Value.int IntKind.i64 (0 : Int)) ∧ SV.v (Value.int IntKind.i64 (0 : Int)) = SV.v (Value.int IntKind.i64 (0 : Int)) ∧ SV.v (Value.bool false) = SV.v (Value.bool false) ∧ True) ∧ (SV.v (Value.string (ByteArray.mk #[])) = SV.v
   (Value.string (bytesOf (tk (List.replicate most.toNat (0 : Int)) (0 : Int) most.toNat (0 : Int)))) ∧ SV.v (Value.int IntKind.i64 most) = SV.v (Value.int IntKind.i64 most) ∧ SV.v (Value.bool false) = SV.v (Value.bool false) ∧ True) ∧ True) ∧ ∀ (x :
   Int × Int × Int × Bool × List Int), (0 : Int) ≤ x.fst ∧ x.fst ≤ (↑l.length : Int) ∧ QWf x.snd.fst x.snd.snd.fst x.snd.snd.snd.snd most.toNat → br (decide (x.fst < (↑l.length : Int))) (rq (true && (Nat.beq (3 : Nat) (3 : Nat) && (true && decide ((0 :
   Int) ≤ x.fst ∧ x.fst < (↑l.length : Int))))) (rq (true && (x.fst.toNat.blt l.length && (Nat.ble (3 : Nat) (3 : Nat) && Nat.blt (0 : Nat) (3 : Nat)))) ((true && (true && (x.fst.toNat.blt l.length && true && true && true))) = true ∧ ((0 : Nat) = (0 :
   Nat) ∧ QWf x.snd.fst x.snd.snd.fst x.snd.snd.snd.snd most.toNat ∧ bytesOf (tk x.snd.snd.snd.snd x.snd.fst most.toNat x.snd.snd.fst) = bytesOf (tk x.snd.snd.snd.snd x.snd.fst most.toNat x.snd.snd.fst) ∧ x.snd.snd.snd.fst = x.snd.snd.snd.fst ∧ most =
   (↑most.toNat : Int) ∧ (l.getD x.fst.toNat op0).snd.fst.length ≤ (1099511627776 : Nat) ∧ (bytesLs (l.getD x.fst.toNat op0).snd.fst).length ≤ (1099511627776 : Nat)) ∧ br ((l.getD x.fst.toNat op0).fst == (0 : Int)) (br (decide (x.snd.snd.fst +
   (↑(bytesLs (l.getD x.fst.toNat op0).snd.fst).length : Int) > (↑most.toNat : Int))) (((0 : Int) ≤ IntKind.i64.wrap (x.fst + (1 : Int)) ∧ IntKind.i64.wrap (x.fst + (1 : Int)) ≤ (↑l.length : Int) ∧ QWf x.snd.fst x.snd.snd.fst x.snd.snd.snd.snd
   most.toNat) ∧ ((SV.v (Value.int IntKind.i64 most) = SV.v (Value.int IntKind.i64 most) ∧ SV.r (0 : Nat) [] = SV.r (0 : Nat) [] ∧ SV.r (1 : Nat) [] = SV.r (1 : Nat) [] ∧ SV.p (3 : Nat) (0 : Nat) = SV.p (3 : Nat) (0 : Nat) ∧ SV.p (4 : Nat) (0 : Nat) =
   SV.p (4 : Nat) (0 : Nat) ∧ SV.v (Value.int IntKind.i64 (IntKind.i64.wrap (x.fst + (1 : Int)))) = SV.v (Value.int IntKind.i64 (IntKind.i64.wrap (x.fst + (1 : Int)))) ∧ True) ∧ opsIC l = opsIC l ∧ opsIC m = opsIC m ∧ (most.toNat = most.toNat ∧ (0 :
   Nat) = (0 : Nat) ∧ x.snd.snd.snd.snd = x.snd.snd.snd.snd) ∧ (SV.h (2 : Nat) [(0 : Nat), (0 : Nat)] = SV.h (2 : Nat) [(0 : Nat), (0 : Nat)] ∧ SV.v (Value.int IntKind.i64 x.snd.fst) = SV.v (Value.int IntKind.i64 x.snd.fst) ∧ SV.v (Value.int IntKind.i64
   x.snd.snd.fst) = SV.v (Value.int IntKind.i64 x.snd.snd.fst) ∧ SV.v (Value.bool true) = SV.v (Value.bool true) ∧ True) ∧ (SV.v (Value.string (bytesOf (tk x.snd.snd.snd.snd x.snd.fst most.toNat x.snd.snd.fst))) = SV.v (Value.string (bytesOf (tk
   x.snd.snd.snd.snd x.snd.fst most.toNat x.snd.snd.fst))) ∧ SV.v (Value.int IntKind.i64 most) = SV.v (Value.int IntKind.i64 most) ∧ SV.v (Value.bool true) = SV.v (Value.bool true) ∧ True) ∧ True) ∧ ((↑l.length : Int) - IntKind.i64.wrap (x.fst + (1 :
   Int))).toNat < ((↑l.length : Int) - x.fst).toNat) (((0 : Int) ≤ IntKind.i64.wrap (x.fst + (1 : Int)) ∧ IntKind.i64.wrap (x.fst + (1 : Int)) ≤ (↑l.length : Int) ∧ QWf x.snd.fst (x.snd.snd.fst + (↑(bytesLs (l.getD x.fst.toNat op0).snd.fst).length :
   Int)) (putL most.toNat x.snd.snd.snd.snd (x.snd.fst + x.snd.snd.fst) (bytesLs (l.getD x.fst.toNat op0).snd.fst)) most.toNat) ∧ ((SV.v (Value.int IntKind.i64 most) = SV.v (Value.int IntKind.i64 most) ∧ SV.r (0 : Nat) [] = SV.r (0 : Nat) [] ∧ SV.r (1 :
   Nat) [] = SV.r (1 : Nat) [] ∧ SV.p (3 : Nat) (0 : Nat) = SV.p (3 : Nat) (0 : Nat) ∧ SV.p (4 : Nat) (0 : Nat) = SV.p (4 : Nat) (0 : Nat) ∧ SV.v (Value.int IntKind.i64 (IntKind.i64.wrap (x.fst + (1 : Int)))) = SV.v (Value.int IntKind.i64
   (IntKind.i64.wrap (x.fst + (1 : Int)))) ∧ True) ∧ opsIC l = opsIC l ∧ opsIC m = opsIC m ∧ (most.toNat = most.toNat ∧ (0 : Nat) = (0 : Nat) ∧ putL most.toNat x.snd.snd.snd.snd (x.snd.fst + x.snd.snd.fst) (bytesLs (l.getD x.fst.toNat op0).snd.fst) =
   putL most.toNat x.snd.snd.snd.snd (x.snd.fst + x.snd.snd.fst) (bytesLs (l.getD x.fst.toNat op0).snd.fst)) ∧ (SV.h (2 : Nat) [(0 : Nat), (0 : Nat)] = SV.h (2 : Nat) [(0 : Nat), (0 : Nat)] ∧ SV.v (Value.int IntKind.i64 x.snd.fst) = SV.v (Value.int
   IntKind.i64 x.snd.fst) ∧ SV.v (Value.int IntKind.i64 (x.snd.snd.fst + (↑(bytesLs (l.getD x.fst.toNat op0).snd.fst).length : Int))) = SV.v (Value.int IntKind.i64 (x.snd.snd.fst + (↑(bytesLs (l.getD x.fst.toNat op0).snd.fst).length : Int))) ∧ SV.v
   (Value.bool x.snd.snd.snd.fst) = SV.v (Value.bool x.snd.snd.snd.fst) ∧ True) ∧ (SV.v (Value.string (bytesOf (tk (putL most.toNat x.snd.snd.snd.snd (x.snd.fst + x.snd.snd.fst) (bytesLs (l.getD x.fst.toNat op0).snd.fst)) x.snd.fst most.toNat
   (x.snd.snd.fst + (↑(bytesLs (l.getD x.fst.toNat op0).snd.fst).length : Int))))) = SV.v (Value.string (bytesOf (tk (putL most.toNat x.snd.snd.snd.snd (x.snd.fst + x.snd.snd.fst) (bytesLs (l.getD x.fst.toNat op0).snd.fst)) x.snd.fst most.toNat
   (x.snd.snd.fst + (↑(bytesLs (l.getD x.fst.toNat op0).snd.fst).length : Int))))) ∧ SV.v (Value.int IntKind.i64 most) = SV.v (Value.int IntKind.i64 most) ∧ SV.v (Value.bool x.snd.snd.snd.fst) = SV.v (Value.bool x.snd.snd.snd.fst) ∧ True) ∧ True) ∧
   ((↑l.length : Int) - IntKind.i64.wrap (x.fst + (1 : Int))).toNat < ((↑l.length : Int) - x.fst).toNat)) (br ((l.getD x.fst.toNat op0).fst == (1 : Int)) (((0 : Int) ≤ IntKind.i64.wrap (x.fst + (1 : Int)) ∧ IntKind.i64.wrap (x.fst + (1 : Int)) ≤
   (↑l.length : Int) ∧ QWf ((x.snd.fst + x.snd.snd.fst) % (↑most.toNat : Int)) (0 : Int) x.snd.snd.snd.snd most.toNat) ∧ ((SV.v (Value.int IntKind.i64 most) = SV.v (Value.int IntKind.i64 most) ∧ SV.r (0 : Nat) [] = SV.r (0 : Nat) [] ∧ SV.r (1 : Nat) []
   = SV.r (1 : Nat) [] ∧ SV.p (3 : Nat) (0 : Nat) = SV.p (3 : Nat) (0 : Nat) ∧ SV.p (4 : Nat) (0 : Nat) = SV.p (4 : Nat) (0 : Nat) ∧ SV.v (Value.int IntKind.i64 (IntKind.i64.wrap (x.fst + (1 : Int)))) = SV.v (Value.int IntKind.i64 (IntKind.i64.wrap
   (x.fst + (1 : Int)))) ∧ True) ∧ opsIC l = opsIC l ∧ opsIC m = opsIC m ∧ (most.toNat = most.toNat ∧ (0 : Nat) = (0 : Nat) ∧ x.snd.snd.snd.snd = x.snd.snd.snd.snd) ∧ (SV.h (2 : Nat) [(0 : Nat), (0 : Nat)] = SV.h (2 : Nat) [(0 : Nat), (0 : Nat)] ∧ SV.v
   (Value.int IntKind.i64 ((x.snd.fst + x.snd.snd.fst) % (↑most.toNat : Int))) = SV.v (Value.int IntKind.i64 ((x.snd.fst + x.snd.snd.fst) % (↑most.toNat : Int))) ∧ SV.v (Value.int IntKind.i64 (0 : Int)) = SV.v (Value.int IntKind.i64 (0 : Int)) ∧ SV.v
   (Value.bool false) = SV.v (Value.bool false) ∧ True) ∧ (SV.v (Value.string (bytesOf (tk x.snd.snd.snd.snd ((x.snd.fst + x.snd.snd.fst) % (↑most.toNat : Int)) most.toNat (0 : Int)))) = SV.v (Value.string (bytesOf (tk x.snd.snd.snd.snd ((x.snd.fst +
   x.snd.snd.fst) % (↑most.toNat : Int)) most.toNat (0 : Int)))) ∧ SV.v (Value.int IntKind.i64 most) = SV.v (Value.int IntKind.i64 most) ∧ SV.v (Value.bool false) = SV.v (Value.bool false) ∧ True) ∧ True) ∧ ((↑l.length : Int) - IntKind.i64.wrap (x.fst +
   (1 : Int))).toNat < ((↑l.length : Int) - x.fst).toNat) (br ((l.getD x.fst.toNat op0).fst == (3 : Int)) (((0 : Int) ≤ IntKind.i64.wrap (x.fst + (1 : Int)) ∧ IntKind.i64.wrap (x.fst + (1 : Int)) ≤ (↑l.length : Int) ∧ QWf ((x.snd.fst + x.snd.snd.fst) %
   (↑most.toNat : Int)) (0 : Int) x.snd.snd.snd.snd most.toNat) ∧ ((SV.v (Value.int IntKind.i64 most) = SV.v (Value.int IntKind.i64 most) ∧ SV.r (0 : Nat) [] = SV.r (0 : Nat) [] ∧ SV.r (1 : Nat) [] = SV.r (1 : Nat) [] ∧ SV.p (3 : Nat) (0 : Nat) = SV.p
   (3 : Nat) (0 : Nat) ∧ SV.p (4 : Nat) (0 : Nat) = SV.p (4 : Nat) (0 : Nat) ∧ SV.v (Value.int IntKind.i64 (IntKind.i64.wrap (x.fst + (1 : Int)))) = SV.v (Value.int IntKind.i64 (IntKind.i64.wrap (x.fst + (1 : Int)))) ∧ True) ∧ opsIC l = opsIC l ∧ opsIC
   m = opsIC m ∧ (most.toNat = most.toNat ∧ (0 : Nat) = (0 : Nat) ∧ x.snd.snd.snd.snd = x.snd.snd.snd.snd) ∧ (SV.h (2 : Nat) [(0 : Nat), (0 : Nat)] = SV.h (2 : Nat) [(0 : Nat), (0 : Nat)] ∧ SV.v (Value.int IntKind.i64 ((x.snd.fst + x.snd.snd.fst) %
   (↑most.toNat : Int))) = SV.v (Value.int IntKind.i64 ((x.snd.fst + x.snd.snd.fst) % (↑most.toNat : Int))) ∧ SV.v (Value.int IntKind.i64 (0 : Int)) = SV.v (Value.int IntKind.i64 (0 : Int)) ∧ SV.v (Value.bool false) = SV.v (Value.bool false) ∧ True) ∧
   (SV.v (Value.string (bytesOf (tk x.snd.snd.snd.snd ((x.snd.fst + x.snd.snd.fst) % (↑most.toNat : Int)) most.toNat (0 : Int)))) = SV.v (Value.string (bytesOf (tk x.snd.snd.snd.snd ((x.snd.fst + x.snd.snd.fst) % (↑most.toNat : Int)) most.toNat (0 :
   Int)))) ∧ SV.v (Value.int IntKind.i64 most) = SV.v (Value.int IntKind.i64 most) ∧ SV.v (Value.bool false) = SV.v (Value.bool false) ∧ True) ∧ True) ∧ ((↑l.length : Int) - IntKind.i64.wrap (x.fst + (1 : Int))).toNat < ((↑l.length : Int) -
   x.fst).toNat) (((0 : Int) ≤ IntKind.i64.wrap (x.fst + (1 : Int)) ∧ IntKind.i64.wrap (x.fst + (1 : Int)) ≤ (↑l.length : Int) ∧ QWf ((x.snd.fst + kq (l.getD x.fst.toNat op0).snd.snd x.snd.snd.fst) % (↑most.toNat : Int)) (x.snd.snd.fst - kq (l.getD
   x.fst.toNat op0).snd.snd x.snd.snd.fst) x.snd.snd.snd.snd most.toNat) ∧ ((SV.v (Value.int IntKind.i64 most) = SV.v (Value.int IntKind.i64 most) ∧ SV.r (0 : Nat) [] = SV.r (0 : Nat) [] ∧ SV.r (1 : Nat) [] = SV.r (1 : Nat) [] ∧ SV.p (3 : Nat) (0 : Nat)
   = SV.p (3 : Nat) (0 : Nat) ∧ SV.p (4 : Nat) (0 : Nat) = SV.p (4 : Nat) (0 : Nat) ∧ SV.v (Value.int IntKind.i64 (IntKind.i64.wrap (x.fst + (1 : Int)))) = SV.v (Value.int IntKind.i64 (IntKind.i64.wrap (x.fst + (1 : Int)))) ∧ True) ∧ opsIC l = opsIC l ∧
   opsIC m = opsIC m ∧ (most.toNat = most.toNat ∧ (0 : Nat) = (0 : Nat) ∧ x.snd.snd.snd.snd = x.snd.snd.snd.snd) ∧ (SV.h (2 : Nat) [(0 : Nat), (0 : Nat)] = SV.h (2 : Nat) [(0 : Nat), (0 : Nat)] ∧ SV.v (Value.int IntKind.i64 ((x.snd.fst + kq (l.getD
   x.fst.toNat op0).snd.snd x.snd.snd.fst) % (↑most.toNat : Int))) = SV.v (Value.int IntKind.i64 ((x.snd.fst + kq (l.getD x.fst.toNat op0).snd.snd x.snd.snd.fst) % (↑most.toNat : Int))) ∧ SV.v (Value.int IntKind.i64 (x.snd.snd.fst - kq (l.getD
   x.fst.toNat op0).snd.snd x.snd.snd.fst)) = SV.v (Value.int IntKind.i64 (x.snd.snd.fst - kq (l.getD x.fst.toNat op0).snd.snd x.snd.snd.fst)) ∧ SV.v (Value.bool x.snd.snd.snd.fst) = SV.v (Value.bool x.snd.snd.snd.fst) ∧ True) ∧ (SV.v (Value.string
   (bytesOf (tk x.snd.snd.snd.snd ((x.snd.fst + kq (l.getD x.fst.toNat op0).snd.snd x.snd.snd.fst) % (↑most.toNat : Int)) most.toNat (x.snd.snd.fst - kq (l.getD x.fst.toNat op0).snd.snd x.snd.snd.fst)))) = SV.v (Value.string (bytesOf (tk
   x.snd.snd.snd.snd ((x.snd.fst + kq (l.getD x.fst.toNat op0).snd.snd x.snd.snd.fst) % (↑most.toNat : Int)) most.toNat (x.snd.snd.fst - kq (l.getD x.fst.toNat op0).snd.snd x.snd.snd.fst)))) ∧ SV.v (Value.int IntKind.i64 most) = SV.v (Value.int
   IntKind.i64 most) ∧ SV.v (Value.bool x.snd.snd.snd.fst) = SV.v (Value.bool x.snd.snd.snd.fst) ∧ True) ∧ True) ∧ ((↑l.length : Int) - IntKind.i64.wrap (x.fst + (1 : Int))).toNat < ((↑l.length : Int) - x.fst).toNat)))))) (true = true ∧ ((0 : Nat) = (0
   : Nat) ∧ QWf x.snd.fst x.snd.snd.fst x.snd.snd.snd.snd most.toNat) ∧ (II (0 : Int) ≤ (0 : Int) ∧ (0 : Int) ≤ (↑m.length : Int) ∧ QWf x.snd.fst x.snd.snd.fst x.snd.snd.snd.snd most.toNat) ∧ ((SV.v (Value.int IntKind.i64 most) = SV.v (Value.int
   IntKind.i64 most) ∧ SV.r (0 : Nat) [] = SV.r (0 : Nat) [] ∧ SV.r (1 : Nat) [] = SV.r (1 : Nat) [] ∧ SV.p (3 : Nat) (0 : Nat) = SV.p (3 : Nat) (0 : Nat) ∧ SV.p (4 : Nat) (0 : Nat) = SV.p (4 : Nat) (0 : Nat) ∧ SV.p (15 : Nat) (0 : Nat) = SV.p (15 :
   Nat) (0 : Nat) ∧ SV.p (19 : Nat) (0 : Nat) = SV.p (19 : Nat) (0 : Nat) ∧ SV.v (Value.int IntKind.i64 (0 : Int)) = SV.v (Value.int IntKind.i64 (0 : Int)) ∧ True) ∧ opsIC l = opsIC l ∧ opsIC m = opsIC m ∧ (most.toNat = most.toNat ∧ (0 : Nat) = (0 :
   Nat) ∧ x.snd.snd.snd.snd = x.snd.snd.snd.snd) ∧ (SV.h (2 : Nat) [(0 : Nat), (0 : Nat)] = SV.h (2 : Nat) [(0 : Nat), (0 : Nat)] ∧ SV.v (Value.int IntKind.i64 x.snd.fst) = SV.v (Value.int IntKind.i64 x.snd.fst) ∧ SV.v (Value.int IntKind.i64
   x.snd.snd.fst) = SV.v (Value.int IntKind.i64 x.snd.snd.fst) ∧ SV.v (Value.bool x.snd.snd.snd.fst) = SV.v (Value.bool x.snd.snd.snd.fst) ∧ True) ∧ (SV.v (Value.string (bytesOf (tk x.snd.snd.snd.snd x.snd.fst most.toNat x.snd.snd.fst))) = SV.v
   (Value.string (bytesOf (tk x.snd.snd.snd.snd x.snd.fst most.toNat x.snd.snd.fst))) ∧ SV.v (Value.int IntKind.i64 most) = SV.v (Value.int IntKind.i64 most) ∧ SV.v (Value.bool x.snd.snd.snd.fst) = SV.v (Value.bool x.snd.snd.snd.fst) ∧ True) ∧ True ∧
   True ∧ True ∧ True ∧ True ∧ True ∧ True ∧ True ∧ True ∧ True ∧ (SV.v (Value.string (bytesOf (tk x.snd.snd.snd.snd x.snd.fst most.toNat x.snd.snd.fst))) = SV.v (Value.string (bytesOf (tk x.snd.snd.snd.snd x.snd.fst most.toNat x.snd.snd.fst))) ∧ SV.v
   (Value.int IntKind.i64 most) = SV.v (Value.int IntKind.i64 most) ∧ SV.v (Value.bool x.snd.snd.snd.fst) = SV.v (Value.bool x.snd.snd.snd.fst) ∧ True) ∧ True ∧ True ∧ (most.toNat = most.toNat ∧ (0 : Nat) = (0 : Nat) ∧ x.snd.snd.snd.snd =
   x.snd.snd.snd.snd) ∧ (SV.h (18 : Nat) [(0 : Nat), (0 : Nat)] = SV.h (18 : Nat) [(0 : Nat), (0 : Nat)] ∧ SV.v (Value.int IntKind.i64 x.snd.fst) = SV.v (Value.int IntKind.i64 x.snd.fst) ∧ SV.v (Value.int IntKind.i64 x.snd.snd.fst) = SV.v (Value.int
   IntKind.i64 x.snd.snd.fst) ∧ SV.v (Value.bool x.snd.snd.snd.fst) = SV.v (Value.bool x.snd.snd.snd.fst) ∧ True) ∧ True) ∧ ∀ (x_1 : Int × Int × Int × Bool × List Int), (0 : Int) ≤ x_1.fst ∧ x_1.fst ≤ (↑m.length : Int) ∧ QWf x_1.snd.fst x_1.snd.snd.fst
   x_1.snd.snd.snd.snd most.toNat → br (decide (x_1.fst < (↑m.length : Int))) (rq (true && (Nat.beq (3 : Nat) (3 : Nat) && (true && decide ((0 : Int) ≤ x_1.fst ∧ x_1.fst < (↑m.length : Int))))) (rq (true && (x_1.fst.toNat.blt m.length && (Nat.ble (3 :
   Nat) (3 : Nat) && Nat.blt (0 : Nat) (3 : Nat)))) ((true && (true && (x_1.fst.toNat.blt m.length && true && true && true))) = true ∧ ((0 : Nat) = (0 : Nat) ∧ QWf x_1.snd.fst x_1.snd.snd.fst x_1.snd.snd.snd.snd most.toNat ∧ bytesOf (tk
   x_1.snd.snd.snd.snd x_1.snd.fst most.toNat x_1.snd.snd.fst) = bytesOf (tk x_1.snd.snd.snd.snd x_1.snd.fst most.toNat x_1.snd.snd.fst) ∧ x_1.snd.snd.snd.fst = x_1.snd.snd.snd.fst ∧ most = (↑most.toNat : Int) ∧ (m.getD x_1.fst.toNat op0).snd.fst.length
   ≤ (1099511627776 : Nat) ∧ (bytesLs (m.getD x_1.fst.toNat op0).snd.fst).length ≤ (1099511627776 : Nat)) ∧ br ((m.getD x_1.fst.toNat op0).fst == (0 : Int)) (br (decide (x_1.snd.snd.fst + (↑(bytesLs (m.getD x_1.fst.toNat op0).snd.fst).length : Int) >
   (↑most.toNat : Int))) (((0 : Int) ≤ IntKind.i64.wrap (x_1.fst + (1 : Int)) ∧ IntKind.i64.wrap (x_1.fst + (1 : Int)) ≤ (↑m.length : Int) ∧ QWf x_1.snd.fst x_1.snd.snd.fst x_1.snd.snd.snd.snd most.toNat) ∧ ((SV.v (Value.int IntKind.i64 most) = SV.v
   (Value.int IntKind.i64 most) ∧ SV.r (0 : Nat) [] = SV.r (0 : Nat) [] ∧ SV.r (1 : Nat) [] = SV.r (1 : Nat) [] ∧ SV.p (3 : Nat) (0 : Nat) = SV.p (3 : Nat) (0 : Nat) ∧ SV.p (4 : Nat) (0 : Nat) = SV.p (4 : Nat) (0 : Nat) ∧ SV.p (15 : Nat) (0 : Nat) =
   SV.p (15 : Nat) (0 : Nat) ∧ SV.p (19 : Nat) (0 : Nat) = SV.p (19 : Nat) (0 : Nat) ∧ SV.v (Value.int IntKind.i64 (IntKind.i64.wrap (x_1.fst + (1 : Int)))) = SV.v (Value.int IntKind.i64 (IntKind.i64.wrap (x_1.fst + (1 : Int)))) ∧ True) ∧ opsIC l =
   opsIC l ∧ opsIC m = opsIC m ∧ (most.toNat = most.toNat ∧ (0 : Nat) = (0 : Nat) ∧ x.snd.snd.snd.snd = x.snd.snd.snd.snd) ∧ (SV.h (2 : Nat) [(0 : Nat), (0 : Nat)] = SV.h (2 : Nat) [(0 : Nat), (0 : Nat)] ∧ SV.v (Value.int IntKind.i64 x.snd.fst) = SV.v
   (Value.int IntKind.i64 x.snd.fst) ∧ SV.v (Value.int IntKind.i64 x.snd.snd.fst) = SV.v (Value.int IntKind.i64 x.snd.snd.fst) ∧ SV.v (Value.bool x.snd.snd.snd.fst) = SV.v (Value.bool x.snd.snd.snd.fst) ∧ True) ∧ (SV.v (Value.string (bytesOf (tk
   x.snd.snd.snd.snd x.snd.fst most.toNat x.snd.snd.fst))) = SV.v (Value.string (bytesOf (tk x.snd.snd.snd.snd x.snd.fst most.toNat x.snd.snd.fst))) ∧ SV.v (Value.int IntKind.i64 most) = SV.v (Value.int IntKind.i64 most) ∧ SV.v (Value.bool
   x.snd.snd.snd.fst) = SV.v (Value.bool x.snd.snd.snd.fst) ∧ True) ∧ True ∧ True ∧ True ∧ True ∧ True ∧ True ∧ True ∧ True ∧ True ∧ True ∧ (SV.v (Value.string (bytesOf (tk x_1.snd.snd.snd.snd x_1.snd.fst most.toNat x_1.snd.snd.fst))) = SV.v
   (Value.string (bytesOf (tk x_1.snd.snd.snd.snd x_1.snd.fst most.toNat x_1.snd.snd.fst))) ∧ SV.v (Value.int IntKind.i64 most) = SV.v (Value.int IntKind.i64 most) ∧ SV.v (Value.bool true) = SV.v (Value.bool true) ∧ True) ∧ True ∧ True ∧ (most.toNat =
   most.toNat ∧ (0 : Nat) = (0 : Nat) ∧ x_1.snd.snd.snd.snd = x_1.snd.snd.snd.snd) ∧ (SV.h (18 : Nat) [(0 : Nat), (0 : Nat)] = SV.h (18 : Nat) [(0 : Nat), (0 : Nat)] ∧ SV.v (Value.int IntKind.i64 x_1.snd.fst) = SV.v (Value.int IntKind.i64 x_1.snd.fst) ∧
   SV.v (Value.int IntKind.i64 x_1.snd.snd.fst) = SV.v (Value.int IntKind.i64 x_1.snd.snd.fst) ∧ SV.v (Value.bool true) = SV.v (Value.bool true) ∧ True) ∧ True) ∧ ((↑m.length : Int) - IntKind.i64.wrap (x_1.fst + (1 : Int))).toNat < ((↑m.length : Int) -
   x_1.fst).toNat) (((0 : Int) ≤ IntKind.i64.wrap (x_1.fst + (1 : Int)) ∧ IntKind.i64.wrap (x_1.fst + (1 : Int)) ≤ (↑m.length : Int) ∧ QWf x_1.snd.fst (x_1.snd.snd.fst + (↑(bytesLs (m.getD x_1.fst.toNat op0).snd.fst).length : Int)) (putL most.toNat
   x_1.snd.snd.snd.snd (x_1.snd.fst + x_1.snd.snd.fst) (bytesLs (m.getD x_1.fst.toNat op0).snd.fst)) most.toNat) ∧ ((SV.v (Value.int IntKind.i64 most) = SV.v (Value.int IntKind.i64 most) ∧ SV.r (0 : Nat) [] = SV.r (0 : Nat) [] ∧ SV.r (1 : Nat) [] = SV.r
   (1 : Nat) [] ∧ SV.p (3 : Nat) (0 : Nat) = SV.p (3 : Nat) (0 : Nat) ∧ SV.p (4 : Nat) (0 : Nat) = SV.p (4 : Nat) (0 : Nat) ∧ SV.p (15 : Nat) (0 : Nat) = SV.p (15 : Nat) (0 : Nat) ∧ SV.p (19 : Nat) (0 : Nat) = SV.p (19 : Nat) (0 : Nat) ∧ SV.v (Value.int
   IntKind.i64 (IntKind.i64.wrap (x_1.fst + (1 : Int)))) = SV.v (Value.int IntKind.i64 (IntKind.i64.wrap (x_1.fst + (1 : Int)))) ∧ True) ∧ opsIC l = opsIC l ∧ opsIC m = opsIC m ∧ (most.toNat = most.toNat ∧ (0 : Nat) = (0 : Nat) ∧ x.snd.snd.snd.snd =
   x.snd.snd.snd.snd) ∧ (SV.h (2 : Nat) [(0 : Nat), (0 : Nat)] = SV.h (2 : Nat) [(0 : Nat), (0 : Nat)] ∧ SV.v (Value.int IntKind.i64 x.snd.fst) = SV.v (Value.int IntKind.i64 x.snd.fst) ∧ SV.v (Value.int IntKind.i64 x.snd.snd.fst) = SV.v (Value.int
   IntKind.i64 x.snd.snd.fst) ∧ SV.v (Value.bool x.snd.snd.snd.fst) = SV.v (Value.bool x.snd.snd.snd.fst) ∧ True) ∧ (SV.v (Value.string (bytesOf (tk x.snd.snd.snd.snd x.snd.fst most.toNat x.snd.snd.fst))) = SV.v (Value.string (bytesOf (tk
   x.snd.snd.snd.snd x.snd.fst most.toNat x.snd.snd.fst))) ∧ SV.v (Value.int IntKind.i64 most) = SV.v (Value.int IntKind.i64 most) ∧ SV.v (Value.bool x.snd.snd.snd.fst) = SV.v (Value.bool x.snd.snd.snd.fst) ∧ True) ∧ True ∧ True ∧ True ∧ True ∧ True ∧
   True ∧ True ∧ True ∧ True ∧ True ∧ (SV.v (Value.string (bytesOf (tk (putL most.toNat x_1.snd.snd.snd.snd (x_1.snd.fst + x_1.snd.snd.fst) (bytesLs (m.getD x_1.fst.toNat op0).snd.fst)) x_1.snd.fst most.toNat (x_1.snd.snd.fst + (↑(bytesLs (m.getD
   x_1.fst.toNat op0).snd.fst).length : Int))))) = SV.v (Value.string (bytesOf (tk (putL most.toNat x_1.snd.snd.snd.snd (x_1.snd.fst + x_1.snd.snd.fst) (bytesLs (m.getD x_1.fst.toNat op0).snd.fst)) x_1.snd.fst most.toNat (x_1.snd.snd.fst + (↑(bytesLs
   (m.getD x_1.fst.toNat op0).snd.fst).length : Int))))) ∧ SV.v (Value.int IntKind.i64 most) = SV.v (Value.int IntKind.i64 most) ∧ SV.v (Value.bool x_1.snd.snd.snd.fst) = SV.v (Value.bool x_1.snd.snd.snd.fst) ∧ True) ∧ True ∧ True ∧ (most.toNat =
   most.toNat ∧ (0 : Nat) = (0 : Nat) ∧ putL most.toNat x_1.snd.snd.snd.snd (x_1.snd.fst + x_1.snd.snd.fst) (bytesLs (m.getD x_1.fst.toNat op0).snd.fst) = putL most.toNat x_1.snd.snd.snd.snd (x_1.snd.fst + x_1.snd.snd.fst) (bytesLs (m.getD x_1.fst.toNat
   op0).snd.fst)) ∧ (SV.h (18 : Nat) [(0 : Nat), (0 : Nat)] = SV.h (18 : Nat) [(0 : Nat), (0 : Nat)] ∧ SV.v (Value.int IntKind.i64 x_1.snd.fst) = SV.v (Value.int IntKind.i64 x_1.snd.fst) ∧ SV.v (Value.int IntKind.i64 (x_1.snd.snd.fst + (↑(bytesLs
   (m.getD x_1.fst.toNat op0).snd.fst).length : Int))) = SV.v (Value.int IntKind.i64 (x_1.snd.snd.fst + (↑(bytesLs (m.getD x_1.fst.toNat op0).snd.fst).length : Int))) ∧ SV.v (Value.bool x_1.snd.snd.snd.fst) = SV.v (Value.bool x_1.snd.snd.snd.fst) ∧
   True) ∧ True) ∧ ((↑m.length : Int) - IntKind.i64.wrap (x_1.fst + (1 : Int))).toNat < ((↑m.length : Int) - x_1.fst).toNat)) (br ((m.getD x_1.fst.toNat op0).fst == (1 : Int)) (((0 : Int) ≤ IntKind.i64.wrap (x_1.fst + (1 : Int)) ∧ IntKind.i64.wrap
   (x_1.fst + (1 : Int)) ≤ (↑m.length : Int) ∧ QWf ((x_1.snd.fst + x_1.snd.snd.fst) % (↑most.toNat : Int)) (0 : Int) x_1.snd.snd.snd.snd most.toNat) ∧ ((SV.v (Value.int IntKind.i64 most) = SV.v (Value.int IntKind.i64 most) ∧ SV.r (0 : Nat) [] = SV.r (0
   : Nat) [] ∧ SV.r (1 : Nat) [] = SV.r (1 : Nat) [] ∧ SV.p (3 : Nat) (0 : Nat) = SV.p (3 : Nat) (0 : Nat) ∧ SV.p (4 : Nat) (0 : Nat) = SV.p (4 : Nat) (0 : Nat) ∧ SV.p (15 : Nat) (0 : Nat) = SV.p (15 : Nat) (0 : Nat) ∧ SV.p (19 : Nat) (0 : Nat) = SV.p
   (19 : Nat) (0 : Nat) ∧ SV.v (Value.int IntKind.i64 (IntKind.i64.wrap (x_1.fst + (1 : Int)))) = SV.v (Value.int IntKind.i64 (IntKind.i64.wrap (x_1.fst + (1 : Int)))) ∧ True) ∧ opsIC l = opsIC l ∧ opsIC m = opsIC m ∧ (most.toNat = most.toNat ∧ (0 :
   Nat) = (0 : Nat) ∧ x.snd.snd.snd.snd = x.snd.snd.snd.snd) ∧ (SV.h (2 : Nat) [(0 : Nat), (0 : Nat)] = SV.h (2 : Nat) [(0 : Nat), (0 : Nat)] ∧ SV.v (Value.int IntKind.i64 x.snd.fst) = SV.v (Value.int IntKind.i64 x.snd.fst) ∧ SV.v (Value.int IntKind.i64
   x.snd.snd.fst) = SV.v (Value.int IntKind.i64 x.snd.snd.fst) ∧ SV.v (Value.bool x.snd.snd.snd.fst) = SV.v (Value.bool x.snd.snd.snd.fst) ∧ True) ∧ (SV.v (Value.string (bytesOf (tk x.snd.snd.snd.snd x.snd.fst most.toNat x.snd.snd.fst))) = SV.v
   (Value.string (bytesOf (tk x.snd.snd.snd.snd x.snd.fst most.toNat x.snd.snd.fst))) ∧ SV.v (Value.int IntKind.i64 most) = SV.v (Value.int IntKind.i64 most) ∧ SV.v (Value.bool x.snd.snd.snd.fst) = SV.v (Value.bool x.snd.snd.snd.fst) ∧ True) ∧ True ∧
   True ∧ True ∧ True ∧ True ∧ True ∧ True ∧ True ∧ True ∧ True ∧ (SV.v (Value.string (bytesOf (tk x_1.snd.snd.snd.snd ((x_1.snd.fst + x_1.snd.snd.fst) % (↑most.toNat : Int)) most.toNat (0 : Int)))) = SV.v (Value.string (bytesOf (tk x_1.snd.snd.snd.snd
   ((x_1.snd.fst + x_1.snd.snd.fst) % (↑most.toNat : Int)) most.toNat (0 : Int)))) ∧ SV.v (Value.int IntKind.i64 most) = SV.v (Value.int IntKind.i64 most) ∧ SV.v (Value.bool false) = SV.v (Value.bool false) ∧ True) ∧ True ∧ True ∧ (most.toNat =
   most.toNat ∧ (0 : Nat) = (0 : Nat) ∧ x_1.snd.snd.snd.snd = x_1.snd.snd.snd.snd) ∧ (SV.h (18 : Nat) [(0 : Nat), (0 : Nat)] = SV.h (18 : Nat) [(0 : Nat), (0 : Nat)] ∧ SV.v (Value.int IntKind.i64 ((x_1.snd.fst + x_1.snd.snd.fst) % (↑most.toNat : Int)))
   = SV.v (Value.int IntKind.i64 ((x_1.snd.fst + x_1.snd.snd.fst) % (↑most.toNat : Int))) ∧ SV.v (Value.int IntKind.i64 (0 : Int)) = SV.v (Value.int IntKind.i64 (0 : Int)) ∧ SV.v (Value.bool false) = SV.v (Value.bool false) ∧ True) ∧ True) ∧ ((↑m.length
   : Int) - IntKind.i64.wrap (x_1.fst + (1 : Int))).toNat < ((↑m.length : Int) - x_1.fst).toNat) (br ((m.getD x_1.fst.toNat op0).fst == (3 : Int)) (((0 : Int) ≤ IntKind.i64.wrap (x_1.fst + (1 : Int)) ∧ IntKind.i64.wrap (x_1.fst + (1 : Int)) ≤ (↑m.length
   : Int) ∧ QWf ((x_1.snd.fst + x_1.snd.snd.fst) % (↑most.toNat : Int)) (0 : Int) x_1.snd.snd.snd.snd most.toNat) ∧ ((SV.v (Value.int IntKind.i64 most) = SV.v (Value.int IntKind.i64 most) ∧ SV.r (0 : Nat) [] = SV.r (0 : Nat) [] ∧ SV.r (1 : Nat) [] =
   SV.r (1 : Nat) [] ∧ SV.p (3 : Nat) (0 : Nat) = SV.p (3 : Nat) (0 : Nat) ∧ SV.p (4 : Nat) (0 : Nat) = SV.p (4 : Nat) (0 : Nat) ∧ SV.p (15 : Nat) (0 : Nat) = SV.p (15 : Nat) (0 : Nat) ∧ SV.p (19 : Nat) (0 : Nat) = SV.p (19 : Nat) (0 : Nat) ∧ SV.v
   (Value.int IntKind.i64 (IntKind.i64.wrap (x_1.fst + (1 : Int)))) = SV.v (Value.int IntKind.i64 (IntKind.i64.wrap (x_1.fst + (1 : Int)))) ∧ True) ∧ opsIC l = opsIC l ∧ opsIC m = opsIC m ∧ (most.toNat = most.toNat ∧ (0 : Nat) = (0 : Nat) ∧
   x.snd.snd.snd.snd = x.snd.snd.snd.snd) ∧ (SV.h (2 : Nat) [(0 : Nat), (0 : Nat)] = SV.h (2 : Nat) [(0 : Nat), (0 : Nat)] ∧ SV.v (Value.int IntKind.i64 x.snd.fst) = SV.v (Value.int IntKind.i64 x.snd.fst) ∧ SV.v (Value.int IntKind.i64 x.snd.snd.fst) =
   SV.v (Value.int IntKind.i64 x.snd.snd.fst) ∧ SV.v (Value.bool x.snd.snd.snd.fst) = SV.v (Value.bool x.snd.snd.snd.fst) ∧ True) ∧ (SV.v (Value.string (bytesOf (tk x.snd.snd.snd.snd x.snd.fst most.toNat x.snd.snd.fst))) = SV.v (Value.string (bytesOf
   (tk x.snd.snd.snd.snd x.snd.fst most.toNat x.snd.snd.fst))) ∧ SV.v (Value.int IntKind.i64 most) = SV.v (Value.int IntKind.i64 most) ∧ SV.v (Value.bool x.snd.snd.snd.fst) = SV.v (Value.bool x.snd.snd.snd.fst) ∧ True) ∧ True ∧ True ∧ True ∧ True ∧ True
   ∧ True ∧ True ∧ True ∧ True ∧ True ∧ (SV.v (Value.string (bytesOf (tk x_1.snd.snd.snd.snd ((x_1.snd.fst + x_1.snd.snd.fst) % (↑most.toNat : Int)) most.toNat (0 : Int)))) = SV.v (Value.string (bytesOf (tk x_1.snd.snd.snd.snd ((x_1.snd.fst +
   x_1.snd.snd.fst) % (↑most.toNat : Int)) most.toNat (0 : Int)))) ∧ SV.v (Value.int IntKind.i64 most) = SV.v (Value.int IntKind.i64 most) ∧ SV.v (Value.bool false) = SV.v (Value.bool false) ∧ True) ∧ True ∧ True ∧ (most.toNat = most.toNat ∧ (0 : Nat) =
   (0 : Nat) ∧ x_1.snd.snd.snd.snd = x_1.snd.snd.snd.snd) ∧ (SV.h (18 : Nat) [(0 : Nat), (0 : Nat)] = SV.h (18 : Nat) [(0 : Nat), (0 : Nat)] ∧ SV.v (Value.int IntKind.i64 ((x_1.snd.fst + x_1.snd.snd.fst) % (↑most.toNat : Int))) = SV.v (Value.int
   IntKind.i64 ((x_1.snd.fst + x_1.snd.snd.fst) % (↑most.toNat : Int))) ∧ SV.v (Value.int IntKind.i64 (0 : Int)) = SV.v (Value.int IntKind.i64 (0 : Int)) ∧ SV.v (Value.bool false) = SV.v (Value.bool false) ∧ True) ∧ True) ∧ ((↑m.length : Int) -
   IntKind.i64.wrap (x_1.fst + (1 : Int))).toNat < ((↑m.length : Int) - x_1.fst).toNat) (((0 : Int) ≤ IntKind.i64.wrap (x_1.fst + (1 : Int)) ∧ IntKind.i64.wrap (x_1.fst + (1 : Int)) ≤ (↑m.length : Int) ∧ QWf ((x_1.snd.fst + kq (m.getD x_1.fst.toNat
   op0).snd.snd x_1.snd.snd.fst) % (↑most.toNat : Int)) (x_1.snd.snd.fst - kq (m.getD x_1.fst.toNat op0).snd.snd x_1.snd.snd.fst) x_1.snd.snd.snd.snd most.toNat) ∧ ((SV.v (Value.int IntKind.i64 most) = SV.v (Value.int IntKind.i64 most) ∧ SV.r (0 : Nat)
   [] = SV.r (0 : Nat) [] ∧ SV.r (1 : Nat) [] = SV.r (1 : Nat) [] ∧ SV.p (3 : Nat) (0 : Nat) = SV.p (3 : Nat) (0 : Nat) ∧ SV.p (4 : Nat) (0 : Nat) = SV.p (4 : Nat) (0 : Nat) ∧ SV.p (15 : Nat) (0 : Nat) = SV.p (15 : Nat) (0 : Nat) ∧ SV.p (19 : Nat) (0 :
   Nat) = SV.p (19 : Nat) (0 : Nat) ∧ SV.v (Value.int IntKind.i64 (IntKind.i64.wrap (x_1.fst + (1 : Int)))) = SV.v (Value.int IntKind.i64 (IntKind.i64.wrap (x_1.fst + (1 : Int)))) ∧ True) ∧ opsIC l = opsIC l ∧ opsIC m = opsIC m ∧ (most.toNat =
   most.toNat ∧ (0 : Nat) = (0 : Nat) ∧ x.snd.snd.snd.snd = x.snd.snd.snd.snd) ∧ (SV.h (2 : Nat) [(0 : Nat), (0 : Nat)] = SV.h (2 : Nat) [(0 : Nat), (0 : Nat)] ∧ SV.v (Value.int IntKind.i64 x.snd.fst) = SV.v (Value.int IntKind.i64 x.snd.fst) ∧ SV.v
   (Value.int IntKind.i64 x.snd.snd.fst) = SV.v (Value.int IntKind.i64 x.snd.snd.fst) ∧ SV.v (Value.bool x.snd.snd.snd.fst) = SV.v (Value.bool x.snd.snd.snd.fst) ∧ True) ∧ (SV.v (Value.string (bytesOf (tk x.snd.snd.snd.snd x.snd.fst most.toNat
   x.snd.snd.fst))) = SV.v (Value.string (bytesOf (tk x.snd.snd.snd.snd x.snd.fst most.toNat x.snd.snd.fst))) ∧ SV.v (Value.int IntKind.i64 most) = SV.v (Value.int IntKind.i64 most) ∧ SV.v (Value.bool x.snd.snd.snd.fst) = SV.v (Value.bool
   x.snd.snd.snd.fst) ∧ True) ∧ True ∧ True ∧ True ∧ True ∧ True ∧ True ∧ True ∧ True ∧ True ∧ True ∧ (SV.v (Value.string (bytesOf (tk x_1.snd.snd.snd.snd ((x_1.snd.fst + kq (m.getD x_1.fst.toNat op0).snd.snd x_1.snd.snd.fst) % (↑most.toNat : Int))
   most.toNat (x_1.snd.snd.fst - kq (m.getD x_1.fst.toNat op0).snd.snd x_1.snd.snd.fst)))) = SV.v (Value.string (bytesOf (tk x_1.snd.snd.snd.snd ((x_1.snd.fst + kq (m.getD x_1.fst.toNat op0).snd.snd x_1.snd.snd.fst) % (↑most.toNat : Int)) most.toNat
   (x_1.snd.snd.fst - kq (m.getD x_1.fst.toNat op0).snd.snd x_1.snd.snd.fst)))) ∧ SV.v (Value.int IntKind.i64 most) = SV.v (Value.int IntKind.i64 most) ∧ SV.v (Value.bool x_1.snd.snd.snd.fst) = SV.v (Value.bool x_1.snd.snd.snd.fst) ∧ True) ∧ True ∧ True
   ∧ (most.toNat = most.toNat ∧ (0 : Nat) = (0 : Nat) ∧ x_1.snd.snd.snd.snd = x_1.snd.snd.snd.snd) ∧ (SV.h (18 : Nat) [(0 : Nat), (0 : Nat)] = SV.h (18 : Nat) [(0 : Nat), (0 : Nat)] ∧ SV.v (Value.int IntKind.i64 ((x_1.snd.fst + kq (m.getD x_1.fst.toNat
   op0).snd.snd x_1.snd.snd.fst) % (↑most.toNat : Int))) = SV.v (Value.int IntKind.i64 ((x_1.snd.fst + kq (m.getD x_1.fst.toNat op0).snd.snd x_1.snd.snd.fst) % (↑most.toNat : Int))) ∧ SV.v (Value.int IntKind.i64 (x_1.snd.snd.fst - kq (m.getD
   x_1.fst.toNat op0).snd.snd x_1.snd.snd.fst)) = SV.v (Value.int IntKind.i64 (x_1.snd.snd.fst - kq (m.getD x_1.fst.toNat op0).snd.snd x_1.snd.snd.fst)) ∧ SV.v (Value.bool x_1.snd.snd.snd.fst) = SV.v (Value.bool x_1.snd.snd.snd.fst) ∧ True) ∧ True) ∧
   ((↑m.length : Int) - IntKind.i64.wrap (x_1.fst + (1 : Int))).toNat < ((↑m.length : Int) - x_1.fst).toNat)))))) (true = true ∧ (0 : Nat) = (0 : Nat) ∧ br (x.snd.snd.snd.fst == x.snd.snd.snd.fst) (true = true ∧ ((0 : Nat) = (0 : Nat) ∧ QWf x.snd.fst
   x.snd.snd.fst x.snd.snd.snd.snd most.toNat) ∧ br ((bytesOf (tk x.snd.snd.snd.snd x.snd.fst most.toNat x.snd.snd.fst)).toList == (bytesOf (tk x.snd.snd.snd.snd x.snd.fst most.toNat x.snd.snd.fst)).toList) (true = true ∧ (0 : Nat) = (0 : Nat) ∧ br
   (x_1.snd.snd.snd.fst == x_1.snd.snd.snd.fst) (true = true ∧ ((0 : Nat) = (0 : Nat) ∧ QWf x_1.snd.fst x_1.snd.snd.fst x_1.snd.snd.snd.snd most.toNat) ∧ br ((bytesOf (tk x_1.snd.snd.snd.snd x_1.snd.fst most.toNat x_1.snd.snd.fst)).toList == (bytesOf
   (tk x_1.snd.snd.snd.snd x_1.snd.fst most.toNat x_1.snd.snd.fst)).toList) (True ∧ SV.v (Value.bool true) = SV.v (Value.bool true)) (SV.v (Value.bool false) = SV.v (Value.bool true))) (SV.v (Value.bool false) = SV.v (Value.bool true))) (SV.v
   (Value.bool false) = SV.v (Value.bool true))) (SV.v (Value.bool false) = SV.v (Value.bool true)))))) (True ∧ SV.v (Value.bool true) = SV.v (Value.bool true))))) (True ∧ SV.v (Value.bool true) = SV.v (Value.bool true)))) (True ∧ SV.v (Value.bool true)
   = SV.v (Value.bool true)))) (by kernel_rfl) ?_
  simp only [rq_iff, br_iff, nbeq, Nat.blt_eq, true_and, and_true, and_self, reduceCtorEq, false_implies, true_implies, implies_true, Bool.and_eq_true, Bool.and_eq_false_iff, decide_eq_true_eq, decide_eq_false_iff_not, II, SV.v.injEq,
   Value.bool.injEq, Value.string.injEq, Value.int.injEq, Bool.false_eq_true, Bool.true_eq_false, Bool.not_eq_true', bne_iff_ne, ne_eq, bne_eq_false_iff_eq, beq_iff_eq, beq_eq_false_iff_ne, bytesOf_size, tk_length, Nat.le_refl, Nat.ble_eq,
   Nat.zero_lt_succ, not_true_eq_false, not_false_eq_true, ba_size]
  have hlen := hr.len
  have hlem := hs.len
  rw [show reachBytes = 140737488351232 from rfl] at hlen hlem
  refine fun ⟨m0, m1⟩ => ⟨⟨by omega, by omega, few_zero l⟩, fun x ⟨x0, x1, xf⟩ => ⟨fun xl => ⟨⟨x0, xl⟩, by omega, by omega, by omega, fun h20 => ⟨⟨by omega, by omega, fewk_zero l _ _⟩, fun y ⟨y0, y1, yf⟩ => ⟨⟨x0, xl⟩, by omega, by omega, by omega,
   fun yl => ?_, fun yl => ?_⟩⟩⟩, fun xl l60 n2 => ⟨⟨by omega, by omega, few_zero m⟩, fun u ⟨u0, u1, uf⟩ => ⟨fun ul => ⟨⟨u0, ul⟩, by omega, by omega, by omega, fun h20 => ⟨⟨by omega, by omega, fewk_zero m _ _⟩, fun y ⟨y0, y1, yf⟩ => ⟨⟨u0, ul⟩, by omega,
   by omega, by omega, fun yl => ?_, fun yl => ?_⟩⟩⟩, fun ul m60 n3 => ⟨⟨by omega, by omega, qwf_new (by omega)⟩, by rw [tk_zero]; rfl, fun z ⟨z0, z1, hq⟩ => ?_⟩⟩⟩⟩⟩
  · exact few_inR hr x0 xl xf (by omega) y0 yl yf
  · exact few_outR hr x0 xl xf (by omega) y1 yl yf
  · exact few_inR hs u0 ul uf (by omega) y0 yl yf
  · exact few_outR hs u0 ul uf (by omega) y1 yl yf
  · have hl : OpsIn l := few_ops xf (by omega) l60 (by simpa using n2)
    have hm : OpsIn m := few_ops uf (by omega) m60 (by simpa using n3)
    exact ⟨fun zl => qround hl m0 m1 z0 zl hq, fun _ => ⟨hq, ⟨by omega, by omega, hq⟩, fun y ⟨y0, y1, hy⟩ => ⟨fun yl => qround hm m0 m1 y0 yl hy, fun _ => ⟨hq, hy⟩⟩⟩⟩
theorem law_copies {W : World} {vs : List Value} (hp : IPDens (wholeH W) reachBytes [.one (.i .i64), .one (.sl [.i .i64, .sl [.s], .i .i64]), .one (.sl [.i .i64, .sl [.s], .i .i64])] vs) : Calls Try.prog 7 vs.toArray W fun en W' => en = .returned (.bool true) ∧ Ext W W' := by
  simp only [IPDens, IP.den, it_i] at hp
  obtain ⟨_, _, rfl, ⟨most, rfl, _⟩, v, _, rfl, hL, u, _, rfl, hM, rfl⟩ := hp
  obtain ⟨l, h1, h2⟩ := ops_inR hL
  obtain ⟨m, h3, h4⟩ := ops_inR hM
  refine law_run (fun I => allCfg_ok mixed ptab'_ok qtabL_ok) rfl Try.func7 [(opsIC l, v), (opsIC m, u)] (by simp only [List.mem_cons, List.not_mem_nil, or_false, forall_eq_or_imp, forall_eq]; exact ⟨h2, h4⟩) ?_ (run_copies most l m h1 h3)
  exact dl_cons den_v (dl_cons (den_r (l := [(opsIC l, v), (opsIC m, u)]) rfl h2.1) (dl_cons (den_r (l := [(opsIC l, v), (opsIC m, u)]) rfl h4.1) dl_nil))
end Go.Proofs.Ytienakdnmhmglaa
