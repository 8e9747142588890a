/- Contracts of layer 1: a grid's shape, and the calls that need no loop. -/
import Derived.Test.YtpdhnmnjccnbmaaChecked
import Derived.Test.YtpdhnmnjccnbmaaVT
set_option linter.unusedSimpArgs false
set_option linter.unusedVariables false
set_option linter.unusedSectionVars false
namespace Go.Sym
open Go
/-- Rows of numbers. -/
structure RI where
  l : List (List Int)
  oe : Nat
  ep : Nat
def shRowsI (k : IntKind) (T TS : TypeId) : ShB RI where
  enc a := .rows (.i k a.l) T TS a.oe a.ep none
  dec x := match x with
    | .rows R T' TS' oe ep pd => match R with
      | .i k' l => match pd with
        | none => match decide (k' = k) && (Nat.beq T' T && Nat.beq TS' TS) with
          | true => some ⟨l, oe, ep⟩
          | false => none
        | some _ => none
      | _ => none
    | _ => none
  ok x a h := by
    split at h
    · split at h
      · split at h
        · split at h
          · rename_i hc
            simp only [Bool.and_eq_true, decide_eq_true_eq, Nat.beq_eq] at hc
            obtain ⟨rfl, rfl, rfl⟩ := hc
            simp only [Option.some.injEq] at h
            subst h
            rfl
          · cases h
        · cases h
      · cases h
    · cases h
def shNilP : Sh Unit where
  enc _ := .v (.pointer none)
  dec x := match x with
    | .v (.pointer none) => some ()
    | _ => none
  ok x a h := by
    split at h
    · rfl
    · cases h
/-- A slice that is a block of its own. -/
def shBlk (b len : Nat) : Sh Unit where
  enc _ := .s b 0 len len
  dec x := match x with
    | .s b' o l c => match Nat.beq b' b && (Nat.beq o 0 && (Nat.beq l len && Nat.beq c len)) with
      | true => some ()
      | false => none
    | _ => none
  ok x a h := by
    split at h
    · split at h
      · rename_i hT
        simp only [Bool.and_eq_true, Nat.beq_eq] at hT
        obtain ⟨rfl, rfl, rfl, rfl⟩ := hT
        rfl
      · cases h
    · cases h
abbrev shI2 : Sh (Int × Int) := shA (shCons shI (shOne shI))
end Go.Sym
namespace Go.Proofs.Ytpdhnmnjccnbmaa
open Go Go.Sym

theorem mixed : Try.prog.follows .mixedOrders = true := by kernel_rfl
theorem br_t {b : Bool} {A B : Prop} (h : b = true) (hA : A) : br b A B := by subst h; exact hA
theorem br_f {b : Bool} {A B : Prop} (h : b = false) (hB : B) : br b A B := by subst h; exact hB
theorem rq_iff {b : Bool} {A : Prop} : rq b A ↔ (b = true ∧ A) := by cases b <;> simp [rq]
theorem br_iff {b : Bool} {A B : Prop} : br b A B ↔ ((b = true → A) ∧ (b = false → B)) := by cases b <;> simp [br]
theorem nbeq (n : Nat) : Nat.beq n n = true := by rw [Nat.beq_eq]

/-! ### A grid: its object and its rows -/
abbrev GB := Nat × RI
def shGi (j : Nat) : ShH GB := shHCons (shCells (shOne (shO (j + 1))) 75) (shHOne (shRowsI .i64 3 63))
def shG : ShH GB := shGi 0
def gbi (j oe ep : Nat) (l : List (List Int)) : List (SB Unit) := (shGi j).enc (oe, ⟨l, oe, ep⟩)
def nC (l : List (List Int)) : Nat := (l.getD 0 []).length
/-- Rows that are a grid: all as long. -/
structure GW (l : List (List Int)) : Prop where
  r0 : 1 ≤ l.length
  r1 : l.length ≤ 255
  c0 : 1 ≤ nC l
  c1 : nC l ≤ 255
  all : ∀ r ∈ l, r.length = nC l
theorem GW.row {l : List (List Int)} (h : GW l) {i : Nat} (hi : i < l.length) : (l.getD i []).length = nC l := by
  rw [List.getD, List.getElem?_eq_getElem hi]
  exact h.all _ (List.getElem_mem hi)

def mayB (a b : Int) : Bool := decide (1 ≤ a) && (decide (a ≤ 255) && (decide (1 ≤ b) && decide (b ≤ 255)))
theorem mayB_iff {a b : Int} : mayB a b = true ↔ 1 ≤ a ∧ a ≤ 255 ∧ 1 ≤ b ∧ b ≤ 255 := by simp [mayB]
def lcMay : ACon Unit := mkLC (decP (shOne shI2) shHNil) fun ((a, b), _) => .br (mayB a b) (.one (.v (.int .i64 0)) [] []) (.one (.v (.int .i64 10)) [] [])
set_option maxHeartbeats 4000000 in
theorem ok_may : ∀ I : Sym.Inv Unit, LCOk I Try.prog 14 lcMay := by
  refine lc_mk (fun _ => allCfg Try.prog [] [] 0) (fun _ _ => allCfg_ok mixed trivial trivial) (fun _ => rfl) (n := 60) Try.func14 ?_
  intro ⟨⟨a, b⟩, _⟩ hφ
  refine kcast (B := (br (decide (a < (1 : Int))) (br (mayB a b) ((SV.v (Value.int IntKind.i64 (10 : Int)) = SV.v (Value.int IntKind.i64 (0 : Int)) ∧ True) ∧ True) ((SV.v (Value.int IntKind.i64 (10 : Int)) = SV.v (Value.int IntKind.i64 (10 : Int)) ∧ True) ∧ True)) (br (decide (a > (255 : Int))) (br (mayB a b) ((SV.v (Value.int IntKind.i64 (10 : Int)) = SV.v (Value.int IntKind.i64 (0 : Int)) ∧ True) ∧ True) ((SV.v (Value.int IntKind.i64 (10 : Int)) = SV.v (Value.int IntKind.i64 (10 : Int)) ∧ True) ∧ True)) (br (decide (b < (1 : Int))) (br (mayB a b) ((SV.v (Value.int IntKind.i64 (10 : Int)) = SV.v (Value.int IntKind.i64 (0 : Int)) ∧ True) ∧ True) ((SV.v (Value.int IntKind.i64 (10 : Int)) = SV.v (Value.int IntKind.i64 (10 : Int)) ∧ True) ∧ True)) (br (decide (b > (255 : Int))) (br (mayB a b) ((SV.v (Value.int IntKind.i64 (10 : Int)) = SV.v (Value.int IntKind.i64 (0 : Int)) ∧ True) ∧ True) ((SV.v (Value.int IntKind.i64 (10 : Int)) = SV.v (Value.int IntKind.i64 (10 : Int)) ∧ True) ∧ True)) (br (mayB a b) ((SV.v (Value.int IntKind.i64 (0 : Int)) = SV.v (Value.int IntKind.i64 (0 : Int)) ∧ True) ∧ True) ((SV.v (Value.int IntKind.i64 (0 : Int)) = SV.v (Value.int IntKind.i64 (10 : Int)) ∧ True) ∧ True))))))) (by kernel_rfl) ?_
  simp only [rq_iff, br_iff, Bool.and_eq_true, Bool.and_eq_false_iff, decide_eq_true_eq, decide_eq_false_iff_not, mayB_iff, Bool.or_eq_true, Bool.or_eq_false_iff]
  cases h : mayB a b
  · simp [br_iff]
    simp [mayB] at h
    omega
  · rw [mayB_iff] at h
    simp [br_iff]
    omega

def lcSize1 : ACon Unit := mkLC (decP (shOne (shP 0)) shG) fun (_, (oe, ⟨l, oe2, ep⟩)) => .ask (oe = oe2 ∧ GW l) (.one (.a [.v (.int .i64 l.length), .v (.int .i64 (nC l))]) (gbi 0 oe ep l) [])
def lcSize0 : ACon Unit := mkLC (decP (shOne shNilP) shHNil) fun _ => .one (.a [.v (.int .i64 0), .v (.int .i64 0)]) [] []
set_option maxHeartbeats 4000000 in
theorem ok_size1 : ∀ I : Sym.Inv Unit, LCOk I Try.prog 26 lcSize1 := by
  refine lc_mk (fun _ => allCfg Try.prog [] [] 0) (fun _ _ => allCfg_ok mixed trivial trivial) (fun _ => rfl) (n := 60) Try.func26 ?_
  intro ⟨_, oe, ⟨l, oe2, ep⟩⟩ hφ
  obtain ⟨⟨rfl, hg⟩, _⟩ := id hφ
  refine kcast (B := (rq (oe.beq oe) (rq (oe.beq oe && (true && decide ((0 : Int) ≤ (0 : Int) ∧ (0 : Int) < (↑(Rws.i IntKind.i64 l).len : Int)))) (rq (oe.beq oe && Nat.blt (0 : Nat) (Rws.i IntKind.i64 l).len) (rq (ep.beq ep && Nat.blt (0 : Nat) (Rws.i IntKind.i64 l).len) ((SV.a [SV.v (Value.int IntKind.i64 (↑(Rws.i IntKind.i64 l).len : Int)), SV.v (Value.int IntKind.i64 (↑((Rws.i IntKind.i64 l).nAt (0 : Nat)) : Int))] = SV.a [SV.v (Value.int IntKind.i64 (↑l.length : Int)), SV.v (Value.int IntKind.i64 (↑(nC l) : Int))] ∧ True) ∧ (SV.h (1 : Nat) [oe, (0 : Nat)] = SV.h (1 : Nat) [oe, (0 : Nat)] ∧ True) ∧ (oe = oe ∧ ep = ep ∧ l = l) ∧ True)))))) (by kernel_rfl) ?_
  have := hg.r0
  have hb : Nat.blt 0 (Rws.i IntKind.i64 l).len = true := by rw [Nat.blt_eq]; exact this
  have hl : (0 : Int) < ((Rws.i IntKind.i64 l).len : Nat) := by show (0 : Int) < (l.length : Nat); omega
  simp only [rq_iff, nbeq, hb, Bool.and_true, Bool.true_and, true_and, and_true, decide_eq_true_eq]
  exact ⟨⟨by omega, hl⟩, rfl⟩
set_option maxHeartbeats 4000000 in
theorem ok_size0 : ∀ I : Sym.Inv Unit, LCOk I Try.prog 26 lcSize0 := by
  refine lc_mk (fun _ => allCfg Try.prog [] [] 0) (fun _ _ => allCfg_ok mixed trivial trivial) (fun _ => rfl) (n := 60) Try.func26 ?_
  intro ⟨_, _⟩ hφ
  refine kcast (B := ((SV.a [SV.v (Value.int IntKind.i64 (0 : Int)), SV.v (Value.int IntKind.i64 (0 : Int))] = SV.a [SV.v (Value.int IntKind.i64 (0 : Int)), SV.v (Value.int IntKind.i64 (0 : Int))] ∧ True) ∧ True)) (by kernel_rfl) ?_
  exact ⟨⟨rfl, trivial⟩, trivial⟩
def lcSize : ACon Unit := lcOr lcSize1 lcSize0
theorem ok_size : ∀ I : Sym.Inv Unit, LCOk I Try.prog 26 lcSize := lcOr_ok ok_size1 ok_size0

/-! ### A row of the same -/
def lcMul : ACon Unit := mkLC (decP (shCons (shInt .u64) (shOne (shInt .u64))) shHNil) fun ((a, c), _) => .ask (a = 1 ∧ 0 ≤ c ∧ c ≤ 255) (.one (.t [.v (.int .u64 0), .v (.int .u64 c)]) [] [])
set_option maxHeartbeats 4000000 in
set_option maxRecDepth 100000 in
theorem ok_mul : ∀ I : Sym.Inv Unit, LCOk I Try.prog 50 lcMul := by
  refine lc_mk (fun _ => allCfg Try.prog [] [] 0) (fun _ _ => allCfg_ok mixed trivial trivial) (fun _ => rfl) (n := 80) Try.func50 ?_
  intro ⟨⟨a, c⟩, _⟩ hφ
  obtain ⟨⟨h0, h1, h2⟩, hp⟩ := id hφ
  refine kcast (B := ((SV.t [SV.v (Value.int IntKind.u64 (IntKind.u64.wrap (IntKind.u64.wrap (IntKind.u64.wrap (a.fdiv (4294967296 : Int) * c.fdiv (4294967296 : Int)) + (IntKind.u64.wrap (IntKind.u64.wrap (a.fdiv (4294967296 : Int) * bitsK BinOp.and IntKind.u64 c (4294967295 : Int)) + (IntKind.u64.wrap (bitsK BinOp.and IntKind.u64 a (4294967295 : Int) * bitsK BinOp.and IntKind.u64 c (4294967295 : Int))).fdiv (4294967296 : Int))).fdiv (4294967296 : Int)) + (IntKind.u64.wrap (bitsK BinOp.and IntKind.u64 (IntKind.u64.wrap (IntKind.u64.wrap (a.fdiv (4294967296 : Int) * bitsK BinOp.and IntKind.u64 c (4294967295 : Int)) + (IntKind.u64.wrap (bitsK BinOp.and IntKind.u64 a (4294967295 : Int) * bitsK BinOp.and IntKind.u64 c (4294967295 : Int))).fdiv (4294967296 : Int))) (4294967295 : Int) + IntKind.u64.wrap (bitsK BinOp.and IntKind.u64 a (4294967295 : Int) * c.fdiv (4294967296 : Int)))).fdiv (4294967296 : Int)))), SV.v (Value.int IntKind.u64 (IntKind.u64.wrap (a * c)))] = SV.t [SV.v (Value.int IntKind.u64 (0 : Int)), SV.v (Value.int IntKind.u64 c)] ∧ True) ∧ True)) (by kernel_rfl) ?_
  clear hp
  subst h0
  obtain ⟨n, rfl⟩ : ∃ n : Nat, c = n := ⟨c.toNat, by omega⟩
  have hn : n < 256 := by omega
  clear h1 h2 hφ
  simp only [SV.t.injEq, List.cons.injEq, SV.v.injEq, Value.int.injEq, true_and, and_true]
  revert n
  decide
def rp (n c : Nat) (x : Int) : List Int := List.replicate n x ++ List.replicate (c - n) 0
theorem rp_length {n c : Nat} {x : Int} (h : n ≤ c) : (rp n c x).length = c := by simp [rp]; omega
theorem rp_step {n c : Nat} {x : Int} (h : n ≤ c) : List.take n (rp n c x) ++ (List.take (min n (c - n)) (List.take n (rp n c x)) ++ List.drop (n + min n (c - n)) (rp n c x)) = rp (n + min n (c - n)) c x := by
  have e1 : List.take n (rp n c x) = List.replicate n x := by simp [rp]
  have e2 : List.drop (n + min n (c - n)) (rp n c x) = List.replicate (c - (n + min n (c - n))) 0 := by
    unfold rp
    rw [List.drop_append, List.length_replicate, List.drop_eq_nil_of_le (by simp), List.drop_replicate, List.nil_append]
    congr 1; omega
  rw [e1, e2, List.take_replicate, ← List.append_assoc, List.replicate_append_replicate]
  have e3 : min (min n (c - n)) n = min n (c - n) := by omega
  rw [e3]; rfl
theorem rp_all {c : Nat} {x : Int} : rp c c x = List.replicate c x := by simp [rp]
theorem szN_ints (k : IntKind) (l : List Int) : szN (.ints k l) 1 = true := rfl
def annR (c : Nat) (x : Int) : Ann Unit where
  α := Int
  φ _ n := 1 ≤ n ∧ n ≤ c
  μ _ n := ((c : Int) - n).toNat
  get st := getI st.tm 8
  f st n := tmpl [7] [(8, .v (.int .i64 n))] [(1, .own (.ints .i64 (rp n.toNat c x)) c 3 1 0 true)] st
def lcRep : ACon Unit := mkLC (decP (shCons (shBlk 0 1) (shOne shI)) (shHOne (shCells (shOne shI) 3))) fun ((_, c), x) => .ask (1 ≤ c ∧ c ≤ 255) (.one (.h 1 [0, 0]) [.cells [.v (.int .i64 x)] 3, .own (.ints .i64 (List.replicate c.toNat x)) c.toNat 3 1 0 true] [])
set_option maxHeartbeats 4000000 in
theorem ok_rep : ∀ I : Sym.Inv Unit, LCOk I Try.prog 33 lcRep := by
  refine lc_mk (fun ((_, c), x) => allCfg Try.prog [] [(50, lcMul)] 0 [(580, annR c.toNat x)]) (fun _ _ => allCfg_ok mixed trivial ⟨ok_mul, trivial⟩) (fun _ => rfl) (n := 80) Try.func33 ?_
  intro ⟨⟨_, c⟩, x⟩ hφ
  obtain ⟨⟨h1, h2⟩, hp⟩ := id hφ
  refine kcast (B := (br (decide (c < (0 : Int))) False (true = true ∧ ((1 : Int) = (1 : Int) ∧ (0 : Int) ≤ IntKind.u64.wrap c ∧ IntKind.u64.wrap c ≤ (255 : Int)) ∧ br (decide (IntKind.u64.wrap c > (9223372036854775807 : Int))) False (rq (decide ((0 : Int) ≤ IntKind.i64.wrap (IntKind.u64.wrap c) ∧ IntKind.i64.wrap (IntKind.u64.wrap c) ≤ IntKind.i64.wrap (IntKind.u64.wrap c) ∧ (↑(8 : Nat) : Int) * IntKind.i64.wrap (IntKind.u64.wrap c) ≤ (281474976710656 : Int) ∧ IntKind.i64.wrap (IntKind.u64.wrap c) ≤ (9223372036854775807 : Int))) (rq (true && (true && (szN (madeC Try.prog (3 : Nat) (Value.int IntKind.i64 (0 : Int)) (IntKind.i64.wrap (IntKind.u64.wrap c)).toNat (1 : Nat)) (1 : Nat) && (Nat.beq (1 : Nat) (1 : Nat) && (true && (((0 : Nat) + (IntKind.i64.wrap (IntKind.u64.wrap c)).toNat).ble (IntKind.i64.wrap (IntKind.u64.wrap c)).toNat && Nat.blt (0 : Nat) (IntKind.i64.wrap (IntKind.u64.wrap c)).toNat)))))) (((1 : Int) ≤ (↑(Nat.min (1 : Nat) (IntKind.i64.wrap (IntKind.u64.wrap c)).toNat) : Int) ∧ (↑(Nat.min (1 : Nat) (IntKind.i64.wrap (IntKind.u64.wrap c)).toNat) : Int) ≤ (↑c.toNat : Int)) ∧ ((SV.h (1 : Nat) [(0 : Nat), (0 : Nat)] = SV.h (1 : Nat) [(0 : Nat), (0 : Nat)] ∧ SV.v (Value.int IntKind.i64 (↑(Nat.min (1 : Nat) (IntKind.i64.wrap (IntKind.u64.wrap c)).toNat) : Int)) = SV.v (Value.int IntKind.i64 (↑(Nat.min (1 : Nat) (IntKind.i64.wrap (IntKind.u64.wrap c)).toNat) : Int)) ∧ True) ∧ (SV.v (Value.int IntKind.i64 x) = SV.v (Value.int IntKind.i64 x) ∧ True) ∧ ((IntKind.i64.wrap (IntKind.u64.wrap c)).toNat = c.toNat ∧ (0 : Nat) = (0 : Nat) ∧ List.take (0 : Nat) (List.replicate ((IntKind.i64.wrap (IntKind.u64.wrap c)).toNat * (1 : Nat)) (0 : Int)) ++ (List.take (Nat.min (1 : Nat) (IntKind.i64.wrap (IntKind.u64.wrap c)).toNat) (intsOf (List.take (1 : Nat) (List.drop (0 : Nat) [SV.v (Value.int IntKind.i64 x)]))) ++ List.drop ((0 : Nat) + Nat.min (1 : Nat) (IntKind.i64.wrap (IntKind.u64.wrap c)).toNat) (List.replicate ((IntKind.i64.wrap (IntKind.u64.wrap c)).toNat * (1 : Nat)) (0 : Int))) = rp (↑(Nat.min (1 : Nat) (IntKind.i64.wrap (IntKind.u64.wrap c)).toNat) : Int).toNat c.toNat x) ∧ True) ∧ ∀ (x_1 : Int), (1 : Int) ≤ x_1 ∧ x_1 ≤ (↑c.toNat : Int) → br (decide (x_1 < (↑c.toNat : Int))) (rq (true && (Nat.beq (1 : Nat) (1 : Nat) && decide ((0 : Int) ≤ x_1 ∧ x_1 ≤ (↑c.toNat : Int) ∧ (↑c.toNat : Int) ≤ (↑c.toNat : Int)))) (rq (true && (Nat.beq (1 : Nat) (1 : Nat) && decide ((0 : Int) ≤ (0 : Int) ∧ (0 : Int) ≤ x_1 ∧ x_1 ≤ (↑c.toNat : Int)))) (rq (true && (true && (true && (szN (Cn.ints IntKind.i64 (rp x_1.toNat c.toNat x)) (1 : Nat) && (((0 : Nat) + (x_1.toNat - (0 : Nat))).ble c.toNat && Nat.blt (0 : Nat) c.toNat))) && (szN (Cn.ints IntKind.i64 (rp x_1.toNat c.toNat x)) (1 : Nat) && (Nat.beq (1 : Nat) (1 : Nat) && (true && ((x_1.toNat + ((↑c.toNat : Int).toNat - x_1.toNat)).ble c.toNat && Nat.blt (0 : Nat) c.toNat)))))) (((1 : Int) ≤ IntKind.i64.wrap (x_1 + (↑((x_1.toNat - (0 : Nat)).min ((↑c.toNat : Int).toNat - x_1.toNat)) : Int)) ∧ IntKind.i64.wrap (x_1 + (↑((x_1.toNat - (0 : Nat)).min ((↑c.toNat : Int).toNat - x_1.toNat)) : Int)) ≤ (↑c.toNat : Int)) ∧ ((SV.h (1 : Nat) [(0 : Nat), (0 : Nat)] = SV.h (1 : Nat) [(0 : Nat), (0 : Nat)] ∧ SV.v (Value.int IntKind.i64 (IntKind.i64.wrap (x_1 + (↑((x_1.toNat - (0 : Nat)).min ((↑c.toNat : Int).toNat - x_1.toNat)) : Int)))) = SV.v (Value.int IntKind.i64 (IntKind.i64.wrap (x_1 + (↑((x_1.toNat - (0 : Nat)).min ((↑c.toNat : Int).toNat - x_1.toNat)) : Int)))) ∧ True) ∧ (SV.v (Value.int IntKind.i64 x) = SV.v (Value.int IntKind.i64 x) ∧ True) ∧ (c.toNat = c.toNat ∧ (0 : Nat) = (0 : Nat) ∧ List.take x_1.toNat (rp x_1.toNat c.toNat x) ++ (List.take ((x_1.toNat - (0 : Nat)).min ((↑c.toNat : Int).toNat - x_1.toNat)) (List.take (x_1.toNat - (0 : Nat)) (List.drop (0 : Nat) (rp x_1.toNat c.toNat x))) ++ List.drop (x_1.toNat + (x_1.toNat - (0 : Nat)).min ((↑c.toNat : Int).toNat - x_1.toNat)) (rp x_1.toNat c.toNat x)) = rp (IntKind.i64.wrap (x_1 + (↑((x_1.toNat - (0 : Nat)).min ((↑c.toNat : Int).toNat - x_1.toNat)) : Int))).toNat c.toNat x) ∧ True) ∧ ((↑c.toNat : Int) - IntKind.i64.wrap (x_1 + (↑((x_1.toNat - (0 : Nat)).min ((↑c.toNat : Int).toNat - x_1.toNat)) : Int))).toNat < ((↑c.toNat : Int) - x_1).toNat)))) ((SV.h (1 : Nat) [(0 : Nat), (0 : Nat)] = SV.h (1 : Nat) [(0 : Nat), (0 : Nat)] ∧ True) ∧ (SV.v (Value.int IntKind.i64 x) = SV.v (Value.int IntKind.i64 x) ∧ True) ∧ (c.toNat = c.toNat ∧ (0 : Nat) = (0 : Nat) ∧ rp x_1.toNat c.toNat x = List.replicate c.toNat x) ∧ True))))))) (by kernel_rfl) ?_
  clear hp hφ
  obtain ⟨m, rfl⟩ : ∃ m : Nat, c = m := ⟨c.toNat, by omega⟩
  have hu : IntKind.u64.wrap (m : Int) = m := IntWalk.u64_in _ (by omega)
  have hi : IntKind.i64.wrap (m : Int) = m := wrap64 (by omega) (by omega)
  have hm : ∀ k, szN (madeC Try.prog 3 (Value.int IntKind.i64 0) k 1) 1 = true := fun _ => rfl
  have hm1 : Nat.min 1 m = 1 := by show min 1 m = 1; omega
  simp only [hu, hi, hm, szN_ints, hm1, Int.toNat_natCast, rq_iff, br_iff, nbeq, Bool.true_and, Bool.and_true, true_and, and_true, Bool.and_eq_true, Nat.ble_eq, Nat.blt_eq, decide_eq_true_eq, decide_eq_false_iff_not, Nat.sub_zero, Nat.zero_add, Nat.mul_one, List.drop_zero]
  refine ⟨fun h => by omega, fun _ => ⟨by omega, fun h => by omega, fun _ => ⟨by omega, by omega, by omega, ?_, fun n ⟨hn0, hn1⟩ => ⟨fun hlt => ?_, fun hge => ?_⟩⟩⟩⟩
  · obtain ⟨k, rfl⟩ : ∃ k, m = k + 1 := ⟨m - 1, by omega⟩
    simp [rp, intsOf, List.replicate_succ]
  · obtain ⟨k, rfl⟩ : ∃ k : Nat, n = k := ⟨n.toNat, by omega⟩
    simp only [Int.toNat_natCast]
    have hw : IntKind.i64.wrap ((k : Int) + ((Nat.min k (m - k) : Nat) : Int)) = ((k + min k (m - k) : Nat) : Int) := by
      rw [wrap64 (by omega) (by have : Nat.min k (m - k) ≤ m := by (show min k (m - k) ≤ m); omega
                                omega)]
      rfl
    rw [hw]
    simp only [Int.toNat_natCast]
    have hstep := rp_step (n := k) (c := m) (x := x) (by omega)
    have hmin : min k (m - k) ≤ m - k := Nat.min_le_right _ _
    have hmin1 : 1 ≤ min k (m - k) := by omega
    exact ⟨by omega, by omega, ⟨by omega, by omega, by omega⟩, ⟨by omega, by omega⟩, hstep, by omega⟩
  · obtain rfl : n = m := by omega
    exact rp_all
end Go.Proofs.Ytpdhnmnjccnbmaa
