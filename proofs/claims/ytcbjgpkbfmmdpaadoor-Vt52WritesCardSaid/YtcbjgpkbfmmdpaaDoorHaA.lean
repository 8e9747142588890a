/- Layer 1: a grid's shape, a new one, what is where: contracts. -/
import Derived.Test.YtcbjgpkbfmmdpaaDoorChecked
import Derived.Test.YtcbjgpkbfmmdpaaDoorVY
set_option linter.unusedSimpArgs false
set_option linter.unusedVariables false
set_option linter.unusedSectionVars false
namespace Go.Sym
open Go
/-- Rows of cells. -/
structure RC where
  l : List (List C4)
  oe : Nat
  ep : Nat
def shRowsC (T TS : TypeId) : ShB RC where
  enc a := .rows (.c a.l) T TS a.oe a.ep none
  dec x := match x with
    | .rows R T' TS' oe ep pd => match R with
      | .c l => match pd with
        | none => match Nat.beq T' T && Nat.beq TS' TS with
          | true => some ⟨l, oe, ep⟩
          | false => none
        | some _ => none
      | _ => none
    | _ => none
  ok x a h := by
    split at h
    · split at h
      · split at h
        · split at h
          · rename_i hc
            simp only [Bool.and_eq_true, Nat.beq_eq] at hc
            obtain ⟨rfl, rfl⟩ := hc
            simp only [Option.some.injEq] at h
            subst h
            rfl
          · cases h
        · cases h
      · cases h
    · cases h
/-- A cell, as a value, and in memory. -/
def shCL : ShL C4 where
  enc := recS
  dec x := match (shCons (shInt .i32) (shCons shI (shCons shB (shOne shI)))).dec x with
    | some (g, a, d, m) => some ⟨g, a, d, m⟩
    | none => none
  ok x a h := by
    split at h
    · rename_i h1
      simp only [Option.some.injEq] at h
      subst h
      exact (shCons (shInt .i32) (shCons shI (shCons shB (shOne shI)))).ok _ _ h1
    · cases h
abbrev shC : Sh C4 := shA shCL
abbrev cv (c : C4) : SV := .a (recS c)
def shNilP : Sh Unit where
  enc _ := .v (.pointer none)
  dec x := match x with
    | .v (.pointer none) => some ()
    | _ => none
  ok x a h := by
    split at h
    · rfl
    · cases h
/-- A slice that is a block of its own. -/
def shBlk (b len : Nat) : Sh Unit where
  enc _ := .s b 0 len len
  dec x := match x with
    | .s b' o l c => match Nat.beq b' b && (Nat.beq o 0 && (Nat.beq l len && Nat.beq c len)) with
      | true => some ()
      | false => none
    | _ => none
  ok x a h := by
    split at h
    · split at h
      · rename_i hT
        simp only [Bool.and_eq_true, Nat.beq_eq] at hT
        obtain ⟨rfl, rfl, rfl, rfl⟩ := hT
        rfl
      · cases h
    · cases h
abbrev shI2 : Sh (Int × Int) := shA (shCons shI (shOne shI))
end Go.Sym
namespace Go.Proofs.YtcbjgpkbfmmdpaaDoor
open Go Go.Sym

theorem mixed : Tryd.prog.follows .mixedOrders = true := by kernel_rfl
theorem br_t {b : Bool} {A B : Prop} (h : b = true) (hA : A) : br b A B := by subst h; exact hA
theorem br_f {b : Bool} {A B : Prop} (h : b = false) (hB : B) : br b A B := by subst h; exact hB
theorem rq_iff {b : Bool} {A : Prop} : rq b A ↔ (b = true ∧ A) := by cases b <;> simp [rq]
theorem br_iff {b : Bool} {A B : Prop} : br b A B ↔ ((b = true → A) ∧ (b = false → B)) := by cases b <;> simp [br]
theorem nbeq (n : Nat) : Nat.beq n n = true := by rw [Nat.beq_eq]

/-! ### A grid: its object and its rows -/
abbrev GB := Nat × RC
def shGi (j : Nat) : ShH GB := shHCons (shCells (shOne (shO (j + 1))) 106) (shHOne (shRowsC 40 47))
def shG : ShH GB := shGi 0
def gbi (j oe ep : Nat) (l : List (List C4)) : List (SB Unit) := (shGi j).enc (oe, ⟨l, oe, ep⟩)
def nC (l : List (List C4)) : Nat := (l.getD 0 []).length
/-- Rows that are a grid: all as long. -/
structure GW (l : List (List C4)) : Prop where
  r0 : 1 ≤ l.length
  r1 : l.length ≤ 255
  c0 : 1 ≤ nC l
  c1 : nC l ≤ 255
  all : ∀ r ∈ l, r.length = nC l
theorem GW.row {l : List (List C4)} (h : GW l) {i : Nat} (hi : i < l.length) : (l.getD i []).length = nC l := by
  rw [List.getD, List.getElem?_eq_getElem hi]
  exact h.all _ (List.getElem_mem hi)

def mayB (a b : Int) : Bool := decide (1 ≤ a) && (decide (a ≤ 255) && (decide (1 ≤ b) && decide (b ≤ 255)))
theorem mayB_iff {a b : Int} : mayB a b = true ↔ 1 ≤ a ∧ a ≤ 255 ∧ 1 ≤ b ∧ b ≤ 255 := by simp [mayB]
def lcMay : ACon Unit := mkLC (decP (shOne shI2) shHNil) fun ((a, b), _) => .br (mayB a b) (.one (.v (.int .i64 0)) [] []) (.one (.v (.int .i64 10)) [] [])
set_option maxHeartbeats 4000000 in
theorem ok_may : ∀ I : Sym.Inv Unit, LCOk I Tryd.prog 58 lcMay := by
  refine lc_mk (fun _ => allCfg Tryd.prog [] [] 0) (fun _ _ => allCfg_ok mixed trivial trivial) (fun _ => rfl) (n := 60) Tryd.func58 ?_
  intro ⟨⟨a, b⟩, _⟩ hφ
  refine kcast (B := (br (decide (a < (1 : Int))) (br (mayB a b) ((SV.v (Value.int IntKind.i64 (10 : Int)) = SV.v (Value.int IntKind.i64 (0 : Int)) ∧ True) ∧ True) ((SV.v (Value.int IntKind.i64 (10 : Int)) = SV.v (Value.int IntKind.i64 (10 : Int)) ∧ True) ∧ True)) (br (decide (a > (255 : Int))) (br (mayB a b) ((SV.v (Value.int IntKind.i64 (10 : Int)) = SV.v (Value.int IntKind.i64 (0 : Int)) ∧ True) ∧ True) ((SV.v (Value.int IntKind.i64 (10 : Int)) = SV.v (Value.int IntKind.i64 (10 : Int)) ∧ True) ∧ True)) (br (decide (b < (1 : Int))) (br (mayB a b) ((SV.v (Value.int IntKind.i64 (10 : Int)) = SV.v (Value.int IntKind.i64 (0 : Int)) ∧ True) ∧ True) ((SV.v (Value.int IntKind.i64 (10 : Int)) = SV.v (Value.int IntKind.i64 (10 : Int)) ∧ True) ∧ True)) (br (decide (b > (255 : Int))) (br (mayB a b) ((SV.v (Value.int IntKind.i64 (10 : Int)) = SV.v (Value.int IntKind.i64 (0 : Int)) ∧ True) ∧ True) ((SV.v (Value.int IntKind.i64 (10 : Int)) = SV.v (Value.int IntKind.i64 (10 : Int)) ∧ True) ∧ True)) (br (mayB a b) ((SV.v (Value.int IntKind.i64 (0 : Int)) = SV.v (Value.int IntKind.i64 (0 : Int)) ∧ True) ∧ True) ((SV.v (Value.int IntKind.i64 (0 : Int)) = SV.v (Value.int IntKind.i64 (10 : Int)) ∧ True) ∧ True))))))) (by kernel_rfl) ?_
  simp only [rq_iff, br_iff, Bool.and_eq_true, Bool.and_eq_false_iff, decide_eq_true_eq, decide_eq_false_iff_not, mayB_iff, Bool.or_eq_true, Bool.or_eq_false_iff]
  cases h : mayB a b
  · simp [br_iff]
    simp [mayB] at h
    omega
  · rw [mayB_iff] at h
    simp [br_iff]
    omega

def lcSize1 : ACon Unit := mkLC (decP (shOne (shP 0)) shG) fun (_, (oe, ⟨l, oe2, ep⟩)) => .ask (oe = oe2 ∧ GW l) (.one (.a [.v (.int .i64 l.length), .v (.int .i64 (nC l))]) (gbi 0 oe ep l) [])
def lcSize0 : ACon Unit := mkLC (decP (shOne shNilP) shHNil) fun _ => .one (.a [.v (.int .i64 0), .v (.int .i64 0)]) [] []
set_option maxHeartbeats 4000000 in
theorem ok_size1 : ∀ I : Sym.Inv Unit, LCOk I Tryd.prog 50 lcSize1 := by
  refine lc_mk (fun _ => allCfg Tryd.prog [] [] 0) (fun _ _ => allCfg_ok mixed trivial trivial) (fun _ => rfl) (n := 60) Tryd.func50 ?_
  intro ⟨_, oe, ⟨l, oe2, ep⟩⟩ hφ
  obtain ⟨⟨rfl, hg⟩, _⟩ := id hφ
  refine kcast (B := (rq (oe.beq oe) (rq (oe.beq oe && (true && decide ((0 : Int) ≤ (0 : Int) ∧ (0 : Int) < (↑(Rws.c l).len : Int)))) (rq (oe.beq oe && Nat.blt (0 : Nat) (Rws.c l).len) (rq (ep.beq ep && Nat.blt (0 : Nat) (Rws.c l).len) ((SV.a [SV.v (Value.int IntKind.i64 (↑(Rws.c l).len : Int)), SV.v (Value.int IntKind.i64 (↑((Rws.c l).nAt (0 : Nat)) : Int))] = SV.a [SV.v (Value.int IntKind.i64 (↑l.length : Int)), SV.v (Value.int IntKind.i64 (↑(nC l) : Int))] ∧ True) ∧ (SV.h (1 : Nat) [oe, (0 : Nat)] = SV.h (1 : Nat) [oe, (0 : Nat)] ∧ True) ∧ (oe = oe ∧ ep = ep ∧ l = l) ∧ True)))))) (by kernel_rfl) ?_
  have := hg.r0
  have hb : Nat.blt 0 (Rws.c l).len = true := by rw [Nat.blt_eq]; exact this
  have hl : (0 : Int) < ((Rws.c l).len : Nat) := by show (0 : Int) < (l.length : Nat); omega
  simp only [rq_iff, nbeq, hb, Bool.and_true, Bool.true_and, true_and, and_true, decide_eq_true_eq]
  exact ⟨⟨by omega, hl⟩, rfl⟩
set_option maxHeartbeats 4000000 in
theorem ok_size0 : ∀ I : Sym.Inv Unit, LCOk I Tryd.prog 50 lcSize0 := by
  refine lc_mk (fun _ => allCfg Tryd.prog [] [] 0) (fun _ _ => allCfg_ok mixed trivial trivial) (fun _ => rfl) (n := 60) Tryd.func50 ?_
  intro ⟨_, _⟩ hφ
  refine kcast (B := ((SV.a [SV.v (Value.int IntKind.i64 (0 : Int)), SV.v (Value.int IntKind.i64 (0 : Int))] = SV.a [SV.v (Value.int IntKind.i64 (0 : Int)), SV.v (Value.int IntKind.i64 (0 : Int))] ∧ True) ∧ True)) (by kernel_rfl) ?_
  exact ⟨⟨rfl, trivial⟩, trivial⟩
def lcSize : ACon Unit := lcOr lcSize1 lcSize0
theorem ok_size : ∀ I : Sym.Inv Unit, LCOk I Tryd.prog 50 lcSize := lcOr_ok ok_size1 ok_size0

/-! ### A row of the same -/
def lcMul : ACon Unit := mkLC (decP (shCons (shInt .u64) (shOne (shInt .u64))) shHNil) fun ((a, c), _) => .ask (a = 1 ∧ 0 ≤ c ∧ c ≤ 255) (.one (.t [.v (.int .u64 0), .v (.int .u64 c)]) [] [])
set_option maxHeartbeats 4000000 in
set_option maxRecDepth 100000 in
theorem ok_mul : ∀ I : Sym.Inv Unit, LCOk I Tryd.prog 83 lcMul := by
  refine lc_mk (fun _ => allCfg Tryd.prog [] [] 0) (fun _ _ => allCfg_ok mixed trivial trivial) (fun _ => rfl) (n := 80) Tryd.func83 ?_
  intro ⟨⟨a, c⟩, _⟩ hφ
  obtain ⟨⟨h0, h1, h2⟩, hp⟩ := id hφ
  refine kcast (B := ((SV.t [SV.v (Value.int IntKind.u64 (IntKind.u64.wrap (IntKind.u64.wrap (IntKind.u64.wrap (a.fdiv (4294967296 : Int) * c.fdiv (4294967296 : Int)) + (IntKind.u64.wrap (IntKind.u64.wrap (a.fdiv (4294967296 : Int) * bitsK BinOp.and IntKind.u64 c (4294967295 : Int)) + (IntKind.u64.wrap (bitsK BinOp.and IntKind.u64 a (4294967295 : Int) * bitsK BinOp.and IntKind.u64 c (4294967295 : Int))).fdiv (4294967296 : Int))).fdiv (4294967296 : Int)) + (IntKind.u64.wrap (bitsK BinOp.and IntKind.u64 (IntKind.u64.wrap (IntKind.u64.wrap (a.fdiv (4294967296 : Int) * bitsK BinOp.and IntKind.u64 c (4294967295 : Int)) + (IntKind.u64.wrap (bitsK BinOp.and IntKind.u64 a (4294967295 : Int) * bitsK BinOp.and IntKind.u64 c (4294967295 : Int))).fdiv (4294967296 : Int))) (4294967295 : Int) + IntKind.u64.wrap (bitsK BinOp.and IntKind.u64 a (4294967295 : Int) * c.fdiv (4294967296 : Int)))).fdiv (4294967296 : Int)))), SV.v (Value.int IntKind.u64 (IntKind.u64.wrap (a * c)))] = SV.t [SV.v (Value.int IntKind.u64 (0 : Int)), SV.v (Value.int IntKind.u64 c)] ∧ True) ∧ True)) (by kernel_rfl) ?_
  clear hp
  subst h0
  obtain ⟨n, rfl⟩ : ∃ n : Nat, c = n := ⟨c.toNat, by omega⟩
  have hn : n < 256 := by omega
  clear h1 h2 hφ
  simp only [SV.t.injEq, List.cons.injEq, SV.v.injEq, Value.int.injEq, true_and, and_true]
  revert n
  decide
def rp (n c : Nat) (x : C4) : List C4 := List.replicate n x ++ List.replicate (c - n) C4.no
theorem rp_length {n c : Nat} {x : C4} (h : n ≤ c) : (rp n c x).length = c := by simp [rp]; omega
theorem rp_step {n c : Nat} {x : C4} (h : n ≤ c) : List.take n (rp n c x) ++ (List.take (min n (c - n)) (List.take n (rp n c x)) ++ List.drop (n + min n (c - n)) (rp n c x)) = rp (n + min n (c - n)) c x := by
  have e1 : List.take n (rp n c x) = List.replicate n x := by simp [rp]
  have e2 : List.drop (n + min n (c - n)) (rp n c x) = List.replicate (c - (n + min n (c - n))) C4.no := by
    unfold rp
    rw [List.drop_append, List.length_replicate, List.drop_eq_nil_of_le (by simp), List.drop_replicate, List.nil_append]
    congr 1; omega
  rw [e1, e2, List.take_replicate, ← List.append_assoc, List.replicate_append_replicate]
  have e3 : min (min n (c - n)) n = min n (c - n) := by omega
  rw [e3]; rfl
theorem rp_all {c : Nat} {x : C4} : rp c c x = List.replicate c x := by simp [rp]
theorem szN_recs (l : List C4) : szN (.recs l) 4 = true := rfl
def annR (c : Nat) (x : C4) : Ann Unit where
  α := Int
  φ _ n := 1 ≤ n ∧ n ≤ c
  μ _ n := ((c : Int) - n).toNat
  get st := getI st.tm 8
  f st n := tmpl [7] [(8, .v (.int .i64 n))] [(1, .own (.recs (rp n.toNat c x)) c 40 4 0 true)] st
def lcRep : ACon Unit := mkLC (decP (shCons (shBlk 0 1) (shOne shI)) (shHOne (shCells shCL 40))) fun ((_, c), x) => .ask (1 ≤ c ∧ c ≤ 255) (.one (.h 1 [0, 0]) [.cells (recS x) 40, .own (.recs (List.replicate c.toNat x)) c.toNat 40 4 0 true] [])
set_option maxHeartbeats 4000000 in
theorem ok_rep : ∀ I : Sym.Inv Unit, LCOk I Tryd.prog 59 lcRep := by
  refine lc_mk (fun ((_, c), x) => allCfg Tryd.prog [] [(83, lcMul)] 0 [(580, annR c.toNat x)]) (fun _ _ => allCfg_ok mixed trivial ⟨ok_mul, trivial⟩) (fun _ => rfl) (n := 80) Tryd.func59 ?_
  intro ⟨⟨_, c⟩, x⟩ hφ
  obtain ⟨⟨h1, h2⟩, hp⟩ := id hφ
  refine kcast (B := (br (decide (c < (0 : Int))) False (true = true ∧ ((1 : Int) = (1 : Int) ∧ (0 : Int) ≤ IntKind.u64.wrap c ∧ IntKind.u64.wrap c ≤ (255 : Int)) ∧ br (decide (IntKind.u64.wrap c > (9223372036854775807 : Int))) False (rq (decide ((0 : Int) ≤ IntKind.i64.wrap (IntKind.u64.wrap c) ∧ IntKind.i64.wrap (IntKind.u64.wrap c) ≤ IntKind.i64.wrap (IntKind.u64.wrap c) ∧ (↑(32 : Nat) : Int) * IntKind.i64.wrap (IntKind.u64.wrap c) ≤ (281474976710656 : Int) ∧ IntKind.i64.wrap (IntKind.u64.wrap c) ≤ (9223372036854775807 : Int))) (rq (true && (true && (szN (madeC Tryd.prog (40 : Nat) (Value.agg #[Value.int IntKind.i32 (0 : Int), Value.int IntKind.i64 (0 : Int), Value.bool false, Value.int IntKind.i64 (0 : Int)]) (IntKind.i64.wrap (IntKind.u64.wrap c)).toNat (4 : Nat)) (4 : Nat) && (Nat.beq (4 : Nat) (4 : Nat) && (true && (((0 : Nat) + (IntKind.i64.wrap (IntKind.u64.wrap c)).toNat).ble (IntKind.i64.wrap (IntKind.u64.wrap c)).toNat && Nat.blt (0 : Nat) (IntKind.i64.wrap (IntKind.u64.wrap c)).toNat)))))) (((1 : Int) ≤ (↑(Nat.min (1 : Nat) (IntKind.i64.wrap (IntKind.u64.wrap c)).toNat) : Int) ∧ (↑(Nat.min (1 : Nat) (IntKind.i64.wrap (IntKind.u64.wrap c)).toNat) : Int) ≤ (↑c.toNat : Int)) ∧ ((SV.h (1 : Nat) [(0 : Nat), (0 : Nat)] = SV.h (1 : Nat) [(0 : Nat), (0 : Nat)] ∧ SV.v (Value.int IntKind.i64 (↑(Nat.min (1 : Nat) (IntKind.i64.wrap (IntKind.u64.wrap c)).toNat) : Int)) = SV.v (Value.int IntKind.i64 (↑(Nat.min (1 : Nat) (IntKind.i64.wrap (IntKind.u64.wrap c)).toNat) : Int)) ∧ True) ∧ (SV.v (Value.int IntKind.i32 x.g) = SV.v (Value.int IntKind.i32 x.g) ∧ SV.v (Value.int IntKind.i64 x.a) = SV.v (Value.int IntKind.i64 x.a) ∧ SV.v (Value.bool x.gd) = SV.v (Value.bool x.gd) ∧ SV.v (Value.int IntKind.i64 x.m) = SV.v (Value.int IntKind.i64 x.m) ∧ True) ∧ ((IntKind.i64.wrap (IntKind.u64.wrap c)).toNat = c.toNat ∧ (0 : Nat) = (0 : Nat) ∧ List.take (0 : Nat) (List.replicate (IntKind.i64.wrap (IntKind.u64.wrap c)).toNat (C4.mk (0 : Int) (0 : Int) false (0 : Int))) ++ (List.take (Nat.min (1 : Nat) (IntKind.i64.wrap (IntKind.u64.wrap c)).toNat) [C4.mk x.g x.a x.gd x.m] ++ List.drop ((0 : Nat) + Nat.min (1 : Nat) (IntKind.i64.wrap (IntKind.u64.wrap c)).toNat) (List.replicate (IntKind.i64.wrap (IntKind.u64.wrap c)).toNat (C4.mk (0 : Int) (0 : Int) false (0 : Int)))) = rp (↑(Nat.min (1 : Nat) (IntKind.i64.wrap (IntKind.u64.wrap c)).toNat) : Int).toNat c.toNat x) ∧ True) ∧ ∀ (x_1 : Int), (1 : Int) ≤ x_1 ∧ x_1 ≤ (↑c.toNat : Int) → br (decide (x_1 < (↑c.toNat : Int))) (rq (true && (Nat.beq (4 : Nat) (4 : Nat) && decide ((0 : Int) ≤ x_1 ∧ x_1 ≤ (↑c.toNat : Int) ∧ (↑c.toNat : Int) ≤ (↑c.toNat : Int)))) (rq (true && (Nat.beq (4 : Nat) (4 : Nat) && decide ((0 : Int) ≤ (0 : Int) ∧ (0 : Int) ≤ x_1 ∧ x_1 ≤ (↑c.toNat : Int)))) (rq (true && (true && (true && (szN (Cn.recs (rp x_1.toNat c.toNat x)) (4 : Nat) && (((0 : Nat) + (x_1.toNat - (0 : Nat))).ble c.toNat && Nat.blt (0 : Nat) c.toNat))) && (szN (Cn.recs (rp x_1.toNat c.toNat x)) (4 : Nat) && (Nat.beq (4 : Nat) (4 : Nat) && (true && ((x_1.toNat + ((↑c.toNat : Int).toNat - x_1.toNat)).ble c.toNat && Nat.blt (0 : Nat) c.toNat)))))) (((1 : Int) ≤ IntKind.i64.wrap (x_1 + (↑((x_1.toNat - (0 : Nat)).min ((↑c.toNat : Int).toNat - x_1.toNat)) : Int)) ∧ IntKind.i64.wrap (x_1 + (↑((x_1.toNat - (0 : Nat)).min ((↑c.toNat : Int).toNat - x_1.toNat)) : Int)) ≤ (↑c.toNat : Int)) ∧ ((SV.h (1 : Nat) [(0 : Nat), (0 : Nat)] = SV.h (1 : Nat) [(0 : Nat), (0 : Nat)] ∧ SV.v (Value.int IntKind.i64 (IntKind.i64.wrap (x_1 + (↑((x_1.toNat - (0 : Nat)).min ((↑c.toNat : Int).toNat - x_1.toNat)) : Int)))) = SV.v (Value.int IntKind.i64 (IntKind.i64.wrap (x_1 + (↑((x_1.toNat - (0 : Nat)).min ((↑c.toNat : Int).toNat - x_1.toNat)) : Int)))) ∧ True) ∧ (SV.v (Value.int IntKind.i32 x.g) = SV.v (Value.int IntKind.i32 x.g) ∧ SV.v (Value.int IntKind.i64 x.a) = SV.v (Value.int IntKind.i64 x.a) ∧ SV.v (Value.bool x.gd) = SV.v (Value.bool x.gd) ∧ SV.v (Value.int IntKind.i64 x.m) = SV.v (Value.int IntKind.i64 x.m) ∧ True) ∧ (c.toNat = c.toNat ∧ (0 : Nat) = (0 : Nat) ∧ List.take x_1.toNat (rp x_1.toNat c.toNat x) ++ (List.take ((x_1.toNat - (0 : Nat)).min ((↑c.toNat : Int).toNat - x_1.toNat)) (List.take (x_1.toNat - (0 : Nat)) (List.drop (0 : Nat) (rp x_1.toNat c.toNat x))) ++ List.drop (x_1.toNat + (x_1.toNat - (0 : Nat)).min ((↑c.toNat : Int).toNat - x_1.toNat)) (rp x_1.toNat c.toNat x)) = rp (IntKind.i64.wrap (x_1 + (↑((x_1.toNat - (0 : Nat)).min ((↑c.toNat : Int).toNat - x_1.toNat)) : Int))).toNat c.toNat x) ∧ True) ∧ ((↑c.toNat : Int) - IntKind.i64.wrap (x_1 + (↑((x_1.toNat - (0 : Nat)).min ((↑c.toNat : Int).toNat - x_1.toNat)) : Int))).toNat < ((↑c.toNat : Int) - x_1).toNat)))) ((SV.h (1 : Nat) [(0 : Nat), (0 : Nat)] = SV.h (1 : Nat) [(0 : Nat), (0 : Nat)] ∧ True) ∧ (SV.v (Value.int IntKind.i32 x.g) = SV.v (Value.int IntKind.i32 x.g) ∧ SV.v (Value.int IntKind.i64 x.a) = SV.v (Value.int IntKind.i64 x.a) ∧ SV.v (Value.bool x.gd) = SV.v (Value.bool x.gd) ∧ SV.v (Value.int IntKind.i64 x.m) = SV.v (Value.int IntKind.i64 x.m) ∧ True) ∧ (c.toNat = c.toNat ∧ (0 : Nat) = (0 : Nat) ∧ rp x_1.toNat c.toNat x = List.replicate c.toNat x) ∧ True))))))) (by kernel_rfl) ?_
  clear hp hφ
  obtain ⟨m, rfl⟩ : ∃ m : Nat, c = m := ⟨c.toNat, by omega⟩
  have hu : IntKind.u64.wrap (m : Int) = m := IntWalk.u64_in _ (by omega)
  have hi : IntKind.i64.wrap (m : Int) = m := wrap64 (by omega) (by omega)
  have hm : ∀ k, szN (madeC Tryd.prog 40 (Value.agg #[Value.int IntKind.i32 0, Value.int IntKind.i64 0, Value.bool false, Value.int IntKind.i64 0]) k 4) 4 = true := fun _ => rfl
  have hm1 : Nat.min 1 m = 1 := by show min 1 m = 1; omega
  simp only [hu, hi, hm, szN_recs, hm1, Int.toNat_natCast, rq_iff, br_iff, nbeq, Bool.true_and, Bool.and_true, true_and, and_true, Bool.and_eq_true, Nat.ble_eq, Nat.blt_eq, decide_eq_true_eq, decide_eq_false_iff_not, Nat.sub_zero, Nat.zero_add, Nat.mul_one, List.drop_zero]
  refine ⟨fun h => by omega, fun _ => ⟨by omega, fun h => by omega, fun _ => ⟨by omega, by omega, by omega, ?_, fun n ⟨hn0, hn1⟩ => ⟨fun hlt => ?_, fun hge => ?_⟩⟩⟩⟩
  · obtain ⟨k, rfl⟩ : ∃ k, m = k + 1 := ⟨m - 1, by omega⟩
    simp [rp, C4.no, List.replicate_succ]
  · obtain ⟨k, rfl⟩ : ∃ k : Nat, n = k := ⟨n.toNat, by omega⟩
    simp only [Int.toNat_natCast]
    have hw : IntKind.i64.wrap ((k : Int) + ((Nat.min k (m - k) : Nat) : Int)) = ((k + min k (m - k) : Nat) : Int) := by
      rw [wrap64 (by omega) (by have : Nat.min k (m - k) ≤ m := by (show min k (m - k) ≤ m); omega
                                omega)]
      rfl
    rw [hw]
    simp only [Int.toNat_natCast]
    have hstep := rp_step (n := k) (c := m) (x := x) (by omega)
    have hmin : min k (m - k) ≤ m - k := Nat.min_le_right _ _
    have hmin1 : 1 ≤ min k (m - k) := by omega
    exact ⟨by omega, by omega, ⟨by omega, by omega, by omega⟩, ⟨by omega, by omega⟩, hstep, by omega⟩
  · obtain rfl : n = m := by omega
    exact rp_all

/-! ### A new grid -/
def oeN (k : Nat) : Nat := match k with
  | 0 => 0
  | n + 1 => n + 2
def annN (a c : Nat) (x : C4) : Ann Unit where
  α := Int
  φ _ k := 0 ≤ k ∧ k ≤ a
  μ _ k := ((a : Int) - k).toNat
  get st := getI st.tm 17
  f st k := tmpl [1, 2, 3, 7, 16] [(17, .v (.int .i64 k))] [(2, .cells [.h 3 [oeN k.toNat, 0]] 106), (3, .rows (.c (List.replicate k.toNat (List.replicate c x))) 40 47 (oeN k.toNat) (k.toNat + 1) none)] st
  fx st := match getC st.H 2 with
    | [x] => match nilS x with
      | true => [.nilCell 2 0 (.sv []) 47 1, .asRows 3 none 40]
      | false => []
    | _ => []
def tabA : List (Nat × ACon Unit) := [(58, lcMay), (50, lcSize), (59, lcRep)]
theorem tabA_ok : LCs Tryd.prog tabA := ⟨ok_may, ok_size, ok_rep, trivial⟩
def newL (a b : Nat) (x : C4) : List (List C4) := List.replicate a (List.replicate b x)
def lcNew : ACon Unit := mkLC (decP (shCons shI2 (shOne shC)) shHNil) fun (((a, b), x), _) =>
  .br (mayB a b) (.one (.t [.p 2 0, .v (.int .i64 0)]) (.gone :: .gone :: gbi 2 (a.toNat + 1) (a.toNat + 1) (newL a.toNat b.toNat x)) []) (.one (.t [.v (.pointer none), .v (.int .i64 10)]) [.gone, .gone] [])
set_option maxHeartbeats 4000000 in
theorem ok_new : ∀ I : Sym.Inv Unit, LCOk I Tryd.prog 36 lcNew := by
  refine lc_mk (fun (((a, b), x), _) => allCfg Tryd.prog [] tabA 0 [(449, annN a.toNat b.toNat x)]) (fun _ _ => allCfg_ok mixed trivial tabA_ok) (fun _ => rfl) (n := 80) Tryd.func36 ?_
  intro ⟨⟨⟨a, b⟩, x⟩, _⟩ hφ
  refine kcast (B := (true = true ∧ br (mayB a b) (Nils [] (0 : Nat) ∧ (II (0 : Int) ≤ (0 : Int) ∧ (0 : Int) ≤ (↑a.toNat : Int)) ∧ ((SV.a [SV.v (Value.int IntKind.i32 x.g), SV.v (Value.int IntKind.i64 x.a), SV.v (Value.bool x.gd), SV.v (Value.int IntKind.i64 x.m)] = SV.a [SV.v (Value.int IntKind.i32 x.g), SV.v (Value.int IntKind.i64 x.a), SV.v (Value.bool x.gd), SV.v (Value.int IntKind.i64 x.m)] ∧ SV.p (0 : Nat) (0 : Nat) = SV.p (0 : Nat) (0 : Nat) ∧ SV.p (1 : Nat) (0 : Nat) = SV.p (1 : Nat) (0 : Nat) ∧ SV.p (2 : Nat) (0 : Nat) = SV.p (2 : Nat) (0 : Nat) ∧ SV.v (Value.int IntKind.i64 a) = SV.v (Value.int IntKind.i64 a) ∧ SV.v (Value.int IntKind.i64 (0 : Int)) = SV.v (Value.int IntKind.i64 (0 : Int)) ∧ True) ∧ (SV.v (Value.int IntKind.i64 a) = SV.v (Value.int IntKind.i64 a) ∧ SV.v (Value.int IntKind.i64 b) = SV.v (Value.int IntKind.i64 b) ∧ True) ∧ (SV.v (Value.int IntKind.i32 x.g) = SV.v (Value.int IntKind.i32 x.g) ∧ SV.v (Value.int IntKind.i64 x.a) = SV.v (Value.int IntKind.i64 x.a) ∧ SV.v (Value.bool x.gd) = SV.v (Value.bool x.gd) ∧ SV.v (Value.int IntKind.i64 x.m) = SV.v (Value.int IntKind.i64 x.m) ∧ True) ∧ (SV.h (3 : Nat) [(0 : Nat), (0 : Nat)] = SV.h (3 : Nat) [(0 : Nat), (0 : Nat)] ∧ True) ∧ ((0 : Nat) = (0 : Nat) ∧ (1 : Nat) = (1 : Nat) ∧ LLC [] = []) ∧ True) ∧ ∀ (x_1 : Int), (0 : Int) ≤ x_1 ∧ x_1 ≤ (↑a.toNat : Int) → br (decide (x_1 < a)) (true = true ∧ ((1 : Int) ≤ b ∧ b ≤ (255 : Int)) ∧ rq (true && ((oeN x_1.toNat).beq (oeN x_1.toNat) && (true && decide ((Rws.c (List.replicate x_1.toNat (List.replicate b.toNat x))).len + (1 : Nat) ≤ (9223372036854775807 : Nat) ∧ ((Rws.c (List.replicate x_1.toNat (List.replicate b.toNat x))).len + (1 : Nat)) * (24 : Nat) ≤ (140737488355328 : Nat))))) (((0 : Int) ≤ IntKind.i64.wrap (x_1 + (1 : Int)) ∧ IntKind.i64.wrap (x_1 + (1 : Int)) ≤ (↑a.toNat : Int)) ∧ ((SV.a [SV.v (Value.int IntKind.i32 x.g), SV.v (Value.int IntKind.i64 x.a), SV.v (Value.bool x.gd), SV.v (Value.int IntKind.i64 x.m)] = SV.a [SV.v (Value.int IntKind.i32 x.g), SV.v (Value.int IntKind.i64 x.a), SV.v (Value.bool x.gd), SV.v (Value.int IntKind.i64 x.m)] ∧ SV.p (0 : Nat) (0 : Nat) = SV.p (0 : Nat) (0 : Nat) ∧ SV.p (1 : Nat) (0 : Nat) = SV.p (1 : Nat) (0 : Nat) ∧ SV.p (2 : Nat) (0 : Nat) = SV.p (2 : Nat) (0 : Nat) ∧ SV.v (Value.int IntKind.i64 a) = SV.v (Value.int IntKind.i64 a) ∧ SV.v (Value.int IntKind.i64 (IntKind.i64.wrap (x_1 + (1 : Int)))) = SV.v (Value.int IntKind.i64 (IntKind.i64.wrap (x_1 + (1 : Int)))) ∧ True) ∧ (SV.v (Value.int IntKind.i64 a) = SV.v (Value.int IntKind.i64 a) ∧ SV.v (Value.int IntKind.i64 b) = SV.v (Value.int IntKind.i64 b) ∧ True) ∧ (SV.v (Value.int IntKind.i32 x.g) = SV.v (Value.int IntKind.i32 x.g) ∧ SV.v (Value.int IntKind.i64 x.a) = SV.v (Value.int IntKind.i64 x.a) ∧ SV.v (Value.bool x.gd) = SV.v (Value.bool x.gd) ∧ SV.v (Value.int IntKind.i64 x.m) = SV.v (Value.int IntKind.i64 x.m) ∧ True) ∧ (SV.h (3 : Nat) [x_1.toNat + (1 : Nat) + (1 : Nat), (0 : Nat)] = SV.h (3 : Nat) [oeN (IntKind.i64.wrap (x_1 + (1 : Int))).toNat, (0 : Nat)] ∧ True) ∧ (x_1.toNat + (1 : Nat) + (1 : Nat) = oeN (IntKind.i64.wrap (x_1 + (1 : Int))).toNat ∧ x_1.toNat + (1 : Nat) + (1 : Nat) = (IntKind.i64.wrap (x_1 + (1 : Int))).toNat + (1 : Nat) ∧ List.replicate x_1.toNat (List.replicate b.toNat x) ++ [List.replicate b.toNat (C4.mk x.g x.a x.gd x.m)] = List.replicate (IntKind.i64.wrap (x_1 + (1 : Int))).toNat (List.replicate b.toNat x)) ∧ True) ∧ ((↑a.toNat : Int) - IntKind.i64.wrap (x_1 + (1 : Int))).toNat < ((↑a.toNat : Int) - x_1).toNat)) (br (mayB a b) ((SV.t [SV.p (2 : Nat) (0 : Nat), SV.v (Value.int IntKind.i64 (0 : Int))] = SV.t [SV.p (2 : Nat) (0 : Nat), SV.v (Value.int IntKind.i64 (0 : Int))] ∧ True) ∧ True ∧ True ∧ (SV.h (3 : Nat) [oeN x_1.toNat, (0 : Nat)] = SV.h (3 : Nat) [a.toNat + (1 : Nat), (0 : Nat)] ∧ True) ∧ (oeN x_1.toNat = a.toNat + (1 : Nat) ∧ x_1.toNat + (1 : Nat) = a.toNat + (1 : Nat) ∧ List.replicate x_1.toNat (List.replicate b.toNat x) = newL a.toNat b.toNat x) ∧ True) ((SV.t [SV.p (2 : Nat) (0 : Nat), SV.v (Value.int IntKind.i64 (0 : Int))] = SV.t [SV.v (Value.pointer none), SV.v (Value.int IntKind.i64 (10 : Int))] ∧ True) ∧ True ∧ True ∧ True))) (br (mayB a b) ((SV.t [SV.v (Value.pointer none), SV.v (Value.int IntKind.i64 (10 : Int))] = SV.t [SV.p (2 : Nat) (0 : Nat), SV.v (Value.int IntKind.i64 (0 : Int))] ∧ True) ∧ True ∧ True ∧ False) ((SV.t [SV.v (Value.pointer none), SV.v (Value.int IntKind.i64 (10 : Int))] = SV.t [SV.v (Value.pointer none), SV.v (Value.int IntKind.i64 (10 : Int))] ∧ True) ∧ True ∧ True ∧ True)))) (by kernel_rfl) ?_
  refine ⟨rfl, ?_⟩
  cases h : mayB a b
  · exact ⟨⟨rfl, trivial⟩, trivial, trivial, trivial⟩
  · rw [mayB_iff] at h
    have hlen : ∀ n, (Rws.c (List.replicate n (List.replicate b.toNat x))).len = n := fun n => by simp [Rws.len]
    simp only [br_iff, rq_iff, nbeq, hlen, true_implies, false_implies, reduceCtorEq, true_and, and_true, Bool.true_and, Bool.and_true, decide_eq_true_eq, decide_eq_false_iff_not, Bool.true_eq_false, II]
    refine ⟨⟨rfl⟩, by omega, fun k ⟨hk0, hk1⟩ => ⟨fun hlt => ?_, fun hge => ?_⟩⟩
    · rw [wrap64 (x := k + 1) (by omega) (by omega)]
      have e : (k + 1).toNat = k.toNat + 1 := by omega
      rw [e]
      refine ⟨⟨by omega, by omega⟩, ⟨by omega, by omega⟩, ⟨by omega, by omega⟩, ⟨rfl, rfl, rfl, ?_⟩, by omega⟩
      show LLC _ = _
      rw [List.replicate_succ']
    · obtain rfl : k = a := by omega
      obtain ⟨n, rfl⟩ : ∃ n : Nat, k = ((n + 1 : Nat) : Int) := ⟨k.toNat - 1, by omega⟩
      exact ⟨rfl, rfl, rfl, rfl⟩

/-! ### What is there -/
def inB (l : List (List C4)) (r c : Int) : Bool := decide (0 ≤ r) && (decide (r < l.length) && (decide (0 ≤ c) && decide (c < nC l)))
theorem inB_iff {l : List (List C4)} {r c : Int} : inB l r c = true ↔ 0 ≤ r ∧ r < l.length ∧ 0 ≤ c ∧ c < nC l := by simp [inB]
abbrev shPos : ShB (Int × Int) := shCells (shCons shI (shOne shI)) 36
abbrev shPos2 : ShB (Int × Int × Int × Int) := shCells (shCons shI (shCons shI (shCons shI (shOne shI)))) 36
def posC (r c : Int) : SB Unit := .cells [.v (.int .i64 r), .v (.int .i64 c)] 36
def posC2 (r c r2 c2 : Int) : SB Unit := .cells [.v (.int .i64 r), .v (.int .i64 c), .v (.int .i64 r2), .v (.int .i64 c2)] 36
def shGP : ShH (GB × Int × Int) where
  enc a := shG.enc a.1 ++ [shPos.enc a.2]
  dec x := match x with
    | [p, q, r] => match shG.dec [p, q] with
      | some a => match shPos.dec r with
        | some b => some (a, b)
        | none => none
      | none => none
    | _ => none
  ok x a h := by
    split at h
    · split at h
      · rename_i h1
        split at h
        · rename_i h2
          simp only [Option.some.injEq] at h
          subst h
          rw [← shG.ok _ _ h1, shPos.ok _ _ h2]; rfl
        · cases h
      · cases h
    · cases h
def shGP2 : ShH (GB × Int × Int × Int × Int) where
  enc a := shG.enc a.1 ++ [shPos2.enc a.2]
  dec x := match x with
    | [p, q, r] => match shG.dec [p, q] with
      | some a => match shPos2.dec r with
        | some b => some (a, b)
        | none => none
      | none => none
    | _ => none
  ok x a h := by
    split at h
    · split at h
      · rename_i h1
        split at h
        · rename_i h2
          simp only [Option.some.injEq] at h
          subst h
          rw [← shG.ok _ _ h1, shPos2.ok _ _ h2]; rfl
        · cases h
      · cases h
    · cases h
def lcThere1 : ACon Unit := mkLC (decP (shCons (shP 0) (shOne (shBlk 2 1))) shGP) fun (_, ((oe, ⟨l, oe2, ep⟩), r, c)) => .ask (oe = oe2 ∧ GW l) (.br (inB l r c) (.one (.v (.int .i64 0)) (gbi 0 oe ep l ++ [posC r c]) []) (.one (.v (.int .i64 11)) (gbi 0 oe ep l ++ [posC r c]) []))
def lcThere2 : ACon Unit := mkLC (decP (shCons (shP 0) (shOne (shBlk 2 2))) shGP2) fun (_, ((oe, ⟨l, oe2, ep⟩), r, c, r2, c2)) => .ask (oe = oe2 ∧ GW l) (.br (inB l r c && inB l r2 c2) (.one (.v (.int .i64 0)) (gbi 0 oe ep l ++ [posC2 r c r2 c2]) []) (.one (.v (.int .i64 11)) (gbi 0 oe ep l ++ [posC2 r c r2 c2]) []))
def lcThereN1 : ACon Unit := mkLC (decP (shCons shNilP (shOne (shBlk 0 1))) (shHOne shPos)) fun (_, (r, c)) => .one (.v (.int .i64 2)) [posC r c] []
def lcThereN2 : ACon Unit := mkLC (decP (shCons shNilP (shOne (shBlk 0 2))) (shHOne shPos2)) fun (_, (r, c, r2, c2)) => .one (.v (.int .i64 2)) [posC2 r c r2 c2] []
set_option maxHeartbeats 4000000 in
theorem ok_there1 : ∀ I : Sym.Inv Unit, LCOk I Tryd.prog 49 lcThere1 := by
  refine lc_mk (fun _ => allCfg Tryd.prog [] tabA 3) (fun _ _ => allCfg_ok mixed trivial tabA_ok) (fun _ => rfl) (n := 80) Tryd.func49 ?_
  intro ⟨_, ⟨oe, ⟨l, oe2, ep⟩⟩, r, c⟩ hφ
  obtain ⟨⟨rfl, hg⟩, hp⟩ := id hφ
  refine kcast (B := (true = true ∧ (oe = oe ∧ GW l) ∧ br (decide (r < (0 : Int))) (br (inB l r c) ((SV.v (Value.int IntKind.i64 (11 : Int)) = SV.v (Value.int IntKind.i64 (0 : Int)) ∧ True) ∧ (SV.h (1 : Nat) [oe, (0 : Nat)] = SV.h (1 : Nat) [oe, (0 : Nat)] ∧ True) ∧ (oe = oe ∧ ep = ep ∧ l = l) ∧ (SV.v (Value.int IntKind.i64 r) = SV.v (Value.int IntKind.i64 r) ∧ SV.v (Value.int IntKind.i64 c) = SV.v (Value.int IntKind.i64 c) ∧ True) ∧ True) ((SV.v (Value.int IntKind.i64 (11 : Int)) = SV.v (Value.int IntKind.i64 (11 : Int)) ∧ True) ∧ (SV.h (1 : Nat) [oe, (0 : Nat)] = SV.h (1 : Nat) [oe, (0 : Nat)] ∧ True) ∧ (oe = oe ∧ ep = ep ∧ l = l) ∧ (SV.v (Value.int IntKind.i64 r) = SV.v (Value.int IntKind.i64 r) ∧ SV.v (Value.int IntKind.i64 c) = SV.v (Value.int IntKind.i64 c) ∧ True) ∧ True)) (br (decide (r ≥ (↑l.length : Int))) (br (inB l r c) ((SV.v (Value.int IntKind.i64 (11 : Int)) = SV.v (Value.int IntKind.i64 (0 : Int)) ∧ True) ∧ (SV.h (1 : Nat) [oe, (0 : Nat)] = SV.h (1 : Nat) [oe, (0 : Nat)] ∧ True) ∧ (oe = oe ∧ ep = ep ∧ l = l) ∧ (SV.v (Value.int IntKind.i64 r) = SV.v (Value.int IntKind.i64 r) ∧ SV.v (Value.int IntKind.i64 c) = SV.v (Value.int IntKind.i64 c) ∧ True) ∧ True) ((SV.v (Value.int IntKind.i64 (11 : Int)) = SV.v (Value.int IntKind.i64 (11 : Int)) ∧ True) ∧ (SV.h (1 : Nat) [oe, (0 : Nat)] = SV.h (1 : Nat) [oe, (0 : Nat)] ∧ True) ∧ (oe = oe ∧ ep = ep ∧ l = l) ∧ (SV.v (Value.int IntKind.i64 r) = SV.v (Value.int IntKind.i64 r) ∧ SV.v (Value.int IntKind.i64 c) = SV.v (Value.int IntKind.i64 c) ∧ True) ∧ True)) (br (decide (c < (0 : Int))) (br (inB l r c) ((SV.v (Value.int IntKind.i64 (11 : Int)) = SV.v (Value.int IntKind.i64 (0 : Int)) ∧ True) ∧ (SV.h (1 : Nat) [oe, (0 : Nat)] = SV.h (1 : Nat) [oe, (0 : Nat)] ∧ True) ∧ (oe = oe ∧ ep = ep ∧ l = l) ∧ (SV.v (Value.int IntKind.i64 r) = SV.v (Value.int IntKind.i64 r) ∧ SV.v (Value.int IntKind.i64 c) = SV.v (Value.int IntKind.i64 c) ∧ True) ∧ True) ((SV.v (Value.int IntKind.i64 (11 : Int)) = SV.v (Value.int IntKind.i64 (11 : Int)) ∧ True) ∧ (SV.h (1 : Nat) [oe, (0 : Nat)] = SV.h (1 : Nat) [oe, (0 : Nat)] ∧ True) ∧ (oe = oe ∧ ep = ep ∧ l = l) ∧ (SV.v (Value.int IntKind.i64 r) = SV.v (Value.int IntKind.i64 r) ∧ SV.v (Value.int IntKind.i64 c) = SV.v (Value.int IntKind.i64 c) ∧ True) ∧ True)) (br (decide (c ≥ (↑(nC l) : Int))) (br (inB l r c) ((SV.v (Value.int IntKind.i64 (11 : Int)) = SV.v (Value.int IntKind.i64 (0 : Int)) ∧ True) ∧ (SV.h (1 : Nat) [oe, (0 : Nat)] = SV.h (1 : Nat) [oe, (0 : Nat)] ∧ True) ∧ (oe = oe ∧ ep = ep ∧ l = l) ∧ (SV.v (Value.int IntKind.i64 r) = SV.v (Value.int IntKind.i64 r) ∧ SV.v (Value.int IntKind.i64 c) = SV.v (Value.int IntKind.i64 c) ∧ True) ∧ True) ((SV.v (Value.int IntKind.i64 (11 : Int)) = SV.v (Value.int IntKind.i64 (11 : Int)) ∧ True) ∧ (SV.h (1 : Nat) [oe, (0 : Nat)] = SV.h (1 : Nat) [oe, (0 : Nat)] ∧ True) ∧ (oe = oe ∧ ep = ep ∧ l = l) ∧ (SV.v (Value.int IntKind.i64 r) = SV.v (Value.int IntKind.i64 r) ∧ SV.v (Value.int IntKind.i64 c) = SV.v (Value.int IntKind.i64 c) ∧ True) ∧ True)) (br (inB l r c) ((SV.v (Value.int IntKind.i64 (0 : Int)) = SV.v (Value.int IntKind.i64 (0 : Int)) ∧ True) ∧ (SV.h (1 : Nat) [oe, (0 : Nat)] = SV.h (1 : Nat) [oe, (0 : Nat)] ∧ True) ∧ (oe = oe ∧ ep = ep ∧ l = l) ∧ (SV.v (Value.int IntKind.i64 r) = SV.v (Value.int IntKind.i64 r) ∧ SV.v (Value.int IntKind.i64 c) = SV.v (Value.int IntKind.i64 c) ∧ True) ∧ True) ((SV.v (Value.int IntKind.i64 (0 : Int)) = SV.v (Value.int IntKind.i64 (11 : Int)) ∧ True) ∧ (SV.h (1 : Nat) [oe, (0 : Nat)] = SV.h (1 : Nat) [oe, (0 : Nat)] ∧ True) ∧ (oe = oe ∧ ep = ep ∧ l = l) ∧ (SV.v (Value.int IntKind.i64 r) = SV.v (Value.int IntKind.i64 r) ∧ SV.v (Value.int IntKind.i64 c) = SV.v (Value.int IntKind.i64 c) ∧ True) ∧ True))))))) (by kernel_rfl) ?_
  refine ⟨rfl, ⟨rfl, hg⟩, ?_⟩
  clear hp hφ
  cases h : inB l r c
  · simp [br_iff]; simp [inB] at h; omega
  · rw [inB_iff] at h; simp [br_iff]; omega
set_option maxHeartbeats 4000000 in
theorem ok_there2 : ∀ I : Sym.Inv Unit, LCOk I Tryd.prog 49 lcThere2 := by
  refine lc_mk (fun _ => allCfg Tryd.prog [] tabA 3) (fun _ _ => allCfg_ok mixed trivial tabA_ok) (fun _ => rfl) (n := 80) Tryd.func49 ?_
  intro ⟨_, ⟨oe, ⟨l, oe2, ep⟩⟩, r, c, r2, c2⟩ hφ
  obtain ⟨⟨rfl, hg⟩, hp⟩ := id hφ
  refine kcast (B := (true = true ∧ (oe = oe ∧ GW l) ∧ br (decide (r < (0 : Int))) (br (inB l r c && inB l r2 c2) ((SV.v (Value.int IntKind.i64 (11 : Int)) = SV.v (Value.int IntKind.i64 (0 : Int)) ∧ True) ∧ (SV.h (1 : Nat) [oe, (0 : Nat)] = SV.h (1 : Nat) [oe, (0 : Nat)] ∧ True) ∧ (oe = oe ∧ ep = ep ∧ l = l) ∧ (SV.v (Value.int IntKind.i64 r) = SV.v (Value.int IntKind.i64 r) ∧ SV.v (Value.int IntKind.i64 c) = SV.v (Value.int IntKind.i64 c) ∧ SV.v (Value.int IntKind.i64 r2) = SV.v (Value.int IntKind.i64 r2) ∧ SV.v (Value.int IntKind.i64 c2) = SV.v (Value.int IntKind.i64 c2) ∧ True) ∧ True) ((SV.v (Value.int IntKind.i64 (11 : Int)) = SV.v (Value.int IntKind.i64 (11 : Int)) ∧ True) ∧ (SV.h (1 : Nat) [oe, (0 : Nat)] = SV.h (1 : Nat) [oe, (0 : Nat)] ∧ True) ∧ (oe = oe ∧ ep = ep ∧ l = l) ∧ (SV.v (Value.int IntKind.i64 r) = SV.v (Value.int IntKind.i64 r) ∧ SV.v (Value.int IntKind.i64 c) = SV.v (Value.int IntKind.i64 c) ∧ SV.v (Value.int IntKind.i64 r2) = SV.v (Value.int IntKind.i64 r2) ∧ SV.v (Value.int IntKind.i64 c2) = SV.v (Value.int IntKind.i64 c2) ∧ True) ∧ True)) (br (decide (r ≥ (↑l.length : Int))) (br (inB l r c && inB l r2 c2) ((SV.v (Value.int IntKind.i64 (11 : Int)) = SV.v (Value.int IntKind.i64 (0 : Int)) ∧ True) ∧ (SV.h (1 : Nat) [oe, (0 : Nat)] = SV.h (1 : Nat) [oe, (0 : Nat)] ∧ True) ∧ (oe = oe ∧ ep = ep ∧ l = l) ∧ (SV.v (Value.int IntKind.i64 r) = SV.v (Value.int IntKind.i64 r) ∧ SV.v (Value.int IntKind.i64 c) = SV.v (Value.int IntKind.i64 c) ∧ SV.v (Value.int IntKind.i64 r2) = SV.v (Value.int IntKind.i64 r2) ∧ SV.v (Value.int IntKind.i64 c2) = SV.v (Value.int IntKind.i64 c2) ∧ True) ∧ True) ((SV.v (Value.int IntKind.i64 (11 : Int)) = SV.v (Value.int IntKind.i64 (11 : Int)) ∧ True) ∧ (SV.h (1 : Nat) [oe, (0 : Nat)] = SV.h (1 : Nat) [oe, (0 : Nat)] ∧ True) ∧ (oe = oe ∧ ep = ep ∧ l = l) ∧ (SV.v (Value.int IntKind.i64 r) = SV.v (Value.int IntKind.i64 r) ∧ SV.v (Value.int IntKind.i64 c) = SV.v (Value.int IntKind.i64 c) ∧ SV.v (Value.int IntKind.i64 r2) = SV.v (Value.int IntKind.i64 r2) ∧ SV.v (Value.int IntKind.i64 c2) = SV.v (Value.int IntKind.i64 c2) ∧ True) ∧ True)) (br (decide (c < (0 : Int))) (br (inB l r c && inB l r2 c2) ((SV.v (Value.int IntKind.i64 (11 : Int)) = SV.v (Value.int IntKind.i64 (0 : Int)) ∧ True) ∧ (SV.h (1 : Nat) [oe, (0 : Nat)] = SV.h (1 : Nat) [oe, (0 : Nat)] ∧ True) ∧ (oe = oe ∧ ep = ep ∧ l = l) ∧ (SV.v (Value.int IntKind.i64 r) = SV.v (Value.int IntKind.i64 r) ∧ SV.v (Value.int IntKind.i64 c) = SV.v (Value.int IntKind.i64 c) ∧ SV.v (Value.int IntKind.i64 r2) = SV.v (Value.int IntKind.i64 r2) ∧ SV.v (Value.int IntKind.i64 c2) = SV.v (Value.int IntKind.i64 c2) ∧ True) ∧ True) ((SV.v (Value.int IntKind.i64 (11 : Int)) = SV.v (Value.int IntKind.i64 (11 : Int)) ∧ True) ∧ (SV.h (1 : Nat) [oe, (0 : Nat)] = SV.h (1 : Nat) [oe, (0 : Nat)] ∧ True) ∧ (oe = oe ∧ ep = ep ∧ l = l) ∧ (SV.v (Value.int IntKind.i64 r) = SV.v (Value.int IntKind.i64 r) ∧ SV.v (Value.int IntKind.i64 c) = SV.v (Value.int IntKind.i64 c) ∧ SV.v (Value.int IntKind.i64 r2) = SV.v (Value.int IntKind.i64 r2) ∧ SV.v (Value.int IntKind.i64 c2) = SV.v (Value.int IntKind.i64 c2) ∧ True) ∧ True)) (br (decide (c ≥ (↑(nC l) : Int))) (br (inB l r c && inB l r2 c2) ((SV.v (Value.int IntKind.i64 (11 : Int)) = SV.v (Value.int IntKind.i64 (0 : Int)) ∧ True) ∧ (SV.h (1 : Nat) [oe, (0 : Nat)] = SV.h (1 : Nat) [oe, (0 : Nat)] ∧ True) ∧ (oe = oe ∧ ep = ep ∧ l = l) ∧ (SV.v (Value.int IntKind.i64 r) = SV.v (Value.int IntKind.i64 r) ∧ SV.v (Value.int IntKind.i64 c) = SV.v (Value.int IntKind.i64 c) ∧ SV.v (Value.int IntKind.i64 r2) = SV.v (Value.int IntKind.i64 r2) ∧ SV.v (Value.int IntKind.i64 c2) = SV.v (Value.int IntKind.i64 c2) ∧ True) ∧ True) ((SV.v (Value.int IntKind.i64 (11 : Int)) = SV.v (Value.int IntKind.i64 (11 : Int)) ∧ True) ∧ (SV.h (1 : Nat) [oe, (0 : Nat)] = SV.h (1 : Nat) [oe, (0 : Nat)] ∧ True) ∧ (oe = oe ∧ ep = ep ∧ l = l) ∧ (SV.v (Value.int IntKind.i64 r) = SV.v (Value.int IntKind.i64 r) ∧ SV.v (Value.int IntKind.i64 c) = SV.v (Value.int IntKind.i64 c) ∧ SV.v (Value.int IntKind.i64 r2) = SV.v (Value.int IntKind.i64 r2) ∧ SV.v (Value.int IntKind.i64 c2) = SV.v (Value.int IntKind.i64 c2) ∧ True) ∧ True)) (br (decide (r2 < (0 : Int))) (br (inB l r c && inB l r2 c2) ((SV.v (Value.int IntKind.i64 (11 : Int)) = SV.v (Value.int IntKind.i64 (0 : Int)) ∧ True) ∧ (SV.h (1 : Nat) [oe, (0 : Nat)] = SV.h (1 : Nat) [oe, (0 : Nat)] ∧ True) ∧ (oe = oe ∧ ep = ep ∧ l = l) ∧ (SV.v (Value.int IntKind.i64 r) = SV.v (Value.int IntKind.i64 r) ∧ SV.v (Value.int IntKind.i64 c) = SV.v (Value.int IntKind.i64 c) ∧ SV.v (Value.int IntKind.i64 r2) = SV.v (Value.int IntKind.i64 r2) ∧ SV.v (Value.int IntKind.i64 c2) = SV.v (Value.int IntKind.i64 c2) ∧ True) ∧ True) ((SV.v (Value.int IntKind.i64 (11 : Int)) = SV.v (Value.int IntKind.i64 (11 : Int)) ∧ True) ∧ (SV.h (1 : Nat) [oe, (0 : Nat)] = SV.h (1 : Nat) [oe, (0 : Nat)] ∧ True) ∧ (oe = oe ∧ ep = ep ∧ l = l) ∧ (SV.v (Value.int IntKind.i64 r) = SV.v (Value.int IntKind.i64 r) ∧ SV.v (Value.int IntKind.i64 c) = SV.v (Value.int IntKind.i64 c) ∧ SV.v (Value.int IntKind.i64 r2) = SV.v (Value.int IntKind.i64 r2) ∧ SV.v (Value.int IntKind.i64 c2) = SV.v (Value.int IntKind.i64 c2) ∧ True) ∧ True)) (br (decide (r2 ≥ (↑l.length : Int))) (br (inB l r c && inB l r2 c2) ((SV.v (Value.int IntKind.i64 (11 : Int)) = SV.v (Value.int IntKind.i64 (0 : Int)) ∧ True) ∧ (SV.h (1 : Nat) [oe, (0 : Nat)] = SV.h (1 : Nat) [oe, (0 : Nat)] ∧ True) ∧ (oe = oe ∧ ep = ep ∧ l = l) ∧ (SV.v (Value.int IntKind.i64 r) = SV.v (Value.int IntKind.i64 r) ∧ SV.v (Value.int IntKind.i64 c) = SV.v (Value.int IntKind.i64 c) ∧ SV.v (Value.int IntKind.i64 r2) = SV.v (Value.int IntKind.i64 r2) ∧ SV.v (Value.int IntKind.i64 c2) = SV.v (Value.int IntKind.i64 c2) ∧ True) ∧ True) ((SV.v (Value.int IntKind.i64 (11 : Int)) = SV.v (Value.int IntKind.i64 (11 : Int)) ∧ True) ∧ (SV.h (1 : Nat) [oe, (0 : Nat)] = SV.h (1 : Nat) [oe, (0 : Nat)] ∧ True) ∧ (oe = oe ∧ ep = ep ∧ l = l) ∧ (SV.v (Value.int IntKind.i64 r) = SV.v (Value.int IntKind.i64 r) ∧ SV.v (Value.int IntKind.i64 c) = SV.v (Value.int IntKind.i64 c) ∧ SV.v (Value.int IntKind.i64 r2) = SV.v (Value.int IntKind.i64 r2) ∧ SV.v (Value.int IntKind.i64 c2) = SV.v (Value.int IntKind.i64 c2) ∧ True) ∧ True)) (br (decide (c2 < (0 : Int))) (br (inB l r c && inB l r2 c2) ((SV.v (Value.int IntKind.i64 (11 : Int)) = SV.v (Value.int IntKind.i64 (0 : Int)) ∧ True) ∧ (SV.h (1 : Nat) [oe, (0 : Nat)] = SV.h (1 : Nat) [oe, (0 : Nat)] ∧ True) ∧ (oe = oe ∧ ep = ep ∧ l = l) ∧ (SV.v (Value.int IntKind.i64 r) = SV.v (Value.int IntKind.i64 r) ∧ SV.v (Value.int IntKind.i64 c) = SV.v (Value.int IntKind.i64 c) ∧ SV.v (Value.int IntKind.i64 r2) = SV.v (Value.int IntKind.i64 r2) ∧ SV.v (Value.int IntKind.i64 c2) = SV.v (Value.int IntKind.i64 c2) ∧ True) ∧ True) ((SV.v (Value.int IntKind.i64 (11 : Int)) = SV.v (Value.int IntKind.i64 (11 : Int)) ∧ True) ∧ (SV.h (1 : Nat) [oe, (0 : Nat)] = SV.h (1 : Nat) [oe, (0 : Nat)] ∧ True) ∧ (oe = oe ∧ ep = ep ∧ l = l) ∧ (SV.v (Value.int IntKind.i64 r) = SV.v (Value.int IntKind.i64 r) ∧ SV.v (Value.int IntKind.i64 c) = SV.v (Value.int IntKind.i64 c) ∧ SV.v (Value.int IntKind.i64 r2) = SV.v (Value.int IntKind.i64 r2) ∧ SV.v (Value.int IntKind.i64 c2) = SV.v (Value.int IntKind.i64 c2) ∧ True) ∧ True)) (br (decide (c2 ≥ (↑(nC l) : Int))) (br (inB l r c && inB l r2 c2) ((SV.v (Value.int IntKind.i64 (11 : Int)) = SV.v (Value.int IntKind.i64 (0 : Int)) ∧ True) ∧ (SV.h (1 : Nat) [oe, (0 : Nat)] = SV.h (1 : Nat) [oe, (0 : Nat)] ∧ True) ∧ (oe = oe ∧ ep = ep ∧ l = l) ∧ (SV.v (Value.int IntKind.i64 r) = SV.v (Value.int IntKind.i64 r) ∧ SV.v (Value.int IntKind.i64 c) = SV.v (Value.int IntKind.i64 c) ∧ SV.v (Value.int IntKind.i64 r2) = SV.v (Value.int IntKind.i64 r2) ∧ SV.v (Value.int IntKind.i64 c2) = SV.v (Value.int IntKind.i64 c2) ∧ True) ∧ True) ((SV.v (Value.int IntKind.i64 (11 : Int)) = SV.v (Value.int IntKind.i64 (11 : Int)) ∧ True) ∧ (SV.h (1 : Nat) [oe, (0 : Nat)] = SV.h (1 : Nat) [oe, (0 : Nat)] ∧ True) ∧ (oe = oe ∧ ep = ep ∧ l = l) ∧ (SV.v (Value.int IntKind.i64 r) = SV.v (Value.int IntKind.i64 r) ∧ SV.v (Value.int IntKind.i64 c) = SV.v (Value.int IntKind.i64 c) ∧ SV.v (Value.int IntKind.i64 r2) = SV.v (Value.int IntKind.i64 r2) ∧ SV.v (Value.int IntKind.i64 c2) = SV.v (Value.int IntKind.i64 c2) ∧ True) ∧ True)) (br (inB l r c && inB l r2 c2) ((SV.v (Value.int IntKind.i64 (0 : Int)) = SV.v (Value.int IntKind.i64 (0 : Int)) ∧ True) ∧ (SV.h (1 : Nat) [oe, (0 : Nat)] = SV.h (1 : Nat) [oe, (0 : Nat)] ∧ True) ∧ (oe = oe ∧ ep = ep ∧ l = l) ∧ (SV.v (Value.int IntKind.i64 r) = SV.v (Value.int IntKind.i64 r) ∧ SV.v (Value.int IntKind.i64 c) = SV.v (Value.int IntKind.i64 c) ∧ SV.v (Value.int IntKind.i64 r2) = SV.v (Value.int IntKind.i64 r2) ∧ SV.v (Value.int IntKind.i64 c2) = SV.v (Value.int IntKind.i64 c2) ∧ True) ∧ True) ((SV.v (Value.int IntKind.i64 (0 : Int)) = SV.v (Value.int IntKind.i64 (11 : Int)) ∧ True) ∧ (SV.h (1 : Nat) [oe, (0 : Nat)] = SV.h (1 : Nat) [oe, (0 : Nat)] ∧ True) ∧ (oe = oe ∧ ep = ep ∧ l = l) ∧ (SV.v (Value.int IntKind.i64 r) = SV.v (Value.int IntKind.i64 r) ∧ SV.v (Value.int IntKind.i64 c) = SV.v (Value.int IntKind.i64 c) ∧ SV.v (Value.int IntKind.i64 r2) = SV.v (Value.int IntKind.i64 r2) ∧ SV.v (Value.int IntKind.i64 c2) = SV.v (Value.int IntKind.i64 c2) ∧ True) ∧ True))))))))))) (by kernel_rfl) ?_
  refine ⟨rfl, ⟨rfl, hg⟩, ?_⟩
  clear hp hφ
  cases h : inB l r c <;> cases h2 : inB l r2 c2
  · simp [br_iff]; simp [inB] at h; omega
  · rw [inB_iff] at h2; simp [br_iff]; simp [inB] at h; omega
  · rw [inB_iff] at h; simp [br_iff]; simp [inB] at h2; omega
  · rw [inB_iff] at h h2; simp [br_iff]; omega
set_option maxHeartbeats 4000000 in
theorem ok_thereN1 : ∀ I : Sym.Inv Unit, LCOk I Tryd.prog 49 lcThereN1 := by
  refine lc_mk (fun _ => allCfg Tryd.prog [] tabA 3) (fun _ _ => allCfg_ok mixed trivial tabA_ok) (fun _ => rfl) (n := 80) Tryd.func49 ?_
  intro ⟨_, r, c⟩ hφ
  refine kcast (B := ((SV.v (Value.int IntKind.i64 (2 : Int)) = SV.v (Value.int IntKind.i64 (2 : Int)) ∧ True) ∧ (SV.v (Value.int IntKind.i64 r) = SV.v (Value.int IntKind.i64 r) ∧ SV.v (Value.int IntKind.i64 c) = SV.v (Value.int IntKind.i64 c) ∧ True) ∧ True)) (by kernel_rfl) ?_
  exact ⟨⟨rfl, trivial⟩, ⟨rfl, rfl, trivial⟩, trivial⟩
set_option maxHeartbeats 4000000 in
theorem ok_thereN2 : ∀ I : Sym.Inv Unit, LCOk I Tryd.prog 49 lcThereN2 := by
  refine lc_mk (fun _ => allCfg Tryd.prog [] tabA 3) (fun _ _ => allCfg_ok mixed trivial tabA_ok) (fun _ => rfl) (n := 80) Tryd.func49 ?_
  intro ⟨_, r, c, r2, c2⟩ hφ
  refine kcast (B := ((SV.v (Value.int IntKind.i64 (2 : Int)) = SV.v (Value.int IntKind.i64 (2 : Int)) ∧ True) ∧ (SV.v (Value.int IntKind.i64 r) = SV.v (Value.int IntKind.i64 r) ∧ SV.v (Value.int IntKind.i64 c) = SV.v (Value.int IntKind.i64 c) ∧ SV.v (Value.int IntKind.i64 r2) = SV.v (Value.int IntKind.i64 r2) ∧ SV.v (Value.int IntKind.i64 c2) = SV.v (Value.int IntKind.i64 c2) ∧ True) ∧ True)) (by kernel_rfl) ?_
  exact ⟨⟨rfl, trivial⟩, ⟨rfl, rfl, rfl, rfl, trivial⟩, trivial⟩
def lcThere : ACon Unit := lcOr (lcOr lcThere1 lcThere2) (lcOr lcThereN1 lcThereN2)
theorem ok_there : ∀ I : Sym.Inv Unit, LCOk I Tryd.prog 49 lcThere := lcOr_ok (lcOr_ok ok_there1 ok_there2) (lcOr_ok ok_thereN1 ok_thereN2)
def tabB : List (Nat × ACon Unit) := (36, lcNew) :: (49, lcThere) :: tabA
theorem tabB_ok : LCs Tryd.prog tabB := ⟨ok_new, ok_there, tabA_ok⟩

/-! ### At, Set -/
def at2 (l : List (List C4)) (r c : Int) : C4 := (l.getD r.toNat []).getD c.toNat C4.no
def set2 (l : List (List C4)) (r c : Int) (x : C4) : List (List C4) := l.set r.toNat ((l.getD r.toNat []).set c.toNat x)
def lcAt1 : ACon Unit := mkLC (decP (shCons (shP 0) (shOne shI2)) shG) fun ((_, (r, c)), (oe, ⟨l, oe2, ep⟩)) => .ask (oe = oe2 ∧ GW l) (.br (inB l r c) (.one (.t [cv (at2 l r c), .v (.int .i64 0)]) (gbi 0 oe ep l) []) (.one (.t [cv C4.no, .v (.int .i64 11)]) (gbi 0 oe ep l) []))
def lcAt0 : ACon Unit := mkLC (decP (shCons shNilP (shOne shI2)) shHNil) fun _ => .one (.t [cv C4.no, .v (.int .i64 2)]) [] []
def lcSet1 : ACon Unit := mkLC (decP (shCons (shP 0) (shCons shI2 (shOne shC))) shG) fun ((_, (r, c), x), (oe, ⟨l, oe2, ep⟩)) => .ask (oe = oe2 ∧ GW l) (.br (inB l r c) (.one (.v (.int .i64 0)) (gbi 0 oe ep (set2 l r c x)) [1]) (.one (.v (.int .i64 11)) (gbi 0 oe ep l) [1]))
def lcSet0 : ACon Unit := mkLC (decP (shCons shNilP (shCons shI2 (shOne shC))) shHNil) fun _ => .one (.v (.int .i64 2)) [] []
set_option maxHeartbeats 4000000 in
theorem ok_at1 : ∀ I : Sym.Inv Unit, LCOk I Tryd.prog 29 lcAt1 := by
  refine lc_mk (fun _ => allCfg Tryd.prog [] tabB 3) (fun _ _ => allCfg_ok mixed trivial tabB_ok) (fun _ => rfl) (n := 80) Tryd.func29 ?_
  intro ⟨⟨_, r, c⟩, ⟨oe, ⟨l, oe2, ep⟩⟩⟩ hφ
  obtain ⟨⟨rfl, hg⟩, hp⟩ := id hφ
  refine kcast (B := (true = true ∧ (oe = oe ∧ GW l) ∧ br (inB l r c) (rq (oe.beq oe && (true && decide ((0 : Int) ≤ r ∧ r < (↑(Rws.c l).len : Int)))) (rq (oe.beq oe && r.toNat.blt (Rws.c l).len) (rq (ep.beq ep && r.toNat.blt (Rws.c l).len && ((Rws.c l).sz.beq (4 : Nat) && decide ((0 : Int) ≤ c ∧ c < (↑((Rws.c l).nAt r.toNat) : Int)))) (rq (ep.beq ep && r.toNat.blt (Rws.c l).len && c.toNat.blt (l.getD r.toNat []).length) (br (inB l r c) ((SV.t [SV.a [SV.v (Value.int IntKind.i32 ((l.getD r.toNat []).getD c.toNat C4.no).g), SV.v (Value.int IntKind.i64 ((l.getD r.toNat []).getD c.toNat C4.no).a), SV.v (Value.bool ((l.getD r.toNat []).getD c.toNat C4.no).gd), SV.v (Value.int IntKind.i64 ((l.getD r.toNat []).getD c.toNat C4.no).m)], SV.v (Value.int IntKind.i64 (0 : Int))] = SV.t [SV.a [SV.v (Value.int IntKind.i32 (at2 l r c).g), SV.v (Value.int IntKind.i64 (at2 l r c).a), SV.v (Value.bool (at2 l r c).gd), SV.v (Value.int IntKind.i64 (at2 l r c).m)], SV.v (Value.int IntKind.i64 (0 : Int))] ∧ True) ∧ (SV.h (1 : Nat) [oe, (0 : Nat)] = SV.h (1 : Nat) [oe, (0 : Nat)] ∧ True) ∧ (oe = oe ∧ ep = ep ∧ l = l) ∧ True) ((SV.t [SV.a [SV.v (Value.int IntKind.i32 ((l.getD r.toNat []).getD c.toNat C4.no).g), SV.v (Value.int IntKind.i64 ((l.getD r.toNat []).getD c.toNat C4.no).a), SV.v (Value.bool ((l.getD r.toNat []).getD c.toNat C4.no).gd), SV.v (Value.int IntKind.i64 ((l.getD r.toNat []).getD c.toNat C4.no).m)], SV.v (Value.int IntKind.i64 (0 : Int))] = SV.t [SV.a [SV.v (Value.int IntKind.i32 (0 : Int)), SV.v (Value.int IntKind.i64 (0 : Int)), SV.v (Value.bool false), SV.v (Value.int IntKind.i64 (0 : Int))], SV.v (Value.int IntKind.i64 (11 : Int))] ∧ True) ∧ (SV.h (1 : Nat) [oe, (0 : Nat)] = SV.h (1 : Nat) [oe, (0 : Nat)] ∧ True) ∧ (oe = oe ∧ ep = ep ∧ l = l) ∧ True)))))) (br (inB l r c) ((SV.t [SV.a [SV.v (Value.int IntKind.i32 (0 : Int)), SV.v (Value.int IntKind.i64 (0 : Int)), SV.v (Value.bool false), SV.v (Value.int IntKind.i64 (0 : Int))], SV.v (Value.int IntKind.i64 (11 : Int))] = SV.t [SV.a [SV.v (Value.int IntKind.i32 (at2 l r c).g), SV.v (Value.int IntKind.i64 (at2 l r c).a), SV.v (Value.bool (at2 l r c).gd), SV.v (Value.int IntKind.i64 (at2 l r c).m)], SV.v (Value.int IntKind.i64 (0 : Int))] ∧ True) ∧ (SV.h (1 : Nat) [oe, (0 : Nat)] = SV.h (1 : Nat) [oe, (0 : Nat)] ∧ True) ∧ (oe = oe ∧ ep = ep ∧ l = l) ∧ True) ((SV.t [SV.a [SV.v (Value.int IntKind.i32 (0 : Int)), SV.v (Value.int IntKind.i64 (0 : Int)), SV.v (Value.bool false), SV.v (Value.int IntKind.i64 (0 : Int))], SV.v (Value.int IntKind.i64 (11 : Int))] = SV.t [SV.a [SV.v (Value.int IntKind.i32 (0 : Int)), SV.v (Value.int IntKind.i64 (0 : Int)), SV.v (Value.bool false), SV.v (Value.int IntKind.i64 (0 : Int))], SV.v (Value.int IntKind.i64 (11 : Int))] ∧ True) ∧ (SV.h (1 : Nat) [oe, (0 : Nat)] = SV.h (1 : Nat) [oe, (0 : Nat)] ∧ True) ∧ (oe = oe ∧ ep = ep ∧ l = l) ∧ True)))) (by kernel_rfl) ?_
  refine ⟨rfl, ⟨rfl, hg⟩, ?_⟩
  clear hp hφ
  cases h : inB l r c
  · simp only [br_iff, Bool.false_eq_true, false_implies, true_implies, true_and, and_true]
  · rw [inB_iff] at h
    have hr : r.toNat < l.length := by omega
    have h1 : Nat.blt r.toNat (Rws.c l).len = true := by rw [Nat.blt_eq]; exact hr
    have h2 : Nat.blt c.toNat (l.getD r.toNat (LC4 [])).length = true := by rw [Nat.blt_eq, hg.row hr]; omega
    have h3 : ((Rws.c l).nAt r.toNat : Int) = nC l := by show ((l.getD r.toNat []).length : Int) = _; rw [hg.row hr]
    have h4 : ((Rws.c l).len : Int) = l.length := rfl
    have h5 : Nat.beq (Rws.c l).sz 4 = true := rfl
    simp only [br_iff, rq_iff, nbeq, h1, h2, h3, h4, h5, Bool.true_eq_false, false_implies, true_implies, true_and, and_true, Bool.true_and, Bool.and_true, decide_eq_true_eq]
    exact ⟨⟨by omega, by omega⟩, ⟨by omega, by omega⟩, rfl⟩
set_option maxHeartbeats 4000000 in
theorem ok_set1 : ∀ I : Sym.Inv Unit, LCOk I Tryd.prog 86 lcSet1 := by
  refine lc_mk (fun _ => allCfg Tryd.prog [] tabB 3) (fun _ _ => allCfg_ok mixed trivial tabB_ok) (fun _ => rfl) (n := 80) Tryd.func86 ?_
  intro ⟨⟨_, ⟨r, c⟩, x⟩, ⟨oe, ⟨l, oe2, ep⟩⟩⟩ hφ
  obtain ⟨⟨rfl, hg⟩, hp⟩ := id hφ
  refine kcast (B := (true = true ∧ (oe = oe ∧ GW l) ∧ br (inB l r c) (rq (oe.beq oe && (true && decide ((0 : Int) ≤ r ∧ r < (↑(Rws.c l).len : Int)))) (rq (oe.beq oe && r.toNat.blt (Rws.c l).len) (rq (ep.beq ep && r.toNat.blt (Rws.c l).len && ((Rws.c l).sz.beq (4 : Nat) && decide ((0 : Int) ≤ c ∧ c < (↑((Rws.c l).nAt r.toNat) : Int)))) (rq (ep.beq ep && r.toNat.blt (Rws.c l).len && c.toNat.blt (l.getD r.toNat []).length) (br (inB l r c) ((SV.v (Value.int IntKind.i64 (0 : Int)) = SV.v (Value.int IntKind.i64 (0 : Int)) ∧ True) ∧ (SV.h (1 : Nat) [oe, (0 : Nat)] = SV.h (1 : Nat) [oe, (0 : Nat)] ∧ True) ∧ (oe = oe ∧ ep = ep ∧ l.set r.toNat ((l.getD r.toNat []).set c.toNat (C4.mk x.g x.a x.gd x.m)) = set2 l r c x) ∧ True) ((SV.v (Value.int IntKind.i64 (0 : Int)) = SV.v (Value.int IntKind.i64 (11 : Int)) ∧ True) ∧ (SV.h (1 : Nat) [oe, (0 : Nat)] = SV.h (1 : Nat) [oe, (0 : Nat)] ∧ True) ∧ (oe = oe ∧ ep = ep ∧ l.set r.toNat ((l.getD r.toNat []).set c.toNat (C4.mk x.g x.a x.gd x.m)) = l) ∧ True)))))) (br (inB l r c) ((SV.v (Value.int IntKind.i64 (11 : Int)) = SV.v (Value.int IntKind.i64 (0 : Int)) ∧ True) ∧ (SV.h (1 : Nat) [oe, (0 : Nat)] = SV.h (1 : Nat) [oe, (0 : Nat)] ∧ True) ∧ (oe = oe ∧ ep = ep ∧ l = set2 l r c x) ∧ True) ((SV.v (Value.int IntKind.i64 (11 : Int)) = SV.v (Value.int IntKind.i64 (11 : Int)) ∧ True) ∧ (SV.h (1 : Nat) [oe, (0 : Nat)] = SV.h (1 : Nat) [oe, (0 : Nat)] ∧ True) ∧ (oe = oe ∧ ep = ep ∧ l = l) ∧ True)))) (by kernel_rfl) ?_
  refine ⟨rfl, ⟨rfl, hg⟩, ?_⟩
  clear hp hφ
  cases h : inB l r c
  · simp only [br_iff, Bool.false_eq_true, false_implies, true_implies, true_and, and_true]
  · rw [inB_iff] at h
    have hr : r.toNat < l.length := by omega
    have h1 : Nat.blt r.toNat (Rws.c l).len = true := by rw [Nat.blt_eq]; exact hr
    have h2 : Nat.blt c.toNat (l.getD r.toNat (LC4 [])).length = true := by rw [Nat.blt_eq, hg.row hr]; omega
    have h3 : ((Rws.c l).nAt r.toNat : Int) = nC l := by show ((l.getD r.toNat []).length : Int) = _; rw [hg.row hr]
    have h4 : ((Rws.c l).len : Int) = l.length := rfl
    have h5 : Nat.beq (Rws.c l).sz 4 = true := rfl
    simp only [br_iff, rq_iff, nbeq, h1, h2, h3, h4, h5, Bool.true_eq_false, false_implies, true_implies, true_and, and_true, Bool.true_and, Bool.and_true, decide_eq_true_eq]
    exact ⟨⟨by omega, by omega⟩, ⟨by omega, by omega⟩, rfl⟩
set_option maxHeartbeats 4000000 in
theorem ok_at0 : ∀ I : Sym.Inv Unit, LCOk I Tryd.prog 29 lcAt0 := by
  refine lc_mk (fun _ => allCfg Tryd.prog [] tabB 3) (fun _ _ => allCfg_ok mixed trivial tabB_ok) (fun _ => rfl) (n := 80) Tryd.func29 ?_
  intro ⟨⟨_, r, c⟩, _⟩ hφ
  refine kcast (B := (true = true ∧ (SV.t [SV.a [SV.v (Value.int IntKind.i32 (0 : Int)), SV.v (Value.int IntKind.i64 (0 : Int)), SV.v (Value.bool false), SV.v (Value.int IntKind.i64 (0 : Int))], SV.v (Value.int IntKind.i64 (2 : Int))] = SV.t [SV.a [SV.v (Value.int IntKind.i32 (0 : Int)), SV.v (Value.int IntKind.i64 (0 : Int)), SV.v (Value.bool false), SV.v (Value.int IntKind.i64 (0 : Int))], SV.v (Value.int IntKind.i64 (2 : Int))] ∧ True) ∧ True)) (by kernel_rfl) ?_
  exact ⟨rfl, ⟨rfl, trivial⟩, trivial⟩
set_option maxHeartbeats 4000000 in
theorem ok_set0 : ∀ I : Sym.Inv Unit, LCOk I Tryd.prog 86 lcSet0 := by
  refine lc_mk (fun _ => allCfg Tryd.prog [] tabB 3) (fun _ _ => allCfg_ok mixed trivial tabB_ok) (fun _ => rfl) (n := 80) Tryd.func86 ?_
  intro ⟨⟨_, ⟨r, c⟩, x⟩, _⟩ hφ
  refine kcast (B := (true = true ∧ (SV.v (Value.int IntKind.i64 (2 : Int)) = SV.v (Value.int IntKind.i64 (2 : Int)) ∧ True) ∧ True)) (by kernel_rfl) ?_
  exact ⟨rfl, ⟨rfl, trivial⟩, trivial⟩
def lcAt : ACon Unit := lcOr lcAt1 lcAt0
theorem ok_at : ∀ I : Sym.Inv Unit, LCOk I Tryd.prog 29 lcAt := lcOr_ok ok_at1 ok_at0
def lcSet : ACon Unit := lcOr lcSet1 lcSet0
theorem ok_set : ∀ I : Sym.Inv Unit, LCOk I Tryd.prog 86 lcSet := lcOr_ok ok_set1 ok_set0

end Go.Proofs.YtcbjgpkbfmmdpaaDoor
