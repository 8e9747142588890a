/- What is wanted of the texts GcA, GcB, GcC, GcD, GcE, GcG, GcH, GcJ, GcM, GcQ, GcS, GcT, GcU, GdA, GdB, GeA, GeB, GeC, GeD, GeE, GfM, GfT, GfV, in one. -/
import Derived.Test.YtdhhagangmkloaaChecked
import Derived.Test.YtdhhagangmkloaaVT
set_option linter.unusedSimpArgs false
set_option linter.unusedVariables false
set_option linter.unusedSectionVars false
namespace Go.Sym
open Go
structure RC where
  l : List (List C4)
  oe : Nat
  ep : Nat
def shRowsC (T TS : TypeId) : ShB RC where
  enc a := .rows (.c a.l) T TS a.oe a.ep none
  dec x := match x with
    | .rows R T' TS' oe ep pd => match R with
      | .c l => match pd with
        | none => match Nat.beq T' T && Nat.beq TS' TS with
          | true => some ⟨l, oe, ep⟩
          | false => none
        | some _ => none
      | _ => none
    | _ => none
  ok x a h := by
    split at h
    · split at h
      · split at h
        · split at h
          · rename_i hc
            simp only [Bool.and_eq_true, Nat.beq_eq] at hc
            obtain ⟨rfl, rfl⟩ := hc
            simp only [Option.some.injEq] at h
            subst h
            rfl
          · cases h
        · cases h
      · cases h
    · cases h
def shCL : ShL C4 where
  enc := recS
  dec x := match (shCons (shInt .i32) (shCons shI (shCons shB (shOne shI)))).dec x with
    | some (g, a, d, m) => some ⟨g, a, d, m⟩
    | none => none
  ok x a h := by
    split at h
    · rename_i h1
      simp only [Option.some.injEq] at h
      subst h
      exact (shCons (shInt .i32) (shCons shI (shCons shB (shOne shI)))).ok _ _ h1
    · cases h
abbrev shC : Sh C4 := shA shCL
abbrev cv (c : C4) : SV := .a (recS c)
def shNilP : Sh Unit where
  enc _ := .v (.pointer none)
  dec x := match x with
    | .v (.pointer none) => some ()
    | _ => none
  ok x a h := by
    split at h
    · rfl
    · cases h
def shBlk (b len : Nat) : Sh Unit where
  enc _ := .s b 0 len len
  dec x := match x with
    | .s b' o l c => match Nat.beq b' b && (Nat.beq o 0 && (Nat.beq l len && Nat.beq c len)) with
      | true => some ()
      | false => none
    | _ => none
  ok x a h := by
    split at h
    · split at h
      · rename_i hT
        simp only [Bool.and_eq_true, Nat.beq_eq] at hT
        obtain ⟨rfl, rfl, rfl, rfl⟩ := hT
        rfl
      · cases h
    · cases h
abbrev shI2 : Sh (Int × Int) := shA (shCons shI (shOne shI))
end Go.Sym
namespace Go.Proofs.Ytdhhagangmkloaa
open Go Go.Sym
theorem mixed : Try.prog.follows .mixedOrders = true := by kernel_rfl
theorem rq_iff {b : Bool} {A : Prop} : rq b A ↔ (b = true ∧ A) := by cases b <;> simp [rq]
theorem br_iff {b : Bool} {A B : Prop} : br b A B ↔ ((b = true → A) ∧ (b = false → B)) := by cases b <;> simp [br]
theorem nbeq (n : Nat) : Nat.beq n n = true := by rw [Nat.beq_eq]
abbrev GB := Nat × RC
def shGi (j : Nat) : ShH GB := shHCons (shCells (shOne (shO (j + 1))) 127) (shHOne (shRowsC 38 92))
def shG : ShH GB := shGi 0
def gbi (j oe ep : Nat) (l : List (List C4)) : List (SB Unit) := (shGi j).enc (oe, ⟨l, oe, ep⟩)
def nC (l : List (List C4)) : Nat := (l.getD 0 []).length
structure GW (l : List (List C4)) : Prop where
  r0 : 1 ≤ l.length
  r1 : l.length ≤ 255
  c0 : 1 ≤ nC l
  c1 : nC l ≤ 255
  all : ∀ r ∈ l, r.length = nC l
theorem GW.row {l : List (List C4)} (h : GW l) {i : Nat} (hi : i < l.length) : (l.getD i []).length = nC l := by
  rw [List.getD, List.getElem?_eq_getElem hi]
  exact h.all _ (List.getElem_mem hi)
def mayB (a b : Int) : Bool := decide (1 ≤ a) && (decide (a ≤ 255) && (decide (1 ≤ b) && decide (b ≤ 255)))
theorem mayB_iff {a b : Int} : mayB a b = true ↔ 1 ≤ a ∧ a ≤ 255 ∧ 1 ≤ b ∧ b ≤ 255 := by simp [mayB]
def lcMay : ACon Unit := mkLC (decP (shOne shI2) shHNil) fun ((a, b), _) => .br (mayB a b) (.one (.v (.int .i64 0)) [] []) (.one (.v (.int .i64 10)) [] [])
set_option maxHeartbeats 4000000 in
theorem ok_may : ∀ I : Sym.Inv Unit, LCOk I Try.prog 74 lcMay := by
  refine lc_mk (fun _ => allCfg Try.prog [] [] 0) (fun _ _ => allCfg_ok mixed trivial trivial) (fun _ => rfl) (n := 60) Try.func74 ?_
  intro ⟨⟨a, b⟩, _⟩ hφ
  refine kcast (B := (br (decide (a < (1 : Int))) (br (mayB a b) ((SV.v (Value.int IntKind.i64 (10 : Int)) = SV.v (Value.int IntKind.i64 (0 : Int)) ∧ True) ∧ True) ((SV.v (Value.int IntKind.i64 (10 : Int)) = SV.v (Value.int IntKind.i64 (10 : Int)) ∧ True) ∧ True)) (br (decide (a > (255 : Int))) (br (mayB a b) ((SV.v (Value.int IntKind.i64 (10 : Int)) = SV.v (Value.int IntKind.i64 (0 : Int)) ∧ True) ∧ True) ((SV.v (Value.int IntKind.i64 (10 : Int)) = SV.v (Value.int IntKind.i64 (10 : Int)) ∧ True) ∧ True)) (br (decide (b < (1 : Int))) (br (mayB a b) ((SV.v (Value.int IntKind.i64 (10 : Int)) = SV.v (Value.int IntKind.i64 (0 : Int)) ∧ True) ∧ True) ((SV.v (Value.int IntKind.i64 (10 : Int)) = SV.v (Value.int IntKind.i64 (10 : Int)) ∧ True) ∧ True)) (br (decide (b > (255 : Int))) (br (mayB a b) ((SV.v (Value.int IntKind.i64 (10 : Int)) = SV.v (Value.int IntKind.i64 (0 : Int)) ∧ True) ∧ True) ((SV.v (Value.int IntKind.i64 (10 : Int)) = SV.v (Value.int IntKind.i64 (10 : Int)) ∧ True) ∧ True)) (br (mayB a b) ((SV.v (Value.int IntKind.i64 (0 : Int)) = SV.v (Value.int IntKind.i64 (0 : Int)) ∧ True) ∧ True) ((SV.v (Value.int IntKind.i64 (0 : Int)) = SV.v (Value.int IntKind.i64 (10 : Int)) ∧ True) ∧ True))))))) (by kernel_rfl) ?_
  simp only [rq_iff, br_iff, Bool.and_eq_true, Bool.and_eq_false_iff, decide_eq_true_eq, decide_eq_false_iff_not, mayB_iff, Bool.or_eq_true, Bool.or_eq_false_iff]
  cases h : mayB a b
  · simp [br_iff]
    simp [mayB] at h
    omega
  · rw [mayB_iff] at h
    simp [br_iff]
    omega
def lcSize1 : ACon Unit := mkLC (decP (shOne (shP 0)) shG) fun (_, (oe, ⟨l, oe2, ep⟩)) => .ask (oe = oe2 ∧ GW l) (.one (.a [.v (.int .i64 l.length), .v (.int .i64 (nC l))]) (gbi 0 oe ep l) [])
def lcSize0 : ACon Unit := mkLC (decP (shOne shNilP) shHNil) fun _ => .one (.a [.v (.int .i64 0), .v (.int .i64 0)]) [] []
set_option maxHeartbeats 4000000 in
theorem ok_size1 : ∀ I : Sym.Inv Unit, LCOk I Try.prog 63 lcSize1 := by
  refine lc_mk (fun _ => allCfg Try.prog [] [] 0) (fun _ _ => allCfg_ok mixed trivial trivial) (fun _ => rfl) (n := 60) Try.func63 ?_
  intro ⟨_, oe, ⟨l, oe2, ep⟩⟩ hφ
  obtain ⟨⟨rfl, hg⟩, _⟩ := id hφ
  refine kcast (B := (rq (oe.beq oe) (rq (oe.beq oe && (true && decide ((0 : Int) ≤ (0 : Int) ∧ (0 : Int) < (↑(Rws.c l).len : Int)))) (rq (oe.beq oe && Nat.blt (0 : Nat) (Rws.c l).len) (rq (ep.beq ep && Nat.blt (0 : Nat) (Rws.c l).len) ((SV.a [SV.v (Value.int IntKind.i64 (↑(Rws.c l).len : Int)), SV.v (Value.int IntKind.i64 (↑((Rws.c l).nAt (0 : Nat)) : Int))] = SV.a [SV.v (Value.int IntKind.i64 (↑l.length : Int)), SV.v (Value.int IntKind.i64 (↑(nC l) : Int))] ∧ True) ∧ (SV.h (1 : Nat) [oe, (0 : Nat)] = SV.h (1 : Nat) [oe, (0 : Nat)] ∧ True) ∧ (oe = oe ∧ ep = ep ∧ l = l) ∧ True)))))) (by kernel_rfl) ?_
  have := hg.r0
  have hb : Nat.blt 0 (Rws.c l).len = true := by rw [Nat.blt_eq]; exact this
  have hl : (0 : Int) < ((Rws.c l).len : Nat) := by show (0 : Int) < (l.length : Nat); omega
  simp only [rq_iff, nbeq, hb, Bool.and_true, Bool.true_and, true_and, and_true, decide_eq_true_eq]
  exact ⟨⟨by omega, hl⟩, rfl⟩
set_option maxHeartbeats 4000000 in
theorem ok_size0 : ∀ I : Sym.Inv Unit, LCOk I Try.prog 63 lcSize0 := by
  refine lc_mk (fun _ => allCfg Try.prog [] [] 0) (fun _ _ => allCfg_ok mixed trivial trivial) (fun _ => rfl) (n := 60) Try.func63 ?_
  intro ⟨_, _⟩ hφ
  refine kcast (B := ((SV.a [SV.v (Value.int IntKind.i64 (0 : Int)), SV.v (Value.int IntKind.i64 (0 : Int))] = SV.a [SV.v (Value.int IntKind.i64 (0 : Int)), SV.v (Value.int IntKind.i64 (0 : Int))] ∧ True) ∧ True)) (by kernel_rfl) ?_
  exact ⟨⟨rfl, trivial⟩, trivial⟩
def lcSize : ACon Unit := lcOr lcSize1 lcSize0
theorem ok_size : ∀ I : Sym.Inv Unit, LCOk I Try.prog 63 lcSize := lcOr_ok ok_size1 ok_size0
def lcMul : ACon Unit := mkLC (decP (shCons (shInt .u64) (shOne (shInt .u64))) shHNil) fun ((a, c), _) => .ask (a = 1 ∧ 0 ≤ c ∧ c ≤ 255) (.one (.t [.v (.int .u64 0), .v (.int .u64 c)]) [] [])
set_option maxHeartbeats 4000000 in
set_option maxRecDepth 100000 in
theorem ok_mul : ∀ I : Sym.Inv Unit, LCOk I Try.prog 103 lcMul := by
  refine lc_mk (fun _ => allCfg Try.prog [] [] 0) (fun _ _ => allCfg_ok mixed trivial trivial) (fun _ => rfl) (n := 80) Try.func103 ?_
  intro ⟨⟨a, c⟩, _⟩ hφ
  obtain ⟨⟨h0, h1, h2⟩, hp⟩ := id hφ
  refine kcast (B := ((SV.t [SV.v (Value.int IntKind.u64 (IntKind.u64.wrap (IntKind.u64.wrap (IntKind.u64.wrap (a.fdiv (4294967296 : Int) * c.fdiv (4294967296 : Int)) + (IntKind.u64.wrap (IntKind.u64.wrap (a.fdiv (4294967296 : Int) * bitsK BinOp.and IntKind.u64 c (4294967295 : Int)) + (IntKind.u64.wrap (bitsK BinOp.and IntKind.u64 a (4294967295 : Int) * bitsK BinOp.and IntKind.u64 c (4294967295 : Int))).fdiv (4294967296 : Int))).fdiv (4294967296 : Int)) + (IntKind.u64.wrap (bitsK BinOp.and IntKind.u64 (IntKind.u64.wrap (IntKind.u64.wrap (a.fdiv (4294967296 : Int) * bitsK BinOp.and IntKind.u64 c (4294967295 : Int)) + (IntKind.u64.wrap (bitsK BinOp.and IntKind.u64 a (4294967295 : Int) * bitsK BinOp.and IntKind.u64 c (4294967295 : Int))).fdiv (4294967296 : Int))) (4294967295 : Int) + IntKind.u64.wrap (bitsK BinOp.and IntKind.u64 a (4294967295 : Int) * c.fdiv (4294967296 : Int)))).fdiv (4294967296 : Int)))), SV.v (Value.int IntKind.u64 (IntKind.u64.wrap (a * c)))] = SV.t [SV.v (Value.int IntKind.u64 (0 : Int)), SV.v (Value.int IntKind.u64 c)] ∧ True) ∧ True)) (by kernel_rfl) ?_
  clear hp
  subst h0
  obtain ⟨n, rfl⟩ : ∃ n : Nat, c = n := ⟨c.toNat, by omega⟩
  have hn : n < 256 := by omega
  clear h1 h2 hφ
  simp only [SV.t.injEq, List.cons.injEq, SV.v.injEq, Value.int.injEq, true_and, and_true]
  revert n
  decide
def rp (n c : Nat) (x : C4) : List C4 := List.replicate n x ++ List.replicate (c - n) C4.no
theorem rp_step {n c : Nat} {x : C4} (h : n ≤ c) : List.take n (rp n c x) ++ (List.take (min n (c - n)) (List.take n (rp n c x)) ++ List.drop (n + min n (c - n)) (rp n c x)) = rp (n + min n (c - n)) c x := by
  have e1 : List.take n (rp n c x) = List.replicate n x := by simp [rp]
  have e2 : List.drop (n + min n (c - n)) (rp n c x) = List.replicate (c - (n + min n (c - n))) C4.no := by
    unfold rp
    rw [List.drop_append, List.length_replicate, List.drop_eq_nil_of_le (by simp), List.drop_replicate, List.nil_append]
    congr 1; omega
  rw [e1, e2, List.take_replicate, ← List.append_assoc, List.replicate_append_replicate]
  have e3 : min (min n (c - n)) n = min n (c - n) := by omega
  rw [e3]; rfl
theorem rp_all {c : Nat} {x : C4} : rp c c x = List.replicate c x := by simp [rp]
theorem szN_recs (l : List C4) : szN (.recs l) 4 = true := rfl
def annR (c : Nat) (x : C4) : Ann Unit where
  α := Int
  φ _ n := 1 ≤ n ∧ n ≤ c
  μ _ n := ((c : Int) - n).toNat
  get st := getI st.tm 8
  f st n := tmpl [7] [(8, .v (.int .i64 n))] [(1, .own (.recs (rp n.toNat c x)) c 38 4 0 true)] st
def lcRep : ACon Unit := mkLC (decP (shCons (shBlk 0 1) (shOne shI)) (shHOne (shCells shCL 38))) fun ((_, c), x) => .ask (1 ≤ c ∧ c ≤ 255) (.one (.h 1 [0, 0]) [.cells (recS x) 38, .own (.recs (List.replicate c.toNat x)) c.toNat 38 4 0 true] [])
set_option maxHeartbeats 4000000 in
theorem ok_rep : ∀ I : Sym.Inv Unit, LCOk I Try.prog 75 lcRep := by
  refine lc_mk (fun ((_, c), x) => allCfg Try.prog [] [(103, lcMul)] 0 [(580, annR c.toNat x)]) (fun _ _ => allCfg_ok mixed trivial ⟨ok_mul, trivial⟩) (fun _ => rfl) (n := 80) Try.func75 ?_
  intro ⟨⟨_, c⟩, x⟩ hφ
  obtain ⟨⟨h1, h2⟩, hp⟩ := id hφ
  refine kcast (B := (br (decide (c < (0 : Int))) False (true = true ∧ ((1 : Int) = (1 : Int) ∧ (0 : Int) ≤ IntKind.u64.wrap c ∧ IntKind.u64.wrap c ≤ (255 : Int)) ∧ br (decide (IntKind.u64.wrap c > (9223372036854775807 : Int))) False (rq (decide ((0 : Int) ≤ IntKind.i64.wrap (IntKind.u64.wrap c) ∧ IntKind.i64.wrap (IntKind.u64.wrap c) ≤ IntKind.i64.wrap (IntKind.u64.wrap c) ∧ (↑(32 : Nat) : Int) * IntKind.i64.wrap (IntKind.u64.wrap c) ≤ (281474976710656 : Int) ∧ IntKind.i64.wrap (IntKind.u64.wrap c) ≤ (9223372036854775807 : Int))) (rq (true && (true && (szN (madeC Try.prog (38 : Nat) (Value.agg #[Value.int IntKind.i32 (0 : Int), Value.int IntKind.i64 (0 : Int), Value.bool false, Value.int IntKind.i64 (0 : Int)]) (IntKind.i64.wrap (IntKind.u64.wrap c)).toNat (4 : Nat)) (4 : Nat) && (Nat.beq (4 : Nat) (4 : Nat) && (true && (((0 : Nat) + (IntKind.i64.wrap (IntKind.u64.wrap c)).toNat).ble (IntKind.i64.wrap (IntKind.u64.wrap c)).toNat && Nat.blt (0 : Nat) (IntKind.i64.wrap (IntKind.u64.wrap c)).toNat)))))) (((1 : Int) ≤ (↑(Nat.min (1 : Nat) (IntKind.i64.wrap (IntKind.u64.wrap c)).toNat) : Int) ∧ (↑(Nat.min (1 : Nat) (IntKind.i64.wrap (IntKind.u64.wrap c)).toNat) : Int) ≤ (↑c.toNat : Int)) ∧ ((SV.h (1 : Nat) [(0 : Nat), (0 : Nat)] = SV.h (1 : Nat) [(0 : Nat), (0 : Nat)] ∧ SV.v (Value.int IntKind.i64 (↑(Nat.min (1 : Nat) (IntKind.i64.wrap (IntKind.u64.wrap c)).toNat) : Int)) = SV.v (Value.int IntKind.i64 (↑(Nat.min (1 : Nat) (IntKind.i64.wrap (IntKind.u64.wrap c)).toNat) : Int)) ∧ True) ∧ (SV.v (Value.int IntKind.i32 x.g) = SV.v (Value.int IntKind.i32 x.g) ∧ SV.v (Value.int IntKind.i64 x.a) = SV.v (Value.int IntKind.i64 x.a) ∧ SV.v (Value.bool x.gd) = SV.v (Value.bool x.gd) ∧ SV.v (Value.int IntKind.i64 x.m) = SV.v (Value.int IntKind.i64 x.m) ∧ True) ∧ ((IntKind.i64.wrap (IntKind.u64.wrap c)).toNat = c.toNat ∧ (0 : Nat) = (0 : Nat) ∧ List.take (0 : Nat) (List.replicate (IntKind.i64.wrap (IntKind.u64.wrap c)).toNat (C4.mk (0 : Int) (0 : Int) false (0 : Int))) ++ (List.take (Nat.min (1 : Nat) (IntKind.i64.wrap (IntKind.u64.wrap c)).toNat) [C4.mk x.g x.a x.gd x.m] ++ List.drop ((0 : Nat) + Nat.min (1 : Nat) (IntKind.i64.wrap (IntKind.u64.wrap c)).toNat) (List.replicate (IntKind.i64.wrap (IntKind.u64.wrap c)).toNat (C4.mk (0 : Int) (0 : Int) false (0 : Int)))) = rp (↑(Nat.min (1 : Nat) (IntKind.i64.wrap (IntKind.u64.wrap c)).toNat) : Int).toNat c.toNat x) ∧ True) ∧ ∀ (x_1 : Int), (1 : Int) ≤ x_1 ∧ x_1 ≤ (↑c.toNat : Int) → br (decide (x_1 < (↑c.toNat : Int))) (rq (true && (Nat.beq (4 : Nat) (4 : Nat) && decide ((0 : Int) ≤ x_1 ∧ x_1 ≤ (↑c.toNat : Int) ∧ (↑c.toNat : Int) ≤ (↑c.toNat : Int)))) (rq (true && (Nat.beq (4 : Nat) (4 : Nat) && decide ((0 : Int) ≤ (0 : Int) ∧ (0 : Int) ≤ x_1 ∧ x_1 ≤ (↑c.toNat : Int)))) (rq (true && (true && (true && (szN (Cn.recs (rp x_1.toNat c.toNat x)) (4 : Nat) && (((0 : Nat) + (x_1.toNat - (0 : Nat))).ble c.toNat && Nat.blt (0 : Nat) c.toNat))) && (szN (Cn.recs (rp x_1.toNat c.toNat x)) (4 : Nat) && (Nat.beq (4 : Nat) (4 : Nat) && (true && ((x_1.toNat + ((↑c.toNat : Int).toNat - x_1.toNat)).ble c.toNat && Nat.blt (0 : Nat) c.toNat)))))) (((1 : Int) ≤ IntKind.i64.wrap (x_1 + (↑((x_1.toNat - (0 : Nat)).min ((↑c.toNat : Int).toNat - x_1.toNat)) : Int)) ∧ IntKind.i64.wrap (x_1 + (↑((x_1.toNat - (0 : Nat)).min ((↑c.toNat : Int).toNat - x_1.toNat)) : Int)) ≤ (↑c.toNat : Int)) ∧ ((SV.h (1 : Nat) [(0 : Nat), (0 : Nat)] = SV.h (1 : Nat) [(0 : Nat), (0 : Nat)] ∧ SV.v (Value.int IntKind.i64 (IntKind.i64.wrap (x_1 + (↑((x_1.toNat - (0 : Nat)).min ((↑c.toNat : Int).toNat - x_1.toNat)) : Int)))) = SV.v (Value.int IntKind.i64 (IntKind.i64.wrap (x_1 + (↑((x_1.toNat - (0 : Nat)).min ((↑c.toNat : Int).toNat - x_1.toNat)) : Int)))) ∧ True) ∧ (SV.v (Value.int IntKind.i32 x.g) = SV.v (Value.int IntKind.i32 x.g) ∧ SV.v (Value.int IntKind.i64 x.a) = SV.v (Value.int IntKind.i64 x.a) ∧ SV.v (Value.bool x.gd) = SV.v (Value.bool x.gd) ∧ SV.v (Value.int IntKind.i64 x.m) = SV.v (Value.int IntKind.i64 x.m) ∧ True) ∧ (c.toNat = c.toNat ∧ (0 : Nat) = (0 : Nat) ∧ List.take x_1.toNat (rp x_1.toNat c.toNat x) ++ (List.take ((x_1.toNat - (0 : Nat)).min ((↑c.toNat : Int).toNat - x_1.toNat)) (List.take (x_1.toNat - (0 : Nat)) (List.drop (0 : Nat) (rp x_1.toNat c.toNat x))) ++ List.drop (x_1.toNat + (x_1.toNat - (0 : Nat)).min ((↑c.toNat : Int).toNat - x_1.toNat)) (rp x_1.toNat c.toNat x)) = rp (IntKind.i64.wrap (x_1 + (↑((x_1.toNat - (0 : Nat)).min ((↑c.toNat : Int).toNat - x_1.toNat)) : Int))).toNat c.toNat x) ∧ True) ∧ ((↑c.toNat : Int) - IntKind.i64.wrap (x_1 + (↑((x_1.toNat - (0 : Nat)).min ((↑c.toNat : Int).toNat - x_1.toNat)) : Int))).toNat < ((↑c.toNat : Int) - x_1).toNat)))) ((SV.h (1 : Nat) [(0 : Nat), (0 : Nat)] = SV.h (1 : Nat) [(0 : Nat), (0 : Nat)] ∧ True) ∧ (SV.v (Value.int IntKind.i32 x.g) = SV.v (Value.int IntKind.i32 x.g) ∧ SV.v (Value.int IntKind.i64 x.a) = SV.v (Value.int IntKind.i64 x.a) ∧ SV.v (Value.bool x.gd) = SV.v (Value.bool x.gd) ∧ SV.v (Value.int IntKind.i64 x.m) = SV.v (Value.int IntKind.i64 x.m) ∧ True) ∧ (c.toNat = c.toNat ∧ (0 : Nat) = (0 : Nat) ∧ rp x_1.toNat c.toNat x = List.replicate c.toNat x) ∧ True))))))) (by kernel_rfl) ?_
  clear hp hφ
  obtain ⟨m, rfl⟩ : ∃ m : Nat, c = m := ⟨c.toNat, by omega⟩
  have hu : IntKind.u64.wrap (m : Int) = m := IntWalk.u64_in _ (by omega)
  have hi : IntKind.i64.wrap (m : Int) = m := wrap64 (by omega) (by omega)
  have hm : ∀ k, szN (madeC Try.prog 38 (Value.agg #[Value.int IntKind.i32 0, Value.int IntKind.i64 0, Value.bool false, Value.int IntKind.i64 0]) k 4) 4 = true := fun _ => rfl
  have hm1 : Nat.min 1 m = 1 := by show min 1 m = 1; omega
  simp only [hu, hi, hm, szN_recs, hm1, Int.toNat_natCast, rq_iff, br_iff, nbeq, Bool.true_and, Bool.and_true, true_and, and_true, Bool.and_eq_true, Nat.ble_eq, Nat.blt_eq, decide_eq_true_eq, decide_eq_false_iff_not, Nat.sub_zero, Nat.zero_add, Nat.mul_one, List.drop_zero]
  refine ⟨fun h => by omega, fun _ => ⟨by omega, fun h => by omega, fun _ => ⟨by omega, by omega, by omega, ?_, fun n ⟨hn0, hn1⟩ => ⟨fun hlt => ?_, fun hge => ?_⟩⟩⟩⟩
  · obtain ⟨k, rfl⟩ : ∃ k, m = k + 1 := ⟨m - 1, by omega⟩
    simp [rp, C4.no, List.replicate_succ]
  · obtain ⟨k, rfl⟩ : ∃ k : Nat, n = k := ⟨n.toNat, by omega⟩
    simp only [Int.toNat_natCast]
    have hw : IntKind.i64.wrap ((k : Int) + ((Nat.min k (m - k) : Nat) : Int)) = ((k + min k (m - k) : Nat) : Int) := by
      rw [wrap64 (by omega) (by have : Nat.min k (m - k) ≤ m := by (show min k (m - k) ≤ m); omega
                                omega)]
      rfl
    rw [hw]
    simp only [Int.toNat_natCast]
    have hstep := rp_step (n := k) (c := m) (x := x) (by omega)
    have hmin : min k (m - k) ≤ m - k := Nat.min_le_right _ _
    have hmin1 : 1 ≤ min k (m - k) := by omega
    exact ⟨by omega, by omega, ⟨by omega, by omega, by omega⟩, ⟨by omega, by omega⟩, hstep, by omega⟩
  · obtain rfl : n = m := by omega
    exact rp_all
end Go.Proofs.Ytdhhagangmkloaa
namespace Go.Proofs.Ytdhhagangmkloaa
open Go Go.Sym
def oeN (k : Nat) : Nat := match k with
  | 0 => 0
  | n + 1 => n + 2
def annN (a c : Nat) (x : C4) : Ann Unit where
  α := Int
  φ _ k := 0 ≤ k ∧ k ≤ a
  μ _ k := ((a : Int) - k).toNat
  get st := getI st.tm 17
  f st k := tmpl [1, 2, 3, 7, 16] [(17, .v (.int .i64 k))] [(2, .cells [.h 3 [oeN k.toNat, 0]] 127), (3, .rows (.c (List.replicate k.toNat (List.replicate c x))) 38 92 (oeN k.toNat) (k.toNat + 1) none)] st
  fx st := match getC st.H 2 with
    | [x] => match nilS x with
      | true => [.nilCell 2 0 (.sv []) 92 1, .asRows 3 none 38]
      | false => []
    | _ => []
def tabA : List (Nat × ACon Unit) := [(74, lcMay), (63, lcSize), (75, lcRep)]
theorem tabA_ok : LCs Try.prog tabA := ⟨ok_may, ok_size, ok_rep, trivial⟩
def newL (a b : Nat) (x : C4) : List (List C4) := List.replicate a (List.replicate b x)
def lcNew : ACon Unit := mkLC (decP (shCons shI2 (shOne shC)) shHNil) fun (((a, b), x), _) =>
  .br (mayB a b) (.one (.t [.p 2 0, .v (.int .i64 0)]) (.gone :: .gone :: gbi 2 (a.toNat + 1) (a.toNat + 1) (newL a.toNat b.toNat x)) []) (.one (.t [.v (.pointer none), .v (.int .i64 10)]) [.gone, .gone] [])
set_option maxHeartbeats 4000000 in
theorem ok_new : ∀ I : Sym.Inv Unit, LCOk I Try.prog 37 lcNew := by
  refine lc_mk (fun (((a, b), x), _) => allCfg Try.prog [] tabA 0 [(449, annN a.toNat b.toNat x)]) (fun _ _ => allCfg_ok mixed trivial tabA_ok) (fun _ => rfl) (n := 80) Try.func37 ?_
  intro ⟨⟨⟨a, b⟩, x⟩, _⟩ hφ
  refine kcast (B := (true = true ∧ br (mayB a b) (Nils [] (0 : Nat) ∧ (II (0 : Int) ≤ (0 : Int) ∧ (0 : Int) ≤ (↑a.toNat : Int)) ∧ ((SV.a [SV.v (Value.int IntKind.i32 x.g), SV.v (Value.int IntKind.i64 x.a), SV.v (Value.bool x.gd), SV.v (Value.int IntKind.i64 x.m)] = SV.a [SV.v (Value.int IntKind.i32 x.g), SV.v (Value.int IntKind.i64 x.a), SV.v (Value.bool x.gd), SV.v (Value.int IntKind.i64 x.m)] ∧ SV.p (0 : Nat) (0 : Nat) = SV.p (0 : Nat) (0 : Nat) ∧ SV.p (1 : Nat) (0 : Nat) = SV.p (1 : Nat) (0 : Nat) ∧ SV.p (2 : Nat) (0 : Nat) = SV.p (2 : Nat) (0 : Nat) ∧ SV.v (Value.int IntKind.i64 a) = SV.v (Value.int IntKind.i64 a) ∧ SV.v (Value.int IntKind.i64 (0 : Int)) = SV.v (Value.int IntKind.i64 (0 : Int)) ∧ True) ∧ (SV.v (Value.int IntKind.i64 a) = SV.v (Value.int IntKind.i64 a) ∧ SV.v (Value.int IntKind.i64 b) = SV.v (Value.int IntKind.i64 b) ∧ True) ∧ (SV.v (Value.int IntKind.i32 x.g) = SV.v (Value.int IntKind.i32 x.g) ∧ SV.v (Value.int IntKind.i64 x.a) = SV.v (Value.int IntKind.i64 x.a) ∧ SV.v (Value.bool x.gd) = SV.v (Value.bool x.gd) ∧ SV.v (Value.int IntKind.i64 x.m) = SV.v (Value.int IntKind.i64 x.m) ∧ True) ∧ (SV.h (3 : Nat) [(0 : Nat), (0 : Nat)] = SV.h (3 : Nat) [(0 : Nat), (0 : Nat)] ∧ True) ∧ ((0 : Nat) = (0 : Nat) ∧ (1 : Nat) = (1 : Nat) ∧ LLC [] = []) ∧ True) ∧ ∀ (x_1 : Int), (0 : Int) ≤ x_1 ∧ x_1 ≤ (↑a.toNat : Int) → br (decide (x_1 < a)) (true = true ∧ ((1 : Int) ≤ b ∧ b ≤ (255 : Int)) ∧ rq (true && ((oeN x_1.toNat).beq (oeN x_1.toNat) && (true && decide ((Rws.c (List.replicate x_1.toNat (List.replicate b.toNat x))).len + (1 : Nat) ≤ (9223372036854775807 : Nat) ∧ ((Rws.c (List.replicate x_1.toNat (List.replicate b.toNat x))).len + (1 : Nat)) * (24 : Nat) ≤ (140737488355328 : Nat))))) (((0 : Int) ≤ IntKind.i64.wrap (x_1 + (1 : Int)) ∧ IntKind.i64.wrap (x_1 + (1 : Int)) ≤ (↑a.toNat : Int)) ∧ ((SV.a [SV.v (Value.int IntKind.i32 x.g), SV.v (Value.int IntKind.i64 x.a), SV.v (Value.bool x.gd), SV.v (Value.int IntKind.i64 x.m)] = SV.a [SV.v (Value.int IntKind.i32 x.g), SV.v (Value.int IntKind.i64 x.a), SV.v (Value.bool x.gd), SV.v (Value.int IntKind.i64 x.m)] ∧ SV.p (0 : Nat) (0 : Nat) = SV.p (0 : Nat) (0 : Nat) ∧ SV.p (1 : Nat) (0 : Nat) = SV.p (1 : Nat) (0 : Nat) ∧ SV.p (2 : Nat) (0 : Nat) = SV.p (2 : Nat) (0 : Nat) ∧ SV.v (Value.int IntKind.i64 a) = SV.v (Value.int IntKind.i64 a) ∧ SV.v (Value.int IntKind.i64 (IntKind.i64.wrap (x_1 + (1 : Int)))) = SV.v (Value.int IntKind.i64 (IntKind.i64.wrap (x_1 + (1 : Int)))) ∧ True) ∧ (SV.v (Value.int IntKind.i64 a) = SV.v (Value.int IntKind.i64 a) ∧ SV.v (Value.int IntKind.i64 b) = SV.v (Value.int IntKind.i64 b) ∧ True) ∧ (SV.v (Value.int IntKind.i32 x.g) = SV.v (Value.int IntKind.i32 x.g) ∧ SV.v (Value.int IntKind.i64 x.a) = SV.v (Value.int IntKind.i64 x.a) ∧ SV.v (Value.bool x.gd) = SV.v (Value.bool x.gd) ∧ SV.v (Value.int IntKind.i64 x.m) = SV.v (Value.int IntKind.i64 x.m) ∧ True) ∧ (SV.h (3 : Nat) [x_1.toNat + (1 : Nat) + (1 : Nat), (0 : Nat)] = SV.h (3 : Nat) [oeN (IntKind.i64.wrap (x_1 + (1 : Int))).toNat, (0 : Nat)] ∧ True) ∧ (x_1.toNat + (1 : Nat) + (1 : Nat) = oeN (IntKind.i64.wrap (x_1 + (1 : Int))).toNat ∧ x_1.toNat + (1 : Nat) + (1 : Nat) = (IntKind.i64.wrap (x_1 + (1 : Int))).toNat + (1 : Nat) ∧ List.replicate x_1.toNat (List.replicate b.toNat x) ++ [List.replicate b.toNat (C4.mk x.g x.a x.gd x.m)] = List.replicate (IntKind.i64.wrap (x_1 + (1 : Int))).toNat (List.replicate b.toNat x)) ∧ True) ∧ ((↑a.toNat : Int) - IntKind.i64.wrap (x_1 + (1 : Int))).toNat < ((↑a.toNat : Int) - x_1).toNat)) (br (mayB a b) ((SV.t [SV.p (2 : Nat) (0 : Nat), SV.v (Value.int IntKind.i64 (0 : Int))] = SV.t [SV.p (2 : Nat) (0 : Nat), SV.v (Value.int IntKind.i64 (0 : Int))] ∧ True) ∧ True ∧ True ∧ (SV.h (3 : Nat) [oeN x_1.toNat, (0 : Nat)] = SV.h (3 : Nat) [a.toNat + (1 : Nat), (0 : Nat)] ∧ True) ∧ (oeN x_1.toNat = a.toNat + (1 : Nat) ∧ x_1.toNat + (1 : Nat) = a.toNat + (1 : Nat) ∧ List.replicate x_1.toNat (List.replicate b.toNat x) = newL a.toNat b.toNat x) ∧ True) ((SV.t [SV.p (2 : Nat) (0 : Nat), SV.v (Value.int IntKind.i64 (0 : Int))] = SV.t [SV.v (Value.pointer none), SV.v (Value.int IntKind.i64 (10 : Int))] ∧ True) ∧ True ∧ True ∧ True))) (br (mayB a b) ((SV.t [SV.v (Value.pointer none), SV.v (Value.int IntKind.i64 (10 : Int))] = SV.t [SV.p (2 : Nat) (0 : Nat), SV.v (Value.int IntKind.i64 (0 : Int))] ∧ True) ∧ True ∧ True ∧ False) ((SV.t [SV.v (Value.pointer none), SV.v (Value.int IntKind.i64 (10 : Int))] = SV.t [SV.v (Value.pointer none), SV.v (Value.int IntKind.i64 (10 : Int))] ∧ True) ∧ True ∧ True ∧ True)))) (by kernel_rfl) ?_
  refine ⟨rfl, ?_⟩
  cases h : mayB a b
  · exact ⟨⟨rfl, trivial⟩, trivial, trivial, trivial⟩
  · rw [mayB_iff] at h
    have hlen : ∀ n, (Rws.c (List.replicate n (List.replicate b.toNat x))).len = n := fun n => by simp [Rws.len]
    simp only [br_iff, rq_iff, nbeq, hlen, true_implies, false_implies, reduceCtorEq, true_and, and_true, Bool.true_and, Bool.and_true, decide_eq_true_eq, decide_eq_false_iff_not, Bool.true_eq_false, II]
    refine ⟨⟨rfl⟩, by omega, fun k ⟨hk0, hk1⟩ => ⟨fun hlt => ?_, fun hge => ?_⟩⟩
    · rw [wrap64 (x := k + 1) (by omega) (by omega)]
      have e : (k + 1).toNat = k.toNat + 1 := by omega
      rw [e]
      refine ⟨⟨by omega, by omega⟩, ⟨by omega, by omega⟩, ⟨by omega, by omega⟩, ⟨rfl, rfl, rfl, ?_⟩, by omega⟩
      show LLC _ = _
      rw [List.replicate_succ']
    · obtain rfl : k = a := by omega
      obtain ⟨n, rfl⟩ : ∃ n : Nat, k = ((n + 1 : Nat) : Int) := ⟨k.toNat - 1, by omega⟩
      exact ⟨rfl, rfl, rfl, rfl⟩
def inB (l : List (List C4)) (r c : Int) : Bool := decide (0 ≤ r) && (decide (r < l.length) && (decide (0 ≤ c) && decide (c < nC l)))
theorem inB_iff {l : List (List C4)} {r c : Int} : inB l r c = true ↔ 0 ≤ r ∧ r < l.length ∧ 0 ≤ c ∧ c < nC l := by simp [inB]
abbrev shPos : ShB (Int × Int) := shCells (shCons shI (shOne shI)) 36
abbrev shPos2 : ShB (Int × Int × Int × Int) := shCells (shCons shI (shCons shI (shCons shI (shOne shI)))) 36
def posC (r c : Int) : SB Unit := .cells [.v (.int .i64 r), .v (.int .i64 c)] 36
def posC2 (r c r2 c2 : Int) : SB Unit := .cells [.v (.int .i64 r), .v (.int .i64 c), .v (.int .i64 r2), .v (.int .i64 c2)] 36
def shGP : ShH (GB × Int × Int) where
  enc a := shG.enc a.1 ++ [shPos.enc a.2]
  dec x := match x with
    | [p, q, r] => match shG.dec [p, q] with
      | some a => match shPos.dec r with
        | some b => some (a, b)
        | none => none
      | none => none
    | _ => none
  ok x a h := by
    split at h
    · split at h
      · rename_i h1
        split at h
        · rename_i h2
          simp only [Option.some.injEq] at h
          subst h
          rw [← shG.ok _ _ h1, shPos.ok _ _ h2]; rfl
        · cases h
      · cases h
    · cases h
def shGP2 : ShH (GB × Int × Int × Int × Int) where
  enc a := shG.enc a.1 ++ [shPos2.enc a.2]
  dec x := match x with
    | [p, q, r] => match shG.dec [p, q] with
      | some a => match shPos2.dec r with
        | some b => some (a, b)
        | none => none
      | none => none
    | _ => none
  ok x a h := by
    split at h
    · split at h
      · rename_i h1
        split at h
        · rename_i h2
          simp only [Option.some.injEq] at h
          subst h
          rw [← shG.ok _ _ h1, shPos2.ok _ _ h2]; rfl
        · cases h
      · cases h
    · cases h
def lcThere1 : ACon Unit := mkLC (decP (shCons (shP 0) (shOne (shBlk 2 1))) shGP) fun (_, ((oe, ⟨l, oe2, ep⟩), r, c)) => .ask (oe = oe2 ∧ GW l) (.br (inB l r c) (.one (.v (.int .i64 0)) (gbi 0 oe ep l ++ [posC r c]) []) (.one (.v (.int .i64 11)) (gbi 0 oe ep l ++ [posC r c]) []))
def lcThere2 : ACon Unit := mkLC (decP (shCons (shP 0) (shOne (shBlk 2 2))) shGP2) fun (_, ((oe, ⟨l, oe2, ep⟩), r, c, r2, c2)) => .ask (oe = oe2 ∧ GW l) (.br (inB l r c && inB l r2 c2) (.one (.v (.int .i64 0)) (gbi 0 oe ep l ++ [posC2 r c r2 c2]) []) (.one (.v (.int .i64 11)) (gbi 0 oe ep l ++ [posC2 r c r2 c2]) []))
def lcThereN1 : ACon Unit := mkLC (decP (shCons shNilP (shOne (shBlk 0 1))) (shHOne shPos)) fun (_, (r, c)) => .one (.v (.int .i64 2)) [posC r c] []
def lcThereN2 : ACon Unit := mkLC (decP (shCons shNilP (shOne (shBlk 0 2))) (shHOne shPos2)) fun (_, (r, c, r2, c2)) => .one (.v (.int .i64 2)) [posC2 r c r2 c2] []
set_option maxHeartbeats 4000000 in
theorem ok_there1 : ∀ I : Sym.Inv Unit, LCOk I Try.prog 78 lcThere1 := by
  refine lc_mk (fun _ => allCfg Try.prog [] tabA 3) (fun _ _ => allCfg_ok mixed trivial tabA_ok) (fun _ => rfl) (n := 80) Try.func78 ?_
  intro ⟨_, ⟨oe, ⟨l, oe2, ep⟩⟩, r, c⟩ hφ
  obtain ⟨⟨rfl, hg⟩, hp⟩ := id hφ
  refine kcast (B := (true = true ∧ (oe = oe ∧ GW l) ∧ br (decide (r < (0 : Int))) (br (inB l r c) ((SV.v (Value.int IntKind.i64 (11 : Int)) = SV.v (Value.int IntKind.i64 (0 : Int)) ∧ True) ∧ (SV.h (1 : Nat) [oe, (0 : Nat)] = SV.h (1 : Nat) [oe, (0 : Nat)] ∧ True) ∧ (oe = oe ∧ ep = ep ∧ l = l) ∧ (SV.v (Value.int IntKind.i64 r) = SV.v (Value.int IntKind.i64 r) ∧ SV.v (Value.int IntKind.i64 c) = SV.v (Value.int IntKind.i64 c) ∧ True) ∧ True) ((SV.v (Value.int IntKind.i64 (11 : Int)) = SV.v (Value.int IntKind.i64 (11 : Int)) ∧ True) ∧ (SV.h (1 : Nat) [oe, (0 : Nat)] = SV.h (1 : Nat) [oe, (0 : Nat)] ∧ True) ∧ (oe = oe ∧ ep = ep ∧ l = l) ∧ (SV.v (Value.int IntKind.i64 r) = SV.v (Value.int IntKind.i64 r) ∧ SV.v (Value.int IntKind.i64 c) = SV.v (Value.int IntKind.i64 c) ∧ True) ∧ True)) (br (decide (r ≥ (↑l.length : Int))) (br (inB l r c) ((SV.v (Value.int IntKind.i64 (11 : Int)) = SV.v (Value.int IntKind.i64 (0 : Int)) ∧ True) ∧ (SV.h (1 : Nat) [oe, (0 : Nat)] = SV.h (1 : Nat) [oe, (0 : Nat)] ∧ True) ∧ (oe = oe ∧ ep = ep ∧ l = l) ∧ (SV.v (Value.int IntKind.i64 r) = SV.v (Value.int IntKind.i64 r) ∧ SV.v (Value.int IntKind.i64 c) = SV.v (Value.int IntKind.i64 c) ∧ True) ∧ True) ((SV.v (Value.int IntKind.i64 (11 : Int)) = SV.v (Value.int IntKind.i64 (11 : Int)) ∧ True) ∧ (SV.h (1 : Nat) [oe, (0 : Nat)] = SV.h (1 : Nat) [oe, (0 : Nat)] ∧ True) ∧ (oe = oe ∧ ep = ep ∧ l = l) ∧ (SV.v (Value.int IntKind.i64 r) = SV.v (Value.int IntKind.i64 r) ∧ SV.v (Value.int IntKind.i64 c) = SV.v (Value.int IntKind.i64 c) ∧ True) ∧ True)) (br (decide (c < (0 : Int))) (br (inB l r c) ((SV.v (Value.int IntKind.i64 (11 : Int)) = SV.v (Value.int IntKind.i64 (0 : Int)) ∧ True) ∧ (SV.h (1 : Nat) [oe, (0 : Nat)] = SV.h (1 : Nat) [oe, (0 : Nat)] ∧ True) ∧ (oe = oe ∧ ep = ep ∧ l = l) ∧ (SV.v (Value.int IntKind.i64 r) = SV.v (Value.int IntKind.i64 r) ∧ SV.v (Value.int IntKind.i64 c) = SV.v (Value.int IntKind.i64 c) ∧ True) ∧ True) ((SV.v (Value.int IntKind.i64 (11 : Int)) = SV.v (Value.int IntKind.i64 (11 : Int)) ∧ True) ∧ (SV.h (1 : Nat) [oe, (0 : Nat)] = SV.h (1 : Nat) [oe, (0 : Nat)] ∧ True) ∧ (oe = oe ∧ ep = ep ∧ l = l) ∧ (SV.v (Value.int IntKind.i64 r) = SV.v (Value.int IntKind.i64 r) ∧ SV.v (Value.int IntKind.i64 c) = SV.v (Value.int IntKind.i64 c) ∧ True) ∧ True)) (br (decide (c ≥ (↑(nC l) : Int))) (br (inB l r c) ((SV.v (Value.int IntKind.i64 (11 : Int)) = SV.v (Value.int IntKind.i64 (0 : Int)) ∧ True) ∧ (SV.h (1 : Nat) [oe, (0 : Nat)] = SV.h (1 : Nat) [oe, (0 : Nat)] ∧ True) ∧ (oe = oe ∧ ep = ep ∧ l = l) ∧ (SV.v (Value.int IntKind.i64 r) = SV.v (Value.int IntKind.i64 r) ∧ SV.v (Value.int IntKind.i64 c) = SV.v (Value.int IntKind.i64 c) ∧ True) ∧ True) ((SV.v (Value.int IntKind.i64 (11 : Int)) = SV.v (Value.int IntKind.i64 (11 : Int)) ∧ True) ∧ (SV.h (1 : Nat) [oe, (0 : Nat)] = SV.h (1 : Nat) [oe, (0 : Nat)] ∧ True) ∧ (oe = oe ∧ ep = ep ∧ l = l) ∧ (SV.v (Value.int IntKind.i64 r) = SV.v (Value.int IntKind.i64 r) ∧ SV.v (Value.int IntKind.i64 c) = SV.v (Value.int IntKind.i64 c) ∧ True) ∧ True)) (br (inB l r c) ((SV.v (Value.int IntKind.i64 (0 : Int)) = SV.v (Value.int IntKind.i64 (0 : Int)) ∧ True) ∧ (SV.h (1 : Nat) [oe, (0 : Nat)] = SV.h (1 : Nat) [oe, (0 : Nat)] ∧ True) ∧ (oe = oe ∧ ep = ep ∧ l = l) ∧ (SV.v (Value.int IntKind.i64 r) = SV.v (Value.int IntKind.i64 r) ∧ SV.v (Value.int IntKind.i64 c) = SV.v (Value.int IntKind.i64 c) ∧ True) ∧ True) ((SV.v (Value.int IntKind.i64 (0 : Int)) = SV.v (Value.int IntKind.i64 (11 : Int)) ∧ True) ∧ (SV.h (1 : Nat) [oe, (0 : Nat)] = SV.h (1 : Nat) [oe, (0 : Nat)] ∧ True) ∧ (oe = oe ∧ ep = ep ∧ l = l) ∧ (SV.v (Value.int IntKind.i64 r) = SV.v (Value.int IntKind.i64 r) ∧ SV.v (Value.int IntKind.i64 c) = SV.v (Value.int IntKind.i64 c) ∧ True) ∧ True))))))) (by kernel_rfl) ?_
  refine ⟨rfl, ⟨rfl, hg⟩, ?_⟩
  clear hp hφ
  cases h : inB l r c
  · simp [br_iff]; simp [inB] at h; omega
  · rw [inB_iff] at h; simp [br_iff]; omega
set_option maxHeartbeats 4000000 in
theorem ok_there2 : ∀ I : Sym.Inv Unit, LCOk I Try.prog 78 lcThere2 := by
  refine lc_mk (fun _ => allCfg Try.prog [] tabA 3) (fun _ _ => allCfg_ok mixed trivial tabA_ok) (fun _ => rfl) (n := 80) Try.func78 ?_
  intro ⟨_, ⟨oe, ⟨l, oe2, ep⟩⟩, r, c, r2, c2⟩ hφ
  obtain ⟨⟨rfl, hg⟩, hp⟩ := id hφ
  refine kcast (B := (true = true ∧ (oe = oe ∧ GW l) ∧ br (decide (r < (0 : Int))) (br (inB l r c && inB l r2 c2) ((SV.v (Value.int IntKind.i64 (11 : Int)) = SV.v (Value.int IntKind.i64 (0 : Int)) ∧ True) ∧ (SV.h (1 : Nat) [oe, (0 : Nat)] = SV.h (1 : Nat) [oe, (0 : Nat)] ∧ True) ∧ (oe = oe ∧ ep = ep ∧ l = l) ∧ (SV.v (Value.int IntKind.i64 r) = SV.v (Value.int IntKind.i64 r) ∧ SV.v (Value.int IntKind.i64 c) = SV.v (Value.int IntKind.i64 c) ∧ SV.v (Value.int IntKind.i64 r2) = SV.v (Value.int IntKind.i64 r2) ∧ SV.v (Value.int IntKind.i64 c2) = SV.v (Value.int IntKind.i64 c2) ∧ True) ∧ True) ((SV.v (Value.int IntKind.i64 (11 : Int)) = SV.v (Value.int IntKind.i64 (11 : Int)) ∧ True) ∧ (SV.h (1 : Nat) [oe, (0 : Nat)] = SV.h (1 : Nat) [oe, (0 : Nat)] ∧ True) ∧ (oe = oe ∧ ep = ep ∧ l = l) ∧ (SV.v (Value.int IntKind.i64 r) = SV.v (Value.int IntKind.i64 r) ∧ SV.v (Value.int IntKind.i64 c) = SV.v (Value.int IntKind.i64 c) ∧ SV.v (Value.int IntKind.i64 r2) = SV.v (Value.int IntKind.i64 r2) ∧ SV.v (Value.int IntKind.i64 c2) = SV.v (Value.int IntKind.i64 c2) ∧ True) ∧ True)) (br (decide (r ≥ (↑l.length : Int))) (br (inB l r c && inB l r2 c2) ((SV.v (Value.int IntKind.i64 (11 : Int)) = SV.v (Value.int IntKind.i64 (0 : Int)) ∧ True) ∧ (SV.h (1 : Nat) [oe, (0 : Nat)] = SV.h (1 : Nat) [oe, (0 : Nat)] ∧ True) ∧ (oe = oe ∧ ep = ep ∧ l = l) ∧ (SV.v (Value.int IntKind.i64 r) = SV.v (Value.int IntKind.i64 r) ∧ SV.v (Value.int IntKind.i64 c) = SV.v (Value.int IntKind.i64 c) ∧ SV.v (Value.int IntKind.i64 r2) = SV.v (Value.int IntKind.i64 r2) ∧ SV.v (Value.int IntKind.i64 c2) = SV.v (Value.int IntKind.i64 c2) ∧ True) ∧ True) ((SV.v (Value.int IntKind.i64 (11 : Int)) = SV.v (Value.int IntKind.i64 (11 : Int)) ∧ True) ∧ (SV.h (1 : Nat) [oe, (0 : Nat)] = SV.h (1 : Nat) [oe, (0 : Nat)] ∧ True) ∧ (oe = oe ∧ ep = ep ∧ l = l) ∧ (SV.v (Value.int IntKind.i64 r) = SV.v (Value.int IntKind.i64 r) ∧ SV.v (Value.int IntKind.i64 c) = SV.v (Value.int IntKind.i64 c) ∧ SV.v (Value.int IntKind.i64 r2) = SV.v (Value.int IntKind.i64 r2) ∧ SV.v (Value.int IntKind.i64 c2) = SV.v (Value.int IntKind.i64 c2) ∧ True) ∧ True)) (br (decide (c < (0 : Int))) (br (inB l r c && inB l r2 c2) ((SV.v (Value.int IntKind.i64 (11 : Int)) = SV.v (Value.int IntKind.i64 (0 : Int)) ∧ True) ∧ (SV.h (1 : Nat) [oe, (0 : Nat)] = SV.h (1 : Nat) [oe, (0 : Nat)] ∧ True) ∧ (oe = oe ∧ ep = ep ∧ l = l) ∧ (SV.v (Value.int IntKind.i64 r) = SV.v (Value.int IntKind.i64 r) ∧ SV.v (Value.int IntKind.i64 c) = SV.v (Value.int IntKind.i64 c) ∧ SV.v (Value.int IntKind.i64 r2) = SV.v (Value.int IntKind.i64 r2) ∧ SV.v (Value.int IntKind.i64 c2) = SV.v (Value.int IntKind.i64 c2) ∧ True) ∧ True) ((SV.v (Value.int IntKind.i64 (11 : Int)) = SV.v (Value.int IntKind.i64 (11 : Int)) ∧ True) ∧ (SV.h (1 : Nat) [oe, (0 : Nat)] = SV.h (1 : Nat) [oe, (0 : Nat)] ∧ True) ∧ (oe = oe ∧ ep = ep ∧ l = l) ∧ (SV.v (Value.int IntKind.i64 r) = SV.v (Value.int IntKind.i64 r) ∧ SV.v (Value.int IntKind.i64 c) = SV.v (Value.int IntKind.i64 c) ∧ SV.v (Value.int IntKind.i64 r2) = SV.v (Value.int IntKind.i64 r2) ∧ SV.v (Value.int IntKind.i64 c2) = SV.v (Value.int IntKind.i64 c2) ∧ True) ∧ True)) (br (decide (c ≥ (↑(nC l) : Int))) (br (inB l r c && inB l r2 c2) ((SV.v (Value.int IntKind.i64 (11 : Int)) = SV.v (Value.int IntKind.i64 (0 : Int)) ∧ True) ∧ (SV.h (1 : Nat) [oe, (0 : Nat)] = SV.h (1 : Nat) [oe, (0 : Nat)] ∧ True) ∧ (oe = oe ∧ ep = ep ∧ l = l) ∧ (SV.v (Value.int IntKind.i64 r) = SV.v (Value.int IntKind.i64 r) ∧ SV.v (Value.int IntKind.i64 c) = SV.v (Value.int IntKind.i64 c) ∧ SV.v (Value.int IntKind.i64 r2) = SV.v (Value.int IntKind.i64 r2) ∧ SV.v (Value.int IntKind.i64 c2) = SV.v (Value.int IntKind.i64 c2) ∧ True) ∧ True) ((SV.v (Value.int IntKind.i64 (11 : Int)) = SV.v (Value.int IntKind.i64 (11 : Int)) ∧ True) ∧ (SV.h (1 : Nat) [oe, (0 : Nat)] = SV.h (1 : Nat) [oe, (0 : Nat)] ∧ True) ∧ (oe = oe ∧ ep = ep ∧ l = l) ∧ (SV.v (Value.int IntKind.i64 r) = SV.v (Value.int IntKind.i64 r) ∧ SV.v (Value.int IntKind.i64 c) = SV.v (Value.int IntKind.i64 c) ∧ SV.v (Value.int IntKind.i64 r2) = SV.v (Value.int IntKind.i64 r2) ∧ SV.v (Value.int IntKind.i64 c2) = SV.v (Value.int IntKind.i64 c2) ∧ True) ∧ True)) (br (decide (r2 < (0 : Int))) (br (inB l r c && inB l r2 c2) ((SV.v (Value.int IntKind.i64 (11 : Int)) = SV.v (Value.int IntKind.i64 (0 : Int)) ∧ True) ∧ (SV.h (1 : Nat) [oe, (0 : Nat)] = SV.h (1 : Nat) [oe, (0 : Nat)] ∧ True) ∧ (oe = oe ∧ ep = ep ∧ l = l) ∧ (SV.v (Value.int IntKind.i64 r) = SV.v (Value.int IntKind.i64 r) ∧ SV.v (Value.int IntKind.i64 c) = SV.v (Value.int IntKind.i64 c) ∧ SV.v (Value.int IntKind.i64 r2) = SV.v (Value.int IntKind.i64 r2) ∧ SV.v (Value.int IntKind.i64 c2) = SV.v (Value.int IntKind.i64 c2) ∧ True) ∧ True) ((SV.v (Value.int IntKind.i64 (11 : Int)) = SV.v (Value.int IntKind.i64 (11 : Int)) ∧ True) ∧ (SV.h (1 : Nat) [oe, (0 : Nat)] = SV.h (1 : Nat) [oe, (0 : Nat)] ∧ True) ∧ (oe = oe ∧ ep = ep ∧ l = l) ∧ (SV.v (Value.int IntKind.i64 r) = SV.v (Value.int IntKind.i64 r) ∧ SV.v (Value.int IntKind.i64 c) = SV.v (Value.int IntKind.i64 c) ∧ SV.v (Value.int IntKind.i64 r2) = SV.v (Value.int IntKind.i64 r2) ∧ SV.v (Value.int IntKind.i64 c2) = SV.v (Value.int IntKind.i64 c2) ∧ True) ∧ True)) (br (decide (r2 ≥ (↑l.length : Int))) (br (inB l r c && inB l r2 c2) ((SV.v (Value.int IntKind.i64 (11 : Int)) = SV.v (Value.int IntKind.i64 (0 : Int)) ∧ True) ∧ (SV.h (1 : Nat) [oe, (0 : Nat)] = SV.h (1 : Nat) [oe, (0 : Nat)] ∧ True) ∧ (oe = oe ∧ ep = ep ∧ l = l) ∧ (SV.v (Value.int IntKind.i64 r) = SV.v (Value.int IntKind.i64 r) ∧ SV.v (Value.int IntKind.i64 c) = SV.v (Value.int IntKind.i64 c) ∧ SV.v (Value.int IntKind.i64 r2) = SV.v (Value.int IntKind.i64 r2) ∧ SV.v (Value.int IntKind.i64 c2) = SV.v (Value.int IntKind.i64 c2) ∧ True) ∧ True) ((SV.v (Value.int IntKind.i64 (11 : Int)) = SV.v (Value.int IntKind.i64 (11 : Int)) ∧ True) ∧ (SV.h (1 : Nat) [oe, (0 : Nat)] = SV.h (1 : Nat) [oe, (0 : Nat)] ∧ True) ∧ (oe = oe ∧ ep = ep ∧ l = l) ∧ (SV.v (Value.int IntKind.i64 r) = SV.v (Value.int IntKind.i64 r) ∧ SV.v (Value.int IntKind.i64 c) = SV.v (Value.int IntKind.i64 c) ∧ SV.v (Value.int IntKind.i64 r2) = SV.v (Value.int IntKind.i64 r2) ∧ SV.v (Value.int IntKind.i64 c2) = SV.v (Value.int IntKind.i64 c2) ∧ True) ∧ True)) (br (decide (c2 < (0 : Int))) (br (inB l r c && inB l r2 c2) ((SV.v (Value.int IntKind.i64 (11 : Int)) = SV.v (Value.int IntKind.i64 (0 : Int)) ∧ True) ∧ (SV.h (1 : Nat) [oe, (0 : Nat)] = SV.h (1 : Nat) [oe, (0 : Nat)] ∧ True) ∧ (oe = oe ∧ ep = ep ∧ l = l) ∧ (SV.v (Value.int IntKind.i64 r) = SV.v (Value.int IntKind.i64 r) ∧ SV.v (Value.int IntKind.i64 c) = SV.v (Value.int IntKind.i64 c) ∧ SV.v (Value.int IntKind.i64 r2) = SV.v (Value.int IntKind.i64 r2) ∧ SV.v (Value.int IntKind.i64 c2) = SV.v (Value.int IntKind.i64 c2) ∧ True) ∧ True) ((SV.v (Value.int IntKind.i64 (11 : Int)) = SV.v (Value.int IntKind.i64 (11 : Int)) ∧ True) ∧ (SV.h (1 : Nat) [oe, (0 : Nat)] = SV.h (1 : Nat) [oe, (0 : Nat)] ∧ True) ∧ (oe = oe ∧ ep = ep ∧ l = l) ∧ (SV.v (Value.int IntKind.i64 r) = SV.v (Value.int IntKind.i64 r) ∧ SV.v (Value.int IntKind.i64 c) = SV.v (Value.int IntKind.i64 c) ∧ SV.v (Value.int IntKind.i64 r2) = SV.v (Value.int IntKind.i64 r2) ∧ SV.v (Value.int IntKind.i64 c2) = SV.v (Value.int IntKind.i64 c2) ∧ True) ∧ True)) (br (decide (c2 ≥ (↑(nC l) : Int))) (br (inB l r c && inB l r2 c2) ((SV.v (Value.int IntKind.i64 (11 : Int)) = SV.v (Value.int IntKind.i64 (0 : Int)) ∧ True) ∧ (SV.h (1 : Nat) [oe, (0 : Nat)] = SV.h (1 : Nat) [oe, (0 : Nat)] ∧ True) ∧ (oe = oe ∧ ep = ep ∧ l = l) ∧ (SV.v (Value.int IntKind.i64 r) = SV.v (Value.int IntKind.i64 r) ∧ SV.v (Value.int IntKind.i64 c) = SV.v (Value.int IntKind.i64 c) ∧ SV.v (Value.int IntKind.i64 r2) = SV.v (Value.int IntKind.i64 r2) ∧ SV.v (Value.int IntKind.i64 c2) = SV.v (Value.int IntKind.i64 c2) ∧ True) ∧ True) ((SV.v (Value.int IntKind.i64 (11 : Int)) = SV.v (Value.int IntKind.i64 (11 : Int)) ∧ True) ∧ (SV.h (1 : Nat) [oe, (0 : Nat)] = SV.h (1 : Nat) [oe, (0 : Nat)] ∧ True) ∧ (oe = oe ∧ ep = ep ∧ l = l) ∧ (SV.v (Value.int IntKind.i64 r) = SV.v (Value.int IntKind.i64 r) ∧ SV.v (Value.int IntKind.i64 c) = SV.v (Value.int IntKind.i64 c) ∧ SV.v (Value.int IntKind.i64 r2) = SV.v (Value.int IntKind.i64 r2) ∧ SV.v (Value.int IntKind.i64 c2) = SV.v (Value.int IntKind.i64 c2) ∧ True) ∧ True)) (br (inB l r c && inB l r2 c2) ((SV.v (Value.int IntKind.i64 (0 : Int)) = SV.v (Value.int IntKind.i64 (0 : Int)) ∧ True) ∧ (SV.h (1 : Nat) [oe, (0 : Nat)] = SV.h (1 : Nat) [oe, (0 : Nat)] ∧ True) ∧ (oe = oe ∧ ep = ep ∧ l = l) ∧ (SV.v (Value.int IntKind.i64 r) = SV.v (Value.int IntKind.i64 r) ∧ SV.v (Value.int IntKind.i64 c) = SV.v (Value.int IntKind.i64 c) ∧ SV.v (Value.int IntKind.i64 r2) = SV.v (Value.int IntKind.i64 r2) ∧ SV.v (Value.int IntKind.i64 c2) = SV.v (Value.int IntKind.i64 c2) ∧ True) ∧ True) ((SV.v (Value.int IntKind.i64 (0 : Int)) = SV.v (Value.int IntKind.i64 (11 : Int)) ∧ True) ∧ (SV.h (1 : Nat) [oe, (0 : Nat)] = SV.h (1 : Nat) [oe, (0 : Nat)] ∧ True) ∧ (oe = oe ∧ ep = ep ∧ l = l) ∧ (SV.v (Value.int IntKind.i64 r) = SV.v (Value.int IntKind.i64 r) ∧ SV.v (Value.int IntKind.i64 c) = SV.v (Value.int IntKind.i64 c) ∧ SV.v (Value.int IntKind.i64 r2) = SV.v (Value.int IntKind.i64 r2) ∧ SV.v (Value.int IntKind.i64 c2) = SV.v (Value.int IntKind.i64 c2) ∧ True) ∧ True))))))))))) (by kernel_rfl) ?_
  refine ⟨rfl, ⟨rfl, hg⟩, ?_⟩
  clear hp hφ
  cases h : inB l r c <;> cases h2 : inB l r2 c2
  · simp [br_iff]; simp [inB] at h; omega
  · rw [inB_iff] at h2; simp [br_iff]; simp [inB] at h; omega
  · rw [inB_iff] at h; simp [br_iff]; simp [inB] at h2; omega
  · rw [inB_iff] at h h2; simp [br_iff]; omega
set_option maxHeartbeats 4000000 in
theorem ok_thereN1 : ∀ I : Sym.Inv Unit, LCOk I Try.prog 78 lcThereN1 := by
  refine lc_mk (fun _ => allCfg Try.prog [] tabA 3) (fun _ _ => allCfg_ok mixed trivial tabA_ok) (fun _ => rfl) (n := 80) Try.func78 ?_
  intro ⟨_, r, c⟩ hφ
  refine kcast (B := ((SV.v (Value.int IntKind.i64 (2 : Int)) = SV.v (Value.int IntKind.i64 (2 : Int)) ∧ True) ∧ (SV.v (Value.int IntKind.i64 r) = SV.v (Value.int IntKind.i64 r) ∧ SV.v (Value.int IntKind.i64 c) = SV.v (Value.int IntKind.i64 c) ∧ True) ∧ True)) (by kernel_rfl) ?_
  exact ⟨⟨rfl, trivial⟩, ⟨rfl, rfl, trivial⟩, trivial⟩
set_option maxHeartbeats 4000000 in
theorem ok_thereN2 : ∀ I : Sym.Inv Unit, LCOk I Try.prog 78 lcThereN2 := by
  refine lc_mk (fun _ => allCfg Try.prog [] tabA 3) (fun _ _ => allCfg_ok mixed trivial tabA_ok) (fun _ => rfl) (n := 80) Try.func78 ?_
  intro ⟨_, r, c, r2, c2⟩ hφ
  refine kcast (B := ((SV.v (Value.int IntKind.i64 (2 : Int)) = SV.v (Value.int IntKind.i64 (2 : Int)) ∧ True) ∧ (SV.v (Value.int IntKind.i64 r) = SV.v (Value.int IntKind.i64 r) ∧ SV.v (Value.int IntKind.i64 c) = SV.v (Value.int IntKind.i64 c) ∧ SV.v (Value.int IntKind.i64 r2) = SV.v (Value.int IntKind.i64 r2) ∧ SV.v (Value.int IntKind.i64 c2) = SV.v (Value.int IntKind.i64 c2) ∧ True) ∧ True)) (by kernel_rfl) ?_
  exact ⟨⟨rfl, trivial⟩, ⟨rfl, rfl, rfl, rfl, trivial⟩, trivial⟩
def lcThere : ACon Unit := lcOr (lcOr lcThere1 lcThere2) (lcOr lcThereN1 lcThereN2)
theorem ok_there : ∀ I : Sym.Inv Unit, LCOk I Try.prog 78 lcThere := lcOr_ok (lcOr_ok ok_there1 ok_there2) (lcOr_ok ok_thereN1 ok_thereN2)
def tabB : List (Nat × ACon Unit) := (37, lcNew) :: (78, lcThere) :: tabA
theorem tabB_ok : LCs Try.prog tabB := ⟨ok_new, ok_there, tabA_ok⟩
def at2 (l : List (List C4)) (r c : Int) : C4 := (l.getD r.toNat []).getD c.toNat C4.no
def set2 (l : List (List C4)) (r c : Int) (x : C4) : List (List C4) := l.set r.toNat ((l.getD r.toNat []).set c.toNat x)
def lcAt1 : ACon Unit := mkLC (decP (shCons (shP 0) (shOne shI2)) shG) fun ((_, (r, c)), (oe, ⟨l, oe2, ep⟩)) => .ask (oe = oe2 ∧ GW l) (.br (inB l r c) (.one (.t [cv (at2 l r c), .v (.int .i64 0)]) (gbi 0 oe ep l) []) (.one (.t [cv C4.no, .v (.int .i64 11)]) (gbi 0 oe ep l) []))
def lcAt0 : ACon Unit := mkLC (decP (shCons shNilP (shOne shI2)) shHNil) fun _ => .one (.t [cv C4.no, .v (.int .i64 2)]) [] []
def lcSet1 : ACon Unit := mkLC (decP (shCons (shP 0) (shCons shI2 (shOne shC))) shG) fun ((_, (r, c), x), (oe, ⟨l, oe2, ep⟩)) => .ask (oe = oe2 ∧ GW l) (.br (inB l r c) (.one (.v (.int .i64 0)) (gbi 0 oe ep (set2 l r c x)) [1]) (.one (.v (.int .i64 11)) (gbi 0 oe ep l) [1]))
def lcSet0 : ACon Unit := mkLC (decP (shCons shNilP (shCons shI2 (shOne shC))) shHNil) fun _ => .one (.v (.int .i64 2)) [] []
set_option maxHeartbeats 4000000 in
theorem ok_at1 : ∀ I : Sym.Inv Unit, LCOk I Try.prog 39 lcAt1 := by
  refine lc_mk (fun _ => allCfg Try.prog [] tabB 3) (fun _ _ => allCfg_ok mixed trivial tabB_ok) (fun _ => rfl) (n := 80) Try.func39 ?_
  intro ⟨⟨_, r, c⟩, ⟨oe, ⟨l, oe2, ep⟩⟩⟩ hφ
  obtain ⟨⟨rfl, hg⟩, hp⟩ := id hφ
  refine kcast (B := (true = true ∧ (oe = oe ∧ GW l) ∧ br (inB l r c) (rq (oe.beq oe && (true && decide ((0 : Int) ≤ r ∧ r < (↑(Rws.c l).len : Int)))) (rq (oe.beq oe && r.toNat.blt (Rws.c l).len) (rq (ep.beq ep && r.toNat.blt (Rws.c l).len && ((Rws.c l).sz.beq (4 : Nat) && decide ((0 : Int) ≤ c ∧ c < (↑((Rws.c l).nAt r.toNat) : Int)))) (rq (ep.beq ep && r.toNat.blt (Rws.c l).len && c.toNat.blt (l.getD r.toNat []).length) (br (inB l r c) ((SV.t [SV.a [SV.v (Value.int IntKind.i32 ((l.getD r.toNat []).getD c.toNat C4.no).g), SV.v (Value.int IntKind.i64 ((l.getD r.toNat []).getD c.toNat C4.no).a), SV.v (Value.bool ((l.getD r.toNat []).getD c.toNat C4.no).gd), SV.v (Value.int IntKind.i64 ((l.getD r.toNat []).getD c.toNat C4.no).m)], SV.v (Value.int IntKind.i64 (0 : Int))] = SV.t [SV.a [SV.v (Value.int IntKind.i32 (at2 l r c).g), SV.v (Value.int IntKind.i64 (at2 l r c).a), SV.v (Value.bool (at2 l r c).gd), SV.v (Value.int IntKind.i64 (at2 l r c).m)], SV.v (Value.int IntKind.i64 (0 : Int))] ∧ True) ∧ (SV.h (1 : Nat) [oe, (0 : Nat)] = SV.h (1 : Nat) [oe, (0 : Nat)] ∧ True) ∧ (oe = oe ∧ ep = ep ∧ l = l) ∧ True) ((SV.t [SV.a [SV.v (Value.int IntKind.i32 ((l.getD r.toNat []).getD c.toNat C4.no).g), SV.v (Value.int IntKind.i64 ((l.getD r.toNat []).getD c.toNat C4.no).a), SV.v (Value.bool ((l.getD r.toNat []).getD c.toNat C4.no).gd), SV.v (Value.int IntKind.i64 ((l.getD r.toNat []).getD c.toNat C4.no).m)], SV.v (Value.int IntKind.i64 (0 : Int))] = SV.t [SV.a [SV.v (Value.int IntKind.i32 (0 : Int)), SV.v (Value.int IntKind.i64 (0 : Int)), SV.v (Value.bool false), SV.v (Value.int IntKind.i64 (0 : Int))], SV.v (Value.int IntKind.i64 (11 : Int))] ∧ True) ∧ (SV.h (1 : Nat) [oe, (0 : Nat)] = SV.h (1 : Nat) [oe, (0 : Nat)] ∧ True) ∧ (oe = oe ∧ ep = ep ∧ l = l) ∧ True)))))) (br (inB l r c) ((SV.t [SV.a [SV.v (Value.int IntKind.i32 (0 : Int)), SV.v (Value.int IntKind.i64 (0 : Int)), SV.v (Value.bool false), SV.v (Value.int IntKind.i64 (0 : Int))], SV.v (Value.int IntKind.i64 (11 : Int))] = SV.t [SV.a [SV.v (Value.int IntKind.i32 (at2 l r c).g), SV.v (Value.int IntKind.i64 (at2 l r c).a), SV.v (Value.bool (at2 l r c).gd), SV.v (Value.int IntKind.i64 (at2 l r c).m)], SV.v (Value.int IntKind.i64 (0 : Int))] ∧ True) ∧ (SV.h (1 : Nat) [oe, (0 : Nat)] = SV.h (1 : Nat) [oe, (0 : Nat)] ∧ True) ∧ (oe = oe ∧ ep = ep ∧ l = l) ∧ True) ((SV.t [SV.a [SV.v (Value.int IntKind.i32 (0 : Int)), SV.v (Value.int IntKind.i64 (0 : Int)), SV.v (Value.bool false), SV.v (Value.int IntKind.i64 (0 : Int))], SV.v (Value.int IntKind.i64 (11 : Int))] = SV.t [SV.a [SV.v (Value.int IntKind.i32 (0 : Int)), SV.v (Value.int IntKind.i64 (0 : Int)), SV.v (Value.bool false), SV.v (Value.int IntKind.i64 (0 : Int))], SV.v (Value.int IntKind.i64 (11 : Int))] ∧ True) ∧ (SV.h (1 : Nat) [oe, (0 : Nat)] = SV.h (1 : Nat) [oe, (0 : Nat)] ∧ True) ∧ (oe = oe ∧ ep = ep ∧ l = l) ∧ True)))) (by kernel_rfl) ?_
  refine ⟨rfl, ⟨rfl, hg⟩, ?_⟩
  clear hp hφ
  cases h : inB l r c
  · simp only [br_iff, Bool.false_eq_true, false_implies, true_implies, true_and, and_true]
  · rw [inB_iff] at h
    have hr : r.toNat < l.length := by omega
    have h1 : Nat.blt r.toNat (Rws.c l).len = true := by rw [Nat.blt_eq]; exact hr
    have h2 : Nat.blt c.toNat (l.getD r.toNat (LC4 [])).length = true := by rw [Nat.blt_eq, hg.row hr]; omega
    have h3 : ((Rws.c l).nAt r.toNat : Int) = nC l := by show ((l.getD r.toNat []).length : Int) = _; rw [hg.row hr]
    have h4 : ((Rws.c l).len : Int) = l.length := rfl
    have h5 : Nat.beq (Rws.c l).sz 4 = true := rfl
    simp only [br_iff, rq_iff, nbeq, h1, h2, h3, h4, h5, Bool.true_eq_false, false_implies, true_implies, true_and, and_true, Bool.true_and, Bool.and_true, decide_eq_true_eq]
    exact ⟨⟨by omega, by omega⟩, ⟨by omega, by omega⟩, rfl⟩
set_option maxHeartbeats 4000000 in
theorem ok_set1 : ∀ I : Sym.Inv Unit, LCOk I Try.prog 65 lcSet1 := by
  refine lc_mk (fun _ => allCfg Try.prog [] tabB 3) (fun _ _ => allCfg_ok mixed trivial tabB_ok) (fun _ => rfl) (n := 80) Try.func65 ?_
  intro ⟨⟨_, ⟨r, c⟩, x⟩, ⟨oe, ⟨l, oe2, ep⟩⟩⟩ hφ
  obtain ⟨⟨rfl, hg⟩, hp⟩ := id hφ
  refine kcast (B := (true = true ∧ (oe = oe ∧ GW l) ∧ br (inB l r c) (rq (oe.beq oe && (true && decide ((0 : Int) ≤ r ∧ r < (↑(Rws.c l).len : Int)))) (rq (oe.beq oe && r.toNat.blt (Rws.c l).len) (rq (ep.beq ep && r.toNat.blt (Rws.c l).len && ((Rws.c l).sz.beq (4 : Nat) && decide ((0 : Int) ≤ c ∧ c < (↑((Rws.c l).nAt r.toNat) : Int)))) (rq (ep.beq ep && r.toNat.blt (Rws.c l).len && c.toNat.blt (l.getD r.toNat []).length) (br (inB l r c) ((SV.v (Value.int IntKind.i64 (0 : Int)) = SV.v (Value.int IntKind.i64 (0 : Int)) ∧ True) ∧ (SV.h (1 : Nat) [oe, (0 : Nat)] = SV.h (1 : Nat) [oe, (0 : Nat)] ∧ True) ∧ (oe = oe ∧ ep = ep ∧ l.set r.toNat ((l.getD r.toNat []).set c.toNat (C4.mk x.g x.a x.gd x.m)) = set2 l r c x) ∧ True) ((SV.v (Value.int IntKind.i64 (0 : Int)) = SV.v (Value.int IntKind.i64 (11 : Int)) ∧ True) ∧ (SV.h (1 : Nat) [oe, (0 : Nat)] = SV.h (1 : Nat) [oe, (0 : Nat)] ∧ True) ∧ (oe = oe ∧ ep = ep ∧ l.set r.toNat ((l.getD r.toNat []).set c.toNat (C4.mk x.g x.a x.gd x.m)) = l) ∧ True)))))) (br (inB l r c) ((SV.v (Value.int IntKind.i64 (11 : Int)) = SV.v (Value.int IntKind.i64 (0 : Int)) ∧ True) ∧ (SV.h (1 : Nat) [oe, (0 : Nat)] = SV.h (1 : Nat) [oe, (0 : Nat)] ∧ True) ∧ (oe = oe ∧ ep = ep ∧ l = set2 l r c x) ∧ True) ((SV.v (Value.int IntKind.i64 (11 : Int)) = SV.v (Value.int IntKind.i64 (11 : Int)) ∧ True) ∧ (SV.h (1 : Nat) [oe, (0 : Nat)] = SV.h (1 : Nat) [oe, (0 : Nat)] ∧ True) ∧ (oe = oe ∧ ep = ep ∧ l = l) ∧ True)))) (by kernel_rfl) ?_
  refine ⟨rfl, ⟨rfl, hg⟩, ?_⟩
  clear hp hφ
  cases h : inB l r c
  · simp only [br_iff, Bool.false_eq_true, false_implies, true_implies, true_and, and_true]
  · rw [inB_iff] at h
    have hr : r.toNat < l.length := by omega
    have h1 : Nat.blt r.toNat (Rws.c l).len = true := by rw [Nat.blt_eq]; exact hr
    have h2 : Nat.blt c.toNat (l.getD r.toNat (LC4 [])).length = true := by rw [Nat.blt_eq, hg.row hr]; omega
    have h3 : ((Rws.c l).nAt r.toNat : Int) = nC l := by show ((l.getD r.toNat []).length : Int) = _; rw [hg.row hr]
    have h4 : ((Rws.c l).len : Int) = l.length := rfl
    have h5 : Nat.beq (Rws.c l).sz 4 = true := rfl
    simp only [br_iff, rq_iff, nbeq, h1, h2, h3, h4, h5, Bool.true_eq_false, false_implies, true_implies, true_and, and_true, Bool.true_and, Bool.and_true, decide_eq_true_eq]
    exact ⟨⟨by omega, by omega⟩, ⟨by omega, by omega⟩, rfl⟩
set_option maxHeartbeats 4000000 in
theorem ok_at0 : ∀ I : Sym.Inv Unit, LCOk I Try.prog 39 lcAt0 := by
  refine lc_mk (fun _ => allCfg Try.prog [] tabB 3) (fun _ _ => allCfg_ok mixed trivial tabB_ok) (fun _ => rfl) (n := 80) Try.func39 ?_
  intro ⟨⟨_, r, c⟩, _⟩ hφ
  refine kcast (B := (true = true ∧ (SV.t [SV.a [SV.v (Value.int IntKind.i32 (0 : Int)), SV.v (Value.int IntKind.i64 (0 : Int)), SV.v (Value.bool false), SV.v (Value.int IntKind.i64 (0 : Int))], SV.v (Value.int IntKind.i64 (2 : Int))] = SV.t [SV.a [SV.v (Value.int IntKind.i32 (0 : Int)), SV.v (Value.int IntKind.i64 (0 : Int)), SV.v (Value.bool false), SV.v (Value.int IntKind.i64 (0 : Int))], SV.v (Value.int IntKind.i64 (2 : Int))] ∧ True) ∧ True)) (by kernel_rfl) ?_
  exact ⟨rfl, ⟨rfl, trivial⟩, trivial⟩
set_option maxHeartbeats 4000000 in
theorem ok_set0 : ∀ I : Sym.Inv Unit, LCOk I Try.prog 65 lcSet0 := by
  refine lc_mk (fun _ => allCfg Try.prog [] tabB 3) (fun _ _ => allCfg_ok mixed trivial tabB_ok) (fun _ => rfl) (n := 80) Try.func65 ?_
  intro ⟨⟨_, ⟨r, c⟩, x⟩, _⟩ hφ
  refine kcast (B := (true = true ∧ (SV.v (Value.int IntKind.i64 (2 : Int)) = SV.v (Value.int IntKind.i64 (2 : Int)) ∧ True) ∧ True)) (by kernel_rfl) ?_
  exact ⟨rfl, ⟨rfl, trivial⟩, trivial⟩
def lcAt : ACon Unit := lcOr lcAt1 lcAt0
theorem ok_at : ∀ I : Sym.Inv Unit, LCOk I Try.prog 39 lcAt := lcOr_ok ok_at1 ok_at0
def lcSet : ACon Unit := lcOr lcSet1 lcSet0
theorem ok_set : ∀ I : Sym.Inv Unit, LCOk I Try.prog 65 lcSet := lcOr_ok ok_set1 ok_set0
end Go.Proofs.Ytdhhagangmkloaa
namespace Go.Proofs.Ytdhhagangmkloaa
open Go Go.Sym
def shF {α : Type} (g : Nat) (s : ShL α) : Sh α where
  enc a := .f (.func g) (s.enc a)
  dec x := match x with
    | .f fn l => match fn with
      | .func g' => match Nat.beq g' g with
        | true => s.dec l
        | false => none
      | _ => none
    | _ => none
  ok x a h := by
    split at h
    · split at h
      · split at h
        · rename_i hg
          rw [Nat.beq_eq] at hg
          subst hg
          rw [s.ok _ _ h]
        · cases h
      · cases h
    · cases h
def shSub (b : Nat) : Sh (Nat × Nat × Nat × Nat) where
  enc a := .h b [a.1, 1, a.2.1, a.2.2.1, a.2.2.2, 0]
  dec x := match x with
    | .h b' q => match Nat.beq b' b with
      | true => match q with
        | [ep, o, r, lo, len, z] => match o with
          | 1 => match z with
            | 0 => some (ep, r, lo, len)
            | _ => none
          | _ => none
        | _ => none
      | false => none
    | _ => none
  ok x a h := by
    split at h
    · split at h
      · rename_i hT
        rw [Nat.beq_eq] at hT
        subst hT
        split at h
        · split at h
          · split at h
            · simp only [Option.some.injEq] at h; subst h; rfl
            · cases h
          · cases h
        · cases h
      · cases h
    · cases h
def mvAt {α : Type} (l : List α) (d : α) (n : Int) (x : α) (i : Nat) : α := if n > (l.length : Int) - 1 - i ∨ n < -(i : Int) then x else l.getD (i + n).toNat d
def movedL {α : Type} (l : List α) (d : α) (n : Int) (x : α) : List α := (List.range l.length).map (mvAt l d n x)
theorem movedL_length {α : Type} (l : List α) (d : α) (n : Int) (x : α) : (movedL l d n x).length = l.length := by simp [movedL]
theorem movedL_succ {α : Type} {l : List α} {d : α} {n : Int} {x : α} {k : Int} (h0 : 0 ≤ k) (h1 : k < l.length) : (movedL l d n x).take (k + 1).toNat = (movedL l d n x).take k.toNat ++ [mvAt l d n x k.toNat] := by
  rw [show (k + 1).toNat = k.toNat + 1 by omega, List.take_succ_eq_append_getElem (by rw [movedL_length]; omega)]
  simp [movedL]
def part {α : Type} (r : List α) (a b : Nat) : List α := (r.drop a).take (b + 1 - a)
def slideL (r : List C4) (a b : Nat) (n : Int) (x : C4) : List C4 := r.take a ++ (movedL (part r a b) C4.no n x ++ r.drop (a + (b + 1 - a)))
def annM (p : List C4) (n : Int) (x : C4) : Ann Unit where
  α := Int
  φ _ k := 0 ≤ k ∧ k ≤ p.length
  μ _ k := ((p.length : Int) - k).toNat
  get st := getI st.tm 14
  f st k := tmpl [0, 1, 2, 13] [(14, .v (.int .i64 k)), (7, .h 2 [k.toNat, 0])] [(2, .own (.recs ((movedL p C4.no n x).take k.toNat)) k.toNat 38 4 k.toNat true)] st
def lcMov : ACon Unit := mkLC (decP (shCons (shSub 0) (shCons shI (shOne (shF 102 (shOne (shP 1)))))) (shHCons (shRowsC 38 92) (shHOne (shCells shCL 38))))
  fun (((ep, r, lo, len), n, _), (⟨l, oe, ep2⟩, x)) => .ask (ep = ep2 ∧ r < l.length ∧ lo + len ≤ (l.getD r []).length ∧ (l.getD r []).length ≤ 255 ∧ 0 < len) (.one (.h 2 [len, 0])
    [.rows (.c l) 38 92 oe ep none, .cells (recS x) 38, .own (.recs (movedL (((l.getD r []).drop lo).take len) C4.no n x)) len 38 4 len true] [])
set_option maxHeartbeats 4000000 in
theorem ok_mov : ∀ I : Sym.Inv Unit, LCOk I Try.prog 101 lcMov := by
  refine lc_mk (fun (((ep, r, lo, len), n, _), (⟨l, oe, ep2⟩, x)) => allCfg Try.prog [] tabB 3 [(257, annM (((l.getD r []).drop lo).take len) n x)]) (fun _ _ => allCfg_ok mixed trivial tabB_ok) (fun _ => rfl) (n := 80) Try.func101 ?_
  intro ⟨⟨⟨ep, r, lo, len⟩, n, _⟩, ⟨l, oe, ep2⟩, x⟩ hφ
  obtain ⟨⟨rfl, h1, h2, h3, h4⟩, hp⟩ := id hφ
  refine kcast (B := (rq (ep.beq ep && r.blt (Rws.c l).len && Nat.blt (0 : Nat) ((Rws.c l).nAt r)) (rq (decide ((0 : Int) ≤ (0 : Int) ∧ (0 : Int) ≤ (↑len : Int) ∧ (↑(32 : Nat) : Int) * (↑len : Int) ≤ (281474976710656 : Int) ∧ (↑len : Int) ≤ (9223372036854775807 : Int))) (rq (ep.beq ep && r.blt (Rws.c l).len && Nat.blt (0 : Nat) ((Rws.c l).nAt r)) ((II (0 : Int) ≤ (0 : Int) ∧ (0 : Int) ≤ (↑(List.take len (List.drop lo (l.getD r []))).length : Int)) ∧ ((SV.h (0 : Nat) [ep, (1 : Nat), r, lo, len, (0 : Nat)] = SV.h (0 : Nat) [ep, (1 : Nat), r, lo, len, (0 : Nat)] ∧ SV.v (Value.int IntKind.i64 n) = SV.v (Value.int IntKind.i64 n) ∧ SV.f (Fn.func (102 : Nat)) [SV.p (1 : Nat) (0 : Nat)] = SV.f (Fn.func (102 : Nat)) [SV.p (1 : Nat) (0 : Nat)] ∧ SV.h (2 : Nat) [(0 : Nat), (0 : Nat)] = SV.h (2 : Nat) [(0 : Nat), (0 : Nat)] ∧ SV.v (Value.int IntKind.i64 (↑len : Int)) = SV.v (Value.int IntKind.i64 (↑len : Int)) ∧ SV.v (Value.int IntKind.i64 (0 : Int)) = SV.v (Value.int IntKind.i64 (0 : Int)) ∧ True) ∧ (oe = oe ∧ ep = ep ∧ l = l) ∧ (SV.v (Value.int IntKind.i32 x.g) = SV.v (Value.int IntKind.i32 x.g) ∧ SV.v (Value.int IntKind.i64 x.a) = SV.v (Value.int IntKind.i64 x.a) ∧ SV.v (Value.bool x.gd) = SV.v (Value.bool x.gd) ∧ SV.v (Value.int IntKind.i64 x.m) = SV.v (Value.int IntKind.i64 x.m) ∧ True) ∧ ((0 : Nat) = (0 : Nat) ∧ (0 : Nat) = (0 : Nat) ∧ LC4 [] = []) ∧ True) ∧ ∀ (x_1 : Int), (0 : Int) ≤ x_1 ∧ x_1 ≤ (↑(List.take len (List.drop lo (l.getD r []))).length : Int) → br (decide (x_1 < (↑len : Int))) (rq (ep.beq ep && r.blt (Rws.c l).len && Nat.blt (0 : Nat) ((Rws.c l).nAt r)) (br (decide (n > IntKind.i64.wrap (IntKind.i64.wrap ((↑len : Int) - (1 : Int)) - x_1))) (rq (x_1.toNat.beq x_1.toNat && (true && decide (x_1.toNat + (1 : Nat) ≤ (9223372036854775807 : Nat) ∧ (x_1.toNat + (1 : Nat)) * (32 : Nat) ≤ (140737488355328 : Nat)))) (((0 : Int) ≤ IntKind.i64.wrap (x_1 + (1 : Int)) ∧ IntKind.i64.wrap (x_1 + (1 : Int)) ≤ (↑(List.take len (List.drop lo (l.getD r []))).length : Int)) ∧ ((SV.h (0 : Nat) [ep, (1 : Nat), r, lo, len, (0 : Nat)] = SV.h (0 : Nat) [ep, (1 : Nat), r, lo, len, (0 : Nat)] ∧ SV.v (Value.int IntKind.i64 n) = SV.v (Value.int IntKind.i64 n) ∧ SV.f (Fn.func (102 : Nat)) [SV.p (1 : Nat) (0 : Nat)] = SV.f (Fn.func (102 : Nat)) [SV.p (1 : Nat) (0 : Nat)] ∧ SV.h (2 : Nat) [x_1.toNat + (1 : Nat), (0 : Nat)] = SV.h (2 : Nat) [(IntKind.i64.wrap (x_1 + (1 : Int))).toNat, (0 : Nat)] ∧ SV.v (Value.int IntKind.i64 (↑len : Int)) = SV.v (Value.int IntKind.i64 (↑len : Int)) ∧ SV.v (Value.int IntKind.i64 (IntKind.i64.wrap (x_1 + (1 : Int)))) = SV.v (Value.int IntKind.i64 (IntKind.i64.wrap (x_1 + (1 : Int)))) ∧ True) ∧ (oe = oe ∧ ep = ep ∧ l = l) ∧ (SV.v (Value.int IntKind.i32 x.g) = SV.v (Value.int IntKind.i32 x.g) ∧ SV.v (Value.int IntKind.i64 x.a) = SV.v (Value.int IntKind.i64 x.a) ∧ SV.v (Value.bool x.gd) = SV.v (Value.bool x.gd) ∧ SV.v (Value.int IntKind.i64 x.m) = SV.v (Value.int IntKind.i64 x.m) ∧ True) ∧ (x_1.toNat + (1 : Nat) = (IntKind.i64.wrap (x_1 + (1 : Int))).toNat ∧ x_1.toNat + (1 : Nat) = (IntKind.i64.wrap (x_1 + (1 : Int))).toNat ∧ List.take x_1.toNat (movedL (List.take len (List.drop lo (l.getD r []))) C4.no n x) ++ [C4.mk x.g x.a x.gd x.m] = List.take (IntKind.i64.wrap (x_1 + (1 : Int))).toNat (movedL (List.take len (List.drop lo (l.getD r []))) C4.no n x)) ∧ True) ∧ ((↑(List.take len (List.drop lo (l.getD r []))).length : Int) - IntKind.i64.wrap (x_1 + (1 : Int))).toNat < ((↑(List.take len (List.drop lo (l.getD r []))).length : Int) - x_1).toNat)) (br (decide (n < IntKind.i64.wrap ((0 : Int) - x_1))) (rq (x_1.toNat.beq x_1.toNat && (true && decide (x_1.toNat + (1 : Nat) ≤ (9223372036854775807 : Nat) ∧ (x_1.toNat + (1 : Nat)) * (32 : Nat) ≤ (140737488355328 : Nat)))) (((0 : Int) ≤ IntKind.i64.wrap (x_1 + (1 : Int)) ∧ IntKind.i64.wrap (x_1 + (1 : Int)) ≤ (↑(List.take len (List.drop lo (l.getD r []))).length : Int)) ∧ ((SV.h (0 : Nat) [ep, (1 : Nat), r, lo, len, (0 : Nat)] = SV.h (0 : Nat) [ep, (1 : Nat), r, lo, len, (0 : Nat)] ∧ SV.v (Value.int IntKind.i64 n) = SV.v (Value.int IntKind.i64 n) ∧ SV.f (Fn.func (102 : Nat)) [SV.p (1 : Nat) (0 : Nat)] = SV.f (Fn.func (102 : Nat)) [SV.p (1 : Nat) (0 : Nat)] ∧ SV.h (2 : Nat) [x_1.toNat + (1 : Nat), (0 : Nat)] = SV.h (2 : Nat) [(IntKind.i64.wrap (x_1 + (1 : Int))).toNat, (0 : Nat)] ∧ SV.v (Value.int IntKind.i64 (↑len : Int)) = SV.v (Value.int IntKind.i64 (↑len : Int)) ∧ SV.v (Value.int IntKind.i64 (IntKind.i64.wrap (x_1 + (1 : Int)))) = SV.v (Value.int IntKind.i64 (IntKind.i64.wrap (x_1 + (1 : Int)))) ∧ True) ∧ (oe = oe ∧ ep = ep ∧ l = l) ∧ (SV.v (Value.int IntKind.i32 x.g) = SV.v (Value.int IntKind.i32 x.g) ∧ SV.v (Value.int IntKind.i64 x.a) = SV.v (Value.int IntKind.i64 x.a) ∧ SV.v (Value.bool x.gd) = SV.v (Value.bool x.gd) ∧ SV.v (Value.int IntKind.i64 x.m) = SV.v (Value.int IntKind.i64 x.m) ∧ True) ∧ (x_1.toNat + (1 : Nat) = (IntKind.i64.wrap (x_1 + (1 : Int))).toNat ∧ x_1.toNat + (1 : Nat) = (IntKind.i64.wrap (x_1 + (1 : Int))).toNat ∧ List.take x_1.toNat (movedL (List.take len (List.drop lo (l.getD r []))) C4.no n x) ++ [C4.mk x.g x.a x.gd x.m] = List.take (IntKind.i64.wrap (x_1 + (1 : Int))).toNat (movedL (List.take len (List.drop lo (l.getD r []))) C4.no n x)) ∧ True) ∧ ((↑(List.take len (List.drop lo (l.getD r []))).length : Int) - IntKind.i64.wrap (x_1 + (1 : Int))).toNat < ((↑(List.take len (List.drop lo (l.getD r []))).length : Int) - x_1).toNat)) (rq (ep.beq ep && r.blt (Rws.c l).len && ((Rws.c l).sz.beq (4 : Nat) && ((lo + len).ble ((Rws.c l).nAt r) && decide ((0 : Int) ≤ IntKind.i64.wrap (x_1 + n) ∧ IntKind.i64.wrap (x_1 + n) < (↑len : Int))))) (rq (ep.beq ep && r.blt (Rws.c l).len && (lo + (IntKind.i64.wrap (x_1 + n)).toNat).blt (l.getD r []).length) (rq (x_1.toNat.beq x_1.toNat && (true && decide (x_1.toNat + (1 : Nat) ≤ (9223372036854775807 : Nat) ∧ (x_1.toNat + (1 : Nat)) * (32 : Nat) ≤ (140737488355328 : Nat)))) (((0 : Int) ≤ IntKind.i64.wrap (x_1 + (1 : Int)) ∧ IntKind.i64.wrap (x_1 + (1 : Int)) ≤ (↑(List.take len (List.drop lo (l.getD r []))).length : Int)) ∧ ((SV.h (0 : Nat) [ep, (1 : Nat), r, lo, len, (0 : Nat)] = SV.h (0 : Nat) [ep, (1 : Nat), r, lo, len, (0 : Nat)] ∧ SV.v (Value.int IntKind.i64 n) = SV.v (Value.int IntKind.i64 n) ∧ SV.f (Fn.func (102 : Nat)) [SV.p (1 : Nat) (0 : Nat)] = SV.f (Fn.func (102 : Nat)) [SV.p (1 : Nat) (0 : Nat)] ∧ SV.h (2 : Nat) [x_1.toNat + (1 : Nat), (0 : Nat)] = SV.h (2 : Nat) [(IntKind.i64.wrap (x_1 + (1 : Int))).toNat, (0 : Nat)] ∧ SV.v (Value.int IntKind.i64 (↑len : Int)) = SV.v (Value.int IntKind.i64 (↑len : Int)) ∧ SV.v (Value.int IntKind.i64 (IntKind.i64.wrap (x_1 + (1 : Int)))) = SV.v (Value.int IntKind.i64 (IntKind.i64.wrap (x_1 + (1 : Int)))) ∧ True) ∧ (oe = oe ∧ ep = ep ∧ l = l) ∧ (SV.v (Value.int IntKind.i32 x.g) = SV.v (Value.int IntKind.i32 x.g) ∧ SV.v (Value.int IntKind.i64 x.a) = SV.v (Value.int IntKind.i64 x.a) ∧ SV.v (Value.bool x.gd) = SV.v (Value.bool x.gd) ∧ SV.v (Value.int IntKind.i64 x.m) = SV.v (Value.int IntKind.i64 x.m) ∧ True) ∧ (x_1.toNat + (1 : Nat) = (IntKind.i64.wrap (x_1 + (1 : Int))).toNat ∧ x_1.toNat + (1 : Nat) = (IntKind.i64.wrap (x_1 + (1 : Int))).toNat ∧ List.take x_1.toNat (movedL (List.take len (List.drop lo (l.getD r []))) C4.no n x) ++ [C4.mk ((l.getD r []).getD (lo + (IntKind.i64.wrap (x_1 + n)).toNat) C4.no).g ((l.getD r []).getD (lo + (IntKind.i64.wrap (x_1 + n)).toNat) C4.no).a ((l.getD r []).getD (lo + (IntKind.i64.wrap (x_1 + n)).toNat) C4.no).gd ((l.getD r []).getD (lo + (IntKind.i64.wrap (x_1 + n)).toNat) C4.no).m] = List.take (IntKind.i64.wrap (x_1 + (1 : Int))).toNat (movedL (List.take len (List.drop lo (l.getD r []))) C4.no n x)) ∧ True) ∧ ((↑(List.take len (List.drop lo (l.getD r []))).length : Int) - IntKind.i64.wrap (x_1 + (1 : Int))).toNat < ((↑(List.take len (List.drop lo (l.getD r []))).length : Int) - x_1).toNat))))))) ((SV.h (2 : Nat) [x_1.toNat, (0 : Nat)] = SV.h (2 : Nat) [len, (0 : Nat)] ∧ True) ∧ (oe = oe ∧ ep = ep ∧ l = l) ∧ (SV.v (Value.int IntKind.i32 x.g) = SV.v (Value.int IntKind.i32 x.g) ∧ SV.v (Value.int IntKind.i64 x.a) = SV.v (Value.int IntKind.i64 x.a) ∧ SV.v (Value.bool x.gd) = SV.v (Value.bool x.gd) ∧ SV.v (Value.int IntKind.i64 x.m) = SV.v (Value.int IntKind.i64 x.m) ∧ True) ∧ (x_1.toNat = len ∧ x_1.toNat = len ∧ List.take x_1.toNat (movedL (List.take len (List.drop lo (l.getD r []))) C4.no n x) = movedL (List.take len (List.drop lo (l.getD r []))) C4.no n x) ∧ True)))))) (by kernel_rfl) ?_
  clear hp hφ
  have b1 : Nat.blt r (Rws.c l).len = true := by rw [Nat.blt_eq]; exact h1
  have e1 : (Rws.c l).nAt r = (l.getD r []).length := rfl
  have e2 : Nat.beq (Rws.c l).sz 4 = true := rfl
  have hpl : (((l.getD r []).drop lo).take len).length = len := by rw [List.length_take, List.length_drop]; omega
  have hget : ∀ j, j < len → (((l.getD r []).drop lo).take len).getD j C4.no = (l.getD r []).getD (lo + j) C4.no := fun j hj => by
    rw [List.getD, List.getElem?_take_of_lt hj, List.getElem?_drop]; rfl
  simp only [LC4, II, b1, e1, e2]
  generalize hpp : ((l.getD r []).drop lo).take len = p at hpl hget ⊢
  simp only [rq_iff, br_iff, nbeq, hpl, Bool.true_and, Bool.and_true, true_and, and_true, Bool.and_eq_true, Nat.ble_eq, Nat.blt_eq, decide_eq_true_eq, decide_eq_false_iff_not]
  refine ⟨by omega, by omega, by omega, ⟨by omega, by omega⟩, fun k ⟨hk0, hk1⟩ => ⟨fun hlt => ⟨by omega, ?_⟩, fun hge => ?_⟩⟩
  · rw [wrap64 (x := (len : Int) - 1) (by omega) (by omega), wrap64 (x := (len : Int) - 1 - k) (by omega) (by omega), wrap64 (x := k + 1) (by omega) (by omega), wrap64 (x := 0 - k) (by omega) (by omega)]
    have hs := movedL_succ (l := p) (d := C4.no) (n := n) (x := x) hk0 (by omega)
    have e3 : k.toNat + 1 = (k + 1).toNat := by omega
    have e4 : ((k.toNat : Nat) : Int) = k := by omega
    rw [e3, hs]
    refine ⟨fun h5 => ?_, fun h5 => ⟨fun h6 => ?_, fun h6 => ?_⟩⟩
    · have : mvAt p C4.no n x k.toNat = x := if_pos (.inl (by rw [hpl, e4]; omega))
      rw [this]
      exact ⟨⟨by omega, by omega⟩, ⟨by omega, by omega⟩, ⟨rfl, rfl, rfl, rfl⟩, by omega⟩
    · have : mvAt p C4.no n x k.toNat = x := if_pos (.inr (by rw [e4]; omega))
      rw [this]
      exact ⟨⟨by omega, by omega⟩, ⟨by omega, by omega⟩, ⟨rfl, rfl, rfl, rfl⟩, by omega⟩
    · have : mvAt p C4.no n x k.toNat = (l.getD r []).getD (lo + (k + n).toNat) C4.no := by
        unfold mvAt
        rw [if_neg (by rw [hpl, e4]; omega), e4]
        exact hget _ (by omega)
      rw [wrap64 (x := k + n) (by omega) (by omega), this]
      exact ⟨⟨by omega, by omega, by omega⟩, by omega, ⟨by omega, by omega⟩, ⟨by omega, by omega⟩, ⟨rfl, rfl, rfl, rfl⟩, by omega⟩
  · have hk : k = len := by omega
    subst hk
    have : (movedL p C4.no n x).take (Int.toNat (len : Int)) = movedL p C4.no n x := List.take_of_length_le (by rw [movedL_length, hpl]; omega)
    rw [this]
    simp
def tabC : List (Nat × ACon Unit) := (101, lcMov) :: (39, lcAt) :: (65, lcSet) :: tabB
theorem tabC_ok : LCs Try.prog tabC := ⟨ok_mov, ok_at, ok_set, tabB_ok⟩
def slide2 (l : List (List C4)) (r a b n : Int) (x : C4) : List (List C4) := l.set r.toNat (slideL (l.getD r.toNat []) a.toNat b.toNat n x)
def lcSlide1 : ACon Unit := mkLC (decP (shCons (shP 0) (shCons shI (shCons shI (shCons shI (shCons shI (shOne shC)))))) shG) fun ((_, r, a, b, n, x), (oe, ⟨l, oe2, ep⟩)) => .ask (oe = oe2 ∧ GW l) (.br (inB l r a && inB l r b)
  (.br (decide (b < a)) (.one (.v (.int .i64 1)) (gbi 0 oe ep l) [1]) (.one (.v (.int .i64 0)) (gbi 0 oe ep (slide2 l r a b n x)) [1])) (.one (.v (.int .i64 11)) (gbi 0 oe ep l) [1]))
def lcSlide0 : ACon Unit := mkLC (decP (shCons shNilP (shCons shI (shCons shI (shCons shI (shCons shI (shOne shC)))))) shHNil) fun _ => .one (.v (.int .i64 2)) [] []
set_option maxHeartbeats 4000000 in
theorem ok_slide1 : ∀ I : Sym.Inv Unit, LCOk I Try.prog 70 lcSlide1 := by
  refine lc_mk (fun _ => allCfg Try.prog [] tabC 3) (fun _ _ => allCfg_ok mixed trivial tabC_ok) (fun _ => rfl) (n := 80) Try.func70 ?_
  intro ⟨⟨_, r, a, b, n, x⟩, ⟨oe, ⟨l, oe2, ep⟩⟩⟩ hφ
  obtain ⟨⟨rfl, hg⟩, hp⟩ := id hφ
  refine kcast (B := (true = true ∧ (oe = oe ∧ GW l) ∧ br (inB l r a && inB l r b) (br (decide (b < a)) (br (inB l r a && inB l r b) (br (decide (b < a)) ((SV.v (Value.int IntKind.i64 (1 : Int)) = SV.v (Value.int IntKind.i64 (1 : Int)) ∧ True) ∧ (SV.h (1 : Nat) [oe, (0 : Nat)] = SV.h (1 : Nat) [oe, (0 : Nat)] ∧ True) ∧ (oe = oe ∧ ep = ep ∧ l = l) ∧ True) ((SV.v (Value.int IntKind.i64 (1 : Int)) = SV.v (Value.int IntKind.i64 (0 : Int)) ∧ True) ∧ (SV.h (1 : Nat) [oe, (0 : Nat)] = SV.h (1 : Nat) [oe, (0 : Nat)] ∧ True) ∧ (oe = oe ∧ ep = ep ∧ l = slide2 l r a b n x) ∧ True)) ((SV.v (Value.int IntKind.i64 (1 : Int)) = SV.v (Value.int IntKind.i64 (11 : Int)) ∧ True) ∧ (SV.h (1 : Nat) [oe, (0 : Nat)] = SV.h (1 : Nat) [oe, (0 : Nat)] ∧ True) ∧ (oe = oe ∧ ep = ep ∧ l = l) ∧ True)) (rq (oe.beq oe && (true && decide ((0 : Int) ≤ r ∧ r < (↑(Rws.c l).len : Int)))) (rq (oe.beq oe && r.toNat.blt (Rws.c l).len) (rq (ep.beq ep && r.toNat.blt (Rws.c l).len && ((Rws.c l).sz.beq (4 : Nat) && decide ((0 : Int) ≤ a ∧ a ≤ (↑((Rws.c l).nAt r.toNat) : Int) ∧ (↑((Rws.c l).nAt r.toNat) : Int) ≤ (↑((Rws.c l).nAt r.toNat) : Int)))) (rq (oe.beq oe && (true && decide ((0 : Int) ≤ r ∧ r < (↑(Rws.c l).len : Int)))) (rq (oe.beq oe && r.toNat.blt (Rws.c l).len) (rq (ep.beq ep && r.toNat.blt (Rws.c l).len && ((Rws.c l).sz.beq (4 : Nat) && decide ((0 : Int) ≤ a ∧ a ≤ IntKind.i64.wrap (b + (1 : Int)) ∧ IntKind.i64.wrap (b + (1 : Int)) ≤ (↑((Rws.c l).nAt r.toNat) : Int)))) (true = true ∧ (ep = ep ∧ r.toNat < l.length ∧ a.toNat + ((IntKind.i64.wrap (b + (1 : Int))).toNat - a.toNat) ≤ (l.getD r.toNat []).length ∧ (l.getD r.toNat []).length ≤ (255 : Nat) ∧ (0 : Nat) < (IntKind.i64.wrap (b + (1 : Int))).toNat - a.toNat) ∧ rq (ep.beq ep && r.toNat.blt (Rws.c l).len && (((IntKind.i64.wrap (b + (1 : Int))).toNat - a.toNat).beq ((IntKind.i64.wrap (b + (1 : Int))).toNat - a.toNat) && Nat.beq (4 : Nat) (Rws.c l).sz && (szN ((Rws.c l).at r.toNat) (Rws.c l).sz && ((Rws.c l).sz.beq (4 : Nat) && (true && ((a.toNat + ((↑((Rws.c l).nAt r.toNat) : Int).toNat - a.toNat)).ble ((Rws.c l).nAt r.toNat) && Nat.blt (0 : Nat) ((Rws.c l).nAt r.toNat))))))) ((oe = oe ∧ ep = ep ∧ l = l) ∧ (oe = oe ∧ ep = ep ∧ l = l) ∧ (oe = oe ∧ ep = ep ∧ l = l) ∧ br (inB l r a && inB l r b) (br (decide (b < a)) ((SV.v (Value.int IntKind.i64 (0 : Int)) = SV.v (Value.int IntKind.i64 (1 : Int)) ∧ True) ∧ (SV.h (1 : Nat) [oe, (0 : Nat)] = SV.h (1 : Nat) [oe, (0 : Nat)] ∧ True) ∧ (oe = oe ∧ ep = ep ∧ l.set r.toNat (List.take a.toNat (l.getD r.toNat []) ++ (List.take (((IntKind.i64.wrap (b + (1 : Int))).toNat - a.toNat).min ((↑((Rws.c l).nAt r.toNat) : Int).toNat - a.toNat)) (movedL (List.take ((IntKind.i64.wrap (b + (1 : Int))).toNat - a.toNat) (List.drop a.toNat (l.getD r.toNat []))) C4.no n (C4.mk x.g x.a x.gd x.m)) ++ List.drop (a.toNat + ((IntKind.i64.wrap (b + (1 : Int))).toNat - a.toNat).min ((↑((Rws.c l).nAt r.toNat) : Int).toNat - a.toNat)) (l.getD r.toNat []))) = l) ∧ True) ((SV.v (Value.int IntKind.i64 (0 : Int)) = SV.v (Value.int IntKind.i64 (0 : Int)) ∧ True) ∧ (SV.h (1 : Nat) [oe, (0 : Nat)] = SV.h (1 : Nat) [oe, (0 : Nat)] ∧ True) ∧ (oe = oe ∧ ep = ep ∧ l.set r.toNat (List.take a.toNat (l.getD r.toNat []) ++ (List.take (((IntKind.i64.wrap (b + (1 : Int))).toNat - a.toNat).min ((↑((Rws.c l).nAt r.toNat) : Int).toNat - a.toNat)) (movedL (List.take ((IntKind.i64.wrap (b + (1 : Int))).toNat - a.toNat) (List.drop a.toNat (l.getD r.toNat []))) C4.no n (C4.mk x.g x.a x.gd x.m)) ++ List.drop (a.toNat + ((IntKind.i64.wrap (b + (1 : Int))).toNat - a.toNat).min ((↑((Rws.c l).nAt r.toNat) : Int).toNat - a.toNat)) (l.getD r.toNat []))) = slide2 l r a b n x) ∧ True)) ((SV.v (Value.int IntKind.i64 (0 : Int)) = SV.v (Value.int IntKind.i64 (11 : Int)) ∧ True) ∧ (SV.h (1 : Nat) [oe, (0 : Nat)] = SV.h (1 : Nat) [oe, (0 : Nat)] ∧ True) ∧ (oe = oe ∧ ep = ep ∧ l.set r.toNat (List.take a.toNat (l.getD r.toNat []) ++ (List.take (((IntKind.i64.wrap (b + (1 : Int))).toNat - a.toNat).min ((↑((Rws.c l).nAt r.toNat) : Int).toNat - a.toNat)) (movedL (List.take ((IntKind.i64.wrap (b + (1 : Int))).toNat - a.toNat) (List.drop a.toNat (l.getD r.toNat []))) C4.no n (C4.mk x.g x.a x.gd x.m)) ++ List.drop (a.toNat + ((IntKind.i64.wrap (b + (1 : Int))).toNat - a.toNat).min ((↑((Rws.c l).nAt r.toNat) : Int).toNat - a.toNat)) (l.getD r.toNat []))) = l) ∧ True)))))))))) (br (inB l r a && inB l r b) (br (decide (b < a)) ((SV.v (Value.int IntKind.i64 (11 : Int)) = SV.v (Value.int IntKind.i64 (1 : Int)) ∧ True) ∧ (SV.h (1 : Nat) [oe, (0 : Nat)] = SV.h (1 : Nat) [oe, (0 : Nat)] ∧ True) ∧ (oe = oe ∧ ep = ep ∧ l = l) ∧ True) ((SV.v (Value.int IntKind.i64 (11 : Int)) = SV.v (Value.int IntKind.i64 (0 : Int)) ∧ True) ∧ (SV.h (1 : Nat) [oe, (0 : Nat)] = SV.h (1 : Nat) [oe, (0 : Nat)] ∧ True) ∧ (oe = oe ∧ ep = ep ∧ l = slide2 l r a b n x) ∧ True)) ((SV.v (Value.int IntKind.i64 (11 : Int)) = SV.v (Value.int IntKind.i64 (11 : Int)) ∧ True) ∧ (SV.h (1 : Nat) [oe, (0 : Nat)] = SV.h (1 : Nat) [oe, (0 : Nat)] ∧ True) ∧ (oe = oe ∧ ep = ep ∧ l = l) ∧ True)))) (by kernel_rfl) ?_
  refine ⟨rfl, ⟨rfl, hg⟩, ?_⟩
  clear hp hφ
  have hg1 := hg.r1
  have hg2 := hg.c1
  cases h : inB l r a <;> cases h' : inB l r b
  · simp only [br_iff, Bool.and_self, Bool.false_eq_true, false_implies, true_implies, true_and, and_true]
  · simp only [br_iff, Bool.false_and, Bool.false_eq_true, false_implies, true_implies, true_and, and_true]
  · simp only [br_iff, Bool.and_false, Bool.false_eq_true, false_implies, true_implies, true_and, and_true]
  rw [inB_iff] at h h'
  by_cases hba : b < a
  · simp only [br_iff, rq_iff, hba, decide_true, Bool.and_self, Bool.true_eq_false, false_implies, true_implies, true_and, and_true]
  have hr : r.toNat < l.length := by omega
  have hrow := hg.row hr
  have b1 : Nat.blt r.toNat (Rws.c l).len = true := by rw [Nat.blt_eq]; exact hr
  have e1 : (Rws.c l).nAt r.toNat = nC l := hrow
  have e2 : Nat.beq (Rws.c l).sz 4 = true := rfl
  have e3 : (Rws.c l).sz = 4 := rfl
  have e4 : ((Rws.c l).len : Int) = l.length := rfl
  have ew : IntKind.i64.wrap (b + 1) = b + 1 := wrap64 (by omega) (by omega)
  simp only [LC4, II, br_iff, rq_iff, nbeq, hba, b1, e1, e2, e3, e4, ew, hrow, decide_false, Bool.and_self, Bool.true_eq_false, Bool.false_eq_true, false_implies, true_implies, true_and, and_true, Bool.true_and, Bool.and_true, Bool.and_eq_true, Nat.ble_eq, Nat.blt_eq, decide_eq_true_eq, szN_recs]
  have e5 : szN ((Rws.c l).at r.toNat) 4 = true := rfl
  have e7 : (b + 1).toNat - a.toNat = b.toNat + 1 - a.toNat := by omega
  have e6 : Nat.min (b.toNat + 1 - a.toNat) (Int.toNat (nC l : Int) - a.toNat) = b.toNat + 1 - a.toNat := by
    show min (b.toNat + 1 - a.toNat) (Int.toNat (nC l : Int) - a.toNat) = _
    omega
  simp only [e5, e7]
  refine ⟨by omega, by omega, by omega, by omega, ⟨hr, by omega, by omega, by omega⟩, ⟨trivial, by omega, by omega⟩, ?_⟩
  rw [e6, List.take_of_length_le (l := movedL _ _ _ _) (by rw [movedL_length, List.length_take]; omega)]
  rfl
set_option maxHeartbeats 4000000 in
theorem ok_slide0 : ∀ I : Sym.Inv Unit, LCOk I Try.prog 70 lcSlide0 := by
  refine lc_mk (fun _ => allCfg Try.prog [] tabB 3) (fun _ _ => allCfg_ok mixed trivial tabB_ok) (fun _ => rfl) (n := 80) Try.func70 ?_
  intro ⟨⟨_, r, a, b, n, x⟩, _⟩ hφ
  refine kcast (B := (true = true ∧ (SV.v (Value.int IntKind.i64 (2 : Int)) = SV.v (Value.int IntKind.i64 (2 : Int)) ∧ True) ∧ True)) (by kernel_rfl) ?_
  exact ⟨rfl, ⟨rfl, trivial⟩, trivial⟩
def lcSlide : ACon Unit := lcOr lcSlide1 lcSlide0
theorem ok_slide : ∀ I : Sym.Inv Unit, LCOk I Try.prog 70 lcSlide := lcOr_ok ok_slide1 ok_slide0
def tabC2 : List (Nat × ACon Unit) := (70, lcSlide) :: tabC
theorem tabC2_ok : LCs Try.prog tabC2 := ⟨ok_slide, tabC_ok⟩
end Go.Proofs.Ytdhhagangmkloaa
namespace Go.Proofs.Ytdhhagangmkloaa
open Go Go.Sym
def outL {α : Type} (l : List (List α)) (r : Nat) : List (List α) := l.take r ++ List.replicate (l.length - r) []
def cpL {α : Type} (l : List (List α)) (r k : Nat) : List (List α) := l.take r ++ (l.getD r []).take k :: List.replicate (l.length - r - 1) []
theorem outL_zero {α : Type} (l : List (List α)) : outL l 0 = List.replicate l.length [] := by simp [outL]
theorem outL_all {α : Type} (l : List (List α)) : outL l l.length = l := by simp [outL]
theorem cpL_zero {α : Type} {l : List (List α)} {r : Nat} (h : r < l.length) : cpL l r 0 = outL l r := by
  unfold cpL outL
  rw [show l.length - r = (l.length - r - 1) + 1 by omega, List.replicate_succ]; simp
theorem cpL_all {α : Type} {l : List (List α)} {r k : Nat} (h : r < l.length) (hk : (l.getD r []).length = k) : cpL l r k = outL l (r + 1) := by
  unfold cpL outL
  rw [← hk, List.take_length, List.take_succ_eq_append_getElem h, List.append_assoc]
  congr 1
  rw [List.getD, List.getElem?_eq_getElem h]
  simp; omega
theorem cpL_length {α : Type} {l : List (List α)} {r k : Nat} (h : r < l.length) : (cpL l r k).length = l.length := by simp [cpL]; omega
theorem cpL_get {α : Type} {l : List (List α)} {r k : Nat} (h : r < l.length) : (cpL l r k).getD r [] = (l.getD r []).take k := by
  have e : (l.take r).length = r := by simp; omega
  unfold cpL
  rw [List.getD, List.getElem?_append_right (by omega), e, Nat.sub_self]; rfl
theorem cpL_set {α : Type} {l : List (List α)} {r k : Nat} (h : r < l.length) (y : List α) : (cpL l r k).set r y = l.take r ++ y :: List.replicate (l.length - r - 1) [] := by
  have e : (l.take r).length = r := by simp; omega
  unfold cpL
  rw [List.set_append_right _ _ (by omega), e, Nat.sub_self]; rfl
theorem cpL_succ {l : List (List C4)} {r k : Nat} (h : r < l.length) (hk : k < (l.getD r []).length) : (cpL l r k).set r ((l.getD r []).take k ++ [(l.getD r []).getD k C4.no]) = cpL l r (k + 1) := by
  rw [cpL_set h]
  unfold cpL
  rw [List.take_succ_eq_append_getElem hk]
  have : (l.getD r []).getD k C4.no = (l.getD r [])[k] := by rw [List.getD, List.getElem?_eq_getElem hk]; rfl
  rw [this]
theorem eLen (R : List (List C4)) : (Rws.c R).len = R.length := rfl
theorem eNat (R : List (List C4)) (i : Nat) : (Rws.c R).nAt i = (R.getD i []).length := rfl
theorem eSz (R : List (List C4)) : (Rws.c R).sz = 4 := rfl
def isOwn (H : List (SB Unit)) (b : Nat) : Bool := match H[b]? with
  | some (.own ..) => true
  | _ => false
def annRo (l : List (List C4)) : Ann Unit where
  α := Int
  φ _ r := 0 ≤ r ∧ r ≤ l.length
  μ _ r := ((l.length : Int) - r).toNat
  get st := getI st.tm 10
  f st r := tmpl [0, 1, 3, 9] [(10, .v (.int .i64 r))] [(3, .rows (.c (outL l r.toNat)) 38 92 0 (r.toNat * nC l + 1) none), (7, loopTm st.H 7 [4] [])] st
  fx st := match isOwn st.H 3 with
    | true => [.asRows 3 none 38]
    | false => []
def annRi (l : List (List C4)) : Ann Unit where
  α := Int
  φ _ k := 0 ≤ k ∧ k ≤ nC l
  μ _ k := ((nC l : Int) - k).toNat
  get st := getI st.tm 15
  f st k := tmpl [0, 1, 3, 4, 9, 10, 14] [(15, .v (.int .i64 k))] [(3, .rows (.c (cpL l (tI st.tm 4).toNat k.toNat)) 38 92 0 ((tI st.tm 4).toNat * nC l + k.toNat + 1) none), (7, loopTm st.H 7 [4] [])] st
def lcRows1 : ACon Unit := mkLC (decP (shOne (shP 0)) shG) fun (_, (oe, ⟨l, oe2, ep⟩)) => .ask (oe = oe2 ∧ GW l) (.one (.h 3 [0, 0]) (gbi 0 oe ep l ++ [.gone, .rows (.c l) 38 92 0 (l.length * nC l + 1) none]) [])
def lcRows0 : ACon Unit := mkLC (decP (shOne shNilP) shHNil) fun _ => .one (.h 1 [0, 0]) [.gone, .own (.sv []) 0 92 1 0 true] []
set_option maxHeartbeats 4000000 in
theorem ok_rows1 : ∀ I : Sym.Inv Unit, LCOk I Try.prog 79 lcRows1 := by
  refine lc_mk (fun (_, (oe, ⟨l, oe2, ep⟩)) => allCfg Try.prog [] tabC2 3 [(193, annRo l), (385, annRi l)]) (fun _ _ => allCfg_ok mixed trivial tabC2_ok) (fun _ => rfl) (n := 80) Try.func79 ?_
  intro ⟨_, oe, ⟨l, oe2, ep⟩⟩ hφ
  obtain ⟨⟨rfl, hg⟩, hp⟩ := id hφ
  refine kcast (B := (true = true ∧ (oe = oe ∧ GW l) ∧ rq (decide ((0 : Int) ≤ (↑l.length : Int) ∧ (↑l.length : Int) ≤ (↑l.length : Int) ∧ (↑(24 : Nat) : Int) * (↑l.length : Int) ≤ (281474976710656 : Int) ∧ (↑l.length : Int) ≤ (9223372036854775807 : Int))) (true = true ∧ (oe = oe ∧ GW l) ∧ Nils (List.replicate (↑l.length : Int).toNat (SV.v (Value.slice none (0 : Nat) (0 : Nat)))) (↑l.length : Int).toNat ∧ (II (0 : Int) ≤ (0 : Int) ∧ (0 : Int) ≤ (↑l.length : Int)) ∧ ((SV.y (7 : Nat) = SV.y (7 : Nat) ∧ SV.p (5 : Nat) (0 : Nat) = SV.p (5 : Nat) (0 : Nat) ∧ SV.p (8 : Nat) (0 : Nat) = SV.p (8 : Nat) (0 : Nat) ∧ SV.v (Value.int IntKind.i64 (↑l.length : Int)) = SV.v (Value.int IntKind.i64 (↑l.length : Int)) ∧ SV.v (Value.int IntKind.i64 (0 : Int)) = SV.v (Value.int IntKind.i64 (0 : Int)) ∧ True) ∧ (SV.h (1 : Nat) [oe, (0 : Nat)] = SV.h (1 : Nat) [oe, (0 : Nat)] ∧ True) ∧ (oe = oe ∧ ep = ep ∧ l = l) ∧ (SV.v (Value.int IntKind.i64 (↑l.length : Int)) = SV.v (Value.int IntKind.i64 (↑l.length : Int)) ∧ SV.v (Value.int IntKind.i64 (↑(nC l) : Int)) = SV.v (Value.int IntKind.i64 (↑(nC l) : Int)) ∧ True) ∧ ((0 : Nat) = (0 : Nat) ∧ (1 : Nat) = (0 : Nat) * nC l + (1 : Nat) ∧ List.replicate (↑l.length : Int).toNat [] = outL l (0 : Nat)) ∧ (SV.h (3 : Nat) [(0 : Nat), (0 : Nat)] = SV.h (3 : Nat) [(0 : Nat), (0 : Nat)] ∧ True) ∧ (SV.p (0 : Nat) (0 : Nat) = SV.p (0 : Nat) (0 : Nat) ∧ True) ∧ Obj.deferred (some []) = Obj.deferred (some []) ∧ ((SV.p (4 : Nat) (0 : Nat) = SV.p (4 : Nat) (0 : Nat) ∧ True) ∧ #[(14 : Nat), (15 : Nat)] = #[(14 : Nat), (15 : Nat)] ∧ codeAt Try.f79 [(1 : Nat), (1 : Nat), (1 : Nat), (0 : Nat), (1 : Nat), (0 : Nat), (0 : Nat)] = codeAt Try.f79 [(1 : Nat), (1 : Nat), (1 : Nat), (0 : Nat), (1 : Nat), (0 : Nat), (0 : Nat)] ∧ codeAt Try.f79 [(1 : Nat), (1 : Nat), (1 : Nat), (0 : Nat), (1 : Nat), (0 : Nat), (1 : Nat)] = codeAt Try.f79 [(1 : Nat), (1 : Nat), (1 : Nat), (0 : Nat), (1 : Nat), (0 : Nat), (1 : Nat)]) ∧ (SV.v (Value.int IntKind.i64 (↑l.length : Int)) = SV.v (Value.int IntKind.i64 (↑l.length : Int)) ∧ SV.v (Value.int IntKind.i64 (↑(nC l) : Int)) = SV.v (Value.int IntKind.i64 (↑(nC l) : Int)) ∧ True) ∧ True) ∧ ∀ (x : Int), (0 : Int) ≤ x ∧ x ≤ (↑l.length : Int) → br (decide (x < (↑l.length : Int))) ((II (0 : Int) ≤ (0 : Int) ∧ (0 : Int) ≤ (↑(nC l) : Int)) ∧ ((SV.y (7 : Nat) = SV.y (7 : Nat) ∧ SV.p (5 : Nat) (0 : Nat) = SV.p (5 : Nat) (0 : Nat) ∧ SV.p (8 : Nat) (0 : Nat) = SV.p (8 : Nat) (0 : Nat) ∧ SV.v (Value.int IntKind.i64 x) = SV.v (Value.int IntKind.i64 x) ∧ SV.v (Value.int IntKind.i64 (↑l.length : Int)) = SV.v (Value.int IntKind.i64 (↑l.length : Int)) ∧ SV.v (Value.int IntKind.i64 x) = SV.v (Value.int IntKind.i64 x) ∧ SV.v (Value.int IntKind.i64 (↑(nC l) : Int)) = SV.v (Value.int IntKind.i64 (↑(nC l) : Int)) ∧ SV.v (Value.int IntKind.i64 (0 : Int)) = SV.v (Value.int IntKind.i64 (0 : Int)) ∧ True) ∧ (SV.h (1 : Nat) [oe, (0 : Nat)] = SV.h (1 : Nat) [oe, (0 : Nat)] ∧ True) ∧ (oe = oe ∧ ep = ep ∧ l = l) ∧ (SV.v (Value.int IntKind.i64 (↑l.length : Int)) = SV.v (Value.int IntKind.i64 (↑l.length : Int)) ∧ SV.v (Value.int IntKind.i64 (↑(nC l) : Int)) = SV.v (Value.int IntKind.i64 (↑(nC l) : Int)) ∧ True) ∧ ((0 : Nat) = (0 : Nat) ∧ x.toNat * nC l + (1 : Nat) = x.toNat * nC l + (0 : Nat) + (1 : Nat) ∧ outL l x.toNat = cpL l x.toNat (0 : Nat)) ∧ (SV.h (3 : Nat) [(0 : Nat), (0 : Nat)] = SV.h (3 : Nat) [(0 : Nat), (0 : Nat)] ∧ True) ∧ (SV.p (0 : Nat) (0 : Nat) = SV.p (0 : Nat) (0 : Nat) ∧ True) ∧ Obj.deferred (some []) = Obj.deferred (some []) ∧ ((SV.p (4 : Nat) (0 : Nat) = SV.p (4 : Nat) (0 : Nat) ∧ True) ∧ #[(14 : Nat), (15 : Nat)] = #[(14 : Nat), (15 : Nat)] ∧ codeAt Try.f79 [(1 : Nat), (1 : Nat), (1 : Nat), (0 : Nat), (1 : Nat), (0 : Nat), (0 : Nat)] = codeAt Try.f79 [(1 : Nat), (1 : Nat), (1 : Nat), (0 : Nat), (1 : Nat), (0 : Nat), (0 : Nat)] ∧ codeAt Try.f79 [(1 : Nat), (1 : Nat), (1 : Nat), (0 : Nat), (1 : Nat), (0 : Nat), (1 : Nat)] = codeAt Try.f79 [(1 : Nat), (1 : Nat), (1 : Nat), (0 : Nat), (1 : Nat), (0 : Nat), (1 : Nat)]) ∧ (SV.v (Value.int IntKind.i64 (↑l.length : Int)) = SV.v (Value.int IntKind.i64 (↑l.length : Int)) ∧ SV.v (Value.int IntKind.i64 (↑(nC l) : Int)) = SV.v (Value.int IntKind.i64 (↑(nC l) : Int)) ∧ True) ∧ True) ∧ ∀ (x_1 : Int), (0 : Int) ≤ x_1 ∧ x_1 ≤ (↑(nC l) : Int) → br (decide (x_1 < (↑(nC l) : Int))) (rq (oe.beq oe && (Nat.beq (1 : Nat) (1 : Nat) && decide ((0 : Int) ≤ x ∧ x < (↑(Rws.c l).len : Int)))) (rq (oe.beq oe && x.toNat.blt (Rws.c l).len) (rq (ep.beq ep && x.toNat.blt (Rws.c l).len && ((Rws.c l).sz.beq (4 : Nat) && decide ((0 : Int) ≤ x_1 ∧ x_1 < (↑((Rws.c l).nAt x.toNat) : Int)))) (rq (ep.beq ep && x.toNat.blt (Rws.c l).len && x_1.toNat.blt (l.getD x.toNat []).length) (rq (true && (Nat.beq (1 : Nat) (1 : Nat) && decide ((0 : Int) ≤ x ∧ x < (↑(Rws.c (cpL l x.toNat x_1.toNat)).len : Int)))) (rq (true && x.toNat.blt (Rws.c (cpL l x.toNat x_1.toNat)).len) (rq (true && ((x.toNat * nC l + x_1.toNat + (1 : Nat)).beq (x.toNat * nC l + x_1.toNat + (1 : Nat)) && (x.toNat.blt (Rws.c (cpL l x.toNat x_1.toNat)).len && decide ((Rws.c (cpL l x.toNat x_1.toNat)).nAt x.toNat + (1 : Nat) ≤ (9223372036854775807 : Nat) ∧ ((Rws.c (cpL l x.toNat x_1.toNat)).nAt x.toNat + (1 : Nat)) * (32 : Nat) ≤ (140737488355328 : Nat))))) (rq (true && (Nat.beq (1 : Nat) (1 : Nat) && decide ((0 : Int) ≤ x ∧ x < (↑(Rws.c ((cpL l x.toNat x_1.toNat).set x.toNat ((cpL l x.toNat x_1.toNat).getD x.toNat [] ++ [C4.mk ((l.getD x.toNat []).getD x_1.toNat C4.no).g ((l.getD x.toNat []).getD x_1.toNat C4.no).a ((l.getD x.toNat []).getD x_1.toNat C4.no).gd ((l.getD x.toNat []).getD x_1.toNat C4.no).m]))).len : Int)))) (rq (true && ((x.toNat * nC l + x_1.toNat + (1 : Nat) + (1 : Nat)).beq (x.toNat * nC l + x_1.toNat + (1 : Nat) + (1 : Nat)) && (x.toNat.beq x.toNat && (x.toNat.beq x.toNat && x.toNat.blt (Rws.c ((cpL l x.toNat x_1.toNat).set x.toNat ((cpL l x.toNat x_1.toNat).getD x.toNat [] ++ [C4.mk ((l.getD x.toNat []).getD x_1.toNat C4.no).g ((l.getD x.toNat []).getD x_1.toNat C4.no).a ((l.getD x.toNat []).getD x_1.toNat C4.no).gd ((l.getD x.toNat []).getD x_1.toNat C4.no).m]))).len)))) (((0 : Int) ≤ IntKind.i64.wrap (x_1 + (1 : Int)) ∧ IntKind.i64.wrap (x_1 + (1 : Int)) ≤ (↑(nC l) : Int)) ∧ ((SV.y (7 : Nat) = SV.y (7 : Nat) ∧ SV.p (5 : Nat) (0 : Nat) = SV.p (5 : Nat) (0 : Nat) ∧ SV.p (8 : Nat) (0 : Nat) = SV.p (8 : Nat) (0 : Nat) ∧ SV.v (Value.int IntKind.i64 x) = SV.v (Value.int IntKind.i64 x) ∧ SV.v (Value.int IntKind.i64 (↑l.length : Int)) = SV.v (Value.int IntKind.i64 (↑l.length : Int)) ∧ SV.v (Value.int IntKind.i64 x) = SV.v (Value.int IntKind.i64 x) ∧ SV.v (Value.int IntKind.i64 (↑(nC l) : Int)) = SV.v (Value.int IntKind.i64 (↑(nC l) : Int)) ∧ SV.v (Value.int IntKind.i64 (IntKind.i64.wrap (x_1 + (1 : Int)))) = SV.v (Value.int IntKind.i64 (IntKind.i64.wrap (x_1 + (1 : Int)))) ∧ True) ∧ (SV.h (1 : Nat) [oe, (0 : Nat)] = SV.h (1 : Nat) [oe, (0 : Nat)] ∧ True) ∧ (oe = oe ∧ ep = ep ∧ l = l) ∧ (SV.v (Value.int IntKind.i64 (↑l.length : Int)) = SV.v (Value.int IntKind.i64 (↑l.length : Int)) ∧ SV.v (Value.int IntKind.i64 (↑(nC l) : Int)) = SV.v (Value.int IntKind.i64 (↑(nC l) : Int)) ∧ True) ∧ ((0 : Nat) = (0 : Nat) ∧ x.toNat * nC l + x_1.toNat + (1 : Nat) + (1 : Nat) = x.toNat * nC l + (IntKind.i64.wrap (x_1 + (1 : Int))).toNat + (1 : Nat) ∧ (cpL l x.toNat x_1.toNat).set x.toNat ((cpL l x.toNat x_1.toNat).getD x.toNat [] ++ [C4.mk ((l.getD x.toNat []).getD x_1.toNat C4.no).g ((l.getD x.toNat []).getD x_1.toNat C4.no).a ((l.getD x.toNat []).getD x_1.toNat C4.no).gd ((l.getD x.toNat []).getD x_1.toNat C4.no).m]) = cpL l x.toNat (IntKind.i64.wrap (x_1 + (1 : Int))).toNat) ∧ (SV.h (3 : Nat) [(0 : Nat), (0 : Nat)] = SV.h (3 : Nat) [(0 : Nat), (0 : Nat)] ∧ True) ∧ (SV.p (0 : Nat) (0 : Nat) = SV.p (0 : Nat) (0 : Nat) ∧ True) ∧ Obj.deferred (some []) = Obj.deferred (some []) ∧ ((SV.p (4 : Nat) (0 : Nat) = SV.p (4 : Nat) (0 : Nat) ∧ True) ∧ #[(14 : Nat), (15 : Nat)] = #[(14 : Nat), (15 : Nat)] ∧ codeAt Try.f79 [(1 : Nat), (1 : Nat), (1 : Nat), (0 : Nat), (1 : Nat), (0 : Nat), (0 : Nat)] = codeAt Try.f79 [(1 : Nat), (1 : Nat), (1 : Nat), (0 : Nat), (1 : Nat), (0 : Nat), (0 : Nat)] ∧ codeAt Try.f79 [(1 : Nat), (1 : Nat), (1 : Nat), (0 : Nat), (1 : Nat), (0 : Nat), (1 : Nat)] = codeAt Try.f79 [(1 : Nat), (1 : Nat), (1 : Nat), (0 : Nat), (1 : Nat), (0 : Nat), (1 : Nat)]) ∧ (SV.v (Value.int IntKind.i64 (↑l.length : Int)) = SV.v (Value.int IntKind.i64 (↑l.length : Int)) ∧ SV.v (Value.int IntKind.i64 (↑(nC l) : Int)) = SV.v (Value.int IntKind.i64 (↑(nC l) : Int)) ∧ True) ∧ True) ∧ ((↑(nC l) : Int) - IntKind.i64.wrap (x_1 + (1 : Int))).toNat < ((↑(nC l) : Int) - x_1).toNat)))))))))) (((0 : Int) ≤ IntKind.i64.wrap (x + (1 : Int)) ∧ IntKind.i64.wrap (x + (1 : Int)) ≤ (↑l.length : Int)) ∧ ((SV.y (7 : Nat) = SV.y (7 : Nat) ∧ SV.p (5 : Nat) (0 : Nat) = SV.p (5 : Nat) (0 : Nat) ∧ SV.p (8 : Nat) (0 : Nat) = SV.p (8 : Nat) (0 : Nat) ∧ SV.v (Value.int IntKind.i64 (↑l.length : Int)) = SV.v (Value.int IntKind.i64 (↑l.length : Int)) ∧ SV.v (Value.int IntKind.i64 (IntKind.i64.wrap (x + (1 : Int)))) = SV.v (Value.int IntKind.i64 (IntKind.i64.wrap (x + (1 : Int)))) ∧ True) ∧ (SV.h (1 : Nat) [oe, (0 : Nat)] = SV.h (1 : Nat) [oe, (0 : Nat)] ∧ True) ∧ (oe = oe ∧ ep = ep ∧ l = l) ∧ (SV.v (Value.int IntKind.i64 (↑l.length : Int)) = SV.v (Value.int IntKind.i64 (↑l.length : Int)) ∧ SV.v (Value.int IntKind.i64 (↑(nC l) : Int)) = SV.v (Value.int IntKind.i64 (↑(nC l) : Int)) ∧ True) ∧ ((0 : Nat) = (0 : Nat) ∧ x.toNat * nC l + x_1.toNat + (1 : Nat) = (IntKind.i64.wrap (x + (1 : Int))).toNat * nC l + (1 : Nat) ∧ cpL l x.toNat x_1.toNat = outL l (IntKind.i64.wrap (x + (1 : Int))).toNat) ∧ (SV.h (3 : Nat) [(0 : Nat), (0 : Nat)] = SV.h (3 : Nat) [(0 : Nat), (0 : Nat)] ∧ True) ∧ (SV.p (0 : Nat) (0 : Nat) = SV.p (0 : Nat) (0 : Nat) ∧ True) ∧ Obj.deferred (some []) = Obj.deferred (some []) ∧ ((SV.p (4 : Nat) (0 : Nat) = SV.p (4 : Nat) (0 : Nat) ∧ True) ∧ #[(14 : Nat), (15 : Nat)] = #[(14 : Nat), (15 : Nat)] ∧ codeAt Try.f79 [(1 : Nat), (1 : Nat), (1 : Nat), (0 : Nat), (1 : Nat), (0 : Nat), (0 : Nat)] = codeAt Try.f79 [(1 : Nat), (1 : Nat), (1 : Nat), (0 : Nat), (1 : Nat), (0 : Nat), (0 : Nat)] ∧ codeAt Try.f79 [(1 : Nat), (1 : Nat), (1 : Nat), (0 : Nat), (1 : Nat), (0 : Nat), (1 : Nat)] = codeAt Try.f79 [(1 : Nat), (1 : Nat), (1 : Nat), (0 : Nat), (1 : Nat), (0 : Nat), (1 : Nat)]) ∧ (SV.v (Value.int IntKind.i64 (↑l.length : Int)) = SV.v (Value.int IntKind.i64 (↑l.length : Int)) ∧ SV.v (Value.int IntKind.i64 (↑(nC l) : Int)) = SV.v (Value.int IntKind.i64 (↑(nC l) : Int)) ∧ True) ∧ True) ∧ ((↑l.length : Int) - IntKind.i64.wrap (x + (1 : Int))).toNat < ((↑l.length : Int) - x).toNat)) ((SV.h (3 : Nat) [(0 : Nat), (0 : Nat)] = SV.h (3 : Nat) [(0 : Nat), (0 : Nat)] ∧ True) ∧ (SV.h (1 : Nat) [oe, (0 : Nat)] = SV.h (1 : Nat) [oe, (0 : Nat)] ∧ True) ∧ (oe = oe ∧ ep = ep ∧ l = l) ∧ True ∧ ((0 : Nat) = (0 : Nat) ∧ x.toNat * nC l + (1 : Nat) = l.length * nC l + (1 : Nat) ∧ outL l x.toNat = l) ∧ True)))) (by kernel_rfl) ?_
  clear hp hφ
  have hL := hg.r1
  have hC := hg.c1
  simp only [LC4, II, LLC, eLen, eNat, eSz, nbeq, rq_iff, br_iff, hg, Bool.true_and, Bool.and_true, true_and, and_true, Bool.and_eq_true, Nat.ble_eq, Nat.blt_eq, decide_eq_true_eq, decide_eq_false_iff_not, Int.toNat_natCast]
  refine ⟨by omega, ⟨rfl⟩, by omega, ⟨by omega, (outL_zero l).symm⟩, fun r ⟨hr0, hr1⟩ => ⟨fun hlt => ?_, fun hge => ?_⟩⟩
  · have hr : r.toNat < l.length := by omega
    have hrow := hg.row hr
    refine ⟨by omega, (cpL_zero hr).symm, fun k ⟨hk0, hk1⟩ => ⟨fun hkl => ?_, fun hge => ?_⟩⟩
    · have hlen : (cpL l r.toNat k.toNat).length = l.length := cpL_length hr
      have hk : k.toNat < (l.getD r.toNat []).length := by omega
      have hs := cpL_succ hr hk
      have hlen2 : (cpL l r.toNat (k.toNat + 1)).length = l.length := cpL_length hr
      simp only [cpL_get hr, hlen, hs, hlen2, List.length_set, List.length_take]
      rw [wrap64 (x := k + 1) (by omega) (by omega)]
      have e1 : (k + 1).toNat = k.toNat + 1 := by omega
      rw [e1]
      exact ⟨decide_eq_true (by omega), hr, ⟨hr, decide_eq_true (by omega)⟩, ⟨hr, hk⟩, decide_eq_true (by omega), hr, ⟨hr, decide_eq_true (by omega)⟩, decide_eq_true (by omega), hr, by omega, ⟨by omega, rfl⟩, by omega⟩
    · obtain rfl : k = nC l := by omega
      rw [wrap64 (x := r + 1) (by omega) (by omega)]
      have e1 : (r + 1).toNat = r.toNat + 1 := by omega
      rw [e1]
      exact ⟨by omega, ⟨by rw [Nat.add_mul]; omega, cpL_all hr (by rw [hrow]; omega)⟩, by omega⟩
  · obtain rfl : r = l.length := by omega
    exact ⟨rfl, outL_all l⟩
set_option maxHeartbeats 4000000 in
theorem ok_rows0 : ∀ I : Sym.Inv Unit, LCOk I Try.prog 79 lcRows0 := by
  refine lc_mk (fun _ => allCfg Try.prog [] tabC2 3 []) (fun _ _ => allCfg_ok mixed trivial tabC2_ok) (fun _ => rfl) (n := 80) Try.func79 ?_
  intro ⟨_, _⟩ hφ
  refine kcast (B := (true = true ∧ true = true ∧ (SV.h (1 : Nat) [(0 : Nat), (0 : Nat)] = SV.h (1 : Nat) [(0 : Nat), (0 : Nat)] ∧ True) ∧ True ∧ ((0 : Nat) = (0 : Nat) ∧ (0 : Nat) = (0 : Nat) ∧ True) ∧ True)) (by kernel_rfl) ?_
  exact ⟨rfl, rfl, ⟨rfl, trivial⟩, trivial, ⟨rfl, rfl, trivial⟩, trivial⟩
def lcRows : ACon Unit := lcOr lcRows1 lcRows0
theorem ok_rows : ∀ I : Sym.Inv Unit, LCOk I Try.prog 79 lcRows := lcOr_ok ok_rows1 ok_rows0
def tabD : List (Nat × ACon Unit) := (79, lcRows) :: tabC2
theorem tabD_ok : LCs Try.prog tabD := ⟨ok_rows, tabC2_ok⟩
end Go.Proofs.Ytdhhagangmkloaa
namespace Go.Proofs.Ytdhhagangmkloaa
open Go Go.Sym
def cellOf (b : Int) : C4 := ⟨b, 0, decide (65 ≤ b) && decide (b ≤ 90), 0⟩
def lcCell : ACon Unit := mkLC (decP (shOne (shInt .u8)) shHNil) fun (b, _) => .ask (0 ≤ b ∧ b ≤ 255) (.one (cv (cellOf b)) [] [])
set_option maxHeartbeats 4000000 in
theorem ok_cell : ∀ I : Sym.Inv Unit, LCOk I Try.prog 33 lcCell := by
  refine lc_mk (fun _ => allCfg Try.prog [] [] 0) (fun _ _ => allCfg_ok mixed trivial trivial) (fun _ => rfl) (n := 60) Try.func33 ?_
  intro ⟨b, _⟩ hφ
  obtain ⟨⟨h0, h1⟩, hp⟩ := id hφ
  refine kcast (B := (br (decide (b ≥ (65 : Int))) ((SV.a [SV.v (Value.int IntKind.i32 (IntKind.i32.wrap b)), SV.v (Value.int IntKind.i64 (0 : Int)), SV.v (Value.bool (decide (b ≤ (90 : Int)))), SV.v (Value.int IntKind.i64 (0 : Int))] = SV.a [SV.v (Value.int IntKind.i32 b), SV.v (Value.int IntKind.i64 (0 : Int)), SV.v (Value.bool (decide ((65 : Int) ≤ b) && decide (b ≤ (90 : Int)))), SV.v (Value.int IntKind.i64 (0 : Int))] ∧ True) ∧ True) ((SV.a [SV.v (Value.int IntKind.i32 (IntKind.i32.wrap b)), SV.v (Value.int IntKind.i64 (0 : Int)), SV.v (Value.bool false), SV.v (Value.int IntKind.i64 (0 : Int))] = SV.a [SV.v (Value.int IntKind.i32 b), SV.v (Value.int IntKind.i64 (0 : Int)), SV.v (Value.bool (decide ((65 : Int) ≤ b) && decide (b ≤ (90 : Int)))), SV.v (Value.int IntKind.i64 (0 : Int))] ∧ True) ∧ True))) (by kernel_rfl) ?_
  have hw : IntKind.i32.wrap b = b := IntWalk.i32_in _ (by omega)
  simp only [br_iff, hw, decide_eq_true_eq, decide_eq_false_iff_not, and_true]
  refine ⟨fun h => ?_, fun h => ?_⟩
  · rw [show decide ((65 : Int) ≤ b) = true from decide_eq_true h]; rfl
  · rw [show decide ((65 : Int) ≤ b) = false from decide_eq_false (by omega)]; rfl
def tabE : List (Nat × ACon Unit) := (33, lcCell) :: tabD
theorem tabE_ok : LCs Try.prog tabE := ⟨ok_cell, tabD_ok⟩
def gwB (l : List (List C4)) : Bool := Nat.ble 1 l.length && (Nat.ble l.length 255 && (Nat.ble 1 (nC l) && (Nat.ble (nC l) 255 && l.all fun r => Nat.beq r.length (nC l))))
theorem gw_of {l : List (List C4)} (h : gwB l = true) : GW l := by
  simp only [gwB, Bool.and_eq_true, Nat.ble_eq, List.all_eq_true, Nat.beq_eq] at h
  obtain ⟨h1, h2, h3, h4, h5⟩ := h
  exact ⟨h1, h2, h3, h4, h5⟩
def psAwake : PS := mkPS shNil (fun _ => True) fun _ => .v (.bool true)
end Go.Proofs.Ytdhhagangmkloaa
namespace Go.Proofs.Ytdhhagangmkloaa
open Go Go.Sym
def shOut (b : Nat) : Sh (Nat × Nat × Nat) where
  enc a := .h b [a.1, 0, a.2.1, a.2.2, 0]
  dec x := match x with
    | .h b' q => match Nat.beq b' b with
      | true => match q with
        | [oe, o, lo, len, z] => match o with
          | 0 => match z with
            | 0 => some (oe, lo, len)
            | _ => none
          | _ => none
        | _ => none
      | false => none
    | _ => none
  ok x a h := by
    split at h
    · split at h
      · rename_i hT
        rw [Nat.beq_eq] at hT
        subst hT
        split at h
        · split at h
          · split at h
            · simp only [Option.some.injEq] at h; subst h; rfl
            · cases h
          · cases h
        · cases h
      · cases h
    · cases h
def limAt1 {α : Type} (lo len : Nat) (n : Int) (x : α) (i : Nat) : Nat ⊕ α := if n > (len : Int) - 1 - i ∨ n < -(i : Int) then .inr x else .inl (lo + (i + n).toNat)
def limL {α : Type} (lo len : Nat) (n : Int) (x : α) : List (Nat ⊕ α) := (List.range len).map (limAt1 lo len n x)
theorem limL_length {α : Type} (lo len : Nat) (n : Int) (x : α) : (limL lo len n x).length = len := by simp [limL]
theorem limL_succ {α : Type} {lo len : Nat} {n : Int} {x : α} {k : Int} (h0 : 0 ≤ k) (h1 : k < len) : (limL lo len n x).take (k + 1).toNat = (limL lo len n x).take k.toNat ++ [limAt1 lo len n x k.toNat] := by
  rw [show (k + 1).toNat = k.toNat + 1 by omega, List.take_succ_eq_append_getElem (by rw [limL_length]; omega)]
  simp [limL]
theorem limL_get {α : Type} {lo len : Nat} {n : Int} {x : α} {i : Nat} (h : i < len) : (limL lo len n x)[i]? = some (limAt1 lo len n x i) := by simp [limL, h]
theorem limL_fits {α : Type} {lo len N : Nat} {n : Int} {x : α} (h : lo + len ≤ N) {p j : Nat} (hp : p < N) (hj : ixAt (limL lo len n x) lo p = some j) :
    j < N ∧ ∀ p' j', p' < N → p ≠ p' → ixAt (limL lo len n x) lo p' = some j' → j ≠ j' := by
  have key : ∀ p j, p < N → ixAt (limL lo len n x) lo p = some j → (j = p ∧ (p < lo ∨ lo + len ≤ p)) ∨ (lo ≤ p ∧ p < lo + len ∧ (j : Int) = p + n ∧ lo ≤ j ∧ j < lo + len) := fun p j hp hj => by
    unfold ixAt at hj
    split at hj
    · rename_i hb
      rw [Nat.blt_eq] at hb
      simp only [Option.some.injEq] at hj
      exact .inl ⟨hj.symm, .inl hb⟩
    · rename_i hb
      have hb : ¬ p < lo := by rw [← Nat.blt_eq, hb]; simp
      by_cases hl : p - lo < len
      · rw [limL_get hl] at hj
        have hj2 : (match limAt1 lo len n x (p - lo) with
          | .inl j => some j
          | .inr _ => none) = some j := hj
        unfold limAt1 at hj2
        by_cases hc : n > (len : Int) - 1 - (p - lo : Nat) ∨ n < -((p - lo : Nat) : Int)
        · rw [if_pos hc] at hj2; cases hj2
        · rw [if_neg hc] at hj2
          simp only [Option.some.injEq] at hj2
          right
          omega
      · rw [List.getElem?_eq_none (by rw [limL_length]; omega)] at hj
        simp only [Option.some.injEq] at hj
        exact .inl ⟨hj.symm, .inr (by omega)⟩
  have h1 := key p j hp hj
  refine ⟨by omega, fun p' j' hp' hne hj' => ?_⟩
  have h2 := key p' j' hp' hj'
  omega
def annMR (lo len : Nat) (n : Int) (row : List C4) (ep : Nat) : Ann Unit where
  α := Int
  φ _ k := 0 ≤ k ∧ k ≤ len
  μ _ k := ((len : Int) - k).toNat
  get st := getI st.tm 14
  f st k := tmpl [0, 1, 2, 13] [(14, .v (.int .i64 k)), (7, .h 4 [k.toNat, 0])] [(4, .limbo 0 ep (.c ((limL lo len n row).take k.toNat)) 38 92 k.toNat)] st
  fx st := match isOwn st.H 4 with
    | true => [.asLimbo 4 0 none 38]
    | false => []
def lcMovR : ACon Unit := mkLC (decP (shCons (shOut 0) (shCons shI (shOne (shF 106 (shCons (shP 1) (shOne (shP 2))))))) (shHCons (shRowsC 38 92) (shHCons (shCells shCL 38) (shHCons (shCells (shOne (shP 3)) 28) (shHOne (shCells (shOne (shO 0)) 127))))))
  fun (((oe1, lo, len), n, _), (⟨l, oe, ep⟩, x, _, oe3)) => .ask (oe1 = oe ∧ oe3 = oe ∧ GW l ∧ lo + len ≤ l.length ∧ 0 < len) (.one (.h 4 [len, 0])
    [.rows (.c l) 38 92 oe ep none, .cells (recS x) 38, .cells [.p 3 0] 28, .cells [.h 0 [oe, 0]] 127, .limbo 0 ep (.c (limL lo len n (List.replicate (nC l) x))) 38 92 len] [])
set_option maxHeartbeats 4000000 in
theorem ok_movR : ∀ I : Sym.Inv Unit, LCOk I Try.prog 107 lcMovR := by
  refine lc_mk (fun (((oe1, lo, len), n, _), (⟨l, oe, ep⟩, x, _, oe3)) => allCfg Try.prog [] tabD 3 [(257, annMR lo len n (List.replicate (nC l) x) ep)]) (fun _ _ => allCfg_ok mixed trivial tabD_ok) (fun _ => rfl) (n := 80) Try.func107 ?_
  intro ⟨⟨⟨oe1, lo, len⟩, n, _⟩, ⟨l, oe, ep⟩, x, _, oe3⟩ hφ
  obtain ⟨⟨rfl, rfl, hg, h1, h2⟩, hp⟩ := id hφ
  refine kcast (B := (rq (oe3.beq oe3 && Nat.blt (0 : Nat) (Rws.c l).len) (rq (decide ((0 : Int) ≤ (0 : Int) ∧ (0 : Int) ≤ (↑len : Int) ∧ (↑(24 : Nat) : Int) * (↑len : Int) ≤ (281474976710656 : Int) ∧ (↑len : Int) ≤ (9223372036854775807 : Int))) (rq (oe3.beq oe3 && Nat.blt (0 : Nat) (Rws.c l).len) (NoRow [] (0 : Nat) ∧ (II (0 : Int) ≤ (0 : Int) ∧ (0 : Int) ≤ (↑len : Int)) ∧ ((SV.h (0 : Nat) [oe3, (0 : Nat), lo, len, (0 : Nat)] = SV.h (0 : Nat) [oe3, (0 : Nat), lo, len, (0 : Nat)] ∧ SV.v (Value.int IntKind.i64 n) = SV.v (Value.int IntKind.i64 n) ∧ SV.f (Fn.func (106 : Nat)) [SV.p (1 : Nat) (0 : Nat), SV.p (2 : Nat) (0 : Nat)] = SV.f (Fn.func (106 : Nat)) [SV.p (1 : Nat) (0 : Nat), SV.p (2 : Nat) (0 : Nat)] ∧ SV.h (4 : Nat) [(0 : Nat), (0 : Nat)] = SV.h (4 : Nat) [(0 : Nat), (0 : Nat)] ∧ SV.v (Value.int IntKind.i64 (↑len : Int)) = SV.v (Value.int IntKind.i64 (↑len : Int)) ∧ SV.v (Value.int IntKind.i64 (0 : Int)) = SV.v (Value.int IntKind.i64 (0 : Int)) ∧ True) ∧ (oe3 = oe3 ∧ ep = ep ∧ l = l) ∧ (SV.v (Value.int IntKind.i32 x.g) = SV.v (Value.int IntKind.i32 x.g) ∧ SV.v (Value.int IntKind.i64 x.a) = SV.v (Value.int IntKind.i64 x.a) ∧ SV.v (Value.bool x.gd) = SV.v (Value.bool x.gd) ∧ SV.v (Value.int IntKind.i64 x.m) = SV.v (Value.int IntKind.i64 x.m) ∧ True) ∧ (SV.p (3 : Nat) (0 : Nat) = SV.p (3 : Nat) (0 : Nat) ∧ True) ∧ (SV.h (0 : Nat) [oe3, (0 : Nat)] = SV.h (0 : Nat) [oe3, (0 : Nat)] ∧ True) ∧ (ep = ep ∧ (0 : Nat) = (0 : Nat) ∧ LJC [] = []) ∧ True) ∧ ∀ (x_1 : Int), (0 : Int) ≤ x_1 ∧ x_1 ≤ (↑len : Int) → br (decide (x_1 < (↑len : Int))) (rq (oe3.beq oe3 && Nat.blt (0 : Nat) (Rws.c l).len) (br (decide (n > IntKind.i64.wrap (IntKind.i64.wrap ((↑len : Int) - (1 : Int)) - x_1))) (rq (oe3.beq oe3 && (Nat.beq (1 : Nat) (1 : Nat) && decide ((0 : Int) ≤ (0 : Int) ∧ (0 : Int) < (↑(Rws.c l).len : Int)))) (rq (oe3.beq oe3 && Nat.blt (0 : Nat) (Rws.c l).len) (rq (ep.beq ep && Nat.blt (0 : Nat) (Rws.c l).len) (true = true ∧ ((1 : Int) ≤ (↑((Rws.c l).nAt (0 : Nat)) : Int) ∧ (↑((Rws.c l).nAt (0 : Nat)) : Int) ≤ (255 : Int)) ∧ rq (true && (x_1.toNat.beq x_1.toNat && (true && decide ((Lim.c (List.take x_1.toNat (limL lo len n (List.replicate (nC l) x)))).len + (1 : Nat) ≤ (9223372036854775807 : Nat) ∧ ((Lim.c (List.take x_1.toNat (limL lo len n (List.replicate (nC l) x)))).len + (1 : Nat)) * (24 : Nat) ≤ (140737488355328 : Nat))))) (((0 : Int) ≤ IntKind.i64.wrap (x_1 + (1 : Int)) ∧ IntKind.i64.wrap (x_1 + (1 : Int)) ≤ (↑len : Int)) ∧ ((SV.h (0 : Nat) [oe3, (0 : Nat), lo, len, (0 : Nat)] = SV.h (0 : Nat) [oe3, (0 : Nat), lo, len, (0 : Nat)] ∧ SV.v (Value.int IntKind.i64 n) = SV.v (Value.int IntKind.i64 n) ∧ SV.f (Fn.func (106 : Nat)) [SV.p (1 : Nat) (0 : Nat), SV.p (2 : Nat) (0 : Nat)] = SV.f (Fn.func (106 : Nat)) [SV.p (1 : Nat) (0 : Nat), SV.p (2 : Nat) (0 : Nat)] ∧ SV.h (4 : Nat) [x_1.toNat + (1 : Nat), (0 : Nat)] = SV.h (4 : Nat) [(IntKind.i64.wrap (x_1 + (1 : Int))).toNat, (0 : Nat)] ∧ SV.v (Value.int IntKind.i64 (↑len : Int)) = SV.v (Value.int IntKind.i64 (↑len : Int)) ∧ SV.v (Value.int IntKind.i64 (IntKind.i64.wrap (x_1 + (1 : Int)))) = SV.v (Value.int IntKind.i64 (IntKind.i64.wrap (x_1 + (1 : Int)))) ∧ True) ∧ (oe3 = oe3 ∧ ep = ep ∧ l = l) ∧ (SV.v (Value.int IntKind.i32 x.g) = SV.v (Value.int IntKind.i32 x.g) ∧ SV.v (Value.int IntKind.i64 x.a) = SV.v (Value.int IntKind.i64 x.a) ∧ SV.v (Value.bool x.gd) = SV.v (Value.bool x.gd) ∧ SV.v (Value.int IntKind.i64 x.m) = SV.v (Value.int IntKind.i64 x.m) ∧ True) ∧ (SV.p (3 : Nat) (0 : Nat) = SV.p (3 : Nat) (0 : Nat) ∧ True) ∧ (SV.h (0 : Nat) [oe3, (0 : Nat)] = SV.h (0 : Nat) [oe3, (0 : Nat)] ∧ True) ∧ (ep = ep ∧ x_1.toNat + (1 : Nat) = (IntKind.i64.wrap (x_1 + (1 : Int))).toNat ∧ List.take x_1.toNat (limL lo len n (List.replicate (nC l) x)) ++ [Sum.inr (List.replicate (↑((Rws.c l).nAt (0 : Nat)) : Int).toNat (C4.mk x.g x.a x.gd x.m))] = List.take (IntKind.i64.wrap (x_1 + (1 : Int))).toNat (limL lo len n (List.replicate (nC l) x))) ∧ True) ∧ ((↑len : Int) - IntKind.i64.wrap (x_1 + (1 : Int))).toNat < ((↑len : Int) - x_1).toNat))))) (br (decide (n < IntKind.i64.wrap ((0 : Int) - x_1))) (rq (oe3.beq oe3 && (Nat.beq (1 : Nat) (1 : Nat) && decide ((0 : Int) ≤ (0 : Int) ∧ (0 : Int) < (↑(Rws.c l).len : Int)))) (rq (oe3.beq oe3 && Nat.blt (0 : Nat) (Rws.c l).len) (rq (ep.beq ep && Nat.blt (0 : Nat) (Rws.c l).len) (true = true ∧ ((1 : Int) ≤ (↑((Rws.c l).nAt (0 : Nat)) : Int) ∧ (↑((Rws.c l).nAt (0 : Nat)) : Int) ≤ (255 : Int)) ∧ rq (true && (x_1.toNat.beq x_1.toNat && (true && decide ((Lim.c (List.take x_1.toNat (limL lo len n (List.replicate (nC l) x)))).len + (1 : Nat) ≤ (9223372036854775807 : Nat) ∧ ((Lim.c (List.take x_1.toNat (limL lo len n (List.replicate (nC l) x)))).len + (1 : Nat)) * (24 : Nat) ≤ (140737488355328 : Nat))))) (((0 : Int) ≤ IntKind.i64.wrap (x_1 + (1 : Int)) ∧ IntKind.i64.wrap (x_1 + (1 : Int)) ≤ (↑len : Int)) ∧ ((SV.h (0 : Nat) [oe3, (0 : Nat), lo, len, (0 : Nat)] = SV.h (0 : Nat) [oe3, (0 : Nat), lo, len, (0 : Nat)] ∧ SV.v (Value.int IntKind.i64 n) = SV.v (Value.int IntKind.i64 n) ∧ SV.f (Fn.func (106 : Nat)) [SV.p (1 : Nat) (0 : Nat), SV.p (2 : Nat) (0 : Nat)] = SV.f (Fn.func (106 : Nat)) [SV.p (1 : Nat) (0 : Nat), SV.p (2 : Nat) (0 : Nat)] ∧ SV.h (4 : Nat) [x_1.toNat + (1 : Nat), (0 : Nat)] = SV.h (4 : Nat) [(IntKind.i64.wrap (x_1 + (1 : Int))).toNat, (0 : Nat)] ∧ SV.v (Value.int IntKind.i64 (↑len : Int)) = SV.v (Value.int IntKind.i64 (↑len : Int)) ∧ SV.v (Value.int IntKind.i64 (IntKind.i64.wrap (x_1 + (1 : Int)))) = SV.v (Value.int IntKind.i64 (IntKind.i64.wrap (x_1 + (1 : Int)))) ∧ True) ∧ (oe3 = oe3 ∧ ep = ep ∧ l = l) ∧ (SV.v (Value.int IntKind.i32 x.g) = SV.v (Value.int IntKind.i32 x.g) ∧ SV.v (Value.int IntKind.i64 x.a) = SV.v (Value.int IntKind.i64 x.a) ∧ SV.v (Value.bool x.gd) = SV.v (Value.bool x.gd) ∧ SV.v (Value.int IntKind.i64 x.m) = SV.v (Value.int IntKind.i64 x.m) ∧ True) ∧ (SV.p (3 : Nat) (0 : Nat) = SV.p (3 : Nat) (0 : Nat) ∧ True) ∧ (SV.h (0 : Nat) [oe3, (0 : Nat)] = SV.h (0 : Nat) [oe3, (0 : Nat)] ∧ True) ∧ (ep = ep ∧ x_1.toNat + (1 : Nat) = (IntKind.i64.wrap (x_1 + (1 : Int))).toNat ∧ List.take x_1.toNat (limL lo len n (List.replicate (nC l) x)) ++ [Sum.inr (List.replicate (↑((Rws.c l).nAt (0 : Nat)) : Int).toNat (C4.mk x.g x.a x.gd x.m))] = List.take (IntKind.i64.wrap (x_1 + (1 : Int))).toNat (limL lo len n (List.replicate (nC l) x))) ∧ True) ∧ ((↑len : Int) - IntKind.i64.wrap (x_1 + (1 : Int))).toNat < ((↑len : Int) - x_1).toNat))))) (rq (oe3.beq oe3 && (Nat.beq (1 : Nat) (1 : Nat) && ((lo + len).ble (Rws.c l).len && decide ((0 : Int) ≤ IntKind.i64.wrap (x_1 + n) ∧ IntKind.i64.wrap (x_1 + n) < (↑len : Int))))) (rq (oe3.beq oe3 && (lo + (IntKind.i64.wrap (x_1 + n)).toNat).blt (Rws.c l).len) (rq (true && (x_1.toNat.beq x_1.toNat && (ep.beq ep && decide ((Lim.c (List.take x_1.toNat (limL lo len n (List.replicate (nC l) x)))).len + (1 : Nat) ≤ (9223372036854775807 : Nat) ∧ ((Lim.c (List.take x_1.toNat (limL lo len n (List.replicate (nC l) x)))).len + (1 : Nat)) * (24 : Nat) ≤ (140737488355328 : Nat))))) (((0 : Int) ≤ IntKind.i64.wrap (x_1 + (1 : Int)) ∧ IntKind.i64.wrap (x_1 + (1 : Int)) ≤ (↑len : Int)) ∧ ((SV.h (0 : Nat) [oe3, (0 : Nat), lo, len, (0 : Nat)] = SV.h (0 : Nat) [oe3, (0 : Nat), lo, len, (0 : Nat)] ∧ SV.v (Value.int IntKind.i64 n) = SV.v (Value.int IntKind.i64 n) ∧ SV.f (Fn.func (106 : Nat)) [SV.p (1 : Nat) (0 : Nat), SV.p (2 : Nat) (0 : Nat)] = SV.f (Fn.func (106 : Nat)) [SV.p (1 : Nat) (0 : Nat), SV.p (2 : Nat) (0 : Nat)] ∧ SV.h (4 : Nat) [x_1.toNat + (1 : Nat), (0 : Nat)] = SV.h (4 : Nat) [(IntKind.i64.wrap (x_1 + (1 : Int))).toNat, (0 : Nat)] ∧ SV.v (Value.int IntKind.i64 (↑len : Int)) = SV.v (Value.int IntKind.i64 (↑len : Int)) ∧ SV.v (Value.int IntKind.i64 (IntKind.i64.wrap (x_1 + (1 : Int)))) = SV.v (Value.int IntKind.i64 (IntKind.i64.wrap (x_1 + (1 : Int)))) ∧ True) ∧ (oe3 = oe3 ∧ ep = ep ∧ l = l) ∧ (SV.v (Value.int IntKind.i32 x.g) = SV.v (Value.int IntKind.i32 x.g) ∧ SV.v (Value.int IntKind.i64 x.a) = SV.v (Value.int IntKind.i64 x.a) ∧ SV.v (Value.bool x.gd) = SV.v (Value.bool x.gd) ∧ SV.v (Value.int IntKind.i64 x.m) = SV.v (Value.int IntKind.i64 x.m) ∧ True) ∧ (SV.p (3 : Nat) (0 : Nat) = SV.p (3 : Nat) (0 : Nat) ∧ True) ∧ (SV.h (0 : Nat) [oe3, (0 : Nat)] = SV.h (0 : Nat) [oe3, (0 : Nat)] ∧ True) ∧ (ep = ep ∧ x_1.toNat + (1 : Nat) = (IntKind.i64.wrap (x_1 + (1 : Int))).toNat ∧ List.take x_1.toNat (limL lo len n (List.replicate (nC l) x)) ++ [Sum.inl (lo + (IntKind.i64.wrap (x_1 + n)).toNat)] = List.take (IntKind.i64.wrap (x_1 + (1 : Int))).toNat (limL lo len n (List.replicate (nC l) x))) ∧ True) ∧ ((↑len : Int) - IntKind.i64.wrap (x_1 + (1 : Int))).toNat < ((↑len : Int) - x_1).toNat))))))) ((SV.h (4 : Nat) [x_1.toNat, (0 : Nat)] = SV.h (4 : Nat) [len, (0 : Nat)] ∧ True) ∧ (oe3 = oe3 ∧ ep = ep ∧ l = l) ∧ (SV.v (Value.int IntKind.i32 x.g) = SV.v (Value.int IntKind.i32 x.g) ∧ SV.v (Value.int IntKind.i64 x.a) = SV.v (Value.int IntKind.i64 x.a) ∧ SV.v (Value.bool x.gd) = SV.v (Value.bool x.gd) ∧ SV.v (Value.int IntKind.i64 x.m) = SV.v (Value.int IntKind.i64 x.m) ∧ True) ∧ (SV.p (3 : Nat) (0 : Nat) = SV.p (3 : Nat) (0 : Nat) ∧ True) ∧ (SV.h (0 : Nat) [oe3, (0 : Nat)] = SV.h (0 : Nat) [oe3, (0 : Nat)] ∧ True) ∧ (ep = ep ∧ x_1.toNat = len ∧ List.take x_1.toNat (limL lo len n (List.replicate (nC l) x)) = limL lo len n (List.replicate (nC l) x)) ∧ True)))))) (by kernel_rfl) ?_
  clear hp hφ
  have hL := hg.r1
  have hC := hg.c1
  have hC0 := hg.c0
  have e0 : (l.getD 0 []).length = nC l := rfl
  have eLim : ∀ k : Nat, k ≤ len → (Lim.c ((limL lo len n (List.replicate (nC l) x)).take k)).len = k := fun k hk => by
    show ((limL lo len n (List.replicate (nC l) x)).take k).length = k
    rw [List.length_take, limL_length]; omega
  simp only [LC4, II, LLC, LJC, eLen, eNat, eSz, e0, nbeq, rq_iff, br_iff, hg, Bool.true_and, Bool.and_true, true_and, and_true, Bool.and_eq_true, Nat.ble_eq, Nat.blt_eq, decide_eq_true_eq, decide_eq_false_iff_not, Int.toNat_natCast]
  refine ⟨by omega, by omega, by omega, ⟨rfl, rfl⟩, ⟨by omega, by omega⟩, fun k ⟨hk0, hk1⟩ => ⟨fun hlt => ⟨by omega, ?_⟩, fun hge => ?_⟩⟩
  · rw [wrap64 (x := (len : Int) - 1) (by omega) (by omega), wrap64 (x := (len : Int) - 1 - k) (by omega) (by omega), wrap64 (x := k + 1) (by omega) (by omega), wrap64 (x := 0 - k) (by omega) (by omega), eLim _ (by omega)]
    have hs := limL_succ (lo := lo) (len := len) (n := n) (x := List.replicate (nC l) x) hk0 (by omega)
    have e3 : k.toNat + 1 = (k + 1).toNat := by omega
    have e4 : ((k.toNat : Nat) : Int) = k := by omega
    rw [e3, hs]
    have eT : Int.toNat (nC l : Int) = nC l := by omega
    refine ⟨fun h5 => ?_, fun h5 => ⟨fun h6 => ?_, fun h6 => ?_⟩⟩
    · have : limAt1 lo len n (List.replicate (nC l) x) k.toNat = .inr (List.replicate (nC l) x) := if_pos (.inl (by rw [e4]; omega))
      rw [this]
      exact ⟨decide_eq_true (by omega), by omega, by omega, ⟨by omega, by omega⟩, ⟨by omega, by omega⟩, ⟨by omega, by omega⟩, ⟨rfl, rfl, rfl⟩, by omega⟩
    · have : limAt1 lo len n (List.replicate (nC l) x) k.toNat = .inr (List.replicate (nC l) x) := if_pos (.inr (by rw [e4]; omega))
      rw [this]
      exact ⟨decide_eq_true (by omega), by omega, by omega, ⟨by omega, by omega⟩, ⟨by omega, by omega⟩, ⟨by omega, by omega⟩, ⟨rfl, rfl, rfl⟩, by omega⟩
    · have : limAt1 lo len n (List.replicate (nC l) x) k.toNat = .inl (lo + (k + n).toNat) := by
        unfold limAt1
        rw [if_neg (by rw [e4]; omega), e4]
      rw [wrap64 (x := k + n) (by omega) (by omega), this]
      exact ⟨⟨by omega, by omega, by omega⟩, by omega, ⟨by omega, by omega⟩, ⟨by omega, by omega⟩, ⟨rfl, rfl, rfl⟩, by omega⟩
  · have hk : k = len := by omega
    subst hk
    have : (limL lo len n (List.replicate (nC l) x)).take (Int.toNat (len : Int)) = limL lo len n (List.replicate (nC l) x) := List.take_of_length_le (by rw [limL_length]; omega)
    rw [this]
    simp
def rollL (l : List (List C4)) (top bot : Nat) (n : Int) (x : C4) : List (List C4) := mrg l [] top (limL top (bot + 1 - top) n (List.replicate (nC l) x))
def lcRoll1 : ACon Unit := mkLC (decP (shCons (shP 0) (shCons shI (shCons shI (shCons shI (shOne shC))))) shG) fun ((_, t, b, n, x), (oe, ⟨l, oe2, ep⟩)) => .ask (oe = oe2 ∧ GW l) (.br (inB l t 0 && inB l b 0)
  (.br (decide (b < t)) (.one (.v (.int .i64 1)) (gbi 0 oe ep l) [1]) (.one (.v (.int .i64 0)) (gbi 0 oe (ep + 1) (rollL l t.toNat b.toNat n x)) [1])) (.one (.v (.int .i64 11)) (gbi 0 oe ep l) [1]))
def tabG : List (Nat × ACon Unit) := (107, lcMovR) :: tabD
theorem tabG_ok : LCs Try.prog tabG := ⟨ok_movR, tabD_ok⟩
set_option maxHeartbeats 4000000 in
theorem ok_roll1 : ∀ I : Sym.Inv Unit, LCOk I Try.prog 89 lcRoll1 := by
  refine lc_mk (fun _ => allCfg Try.prog [] tabG 3) (fun _ _ => allCfg_ok mixed trivial tabG_ok) (fun _ => rfl) (n := 80) Try.func89 ?_
  intro ⟨⟨_, t, b, n, x⟩, ⟨oe, ⟨l, oe2, ep⟩⟩⟩ hφ
  obtain ⟨⟨rfl, hg⟩, hp⟩ := id hφ
  refine kcast (B := (true = true ∧ (oe = oe ∧ GW l) ∧ br (inB l t (0 : Int) && inB l b (0 : Int)) (br (decide (b < t)) (br (inB l t (0 : Int) && inB l b (0 : Int)) (br (decide (b < t)) ((SV.v (Value.int IntKind.i64 (1 : Int)) = SV.v (Value.int IntKind.i64 (1 : Int)) ∧ True) ∧ (SV.h (1 : Nat) [oe, (0 : Nat)] = SV.h (1 : Nat) [oe, (0 : Nat)] ∧ True) ∧ (oe = oe ∧ ep = ep ∧ l = l) ∧ True) ((SV.v (Value.int IntKind.i64 (1 : Int)) = SV.v (Value.int IntKind.i64 (0 : Int)) ∧ True) ∧ (SV.h (1 : Nat) [oe, (0 : Nat)] = SV.h (1 : Nat) [oe, (0 : Nat)] ∧ True) ∧ (oe = oe ∧ ep = ep + (1 : Nat) ∧ l = rollL l t.toNat b.toNat n x) ∧ True)) ((SV.v (Value.int IntKind.i64 (1 : Int)) = SV.v (Value.int IntKind.i64 (11 : Int)) ∧ True) ∧ (SV.h (1 : Nat) [oe, (0 : Nat)] = SV.h (1 : Nat) [oe, (0 : Nat)] ∧ True) ∧ (oe = oe ∧ ep = ep ∧ l = l) ∧ True)) (rq (oe.beq oe && (true && decide ((0 : Int) ≤ t ∧ t ≤ (↑(Rws.c l).len : Int) ∧ (↑(Rws.c l).len : Int) ≤ (↑(Rws.c l).len : Int)))) (rq (oe.beq oe && (true && decide ((0 : Int) ≤ t ∧ t ≤ IntKind.i64.wrap (b + (1 : Int)) ∧ IntKind.i64.wrap (b + (1 : Int)) ≤ (↑(Rws.c l).len : Int)))) (true = true ∧ (oe = oe ∧ oe = oe ∧ GW l ∧ t.toNat + ((IntKind.i64.wrap (b + (1 : Int))).toNat - t.toNat) ≤ l.length ∧ (0 : Nat) < (IntKind.i64.wrap (b + (1 : Int))).toNat - t.toNat) ∧ rq (oe.beq oe && (ep.beq ep && (((IntKind.i64.wrap (b + (1 : Int))).toNat - t.toNat).beq ((IntKind.i64.wrap (b + (1 : Int))).toNat - t.toNat) && ((t.toNat + ((↑(Rws.c l).len : Int).toNat - t.toNat)).ble (Rws.c l).len && ((Lim.c (limL t.toNat ((IntKind.i64.wrap (b + (1 : Int))).toNat - t.toNat) n (List.replicate (nC l) (C4.mk x.g x.a x.gd x.m)))).len.ble ((↑(Rws.c l).len : Int).toNat - t.toNat) && (Nat.blt (0 : Nat) (Rws.c l).len && fitsB (Rws.c l).len t.toNat (Lim.c (limL t.toNat ((IntKind.i64.wrap (b + (1 : Int))).toNat - t.toNat) n (List.replicate (nC l) (C4.mk x.g x.a x.gd x.m)))))))))) ((oe = oe ∧ ep = ep ∧ l = l) ∧ [SV.h (1 : Nat) [oe, (0 : Nat)]] = [SV.h (1 : Nat) [oe, (0 : Nat)]] ∧ [SV.p (0 : Nat) (0 : Nat)] = [SV.p (0 : Nat) (0 : Nat)] ∧ br (inB l t (0 : Int) && inB l b (0 : Int)) (br (decide (b < t)) ((SV.v (Value.int IntKind.i64 (0 : Int)) = SV.v (Value.int IntKind.i64 (1 : Int)) ∧ True) ∧ (SV.h (1 : Nat) [oe, (0 : Nat)] = SV.h (1 : Nat) [oe, (0 : Nat)] ∧ True) ∧ (oe = oe ∧ ep + (1 : Nat) = ep ∧ mrg l [] t.toNat (limL t.toNat ((IntKind.i64.wrap (b + (1 : Int))).toNat - t.toNat) n (List.replicate (nC l) (C4.mk x.g x.a x.gd x.m))) = l) ∧ True) ((SV.v (Value.int IntKind.i64 (0 : Int)) = SV.v (Value.int IntKind.i64 (0 : Int)) ∧ True) ∧ (SV.h (1 : Nat) [oe, (0 : Nat)] = SV.h (1 : Nat) [oe, (0 : Nat)] ∧ True) ∧ (oe = oe ∧ ep + (1 : Nat) = ep + (1 : Nat) ∧ mrg l [] t.toNat (limL t.toNat ((IntKind.i64.wrap (b + (1 : Int))).toNat - t.toNat) n (List.replicate (nC l) (C4.mk x.g x.a x.gd x.m))) = rollL l t.toNat b.toNat n x) ∧ True)) ((SV.v (Value.int IntKind.i64 (0 : Int)) = SV.v (Value.int IntKind.i64 (11 : Int)) ∧ True) ∧ (SV.h (1 : Nat) [oe, (0 : Nat)] = SV.h (1 : Nat) [oe, (0 : Nat)] ∧ True) ∧ (oe = oe ∧ ep + (1 : Nat) = ep ∧ mrg l [] t.toNat (limL t.toNat ((IntKind.i64.wrap (b + (1 : Int))).toNat - t.toNat) n (List.replicate (nC l) (C4.mk x.g x.a x.gd x.m))) = l) ∧ True)))))) (br (inB l t (0 : Int) && inB l b (0 : Int)) (br (decide (b < t)) ((SV.v (Value.int IntKind.i64 (11 : Int)) = SV.v (Value.int IntKind.i64 (1 : Int)) ∧ True) ∧ (SV.h (1 : Nat) [oe, (0 : Nat)] = SV.h (1 : Nat) [oe, (0 : Nat)] ∧ True) ∧ (oe = oe ∧ ep = ep ∧ l = l) ∧ True) ((SV.v (Value.int IntKind.i64 (11 : Int)) = SV.v (Value.int IntKind.i64 (0 : Int)) ∧ True) ∧ (SV.h (1 : Nat) [oe, (0 : Nat)] = SV.h (1 : Nat) [oe, (0 : Nat)] ∧ True) ∧ (oe = oe ∧ ep = ep + (1 : Nat) ∧ l = rollL l t.toNat b.toNat n x) ∧ True)) ((SV.v (Value.int IntKind.i64 (11 : Int)) = SV.v (Value.int IntKind.i64 (11 : Int)) ∧ True) ∧ (SV.h (1 : Nat) [oe, (0 : Nat)] = SV.h (1 : Nat) [oe, (0 : Nat)] ∧ True) ∧ (oe = oe ∧ ep = ep ∧ l = l) ∧ True)))) (by kernel_rfl) ?_
  refine ⟨rfl, ⟨rfl, hg⟩, ?_⟩
  clear hp hφ
  have hg1 := hg.r1
  have hg2 := hg.c1
  cases h : inB l t 0 <;> cases h' : inB l b 0
  · simp only [br_iff, Bool.and_self, Bool.false_eq_true, false_implies, true_implies, true_and, and_true]
  · simp only [br_iff, Bool.false_and, Bool.false_eq_true, false_implies, true_implies, true_and, and_true]
  · simp only [br_iff, Bool.and_false, Bool.false_eq_true, false_implies, true_implies, true_and, and_true]
  rw [inB_iff] at h h'
  by_cases hba : b < t
  · simp only [br_iff, rq_iff, hba, decide_true, Bool.and_self, Bool.true_eq_false, false_implies, true_implies, true_and, and_true]
  have ew : IntKind.i64.wrap (b + 1) = b + 1 := wrap64 (by omega) (by omega)
  have e7 : (b + 1).toNat - t.toNat = b.toNat + 1 - t.toNat := by omega
  have eLim : (Lim.c (limL t.toNat (b.toNat + 1 - t.toNat) n (List.replicate (nC l) x))).len = b.toNat + 1 - t.toNat := limL_length _ _ _ _
  have hf : fitsB l.length t.toNat (Lim.c (limL t.toNat (b.toNat + 1 - t.toNat) n (List.replicate (nC l) x))) = true := fitsB_of fun p j hp hj => limL_fits (by omega) hp hj
  simp only [LC4, II, LLC, eLen, eNat, eSz, br_iff, rq_iff, nbeq, hba, hg, ew, e7, eLim, hf, decide_false, Bool.and_self, Bool.true_eq_false, Bool.false_eq_true, false_implies, true_implies, true_and, and_true, Bool.true_and, Bool.and_true, Bool.and_eq_true, Nat.ble_eq, Nat.blt_eq, decide_eq_true_eq]
  exact ⟨decide_eq_true (by omega), by omega, ⟨by omega, by omega⟩, ⟨by omega, by omega, by omega⟩, rfl⟩
def lcRoll0 : ACon Unit := mkLC (decP (shCons shNilP (shCons shI (shCons shI (shCons shI (shOne shC))))) shHNil) fun _ => .one (.v (.int .i64 2)) [] []
set_option maxHeartbeats 4000000 in
theorem ok_roll0 : ∀ I : Sym.Inv Unit, LCOk I Try.prog 89 lcRoll0 := by
  refine lc_mk (fun _ => allCfg Try.prog [] tabD 3) (fun _ _ => allCfg_ok mixed trivial tabD_ok) (fun _ => rfl) (n := 80) Try.func89 ?_
  intro ⟨⟨_, r, a, b, n⟩, _⟩ hφ
  refine kcast (B := (true = true ∧ (SV.v (Value.int IntKind.i64 (2 : Int)) = SV.v (Value.int IntKind.i64 (2 : Int)) ∧ True) ∧ True)) (by kernel_rfl) ?_
  exact ⟨rfl, ⟨rfl, trivial⟩, trivial⟩
def lcRoll : ACon Unit := lcOr lcRoll1 lcRoll0
theorem ok_roll : ∀ I : Sym.Inv Unit, LCOk I Try.prog 89 lcRoll := lcOr_ok ok_roll1 ok_roll0
end Go.Proofs.Ytdhhagangmkloaa
namespace Go.Proofs.Ytdhhagangmkloaa
open Go Go.Sym
structure OC where
  xs : List C4
  n : Nat
  ep : Nat
def shOwnC : ShB OC where
  enc a := .own (.recs a.xs) a.n 38 4 a.ep true
  dec x := match x with
    | .own c n T' sz ep nn' => match c with
      | .recs xs => match Nat.beq T' 38 && (Nat.beq sz 4 && (nn' == true)) with
        | true => some ⟨xs, n, ep⟩
        | false => none
      | _ => none
    | _ => none
  ok x a h := by
    split at h
    · split at h
      · split at h
        · rename_i hc
          simp only [Bool.and_eq_true, Nat.beq_eq, beq_iff_eq] at hc
          obtain ⟨rfl, rfl, rfl⟩ := hc
          simp only [Option.some.injEq] at h
          subst h
          rfl
        · cases h
      · cases h
    · cases h
def lcRAt : ACon Unit := mkLC (decP (shCons (shP 0) (shCons shI (shOne shI))) (shHCons (shCells (shCons shI (shCons shI (shOne (shO 1)))) 94) (shHOne shOwnC)))
  fun ((_, i, k), ((R, C, ep), ⟨xs, n, ep2⟩)) => .ask (ep = ep2 ∧ xs.length = n ∧ 0 ≤ i ∧ 0 ≤ k ∧ i ≤ 255 ∧ 0 ≤ C ∧ C ≤ 255 ∧ k ≤ 255 ∧ i * C + k < n)
  (.one (cv (xs.getD (i * C + k).toNat C4.no)) [.cells [.v (.int .i64 R), .v (.int .i64 C), .h 1 [ep, 0]] 94, .own (.recs xs) n 38 4 ep true] [])
set_option maxHeartbeats 4000000 in
theorem ok_rat : ∀ I : Sym.Inv Unit, LCOk I Try.prog 30 lcRAt := by
  refine lc_mk (fun _ => allCfg Try.prog [] tabD 3) (fun _ _ => allCfg_ok mixed trivial tabD_ok) (fun _ => rfl) (n := 80) Try.func30 ?_
  intro ⟨⟨_, i, k⟩, ⟨R, C, ep⟩, ⟨xs, n, ep2⟩⟩ hφ
  obtain ⟨⟨rfl, h1, h2, h3, h4, h5, h6, h7, h8⟩, hp⟩ := id hφ
  refine kcast (B := (rq (ep.beq ep && (true && decide ((0 : Int) ≤ IntKind.i64.wrap (IntKind.i64.wrap (i * C) + k) ∧ IntKind.i64.wrap (IntKind.i64.wrap (i * C) + k) < (↑n : Int)))) (rq (ep.beq ep && (IntKind.i64.wrap (IntKind.i64.wrap (i * C) + k)).toNat.blt xs.length) ((SV.a [SV.v (Value.int IntKind.i32 (xs.getD (IntKind.i64.wrap (IntKind.i64.wrap (i * C) + k)).toNat C4.no).g), SV.v (Value.int IntKind.i64 (xs.getD (IntKind.i64.wrap (IntKind.i64.wrap (i * C) + k)).toNat C4.no).a), SV.v (Value.bool (xs.getD (IntKind.i64.wrap (IntKind.i64.wrap (i * C) + k)).toNat C4.no).gd), SV.v (Value.int IntKind.i64 (xs.getD (IntKind.i64.wrap (IntKind.i64.wrap (i * C) + k)).toNat C4.no).m)] = SV.a [SV.v (Value.int IntKind.i32 (xs.getD (i * C + k).toNat C4.no).g), SV.v (Value.int IntKind.i64 (xs.getD (i * C + k).toNat C4.no).a), SV.v (Value.bool (xs.getD (i * C + k).toNat C4.no).gd), SV.v (Value.int IntKind.i64 (xs.getD (i * C + k).toNat C4.no).m)] ∧ True) ∧ (SV.v (Value.int IntKind.i64 R) = SV.v (Value.int IntKind.i64 R) ∧ SV.v (Value.int IntKind.i64 C) = SV.v (Value.int IntKind.i64 C) ∧ SV.h (1 : Nat) [ep, (0 : Nat)] = SV.h (1 : Nat) [ep, (0 : Nat)] ∧ True) ∧ (n = n ∧ ep = ep ∧ xs = xs) ∧ True)))) (by kernel_rfl) ?_
  clear hp hφ
  have hm1 : 0 ≤ i * C := Int.mul_nonneg h2 h5
  have hm2 : i * C ≤ 255 * 255 := Int.mul_le_mul h4 h6 h5 (by omega)
  rw [wrap64 (x := i * C) (by omega) (by omega), wrap64 (x := i * C + k) (by omega) (by omega)]
  simp only [rq_iff, nbeq, Bool.true_and, Bool.and_true, Bool.and_eq_true, Nat.blt_eq, decide_eq_true_eq, true_and, and_true]
  exact ⟨⟨by omega, h8⟩, by omega⟩
def minusF (n : Int) : Int := 0 - (if (if (510 : Int) < n then (510 : Int) else n) > -510 then (if (510 : Int) < n then (510 : Int) else n) else -510)
def lcMinus : ACon Unit := mkLC (decP (shOne shI) shHNil) fun (n, _) => .one (.v (.int .i64 (minusF n))) [] []
set_option maxHeartbeats 4000000 in
theorem ok_minus : ∀ I : Sym.Inv Unit, LCOk I Try.prog 71 lcMinus := by
  refine lc_mk (fun _ => allCfg Try.prog [] [] 0) (fun _ _ => allCfg_ok mixed trivial trivial) (fun _ => rfl) (n := 60) Try.func71 ?_
  intro ⟨n, _⟩ hφ
  refine kcast (B := ((SV.v (Value.int IntKind.i64 (IntKind.i64.wrap ((0 : Int) - if (if (510 : Int) < n then (510 : Int) else n) > (-510 : Int) then if (510 : Int) < n then (510 : Int) else n else (-510 : Int)))) = SV.v (Value.int IntKind.i64 (minusF n)) ∧ True) ∧ True)) (by kernel_rfl) ?_
  have : IntKind.i64.wrap (minusF n) = minusF n := wrap64 (by unfold minusF; split <;> split <;> omega) (by unfold minusF; split <;> split <;> omega)
  simp only [and_true, SV.v.injEq, Value.int.injEq, true_and]
  exact this
def tabJ : List (Nat × ACon Unit) := (71, lcMinus) :: (30, lcRAt) :: (89, lcRoll) :: tabE
theorem tabJ_ok : LCs Try.prog tabJ := ⟨ok_minus, ok_rat, ok_roll, tabE_ok⟩
end Go.Proofs.Ytdhhagangmkloaa
namespace Go.Proofs.Ytdhhagangmkloaa
open Go Go.Sym
def nearI (x n : Int) : Int := if (if n - 1 < x then n - 1 else x) > 0 then (if n - 1 < x then n - 1 else x) else 0
def lcNear1 : ACon Unit := mkLC (decP (shCons shI (shOne shI)) shHNil) fun ((x, n), _) => .ask (1 ≤ n ∧ n ≤ 255) (.one (.v (.int .i64 (nearI x n))) [] [])
set_option maxHeartbeats 4000000 in
theorem ok_near1 : ∀ I : Sym.Inv Unit, LCOk I Try.prog 109 lcNear1 := by
  refine lc_mk (fun _ => allCfg Try.prog [] [] 0) (fun _ _ => allCfg_ok mixed trivial trivial) (fun _ => rfl) (n := 60) Try.func109 ?_
  intro ⟨⟨x, n⟩, _⟩ hφ
  obtain ⟨⟨h1, h2⟩, hp⟩ := id hφ
  refine kcast (B := ((SV.v (Value.int IntKind.i64 (if (if IntKind.i64.wrap (n - (1 : Int)) < x then IntKind.i64.wrap (n - (1 : Int)) else x) > (0 : Int) then if IntKind.i64.wrap (n - (1 : Int)) < x then IntKind.i64.wrap (n - (1 : Int)) else x else (0 : Int))) = SV.v (Value.int IntKind.i64 (nearI x n)) ∧ True) ∧ True)) (by kernel_rfl) ?_
  rw [wrap64 (x := n - 1) (by omega) (by omega)]
  exact ⟨⟨rfl, trivial⟩, trivial⟩
def lcNear : ACon Unit := mkLC (decP (shCons shI2 (shOne shI2)) shHNil) fun (((a, b), (r, c)), _) => .br (mayB a b) (.one (.a [.v (.int .i64 (nearI r a)), .v (.int .i64 (nearI c b))]) [] []) (.one (.a [.v (.int .i64 0), .v (.int .i64 0)]) [] [])
set_option maxHeartbeats 4000000 in
theorem ok_near : ∀ I : Sym.Inv Unit, LCOk I Try.prog 95 lcNear := by
  refine lc_mk (fun _ => allCfg Try.prog [] [(109, lcNear1), (74, lcMay)] 0) (fun _ _ => allCfg_ok mixed trivial ⟨ok_near1, ok_may, trivial⟩) (fun _ => rfl) (n := 60) Try.func95 ?_
  intro ⟨⟨⟨a, b⟩, ⟨r, c⟩⟩, _⟩ hφ
  refine kcast (B := (true = true ∧ br (mayB a b) (true = true ∧ ((1 : Int) ≤ a ∧ a ≤ (255 : Int)) ∧ true = true ∧ ((1 : Int) ≤ b ∧ b ≤ (255 : Int)) ∧ br (mayB a b) ((SV.a [SV.v (Value.int IntKind.i64 (nearI r a)), SV.v (Value.int IntKind.i64 (nearI c b))] = SV.a [SV.v (Value.int IntKind.i64 (nearI r a)), SV.v (Value.int IntKind.i64 (nearI c b))] ∧ True) ∧ True) ((SV.a [SV.v (Value.int IntKind.i64 (nearI r a)), SV.v (Value.int IntKind.i64 (nearI c b))] = SV.a [SV.v (Value.int IntKind.i64 (0 : Int)), SV.v (Value.int IntKind.i64 (0 : Int))] ∧ True) ∧ True)) (br (mayB a b) ((SV.a [SV.v (Value.int IntKind.i64 (0 : Int)), SV.v (Value.int IntKind.i64 (0 : Int))] = SV.a [SV.v (Value.int IntKind.i64 (nearI r a)), SV.v (Value.int IntKind.i64 (nearI c b))] ∧ True) ∧ True) ((SV.a [SV.v (Value.int IntKind.i64 (0 : Int)), SV.v (Value.int IntKind.i64 (0 : Int))] = SV.a [SV.v (Value.int IntKind.i64 (0 : Int)), SV.v (Value.int IntKind.i64 (0 : Int))] ∧ True) ∧ True)))) (by kernel_rfl) ?_
  cases h : mayB a b
  · simp only [br_iff, Bool.false_eq_true, false_implies, true_implies, true_and, and_true]
  · rw [mayB_iff] at h
    simp only [br_iff, Bool.true_eq_false, false_implies, true_implies, true_and, and_true]
    omega
def tabL : List (Nat × ACon Unit) := (109, lcNear1) :: (95, lcNear) :: tabJ
theorem tabL_ok : LCs Try.prog tabL := ⟨ok_near1, ok_near, tabJ_ok⟩
def upL (l : List (List C4)) (x : C4) : List (List C4) := rollL l 0 (l.length - 1) 1 x
def lcRise : ACon Unit := mkLC (decP (shCons (shP 0) (shCons shB (shOne shC))) shG) fun ((_, p, x), (oe, ⟨l, oe2, ep⟩)) => .ask (oe = oe2 ∧ GW l) (.br p (.one (.v (.int .i64 1)) (gbi 0 oe (ep + 1) (upL l x)) [1]) (.one (.v (.int .i64 0)) (gbi 0 oe ep l) [1]))
set_option maxHeartbeats 4000000 in
theorem ok_rise : ∀ I : Sym.Inv Unit, LCOk I Try.prog 81 lcRise := by
  refine lc_mk (fun _ => allCfg Try.prog [] tabL 0) (fun _ _ => allCfg_ok mixed trivial tabL_ok) (fun _ => rfl) (n := 60) Try.func81 ?_
  intro ⟨⟨_, p, x⟩, ⟨oe, ⟨l, oe2, ep⟩⟩⟩ hφ
  obtain ⟨⟨rfl, hg⟩, hp⟩ := id hφ
  refine kcast (B := (br (!p) (br p ((SV.v (Value.int IntKind.i64 (0 : Int)) = SV.v (Value.int IntKind.i64 (1 : Int)) ∧ True) ∧ (SV.h (1 : Nat) [oe, (0 : Nat)] = SV.h (1 : Nat) [oe, (0 : Nat)] ∧ True) ∧ (oe = oe ∧ ep = ep + (1 : Nat) ∧ l = upL l x) ∧ True) ((SV.v (Value.int IntKind.i64 (0 : Int)) = SV.v (Value.int IntKind.i64 (0 : Int)) ∧ True) ∧ (SV.h (1 : Nat) [oe, (0 : Nat)] = SV.h (1 : Nat) [oe, (0 : Nat)] ∧ True) ∧ (oe = oe ∧ ep = ep ∧ l = l) ∧ True)) (true = true ∧ (oe = oe ∧ GW l) ∧ true = true ∧ (oe = oe ∧ GW l) ∧ br (inB l (0 : Int) (0 : Int) && inB l (if (0 : Int) > IntKind.i64.wrap ((↑l.length : Int) - (1 : Int)) then (0 : Int) else IntKind.i64.wrap ((↑l.length : Int) - (1 : Int))) (0 : Int)) (br (decide ((if (0 : Int) > IntKind.i64.wrap ((↑l.length : Int) - (1 : Int)) then (0 : Int) else IntKind.i64.wrap ((↑l.length : Int) - (1 : Int))) < (0 : Int))) (br p ((SV.v (Value.int IntKind.i64 (1 : Int)) = SV.v (Value.int IntKind.i64 (1 : Int)) ∧ True) ∧ (SV.h (1 : Nat) [oe, (0 : Nat)] = SV.h (1 : Nat) [oe, (0 : Nat)] ∧ True) ∧ (oe = oe ∧ ep = ep + (1 : Nat) ∧ l = upL l x) ∧ True) ((SV.v (Value.int IntKind.i64 (1 : Int)) = SV.v (Value.int IntKind.i64 (0 : Int)) ∧ True) ∧ (SV.h (1 : Nat) [oe, (0 : Nat)] = SV.h (1 : Nat) [oe, (0 : Nat)] ∧ True) ∧ (oe = oe ∧ ep = ep ∧ l = l) ∧ True)) (br p ((SV.v (Value.int IntKind.i64 (1 : Int)) = SV.v (Value.int IntKind.i64 (1 : Int)) ∧ True) ∧ (SV.h (1 : Nat) [oe, (0 : Nat)] = SV.h (1 : Nat) [oe, (0 : Nat)] ∧ True) ∧ (oe = oe ∧ ep + (1 : Nat) = ep + (1 : Nat) ∧ rollL l (0 : Nat) (if (0 : Int) > IntKind.i64.wrap ((↑l.length : Int) - (1 : Int)) then (0 : Int) else IntKind.i64.wrap ((↑l.length : Int) - (1 : Int))).toNat (1 : Int) (C4.mk x.g x.a x.gd x.m) = upL l x) ∧ True) ((SV.v (Value.int IntKind.i64 (1 : Int)) = SV.v (Value.int IntKind.i64 (0 : Int)) ∧ True) ∧ (SV.h (1 : Nat) [oe, (0 : Nat)] = SV.h (1 : Nat) [oe, (0 : Nat)] ∧ True) ∧ (oe = oe ∧ ep + (1 : Nat) = ep ∧ rollL l (0 : Nat) (if (0 : Int) > IntKind.i64.wrap ((↑l.length : Int) - (1 : Int)) then (0 : Int) else IntKind.i64.wrap ((↑l.length : Int) - (1 : Int))).toNat (1 : Int) (C4.mk x.g x.a x.gd x.m) = l) ∧ True))) (br p ((SV.v (Value.int IntKind.i64 (1 : Int)) = SV.v (Value.int IntKind.i64 (1 : Int)) ∧ True) ∧ (SV.h (1 : Nat) [oe, (0 : Nat)] = SV.h (1 : Nat) [oe, (0 : Nat)] ∧ True) ∧ (oe = oe ∧ ep = ep + (1 : Nat) ∧ l = upL l x) ∧ True) ((SV.v (Value.int IntKind.i64 (1 : Int)) = SV.v (Value.int IntKind.i64 (0 : Int)) ∧ True) ∧ (SV.h (1 : Nat) [oe, (0 : Nat)] = SV.h (1 : Nat) [oe, (0 : Nat)] ∧ True) ∧ (oe = oe ∧ ep = ep ∧ l = l) ∧ True))))) (by kernel_rfl) ?_
  clear hp hφ
  have h1 := hg.r0
  have h2 := hg.r1
  have h3 := hg.c0
  have e1 : (if (0 : Int) > IntKind.i64.wrap ((l.length : Int) - 1) then (0 : Int) else IntKind.i64.wrap ((l.length : Int) - 1)) = ((l.length - 1 : Nat) : Int) := by
    rw [wrap64 (by omega) (by omega), if_neg (by omega)]; omega
  have e2 : inB l 0 0 = true := by rw [inB_iff]; omega
  have e3 : inB l ((l.length - 1 : Nat) : Int) 0 = true := by rw [inB_iff]; omega
  have e4 : ¬ (((l.length - 1 : Nat) : Int) < 0) := by omega
  simp only [e1]
  cases p
  · simp [br_iff]
  · simp [br_iff, hg, e2, e3, e4, upL]
def tabM : List (Nat × ACon Unit) := (81, lcRise) :: tabL
theorem tabM_ok : LCs Try.prog tabM := ⟨ok_rise, tabL_ok⟩
set_option maxHeartbeats 4000000 in
theorem ok_awake08 : PureOk Try.prog 43 psAwake := by
  refine pureOk_all (fun _ => allCfg Try.prog [] tabM 8) (fun _ _ => allCfg_ok mixed trivial tabM_ok) (fun _ => rfl) (n := 120) Try.func43 (fun _ => rfl) (fun _ => rfl) ?_
  intro _ hφ
  refine kcast (B := (true = true ∧ (II (0 : Int) ≤ (32 : Int) ∧ II (32 : Int) ≤ (255 : Int)) ∧ true = true ∧ true = true ∧ (II (0 : Int) ≤ (32 : Int) ∧ II (32 : Int) ≤ (255 : Int)) ∧ true = true ∧ (II (0 : Int) ≤ (97 : Int) ∧ II (97 : Int) ≤ (255 : Int)) ∧ true = true ∧ ((3 : Nat) = (3 : Nat) ∧ GW [[C4.mk (32 : Int) (0 : Int) false (0 : Int), C4.mk (32 : Int) (0 : Int) false (0 : Int)], [C4.mk (32 : Int) (0 : Int) false (0 : Int), C4.mk (32 : Int) (0 : Int) false (0 : Int)]]) ∧ true = true ∧ (II (0 : Int) ≤ (32 : Int) ∧ II (32 : Int) ≤ (255 : Int)) ∧ true = true ∧ (II (0 : Int) ≤ (98 : Int) ∧ II (98 : Int) ≤ (255 : Int)) ∧ true = true ∧ ((3 : Nat) = (3 : Nat) ∧ GW [[C4.mk (97 : Int) (0 : Int) false (0 : Int), C4.mk (32 : Int) (0 : Int) false (0 : Int)], [C4.mk (32 : Int) (0 : Int) false (0 : Int), C4.mk (32 : Int) (0 : Int) false (0 : Int)]]) ∧ true = true ∧ (II (0 : Int) ≤ (32 : Int) ∧ II (32 : Int) ≤ (255 : Int)) ∧ true = true ∧ (II (0 : Int) ≤ (99 : Int) ∧ II (99 : Int) ≤ (255 : Int)) ∧ true = true ∧ ((3 : Nat) = (3 : Nat) ∧ GW [[C4.mk (97 : Int) (0 : Int) false (0 : Int), C4.mk (98 : Int) (0 : Int) false (0 : Int)], [C4.mk (32 : Int) (0 : Int) false (0 : Int), C4.mk (32 : Int) (0 : Int) false (0 : Int)]]) ∧ true = true ∧ (II (0 : Int) ≤ (32 : Int) ∧ II (32 : Int) ≤ (255 : Int)) ∧ true = true ∧ (II (0 : Int) ≤ (100 : Int) ∧ II (100 : Int) ≤ (255 : Int)) ∧ true = true ∧ ((3 : Nat) = (3 : Nat) ∧ GW [[C4.mk (97 : Int) (0 : Int) false (0 : Int), C4.mk (98 : Int) (0 : Int) false (0 : Int)], [C4.mk (99 : Int) (0 : Int) false (0 : Int), C4.mk (32 : Int) (0 : Int) false (0 : Int)]]) ∧ true = true ∧ (II (0 : Int) ≤ (32 : Int) ∧ II (32 : Int) ≤ (255 : Int)) ∧ true = true ∧ true = true ∧ (II (0 : Int) ≤ (32 : Int) ∧ II (32 : Int) ≤ (255 : Int)) ∧ true = true ∧ (II (0 : Int) ≤ (99 : Int) ∧ II (99 : Int) ≤ (255 : Int)) ∧ true = true ∧ ((2 : Nat) = (2 : Nat) ∧ GW [[C4.mk (32 : Int) (0 : Int) false (0 : Int), C4.mk (32 : Int) (0 : Int) false (0 : Int)]]) ∧ true = true ∧ (II (0 : Int) ≤ (32 : Int) ∧ II (32 : Int) ≤ (255 : Int)) ∧ true = true ∧ (II (0 : Int) ≤ (120 : Int) ∧ II (120 : Int) ≤ (255 : Int)) ∧ true = true ∧ ((2 : Nat) = (2 : Nat) ∧ GW [[C4.mk (99 : Int) (0 : Int) false (0 : Int), C4.mk (32 : Int) (0 : Int) false (0 : Int)]]) ∧ true = true ∧ (II (0 : Int) ≤ (120 : Int) ∧ II (120 : Int) ≤ (255 : Int)) ∧ true = true ∧ (II (0 : Int) ≤ (32 : Int) ∧ II (32 : Int) ≤ (255 : Int)) ∧ true = true ∧ ((3 : Nat) = (3 : Nat) ∧ GW [[C4.mk (97 : Int) (0 : Int) false (0 : Int), C4.mk (98 : Int) (0 : Int) false (0 : Int)], [C4.mk (99 : Int) (0 : Int) false (0 : Int), C4.mk (100 : Int) (0 : Int) false (0 : Int)]]) ∧ true = true ∧ true = true ∧ ((3 : Nat) = (3 : Nat) ∧ GW [[C4.mk (97 : Int) (0 : Int) false (0 : Int), C4.mk (98 : Int) (0 : Int) false (0 : Int)], [C4.mk (99 : Int) (0 : Int) false (0 : Int), C4.mk (100 : Int) (0 : Int) false (0 : Int)]]) ∧ true = true ∧ ((3 : Nat) = (3 : Nat) ∧ GW [[C4.mk (97 : Int) (0 : Int) false (0 : Int), C4.mk (98 : Int) (0 : Int) false (0 : Int)], [C4.mk (99 : Int) (0 : Int) false (0 : Int), C4.mk (100 : Int) (0 : Int) false (0 : Int)]]) ∧ true = true ∧ true = true ∧ true = true ∧ ((3 : Nat) = (3 : Nat) ∧ GW [[C4.mk (97 : Int) (0 : Int) false (0 : Int), C4.mk (98 : Int) (0 : Int) false (0 : Int)], [C4.mk (99 : Int) (0 : Int) false (0 : Int), C4.mk (120 : Int) (0 : Int) false (0 : Int)]]) ∧ true = true ∧ ((3 : Nat) = (3 : Nat) ∧ GW [[C4.mk (99 : Int) (0 : Int) false (0 : Int), C4.mk (120 : Int) (0 : Int) false (0 : Int)], [C4.mk (32 : Int) (0 : Int) false (0 : Int), C4.mk (32 : Int) (0 : Int) false (0 : Int)]]) ∧ true = true ∧ ((3 : Nat) = (3 : Nat) ∧ GW [[C4.mk (99 : Int) (0 : Int) false (0 : Int), C4.mk (120 : Int) (0 : Int) false (0 : Int)], [C4.mk (32 : Int) (0 : Int) false (0 : Int), C4.mk (32 : Int) (0 : Int) false (0 : Int)]]) ∧ true = true ∧ ((3 : Nat) = (3 : Nat) ∧ GW [[C4.mk (99 : Int) (0 : Int) false (0 : Int), C4.mk (120 : Int) (0 : Int) false (0 : Int)], [C4.mk (32 : Int) (0 : Int) false (0 : Int), C4.mk (32 : Int) (0 : Int) false (0 : Int)]]) ∧ true = true ∧ ((1 : Nat) = (1 : Nat) ∧ (2 : Nat) = (2 : Nat) ∧ II (0 : Int) ≤ (0 : Int) ∧ II (0 : Int) ≤ (0 : Int) ∧ II (0 : Int) ≤ (255 : Int) ∧ II (0 : Int) ≤ (2 : Int) ∧ II (2 : Int) ≤ (255 : Int) ∧ II (0 : Int) ≤ (255 : Int) ∧ II (0 : Int) < (2 : Int)) ∧ true = true ∧ ((1 : Nat) = (1 : Nat) ∧ (2 : Nat) = (2 : Nat) ∧ II (0 : Int) ≤ (0 : Int) ∧ II (0 : Int) ≤ (1 : Int) ∧ II (0 : Int) ≤ (255 : Int) ∧ II (0 : Int) ≤ (2 : Int) ∧ II (2 : Int) ≤ (255 : Int) ∧ II (1 : Int) ≤ (255 : Int) ∧ II (1 : Int) < (2 : Int)) ∧ true = true ∧ (II (0 : Int) ≤ (32 : Int) ∧ II (32 : Int) ≤ (255 : Int)) ∧ SV.v (Value.bool true) = SV.v (Value.bool true))) (by kernel_rfl) ?_
  repeat' first | exact rfl | exact gw_of rfl | decide | apply And.intro
abbrev shPl : Sh (Int × Int × Bool) := shA (shCons shI (shCons shI (shOne shB)))
def lcPlace : ACon Unit := mkLC (decP (shOne (shA (shCons shI (shCons shI (shCons shB (shCons shI (shOne shStr))))))) shHNil) fun ((r, c, q, _, _), _) => .one (.a [.v (.int .i64 r), .v (.int .i64 c), .v (.bool q)]) [] []
set_option maxHeartbeats 4000000 in
theorem ok_place : ∀ I : Sym.Inv Unit, LCOk I Try.prog 44 lcPlace := by
  refine lc_mk (fun _ => allCfg Try.prog [] tabM 0) (fun _ _ => allCfg_ok mixed trivial tabM_ok) (fun _ => rfl) (n := 60) Try.func44 ?_
  intro ⟨⟨r, c, q, w, s⟩, _⟩ hφ
  refine kcast (B := ((SV.a [SV.v (Value.int IntKind.i64 r), SV.v (Value.int IntKind.i64 c), SV.v (Value.bool q)] = SV.a [SV.v (Value.int IntKind.i64 r), SV.v (Value.int IntKind.i64 c), SV.v (Value.bool q)] ∧ True) ∧ True)) (by kernel_rfl) ?_
  simp
def shOwnC0 : ShB OC where
  enc a := .own (.recs a.xs) a.n 38 4 a.ep false
  dec x := match x with
    | .own c n T' sz ep nn' => match c with
      | .recs xs => match Nat.beq T' 38 && (Nat.beq sz 4 && (nn' == false)) with
        | true => some ⟨xs, n, ep⟩
        | false => none
      | _ => none
    | _ => none
  ok x a h := by
    split at h
    · split at h
      · split at h
        · rename_i hc
          simp only [Bool.and_eq_true, Nat.beq_eq, beq_iff_eq] at hc
          obtain ⟨rfl, rfl, rfl⟩ := hc
          simp only [Option.some.injEq] at h
          subst h
          rfl
        · cases h
      · cases h
    · cases h
theorem byteAt_range (s : ByteArray) (j : Nat) : 0 ≤ byteAt s j ∧ byteAt s j ≤ 255 := by
  unfold byteAt
  have := (s.data.toList.getD j 0).toNat_lt
  omega
def cellsL (s : ByteArray) (k : Nat) : List C4 := (List.range k).map fun i => cellOf (byteAt s i)
def annCe : Ann Unit where
  α := Int
  φ st k := 0 ≤ k ∧ k ≤ (tS st.tm 0).size
  μ st k := ((tS st.tm 0).size - k).toNat
  get st := getI st.tm 4
  f st k := tmpl [0] [(4, .v (.int .i64 k)), (3, .h 0 [k.toNat, 0])] [(0, .own (.recs (cellsL (tS st.tm 0) k.toNat)) k.toNat 38 4 k.toNat false)] st
  fx st := match nilAt st.tm 3 with
    | true => [.nilTm 3 (.recs []) 38 4]
    | false => []
def lcCells : ACon Unit := mkLC (decP (shOne shStr) shHNil) fun (s, _) => .ask (s.size ≤ 60) (.one (.h 0 [s.size, 0]) [.own (.recs (cellsL s s.size)) s.size 38 4 s.size false] [])
set_option maxHeartbeats 4000000 in
theorem ok_cells : ∀ I : Sym.Inv Unit, LCOk I Try.prog 56 lcCells := by
  refine lc_mk (fun _ => allCfg Try.prog [] tabM 3 [(260, annCe)]) (fun _ _ => allCfg_ok mixed trivial tabM_ok) (fun _ => rfl) (n := 60) Try.func56 ?_
  intro ⟨s, _⟩ hφ
  obtain ⟨h1, hp⟩ := id hφ
  refine kcast (B := ((II (0 : Int) ≤ (0 : Int) ∧ (0 : Int) ≤ (↑s.size : Int)) ∧ ((SV.v (Value.string s) = SV.v (Value.string s) ∧ SV.h (0 : Nat) [(0 : Nat), (0 : Nat)] = SV.h (0 : Nat) [(0 : Nat), (0 : Nat)] ∧ SV.v (Value.int IntKind.i64 (0 : Int)) = SV.v (Value.int IntKind.i64 (0 : Int)) ∧ True) ∧ ((0 : Nat) = (0 : Nat) ∧ (0 : Nat) = (0 : Nat) ∧ LC4 [] = []) ∧ True) ∧ ∀ (x : Int), (0 : Int) ≤ x ∧ x ≤ (↑s.size : Int) → br (decide (x < (↑s.size : Int))) (rq (decide ((0 : Int) ≤ x ∧ x < (↑s.size : Int))) (true = true ∧ ((0 : Int) ≤ byteAt s x.toNat ∧ byteAt s x.toNat ≤ (255 : Int)) ∧ rq (x.toNat.beq x.toNat && (true && decide (x.toNat + (1 : Nat) ≤ (9223372036854775807 : Nat) ∧ (x.toNat + (1 : Nat)) * (32 : Nat) ≤ (140737488355328 : Nat)))) (((0 : Int) ≤ IntKind.i64.wrap (x + (1 : Int)) ∧ IntKind.i64.wrap (x + (1 : Int)) ≤ (↑s.size : Int)) ∧ ((SV.v (Value.string s) = SV.v (Value.string s) ∧ SV.h (0 : Nat) [x.toNat + (1 : Nat), (0 : Nat)] = SV.h (0 : Nat) [(IntKind.i64.wrap (x + (1 : Int))).toNat, (0 : Nat)] ∧ SV.v (Value.int IntKind.i64 (IntKind.i64.wrap (x + (1 : Int)))) = SV.v (Value.int IntKind.i64 (IntKind.i64.wrap (x + (1 : Int)))) ∧ True) ∧ (x.toNat + (1 : Nat) = (IntKind.i64.wrap (x + (1 : Int))).toNat ∧ x.toNat + (1 : Nat) = (IntKind.i64.wrap (x + (1 : Int))).toNat ∧ cellsL s x.toNat ++ [C4.mk (byteAt s x.toNat) (0 : Int) (decide ((65 : Int) ≤ byteAt s x.toNat) && decide (byteAt s x.toNat ≤ (90 : Int))) (0 : Int)] = cellsL s (IntKind.i64.wrap (x + (1 : Int))).toNat) ∧ True) ∧ ((↑s.size : Int) - IntKind.i64.wrap (x + (1 : Int))).toNat < ((↑s.size : Int) - x).toNat))) ((SV.h (0 : Nat) [x.toNat, (0 : Nat)] = SV.h (0 : Nat) [s.size, (0 : Nat)] ∧ True) ∧ (x.toNat = s.size ∧ x.toNat = s.size ∧ cellsL s x.toNat = cellsL s s.size) ∧ True))) (by kernel_rfl) ?_
  clear hp hφ
  simp only [LC4, II, nbeq, rq_iff, br_iff, Bool.true_and, Bool.and_true, true_and, and_true, Bool.and_eq_true, Nat.ble_eq, Nat.blt_eq, decide_eq_true_eq, decide_eq_false_iff_not]
  refine ⟨by omega, fun k ⟨hk0, hk1⟩ => ⟨fun hlt => ?_, fun hge => ?_⟩⟩
  · rw [wrap64 (x := k + 1) (by omega) (by omega)]
    have e1 : (k + 1).toNat = k.toNat + 1 := by omega
    have hb := byteAt_range s k.toNat
    rw [e1]
    refine ⟨⟨hk0, hlt⟩, hb, ⟨by omega, by omega⟩, ⟨by omega, by omega⟩, ⟨rfl, rfl, rfl, ?_⟩, by omega⟩
    unfold cellsL
    rw [List.range_succ, List.map_append]; rfl
  · have : k.toNat = s.size := by omega
    rw [this]
    exact ⟨rfl, rfl, rfl, rfl⟩
end Go.Proofs.Ytdhhagangmkloaa
namespace Go.Proofs.Ytdhhagangmkloaa
open Go Go.Sym
def gridF {α : Type} (R C : Nat) (f : Nat → Nat → α) : List (List α) := (List.range R).map fun r => (List.range C).map (f r)
theorem gridF_length {α : Type} (R C : Nat) (f : Nat → Nat → α) : (gridF R C f).length = R := by simp [gridF]
theorem gridF_row {α : Type} {R C : Nat} {f : Nat → Nat → α} {r : Nat} (h : r < R) : (gridF R C f).getD r [] = (List.range C).map (f r) := by simp [gridF, List.getD, h]
theorem gridF_nC {R C : Nat} {f : Nat → Nat → C4} (h : 0 < R) : nC (gridF R C f) = C := by unfold nC; rw [gridF_row h]; simp
theorem gridF_gw {R C : Nat} {f : Nat → Nat → C4} (h0 : 1 ≤ R) (h1 : R ≤ 255) (h2 : 1 ≤ C) (h3 : C ≤ 255) : GW (gridF R C f) := by
  have hn := gridF_nC (C := C) (f := f) (show 0 < R by omega)
  refine ⟨by rw [gridF_length]; exact h0, by rw [gridF_length]; exact h1, by rw [hn]; exact h2, by rw [hn]; exact h3, fun r hr => ?_⟩
  rw [hn]
  simp only [gridF, List.mem_map] at hr
  obtain ⟨i, _, rfl⟩ := hr
  simp
theorem gridF_congr {α : Type} {R C : Nat} {f g : Nat → Nat → α} (h : ∀ r c, r < R → c < C → f r c = g r c) : gridF R C f = gridF R C g := by
  unfold gridF
  refine List.map_congr_left fun r hr => List.map_congr_left fun c hc => h r c (List.mem_range.1 hr) (List.mem_range.1 hc)
theorem gridF_set {R C : Nat} {f : Nat → Nat → C4} {r c : Nat} {x : C4} (hr : r < R) (hc : c < C) : set2 (gridF R C f) r c x = gridF R C fun r' c' => if r' = r ∧ c' = c then x else f r' c' := by
  unfold set2
  rw [Int.toNat_natCast, Int.toNat_natCast, gridF_row hr]
  unfold gridF
  apply List.ext_getElem
  · simp
  · intro i h1 h2
    have hi : i < R := by simpa using h2
    by_cases hir : r = i
    · subst hir
      rw [List.getElem_set_self]
      simp only [List.getElem_map, List.getElem_range]
      apply List.ext_getElem
      · simp
      · intro j h3 h4
        have hj : j < C := by simpa using h4
        by_cases hjc : c = j
        · subst hjc; rw [List.getElem_set_self]; simp
        · rw [List.getElem_set_ne hjc]; simp [show ¬ j = c from fun e => hjc e.symm]
    · rw [List.getElem_set_ne hir]
      simp only [List.getElem_map, List.getElem_range]
      refine List.map_congr_left fun c' _ => ?_
      rw [if_neg fun e => hir e.1.symm]
theorem newL_gridF (R C : Nat) (x : C4) : newL R C x = gridF R C fun _ _ => x := by
  unfold newL gridF
  apply List.ext_getElem
  · simp
  · intro i h1 h2
    simp only [List.getElem_replicate, List.getElem_map]
    apply List.ext_getElem <;> simp
theorem byteAt_rng (s : ByteArray) (j : Nat) : 0 ≤ byteAt s j ∧ byteAt s j ≤ 255 := by
  unfold byteAt
  have := (s.data.toList.getD j 0).toNat_lt
  omega
def cellB (s : ByteArray) (k : Nat) : C4 := if k < s.size then cellOf (byteAt s k) else cellOf 32
def bdAt (L : List ByteArray) (i k r c : Nat) : C4 := if r < i ∨ (r = i ∧ c < k) then cellB (L.getD r ByteArray.empty) c else cellOf 32
def boardL (L : List ByteArray) (C : Nat) : List (List C4) := gridF L.length C fun r c => cellB (L.getD r ByteArray.empty) c
def flatL (L : List ByteArray) (C n : Nat) : List C4 := (List.range n).map fun j => cellB (L.getD (j / C) ByteArray.empty) (j % C)
theorem flatL_succ (L : List ByteArray) (C n : Nat) : flatL L C (n + 1) = flatL L C n ++ [cellB (L.getD (n / C) ByteArray.empty) (n % C)] := by simp [flatL, List.range_succ]
theorem flatL_at (L : List ByteArray) {C i k : Nat} (h : k < C) : flatL L C (i * C + k + 1) = flatL L C (i * C + k) ++ [cellB (L.getD i ByteArray.empty) k] := by
  rw [flatL_succ]
  have e1 : (i * C + k) / C = i := by rw [Nat.add_comm, Nat.add_mul_div_right _ _ (by omega), Nat.div_eq_of_lt h]; omega
  have e2 : (i * C + k) % C = k := by rw [Nat.add_comm, Nat.add_mul_mod_self_right, Nat.mod_eq_of_lt h]
  rw [e1, e2]
theorem bd_zero (L : List ByteArray) (R C : Nat) : newL R C (cellOf 32) = gridF R C (bdAt L 0 0) := by
  rw [newL_gridF]
  refine gridF_congr fun r c _ _ => ?_
  rw [bdAt, if_neg (by omega)]
theorem bd_step (L : List ByteArray) {R C i k : Nat} (hi : i < R) (hk : k < C) : set2 (gridF R C (bdAt L i k)) i k (cellB (L.getD i ByteArray.empty) k) = gridF R C (bdAt L i (k + 1)) := by
  rw [gridF_set hi hk]
  refine gridF_congr fun r c _ _ => ?_
  unfold bdAt
  by_cases h : r = i ∧ c = k
  · obtain ⟨rfl, rfl⟩ := h
    rw [if_pos ⟨rfl, rfl⟩, if_pos (by omega)]
  · rw [if_neg h]
    by_cases h2 : r < i ∨ (r = i ∧ c < k)
    · rw [if_pos h2, if_pos (by omega)]
    · rw [if_neg h2, if_neg (by omega)]
theorem bd_next (L : List ByteArray) (R C i : Nat) : gridF R C (bdAt L i C) = gridF R C (bdAt L (i + 1) 0) := by
  refine gridF_congr fun r c _ hc => ?_
  unfold bdAt
  by_cases h2 : r < i ∨ (r = i ∧ c < C)
  · rw [if_pos h2, if_pos (by omega)]
  · rw [if_neg h2, if_neg (by omega)]
theorem bd_all (L : List ByteArray) (C : Nat) : gridF L.length C (bdAt L L.length 0) = boardL L C := by
  refine gridF_congr fun r c hr _ => ?_
  rw [bdAt, if_pos (by omega)]
def annMo (L : List ByteArray) (C : Nat) : Ann Unit where
  α := Int
  φ _ i := 0 ≤ i ∧ i ≤ L.length
  μ _ i := ((L.length : Int) - i).toNat
  get st := getI st.tm 7
  f st i := tmpl [1, 4, 6] [(7, .v (.int .i64 i))] [(5, .rows (.c (gridF L.length C (bdAt L i.toNat 0))) 38 92 (L.length + 1) (L.length + 1) none),
    (6, .cells [.v (.int .i64 L.length), .v (.int .i64 C), .h 7 [i.toNat * C, 0]] 94), (7, .own (.recs (flatL L C (i.toNat * C))) (i.toNat * C) 38 4 (i.toNat * C) false)] st
  fx st := match getC st.H 6 with
    | [_, _, x] => match nilS x with
      | true => [.nilCell 6 2 (.recs []) 38 4]
      | false => []
    | _ => []
def annMi (L : List ByteArray) (C : Nat) : Ann Unit where
  α := Int
  φ _ k := 0 ≤ k ∧ k ≤ C
  μ _ k := ((C : Int) - k).toNat
  get st := getI st.tm 8
  f st k := tmpl [1, 4, 6, 7] [(8, .v (.int .i64 k))] [(5, .rows (.c (gridF L.length C (bdAt L (tI st.tm 7).toNat k.toNat))) 38 92 (L.length + 1) (L.length + 1) none),
    (6, .cells [.v (.int .i64 L.length), .v (.int .i64 C), .h 7 [(tI st.tm 7).toNat * C + k.toNat, 0]] 94), (7, .own (.recs (flatL L C ((tI st.tm 7).toNat * C + k.toNat))) ((tI st.tm 7).toNat * C + k.toNat) 38 4 ((tI st.tm 7).toNat * C + k.toNat) false)] st
def shBoard : ShH (List ByteArray) := shHOne shSS
def lcMade : ACon Unit := mkLC (decP (shOne (shA (shCons (shR 0) (shOne shI)))) shBoard) fun ((_, C), L) => .ask (1 ≤ L.length ∧ L.length ≤ 8 ∧ 1 ≤ C ∧ C ≤ 12) (.one (.t [.p 4 0, .p 6 0]) [.inp (.ss L), .gone, .gone, .gone, .cells [.h 5 [L.length + 1, 0]] 127, .rows (.c (boardL L C.toNat)) 38 92 (L.length + 1) (L.length + 1) none,
    .cells [.v (.int .i64 L.length), .v (.int .i64 C), .h 7 [L.length * C.toNat, 0]] 94, .own (.recs (flatL L C.toNat (L.length * C.toNat))) (L.length * C.toNat) 38 4 (L.length * C.toNat) false] [])
set_option maxHeartbeats 4000000 in
theorem ok_made : ∀ I : Sym.Inv Unit, LCOk I Try.prog 23 lcMade := by
  refine lc_mk (fun ((_, C), L) => allCfg Try.prog [] tabE 3 [(453, annMo L C.toNat), (644, annMi L C.toNat)]) (fun _ _ => allCfg_ok mixed trivial tabE_ok) (fun _ => rfl) (n := 80) Try.func23 ?_
  intro ⟨⟨_, C⟩, L⟩ hφ
  obtain ⟨⟨h1, h2, h3, h4⟩, hp⟩ := id hφ
  refine kcast (B := (true = true ∧ (II (0 : Int) ≤ (32 : Int) ∧ II (32 : Int) ≤ (255 : Int)) ∧ true = true ∧ br (mayB (↑L.length : Int) C) ((II (0 : Int) ≤ (0 : Int) ∧ (0 : Int) ≤ (↑L.length : Int)) ∧ ((SV.p (1 : Nat) (0 : Nat) = SV.p (1 : Nat) (0 : Nat) ∧ SV.p (4 : Nat) (0 : Nat) = SV.p (4 : Nat) (0 : Nat) ∧ SV.p (6 : Nat) (0 : Nat) = SV.p (6 : Nat) (0 : Nat) ∧ SV.v (Value.int IntKind.i64 (0 : Int)) = SV.v (Value.int IntKind.i64 (0 : Int)) ∧ True) ∧ IC.ss L = IC.ss L ∧ (SV.r (0 : Nat) [] = SV.r (0 : Nat) [] ∧ SV.v (Value.int IntKind.i64 C) = SV.v (Value.int IntKind.i64 C) ∧ True) ∧ True ∧ True ∧ (SV.h (5 : Nat) [(↑L.length : Int).toNat + (1 : Nat), (0 : Nat)] = SV.h (5 : Nat) [(↑L.length : Int).toNat + (1 : Nat), (0 : Nat)] ∧ True) ∧ ((↑L.length : Int).toNat + (1 : Nat) = L.length + (1 : Nat) ∧ (↑L.length : Int).toNat + (1 : Nat) = L.length + (1 : Nat) ∧ newL (↑L.length : Int).toNat C.toNat (C4.mk (32 : Int) (0 : Int) false (0 : Int)) = gridF L.length C.toNat (bdAt L (0 : Nat) (0 : Nat))) ∧ (SV.v (Value.int IntKind.i64 (↑L.length : Int)) = SV.v (Value.int IntKind.i64 (↑L.length : Int)) ∧ SV.v (Value.int IntKind.i64 C) = SV.v (Value.int IntKind.i64 (↑C.toNat : Int)) ∧ SV.h (7 : Nat) [(0 : Nat), (0 : Nat)] = SV.h (7 : Nat) [(0 : Nat) * C.toNat, (0 : Nat)] ∧ True) ∧ ((0 : Nat) = (0 : Nat) * C.toNat ∧ (0 : Nat) = (0 : Nat) * C.toNat ∧ LC4 [] = flatL L C.toNat ((0 : Nat) * C.toNat)) ∧ True) ∧ ∀ (x : Int), (0 : Int) ≤ x ∧ x ≤ (↑L.length : Int) → br (decide (x < (↑L.length : Int))) ((II (0 : Int) ≤ (0 : Int) ∧ (0 : Int) ≤ (↑C.toNat : Int)) ∧ ((SV.p (1 : Nat) (0 : Nat) = SV.p (1 : Nat) (0 : Nat) ∧ SV.p (4 : Nat) (0 : Nat) = SV.p (4 : Nat) (0 : Nat) ∧ SV.p (6 : Nat) (0 : Nat) = SV.p (6 : Nat) (0 : Nat) ∧ SV.v (Value.int IntKind.i64 x) = SV.v (Value.int IntKind.i64 x) ∧ SV.v (Value.int IntKind.i64 (0 : Int)) = SV.v (Value.int IntKind.i64 (0 : Int)) ∧ True) ∧ IC.ss L = IC.ss L ∧ (SV.r (0 : Nat) [] = SV.r (0 : Nat) [] ∧ SV.v (Value.int IntKind.i64 C) = SV.v (Value.int IntKind.i64 C) ∧ True) ∧ True ∧ True ∧ (SV.h (5 : Nat) [(↑L.length : Int).toNat + (1 : Nat), (0 : Nat)] = SV.h (5 : Nat) [(↑L.length : Int).toNat + (1 : Nat), (0 : Nat)] ∧ True) ∧ (L.length + (1 : Nat) = L.length + (1 : Nat) ∧ L.length + (1 : Nat) = L.length + (1 : Nat) ∧ gridF L.length C.toNat (bdAt L x.toNat (0 : Nat)) = gridF L.length C.toNat (bdAt L x.toNat (0 : Nat))) ∧ (SV.v (Value.int IntKind.i64 (↑L.length : Int)) = SV.v (Value.int IntKind.i64 (↑L.length : Int)) ∧ SV.v (Value.int IntKind.i64 (↑C.toNat : Int)) = SV.v (Value.int IntKind.i64 (↑C.toNat : Int)) ∧ SV.h (7 : Nat) [x.toNat * C.toNat, (0 : Nat)] = SV.h (7 : Nat) [x.toNat * C.toNat + (0 : Nat), (0 : Nat)] ∧ True) ∧ (x.toNat * C.toNat = x.toNat * C.toNat + (0 : Nat) ∧ x.toNat * C.toNat = x.toNat * C.toNat + (0 : Nat) ∧ flatL L C.toNat (x.toNat * C.toNat) = flatL L C.toNat (x.toNat * C.toNat + (0 : Nat))) ∧ True) ∧ ∀ (x_1 : Int), (0 : Int) ≤ x_1 ∧ x_1 ≤ (↑C.toNat : Int) → br (decide (x_1 < C)) (true = true ∧ (II (0 : Int) ≤ (32 : Int) ∧ II (32 : Int) ≤ (255 : Int)) ∧ rq (true && (Nat.beq (1 : Nat) (1 : Nat) && (true && decide ((0 : Int) ≤ x ∧ x < (↑L.length : Int))))) (rq (true && (x.toNat.blt L.length && true)) (br (decide (x_1 < (↑(L.getD x.toNat ByteArray.empty).size : Int))) (rq (true && (Nat.beq (1 : Nat) (1 : Nat) && (true && decide ((0 : Int) ≤ x ∧ x < (↑L.length : Int))))) (rq (true && (x.toNat.blt L.length && true)) (rq (decide ((0 : Int) ≤ x_1 ∧ x_1 < (↑(L.getD x.toNat ByteArray.empty).size : Int))) (true = true ∧ ((0 : Int) ≤ byteAt (L.getD x.toNat ByteArray.empty) x_1.toNat ∧ byteAt (L.getD x.toNat ByteArray.empty) x_1.toNat ≤ (255 : Int)) ∧ true = true ∧ ((↑L.length : Int).toNat + (1 : Nat) = L.length + (1 : Nat) ∧ GW (gridF L.length C.toNat (bdAt L x.toNat x_1.toNat))) ∧ br (inB (gridF L.length C.toNat (bdAt L x.toNat x_1.toNat)) x x_1) (rq ((x.toNat * C.toNat + x_1.toNat).beq (x.toNat * C.toNat + x_1.toNat) && (true && decide (x.toNat * C.toNat + x_1.toNat + (1 : Nat) ≤ (9223372036854775807 : Nat) ∧ (x.toNat * C.toNat + x_1.toNat + (1 : Nat)) * (32 : Nat) ≤ (140737488355328 : Nat)))) (((0 : Int) ≤ IntKind.i64.wrap (x_1 + (1 : Int)) ∧ IntKind.i64.wrap (x_1 + (1 : Int)) ≤ (↑C.toNat : Int)) ∧ ((SV.p (1 : Nat) (0 : Nat) = SV.p (1 : Nat) (0 : Nat) ∧ SV.p (4 : Nat) (0 : Nat) = SV.p (4 : Nat) (0 : Nat) ∧ SV.p (6 : Nat) (0 : Nat) = SV.p (6 : Nat) (0 : Nat) ∧ SV.v (Value.int IntKind.i64 x) = SV.v (Value.int IntKind.i64 x) ∧ SV.v (Value.int IntKind.i64 (IntKind.i64.wrap (x_1 + (1 : Int)))) = SV.v (Value.int IntKind.i64 (IntKind.i64.wrap (x_1 + (1 : Int)))) ∧ True) ∧ IC.ss L = IC.ss L ∧ (SV.r (0 : Nat) [] = SV.r (0 : Nat) [] ∧ SV.v (Value.int IntKind.i64 C) = SV.v (Value.int IntKind.i64 C) ∧ True) ∧ True ∧ True ∧ (SV.h (5 : Nat) [(↑L.length : Int).toNat + (1 : Nat), (0 : Nat)] = SV.h (5 : Nat) [(↑L.length : Int).toNat + (1 : Nat), (0 : Nat)] ∧ True) ∧ ((↑L.length : Int).toNat + (1 : Nat) = L.length + (1 : Nat) ∧ L.length + (1 : Nat) = L.length + (1 : Nat) ∧ set2 (gridF L.length C.toNat (bdAt L x.toNat x_1.toNat)) x x_1 (C4.mk (byteAt (L.getD x.toNat ByteArray.empty) x_1.toNat) (0 : Int) (decide ((65 : Int) ≤ byteAt (L.getD x.toNat ByteArray.empty) x_1.toNat) && decide (byteAt (L.getD x.toNat ByteArray.empty) x_1.toNat ≤ (90 : Int))) (0 : Int)) = gridF L.length C.toNat (bdAt L x.toNat (IntKind.i64.wrap (x_1 + (1 : Int))).toNat)) ∧ (SV.v (Value.int IntKind.i64 (↑L.length : Int)) = SV.v (Value.int IntKind.i64 (↑L.length : Int)) ∧ SV.v (Value.int IntKind.i64 (↑C.toNat : Int)) = SV.v (Value.int IntKind.i64 (↑C.toNat : Int)) ∧ SV.h (7 : Nat) [x.toNat * C.toNat + x_1.toNat + (1 : Nat), (0 : Nat)] = SV.h (7 : Nat) [x.toNat * C.toNat + (IntKind.i64.wrap (x_1 + (1 : Int))).toNat, (0 : Nat)] ∧ True) ∧ (x.toNat * C.toNat + x_1.toNat + (1 : Nat) = x.toNat * C.toNat + (IntKind.i64.wrap (x_1 + (1 : Int))).toNat ∧ x.toNat * C.toNat + x_1.toNat + (1 : Nat) = x.toNat * C.toNat + (IntKind.i64.wrap (x_1 + (1 : Int))).toNat ∧ flatL L C.toNat (x.toNat * C.toNat + x_1.toNat) ++ [C4.mk (byteAt (L.getD x.toNat ByteArray.empty) x_1.toNat) (0 : Int) (decide ((65 : Int) ≤ byteAt (L.getD x.toNat ByteArray.empty) x_1.toNat) && decide (byteAt (L.getD x.toNat ByteArray.empty) x_1.toNat ≤ (90 : Int))) (0 : Int)] = flatL L C.toNat (x.toNat * C.toNat + (IntKind.i64.wrap (x_1 + (1 : Int))).toNat)) ∧ True) ∧ ((↑C.toNat : Int) - IntKind.i64.wrap (x_1 + (1 : Int))).toNat < ((↑C.toNat : Int) - x_1).toNat)) ((SV.t [SV.v (Value.pointer none), SV.v (Value.pointer none)] = SV.t [SV.p (4 : Nat) (0 : Nat), SV.p (6 : Nat) (0 : Nat)] ∧ True) ∧ IC.ss L = IC.ss L ∧ True ∧ True ∧ True ∧ (SV.h (5 : Nat) [(↑L.length : Int).toNat + (1 : Nat), (0 : Nat)] = SV.h (5 : Nat) [L.length + (1 : Nat), (0 : Nat)] ∧ True) ∧ ((↑L.length : Int).toNat + (1 : Nat) = L.length + (1 : Nat) ∧ L.length + (1 : Nat) = L.length + (1 : Nat) ∧ gridF L.length C.toNat (bdAt L x.toNat x_1.toNat) = boardL L C.toNat) ∧ (SV.v (Value.int IntKind.i64 (↑L.length : Int)) = SV.v (Value.int IntKind.i64 (↑L.length : Int)) ∧ SV.v (Value.int IntKind.i64 (↑C.toNat : Int)) = SV.v (Value.int IntKind.i64 C) ∧ SV.h (7 : Nat) [x.toNat * C.toNat + x_1.toNat, (0 : Nat)] = SV.h (7 : Nat) [L.length * C.toNat, (0 : Nat)] ∧ True) ∧ (x.toNat * C.toNat + x_1.toNat = L.length * C.toNat ∧ x.toNat * C.toNat + x_1.toNat = L.length * C.toNat ∧ flatL L C.toNat (x.toNat * C.toNat + x_1.toNat) = flatL L C.toNat (L.length * C.toNat)) ∧ True))))) (true = true ∧ ((↑L.length : Int).toNat + (1 : Nat) = L.length + (1 : Nat) ∧ GW (gridF L.length C.toNat (bdAt L x.toNat x_1.toNat))) ∧ br (inB (gridF L.length C.toNat (bdAt L x.toNat x_1.toNat)) x x_1) (rq ((x.toNat * C.toNat + x_1.toNat).beq (x.toNat * C.toNat + x_1.toNat) && (true && decide (x.toNat * C.toNat + x_1.toNat + (1 : Nat) ≤ (9223372036854775807 : Nat) ∧ (x.toNat * C.toNat + x_1.toNat + (1 : Nat)) * (32 : Nat) ≤ (140737488355328 : Nat)))) (((0 : Int) ≤ IntKind.i64.wrap (x_1 + (1 : Int)) ∧ IntKind.i64.wrap (x_1 + (1 : Int)) ≤ (↑C.toNat : Int)) ∧ ((SV.p (1 : Nat) (0 : Nat) = SV.p (1 : Nat) (0 : Nat) ∧ SV.p (4 : Nat) (0 : Nat) = SV.p (4 : Nat) (0 : Nat) ∧ SV.p (6 : Nat) (0 : Nat) = SV.p (6 : Nat) (0 : Nat) ∧ SV.v (Value.int IntKind.i64 x) = SV.v (Value.int IntKind.i64 x) ∧ SV.v (Value.int IntKind.i64 (IntKind.i64.wrap (x_1 + (1 : Int)))) = SV.v (Value.int IntKind.i64 (IntKind.i64.wrap (x_1 + (1 : Int)))) ∧ True) ∧ IC.ss L = IC.ss L ∧ (SV.r (0 : Nat) [] = SV.r (0 : Nat) [] ∧ SV.v (Value.int IntKind.i64 C) = SV.v (Value.int IntKind.i64 C) ∧ True) ∧ True ∧ True ∧ (SV.h (5 : Nat) [(↑L.length : Int).toNat + (1 : Nat), (0 : Nat)] = SV.h (5 : Nat) [(↑L.length : Int).toNat + (1 : Nat), (0 : Nat)] ∧ True) ∧ ((↑L.length : Int).toNat + (1 : Nat) = L.length + (1 : Nat) ∧ L.length + (1 : Nat) = L.length + (1 : Nat) ∧ set2 (gridF L.length C.toNat (bdAt L x.toNat x_1.toNat)) x x_1 (C4.mk (32 : Int) (0 : Int) false (0 : Int)) = gridF L.length C.toNat (bdAt L x.toNat (IntKind.i64.wrap (x_1 + (1 : Int))).toNat)) ∧ (SV.v (Value.int IntKind.i64 (↑L.length : Int)) = SV.v (Value.int IntKind.i64 (↑L.length : Int)) ∧ SV.v (Value.int IntKind.i64 (↑C.toNat : Int)) = SV.v (Value.int IntKind.i64 (↑C.toNat : Int)) ∧ SV.h (7 : Nat) [x.toNat * C.toNat + x_1.toNat + (1 : Nat), (0 : Nat)] = SV.h (7 : Nat) [x.toNat * C.toNat + (IntKind.i64.wrap (x_1 + (1 : Int))).toNat, (0 : Nat)] ∧ True) ∧ (x.toNat * C.toNat + x_1.toNat + (1 : Nat) = x.toNat * C.toNat + (IntKind.i64.wrap (x_1 + (1 : Int))).toNat ∧ x.toNat * C.toNat + x_1.toNat + (1 : Nat) = x.toNat * C.toNat + (IntKind.i64.wrap (x_1 + (1 : Int))).toNat ∧ flatL L C.toNat (x.toNat * C.toNat + x_1.toNat) ++ [C4.mk (32 : Int) (0 : Int) false (0 : Int)] = flatL L C.toNat (x.toNat * C.toNat + (IntKind.i64.wrap (x_1 + (1 : Int))).toNat)) ∧ True) ∧ ((↑C.toNat : Int) - IntKind.i64.wrap (x_1 + (1 : Int))).toNat < ((↑C.toNat : Int) - x_1).toNat)) ((SV.t [SV.v (Value.pointer none), SV.v (Value.pointer none)] = SV.t [SV.p (4 : Nat) (0 : Nat), SV.p (6 : Nat) (0 : Nat)] ∧ True) ∧ IC.ss L = IC.ss L ∧ True ∧ True ∧ True ∧ (SV.h (5 : Nat) [(↑L.length : Int).toNat + (1 : Nat), (0 : Nat)] = SV.h (5 : Nat) [L.length + (1 : Nat), (0 : Nat)] ∧ True) ∧ ((↑L.length : Int).toNat + (1 : Nat) = L.length + (1 : Nat) ∧ L.length + (1 : Nat) = L.length + (1 : Nat) ∧ gridF L.length C.toNat (bdAt L x.toNat x_1.toNat) = boardL L C.toNat) ∧ (SV.v (Value.int IntKind.i64 (↑L.length : Int)) = SV.v (Value.int IntKind.i64 (↑L.length : Int)) ∧ SV.v (Value.int IntKind.i64 (↑C.toNat : Int)) = SV.v (Value.int IntKind.i64 C) ∧ SV.h (7 : Nat) [x.toNat * C.toNat + x_1.toNat, (0 : Nat)] = SV.h (7 : Nat) [L.length * C.toNat, (0 : Nat)] ∧ True) ∧ (x.toNat * C.toNat + x_1.toNat = L.length * C.toNat ∧ x.toNat * C.toNat + x_1.toNat = L.length * C.toNat ∧ flatL L C.toNat (x.toNat * C.toNat + x_1.toNat) = flatL L C.toNat (L.length * C.toNat)) ∧ True))))) (((0 : Int) ≤ IntKind.i64.wrap (x + (1 : Int)) ∧ IntKind.i64.wrap (x + (1 : Int)) ≤ (↑L.length : Int)) ∧ ((SV.p (1 : Nat) (0 : Nat) = SV.p (1 : Nat) (0 : Nat) ∧ SV.p (4 : Nat) (0 : Nat) = SV.p (4 : Nat) (0 : Nat) ∧ SV.p (6 : Nat) (0 : Nat) = SV.p (6 : Nat) (0 : Nat) ∧ SV.v (Value.int IntKind.i64 (IntKind.i64.wrap (x + (1 : Int)))) = SV.v (Value.int IntKind.i64 (IntKind.i64.wrap (x + (1 : Int)))) ∧ True) ∧ IC.ss L = IC.ss L ∧ (SV.r (0 : Nat) [] = SV.r (0 : Nat) [] ∧ SV.v (Value.int IntKind.i64 C) = SV.v (Value.int IntKind.i64 C) ∧ True) ∧ True ∧ True ∧ (SV.h (5 : Nat) [(↑L.length : Int).toNat + (1 : Nat), (0 : Nat)] = SV.h (5 : Nat) [(↑L.length : Int).toNat + (1 : Nat), (0 : Nat)] ∧ True) ∧ (L.length + (1 : Nat) = L.length + (1 : Nat) ∧ L.length + (1 : Nat) = L.length + (1 : Nat) ∧ gridF L.length C.toNat (bdAt L x.toNat x_1.toNat) = gridF L.length C.toNat (bdAt L (IntKind.i64.wrap (x + (1 : Int))).toNat (0 : Nat))) ∧ (SV.v (Value.int IntKind.i64 (↑L.length : Int)) = SV.v (Value.int IntKind.i64 (↑L.length : Int)) ∧ SV.v (Value.int IntKind.i64 (↑C.toNat : Int)) = SV.v (Value.int IntKind.i64 (↑C.toNat : Int)) ∧ SV.h (7 : Nat) [x.toNat * C.toNat + x_1.toNat, (0 : Nat)] = SV.h (7 : Nat) [(IntKind.i64.wrap (x + (1 : Int))).toNat * C.toNat, (0 : Nat)] ∧ True) ∧ (x.toNat * C.toNat + x_1.toNat = (IntKind.i64.wrap (x + (1 : Int))).toNat * C.toNat ∧ x.toNat * C.toNat + x_1.toNat = (IntKind.i64.wrap (x + (1 : Int))).toNat * C.toNat ∧ flatL L C.toNat (x.toNat * C.toNat + x_1.toNat) = flatL L C.toNat ((IntKind.i64.wrap (x + (1 : Int))).toNat * C.toNat)) ∧ True) ∧ ((↑L.length : Int) - IntKind.i64.wrap (x + (1 : Int))).toNat < ((↑L.length : Int) - x).toNat)) ((SV.t [SV.p (4 : Nat) (0 : Nat), SV.p (6 : Nat) (0 : Nat)] = SV.t [SV.p (4 : Nat) (0 : Nat), SV.p (6 : Nat) (0 : Nat)] ∧ True) ∧ IC.ss L = IC.ss L ∧ True ∧ True ∧ True ∧ (SV.h (5 : Nat) [(↑L.length : Int).toNat + (1 : Nat), (0 : Nat)] = SV.h (5 : Nat) [L.length + (1 : Nat), (0 : Nat)] ∧ True) ∧ (L.length + (1 : Nat) = L.length + (1 : Nat) ∧ L.length + (1 : Nat) = L.length + (1 : Nat) ∧ gridF L.length C.toNat (bdAt L x.toNat (0 : Nat)) = boardL L C.toNat) ∧ (SV.v (Value.int IntKind.i64 (↑L.length : Int)) = SV.v (Value.int IntKind.i64 (↑L.length : Int)) ∧ SV.v (Value.int IntKind.i64 (↑C.toNat : Int)) = SV.v (Value.int IntKind.i64 C) ∧ SV.h (7 : Nat) [x.toNat * C.toNat, (0 : Nat)] = SV.h (7 : Nat) [L.length * C.toNat, (0 : Nat)] ∧ True) ∧ (x.toNat * C.toNat = L.length * C.toNat ∧ x.toNat * C.toNat = L.length * C.toNat ∧ flatL L C.toNat (x.toNat * C.toNat) = flatL L C.toNat (L.length * C.toNat)) ∧ True)) ((SV.t [SV.v (Value.pointer none), SV.v (Value.pointer none)] = SV.t [SV.p (4 : Nat) (0 : Nat), SV.p (6 : Nat) (0 : Nat)] ∧ True) ∧ IC.ss L = IC.ss L ∧ True ∧ True ∧ True ∧ False))) (by kernel_rfl) ?_
  clear hp hφ
  obtain ⟨D, rfl⟩ : ∃ D : Nat, C = D := ⟨C.toNat, by omega⟩
  have hm : mayB (L.length : Int) D = true := by rw [mayB_iff]; omega
  have eL : (L.length : Int).toNat = L.length := by omega
  simp only [hm, LC4, LLC, II, eL, nbeq, rq_iff, br_iff, Bool.true_and, Bool.and_true, Bool.true_eq_false, true_implies, false_implies, true_and, and_true, Bool.and_eq_true, Nat.ble_eq, Nat.blt_eq, decide_eq_true_eq, decide_eq_false_iff_not, Int.toNat_natCast]
  have hG : ∀ i k, GW (gridF L.length D (bdAt L i k)) := fun i k => gridF_gw h1 (by omega) (by omega) (by omega)
  have hB : ∀ {i k : Nat} {x y : Int}, 0 ≤ x → x < L.length → 0 ≤ y → y < D → inB (gridF L.length D (bdAt L i k)) x y = true := by
    intro i k x y a b c d
    rw [inB_iff, gridF_length, gridF_nC (by omega)]
    omega
  have e0 : (⟨32, 0, false, 0⟩ : C4) = cellOf 32 := rfl
  have eC : ∀ b : Int, (⟨b, 0, decide (65 ≤ b) && decide (b ≤ 90), 0⟩ : C4) = cellOf b := fun _ => rfl
  simp only [e0, eC]
  refine ⟨by omega, by omega, ⟨bd_zero L L.length D, by rw [Nat.zero_mul], by omega, by omega, by rw [Nat.zero_mul]; rfl⟩, fun x hx => ⟨fun hx2 => ⟨by omega, ⟨by rw [Nat.add_zero], rfl, rfl, by rw [Nat.add_zero]⟩, fun y hy => ⟨fun hy2 => ⟨by omega, by omega, by omega, fun hz => ?_, fun hz => ?_⟩, fun hy2 => ?_⟩⟩, fun hx2 => ?_⟩⟩
  · have hb := byteAt_rng (L.getD x.toNat ByteArray.empty) y.toNat
    refine ⟨by omega, by omega, by omega, hb, hG _ _, fun _ => ?_, fun hf => ?_⟩
    · obtain ⟨i, rfl⟩ : ∃ i : Nat, x = i := ⟨x.toNat, by omega⟩
      obtain ⟨k, rfl⟩ : ∃ k : Nat, y = k := ⟨y.toNat, by omega⟩
      have hm1 : i * D ≤ 7 * 12 := Nat.mul_le_mul (by omega) (by omega)
      rw [wrap64 (by omega) (by omega)]
      have e1 : ((k : Int) + 1).toNat = k + 1 := by omega
      simp only [Int.toNat_natCast, e1] at hz hb ⊢
      have ek : cellOf (byteAt (L.getD i ByteArray.empty) k) = cellB (L.getD i ByteArray.empty) k := by rw [cellB, if_pos (by omega)]
      rw [ek]
      exact ⟨by omega, by omega, ⟨bd_step L (by omega) (by omega), by rw [Nat.add_assoc], by omega, by omega, (flatL_at L (by omega)).symm⟩, by omega⟩
    · rw [hB (by omega) (by omega) (by omega) (by omega)] at hf
      cases hf
  · refine ⟨hG _ _, fun _ => ?_, fun hf => ?_⟩
    · obtain ⟨i, rfl⟩ : ∃ i : Nat, x = i := ⟨x.toNat, by omega⟩
      obtain ⟨k, rfl⟩ : ∃ k : Nat, y = k := ⟨y.toNat, by omega⟩
      have hm1 : i * D ≤ 7 * 12 := Nat.mul_le_mul (by omega) (by omega)
      rw [wrap64 (by omega) (by omega)]
      have e1 : ((k : Int) + 1).toNat = k + 1 := by omega
      simp only [Int.toNat_natCast, e1] at hz ⊢
      have ek : cellOf 32 = cellB (L.getD i ByteArray.empty) k := by rw [cellB, if_neg (by omega)]
      rw [ek]
      exact ⟨by omega, by omega, ⟨bd_step L (by omega) (by omega), by rw [Nat.add_assoc], by omega, by omega, (flatL_at L (by omega)).symm⟩, by omega⟩
    · rw [hB (by omega) (by omega) (by omega) (by omega)] at hf
      cases hf
  · obtain ⟨i, rfl⟩ : ∃ i : Nat, x = i := ⟨x.toNat, by omega⟩
    have ey : y = D := by omega
    subst ey
    rw [wrap64 (by omega) (by omega)]
    have e1 : ((i : Int) + 1).toNat = i + 1 := by omega
    simp only [Int.toNat_natCast, e1]
    have e2 : i * D + D = (i + 1) * D := by rw [Nat.add_mul, Nat.one_mul]
    rw [e2]
    exact ⟨by omega, ⟨bd_next L L.length D i, rfl, rfl, rfl, rfl⟩, by omega⟩
  · have ex : x = L.length := by omega
    subst ex
    rw [Int.toNat_natCast]
    exact ⟨bd_all L D, rfl, rfl, rfl, rfl⟩
end Go.Proofs.Ytdhhagangmkloaa
namespace Go.Proofs.Ytdhhagangmkloaa
open Go Go.Sym
def neC (x y : C4) : Bool := !(x.g == y.g && (x.a == y.a && (x.gd == y.gd && (x.m == y.m && true))))
theorem neC_no {x y : C4} : neC x y = false ↔ x = y := by
  cases x; cases y
  simp [neC]
theorem neC_iff {x y : C4} : neC x y = true ↔ x ≠ y := by
  rw [ne_eq, ← neC_no]; simp
theorem gridF_self {l : List (List C4)} (h : GW l) : gridF l.length (nC l) (fun r c => at2 l r c) = l := by
  unfold gridF
  apply List.ext_getElem
  · simp
  · intro i h1 h2
    have hi : i < l.length := h2
    have hrow := h.row hi
    have e : l.getD i [] = l[i] := by rw [List.getD, List.getElem?_eq_getElem hi]; rfl
    simp only [List.getElem_map, List.getElem_range]
    apply List.ext_getElem
    · simp; rw [e] at hrow; exact hrow.symm
    · intro j h3 h4
      simp only [List.getElem_map, List.getElem_range, at2, Int.toNat_natCast]
      rw [e, List.getD, List.getElem?_eq_getElem h4]; rfl
end Go.Proofs.Ytdhhagangmkloaa
namespace Go.Proofs.Ytdhhagangmkloaa
open Go Go.Sym
def fn (l : List (List C4)) (r c : Nat) : C4 := at2 l r c
theorem row_eq {l : List (List C4)} (h : GW l) {j : Nat} (hj : j < l.length) : l.getD j [] = (List.range (nC l)).map fun c => fn l j c := by
  have hr := h.row hj
  apply List.ext_getElem
  · simpa using hr
  · intro i h1 h2
    simp only [List.getElem_map, List.getElem_range, fn, at2, Int.toNat_natCast]
    have e : ∀ (q : List C4) (h : i < q.length), q[i] = q.getD i C4.no := fun q h => by rw [List.getD, List.getElem?_eq_getElem h]; rfl
    exact e _ h1
theorem grid_ext {l : List (List C4)} {R C : Nat} {f : Nat → Nat → C4} (h1 : l.length = R) (h2 : ∀ i, i < R → l.getD i [] = (List.range C).map (f i)) : l = gridF R C f := by
  apply List.ext_getElem
  · rw [gridF_length, h1]
  · intro i h3 h4
    have := h2 i (by omega)
    rw [List.getD, List.getElem?_eq_getElem h3] at this
    simp only [gridF, List.getElem_map, List.getElem_range]
    exact this
theorem fn_self {l : List (List C4)} (h : GW l) : gridF l.length (nC l) (fn l) = l := gridF_self h
def rollF (f : Nat → Nat → C4) (t b n : Int) (x : C4) (r c : Nat) : C4 := if t ≤ r ∧ r ≤ b then (if n ≤ b - r ∧ n ≥ t - r then f (r + n).toNat c else x) else f r c
theorem rollL_eq {l : List (List C4)} (hg : GW l) {t b n : Int} {x : C4} (ht : 0 ≤ t) (htb : t ≤ b) (hb : b < l.length) : rollL l t.toNat b.toNat n x = gridF l.length (nC l) (rollF (fn l) t b n x) := by
  refine grid_ext (mrg_length _ _ _ _) fun i hi => ?_
  have e : (rollL l t.toNat b.toNat n x).getD i [] = mrgAt l [] t.toNat (limL t.toNat (b.toNat + 1 - t.toNat) n (List.replicate (nC l) x)) i := by
    unfold rollL mrg
    rw [List.getD, List.getElem?_map, List.getElem?_range hi]; rfl
  rw [e]
  unfold mrgAt
  cases hc : Nat.blt i t.toNat with
  | true =>
    rw [Nat.blt_eq] at hc
    simp only
    rw [row_eq hg hi]
    refine List.map_congr_left fun c _ => ?_
    rw [rollF, if_neg (by omega)]
  | false =>
    have hc : ¬ i < t.toNat := by rw [← Nat.blt_eq, hc]; simp
    simp only
    by_cases hl : i - t.toNat < b.toNat + 1 - t.toNat
    · rw [limL_get hl]
      simp only
      unfold limAt1
      by_cases hq : n > ((b.toNat + 1 - t.toNat : Nat) : Int) - 1 - (i - t.toNat : Nat) ∨ n < -((i - t.toNat : Nat) : Int)
      · rw [if_pos hq]
        simp only
        apply List.ext_getElem
        · simp
        · intro c h1 h2
          simp only [List.getElem_replicate, List.getElem_map, List.getElem_range]
          rw [rollF, if_pos (by omega), if_neg (by omega)]
      · rw [if_neg hq]
        simp only
        rw [row_eq hg (by omega)]
        refine List.map_congr_left fun c _ => ?_
        rw [rollF, if_pos (by omega), if_pos (by omega)]
        congr 1; omega
    · rw [List.getElem?_eq_none (by rw [limL_length]; omega)]
      simp only
      rw [row_eq hg hi]
      refine List.map_congr_left fun c _ => ?_
      rw [rollF, if_neg (by omega)]
def setF (f : Nat → Nat → C4) (w a : Int) (x : C4) (r c : Nat) : C4 := if r = w ∧ c = a then x else f r c
theorem set2_eq {l : List (List C4)} (hg : GW l) {w a : Int} {x : C4} (hw : 0 ≤ w) (hw2 : w < l.length) (ha : 0 ≤ a) (hb : a < nC l) : set2 l w a x = gridF l.length (nC l) (setF (fn l) w a x) := by
  obtain ⟨i, rfl⟩ : ∃ i : Nat, w = i := ⟨w.toNat, by omega⟩
  obtain ⟨k, rfl⟩ : ∃ k : Nat, a = k := ⟨a.toNat, by omega⟩
  have e := gridF_set (f := fn l) (r := i) (c := k) (x := x) (R := l.length) (C := nC l) (by omega) (by omega)
  rw [fn_self hg] at e
  rw [e]
  refine gridF_congr fun r c _ _ => ?_
  unfold setF
  by_cases h : r = i ∧ c = k
  · rw [if_pos h, if_pos (by omega)]
  · rw [if_neg h, if_neg (by omega)]
theorem boardL_gw {L : List ByteArray} {C : Nat} (h0 : 1 ≤ L.length) (h1 : L.length ≤ 255) (h2 : 1 ≤ C) (h3 : C ≤ 255) : GW (boardL L C) := gridF_gw h0 h1 h2 h3
end Go.Proofs.Ytdhhagangmkloaa
namespace Go.Sym
open Go
def shFn (g : Nat) : Sh Unit where
  enc _ := .v (.func (.func g) #[] #[])
  dec x := match x with
    | .v y => match y with
      | .func fn a c => match fn with
        | .func g' => match Nat.beq g' g && (Nat.beq a.size 0 && Nat.beq c.size 0) with
          | true => some ()
          | false => none
        | _ => none
      | _ => none
    | _ => none
  ok x a h := by
    split at h
    · split at h
      · split at h
        · split at h
          · rename_i hc
            simp only [Bool.and_eq_true, Nat.beq_eq, Array.size_eq_zero_iff] at hc
            obtain ⟨rfl, rfl, rfl⟩ := hc
            rfl
          · cases h
        · cases h
      · cases h
    · cases h
def shRw (b : Nat) : Sh (Nat × Nat) where
  enc a := .h b [a.1, 1, a.2]
  dec x := match x with
    | .h b' q => match Nat.beq b' b with
      | true => match q with
        | [ep, o, i] => match o with
          | 1 => some (ep, i)
          | _ => none
        | _ => none
      | false => none
    | _ => none
  ok x a h := by
    split at h
    · split at h
      · rename_i hT
        rw [Nat.beq_eq] at hT
        subst hT
        split at h
        · split at h
          · simp only [Option.some.injEq] at h; subst h; rfl
          · cases h
        · cases h
      · cases h
    · cases h
end Go.Sym
namespace Go.Proofs.Ytdhhagangmkloaa
open Go Go.Sym
theorem neC_def (x y : C4) : (!(x.g == y.g && (x.a == y.a && (x.gd == y.gd && (x.m == y.m && true))))) = neC x y := rfl
def eqL (a b : List C4) : Bool := decide (a.length = b.length) && (List.range a.length).all fun j => !neC (a.getD j C4.no) (b.getD j C4.no)
theorem eqL_iff {a b : List C4} : eqL a b = true ↔ a = b := by
  unfold eqL
  rw [Bool.and_eq_true, decide_eq_true_eq, List.all_eq_true]
  constructor
  · intro ⟨h1, h2⟩
    apply List.ext_getElem h1
    intro i h3 h4
    have := h2 i (List.mem_range.2 h3)
    rw [Bool.not_eq_true', neC_no, List.getD, List.getD, List.getElem?_eq_getElem h3, List.getElem?_eq_getElem h4] at this
    exact this
  · rintro rfl
    exact ⟨rfl, fun j _ => by rw [neC_no.2 rfl]; rfl⟩
def annEq (a b : List C4) : Ann Unit where
  α := Int
  φ _ k := 0 ≤ k ∧ k ≤ a.length ∧ ∀ j : Nat, j < k.toNat → a.getD j C4.no = b.getD j C4.no
  μ _ k := ((a.length : Int) - k).toNat
  get st := getI st.tm 13
  f st k := tmpl [0, 1, 12] [(13, .v (.int .i64 k))] [] st
abbrev sh2R : ShH (RC × RC) := shHCons (shRowsC 38 92) (shHOne (shRowsC 38 92))
def rw2 (l m : List (List C4)) (oe ep oe2 ep2 : Nat) : List (SB Unit) := [.rows (.c l) 38 92 oe ep none, .rows (.c m) 38 92 oe2 ep2 none]
def lcEqual : ACon Unit := mkLC (decP (shCons (shRw 0) (shOne (shRw 1))) sh2R) fun (((ep, i), (ep2, j)), (⟨l, oe, e⟩, ⟨m, oe2, e2⟩)) => .ask (ep = e ∧ ep2 = e2 ∧ i < l.length ∧ j < m.length ∧ (l.getD i []).length ≤ 255 ∧ (m.getD j []).length ≤ 255)
  (.one (.v (.bool (eqL (l.getD i []) (m.getD j [])))) (rw2 l m oe ep oe2 ep2) [])
set_option maxHeartbeats 4000000 in
theorem ok_equal : ∀ I : Sym.Inv Unit, LCOk I Try.prog 88 lcEqual := by
  refine lc_mk (fun (((ep, i), (ep2, j)), (⟨l, oe, e⟩, ⟨m, oe2, e2⟩)) => allCfg Try.prog [] tabD 3 [(321, annEq (l.getD i []) (m.getD j []))]) (fun _ _ => allCfg_ok mixed trivial tabD_ok) (fun _ => rfl) (n := 80) Try.func88 ?_
  intro ⟨⟨⟨ep, i⟩, ep2, j⟩, ⟨l, oe, e⟩, ⟨m, oe2, e2⟩⟩ hφ
  obtain ⟨⟨rfl, rfl, h1, h2, h3, h4⟩, hp⟩ := id hφ
  refine kcast (B := (rq (ep.beq ep && i.blt (Rws.c l).len) (rq (ep2.beq ep2 && j.blt (Rws.c m).len) (br ((↑((Rws.c l).nAt i) : Int) != (↑((Rws.c m).nAt j) : Int)) ((SV.v (Value.bool false) = SV.v (Value.bool (eqL (l.getD i []) (m.getD j []))) ∧ True) ∧ (oe = oe ∧ ep = ep ∧ l = l) ∧ (oe2 = oe2 ∧ ep2 = ep2 ∧ m = m) ∧ True) (rq (ep.beq ep && i.blt (Rws.c l).len) ((II (0 : Int) ≤ (0 : Int) ∧ (0 : Int) ≤ (↑(l.getD i []).length : Int) ∧ ∀ (j_1 : Nat), j_1 < (0 : Nat) → (l.getD i []).getD j_1 C4.no = (m.getD j []).getD j_1 C4.no) ∧ ((SV.h (0 : Nat) [ep, (1 : Nat), i] = SV.h (0 : Nat) [ep, (1 : Nat), i] ∧ SV.h (1 : Nat) [ep2, (1 : Nat), j] = SV.h (1 : Nat) [ep2, (1 : Nat), j] ∧ SV.v (Value.int IntKind.i64 (↑((Rws.c l).nAt i) : Int)) = SV.v (Value.int IntKind.i64 (↑((Rws.c l).nAt i) : Int)) ∧ SV.v (Value.int IntKind.i64 (0 : Int)) = SV.v (Value.int IntKind.i64 (0 : Int)) ∧ True) ∧ (oe = oe ∧ ep = ep ∧ l = l) ∧ (oe2 = oe2 ∧ ep2 = ep2 ∧ m = m) ∧ True) ∧ ∀ (x : Int), ((0 : Int) ≤ x ∧ x ≤ (↑(l.getD i []).length : Int) ∧ ∀ (j_1 : Nat), j_1 < x.toNat → (l.getD i []).getD j_1 C4.no = (m.getD j []).getD j_1 C4.no) → br (decide (x < (↑((Rws.c l).nAt i) : Int))) (rq (ep.beq ep && i.blt (Rws.c l).len && ((Rws.c l).sz.beq (4 : Nat) && decide ((0 : Int) ≤ x ∧ x < (↑((Rws.c l).nAt i) : Int)))) (rq (ep.beq ep && i.blt (Rws.c l).len && x.toNat.blt (l.getD i []).length) (rq (ep2.beq ep2 && j.blt (Rws.c m).len && ((Rws.c m).sz.beq (4 : Nat) && decide ((0 : Int) ≤ x ∧ x < (↑((Rws.c m).nAt j) : Int)))) (rq (ep2.beq ep2 && j.blt (Rws.c m).len && x.toNat.blt (m.getD j []).length) (br (!(((l.getD i []).getD x.toNat C4.no).g == ((m.getD j []).getD x.toNat C4.no).g && (((l.getD i []).getD x.toNat C4.no).a == ((m.getD j []).getD x.toNat C4.no).a && (((l.getD i []).getD x.toNat C4.no).gd == ((m.getD j []).getD x.toNat C4.no).gd && (((l.getD i []).getD x.toNat C4.no).m == ((m.getD j []).getD x.toNat C4.no).m && true))))) ((SV.v (Value.bool false) = SV.v (Value.bool (eqL (l.getD i []) (m.getD j []))) ∧ True) ∧ (oe = oe ∧ ep = ep ∧ l = l) ∧ (oe2 = oe2 ∧ ep2 = ep2 ∧ m = m) ∧ True) (((0 : Int) ≤ IntKind.i64.wrap (x + (1 : Int)) ∧ IntKind.i64.wrap (x + (1 : Int)) ≤ (↑(l.getD i []).length : Int) ∧ ∀ (j_1 : Nat), j_1 < (IntKind.i64.wrap (x + (1 : Int))).toNat → (l.getD i []).getD j_1 C4.no = (m.getD j []).getD j_1 C4.no) ∧ ((SV.h (0 : Nat) [ep, (1 : Nat), i] = SV.h (0 : Nat) [ep, (1 : Nat), i] ∧ SV.h (1 : Nat) [ep2, (1 : Nat), j] = SV.h (1 : Nat) [ep2, (1 : Nat), j] ∧ SV.v (Value.int IntKind.i64 (↑((Rws.c l).nAt i) : Int)) = SV.v (Value.int IntKind.i64 (↑((Rws.c l).nAt i) : Int)) ∧ SV.v (Value.int IntKind.i64 (IntKind.i64.wrap (x + (1 : Int)))) = SV.v (Value.int IntKind.i64 (IntKind.i64.wrap (x + (1 : Int)))) ∧ True) ∧ (oe = oe ∧ ep = ep ∧ l = l) ∧ (oe2 = oe2 ∧ ep2 = ep2 ∧ m = m) ∧ True) ∧ ((↑(l.getD i []).length : Int) - IntKind.i64.wrap (x + (1 : Int))).toNat < ((↑(l.getD i []).length : Int) - x).toNat)))))) ((SV.v (Value.bool true) = SV.v (Value.bool (eqL (l.getD i []) (m.getD j []))) ∧ True) ∧ (oe = oe ∧ ep = ep ∧ l = l) ∧ (oe2 = oe2 ∧ ep2 = ep2 ∧ m = m) ∧ True))))))) (by kernel_rfl) ?_
  clear hp hφ
  simp only [neC_def]
  simp only [II, nbeq, rq_iff, br_iff, Bool.and_eq_true, decide_eq_true_eq, decide_eq_false_iff_not]
  simp only [eLen, eNat, eSz, nbeq, Bool.true_and, Bool.and_true, true_and, and_true, Bool.and_eq_true, Nat.ble_eq, Nat.blt_eq, bne_iff_ne, bne_eq_false_iff_eq, ne_eq, SV.v.injEq, Value.bool.injEq, neC_iff, neC_no]
  generalize l.getD i [] = a at *
  generalize m.getD j [] = b at *
  refine ⟨h1, h2, fun hne => ?_, fun he => ⟨h1, ⟨by omega, by omega, fun j hj => by omega⟩, fun x ⟨x0, x1, hx⟩ => ⟨fun hlt => ?_, fun hge => ?_⟩⟩⟩
  · exact (Bool.eq_false_iff.2 fun h => hne (by rw [eqL_iff.1 h])).symm
  · have hl : a.length = b.length := by omega
    refine ⟨⟨h1, by omega⟩, ⟨h1, by omega⟩, ⟨h2, by omega⟩, ⟨h2, by omega⟩, fun hne => ?_, fun he => ?_⟩
    · exact (Bool.eq_false_iff.2 fun h => hne (by rw [eqL_iff.1 h])).symm
    · rw [wrap64 (x := x + 1) (by omega) (by omega)]
      refine ⟨⟨by omega, by omega, fun j hj => ?_⟩, by omega⟩
      rcases Nat.lt_or_ge j x.toNat with h | h
      · exact hx j h
      · obtain rfl : j = x.toNat := by omega
        exact he
  · refine (eqL_iff.2 (List.ext_getElem (by omega) fun j g1 g2 => ?_)).symm
    have := hx j (by omega)
    rw [List.getD, List.getD, List.getElem?_eq_getElem g1, List.getElem?_eq_getElem g2] at this
    exact this
def annEf (l m : List (List C4)) : Ann Unit where
  α := Int
  φ _ k := 0 ≤ k ∧ k ≤ l.length ∧ ∀ j : Nat, j < k.toNat → l.getD j [] = m.getD j []
  μ _ k := ((l.length : Int) - k).toNat
  get st := getI st.tm 17
  f st k := tmpl [0, 1, 2, 15, 16] [(17, .v (.int .i64 k))] [] st
def eqG (l m : List (List C4)) : Bool := decide (l.length = m.length) && (List.range l.length).all fun j => eqL (l.getD j []) (m.getD j [])
theorem eqG_iff {a b : List (List C4)} : eqG a b = true ↔ a = b := by
  unfold eqG
  rw [Bool.and_eq_true, decide_eq_true_eq, List.all_eq_true]
  constructor
  · intro ⟨h1, h2⟩
    apply List.ext_getElem h1
    intro i h3 h4
    have := h2 i (List.mem_range.2 h3)
    rw [eqL_iff, List.getD, List.getD, List.getElem?_eq_getElem h3, List.getElem?_eq_getElem h4] at this
    exact this
  · rintro rfl
    exact ⟨rfl, fun j _ => eqL_iff.2 rfl⟩
def tabEq : List (Nat × ACon Unit) := (88, lcEqual) :: tabD
theorem tabEq_ok : LCs Try.prog tabEq := ⟨ok_equal, tabD_ok⟩
def lcEqF : ACon Unit := mkLC (decP (shCons (shO 0) (shCons (shO 1) (shOne (shFn 88)))) sh2R) fun ((a, b, _), (⟨l, oe, e⟩, ⟨m, oe2, e2⟩)) => .ask (a = oe ∧ b = oe2 ∧ GW l ∧ GW m)
  (.one (.v (.bool (eqG l m))) (rw2 l m oe e oe2 e2) [])
set_option maxHeartbeats 4000000 in
theorem ok_eqF : ∀ I : Sym.Inv Unit, LCOk I Try.prog 87 lcEqF := by
  refine lc_mk (fun (_, (⟨l, oe, e⟩, ⟨m, oe2, e2⟩)) => allCfg Try.prog [] tabEq 3 [(321, annEf l m)]) (fun _ _ => allCfg_ok mixed trivial tabEq_ok) (fun _ => rfl) (n := 80) Try.func87 ?_
  intro ⟨⟨a, b, _⟩, ⟨l, oe, e⟩, ⟨m, oe2, e2⟩⟩ hφ
  obtain ⟨⟨rfl, rfl, hg, hm⟩, hp⟩ := id hφ
  refine kcast (B := (rq (a.beq a) (rq (b.beq b) (br ((↑(Rws.c l).len : Int) != (↑(Rws.c m).len : Int)) ((SV.v (Value.bool false) = SV.v (Value.bool (eqG l m)) ∧ True) ∧ (a = a ∧ e = e ∧ l = l) ∧ (b = b ∧ e2 = e2 ∧ m = m) ∧ True) (rq (a.beq a) ((II (0 : Int) ≤ (0 : Int) ∧ (0 : Int) ≤ (↑l.length : Int) ∧ ∀ (j : Nat), j < (0 : Nat) → l.getD j [] = m.getD j []) ∧ ((SV.h (0 : Nat) [a, (0 : Nat)] = SV.h (0 : Nat) [a, (0 : Nat)] ∧ SV.h (1 : Nat) [b, (0 : Nat)] = SV.h (1 : Nat) [b, (0 : Nat)] ∧ SV.v (Value.func (Fn.func (88 : Nat)) #[] #[]) = SV.v (Value.func (Fn.func (88 : Nat)) #[] #[]) ∧ SV.h (0 : Nat) [a, (0 : Nat)] = SV.h (0 : Nat) [a, (0 : Nat)] ∧ SV.v (Value.int IntKind.i64 (↑(Rws.c l).len : Int)) = SV.v (Value.int IntKind.i64 (↑(Rws.c l).len : Int)) ∧ SV.v (Value.int IntKind.i64 (0 : Int)) = SV.v (Value.int IntKind.i64 (0 : Int)) ∧ True) ∧ (a = a ∧ e = e ∧ l = l) ∧ (b = b ∧ e2 = e2 ∧ m = m) ∧ True) ∧ ∀ (x : Int), ((0 : Int) ≤ x ∧ x ≤ (↑l.length : Int) ∧ ∀ (j : Nat), j < x.toNat → l.getD j [] = m.getD j []) → br (decide (x < (↑(Rws.c l).len : Int))) (rq (a.beq a && (Nat.beq (1 : Nat) (1 : Nat) && decide ((0 : Int) ≤ x ∧ x < (↑(Rws.c l).len : Int)))) (rq (a.beq a && x.toNat.blt (Rws.c l).len) (rq (b.beq b && (Nat.beq (1 : Nat) (1 : Nat) && decide ((0 : Int) ≤ x ∧ x < (↑(Rws.c m).len : Int)))) (rq (b.beq b && x.toNat.blt (Rws.c m).len) (true = true ∧ (e = e ∧ e2 = e2 ∧ x.toNat < l.length ∧ x.toNat < m.length ∧ (l.getD x.toNat []).length ≤ (255 : Nat) ∧ (m.getD x.toNat []).length ≤ (255 : Nat)) ∧ br (!eqL (l.getD x.toNat []) (m.getD x.toNat [])) ((SV.v (Value.bool false) = SV.v (Value.bool (eqG l m)) ∧ True) ∧ (a = a ∧ e = e ∧ l = l) ∧ (b = b ∧ e2 = e2 ∧ m = m) ∧ True) (((0 : Int) ≤ IntKind.i64.wrap (x + (1 : Int)) ∧ IntKind.i64.wrap (x + (1 : Int)) ≤ (↑l.length : Int) ∧ ∀ (j : Nat), j < (IntKind.i64.wrap (x + (1 : Int))).toNat → l.getD j [] = m.getD j []) ∧ ((SV.h (0 : Nat) [a, (0 : Nat)] = SV.h (0 : Nat) [a, (0 : Nat)] ∧ SV.h (1 : Nat) [b, (0 : Nat)] = SV.h (1 : Nat) [b, (0 : Nat)] ∧ SV.v (Value.func (Fn.func (88 : Nat)) #[] #[]) = SV.v (Value.func (Fn.func (88 : Nat)) #[] #[]) ∧ SV.h (0 : Nat) [a, (0 : Nat)] = SV.h (0 : Nat) [a, (0 : Nat)] ∧ SV.v (Value.int IntKind.i64 (↑(Rws.c l).len : Int)) = SV.v (Value.int IntKind.i64 (↑(Rws.c l).len : Int)) ∧ SV.v (Value.int IntKind.i64 (IntKind.i64.wrap (x + (1 : Int)))) = SV.v (Value.int IntKind.i64 (IntKind.i64.wrap (x + (1 : Int)))) ∧ True) ∧ (a = a ∧ e = e ∧ l = l) ∧ (b = b ∧ e2 = e2 ∧ m = m) ∧ True) ∧ ((↑l.length : Int) - IntKind.i64.wrap (x + (1 : Int))).toNat < ((↑l.length : Int) - x).toNat)))))) ((SV.v (Value.bool true) = SV.v (Value.bool (eqG l m)) ∧ True) ∧ (a = a ∧ e = e ∧ l = l) ∧ (b = b ∧ e2 = e2 ∧ m = m) ∧ True))))))) (by kernel_rfl) ?_
  clear hp hφ
  simp only [II, nbeq, rq_iff, br_iff, Bool.and_eq_true, decide_eq_true_eq, decide_eq_false_iff_not]
  simp only [eLen, eNat, eSz, nbeq, Bool.true_and, Bool.and_true, true_and, and_true, Bool.and_eq_true, Bool.not_eq_true', Bool.not_eq_false', Nat.ble_eq, Nat.blt_eq, bne_iff_ne, bne_eq_false_iff_eq, ne_eq, SV.v.injEq, Value.bool.injEq]
  have hR := hg.r1
  have hR2 := hm.r1
  have hC := hg.c1
  have hC2 := hm.c1
  refine ⟨fun hne => ?_, fun he => ⟨⟨by omega, by omega, fun j hj => by omega⟩, fun x ⟨x0, x1, hx⟩ => ⟨fun hlt => ?_, fun hge => ?_⟩⟩⟩
  · exact (Bool.eq_false_iff.2 fun h => hne (by rw [eqG_iff.1 h])).symm
  · have r1 := hg.row (i := x.toNat) (by omega)
    have r2 := hm.row (i := x.toNat) (by omega)
    refine ⟨by omega, by omega, by omega, by omega, ⟨by omega, by omega, by omega, by omega⟩, fun hne => ?_, fun he => ?_⟩
    · exact (Bool.eq_false_iff.2 fun h => by rw [eqG_iff.1 h] at hne; rw [eqL_iff.2 rfl] at hne; cases hne).symm
    · rw [wrap64 (x := x + 1) (by omega) (by omega)]
      refine ⟨⟨by omega, by omega, fun j hj => ?_⟩, by omega⟩
      rcases Nat.lt_or_ge j x.toNat with h | h
      · exact hx j h
      · obtain rfl : j = x.toNat := by omega
        exact eqL_iff.1 he
  · refine (eqG_iff.2 (List.ext_getElem (by omega) fun j g1 g2 => ?_)).symm
    have := hx j (by omega)
    rw [List.getD, List.getD, List.getElem?_eq_getElem g1, List.getElem?_eq_getElem g2] at this
    exact this
def tabEf : List (Nat × ACon Unit) := (87, lcEqF) :: tabEq
theorem tabEf_ok : LCs Try.prog tabEf := ⟨ok_eqF, tabEq_ok⟩
def shGG : ShH (Nat × RC × Nat × RC) := shHCons (shCells (shOne (shO 1)) 127) (shHCons (shRowsC 38 92) (shHCons (shCells (shOne (shO 3)) 127) (shHOne (shRowsC 38 92))))
def lcGSame : ACon Unit := mkLC (decP (shCons (shP 0) (shOne (shP 2))) shGG) fun (_, (a, ⟨l, oe, e⟩, b, ⟨m, oe2, e2⟩)) => .ask (a = oe ∧ b = oe2 ∧ GW l ∧ GW m)
  (.one (.v (.bool (eqG l m))) (gbi 0 oe e l ++ gbi 2 oe2 e2 m) [])
set_option maxHeartbeats 4000000 in
theorem ok_gsame : ∀ I : Sym.Inv Unit, LCOk I Try.prog 49 lcGSame := by
  refine lc_mk (fun _ => allCfg Try.prog [] tabEf 3) (fun _ _ => allCfg_ok mixed trivial tabEf_ok) (fun _ => rfl) (n := 80) Try.func49 ?_
  intro ⟨_, a, ⟨l, oe, e⟩, b, ⟨m, oe2, e2⟩⟩ hφ
  obtain ⟨⟨rfl, rfl, hg, hm⟩, hp⟩ := id hφ
  refine kcast (B := (true = true ∧ (a = a ∧ b = b ∧ GW l ∧ GW m) ∧ (SV.v (Value.bool (eqG l m)) = SV.v (Value.bool (eqG l m)) ∧ True) ∧ (SV.h (1 : Nat) [a, (0 : Nat)] = SV.h (1 : Nat) [a, (0 : Nat)] ∧ True) ∧ (a = a ∧ e = e ∧ l = l) ∧ (SV.h (3 : Nat) [b, (0 : Nat)] = SV.h (3 : Nat) [b, (0 : Nat)] ∧ True) ∧ (b = b ∧ e2 = e2 ∧ m = m) ∧ True)) (by kernel_rfl) ?_
  clear hp hφ
  simp [hg, hm]
end Go.Proofs.Ytdhhagangmkloaa
namespace Go.Proofs.Ytdhhagangmkloaa
open Go Go.Sym
def annJk (t : Nat) (keep : List Nat) (b : Bool) : Ann Unit where
  α := Nat
  φ _ _ := True
  μ _ _ := 0
  get _ := some 0
  f st _ := tmpl keep [(t, .v (.bool b))] [] st
section
variable {τ : Type} {I : Sym.Inv τ} {P : Program}
theorem lc_mono {g : FuncId} {lc lc' : ACon τ} (h : ∀ args H, (lc' args H).pre → (lc args H).pre ∧ ∀ x H' ws, (lc args H).has x H' ws → (lc' args H).has x H' ws) (hok : LCOk I P g lc) : LCOk I P g lc' := by
  intro args H e Fr w vs hpre hd hM
  obtain ⟨h1, h2⟩ := h args H hpre
  refine (hok args H e Fr w vs h1 hd hM).mono fun en w' hh => ?_
  obtain ⟨x, Hx, ws, e', v, g1, g2⟩ := hh
  exact ⟨x, Hx, ws, e', v, h2 _ _ _ g1, g2⟩
end
end Go.Proofs.Ytdhhagangmkloaa
namespace Go.Proofs.Ytdhhagangmkloaa
open Go Go.Sym
def upF (l : List (List C4)) (n : Int) (x : C4) : List (List C4) := rollL l 0 (l.length - 1) n x
end Go.Proofs.Ytdhhagangmkloaa
namespace Go.Proofs.Ytdhhagangmkloaa
open Go Go.Sym
section
variable {l : List (List C4)}
theorem rollL_gw (hg : GW l) {t b n : Int} {x : C4} (ht : 0 ≤ t) (htb : t ≤ b) (hb : b < l.length) : GW (rollL l t.toNat b.toNat n x) ∧ (rollL l t.toNat b.toNat n x).length = l.length ∧ nC (rollL l t.toNat b.toNat n x) = nC l := by
  rw [rollL_eq hg ht htb hb]
  exact ⟨gridF_gw hg.r0 hg.r1 hg.c0 hg.c1, gridF_length _ _ _, gridF_nC (by have := hg.r0; omega)⟩
theorem upF_gw (hg : GW l) (n : Int) (x : C4) : GW (upF l n x) ∧ (upF l n x).length = l.length ∧ nC (upF l n x) = nC l := by
  have h0 := hg.r0
  have := rollL_gw hg (t := 0) (b := ((l.length - 1 : Nat) : Int)) (n := n) (x := x) (by omega) (by omega) (by omega)
  exact this
end
end Go.Proofs.Ytdhhagangmkloaa
namespace Go.Proofs.Ytdhhagangmkloaa
open Go Go.Sym
abbrev p2 (r c : Int) : SV := .a [.v (.int .i64 r), .v (.int .i64 c)]
abbrev pl3 (r c : Int) (p : Bool) : SV := .a [.v (.int .i64 r), .v (.int .i64 c), .v (.bool p)]
theorem near_bd {x n : Int} (h : 1 ≤ n) : 0 ≤ nearI x n ∧ nearI x n < n := by
  unfold nearI
  split <;> (try split) <;> omega
def lcNearIn : ACon Unit := mkLC (decP (shCons shI2 (shOne shI2)) shHNil) fun (((a, b), (r, c)), _) => .ask (mayB a b = true) (.one (p2 (nearI r a) (nearI c b)) [] [])
theorem ok_nearIn : ∀ I : Sym.Inv Unit, LCOk I Try.prog 95 lcNearIn := fun I => lc_mono (fun args H hp => by
  unfold lcNearIn mkLC at hp ⊢
  unfold lcNear mkLC
  split at hp
  · rename_i a ha
    obtain ⟨⟨⟨a, b⟩, ⟨r, c⟩⟩, _⟩ := a
    refine ⟨⟨fun _ => trivial, fun _ => trivial⟩, fun x H' ws hh => ?_⟩
    rcases hh with ⟨_, h⟩ | ⟨h1, _⟩
    · exact h
    · rw [hp.1] at h1; cases h1
  · exact hp.elim) (ok_near I)
def nxR (r a : Int) : Int := if a - 1 < r + 1 then a - 1 else r + 1
theorem nxR_bd {r a : Int} (h : 1 ≤ a) (h0 : 0 ≤ r) : 0 ≤ nxR r a ∧ nxR r a < a := by
  unfold nxR; split <;> omega
def lcNext : ACon Unit := mkLC (decP (shCons shI2 (shOne shI2)) shHNil) fun (((a, b), (r, c)), _) => .ask (mayB a b = true ∧ 0 ≤ r ∧ r < a) (.one (.t [p2 (nxR r a) 0, .v (.bool (nxR r a == r))]) [] [])
set_option maxHeartbeats 4000000 in
theorem ok_next : ∀ I : Sym.Inv Unit, LCOk I Try.prog 96 lcNext := by
  refine lc_mk (fun _ => allCfg Try.prog [] [] 0) (fun _ _ => allCfg_ok mixed trivial trivial) (fun _ => rfl) (n := 60) Try.func96 ?_
  intro ⟨⟨⟨a, b⟩, ⟨r, c⟩⟩, _⟩ hφ
  obtain ⟨⟨hm, h0, h1⟩, hp⟩ := id hφ
  refine kcast (B := ((SV.t [SV.a [SV.v (Value.int IntKind.i64 (if IntKind.i64.wrap (a - (1 : Int)) < IntKind.i64.wrap (r + (1 : Int)) then IntKind.i64.wrap (a - (1 : Int)) else IntKind.i64.wrap (r + (1 : Int)))), SV.v (Value.int IntKind.i64 (0 : Int))], SV.v (Value.bool ((if IntKind.i64.wrap (a - (1 : Int)) < IntKind.i64.wrap (r + (1 : Int)) then IntKind.i64.wrap (a - (1 : Int)) else IntKind.i64.wrap (r + (1 : Int))) == r))] = SV.t [SV.a [SV.v (Value.int IntKind.i64 (nxR r a)), SV.v (Value.int IntKind.i64 (0 : Int))], SV.v (Value.bool (nxR r a == r))] ∧ True) ∧ True)) (by kernel_rfl) ?_
  clear hp hφ
  rw [mayB_iff] at hm
  rw [wrap64 (x := r + 1) (by omega) (by omega), wrap64 (x := a - 1) (by omega) (by omega)]
  simp [nxR]
def ahR (a r : Int) (p : Bool) : Int := if p = true then nxR (nearI r a) a else nearI r a
def ahC (b c : Int) (p : Bool) : Int := if p = true then 0 else nearI c b
def ahU (a r : Int) (p : Bool) : Bool := p && (nxR (nearI r a) a == nearI r a)
def tabF1 : List (Nat × ACon Unit) := (95, lcNearIn) :: (96, lcNext) :: (109, lcNear1) :: (74, lcMay) :: []
theorem tabF1_ok : LCs Try.prog tabF1 := ⟨ok_nearIn, ok_next, ok_near1, ok_may, trivial⟩
def lcAheadW : ACon Unit := mkLC (decP (shCons shI2 (shOne shPl)) shHNil) fun (((a, b), (r, c, p)), _) => .ask (mayB a b = true) (.one (.t [p2 (ahR a r p) (ahC b c p), .v (.bool (ahU a r p))]) [] [])
set_option maxHeartbeats 4000000 in
theorem ok_aheadW : ∀ I : Sym.Inv Unit, LCOk I Try.prog 64 lcAheadW := by
  refine lc_mk (fun _ => allCfg Try.prog [] tabF1 0) (fun _ _ => allCfg_ok mixed trivial tabF1_ok) (fun _ => rfl) (n := 60) Try.func64 ?_
  intro ⟨⟨⟨a, b⟩, ⟨r, c, p⟩⟩, _⟩ hφ
  obtain ⟨hm, hp⟩ := id hφ
  refine kcast (B := (true = true ∧ mayB a b = true ∧ br (!p) ((SV.t [SV.a [SV.v (Value.int IntKind.i64 (nearI r a)), SV.v (Value.int IntKind.i64 (nearI c b))], SV.v (Value.bool false)] = SV.t [SV.a [SV.v (Value.int IntKind.i64 (ahR a r p)), SV.v (Value.int IntKind.i64 (ahC b c p))], SV.v (Value.bool (ahU a r p))] ∧ True) ∧ True) (true = true ∧ br (mayB a b) (true = true ∧ (mayB a b = true ∧ (0 : Int) ≤ nearI r a ∧ nearI r a < a) ∧ (SV.t [SV.a [SV.v (Value.int IntKind.i64 (nxR (nearI r a) a)), SV.v (Value.int IntKind.i64 (0 : Int))], SV.v (Value.bool (nxR (nearI r a) a == nearI r a))] = SV.t [SV.a [SV.v (Value.int IntKind.i64 (ahR a r p)), SV.v (Value.int IntKind.i64 (ahC b c p))], SV.v (Value.bool (ahU a r p))] ∧ True) ∧ True) ((SV.t [SV.a [SV.v (Value.int IntKind.i64 (nearI r a)), SV.v (Value.int IntKind.i64 (nearI c b))], SV.v (Value.bool false)] = SV.t [SV.a [SV.v (Value.int IntKind.i64 (ahR a r p)), SV.v (Value.int IntKind.i64 (ahC b c p))], SV.v (Value.bool (ahU a r p))] ∧ True) ∧ True)))) (by kernel_rfl) ?_
  clear hp hφ
  have hm' := mayB_iff.1 hm
  have hb := near_bd (x := r) hm'.1
  cases p <;> simp [br_iff, hm, ahR, ahC, ahU, hb]
def bhIn (b c : Int) : Bool := decide (nearI c b < b - 1)
def bhR (a b r c w : Int) : Int := if bhIn b c = true then nearI r a else if w = 2 then nxR (nearI r a) a else nearI r a
def bhC (a b r c w : Int) : Int := if bhIn b c = true then nearI c b + 1 else if w = 2 then 0 else nearI c b
def bhP (a b r c w : Int) : Bool := !bhIn b c && (!(w == 1) && !(w == 2))
def bhU (a b r c w : Int) : Bool := !bhIn b c && ((w == 2) && (nxR (nearI r a) a == nearI r a))
def lcBehind : ACon Unit := mkLC (decP (shCons shI2 (shCons shI2 (shOne shI))) shHNil) fun (((a, b), (r, c), w), _) => .ask (mayB a b = true) (.one (.t [pl3 (bhR a b r c w) (bhC a b r c w) (bhP a b r c w), .v (.bool (bhU a b r c w))]) [] [])
set_option maxHeartbeats 4000000 in
theorem ok_behind : ∀ I : Sym.Inv Unit, LCOk I Try.prog 82 lcBehind := by
  refine lc_mk (fun _ => allCfg Try.prog [] tabF1 0) (fun _ _ => allCfg_ok mixed trivial tabF1_ok) (fun _ => rfl) (n := 60) Try.func82 ?_
  intro ⟨⟨⟨a, b⟩, ⟨r, c⟩, w⟩, _⟩ hφ
  obtain ⟨hm, hp⟩ := id hφ
  refine kcast (B := (true = true ∧ br (mayB a b) (true = true ∧ mayB a b = true ∧ br (decide (nearI c b < IntKind.i64.wrap (b - (1 : Int)))) ((SV.t [SV.a [SV.v (Value.int IntKind.i64 (nearI r a)), SV.v (Value.int IntKind.i64 (IntKind.i64.wrap (nearI c b + (1 : Int)))), SV.v (Value.bool false)], SV.v (Value.bool false)] = SV.t [SV.a [SV.v (Value.int IntKind.i64 (bhR a b r c w)), SV.v (Value.int IntKind.i64 (bhC a b r c w)), SV.v (Value.bool (bhP a b r c w))], SV.v (Value.bool (bhU a b r c w))] ∧ True) ∧ True) (br (w == (1 : Int)) ((SV.t [SV.a [SV.v (Value.int IntKind.i64 (nearI r a)), SV.v (Value.int IntKind.i64 (nearI c b)), SV.v (Value.bool false)], SV.v (Value.bool false)] = SV.t [SV.a [SV.v (Value.int IntKind.i64 (bhR a b r c w)), SV.v (Value.int IntKind.i64 (bhC a b r c w)), SV.v (Value.bool (bhP a b r c w))], SV.v (Value.bool (bhU a b r c w))] ∧ True) ∧ True) (br (w == (2 : Int)) (true = true ∧ (mayB a b = true ∧ (0 : Int) ≤ nearI r a ∧ nearI r a < a) ∧ (SV.t [SV.a [SV.v (Value.int IntKind.i64 (nxR (nearI r a) a)), SV.v (Value.int IntKind.i64 (0 : Int)), SV.v (Value.bool false)], SV.v (Value.bool (nxR (nearI r a) a == nearI r a))] = SV.t [SV.a [SV.v (Value.int IntKind.i64 (bhR a b r c w)), SV.v (Value.int IntKind.i64 (bhC a b r c w)), SV.v (Value.bool (bhP a b r c w))], SV.v (Value.bool (bhU a b r c w))] ∧ True) ∧ True) ((SV.t [SV.a [SV.v (Value.int IntKind.i64 (nearI r a)), SV.v (Value.int IntKind.i64 (nearI c b)), SV.v (Value.bool true)], SV.v (Value.bool false)] = SV.t [SV.a [SV.v (Value.int IntKind.i64 (bhR a b r c w)), SV.v (Value.int IntKind.i64 (bhC a b r c w)), SV.v (Value.bool (bhP a b r c w))], SV.v (Value.bool (bhU a b r c w))] ∧ True) ∧ True)))) ((SV.t [SV.a [SV.v (Value.int IntKind.i64 (0 : Int)), SV.v (Value.int IntKind.i64 (0 : Int)), SV.v (Value.bool false)], SV.v (Value.bool false)] = SV.t [SV.a [SV.v (Value.int IntKind.i64 (bhR a b r c w)), SV.v (Value.int IntKind.i64 (bhC a b r c w)), SV.v (Value.bool (bhP a b r c w))], SV.v (Value.bool (bhU a b r c w))] ∧ True) ∧ True))) (by kernel_rfl) ?_
  clear hp hφ
  have hm' := mayB_iff.1 hm
  have hb := near_bd (x := r) hm'.1
  have hc := near_bd (x := c) (n := b) hm'.2.2.1
  rw [wrap64 (x := b - 1) (by omega) (by omega), wrap64 (x := nearI c b + 1) (by omega) (by omega)]
  by_cases h1 : nearI c b < b - 1
  · simp [br_iff, hm, bhR, bhC, bhP, bhU, bhIn, h1]
  · by_cases h2 : w = 1
    · subst h2; simp [br_iff, hm, bhR, bhC, bhP, bhU, bhIn, h1]
    · by_cases h3 : w = 2
      · subst h3; simp [br_iff, hm, bhR, bhC, bhP, bhU, bhIn, h1, hb]
      · simp [br_iff, hm, bhR, bhC, bhP, bhU, bhIn, h1, h2, h3]
end Go.Proofs.Ytdhhagangmkloaa
namespace Go.Proofs.Ytdhhagangmkloaa
open Go Go.Sym
def riL (l : List (List C4)) (p : Bool) (x : C4) : List (List C4) := if p = true then upF l 1 x else l
def riN (p : Bool) : Int := if p = true then 1 else 0
def riE (p : Bool) (ep : Nat) : Nat := if p = true then ep + 1 else ep
def lcRiseU : ACon Unit := mkLC (decP (shCons (shP 0) (shCons shB (shOne shC))) shG) fun ((_, p, x), (oe, ⟨l, oe2, ep⟩)) => .ask (oe = oe2 ∧ GW l) (.one (.v (.int .i64 (riN p))) (gbi 0 oe (riE p ep) (riL l p x)) [1])
theorem ok_riseU : ∀ I : Sym.Inv Unit, LCOk I Try.prog 81 lcRiseU := fun I => lc_mono (fun args H hp => by
  unfold lcRiseU mkLC at hp ⊢
  unfold lcRise mkLC
  split at hp
  · rename_i a ha
    obtain ⟨⟨_, p, x⟩, oe, l, oe2, ep⟩ := a
    refine ⟨⟨hp.1, ⟨fun _ => trivial, fun _ => trivial⟩⟩, fun x H' ws hh => ?_⟩
    rcases hh with ⟨h1, h⟩ | ⟨h1, h⟩ <;> (subst h1; exact h)
  · exact hp.elim) (ok_rise I)
def lcSetIn : ACon Unit := mkLC (decP (shCons (shP 0) (shCons shI2 (shOne shC))) shG) fun ((_, (r, c), x), (oe, ⟨l, oe2, ep⟩)) => .ask (oe = oe2 ∧ GW l ∧ inB l r c = true) (.one (.v (.int .i64 0)) (gbi 0 oe ep (set2 l r c x)) [1])
theorem ok_setIn : ∀ I : Sym.Inv Unit, LCOk I Try.prog 65 lcSetIn := fun I => lc_mono (fun args H hp => by
  unfold lcSetIn mkLC at hp ⊢
  unfold lcSet1 mkLC
  split at hp
  · rename_i a ha
    obtain ⟨⟨_, ⟨r, c⟩, x⟩, oe, l, oe2, ep⟩ := a
    refine ⟨⟨⟨hp.1.1, hp.1.2.1⟩, ⟨fun _ => trivial, fun _ => trivial⟩⟩, fun x H' ws hh => ?_⟩
    rcases hh with ⟨_, h⟩ | ⟨h1, _⟩
    · exact h
    · rw [hp.1.2.2] at h1; cases h1
  · exact hp.elim) (ok_set1 I)
theorem riL_gw {l : List (List C4)} (hg : GW l) (p : Bool) (x : C4) : GW (riL l p x) ∧ (riL l p x).length = l.length ∧ nC (riL l p x) = nC l := by
  unfold riL
  split
  · exact upF_gw hg 1 x
  · exact ⟨hg, rfl, rfl⟩
theorem ah_bd {a b r c : Int} {p : Bool} (ha : 1 ≤ a) (hb : 1 ≤ b) : 0 ≤ ahR a r p ∧ ahR a r p < a ∧ 0 ≤ ahC b c p ∧ ahC b c p < b := by
  have h1 := near_bd (x := r) ha
  have h2 := near_bd (x := c) hb
  have h3 := nxR_bd ha h1.1
  unfold ahR ahC
  split <;> omega
def puL1 (l : List (List C4)) (r c : Int) (p : Bool) (x y : C4) : List (List C4) :=
  set2 (riL l (ahU l.length r p) y) (ahR l.length r p) (ahC (nC l) c p) x
def puU (l : List (List C4)) (r c : Int) (p : Bool) (w : Int) : Bool := bhU l.length (nC l) (ahR l.length r p) (ahC (nC l) c p) w
def puL (l : List (List C4)) (r c : Int) (p : Bool) (x : C4) (w : Int) (y : C4) : List (List C4) := riL (puL1 l r c p x y) (puU l r c p w) y
def puPl (a b r c : Int) (p : Bool) (w : Int) : SV := pl3 (bhR a b (ahR a r p) (ahC b c p) w) (bhC a b (ahR a r p) (ahC b c p) w) (bhP a b (ahR a r p) (ahC b c p) w)
def puN (a b r c : Int) (p : Bool) (w : Int) : Int := riN (ahU a r p) + riN (bhU a b (ahR a r p) (ahC b c p) w)
def tabF2 : List (Nat × ACon Unit) := (64, lcAheadW) :: (82, lcBehind) :: (81, lcRiseU) :: (65, lcSetIn) :: (63, lcSize1) :: tabF1
theorem tabF2_ok : LCs Try.prog tabF2 := ⟨ok_aheadW, ok_behind, ok_riseU, ok_setIn, ok_size1, tabF1_ok⟩
def lcPut : ACon Unit := mkLC (decP (shCons (shP 0) (shCons shPl (shCons shC (shCons shI (shOne shC))))) shG) fun ((_, (r, c, p), x, w, y), (oe, ⟨l, oe2, ep⟩)) => .ask (oe = oe2 ∧ GW l)
  (.one (.t [puPl l.length (nC l) r c p w, .v (.int .i64 (puN l.length (nC l) r c p w)), .v (.int .i64 0)]) (gbi 0 oe (riE (puU l r c p w) (riE (ahU l.length r p) ep)) (puL l r c p x w y)) [1])
theorem puL1_gw {l : List (List C4)} (hg : GW l) (r c : Int) (p : Bool) (x y : C4) : inB (riL l (ahU l.length r p) y) (ahR l.length r p) (ahC (nC l) c p) = true ∧ GW (puL1 l r c p x y) ∧ (puL1 l r c p x y).length = l.length ∧ nC (puL1 l r c p x y) = nC l := by
  obtain ⟨g1, g2, g3⟩ := riL_gw hg (ahU l.length r p) y
  have h0 := hg.r0
  have h1 := hg.c0
  have hb := ah_bd (a := l.length) (b := nC l) (r := r) (c := c) (p := p) (by omega) (by omega)
  have hi : inB (riL l (ahU l.length r p) y) (ahR l.length r p) (ahC (nC l) c p) = true := by rw [inB_iff, g2, g3]; omega
  refine ⟨hi, ?_⟩
  unfold puL1
  rw [inB_iff] at hi
  rw [set2_eq g1 hi.1 hi.2.1 hi.2.2.1 hi.2.2.2, g2, g3]
  exact ⟨gridF_gw hg.r0 hg.r1 hg.c0 hg.c1, gridF_length _ _ _, gridF_nC (by omega)⟩
theorem riN_bd (p : Bool) : 0 ≤ riN p ∧ riN p ≤ 1 := by unfold riN; split <;> omega
set_option maxHeartbeats 4000000 in
theorem ok_put : ∀ I : Sym.Inv Unit, LCOk I Try.prog 46 lcPut := by
  refine lc_mk (fun _ => allCfg Try.prog [] tabF2 0) (fun _ _ => allCfg_ok mixed trivial tabF2_ok) (fun _ => rfl) (n := 80) Try.func46 ?_
  intro ⟨⟨_, ⟨r, c, p⟩, x, w, y⟩, ⟨oe, ⟨l, oe2, ep⟩⟩⟩ hφ
  obtain ⟨⟨rfl, hg⟩, hp⟩ := id hφ
  refine kcast (B := (true = true ∧ (oe = oe ∧ GW l) ∧ true = true ∧ mayB (↑l.length : Int) (↑(nC l) : Int) = true ∧ true = true ∧ (oe = oe ∧ GW l) ∧ true = true ∧ (oe = oe ∧ GW (riL l (ahU (↑l.length : Int) r p) (C4.mk y.g y.a y.gd y.m)) ∧ inB (riL l (ahU (↑l.length : Int) r p) (C4.mk y.g y.a y.gd y.m)) (ahR (↑l.length : Int) r p) (ahC (↑(nC l) : Int) c p) = true) ∧ true = true ∧ mayB (↑l.length : Int) (↑(nC l) : Int) = true ∧ true = true ∧ (oe = oe ∧ GW (set2 (riL l (ahU (↑l.length : Int) r p) (C4.mk y.g y.a y.gd y.m)) (ahR (↑l.length : Int) r p) (ahC (↑(nC l) : Int) c p) (C4.mk x.g x.a x.gd x.m))) ∧ (SV.t [SV.a [SV.v (Value.int IntKind.i64 (bhR (↑l.length : Int) (↑(nC l) : Int) (ahR (↑l.length : Int) r p) (ahC (↑(nC l) : Int) c p) w)), SV.v (Value.int IntKind.i64 (bhC (↑l.length : Int) (↑(nC l) : Int) (ahR (↑l.length : Int) r p) (ahC (↑(nC l) : Int) c p) w)), SV.v (Value.bool (bhP (↑l.length : Int) (↑(nC l) : Int) (ahR (↑l.length : Int) r p) (ahC (↑(nC l) : Int) c p) w))], SV.v (Value.int IntKind.i64 (IntKind.i64.wrap (riN (ahU (↑l.length : Int) r p) + riN (bhU (↑l.length : Int) (↑(nC l) : Int) (ahR (↑l.length : Int) r p) (ahC (↑(nC l) : Int) c p) w)))), SV.v (Value.int IntKind.i64 (0 : Int))] = SV.t [SV.a [SV.v (Value.int IntKind.i64 (bhR (↑l.length : Int) (↑(nC l) : Int) (ahR (↑l.length : Int) r p) (ahC (↑(nC l) : Int) c p) w)), SV.v (Value.int IntKind.i64 (bhC (↑l.length : Int) (↑(nC l) : Int) (ahR (↑l.length : Int) r p) (ahC (↑(nC l) : Int) c p) w)), SV.v (Value.bool (bhP (↑l.length : Int) (↑(nC l) : Int) (ahR (↑l.length : Int) r p) (ahC (↑(nC l) : Int) c p) w))], SV.v (Value.int IntKind.i64 (puN (↑l.length : Int) (↑(nC l) : Int) r c p w)), SV.v (Value.int IntKind.i64 (0 : Int))] ∧ True) ∧ (SV.h (1 : Nat) [oe, (0 : Nat)] = SV.h (1 : Nat) [oe, (0 : Nat)] ∧ True) ∧ (oe = oe ∧ riE (bhU (↑l.length : Int) (↑(nC l) : Int) (ahR (↑l.length : Int) r p) (ahC (↑(nC l) : Int) c p) w) (riE (ahU (↑l.length : Int) r p) ep) = riE (puU l r c p w) (riE (ahU (↑l.length : Int) r p) ep) ∧ riL (set2 (riL l (ahU (↑l.length : Int) r p) (C4.mk y.g y.a y.gd y.m)) (ahR (↑l.length : Int) r p) (ahC (↑(nC l) : Int) c p) (C4.mk x.g x.a x.gd x.m)) (bhU (↑l.length : Int) (↑(nC l) : Int) (ahR (↑l.length : Int) r p) (ahC (↑(nC l) : Int) c p) w) (C4.mk y.g y.a y.gd y.m) = puL l r c p x w y) ∧ True)) (by kernel_rfl) ?_
  clear hp hφ
  have eta : ∀ y : C4, C4.mk y.g y.a y.gd y.m = y := fun _ => rfl
  simp only [eta]
  have h0 := hg.r0
  have h1 := hg.c0
  have hm : mayB l.length (nC l) = true := by
    have := hg.r1
    have := hg.c1
    rw [mayB_iff]; omega
  obtain ⟨g1, g2, g3⟩ := riL_gw hg (ahU l.length r p) y
  obtain ⟨p1, p2, p3, p4⟩ := puL1_gw hg r c p x y
  have n1 := riN_bd (ahU l.length r p)
  have n2 := riN_bd (bhU l.length (nC l) (ahR l.length r p) (ahC (nC l) c p) w)
  rw [wrap64 (x := riN (ahU l.length r p) + riN (bhU l.length (nC l) (ahR l.length r p) (ahC (nC l) c p) w)) (by omega) (by omega)]
  simp [br_iff, hg, hm, g1, g2, g3, p1, show GW (set2 (riL l (ahU l.length r p) y) (ahR l.length r p) (ahC (nC l) c p) x) from p2, puL, puU, puN, puL1]
end Go.Proofs.Ytdhhagangmkloaa
namespace Go.Proofs.Ytdhhagangmkloaa
open Go Go.Sym
theorem puL_gw {l : List (List C4)} (hg : GW l) (r c : Int) (p : Bool) (x : C4) (w : Int) (y : C4) : GW (puL l r c p x w y) ∧ (puL l r c p x w y).length = l.length ∧ nC (puL l r c p x w y) = nC l := by
  obtain ⟨_, p2, p3, p4⟩ := puL1_gw hg r c p x y
  obtain ⟨g1, g2, g3⟩ := riL_gw p2 (puU l r c p w) y
  exact ⟨g1, g2.trans p3, g3.trans p4⟩
abbrev penSV (r c : Int) (q : Bool) (w : Int) (s : ByteArray) : SV := .a [.v (.int .i64 r), .v (.int .i64 c), .v (.bool q), .v (.int .i64 w), .v (.string s)]
def ptabF : List (Nat × PS) := [(43, psAwake)]
theorem ptabF_ok : Pures Try.prog ptabF := ⟨ok_awake08, trivial⟩
end Go.Proofs.Ytdhhagangmkloaa
namespace Go.Sym
open Go
def shNilS : Sh Unit where
  enc _ := .v (.slice none 0 0)
  dec x := match x with
    | .v (.slice none 0 0) => some ()
    | _ => none
  ok x a h := by
    split at h
    · rfl
    · cases h
end Go.Sym
namespace Go.Proofs.Ytdhhagangmkloaa
open Go Go.Sym
structure TX where
  l : List (List C4)
  r : Int
  c : Int
  q : Bool
  n : Int
  ep : Nat
def txF (w : Int) (y : C4) (s : TX) (x : C4) : TX := ⟨puL s.l s.r s.c s.q x w y, bhR s.l.length (nC s.l) (ahR s.l.length s.r s.q) (ahC (nC s.l) s.c s.q) w, bhC s.l.length (nC s.l) (ahR s.l.length s.r s.q) (ahC (nC s.l) s.c s.q) w,
  bhP s.l.length (nC s.l) (ahR s.l.length s.r s.q) (ahC (nC s.l) s.c s.q) w, s.n + puN s.l.length (nC s.l) s.r s.c s.q w, riE (puU s.l s.r s.c s.q w) (riE (ahU s.l.length s.r s.q) s.ep)⟩
def tx (w : Int) (y : C4) (s : TX) (xs : List C4) : TX := xs.foldl (txF w y) s
section
variable {w : Int} {y : C4} {s : TX}
theorem tx_app (xs ys : List C4) : tx w y s (xs ++ ys) = tx w y (tx w y s xs) ys := List.foldl_append
theorem puN_bd (a b r c w : Int) (q : Bool) : 0 ≤ puN a b r c q w ∧ puN a b r c q w ≤ 2 := by
  unfold puN
  have h1 := riN_bd (ahU a r q)
  have h2 := riN_bd (bhU a b (ahR a r q) (ahC b c q) w)
  omega
theorem tx_gw : ∀ (xs : List C4) (s : TX), GW s.l → GW (tx w y s xs).l ∧ (tx w y s xs).l.length = s.l.length ∧ nC (tx w y s xs).l = nC s.l
  | [], s, h => ⟨h, rfl, rfl⟩
  | x :: xs, s, h => by
    obtain ⟨g1, g2, g3⟩ := puL_gw h s.r s.c s.q x w y
    obtain ⟨k1, k2, k3⟩ := tx_gw xs (txF w y s x) g1
    exact ⟨k1, k2.trans g2, k3.trans g3⟩
theorem tx_n : ∀ (xs : List C4) (s : TX), s.n ≤ (tx w y s xs).n ∧ (tx w y s xs).n ≤ s.n + 2 * xs.length
  | [], s => ⟨Int.le_refl _, by simp [tx]⟩
  | x :: xs, s => by
    have h := tx_n xs (txF w y s x)
    have hb := puN_bd s.l.length (nC s.l) s.r s.c w s.q
    have e : (txF w y s x).n = s.n + puN s.l.length (nC s.l) s.r s.c s.q w := rfl
    have e2 : tx w y s (x :: xs) = tx w y (txF w y s x) xs := rfl
    rw [e2]
    simp only [List.length_cons]
    omega
theorem tx_from : ∀ (xs : List C4) (s : TX) (m : Int) (e : Nat), (tx w y { s with n := m, ep := e } xs).l = (tx w y s xs).l ∧ (tx w y { s with n := m, ep := e } xs).r = (tx w y s xs).r ∧ (tx w y { s with n := m, ep := e } xs).c = (tx w y s xs).c ∧
    (tx w y { s with n := m, ep := e } xs).q = (tx w y s xs).q ∧ (tx w y { s with n := m, ep := e } xs).n - m = (tx w y s xs).n - s.n
  | [], s, m, e => ⟨rfl, rfl, rfl, rfl, by simp [tx]⟩
  | x :: xs, s, m, e => by
    have h := tx_from xs (txF w y s x) (m + puN s.l.length (nC s.l) s.r s.c s.q w) (riE (puU s.l s.r s.c s.q w) (riE (ahU s.l.length s.r s.q) e))
    have e1 : tx w y { s with n := m, ep := e } (x :: xs) = tx w y ⟨(txF w y s x).l, (txF w y s x).r, (txF w y s x).c, (txF w y s x).q, m + puN s.l.length (nC s.l) s.r s.c s.q w, riE (puU s.l s.r s.c s.q w) (riE (ahU s.l.length s.r s.q) e)⟩ xs := rfl
    have e2 : tx w y s (x :: xs) = tx w y (txF w y s x) xs := rfl
    have e3 : (txF w y s x).n = s.n + puN s.l.length (nC s.l) s.r s.c s.q w := rfl
    rw [e1, e2]
    refine ⟨h.1, h.2.1, h.2.2.1, h.2.2.2.1, ?_⟩
    have := h.2.2.2.2
    rw [e3] at this
    omega
theorem tx_clamp : ∀ (xs : List C4) (s : TX), s.q = false → (tx 1 y s xs).n = s.n
  | [], s, _ => rfl
  | x :: xs, s, h => by
    have e : (txF 1 y s x).q = false := by simp [txF, bhP]
    have e2 : (txF 1 y s x).n = s.n := by simp [txF, puN, riN, ahU, bhU, h]
    have := tx_clamp xs (txF 1 y s x) e
    exact this.trans e2
end
theorem part_succ {xs : List C4} {lo len k : Nat} (hk : k < len) (h : lo + len ≤ xs.length) : (xs.drop lo).take (k + 1) = (xs.drop lo).take k ++ [xs.getD (lo + k) C4.no] := by
  rw [List.take_add_one, List.getElem?_drop, List.getElem?_eq_getElem (by omega), List.getD, List.getElem?_eq_getElem (by omega)]; rfl
def tx0 (l : List (List C4)) (r c : Int) (q : Bool) (ep : Nat) : TX := ⟨l, r, c, q, 0, ep⟩
def annTx (w : Int) (y : C4) (l : List (List C4)) (r c : Int) (q : Bool) (oe ep lo len : Nat) (xs : List C4) : Ann Unit where
  α := Int
  φ _ k := 0 ≤ k ∧ k ≤ len
  μ _ k := ((len : Int) - k).toNat
  get st := getI st.tm 24
  f st k := tmpl [0, 3, 6, 9, 10, 22, 23] [(24, .v (.int .i64 k)), (13, .v (.int .i64 (tx w y (tx0 l r c q ep) ((xs.drop lo).take k.toNat)).n))] [(1, .rows (.c (tx w y (tx0 l r c q ep) ((xs.drop lo).take k.toNat)).l) 38 92 oe (tx w y (tx0 l r c q ep) ((xs.drop lo).take k.toNat)).ep none),
    (3, .cells [.v (.int .i64 (tx w y (tx0 l r c q ep) ((xs.drop lo).take k.toNat)).r), .v (.int .i64 (tx w y (tx0 l r c q ep) ((xs.drop lo).take k.toNat)).c), .v (.bool (tx w y (tx0 l r c q ep) ((xs.drop lo).take k.toNat)).q)] 79)] st
def tabT8 : List (Nat × ACon Unit) := (46, lcPut) :: []
theorem tabT8_ok : LCs Try.prog tabT8 := ⟨ok_put, trivial⟩
def shGO : ShH (GB × OC) where
  enc a := shG.enc a.1 ++ [shOwnC0.enc a.2]
  dec H := match H with
    | [a, b, c] => match shG.dec [a, b], shOwnC0.dec c with
      | some g, some o => some (g, o)
      | _, _ => none
    | _ => none
  ok H a h := by
    split at h
    · split at h
      · rename_i h1 h2
        simp only [Option.some.injEq] at h
        subst h
        rw [← shG.ok _ _ h1, ← shOwnC0.ok _ _ h2]; rfl
      · cases h
    · cases h
def lcTextS : ACon Unit := mkLC (decP (shCons (shP 0) (shCons shPl (shCons (shOut 2) (shCons shI (shOne shC))))) shGO) fun ((_, (r, c, q), (e, lo, len), w, y), ((oe, ⟨l, oe2, ep⟩), ⟨xs, n, e2⟩)) => .ask (oe = oe2 ∧ GW l ∧ e = e2 ∧ xs.length = n ∧ n ≤ 60 ∧ lo + len ≤ n ∧ 0 < n)
  (.one (.t [pl3 (tx w y (tx0 l r c q ep) ((xs.drop lo).take len)).r (tx w y (tx0 l r c q ep) ((xs.drop lo).take len)).c (tx w y (tx0 l r c q ep) ((xs.drop lo).take len)).q, .v (.int .i64 (tx w y (tx0 l r c q ep) ((xs.drop lo).take len)).n), .v (.int .i64 0)])
    (gbi 0 oe (tx w y (tx0 l r c q ep) ((xs.drop lo).take len)).ep (tx w y (tx0 l r c q ep) ((xs.drop lo).take len)).l ++ [.own (.recs xs) n 38 4 e false]) [1])
def lcTextW : ACon Unit := mkLC (decP (shCons (shP 0) (shCons shPl (shCons (shO 2) (shCons shI (shOne shC))))) shGO) fun ((_, (r, c, q), e, w, y), ((oe, ⟨l, oe2, ep⟩), ⟨xs, n, e2⟩)) => .ask (oe = oe2 ∧ GW l ∧ e = e2 ∧ xs.length = n ∧ n ≤ 60)
  (.one (.t [pl3 (tx w y (tx0 l r c q ep) ((xs.drop 0).take n)).r (tx w y (tx0 l r c q ep) ((xs.drop 0).take n)).c (tx w y (tx0 l r c q ep) ((xs.drop 0).take n)).q, .v (.int .i64 (tx w y (tx0 l r c q ep) ((xs.drop 0).take n)).n), .v (.int .i64 0)])
    (gbi 0 oe (tx w y (tx0 l r c q ep) ((xs.drop 0).take n)).ep (tx w y (tx0 l r c q ep) ((xs.drop 0).take n)).l ++ [.own (.recs xs) n 38 4 e false]) [1])
def lcTextN : ACon Unit := mkLC (decP (shCons (shP 0) (shCons shPl (shCons shNilS (shCons shI (shOne shC))))) shG) fun ((_, (r, c, q), _, w, y), (oe, ⟨l, oe2, ep⟩)) => .ask (oe = oe2) (.one (.t [pl3 r c q, .v (.int .i64 0), .v (.int .i64 0)]) (gbi 0 oe ep l) [1])
set_option maxHeartbeats 4000000 in
theorem ok_textN : ∀ I : Sym.Inv Unit, LCOk I Try.prog 57 lcTextN := by
  refine lc_mk (fun _ => allCfg Try.prog [] tabT8 2) (fun _ _ => allCfg_ok mixed trivial tabT8_ok) (fun _ => rfl) (n := 80) Try.func57 ?_
  intro ⟨⟨_, ⟨r, c, q⟩, _, w, y⟩, ⟨oe, ⟨l, oe2, ep⟩⟩⟩ hφ
  obtain ⟨rfl, hp⟩ := id hφ
  refine kcast (B := ((SV.t [SV.a [SV.v (Value.int IntKind.i64 r), SV.v (Value.int IntKind.i64 c), SV.v (Value.bool q)], SV.v (Value.int IntKind.i64 (0 : Int)), SV.v (Value.int IntKind.i64 (0 : Int))] = SV.t [SV.a [SV.v (Value.int IntKind.i64 r), SV.v (Value.int IntKind.i64 c), SV.v (Value.bool q)], SV.v (Value.int IntKind.i64 (0 : Int)), SV.v (Value.int IntKind.i64 (0 : Int))] ∧ True) ∧ (SV.h (1 : Nat) [oe, (0 : Nat)] = SV.h (1 : Nat) [oe, (0 : Nat)] ∧ True) ∧ (oe = oe ∧ ep = ep ∧ l = l) ∧ True)) (by kernel_rfl) ?_
  simp
set_option maxHeartbeats 4000000 in
theorem ok_textS : ∀ I : Sym.Inv Unit, LCOk I Try.prog 57 lcTextS := by
  refine lc_mk (fun ((_, (r, c, q), (e, lo, len), w, y), ((oe, ⟨l, oe2, ep⟩), ⟨xs, n, e2⟩)) => allCfg Try.prog [] tabT8 2 [(385, annTx w y l r c q oe ep lo len xs)]) (fun _ _ => allCfg_ok mixed trivial tabT8_ok) (fun _ => rfl) (n := 80) Try.func57 ?_
  intro ⟨⟨_, ⟨r, c, q⟩, ⟨e, lo, len⟩, w, y⟩, ⟨⟨oe, ⟨l, oe2, ep⟩⟩, ⟨xs, n, e2⟩⟩⟩ hφ
  obtain ⟨⟨rfl, hg, rfl, h1, h2, h3, h4⟩, hp⟩ := id hφ
  refine kcast (B := (rq (e.beq e && Nat.blt (0 : Nat) n) ((II (0 : Int) ≤ (0 : Int) ∧ (0 : Int) ≤ (↑len : Int)) ∧ ((SV.p (0 : Nat) (0 : Nat) = SV.p (0 : Nat) (0 : Nat) ∧ SV.v (Value.int IntKind.i64 w) = SV.v (Value.int IntKind.i64 w) ∧ SV.p (3 : Nat) (0 : Nat) = SV.p (3 : Nat) (0 : Nat) ∧ SV.p (4 : Nat) (0 : Nat) = SV.p (4 : Nat) (0 : Nat) ∧ SV.p (5 : Nat) (0 : Nat) = SV.p (5 : Nat) (0 : Nat) ∧ SV.v (Value.int IntKind.i64 (0 : Int)) = SV.v (Value.int IntKind.i64 (0 : Int)) ∧ SV.h (2 : Nat) [e, (0 : Nat), lo, len, (0 : Nat)] = SV.h (2 : Nat) [e, (0 : Nat), lo, len, (0 : Nat)] ∧ SV.v (Value.int IntKind.i64 (↑len : Int)) = SV.v (Value.int IntKind.i64 (↑len : Int)) ∧ SV.v (Value.int IntKind.i64 (0 : Int)) = SV.v (Value.int IntKind.i64 (0 : Int)) ∧ True) ∧ (SV.h (1 : Nat) [oe, (0 : Nat)] = SV.h (1 : Nat) [oe, (0 : Nat)] ∧ True) ∧ (oe = oe ∧ ep = ep ∧ l = l) ∧ (n = n ∧ e = e ∧ xs = xs) ∧ (SV.v (Value.int IntKind.i64 r) = SV.v (Value.int IntKind.i64 r) ∧ SV.v (Value.int IntKind.i64 c) = SV.v (Value.int IntKind.i64 c) ∧ SV.v (Value.bool q) = SV.v (Value.bool q) ∧ True) ∧ (SV.v (Value.int IntKind.i32 y.g) = SV.v (Value.int IntKind.i32 y.g) ∧ SV.v (Value.int IntKind.i64 y.a) = SV.v (Value.int IntKind.i64 y.a) ∧ SV.v (Value.bool y.gd) = SV.v (Value.bool y.gd) ∧ SV.v (Value.int IntKind.i64 y.m) = SV.v (Value.int IntKind.i64 y.m) ∧ True) ∧ (SV.v (Value.int IntKind.i64 (0 : Int)) = SV.v (Value.int IntKind.i64 (0 : Int)) ∧ SV.v (Value.int IntKind.i64 (0 : Int)) = SV.v (Value.int IntKind.i64 (0 : Int)) ∧ SV.v (Value.bool false) = SV.v (Value.bool false) ∧ True) ∧ True) ∧ ∀ (x : Int), (0 : Int) ≤ x ∧ x ≤ (↑len : Int) → br (decide (x < (↑len : Int))) (rq (e.beq e && (Nat.beq (4 : Nat) (4 : Nat) && ((lo + len).ble n && decide ((0 : Int) ≤ x ∧ x < (↑len : Int))))) (rq (e.beq e && (lo + x.toNat).blt xs.length) (true = true ∧ (oe = oe ∧ GW (tx w y (tx0 l r c q ep) (List.take x.toNat (List.drop lo xs))).l) ∧ ((0 : Int) ≤ IntKind.i64.wrap (x + (1 : Int)) ∧ IntKind.i64.wrap (x + (1 : Int)) ≤ (↑len : Int)) ∧ ((SV.p (0 : Nat) (0 : Nat) = SV.p (0 : Nat) (0 : Nat) ∧ SV.v (Value.int IntKind.i64 w) = SV.v (Value.int IntKind.i64 w) ∧ SV.p (3 : Nat) (0 : Nat) = SV.p (3 : Nat) (0 : Nat) ∧ SV.p (4 : Nat) (0 : Nat) = SV.p (4 : Nat) (0 : Nat) ∧ SV.p (5 : Nat) (0 : Nat) = SV.p (5 : Nat) (0 : Nat) ∧ SV.v (Value.int IntKind.i64 (IntKind.i64.wrap ((tx w y (tx0 l r c q ep) (List.take x.toNat (List.drop lo xs))).n + puN (↑(tx w y (tx0 l r c q ep) (List.take x.toNat (List.drop lo xs))).l.length : Int) (↑(nC (tx w y (tx0 l r c q ep) (List.take x.toNat (List.drop lo xs))).l) : Int) (tx w y (tx0 l r c q ep) (List.take x.toNat (List.drop lo xs))).r (tx w y (tx0 l r c q ep) (List.take x.toNat (List.drop lo xs))).c (tx w y (tx0 l r c q ep) (List.take x.toNat (List.drop lo xs))).q w))) = SV.v (Value.int IntKind.i64 (tx w y (tx0 l r c q ep) (List.take (IntKind.i64.wrap (x + (1 : Int))).toNat (List.drop lo xs))).n) ∧ SV.h (2 : Nat) [e, (0 : Nat), lo, len, (0 : Nat)] = SV.h (2 : Nat) [e, (0 : Nat), lo, len, (0 : Nat)] ∧ SV.v (Value.int IntKind.i64 (↑len : Int)) = SV.v (Value.int IntKind.i64 (↑len : Int)) ∧ SV.v (Value.int IntKind.i64 (IntKind.i64.wrap (x + (1 : Int)))) = SV.v (Value.int IntKind.i64 (IntKind.i64.wrap (x + (1 : Int)))) ∧ True) ∧ (SV.h (1 : Nat) [oe, (0 : Nat)] = SV.h (1 : Nat) [oe, (0 : Nat)] ∧ True) ∧ (oe = oe ∧ riE (puU (tx w y (tx0 l r c q ep) (List.take x.toNat (List.drop lo xs))).l (tx w y (tx0 l r c q ep) (List.take x.toNat (List.drop lo xs))).r (tx w y (tx0 l r c q ep) (List.take x.toNat (List.drop lo xs))).c (tx w y (tx0 l r c q ep) (List.take x.toNat (List.drop lo xs))).q w) (riE (ahU (↑(tx w y (tx0 l r c q ep) (List.take x.toNat (List.drop lo xs))).l.length : Int) (tx w y (tx0 l r c q ep) (List.take x.toNat (List.drop lo xs))).r (tx w y (tx0 l r c q ep) (List.take x.toNat (List.drop lo xs))).q) (tx w y (tx0 l r c q ep) (List.take x.toNat (List.drop lo xs))).ep) = (tx w y (tx0 l r c q ep) (List.take (IntKind.i64.wrap (x + (1 : Int))).toNat (List.drop lo xs))).ep ∧ puL (tx w y (tx0 l r c q ep) (List.take x.toNat (List.drop lo xs))).l (tx w y (tx0 l r c q ep) (List.take x.toNat (List.drop lo xs))).r (tx w y (tx0 l r c q ep) (List.take x.toNat (List.drop lo xs))).c (tx w y (tx0 l r c q ep) (List.take x.toNat (List.drop lo xs))).q (C4.mk (xs.getD (lo + x.toNat) C4.no).g (xs.getD (lo + x.toNat) C4.no).a (xs.getD (lo + x.toNat) C4.no).gd (xs.getD (lo + x.toNat) C4.no).m) w (C4.mk y.g y.a y.gd y.m) = (tx w y (tx0 l r c q ep) (List.take (IntKind.i64.wrap (x + (1 : Int))).toNat (List.drop lo xs))).l) ∧ (n = n ∧ e = e ∧ xs = xs) ∧ (SV.v (Value.int IntKind.i64 (bhR (↑(tx w y (tx0 l r c q ep) (List.take x.toNat (List.drop lo xs))).l.length : Int) (↑(nC (tx w y (tx0 l r c q ep) (List.take x.toNat (List.drop lo xs))).l) : Int) (ahR (↑(tx w y (tx0 l r c q ep) (List.take x.toNat (List.drop lo xs))).l.length : Int) (tx w y (tx0 l r c q ep) (List.take x.toNat (List.drop lo xs))).r (tx w y (tx0 l r c q ep) (List.take x.toNat (List.drop lo xs))).q) (ahC (↑(nC (tx w y (tx0 l r c q ep) (List.take x.toNat (List.drop lo xs))).l) : Int) (tx w y (tx0 l r c q ep) (List.take x.toNat (List.drop lo xs))).c (tx w y (tx0 l r c q ep) (List.take x.toNat (List.drop lo xs))).q) w)) = SV.v (Value.int IntKind.i64 (tx w y (tx0 l r c q ep) (List.take (IntKind.i64.wrap (x + (1 : Int))).toNat (List.drop lo xs))).r) ∧ SV.v (Value.int IntKind.i64 (bhC (↑(tx w y (tx0 l r c q ep) (List.take x.toNat (List.drop lo xs))).l.length : Int) (↑(nC (tx w y (tx0 l r c q ep) (List.take x.toNat (List.drop lo xs))).l) : Int) (ahR (↑(tx w y (tx0 l r c q ep) (List.take x.toNat (List.drop lo xs))).l.length : Int) (tx w y (tx0 l r c q ep) (List.take x.toNat (List.drop lo xs))).r (tx w y (tx0 l r c q ep) (List.take x.toNat (List.drop lo xs))).q) (ahC (↑(nC (tx w y (tx0 l r c q ep) (List.take x.toNat (List.drop lo xs))).l) : Int) (tx w y (tx0 l r c q ep) (List.take x.toNat (List.drop lo xs))).c (tx w y (tx0 l r c q ep) (List.take x.toNat (List.drop lo xs))).q) w)) = SV.v (Value.int IntKind.i64 (tx w y (tx0 l r c q ep) (List.take (IntKind.i64.wrap (x + (1 : Int))).toNat (List.drop lo xs))).c) ∧ SV.v (Value.bool (bhP (↑(tx w y (tx0 l r c q ep) (List.take x.toNat (List.drop lo xs))).l.length : Int) (↑(nC (tx w y (tx0 l r c q ep) (List.take x.toNat (List.drop lo xs))).l) : Int) (ahR (↑(tx w y (tx0 l r c q ep) (List.take x.toNat (List.drop lo xs))).l.length : Int) (tx w y (tx0 l r c q ep) (List.take x.toNat (List.drop lo xs))).r (tx w y (tx0 l r c q ep) (List.take x.toNat (List.drop lo xs))).q) (ahC (↑(nC (tx w y (tx0 l r c q ep) (List.take x.toNat (List.drop lo xs))).l) : Int) (tx w y (tx0 l r c q ep) (List.take x.toNat (List.drop lo xs))).c (tx w y (tx0 l r c q ep) (List.take x.toNat (List.drop lo xs))).q) w)) = SV.v (Value.bool (tx w y (tx0 l r c q ep) (List.take (IntKind.i64.wrap (x + (1 : Int))).toNat (List.drop lo xs))).q) ∧ True) ∧ (SV.v (Value.int IntKind.i32 y.g) = SV.v (Value.int IntKind.i32 y.g) ∧ SV.v (Value.int IntKind.i64 y.a) = SV.v (Value.int IntKind.i64 y.a) ∧ SV.v (Value.bool y.gd) = SV.v (Value.bool y.gd) ∧ SV.v (Value.int IntKind.i64 y.m) = SV.v (Value.int IntKind.i64 y.m) ∧ True) ∧ (SV.v (Value.int IntKind.i64 (0 : Int)) = SV.v (Value.int IntKind.i64 (0 : Int)) ∧ SV.v (Value.int IntKind.i64 (0 : Int)) = SV.v (Value.int IntKind.i64 (0 : Int)) ∧ SV.v (Value.bool false) = SV.v (Value.bool false) ∧ True) ∧ True) ∧ ((↑len : Int) - IntKind.i64.wrap (x + (1 : Int))).toNat < ((↑len : Int) - x).toNat))) ((SV.t [SV.a [SV.v (Value.int IntKind.i64 (tx w y (tx0 l r c q ep) (List.take x.toNat (List.drop lo xs))).r), SV.v (Value.int IntKind.i64 (tx w y (tx0 l r c q ep) (List.take x.toNat (List.drop lo xs))).c), SV.v (Value.bool (tx w y (tx0 l r c q ep) (List.take x.toNat (List.drop lo xs))).q)], SV.v (Value.int IntKind.i64 (tx w y (tx0 l r c q ep) (List.take x.toNat (List.drop lo xs))).n), SV.v (Value.int IntKind.i64 (0 : Int))] = SV.t [SV.a [SV.v (Value.int IntKind.i64 (tx w y (tx0 l r c q ep) (List.take len (List.drop lo xs))).r), SV.v (Value.int IntKind.i64 (tx w y (tx0 l r c q ep) (List.take len (List.drop lo xs))).c), SV.v (Value.bool (tx w y (tx0 l r c q ep) (List.take len (List.drop lo xs))).q)], SV.v (Value.int IntKind.i64 (tx w y (tx0 l r c q ep) (List.take len (List.drop lo xs))).n), SV.v (Value.int IntKind.i64 (0 : Int))] ∧ True) ∧ (SV.h (1 : Nat) [oe, (0 : Nat)] = SV.h (1 : Nat) [oe, (0 : Nat)] ∧ True) ∧ (oe = oe ∧ (tx w y (tx0 l r c q ep) (List.take x.toNat (List.drop lo xs))).ep = (tx w y (tx0 l r c q ep) (List.take len (List.drop lo xs))).ep ∧ (tx w y (tx0 l r c q ep) (List.take x.toNat (List.drop lo xs))).l = (tx w y (tx0 l r c q ep) (List.take len (List.drop lo xs))).l) ∧ (n = n ∧ e = e ∧ xs = xs) ∧ True)))) (by kernel_rfl) ?_
  clear hp hφ
  have eta : ∀ y : C4, C4.mk y.g y.a y.gd y.m = y := fun _ => rfl
  simp only [eta, LC4, II, nbeq, rq_iff, br_iff, Bool.true_and, Bool.and_true, true_and, and_true, Bool.and_eq_true, Nat.ble_eq, Nat.blt_eq, decide_eq_true_eq, decide_eq_false_iff_not]
  refine ⟨h4, by omega, fun k ⟨k0, k1⟩ => ⟨fun k2 => ?_, fun k2 => ?_⟩⟩
  · rw [wrap64 (x := k + 1) (by omega) (by omega), show (k + 1).toNat = k.toNat + 1 by omega, part_succ (xs := xs) (lo := lo) (len := len) (k := k.toNat) (by omega) (by omega), tx_app]
    have hgw := tx_gw (w := w) (y := y) ((xs.drop lo).take k.toNat) (tx0 l r c q ep) hg
    have hn := tx_n (w := w) (y := y) ((xs.drop lo).take k.toNat) (tx0 l r c q ep)
    have hln : ((xs.drop lo).take k.toNat).length ≤ 60 := by simp only [List.length_take, List.length_drop]; omega
    have h00 : (tx0 l r c q ep).n = 0 := rfl
    generalize tx w y (tx0 l r c q ep) ((xs.drop lo).take k.toNat) = S at *
    have hp := puN_bd S.l.length (nC S.l) S.r S.c w S.q
    rw [wrap64 (x := S.n + puN S.l.length (nC S.l) S.r S.c S.q w) (by omega) (by omega)]
    refine ⟨⟨by omega, by omega, by omega⟩, by omega, hgw.1, by omega, ?_, by omega⟩
    repeat' (first | rfl | apply And.intro)
  · have hk : k.toNat = len := by omega
    rw [hk]
    repeat' (first | rfl | apply And.intro)
set_option maxHeartbeats 4000000 in
theorem ok_textW : ∀ I : Sym.Inv Unit, LCOk I Try.prog 57 lcTextW := by
  refine lc_mk (fun ((_, (r, c, q), e, w, y), ((oe, ⟨l, oe2, ep⟩), ⟨xs, n, e2⟩)) => allCfg Try.prog [] tabT8 2 [(385, annTx w y l r c q oe ep 0 n xs)]) (fun _ _ => allCfg_ok mixed trivial tabT8_ok) (fun _ => rfl) (n := 80) Try.func57 ?_
  intro ⟨⟨_, ⟨r, c, q⟩, e, w, y⟩, ⟨⟨oe, ⟨l, oe2, ep⟩⟩, ⟨xs, n, e2⟩⟩⟩ hφ
  obtain ⟨⟨rfl, hg, rfl, h1, h2⟩, hp⟩ := id hφ
  refine kcast (B := (rq (e.beq e) ((II (0 : Int) ≤ (0 : Int) ∧ (0 : Int) ≤ (↑n : Int)) ∧ ((SV.p (0 : Nat) (0 : Nat) = SV.p (0 : Nat) (0 : Nat) ∧ SV.v (Value.int IntKind.i64 w) = SV.v (Value.int IntKind.i64 w) ∧ SV.p (3 : Nat) (0 : Nat) = SV.p (3 : Nat) (0 : Nat) ∧ SV.p (4 : Nat) (0 : Nat) = SV.p (4 : Nat) (0 : Nat) ∧ SV.p (5 : Nat) (0 : Nat) = SV.p (5 : Nat) (0 : Nat) ∧ SV.v (Value.int IntKind.i64 (0 : Int)) = SV.v (Value.int IntKind.i64 (0 : Int)) ∧ SV.h (2 : Nat) [e, (0 : Nat)] = SV.h (2 : Nat) [e, (0 : Nat)] ∧ SV.v (Value.int IntKind.i64 (↑n : Int)) = SV.v (Value.int IntKind.i64 (↑n : Int)) ∧ SV.v (Value.int IntKind.i64 (0 : Int)) = SV.v (Value.int IntKind.i64 (0 : Int)) ∧ True) ∧ (SV.h (1 : Nat) [oe, (0 : Nat)] = SV.h (1 : Nat) [oe, (0 : Nat)] ∧ True) ∧ (oe = oe ∧ ep = ep ∧ l = l) ∧ (n = n ∧ e = e ∧ xs = xs) ∧ (SV.v (Value.int IntKind.i64 r) = SV.v (Value.int IntKind.i64 r) ∧ SV.v (Value.int IntKind.i64 c) = SV.v (Value.int IntKind.i64 c) ∧ SV.v (Value.bool q) = SV.v (Value.bool q) ∧ True) ∧ (SV.v (Value.int IntKind.i32 y.g) = SV.v (Value.int IntKind.i32 y.g) ∧ SV.v (Value.int IntKind.i64 y.a) = SV.v (Value.int IntKind.i64 y.a) ∧ SV.v (Value.bool y.gd) = SV.v (Value.bool y.gd) ∧ SV.v (Value.int IntKind.i64 y.m) = SV.v (Value.int IntKind.i64 y.m) ∧ True) ∧ (SV.v (Value.int IntKind.i64 (0 : Int)) = SV.v (Value.int IntKind.i64 (0 : Int)) ∧ SV.v (Value.int IntKind.i64 (0 : Int)) = SV.v (Value.int IntKind.i64 (0 : Int)) ∧ SV.v (Value.bool false) = SV.v (Value.bool false) ∧ True) ∧ True) ∧ ∀ (x : Int), (0 : Int) ≤ x ∧ x ≤ (↑n : Int) → br (decide (x < (↑n : Int))) (rq (e.beq e && (Nat.beq (4 : Nat) (4 : Nat) && decide ((0 : Int) ≤ x ∧ x < (↑n : Int)))) (rq (e.beq e && x.toNat.blt xs.length) (true = true ∧ (oe = oe ∧ GW (tx w y (tx0 l r c q ep) (List.take x.toNat (List.drop (0 : Nat) xs))).l) ∧ ((0 : Int) ≤ IntKind.i64.wrap (x + (1 : Int)) ∧ IntKind.i64.wrap (x + (1 : Int)) ≤ (↑n : Int)) ∧ ((SV.p (0 : Nat) (0 : Nat) = SV.p (0 : Nat) (0 : Nat) ∧ SV.v (Value.int IntKind.i64 w) = SV.v (Value.int IntKind.i64 w) ∧ SV.p (3 : Nat) (0 : Nat) = SV.p (3 : Nat) (0 : Nat) ∧ SV.p (4 : Nat) (0 : Nat) = SV.p (4 : Nat) (0 : Nat) ∧ SV.p (5 : Nat) (0 : Nat) = SV.p (5 : Nat) (0 : Nat) ∧ SV.v (Value.int IntKind.i64 (IntKind.i64.wrap ((tx w y (tx0 l r c q ep) (List.take x.toNat (List.drop (0 : Nat) xs))).n + puN (↑(tx w y (tx0 l r c q ep) (List.take x.toNat (List.drop (0 : Nat) xs))).l.length : Int) (↑(nC (tx w y (tx0 l r c q ep) (List.take x.toNat (List.drop (0 : Nat) xs))).l) : Int) (tx w y (tx0 l r c q ep) (List.take x.toNat (List.drop (0 : Nat) xs))).r (tx w y (tx0 l r c q ep) (List.take x.toNat (List.drop (0 : Nat) xs))).c (tx w y (tx0 l r c q ep) (List.take x.toNat (List.drop (0 : Nat) xs))).q w))) = SV.v (Value.int IntKind.i64 (tx w y (tx0 l r c q ep) (List.take (IntKind.i64.wrap (x + (1 : Int))).toNat (List.drop (0 : Nat) xs))).n) ∧ SV.h (2 : Nat) [e, (0 : Nat)] = SV.h (2 : Nat) [e, (0 : Nat)] ∧ SV.v (Value.int IntKind.i64 (↑n : Int)) = SV.v (Value.int IntKind.i64 (↑n : Int)) ∧ SV.v (Value.int IntKind.i64 (IntKind.i64.wrap (x + (1 : Int)))) = SV.v (Value.int IntKind.i64 (IntKind.i64.wrap (x + (1 : Int)))) ∧ True) ∧ (SV.h (1 : Nat) [oe, (0 : Nat)] = SV.h (1 : Nat) [oe, (0 : Nat)] ∧ True) ∧ (oe = oe ∧ riE (puU (tx w y (tx0 l r c q ep) (List.take x.toNat (List.drop (0 : Nat) xs))).l (tx w y (tx0 l r c q ep) (List.take x.toNat (List.drop (0 : Nat) xs))).r (tx w y (tx0 l r c q ep) (List.take x.toNat (List.drop (0 : Nat) xs))).c (tx w y (tx0 l r c q ep) (List.take x.toNat (List.drop (0 : Nat) xs))).q w) (riE (ahU (↑(tx w y (tx0 l r c q ep) (List.take x.toNat (List.drop (0 : Nat) xs))).l.length : Int) (tx w y (tx0 l r c q ep) (List.take x.toNat (List.drop (0 : Nat) xs))).r (tx w y (tx0 l r c q ep) (List.take x.toNat (List.drop (0 : Nat) xs))).q) (tx w y (tx0 l r c q ep) (List.take x.toNat (List.drop (0 : Nat) xs))).ep) = (tx w y (tx0 l r c q ep) (List.take (IntKind.i64.wrap (x + (1 : Int))).toNat (List.drop (0 : Nat) xs))).ep ∧ puL (tx w y (tx0 l r c q ep) (List.take x.toNat (List.drop (0 : Nat) xs))).l (tx w y (tx0 l r c q ep) (List.take x.toNat (List.drop (0 : Nat) xs))).r (tx w y (tx0 l r c q ep) (List.take x.toNat (List.drop (0 : Nat) xs))).c (tx w y (tx0 l r c q ep) (List.take x.toNat (List.drop (0 : Nat) xs))).q (C4.mk (xs.getD x.toNat C4.no).g (xs.getD x.toNat C4.no).a (xs.getD x.toNat C4.no).gd (xs.getD x.toNat C4.no).m) w (C4.mk y.g y.a y.gd y.m) = (tx w y (tx0 l r c q ep) (List.take (IntKind.i64.wrap (x + (1 : Int))).toNat (List.drop (0 : Nat) xs))).l) ∧ (n = n ∧ e = e ∧ xs = xs) ∧ (SV.v (Value.int IntKind.i64 (bhR (↑(tx w y (tx0 l r c q ep) (List.take x.toNat (List.drop (0 : Nat) xs))).l.length : Int) (↑(nC (tx w y (tx0 l r c q ep) (List.take x.toNat (List.drop (0 : Nat) xs))).l) : Int) (ahR (↑(tx w y (tx0 l r c q ep) (List.take x.toNat (List.drop (0 : Nat) xs))).l.length : Int) (tx w y (tx0 l r c q ep) (List.take x.toNat (List.drop (0 : Nat) xs))).r (tx w y (tx0 l r c q ep) (List.take x.toNat (List.drop (0 : Nat) xs))).q) (ahC (↑(nC (tx w y (tx0 l r c q ep) (List.take x.toNat (List.drop (0 : Nat) xs))).l) : Int) (tx w y (tx0 l r c q ep) (List.take x.toNat (List.drop (0 : Nat) xs))).c (tx w y (tx0 l r c q ep) (List.take x.toNat (List.drop (0 : Nat) xs))).q) w)) = SV.v (Value.int IntKind.i64 (tx w y (tx0 l r c q ep) (List.take (IntKind.i64.wrap (x + (1 : Int))).toNat (List.drop (0 : Nat) xs))).r) ∧ SV.v (Value.int IntKind.i64 (bhC (↑(tx w y (tx0 l r c q ep) (List.take x.toNat (List.drop (0 : Nat) xs))).l.length : Int) (↑(nC (tx w y (tx0 l r c q ep) (List.take x.toNat (List.drop (0 : Nat) xs))).l) : Int) (ahR (↑(tx w y (tx0 l r c q ep) (List.take x.toNat (List.drop (0 : Nat) xs))).l.length : Int) (tx w y (tx0 l r c q ep) (List.take x.toNat (List.drop (0 : Nat) xs))).r (tx w y (tx0 l r c q ep) (List.take x.toNat (List.drop (0 : Nat) xs))).q) (ahC (↑(nC (tx w y (tx0 l r c q ep) (List.take x.toNat (List.drop (0 : Nat) xs))).l) : Int) (tx w y (tx0 l r c q ep) (List.take x.toNat (List.drop (0 : Nat) xs))).c (tx w y (tx0 l r c q ep) (List.take x.toNat (List.drop (0 : Nat) xs))).q) w)) = SV.v (Value.int IntKind.i64 (tx w y (tx0 l r c q ep) (List.take (IntKind.i64.wrap (x + (1 : Int))).toNat (List.drop (0 : Nat) xs))).c) ∧ SV.v (Value.bool (bhP (↑(tx w y (tx0 l r c q ep) (List.take x.toNat (List.drop (0 : Nat) xs))).l.length : Int) (↑(nC (tx w y (tx0 l r c q ep) (List.take x.toNat (List.drop (0 : Nat) xs))).l) : Int) (ahR (↑(tx w y (tx0 l r c q ep) (List.take x.toNat (List.drop (0 : Nat) xs))).l.length : Int) (tx w y (tx0 l r c q ep) (List.take x.toNat (List.drop (0 : Nat) xs))).r (tx w y (tx0 l r c q ep) (List.take x.toNat (List.drop (0 : Nat) xs))).q) (ahC (↑(nC (tx w y (tx0 l r c q ep) (List.take x.toNat (List.drop (0 : Nat) xs))).l) : Int) (tx w y (tx0 l r c q ep) (List.take x.toNat (List.drop (0 : Nat) xs))).c (tx w y (tx0 l r c q ep) (List.take x.toNat (List.drop (0 : Nat) xs))).q) w)) = SV.v (Value.bool (tx w y (tx0 l r c q ep) (List.take (IntKind.i64.wrap (x + (1 : Int))).toNat (List.drop (0 : Nat) xs))).q) ∧ True) ∧ (SV.v (Value.int IntKind.i32 y.g) = SV.v (Value.int IntKind.i32 y.g) ∧ SV.v (Value.int IntKind.i64 y.a) = SV.v (Value.int IntKind.i64 y.a) ∧ SV.v (Value.bool y.gd) = SV.v (Value.bool y.gd) ∧ SV.v (Value.int IntKind.i64 y.m) = SV.v (Value.int IntKind.i64 y.m) ∧ True) ∧ (SV.v (Value.int IntKind.i64 (0 : Int)) = SV.v (Value.int IntKind.i64 (0 : Int)) ∧ SV.v (Value.int IntKind.i64 (0 : Int)) = SV.v (Value.int IntKind.i64 (0 : Int)) ∧ SV.v (Value.bool false) = SV.v (Value.bool false) ∧ True) ∧ True) ∧ ((↑n : Int) - IntKind.i64.wrap (x + (1 : Int))).toNat < ((↑n : Int) - x).toNat))) ((SV.t [SV.a [SV.v (Value.int IntKind.i64 (tx w y (tx0 l r c q ep) (List.take x.toNat (List.drop (0 : Nat) xs))).r), SV.v (Value.int IntKind.i64 (tx w y (tx0 l r c q ep) (List.take x.toNat (List.drop (0 : Nat) xs))).c), SV.v (Value.bool (tx w y (tx0 l r c q ep) (List.take x.toNat (List.drop (0 : Nat) xs))).q)], SV.v (Value.int IntKind.i64 (tx w y (tx0 l r c q ep) (List.take x.toNat (List.drop (0 : Nat) xs))).n), SV.v (Value.int IntKind.i64 (0 : Int))] = SV.t [SV.a [SV.v (Value.int IntKind.i64 (tx w y (tx0 l r c q ep) (List.take n (List.drop (0 : Nat) xs))).r), SV.v (Value.int IntKind.i64 (tx w y (tx0 l r c q ep) (List.take n (List.drop (0 : Nat) xs))).c), SV.v (Value.bool (tx w y (tx0 l r c q ep) (List.take n (List.drop (0 : Nat) xs))).q)], SV.v (Value.int IntKind.i64 (tx w y (tx0 l r c q ep) (List.take n (List.drop (0 : Nat) xs))).n), SV.v (Value.int IntKind.i64 (0 : Int))] ∧ True) ∧ (SV.h (1 : Nat) [oe, (0 : Nat)] = SV.h (1 : Nat) [oe, (0 : Nat)] ∧ True) ∧ (oe = oe ∧ (tx w y (tx0 l r c q ep) (List.take x.toNat (List.drop (0 : Nat) xs))).ep = (tx w y (tx0 l r c q ep) (List.take n (List.drop (0 : Nat) xs))).ep ∧ (tx w y (tx0 l r c q ep) (List.take x.toNat (List.drop (0 : Nat) xs))).l = (tx w y (tx0 l r c q ep) (List.take n (List.drop (0 : Nat) xs))).l) ∧ (n = n ∧ e = e ∧ xs = xs) ∧ True)))) (by kernel_rfl) ?_
  clear hp hφ
  have eta : ∀ y : C4, C4.mk y.g y.a y.gd y.m = y := fun _ => rfl
  simp only [eta, LC4, II, nbeq, rq_iff, br_iff, Bool.true_and, Bool.and_true, true_and, and_true, Bool.and_eq_true, Nat.ble_eq, Nat.blt_eq, decide_eq_true_eq, decide_eq_false_iff_not]
  refine ⟨by omega, fun k ⟨k0, k1⟩ => ⟨fun k2 => ?_, fun k2 => ?_⟩⟩
  · rw [wrap64 (x := k + 1) (by omega) (by omega), show (k + 1).toNat = k.toNat + 1 by omega, part_succ (xs := xs) (lo := 0) (len := n) (k := k.toNat) (by omega) (by omega), Nat.zero_add, tx_app]
    have hgw := tx_gw (w := w) (y := y) ((xs.drop 0).take k.toNat) (tx0 l r c q ep) hg
    have hn := tx_n (w := w) (y := y) ((xs.drop 0).take k.toNat) (tx0 l r c q ep)
    have hln : ((xs.drop 0).take k.toNat).length ≤ 60 := by simp only [List.length_take, List.length_drop]; omega
    have h00 : (tx0 l r c q ep).n = 0 := rfl
    generalize tx w y (tx0 l r c q ep) ((xs.drop 0).take k.toNat) = S at *
    have hp := puN_bd S.l.length (nC S.l) S.r S.c w S.q
    rw [wrap64 (x := S.n + puN S.l.length (nC S.l) S.r S.c S.q w) (by omega) (by omega)]
    refine ⟨⟨by omega, by omega⟩, by omega, hgw.1, by omega, ?_, by omega⟩
    repeat' (first | rfl | apply And.intro)
  · have hk : k.toNat = n := by omega
    rw [hk]
    repeat' (first | rfl | apply And.intro)
end Go.Proofs.Ytdhhagangmkloaa
namespace Go.Sym
open Go
def shSlZ : Sh (Option Addr × Nat) where
  enc a := .v (.slice a.1 0 a.2)
  dec x := match x with
    | .v v => match v with
      | .slice a n cap => match n with
        | 0 => some (a, cap)
        | _ + 1 => none
      | _ => none
    | _ => none
  ok x a h := by
    split at h
    · split at h
      · split at h
        · cases h; rfl
        · cases h
      · cases h
    · cases h
end Go.Sym
namespace Go.Proofs.Ytdhhagangmkloaa
open Go Go.Sym
def lcTextE : ACon Unit := mkLC (decP (shCons (shP 0) (shCons shPl (shCons shSlZ (shCons shI (shOne shC))))) shGO) fun ((_, (r, c, q), _, w, y), ((oe, ⟨l, oe2, ep⟩), ⟨xs, n, e2⟩)) => .ask (oe = oe2) (.one (.t [pl3 r c q, .v (.int .i64 0), .v (.int .i64 0)]) (gbi 0 oe ep l ++ [.own (.recs xs) n 38 4 e2 false]) [1])
set_option maxHeartbeats 4000000 in
theorem ok_textE : ∀ I : Sym.Inv Unit, LCOk I Try.prog 57 lcTextE := by
  refine lc_mk (fun _ => allCfg Try.prog [] tabT8 2) (fun _ _ => allCfg_ok mixed trivial tabT8_ok) (fun _ => rfl) (n := 80) Try.func57 ?_
  intro ⟨⟨_, ⟨r, c, q⟩, ⟨a0, cap0⟩, w, y⟩, ⟨⟨oe, ⟨l, oe2, ep⟩⟩, ⟨xs, n, e2⟩⟩⟩ hφ
  obtain ⟨rfl, hp⟩ := id hφ
  refine kcast (B := ((SV.t [SV.a [SV.v (Value.int IntKind.i64 r), SV.v (Value.int IntKind.i64 c), SV.v (Value.bool q)], SV.v (Value.int IntKind.i64 (0 : Int)), SV.v (Value.int IntKind.i64 (0 : Int))] = SV.t [SV.a [SV.v (Value.int IntKind.i64 r), SV.v (Value.int IntKind.i64 c), SV.v (Value.bool q)], SV.v (Value.int IntKind.i64 (0 : Int)), SV.v (Value.int IntKind.i64 (0 : Int))] ∧ True) ∧ (SV.h (1 : Nat) [oe, (0 : Nat)] = SV.h (1 : Nat) [oe, (0 : Nat)] ∧ True) ∧ (oe = oe ∧ ep = ep ∧ l = l) ∧ (n = n ∧ e2 = e2 ∧ xs = xs) ∧ True)) (by kernel_rfl) ?_
  simp
def lcTextV : ACon Unit := mkLC (decP (shCons (shP 0) (shCons shPl (shCons (shOut 2) (shCons shI (shOne shC))))) shGO) fun ((_, (r, c, q), (e, lo, len), w, y), ((oe, ⟨l, oe2, ep⟩), ⟨xs, n, e2⟩)) => .ask (oe = oe2 ∧ GW l ∧ e = e2 ∧ xs.length = n ∧ n ≤ 60 ∧ lo + len ≤ n)
  (.one (.t [pl3 (tx w y (tx0 l r c q ep) ((xs.drop lo).take len)).r (tx w y (tx0 l r c q ep) ((xs.drop lo).take len)).c (tx w y (tx0 l r c q ep) ((xs.drop lo).take len)).q, .v (.int .i64 (tx w y (tx0 l r c q ep) ((xs.drop lo).take len)).n), .v (.int .i64 0)])
    (gbi 0 oe (tx w y (tx0 l r c q ep) ((xs.drop lo).take len)).ep (tx w y (tx0 l r c q ep) ((xs.drop lo).take len)).l ++ [.own (.recs xs) n 38 4 e false]) [1])
theorem ok_textV : ∀ I : Sym.Inv Unit, LCOk I Try.prog 57 lcTextV := by
  intro I args H e Fr w vs hpre hd hM
  unfold lcTextV mkLC at hpre ⊢
  split at hpre
  · rename_i a ha
    obtain ⟨⟨p0, ⟨r, c, q⟩, ⟨e1, lo, len⟩, ww, y⟩, ⟨⟨oe, ⟨l, oe2, ep⟩⟩, ⟨xs, n, e2⟩⟩⟩ := a
    obtain ⟨⟨h1, h2, h3, h4, h5, h6⟩, _⟩ := id hpre
    by_cases hn : 0 < n
    · have h := ok_textS I args H e Fr w vs (by unfold lcTextS mkLC; rw [ha]; exact ⟨⟨h1, h2, h3, h4, h5, h6, hn⟩, trivial⟩) hd hM
      unfold lcTextS mkLC at h
      rw [ha] at h
      exact h
    · obtain ⟨rfl, rfl⟩ := decP_ok _ _ _ ha
      obtain rfl : n = 0 := by omega
      obtain rfl : lo = 0 := by omega
      obtain rfl : len = 0 := by omega
      subst h1 h3
      obtain ⟨v0, q0, rfl, d0, v1, q1, rfl, d1, v2, q2, rfl, d2, d3⟩ := hd
      have d2' : Den e (.h 2 [e1, 0, 0, 0, 0]) v2 := d2
      obtain ⟨f, g, hf, hg, hv, _⟩ := den_h (sel := none) (ep := e1) (r := [0, 0, 0]) d2'
      obtain ⟨f', g', u, k1, k2, k3, k4⟩ := baseN_ok hM (b := 2) (ep := e1) (sel := none) (c := true) (n := 0) (sz := 4) (by
        show some (Nat.beq e1 e1, 0, 4) = _
        rw [show Nat.beq e1 e1 = true by rw [Nat.beq_eq]]) rfl
      rw [hf] at k1; cases k1
      rw [hg] at k2; cases k2
      rw [k3] at hv
      have hz : ∃ a cap, v2 = .slice a 0 cap := by
        rcases k4 with ⟨rfl, _⟩ | ⟨g0, cap, rfl, _⟩
        · exact ⟨_, _, hv⟩
        · exact ⟨_, _, hv⟩
      obtain ⟨a2, cap2, rfl⟩ := hz
      have h := ok_textE I ((shCons (shP 0) (shCons shPl (shCons shSlZ (shCons shI (shOne shC))))).enc (p0, (r, c, q), (a2, cap2), ww, y)) _ e Fr w _ (by exact ⟨rfl, trivial⟩) ⟨v0, _, rfl, d0, v1, _, rfl, d1, _, q2, rfl, rfl, d3⟩ hM
      exact h
  · exact hpre.elim
end Go.Proofs.Ytdhhagangmkloaa
