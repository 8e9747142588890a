/- What is wanted of the texts HaA, HaB, HaC, in one. -/
import Derived.Test.YtcbjgpkbfmmdpaaGreatDoorChecked
import Derived.Test.YtcbjgpkbfmmdpaaGreatDoorHpPw
set_option linter.unusedSimpArgs false
set_option linter.unusedVariables false
set_option linter.unusedSectionVars false
namespace Go.Sym
open Go
structure RC where
  l : List (List C4)
  oe : Nat
  ep : Nat
def shRowsC (T TS : TypeId) : ShB RC where
  enc a := .rows (.c a.l) T TS a.oe a.ep none
  dec x := match x with
    | .rows R T' TS' oe ep pd => match R with
      | .c l => match pd with
        | none => match Nat.beq T' T && Nat.beq TS' TS with
          | true => some ⟨l, oe, ep⟩
          | false => none
        | some _ => none
      | _ => none
    | _ => none
  ok x a h := by
    split at h
    · split at h
      · split at h
        · split at h
          · rename_i hc
            simp only [Bool.and_eq_true, Nat.beq_eq] at hc
            obtain ⟨rfl, rfl⟩ := hc
            simp only [Option.some.injEq] at h
            subst h
            rfl
          · cases h
        · cases h
      · cases h
    · cases h
def shCL : ShL C4 where
  enc := recS
  dec x := match (shCons (shInt .i32) (shCons shI (shCons shB (shOne shI)))).dec x with
    | some (g, a, d, m) => some ⟨g, a, d, m⟩
    | none => none
  ok x a h := by
    split at h
    · rename_i h1
      simp only [Option.some.injEq] at h
      subst h
      exact (shCons (shInt .i32) (shCons shI (shCons shB (shOne shI)))).ok _ _ h1
    · cases h
abbrev shC : Sh C4 := shA shCL
abbrev cv (c : C4) : SV := .a (recS c)
def shNilP : Sh Unit where
  enc _ := .v (.pointer none)
  dec x := match x with
    | .v (.pointer none) => some ()
    | _ => none
  ok x a h := by
    split at h
    · rfl
    · cases h
def shBlk (b len : Nat) : Sh Unit where
  enc _ := .s b 0 len len
  dec x := match x with
    | .s b' o l c => match Nat.beq b' b && (Nat.beq o 0 && (Nat.beq l len && Nat.beq c len)) with
      | true => some ()
      | false => none
    | _ => none
  ok x a h := by
    split at h
    · split at h
      · rename_i hT
        simp only [Bool.and_eq_true, Nat.beq_eq] at hT
        obtain ⟨rfl, rfl, rfl, rfl⟩ := hT
        rfl
      · cases h
    · cases h
abbrev shI2 : Sh (Int × Int) := shA (shCons shI (shOne shI))
end Go.Sym
namespace Go.Proofs.YtcbjgpkbfmmdpaaGreatDoor
open Go Go.Sym
abbrev vI (x : Int) : SV := .v (.int .i64 x)
abbrev vB (b : Bool) : SV := .v (.bool b)
abbrev vS (s : ByteArray) : SV := .v (.string s)
theorem mixed : Tryz.prog.follows .mixedOrders = true := by kernel_rfl
theorem rq_iff {b : Bool} {A : Prop} : rq b A ↔ (b = true ∧ A) := by cases b <;> simp [rq]
theorem br_iff {b : Bool} {A B : Prop} : br b A B ↔ ((b = true → A) ∧ (b = false → B)) := by cases b <;> simp [br]
theorem nbeq (n : Nat) : Nat.beq n n = true := by rw [Nat.beq_eq]
abbrev GB := Nat × RC
def shGi (j : Nat) : ShH GB := shHCons (shCells (shOne (shO (j + 1))) 110) (shHOne (shRowsC 45 105))
def shG : ShH GB := shGi 0
def gbi (j oe ep : Nat) (l : List (List C4)) : List (SB Unit) := (shGi j).enc (oe, ⟨l, oe, ep⟩)
def nC (l : List (List C4)) : Nat := (l.getD 0 []).length
structure GW (l : List (List C4)) : Prop where
  r0 : 1 ≤ l.length
  r1 : l.length ≤ 255
  c0 : 1 ≤ nC l
  c1 : nC l ≤ 255
  all : ∀ r ∈ l, r.length = nC l
theorem GW.row {l : List (List C4)} (h : GW l) {i : Nat} (hi : i < l.length) : (l.getD i []).length = nC l := by
  rw [List.getD, List.getElem?_eq_getElem hi]
  exact h.all _ (List.getElem_mem hi)
def mayB (a b : Int) : Bool := decide (1 ≤ a) && (decide (a ≤ 255) && (decide (1 ≤ b) && decide (b ≤ 255)))
theorem mayB_iff {a b : Int} : mayB a b = true ↔ 1 ≤ a ∧ a ≤ 255 ∧ 1 ≤ b ∧ b ≤ 255 := by simp [mayB]
def lcMay : ACon Unit := mkLC (decP (shOne shI2) shHNil) fun ((a, b), _) => .br (mayB a b) (.one (.v (.int .i64 0)) [] []) (.one (.v (.int .i64 10)) [] [])
set_option maxHeartbeats 4000000 in
theorem ok_may : ∀ I : Sym.Inv Unit, LCOk I Tryz.prog 59 lcMay := by
  refine lc_mk (fun _ => allCfg Tryz.prog [] [] 0) (fun _ _ => allCfg_ok mixed trivial trivial) (fun _ => rfl) (n := 60) Tryz.func59 ?_
  intro ⟨⟨a, b⟩, _⟩ hφ
  refine kcast (B := (br (decide (a < (1 : Int))) (br (mayB a b) ((vI (10 : Int) = vI (0 : Int) ∧ True) ∧ True) ((vI (10 : Int) = vI (10 : Int) ∧ True) ∧ True)) (br (decide (a > (255 : Int))) (br (mayB a b) ((vI (10 : Int) = vI (0 : Int) ∧ True) ∧ True) ((vI (10 : Int) =
 vI (10 : Int) ∧ True) ∧ True)) (br (decide (b < (1 : Int))) (br (mayB a b) ((vI (10 : Int) = vI (0 : Int) ∧ True) ∧ True) ((vI (10 : Int) = vI (10 : Int) ∧ True) ∧ True)) (br (decide (b > (255 : Int))) (br (mayB a b) ((vI (10 : Int) = vI (0 : Int) ∧
 True) ∧ True) ((vI (10 : Int) = vI (10 : Int) ∧ True) ∧ True)) (br (mayB a b) ((vI (0 : Int) = vI (0 : Int) ∧ True) ∧ True) ((vI (0 : Int) = vI (10 : Int) ∧ True) ∧ True))))))) (by kernel_rfl) ?_
  simp only [rq_iff, br_iff, Bool.and_eq_true, Bool.and_eq_false_iff, decide_eq_true_eq, decide_eq_false_iff_not, mayB_iff, Bool.or_eq_true, Bool.or_eq_false_iff]
  cases h : mayB a b
  · simp [br_iff]
    simp [mayB] at h
    omega
  · rw [mayB_iff] at h
    simp [br_iff]
    omega
def lcSize1 : ACon Unit := mkLC (decP (shOne (shP 0)) shG) fun (_, (oe, ⟨l, oe2, ep⟩)) => .ask (oe = oe2 ∧ GW l) (.one (.a [.v (.int .i64 l.length), .v (.int .i64 (nC l))]) (gbi 0 oe ep l) [])
def lcSize0 : ACon Unit := mkLC (decP (shOne shNilP) shHNil) fun _ => .one (.a [.v (.int .i64 0), .v (.int .i64 0)]) [] []
set_option maxHeartbeats 4000000 in
theorem ok_size1 : ∀ I : Sym.Inv Unit, LCOk I Tryz.prog 62 lcSize1 := by
  refine lc_mk (fun _ => allCfg Tryz.prog [] [] 0) (fun _ _ => allCfg_ok mixed trivial trivial) (fun _ => rfl) (n := 60) Tryz.func62 ?_
  intro ⟨_, oe, ⟨l, oe2, ep⟩⟩ hφ
  obtain ⟨⟨rfl, hg⟩, _⟩ := id hφ
  refine kcast (B := (rq (oe.beq oe) (rq (oe.beq oe && (true && decide ((0 : Int) ≤ (0 : Int) ∧ (0 : Int) < (↑(Rws.c l).len : Int)))) (rq (oe.beq oe && Nat.blt (0 : Nat) (Rws.c l).len) (rq (ep.beq ep && Nat.blt (0 : Nat) (Rws.c l).len) ((SV.a [vI (↑(Rws.c l).len : Int),
 vI (↑((Rws.c l).nAt (0 : Nat)) : Int)] = SV.a [vI (↑l.length : Int), vI (↑(nC l) : Int)] ∧ True) ∧ (SV.h 1 [oe, 0] = SV.h 1 [oe, 0] ∧ True) ∧ (oe = oe ∧ ep = ep ∧ l = l) ∧ True)))))) (by kernel_rfl) ?_
  have := hg.r0
  have hb : Nat.blt 0 (Rws.c l).len = true := by rw [Nat.blt_eq]; exact this
  have hl : (0 : Int) < ((Rws.c l).len : Nat) := by show (0 : Int) < (l.length : Nat); omega
  simp only [rq_iff, nbeq, hb, Bool.and_true, Bool.true_and, true_and, and_true, decide_eq_true_eq]
  exact ⟨⟨by omega, hl⟩, rfl⟩
set_option maxHeartbeats 4000000 in
theorem ok_size0 : ∀ I : Sym.Inv Unit, LCOk I Tryz.prog 62 lcSize0 := by
  refine lc_mk (fun _ => allCfg Tryz.prog [] [] 0) (fun _ _ => allCfg_ok mixed trivial trivial) (fun _ => rfl) (n := 60) Tryz.func62 ?_
  intro ⟨_, _⟩ hφ
  refine kcast (B := ((SV.a [vI (0 : Int), vI (0 : Int)] = SV.a [vI (0 : Int), vI (0 : Int)] ∧ True) ∧ True)) (by kernel_rfl) ?_
  exact ⟨⟨rfl, trivial⟩, trivial⟩
def lcSize : ACon Unit := lcOr lcSize1 lcSize0
theorem ok_size : ∀ I : Sym.Inv Unit, LCOk I Tryz.prog 62 lcSize := lcOr_ok ok_size1 ok_size0
def lcMul : ACon Unit := mkLC (decP (shCons (shInt .u64) (shOne (shInt .u64))) shHNil) fun ((a, c), _) => .ask (a = 1 ∧ 0 ≤ c ∧ c ≤ 255) (.one (.t [.v (.int .u64 0), .v (.int .u64 c)]) [] [])
set_option maxHeartbeats 4000000 in
set_option maxRecDepth 100000 in
theorem ok_mul : ∀ I : Sym.Inv Unit, LCOk I Tryz.prog 91 lcMul := by
  refine lc_mk (fun _ => allCfg Tryz.prog [] [] 0) (fun _ _ => allCfg_ok mixed trivial trivial) (fun _ => rfl) (n := 80) Tryz.func91 ?_
  intro ⟨⟨a, c⟩, _⟩ hφ
  obtain ⟨⟨h0, h1, h2⟩, hp⟩ := id hφ
  refine kcast (B := ((SV.t [SV.v (Value.int IntKind.u64 (IntKind.u64.wrap (IntKind.u64.wrap (IntKind.u64.wrap (a.fdiv (4294967296 : Int) * c.fdiv (4294967296 : Int)) + (IntKind.u64.wrap (IntKind.u64.wrap (a.fdiv (4294967296 : Int) * bitsK BinOp.and IntKind.u64 c
 (4294967295 : Int)) + (IntKind.u64.wrap (bitsK BinOp.and IntKind.u64 a (4294967295 : Int) * bitsK BinOp.and IntKind.u64 c (4294967295 : Int))).fdiv (4294967296 : Int))).fdiv (4294967296 : Int)) + (IntKind.u64.wrap (bitsK BinOp.and IntKind.u64
 (IntKind.u64.wrap (IntKind.u64.wrap (a.fdiv (4294967296 : Int) * bitsK BinOp.and IntKind.u64 c (4294967295 : Int)) + (IntKind.u64.wrap (bitsK BinOp.and IntKind.u64 a (4294967295 : Int) * bitsK BinOp.and IntKind.u64 c (4294967295 : Int))).fdiv
 (4294967296 : Int))) (4294967295 : Int) + IntKind.u64.wrap (bitsK BinOp.and IntKind.u64 a (4294967295 : Int) * c.fdiv (4294967296 : Int)))).fdiv (4294967296 : Int)))), SV.v (Value.int IntKind.u64 (IntKind.u64.wrap (a * c)))] = SV.t [SV.v (Value.int
 IntKind.u64 (0 : Int)), SV.v (Value.int IntKind.u64 c)] ∧ True) ∧ True)) (by kernel_rfl) ?_
  clear hp
  subst h0
  obtain ⟨n, rfl⟩ : ∃ n : Nat, c = n := ⟨c.toNat, by omega⟩
  have hn : n < 256 := by omega
  clear h1 h2 hφ
  simp only [SV.t.injEq, List.cons.injEq, SV.v.injEq, Value.int.injEq, true_and, and_true]
  revert n
  decide
def rp (n c : Nat) (x : C4) : List C4 := List.replicate n x ++ List.replicate (c - n) C4.no
theorem rp_step {n c : Nat} {x : C4} (h : n ≤ c) : List.take n (rp n c x) ++ (List.take (min n (c - n)) (List.take n (rp n c x)) ++ List.drop (n + min n (c - n)) (rp n c x)) = rp (n + min n (c - n)) c x := by
  have e1 : List.take n (rp n c x) = List.replicate n x := by simp [rp]
  have e2 : List.drop (n + min n (c - n)) (rp n c x) = List.replicate (c - (n + min n (c - n))) C4.no := by
    unfold rp
    rw [List.drop_append, List.length_replicate, List.drop_eq_nil_of_le (by simp), List.drop_replicate, List.nil_append]
    congr 1; omega
  rw [e1, e2, List.take_replicate, ← List.append_assoc, List.replicate_append_replicate]
  have e3 : min (min n (c - n)) n = min n (c - n) := by omega
  rw [e3]; rfl
theorem rp_all {c : Nat} {x : C4} : rp c c x = List.replicate c x := by simp [rp]
theorem szN_recs (l : List C4) : szN (.recs l) 4 = true := rfl
def annR (c : Nat) (x : C4) : Ann Unit where
  α := Int
  φ _ n := 1 ≤ n ∧ n ≤ c
  μ _ n := ((c : Int) - n).toNat
  get st := getI st.tm 8
  f st n := tmpl [7] [(8, .v (.int .i64 n))] [(1, .own (.recs (rp n.toNat c x)) c 45 4 0 true)] st
def lcRep : ACon Unit := mkLC (decP (shCons (shBlk 0 1) (shOne shI)) (shHOne (shCells shCL 45))) fun ((_, c), x) => .ask (1 ≤ c ∧ c ≤ 255) (.one (.h 1 [0, 0]) [.cells (recS x) 45, .own (.recs (List.replicate c.toNat x)) c.toNat 45 4 0 true] [])
set_option maxHeartbeats 4000000 in
theorem ok_rep : ∀ I : Sym.Inv Unit, LCOk I Tryz.prog 60 lcRep := by
  refine lc_mk (fun ((_, c), x) => allCfg Tryz.prog [] [(91, lcMul)] 0 [(580, annR c.toNat x)]) (fun _ _ => allCfg_ok mixed trivial ⟨ok_mul, trivial⟩) (fun _ => rfl) (n := 80) Tryz.func60 ?_
  intro ⟨⟨_, c⟩, x⟩ hφ
  obtain ⟨⟨h1, h2⟩, hp⟩ := id hφ
  refine kcast (B := (br (decide (c < (0 : Int))) False (true = true ∧ ((1 : Int) = (1 : Int) ∧ (0 : Int) ≤ IntKind.u64.wrap c ∧ IntKind.u64.wrap c ≤ (255 : Int)) ∧ br (decide (IntKind.u64.wrap c > (9223372036854775807 : Int))) False (rq (decide ((0 : Int) ≤
 IntKind.i64.wrap (IntKind.u64.wrap c) ∧ IntKind.i64.wrap (IntKind.u64.wrap c) ≤ IntKind.i64.wrap (IntKind.u64.wrap c) ∧ (↑(32 : Nat) : Int) * IntKind.i64.wrap (IntKind.u64.wrap c) ≤ (281474976710656 : Int) ∧ IntKind.i64.wrap (IntKind.u64.wrap c) ≤
 (9223372036854775807 : Int))) (rq (true && (true && (szN (madeC Tryz.prog (45 : Nat) (Value.agg #[Value.int IntKind.i32 (0 : Int), Value.int IntKind.i64 (0 : Int), Value.bool false, Value.int IntKind.i64 (0 : Int)]) (IntKind.i64.wrap
 (IntKind.u64.wrap c)).toNat (4 : Nat)) (4 : Nat) && (Nat.beq (4 : Nat) (4 : Nat) && (true && (((0 : Nat) + (IntKind.i64.wrap (IntKind.u64.wrap c)).toNat).ble (IntKind.i64.wrap (IntKind.u64.wrap c)).toNat && Nat.blt (0 : Nat) (IntKind.i64.wrap
 (IntKind.u64.wrap c)).toNat)))))) (((1 : Int) ≤ (↑(Nat.min (1 : Nat) (IntKind.i64.wrap (IntKind.u64.wrap c)).toNat) : Int) ∧ (↑(Nat.min (1 : Nat) (IntKind.i64.wrap (IntKind.u64.wrap c)).toNat) : Int) ≤ (↑c.toNat : Int)) ∧ ((SV.h 1 [0, 0] = SV.h 1 [0,
 0] ∧ vI (↑(Nat.min (1 : Nat) (IntKind.i64.wrap (IntKind.u64.wrap c)).toNat) : Int) = vI (↑(Nat.min (1 : Nat) (IntKind.i64.wrap (IntKind.u64.wrap c)).toNat) : Int) ∧ True) ∧ (SV.v (Value.int IntKind.i32 x.g) = SV.v (Value.int IntKind.i32 x.g) ∧ vI x.a
 = vI x.a ∧ vB x.gd = vB x.gd ∧ vI x.m = vI x.m ∧ True) ∧ ((IntKind.i64.wrap (IntKind.u64.wrap c)).toNat = c.toNat ∧ (0 : Nat) = (0 : Nat) ∧ List.take (0 : Nat) (List.replicate (IntKind.i64.wrap (IntKind.u64.wrap c)).toNat (C4.mk (0 : Int) (0 : Int)
 false (0 : Int))) ++ (List.take (Nat.min (1 : Nat) (IntKind.i64.wrap (IntKind.u64.wrap c)).toNat) [C4.mk x.g x.a x.gd x.m] ++ List.drop ((0 : Nat) + Nat.min (1 : Nat) (IntKind.i64.wrap (IntKind.u64.wrap c)).toNat) (List.replicate (IntKind.i64.wrap
 (IntKind.u64.wrap c)).toNat (C4.mk (0 : Int) (0 : Int) false (0 : Int)))) = rp (↑(Nat.min (1 : Nat) (IntKind.i64.wrap (IntKind.u64.wrap c)).toNat) : Int).toNat c.toNat x) ∧ True) ∧ ∀ (x_1 : Int), (1 : Int) ≤ x_1 ∧ x_1 ≤ (↑c.toNat : Int) → br (decide
 (x_1 < (↑c.toNat : Int))) (rq (true && (Nat.beq (4 : Nat) (4 : Nat) && decide ((0 : Int) ≤ x_1 ∧ x_1 ≤ (↑c.toNat : Int) ∧ (↑c.toNat : Int) ≤ (↑c.toNat : Int)))) (rq (true && (Nat.beq (4 : Nat) (4 : Nat) && decide ((0 : Int) ≤ (0 : Int) ∧ (0 : Int) ≤
 x_1 ∧ x_1 ≤ (↑c.toNat : Int)))) (rq (true && (true && (true && (szN (Cn.recs (rp x_1.toNat c.toNat x)) (4 : Nat) && (((0 : Nat) + (x_1.toNat - (0 : Nat))).ble c.toNat && Nat.blt (0 : Nat) c.toNat))) && (szN (Cn.recs (rp x_1.toNat c.toNat x)) (4 :
 Nat) && (Nat.beq (4 : Nat) (4 : Nat) && (true && ((x_1.toNat + ((↑c.toNat : Int).toNat - x_1.toNat)).ble c.toNat && Nat.blt (0 : Nat) c.toNat)))))) (((1 : Int) ≤ IntKind.i64.wrap (x_1 + (↑((x_1.toNat - (0 : Nat)).min ((↑c.toNat : Int).toNat -
 x_1.toNat)) : Int)) ∧ IntKind.i64.wrap (x_1 + (↑((x_1.toNat - (0 : Nat)).min ((↑c.toNat : Int).toNat - x_1.toNat)) : Int)) ≤ (↑c.toNat : Int)) ∧ ((SV.h 1 [0, 0] = SV.h 1 [0, 0] ∧ vI (IntKind.i64.wrap (x_1 + (↑((x_1.toNat - (0 : Nat)).min ((↑c.toNat :
 Int).toNat - x_1.toNat)) : Int))) = vI (IntKind.i64.wrap (x_1 + (↑((x_1.toNat - (0 : Nat)).min ((↑c.toNat : Int).toNat - x_1.toNat)) : Int))) ∧ True) ∧ (SV.v (Value.int IntKind.i32 x.g) = SV.v (Value.int IntKind.i32 x.g) ∧ vI x.a = vI x.a ∧ vB x.gd =
 vB x.gd ∧ vI x.m = vI x.m ∧ True) ∧ (c.toNat = c.toNat ∧ (0 : Nat) = (0 : Nat) ∧ List.take x_1.toNat (rp x_1.toNat c.toNat x) ++ (List.take ((x_1.toNat - (0 : Nat)).min ((↑c.toNat : Int).toNat - x_1.toNat)) (List.take (x_1.toNat - (0 : Nat))
 (List.drop (0 : Nat) (rp x_1.toNat c.toNat x))) ++ List.drop (x_1.toNat + (x_1.toNat - (0 : Nat)).min ((↑c.toNat : Int).toNat - x_1.toNat)) (rp x_1.toNat c.toNat x)) = rp (IntKind.i64.wrap (x_1 + (↑((x_1.toNat - (0 : Nat)).min ((↑c.toNat : Int).toNat
 - x_1.toNat)) : Int))).toNat c.toNat x) ∧ True) ∧ ((↑c.toNat : Int) - IntKind.i64.wrap (x_1 + (↑((x_1.toNat - (0 : Nat)).min ((↑c.toNat : Int).toNat - x_1.toNat)) : Int))).toNat < ((↑c.toNat : Int) - x_1).toNat)))) ((SV.h 1 [0, 0] = SV.h 1 [0, 0] ∧
 True) ∧ (SV.v (Value.int IntKind.i32 x.g) = SV.v (Value.int IntKind.i32 x.g) ∧ vI x.a = vI x.a ∧ vB x.gd = vB x.gd ∧ vI x.m = vI x.m ∧ True) ∧ (c.toNat = c.toNat ∧ (0 : Nat) = (0 : Nat) ∧ rp x_1.toNat c.toNat x = List.replicate c.toNat x) ∧
 True))))))) (by kernel_rfl) ?_
  clear hp hφ
  obtain ⟨m, rfl⟩ : ∃ m : Nat, c = m := ⟨c.toNat, by omega⟩
  have hu : IntKind.u64.wrap (m : Int) = m := IntWalk.u64_in _ (by omega)
  have hi : IntKind.i64.wrap (m : Int) = m := wrap64 (by omega) (by omega)
  have hm : ∀ k, szN (madeC Tryz.prog 45 (Value.agg #[Value.int IntKind.i32 0, Value.int IntKind.i64 0, Value.bool false, Value.int IntKind.i64 0]) k 4) 4 = true := fun _ => rfl
  have hm1 : Nat.min 1 m = 1 := by show min 1 m = 1; omega
  simp only [hu, hi, hm, szN_recs, hm1, Int.toNat_natCast, rq_iff, br_iff, nbeq, Bool.true_and, Bool.and_true, true_and, and_true, Bool.and_eq_true, Nat.ble_eq, Nat.blt_eq, decide_eq_true_eq, decide_eq_false_iff_not, Nat.sub_zero, Nat.zero_add, Nat.mul_one, List.drop_zero]
  refine ⟨fun h => by omega, fun _ => ⟨by omega, fun h => by omega, fun _ => ⟨by omega, by omega, by omega, ?_, fun n ⟨hn0, hn1⟩ => ⟨fun hlt => ?_, fun hge => ?_⟩⟩⟩⟩
  · obtain ⟨k, rfl⟩ : ∃ k, m = k + 1 := ⟨m - 1, by omega⟩
    simp [rp, C4.no, List.replicate_succ]
  · obtain ⟨k, rfl⟩ : ∃ k : Nat, n = k := ⟨n.toNat, by omega⟩
    simp only [Int.toNat_natCast]
    have hw : IntKind.i64.wrap ((k : Int) + ((Nat.min k (m - k) : Nat) : Int)) = ((k + min k (m - k) : Nat) : Int) := by
      rw [wrap64 (by omega) (by have : Nat.min k (m - k) ≤ m := by (show min k (m - k) ≤ m); omega
                                omega)]
      rfl
    rw [hw]
    simp only [Int.toNat_natCast]
    have hstep := rp_step (n := k) (c := m) (x := x) (by omega)
    have hmin : min k (m - k) ≤ m - k := Nat.min_le_right _ _
    have hmin1 : 1 ≤ min k (m - k) := by omega
    exact ⟨by omega, by omega, ⟨by omega, by omega, by omega⟩, ⟨by omega, by omega⟩, hstep, by omega⟩
  · obtain rfl : n = m := by omega
    exact rp_all
def oeN (k : Nat) : Nat := match k with
  | 0 => 0
  | n + 1 => n + 2
def annN (a c : Nat) (x : C4) : Ann Unit where
  α := Int
  φ _ k := 0 ≤ k ∧ k ≤ a
  μ _ k := ((a : Int) - k).toNat
  get st := getI st.tm 17
  f st k := tmpl [1, 2, 3, 7, 16] [(17, .v (.int .i64 k))] [(2, .cells [.h 3 [oeN k.toNat, 0]] 110), (3, .rows (.c (List.replicate k.toNat (List.replicate c x))) 45 105 (oeN k.toNat) (k.toNat + 1) none)] st
  fx st := match getC st.H 2 with
    | [x] => match nilS x with
      | true => [.nilCell 2 0 (.sv []) 105 1, .asRows 3 none 45]
      | false => []
    | _ => []
def tabA : List (Nat × ACon Unit) := [(59, lcMay), (62, lcSize), (60, lcRep)]
theorem tabA_ok : LCs Tryz.prog tabA := ⟨ok_may, ok_size, ok_rep, trivial⟩
def newL (a b : Nat) (x : C4) : List (List C4) := List.replicate a (List.replicate b x)
def lcNew : ACon Unit := mkLC (decP (shCons shI2 (shOne shC)) shHNil) fun (((a, b), x), _) =>
  .br (mayB a b) (.one (.t [.p 2 0, .v (.int .i64 0)]) (.gone :: .gone :: gbi 2 (a.toNat + 1) (a.toNat + 1) (newL a.toNat b.toNat x)) []) (.one (.t [.v (.pointer none), .v (.int .i64 10)]) [.gone, .gone] [])
set_option maxHeartbeats 4000000 in
theorem ok_new : ∀ I : Sym.Inv Unit, LCOk I Tryz.prog 35 lcNew := by
  refine lc_mk (fun (((a, b), x), _) => allCfg Tryz.prog [] tabA 0 [(449, annN a.toNat b.toNat x)]) (fun _ _ => allCfg_ok mixed trivial tabA_ok) (fun _ => rfl) (n := 80) Tryz.func35 ?_
  intro ⟨⟨⟨a, b⟩, x⟩, _⟩ hφ
  refine kcast (B := (true = true ∧ br (mayB a b) (Nils [] (0 : Nat) ∧ (II (0 : Int) ≤ (0 : Int) ∧ (0 : Int) ≤ (↑a.toNat : Int)) ∧ ((SV.a [SV.v (Value.int IntKind.i32 x.g), vI x.a, vB x.gd, vI x.m] = SV.a [SV.v (Value.int IntKind.i32 x.g), vI x.a, vB x.gd, vI x.m] ∧ SV.p
 0 0 = SV.p 0 0 ∧ SV.p 1 0 = SV.p 1 0 ∧ SV.p 2 0 = SV.p 2 0 ∧ vI a = vI a ∧ vI (0 : Int) = vI (0 : Int) ∧ True) ∧ (vI a = vI a ∧ vI b = vI b ∧ True) ∧ (SV.v (Value.int IntKind.i32 x.g) = SV.v (Value.int IntKind.i32 x.g) ∧ vI x.a = vI x.a ∧ vB x.gd =
 vB x.gd ∧ vI x.m = vI x.m ∧ True) ∧ (SV.h 3 [0, 0] = SV.h 3 [0, 0] ∧ True) ∧ ((0 : Nat) = (0 : Nat) ∧ (1 : Nat) = (1 : Nat) ∧ LLC [] = []) ∧ True) ∧ ∀ (x_1 : Int), (0 : Int) ≤ x_1 ∧ x_1 ≤ (↑a.toNat : Int) → br (decide (x_1 < a)) (true = true ∧ ((1 :
 Int) ≤ b ∧ b ≤ (255 : Int)) ∧ rq (true && ((oeN x_1.toNat).beq (oeN x_1.toNat) && (true && decide ((Rws.c (List.replicate x_1.toNat (List.replicate b.toNat x))).len + (1 : Nat) ≤ (9223372036854775807 : Nat) ∧ ((Rws.c (List.replicate x_1.toNat
 (List.replicate b.toNat x))).len + (1 : Nat)) * (24 : Nat) ≤ (140737488355328 : Nat))))) (((0 : Int) ≤ IntKind.i64.wrap (x_1 + (1 : Int)) ∧ IntKind.i64.wrap (x_1 + (1 : Int)) ≤ (↑a.toNat : Int)) ∧ ((SV.a [SV.v (Value.int IntKind.i32 x.g), vI x.a, vB
 x.gd, vI x.m] = SV.a [SV.v (Value.int IntKind.i32 x.g), vI x.a, vB x.gd, vI x.m] ∧ SV.p 0 0 = SV.p 0 0 ∧ SV.p 1 0 = SV.p 1 0 ∧ SV.p 2 0 = SV.p 2 0 ∧ vI a = vI a ∧ vI (IntKind.i64.wrap (x_1 + (1 : Int))) = vI (IntKind.i64.wrap (x_1 + (1 : Int))) ∧
 True) ∧ (vI a = vI a ∧ vI b = vI b ∧ True) ∧ (SV.v (Value.int IntKind.i32 x.g) = SV.v (Value.int IntKind.i32 x.g) ∧ vI x.a = vI x.a ∧ vB x.gd = vB x.gd ∧ vI x.m = vI x.m ∧ True) ∧ (SV.h 3 [x_1.toNat + 1 + 1, 0] = SV.h 3 [oeN (IntKind.i64.wrap (x_1 +
 (1 : Int))).toNat, 0] ∧ True) ∧ (x_1.toNat + (1 : Nat) + (1 : Nat) = oeN (IntKind.i64.wrap (x_1 + (1 : Int))).toNat ∧ x_1.toNat + (1 : Nat) + (1 : Nat) = (IntKind.i64.wrap (x_1 + (1 : Int))).toNat + (1 : Nat) ∧ List.replicate x_1.toNat
 (List.replicate b.toNat x) ++ [List.replicate b.toNat (C4.mk x.g x.a x.gd x.m)] = List.replicate (IntKind.i64.wrap (x_1 + (1 : Int))).toNat (List.replicate b.toNat x)) ∧ True) ∧ ((↑a.toNat : Int) - IntKind.i64.wrap (x_1 + (1 : Int))).toNat <
 ((↑a.toNat : Int) - x_1).toNat)) (br (mayB a b) ((SV.t [SV.p 2 0, vI (0 : Int)] = SV.t [SV.p 2 0, vI (0 : Int)] ∧ True) ∧ True ∧ True ∧ (SV.h 3 [oeN x_1.toNat, 0] = SV.h 3 [a.toNat + 1, 0] ∧ True) ∧ (oeN x_1.toNat = a.toNat + (1 : Nat) ∧ x_1.toNat +
 (1 : Nat) = a.toNat + (1 : Nat) ∧ List.replicate x_1.toNat (List.replicate b.toNat x) = newL a.toNat b.toNat x) ∧ True) ((SV.t [SV.p 2 0, vI (0 : Int)] = SV.t [SV.v (Value.pointer none), vI (10 : Int)] ∧ True) ∧ True ∧ True ∧ True))) (br (mayB a b)
 ((SV.t [SV.v (Value.pointer none), vI (10 : Int)] = SV.t [SV.p 2 0, vI (0 : Int)] ∧ True) ∧ True ∧ True ∧ False) ((SV.t [SV.v (Value.pointer none), vI (10 : Int)] = SV.t [SV.v (Value.pointer none), vI (10 : Int)] ∧ True) ∧ True ∧ True ∧ True)))) (by kernel_rfl) ?_
  refine ⟨rfl, ?_⟩
  cases h : mayB a b
  · exact ⟨⟨rfl, trivial⟩, trivial, trivial, trivial⟩
  · rw [mayB_iff] at h
    have hlen : ∀ n, (Rws.c (List.replicate n (List.replicate b.toNat x))).len = n := fun n => by simp [Rws.len]
    simp only [br_iff, rq_iff, nbeq, hlen, true_implies, false_implies, reduceCtorEq, true_and, and_true, Bool.true_and, Bool.and_true, decide_eq_true_eq, decide_eq_false_iff_not, Bool.true_eq_false, II]
    refine ⟨⟨rfl⟩, by omega, fun k ⟨hk0, hk1⟩ => ⟨fun hlt => ?_, fun hge => ?_⟩⟩
    · rw [wrap64 (x := k + 1) (by omega) (by omega)]
      have e : (k + 1).toNat = k.toNat + 1 := by omega
      rw [e]
      refine ⟨⟨by omega, by omega⟩, ⟨by omega, by omega⟩, ⟨by omega, by omega⟩, ⟨rfl, rfl, rfl, ?_⟩, by omega⟩
      show LLC _ = _
      rw [List.replicate_succ']
    · obtain rfl : k = a := by omega
      obtain ⟨n, rfl⟩ : ∃ n : Nat, k = ((n + 1 : Nat) : Int) := ⟨k.toNat - 1, by omega⟩
      exact ⟨rfl, rfl, rfl, rfl⟩
def inB (l : List (List C4)) (r c : Int) : Bool := decide (0 ≤ r) && (decide (r < l.length) && (decide (0 ≤ c) && decide (c < nC l)))
theorem inB_iff {l : List (List C4)} {r c : Int} : inB l r c = true ↔ 0 ≤ r ∧ r < l.length ∧ 0 ≤ c ∧ c < nC l := by simp [inB]
abbrev shPos : ShB (Int × Int) := shCells (shCons shI (shOne shI)) 50
abbrev shPos2 : ShB (Int × Int × Int × Int) := shCells (shCons shI (shCons shI (shCons shI (shOne shI)))) 50
def posC (r c : Int) : SB Unit := .cells [.v (.int .i64 r), .v (.int .i64 c)] 50
def posC2 (r c r2 c2 : Int) : SB Unit := .cells [.v (.int .i64 r), .v (.int .i64 c), .v (.int .i64 r2), .v (.int .i64 c2)] 50
def shGP : ShH (GB × Int × Int) where
  enc a := shG.enc a.1 ++ [shPos.enc a.2]
  dec x := match x with
    | [p, q, r] => match shG.dec [p, q] with
      | some a => match shPos.dec r with
        | some b => some (a, b)
        | none => none
      | none => none
    | _ => none
  ok x a h := by
    split at h
    · split at h
      · rename_i h1
        split at h
        · rename_i h2
          simp only [Option.some.injEq] at h
          subst h
          rw [← shG.ok _ _ h1, shPos.ok _ _ h2]; rfl
        · cases h
      · cases h
    · cases h
def shGP2 : ShH (GB × Int × Int × Int × Int) where
  enc a := shG.enc a.1 ++ [shPos2.enc a.2]
  dec x := match x with
    | [p, q, r] => match shG.dec [p, q] with
      | some a => match shPos2.dec r with
        | some b => some (a, b)
        | none => none
      | none => none
    | _ => none
  ok x a h := by
    split at h
    · split at h
      · rename_i h1
        split at h
        · rename_i h2
          simp only [Option.some.injEq] at h
          subst h
          rw [← shG.ok _ _ h1, shPos2.ok _ _ h2]; rfl
        · cases h
      · cases h
    · cases h
def lcThere1 : ACon Unit := mkLC (decP (shCons (shP 0) (shOne (shBlk 2 1))) shGP) fun (_, ((oe, ⟨l, oe2, ep⟩), r, c)) => .ask (oe = oe2 ∧ GW l) (.br (inB l r c) (.one (.v (.int .i64 0)) (gbi 0 oe ep l ++ [posC r c]) []) (.one (.v (.int .i64 11)) (gbi 0 oe ep l ++ [posC r c]) []))
def lcThere2 : ACon Unit := mkLC (decP (shCons (shP 0) (shOne (shBlk 2 2))) shGP2) fun (_, ((oe, ⟨l, oe2, ep⟩), r, c, r2, c2)) => .ask (oe = oe2 ∧ GW l) (.br (inB l r c && inB l r2 c2) (.one (.v (.int .i64 0)) (gbi 0 oe ep l ++ [posC2 r c r2 c2]) []) (.one (.v (.int .i64 11)) (gbi 0 oe ep l ++ [posC2 r c r2 c2]) []))
def lcThereN1 : ACon Unit := mkLC (decP (shCons shNilP (shOne (shBlk 0 1))) (shHOne shPos)) fun (_, (r, c)) => .one (.v (.int .i64 2)) [posC r c] []
def lcThereN2 : ACon Unit := mkLC (decP (shCons shNilP (shOne (shBlk 0 2))) (shHOne shPos2)) fun (_, (r, c, r2, c2)) => .one (.v (.int .i64 2)) [posC2 r c r2 c2] []
set_option maxHeartbeats 4000000 in
theorem ok_there1 : ∀ I : Sym.Inv Unit, LCOk I Tryz.prog 58 lcThere1 := by
  refine lc_mk (fun _ => allCfg Tryz.prog [] tabA 3) (fun _ _ => allCfg_ok mixed trivial tabA_ok) (fun _ => rfl) (n := 80) Tryz.func58 ?_
  intro ⟨_, ⟨oe, ⟨l, oe2, ep⟩⟩, r, c⟩ hφ
  obtain ⟨⟨rfl, hg⟩, hp⟩ := id hφ
  refine kcast (B := (true = true ∧ (oe = oe ∧ GW l) ∧ br (decide (r < (0 : Int))) (br (inB l r c) ((vI (11 : Int) = vI (0 : Int) ∧ True) ∧ (SV.h 1 [oe, 0] = SV.h 1 [oe, 0] ∧ True) ∧ (oe = oe ∧ ep = ep ∧ l = l) ∧ (vI r = vI r ∧ vI c = vI c ∧ True) ∧ True) ((vI (11 : Int)
 = vI (11 : Int) ∧ True) ∧ (SV.h 1 [oe, 0] = SV.h 1 [oe, 0] ∧ True) ∧ (oe = oe ∧ ep = ep ∧ l = l) ∧ (vI r = vI r ∧ vI c = vI c ∧ True) ∧ True)) (br (decide (r ≥ (↑l.length : Int))) (br (inB l r c) ((vI (11 : Int) = vI (0 : Int) ∧ True) ∧ (SV.h 1 [oe,
 0] = SV.h 1 [oe, 0] ∧ True) ∧ (oe = oe ∧ ep = ep ∧ l = l) ∧ (vI r = vI r ∧ vI c = vI c ∧ True) ∧ True) ((vI (11 : Int) = vI (11 : Int) ∧ True) ∧ (SV.h 1 [oe, 0] = SV.h 1 [oe, 0] ∧ True) ∧ (oe = oe ∧ ep = ep ∧ l = l) ∧ (vI r = vI r ∧ vI c = vI c ∧
 True) ∧ True)) (br (decide (c < (0 : Int))) (br (inB l r c) ((vI (11 : Int) = vI (0 : Int) ∧ True) ∧ (SV.h 1 [oe, 0] = SV.h 1 [oe, 0] ∧ True) ∧ (oe = oe ∧ ep = ep ∧ l = l) ∧ (vI r = vI r ∧ vI c = vI c ∧ True) ∧ True) ((vI (11 : Int) = vI (11 : Int) ∧
 True) ∧ (SV.h 1 [oe, 0] = SV.h 1 [oe, 0] ∧ True) ∧ (oe = oe ∧ ep = ep ∧ l = l) ∧ (vI r = vI r ∧ vI c = vI c ∧ True) ∧ True)) (br (decide (c ≥ (↑(nC l) : Int))) (br (inB l r c) ((vI (11 : Int) = vI (0 : Int) ∧ True) ∧ (SV.h 1 [oe, 0] = SV.h 1 [oe, 0]
 ∧ True) ∧ (oe = oe ∧ ep = ep ∧ l = l) ∧ (vI r = vI r ∧ vI c = vI c ∧ True) ∧ True) ((vI (11 : Int) = vI (11 : Int) ∧ True) ∧ (SV.h 1 [oe, 0] = SV.h 1 [oe, 0] ∧ True) ∧ (oe = oe ∧ ep = ep ∧ l = l) ∧ (vI r = vI r ∧ vI c = vI c ∧ True) ∧ True)) (br (inB
 l r c) ((vI (0 : Int) = vI (0 : Int) ∧ True) ∧ (SV.h 1 [oe, 0] = SV.h 1 [oe, 0] ∧ True) ∧ (oe = oe ∧ ep = ep ∧ l = l) ∧ (vI r = vI r ∧ vI c = vI c ∧ True) ∧ True) ((vI (0 : Int) = vI (11 : Int) ∧ True) ∧ (SV.h 1 [oe, 0] = SV.h 1 [oe, 0] ∧ True) ∧ (oe
 = oe ∧ ep = ep ∧ l = l) ∧ (vI r = vI r ∧ vI c = vI c ∧ True) ∧ True))))))) (by kernel_rfl) ?_
  refine ⟨rfl, ⟨rfl, hg⟩, ?_⟩
  clear hp hφ
  cases h : inB l r c
  · simp [br_iff]; simp [inB] at h; omega
  · rw [inB_iff] at h; simp [br_iff]; omega
set_option maxHeartbeats 4000000 in
theorem ok_there2 : ∀ I : Sym.Inv Unit, LCOk I Tryz.prog 58 lcThere2 := by
  refine lc_mk (fun _ => allCfg Tryz.prog [] tabA 3) (fun _ _ => allCfg_ok mixed trivial tabA_ok) (fun _ => rfl) (n := 80) Tryz.func58 ?_
  intro ⟨_, ⟨oe, ⟨l, oe2, ep⟩⟩, r, c, r2, c2⟩ hφ
  obtain ⟨⟨rfl, hg⟩, hp⟩ := id hφ
  refine kcast (B := (true = true ∧ (oe = oe ∧ GW l) ∧ br (decide (r < (0 : Int))) (br (inB l r c && inB l r2 c2) ((vI (11 : Int) = vI (0 : Int) ∧ True) ∧ (SV.h 1 [oe, 0] = SV.h 1 [oe, 0] ∧ True) ∧ (oe = oe ∧ ep = ep ∧ l = l) ∧ (vI r = vI r ∧ vI c = vI c ∧ vI r2 = vI r2
 ∧ vI c2 = vI c2 ∧ True) ∧ True) ((vI (11 : Int) = vI (11 : Int) ∧ True) ∧ (SV.h 1 [oe, 0] = SV.h 1 [oe, 0] ∧ True) ∧ (oe = oe ∧ ep = ep ∧ l = l) ∧ (vI r = vI r ∧ vI c = vI c ∧ vI r2 = vI r2 ∧ vI c2 = vI c2 ∧ True) ∧ True)) (br (decide (r ≥ (↑l.length
 : Int))) (br (inB l r c && inB l r2 c2) ((vI (11 : Int) = vI (0 : Int) ∧ True) ∧ (SV.h 1 [oe, 0] = SV.h 1 [oe, 0] ∧ True) ∧ (oe = oe ∧ ep = ep ∧ l = l) ∧ (vI r = vI r ∧ vI c = vI c ∧ vI r2 = vI r2 ∧ vI c2 = vI c2 ∧ True) ∧ True) ((vI (11 : Int) = vI
 (11 : Int) ∧ True) ∧ (SV.h 1 [oe, 0] = SV.h 1 [oe, 0] ∧ True) ∧ (oe = oe ∧ ep = ep ∧ l = l) ∧ (vI r = vI r ∧ vI c = vI c ∧ vI r2 = vI r2 ∧ vI c2 = vI c2 ∧ True) ∧ True)) (br (decide (c < (0 : Int))) (br (inB l r c && inB l r2 c2) ((vI (11 : Int) = vI
 (0 : Int) ∧ True) ∧ (SV.h 1 [oe, 0] = SV.h 1 [oe, 0] ∧ True) ∧ (oe = oe ∧ ep = ep ∧ l = l) ∧ (vI r = vI r ∧ vI c = vI c ∧ vI r2 = vI r2 ∧ vI c2 = vI c2 ∧ True) ∧ True) ((vI (11 : Int) = vI (11 : Int) ∧ True) ∧ (SV.h 1 [oe, 0] = SV.h 1 [oe, 0] ∧ True)
 ∧ (oe = oe ∧ ep = ep ∧ l = l) ∧ (vI r = vI r ∧ vI c = vI c ∧ vI r2 = vI r2 ∧ vI c2 = vI c2 ∧ True) ∧ True)) (br (decide (c ≥ (↑(nC l) : Int))) (br (inB l r c && inB l r2 c2) ((vI (11 : Int) = vI (0 : Int) ∧ True) ∧ (SV.h 1 [oe, 0] = SV.h 1 [oe, 0] ∧
 True) ∧ (oe = oe ∧ ep = ep ∧ l = l) ∧ (vI r = vI r ∧ vI c = vI c ∧ vI r2 = vI r2 ∧ vI c2 = vI c2 ∧ True) ∧ True) ((vI (11 : Int) = vI (11 : Int) ∧ True) ∧ (SV.h 1 [oe, 0] = SV.h 1 [oe, 0] ∧ True) ∧ (oe = oe ∧ ep = ep ∧ l = l) ∧ (vI r = vI r ∧ vI c =
 vI c ∧ vI r2 = vI r2 ∧ vI c2 = vI c2 ∧ True) ∧ True)) (br (decide (r2 < (0 : Int))) (br (inB l r c && inB l r2 c2) ((vI (11 : Int) = vI (0 : Int) ∧ True) ∧ (SV.h 1 [oe, 0] = SV.h 1 [oe, 0] ∧ True) ∧ (oe = oe ∧ ep = ep ∧ l = l) ∧ (vI r = vI r ∧ vI c =
 vI c ∧ vI r2 = vI r2 ∧ vI c2 = vI c2 ∧ True) ∧ True) ((vI (11 : Int) = vI (11 : Int) ∧ True) ∧ (SV.h 1 [oe, 0] = SV.h 1 [oe, 0] ∧ True) ∧ (oe = oe ∧ ep = ep ∧ l = l) ∧ (vI r = vI r ∧ vI c = vI c ∧ vI r2 = vI r2 ∧ vI c2 = vI c2 ∧ True) ∧ True)) (br
 (decide (r2 ≥ (↑l.length : Int))) (br (inB l r c && inB l r2 c2) ((vI (11 : Int) = vI (0 : Int) ∧ True) ∧ (SV.h 1 [oe, 0] = SV.h 1 [oe, 0] ∧ True) ∧ (oe = oe ∧ ep = ep ∧ l = l) ∧ (vI r = vI r ∧ vI c = vI c ∧ vI r2 = vI r2 ∧ vI c2 = vI c2 ∧ True) ∧
 True) ((vI (11 : Int) = vI (11 : Int) ∧ True) ∧ (SV.h 1 [oe, 0] = SV.h 1 [oe, 0] ∧ True) ∧ (oe = oe ∧ ep = ep ∧ l = l) ∧ (vI r = vI r ∧ vI c = vI c ∧ vI r2 = vI r2 ∧ vI c2 = vI c2 ∧ True) ∧ True)) (br (decide (c2 < (0 : Int))) (br (inB l r c && inB l
 r2 c2) ((vI (11 : Int) = vI (0 : Int) ∧ True) ∧ (SV.h 1 [oe, 0] = SV.h 1 [oe, 0] ∧ True) ∧ (oe = oe ∧ ep = ep ∧ l = l) ∧ (vI r = vI r ∧ vI c = vI c ∧ vI r2 = vI r2 ∧ vI c2 = vI c2 ∧ True) ∧ True) ((vI (11 : Int) = vI (11 : Int) ∧ True) ∧ (SV.h 1 [oe,
 0] = SV.h 1 [oe, 0] ∧ True) ∧ (oe = oe ∧ ep = ep ∧ l = l) ∧ (vI r = vI r ∧ vI c = vI c ∧ vI r2 = vI r2 ∧ vI c2 = vI c2 ∧ True) ∧ True)) (br (decide (c2 ≥ (↑(nC l) : Int))) (br (inB l r c && inB l r2 c2) ((vI (11 : Int) = vI (0 : Int) ∧ True) ∧ (SV.h
 1 [oe, 0] = SV.h 1 [oe, 0] ∧ True) ∧ (oe = oe ∧ ep = ep ∧ l = l) ∧ (vI r = vI r ∧ vI c = vI c ∧ vI r2 = vI r2 ∧ vI c2 = vI c2 ∧ True) ∧ True) ((vI (11 : Int) = vI (11 : Int) ∧ True) ∧ (SV.h 1 [oe, 0] = SV.h 1 [oe, 0] ∧ True) ∧ (oe = oe ∧ ep = ep ∧ l
 = l) ∧ (vI r = vI r ∧ vI c = vI c ∧ vI r2 = vI r2 ∧ vI c2 = vI c2 ∧ True) ∧ True)) (br (inB l r c && inB l r2 c2) ((vI (0 : Int) = vI (0 : Int) ∧ True) ∧ (SV.h 1 [oe, 0] = SV.h 1 [oe, 0] ∧ True) ∧ (oe = oe ∧ ep = ep ∧ l = l) ∧ (vI r = vI r ∧ vI c =
 vI c ∧ vI r2 = vI r2 ∧ vI c2 = vI c2 ∧ True) ∧ True) ((vI (0 : Int) = vI (11 : Int) ∧ True) ∧ (SV.h 1 [oe, 0] = SV.h 1 [oe, 0] ∧ True) ∧ (oe = oe ∧ ep = ep ∧ l = l) ∧ (vI r = vI r ∧ vI c = vI c ∧ vI r2 = vI r2 ∧ vI c2 = vI c2 ∧ True) ∧ True))))))))))) (by kernel_rfl) ?_
  refine ⟨rfl, ⟨rfl, hg⟩, ?_⟩
  clear hp hφ
  cases h : inB l r c <;> cases h2 : inB l r2 c2
  · simp [br_iff]; simp [inB] at h; omega
  · rw [inB_iff] at h2; simp [br_iff]; simp [inB] at h; omega
  · rw [inB_iff] at h; simp [br_iff]; simp [inB] at h2; omega
  · rw [inB_iff] at h h2; simp [br_iff]; omega
set_option maxHeartbeats 4000000 in
theorem ok_thereN1 : ∀ I : Sym.Inv Unit, LCOk I Tryz.prog 58 lcThereN1 := by
  refine lc_mk (fun _ => allCfg Tryz.prog [] tabA 3) (fun _ _ => allCfg_ok mixed trivial tabA_ok) (fun _ => rfl) (n := 80) Tryz.func58 ?_
  intro ⟨_, r, c⟩ hφ
  refine kcast (B := ((vI (2 : Int) = vI (2 : Int) ∧ True) ∧ (vI r = vI r ∧ vI c = vI c ∧ True) ∧ True)) (by kernel_rfl) ?_
  exact ⟨⟨rfl, trivial⟩, ⟨rfl, rfl, trivial⟩, trivial⟩
set_option maxHeartbeats 4000000 in
theorem ok_thereN2 : ∀ I : Sym.Inv Unit, LCOk I Tryz.prog 58 lcThereN2 := by
  refine lc_mk (fun _ => allCfg Tryz.prog [] tabA 3) (fun _ _ => allCfg_ok mixed trivial tabA_ok) (fun _ => rfl) (n := 80) Tryz.func58 ?_
  intro ⟨_, r, c, r2, c2⟩ hφ
  refine kcast (B := ((vI (2 : Int) = vI (2 : Int) ∧ True) ∧ (vI r = vI r ∧ vI c = vI c ∧ vI r2 = vI r2 ∧ vI c2 = vI c2 ∧ True) ∧ True)) (by kernel_rfl) ?_
  exact ⟨⟨rfl, trivial⟩, ⟨rfl, rfl, rfl, rfl, trivial⟩, trivial⟩
def lcThere : ACon Unit := lcOr (lcOr lcThere1 lcThere2) (lcOr lcThereN1 lcThereN2)
theorem ok_there : ∀ I : Sym.Inv Unit, LCOk I Tryz.prog 58 lcThere := lcOr_ok (lcOr_ok ok_there1 ok_there2) (lcOr_ok ok_thereN1 ok_thereN2)
def tabB : List (Nat × ACon Unit) := (35, lcNew) :: (58, lcThere) :: tabA
theorem tabB_ok : LCs Tryz.prog tabB := ⟨ok_new, ok_there, tabA_ok⟩
def at2 (l : List (List C4)) (r c : Int) : C4 := (l.getD r.toNat []).getD c.toNat C4.no
def set2 (l : List (List C4)) (r c : Int) (x : C4) : List (List C4) := l.set r.toNat ((l.getD r.toNat []).set c.toNat x)
def lcAt1 : ACon Unit := mkLC (decP (shCons (shP 0) (shOne shI2)) shG) fun ((_, (r, c)), (oe, ⟨l, oe2, ep⟩)) => .ask (oe = oe2 ∧ GW l) (.br (inB l r c) (.one (.t [cv (at2 l r c), .v (.int .i64 0)]) (gbi 0 oe ep l) []) (.one (.t [cv C4.no, .v (.int .i64 11)]) (gbi 0 oe ep l) []))
def lcAt0 : ACon Unit := mkLC (decP (shCons shNilP (shOne shI2)) shHNil) fun _ => .one (.t [cv C4.no, .v (.int .i64 2)]) [] []
def lcSet1 : ACon Unit := mkLC (decP (shCons (shP 0) (shCons shI2 (shOne shC))) shG) fun ((_, (r, c), x), (oe, ⟨l, oe2, ep⟩)) => .ask (oe = oe2 ∧ GW l) (.br (inB l r c) (.one (.v (.int .i64 0)) (gbi 0 oe ep (set2 l r c x)) [1]) (.one (.v (.int .i64 11)) (gbi 0 oe ep l) [1]))
def lcSet0 : ACon Unit := mkLC (decP (shCons shNilP (shCons shI2 (shOne shC))) shHNil) fun _ => .one (.v (.int .i64 2)) [] []
set_option maxHeartbeats 4000000 in
theorem ok_at1 : ∀ I : Sym.Inv Unit, LCOk I Tryz.prog 34 lcAt1 := by
  refine lc_mk (fun _ => allCfg Tryz.prog [] tabB 3) (fun _ _ => allCfg_ok mixed trivial tabB_ok) (fun _ => rfl) (n := 80) Tryz.func34 ?_
  intro ⟨⟨_, r, c⟩, ⟨oe, ⟨l, oe2, ep⟩⟩⟩ hφ
  obtain ⟨⟨rfl, hg⟩, hp⟩ := id hφ
  refine kcast (B := (true = true ∧ (oe = oe ∧ GW l) ∧ br (inB l r c) (rq (oe.beq oe && (true && decide ((0 : Int) ≤ r ∧ r < (↑(Rws.c l).len : Int)))) (rq (oe.beq oe && r.toNat.blt (Rws.c l).len) (rq (ep.beq ep && r.toNat.blt (Rws.c l).len && ((Rws.c l).sz.beq (4 : Nat)
 && decide ((0 : Int) ≤ c ∧ c < (↑((Rws.c l).nAt r.toNat) : Int)))) (rq (ep.beq ep && r.toNat.blt (Rws.c l).len && c.toNat.blt (l.getD r.toNat []).length) (br (inB l r c) ((SV.t [SV.a [SV.v (Value.int IntKind.i32 ((l.getD r.toNat []).getD c.toNat
 C4.no).g), vI ((l.getD r.toNat []).getD c.toNat C4.no).a, vB ((l.getD r.toNat []).getD c.toNat C4.no).gd, vI ((l.getD r.toNat []).getD c.toNat C4.no).m], vI (0 : Int)] = SV.t [SV.a [SV.v (Value.int IntKind.i32 (at2 l r c).g), vI (at2 l r c).a, vB
 (at2 l r c).gd, vI (at2 l r c).m], vI (0 : Int)] ∧ True) ∧ (SV.h 1 [oe, 0] = SV.h 1 [oe, 0] ∧ True) ∧ (oe = oe ∧ ep = ep ∧ l = l) ∧ True) ((SV.t [SV.a [SV.v (Value.int IntKind.i32 ((l.getD r.toNat []).getD c.toNat C4.no).g), vI ((l.getD r.toNat
 []).getD c.toNat C4.no).a, vB ((l.getD r.toNat []).getD c.toNat C4.no).gd, vI ((l.getD r.toNat []).getD c.toNat C4.no).m], vI (0 : Int)] = SV.t [SV.a [SV.v (Value.int IntKind.i32 (0 : Int)), vI (0 : Int), vB false, vI (0 : Int)], vI (11 : Int)] ∧
 True) ∧ (SV.h 1 [oe, 0] = SV.h 1 [oe, 0] ∧ True) ∧ (oe = oe ∧ ep = ep ∧ l = l) ∧ True)))))) (br (inB l r c) ((SV.t [SV.a [SV.v (Value.int IntKind.i32 (0 : Int)), vI (0 : Int), vB false, vI (0 : Int)], vI (11 : Int)] = SV.t [SV.a [SV.v (Value.int
 IntKind.i32 (at2 l r c).g), vI (at2 l r c).a, vB (at2 l r c).gd, vI (at2 l r c).m], vI (0 : Int)] ∧ True) ∧ (SV.h 1 [oe, 0] = SV.h 1 [oe, 0] ∧ True) ∧ (oe = oe ∧ ep = ep ∧ l = l) ∧ True) ((SV.t [SV.a [SV.v (Value.int IntKind.i32 (0 : Int)), vI (0 :
 Int), vB false, vI (0 : Int)], vI (11 : Int)] = SV.t [SV.a [SV.v (Value.int IntKind.i32 (0 : Int)), vI (0 : Int), vB false, vI (0 : Int)], vI (11 : Int)] ∧ True) ∧ (SV.h 1 [oe, 0] = SV.h 1 [oe, 0] ∧ True) ∧ (oe = oe ∧ ep = ep ∧ l = l) ∧ True)))) (by kernel_rfl) ?_
  refine ⟨rfl, ⟨rfl, hg⟩, ?_⟩
  clear hp hφ
  cases h : inB l r c
  · simp only [br_iff, Bool.false_eq_true, false_implies, true_implies, true_and, and_true]
  · rw [inB_iff] at h
    have hr : r.toNat < l.length := by omega
    have h1 : Nat.blt r.toNat (Rws.c l).len = true := by rw [Nat.blt_eq]; exact hr
    have h2 : Nat.blt c.toNat (l.getD r.toNat (LC4 [])).length = true := by rw [Nat.blt_eq, hg.row hr]; omega
    have h3 : ((Rws.c l).nAt r.toNat : Int) = nC l := by show ((l.getD r.toNat []).length : Int) = _; rw [hg.row hr]
    have h4 : ((Rws.c l).len : Int) = l.length := rfl
    have h5 : Nat.beq (Rws.c l).sz 4 = true := rfl
    simp only [br_iff, rq_iff, nbeq, h1, h2, h3, h4, h5, Bool.true_eq_false, false_implies, true_implies, true_and, and_true, Bool.true_and, Bool.and_true, decide_eq_true_eq]
    exact ⟨⟨by omega, by omega⟩, ⟨by omega, by omega⟩, rfl⟩
set_option maxHeartbeats 4000000 in
theorem ok_set1 : ∀ I : Sym.Inv Unit, LCOk I Tryz.prog 96 lcSet1 := by
  refine lc_mk (fun _ => allCfg Tryz.prog [] tabB 3) (fun _ _ => allCfg_ok mixed trivial tabB_ok) (fun _ => rfl) (n := 80) Tryz.func96 ?_
  intro ⟨⟨_, ⟨r, c⟩, x⟩, ⟨oe, ⟨l, oe2, ep⟩⟩⟩ hφ
  obtain ⟨⟨rfl, hg⟩, hp⟩ := id hφ
  refine kcast (B := (true = true ∧ (oe = oe ∧ GW l) ∧ br (inB l r c) (rq (oe.beq oe && (true && decide ((0 : Int) ≤ r ∧ r < (↑(Rws.c l).len : Int)))) (rq (oe.beq oe && r.toNat.blt (Rws.c l).len) (rq (ep.beq ep && r.toNat.blt (Rws.c l).len && ((Rws.c l).sz.beq (4 : Nat)
 && decide ((0 : Int) ≤ c ∧ c < (↑((Rws.c l).nAt r.toNat) : Int)))) (rq (ep.beq ep && r.toNat.blt (Rws.c l).len && c.toNat.blt (l.getD r.toNat []).length) (br (inB l r c) ((vI (0 : Int) = vI (0 : Int) ∧ True) ∧ (SV.h 1 [oe, 0] = SV.h 1 [oe, 0] ∧ True)
 ∧ (oe = oe ∧ ep = ep ∧ l.set r.toNat ((l.getD r.toNat []).set c.toNat (C4.mk x.g x.a x.gd x.m)) = set2 l r c x) ∧ True) ((vI (0 : Int) = vI (11 : Int) ∧ True) ∧ (SV.h 1 [oe, 0] = SV.h 1 [oe, 0] ∧ True) ∧ (oe = oe ∧ ep = ep ∧ l.set r.toNat ((l.getD
 r.toNat []).set c.toNat (C4.mk x.g x.a x.gd x.m)) = l) ∧ True)))))) (br (inB l r c) ((vI (11 : Int) = vI (0 : Int) ∧ True) ∧ (SV.h 1 [oe, 0] = SV.h 1 [oe, 0] ∧ True) ∧ (oe = oe ∧ ep = ep ∧ l = set2 l r c x) ∧ True) ((vI (11 : Int) = vI (11 : Int) ∧
 True) ∧ (SV.h 1 [oe, 0] = SV.h 1 [oe, 0] ∧ True) ∧ (oe = oe ∧ ep = ep ∧ l = l) ∧ True)))) (by kernel_rfl) ?_
  refine ⟨rfl, ⟨rfl, hg⟩, ?_⟩
  clear hp hφ
  cases h : inB l r c
  · simp only [br_iff, Bool.false_eq_true, false_implies, true_implies, true_and, and_true]
  · rw [inB_iff] at h
    have hr : r.toNat < l.length := by omega
    have h1 : Nat.blt r.toNat (Rws.c l).len = true := by rw [Nat.blt_eq]; exact hr
    have h2 : Nat.blt c.toNat (l.getD r.toNat (LC4 [])).length = true := by rw [Nat.blt_eq, hg.row hr]; omega
    have h3 : ((Rws.c l).nAt r.toNat : Int) = nC l := by show ((l.getD r.toNat []).length : Int) = _; rw [hg.row hr]
    have h4 : ((Rws.c l).len : Int) = l.length := rfl
    have h5 : Nat.beq (Rws.c l).sz 4 = true := rfl
    simp only [br_iff, rq_iff, nbeq, h1, h2, h3, h4, h5, Bool.true_eq_false, false_implies, true_implies, true_and, and_true, Bool.true_and, Bool.and_true, decide_eq_true_eq]
    exact ⟨⟨by omega, by omega⟩, ⟨by omega, by omega⟩, rfl⟩
set_option maxHeartbeats 4000000 in
theorem ok_at0 : ∀ I : Sym.Inv Unit, LCOk I Tryz.prog 34 lcAt0 := by
  refine lc_mk (fun _ => allCfg Tryz.prog [] tabB 3) (fun _ _ => allCfg_ok mixed trivial tabB_ok) (fun _ => rfl) (n := 80) Tryz.func34 ?_
  intro ⟨⟨_, r, c⟩, _⟩ hφ
  refine kcast (B := (true = true ∧ (SV.t [SV.a [SV.v (Value.int IntKind.i32 (0 : Int)), vI (0 : Int), vB false, vI (0 : Int)], vI (2 : Int)] = SV.t [SV.a [SV.v (Value.int IntKind.i32 (0 : Int)), vI (0 : Int), vB false, vI (0 : Int)], vI (2 : Int)] ∧ True) ∧ True)) (by kernel_rfl) ?_
  exact ⟨rfl, ⟨rfl, trivial⟩, trivial⟩
set_option maxHeartbeats 4000000 in
theorem ok_set0 : ∀ I : Sym.Inv Unit, LCOk I Tryz.prog 96 lcSet0 := by
  refine lc_mk (fun _ => allCfg Tryz.prog [] tabB 3) (fun _ _ => allCfg_ok mixed trivial tabB_ok) (fun _ => rfl) (n := 80) Tryz.func96 ?_
  intro ⟨⟨_, ⟨r, c⟩, x⟩, _⟩ hφ
  refine kcast (B := (true = true ∧ (vI (2 : Int) = vI (2 : Int) ∧ True) ∧ True)) (by kernel_rfl) ?_
  exact ⟨rfl, ⟨rfl, trivial⟩, trivial⟩
def lcAt : ACon Unit := lcOr lcAt1 lcAt0
theorem ok_at : ∀ I : Sym.Inv Unit, LCOk I Tryz.prog 34 lcAt := lcOr_ok ok_at1 ok_at0
def lcSet : ACon Unit := lcOr lcSet1 lcSet0
theorem ok_set : ∀ I : Sym.Inv Unit, LCOk I Tryz.prog 96 lcSet := lcOr_ok ok_set1 ok_set0
end Go.Proofs.YtcbjgpkbfmmdpaaGreatDoor
namespace Go.Proofs.YtcbjgpkbfmmdpaaGreatDoor
open Go Go.Sym
def shF {α : Type} (g : Nat) (s : ShL α) : Sh α where
  enc a := .f (.func g) (s.enc a)
  dec x := match x with
    | .f fn l => match fn with
      | .func g' => match Nat.beq g' g with
        | true => s.dec l
        | false => none
      | _ => none
    | _ => none
  ok x a h := by
    split at h
    · split at h
      · split at h
        · rename_i hg
          rw [Nat.beq_eq] at hg
          subst hg
          rw [s.ok _ _ h]
        · cases h
      · cases h
    · cases h
def tabC : List (Nat × ACon Unit) := (34, lcAt) :: (96, lcSet) :: tabB
theorem tabC_ok : LCs Tryz.prog tabC := ⟨ok_at, ok_set, tabB_ok⟩
def outL {α : Type} (l : List (List α)) (r : Nat) : List (List α) := l.take r ++ List.replicate (l.length - r) []
def cpL {α : Type} (l : List (List α)) (r k : Nat) : List (List α) := l.take r ++ (l.getD r []).take k :: List.replicate (l.length - r - 1) []
theorem outL_zero {α : Type} (l : List (List α)) : outL l 0 = List.replicate l.length [] := by simp [outL]
theorem outL_all {α : Type} (l : List (List α)) : outL l l.length = l := by simp [outL]
theorem cpL_zero {α : Type} {l : List (List α)} {r : Nat} (h : r < l.length) : cpL l r 0 = outL l r := by
  unfold cpL outL
  rw [show l.length - r = (l.length - r - 1) + 1 by omega, List.replicate_succ]; simp
theorem cpL_all {α : Type} {l : List (List α)} {r k : Nat} (h : r < l.length) (hk : (l.getD r []).length = k) : cpL l r k = outL l (r + 1) := by
  unfold cpL outL
  rw [← hk, List.take_length, List.take_succ_eq_append_getElem h, List.append_assoc]
  congr 1
  rw [List.getD, List.getElem?_eq_getElem h]
  simp; omega
theorem cpL_length {α : Type} {l : List (List α)} {r k : Nat} (h : r < l.length) : (cpL l r k).length = l.length := by simp [cpL]; omega
theorem cpL_get {α : Type} {l : List (List α)} {r k : Nat} (h : r < l.length) : (cpL l r k).getD r [] = (l.getD r []).take k := by
  have e : (l.take r).length = r := by simp; omega
  unfold cpL
  rw [List.getD, List.getElem?_append_right (by omega), e, Nat.sub_self]; rfl
theorem cpL_set {α : Type} {l : List (List α)} {r k : Nat} (h : r < l.length) (y : List α) : (cpL l r k).set r y = l.take r ++ y :: List.replicate (l.length - r - 1) [] := by
  have e : (l.take r).length = r := by simp; omega
  unfold cpL
  rw [List.set_append_right _ _ (by omega), e, Nat.sub_self]; rfl
theorem cpL_succ {l : List (List C4)} {r k : Nat} (h : r < l.length) (hk : k < (l.getD r []).length) : (cpL l r k).set r ((l.getD r []).take k ++ [(l.getD r []).getD k C4.no]) = cpL l r (k + 1) := by
  rw [cpL_set h]
  unfold cpL
  rw [List.take_succ_eq_append_getElem hk]
  have : (l.getD r []).getD k C4.no = (l.getD r [])[k] := by rw [List.getD, List.getElem?_eq_getElem hk]; rfl
  rw [this]
theorem eLen (R : List (List C4)) : (Rws.c R).len = R.length := rfl
theorem eNat (R : List (List C4)) (i : Nat) : (Rws.c R).nAt i = (R.getD i []).length := rfl
theorem eSz (R : List (List C4)) : (Rws.c R).sz = 4 := rfl
def isOwn (H : List (SB Unit)) (b : Nat) : Bool := match H[b]? with
  | some (.own ..) => true
  | _ => false
def annRo (l : List (List C4)) : Ann Unit where
  α := Int
  φ _ r := 0 ≤ r ∧ r ≤ l.length
  μ _ r := ((l.length : Int) - r).toNat
  get st := getI st.tm 10
  f st r := tmpl [0, 1, 3, 9] [(10, .v (.int .i64 r))] [(3, .rows (.c (outL l r.toNat)) 45 105 0 (r.toNat * nC l + 1) none), (7, loopTm st.H 7 [4] [])] st
  fx st := match isOwn st.H 3 with
    | true => [.asRows 3 none 45]
    | false => []
def annRi (l : List (List C4)) : Ann Unit where
  α := Int
  φ _ k := 0 ≤ k ∧ k ≤ nC l
  μ _ k := ((nC l : Int) - k).toNat
  get st := getI st.tm 15
  f st k := tmpl [0, 1, 3, 4, 9, 10, 14] [(15, .v (.int .i64 k))] [(3, .rows (.c (cpL l (tI st.tm 4).toNat k.toNat)) 45 105 0 ((tI st.tm 4).toNat * nC l + k.toNat + 1) none), (7, loopTm st.H 7 [4] [])] st
def lcRows1 : ACon Unit := mkLC (decP (shOne (shP 0)) shG) fun (_, (oe, ⟨l, oe2, ep⟩)) => .ask (oe = oe2 ∧ GW l) (.one (.h 3 [0, 0]) (gbi 0 oe ep l ++ [.gone, .rows (.c l) 45 105 0 (l.length * nC l + 1) none]) [])
def lcRows0 : ACon Unit := mkLC (decP (shOne shNilP) shHNil) fun _ => .one (.h 1 [0, 0]) [.gone, .own (.sv []) 0 105 1 0 true] []
set_option maxHeartbeats 4000000 in
theorem ok_rows1 : ∀ I : Sym.Inv Unit, LCOk I Tryz.prog 55 lcRows1 := by
  refine lc_mk (fun (_, (oe, ⟨l, oe2, ep⟩)) => allCfg Tryz.prog [] tabC 3 [(193, annRo l), (385, annRi l)]) (fun _ _ => allCfg_ok mixed trivial tabC_ok) (fun _ => rfl) (n := 80) Tryz.func55 ?_
  intro ⟨_, oe, ⟨l, oe2, ep⟩⟩ hφ
  obtain ⟨⟨rfl, hg⟩, hp⟩ := id hφ
  refine kcast (B := (true = true ∧ (oe = oe ∧ GW l) ∧ rq (decide ((0 : Int) ≤ (↑l.length : Int) ∧ (↑l.length : Int) ≤ (↑l.length : Int) ∧ (↑(24 : Nat) : Int) * (↑l.length : Int) ≤ (281474976710656 : Int) ∧ (↑l.length : Int) ≤ (9223372036854775807 : Int))) (true = true ∧
 (oe = oe ∧ GW l) ∧ Nils (List.replicate (↑l.length : Int).toNat (SV.v (Value.slice none (0 : Nat) (0 : Nat)))) (↑l.length : Int).toNat ∧ (II (0 : Int) ≤ (0 : Int) ∧ (0 : Int) ≤ (↑l.length : Int)) ∧ ((SV.y 7 = SV.y 7 ∧ SV.p 5 0 = SV.p 5 0 ∧ SV.p 8 0 =
 SV.p 8 0 ∧ vI (↑l.length : Int) = vI (↑l.length : Int) ∧ vI (0 : Int) = vI (0 : Int) ∧ True) ∧ (SV.h 1 [oe, 0] = SV.h 1 [oe, 0] ∧ True) ∧ (oe = oe ∧ ep = ep ∧ l = l) ∧ (vI (↑l.length : Int) = vI (↑l.length : Int) ∧ vI (↑(nC l) : Int) = vI (↑(nC l) :
 Int) ∧ True) ∧ ((0 : Nat) = (0 : Nat) ∧ (1 : Nat) = (0 : Nat) * nC l + (1 : Nat) ∧ List.replicate (↑l.length : Int).toNat [] = outL l (0 : Nat)) ∧ (SV.h 3 [0, 0] = SV.h 3 [0, 0] ∧ True) ∧ (SV.p 0 0 = SV.p 0 0 ∧ True) ∧ Obj.deferred (some []) =
 Obj.deferred (some []) ∧ ((SV.p 4 0 = SV.p 4 0 ∧ True) ∧ #[(14 : Nat), (15 : Nat)] = #[(14 : Nat), (15 : Nat)] ∧ codeAt Tryz.f55 [1, 1, 1, 0, 1, 0, 0] = codeAt Tryz.f55 [1, 1, 1, 0, 1, 0, 0] ∧ codeAt Tryz.f55 [1, 1, 1, 0, 1, 0, 1] = codeAt Tryz.f55
 [1, 1, 1, 0, 1, 0, 1]) ∧ (vI (↑l.length : Int) = vI (↑l.length : Int) ∧ vI (↑(nC l) : Int) = vI (↑(nC l) : Int) ∧ True) ∧ True) ∧ ∀ (x : Int), (0 : Int) ≤ x ∧ x ≤ (↑l.length : Int) → br (decide (x < (↑l.length : Int))) ((II (0 : Int) ≤ (0 : Int) ∧ (0
 : Int) ≤ (↑(nC l) : Int)) ∧ ((SV.y 7 = SV.y 7 ∧ SV.p 5 0 = SV.p 5 0 ∧ SV.p 8 0 = SV.p 8 0 ∧ vI x = vI x ∧ vI (↑l.length : Int) = vI (↑l.length : Int) ∧ vI x = vI x ∧ vI (↑(nC l) : Int) = vI (↑(nC l) : Int) ∧ vI (0 : Int) = vI (0 : Int) ∧ True) ∧
 (SV.h 1 [oe, 0] = SV.h 1 [oe, 0] ∧ True) ∧ (oe = oe ∧ ep = ep ∧ l = l) ∧ (vI (↑l.length : Int) = vI (↑l.length : Int) ∧ vI (↑(nC l) : Int) = vI (↑(nC l) : Int) ∧ True) ∧ ((0 : Nat) = (0 : Nat) ∧ x.toNat * nC l + (1 : Nat) = x.toNat * nC l + (0 : Nat)
 + (1 : Nat) ∧ outL l x.toNat = cpL l x.toNat (0 : Nat)) ∧ (SV.h 3 [0, 0] = SV.h 3 [0, 0] ∧ True) ∧ (SV.p 0 0 = SV.p 0 0 ∧ True) ∧ Obj.deferred (some []) = Obj.deferred (some []) ∧ ((SV.p 4 0 = SV.p 4 0 ∧ True) ∧ #[(14 : Nat), (15 : Nat)] = #[(14 :
 Nat), (15 : Nat)] ∧ codeAt Tryz.f55 [1, 1, 1, 0, 1, 0, 0] = codeAt Tryz.f55 [1, 1, 1, 0, 1, 0, 0] ∧ codeAt Tryz.f55 [1, 1, 1, 0, 1, 0, 1] = codeAt Tryz.f55 [1, 1, 1, 0, 1, 0, 1]) ∧ (vI (↑l.length : Int) = vI (↑l.length : Int) ∧ vI (↑(nC l) : Int) =
 vI (↑(nC l) : Int) ∧ True) ∧ True) ∧ ∀ (x_1 : Int), (0 : Int) ≤ x_1 ∧ x_1 ≤ (↑(nC l) : Int) → br (decide (x_1 < (↑(nC l) : Int))) (rq (oe.beq oe && (Nat.beq (1 : Nat) (1 : Nat) && decide ((0 : Int) ≤ x ∧ x < (↑(Rws.c l).len : Int)))) (rq (oe.beq oe
 && x.toNat.blt (Rws.c l).len) (rq (ep.beq ep && x.toNat.blt (Rws.c l).len && ((Rws.c l).sz.beq (4 : Nat) && decide ((0 : Int) ≤ x_1 ∧ x_1 < (↑((Rws.c l).nAt x.toNat) : Int)))) (rq (ep.beq ep && x.toNat.blt (Rws.c l).len && x_1.toNat.blt (l.getD
 x.toNat []).length) (rq (true && (Nat.beq (1 : Nat) (1 : Nat) && decide ((0 : Int) ≤ x ∧ x < (↑(Rws.c (cpL l x.toNat x_1.toNat)).len : Int)))) (rq (true && x.toNat.blt (Rws.c (cpL l x.toNat x_1.toNat)).len) (rq (true && ((x.toNat * nC l + x_1.toNat +
 (1 : Nat)).beq (x.toNat * nC l + x_1.toNat + (1 : Nat)) && (x.toNat.blt (Rws.c (cpL l x.toNat x_1.toNat)).len && decide ((Rws.c (cpL l x.toNat x_1.toNat)).nAt x.toNat + (1 : Nat) ≤ (9223372036854775807 : Nat) ∧ ((Rws.c (cpL l x.toNat x_1.toNat)).nAt
 x.toNat + (1 : Nat)) * (32 : Nat) ≤ (140737488355328 : Nat))))) (rq (true && (Nat.beq (1 : Nat) (1 : Nat) && decide ((0 : Int) ≤ x ∧ x < (↑(Rws.c ((cpL l x.toNat x_1.toNat).set x.toNat ((cpL l x.toNat x_1.toNat).getD x.toNat [] ++ [C4.mk ((l.getD
 x.toNat []).getD x_1.toNat C4.no).g ((l.getD x.toNat []).getD x_1.toNat C4.no).a ((l.getD x.toNat []).getD x_1.toNat C4.no).gd ((l.getD x.toNat []).getD x_1.toNat C4.no).m]))).len : Int)))) (rq (true && ((x.toNat * nC l + x_1.toNat + (1 : Nat) + (1 :
 Nat)).beq (x.toNat * nC l + x_1.toNat + (1 : Nat) + (1 : Nat)) && (x.toNat.beq x.toNat && (x.toNat.beq x.toNat && x.toNat.blt (Rws.c ((cpL l x.toNat x_1.toNat).set x.toNat ((cpL l x.toNat x_1.toNat).getD x.toNat [] ++ [C4.mk ((l.getD x.toNat []).getD
 x_1.toNat C4.no).g ((l.getD x.toNat []).getD x_1.toNat C4.no).a ((l.getD x.toNat []).getD x_1.toNat C4.no).gd ((l.getD x.toNat []).getD x_1.toNat C4.no).m]))).len)))) (((0 : Int) ≤ IntKind.i64.wrap (x_1 + (1 : Int)) ∧ IntKind.i64.wrap (x_1 + (1 :
 Int)) ≤ (↑(nC l) : Int)) ∧ ((SV.y 7 = SV.y 7 ∧ SV.p 5 0 = SV.p 5 0 ∧ SV.p 8 0 = SV.p 8 0 ∧ vI x = vI x ∧ vI (↑l.length : Int) = vI (↑l.length : Int) ∧ vI x = vI x ∧ vI (↑(nC l) : Int) = vI (↑(nC l) : Int) ∧ vI (IntKind.i64.wrap (x_1 + (1 : Int))) =
 vI (IntKind.i64.wrap (x_1 + (1 : Int))) ∧ True) ∧ (SV.h 1 [oe, 0] = SV.h 1 [oe, 0] ∧ True) ∧ (oe = oe ∧ ep = ep ∧ l = l) ∧ (vI (↑l.length : Int) = vI (↑l.length : Int) ∧ vI (↑(nC l) : Int) = vI (↑(nC l) : Int) ∧ True) ∧ ((0 : Nat) = (0 : Nat) ∧
 x.toNat * nC l + x_1.toNat + (1 : Nat) + (1 : Nat) = x.toNat * nC l + (IntKind.i64.wrap (x_1 + (1 : Int))).toNat + (1 : Nat) ∧ (cpL l x.toNat x_1.toNat).set x.toNat ((cpL l x.toNat x_1.toNat).getD x.toNat [] ++ [C4.mk ((l.getD x.toNat []).getD
 x_1.toNat C4.no).g ((l.getD x.toNat []).getD x_1.toNat C4.no).a ((l.getD x.toNat []).getD x_1.toNat C4.no).gd ((l.getD x.toNat []).getD x_1.toNat C4.no).m]) = cpL l x.toNat (IntKind.i64.wrap (x_1 + (1 : Int))).toNat) ∧ (SV.h 3 [0, 0] = SV.h 3 [0, 0]
 ∧ True) ∧ (SV.p 0 0 = SV.p 0 0 ∧ True) ∧ Obj.deferred (some []) = Obj.deferred (some []) ∧ ((SV.p 4 0 = SV.p 4 0 ∧ True) ∧ #[(14 : Nat), (15 : Nat)] = #[(14 : Nat), (15 : Nat)] ∧ codeAt Tryz.f55 [1, 1, 1, 0, 1, 0, 0] = codeAt Tryz.f55 [1, 1, 1, 0, 1,
 0, 0] ∧ codeAt Tryz.f55 [1, 1, 1, 0, 1, 0, 1] = codeAt Tryz.f55 [1, 1, 1, 0, 1, 0, 1]) ∧ (vI (↑l.length : Int) = vI (↑l.length : Int) ∧ vI (↑(nC l) : Int) = vI (↑(nC l) : Int) ∧ True) ∧ True) ∧ ((↑(nC l) : Int) - IntKind.i64.wrap (x_1 + (1 :
 Int))).toNat < ((↑(nC l) : Int) - x_1).toNat)))))))))) (((0 : Int) ≤ IntKind.i64.wrap (x + (1 : Int)) ∧ IntKind.i64.wrap (x + (1 : Int)) ≤ (↑l.length : Int)) ∧ ((SV.y 7 = SV.y 7 ∧ SV.p 5 0 = SV.p 5 0 ∧ SV.p 8 0 = SV.p 8 0 ∧ vI (↑l.length : Int) = vI
 (↑l.length : Int) ∧ vI (IntKind.i64.wrap (x + (1 : Int))) = vI (IntKind.i64.wrap (x + (1 : Int))) ∧ True) ∧ (SV.h 1 [oe, 0] = SV.h 1 [oe, 0] ∧ True) ∧ (oe = oe ∧ ep = ep ∧ l = l) ∧ (vI (↑l.length : Int) = vI (↑l.length : Int) ∧ vI (↑(nC l) : Int) =
 vI (↑(nC l) : Int) ∧ True) ∧ ((0 : Nat) = (0 : Nat) ∧ x.toNat * nC l + x_1.toNat + (1 : Nat) = (IntKind.i64.wrap (x + (1 : Int))).toNat * nC l + (1 : Nat) ∧ cpL l x.toNat x_1.toNat = outL l (IntKind.i64.wrap (x + (1 : Int))).toNat) ∧ (SV.h 3 [0, 0] =
 SV.h 3 [0, 0] ∧ True) ∧ (SV.p 0 0 = SV.p 0 0 ∧ True) ∧ Obj.deferred (some []) = Obj.deferred (some []) ∧ ((SV.p 4 0 = SV.p 4 0 ∧ True) ∧ #[(14 : Nat), (15 : Nat)] = #[(14 : Nat), (15 : Nat)] ∧ codeAt Tryz.f55 [1, 1, 1, 0, 1, 0, 0] = codeAt Tryz.f55
 [1, 1, 1, 0, 1, 0, 0] ∧ codeAt Tryz.f55 [1, 1, 1, 0, 1, 0, 1] = codeAt Tryz.f55 [1, 1, 1, 0, 1, 0, 1]) ∧ (vI (↑l.length : Int) = vI (↑l.length : Int) ∧ vI (↑(nC l) : Int) = vI (↑(nC l) : Int) ∧ True) ∧ True) ∧ ((↑l.length : Int) - IntKind.i64.wrap (x
 + (1 : Int))).toNat < ((↑l.length : Int) - x).toNat)) ((SV.h 3 [0, 0] = SV.h 3 [0, 0] ∧ True) ∧ (SV.h 1 [oe, 0] = SV.h 1 [oe, 0] ∧ True) ∧ (oe = oe ∧ ep = ep ∧ l = l) ∧ True ∧ ((0 : Nat) = (0 : Nat) ∧ x.toNat * nC l + (1 : Nat) = l.length * nC l + (1
 : Nat) ∧ outL l x.toNat = l) ∧ True)))) (by kernel_rfl) ?_
  clear hp hφ
  have hL := hg.r1
  have hC := hg.c1
  simp only [LC4, II, LLC, eLen, eNat, eSz, nbeq, rq_iff, br_iff, hg, Bool.true_and, Bool.and_true, true_and, and_true, Bool.and_eq_true, Nat.ble_eq, Nat.blt_eq, decide_eq_true_eq, decide_eq_false_iff_not, Int.toNat_natCast]
  refine ⟨by omega, ⟨rfl⟩, by omega, ⟨by omega, (outL_zero l).symm⟩, fun r ⟨hr0, hr1⟩ => ⟨fun hlt => ?_, fun hge => ?_⟩⟩
  · have hr : r.toNat < l.length := by omega
    have hrow := hg.row hr
    refine ⟨by omega, (cpL_zero hr).symm, fun k ⟨hk0, hk1⟩ => ⟨fun hkl => ?_, fun hge => ?_⟩⟩
    · have hlen : (cpL l r.toNat k.toNat).length = l.length := cpL_length hr
      have hk : k.toNat < (l.getD r.toNat []).length := by omega
      have hs := cpL_succ hr hk
      have hlen2 : (cpL l r.toNat (k.toNat + 1)).length = l.length := cpL_length hr
      simp only [cpL_get hr, hlen, hs, hlen2, List.length_set, List.length_take]
      rw [wrap64 (x := k + 1) (by omega) (by omega)]
      have e1 : (k + 1).toNat = k.toNat + 1 := by omega
      rw [e1]
      exact ⟨decide_eq_true (by omega), hr, ⟨hr, decide_eq_true (by omega)⟩, ⟨hr, hk⟩, decide_eq_true (by omega), hr, ⟨hr, decide_eq_true (by omega)⟩, decide_eq_true (by omega), hr, by omega, ⟨by omega, rfl⟩, by omega⟩
    · obtain rfl : k = nC l := by omega
      rw [wrap64 (x := r + 1) (by omega) (by omega)]
      have e1 : (r + 1).toNat = r.toNat + 1 := by omega
      rw [e1]
      exact ⟨by omega, ⟨by rw [Nat.add_mul]; omega, cpL_all hr (by rw [hrow]; omega)⟩, by omega⟩
  · obtain rfl : r = l.length := by omega
    exact ⟨rfl, outL_all l⟩
set_option maxHeartbeats 4000000 in
theorem ok_rows0 : ∀ I : Sym.Inv Unit, LCOk I Tryz.prog 55 lcRows0 := by
  refine lc_mk (fun _ => allCfg Tryz.prog [] tabC 3 []) (fun _ _ => allCfg_ok mixed trivial tabC_ok) (fun _ => rfl) (n := 80) Tryz.func55 ?_
  intro ⟨_, _⟩ hφ
  refine kcast (B := (true = true ∧ true = true ∧ (SV.h 1 [0, 0] = SV.h 1 [0, 0] ∧ True) ∧ True ∧ ((0 : Nat) = (0 : Nat) ∧ (0 : Nat) = (0 : Nat) ∧ True) ∧ True)) (by kernel_rfl) ?_
  exact ⟨rfl, rfl, ⟨rfl, trivial⟩, trivial, ⟨rfl, rfl, trivial⟩, trivial⟩
def lcRows : ACon Unit := lcOr lcRows1 lcRows0
theorem ok_rows : ∀ I : Sym.Inv Unit, LCOk I Tryz.prog 55 lcRows := lcOr_ok ok_rows1 ok_rows0
def tabD : List (Nat × ACon Unit) := (55, lcRows) :: tabC
theorem tabD_ok : LCs Tryz.prog tabD := ⟨ok_rows, tabC_ok⟩
def shOut (b : Nat) : Sh (Nat × Nat × Nat) where
  enc a := .h b [a.1, 0, a.2.1, a.2.2, 0]
  dec x := match x with
    | .h b' q => match Nat.beq b' b with
      | true => match q with
        | [oe, o, lo, len, z] => match o with
          | 0 => match z with
            | 0 => some (oe, lo, len)
            | _ => none
          | _ => none
        | _ => none
      | false => none
    | _ => none
  ok x a h := by
    split at h
    · split at h
      · rename_i hT
        rw [Nat.beq_eq] at hT
        subst hT
        split at h
        · split at h
          · split at h
            · simp only [Option.some.injEq] at h; subst h; rfl
            · cases h
          · cases h
        · cases h
      · cases h
    · cases h
def limAt1 {α : Type} (lo len : Nat) (n : Int) (x : α) (i : Nat) : Nat ⊕ α := if n > (len : Int) - 1 - i ∨ n < -(i : Int) then .inr x else .inl (lo + (i + n).toNat)
def limL {α : Type} (lo len : Nat) (n : Int) (x : α) : List (Nat ⊕ α) := (List.range len).map (limAt1 lo len n x)
theorem limL_length {α : Type} (lo len : Nat) (n : Int) (x : α) : (limL lo len n x).length = len := by simp [limL]
theorem limL_succ {α : Type} {lo len : Nat} {n : Int} {x : α} {k : Int} (h0 : 0 ≤ k) (h1 : k < len) : (limL lo len n x).take (k + 1).toNat = (limL lo len n x).take k.toNat ++ [limAt1 lo len n x k.toNat] := by
  rw [show (k + 1).toNat = k.toNat + 1 by omega, List.take_succ_eq_append_getElem (by rw [limL_length]; omega)]
  simp [limL]
theorem limL_get {α : Type} {lo len : Nat} {n : Int} {x : α} {i : Nat} (h : i < len) : (limL lo len n x)[i]? = some (limAt1 lo len n x i) := by simp [limL, h]
theorem limL_fits {α : Type} {lo len N : Nat} {n : Int} {x : α} (h : lo + len ≤ N) {p j : Nat} (hp : p < N) (hj : ixAt (limL lo len n x) lo p = some j) :
    j < N ∧ ∀ p' j', p' < N → p ≠ p' → ixAt (limL lo len n x) lo p' = some j' → j ≠ j' := by
  have key : ∀ p j, p < N → ixAt (limL lo len n x) lo p = some j → (j = p ∧ (p < lo ∨ lo + len ≤ p)) ∨ (lo ≤ p ∧ p < lo + len ∧ (j : Int) = p + n ∧ lo ≤ j ∧ j < lo + len) := fun p j hp hj => by
    unfold ixAt at hj
    split at hj
    · rename_i hb
      rw [Nat.blt_eq] at hb
      simp only [Option.some.injEq] at hj
      exact .inl ⟨hj.symm, .inl hb⟩
    · rename_i hb
      have hb : ¬ p < lo := by rw [← Nat.blt_eq, hb]; simp
      by_cases hl : p - lo < len
      · rw [limL_get hl] at hj
        have hj2 : (match limAt1 lo len n x (p - lo) with
          | .inl j => some j
          | .inr _ => none) = some j := hj
        unfold limAt1 at hj2
        by_cases hc : n > (len : Int) - 1 - (p - lo : Nat) ∨ n < -((p - lo : Nat) : Int)
        · rw [if_pos hc] at hj2; cases hj2
        · rw [if_neg hc] at hj2
          simp only [Option.some.injEq] at hj2
          right
          omega
      · rw [List.getElem?_eq_none (by rw [limL_length]; omega)] at hj
        simp only [Option.some.injEq] at hj
        exact .inl ⟨hj.symm, .inr (by omega)⟩
  have h1 := key p j hp hj
  refine ⟨by omega, fun p' j' hp' hne hj' => ?_⟩
  have h2 := key p' j' hp' hj'
  omega
def annMR (lo len : Nat) (n : Int) (row : List C4) (ep : Nat) : Ann Unit where
  α := Int
  φ _ k := 0 ≤ k ∧ k ≤ len
  μ _ k := ((len : Int) - k).toNat
  get st := getI st.tm 14
  f st k := tmpl [0, 1, 2, 13] [(14, .v (.int .i64 k)), (7, .h 4 [k.toNat, 0])] [(4, .limbo 0 ep (.c ((limL lo len n row).take k.toNat)) 45 105 k.toNat)] st
  fx st := match isOwn st.H 4 with
    | true => [.asLimbo 4 0 none 45]
    | false => []
def lcMovR : ACon Unit := mkLC (decP (shCons (shOut 0) (shCons shI (shOne (shF 116 (shCons (shP 1) (shOne (shP 2))))))) (shHCons (shRowsC 45 105) (shHCons (shCells shCL 45) (shHCons (shCells (shOne (shP 3)) 86) (shHOne (shCells (shOne (shO 0)) 110))))))
  fun (((oe1, lo, len), n, _), (⟨l, oe, ep⟩, x, _, oe3)) => .ask (oe1 = oe ∧ oe3 = oe ∧ GW l ∧ lo + len ≤ l.length ∧ 0 < len) (.one (.h 4 [len, 0])
    [.rows (.c l) 45 105 oe ep none, .cells (recS x) 45, .cells [.p 3 0] 86, .cells [.h 0 [oe, 0]] 110, .limbo 0 ep (.c (limL lo len n (List.replicate (nC l) x))) 45 105 len] [])
set_option maxHeartbeats 4000000 in
theorem ok_movR : ∀ I : Sym.Inv Unit, LCOk I Tryz.prog 117 lcMovR := by
  refine lc_mk (fun (((oe1, lo, len), n, _), (⟨l, oe, ep⟩, x, _, oe3)) => allCfg Tryz.prog [] tabD 3 [(257, annMR lo len n (List.replicate (nC l) x) ep)]) (fun _ _ => allCfg_ok mixed trivial tabD_ok) (fun _ => rfl) (n := 80) Tryz.func117 ?_
  intro ⟨⟨⟨oe1, lo, len⟩, n, _⟩, ⟨l, oe, ep⟩, x, _, oe3⟩ hφ
  obtain ⟨⟨rfl, rfl, hg, h1, h2⟩, hp⟩ := id hφ
  refine kcast (B := (rq (oe3.beq oe3 && Nat.blt (0 : Nat) (Rws.c l).len) (rq (decide ((0 : Int) ≤ (0 : Int) ∧ (0 : Int) ≤ (↑len : Int) ∧ (↑(24 : Nat) : Int) * (↑len : Int) ≤ (281474976710656 : Int) ∧ (↑len : Int) ≤ (9223372036854775807 : Int))) (rq (oe3.beq oe3 &&
 Nat.blt (0 : Nat) (Rws.c l).len) (NoRow [] (0 : Nat) ∧ (II (0 : Int) ≤ (0 : Int) ∧ (0 : Int) ≤ (↑len : Int)) ∧ ((SV.h 0 [oe3, 0, lo, len, 0] = SV.h 0 [oe3, 0, lo, len, 0] ∧ vI n = vI n ∧ SV.f (Fn.func (116 : Nat)) [SV.p 1 0, SV.p 2 0] = SV.f (Fn.func
 (116 : Nat)) [SV.p 1 0, SV.p 2 0] ∧ SV.h 4 [0, 0] = SV.h 4 [0, 0] ∧ vI (↑len : Int) = vI (↑len : Int) ∧ vI (0 : Int) = vI (0 : Int) ∧ True) ∧ (oe3 = oe3 ∧ ep = ep ∧ l = l) ∧ (SV.v (Value.int IntKind.i32 x.g) = SV.v (Value.int IntKind.i32 x.g) ∧ vI
 x.a = vI x.a ∧ vB x.gd = vB x.gd ∧ vI x.m = vI x.m ∧ True) ∧ (SV.p 3 0 = SV.p 3 0 ∧ True) ∧ (SV.h 0 [oe3, 0] = SV.h 0 [oe3, 0] ∧ True) ∧ (ep = ep ∧ (0 : Nat) = (0 : Nat) ∧ LJC [] = []) ∧ True) ∧ ∀ (x_1 : Int), (0 : Int) ≤ x_1 ∧ x_1 ≤ (↑len : Int) →
 br (decide (x_1 < (↑len : Int))) (rq (oe3.beq oe3 && Nat.blt (0 : Nat) (Rws.c l).len) (br (decide (n > IntKind.i64.wrap (IntKind.i64.wrap ((↑len : Int) - (1 : Int)) - x_1))) (rq (oe3.beq oe3 && (Nat.beq (1 : Nat) (1 : Nat) && decide ((0 : Int) ≤ (0 :
 Int) ∧ (0 : Int) < (↑(Rws.c l).len : Int)))) (rq (oe3.beq oe3 && Nat.blt (0 : Nat) (Rws.c l).len) (rq (ep.beq ep && Nat.blt (0 : Nat) (Rws.c l).len) (true = true ∧ ((1 : Int) ≤ (↑((Rws.c l).nAt (0 : Nat)) : Int) ∧ (↑((Rws.c l).nAt (0 : Nat)) : Int) ≤
 (255 : Int)) ∧ rq (true && (x_1.toNat.beq x_1.toNat && (true && decide ((Lim.c (List.take x_1.toNat (limL lo len n (List.replicate (nC l) x)))).len + (1 : Nat) ≤ (9223372036854775807 : Nat) ∧ ((Lim.c (List.take x_1.toNat (limL lo len n
 (List.replicate (nC l) x)))).len + (1 : Nat)) * (24 : Nat) ≤ (140737488355328 : Nat))))) (((0 : Int) ≤ IntKind.i64.wrap (x_1 + (1 : Int)) ∧ IntKind.i64.wrap (x_1 + (1 : Int)) ≤ (↑len : Int)) ∧ ((SV.h 0 [oe3, 0, lo, len, 0] = SV.h 0 [oe3, 0, lo, len,
 0] ∧ vI n = vI n ∧ SV.f (Fn.func (116 : Nat)) [SV.p 1 0, SV.p 2 0] = SV.f (Fn.func (116 : Nat)) [SV.p 1 0, SV.p 2 0] ∧ SV.h 4 [x_1.toNat + 1, 0] = SV.h 4 [(IntKind.i64.wrap (x_1 + (1 : Int))).toNat, 0] ∧ vI (↑len : Int) = vI (↑len : Int) ∧ vI
 (IntKind.i64.wrap (x_1 + (1 : Int))) = vI (IntKind.i64.wrap (x_1 + (1 : Int))) ∧ True) ∧ (oe3 = oe3 ∧ ep = ep ∧ l = l) ∧ (SV.v (Value.int IntKind.i32 x.g) = SV.v (Value.int IntKind.i32 x.g) ∧ vI x.a = vI x.a ∧ vB x.gd = vB x.gd ∧ vI x.m = vI x.m ∧
 True) ∧ (SV.p 3 0 = SV.p 3 0 ∧ True) ∧ (SV.h 0 [oe3, 0] = SV.h 0 [oe3, 0] ∧ True) ∧ (ep = ep ∧ x_1.toNat + (1 : Nat) = (IntKind.i64.wrap (x_1 + (1 : Int))).toNat ∧ List.take x_1.toNat (limL lo len n (List.replicate (nC l) x)) ++ [Sum.inr
 (List.replicate (↑((Rws.c l).nAt (0 : Nat)) : Int).toNat (C4.mk x.g x.a x.gd x.m))] = List.take (IntKind.i64.wrap (x_1 + (1 : Int))).toNat (limL lo len n (List.replicate (nC l) x))) ∧ True) ∧ ((↑len : Int) - IntKind.i64.wrap (x_1 + (1 : Int))).toNat
 < ((↑len : Int) - x_1).toNat))))) (br (decide (n < IntKind.i64.wrap ((0 : Int) - x_1))) (rq (oe3.beq oe3 && (Nat.beq (1 : Nat) (1 : Nat) && decide ((0 : Int) ≤ (0 : Int) ∧ (0 : Int) < (↑(Rws.c l).len : Int)))) (rq (oe3.beq oe3 && Nat.blt (0 : Nat)
 (Rws.c l).len) (rq (ep.beq ep && Nat.blt (0 : Nat) (Rws.c l).len) (true = true ∧ ((1 : Int) ≤ (↑((Rws.c l).nAt (0 : Nat)) : Int) ∧ (↑((Rws.c l).nAt (0 : Nat)) : Int) ≤ (255 : Int)) ∧ rq (true && (x_1.toNat.beq x_1.toNat && (true && decide ((Lim.c
 (List.take x_1.toNat (limL lo len n (List.replicate (nC l) x)))).len + (1 : Nat) ≤ (9223372036854775807 : Nat) ∧ ((Lim.c (List.take x_1.toNat (limL lo len n (List.replicate (nC l) x)))).len + (1 : Nat)) * (24 : Nat) ≤ (140737488355328 : Nat))))) (((0
 : Int) ≤ IntKind.i64.wrap (x_1 + (1 : Int)) ∧ IntKind.i64.wrap (x_1 + (1 : Int)) ≤ (↑len : Int)) ∧ ((SV.h 0 [oe3, 0, lo, len, 0] = SV.h 0 [oe3, 0, lo, len, 0] ∧ vI n = vI n ∧ SV.f (Fn.func (116 : Nat)) [SV.p 1 0, SV.p 2 0] = SV.f (Fn.func (116 :
 Nat)) [SV.p 1 0, SV.p 2 0] ∧ SV.h 4 [x_1.toNat + 1, 0] = SV.h 4 [(IntKind.i64.wrap (x_1 + (1 : Int))).toNat, 0] ∧ vI (↑len : Int) = vI (↑len : Int) ∧ vI (IntKind.i64.wrap (x_1 + (1 : Int))) = vI (IntKind.i64.wrap (x_1 + (1 : Int))) ∧ True) ∧ (oe3 =
 oe3 ∧ ep = ep ∧ l = l) ∧ (SV.v (Value.int IntKind.i32 x.g) = SV.v (Value.int IntKind.i32 x.g) ∧ vI x.a = vI x.a ∧ vB x.gd = vB x.gd ∧ vI x.m = vI x.m ∧ True) ∧ (SV.p 3 0 = SV.p 3 0 ∧ True) ∧ (SV.h 0 [oe3, 0] = SV.h 0 [oe3, 0] ∧ True) ∧ (ep = ep ∧
 x_1.toNat + (1 : Nat) = (IntKind.i64.wrap (x_1 + (1 : Int))).toNat ∧ List.take x_1.toNat (limL lo len n (List.replicate (nC l) x)) ++ [Sum.inr (List.replicate (↑((Rws.c l).nAt (0 : Nat)) : Int).toNat (C4.mk x.g x.a x.gd x.m))] = List.take
 (IntKind.i64.wrap (x_1 + (1 : Int))).toNat (limL lo len n (List.replicate (nC l) x))) ∧ True) ∧ ((↑len : Int) - IntKind.i64.wrap (x_1 + (1 : Int))).toNat < ((↑len : Int) - x_1).toNat))))) (rq (oe3.beq oe3 && (Nat.beq (1 : Nat) (1 : Nat) && ((lo +
 len).ble (Rws.c l).len && decide ((0 : Int) ≤ IntKind.i64.wrap (x_1 + n) ∧ IntKind.i64.wrap (x_1 + n) < (↑len : Int))))) (rq (oe3.beq oe3 && (lo + (IntKind.i64.wrap (x_1 + n)).toNat).blt (Rws.c l).len) (rq (true && (x_1.toNat.beq x_1.toNat && (ep.beq
 ep && decide ((Lim.c (List.take x_1.toNat (limL lo len n (List.replicate (nC l) x)))).len + (1 : Nat) ≤ (9223372036854775807 : Nat) ∧ ((Lim.c (List.take x_1.toNat (limL lo len n (List.replicate (nC l) x)))).len + (1 : Nat)) * (24 : Nat) ≤
 (140737488355328 : Nat))))) (((0 : Int) ≤ IntKind.i64.wrap (x_1 + (1 : Int)) ∧ IntKind.i64.wrap (x_1 + (1 : Int)) ≤ (↑len : Int)) ∧ ((SV.h 0 [oe3, 0, lo, len, 0] = SV.h 0 [oe3, 0, lo, len, 0] ∧ vI n = vI n ∧ SV.f (Fn.func (116 : Nat)) [SV.p 1 0, SV.p
 2 0] = SV.f (Fn.func (116 : Nat)) [SV.p 1 0, SV.p 2 0] ∧ SV.h 4 [x_1.toNat + 1, 0] = SV.h 4 [(IntKind.i64.wrap (x_1 + (1 : Int))).toNat, 0] ∧ vI (↑len : Int) = vI (↑len : Int) ∧ vI (IntKind.i64.wrap (x_1 + (1 : Int))) = vI (IntKind.i64.wrap (x_1 + (1
 : Int))) ∧ True) ∧ (oe3 = oe3 ∧ ep = ep ∧ l = l) ∧ (SV.v (Value.int IntKind.i32 x.g) = SV.v (Value.int IntKind.i32 x.g) ∧ vI x.a = vI x.a ∧ vB x.gd = vB x.gd ∧ vI x.m = vI x.m ∧ True) ∧ (SV.p 3 0 = SV.p 3 0 ∧ True) ∧ (SV.h 0 [oe3, 0] = SV.h 0 [oe3,
 0] ∧ True) ∧ (ep = ep ∧ x_1.toNat + (1 : Nat) = (IntKind.i64.wrap (x_1 + (1 : Int))).toNat ∧ List.take x_1.toNat (limL lo len n (List.replicate (nC l) x)) ++ [Sum.inl (lo + (IntKind.i64.wrap (x_1 + n)).toNat)] = List.take (IntKind.i64.wrap (x_1 + (1
 : Int))).toNat (limL lo len n (List.replicate (nC l) x))) ∧ True) ∧ ((↑len : Int) - IntKind.i64.wrap (x_1 + (1 : Int))).toNat < ((↑len : Int) - x_1).toNat))))))) ((SV.h 4 [x_1.toNat, 0] = SV.h 4 [len, 0] ∧ True) ∧ (oe3 = oe3 ∧ ep = ep ∧ l = l) ∧
 (SV.v (Value.int IntKind.i32 x.g) = SV.v (Value.int IntKind.i32 x.g) ∧ vI x.a = vI x.a ∧ vB x.gd = vB x.gd ∧ vI x.m = vI x.m ∧ True) ∧ (SV.p 3 0 = SV.p 3 0 ∧ True) ∧ (SV.h 0 [oe3, 0] = SV.h 0 [oe3, 0] ∧ True) ∧ (ep = ep ∧ x_1.toNat = len ∧ List.take
 x_1.toNat (limL lo len n (List.replicate (nC l) x)) = limL lo len n (List.replicate (nC l) x)) ∧ True)))))) (by kernel_rfl) ?_
  clear hp hφ
  have hL := hg.r1
  have hC := hg.c1
  have hC0 := hg.c0
  have e0 : (l.getD 0 []).length = nC l := rfl
  have eLim : ∀ k : Nat, k ≤ len → (Lim.c ((limL lo len n (List.replicate (nC l) x)).take k)).len = k := fun k hk => by
    show ((limL lo len n (List.replicate (nC l) x)).take k).length = k
    rw [List.length_take, limL_length]; omega
  simp only [LC4, II, LLC, LJC, eLen, eNat, eSz, e0, nbeq, rq_iff, br_iff, hg, Bool.true_and, Bool.and_true, true_and, and_true, Bool.and_eq_true, Nat.ble_eq, Nat.blt_eq, decide_eq_true_eq, decide_eq_false_iff_not, Int.toNat_natCast]
  refine ⟨by omega, by omega, by omega, ⟨rfl, rfl⟩, ⟨by omega, by omega⟩, fun k ⟨hk0, hk1⟩ => ⟨fun hlt => ⟨by omega, ?_⟩, fun hge => ?_⟩⟩
  · rw [wrap64 (x := (len : Int) - 1) (by omega) (by omega), wrap64 (x := (len : Int) - 1 - k) (by omega) (by omega), wrap64 (x := k + 1) (by omega) (by omega), wrap64 (x := 0 - k) (by omega) (by omega), eLim _ (by omega)]
    have hs := limL_succ (lo := lo) (len := len) (n := n) (x := List.replicate (nC l) x) hk0 (by omega)
    have e3 : k.toNat + 1 = (k + 1).toNat := by omega
    have e4 : ((k.toNat : Nat) : Int) = k := by omega
    rw [e3, hs]
    have eT : Int.toNat (nC l : Int) = nC l := by omega
    refine ⟨fun h5 => ?_, fun h5 => ⟨fun h6 => ?_, fun h6 => ?_⟩⟩
    · have : limAt1 lo len n (List.replicate (nC l) x) k.toNat = .inr (List.replicate (nC l) x) := if_pos (.inl (by rw [e4]; omega))
      rw [this]
      exact ⟨decide_eq_true (by omega), by omega, by omega, ⟨by omega, by omega⟩, ⟨by omega, by omega⟩, ⟨by omega, by omega⟩, ⟨rfl, rfl, rfl⟩, by omega⟩
    · have : limAt1 lo len n (List.replicate (nC l) x) k.toNat = .inr (List.replicate (nC l) x) := if_pos (.inr (by rw [e4]; omega))
      rw [this]
      exact ⟨decide_eq_true (by omega), by omega, by omega, ⟨by omega, by omega⟩, ⟨by omega, by omega⟩, ⟨by omega, by omega⟩, ⟨rfl, rfl, rfl⟩, by omega⟩
    · have : limAt1 lo len n (List.replicate (nC l) x) k.toNat = .inl (lo + (k + n).toNat) := by
        unfold limAt1
        rw [if_neg (by rw [e4]; omega), e4]
      rw [wrap64 (x := k + n) (by omega) (by omega), this]
      exact ⟨⟨by omega, by omega, by omega⟩, by omega, ⟨by omega, by omega⟩, ⟨by omega, by omega⟩, ⟨rfl, rfl, rfl⟩, by omega⟩
  · have hk : k = len := by omega
    subst hk
    have : (limL lo len n (List.replicate (nC l) x)).take (Int.toNat (len : Int)) = limL lo len n (List.replicate (nC l) x) := List.take_of_length_le (by rw [limL_length]; omega)
    rw [this]
    simp
def rollL (l : List (List C4)) (top bot : Nat) (n : Int) (x : C4) : List (List C4) := mrg l [] top (limL top (bot + 1 - top) n (List.replicate (nC l) x))
def lcRoll1 : ACon Unit := mkLC (decP (shCons (shP 0) (shCons shI (shCons shI (shCons shI (shOne shC))))) shG) fun ((_, t, b, n, x), (oe, ⟨l, oe2, ep⟩)) => .ask (oe = oe2 ∧ GW l) (.br (inB l t 0 && inB l b 0)
  (.br (decide (b < t)) (.one (.v (.int .i64 1)) (gbi 0 oe ep l) [1]) (.one (.v (.int .i64 0)) (gbi 0 oe (ep + 1) (rollL l t.toNat b.toNat n x)) [1])) (.one (.v (.int .i64 11)) (gbi 0 oe ep l) [1]))
def tabG : List (Nat × ACon Unit) := (117, lcMovR) :: tabD
theorem tabG_ok : LCs Tryz.prog tabG := ⟨ok_movR, tabD_ok⟩
set_option maxHeartbeats 4000000 in
theorem ok_roll1 : ∀ I : Sym.Inv Unit, LCOk I Tryz.prog 105 lcRoll1 := by
  refine lc_mk (fun _ => allCfg Tryz.prog [] tabG 3) (fun _ _ => allCfg_ok mixed trivial tabG_ok) (fun _ => rfl) (n := 80) Tryz.func105 ?_
  intro ⟨⟨_, t, b, n, x⟩, ⟨oe, ⟨l, oe2, ep⟩⟩⟩ hφ
  obtain ⟨⟨rfl, hg⟩, hp⟩ := id hφ
  refine kcast (B := (true = true ∧ (oe = oe ∧ GW l) ∧ br (inB l t (0 : Int) && inB l b (0 : Int)) (br (decide (b < t)) (br (inB l t (0 : Int) && inB l b (0 : Int)) (br (decide (b < t)) ((vI (1 : Int) = vI (1 : Int) ∧ True) ∧ (SV.h 1 [oe, 0] = SV.h 1 [oe, 0] ∧ True) ∧
 (oe = oe ∧ ep = ep ∧ l = l) ∧ True) ((vI (1 : Int) = vI (0 : Int) ∧ True) ∧ (SV.h 1 [oe, 0] = SV.h 1 [oe, 0] ∧ True) ∧ (oe = oe ∧ ep = ep + 1 ∧ l = rollL l t.toNat b.toNat n x) ∧ True)) ((vI (1 : Int) = vI (11 : Int) ∧ True) ∧ (SV.h 1 [oe, 0] = SV.h
 1 [oe, 0] ∧ True) ∧ (oe = oe ∧ ep = ep ∧ l = l) ∧ True)) (rq (oe.beq oe && (true && decide ((0 : Int) ≤ t ∧ t ≤ (↑(Rws.c l).len : Int) ∧ (↑(Rws.c l).len : Int) ≤ (↑(Rws.c l).len : Int)))) (rq (oe.beq oe && (true && decide ((0 : Int) ≤ t ∧ t ≤
 IntKind.i64.wrap (b + (1 : Int)) ∧ IntKind.i64.wrap (b + (1 : Int)) ≤ (↑(Rws.c l).len : Int)))) (true = true ∧ (oe = oe ∧ oe = oe ∧ GW l ∧ t.toNat + ((IntKind.i64.wrap (b + (1 : Int))).toNat - t.toNat) ≤ l.length ∧ (0 : Nat) < (IntKind.i64.wrap (b +
 (1 : Int))).toNat - t.toNat) ∧ rq (oe.beq oe && (ep.beq ep && (((IntKind.i64.wrap (b + (1 : Int))).toNat - t.toNat).beq ((IntKind.i64.wrap (b + (1 : Int))).toNat - t.toNat) && ((t.toNat + ((↑(Rws.c l).len : Int).toNat - t.toNat)).ble (Rws.c l).len &&
 ((Lim.c (limL t.toNat ((IntKind.i64.wrap (b + (1 : Int))).toNat - t.toNat) n (List.replicate (nC l) (C4.mk x.g x.a x.gd x.m)))).len.ble ((↑(Rws.c l).len : Int).toNat - t.toNat) && (Nat.blt (0 : Nat) (Rws.c l).len && fitsB (Rws.c l).len t.toNat (Lim.c
 (limL t.toNat ((IntKind.i64.wrap (b + (1 : Int))).toNat - t.toNat) n (List.replicate (nC l) (C4.mk x.g x.a x.gd x.m)))))))))) ((oe = oe ∧ ep = ep ∧ l = l) ∧ [SV.h 1 [oe, 0]] = [SV.h 1 [oe, 0]] ∧ [SV.p 0 0] = [SV.p 0 0] ∧ br (inB l t (0 : Int) && inB
 l b (0 : Int)) (br (decide (b < t)) ((vI (0 : Int) = vI (1 : Int) ∧ True) ∧ (SV.h 1 [oe, 0] = SV.h 1 [oe, 0] ∧ True) ∧ (oe = oe ∧ ep + 1 = ep ∧ mrg l [] t.toNat (limL t.toNat ((IntKind.i64.wrap (b + (1 : Int))).toNat - t.toNat) n (List.replicate (nC
 l) (C4.mk x.g x.a x.gd x.m))) = l) ∧ True) ((vI (0 : Int) = vI (0 : Int) ∧ True) ∧ (SV.h 1 [oe, 0] = SV.h 1 [oe, 0] ∧ True) ∧ (oe = oe ∧ ep + 1 = ep + 1 ∧ mrg l [] t.toNat (limL t.toNat ((IntKind.i64.wrap (b + (1 : Int))).toNat - t.toNat) n
 (List.replicate (nC l) (C4.mk x.g x.a x.gd x.m))) = rollL l t.toNat b.toNat n x) ∧ True)) ((vI (0 : Int) = vI (11 : Int) ∧ True) ∧ (SV.h 1 [oe, 0] = SV.h 1 [oe, 0] ∧ True) ∧ (oe = oe ∧ ep + 1 = ep ∧ mrg l [] t.toNat (limL t.toNat ((IntKind.i64.wrap
 (b + (1 : Int))).toNat - t.toNat) n (List.replicate (nC l) (C4.mk x.g x.a x.gd x.m))) = l) ∧ True)))))) (br (inB l t (0 : Int) && inB l b (0 : Int)) (br (decide (b < t)) ((vI (11 : Int) = vI (1 : Int) ∧ True) ∧ (SV.h 1 [oe, 0] = SV.h 1 [oe, 0] ∧
 True) ∧ (oe = oe ∧ ep = ep ∧ l = l) ∧ True) ((vI (11 : Int) = vI (0 : Int) ∧ True) ∧ (SV.h 1 [oe, 0] = SV.h 1 [oe, 0] ∧ True) ∧ (oe = oe ∧ ep = ep + 1 ∧ l = rollL l t.toNat b.toNat n x) ∧ True)) ((vI (11 : Int) = vI (11 : Int) ∧ True) ∧ (SV.h 1 [oe,
 0] = SV.h 1 [oe, 0] ∧ True) ∧ (oe = oe ∧ ep = ep ∧ l = l) ∧ True)))) (by kernel_rfl) ?_
  refine ⟨rfl, ⟨rfl, hg⟩, ?_⟩
  clear hp hφ
  have hg1 := hg.r1
  have hg2 := hg.c1
  cases h : inB l t 0 <;> cases h' : inB l b 0
  · simp only [br_iff, Bool.and_self, Bool.false_eq_true, false_implies, true_implies, true_and, and_true]
  · simp only [br_iff, Bool.false_and, Bool.false_eq_true, false_implies, true_implies, true_and, and_true]
  · simp only [br_iff, Bool.and_false, Bool.false_eq_true, false_implies, true_implies, true_and, and_true]
  rw [inB_iff] at h h'
  by_cases hba : b < t
  · simp only [br_iff, rq_iff, hba, decide_true, Bool.and_self, Bool.true_eq_false, false_implies, true_implies, true_and, and_true]
  have ew : IntKind.i64.wrap (b + 1) = b + 1 := wrap64 (by omega) (by omega)
  have e7 : (b + 1).toNat - t.toNat = b.toNat + 1 - t.toNat := by omega
  have eLim : (Lim.c (limL t.toNat (b.toNat + 1 - t.toNat) n (List.replicate (nC l) x))).len = b.toNat + 1 - t.toNat := limL_length _ _ _ _
  have hf : fitsB l.length t.toNat (Lim.c (limL t.toNat (b.toNat + 1 - t.toNat) n (List.replicate (nC l) x))) = true := fitsB_of fun p j hp hj => limL_fits (by omega) hp hj
  simp only [LC4, II, LLC, eLen, eNat, eSz, br_iff, rq_iff, nbeq, hba, hg, ew, e7, eLim, hf, decide_false, Bool.and_self, Bool.true_eq_false, Bool.false_eq_true, false_implies, true_implies, true_and, and_true, Bool.true_and, Bool.and_true, Bool.and_eq_true, Nat.ble_eq, Nat.blt_eq, decide_eq_true_eq]
  exact ⟨decide_eq_true (by omega), by omega, ⟨by omega, by omega⟩, ⟨by omega, by omega, by omega⟩, rfl⟩
def lcRoll0 : ACon Unit := mkLC (decP (shCons shNilP (shCons shI (shCons shI (shCons shI (shOne shC))))) shHNil) fun _ => .one (.v (.int .i64 2)) [] []
set_option maxHeartbeats 4000000 in
theorem ok_roll0 : ∀ I : Sym.Inv Unit, LCOk I Tryz.prog 105 lcRoll0 := by
  refine lc_mk (fun _ => allCfg Tryz.prog [] tabD 3) (fun _ _ => allCfg_ok mixed trivial tabD_ok) (fun _ => rfl) (n := 80) Tryz.func105 ?_
  intro ⟨⟨_, r, a, b, n⟩, _⟩ hφ
  refine kcast (B := (true = true ∧ (vI (2 : Int) = vI (2 : Int) ∧ True) ∧ True)) (by kernel_rfl) ?_
  exact ⟨rfl, ⟨rfl, trivial⟩, trivial⟩
def lcRoll : ACon Unit := lcOr lcRoll1 lcRoll0
theorem ok_roll : ∀ I : Sym.Inv Unit, LCOk I Tryz.prog 105 lcRoll := lcOr_ok ok_roll1 ok_roll0
end Go.Proofs.YtcbjgpkbfmmdpaaGreatDoor
namespace Go.Proofs.YtcbjgpkbfmmdpaaGreatDoor
open Go Go.Sym
def gridF {α : Type} (R C : Nat) (f : Nat → Nat → α) : List (List α) := (List.range R).map fun r => (List.range C).map (f r)
theorem gridF_length {α : Type} (R C : Nat) (f : Nat → Nat → α) : (gridF R C f).length = R := by simp [gridF]
theorem gridF_row {α : Type} {R C : Nat} {f : Nat → Nat → α} {r : Nat} (h : r < R) : (gridF R C f).getD r [] = (List.range C).map (f r) := by simp [gridF, List.getD, h]
theorem gridF_nC {R C : Nat} {f : Nat → Nat → C4} (h : 0 < R) : nC (gridF R C f) = C := by unfold nC; rw [gridF_row h]; simp
theorem gridF_gw {R C : Nat} {f : Nat → Nat → C4} (h0 : 1 ≤ R) (h1 : R ≤ 255) (h2 : 1 ≤ C) (h3 : C ≤ 255) : GW (gridF R C f) := by
  have hn := gridF_nC (C := C) (f := f) (show 0 < R by omega)
  refine ⟨by rw [gridF_length]; exact h0, by rw [gridF_length]; exact h1, by rw [hn]; exact h2, by rw [hn]; exact h3, fun r hr => ?_⟩
  rw [hn]
  simp only [gridF, List.mem_map] at hr
  obtain ⟨i, _, rfl⟩ := hr
  simp
theorem gridF_congr {α : Type} {R C : Nat} {f g : Nat → Nat → α} (h : ∀ r c, r < R → c < C → f r c = g r c) : gridF R C f = gridF R C g := by
  unfold gridF
  refine List.map_congr_left fun r hr => List.map_congr_left fun c hc => h r c (List.mem_range.1 hr) (List.mem_range.1 hc)
theorem gridF_at {R C : Nat} {f : Nat → Nat → C4} {r c : Nat} (hr : r < R) (hc : c < C) : at2 (gridF R C f) r c = f r c := by
  unfold at2
  rw [Int.toNat_natCast, Int.toNat_natCast, gridF_row hr]
  simp [List.getD, hc]
theorem gridF_set {R C : Nat} {f : Nat → Nat → C4} {r c : Nat} {x : C4} (hr : r < R) (hc : c < C) : set2 (gridF R C f) r c x = gridF R C fun r' c' => if r' = r ∧ c' = c then x else f r' c' := by
  unfold set2
  rw [Int.toNat_natCast, Int.toNat_natCast, gridF_row hr]
  unfold gridF
  apply List.ext_getElem
  · simp
  · intro i h1 h2
    have hi : i < R := by simpa using h2
    by_cases hir : r = i
    · subst hir
      rw [List.getElem_set_self]
      simp only [List.getElem_map, List.getElem_range]
      apply List.ext_getElem
      · simp
      · intro j h3 h4
        have hj : j < C := by simpa using h4
        by_cases hjc : c = j
        · subst hjc; rw [List.getElem_set_self]; simp
        · rw [List.getElem_set_ne hjc]; simp [show ¬ j = c from fun e => hjc e.symm]
    · rw [List.getElem_set_ne hir]
      simp only [List.getElem_map, List.getElem_range]
      refine List.map_congr_left fun c' _ => ?_
      rw [if_neg fun e => hir e.1.symm]
def aheadB (r c r2 c2 : Int) : Bool := decide (r < r2) || (decide (r = r2) && decide (c < c2))
theorem aheadB_iff {r c r2 c2 : Int} : aheadB r c r2 c2 = true ↔ r < r2 ∨ (r = r2 ∧ c < c2) := by simp [aheadB]
def lcAhead : ACon Unit := mkLC (decP (shCons shI2 (shOne shI2)) shHNil) fun (((r, c), (r2, c2)), _) => .one (.v (.bool (aheadB r c r2 c2))) [] []
set_option maxHeartbeats 4000000 in
theorem ok_ahead : ∀ I : Sym.Inv Unit, LCOk I Tryz.prog 113 lcAhead := by
  refine lc_mk (fun _ => allCfg Tryz.prog [] [] 0) (fun _ _ => allCfg_ok mixed trivial trivial) (fun _ => rfl) (n := 60) Tryz.func113 ?_
  intro ⟨⟨⟨r, c⟩, ⟨r2, c2⟩⟩, _⟩ hφ
  refine kcast (B := (br (decide (r < r2)) ((vB true = vB (aheadB r c r2 c2) ∧ True) ∧ True) (br (r == r2) ((vB (decide (c < c2)) = vB (aheadB r c r2 c2) ∧ True) ∧ True) ((vB false = vB (aheadB r c r2 c2) ∧ True) ∧ True)))) (by kernel_rfl) ?_
  simp only [br_iff, true_and, and_true, SV.v.injEq, Value.bool.injEq, aheadB, decide_eq_true_eq, decide_eq_false_iff_not, beq_iff_eq, beq_eq_false_iff_ne]
  by_cases h1 : r < r2 <;> by_cases h2 : r = r2 <;> by_cases h3 : c < c2 <;> simp [h1, h2, h3]
  all_goals omega
def neC (x y : C4) : Bool := !(x.g == y.g && (x.a == y.a && (x.gd == y.gd && (x.m == y.m && true))))
theorem neC_no {x y : C4} : neC x y = false ↔ x = y := by
  cases x; cases y
  simp [neC]
def cntP (C : Nat) (P : Nat → Nat → Bool) (n : Nat) : Nat := (List.range n).countP fun j => P (j / C) (j % C)
theorem cntP_le (C : Nat) (P : Nat → Nat → Bool) (n : Nat) : cntP C P n ≤ n := by
  unfold cntP
  have := List.countP_le_length (p := fun j => P (j / C) (j % C)) (l := List.range n)
  simpa using this
theorem cntP_step {C : Nat} (P : Nat → Nat → Bool) {i k : Nat} (h : k < C) : cntP C P (i * C + k + 1) = cntP C P (i * C + k) + if P i k = true then 1 else 0 := by
  have e1 : (i * C + k) / C = i := by rw [Nat.add_comm, Nat.add_mul_div_right _ _ (by omega), Nat.div_eq_of_lt h]; omega
  have e2 : (i * C + k) % C = k := by rw [Nat.add_comm, Nat.add_mul_mod_self_right, Nat.mod_eq_of_lt h]
  unfold cntP
  rw [List.range_succ, List.countP_append]
  simp only [List.countP_cons, List.countP_nil, e1, e2, Nat.zero_add]
theorem gridF_self {l : List (List C4)} (h : GW l) : gridF l.length (nC l) (fun r c => at2 l r c) = l := by
  unfold gridF
  apply List.ext_getElem
  · simp
  · intro i h1 h2
    have hi : i < l.length := h2
    have hrow := h.row hi
    have e : l.getD i [] = l[i] := by rw [List.getD, List.getElem?_eq_getElem hi]; rfl
    simp only [List.getElem_map, List.getElem_range]
    apply List.ext_getElem
    · simp; rw [e] at hrow; exact hrow.symm
    · intro j h3 h4
      simp only [List.getElem_map, List.getElem_range, at2, Int.toNat_natCast]
      rw [e, List.getD, List.getElem?_eq_getElem h4]; rfl
def inRg (fr fc tr tc r c : Int) : Bool := !aheadB r c fr fc && !aheadB tr tc r c
def tuX (fr fc tr tc : Int) (h : C4 → C4) (r c : Int) (x : C4) : C4 := if inRg fr fc tr tc r c = true then h x else x
def tuAt (l : List (List C4)) (fr fc tr tc : Int) (h : C4 → C4) (i k r c : Nat) : C4 := if r < i ∨ (r = i ∧ c < k) then tuX fr fc tr tc h r c (at2 l r c) else at2 l r c
def tuG (l : List (List C4)) (fr fc tr tc : Int) (h : C4 → C4) (i k : Nat) : List (List C4) := gridF l.length (nC l) (tuAt l fr fc tr tc h i k)
def turnL (l : List (List C4)) (fr fc tr tc : Int) (h : C4 → C4) : List (List C4) := gridF l.length (nC l) fun r c => tuX fr fc tr tc h r c (at2 l r c)
def tuP (l : List (List C4)) (fr fc tr tc : Int) (h : C4 → C4) (r c : Nat) : Bool := neC (tuX fr fc tr tc h r c (at2 l r c)) (at2 l r c)
def tuN (l : List (List C4)) (fr fc tr tc : Int) (h : C4 → C4) (i k : Nat) : Int := (cntP (nC l) (tuP l fr fc tr tc h) (i * nC l + k) : Nat)
section
variable {l : List (List C4)} {fr fc tr tc : Int} {h : C4 → C4} {i k : Nat}
theorem tuG_length : (tuG l fr fc tr tc h i k).length = l.length := gridF_length _ _ _
theorem tuG_nC (hg : GW l) : nC (tuG l fr fc tr tc h i k) = nC l := gridF_nC (by have := hg.r0; omega)
theorem tuG_gw (hg : GW l) : GW (tuG l fr fc tr tc h i k) := gridF_gw hg.r0 hg.r1 hg.c0 hg.c1
theorem turnL_length : (turnL l fr fc tr tc h).length = l.length := gridF_length _ _ _
theorem turnL_nC (hg : GW l) : nC (turnL l fr fc tr tc h) = nC l := gridF_nC (by have := hg.r0; omega)
theorem turnL_gw (hg : GW l) : GW (turnL l fr fc tr tc h) := gridF_gw hg.r0 hg.r1 hg.c0 hg.c1
theorem turnL_at {r c : Nat} (hr : r < l.length) (hc : c < nC l) : at2 (turnL l fr fc tr tc h) r c = tuX fr fc tr tc h r c (at2 l r c) := gridF_at hr hc
theorem tuG_zero (hg : GW l) : tuG l fr fc tr tc h 0 0 = l := by
  refine Eq.trans (gridF_congr fun r c _ _ => ?_) (gridF_self hg)
  rw [tuAt, if_neg (by omega)]
theorem tuG_at (hi : i < l.length) (hk : k < nC l) : at2 (tuG l fr fc tr tc h i k) i k = at2 l i k := by
  rw [tuG, gridF_at hi hk, tuAt, if_neg (by omega)]
theorem tuG_step (hi : i < l.length) (hk : k < nC l) : set2 (tuG l fr fc tr tc h i k) i k (tuX fr fc tr tc h i k (at2 l i k)) = tuG l fr fc tr tc h i (k + 1) := by
  unfold tuG
  rw [gridF_set hi hk]
  refine gridF_congr fun r c _ _ => ?_
  unfold tuAt
  by_cases hrc : r = i ∧ c = k
  · obtain ⟨rfl, rfl⟩ := hrc
    rw [if_pos ⟨rfl, rfl⟩, if_pos (by omega)]
  · rw [if_neg hrc]
    by_cases h2 : r < i ∨ (r = i ∧ c < k)
    · rw [if_pos h2, if_pos (by omega)]
    · rw [if_neg h2, if_neg (by omega)]
theorem tuG_keep (he : tuX fr fc tr tc h i k (at2 l i k) = at2 l i k) : tuG l fr fc tr tc h i k = tuG l fr fc tr tc h i (k + 1) := by
  refine gridF_congr fun r c _ _ => ?_
  unfold tuAt
  by_cases hrc : r = i ∧ c = k
  · obtain ⟨rfl, rfl⟩ := hrc
    rw [if_neg (by omega), if_pos (by omega), he]
  · by_cases h2 : r < i ∨ (r = i ∧ c < k)
    · rw [if_pos h2, if_pos (by omega)]
    · rw [if_neg h2, if_neg (by omega)]
theorem tuG_next : tuG l fr fc tr tc h i (nC l) = tuG l fr fc tr tc h (i + 1) 0 := by
  refine gridF_congr fun r c _ hc => ?_
  unfold tuAt
  by_cases h2 : r < i ∨ (r = i ∧ c < nC l)
  · rw [if_pos h2, if_pos (by omega)]
  · rw [if_neg h2, if_neg (by omega)]
theorem tuG_all : tuG l fr fc tr tc h l.length 0 = turnL l fr fc tr tc h := by
  refine gridF_congr fun r c hr _ => ?_
  rw [tuAt, if_pos (by omega)]
theorem tuN_zero : tuN l fr fc tr tc h 0 0 = 0 := by unfold tuN; rw [Nat.zero_mul]; rfl
theorem tuN_step (hk : k < nC l) (hn : neC (tuX fr fc tr tc h i k (at2 l i k)) (at2 l i k) = true) : tuN l fr fc tr tc h i (k + 1) = tuN l fr fc tr tc h i k + 1 := by
  unfold tuN
  rw [← Nat.add_assoc, cntP_step _ hk, if_pos (show tuP l fr fc tr tc h i k = true from hn)]; rfl
theorem tuN_keep (hk : k < nC l) (he : tuX fr fc tr tc h i k (at2 l i k) = at2 l i k) : tuN l fr fc tr tc h i k = tuN l fr fc tr tc h i (k + 1) := by
  unfold tuN
  rw [← Nat.add_assoc, cntP_step _ hk, if_neg (by rw [tuP, he, neC_no.2 rfl]; decide)]; rfl
theorem tuN_next : tuN l fr fc tr tc h i (nC l) = tuN l fr fc tr tc h (i + 1) 0 := by
  unfold tuN
  rw [Nat.add_mul, Nat.one_mul, Nat.add_zero]
theorem tuN_bd (hg : GW l) (hi : i ≤ l.length) (hk : k ≤ nC l) : 0 ≤ tuN l fr fc tr tc h i k ∧ tuN l fr fc tr tc h i k ≤ 65536 := by
  have h1 := cntP_le (nC l) (tuP l fr fc tr tc h) (i * nC l + k)
  have h2 : i * nC l ≤ 255 * 255 := Nat.mul_le_mul (Nat.le_trans hi hg.r1) hg.c1
  have h3 := hg.c1
  unfold tuN
  omega
theorem tu_same (hg : GW l) {x y : Int} (hx : 0 ≤ x) (hx2 : x < l.length) (hy : 0 ≤ y) (hy2 : y < nC l) (he : tuX fr fc tr tc h x y (at2 l x y) = at2 l x y) :
    (0 ≤ IntKind.i64.wrap (y + 1) ∧ IntKind.i64.wrap (y + 1) ≤ (nC l : Int)) ∧ (tuG l fr fc tr tc h x.toNat y.toNat = tuG l fr fc tr tc h x.toNat (IntKind.i64.wrap (y + 1)).toNat ∧
      SV.v (Value.int .i64 (tuN l fr fc tr tc h x.toNat y.toNat)) = SV.v (Value.int .i64 (tuN l fr fc tr tc h x.toNat (IntKind.i64.wrap (y + 1)).toNat))) ∧ ((nC l : Int) - IntKind.i64.wrap (y + 1)).toNat < ((nC l : Int) - y).toNat := by
  have hC := hg.c1
  obtain ⟨i, rfl⟩ : ∃ i : Nat, x = i := ⟨x.toNat, by omega⟩
  obtain ⟨k, rfl⟩ : ∃ k : Nat, y = k := ⟨y.toNat, by omega⟩
  rw [wrap64 (by omega) (by omega)]
  have e1 : ((k : Int) + 1).toNat = k + 1 := by omega
  rw [e1, Int.toNat_natCast, Int.toNat_natCast, ← tuG_keep he, ← tuN_keep (by omega) he]
  exact ⟨by omega, ⟨rfl, rfl⟩, by omega⟩
theorem tu_new (hg : GW l) {x y : Int} (hx : 0 ≤ x) (hx2 : x < l.length) (hy : 0 ≤ y) (hy2 : y < nC l) {z : C4} (hz : z = h (at2 l x y)) (hin : inRg fr fc tr tc x y = true) (hne : neC z (at2 l x y) = true) :
    (0 ≤ IntKind.i64.wrap (y + 1) ∧ IntKind.i64.wrap (y + 1) ≤ (nC l : Int)) ∧ (set2 (tuG l fr fc tr tc h x.toNat y.toNat) x y z = tuG l fr fc tr tc h x.toNat (IntKind.i64.wrap (y + 1)).toNat ∧
      SV.v (Value.int .i64 (IntKind.i64.wrap (tuN l fr fc tr tc h x.toNat y.toNat + 1))) = SV.v (Value.int .i64 (tuN l fr fc tr tc h x.toNat (IntKind.i64.wrap (y + 1)).toNat))) ∧ ((nC l : Int) - IntKind.i64.wrap (y + 1)).toNat < ((nC l : Int) - y).toNat := by
  have hC := hg.c1
  obtain ⟨i, rfl⟩ : ∃ i : Nat, x = i := ⟨x.toNat, by omega⟩
  obtain ⟨k, rfl⟩ : ∃ k : Nat, y = k := ⟨y.toNat, by omega⟩
  have hX : tuX fr fc tr tc h i k (at2 l i k) = z := by rw [tuX, if_pos hin, hz]
  have hb := tuN_bd (fr := fr) (fc := fc) (tr := tr) (tc := tc) (h := h) (i := i) (k := k) hg (by omega) (by omega)
  rw [wrap64 (x := (k : Int) + 1) (by omega) (by omega)]
  have e1 : ((k : Int) + 1).toNat = k + 1 := by omega
  rw [e1, Int.toNat_natCast, Int.toNat_natCast, wrap64 (by omega) (by omega), tuN_step (by omega) (by rw [hX]; exact hne), ← hX, tuG_step (by omega) (by omega)]
  exact ⟨by omega, ⟨rfl, rfl⟩, by omega⟩
theorem tu_row (hg : GW l) {x : Int} (hx : 0 ≤ x) (hx2 : x < l.length) :
    (0 ≤ IntKind.i64.wrap (x + 1) ∧ IntKind.i64.wrap (x + 1) ≤ (l.length : Int)) ∧ (tuG l fr fc tr tc h x.toNat (nC l) = tuG l fr fc tr tc h (IntKind.i64.wrap (x + 1)).toNat 0 ∧
      SV.v (Value.int .i64 (tuN l fr fc tr tc h x.toNat (nC l))) = SV.v (Value.int .i64 (tuN l fr fc tr tc h (IntKind.i64.wrap (x + 1)).toNat 0))) ∧ ((l.length : Int) - IntKind.i64.wrap (x + 1)).toNat < ((l.length : Int) - x).toNat := by
  have hR := hg.r1
  rw [wrap64 (by omega) (by omega)]
  have e1 : (x + 1).toNat = x.toNat + 1 := by omega
  rw [e1, tuG_next, tuN_next]
  exact ⟨by omega, ⟨rfl, rfl⟩, by omega⟩
theorem tu_get (hg : GW l) {x y : Int} (hx : 0 ≤ x) (hx2 : x < l.length) (hy : 0 ≤ y) (hy2 : y < nC l) :
    ((tuG l fr fc tr tc h x.toNat y.toNat).getD x.toNat []).getD y.toNat C4.no = at2 l x y ∧ ((tuG l fr fc tr tc h x.toNat y.toNat).getD x.toNat []).length = nC l := by
  obtain ⟨i, rfl⟩ : ∃ i : Nat, x = i := ⟨x.toNat, by omega⟩
  obtain ⟨k, rfl⟩ : ∃ k : Nat, y = k := ⟨y.toNat, by omega⟩
  refine ⟨tuG_at (i := i) (k := k) (by omega) (by omega), ?_⟩
  rw [Int.toNat_natCast, (tuG_gw hg).row (by rw [tuG_length]; omega), tuG_nC hg]
theorem tu_out {x y : Int} (hf : aheadB x y fr fc = true) (X : C4) : tuX fr fc tr tc h x y X = X := by rw [tuX, inRg, hf]; rfl
theorem tu_out2 {x y : Int} (hf : aheadB tr tc x y = true) (X : C4) : tuX fr fc tr tc h x y X = X := by rw [tuX, inRg, hf]; simp
theorem tu_in {x y : Int} (h1 : aheadB x y fr fc = false) (h2 : aheadB tr tc x y = false) : inRg fr fc tr tc x y = true := by rw [inRg, h1, h2]; rfl
end
def tuOk (l : List (List C4)) (fr fc tr tc : Int) : Bool := inB l fr fc && (inB l tr tc && !aheadB tr tc fr fc)
def tuE (l : List (List C4)) (fr fc tr tc : Int) : Int := if inB l fr fc = true ∧ inB l tr tc = true then 1 else 11
def hWipe (c : C4) (g : Bool) (x : C4) : C4 := if g && x.gd then x else c
theorem neC_eq (x y : C4) : neC x y = !(x.g == y.g && (x.a == y.a && (x.gd == y.gd && x.m == y.m))) := by simp [neC]
def tabQ : List (Nat × ACon Unit) := (113, lcAhead) :: tabD
theorem tabQ_ok : LCs Tryz.prog tabQ := ⟨ok_ahead, tabD_ok⟩
def isI (o : Option Int) : Bool := match o with
  | some _ => true
  | none => false
def annTo (h : C4 → C4) (l : List (List C4)) (fr fc tr tc : Int) (oe ep b : Nat) : Ann Unit where
  α := Int
  φ _ r := 0 ≤ r ∧ r ≤ l.length
  μ _ r := ((l.length : Int) - r).toNat
  get st := getI st.tm 10
  f st r := tmpl [0, 1, 3, 9] [(10, .v (.int .i64 r))] [(1, .rows (.c (tuG l fr fc tr tc h r.toNat 0)) 45 105 oe ep none), (b, .cells [.v (.int .i64 (tuN l fr fc tr tc h r.toNat 0))] 3), (b + 3, loopTm st.H (b + 3) [4, 5, 6, 7, 14] [])] st
  on st := isI (getI st.tm 10)
def annTi (h : C4 → C4) (l : List (List C4)) (fr fc tr tc : Int) (oe ep b : Nat) : Ann Unit where
  α := Int
  φ _ k := 0 ≤ k ∧ k ≤ nC l
  μ _ k := ((nC l : Int) - k).toNat
  get st := getI st.tm 15
  f st k := tmpl [0, 1, 3, 4, 9, 10, 14] [(15, .v (.int .i64 k))] [(1, .rows (.c (tuG l fr fc tr tc h (tI st.tm 4).toNat k.toNat)) 45 105 oe ep none), (b, .cells [.v (.int .i64 (tuN l fr fc tr tc h (tI st.tm 4).toNat k.toNat))] 3), (b + 3, loopTm st.H (b + 3) [4, 5, 6, 7, 14] [])] st
def turnA (h : C4 → C4) (l : List (List C4)) (fr fc tr tc : Int) (oe ep : Nat) : Alt Unit :=
  .br (tuOk l fr fc tr tc) (.one (.t [.v (.int .i64 (tuN l fr fc tr tc h l.length 0)), .v (.int .i64 0)]) (gbi 0 oe ep (turnL l fr fc tr tc h)) [1]) (.one (.t [.v (.int .i64 0), .v (.int .i64 (tuE l fr fc tr tc))]) (gbi 0 oe ep l) [1])
def lcWipe1 : ACon Unit := mkLC (decP (shCons (shP 0) (shCons shI2 (shCons shI2 (shCons shC (shOne shB))))) shG) fun ((_, (fr, fc), (tr, tc), c, gd), (oe, ⟨l, oe2, ep⟩)) => .ask (oe = oe2 ∧ GW l) (turnA (hWipe c gd) l fr fc tr tc oe ep)
set_option maxHeartbeats 4000000 in
theorem ok_wipe1 : ∀ I : Sym.Inv Unit, LCOk I Tryz.prog 61 lcWipe1 := by
  refine lc_mk (fun ((_, (fr, fc), (tr, tc), c, gd), (oe, ⟨l, oe2, ep⟩)) => allCfg Tryz.prog [] tabQ 3 [(193, annTo (hWipe c gd) l fr fc tr tc oe ep 15), (385, annTi (hWipe c gd) l fr fc tr tc oe ep 15)]) (fun _ _ => allCfg_ok mixed trivial tabQ_ok) (fun _ => rfl) (n := 80) Tryz.func61 ?_
  intro ⟨⟨_, ⟨fr, fc⟩, ⟨tr, tc⟩, c, gd⟩, ⟨oe, ⟨l, oe2, ep⟩⟩⟩ hφ
  obtain ⟨⟨rfl, hg⟩, hp⟩ := id hφ
  refine kcast (B := (true = true ∧ (oe = oe ∧ GW l) ∧ br (inB l fr fc) (true = true ∧ (oe = oe ∧ GW l) ∧ br (inB l tr tc) (true = true ∧ br (aheadB tr tc fr fc) (br (tuOk l fr fc tr tc) ((SV.t [vI (0 : Int), vI (1 : Int)] = SV.t [vI (tuN l fr fc tr tc (hWipe c gd)
 l.length (0 : Nat)), vI (0 : Int)] ∧ True) ∧ (SV.h 1 [oe, 0] = SV.h 1 [oe, 0] ∧ True) ∧ (oe = oe ∧ ep = ep ∧ l = turnL l fr fc tr tc (hWipe c gd)) ∧ True) ((SV.t [vI (0 : Int), vI (1 : Int)] = SV.t [vI (0 : Int), vI (tuE l fr fc tr tc)] ∧ True) ∧
 (SV.h 1 [oe, 0] = SV.h 1 [oe, 0] ∧ True) ∧ (oe = oe ∧ ep = ep ∧ l = l) ∧ True)) (true = true ∧ (oe = oe ∧ GW l) ∧ (II (0 : Int) ≤ (0 : Int) ∧ (0 : Int) ≤ (↑l.length : Int)) ∧ ((SV.y 18 = SV.y 18 ∧ SV.p 16 0 = SV.p 16 0 ∧ SV.p 19 0 = SV.p 19 0 ∧ vI
 (↑l.length : Int) = vI (↑l.length : Int) ∧ vI (0 : Int) = vI (0 : Int) ∧ True) ∧ (SV.h 1 [oe, 0] = SV.h 1 [oe, 0] ∧ True) ∧ (oe = oe ∧ ep = ep ∧ l = tuG l fr fc tr tc (hWipe c gd) (0 : Nat) (0 : Nat)) ∧ (vI fr = vI fr ∧ vI fc = vI fc ∧ True) ∧ (vI tr
 = vI tr ∧ vI tc = vI tc ∧ True) ∧ (SV.v (Value.int IntKind.i32 c.g) = SV.v (Value.int IntKind.i32 c.g) ∧ vI c.a = vI c.a ∧ vB c.gd = vB c.gd ∧ vI c.m = vI c.m ∧ True) ∧ (vB gd = vB gd ∧ True) ∧ (SV.p 0 0 = SV.p 0 0 ∧ True) ∧ (vI fr = vI fr ∧ vI fc =
 vI fc ∧ True) ∧ (vI tr = vI tr ∧ vI tc = vI tc ∧ True) ∧ (SV.f (Fn.func (93 : Nat)) [SV.p 5 0, SV.p 4 0] = SV.f (Fn.func (93 : Nat)) [SV.p 5 0, SV.p 4 0] ∧ True) ∧ (vI fr = vI fr ∧ vI fc = vI fc ∧ vI tr = vI tr ∧ vI tc = vI tc ∧ True) ∧ (vI fr = vI
 fr ∧ vI fc = vI fc ∧ True) ∧ (SV.v (Value.int IntKind.i32 (at2 l fr fc).g) = SV.v (Value.int IntKind.i32 (at2 l fr fc).g) ∧ vI (at2 l fr fc).a = vI (at2 l fr fc).a ∧ vB (at2 l fr fc).gd = vB (at2 l fr fc).gd ∧ vI (at2 l fr fc).m = vI (at2 l fr fc).m
 ∧ True) ∧ (vI tr = vI tr ∧ vI tc = vI tc ∧ True) ∧ (SV.v (Value.int IntKind.i32 (at2 l tr tc).g) = SV.v (Value.int IntKind.i32 (at2 l tr tc).g) ∧ vI (at2 l tr tc).a = vI (at2 l tr tc).a ∧ vB (at2 l tr tc).gd = vB (at2 l tr tc).gd ∧ vI (at2 l tr tc).m
 = vI (at2 l tr tc).m ∧ True) ∧ (vI (0 : Int) = vI (tuN l fr fc tr tc (hWipe c gd) (0 : Nat) (0 : Nat)) ∧ True) ∧ (SV.p 0 0 = SV.p 0 0 ∧ True) ∧ Obj.deferred (some []) = Obj.deferred (some []) ∧ ((SV.p 6 0 = SV.p 6 0 ∧ SV.p 7 0 = SV.p 7 0 ∧ SV.p 8 0 =
 SV.p 8 0 ∧ SV.p 9 0 = SV.p 9 0 ∧ SV.p 15 0 = SV.p 15 0 ∧ True) ∧ #[(41 : Nat), (42 : Nat)] = #[(41 : Nat), (42 : Nat)] ∧ codeAt Tryz.f92 [1, 1, 1, 1, 0, 1, 0, 0] = codeAt Tryz.f92 [1, 1, 1, 1, 0, 1, 0, 0] ∧ codeAt Tryz.f92 [1, 1, 1, 1, 0, 1, 0, 1] =
 codeAt Tryz.f92 [1, 1, 1, 1, 0, 1, 0, 1]) ∧ (vI (↑l.length : Int) = vI (↑l.length : Int) ∧ vI (↑(nC l) : Int) = vI (↑(nC l) : Int) ∧ True) ∧ True) ∧ ∀ (x : Int), (0 : Int) ≤ x ∧ x ≤ (↑l.length : Int) → br (decide (x < (↑l.length : Int))) ((II (0 :
 Int) ≤ (0 : Int) ∧ (0 : Int) ≤ (↑(nC l) : Int)) ∧ ((SV.y 18 = SV.y 18 ∧ SV.p 16 0 = SV.p 16 0 ∧ SV.p 19 0 = SV.p 19 0 ∧ vI x = vI x ∧ vI (↑l.length : Int) = vI (↑l.length : Int) ∧ vI x = vI x ∧ vI (↑(nC l) : Int) = vI (↑(nC l) : Int) ∧ vI (0 : Int) =
 vI (0 : Int) ∧ True) ∧ (SV.h 1 [oe, 0] = SV.h 1 [oe, 0] ∧ True) ∧ (oe = oe ∧ ep = ep ∧ tuG l fr fc tr tc (hWipe c gd) x.toNat (0 : Nat) = tuG l fr fc tr tc (hWipe c gd) x.toNat (0 : Nat)) ∧ (vI fr = vI fr ∧ vI fc = vI fc ∧ True) ∧ (vI tr = vI tr ∧ vI
 tc = vI tc ∧ True) ∧ (SV.v (Value.int IntKind.i32 c.g) = SV.v (Value.int IntKind.i32 c.g) ∧ vI c.a = vI c.a ∧ vB c.gd = vB c.gd ∧ vI c.m = vI c.m ∧ True) ∧ (vB gd = vB gd ∧ True) ∧ (SV.p 0 0 = SV.p 0 0 ∧ True) ∧ (vI fr = vI fr ∧ vI fc = vI fc ∧ True)
 ∧ (vI tr = vI tr ∧ vI tc = vI tc ∧ True) ∧ (SV.f (Fn.func (93 : Nat)) [SV.p 5 0, SV.p 4 0] = SV.f (Fn.func (93 : Nat)) [SV.p 5 0, SV.p 4 0] ∧ True) ∧ (vI fr = vI fr ∧ vI fc = vI fc ∧ vI tr = vI tr ∧ vI tc = vI tc ∧ True) ∧ (vI fr = vI fr ∧ vI fc = vI
 fc ∧ True) ∧ (SV.v (Value.int IntKind.i32 (at2 l fr fc).g) = SV.v (Value.int IntKind.i32 (at2 l fr fc).g) ∧ vI (at2 l fr fc).a = vI (at2 l fr fc).a ∧ vB (at2 l fr fc).gd = vB (at2 l fr fc).gd ∧ vI (at2 l fr fc).m = vI (at2 l fr fc).m ∧ True) ∧ (vI tr
 = vI tr ∧ vI tc = vI tc ∧ True) ∧ (SV.v (Value.int IntKind.i32 (at2 l tr tc).g) = SV.v (Value.int IntKind.i32 (at2 l tr tc).g) ∧ vI (at2 l tr tc).a = vI (at2 l tr tc).a ∧ vB (at2 l tr tc).gd = vB (at2 l tr tc).gd ∧ vI (at2 l tr tc).m = vI (at2 l tr
 tc).m ∧ True) ∧ (vI (tuN l fr fc tr tc (hWipe c gd) x.toNat (0 : Nat)) = vI (tuN l fr fc tr tc (hWipe c gd) x.toNat (0 : Nat)) ∧ True) ∧ (SV.p 0 0 = SV.p 0 0 ∧ True) ∧ Obj.deferred (some []) = Obj.deferred (some []) ∧ ((SV.p 6 0 = SV.p 6 0 ∧ SV.p 7 0
 = SV.p 7 0 ∧ SV.p 8 0 = SV.p 8 0 ∧ SV.p 9 0 = SV.p 9 0 ∧ SV.p 15 0 = SV.p 15 0 ∧ True) ∧ #[(41 : Nat), (42 : Nat)] = #[(41 : Nat), (42 : Nat)] ∧ codeAt Tryz.f92 [1, 1, 1, 1, 0, 1, 0, 0] = codeAt Tryz.f92 [1, 1, 1, 1, 0, 1, 0, 0] ∧ codeAt Tryz.f92 [1,
 1, 1, 1, 0, 1, 0, 1] = codeAt Tryz.f92 [1, 1, 1, 1, 0, 1, 0, 1]) ∧ (vI (↑l.length : Int) = vI (↑l.length : Int) ∧ vI (↑(nC l) : Int) = vI (↑(nC l) : Int) ∧ True) ∧ True) ∧ ∀ (x_1 : Int), (0 : Int) ≤ x_1 ∧ x_1 ≤ (↑(nC l) : Int) → br (decide (x_1 <
 (↑(nC l) : Int))) (rq (oe.beq oe && (Nat.beq (1 : Nat) (1 : Nat) && decide ((0 : Int) ≤ x ∧ x < (↑(Rws.c (tuG l fr fc tr tc (hWipe c gd) x.toNat x_1.toNat)).len : Int)))) (rq (oe.beq oe && x.toNat.blt (Rws.c (tuG l fr fc tr tc (hWipe c gd) x.toNat
 x_1.toNat)).len) (rq (ep.beq ep && x.toNat.blt (Rws.c (tuG l fr fc tr tc (hWipe c gd) x.toNat x_1.toNat)).len && ((Rws.c (tuG l fr fc tr tc (hWipe c gd) x.toNat x_1.toNat)).sz.beq (4 : Nat) && decide ((0 : Int) ≤ x_1 ∧ x_1 < (↑((Rws.c (tuG l fr fc tr
 tc (hWipe c gd) x.toNat x_1.toNat)).nAt x.toNat) : Int)))) (rq (ep.beq ep && x.toNat.blt (Rws.c (tuG l fr fc tr tc (hWipe c gd) x.toNat x_1.toNat)).len && x_1.toNat.blt ((tuG l fr fc tr tc (hWipe c gd) x.toNat x_1.toNat).getD x.toNat []).length)
 (true = true ∧ br (aheadB x x_1 fr fc) (((0 : Int) ≤ IntKind.i64.wrap (x_1 + (1 : Int)) ∧ IntKind.i64.wrap (x_1 + (1 : Int)) ≤ (↑(nC l) : Int)) ∧ ((SV.y 18 = SV.y 18 ∧ SV.p 16 0 = SV.p 16 0 ∧ SV.p 19 0 = SV.p 19 0 ∧ vI x = vI x ∧ vI (↑l.length : Int)
 = vI (↑l.length : Int) ∧ vI x = vI x ∧ vI (↑(nC l) : Int) = vI (↑(nC l) : Int) ∧ vI (IntKind.i64.wrap (x_1 + (1 : Int))) = vI (IntKind.i64.wrap (x_1 + (1 : Int))) ∧ True) ∧ (SV.h 1 [oe, 0] = SV.h 1 [oe, 0] ∧ True) ∧ (oe = oe ∧ ep = ep ∧ tuG l fr fc
 tr tc (hWipe c gd) x.toNat x_1.toNat = tuG l fr fc tr tc (hWipe c gd) x.toNat (IntKind.i64.wrap (x_1 + (1 : Int))).toNat) ∧ (vI fr = vI fr ∧ vI fc = vI fc ∧ True) ∧ (vI tr = vI tr ∧ vI tc = vI tc ∧ True) ∧ (SV.v (Value.int IntKind.i32 c.g) = SV.v
 (Value.int IntKind.i32 c.g) ∧ vI c.a = vI c.a ∧ vB c.gd = vB c.gd ∧ vI c.m = vI c.m ∧ True) ∧ (vB gd = vB gd ∧ True) ∧ (SV.p 0 0 = SV.p 0 0 ∧ True) ∧ (vI fr = vI fr ∧ vI fc = vI fc ∧ True) ∧ (vI tr = vI tr ∧ vI tc = vI tc ∧ True) ∧ (SV.f (Fn.func (93
 : Nat)) [SV.p 5 0, SV.p 4 0] = SV.f (Fn.func (93 : Nat)) [SV.p 5 0, SV.p 4 0] ∧ True) ∧ (vI fr = vI fr ∧ vI fc = vI fc ∧ vI tr = vI tr ∧ vI tc = vI tc ∧ True) ∧ (vI fr = vI fr ∧ vI fc = vI fc ∧ True) ∧ (SV.v (Value.int IntKind.i32 (at2 l fr fc).g) =
 SV.v (Value.int IntKind.i32 (at2 l fr fc).g) ∧ vI (at2 l fr fc).a = vI (at2 l fr fc).a ∧ vB (at2 l fr fc).gd = vB (at2 l fr fc).gd ∧ vI (at2 l fr fc).m = vI (at2 l fr fc).m ∧ True) ∧ (vI tr = vI tr ∧ vI tc = vI tc ∧ True) ∧ (SV.v (Value.int
 IntKind.i32 (at2 l tr tc).g) = SV.v (Value.int IntKind.i32 (at2 l tr tc).g) ∧ vI (at2 l tr tc).a = vI (at2 l tr tc).a ∧ vB (at2 l tr tc).gd = vB (at2 l tr tc).gd ∧ vI (at2 l tr tc).m = vI (at2 l tr tc).m ∧ True) ∧ (vI (tuN l fr fc tr tc (hWipe c gd)
 x.toNat x_1.toNat) = vI (tuN l fr fc tr tc (hWipe c gd) x.toNat (IntKind.i64.wrap (x_1 + (1 : Int))).toNat) ∧ True) ∧ (SV.p 0 0 = SV.p 0 0 ∧ True) ∧ Obj.deferred (some []) = Obj.deferred (some []) ∧ ((SV.p 6 0 = SV.p 6 0 ∧ SV.p 7 0 = SV.p 7 0 ∧ SV.p
 8 0 = SV.p 8 0 ∧ SV.p 9 0 = SV.p 9 0 ∧ SV.p 15 0 = SV.p 15 0 ∧ True) ∧ #[(41 : Nat), (42 : Nat)] = #[(41 : Nat), (42 : Nat)] ∧ codeAt Tryz.f92 [1, 1, 1, 1, 0, 1, 0, 0] = codeAt Tryz.f92 [1, 1, 1, 1, 0, 1, 0, 0] ∧ codeAt Tryz.f92 [1, 1, 1, 1, 0, 1, 0,
 1] = codeAt Tryz.f92 [1, 1, 1, 1, 0, 1, 0, 1]) ∧ (vI (↑l.length : Int) = vI (↑l.length : Int) ∧ vI (↑(nC l) : Int) = vI (↑(nC l) : Int) ∧ True) ∧ True) ∧ ((↑(nC l) : Int) - IntKind.i64.wrap (x_1 + (1 : Int))).toNat < ((↑(nC l) : Int) - x_1).toNat)
 (true = true ∧ br (aheadB tr tc x x_1) (((0 : Int) ≤ IntKind.i64.wrap (x_1 + (1 : Int)) ∧ IntKind.i64.wrap (x_1 + (1 : Int)) ≤ (↑(nC l) : Int)) ∧ ((SV.y 18 = SV.y 18 ∧ SV.p 16 0 = SV.p 16 0 ∧ SV.p 19 0 = SV.p 19 0 ∧ vI x = vI x ∧ vI (↑l.length : Int)
 = vI (↑l.length : Int) ∧ vI x = vI x ∧ vI (↑(nC l) : Int) = vI (↑(nC l) : Int) ∧ vI (IntKind.i64.wrap (x_1 + (1 : Int))) = vI (IntKind.i64.wrap (x_1 + (1 : Int))) ∧ True) ∧ (SV.h 1 [oe, 0] = SV.h 1 [oe, 0] ∧ True) ∧ (oe = oe ∧ ep = ep ∧ tuG l fr fc
 tr tc (hWipe c gd) x.toNat x_1.toNat = tuG l fr fc tr tc (hWipe c gd) x.toNat (IntKind.i64.wrap (x_1 + (1 : Int))).toNat) ∧ (vI fr = vI fr ∧ vI fc = vI fc ∧ True) ∧ (vI tr = vI tr ∧ vI tc = vI tc ∧ True) ∧ (SV.v (Value.int IntKind.i32 c.g) = SV.v
 (Value.int IntKind.i32 c.g) ∧ vI c.a = vI c.a ∧ vB c.gd = vB c.gd ∧ vI c.m = vI c.m ∧ True) ∧ (vB gd = vB gd ∧ True) ∧ (SV.p 0 0 = SV.p 0 0 ∧ True) ∧ (vI fr = vI fr ∧ vI fc = vI fc ∧ True) ∧ (vI tr = vI tr ∧ vI tc = vI tc ∧ True) ∧ (SV.f (Fn.func (93
 : Nat)) [SV.p 5 0, SV.p 4 0] = SV.f (Fn.func (93 : Nat)) [SV.p 5 0, SV.p 4 0] ∧ True) ∧ (vI fr = vI fr ∧ vI fc = vI fc ∧ vI tr = vI tr ∧ vI tc = vI tc ∧ True) ∧ (vI fr = vI fr ∧ vI fc = vI fc ∧ True) ∧ (SV.v (Value.int IntKind.i32 (at2 l fr fc).g) =
 SV.v (Value.int IntKind.i32 (at2 l fr fc).g) ∧ vI (at2 l fr fc).a = vI (at2 l fr fc).a ∧ vB (at2 l fr fc).gd = vB (at2 l fr fc).gd ∧ vI (at2 l fr fc).m = vI (at2 l fr fc).m ∧ True) ∧ (vI tr = vI tr ∧ vI tc = vI tc ∧ True) ∧ (SV.v (Value.int
 IntKind.i32 (at2 l tr tc).g) = SV.v (Value.int IntKind.i32 (at2 l tr tc).g) ∧ vI (at2 l tr tc).a = vI (at2 l tr tc).a ∧ vB (at2 l tr tc).gd = vB (at2 l tr tc).gd ∧ vI (at2 l tr tc).m = vI (at2 l tr tc).m ∧ True) ∧ (vI (tuN l fr fc tr tc (hWipe c gd)
 x.toNat x_1.toNat) = vI (tuN l fr fc tr tc (hWipe c gd) x.toNat (IntKind.i64.wrap (x_1 + (1 : Int))).toNat) ∧ True) ∧ (SV.p 0 0 = SV.p 0 0 ∧ True) ∧ Obj.deferred (some []) = Obj.deferred (some []) ∧ ((SV.p 6 0 = SV.p 6 0 ∧ SV.p 7 0 = SV.p 7 0 ∧ SV.p
 8 0 = SV.p 8 0 ∧ SV.p 9 0 = SV.p 9 0 ∧ SV.p 15 0 = SV.p 15 0 ∧ True) ∧ #[(41 : Nat), (42 : Nat)] = #[(41 : Nat), (42 : Nat)] ∧ codeAt Tryz.f92 [1, 1, 1, 1, 0, 1, 0, 0] = codeAt Tryz.f92 [1, 1, 1, 1, 0, 1, 0, 0] ∧ codeAt Tryz.f92 [1, 1, 1, 1, 0, 1, 0,
 1] = codeAt Tryz.f92 [1, 1, 1, 1, 0, 1, 0, 1]) ∧ (vI (↑l.length : Int) = vI (↑l.length : Int) ∧ vI (↑(nC l) : Int) = vI (↑(nC l) : Int) ∧ True) ∧ True) ∧ ((↑(nC l) : Int) - IntKind.i64.wrap (x_1 + (1 : Int))).toNat < ((↑(nC l) : Int) - x_1).toNat)
 (br (!gd) (br (!(c.g == (((tuG l fr fc tr tc (hWipe c gd) x.toNat x_1.toNat).getD x.toNat []).getD x_1.toNat C4.no).g && (c.a == (((tuG l fr fc tr tc (hWipe c gd) x.toNat x_1.toNat).getD x.toNat []).getD x_1.toNat C4.no).a && (c.gd == (((tuG l fr fc
 tr tc (hWipe c gd) x.toNat x_1.toNat).getD x.toNat []).getD x_1.toNat C4.no).gd && (c.m == (((tuG l fr fc tr tc (hWipe c gd) x.toNat x_1.toNat).getD x.toNat []).getD x_1.toNat C4.no).m && true))))) (true = true ∧ (oe = oe ∧ GW (tuG l fr fc tr tc
 (hWipe c gd) x.toNat x_1.toNat)) ∧ br (inB (tuG l fr fc tr tc (hWipe c gd) x.toNat x_1.toNat) x x_1) (((0 : Int) ≤ IntKind.i64.wrap (x_1 + (1 : Int)) ∧ IntKind.i64.wrap (x_1 + (1 : Int)) ≤ (↑(nC l) : Int)) ∧ ((SV.y 18 = SV.y 18 ∧ SV.p 16 0 = SV.p 16
 0 ∧ SV.p 19 0 = SV.p 19 0 ∧ vI x = vI x ∧ vI (↑l.length : Int) = vI (↑l.length : Int) ∧ vI x = vI x ∧ vI (↑(nC l) : Int) = vI (↑(nC l) : Int) ∧ vI (IntKind.i64.wrap (x_1 + (1 : Int))) = vI (IntKind.i64.wrap (x_1 + (1 : Int))) ∧ True) ∧ (SV.h 1 [oe,
 0] = SV.h 1 [oe, 0] ∧ True) ∧ (oe = oe ∧ ep = ep ∧ set2 (tuG l fr fc tr tc (hWipe c gd) x.toNat x_1.toNat) x x_1 (C4.mk c.g c.a c.gd c.m) = tuG l fr fc tr tc (hWipe c gd) x.toNat (IntKind.i64.wrap (x_1 + (1 : Int))).toNat) ∧ (vI fr = vI fr ∧ vI fc =
 vI fc ∧ True) ∧ (vI tr = vI tr ∧ vI tc = vI tc ∧ True) ∧ (SV.v (Value.int IntKind.i32 c.g) = SV.v (Value.int IntKind.i32 c.g) ∧ vI c.a = vI c.a ∧ vB c.gd = vB c.gd ∧ vI c.m = vI c.m ∧ True) ∧ (vB gd = vB gd ∧ True) ∧ (SV.p 0 0 = SV.p 0 0 ∧ True) ∧
 (vI fr = vI fr ∧ vI fc = vI fc ∧ True) ∧ (vI tr = vI tr ∧ vI tc = vI tc ∧ True) ∧ (SV.f (Fn.func (93 : Nat)) [SV.p 5 0, SV.p 4 0] = SV.f (Fn.func (93 : Nat)) [SV.p 5 0, SV.p 4 0] ∧ True) ∧ (vI fr = vI fr ∧ vI fc = vI fc ∧ vI tr = vI tr ∧ vI tc = vI
 tc ∧ True) ∧ (vI fr = vI fr ∧ vI fc = vI fc ∧ True) ∧ (SV.v (Value.int IntKind.i32 (at2 l fr fc).g) = SV.v (Value.int IntKind.i32 (at2 l fr fc).g) ∧ vI (at2 l fr fc).a = vI (at2 l fr fc).a ∧ vB (at2 l fr fc).gd = vB (at2 l fr fc).gd ∧ vI (at2 l fr
 fc).m = vI (at2 l fr fc).m ∧ True) ∧ (vI tr = vI tr ∧ vI tc = vI tc ∧ True) ∧ (SV.v (Value.int IntKind.i32 (at2 l tr tc).g) = SV.v (Value.int IntKind.i32 (at2 l tr tc).g) ∧ vI (at2 l tr tc).a = vI (at2 l tr tc).a ∧ vB (at2 l tr tc).gd = vB (at2 l tr
 tc).gd ∧ vI (at2 l tr tc).m = vI (at2 l tr tc).m ∧ True) ∧ (vI (IntKind.i64.wrap (tuN l fr fc tr tc (hWipe c gd) x.toNat x_1.toNat + (1 : Int))) = vI (tuN l fr fc tr tc (hWipe c gd) x.toNat (IntKind.i64.wrap (x_1 + (1 : Int))).toNat) ∧ True) ∧ (SV.p
 0 0 = SV.p 0 0 ∧ True) ∧ Obj.deferred (some []) = Obj.deferred (some []) ∧ ((SV.p 6 0 = SV.p 6 0 ∧ SV.p 7 0 = SV.p 7 0 ∧ SV.p 8 0 = SV.p 8 0 ∧ SV.p 9 0 = SV.p 9 0 ∧ SV.p 15 0 = SV.p 15 0 ∧ True) ∧ #[(41 : Nat), (42 : Nat)] = #[(41 : Nat), (42 : Nat)]
 ∧ codeAt Tryz.f92 [1, 1, 1, 1, 0, 1, 0, 0] = codeAt Tryz.f92 [1, 1, 1, 1, 0, 1, 0, 0] ∧ codeAt Tryz.f92 [1, 1, 1, 1, 0, 1, 0, 1] = codeAt Tryz.f92 [1, 1, 1, 1, 0, 1, 0, 1]) ∧ (vI (↑l.length : Int) = vI (↑l.length : Int) ∧ vI (↑(nC l) : Int) = vI
 (↑(nC l) : Int) ∧ True) ∧ True) ∧ ((↑(nC l) : Int) - IntKind.i64.wrap (x_1 + (1 : Int))).toNat < ((↑(nC l) : Int) - x_1).toNat) (((0 : Int) ≤ IntKind.i64.wrap (x_1 + (1 : Int)) ∧ IntKind.i64.wrap (x_1 + (1 : Int)) ≤ (↑(nC l) : Int)) ∧ ((SV.y 18 =
 SV.y 18 ∧ SV.p 16 0 = SV.p 16 0 ∧ SV.p 19 0 = SV.p 19 0 ∧ vI x = vI x ∧ vI (↑l.length : Int) = vI (↑l.length : Int) ∧ vI x = vI x ∧ vI (↑(nC l) : Int) = vI (↑(nC l) : Int) ∧ vI (IntKind.i64.wrap (x_1 + (1 : Int))) = vI (IntKind.i64.wrap (x_1 + (1 :
 Int))) ∧ True) ∧ (SV.h 1 [oe, 0] = SV.h 1 [oe, 0] ∧ True) ∧ (oe = oe ∧ ep = ep ∧ tuG l fr fc tr tc (hWipe c gd) x.toNat x_1.toNat = tuG l fr fc tr tc (hWipe c gd) x.toNat (IntKind.i64.wrap (x_1 + (1 : Int))).toNat) ∧ (vI fr = vI fr ∧ vI fc = vI fc ∧
 True) ∧ (vI tr = vI tr ∧ vI tc = vI tc ∧ True) ∧ (SV.v (Value.int IntKind.i32 c.g) = SV.v (Value.int IntKind.i32 c.g) ∧ vI c.a = vI c.a ∧ vB c.gd = vB c.gd ∧ vI c.m = vI c.m ∧ True) ∧ (vB gd = vB gd ∧ True) ∧ (SV.p 0 0 = SV.p 0 0 ∧ True) ∧ (vI fr =
 vI fr ∧ vI fc = vI fc ∧ True) ∧ (vI tr = vI tr ∧ vI tc = vI tc ∧ True) ∧ (SV.f (Fn.func (93 : Nat)) [SV.p 5 0, SV.p 4 0] = SV.f (Fn.func (93 : Nat)) [SV.p 5 0, SV.p 4 0] ∧ True) ∧ (vI fr = vI fr ∧ vI fc = vI fc ∧ vI tr = vI tr ∧ vI tc = vI tc ∧ True)
 ∧ (vI fr = vI fr ∧ vI fc = vI fc ∧ True) ∧ (SV.v (Value.int IntKind.i32 (at2 l fr fc).g) = SV.v (Value.int IntKind.i32 (at2 l fr fc).g) ∧ vI (at2 l fr fc).a = vI (at2 l fr fc).a ∧ vB (at2 l fr fc).gd = vB (at2 l fr fc).gd ∧ vI (at2 l fr fc).m = vI
 (at2 l fr fc).m ∧ True) ∧ (vI tr = vI tr ∧ vI tc = vI tc ∧ True) ∧ (SV.v (Value.int IntKind.i32 (at2 l tr tc).g) = SV.v (Value.int IntKind.i32 (at2 l tr tc).g) ∧ vI (at2 l tr tc).a = vI (at2 l tr tc).a ∧ vB (at2 l tr tc).gd = vB (at2 l tr tc).gd ∧ vI
 (at2 l tr tc).m = vI (at2 l tr tc).m ∧ True) ∧ (vI (IntKind.i64.wrap (tuN l fr fc tr tc (hWipe c gd) x.toNat x_1.toNat + (1 : Int))) = vI (tuN l fr fc tr tc (hWipe c gd) x.toNat (IntKind.i64.wrap (x_1 + (1 : Int))).toNat) ∧ True) ∧ (SV.p 0 0 = SV.p 0
 0 ∧ True) ∧ Obj.deferred (some []) = Obj.deferred (some []) ∧ ((SV.p 6 0 = SV.p 6 0 ∧ SV.p 7 0 = SV.p 7 0 ∧ SV.p 8 0 = SV.p 8 0 ∧ SV.p 9 0 = SV.p 9 0 ∧ SV.p 15 0 = SV.p 15 0 ∧ True) ∧ #[(41 : Nat), (42 : Nat)] = #[(41 : Nat), (42 : Nat)] ∧ codeAt
 Tryz.f92 [1, 1, 1, 1, 0, 1, 0, 0] = codeAt Tryz.f92 [1, 1, 1, 1, 0, 1, 0, 0] ∧ codeAt Tryz.f92 [1, 1, 1, 1, 0, 1, 0, 1] = codeAt Tryz.f92 [1, 1, 1, 1, 0, 1, 0, 1]) ∧ (vI (↑l.length : Int) = vI (↑l.length : Int) ∧ vI (↑(nC l) : Int) = vI (↑(nC l) :
 Int) ∧ True) ∧ True) ∧ ((↑(nC l) : Int) - IntKind.i64.wrap (x_1 + (1 : Int))).toNat < ((↑(nC l) : Int) - x_1).toNat)) (((0 : Int) ≤ IntKind.i64.wrap (x_1 + (1 : Int)) ∧ IntKind.i64.wrap (x_1 + (1 : Int)) ≤ (↑(nC l) : Int)) ∧ ((SV.y 18 = SV.y 18 ∧
 SV.p 16 0 = SV.p 16 0 ∧ SV.p 19 0 = SV.p 19 0 ∧ vI x = vI x ∧ vI (↑l.length : Int) = vI (↑l.length : Int) ∧ vI x = vI x ∧ vI (↑(nC l) : Int) = vI (↑(nC l) : Int) ∧ vI (IntKind.i64.wrap (x_1 + (1 : Int))) = vI (IntKind.i64.wrap (x_1 + (1 : Int))) ∧
 True) ∧ (SV.h 1 [oe, 0] = SV.h 1 [oe, 0] ∧ True) ∧ (oe = oe ∧ ep = ep ∧ tuG l fr fc tr tc (hWipe c gd) x.toNat x_1.toNat = tuG l fr fc tr tc (hWipe c gd) x.toNat (IntKind.i64.wrap (x_1 + (1 : Int))).toNat) ∧ (vI fr = vI fr ∧ vI fc = vI fc ∧ True) ∧
 (vI tr = vI tr ∧ vI tc = vI tc ∧ True) ∧ (SV.v (Value.int IntKind.i32 c.g) = SV.v (Value.int IntKind.i32 c.g) ∧ vI c.a = vI c.a ∧ vB c.gd = vB c.gd ∧ vI c.m = vI c.m ∧ True) ∧ (vB gd = vB gd ∧ True) ∧ (SV.p 0 0 = SV.p 0 0 ∧ True) ∧ (vI fr = vI fr ∧
 vI fc = vI fc ∧ True) ∧ (vI tr = vI tr ∧ vI tc = vI tc ∧ True) ∧ (SV.f (Fn.func (93 : Nat)) [SV.p 5 0, SV.p 4 0] = SV.f (Fn.func (93 : Nat)) [SV.p 5 0, SV.p 4 0] ∧ True) ∧ (vI fr = vI fr ∧ vI fc = vI fc ∧ vI tr = vI tr ∧ vI tc = vI tc ∧ True) ∧ (vI
 fr = vI fr ∧ vI fc = vI fc ∧ True) ∧ (SV.v (Value.int IntKind.i32 (at2 l fr fc).g) = SV.v (Value.int IntKind.i32 (at2 l fr fc).g) ∧ vI (at2 l fr fc).a = vI (at2 l fr fc).a ∧ vB (at2 l fr fc).gd = vB (at2 l fr fc).gd ∧ vI (at2 l fr fc).m = vI (at2 l
 fr fc).m ∧ True) ∧ (vI tr = vI tr ∧ vI tc = vI tc ∧ True) ∧ (SV.v (Value.int IntKind.i32 (at2 l tr tc).g) = SV.v (Value.int IntKind.i32 (at2 l tr tc).g) ∧ vI (at2 l tr tc).a = vI (at2 l tr tc).a ∧ vB (at2 l tr tc).gd = vB (at2 l tr tc).gd ∧ vI (at2 l
 tr tc).m = vI (at2 l tr tc).m ∧ True) ∧ (vI (tuN l fr fc tr tc (hWipe c gd) x.toNat x_1.toNat) = vI (tuN l fr fc tr tc (hWipe c gd) x.toNat (IntKind.i64.wrap (x_1 + (1 : Int))).toNat) ∧ True) ∧ (SV.p 0 0 = SV.p 0 0 ∧ True) ∧ Obj.deferred (some []) =
 Obj.deferred (some []) ∧ ((SV.p 6 0 = SV.p 6 0 ∧ SV.p 7 0 = SV.p 7 0 ∧ SV.p 8 0 = SV.p 8 0 ∧ SV.p 9 0 = SV.p 9 0 ∧ SV.p 15 0 = SV.p 15 0 ∧ True) ∧ #[(41 : Nat), (42 : Nat)] = #[(41 : Nat), (42 : Nat)] ∧ codeAt Tryz.f92 [1, 1, 1, 1, 0, 1, 0, 0] =
 codeAt Tryz.f92 [1, 1, 1, 1, 0, 1, 0, 0] ∧ codeAt Tryz.f92 [1, 1, 1, 1, 0, 1, 0, 1] = codeAt Tryz.f92 [1, 1, 1, 1, 0, 1, 0, 1]) ∧ (vI (↑l.length : Int) = vI (↑l.length : Int) ∧ vI (↑(nC l) : Int) = vI (↑(nC l) : Int) ∧ True) ∧ True) ∧ ((↑(nC l) :
 Int) - IntKind.i64.wrap (x_1 + (1 : Int))).toNat < ((↑(nC l) : Int) - x_1).toNat)) (br (!(((tuG l fr fc tr tc (hWipe c gd) x.toNat x_1.toNat).getD x.toNat []).getD x_1.toNat C4.no).gd) (br (!(c.g == (((tuG l fr fc tr tc (hWipe c gd) x.toNat
 x_1.toNat).getD x.toNat []).getD x_1.toNat C4.no).g && (c.a == (((tuG l fr fc tr tc (hWipe c gd) x.toNat x_1.toNat).getD x.toNat []).getD x_1.toNat C4.no).a && (c.gd == (((tuG l fr fc tr tc (hWipe c gd) x.toNat x_1.toNat).getD x.toNat []).getD
 x_1.toNat C4.no).gd && (c.m == (((tuG l fr fc tr tc (hWipe c gd) x.toNat x_1.toNat).getD x.toNat []).getD x_1.toNat C4.no).m && true))))) (true = true ∧ (oe = oe ∧ GW (tuG l fr fc tr tc (hWipe c gd) x.toNat x_1.toNat)) ∧ br (inB (tuG l fr fc tr tc
 (hWipe c gd) x.toNat x_1.toNat) x x_1) (((0 : Int) ≤ IntKind.i64.wrap (x_1 + (1 : Int)) ∧ IntKind.i64.wrap (x_1 + (1 : Int)) ≤ (↑(nC l) : Int)) ∧ ((SV.y 18 = SV.y 18 ∧ SV.p 16 0 = SV.p 16 0 ∧ SV.p 19 0 = SV.p 19 0 ∧ vI x = vI x ∧ vI (↑l.length : Int)
 = vI (↑l.length : Int) ∧ vI x = vI x ∧ vI (↑(nC l) : Int) = vI (↑(nC l) : Int) ∧ vI (IntKind.i64.wrap (x_1 + (1 : Int))) = vI (IntKind.i64.wrap (x_1 + (1 : Int))) ∧ True) ∧ (SV.h 1 [oe, 0] = SV.h 1 [oe, 0] ∧ True) ∧ (oe = oe ∧ ep = ep ∧ set2 (tuG l
 fr fc tr tc (hWipe c gd) x.toNat x_1.toNat) x x_1 (C4.mk c.g c.a c.gd c.m) = tuG l fr fc tr tc (hWipe c gd) x.toNat (IntKind.i64.wrap (x_1 + (1 : Int))).toNat) ∧ (vI fr = vI fr ∧ vI fc = vI fc ∧ True) ∧ (vI tr = vI tr ∧ vI tc = vI tc ∧ True) ∧ (SV.v
 (Value.int IntKind.i32 c.g) = SV.v (Value.int IntKind.i32 c.g) ∧ vI c.a = vI c.a ∧ vB c.gd = vB c.gd ∧ vI c.m = vI c.m ∧ True) ∧ (vB gd = vB gd ∧ True) ∧ (SV.p 0 0 = SV.p 0 0 ∧ True) ∧ (vI fr = vI fr ∧ vI fc = vI fc ∧ True) ∧ (vI tr = vI tr ∧ vI tc =
 vI tc ∧ True) ∧ (SV.f (Fn.func (93 : Nat)) [SV.p 5 0, SV.p 4 0] = SV.f (Fn.func (93 : Nat)) [SV.p 5 0, SV.p 4 0] ∧ True) ∧ (vI fr = vI fr ∧ vI fc = vI fc ∧ vI tr = vI tr ∧ vI tc = vI tc ∧ True) ∧ (vI fr = vI fr ∧ vI fc = vI fc ∧ True) ∧ (SV.v
 (Value.int IntKind.i32 (at2 l fr fc).g) = SV.v (Value.int IntKind.i32 (at2 l fr fc).g) ∧ vI (at2 l fr fc).a = vI (at2 l fr fc).a ∧ vB (at2 l fr fc).gd = vB (at2 l fr fc).gd ∧ vI (at2 l fr fc).m = vI (at2 l fr fc).m ∧ True) ∧ (vI tr = vI tr ∧ vI tc =
 vI tc ∧ True) ∧ (SV.v (Value.int IntKind.i32 (at2 l tr tc).g) = SV.v (Value.int IntKind.i32 (at2 l tr tc).g) ∧ vI (at2 l tr tc).a = vI (at2 l tr tc).a ∧ vB (at2 l tr tc).gd = vB (at2 l tr tc).gd ∧ vI (at2 l tr tc).m = vI (at2 l tr tc).m ∧ True) ∧ (vI
 (IntKind.i64.wrap (tuN l fr fc tr tc (hWipe c gd) x.toNat x_1.toNat + (1 : Int))) = vI (tuN l fr fc tr tc (hWipe c gd) x.toNat (IntKind.i64.wrap (x_1 + (1 : Int))).toNat) ∧ True) ∧ (SV.p 0 0 = SV.p 0 0 ∧ True) ∧ Obj.deferred (some []) = Obj.deferred
 (some []) ∧ ((SV.p 6 0 = SV.p 6 0 ∧ SV.p 7 0 = SV.p 7 0 ∧ SV.p 8 0 = SV.p 8 0 ∧ SV.p 9 0 = SV.p 9 0 ∧ SV.p 15 0 = SV.p 15 0 ∧ True) ∧ #[(41 : Nat), (42 : Nat)] = #[(41 : Nat), (42 : Nat)] ∧ codeAt Tryz.f92 [1, 1, 1, 1, 0, 1, 0, 0] = codeAt Tryz.f92
 [1, 1, 1, 1, 0, 1, 0, 0] ∧ codeAt Tryz.f92 [1, 1, 1, 1, 0, 1, 0, 1] = codeAt Tryz.f92 [1, 1, 1, 1, 0, 1, 0, 1]) ∧ (vI (↑l.length : Int) = vI (↑l.length : Int) ∧ vI (↑(nC l) : Int) = vI (↑(nC l) : Int) ∧ True) ∧ True) ∧ ((↑(nC l) : Int) -
 IntKind.i64.wrap (x_1 + (1 : Int))).toNat < ((↑(nC l) : Int) - x_1).toNat) (((0 : Int) ≤ IntKind.i64.wrap (x_1 + (1 : Int)) ∧ IntKind.i64.wrap (x_1 + (1 : Int)) ≤ (↑(nC l) : Int)) ∧ ((SV.y 18 = SV.y 18 ∧ SV.p 16 0 = SV.p 16 0 ∧ SV.p 19 0 = SV.p 19 0
 ∧ vI x = vI x ∧ vI (↑l.length : Int) = vI (↑l.length : Int) ∧ vI x = vI x ∧ vI (↑(nC l) : Int) = vI (↑(nC l) : Int) ∧ vI (IntKind.i64.wrap (x_1 + (1 : Int))) = vI (IntKind.i64.wrap (x_1 + (1 : Int))) ∧ True) ∧ (SV.h 1 [oe, 0] = SV.h 1 [oe, 0] ∧ True)
 ∧ (oe = oe ∧ ep = ep ∧ tuG l fr fc tr tc (hWipe c gd) x.toNat x_1.toNat = tuG l fr fc tr tc (hWipe c gd) x.toNat (IntKind.i64.wrap (x_1 + (1 : Int))).toNat) ∧ (vI fr = vI fr ∧ vI fc = vI fc ∧ True) ∧ (vI tr = vI tr ∧ vI tc = vI tc ∧ True) ∧ (SV.v
 (Value.int IntKind.i32 c.g) = SV.v (Value.int IntKind.i32 c.g) ∧ vI c.a = vI c.a ∧ vB c.gd = vB c.gd ∧ vI c.m = vI c.m ∧ True) ∧ (vB gd = vB gd ∧ True) ∧ (SV.p 0 0 = SV.p 0 0 ∧ True) ∧ (vI fr = vI fr ∧ vI fc = vI fc ∧ True) ∧ (vI tr = vI tr ∧ vI tc =
 vI tc ∧ True) ∧ (SV.f (Fn.func (93 : Nat)) [SV.p 5 0, SV.p 4 0] = SV.f (Fn.func (93 : Nat)) [SV.p 5 0, SV.p 4 0] ∧ True) ∧ (vI fr = vI fr ∧ vI fc = vI fc ∧ vI tr = vI tr ∧ vI tc = vI tc ∧ True) ∧ (vI fr = vI fr ∧ vI fc = vI fc ∧ True) ∧ (SV.v
 (Value.int IntKind.i32 (at2 l fr fc).g) = SV.v (Value.int IntKind.i32 (at2 l fr fc).g) ∧ vI (at2 l fr fc).a = vI (at2 l fr fc).a ∧ vB (at2 l fr fc).gd = vB (at2 l fr fc).gd ∧ vI (at2 l fr fc).m = vI (at2 l fr fc).m ∧ True) ∧ (vI tr = vI tr ∧ vI tc =
 vI tc ∧ True) ∧ (SV.v (Value.int IntKind.i32 (at2 l tr tc).g) = SV.v (Value.int IntKind.i32 (at2 l tr tc).g) ∧ vI (at2 l tr tc).a = vI (at2 l tr tc).a ∧ vB (at2 l tr tc).gd = vB (at2 l tr tc).gd ∧ vI (at2 l tr tc).m = vI (at2 l tr tc).m ∧ True) ∧ (vI
 (IntKind.i64.wrap (tuN l fr fc tr tc (hWipe c gd) x.toNat x_1.toNat + (1 : Int))) = vI (tuN l fr fc tr tc (hWipe c gd) x.toNat (IntKind.i64.wrap (x_1 + (1 : Int))).toNat) ∧ True) ∧ (SV.p 0 0 = SV.p 0 0 ∧ True) ∧ Obj.deferred (some []) = Obj.deferred
 (some []) ∧ ((SV.p 6 0 = SV.p 6 0 ∧ SV.p 7 0 = SV.p 7 0 ∧ SV.p 8 0 = SV.p 8 0 ∧ SV.p 9 0 = SV.p 9 0 ∧ SV.p 15 0 = SV.p 15 0 ∧ True) ∧ #[(41 : Nat), (42 : Nat)] = #[(41 : Nat), (42 : Nat)] ∧ codeAt Tryz.f92 [1, 1, 1, 1, 0, 1, 0, 0] = codeAt Tryz.f92
 [1, 1, 1, 1, 0, 1, 0, 0] ∧ codeAt Tryz.f92 [1, 1, 1, 1, 0, 1, 0, 1] = codeAt Tryz.f92 [1, 1, 1, 1, 0, 1, 0, 1]) ∧ (vI (↑l.length : Int) = vI (↑l.length : Int) ∧ vI (↑(nC l) : Int) = vI (↑(nC l) : Int) ∧ True) ∧ True) ∧ ((↑(nC l) : Int) -
 IntKind.i64.wrap (x_1 + (1 : Int))).toNat < ((↑(nC l) : Int) - x_1).toNat)) (((0 : Int) ≤ IntKind.i64.wrap (x_1 + (1 : Int)) ∧ IntKind.i64.wrap (x_1 + (1 : Int)) ≤ (↑(nC l) : Int)) ∧ ((SV.y 18 = SV.y 18 ∧ SV.p 16 0 = SV.p 16 0 ∧ SV.p 19 0 = SV.p 19 0
 ∧ vI x = vI x ∧ vI (↑l.length : Int) = vI (↑l.length : Int) ∧ vI x = vI x ∧ vI (↑(nC l) : Int) = vI (↑(nC l) : Int) ∧ vI (IntKind.i64.wrap (x_1 + (1 : Int))) = vI (IntKind.i64.wrap (x_1 + (1 : Int))) ∧ True) ∧ (SV.h 1 [oe, 0] = SV.h 1 [oe, 0] ∧ True)
 ∧ (oe = oe ∧ ep = ep ∧ tuG l fr fc tr tc (hWipe c gd) x.toNat x_1.toNat = tuG l fr fc tr tc (hWipe c gd) x.toNat (IntKind.i64.wrap (x_1 + (1 : Int))).toNat) ∧ (vI fr = vI fr ∧ vI fc = vI fc ∧ True) ∧ (vI tr = vI tr ∧ vI tc = vI tc ∧ True) ∧ (SV.v
 (Value.int IntKind.i32 c.g) = SV.v (Value.int IntKind.i32 c.g) ∧ vI c.a = vI c.a ∧ vB c.gd = vB c.gd ∧ vI c.m = vI c.m ∧ True) ∧ (vB gd = vB gd ∧ True) ∧ (SV.p 0 0 = SV.p 0 0 ∧ True) ∧ (vI fr = vI fr ∧ vI fc = vI fc ∧ True) ∧ (vI tr = vI tr ∧ vI tc =
 vI tc ∧ True) ∧ (SV.f (Fn.func (93 : Nat)) [SV.p 5 0, SV.p 4 0] = SV.f (Fn.func (93 : Nat)) [SV.p 5 0, SV.p 4 0] ∧ True) ∧ (vI fr = vI fr ∧ vI fc = vI fc ∧ vI tr = vI tr ∧ vI tc = vI tc ∧ True) ∧ (vI fr = vI fr ∧ vI fc = vI fc ∧ True) ∧ (SV.v
 (Value.int IntKind.i32 (at2 l fr fc).g) = SV.v (Value.int IntKind.i32 (at2 l fr fc).g) ∧ vI (at2 l fr fc).a = vI (at2 l fr fc).a ∧ vB (at2 l fr fc).gd = vB (at2 l fr fc).gd ∧ vI (at2 l fr fc).m = vI (at2 l fr fc).m ∧ True) ∧ (vI tr = vI tr ∧ vI tc =
 vI tc ∧ True) ∧ (SV.v (Value.int IntKind.i32 (at2 l tr tc).g) = SV.v (Value.int IntKind.i32 (at2 l tr tc).g) ∧ vI (at2 l tr tc).a = vI (at2 l tr tc).a ∧ vB (at2 l tr tc).gd = vB (at2 l tr tc).gd ∧ vI (at2 l tr tc).m = vI (at2 l tr tc).m ∧ True) ∧ (vI
 (tuN l fr fc tr tc (hWipe c gd) x.toNat x_1.toNat) = vI (tuN l fr fc tr tc (hWipe c gd) x.toNat (IntKind.i64.wrap (x_1 + (1 : Int))).toNat) ∧ True) ∧ (SV.p 0 0 = SV.p 0 0 ∧ True) ∧ Obj.deferred (some []) = Obj.deferred (some []) ∧ ((SV.p 6 0 = SV.p 6
 0 ∧ SV.p 7 0 = SV.p 7 0 ∧ SV.p 8 0 = SV.p 8 0 ∧ SV.p 9 0 = SV.p 9 0 ∧ SV.p 15 0 = SV.p 15 0 ∧ True) ∧ #[(41 : Nat), (42 : Nat)] = #[(41 : Nat), (42 : Nat)] ∧ codeAt Tryz.f92 [1, 1, 1, 1, 0, 1, 0, 0] = codeAt Tryz.f92 [1, 1, 1, 1, 0, 1, 0, 0] ∧ codeAt
 Tryz.f92 [1, 1, 1, 1, 0, 1, 0, 1] = codeAt Tryz.f92 [1, 1, 1, 1, 0, 1, 0, 1]) ∧ (vI (↑l.length : Int) = vI (↑l.length : Int) ∧ vI (↑(nC l) : Int) = vI (↑(nC l) : Int) ∧ True) ∧ True) ∧ ((↑(nC l) : Int) - IntKind.i64.wrap (x_1 + (1 : Int))).toNat <
 ((↑(nC l) : Int) - x_1).toNat)) (br (!((((tuG l fr fc tr tc (hWipe c gd) x.toNat x_1.toNat).getD x.toNat []).getD x_1.toNat C4.no).g == (((tuG l fr fc tr tc (hWipe c gd) x.toNat x_1.toNat).getD x.toNat []).getD x_1.toNat C4.no).g && ((((tuG l fr fc
 tr tc (hWipe c gd) x.toNat x_1.toNat).getD x.toNat []).getD x_1.toNat C4.no).a == (((tuG l fr fc tr tc (hWipe c gd) x.toNat x_1.toNat).getD x.toNat []).getD x_1.toNat C4.no).a && ((((tuG l fr fc tr tc (hWipe c gd) x.toNat x_1.toNat).getD x.toNat
 []).getD x_1.toNat C4.no).gd == (((tuG l fr fc tr tc (hWipe c gd) x.toNat x_1.toNat).getD x.toNat []).getD x_1.toNat C4.no).gd && ((((tuG l fr fc tr tc (hWipe c gd) x.toNat x_1.toNat).getD x.toNat []).getD x_1.toNat C4.no).m == (((tuG l fr fc tr tc
 (hWipe c gd) x.toNat x_1.toNat).getD x.toNat []).getD x_1.toNat C4.no).m && true))))) (true = true ∧ (oe = oe ∧ GW (tuG l fr fc tr tc (hWipe c gd) x.toNat x_1.toNat)) ∧ br (inB (tuG l fr fc tr tc (hWipe c gd) x.toNat x_1.toNat) x x_1) (((0 : Int) ≤
 IntKind.i64.wrap (x_1 + (1 : Int)) ∧ IntKind.i64.wrap (x_1 + (1 : Int)) ≤ (↑(nC l) : Int)) ∧ ((SV.y 18 = SV.y 18 ∧ SV.p 16 0 = SV.p 16 0 ∧ SV.p 19 0 = SV.p 19 0 ∧ vI x = vI x ∧ vI (↑l.length : Int) = vI (↑l.length : Int) ∧ vI x = vI x ∧ vI (↑(nC l) :
 Int) = vI (↑(nC l) : Int) ∧ vI (IntKind.i64.wrap (x_1 + (1 : Int))) = vI (IntKind.i64.wrap (x_1 + (1 : Int))) ∧ True) ∧ (SV.h 1 [oe, 0] = SV.h 1 [oe, 0] ∧ True) ∧ (oe = oe ∧ ep = ep ∧ set2 (tuG l fr fc tr tc (hWipe c gd) x.toNat x_1.toNat) x x_1
 (C4.mk (((tuG l fr fc tr tc (hWipe c gd) x.toNat x_1.toNat).getD x.toNat []).getD x_1.toNat C4.no).g (((tuG l fr fc tr tc (hWipe c gd) x.toNat x_1.toNat).getD x.toNat []).getD x_1.toNat C4.no).a (((tuG l fr fc tr tc (hWipe c gd) x.toNat
 x_1.toNat).getD x.toNat []).getD x_1.toNat C4.no).gd (((tuG l fr fc tr tc (hWipe c gd) x.toNat x_1.toNat).getD x.toNat []).getD x_1.toNat C4.no).m) = tuG l fr fc tr tc (hWipe c gd) x.toNat (IntKind.i64.wrap (x_1 + (1 : Int))).toNat) ∧ (vI fr = vI fr
 ∧ vI fc = vI fc ∧ True) ∧ (vI tr = vI tr ∧ vI tc = vI tc ∧ True) ∧ (SV.v (Value.int IntKind.i32 c.g) = SV.v (Value.int IntKind.i32 c.g) ∧ vI c.a = vI c.a ∧ vB c.gd = vB c.gd ∧ vI c.m = vI c.m ∧ True) ∧ (vB gd = vB gd ∧ True) ∧ (SV.p 0 0 = SV.p 0 0 ∧
 True) ∧ (vI fr = vI fr ∧ vI fc = vI fc ∧ True) ∧ (vI tr = vI tr ∧ vI tc = vI tc ∧ True) ∧ (SV.f (Fn.func (93 : Nat)) [SV.p 5 0, SV.p 4 0] = SV.f (Fn.func (93 : Nat)) [SV.p 5 0, SV.p 4 0] ∧ True) ∧ (vI fr = vI fr ∧ vI fc = vI fc ∧ vI tr = vI tr ∧ vI
 tc = vI tc ∧ True) ∧ (vI fr = vI fr ∧ vI fc = vI fc ∧ True) ∧ (SV.v (Value.int IntKind.i32 (at2 l fr fc).g) = SV.v (Value.int IntKind.i32 (at2 l fr fc).g) ∧ vI (at2 l fr fc).a = vI (at2 l fr fc).a ∧ vB (at2 l fr fc).gd = vB (at2 l fr fc).gd ∧ vI (at2
 l fr fc).m = vI (at2 l fr fc).m ∧ True) ∧ (vI tr = vI tr ∧ vI tc = vI tc ∧ True) ∧ (SV.v (Value.int IntKind.i32 (at2 l tr tc).g) = SV.v (Value.int IntKind.i32 (at2 l tr tc).g) ∧ vI (at2 l tr tc).a = vI (at2 l tr tc).a ∧ vB (at2 l tr tc).gd = vB (at2
 l tr tc).gd ∧ vI (at2 l tr tc).m = vI (at2 l tr tc).m ∧ True) ∧ (vI (IntKind.i64.wrap (tuN l fr fc tr tc (hWipe c gd) x.toNat x_1.toNat + (1 : Int))) = vI (tuN l fr fc tr tc (hWipe c gd) x.toNat (IntKind.i64.wrap (x_1 + (1 : Int))).toNat) ∧ True) ∧
 (SV.p 0 0 = SV.p 0 0 ∧ True) ∧ Obj.deferred (some []) = Obj.deferred (some []) ∧ ((SV.p 6 0 = SV.p 6 0 ∧ SV.p 7 0 = SV.p 7 0 ∧ SV.p 8 0 = SV.p 8 0 ∧ SV.p 9 0 = SV.p 9 0 ∧ SV.p 15 0 = SV.p 15 0 ∧ True) ∧ #[(41 : Nat), (42 : Nat)] = #[(41 : Nat), (42 :
 Nat)] ∧ codeAt Tryz.f92 [1, 1, 1, 1, 0, 1, 0, 0] = codeAt Tryz.f92 [1, 1, 1, 1, 0, 1, 0, 0] ∧ codeAt Tryz.f92 [1, 1, 1, 1, 0, 1, 0, 1] = codeAt Tryz.f92 [1, 1, 1, 1, 0, 1, 0, 1]) ∧ (vI (↑l.length : Int) = vI (↑l.length : Int) ∧ vI (↑(nC l) : Int) =
 vI (↑(nC l) : Int) ∧ True) ∧ True) ∧ ((↑(nC l) : Int) - IntKind.i64.wrap (x_1 + (1 : Int))).toNat < ((↑(nC l) : Int) - x_1).toNat) (((0 : Int) ≤ IntKind.i64.wrap (x_1 + (1 : Int)) ∧ IntKind.i64.wrap (x_1 + (1 : Int)) ≤ (↑(nC l) : Int)) ∧ ((SV.y 18 =
 SV.y 18 ∧ SV.p 16 0 = SV.p 16 0 ∧ SV.p 19 0 = SV.p 19 0 ∧ vI x = vI x ∧ vI (↑l.length : Int) = vI (↑l.length : Int) ∧ vI x = vI x ∧ vI (↑(nC l) : Int) = vI (↑(nC l) : Int) ∧ vI (IntKind.i64.wrap (x_1 + (1 : Int))) = vI (IntKind.i64.wrap (x_1 + (1 :
 Int))) ∧ True) ∧ (SV.h 1 [oe, 0] = SV.h 1 [oe, 0] ∧ True) ∧ (oe = oe ∧ ep = ep ∧ tuG l fr fc tr tc (hWipe c gd) x.toNat x_1.toNat = tuG l fr fc tr tc (hWipe c gd) x.toNat (IntKind.i64.wrap (x_1 + (1 : Int))).toNat) ∧ (vI fr = vI fr ∧ vI fc = vI fc ∧
 True) ∧ (vI tr = vI tr ∧ vI tc = vI tc ∧ True) ∧ (SV.v (Value.int IntKind.i32 c.g) = SV.v (Value.int IntKind.i32 c.g) ∧ vI c.a = vI c.a ∧ vB c.gd = vB c.gd ∧ vI c.m = vI c.m ∧ True) ∧ (vB gd = vB gd ∧ True) ∧ (SV.p 0 0 = SV.p 0 0 ∧ True) ∧ (vI fr =
 vI fr ∧ vI fc = vI fc ∧ True) ∧ (vI tr = vI tr ∧ vI tc = vI tc ∧ True) ∧ (SV.f (Fn.func (93 : Nat)) [SV.p 5 0, SV.p 4 0] = SV.f (Fn.func (93 : Nat)) [SV.p 5 0, SV.p 4 0] ∧ True) ∧ (vI fr = vI fr ∧ vI fc = vI fc ∧ vI tr = vI tr ∧ vI tc = vI tc ∧ True)
 ∧ (vI fr = vI fr ∧ vI fc = vI fc ∧ True) ∧ (SV.v (Value.int IntKind.i32 (at2 l fr fc).g) = SV.v (Value.int IntKind.i32 (at2 l fr fc).g) ∧ vI (at2 l fr fc).a = vI (at2 l fr fc).a ∧ vB (at2 l fr fc).gd = vB (at2 l fr fc).gd ∧ vI (at2 l fr fc).m = vI
 (at2 l fr fc).m ∧ True) ∧ (vI tr = vI tr ∧ vI tc = vI tc ∧ True) ∧ (SV.v (Value.int IntKind.i32 (at2 l tr tc).g) = SV.v (Value.int IntKind.i32 (at2 l tr tc).g) ∧ vI (at2 l tr tc).a = vI (at2 l tr tc).a ∧ vB (at2 l tr tc).gd = vB (at2 l tr tc).gd ∧ vI
 (at2 l tr tc).m = vI (at2 l tr tc).m ∧ True) ∧ (vI (IntKind.i64.wrap (tuN l fr fc tr tc (hWipe c gd) x.toNat x_1.toNat + (1 : Int))) = vI (tuN l fr fc tr tc (hWipe c gd) x.toNat (IntKind.i64.wrap (x_1 + (1 : Int))).toNat) ∧ True) ∧ (SV.p 0 0 = SV.p 0
 0 ∧ True) ∧ Obj.deferred (some []) = Obj.deferred (some []) ∧ ((SV.p 6 0 = SV.p 6 0 ∧ SV.p 7 0 = SV.p 7 0 ∧ SV.p 8 0 = SV.p 8 0 ∧ SV.p 9 0 = SV.p 9 0 ∧ SV.p 15 0 = SV.p 15 0 ∧ True) ∧ #[(41 : Nat), (42 : Nat)] = #[(41 : Nat), (42 : Nat)] ∧ codeAt
 Tryz.f92 [1, 1, 1, 1, 0, 1, 0, 0] = codeAt Tryz.f92 [1, 1, 1, 1, 0, 1, 0, 0] ∧ codeAt Tryz.f92 [1, 1, 1, 1, 0, 1, 0, 1] = codeAt Tryz.f92 [1, 1, 1, 1, 0, 1, 0, 1]) ∧ (vI (↑l.length : Int) = vI (↑l.length : Int) ∧ vI (↑(nC l) : Int) = vI (↑(nC l) :
 Int) ∧ True) ∧ True) ∧ ((↑(nC l) : Int) - IntKind.i64.wrap (x_1 + (1 : Int))).toNat < ((↑(nC l) : Int) - x_1).toNat)) (((0 : Int) ≤ IntKind.i64.wrap (x_1 + (1 : Int)) ∧ IntKind.i64.wrap (x_1 + (1 : Int)) ≤ (↑(nC l) : Int)) ∧ ((SV.y 18 = SV.y 18 ∧
 SV.p 16 0 = SV.p 16 0 ∧ SV.p 19 0 = SV.p 19 0 ∧ vI x = vI x ∧ vI (↑l.length : Int) = vI (↑l.length : Int) ∧ vI x = vI x ∧ vI (↑(nC l) : Int) = vI (↑(nC l) : Int) ∧ vI (IntKind.i64.wrap (x_1 + (1 : Int))) = vI (IntKind.i64.wrap (x_1 + (1 : Int))) ∧
 True) ∧ (SV.h 1 [oe, 0] = SV.h 1 [oe, 0] ∧ True) ∧ (oe = oe ∧ ep = ep ∧ tuG l fr fc tr tc (hWipe c gd) x.toNat x_1.toNat = tuG l fr fc tr tc (hWipe c gd) x.toNat (IntKind.i64.wrap (x_1 + (1 : Int))).toNat) ∧ (vI fr = vI fr ∧ vI fc = vI fc ∧ True) ∧
 (vI tr = vI tr ∧ vI tc = vI tc ∧ True) ∧ (SV.v (Value.int IntKind.i32 c.g) = SV.v (Value.int IntKind.i32 c.g) ∧ vI c.a = vI c.a ∧ vB c.gd = vB c.gd ∧ vI c.m = vI c.m ∧ True) ∧ (vB gd = vB gd ∧ True) ∧ (SV.p 0 0 = SV.p 0 0 ∧ True) ∧ (vI fr = vI fr ∧
 vI fc = vI fc ∧ True) ∧ (vI tr = vI tr ∧ vI tc = vI tc ∧ True) ∧ (SV.f (Fn.func (93 : Nat)) [SV.p 5 0, SV.p 4 0] = SV.f (Fn.func (93 : Nat)) [SV.p 5 0, SV.p 4 0] ∧ True) ∧ (vI fr = vI fr ∧ vI fc = vI fc ∧ vI tr = vI tr ∧ vI tc = vI tc ∧ True) ∧ (vI
 fr = vI fr ∧ vI fc = vI fc ∧ True) ∧ (SV.v (Value.int IntKind.i32 (at2 l fr fc).g) = SV.v (Value.int IntKind.i32 (at2 l fr fc).g) ∧ vI (at2 l fr fc).a = vI (at2 l fr fc).a ∧ vB (at2 l fr fc).gd = vB (at2 l fr fc).gd ∧ vI (at2 l fr fc).m = vI (at2 l
 fr fc).m ∧ True) ∧ (vI tr = vI tr ∧ vI tc = vI tc ∧ True) ∧ (SV.v (Value.int IntKind.i32 (at2 l tr tc).g) = SV.v (Value.int IntKind.i32 (at2 l tr tc).g) ∧ vI (at2 l tr tc).a = vI (at2 l tr tc).a ∧ vB (at2 l tr tc).gd = vB (at2 l tr tc).gd ∧ vI (at2 l
 tr tc).m = vI (at2 l tr tc).m ∧ True) ∧ (vI (tuN l fr fc tr tc (hWipe c gd) x.toNat x_1.toNat) = vI (tuN l fr fc tr tc (hWipe c gd) x.toNat (IntKind.i64.wrap (x_1 + (1 : Int))).toNat) ∧ True) ∧ (SV.p 0 0 = SV.p 0 0 ∧ True) ∧ Obj.deferred (some []) =
 Obj.deferred (some []) ∧ ((SV.p 6 0 = SV.p 6 0 ∧ SV.p 7 0 = SV.p 7 0 ∧ SV.p 8 0 = SV.p 8 0 ∧ SV.p 9 0 = SV.p 9 0 ∧ SV.p 15 0 = SV.p 15 0 ∧ True) ∧ #[(41 : Nat), (42 : Nat)] = #[(41 : Nat), (42 : Nat)] ∧ codeAt Tryz.f92 [1, 1, 1, 1, 0, 1, 0, 0] =
 codeAt Tryz.f92 [1, 1, 1, 1, 0, 1, 0, 0] ∧ codeAt Tryz.f92 [1, 1, 1, 1, 0, 1, 0, 1] = codeAt Tryz.f92 [1, 1, 1, 1, 0, 1, 0, 1]) ∧ (vI (↑l.length : Int) = vI (↑l.length : Int) ∧ vI (↑(nC l) : Int) = vI (↑(nC l) : Int) ∧ True) ∧ True) ∧ ((↑(nC l) :
 Int) - IntKind.i64.wrap (x_1 + (1 : Int))).toNat < ((↑(nC l) : Int) - x_1).toNat)))))))))) (((0 : Int) ≤ IntKind.i64.wrap (x + (1 : Int)) ∧ IntKind.i64.wrap (x + (1 : Int)) ≤ (↑l.length : Int)) ∧ ((SV.y 18 = SV.y 18 ∧ SV.p 16 0 = SV.p 16 0 ∧ SV.p 19
 0 = SV.p 19 0 ∧ vI (↑l.length : Int) = vI (↑l.length : Int) ∧ vI (IntKind.i64.wrap (x + (1 : Int))) = vI (IntKind.i64.wrap (x + (1 : Int))) ∧ True) ∧ (SV.h 1 [oe, 0] = SV.h 1 [oe, 0] ∧ True) ∧ (oe = oe ∧ ep = ep ∧ tuG l fr fc tr tc (hWipe c gd)
 x.toNat x_1.toNat = tuG l fr fc tr tc (hWipe c gd) (IntKind.i64.wrap (x + (1 : Int))).toNat (0 : Nat)) ∧ (vI fr = vI fr ∧ vI fc = vI fc ∧ True) ∧ (vI tr = vI tr ∧ vI tc = vI tc ∧ True) ∧ (SV.v (Value.int IntKind.i32 c.g) = SV.v (Value.int IntKind.i32
 c.g) ∧ vI c.a = vI c.a ∧ vB c.gd = vB c.gd ∧ vI c.m = vI c.m ∧ True) ∧ (vB gd = vB gd ∧ True) ∧ (SV.p 0 0 = SV.p 0 0 ∧ True) ∧ (vI fr = vI fr ∧ vI fc = vI fc ∧ True) ∧ (vI tr = vI tr ∧ vI tc = vI tc ∧ True) ∧ (SV.f (Fn.func (93 : Nat)) [SV.p 5 0,
 SV.p 4 0] = SV.f (Fn.func (93 : Nat)) [SV.p 5 0, SV.p 4 0] ∧ True) ∧ (vI fr = vI fr ∧ vI fc = vI fc ∧ vI tr = vI tr ∧ vI tc = vI tc ∧ True) ∧ (vI fr = vI fr ∧ vI fc = vI fc ∧ True) ∧ (SV.v (Value.int IntKind.i32 (at2 l fr fc).g) = SV.v (Value.int
 IntKind.i32 (at2 l fr fc).g) ∧ vI (at2 l fr fc).a = vI (at2 l fr fc).a ∧ vB (at2 l fr fc).gd = vB (at2 l fr fc).gd ∧ vI (at2 l fr fc).m = vI (at2 l fr fc).m ∧ True) ∧ (vI tr = vI tr ∧ vI tc = vI tc ∧ True) ∧ (SV.v (Value.int IntKind.i32 (at2 l tr
 tc).g) = SV.v (Value.int IntKind.i32 (at2 l tr tc).g) ∧ vI (at2 l tr tc).a = vI (at2 l tr tc).a ∧ vB (at2 l tr tc).gd = vB (at2 l tr tc).gd ∧ vI (at2 l tr tc).m = vI (at2 l tr tc).m ∧ True) ∧ (vI (tuN l fr fc tr tc (hWipe c gd) x.toNat x_1.toNat) =
 vI (tuN l fr fc tr tc (hWipe c gd) (IntKind.i64.wrap (x + (1 : Int))).toNat (0 : Nat)) ∧ True) ∧ (SV.p 0 0 = SV.p 0 0 ∧ True) ∧ Obj.deferred (some []) = Obj.deferred (some []) ∧ ((SV.p 6 0 = SV.p 6 0 ∧ SV.p 7 0 = SV.p 7 0 ∧ SV.p 8 0 = SV.p 8 0 ∧ SV.p
 9 0 = SV.p 9 0 ∧ SV.p 15 0 = SV.p 15 0 ∧ True) ∧ #[(41 : Nat), (42 : Nat)] = #[(41 : Nat), (42 : Nat)] ∧ codeAt Tryz.f92 [1, 1, 1, 1, 0, 1, 0, 0] = codeAt Tryz.f92 [1, 1, 1, 1, 0, 1, 0, 0] ∧ codeAt Tryz.f92 [1, 1, 1, 1, 0, 1, 0, 1] = codeAt Tryz.f92
 [1, 1, 1, 1, 0, 1, 0, 1]) ∧ (vI (↑l.length : Int) = vI (↑l.length : Int) ∧ vI (↑(nC l) : Int) = vI (↑(nC l) : Int) ∧ True) ∧ True) ∧ ((↑l.length : Int) - IntKind.i64.wrap (x + (1 : Int))).toNat < ((↑l.length : Int) - x).toNat)) (br (tuOk l fr fc tr
 tc) ((SV.t [vI (tuN l fr fc tr tc (hWipe c gd) x.toNat (0 : Nat)), vI (0 : Int)] = SV.t [vI (tuN l fr fc tr tc (hWipe c gd) l.length (0 : Nat)), vI (0 : Int)] ∧ True) ∧ (SV.h 1 [oe, 0] = SV.h 1 [oe, 0] ∧ True) ∧ (oe = oe ∧ ep = ep ∧ tuG l fr fc tr tc
 (hWipe c gd) x.toNat (0 : Nat) = turnL l fr fc tr tc (hWipe c gd)) ∧ True) ((SV.t [vI (tuN l fr fc tr tc (hWipe c gd) x.toNat (0 : Nat)), vI (0 : Int)] = SV.t [vI (0 : Int), vI (tuE l fr fc tr tc)] ∧ True) ∧ (SV.h 1 [oe, 0] = SV.h 1 [oe, 0] ∧ True) ∧
 (oe = oe ∧ ep = ep ∧ tuG l fr fc tr tc (hWipe c gd) x.toNat (0 : Nat) = l) ∧ True)))) (br (tuOk l fr fc tr tc) ((SV.t [vI (0 : Int), vI (11 : Int)] = SV.t [vI (tuN l fr fc tr tc (hWipe c gd) l.length (0 : Nat)), vI (0 : Int)] ∧ True) ∧ (SV.h 1 [oe,
 0] = SV.h 1 [oe, 0] ∧ True) ∧ (oe = oe ∧ ep = ep ∧ l = turnL l fr fc tr tc (hWipe c gd)) ∧ True) ((SV.t [vI (0 : Int), vI (11 : Int)] = SV.t [vI (0 : Int), vI (tuE l fr fc tr tc)] ∧ True) ∧ (SV.h 1 [oe, 0] = SV.h 1 [oe, 0] ∧ True) ∧ (oe = oe ∧ ep =
 ep ∧ l = l) ∧ True))) (br (tuOk l fr fc tr tc) ((SV.t [vI (0 : Int), vI (11 : Int)] = SV.t [vI (tuN l fr fc tr tc (hWipe c gd) l.length (0 : Nat)), vI (0 : Int)] ∧ True) ∧ (SV.h 1 [oe, 0] = SV.h 1 [oe, 0] ∧ True) ∧ (oe = oe ∧ ep = ep ∧ l = turnL l fr
 fc tr tc (hWipe c gd)) ∧ True) ((SV.t [vI (0 : Int), vI (11 : Int)] = SV.t [vI (0 : Int), vI (tuE l fr fc tr tc)] ∧ True) ∧ (SV.h 1 [oe, 0] = SV.h 1 [oe, 0] ∧ True) ∧ (oe = oe ∧ ep = ep ∧ l = l) ∧ True)))) (by
   kernel_rfl) ?_
  clear hp hφ
  have hR := hg.r1
  have hC := hg.c1
  simp only [LC4, II, LLC, nbeq, rq_iff, br_iff, hg, Bool.true_and, Bool.and_true, true_and, and_true, true_implies, false_implies, Bool.true_eq_false, Bool.false_eq_true, Bool.and_eq_true, Nat.ble_eq, Nat.blt_eq, decide_eq_true_eq, decide_eq_false_iff_not]
  simp only [eLen, eNat, eSz, tuG_length, tuG_gw hg, nbeq, true_and, and_true, true_implies, Int.toNat_natCast]
  refine ⟨fun h1 => ⟨fun h2 => ⟨fun h3 => ?_, fun h3 => ?_⟩, fun h2 => ?_⟩, fun h1 => ?_⟩
  · simp [tuOk, tuE, h1, h2, h3]
  rotate_left
  · simp [tuOk, tuE, h1, h2]
  · simp [tuOk, tuE, h1]
  refine ⟨by omega, ⟨(tuG_zero hg).symm, by rw [tuN_zero]⟩, fun x hx => ⟨fun hx2 => ⟨by omega, fun y hy => ⟨fun hy2 => ?_, fun hy2 => ?_⟩⟩, fun hx2 => ?_⟩⟩
  · obtain ⟨eg, el⟩ := tu_get (fr := fr) (fc := fc) (tr := tr) (tc := tc) (h := hWipe c gd) hg hx.1 hx2 hy.1 hy2
    simp only [eg, el]
    refine ⟨⟨hx.1, hx2⟩, by omega, ⟨by omega, hy.1, hy2⟩, ⟨by omega, by omega⟩, fun h4 => tu_same hg hx.1 hx2 hy.1 hy2 (tu_out h4 _), fun h4 => ⟨fun h5 => tu_same hg hx.1 hx2 hy.1 hy2 (tu_out2 h5 _), fun h5 => ?_⟩⟩
    have hin := tu_in h4 h5
    have hb : inB (tuG l fr fc tr tc (hWipe c gd) x.toNat y.toNat) x y = true := by rw [inB_iff, tuG_length, tuG_nC hg]; omega
    have w1 : gd = false → c = hWipe c gd (at2 l x y) := fun e => by rw [e]; rfl
    have w2 : (at2 l x y).gd = false → c = hWipe c gd (at2 l x y) := fun e => by simp [hWipe, e]
    have w3 : gd = true → (at2 l x y).gd = true → at2 l x y = hWipe c gd (at2 l x y) := fun e1 e2 => by simp [hWipe, e1, e2]
    refine ⟨fun h6 => ?_, fun h6 => ⟨fun h7 => ?_, fun h7 => ?_⟩⟩
    · have hz := w1 (by simpa using h6)
      exact ⟨fun h8 => ⟨fun _ => tu_new hg hx.1 hx2 hy.1 hy2 (z := c) (hz) hin ((neC_eq _ _).trans h8), fun h9 => by rw [hb] at h9; cases h9⟩, fun h8 => tu_same hg hx.1 hx2 hy.1 hy2 (by rw [tuX, if_pos hin, ← hz]; exact neC_no.1 ((neC_eq _ _).trans h8))⟩
    · have hz := w2 (by simpa using h7)
      exact ⟨fun h8 => ⟨fun _ => tu_new hg hx.1 hx2 hy.1 hy2 (z := c) (hz) hin ((neC_eq _ _).trans h8), fun h9 => by rw [hb] at h9; cases h9⟩, fun h8 => tu_same hg hx.1 hx2 hy.1 hy2 (by rw [tuX, if_pos hin, ← hz]; exact neC_no.1 ((neC_eq _ _).trans h8))⟩
    · have hz := w3 (by simpa using h6) (by simpa using h7)
      exact ⟨fun h8 => ⟨fun _ => tu_new hg hx.1 hx2 hy.1 hy2 (z := at2 l x y) (hz) hin ((neC_eq _ _).trans h8), fun h9 => by rw [hb] at h9; cases h9⟩, fun h8 => tu_same hg hx.1 hx2 hy.1 hy2 (by rw [tuX, if_pos hin, ← hz])⟩
  · have : y = nC l := by omega
    subst this
    rw [Int.toNat_natCast]
    exact tu_row hg hx.1 hx2
  · have : x = l.length := by omega
    subst this
    rw [Int.toNat_natCast, tuG_all]
    simp [tuOk, h1, h2, h3]
end Go.Proofs.YtcbjgpkbfmmdpaaGreatDoor
