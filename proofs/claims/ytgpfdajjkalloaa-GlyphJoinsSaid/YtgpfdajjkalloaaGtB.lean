/- Package strings' Builder: a rune is written: contracts. -/
import Derived.Test.YtgpfdajjkalloaaGtA
import Derived.Stop.FmtQuoteTie
set_option linter.unusedSimpArgs false
set_option linter.unusedVariables false
set_option linter.unusedSectionVars false
namespace Go.Sym
open Go
def shNilP : Sh Unit where
  enc _ := .v (.pointer none)
  dec x := match x with
    | .v (.pointer none) => some ()
    | _ => none
  ok x a h := by
    split at h
    · rfl
    · cases h
def shNilS : Sh Unit where
  enc _ := .v (.slice none 0 0)
  dec x := match x with
    | .v (.slice none 0 0) => some ()
    | _ => none
  ok x a h := by
    split at h
    · rfl
    · cases h
end Go.Sym
namespace Go.Proofs.Ytgpfdajjkalloaa
open Go Go.Sym

/-- A rune's bytes. -/
def encR (r : Int) : List Int := if r ≤ 127 then [r] else if r ≤ 2047 then [192 + r / 64, 128 + r % 64] else [224 + r / 4096, 128 + r / 64 % 64, 128 + r % 64]
def RuneOk (r : Int) : Prop := 0 ≤ r ∧ r ≤ 65535 ∧ (r < 55296 ∨ 57344 ≤ r)
theorem u8w (x : Int) : IntKind.u8.wrap x = x % 256 := rfl
theorem u32w (x : Int) : IntKind.u32.wrap x = x % 4294967296 := rfl
theorem bit1 : ∀ n : Nat, n < 64 → bitsK .or .u8 128 (n : Int) = 128 + n := by decide +kernel
theorem bit2 : ∀ n : Nat, n < 32 → bitsK .or .u8 192 (n : Int) = 192 + n := by decide +kernel
theorem bit3 : ∀ n : Nat, n < 16 → bitsK .or .u8 224 (n : Int) = 224 + n := by decide +kernel
theorem bit4 : ∀ n : Nat, n < 256 → bitsK .and .u8 (n : Int) 63 = ((n % 64 : Nat) : Int) := by decide +kernel
theorem bitL {x : Int} (h : 0 ≤ x) : bitsK .or .u8 128 (bitsK .and .u8 (IntKind.u8.wrap x) 63) = 128 + x % 64 := by
  obtain ⟨n, hn⟩ : ∃ n : Nat, x % 256 = n := ⟨(x % 256).toNat, by omega⟩
  rw [u8w, hn, bit4 n (by omega), bit1 _ (by omega)]
  omega
theorem bitH2 {x : Int} (h : 0 ≤ x) (h' : x < 32) : bitsK .or .u8 192 (IntKind.u8.wrap x) = 192 + x := by
  obtain ⟨n, rfl⟩ : ∃ n : Nat, x = n := ⟨x.toNat, by omega⟩
  rw [u8w, show (n : Int) % 256 = n by omega, bit2 n (by omega)]
theorem bitH3 {x : Int} (h : 0 ≤ x) (h' : x < 16) : bitsK .or .u8 224 (IntKind.u8.wrap x) = 224 + x := by
  obtain ⟨n, rfl⟩ : ∃ n : Nat, x = n := ⟨x.toNat, by omega⟩
  rw [u8w, show (n : Int) % 256 = n by omega, bit3 n (by omega)]
theorem set1 (L : List Int) (x : Int) : L ++ intsOf (List.take 1 (List.drop 0 (setAll (List.map (fun i => SV.v (Value.int IntKind.u8 (0 : Int)).cells[i % 1]!) (List.range 1)) 0 [SV.v (Value.int IntKind.u8 x)]))) = L ++ [x] := rfl
theorem set2 (L : List Int) (x y : Int) : L ++ intsOf (List.take 2 (List.drop 0 (setAll (setAll (List.map (fun i => SV.v (Value.int IntKind.u8 (0 : Int)).cells[i % 1]!) (List.range 2)) 0 [SV.v (Value.int IntKind.u8 x)]) 1 [SV.v (Value.int IntKind.u8 y)]))) = L ++ [x, y] := rfl
theorem set3 (L : List Int) (x y z : Int) : L ++ intsOf (List.take 3 (List.drop 0 (setAll (setAll (setAll (List.map (fun i => SV.v (Value.int IntKind.u8 (0 : Int)).cells[i % 1]!) (List.range 3)) 0 [SV.v (Value.int IntKind.u8 x)]) 1 [SV.v (Value.int IntKind.u8 y)]) 2 [SV.v (Value.int IntKind.u8 z)]))) = L ++ [x, y, z] := rfl
def shBld0 : ShH (Unit × Unit) := shHOne (shCells (shCons shNilP (shOne shNilS)) 47)
def lcWr0 : ACon Unit := mkLC (decP (shCons (shP 0) (shOne (shInt .i32))) shBld0) fun ((_, r), _) => .ask (RuneOk r) (.one (.t [.v (.int .i64 (encR r).length), .v .nilIface]) [.cells [.p 0 0, .h 2 [0, 0]] 47, .gone, .own (.ints .u8 (encR r)) (encR r).length 5 1 0 false] [0])
set_option maxHeartbeats 4000000 in
theorem ok_wr0 : ∀ I : Sym.Inv Unit, LCOk I Try.prog 23 lcWr0 := by
  refine lc_mk (fun _ => allCfg Try.prog [] [] 0) (fun _ _ => allCfg_ok mixed trivial trivial) (fun _ => rfl) (n := 60) Try.func23 ?_
  intro ⟨⟨_, r⟩, _, _⟩ hφ
  obtain ⟨⟨h0, h1, h2⟩, _⟩ := id hφ
  refine kcast (B := (br (decide (IntKind.u32.wrap r ≤ (127 : Int))) ((SV.t [SV.v (Value.int IntKind.i64 (1 : Int)), SV.v Value.nilIface] = SV.t [SV.v (Value.int IntKind.i64 (↑(encR r).length : Int)), SV.v Value.nilIface] ∧ True) ∧ (SV.p (0 : Nat) (0
   : Nat) = SV.p (0 : Nat) (0 : Nat) ∧ SV.h (2 : Nat) [(0 : Nat), (0 : Nat)] = SV.h (2 : Nat) [(0 : Nat), (0 : Nat)] ∧ True) ∧ True ∧ ((1 : Nat) = (encR r).length ∧ (0 : Nat) = (0 : Nat) ∧ LI [] ++ intsOf (List.take (1 : Nat) (List.drop (0 : Nat)
   (setAll (List.map (fun i => SV.v (Value.int IntKind.u8 (0 : Int)).cells[i % (1 : Nat)]!) (List.range (1 : Nat))) (0 : Nat) [SV.v (Value.int IntKind.u8 (IntKind.u8.wrap r))]))) = encR r) ∧ True) (br (decide (IntKind.u32.wrap r ≤ (2047 : Int))) ((SV.t
   [SV.v (Value.int IntKind.i64 (2 : Int)), SV.v Value.nilIface] = SV.t [SV.v (Value.int IntKind.i64 (↑(encR r).length : Int)), SV.v Value.nilIface] ∧ True) ∧ (SV.p (0 : Nat) (0 : Nat) = SV.p (0 : Nat) (0 : Nat) ∧ SV.h (2 : Nat) [(0 : Nat), (0 : Nat)] =
   SV.h (2 : Nat) [(0 : Nat), (0 : Nat)] ∧ True) ∧ True ∧ ((2 : Nat) = (encR r).length ∧ (0 : Nat) = (0 : Nat) ∧ LI [] ++ intsOf (List.take (2 : Nat) (List.drop (0 : Nat) (setAll (setAll (List.map (fun i => SV.v (Value.int IntKind.u8 (0 : Int)).cells[i
   % (1 : Nat)]!) (List.range (2 : Nat))) (0 : Nat) [SV.v (Value.int IntKind.u8 (bitsK BinOp.or IntKind.u8 (192 : Int) (IntKind.u8.wrap (r.fdiv (64 : Int)))))]) (1 : Nat) [SV.v (Value.int IntKind.u8 (bitsK BinOp.or IntKind.u8 (128 : Int) (bitsK
   BinOp.and IntKind.u8 (IntKind.u8.wrap r) (63 : Int))))]))) = encR r) ∧ True) (br (decide (IntKind.u32.wrap r < (55296 : Int))) ((SV.t [SV.v (Value.int IntKind.i64 (3 : Int)), SV.v Value.nilIface] = SV.t [SV.v (Value.int IntKind.i64 (↑(encR r).length
   : Int)), SV.v Value.nilIface] ∧ True) ∧ (SV.p (0 : Nat) (0 : Nat) = SV.p (0 : Nat) (0 : Nat) ∧ SV.h (2 : Nat) [(0 : Nat), (0 : Nat)] = SV.h (2 : Nat) [(0 : Nat), (0 : Nat)] ∧ True) ∧ True ∧ ((3 : Nat) = (encR r).length ∧ (0 : Nat) = (0 : Nat) ∧ LI []
   ++ intsOf (List.take (3 : Nat) (List.drop (0 : Nat) (setAll (setAll (setAll (List.map (fun i => SV.v (Value.int IntKind.u8 (0 : Int)).cells[i % (1 : Nat)]!) (List.range (3 : Nat))) (0 : Nat) [SV.v (Value.int IntKind.u8 (bitsK BinOp.or IntKind.u8 (224
   : Int) (IntKind.u8.wrap (r.fdiv (4096 : Int)))))]) (1 : Nat) [SV.v (Value.int IntKind.u8 (bitsK BinOp.or IntKind.u8 (128 : Int) (bitsK BinOp.and IntKind.u8 (IntKind.u8.wrap (r.fdiv (64 : Int))) (63 : Int))))]) (2 : Nat) [SV.v (Value.int IntKind.u8
   (bitsK BinOp.or IntKind.u8 (128 : Int) (bitsK BinOp.and IntKind.u8 (IntKind.u8.wrap r) (63 : Int))))]))) = encR r) ∧ True) (br (decide ((57343 : Int) < IntKind.u32.wrap r)) (br (decide (IntKind.u32.wrap r ≤ (65535 : Int))) ((SV.t [SV.v (Value.int
   IntKind.i64 (3 : Int)), SV.v Value.nilIface] = SV.t [SV.v (Value.int IntKind.i64 (↑(encR r).length : Int)), SV.v Value.nilIface] ∧ True) ∧ (SV.p (0 : Nat) (0 : Nat) = SV.p (0 : Nat) (0 : Nat) ∧ SV.h (2 : Nat) [(0 : Nat), (0 : Nat)] = SV.h (2 : Nat)
   [(0 : Nat), (0 : Nat)] ∧ True) ∧ True ∧ ((3 : Nat) = (encR r).length ∧ (0 : Nat) = (0 : Nat) ∧ LI [] ++ intsOf (List.take (3 : Nat) (List.drop (0 : Nat) (setAll (setAll (setAll (List.map (fun i => SV.v (Value.int IntKind.u8 (0 : Int)).cells[i % (1 :
   Nat)]!) (List.range (3 : Nat))) (0 : Nat) [SV.v (Value.int IntKind.u8 (bitsK BinOp.or IntKind.u8 (224 : Int) (IntKind.u8.wrap (r.fdiv (4096 : Int)))))]) (1 : Nat) [SV.v (Value.int IntKind.u8 (bitsK BinOp.or IntKind.u8 (128 : Int) (bitsK BinOp.and
   IntKind.u8 (IntKind.u8.wrap (r.fdiv (64 : Int))) (63 : Int))))]) (2 : Nat) [SV.v (Value.int IntKind.u8 (bitsK BinOp.or IntKind.u8 (128 : Int) (bitsK BinOp.and IntKind.u8 (IntKind.u8.wrap r) (63 : Int))))]))) = encR r) ∧ True) (br (decide
   (IntKind.u32.wrap r > (65535 : Int))) (br (decide (IntKind.u32.wrap r ≤ (1114111 : Int))) ((SV.t [SV.v (Value.int IntKind.i64 (4 : Int)), SV.v Value.nilIface] = SV.t [SV.v (Value.int IntKind.i64 (↑(encR r).length : Int)), SV.v Value.nilIface] ∧ True)
   ∧ (SV.p (0 : Nat) (0 : Nat) = SV.p (0 : Nat) (0 : Nat) ∧ SV.h (2 : Nat) [(0 : Nat), (0 : Nat)] = SV.h (2 : Nat) [(0 : Nat), (0 : Nat)] ∧ True) ∧ True ∧ ((4 : Nat) = (encR r).length ∧ (0 : Nat) = (0 : Nat) ∧ LI [] ++ intsOf (List.take (4 : Nat)
   (List.drop (0 : Nat) (setAll (setAll (setAll (setAll (List.map (fun i => SV.v (Value.int IntKind.u8 (0 : Int)).cells[i % (1 : Nat)]!) (List.range (4 : Nat))) (0 : Nat) [SV.v (Value.int IntKind.u8 (bitsK BinOp.or IntKind.u8 (240 : Int)
   (IntKind.u8.wrap (r.fdiv (262144 : Int)))))]) (1 : Nat) [SV.v (Value.int IntKind.u8 (bitsK BinOp.or IntKind.u8 (128 : Int) (bitsK BinOp.and IntKind.u8 (IntKind.u8.wrap (r.fdiv (4096 : Int))) (63 : Int))))]) (2 : Nat) [SV.v (Value.int IntKind.u8
   (bitsK BinOp.or IntKind.u8 (128 : Int) (bitsK BinOp.and IntKind.u8 (IntKind.u8.wrap (r.fdiv (64 : Int))) (63 : Int))))]) (3 : Nat) [SV.v (Value.int IntKind.u8 (bitsK BinOp.or IntKind.u8 (128 : Int) (bitsK BinOp.and IntKind.u8 (IntKind.u8.wrap r) (63
   : Int))))]))) = encR r) ∧ True) ((SV.t [SV.v (Value.int IntKind.i64 (3 : Int)), SV.v Value.nilIface] = SV.t [SV.v (Value.int IntKind.i64 (↑(encR r).length : Int)), SV.v Value.nilIface] ∧ True) ∧ (SV.p (0 : Nat) (0 : Nat) = SV.p (0 : Nat) (0 : Nat) ∧
   SV.h (2 : Nat) [(0 : Nat), (0 : Nat)] = SV.h (2 : Nat) [(0 : Nat), (0 : Nat)] ∧ True) ∧ True ∧ ((3 : Nat) = (encR r).length ∧ (0 : Nat) = (0 : Nat) ∧ LI [(239 : Int), (191 : Int), (189 : Int)] = encR r) ∧ True)) ((SV.t [SV.v (Value.int IntKind.i64 (3
   : Int)), SV.v Value.nilIface] = SV.t [SV.v (Value.int IntKind.i64 (↑(encR r).length : Int)), SV.v Value.nilIface] ∧ True) ∧ (SV.p (0 : Nat) (0 : Nat) = SV.p (0 : Nat) (0 : Nat) ∧ SV.h (2 : Nat) [(0 : Nat), (0 : Nat)] = SV.h (2 : Nat) [(0 : Nat), (0 :
   Nat)] ∧ True) ∧ True ∧ ((3 : Nat) = (encR r).length ∧ (0 : Nat) = (0 : Nat) ∧ LI [(239 : Int), (191 : Int), (189 : Int)] = encR r) ∧ True))) (br (decide (IntKind.u32.wrap r > (65535 : Int))) (br (decide (IntKind.u32.wrap r ≤ (1114111 : Int))) ((SV.t
   [SV.v (Value.int IntKind.i64 (4 : Int)), SV.v Value.nilIface] = SV.t [SV.v (Value.int IntKind.i64 (↑(encR r).length : Int)), SV.v Value.nilIface] ∧ True) ∧ (SV.p (0 : Nat) (0 : Nat) = SV.p (0 : Nat) (0 : Nat) ∧ SV.h (2 : Nat) [(0 : Nat), (0 : Nat)] =
   SV.h (2 : Nat) [(0 : Nat), (0 : Nat)] ∧ True) ∧ True ∧ ((4 : Nat) = (encR r).length ∧ (0 : Nat) = (0 : Nat) ∧ LI [] ++ intsOf (List.take (4 : Nat) (List.drop (0 : Nat) (setAll (setAll (setAll (setAll (List.map (fun i => SV.v (Value.int IntKind.u8 (0
   : Int)).cells[i % (1 : Nat)]!) (List.range (4 : Nat))) (0 : Nat) [SV.v (Value.int IntKind.u8 (bitsK BinOp.or IntKind.u8 (240 : Int) (IntKind.u8.wrap (r.fdiv (262144 : Int)))))]) (1 : Nat) [SV.v (Value.int IntKind.u8 (bitsK BinOp.or IntKind.u8 (128 :
   Int) (bitsK BinOp.and IntKind.u8 (IntKind.u8.wrap (r.fdiv (4096 : Int))) (63 : Int))))]) (2 : Nat) [SV.v (Value.int IntKind.u8 (bitsK BinOp.or IntKind.u8 (128 : Int) (bitsK BinOp.and IntKind.u8 (IntKind.u8.wrap (r.fdiv (64 : Int))) (63 : Int))))]) (3
   : Nat) [SV.v (Value.int IntKind.u8 (bitsK BinOp.or IntKind.u8 (128 : Int) (bitsK BinOp.and IntKind.u8 (IntKind.u8.wrap r) (63 : Int))))]))) = encR r) ∧ True) ((SV.t [SV.v (Value.int IntKind.i64 (3 : Int)), SV.v Value.nilIface] = SV.t [SV.v (Value.int
   IntKind.i64 (↑(encR r).length : Int)), SV.v Value.nilIface] ∧ True) ∧ (SV.p (0 : Nat) (0 : Nat) = SV.p (0 : Nat) (0 : Nat) ∧ SV.h (2 : Nat) [(0 : Nat), (0 : Nat)] = SV.h (2 : Nat) [(0 : Nat), (0 : Nat)] ∧ True) ∧ True ∧ ((3 : Nat) = (encR r).length ∧
   (0 : Nat) = (0 : Nat) ∧ LI [(239 : Int), (191 : Int), (189 : Int)] = encR r) ∧ True)) ((SV.t [SV.v (Value.int IntKind.i64 (3 : Int)), SV.v Value.nilIface] = SV.t [SV.v (Value.int IntKind.i64 (↑(encR r).length : Int)), SV.v Value.nilIface] ∧ True) ∧
   (SV.p (0 : Nat) (0 : Nat) = SV.p (0 : Nat) (0 : Nat) ∧ SV.h (2 : Nat) [(0 : Nat), (0 : Nat)] = SV.h (2 : Nat) [(0 : Nat), (0 : Nat)] ∧ True) ∧ True ∧ ((3 : Nat) = (encR r).length ∧ (0 : Nat) = (0 : Nat) ∧ LI [(239 : Int), (191 : Int), (189 : Int)] =
   encR r) ∧ True))))))) (by kernel_rfl) ?_
  have w : IntKind.u32.wrap r = r := by rw [u32w]; omega
  have d6 : r.fdiv 64 = r / 64 := Int.fdiv_eq_ediv_of_nonneg _ (by omega)
  have d12 : r.fdiv 4096 = r / 4096 := Int.fdiv_eq_ediv_of_nonneg _ (by omega)
  simp only [w, d6, d12, set1, set2, set3, bitL h0, bitL (x := r / 64) (by omega), br_iff, rq_iff, nbeq, II, LI, true_and, and_true, and_self, decide_eq_true_eq, decide_eq_false_iff_not, List.nil_append]
  have E1 : r ≤ 127 → encR r = [r] := fun h => if_pos h
  have E2 : ¬ r ≤ 127 → r ≤ 2047 → encR r = [192 + r / 64, 128 + r % 64] := fun h h' => by unfold encR; rw [if_neg h, if_pos h']
  have E3 : ¬ r ≤ 127 → ¬ r ≤ 2047 → encR r = [224 + r / 4096, 128 + r / 64 % 64, 128 + r % 64] := fun h h' => by unfold encR; rw [if_neg h, if_neg h']
  have U1 : r ≤ 127 → IntKind.u8.wrap r = r := fun h => by rw [u8w]; omega
  have H2 : r ≤ 2047 → bitsK .or .u8 192 (IntKind.u8.wrap (r / 64)) = 192 + r / 64 := fun h => bitH2 (by omega) (by omega)
  have H3 : bitsK .or .u8 224 (IntKind.u8.wrap (r / 4096)) = 224 + r / 4096 := bitH3 (by omega) (by omega)
  refine ⟨fun a => ?_, fun a => ⟨fun b => ?_, fun b => ⟨fun c => ?_, fun c => ⟨fun d => ⟨fun e => ?_, fun e => absurd h1 e⟩, fun d => by exfalso; omega⟩⟩⟩⟩
  · rw [E1 a, U1 a]; exact ⟨rfl, rfl, rfl⟩
  · rw [E2 a b, H2 b]; exact ⟨rfl, rfl, rfl⟩
  · rw [E3 a b, H3]; exact ⟨rfl, rfl, rfl⟩
  · rw [E3 a b, H3]; exact ⟨rfl, rfl, rfl⟩
def shBld1 : ShH ((Unit × Nat) × OI) := shHCons (shCells (shCons (shP 0) (shOne (shO 1))) 47) (shHOne (shOwnI .u8 5 false))
def lcWr1 : ACon Unit := mkLC (decP (shCons (shP 0) (shOne (shInt .i32))) shBld1) fun ((_, r), ((_, ep), ⟨xs, n, ep2⟩)) => .ask (RuneOk r ∧ ep = ep2 ∧ n = xs.length ∧ xs.length ≤ 1099511627776) (.one (.t [.v (.int .i64 (encR r).length), .v .nilIface]) [.cells [.p 0 0, .h 1 [ep + 1, 0]] 47, .own (.ints .u8 (xs ++ encR r)) (xs.length + (encR r).length) 5 1 (ep + 1) false] [0, 1])
set_option maxHeartbeats 4000000 in
theorem ok_wr1 : ∀ I : Sym.Inv Unit, LCOk I Try.prog 23 lcWr1 := by
  refine lc_mk (fun _ => allCfg Try.prog [] [] 0) (fun _ _ => allCfg_ok mixed trivial trivial) (fun _ => rfl) (n := 60) Try.func23 ?_
  intro ⟨⟨_, r⟩, ⟨_, ep⟩, ⟨xs, n, ep2⟩⟩ hφ
  obtain ⟨⟨⟨h0, h1, h2⟩, rfl, rfl, hx⟩, _⟩ := id hφ
  refine kcast (B := (rq (ep.beq ep) (br (decide (IntKind.u32.wrap r ≤ (127 : Int))) (rq (ep.beq ep && (true && decide (xs.length + (1 : Nat) ≤ (9223372036854775807 : Nat) ∧ (xs.length + (1 : Nat)) * (1 : Nat) ≤ (140737488355328 : Nat)))) (rq ((ep +
   (1 : Nat)).beq (ep + (1 : Nat))) ((SV.t [SV.v (Value.int IntKind.i64 (IntKind.i64.wrap ((↑(xs.length + (1 : Nat)) : Int) - (↑xs.length : Int)))), SV.v Value.nilIface] = SV.t [SV.v (Value.int IntKind.i64 (↑(encR r).length : Int)), SV.v Value.nilIface]
   ∧ True) ∧ (SV.p (0 : Nat) (0 : Nat) = SV.p (0 : Nat) (0 : Nat) ∧ SV.h (1 : Nat) [ep + (1 : Nat), (0 : Nat)] = SV.h (1 : Nat) [ep + (1 : Nat), (0 : Nat)] ∧ True) ∧ (xs.length + (1 : Nat) = xs.length + (encR r).length ∧ ep + (1 : Nat) = ep + (1 : Nat)
   ∧ xs ++ intsOf (List.take (1 : Nat) (List.drop (0 : Nat) (setAll (List.map (fun i => SV.v (Value.int IntKind.u8 (0 : Int)).cells[i % (1 : Nat)]!) (List.range (1 : Nat))) (0 : Nat) [SV.v (Value.int IntKind.u8 (IntKind.u8.wrap r))]))) = xs ++ encR r) ∧
   True))) (br (decide (IntKind.u32.wrap r ≤ (2047 : Int))) (rq (ep.beq ep && (true && decide (xs.length + (2 : Nat) ≤ (9223372036854775807 : Nat) ∧ (xs.length + (2 : Nat)) * (1 : Nat) ≤ (140737488355328 : Nat)))) (rq ((ep + (1 : Nat)).beq (ep + (1 :
   Nat))) ((SV.t [SV.v (Value.int IntKind.i64 (IntKind.i64.wrap ((↑(xs.length + (2 : Nat)) : Int) - (↑xs.length : Int)))), SV.v Value.nilIface] = SV.t [SV.v (Value.int IntKind.i64 (↑(encR r).length : Int)), SV.v Value.nilIface] ∧ True) ∧ (SV.p (0 : Nat)
   (0 : Nat) = SV.p (0 : Nat) (0 : Nat) ∧ SV.h (1 : Nat) [ep + (1 : Nat), (0 : Nat)] = SV.h (1 : Nat) [ep + (1 : Nat), (0 : Nat)] ∧ True) ∧ (xs.length + (2 : Nat) = xs.length + (encR r).length ∧ ep + (1 : Nat) = ep + (1 : Nat) ∧ xs ++ intsOf (List.take
   (2 : Nat) (List.drop (0 : Nat) (setAll (setAll (List.map (fun i => SV.v (Value.int IntKind.u8 (0 : Int)).cells[i % (1 : Nat)]!) (List.range (2 : Nat))) (0 : Nat) [SV.v (Value.int IntKind.u8 (bitsK BinOp.or IntKind.u8 (192 : Int) (IntKind.u8.wrap
   (r.fdiv (64 : Int)))))]) (1 : Nat) [SV.v (Value.int IntKind.u8 (bitsK BinOp.or IntKind.u8 (128 : Int) (bitsK BinOp.and IntKind.u8 (IntKind.u8.wrap r) (63 : Int))))]))) = xs ++ encR r) ∧ True))) (br (decide (IntKind.u32.wrap r < (55296 : Int))) (rq
   (ep.beq ep && (true && decide (xs.length + (3 : Nat) ≤ (9223372036854775807 : Nat) ∧ (xs.length + (3 : Nat)) * (1 : Nat) ≤ (140737488355328 : Nat)))) (rq ((ep + (1 : Nat)).beq (ep + (1 : Nat))) ((SV.t [SV.v (Value.int IntKind.i64 (IntKind.i64.wrap
   ((↑(xs.length + (3 : Nat)) : Int) - (↑xs.length : Int)))), SV.v Value.nilIface] = SV.t [SV.v (Value.int IntKind.i64 (↑(encR r).length : Int)), SV.v Value.nilIface] ∧ True) ∧ (SV.p (0 : Nat) (0 : Nat) = SV.p (0 : Nat) (0 : Nat) ∧ SV.h (1 : Nat) [ep +
   (1 : Nat), (0 : Nat)] = SV.h (1 : Nat) [ep + (1 : Nat), (0 : Nat)] ∧ True) ∧ (xs.length + (3 : Nat) = xs.length + (encR r).length ∧ ep + (1 : Nat) = ep + (1 : Nat) ∧ xs ++ intsOf (List.take (3 : Nat) (List.drop (0 : Nat) (setAll (setAll (setAll
   (List.map (fun i => SV.v (Value.int IntKind.u8 (0 : Int)).cells[i % (1 : Nat)]!) (List.range (3 : Nat))) (0 : Nat) [SV.v (Value.int IntKind.u8 (bitsK BinOp.or IntKind.u8 (224 : Int) (IntKind.u8.wrap (r.fdiv (4096 : Int)))))]) (1 : Nat) [SV.v
   (Value.int IntKind.u8 (bitsK BinOp.or IntKind.u8 (128 : Int) (bitsK BinOp.and IntKind.u8 (IntKind.u8.wrap (r.fdiv (64 : Int))) (63 : Int))))]) (2 : Nat) [SV.v (Value.int IntKind.u8 (bitsK BinOp.or IntKind.u8 (128 : Int) (bitsK BinOp.and IntKind.u8
   (IntKind.u8.wrap r) (63 : Int))))]))) = xs ++ encR r) ∧ True))) (br (decide ((57343 : Int) < IntKind.u32.wrap r)) (br (decide (IntKind.u32.wrap r ≤ (65535 : Int))) (rq (ep.beq ep && (true && decide (xs.length + (3 : Nat) ≤ (9223372036854775807 : Nat)
   ∧ (xs.length + (3 : Nat)) * (1 : Nat) ≤ (140737488355328 : Nat)))) (rq ((ep + (1 : Nat)).beq (ep + (1 : Nat))) ((SV.t [SV.v (Value.int IntKind.i64 (IntKind.i64.wrap ((↑(xs.length + (3 : Nat)) : Int) - (↑xs.length : Int)))), SV.v Value.nilIface] =
   SV.t [SV.v (Value.int IntKind.i64 (↑(encR r).length : Int)), SV.v Value.nilIface] ∧ True) ∧ (SV.p (0 : Nat) (0 : Nat) = SV.p (0 : Nat) (0 : Nat) ∧ SV.h (1 : Nat) [ep + (1 : Nat), (0 : Nat)] = SV.h (1 : Nat) [ep + (1 : Nat), (0 : Nat)] ∧ True) ∧
   (xs.length + (3 : Nat) = xs.length + (encR r).length ∧ ep + (1 : Nat) = ep + (1 : Nat) ∧ xs ++ intsOf (List.take (3 : Nat) (List.drop (0 : Nat) (setAll (setAll (setAll (List.map (fun i => SV.v (Value.int IntKind.u8 (0 : Int)).cells[i % (1 : Nat)]!)
   (List.range (3 : Nat))) (0 : Nat) [SV.v (Value.int IntKind.u8 (bitsK BinOp.or IntKind.u8 (224 : Int) (IntKind.u8.wrap (r.fdiv (4096 : Int)))))]) (1 : Nat) [SV.v (Value.int IntKind.u8 (bitsK BinOp.or IntKind.u8 (128 : Int) (bitsK BinOp.and IntKind.u8
   (IntKind.u8.wrap (r.fdiv (64 : Int))) (63 : Int))))]) (2 : Nat) [SV.v (Value.int IntKind.u8 (bitsK BinOp.or IntKind.u8 (128 : Int) (bitsK BinOp.and IntKind.u8 (IntKind.u8.wrap r) (63 : Int))))]))) = xs ++ encR r) ∧ True))) (br (decide
   (IntKind.u32.wrap r > (65535 : Int))) (br (decide (IntKind.u32.wrap r ≤ (1114111 : Int))) (rq (ep.beq ep && (true && decide (xs.length + (4 : Nat) ≤ (9223372036854775807 : Nat) ∧ (xs.length + (4 : Nat)) * (1 : Nat) ≤ (140737488355328 : Nat)))) (rq
   ((ep + (1 : Nat)).beq (ep + (1 : Nat))) ((SV.t [SV.v (Value.int IntKind.i64 (IntKind.i64.wrap ((↑(xs.length + (4 : Nat)) : Int) - (↑xs.length : Int)))), SV.v Value.nilIface] = SV.t [SV.v (Value.int IntKind.i64 (↑(encR r).length : Int)), SV.v
   Value.nilIface] ∧ True) ∧ (SV.p (0 : Nat) (0 : Nat) = SV.p (0 : Nat) (0 : Nat) ∧ SV.h (1 : Nat) [ep + (1 : Nat), (0 : Nat)] = SV.h (1 : Nat) [ep + (1 : Nat), (0 : Nat)] ∧ True) ∧ (xs.length + (4 : Nat) = xs.length + (encR r).length ∧ ep + (1 : Nat) =
   ep + (1 : Nat) ∧ xs ++ intsOf (List.take (4 : Nat) (List.drop (0 : Nat) (setAll (setAll (setAll (setAll (List.map (fun i => SV.v (Value.int IntKind.u8 (0 : Int)).cells[i % (1 : Nat)]!) (List.range (4 : Nat))) (0 : Nat) [SV.v (Value.int IntKind.u8
   (bitsK BinOp.or IntKind.u8 (240 : Int) (IntKind.u8.wrap (r.fdiv (262144 : Int)))))]) (1 : Nat) [SV.v (Value.int IntKind.u8 (bitsK BinOp.or IntKind.u8 (128 : Int) (bitsK BinOp.and IntKind.u8 (IntKind.u8.wrap (r.fdiv (4096 : Int))) (63 : Int))))]) (2 :
   Nat) [SV.v (Value.int IntKind.u8 (bitsK BinOp.or IntKind.u8 (128 : Int) (bitsK BinOp.and IntKind.u8 (IntKind.u8.wrap (r.fdiv (64 : Int))) (63 : Int))))]) (3 : Nat) [SV.v (Value.int IntKind.u8 (bitsK BinOp.or IntKind.u8 (128 : Int) (bitsK BinOp.and
   IntKind.u8 (IntKind.u8.wrap r) (63 : Int))))]))) = xs ++ encR r) ∧ True))) (rq (ep.beq ep && (true && decide (xs.length + (3 : Nat) ≤ (9223372036854775807 : Nat) ∧ (xs.length + (3 : Nat)) * (1 : Nat) ≤ (140737488355328 : Nat)))) (rq ((ep + (1 :
   Nat)).beq (ep + (1 : Nat))) ((SV.t [SV.v (Value.int IntKind.i64 (IntKind.i64.wrap ((↑(xs.length + (3 : Nat)) : Int) - (↑xs.length : Int)))), SV.v Value.nilIface] = SV.t [SV.v (Value.int IntKind.i64 (↑(encR r).length : Int)), SV.v Value.nilIface] ∧
   True) ∧ (SV.p (0 : Nat) (0 : Nat) = SV.p (0 : Nat) (0 : Nat) ∧ SV.h (1 : Nat) [ep + (1 : Nat), (0 : Nat)] = SV.h (1 : Nat) [ep + (1 : Nat), (0 : Nat)] ∧ True) ∧ (xs.length + (3 : Nat) = xs.length + (encR r).length ∧ ep + (1 : Nat) = ep + (1 : Nat) ∧
   xs ++ LI [(239 : Int), (191 : Int), (189 : Int)] = xs ++ encR r) ∧ True)))) (rq (ep.beq ep && (true && decide (xs.length + (3 : Nat) ≤ (9223372036854775807 : Nat) ∧ (xs.length + (3 : Nat)) * (1 : Nat) ≤ (140737488355328 : Nat)))) (rq ((ep + (1 :
   Nat)).beq (ep + (1 : Nat))) ((SV.t [SV.v (Value.int IntKind.i64 (IntKind.i64.wrap ((↑(xs.length + (3 : Nat)) : Int) - (↑xs.length : Int)))), SV.v Value.nilIface] = SV.t [SV.v (Value.int IntKind.i64 (↑(encR r).length : Int)), SV.v Value.nilIface] ∧
   True) ∧ (SV.p (0 : Nat) (0 : Nat) = SV.p (0 : Nat) (0 : Nat) ∧ SV.h (1 : Nat) [ep + (1 : Nat), (0 : Nat)] = SV.h (1 : Nat) [ep + (1 : Nat), (0 : Nat)] ∧ True) ∧ (xs.length + (3 : Nat) = xs.length + (encR r).length ∧ ep + (1 : Nat) = ep + (1 : Nat) ∧
   xs ++ LI [(239 : Int), (191 : Int), (189 : Int)] = xs ++ encR r) ∧ True))))) (br (decide (IntKind.u32.wrap r > (65535 : Int))) (br (decide (IntKind.u32.wrap r ≤ (1114111 : Int))) (rq (ep.beq ep && (true && decide (xs.length + (4 : Nat) ≤
   (9223372036854775807 : Nat) ∧ (xs.length + (4 : Nat)) * (1 : Nat) ≤ (140737488355328 : Nat)))) (rq ((ep + (1 : Nat)).beq (ep + (1 : Nat))) ((SV.t [SV.v (Value.int IntKind.i64 (IntKind.i64.wrap ((↑(xs.length + (4 : Nat)) : Int) - (↑xs.length :
   Int)))), SV.v Value.nilIface] = SV.t [SV.v (Value.int IntKind.i64 (↑(encR r).length : Int)), SV.v Value.nilIface] ∧ True) ∧ (SV.p (0 : Nat) (0 : Nat) = SV.p (0 : Nat) (0 : Nat) ∧ SV.h (1 : Nat) [ep + (1 : Nat), (0 : Nat)] = SV.h (1 : Nat) [ep + (1 :
   Nat), (0 : Nat)] ∧ True) ∧ (xs.length + (4 : Nat) = xs.length + (encR r).length ∧ ep + (1 : Nat) = ep + (1 : Nat) ∧ xs ++ intsOf (List.take (4 : Nat) (List.drop (0 : Nat) (setAll (setAll (setAll (setAll (List.map (fun i => SV.v (Value.int IntKind.u8
   (0 : Int)).cells[i % (1 : Nat)]!) (List.range (4 : Nat))) (0 : Nat) [SV.v (Value.int IntKind.u8 (bitsK BinOp.or IntKind.u8 (240 : Int) (IntKind.u8.wrap (r.fdiv (262144 : Int)))))]) (1 : Nat) [SV.v (Value.int IntKind.u8 (bitsK BinOp.or IntKind.u8 (128
   : Int) (bitsK BinOp.and IntKind.u8 (IntKind.u8.wrap (r.fdiv (4096 : Int))) (63 : Int))))]) (2 : Nat) [SV.v (Value.int IntKind.u8 (bitsK BinOp.or IntKind.u8 (128 : Int) (bitsK BinOp.and IntKind.u8 (IntKind.u8.wrap (r.fdiv (64 : Int))) (63 : Int))))])
   (3 : Nat) [SV.v (Value.int IntKind.u8 (bitsK BinOp.or IntKind.u8 (128 : Int) (bitsK BinOp.and IntKind.u8 (IntKind.u8.wrap r) (63 : Int))))]))) = xs ++ encR r) ∧ True))) (rq (ep.beq ep && (true && decide (xs.length + (3 : Nat) ≤ (9223372036854775807 :
   Nat) ∧ (xs.length + (3 : Nat)) * (1 : Nat) ≤ (140737488355328 : Nat)))) (rq ((ep + (1 : Nat)).beq (ep + (1 : Nat))) ((SV.t [SV.v (Value.int IntKind.i64 (IntKind.i64.wrap ((↑(xs.length + (3 : Nat)) : Int) - (↑xs.length : Int)))), SV.v Value.nilIface]
   = SV.t [SV.v (Value.int IntKind.i64 (↑(encR r).length : Int)), SV.v Value.nilIface] ∧ True) ∧ (SV.p (0 : Nat) (0 : Nat) = SV.p (0 : Nat) (0 : Nat) ∧ SV.h (1 : Nat) [ep + (1 : Nat), (0 : Nat)] = SV.h (1 : Nat) [ep + (1 : Nat), (0 : Nat)] ∧ True) ∧
   (xs.length + (3 : Nat) = xs.length + (encR r).length ∧ ep + (1 : Nat) = ep + (1 : Nat) ∧ xs ++ LI [(239 : Int), (191 : Int), (189 : Int)] = xs ++ encR r) ∧ True)))) (rq (ep.beq ep && (true && decide (xs.length + (3 : Nat) ≤ (9223372036854775807 :
   Nat) ∧ (xs.length + (3 : Nat)) * (1 : Nat) ≤ (140737488355328 : Nat)))) (rq ((ep + (1 : Nat)).beq (ep + (1 : Nat))) ((SV.t [SV.v (Value.int IntKind.i64 (IntKind.i64.wrap ((↑(xs.length + (3 : Nat)) : Int) - (↑xs.length : Int)))), SV.v Value.nilIface]
   = SV.t [SV.v (Value.int IntKind.i64 (↑(encR r).length : Int)), SV.v Value.nilIface] ∧ True) ∧ (SV.p (0 : Nat) (0 : Nat) = SV.p (0 : Nat) (0 : Nat) ∧ SV.h (1 : Nat) [ep + (1 : Nat), (0 : Nat)] = SV.h (1 : Nat) [ep + (1 : Nat), (0 : Nat)] ∧ True) ∧
   (xs.length + (3 : Nat) = xs.length + (encR r).length ∧ ep + (1 : Nat) = ep + (1 : Nat) ∧ xs ++ LI [(239 : Int), (191 : Int), (189 : Int)] = xs ++ encR r) ∧ True)))))))))) (by kernel_rfl) ?_
  have w : IntKind.u32.wrap r = r := by rw [u32w]; omega
  have d6 : r.fdiv 64 = r / 64 := Int.fdiv_eq_ediv_of_nonneg _ (by omega)
  have d12 : r.fdiv 4096 = r / 4096 := Int.fdiv_eq_ediv_of_nonneg _ (by omega)
  simp only [w, d6, d12, set1, set2, set3, bitL h0, bitL (x := r / 64) (by omega), br_iff, rq_iff, nbeq, II, LI, true_and, and_true, and_self, decide_eq_true_eq, decide_eq_false_iff_not, List.nil_append]
  have E1 : r ≤ 127 → encR r = [r] := fun h => if_pos h
  have E2 : ¬ r ≤ 127 → r ≤ 2047 → encR r = [192 + r / 64, 128 + r % 64] := fun h h' => by unfold encR; rw [if_neg h, if_pos h']
  have E3 : ¬ r ≤ 127 → ¬ r ≤ 2047 → encR r = [224 + r / 4096, 128 + r / 64 % 64, 128 + r % 64] := fun h h' => by unfold encR; rw [if_neg h, if_neg h']
  have U1 : r ≤ 127 → IntKind.u8.wrap r = r := fun h => by rw [u8w]; omega
  have H2 : r ≤ 2047 → bitsK .or .u8 192 (IntKind.u8.wrap (r / 64)) = 192 + r / 64 := fun h => bitH2 (by omega) (by omega)
  have H3 : bitsK .or .u8 224 (IntKind.u8.wrap (r / 4096)) = 224 + r / 4096 := bitH3 (by omega) (by omega)
  have v1 : IntKind.i64.wrap (((xs.length + 1 : Nat) : Int) - (xs.length : Int)) = 1 := by rw [wrap64 (by omega) (by omega)]; omega
  have v2 : IntKind.i64.wrap (((xs.length + 2 : Nat) : Int) - (xs.length : Int)) = 2 := by rw [wrap64 (by omega) (by omega)]; omega
  have v3 : IntKind.i64.wrap (((xs.length + 3 : Nat) : Int) - (xs.length : Int)) = 3 := by rw [wrap64 (by omega) (by omega)]; omega
  refine ⟨fun a => ?_, fun a => ⟨fun b => ?_, fun b => ⟨fun c => ?_, fun c => ⟨fun d => ⟨fun e => ?_, fun e => absurd h1 e⟩, fun d => by exfalso; omega⟩⟩⟩⟩
  · rw [E1 a, U1 a, v1]; exact ⟨by simp only [Bool.true_and, decide_eq_true_eq]; omega, rfl, rfl, rfl⟩
  · rw [E2 a b, H2 b, v2]; exact ⟨by simp only [Bool.true_and, decide_eq_true_eq]; omega, rfl, rfl, rfl⟩
  · rw [E3 a b, H3, v3]; exact ⟨by simp only [Bool.true_and, decide_eq_true_eq]; omega, rfl, rfl, rfl⟩
  · rw [E3 a b, H3, v3]; exact ⟨by simp only [Bool.true_and, decide_eq_true_eq]; omega, rfl, rfl, rfl⟩
end Go.Proofs.Ytgpfdajjkalloaa
