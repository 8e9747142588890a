/- The symbolic values, the symbolic heap, and what they stand for. -/
import Derived.CallsIn
import Derived.RangeFuncLeaves
import Derived.KernelRfl
import Derived.WalkKit
import Derived.Lib.Builder
import Derived.Lib.UnsafeStr
import Derived.Test.YtienakdnmhmglaaVZ
set_option linter.unusedSimpArgs false
set_option linter.unusedVariables false
set_option linter.unusedSectionVars false
namespace Go.Sym
open Go

inductive SV where
  | any
  | v (x : Value)
  | p (b o : Nat)
  | s (b o len cap : Nat)
  | f (fn : Fn) (caps : List SV)
  | y (b : Nat)
  | h (b : Nat) (path : List Nat)
  | r (b : Nat) (path : List Nat)
  | a (l : List SV)
  | t (l : List SV)

/-- What an item stands for: a block; what its handles answer, epoch by epoch; what lies in memory that is only read. -/
inductive Ref where
  | blk (n : Nat)
  | hd (f : Nat → Option (List Nat → Value))
  | rd (g : List Nat → Value)
def hdAt (f : Nat → Option (List Nat → Value)) (path : List Nat) : Option Value :=
  match path with
  | ep :: p => (f ep).map (· p)
  | [] => none
def Ref.le : Ref → Ref → Prop
  | .blk n, r => r = .blk n
  | .rd g, r => r = .rd g
  | .hd f, r => ∃ f', r = .hd f' ∧ ∀ j g, f j = some g → f' j = some g
theorem Ref.le_refl (r : Ref) : r.le r := by
  cases r with
  | blk n => rfl
  | rd g => rfl
  | hd f => exact ⟨f, rfl, fun _ _ h => h⟩
theorem Ref.le_trans {a b c : Ref} (h : a.le b) (h' : b.le c) : a.le c := by
  cases a with
  | blk n => cases h; exact h'
  | rd g => cases h; exact h'
  | hd f =>
    obtain ⟨f', rfl, h1⟩ := h
    obtain ⟨f'', rfl, h2⟩ := h'
    exact ⟨f'', rfl, fun j g x => h2 j g (h1 j g x)⟩

abbrev Env := Nat → Option Ref

mutual
def Den (e : Env) : SV → Value → Prop
  | .any, _ => True
  | .v x, y => y = x
  | .p b o, y => ∃ n, e b = some (.blk n) ∧ y = .pointer (some ⟨n, o, none⟩)
  | .s b o len cap, y => ∃ n, e b = some (.blk n) ∧ y = .slice (some ⟨n, o, none⟩) len cap
  | .f fn cs, y => ∃ vs, DenL e cs vs ∧ y = .func fn #[] vs.toArray
  | .y b, y => ∃ n, e b = some (.blk n) ∧ y = .func (.yield n) #[] #[]
  | .h b path, y => ∃ f, e b = some (.hd f) ∧ hdAt f path = some y ∧ y.oneCell' = true
  | .r b path, y => ∃ g, e b = some (.rd g) ∧ y = g path ∧ y.oneCell' = true
  | .a l, y => ∃ vs, DenL e l vs ∧ y = .agg vs.toArray
  | .t l, y => ∃ vs, DenL e l vs ∧ y = .tuple vs.toArray
def DenL (e : Env) : List SV → List Value → Prop
  | [], vs => vs = []
  | x :: xs, vs => ∃ v r, vs = v :: r ∧ Den e x v ∧ DenL e xs r
end

def Le (e e' : Env) : Prop := ∀ i r, e i = some r → ∃ r', e' i = some r' ∧ r.le r'
theorem Le.refl (e : Env) : Le e e := fun _ r h => ⟨r, h, r.le_refl⟩
theorem Le.trans {e e' e'' : Env} (h : Le e e') (h' : Le e' e'') : Le e e'' := fun i r x => by
  obtain ⟨r1, h1, h2⟩ := h i r x
  obtain ⟨r2, h3, h4⟩ := h' i r1 h1
  exact ⟨r2, h3, Ref.le_trans h2 h4⟩
theorem Le.blk {e e' : Env} (h : Le e e') {i n : Nat} (hi : e i = some (.blk n)) : e' i = some (.blk n) := by
  obtain ⟨r, h1, h2⟩ := h i _ hi
  rw [h1]; exact congrArg some h2
theorem Le.rd {e e' : Env} (h : Le e e') {i : Nat} {g : List Nat → Value} (hi : e i = some (.rd g)) : e' i = some (.rd g) := by
  obtain ⟨r, h1, h2⟩ := h i _ hi
  rw [h1]; exact congrArg some h2
theorem Le.hd {e e' : Env} (h : Le e e') {i : Nat} {f : Nat → Option (List Nat → Value)} (hi : e i = some (.hd f)) : ∃ f', e' i = some (.hd f') ∧ ∀ j g, f j = some g → f' j = some g := by
  obtain ⟨r, h1, f', h2, h3⟩ := h i _ hi
  exact ⟨f', by rw [h1, h2], h3⟩
theorem hdAt_mono {f f' : Nat → Option (List Nat → Value)} (h : ∀ j g, f j = some g → f' j = some g) {path : List Nat} {v : Value} (hp : hdAt f path = some v) : hdAt f' path = some v := by
  cases path with
  | nil => cases hp
  | cons ep p =>
    simp only [hdAt, Option.map_eq_some_iff] at hp ⊢
    obtain ⟨g, h1, h2⟩ := hp
    exact ⟨g, h _ _ h1, h2⟩

mutual
theorem Den.mono {e e' : Env} (hle : Le e e') : ∀ (x : SV) (v : Value), Den e x v → Den e' x v
  | .any, _, _ => by simp [Den]
  | .v x, _, h => by simpa [Den] using h
  | .p b o, _, h => by simp only [Den] at h ⊢; obtain ⟨n, h1, h2⟩ := h; exact ⟨n, hle.blk h1, h2⟩
  | .s b o len cap, _, h => by simp only [Den] at h ⊢; obtain ⟨n, h1, h2⟩ := h; exact ⟨n, hle.blk h1, h2⟩
  | .f fn cs, _, h => by simp only [Den] at h ⊢; obtain ⟨n, h1, h2⟩ := h; exact ⟨n, DenL.mono hle _ _ h1, h2⟩
  | .y b, _, h => by simp only [Den] at h ⊢; obtain ⟨n, h1, h2⟩ := h; exact ⟨n, hle.blk h1, h2⟩
  | .h b path, _, h => by
    simp only [Den] at h ⊢
    obtain ⟨f, h1, h2, h3⟩ := h
    obtain ⟨f', g1, g2⟩ := hle.hd h1
    exact ⟨f', g1, hdAt_mono g2 h2, h3⟩
  | .r b path, _, h => by simp only [Den] at h ⊢; obtain ⟨n, h1, h2⟩ := h; exact ⟨n, hle.rd h1, h2⟩
  | .a l, _, h => by simp only [Den] at h ⊢; obtain ⟨n, h1, h2⟩ := h; exact ⟨n, DenL.mono hle _ _ h1, h2⟩
  | .t l, _, h => by simp only [Den] at h ⊢; obtain ⟨n, h1, h2⟩ := h; exact ⟨n, DenL.mono hle _ _ h1, h2⟩
theorem DenL.mono {e e' : Env} (hle : Le e e') : ∀ (xs : List SV) (vs : List Value), DenL e xs vs → DenL e' xs vs
  | [], _, h => by simpa [DenL] using h
  | x :: xs, _, h => by
    simp only [DenL] at h ⊢
    obtain ⟨v, r, h1, h2, h3⟩ := h
    exact ⟨v, r, h1, Den.mono hle _ _ h2, DenL.mono hle _ _ h3⟩
end

theorem DenL.length {e : Env} : ∀ {xs : List SV} {vs : List Value}, DenL e xs vs → xs.length = vs.length
  | [], _, h => by simp only [DenL] at h; subst h; rfl
  | x :: xs, _, h => by
    simp only [DenL] at h
    obtain ⟨v, r, rfl, _, h3⟩ := h
    simp [DenL.length h3]

theorem DenL.get {e : Env} : ∀ {xs : List SV} {vs : List Value} {i : Nat} {x : SV}, DenL e xs vs → xs[i]? = some x → ∃ v, vs[i]? = some v ∧ Den e x v
  | [], _, _, _, _, hi => by simp at hi
  | x :: xs, _, i, y, h, hi => by
    simp only [DenL] at h
    obtain ⟨v, r, rfl, h2, h3⟩ := h
    cases i with
    | zero => simp at hi; subst hi; exact ⟨v, by simp, h2⟩
    | succ i => simp at hi; obtain ⟨u, hu, hd⟩ := DenL.get h3 hi; exact ⟨u, by simpa using hu, hd⟩

theorem DenL.set {e : Env} : ∀ {xs : List SV} {vs : List Value} {i : Nat} {x : SV} {v : Value}, DenL e xs vs → Den e x v → DenL e (xs.set i x) (vs.set i v)
  | [], _, _, _, _, h, _ => by simp only [DenL] at h; subst h; simp [DenL]
  | x :: xs, _, i, y, u, h, hd => by
    simp only [DenL] at h
    obtain ⟨v, r, rfl, h2, h3⟩ := h
    cases i with
    | zero => simp only [List.set_cons_zero, DenL]; exact ⟨_, _, rfl, hd, h3⟩
    | succ i => simp only [List.set_cons_succ, DenL]; exact ⟨_, _, rfl, h2, DenL.set h3 hd⟩

theorem DenL.append {e : Env} : ∀ {xs ys : List SV} {vs us : List Value}, DenL e xs vs → DenL e ys us → DenL e (xs ++ ys) (vs ++ us)
  | [], _, _, _, h, h' => by simp only [DenL] at h; subst h; simpa using h'
  | x :: xs, ys, _, us, h, h' => by
    simp only [DenL] at h
    obtain ⟨v, r, rfl, h2, h3⟩ := h
    simp only [List.cons_append, DenL]
    exact ⟨_, _, rfl, h2, DenL.append h3 h'⟩

theorem DenL.drop {e : Env} : ∀ {xs : List SV} {vs : List Value} (n : Nat), DenL e xs vs → DenL e (xs.drop n) (vs.drop n)
  | [], _, n, h => by simp only [DenL] at h; subst h; simp [DenL]
  | x :: xs, vs, 0, h => by simpa using h
  | x :: xs, _, n + 1, h => by
    simp only [DenL] at h
    obtain ⟨v, r, rfl, h2, h3⟩ := h
    simpa using DenL.drop n h3

theorem DenL.take {e : Env} : ∀ {xs : List SV} {vs : List Value} (n : Nat), DenL e xs vs → DenL e (xs.take n) (vs.take n)
  | [], _, n, h => by simp only [DenL] at h; subst h; simp [DenL]
  | x :: xs, vs, 0, h => by simp [DenL]
  | x :: xs, _, n + 1, h => by
    simp only [DenL] at h
    obtain ⟨v, r, rfl, h2, h3⟩ := h
    simp only [List.take_succ_cons, DenL]
    exact ⟨_, _, rfl, h2, DenL.take n h3⟩

theorem DenL.plain {e : Env} : ∀ (vs : List Value), DenL e (vs.map .v) vs
  | [] => by simp [DenL]
  | v :: vs => by simp only [List.map_cons, DenL]; exact ⟨v, vs, rfl, by simp [Den], DenL.plain vs⟩

theorem DenL.replicate {e : Env} (x : SV) (v : Value) (h : Den e x v) : ∀ n, DenL e (List.replicate n x) (List.replicate n v)
  | 0 => by simp [DenL]
  | n + 1 => by simp only [List.replicate_succ, DenL]; exact ⟨_, _, rfl, h, DenL.replicate x v h n⟩

/-! ### Partial heaps -/
abbrev PH := Nat → Option Obj
def emp : PH := fun _ => none
def single (n : Nat) (o : Obj) : PH := fun k => if k = n then some o else none
def Sub (h : PH) (w : World) : Prop := ∀ (k : Nat) (o : Obj), h k = some o → w.heap[k]? = some o
def Disj (h h' : PH) : Prop := ∀ k, h k = none ∨ h' k = none

/-- A cell of a screen: four values, one behind the other. -/
structure C4 where
  g : Int
  a : Int
  gd : Bool
  m : Int
def C4.vals (c : C4) : List Value := [.int .i32 c.g, .int .i64 c.a, .bool c.gd, .int .i64 c.m]
def C4.no : C4 := ⟨0, 0, false, 0⟩
def cvals (l : List C4) : List Value := l.flatMap C4.vals
theorem cvals_length : ∀ (l : List C4), (cvals l).length = l.length * 4
  | [] => rfl
  | c :: l => by simp only [cvals, List.flatMap_cons, List.length_append, List.length_cons]; have := cvals_length l; unfold cvals at this; rw [this]; simp [C4.vals]; omega
/-- What lies in a row that is owned: symbolic values, numbers of one kind, cells of a screen. -/
inductive Cn where
  | sv (l : List SV)
  | ints (k : IntKind) (xs : List Int)
  | recs (xs : List C4)
def Cn.len : Cn → Nat
  | .sv l => l.length
  | .ints _ xs => xs.length
  | .recs xs => xs.length * 4
def Cn.den (e : Env) : Cn → List Value → Prop
  | .sv l, vs => DenL e l vs
  | .ints k xs, vs => vs = xs.map (Value.int k)
  | .recs xs, vs => vs = cvals xs
theorem Cn.den_len {e : Env} {c : Cn} {vs : List Value} (h : c.den e vs) : vs.length = c.len := by
  cases c with
  | sv l => exact h.length.symm
  | ints k xs => simp only [Cn.den] at h; subst h; simp [Cn.len]
  | recs xs => simp only [Cn.den] at h; subst h; exact cvals_length xs
theorem Cn.den_mono {e e' : Env} (hle : Le e e') {c : Cn} {vs : List Value} (h : c.den e vs) : c.den e' vs := by
  cases c with
  | sv l => exact DenL.mono hle _ _ h
  | ints k xs => exact h
  | recs xs => exact h
/-- What a row's slice answers: itself; where a cell of an element is; what is cut out of it. -/
def rowRef (sz : Nat) (v : Value) : List Nat → Value
  | [] => v
  | [i, o] => match v with
    | .slice (some a) _ _ => .pointer (some ⟨a.block, i * sz + o, none⟩)
    | _ => undef
  | [lo, len, _] => match v with
    | .slice (some a) _ cap => .slice (some ⟨a.block, bif Nat.beq cap lo then 0 else lo * sz, none⟩) len (cap - lo)
    | v => v
  | _ => undef
def ownRef (sz : Nat) (v : Value) : List Nat → Value
  | 0 :: p => rowRef sz v p
  | _ => undef
/-- Rows of rows: 0 is the outer slice, 1 and a number a row. -/
def rowsRef (sz : Nat) (u : Value) (us : List Value) : List Nat → Value
  | 0 :: p => rowRef 1 u p
  | 1 :: i :: p => rowRef sz (us.getD i undef) p
  | _ => undef
/-- A row: its slice, how many elements, of how many cells each. -/
def RowOk (v : Value) (n sz : Nat) (T : TypeId) (vs : List Value) (h : PH) : Prop :=
  vs.length = n * sz ∧ ((v = .slice none 0 0 ∧ n = 0 ∧ h = emp) ∨
    ∃ g cap rest, v = .slice (some ⟨g, 0, none⟩) n cap ∧ h = single g (.cells (vs ++ rest).toArray T (0, 0)) ∧ n ≤ cap ∧ cap ≤ maxLen ∧ (vs ++ rest).length = cap * sz)
def join (h h' : PH) : PH := fun k => match h k with
  | some o => some o
  | none => h' k
/-- Rows of one kind. -/
inductive Rws where
  | i (k : IntKind) (l : List (List Int))
  | c (l : List (List C4))
def Rws.sz : Rws → Nat
  | .i _ _ => 1
  | .c _ => 4
def Rws.len : Rws → Nat
  | .i _ l => l.length
  | .c l => l.length
def Rws.rows : Rws → List (Nat × List Value)
  | .i k l => l.map fun xs => (xs.length, xs.map (Value.int k))
  | .c l => l.map fun xs => (xs.length, cvals xs)
def RowsOk (T sz : Nat) : List Value → List (Nat × List Value) → PH → Prop
  | [], [], h => h = emp
  | v :: us, r :: rs, h => ∃ h1 h2, RowOk v r.1 sz T r.2 h1 ∧ RowsOk T sz us rs h2 ∧ Disj h1 h2 ∧ h = join h1 h2
  | _, _, _ => False
/-- The headers as they lie in the outer row: those of the rows, but for one that is to be stored yet. -/
def hdrs (pd : Option Nat) (us hs : List Value) : Prop :=
  match pd with
  | none => hs = us
  | some i => hs.length = us.length ∧ ∀ j : Nat, j ≠ i → hs[j]? = us[j]?
/-- Headers of another item's rows, and rows of its own. -/
inductive Lim where
  | i (k : IntKind) (l : List (Nat ⊕ List Int))
  | c (l : List (Nat ⊕ List C4))
def Lim.sz : Lim → Nat
  | .i _ _ => 1
  | .c _ => 4
def Lim.rows : Lim → List (Nat ⊕ (Nat × List Value))
  | .i k l => l.map fun x => match x with
    | .inl j => .inl j
    | .inr xs => .inr (xs.length, xs.map (Value.int k))
  | .c l => l.map fun x => match x with
    | .inl j => .inl j
    | .inr xs => .inr (xs.length, cvals xs)
def LimOk (T sz : Nat) (g : List Nat → Value) : List Value → List (Nat ⊕ (Nat × List Value)) → PH → Prop
  | [], [], h => h = emp
  | v :: us, .inl j :: rs, h => v = g [1, j] ∧ LimOk T sz g us rs h
  | v :: us, .inr r :: rs, h => ∃ h1 h2, RowOk v r.1 sz T r.2 h1 ∧ LimOk T sz g us rs h2 ∧ Disj h1 h2 ∧ h = join h1 h2
  | _, _, _ => False
/-- Memory that is only read: a slice's elements, cell by cell. -/
inductive IC where
  | pl (x : Value)
  | sl (n sz : Nat) (c : Nat → Nat → IC)
  | ss (L : List ByteArray)
def View (ro : PH) (g : List Nat → Value) : IC → List Nat → Prop
  | .pl _, _ => True
  | .ss L, s => (g s).oneCell' = true ∧ ((g s = .slice none 0 0 ∧ L.length = 0) ∨ ∃ b o sp cap, g s = .slice (some ⟨b, o, sp⟩) L.length cap ∧
      ∀ i fo, i < L.length → fo < 1 → sp = none ∧ g (s ++ [i, fo, 0]) = .pointer (some ⟨b, o + (i * 1 + fo), none⟩) ∧ ∃ cs T fz, ro b = some (.cells cs T fz) ∧ cs[o + (i * 1 + fo)]? = some (.string (L.getD i ByteArray.empty)))
  | .sl n sz c, s => (g s).oneCell' = true ∧ ((g s = .slice none 0 0 ∧ n = 0) ∨ ∃ b o sp cap, g s = .slice (some ⟨b, o, sp⟩) n cap ∧
      ∀ i fo, i < n → fo < sz → sp = none ∧ g (s ++ [i, fo, 0]) = .pointer (some ⟨b, o + (i * sz + fo), none⟩) ∧ ∃ cs T fz x, ro b = some (.cells cs T fz) ∧ cs[o + (i * sz + fo)]? = some x ∧
        (match c i fo with
          | .pl y => x = y
          | .sl _ _ _ => x = g (s ++ [i, fo])
          | .ss _ => x = g (s ++ [i, fo])) ∧ View ro g (c i fo) (s ++ [i, fo]))

inductive SB (τ : Type) where
  | cells (l : List SV) (T : TypeId)
  | ints (k : IntKind) (xs : List Int) (n : Nat) (T : TypeId)
  | own (c : Cn) (n : Nat) (T : TypeId) (sz : Nat) (ep : Nat) (nn : Bool)
  | rows (R : Rws) (T TS : TypeId) (oe ep : Nat) (pd : Option Nat)
  | limbo (b q : Nat) (L : Lim) (T TS : TypeId) (ep : Nat)
  | inp (ic : IC)
  | res (r : τ)
  | obj (o : Obj)
  | loop (st : LoopState) (pend : Option Code) (tm : List SV) (ps : Array Tmp) (asg body : Code) (d : Nat)
  | gone

/-- What is known of the things of the caller's, and what of the world is not the heap. -/
structure Inv (τ : Type) where
  inv : τ → Ref → PH → Prop
  os : Os
  out : Array (Nat × ByteArray)
  ro : PH := emp
  gl : ∀ (g : Nat) (l : List Value), globAt g = some l → ∃ T fz, ro g = some (.cells l.toArray T fz)

/-- The package-level variables hold what the text lays. -/
def Gw (w : World) : Prop := ∀ (g : Nat) (l : List Value), globAt g = some l → ∃ T fz, w.heap[g]? = some (.cells l.toArray T fz)
/-- What of the world is not the heap stays. -/
structure Stay (w w' : World) : Prop where
  os : w'.os = w.os
  out : w'.output = w.output
theorem Stay.refl (w : World) : Stay w w := ⟨rfl, rfl⟩
theorem Stay.trans {a b c : World} (h : Stay a b) (h' : Stay b c) : Stay a c := ⟨h'.os.trans h.os, h'.out.trans h.out⟩

variable {τ : Type} (I : Inv τ)
structure Stat (Fr : PH) (w : World) : Prop where
  os : w.os = I.os
  out : w.output = I.out
  ro : ∀ (k : Nat) (o : Obj), I.ro k = some o → Fr k = some o

def ItemOk (e : Env) : SB τ → Option Ref → PH → Prop
  | .cells l T, r, h => ∃ n vs, r = some (.blk n) ∧ DenL e l vs ∧ h = single n (.cells vs.toArray T (0, 0))
  | .ints k xs n T, r, h => ∃ m, r = some (.blk m) ∧ xs.length = n ∧ h = single m (.cells (xs.map (Value.int k)).toArray T (0, 0))
  | .own c n T sz ep nn, r, h => ∃ f v vs, r = some (.hd f) ∧ f ep = some (ownRef sz v) ∧ (∀ j, ep < j → f j = none) ∧ c.den e vs ∧ RowOk v n sz T vs h ∧ (nn = true → v ≠ .slice none 0 0)
  | .rows R T TS oe ep pd, r, h => ∃ f u us hs ho hr, r = some (.hd f) ∧ f ep = some (rowsRef R.sz u us) ∧ (oe ≤ ep ∧ (∃ g0, f oe = some g0 ∧ ∀ p, g0 (0 :: p) = rowRef 1 u p) ∧ ∀ j, ep < j → f j = none) ∧ hdrs pd us hs ∧ (∀ v ∈ hs, v.oneCell' = true) ∧ RowOk u hs.length 1 TS hs ho ∧ RowsOk T R.sz us R.rows hr ∧ Disj ho hr ∧ h = join ho hr
  | .limbo b q L T TS ep, r, h => ∃ f u us ho hr fb gb, r = some (.hd f) ∧ f ep = some (ownRef 1 u) ∧ (∀ j, ep < j → f j = none) ∧ e b = some (.hd fb) ∧ fb q = some gb ∧ (∀ v ∈ us, v.oneCell' = true) ∧ RowOk u us.length 1 TS us ho ∧ LimOk T L.sz gb us L.rows hr ∧ Disj ho hr ∧ h = join ho hr
  | .inp ic, r, h => ∃ g, r = some (.rd g) ∧ h = emp ∧ View I.ro g ic []
  | .res t, r, h => ∃ x, r = some x ∧ I.inv t x h
  | .obj o, r, h => ∃ n, r = some (.blk n) ∧ h = single n o
  | .loop st pend tm ps asg body d, r, h => ∃ n fn vs dn, r = some (.blk n) ∧ DenL e tm vs ∧ e d = some (.blk dn) ∧
      h = single n (.loop { state := st, pending := pend, fn := fn, tmps := vs.toArray, params := ps, assign := asg, body := body, defers := dn })
  | .gone, _, h => h = emp

theorem ItemOk.mono {e e' : Env} (hle : Le e e') {b : SB τ} {r : Option Ref} {h : PH} (hi : ItemOk I e b r h) : ItemOk I e' b r h := by
  cases b with
  | cells l T => obtain ⟨n, vs, h1, h2, h3⟩ := hi; exact ⟨n, vs, h1, h2.mono hle, h3⟩
  | res t => exact hi
  | ints k xs n T => exact hi
  | own c n T sz ep nn =>
    obtain ⟨f, v, vs, h1, h2, h3, h4, h5⟩ := hi
    exact ⟨f, v, vs, h1, h2, h3, Cn.den_mono hle h4, h5⟩
  | rows R T TS oe ep pd => exact hi
  | limbo b q L T TS ep =>
    obtain ⟨f, u, us, ho, hr, fb, gb, h1, h2, h3, h4, h5, h6⟩ := hi
    obtain ⟨fb', g1, g2⟩ := hle.hd h4
    exact ⟨f, u, us, ho, hr, fb', gb, h1, h2, h3, g1, g2 _ _ h5, h6⟩
  | inp ic => exact hi
  | obj o => exact hi
  | loop st pend tm ps asg body d => obtain ⟨n, fn, vs, dn, h1, h2, h3, h4⟩ := hi; exact ⟨n, fn, vs, dn, h1, h2.mono hle, hle.blk h3, h4⟩
  | gone => exact hi

def Models (e : Env) (H : List (SB τ)) (Fr : PH) (w : World) : Prop :=
  Stat I Fr w ∧ ∃ hs : Nat → PH, (∀ i b, H[i]? = some b → ItemOk I e b (e i) (hs i)) ∧ (∀ i, H.length ≤ i → e i = none ∧ hs i = emp) ∧
    (∀ i j, i ≠ j → Disj (hs i) (hs j)) ∧ (∀ i, Disj (hs i) Fr) ∧ (∀ i, Sub (hs i) w) ∧ Sub Fr w

variable {I}
theorem Stat.stay {Fr : PH} {w w' : World} (h : Stat I Fr w) (hs : Stay w w') : Stat I Fr w' := ⟨hs.os.trans h.os, hs.out.trans h.out, h.ro⟩

theorem Models.heap {e : Env} {H : List (SB τ)} {Fr : PH} {w w' : World} (h : Models I e H Fr w) (hw : w'.heap = w.heap) (hy : Stay w w') : Models I e H Fr w' := by
  obtain ⟨h0, hs, h1, h2, h3, h4, h5, h6⟩ := h
  exact ⟨h0.stay hy, hs, h1, h2, h3, h4, fun i k o hk => by rw [hw]; exact h5 i k o hk, fun k o hk => by rw [hw]; exact h6 k o hk⟩

/-- The environment with one item more. -/
def ext (e : Env) (n : Nat) (r : Ref) : Env := fun i => if i = n then some r else e i
theorem le_ext {e : Env} {n : Nat} {r : Ref} (h : e n = none) : Le e (ext e n r) := fun i r' hi => by
  unfold ext; split
  · rename_i hin; subst hin; rw [h] at hi; cases hi
  · exact ⟨r', hi, r'.le_refl⟩
/-- An item's answers grow. -/
theorem le_grow {e : Env} {n : Nat} {r0 r : Ref} (h : e n = some r0) (hl : r0.le r) : Le e (ext e n r) := fun i r' hi => by
  unfold ext; split
  · rename_i hin; subst hin; rw [h] at hi; cases hi; exact ⟨r, rfl, hl⟩
  · exact ⟨r', hi, r'.le_refl⟩
theorem ext_self (e : Env) (n : Nat) (r : Ref) : ext e n r n = some r := by simp [ext]
theorem ext_ne (e : Env) (n : Nat) (r : Ref) {i : Nat} (h : i ≠ n) : ext e n r i = e i := by simp [ext, h]

theorem Models.fresh {e : Env} {H : List (SB τ)} {Fr : PH} {w : World} (h : Models I e H Fr w) : e H.length = none := by
  obtain ⟨_, hs, _, h2, _⟩ := h; exact (h2 _ (Nat.le_refl _)).1

theorem lt_of_sub {h : PH} {w : World} (hs : Sub h w) {k : Nat} {o : Obj} (hk : h k = some o) : k < w.heap.size := by
  have := hs k o hk
  exact (Array.getElem?_eq_some_iff.1 this).1

/-- The world has grown: nothing that lay there has turned. -/
structure Ext (w w' : World) : Prop where
  heap : ∀ (k : Nat) (o : Obj), w.heap[k]? = some o → w'.heap[k]? = some o
  stay : Stay w w'
theorem Ext.refl (w : World) : Ext w w := ⟨fun _ _ h => h, Stay.refl w⟩
theorem Ext.trans {a b c : World} (h : Ext a b) (h' : Ext b c) : Ext a c := ⟨fun k o x => h'.heap k o (h.heap k o x), h.stay.trans h'.stay⟩
theorem Ext.of_heap {w w' : World} (h : w'.heap = w.heap) (hy : Stay w w') : Ext w w' := ⟨fun k o x => by rw [h]; exact x, hy⟩
theorem Ext.alloc (w : World) (o : Obj) : Ext w (w.alloc o) := ⟨fun k o' h => by
  have := (Array.getElem?_eq_some_iff.1 h).1
  simp only [World.alloc]
  rw [Array.getElem?_push_lt this]
  rw [Array.getElem?_eq_getElem this] at h
  exact h, rfl, rfl⟩

/-- A new item at the end, over a part of the heap that was nobody's. -/
theorem Models.add {e : Env} {H : List (SB τ)} {Fr : PH} {w w' : World} (h : Models I e H Fr w) {b : SB τ} {r : Ref} {hn : PH}
    (hb : ItemOk I (ext e H.length r) b (some r) hn) (hext : Ext w w')
    (hnew : Sub hn w') (hfresh : ∀ k, hn k ≠ none → w.heap.size ≤ k) : Models I (ext e H.length r) (H ++ [b]) Fr w' := by
  have hfr := h.fresh
  have hold := hext.heap
  obtain ⟨h0, hs, h1, h2, h3, h4, h5, h6⟩ := h
  have hdn : ∀ (x : PH), Sub x w → Disj x hn := fun x hx k => by
    cases hk : x k with
    | none => exact .inl rfl
    | some o =>
      right
      have := lt_of_sub hx hk
      cases hq : hn k with
      | none => rfl
      | some o' => have := hfresh k (by rw [hq]; simp); omega
  refine ⟨h0.stay hext.stay, fun i => if i = H.length then hn else hs i, ?_, ?_, ?_, ?_, ?_, fun k o hk => hold k o (h6 k o hk)⟩
  · intro i b' hi
    by_cases hl : i = H.length
    · subst hl
      simp at hi
      subst hi
      simp only [if_true, ext_self]
      exact hb
    · have hlt : i < H.length := by
        have := (List.getElem?_eq_some_iff.1 hi).1
        simp at this
        omega
      rw [List.getElem?_append_left hlt] at hi
      simp only [hl, if_false]
      rw [ext_ne _ _ _ hl]
      exact (h1 i b' hi).mono I (le_ext hfr)
  · intro i hi
    have hi' : H.length + 1 ≤ i := by simpa using hi
    have hl : i ≠ H.length := by omega
    simp only [hl, if_false]
    rw [ext_ne _ _ _ hl]
    exact h2 i (by omega)
  · intro i j hij
    by_cases hi : i = H.length
    · have hj : j ≠ H.length := by omega
      simp only [hi, hj, if_true, if_false]
      intro k; exact (hdn _ (h5 j) k).symm
    · by_cases hj : j = H.length
      · simp only [hi, hj, if_true, if_false]; exact hdn _ (h5 i)
      · simp only [hi, hj, if_false]; exact h3 i j hij
  · intro i
    by_cases hi : i = H.length
    · simp only [hi, if_true]; intro k; exact (hdn _ h6 k).symm
    · simp only [hi, if_false]; exact h4 i
  · intro i k o hk
    by_cases hi : i = H.length
    · simp only [hi, if_true] at hk; exact hnew k o hk
    · simp only [hi, if_false] at hk; exact hold k o (h5 i k o hk)

/-- An item is turned, in place and into new blocks. -/
theorem Models.upd {e : Env} {H : List (SB τ)} {Fr : PH} {w w' : World} (i : Nat) {b b' : SB τ} (hi : H[i]? = some b)
    (h : Models I e H Fr w) (hy : Stay w w')
    (hb : ∀ hn, ItemOk I e b (e i) hn → Sub hn w → ∃ hn', ItemOk I e b' (e i) hn' ∧ Sub hn' w' ∧ (∀ k, hn' k ≠ none → hn k ≠ none ∨ w.heap.size ≤ k) ∧
      (∀ (k : Nat) (o : Obj), w.heap[k]? = some o → hn k = none → w'.heap[k]? = some o)) :
    Models I e (H.set i b') Fr w' := by
  obtain ⟨h0, hs, h1, h2, h3, h4, h5, h6⟩ := h
  obtain ⟨hn', g1, g2, g3, g4⟩ := hb (hs i) (h1 i b hi) (h5 i)
  have hlt : i < H.length := (List.getElem?_eq_some_iff.1 hi).1
  have hdn : ∀ (x : PH), Sub x w → Disj x (hs i) → Disj x hn' := fun x hx hd k => by
    cases hk : x k with
    | none => exact .inl rfl
    | some o =>
      right
      have hlt := lt_of_sub hx hk
      cases hq : hn' k with
      | none => rfl
      | some o' =>
        rcases g3 k (by rw [hq]; simp) with h' | h'
        · rcases hd k with h'' | h''
          · rw [hk] at h''; cases h''
          · exact absurd h'' h'
        · omega
  have hkeep : ∀ (x : PH), Sub x w → Disj x (hs i) → Sub x w' := fun x hx hd k o hk => by
    refine g4 k o (hx k o hk) ?_
    rcases hd k with h' | h'
    · rw [hk] at h'; cases h'
    · exact h'
  refine ⟨h0.stay hy, fun j => if j = i then hn' else hs j, ?_, ?_, ?_, ?_, ?_, hkeep _ h6 (fun k => (h4 i k).symm)⟩
  · intro j b'' hj
    by_cases hji : j = i
    · subst hji
      simp [hlt] at hj
      subst hj
      simpa using g1
    · rw [List.getElem?_set_ne (fun e => hji e.symm)] at hj
      simp only [hji, if_false]
      exact h1 j b'' hj
  · intro j hj
    have hj' : H.length ≤ j := by simpa using hj
    have hji : j ≠ i := by omega
    simp only [hji, if_false]
    exact h2 j hj'
  · intro j k hjk
    by_cases hj : j = i
    · have hk : k ≠ i := by omega
      simp only [hj, hk, if_true, if_false]
      intro m; exact (hdn _ (h5 k) (h3 k i hk) m).symm
    · by_cases hk : k = i
      · simp only [hj, hk, if_true, if_false]; exact hdn _ (h5 j) (h3 j i hj)
      · simp only [hj, hk, if_false]; exact h3 j k hjk
  · intro j
    by_cases hj : j = i
    · simp only [hj, if_true]; intro m; exact (hdn _ h6 (fun k => (h4 i k).symm) m).symm
    · simp only [hj, if_false]; exact h4 j
  · intro j
    by_cases hj : j = i
    · simp only [hj, if_true]; exact g2
    · simp only [hj, if_false]; exact hkeep _ (h5 j) (h3 j i hj)

/-- Some items are turned, all at once: S says which; what they had, and new blocks, is shared out among them anew. -/
theorem Models.turn0 {e e' : Env} {H H' : List (SB τ)} {Fr : PH} {w w' : World} (S : Nat → Prop) {hs hs' : Nat → PH} (h0 : Stat I Fr w) (h1 : ∀ i b, H[i]? = some b → ItemOk I e b (e i) (hs i)) (h2 : ∀ i, H.length ≤ i → e i = none ∧ hs i = emp)
    (h3 : ∀ i j, i ≠ j → Disj (hs i) (hs j)) (h4 : ∀ i, Disj (hs i) Fr) (h5 : ∀ i, Sub (hs i) w) (h6 : Sub Fr w) (hle : Le e e') (hy : Stay w w')
    (hH : ∀ i, ¬ S i → H'[i]? = H[i]? ∧ e' i = e i) (g1 : ∀ i, ¬ S i → hs' i = hs i) (g2 : ∀ i b, S i → H'[i]? = some b → ItemOk I e' b (e' i) (hs' i)) (g3 : ∀ i, S i → H'.length ≤ i → e' i = none ∧ hs' i = emp)
    (g4 : ∀ i j, S i → S j → i ≠ j → Disj (hs' i) (hs' j)) (g5 : ∀ i, S i → Sub (hs' i) w') (g6 : ∀ i k, S i → hs' i k ≠ none → (∃ j, S j ∧ hs j k ≠ none) ∨ w.heap.size ≤ k)
    (g7 : ∀ (k : Nat) (o : Obj), w.heap[k]? = some o → (∀ j, S j → hs j k = none) → w'.heap[k]? = some o) : Models I e' H' Fr w' := by
  -- what is disjoint from all of S is disjoint from what becomes of it, and stays
  have hdn : ∀ (x : PH), Sub x w → (∀ j, S j → Disj x (hs j)) → ∀ i, S i → Disj x (hs' i) := fun x hx hd i hi k => by
    cases hk : x k with
    | none => exact .inl rfl
    | some o =>
      right
      have hlt := lt_of_sub hx hk
      cases hq : hs' i k with
      | none => rfl
      | some o' =>
        rcases g6 i k hi (by rw [hq]; simp) with ⟨j, hj, h'⟩ | h'
        · rcases hd j hj k with h'' | h''
          · rw [hk] at h''; cases h''
          · exact absurd h'' h'
        · omega
  have hkeep : ∀ (x : PH), Sub x w → (∀ j, S j → Disj x (hs j)) → Sub x w' := fun x hx hd k o hk => by
    refine g7 k o (hx k o hk) fun j hj => ?_
    rcases hd j hj k with h' | h'
    · rw [hk] at h'; cases h'
    · exact h'
  refine ⟨h0.stay hy, hs', fun i b hi => ?_, fun i hi => ?_, fun i j hij => ?_, fun i => ?_, fun i => ?_, hkeep Fr h6 fun j _ k => (h4 j k).symm⟩
  · by_cases hS : S i
    · exact g2 i b hS hi
    · rw [(hH i hS).1] at hi
      rw [g1 i hS, (hH i hS).2]
      exact (h1 i b hi).mono I hle
  · by_cases hS : S i
    · exact g3 i hS hi
    · rw [g1 i hS, (hH i hS).2]
      refine h2 i (List.getElem?_eq_none_iff.1 ?_)
      rw [← (hH i hS).1]
      exact List.getElem?_eq_none_iff.2 hi
  · by_cases hi : S i
    · by_cases hj : S j
      · exact g4 i j hi hj hij
      · rw [g1 j hj]
        intro k
        exact (hdn _ (h5 j) (fun m hm => h3 j m (fun e => hj (e ▸ hm))) i hi k).symm
    · rw [g1 i hi]
      by_cases hj : S j
      · exact hdn _ (h5 i) (fun m hm => h3 i m (fun e => hi (e ▸ hm))) j hj
      · rw [g1 j hj]; exact h3 i j hij
  · by_cases hi : S i
    · intro k; exact (hdn Fr h6 (fun m _ k => (h4 m k).symm) i hi k).symm
    · rw [g1 i hi]; exact h4 i
  · by_cases hi : S i
    · exact g5 i hi
    · rw [g1 i hi]; exact hkeep _ (h5 i) fun m hm => h3 i m (fun e => hi (e ▸ hm))

theorem Models.item {e : Env} {H : List (SB τ)} {Fr : PH} {w : World} (h : Models I e H Fr w) {i : Nat} {b : SB τ} (hi : H[i]? = some b) :
    ∃ hn, ItemOk I e b (e i) hn ∧ Sub hn w := by
  obtain ⟨_, hs, h1, _, _, _, h5, _⟩ := h
  exact ⟨hs i, h1 i b hi, h5 i⟩

theorem Models.cells {e : Env} {H : List (SB τ)} {Fr : PH} {w : World} (h : Models I e H Fr w) {i : Nat} {l : List SV} {T : TypeId} (hi : H[i]? = some (.cells l T)) :
    ∃ n vs, e i = some (.blk n) ∧ DenL e l vs ∧ w.heap[n]? = some (.cells vs.toArray T (0, 0)) := by
  obtain ⟨hn, ⟨n, vs, h1, h2, rfl⟩, h5⟩ := h.item hi
  exact ⟨n, vs, h1, h2, h5 n _ (by simp [single])⟩

theorem Models.ints {e : Env} {H : List (SB τ)} {Fr : PH} {w : World} (h : Models I e H Fr w) {i : Nat} {k : IntKind} {xs : List Int} {m : Nat} {T : TypeId} (hi : H[i]? = some (.ints k xs m T)) :
    ∃ n, e i = some (.blk n) ∧ xs.length = m ∧ w.heap[n]? = some (.cells (xs.map (Value.int k)).toArray T (0, 0)) := by
  obtain ⟨hn, ⟨n, h1, h2, rfl⟩, h5⟩ := h.item hi
  exact ⟨n, h1, h2, h5 n _ (by simp [single])⟩

theorem Models.frame {e : Env} {H : List (SB τ)} {Fr : PH} {w : World} (h : Models I e H Fr w) : Sub Fr w := by
  obtain ⟨_, hs, _, _, _, _, _, h6⟩ := h; exact h6

theorem Models.gw {e : Env} {H : List (SB τ)} {Fr : PH} {w : World} (h : Models I e H Fr w) : Gw w := fun g l hg => by
  obtain ⟨T, fz, hr⟩ := I.gl g l hg
  exact ⟨T, fz, h.frame g _ (h.1.ro g _ hr)⟩

theorem Models.grow {e : Env} {H : List (SB τ)} {Fr : PH} {w w' : World} (h : Models I e H Fr w) (hw : Ext w w') : Models I e H Fr w' := by
  obtain ⟨h0, hs, h1, h2, h3, h4, h5, h6⟩ := h
  exact ⟨h0.stay hw.stay, hs, h1, h2, h3, h4, fun i k o hk => hw.heap k o (h5 i k o hk), fun k o hk => hw.heap k o (h6 k o hk)⟩

end Go.Sym
