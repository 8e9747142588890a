/- What is wanted of the texts VZ, VA, VB, VC, VD, VO, VOa, VOb, VOc, VOd, VOe, in one. -/
import GoSem.Core.Value
import Derived.CallsIn
import Derived.RangeFuncLeaves
import Derived.KernelRfl
import Derived.WalkKit
import Derived.Lib.Builder
import Derived.Lib.UnsafeStr
import Derived.Laws.OwnMore
import Derived.Laws.MakeOwn
set_option linter.unusedSimpArgs false
set_option linter.unusedVariables false
set_option linter.unusedSectionVars false
namespace Go.Sym
open Go
def globs : List (Nat × List Value) := [(0, [.int .i32 32, .int .i64 0, .bool false, .int .i64 0])]
def lookG : List (Nat × List Value) → Nat → Option (List Value)
  | [], _ => none
  | (k, a) :: r, n => match Nat.beq k n with
    | true => some a
    | false => lookG r n
def globAt (g : Nat) : Option (List Value) := lookG globs g
end Go.Sym
namespace Go.Sym
open Go
inductive SV where
  | any
  | v (x : Value)
  | p (b o : Nat)
  | s (b o len cap : Nat)
  | f (fn : Fn) (caps : List SV)
  | y (b : Nat)
  | h (b : Nat) (path : List Nat)
  | r (b : Nat) (path : List Nat)
  | a (l : List SV)
  | t (l : List SV)
inductive Ref where
  | blk (n : Nat)
  | hd (f : Nat → Option (List Nat → Value))
  | rd (g : List Nat → Value)
def hdAt (f : Nat → Option (List Nat → Value)) (path : List Nat) : Option Value :=
  match path with
  | ep :: p => (f ep).map (· p)
  | [] => none
def Ref.le : Ref → Ref → Prop
  | .blk n, r => r = .blk n
  | .rd g, r => r = .rd g
  | .hd f, r => ∃ f', r = .hd f' ∧ ∀ j g, f j = some g → f' j = some g
theorem Ref.le_refl (r : Ref) : r.le r := by
  cases r with
  | blk n => rfl
  | rd g => rfl
  | hd f => exact ⟨f, rfl, fun _ _ h => h⟩
theorem Ref.le_trans {a b c : Ref} (h : a.le b) (h' : b.le c) : a.le c := by
  cases a with
  | blk n => cases h; exact h'
  | rd g => cases h; exact h'
  | hd f =>
    obtain ⟨f', rfl, h1⟩ := h
    obtain ⟨f'', rfl, h2⟩ := h'
    exact ⟨f'', rfl, fun j g x => h2 j g (h1 j g x)⟩
abbrev Env := Nat → Option Ref
mutual
def Den (e : Env) : SV → Value → Prop
  | .any, _ => True
  | .v x, y => y = x
  | .p b o, y => ∃ n, e b = some (.blk n) ∧ y = .pointer (some ⟨n, o, none⟩)
  | .s b o len cap, y => ∃ n, e b = some (.blk n) ∧ y = .slice (some ⟨n, o, none⟩) len cap
  | .f fn cs, y => ∃ vs, DenL e cs vs ∧ y = .func fn #[] vs.toArray
  | .y b, y => ∃ n, e b = some (.blk n) ∧ y = .func (.yield n) #[] #[]
  | .h b path, y => ∃ f, e b = some (.hd f) ∧ hdAt f path = some y ∧ y.oneCell' = true
  | .r b path, y => ∃ g, e b = some (.rd g) ∧ y = g path ∧ y.oneCell' = true
  | .a l, y => ∃ vs, DenL e l vs ∧ y = .agg vs.toArray
  | .t l, y => ∃ vs, DenL e l vs ∧ y = .tuple vs.toArray
def DenL (e : Env) : List SV → List Value → Prop
  | [], vs => vs = []
  | x :: xs, vs => ∃ v r, vs = v :: r ∧ Den e x v ∧ DenL e xs r
end
def Le (e e' : Env) : Prop := ∀ i r, e i = some r → ∃ r', e' i = some r' ∧ r.le r'
theorem Le.refl (e : Env) : Le e e := fun _ r h => ⟨r, h, r.le_refl⟩
theorem Le.trans {e e' e'' : Env} (h : Le e e') (h' : Le e' e'') : Le e e'' := fun i r x => by
  obtain ⟨r1, h1, h2⟩ := h i r x
  obtain ⟨r2, h3, h4⟩ := h' i r1 h1
  exact ⟨r2, h3, Ref.le_trans h2 h4⟩
theorem Le.blk {e e' : Env} (h : Le e e') {i n : Nat} (hi : e i = some (.blk n)) : e' i = some (.blk n) := by
  obtain ⟨r, h1, h2⟩ := h i _ hi
  rw [h1]; exact congrArg some h2
theorem Le.rd {e e' : Env} (h : Le e e') {i : Nat} {g : List Nat → Value} (hi : e i = some (.rd g)) : e' i = some (.rd g) := by
  obtain ⟨r, h1, h2⟩ := h i _ hi
  rw [h1]; exact congrArg some h2
theorem Le.hd {e e' : Env} (h : Le e e') {i : Nat} {f : Nat → Option (List Nat → Value)} (hi : e i = some (.hd f)) : ∃ f', e' i = some (.hd f') ∧ ∀ j g, f j = some g → f' j = some g := by
  obtain ⟨r, h1, f', h2, h3⟩ := h i _ hi
  exact ⟨f', by rw [h1, h2], h3⟩
theorem hdAt_mono {f f' : Nat → Option (List Nat → Value)} (h : ∀ j g, f j = some g → f' j = some g) {path : List Nat} {v : Value} (hp : hdAt f path = some v) : hdAt f' path = some v := by
  cases path with
  | nil => cases hp
  | cons ep p =>
    simp only [hdAt, Option.map_eq_some_iff] at hp ⊢
    obtain ⟨g, h1, h2⟩ := hp
    exact ⟨g, h _ _ h1, h2⟩
mutual
theorem Den.mono {e e' : Env} (hle : Le e e') : ∀ (x : SV) (v : Value), Den e x v → Den e' x v
  | .any, _, _ => by simp [Den]
  | .v x, _, h => by simpa [Den] using h
  | .p b o, _, h => by simp only [Den] at h ⊢; obtain ⟨n, h1, h2⟩ := h; exact ⟨n, hle.blk h1, h2⟩
  | .s b o len cap, _, h => by simp only [Den] at h ⊢; obtain ⟨n, h1, h2⟩ := h; exact ⟨n, hle.blk h1, h2⟩
  | .f fn cs, _, h => by simp only [Den] at h ⊢; obtain ⟨n, h1, h2⟩ := h; exact ⟨n, DenL.mono hle _ _ h1, h2⟩
  | .y b, _, h => by simp only [Den] at h ⊢; obtain ⟨n, h1, h2⟩ := h; exact ⟨n, hle.blk h1, h2⟩
  | .h b path, _, h => by
    simp only [Den] at h ⊢
    obtain ⟨f, h1, h2, h3⟩ := h
    obtain ⟨f', g1, g2⟩ := hle.hd h1
    exact ⟨f', g1, hdAt_mono g2 h2, h3⟩
  | .r b path, _, h => by simp only [Den] at h ⊢; obtain ⟨n, h1, h2⟩ := h; exact ⟨n, hle.rd h1, h2⟩
  | .a l, _, h => by simp only [Den] at h ⊢; obtain ⟨n, h1, h2⟩ := h; exact ⟨n, DenL.mono hle _ _ h1, h2⟩
  | .t l, _, h => by simp only [Den] at h ⊢; obtain ⟨n, h1, h2⟩ := h; exact ⟨n, DenL.mono hle _ _ h1, h2⟩
theorem DenL.mono {e e' : Env} (hle : Le e e') : ∀ (xs : List SV) (vs : List Value), DenL e xs vs → DenL e' xs vs
  | [], _, h => by simpa [DenL] using h
  | x :: xs, _, h => by
    simp only [DenL] at h ⊢
    obtain ⟨v, r, h1, h2, h3⟩ := h
    exact ⟨v, r, h1, Den.mono hle _ _ h2, DenL.mono hle _ _ h3⟩
end
theorem DenL.length {e : Env} : ∀ {xs : List SV} {vs : List Value}, DenL e xs vs → xs.length = vs.length
  | [], _, h => by simp only [DenL] at h; subst h; rfl
  | x :: xs, _, h => by
    simp only [DenL] at h
    obtain ⟨v, r, rfl, _, h3⟩ := h
    simp [DenL.length h3]
theorem DenL.get {e : Env} : ∀ {xs : List SV} {vs : List Value} {i : Nat} {x : SV}, DenL e xs vs → xs[i]? = some x → ∃ v, vs[i]? = some v ∧ Den e x v
  | [], _, _, _, _, hi => by simp at hi
  | x :: xs, _, i, y, h, hi => by
    simp only [DenL] at h
    obtain ⟨v, r, rfl, h2, h3⟩ := h
    cases i with
    | zero => simp at hi; subst hi; exact ⟨v, by simp, h2⟩
    | succ i => simp at hi; obtain ⟨u, hu, hd⟩ := DenL.get h3 hi; exact ⟨u, by simpa using hu, hd⟩
theorem DenL.set {e : Env} : ∀ {xs : List SV} {vs : List Value} {i : Nat} {x : SV} {v : Value}, DenL e xs vs → Den e x v → DenL e (xs.set i x) (vs.set i v)
  | [], _, _, _, _, h, _ => by simp only [DenL] at h; subst h; simp [DenL]
  | x :: xs, _, i, y, u, h, hd => by
    simp only [DenL] at h
    obtain ⟨v, r, rfl, h2, h3⟩ := h
    cases i with
    | zero => simp only [List.set_cons_zero, DenL]; exact ⟨_, _, rfl, hd, h3⟩
    | succ i => simp only [List.set_cons_succ, DenL]; exact ⟨_, _, rfl, h2, DenL.set h3 hd⟩
theorem DenL.append {e : Env} : ∀ {xs ys : List SV} {vs us : List Value}, DenL e xs vs → DenL e ys us → DenL e (xs ++ ys) (vs ++ us)
  | [], _, _, _, h, h' => by simp only [DenL] at h; subst h; simpa using h'
  | x :: xs, ys, _, us, h, h' => by
    simp only [DenL] at h
    obtain ⟨v, r, rfl, h2, h3⟩ := h
    simp only [List.cons_append, DenL]
    exact ⟨_, _, rfl, h2, DenL.append h3 h'⟩
theorem DenL.drop {e : Env} : ∀ {xs : List SV} {vs : List Value} (n : Nat), DenL e xs vs → DenL e (xs.drop n) (vs.drop n)
  | [], _, n, h => by simp only [DenL] at h; subst h; simp [DenL]
  | x :: xs, vs, 0, h => by simpa using h
  | x :: xs, _, n + 1, h => by
    simp only [DenL] at h
    obtain ⟨v, r, rfl, h2, h3⟩ := h
    simpa using DenL.drop n h3
theorem DenL.take {e : Env} : ∀ {xs : List SV} {vs : List Value} (n : Nat), DenL e xs vs → DenL e (xs.take n) (vs.take n)
  | [], _, n, h => by simp only [DenL] at h; subst h; simp [DenL]
  | x :: xs, vs, 0, h => by simp [DenL]
  | x :: xs, _, n + 1, h => by
    simp only [DenL] at h
    obtain ⟨v, r, rfl, h2, h3⟩ := h
    simp only [List.take_succ_cons, DenL]
    exact ⟨_, _, rfl, h2, DenL.take n h3⟩
theorem DenL.plain {e : Env} : ∀ (vs : List Value), DenL e (vs.map .v) vs
  | [] => by simp [DenL]
  | v :: vs => by simp only [List.map_cons, DenL]; exact ⟨v, vs, rfl, by simp [Den], DenL.plain vs⟩
theorem DenL.replicate {e : Env} (x : SV) (v : Value) (h : Den e x v) : ∀ n, DenL e (List.replicate n x) (List.replicate n v)
  | 0 => by simp [DenL]
  | n + 1 => by simp only [List.replicate_succ, DenL]; exact ⟨_, _, rfl, h, DenL.replicate x v h n⟩
abbrev PH := Nat → Option Obj
def emp : PH := fun _ => none
def single (n : Nat) (o : Obj) : PH := fun k => if k = n then some o else none
def Sub (h : PH) (w : World) : Prop := ∀ (k : Nat) (o : Obj), h k = some o → w.heap[k]? = some o
def Disj (h h' : PH) : Prop := ∀ k, h k = none ∨ h' k = none
structure C4 where
  g : Int
  a : Int
  gd : Bool
  m : Int
def C4.vals (c : C4) : List Value := [.int .i32 c.g, .int .i64 c.a, .bool c.gd, .int .i64 c.m]
def C4.no : C4 := ⟨0, 0, false, 0⟩
def cvals (l : List C4) : List Value := l.flatMap C4.vals
theorem cvals_length : ∀ (l : List C4), (cvals l).length = l.length * 4
  | [] => rfl
  | c :: l => by simp only [cvals, List.flatMap_cons, List.length_append, List.length_cons]; have := cvals_length l; unfold cvals at this; rw [this]; simp [C4.vals]; omega
inductive Cn where
  | sv (l : List SV)
  | ints (k : IntKind) (xs : List Int)
  | recs (xs : List C4)
def Cn.len : Cn → Nat
  | .sv l => l.length
  | .ints _ xs => xs.length
  | .recs xs => xs.length * 4
def Cn.den (e : Env) : Cn → List Value → Prop
  | .sv l, vs => DenL e l vs
  | .ints k xs, vs => vs = xs.map (Value.int k)
  | .recs xs, vs => vs = cvals xs
theorem Cn.den_mono {e e' : Env} (hle : Le e e') {c : Cn} {vs : List Value} (h : c.den e vs) : c.den e' vs := by
  cases c with
  | sv l => exact DenL.mono hle _ _ h
  | ints k xs => exact h
  | recs xs => exact h
def rowRef (sz : Nat) (v : Value) : List Nat → Value
  | [] => v
  | [i, o] => match v with
    | .slice (some a) _ _ => .pointer (some ⟨a.block, i * sz + o, none⟩)
    | _ => undef
  | [lo, len, _] => match v with
    | .slice (some a) _ cap => .slice (some ⟨a.block, bif Nat.beq cap lo then 0 else lo * sz, none⟩) len (cap - lo)
    | v => v
  | _ => undef
def ownRef (sz : Nat) (v : Value) : List Nat → Value
  | 0 :: p => rowRef sz v p
  | _ => undef
def rowsRef (sz : Nat) (u : Value) (us : List Value) : List Nat → Value
  | 0 :: p => rowRef 1 u p
  | 1 :: i :: p => rowRef sz (us.getD i undef) p
  | _ => undef
def RowOk (v : Value) (n sz : Nat) (T : TypeId) (vs : List Value) (h : PH) : Prop :=
  vs.length = n * sz ∧ ((v = .slice none 0 0 ∧ n = 0 ∧ h = emp) ∨
    ∃ g cap rest, v = .slice (some ⟨g, 0, none⟩) n cap ∧ h = single g (.cells (vs ++ rest).toArray T (0, 0)) ∧ n ≤ cap ∧ cap ≤ maxLen ∧ (vs ++ rest).length = cap * sz)
def join (h h' : PH) : PH := fun k => match h k with
  | some o => some o
  | none => h' k
inductive Rws where
  | i (k : IntKind) (l : List (List Int))
  | c (l : List (List C4))
def Rws.sz : Rws → Nat
  | .i _ _ => 1
  | .c _ => 4
def Rws.len : Rws → Nat
  | .i _ l => l.length
  | .c l => l.length
def Rws.rows : Rws → List (Nat × List Value)
  | .i k l => l.map fun xs => (xs.length, xs.map (Value.int k))
  | .c l => l.map fun xs => (xs.length, cvals xs)
def RowsOk (T sz : Nat) : List Value → List (Nat × List Value) → PH → Prop
  | [], [], h => h = emp
  | v :: us, r :: rs, h => ∃ h1 h2, RowOk v r.1 sz T r.2 h1 ∧ RowsOk T sz us rs h2 ∧ Disj h1 h2 ∧ h = join h1 h2
  | _, _, _ => False
def hdrs (pd : Option Nat) (us hs : List Value) : Prop :=
  match pd with
  | none => hs = us
  | some i => hs.length = us.length ∧ ∀ j : Nat, j ≠ i → hs[j]? = us[j]?
inductive Lim where
  | i (k : IntKind) (l : List (Nat ⊕ List Int))
  | c (l : List (Nat ⊕ List C4))
def Lim.sz : Lim → Nat
  | .i _ _ => 1
  | .c _ => 4
def Lim.rows : Lim → List (Nat ⊕ (Nat × List Value))
  | .i k l => l.map fun x => match x with
    | .inl j => .inl j
    | .inr xs => .inr (xs.length, xs.map (Value.int k))
  | .c l => l.map fun x => match x with
    | .inl j => .inl j
    | .inr xs => .inr (xs.length, cvals xs)
def LimOk (T sz : Nat) (g : List Nat → Value) : List Value → List (Nat ⊕ (Nat × List Value)) → PH → Prop
  | [], [], h => h = emp
  | v :: us, .inl j :: rs, h => v = g [1, j] ∧ LimOk T sz g us rs h
  | v :: us, .inr r :: rs, h => ∃ h1 h2, RowOk v r.1 sz T r.2 h1 ∧ LimOk T sz g us rs h2 ∧ Disj h1 h2 ∧ h = join h1 h2
  | _, _, _ => False
inductive IC where
  | pl (x : Value)
  | sl (n sz : Nat) (c : Nat → Nat → IC)
  | ss (L : List ByteArray)
def View (ro : PH) (g : List Nat → Value) : IC → List Nat → Prop
  | .pl _, _ => True
  | .ss L, s => (g s).oneCell' = true ∧ ((g s = .slice none 0 0 ∧ L.length = 0) ∨ ∃ b o sp cap, g s = .slice (some ⟨b, o, sp⟩) L.length cap ∧
      ∀ i fo, i < L.length → fo < 1 → sp = none ∧ g (s ++ [i, fo, 0]) = .pointer (some ⟨b, o + (i * 1 + fo), none⟩) ∧ ∃ cs T fz, ro b = some (.cells cs T fz) ∧ cs[o + (i * 1 + fo)]? = some (.string (L.getD i ByteArray.empty)))
  | .sl n sz c, s => (g s).oneCell' = true ∧ ((g s = .slice none 0 0 ∧ n = 0) ∨ ∃ b o sp cap, g s = .slice (some ⟨b, o, sp⟩) n cap ∧
      ∀ i fo, i < n → fo < sz → sp = none ∧ g (s ++ [i, fo, 0]) = .pointer (some ⟨b, o + (i * sz + fo), none⟩) ∧ ∃ cs T fz x, ro b = some (.cells cs T fz) ∧ cs[o + (i * sz + fo)]? = some x ∧
        (match c i fo with
          | .pl y => x = y
          | .sl _ _ _ => x = g (s ++ [i, fo])
          | .ss _ => x = g (s ++ [i, fo])) ∧ View ro g (c i fo) (s ++ [i, fo]))
inductive SB (τ : Type) where
  | cells (l : List SV) (T : TypeId)
  | ints (k : IntKind) (xs : List Int) (n : Nat) (T : TypeId)
  | own (c : Cn) (n : Nat) (T : TypeId) (sz : Nat) (ep : Nat) (nn : Bool)
  | rows (R : Rws) (T TS : TypeId) (oe ep : Nat) (pd : Option Nat)
  | limbo (b q : Nat) (L : Lim) (T TS : TypeId) (ep : Nat)
  | inp (ic : IC)
  | res (r : τ)
  | obj (o : Obj)
  | loop (st : LoopState) (pend : Option Code) (tm : List SV) (ps : Array Tmp) (asg body : Code) (d : Nat)
  | gone
structure Inv (τ : Type) where
  inv : τ → Ref → PH → Prop
  os : Os
  out : Array (Nat × ByteArray)
  ro : PH := emp
  gl : ∀ (g : Nat) (l : List Value), globAt g = some l → ∃ T fz, ro g = some (.cells l.toArray T fz)
def Gw (w : World) : Prop := ∀ (g : Nat) (l : List Value), globAt g = some l → ∃ T fz, w.heap[g]? = some (.cells l.toArray T fz)
structure Stay (w w' : World) : Prop where
  os : w'.os = w.os
  out : w'.output = w.output
theorem Stay.refl (w : World) : Stay w w := ⟨rfl, rfl⟩
theorem Stay.trans {a b c : World} (h : Stay a b) (h' : Stay b c) : Stay a c := ⟨h'.os.trans h.os, h'.out.trans h.out⟩
variable {τ : Type} (I : Inv τ)
structure Stat (Fr : PH) (w : World) : Prop where
  os : w.os = I.os
  out : w.output = I.out
  ro : ∀ (k : Nat) (o : Obj), I.ro k = some o → Fr k = some o
def ItemOk (e : Env) : SB τ → Option Ref → PH → Prop
  | .cells l T, r, h => ∃ n vs, r = some (.blk n) ∧ DenL e l vs ∧ h = single n (.cells vs.toArray T (0, 0))
  | .ints k xs n T, r, h => ∃ m, r = some (.blk m) ∧ xs.length = n ∧ h = single m (.cells (xs.map (Value.int k)).toArray T (0, 0))
  | .own c n T sz ep nn, r, h => ∃ f v vs, r = some (.hd f) ∧ f ep = some (ownRef sz v) ∧ (∀ j, ep < j → f j = none) ∧ c.den e vs ∧ RowOk v n sz T vs h ∧ (nn = true → v ≠ .slice none 0 0)
  | .rows R T TS oe ep pd, r, h => ∃ f u us hs ho hr, r = some (.hd f) ∧ f ep = some (rowsRef R.sz u us) ∧ (oe ≤ ep ∧ (∃ g0, f oe = some g0 ∧ ∀ p, g0 (0 :: p) = rowRef 1 u p) ∧ ∀ j, ep < j → f j = none) ∧ hdrs pd us hs ∧ (∀ v ∈ hs, v.oneCell' = true) ∧ RowOk u hs.length 1 TS hs ho ∧ RowsOk T R.sz us R.rows hr ∧ Disj ho hr ∧ h = join ho hr
  | .limbo b q L T TS ep, r, h => ∃ f u us ho hr fb gb, r = some (.hd f) ∧ f ep = some (ownRef 1 u) ∧ (∀ j, ep < j → f j = none) ∧ e b = some (.hd fb) ∧ fb q = some gb ∧ (∀ v ∈ us, v.oneCell' = true) ∧ RowOk u us.length 1 TS us ho ∧ LimOk T L.sz gb us L.rows hr ∧ Disj ho hr ∧ h = join ho hr
  | .inp ic, r, h => ∃ g, r = some (.rd g) ∧ h = emp ∧ View I.ro g ic []
  | .res t, r, h => ∃ x, r = some x ∧ I.inv t x h
  | .obj o, r, h => ∃ n, r = some (.blk n) ∧ h = single n o
  | .loop st pend tm ps asg body d, r, h => ∃ n fn vs dn, r = some (.blk n) ∧ DenL e tm vs ∧ e d = some (.blk dn) ∧
      h = single n (.loop { state := st, pending := pend, fn := fn, tmps := vs.toArray, params := ps, assign := asg, body := body, defers := dn })
  | .gone, _, h => h = emp
theorem ItemOk.mono {e e' : Env} (hle : Le e e') {b : SB τ} {r : Option Ref} {h : PH} (hi : ItemOk I e b r h) : ItemOk I e' b r h := by
  cases b with
  | cells l T => obtain ⟨n, vs, h1, h2, h3⟩ := hi; exact ⟨n, vs, h1, h2.mono hle, h3⟩
  | res t => exact hi
  | ints k xs n T => exact hi
  | own c n T sz ep nn =>
    obtain ⟨f, v, vs, h1, h2, h3, h4, h5⟩ := hi
    exact ⟨f, v, vs, h1, h2, h3, Cn.den_mono hle h4, h5⟩
  | rows R T TS oe ep pd => exact hi
  | limbo b q L T TS ep =>
    obtain ⟨f, u, us, ho, hr, fb, gb, h1, h2, h3, h4, h5, h6⟩ := hi
    obtain ⟨fb', g1, g2⟩ := hle.hd h4
    exact ⟨f, u, us, ho, hr, fb', gb, h1, h2, h3, g1, g2 _ _ h5, h6⟩
  | inp ic => exact hi
  | obj o => exact hi
  | loop st pend tm ps asg body d => obtain ⟨n, fn, vs, dn, h1, h2, h3, h4⟩ := hi; exact ⟨n, fn, vs, dn, h1, h2.mono hle, hle.blk h3, h4⟩
  | gone => exact hi
def Models (e : Env) (H : List (SB τ)) (Fr : PH) (w : World) : Prop :=
  Stat I Fr w ∧ ∃ hs : Nat → PH, (∀ i b, H[i]? = some b → ItemOk I e b (e i) (hs i)) ∧ (∀ i, H.length ≤ i → e i = none ∧ hs i = emp) ∧
    (∀ i j, i ≠ j → Disj (hs i) (hs j)) ∧ (∀ i, Disj (hs i) Fr) ∧ (∀ i, Sub (hs i) w) ∧ Sub Fr w
variable {I}
theorem Stat.stay {Fr : PH} {w w' : World} (h : Stat I Fr w) (hs : Stay w w') : Stat I Fr w' := ⟨hs.os.trans h.os, hs.out.trans h.out, h.ro⟩
theorem Models.heap {e : Env} {H : List (SB τ)} {Fr : PH} {w w' : World} (h : Models I e H Fr w) (hw : w'.heap = w.heap) (hy : Stay w w') : Models I e H Fr w' := by
  obtain ⟨h0, hs, h1, h2, h3, h4, h5, h6⟩ := h
  exact ⟨h0.stay hy, hs, h1, h2, h3, h4, fun i k o hk => by rw [hw]; exact h5 i k o hk, fun k o hk => by rw [hw]; exact h6 k o hk⟩
def ext (e : Env) (n : Nat) (r : Ref) : Env := fun i => if i = n then some r else e i
theorem le_ext {e : Env} {n : Nat} {r : Ref} (h : e n = none) : Le e (ext e n r) := fun i r' hi => by
  unfold ext; split
  · rename_i hin; subst hin; rw [h] at hi; cases hi
  · exact ⟨r', hi, r'.le_refl⟩
theorem le_grow {e : Env} {n : Nat} {r0 r : Ref} (h : e n = some r0) (hl : r0.le r) : Le e (ext e n r) := fun i r' hi => by
  unfold ext; split
  · rename_i hin; subst hin; rw [h] at hi; cases hi; exact ⟨r, rfl, hl⟩
  · exact ⟨r', hi, r'.le_refl⟩
theorem ext_self (e : Env) (n : Nat) (r : Ref) : ext e n r n = some r := by simp [ext]
theorem ext_ne (e : Env) (n : Nat) (r : Ref) {i : Nat} (h : i ≠ n) : ext e n r i = e i := by simp [ext, h]
theorem Models.fresh {e : Env} {H : List (SB τ)} {Fr : PH} {w : World} (h : Models I e H Fr w) : e H.length = none := by
  obtain ⟨_, hs, _, h2, _⟩ := h; exact (h2 _ (Nat.le_refl _)).1
theorem lt_of_sub {h : PH} {w : World} (hs : Sub h w) {k : Nat} {o : Obj} (hk : h k = some o) : k < w.heap.size := by
  have := hs k o hk
  exact (Array.getElem?_eq_some_iff.1 this).1
structure Ext (w w' : World) : Prop where
  heap : ∀ (k : Nat) (o : Obj), w.heap[k]? = some o → w'.heap[k]? = some o
  stay : Stay w w'
theorem Ext.refl (w : World) : Ext w w := ⟨fun _ _ h => h, Stay.refl w⟩
theorem Ext.trans {a b c : World} (h : Ext a b) (h' : Ext b c) : Ext a c := ⟨fun k o x => h'.heap k o (h.heap k o x), h.stay.trans h'.stay⟩
theorem Ext.of_heap {w w' : World} (h : w'.heap = w.heap) (hy : Stay w w') : Ext w w' := ⟨fun k o x => by rw [h]; exact x, hy⟩
theorem Ext.alloc (w : World) (o : Obj) : Ext w (w.alloc o) := ⟨fun k o' h => by
  have := (Array.getElem?_eq_some_iff.1 h).1
  simp only [World.alloc]
  rw [Array.getElem?_push_lt this]
  rw [Array.getElem?_eq_getElem this] at h
  exact h, rfl, rfl⟩
theorem Models.add {e : Env} {H : List (SB τ)} {Fr : PH} {w w' : World} (h : Models I e H Fr w) {b : SB τ} {r : Ref} {hn : PH}
    (hb : ItemOk I (ext e H.length r) b (some r) hn) (hext : Ext w w')
    (hnew : Sub hn w') (hfresh : ∀ k, hn k ≠ none → w.heap.size ≤ k) : Models I (ext e H.length r) (H ++ [b]) Fr w' := by
  have hfr := h.fresh
  have hold := hext.heap
  obtain ⟨h0, hs, h1, h2, h3, h4, h5, h6⟩ := h
  have hdn : ∀ (x : PH), Sub x w → Disj x hn := fun x hx k => by
    cases hk : x k with
    | none => exact .inl rfl
    | some o =>
      right
      have := lt_of_sub hx hk
      cases hq : hn k with
      | none => rfl
      | some o' => have := hfresh k (by rw [hq]; simp); omega
  refine ⟨h0.stay hext.stay, fun i => if i = H.length then hn else hs i, ?_, ?_, ?_, ?_, ?_, fun k o hk => hold k o (h6 k o hk)⟩
  · intro i b' hi
    by_cases hl : i = H.length
    · subst hl
      simp at hi
      subst hi
      simp only [if_true, ext_self]
      exact hb
    · have hlt : i < H.length := by
        have := (List.getElem?_eq_some_iff.1 hi).1
        simp at this
        omega
      rw [List.getElem?_append_left hlt] at hi
      simp only [hl, if_false]
      rw [ext_ne _ _ _ hl]
      exact (h1 i b' hi).mono I (le_ext hfr)
  · intro i hi
    have hi' : H.length + 1 ≤ i := by simpa using hi
    have hl : i ≠ H.length := by omega
    simp only [hl, if_false]
    rw [ext_ne _ _ _ hl]
    exact h2 i (by omega)
  · intro i j hij
    by_cases hi : i = H.length
    · have hj : j ≠ H.length := by omega
      simp only [hi, hj, if_true, if_false]
      intro k; exact (hdn _ (h5 j) k).symm
    · by_cases hj : j = H.length
      · simp only [hi, hj, if_true, if_false]; exact hdn _ (h5 i)
      · simp only [hi, hj, if_false]; exact h3 i j hij
  · intro i
    by_cases hi : i = H.length
    · simp only [hi, if_true]; intro k; exact (hdn _ h6 k).symm
    · simp only [hi, if_false]; exact h4 i
  · intro i k o hk
    by_cases hi : i = H.length
    · simp only [hi, if_true] at hk; exact hnew k o hk
    · simp only [hi, if_false] at hk; exact hold k o (h5 i k o hk)
theorem Models.upd {e : Env} {H : List (SB τ)} {Fr : PH} {w w' : World} (i : Nat) {b b' : SB τ} (hi : H[i]? = some b)
    (h : Models I e H Fr w) (hy : Stay w w')
    (hb : ∀ hn, ItemOk I e b (e i) hn → Sub hn w → ∃ hn', ItemOk I e b' (e i) hn' ∧ Sub hn' w' ∧ (∀ k, hn' k ≠ none → hn k ≠ none ∨ w.heap.size ≤ k) ∧
      (∀ (k : Nat) (o : Obj), w.heap[k]? = some o → hn k = none → w'.heap[k]? = some o)) :
    Models I e (H.set i b') Fr w' := by
  obtain ⟨h0, hs, h1, h2, h3, h4, h5, h6⟩ := h
  obtain ⟨hn', g1, g2, g3, g4⟩ := hb (hs i) (h1 i b hi) (h5 i)
  have hlt : i < H.length := (List.getElem?_eq_some_iff.1 hi).1
  have hdn : ∀ (x : PH), Sub x w → Disj x (hs i) → Disj x hn' := fun x hx hd k => by
    cases hk : x k with
    | none => exact .inl rfl
    | some o =>
      right
      have hlt := lt_of_sub hx hk
      cases hq : hn' k with
      | none => rfl
      | some o' =>
        rcases g3 k (by rw [hq]; simp) with h' | h'
        · rcases hd k with h'' | h''
          · rw [hk] at h''; cases h''
          · exact absurd h'' h'
        · omega
  have hkeep : ∀ (x : PH), Sub x w → Disj x (hs i) → Sub x w' := fun x hx hd k o hk => by
    refine g4 k o (hx k o hk) ?_
    rcases hd k with h' | h'
    · rw [hk] at h'; cases h'
    · exact h'
  refine ⟨h0.stay hy, fun j => if j = i then hn' else hs j, ?_, ?_, ?_, ?_, ?_, hkeep _ h6 (fun k => (h4 i k).symm)⟩
  · intro j b'' hj
    by_cases hji : j = i
    · subst hji
      simp [hlt] at hj
      subst hj
      simpa using g1
    · rw [List.getElem?_set_ne (fun e => hji e.symm)] at hj
      simp only [hji, if_false]
      exact h1 j b'' hj
  · intro j hj
    have hj' : H.length ≤ j := by simpa using hj
    have hji : j ≠ i := by omega
    simp only [hji, if_false]
    exact h2 j hj'
  · intro j k hjk
    by_cases hj : j = i
    · have hk : k ≠ i := by omega
      simp only [hj, hk, if_true, if_false]
      intro m; exact (hdn _ (h5 k) (h3 k i hk) m).symm
    · by_cases hk : k = i
      · simp only [hj, hk, if_true, if_false]; exact hdn _ (h5 j) (h3 j i hj)
      · simp only [hj, hk, if_false]; exact h3 j k hjk
  · intro j
    by_cases hj : j = i
    · simp only [hj, if_true]; intro m; exact (hdn _ h6 (fun k => (h4 i k).symm) m).symm
    · simp only [hj, if_false]; exact h4 j
  · intro j
    by_cases hj : j = i
    · simp only [hj, if_true]; exact g2
    · simp only [hj, if_false]; exact hkeep _ (h5 j) (h3 j i hj)
theorem Models.turn0 {e e' : Env} {H H' : List (SB τ)} {Fr : PH} {w w' : World} (S : Nat → Prop) {hs hs' : Nat → PH} (h0 : Stat I Fr w) (h1 : ∀ i b, H[i]? = some b → ItemOk I e b (e i) (hs i)) (h2 : ∀ i, H.length ≤ i → e i = none ∧ hs i = emp)
    (h3 : ∀ i j, i ≠ j → Disj (hs i) (hs j)) (h4 : ∀ i, Disj (hs i) Fr) (h5 : ∀ i, Sub (hs i) w) (h6 : Sub Fr w) (hle : Le e e') (hy : Stay w w')
    (hH : ∀ i, ¬ S i → H'[i]? = H[i]? ∧ e' i = e i) (g1 : ∀ i, ¬ S i → hs' i = hs i) (g2 : ∀ i b, S i → H'[i]? = some b → ItemOk I e' b (e' i) (hs' i)) (g3 : ∀ i, S i → H'.length ≤ i → e' i = none ∧ hs' i = emp)
    (g4 : ∀ i j, S i → S j → i ≠ j → Disj (hs' i) (hs' j)) (g5 : ∀ i, S i → Sub (hs' i) w') (g6 : ∀ i k, S i → hs' i k ≠ none → (∃ j, S j ∧ hs j k ≠ none) ∨ w.heap.size ≤ k)
    (g7 : ∀ (k : Nat) (o : Obj), w.heap[k]? = some o → (∀ j, S j → hs j k = none) → w'.heap[k]? = some o) : Models I e' H' Fr w' := by
  -- what is disjoint from all of S is disjoint from what becomes of it, and stays
  have hdn : ∀ (x : PH), Sub x w → (∀ j, S j → Disj x (hs j)) → ∀ i, S i → Disj x (hs' i) := fun x hx hd i hi k => by
    cases hk : x k with
    | none => exact .inl rfl
    | some o =>
      right
      have hlt := lt_of_sub hx hk
      cases hq : hs' i k with
      | none => rfl
      | some o' =>
        rcases g6 i k hi (by rw [hq]; simp) with ⟨j, hj, h'⟩ | h'
        · rcases hd j hj k with h'' | h''
          · rw [hk] at h''; cases h''
          · exact absurd h'' h'
        · omega
  have hkeep : ∀ (x : PH), Sub x w → (∀ j, S j → Disj x (hs j)) → Sub x w' := fun x hx hd k o hk => by
    refine g7 k o (hx k o hk) fun j hj => ?_
    rcases hd j hj k with h' | h'
    · rw [hk] at h'; cases h'
    · exact h'
  refine ⟨h0.stay hy, hs', fun i b hi => ?_, fun i hi => ?_, fun i j hij => ?_, fun i => ?_, fun i => ?_, hkeep Fr h6 fun j _ k => (h4 j k).symm⟩
  · by_cases hS : S i
    · exact g2 i b hS hi
    · rw [(hH i hS).1] at hi
      rw [g1 i hS, (hH i hS).2]
      exact (h1 i b hi).mono I hle
  · by_cases hS : S i
    · exact g3 i hS hi
    · rw [g1 i hS, (hH i hS).2]
      refine h2 i (List.getElem?_eq_none_iff.1 ?_)
      rw [← (hH i hS).1]
      exact List.getElem?_eq_none_iff.2 hi
  · by_cases hi : S i
    · by_cases hj : S j
      · exact g4 i j hi hj hij
      · rw [g1 j hj]
        intro k
        exact (hdn _ (h5 j) (fun m hm => h3 j m (fun e => hj (e ▸ hm))) i hi k).symm
    · rw [g1 i hi]
      by_cases hj : S j
      · exact hdn _ (h5 i) (fun m hm => h3 i m (fun e => hi (e ▸ hm))) j hj
      · rw [g1 j hj]; exact h3 i j hij
  · by_cases hi : S i
    · intro k; exact (hdn Fr h6 (fun m _ k => (h4 m k).symm) i hi k).symm
    · rw [g1 i hi]; exact h4 i
  · by_cases hi : S i
    · exact g5 i hi
    · rw [g1 i hi]; exact hkeep _ (h5 i) fun m hm => h3 i m (fun e => hi (e ▸ hm))
theorem Models.item {e : Env} {H : List (SB τ)} {Fr : PH} {w : World} (h : Models I e H Fr w) {i : Nat} {b : SB τ} (hi : H[i]? = some b) :
    ∃ hn, ItemOk I e b (e i) hn ∧ Sub hn w := by
  obtain ⟨_, hs, h1, _, _, _, h5, _⟩ := h
  exact ⟨hs i, h1 i b hi, h5 i⟩
theorem Models.cells {e : Env} {H : List (SB τ)} {Fr : PH} {w : World} (h : Models I e H Fr w) {i : Nat} {l : List SV} {T : TypeId} (hi : H[i]? = some (.cells l T)) :
    ∃ n vs, e i = some (.blk n) ∧ DenL e l vs ∧ w.heap[n]? = some (.cells vs.toArray T (0, 0)) := by
  obtain ⟨hn, ⟨n, vs, h1, h2, rfl⟩, h5⟩ := h.item hi
  exact ⟨n, vs, h1, h2, h5 n _ (by simp [single])⟩
theorem Models.ints {e : Env} {H : List (SB τ)} {Fr : PH} {w : World} (h : Models I e H Fr w) {i : Nat} {k : IntKind} {xs : List Int} {m : Nat} {T : TypeId} (hi : H[i]? = some (.ints k xs m T)) :
    ∃ n, e i = some (.blk n) ∧ xs.length = m ∧ w.heap[n]? = some (.cells (xs.map (Value.int k)).toArray T (0, 0)) := by
  obtain ⟨hn, ⟨n, h1, h2, rfl⟩, h5⟩ := h.item hi
  exact ⟨n, h1, h2, h5 n _ (by simp [single])⟩
theorem Models.frame {e : Env} {H : List (SB τ)} {Fr : PH} {w : World} (h : Models I e H Fr w) : Sub Fr w := by
  obtain ⟨_, hs, _, _, _, _, _, h6⟩ := h; exact h6
theorem Models.gw {e : Env} {H : List (SB τ)} {Fr : PH} {w : World} (h : Models I e H Fr w) : Gw w := fun g l hg => by
  obtain ⟨T, fz, hr⟩ := I.gl g l hg
  exact ⟨T, fz, h.frame g _ (h.1.ro g _ hr)⟩
theorem Models.grow {e : Env} {H : List (SB τ)} {Fr : PH} {w w' : World} (h : Models I e H Fr w) (hw : Ext w w') : Models I e H Fr w' := by
  obtain ⟨h0, hs, h1, h2, h3, h4, h5, h6⟩ := h
  exact ⟨h0.stay hw.stay, hs, h1, h2, h3, h4, fun i k o hk => hw.heap k o (h5 i k o hk), fun k o hk => hw.heap k o (h6 k o hk)⟩
end Go.Sym
namespace Go.Sym
open Go
def ev (tm : List SV) : Operand → SV
  | .tmp t => tm.getD t (.v undef)
  | .const c => .v c
  | .global g => .v (.pointer (some ⟨g, 0, none⟩))
  | .func f => .v (.func (.func f) #[] #[])
theorem ev_ok {e : Env} {tm : List SV} {a : Act} (h : DenL e tm a.tmps.toList) (o : Operand) : Den e (ev tm o) (a.eval o) := by
  cases o with
  | tmp t =>
    simp only [ev, Act.eval, List.getD]
    cases hx : tm[t]? with
    | none =>
      have hl := h.length
      have : a.tmps.size ≤ t := by
        have := List.getElem?_eq_none_iff.1 hx
        simp at hl
        omega
      have h2 : a.tmps[t]? = none := by simp [this]
      simp [Den, h2]
    | some x =>
      obtain ⟨v, hv, hd⟩ := h.get hx
      have h2 : a.tmps[t]? = some v := by simpa using hv
      simpa [h2] using hd
  | const c => simp [ev, Act.eval, Den]
  | global g => simp [ev, Act.eval, Den]
  | func f => simp [ev, Act.eval, Den]
def plainL : List SV → Option (List Value)
  | [] => some []
  | .v x :: r => (plainL r).map (x :: ·)
  | _ => none
def plainV : SV → Option Value
  | .v x => some x
  | .a l => (plainL l).map fun vs => .agg vs.toArray
  | _ => none
theorem plainL_ok {e : Env} : ∀ {l : List SV} {vs us : List Value}, plainL l = some vs → DenL e l us → us = vs
  | [], _, _, h, hd => by simp only [plainL, Option.some.injEq] at h; simp only [DenL] at hd; rw [hd, ← h]
  | x :: r, vs, us, h, hd => by
    cases x with
    | v x =>
      simp only [plainL, Option.map_eq_some_iff] at h
      obtain ⟨vs', h1, rfl⟩ := h
      simp only [DenL] at hd
      obtain ⟨w, u, rfl, h2, h3⟩ := hd
      simp only [Den] at h2
      rw [h2, plainL_ok h1 h3]
    | _ => simp [plainL] at h
theorem plainV_ok {e : Env} {x : SV} {y v : Value} (h : plainV x = some y) (hd : Den e x v) : v = y := by
  cases x with
  | v x => simp only [plainV, Option.some.injEq] at h; simp only [Den] at hd; rw [hd, h]
  | a l =>
    simp only [plainV, Option.map_eq_some_iff] at h
    obtain ⟨vs, h1, rfl⟩ := h
    simp only [Den] at hd
    obtain ⟨us, h2, rfl⟩ := hd
    rw [plainL_ok h1 h2]
  | _ => simp [plainV] at h
def cellsV : SV → Option (List SV)
  | .any => none
  | .t _ => none
  | .v (.agg cs) => some (cs.toList.map .v)
  | .a l => some l
  | x => some [x]
theorem cellsV_ok {e : Env} {x : SV} {l : List SV} {v : Value} (h : cellsV x = some l) (hd : Den e x v) : DenL e l v.cells.toList := by
  cases x with
  | any => simp [cellsV] at h
  | t _ => simp [cellsV] at h
  | v x =>
    simp only [Den] at hd
    subst hd
    cases v <;> simp only [cellsV, Option.some.injEq] at h <;> subst h <;> first | exact DenL.plain _ | (simp [Value.cells, DenL, Den])
  | a l' =>
    simp only [cellsV, Option.some.injEq] at h
    subst h
    simp only [Den] at hd
    obtain ⟨vs, h2, rfl⟩ := hd
    simpa [Value.cells] using h2
  | p b o =>
    simp only [cellsV, Option.some.injEq] at h
    subst h
    have hd' := hd
    simp only [Den] at hd
    obtain ⟨n, h2, rfl⟩ := hd
    simp only [Value.cells, DenL]
    exact ⟨_, _, rfl, hd', rfl⟩
  | s b o len cap =>
    simp only [cellsV, Option.some.injEq] at h
    subst h
    have hd' := hd
    simp only [Den] at hd
    obtain ⟨n, h2, rfl⟩ := hd
    simp only [Value.cells, DenL]
    exact ⟨_, _, rfl, hd', rfl⟩
  | f fn cs =>
    simp only [cellsV, Option.some.injEq] at h
    subst h
    have hd' := hd
    simp only [Den] at hd
    obtain ⟨n, h2, rfl⟩ := hd
    simp only [Value.cells, DenL]
    exact ⟨_, _, rfl, hd', rfl⟩
  | y b =>
    simp only [cellsV, Option.some.injEq] at h
    subst h
    have hd' := hd
    simp only [Den] at hd
    obtain ⟨n, h2, rfl⟩ := hd
    simp only [Value.cells, DenL]
    exact ⟨_, _, rfl, hd', rfl⟩
  | h b q =>
    simp only [cellsV, Option.some.injEq] at h
    subst h
    have hd' := hd
    simp only [Den] at hd
    obtain ⟨g, _, _, h1⟩ := hd
    have hc : v.cells = #[v] := by cases v <;> simp_all [Value.cells, Value.oneCell']
    rw [hc]
    simp only [DenL]
    exact ⟨_, _, rfl, hd', rfl⟩
  | r b q =>
    simp only [cellsV, Option.some.injEq] at h
    subst h
    have hd' := hd
    simp only [Den] at hd
    obtain ⟨g, _, _, h1⟩ := hd
    have hc : v.cells = #[v] := by cases v <;> simp_all [Value.cells, Value.oneCell']
    rw [hc]
    simp only [DenL]
    exact ⟨_, _, rfl, hd', rfl⟩
def oneS : SV → Bool
  | .any => false
  | .a _ => false
  | .t _ => false
  | .v x => x.oneCell'
  | _ => true
theorem oneS_ok {e : Env} {x : SV} {v : Value} (h : oneS x = true) (hd : Den e x v) : v.oneCell' = true := by
  cases x with
  | v x => simp only [Den] at hd; subst hd; exact h
  | any => simp [oneS] at h
  | a _ => simp [oneS] at h
  | t _ => simp [oneS] at h
  | h b q => simp only [Den] at hd; obtain ⟨g, _, _, h1⟩ := hd; exact h1
  | r b q => simp only [Den] at hd; obtain ⟨g, _, _, h1⟩ := hd; exact h1
  | p b o => simp only [Den] at hd; obtain ⟨n, _, rfl⟩ := hd; rfl
  | s b o len cap => simp only [Den] at hd; obtain ⟨n, _, rfl⟩ := hd; rfl
  | f fn cs => simp only [Den] at hd; obtain ⟨n, _, rfl⟩ := hd; rfl
  | y b => simp only [Den] at hd; obtain ⟨n, _, rfl⟩ := hd; rfl
def aggT (P : Program) (T : TypeId) : Option Bool :=
  match P.underlying T with
  | some (.struct _) => some true
  | some (.array _ _) => some true
  | some _ => some false
  | none => none
def szT (P : Program) (T : TypeId) : Option Nat :=
  match P.info? T with
  | some i => some i.size
  | none => none
def zeroT (P : Program) (T : TypeId) : Option Value :=
  match P.info? T with
  | some i => i.zero
  | none => none
variable {P : Program} {w : World}
theorem run_und {T : TypeId} {d : TypeDesc} (h : P.underlying T = some d) : (underlying T).run P w = .ok d w := run_underlying h w
theorem run_szT {T : TypeId} {n : Nat} (h : szT P T = some n) : (sizeOf T).run P w = .ok n w := by
  unfold szT at h
  split at h
  · rename_i i hi
    simp only [Option.some.injEq] at h
    simp [sizeOf, typeInfo, hi, h]
  · simp at h
theorem run_zeroT {T : TypeId} {v : Value} (h : zeroT P T = some v) : (zeroValue T).run P w = .ok v w := by
  unfold zeroT at h
  split at h
  · rename_i i hi
    simp [zeroValue, typeInfo, hi, h]
  · simp at h
theorem run_aggT {T : TypeId} {b : Bool} (h : aggT P T = some b) : (isAgg T).run P w = .ok b w := by
  unfold aggT at h
  split at h <;> simp at h <;> subst h
  · rename_i d hd; simp [isAgg, run_und hd]
  · rename_i d e hd; simp [isAgg, run_und hd]
  · rename_i d h1 h2 hd
    simp only [isAgg, Sem.run_bind, run_und hd, Result.andThen_ok]
    cases d <;> first | rfl | exact absurd rfl (h1 _) | exact absurd rfl (h2 _ _)
variable {τ : Type} {I : Inv τ}
def loadC (P : Program) (T : TypeId) (o : Nat) (l : List SV) : Option SV :=
  match aggT P T, szT P T with
  | some true, some n => match Nat.ble (o + n) l.length with
    | true => some (.a ((l.drop o).take n))
    | false => none
  | some false, _ => l[o]?
  | _, _ => none
def loadS (P : Program) (T : TypeId) (x : SV) (H : List (SB τ)) : Option SV :=
  match x with
  | .p b o => match H[b]? with
    | some (.cells l _) => loadC P T o l
    | _ => none
  | _ => none
theorem add_none (n o k : Nat) : (⟨n, o, none⟩ : Addr).add k = ⟨n, o + k, none⟩ := by
  unfold Addr.add; split <;> simp_all
theorem cell_at {n o : Nat} {c : Array Value} {T : TypeId} {fz : Nat × Nat} (h : w.heap[n]? = some (.cells c T fz)) : w.cell? ⟨n, o, none⟩ = c[o]? := by
  simp [World.cell?, h]
theorem loadC_okF {e : Env} {T : TypeId} {o n : Nat} {l : List SV} {x : SV} {vs : List Value} {T' : TypeId} {fz : Nat × Nat} (h : loadC P T o l = some x) (hd : DenL e l vs)
    (hw : w.heap[n]? = some (.cells vs.toArray T' fz)) : ∃ v, (loadVar T ⟨n, o, none⟩).run P w = .ok v w ∧ Den e x v := by
  unfold loadC at h
  split at h
  · rename_i k ha hs
    split at h
    · rename_i hb
      simp only [Option.some.injEq] at h
      subst h
      have hle : o + k ≤ l.length := by simpa using hb
      have hlv : o + k ≤ vs.length := by rw [← hd.length]; exact hle
      refine ⟨.agg ((vs.drop o).take k).toArray, ?_, ?_⟩
      · have hl := run_loadCells_list (P := P) w ⟨n, o, none⟩ ((vs.drop o).take k) (fun j v hj => by
          rw [add_none, cell_at hw]
          have hj2 : j < k := by
            have := (List.getElem?_eq_some_iff.1 hj).1
            simp at this
            omega
          rw [List.getElem?_take_of_lt hj2, List.getElem?_drop] at hj
          simpa using hj)
        have hlen : ((vs.drop o).take k).length = k := by simp; omega
        rw [hlen] at hl
        simp only [loadVar, Sem.run_bind, run_aggT ha, Result.andThen_ok, if_true, run_szT hs, hl, Sem.run_pure]
      · simp only [Den]
        exact ⟨_, (hd.drop o).take k, rfl⟩
    · simp at h
  · rename_i ha
    obtain ⟨v, hv, hdv⟩ := hd.get h
    refine ⟨v, ?_, hdv⟩
    have hc : w.cell? ⟨n, o, none⟩ = some v := by rw [cell_at hw]; simpa using hv
    simp only [loadVar, Sem.run_bind, run_aggT ha, Result.andThen_ok, Bool.false_eq_true, if_false, run_load, hc]
  · simp at h
theorem loadC_ok {e : Env} {T : TypeId} {o n : Nat} {l : List SV} {x : SV} {vs : List Value} {T' : TypeId} (h : loadC P T o l = some x) (hd : DenL e l vs)
    (hw : w.heap[n]? = some (.cells vs.toArray T' (0, 0))) : ∃ v, (loadVar T ⟨n, o, none⟩).run P w = .ok v w ∧ Den e x v := loadC_okF h hd hw
theorem loadS_ok {e : Env} {H : List (SB τ)} {Fr : PH} {T : TypeId} {x y : SV} {v : Value} (hM : Models I e H Fr w) (h : loadS P T x H = some y) (hd : Den e x v) :
    ∃ u, (Instr.loadAt T v).run P w = .ok u w ∧ Den e y u := by
  unfold loadS at h
  split at h
  · rename_i b o
    split at h
    · rename_i l T' hb
      obtain ⟨n, vs, h1, h2, h3⟩ := hM.cells hb
      simp only [Den] at hd
      obtain ⟨n', h4, rfl⟩ := hd
      rw [h1] at h4
      cases h4
      obtain ⟨u, hu, hdu⟩ := loadC_ok (P := P) h h2 h3
      refine ⟨u, ?_, hdu⟩
      simp only [Instr.loadAt, Instr.sureAddr, Sem.run_bind, Sem.run_pure, Result.andThen_ok, hu]
    · simp at h
  · simp at h
def bitsK (op : BinOp) (k : IntKind) (x y : Int) : Int :=
  let a := BitVec.ofInt k.bits x
  let b := BitVec.ofInt k.bits y
  match op with
  | .and => k.wrap (a &&& b).toNat
  | .or => k.wrap (a ||| b).toNat
  | .xor => k.wrap (a ^^^ b).toNat
  | _ => k.wrap (a &&& ~~~b).toNat
def arith (op : BinOp) (k : IntKind) (x : Int) (k' : IntKind) (y : Int) : Option (Bool × Value) :=
  match op with
  | .shl => some (decide (0 ≤ y), .int k (k.wrap (x * 2 ^ (min y.toNat k.bits))))
  | .shr => some (decide (0 ≤ y), .int k (x.fdiv (2 ^ (min y.toNat k.bits))))
  | op => if k = k' then
      match op with
      | .add => some (true, .int k (k.wrap (x + y)))
      | .sub => some (true, .int k (k.wrap (x - y)))
      | .mul => some (true, .int k (k.wrap (x * y)))
      | .quo => some (decide (y ≠ 0), .int k (k.wrap (x.tdiv y)))
      | .rem => some (decide (y ≠ 0), .int k (x.tmod y))
      | .and => some (true, .int k (bitsK .and k x y))
      | .or => some (true, .int k (bitsK .or k x y))
      | .xor => some (true, .int k (bitsK .xor k x y))
      | .andNot => some (true, .int k (bitsK .andNot k x y))
      | .eql => some (true, .bool (x == y))
      | .neq => some (true, .bool (x != y))
      | .lss => some (true, .bool (decide (x < y)))
      | .leq => some (true, .bool (decide (x ≤ y)))
      | .gtr => some (true, .bool (decide (x > y)))
      | .geq => some (true, .bool (decide (x ≥ y)))
      | _ => none
    else none
theorem arith_ok {op : BinOp} {T : TypeId} {k k' : IntKind} {x y : Int} {c : Bool} {v : Value} {ox oy : Operand} (h : arith op k x k' y = some (c, v)) (hc : c = true) :
    (do eqGuard op T ox oy (.int k x) (.int k' y); binOp op T (.int k x) (.int k' y) : Sem Value).run P w = .ok v w := by
  subst hc
  have hg : eqGuard op T ox oy (.int k x) (.int k' y) = pure () := by cases op <;> rfl
  rw [hg]
  simp only [Sem.run_bind, Sem.run_pure, Result.andThen_ok]
  unfold arith at h
  split at h
  · simp only [Option.some.injEq, Prod.mk.injEq, decide_eq_true_eq] at h
    obtain ⟨h1, rfl⟩ := h
    have : ¬ y < 0 := by omega
    simp [binOp, Op.shift, this]
  · simp only [Option.some.injEq, Prod.mk.injEq, decide_eq_true_eq] at h
    obtain ⟨h1, rfl⟩ := h
    have : ¬ y < 0 := by omega
    simp [binOp, Op.shift, this]
  · rename_i op h1 h2
    split at h
    · rename_i hk
      subst hk
      split at h <;> simp at h <;> (try obtain ⟨hy, rfl⟩ := h) <;> (try subst h) <;>
        simp [binOp, Op.intArith, Op.intDiv, Op.intBits, Op.intCmp, bitsK, *]
    · simp at h
def cmpStr (op : BinOp) (x y : ByteArray) : Option (Bool × Value) :=
  match op with
  | .add => some (Nat.ble (x.size + y.size) 9223372036854775807, .string (x ++ y))
  | .eql => some (true, .bool (x.toList == y.toList))
  | .neq => some (true, .bool !(x.toList == y.toList))
  | .lss => some (true, .bool (Op.bytesLess x.toList y.toList))
  | .leq => some (true, .bool (Op.bytesLess x.toList y.toList || x.toList == y.toList))
  | .gtr => some (true, .bool !(Op.bytesLess x.toList y.toList || x.toList == y.toList))
  | .geq => some (true, .bool !(Op.bytesLess x.toList y.toList))
  | _ => none
theorem cmpStr_ok {op : BinOp} {T : TypeId} {x y : ByteArray} {c : Bool} {v : Value} {ox oy : Operand} (h : cmpStr op x y = some (c, v)) (hc : c = true) :
    (do eqGuard op T ox oy (.string x) (.string y); binOp op T (.string x) (.string y) : Sem Value).run P w = .ok v w := by
  subst hc
  have hg : eqGuard op T ox oy (.string x) (.string y) = pure () := by cases op <;> rfl
  rw [hg]
  simp only [Sem.run_bind, Sem.run_pure, Result.andThen_ok]
  unfold cmpStr at h
  split at h <;> simp at h
  · obtain ⟨h1, rfl⟩ := h
    have : ¬ (9223372036854775807 < (x.size : Int) + (y.size : Int)) := by omega
    simp [binOp, Op.stringOp, this]
  all_goals (subst h; simp [binOp, Op.stringOp])
def partV (P : Program) (t : TypeId) (cs : Array Value) (off : Nat) : Option Value :=
  match aggT P t, szT P t with
  | some true, some n => some (.agg (cs.extract off (off + n)))
  | some false, _ => cs[off]?
  | _, _ => none
theorem partV_ok {t : TypeId} {cs : Array Value} {off : Nat} {v : Value} (h : partV P t cs off = some v) : (part t cs off).run P w = .ok v w := by
  unfold partV at h
  split at h
  · rename_i n ha hs
    simp only [Option.some.injEq] at h
    simp [part, run_aggT ha, run_szT hs, h]
  · rename_i ha
    simp [part, run_aggT ha, h]
  · simp at h
def eqF (P : Program) (eqd : TypeId → Value → Value → Option Bool) (xs ys : Array Value) : List Field → Option Bool
  | [] => some true
  | f :: fs =>
    if f.name = "_" then none else
    match partV P f.type xs f.offset, partV P f.type ys f.offset with
    | some a, some b =>
      match eqd f.type a b, eqF P eqd xs ys fs with
      | some r, some r' => some (r && r')
      | _, _ => none
    | _, _ => none
def eqD (P : Program) : Nat → TypeId → Value → Value → Option Bool
  | 0, _, _, _ => none
  | d + 1, t, x, y =>
    match P.underlying t, x, y with
    | some .bool, .bool a, .bool b => some (a == b)
    | some (.int _), .int k a, .int k' b => if k = k' then some (a == b) else none
    | some .string, .string a, .string b => some (a.toList == b.toList)
    | some (.struct fs), .agg xs, .agg ys => if P.stoodInHeld t then none else eqF P (eqD P d) xs ys fs.toList
    | _, _, _ => none
theorem eqF_ok {d : Nat} {eqd : TypeId → Value → Value → Option Bool} (hd : ∀ t x y r, eqd t x y = some r → (Op.equalIn d t x y).run P w = .ok r w) {xs ys : Array Value} :
    ∀ {fs : List Field} {r : Bool}, eqF P eqd xs ys fs = some r → (Op.eqFields d xs ys fs).run P w = .ok r w
  | [], r, h => by simp only [eqF, Option.some.injEq] at h; simp [Op.eqFields, h]
  | f :: fs, r, h => by
    unfold eqF at h
    split at h
    · simp at h
    · rename_i hn
      split at h
      · rename_i a b ha hb
        split at h
        · rename_i r1 r2 h1 h2
          simp only [Option.some.injEq] at h
          subst h
          have ih := eqF_ok hd h2
          simp only [Op.eqFields, ne_eq, hn, not_false_eq_true, if_true, Sem.run_bind, partV_ok ha, partV_ok hb, Result.andThen_ok, hd _ _ _ _ h1, Sem.run_ite]
          cases r1 <;> simp [ih]
        · simp at h
      · simp at h
theorem eqD_ok : ∀ {d d' : Nat} {t : TypeId} {x y : Value} {r : Bool}, d ≤ d' → eqD P d t x y = some r → (Op.equalIn d' t x y).run P w = .ok r w
  | 0, _, _, _, _, _, _, h => by simp [eqD] at h
  | d + 1, 0, _, _, _, _, hl, h => by omega
  | d + 1, d' + 1, t, x, y, r, hl, h => by
    unfold eqD at h
    split at h
    · rename_i hu; simp only [Option.some.injEq] at h; simp [Op.equalIn, run_und hu, h]
    · rename_i hu
      split at h
      · rename_i hk; subst hk; simp only [Option.some.injEq] at h; simp [Op.equalIn, run_und hu, h]
      · simp at h
    · rename_i hu; simp only [Option.some.injEq] at h; simp [Op.equalIn, run_und hu, beq_toListBytes, h]
    · rename_i fs xs ys hu
      split at h
      · simp at h
      · rename_i hs
        have hf : P.fieldsOf t = fs := by simp [Program.fieldsOf, hu]
        rw [run_equalIn_struct w d' t xs ys (by rw [hf]; exact hu) (by simpa using hs), hf]
        exact eqF_ok (fun t x y r hr => eqD_ok (by omega) hr) h
    · simp at h
end Go.Sym
namespace Go.Sym
open Go
variable {P : Program} {w : World} {τ : Type} {I : Inv τ}
theorem partS_ok {e : Env} {T : TypeId} {o : Nat} {l : List SV} {x : SV} {vs : List Value} (h : loadC P T o l = some x) (hd : DenL e l vs) :
    ∃ v, (part T vs.toArray o).run P w = .ok v w ∧ Den e x v := by
  unfold loadC at h
  split at h
  · rename_i k ha hs
    split at h
    · simp only [Option.some.injEq] at h
      subst h
      refine ⟨.agg ((vs.drop o).take k).toArray, ?_, ?_⟩
      · simp [part, run_aggT ha, run_szT hs]
      · simp only [Den]; exact ⟨_, (hd.drop o).take k, rfl⟩
    · simp at h
  · rename_i ha
    obtain ⟨v, hv, hdv⟩ := hd.get h
    exact ⟨v, by simp [part, run_aggT ha, hv], hdv⟩
  · simp at h
def nilEq (P : Program) (T : TypeId) (x y : SV) : Option Bool :=
  match P.underlying T, x, y with
  | some (.pointer _), .p _ _, .v (.pointer none) => some false
  | some (.pointer _), .v (.pointer none), .p _ _ => some false
  | some (.pointer _), .v (.pointer none), .v (.pointer none) => some true
  | some (.slice _), .s _ _ _ _, .v (.slice none _ _) => some false
  | some (.slice _), .v (.slice none _ _), .s _ _ _ _ => some false
  | some (.slice _), .v (.slice none _ _), .v (.slice none _ _) => some true
  | some (.func _ _ _), .f _ _, .v .nilFunc => some false
  | some (.func _ _ _), .v .nilFunc, .f _ _ => some false
  | some (.func _ _ _), .v .nilFunc, .v .nilFunc => some true
  | _, _, _ => none
theorem run_eq_of {T : TypeId} {u v : Value} {r : Bool} (h : (Op.equalIn 10000 T u v).run P w = .ok r w)
    (h1 : binOp .eql T u v = do pure (.bool (← Op.equal T u v))) (h2 : binOp .neq T u v = do pure (.bool (!(← Op.equal T u v)))) {ox oy : Operand}
    (g1 : (eqGuard .eql T ox oy u v).run P w = .ok () w) (g2 : (eqGuard .neq T ox oy u v).run P w = .ok () w) :
    (do eqGuard .eql T ox oy u v; binOp .eql T u v : Sem Value).run P w = .ok (.bool r) w ∧
    (do eqGuard .neq T ox oy u v; binOp .neq T u v : Sem Value).run P w = .ok (.bool !r) w := by
  have h' : (Op.equal T u v).run P w = .ok r w := h
  rw [h1, h2]
  simp [h', g1, g2]
theorem nilEq_ok {e : Env} {T : TypeId} {x y : SV} {u v : Value} {r : Bool} {ox oy : Operand} (h : nilEq P T x y = some r) (hx : Den e x u) (hy : Den e y v) :
    (do eqGuard .eql T ox oy u v; binOp .eql T u v : Sem Value).run P w = .ok (.bool r) w ∧
    (do eqGuard .neq T ox oy u v; binOp .neq T u v : Sem Value).run P w = .ok (.bool !r) w := by
  unfold nilEq at h
  split at h <;> simp at h <;> subst h <;> simp only [Den] at hx hy <;> rename_i hu <;>
    (try obtain ⟨_, _, rfl⟩ := hx) <;> (try obtain ⟨_, _, rfl⟩ := hy) <;> (try subst hx) <;> (try subst hy) <;>
    refine run_eq_of ?_ rfl rfl rfl rfl <;> generalize hd : 10000 = d <;> (obtain ⟨d, rfl⟩ : ∃ k, d = k + 1 := ⟨9999, hd.symm⟩) <;> clear hd <;> simp [Op.equalIn, run_und hu]
def ptrSame (P : Program) (T : TypeId) (x y : SV) : Bool :=
  match P.underlying T with
  | some (.pointer te) => match x with
    | .p b o => match y with
      | .p b' o' => Nat.beq b b' && (Nat.beq o o' && (P.info? te).isSome)
      | _ => false
    | _ => false
  | _ => false
theorem ptrSame_ok {e : Env} {T : TypeId} {x y : SV} {u v : Value} {ox oy : Operand} (h : ptrSame P T x y = true) (hx : Den e x u) (hy : Den e y v) :
    (do eqGuard .eql T ox oy u v; binOp .eql T u v : Sem Value).run P w = .ok (.bool true) w ∧
    (do eqGuard .neq T ox oy u v; binOp .neq T u v : Sem Value).run P w = .ok (.bool !true) w := by
  unfold ptrSame at h
  split at h
  · rename_i te hT
    split at h
    · rename_i b o
      split at h
      · rename_i b' o'
        simp only [Bool.and_eq_true, Nat.beq_eq, Option.isSome_iff_exists] at h
        obtain ⟨rfl, rfl, j, hj⟩ := h
        simp only [Den] at hx hy
        obtain ⟨n, h1, rfl⟩ := hx
        obtain ⟨m, h2, rfl⟩ := hy
        rw [h1] at h2; cases h2
        refine run_eq_of ?_ rfl rfl rfl rfl
        generalize hd : 10000 = d
        obtain ⟨d, rfl⟩ : ∃ k, d = k + 1 := ⟨9999, hd.symm⟩
        simp [Op.equalIn, run_und hT, sizeOf, typeInfo, hj, run_sameAddr_same]
      · cases h
    · cases h
  · cases h
def eqS (P : Program) (T : TypeId) (x y : SV) : Option Bool :=
  match nilEq P T x y with
  | some r => some r
  | none => match ptrSame P T x y with
   | true => some true
   | false => match plainV x, plainV y with
    | some (.agg xs), some (.agg ys) => match P.eqGuardType P.depth T with
      | false => eqD P 30 T (.agg xs) (.agg ys)
      | true => none
    | some (.bool a), some (.bool b) => eqD P 30 T (.bool a) (.bool b)
    | _, _ => none
theorem eqS_ok {e : Env} {T : TypeId} {x y : SV} {u v : Value} {r : Bool} {ox oy : Operand} (h : eqS P T x y = some r) (hx : Den e x u) (hy : Den e y v) :
    (do eqGuard .eql T ox oy u v; binOp .eql T u v : Sem Value).run P w = .ok (.bool r) w ∧
    (do eqGuard .neq T ox oy u v; binOp .neq T u v : Sem Value).run P w = .ok (.bool !r) w := by
  unfold eqS at h
  split at h
  · rename_i r' hn
    simp only [Option.some.injEq] at h
    subst h
    exact nilEq_ok hn hx hy
  · split at h
    · rename_i hp
      simp only [Option.some.injEq] at h
      subst h
      exact ptrSame_ok hp hx hy
    split at h
    · rename_i xs ys h1 h2
      split at h
      · rename_i hg
        have e1 := plainV_ok h1 hx
        have e2 := plainV_ok h2 hy
        subst e1; subst e2
        have := eqD_ok (w := w) (d := 30) (d' := 10000) (by omega) h
        exact run_eq_of this rfl rfl (by simp [eqGuard, hg]) (by simp [eqGuard, hg])
      · simp at h
    · rename_i a b h1 h2
      have e1 := plainV_ok h1 hx
      have e2 := plainV_ok h2 hy
      subst e1; subst e2
      have := eqD_ok (w := w) (d := 30) (d' := 10000) (by omega) h
      exact run_eq_of this rfl rfl rfl rfl
    · simp at h
def binS (P : Program) (op : BinOp) (T : TypeId) (x y : SV) : Option (Bool × SV) :=
  match x, y with
  | .v (.int k a), .v (.int k' b) => (arith op k a k' b).map fun r => (r.1, .v r.2)
  | .v (.string a), .v (.string b) => (cmpStr op a b).map fun r => (r.1, .v r.2)
  | x, y => match op with
    | .eql => (eqS P T x y).map fun r => (true, .v (.bool r))
    | .neq => (eqS P T x y).map fun r => (true, .v (.bool !r))
    | _ => none
theorem binS_ok {e : Env} {op : BinOp} {T : TypeId} {x y z : SV} {c : Bool} {u v : Value} {ox oy : Operand} (h : binS P op T x y = some (c, z)) (hc : c = true) (hx : Den e x u) (hy : Den e y v) :
    ∃ r, (do eqGuard op T ox oy u v; binOp op T u v : Sem Value).run P w = .ok r w ∧ Den e z r := by
  unfold binS at h
  split at h
  · simp only [Option.map_eq_some_iff, Prod.mk.injEq] at h
    obtain ⟨r, h1, h2, rfl⟩ := h
    simp only [Den] at hx hy
    subst hx; subst hy
    exact ⟨r.2, arith_ok (c := r.1) h1 (by rw [h2, hc]), by simp [Den]⟩
  · simp only [Option.map_eq_some_iff, Prod.mk.injEq] at h
    obtain ⟨r, h1, h2, rfl⟩ := h
    simp only [Den] at hx hy
    subst hx; subst hy
    exact ⟨r.2, cmpStr_ok (c := r.1) h1 (by rw [h2, hc]), by simp [Den]⟩
  · split at h
    · simp only [Option.map_eq_some_iff, Prod.mk.injEq] at h
      obtain ⟨r, h1, _, rfl⟩ := h
      exact ⟨_, (eqS_ok h1 hx hy).1, by simp [Den]⟩
    · simp only [Option.map_eq_some_iff, Prod.mk.injEq] at h
      obtain ⟨r, h1, _, rfl⟩ := h
      exact ⟨_, (eqS_ok h1 hx hy).2, by simp [Den]⟩
    · simp at h
def setAll {α : Type} (l : List α) (o : Nat) : List α → List α
  | [] => l
  | x :: r => setAll (l.set o x) (o + 1) r
theorem setAll_den {e : Env} : ∀ {ls : List SV} {vs : List Value} {l : List SV} {us : List Value} {o : Nat}, DenL e ls vs → DenL e l us → DenL e (setAll l o ls) (setAll us o vs)
  | [], vs, l, us, o, h, hd => by simp only [DenL] at h; subst h; exact hd
  | x :: r, _, l, us, o, h, hd => by
    simp only [DenL] at h
    obtain ⟨v, r', rfl, h2, h3⟩ := h
    simp only [setAll]
    exact setAll_den h3 (hd.set h2)
theorem foldl_setAll (off : Nat) : ∀ (l : List Value) (k : Nat) (arr : Array Value),
    ((l.zipIdx k).foldl (fun cs p => cs.setIfInBounds (off + p.2) p.1) arr).toList = setAll arr.toList (off + k) l
  | [], _, _ => rfl
  | x :: r, k, arr => by
    simp only [List.zipIdx_cons, List.foldl_cons, setAll]
    rw [foldl_setAll off r (k + 1)]
    simp [Nat.add_assoc]
def fillS (place : Nat → Option (Nat × Nat)) : List SV → List (Nat × SV) → Option (List SV)
  | cells, [] => some cells
  | cells, (i, x) :: rest =>
    match place i, cellsV x with
    | some (off, size), some l => match l.length == size && Nat.ble (off + size) cells.length with
      | true => fillS place (setAll cells off l) rest
      | false => none
    | _, _ => none
theorem fillS_ok {e : Env} {place : Nat → Option (Nat × Nat)} : ∀ {parts : List (Nat × SV)} {cells r : List SV} {cs : Array Value} {ps : List (Nat × Value)},
    fillS place cells parts = some r → DenL e cells cs.toList → (ps.map (·.1) = parts.map (·.1)) → DenL e (parts.map (·.2)) (ps.map (·.2)) →
    ∃ rs, Instr.fill place cs ps = some rs ∧ DenL e r rs.toList
  | [], cells, r, cs, ps, h, hd, h1, h2 => by
    simp at h1; subst h1
    simp only [fillS, Option.some.injEq] at h
    subst h
    exact ⟨cs, rfl, hd⟩
  | (i, x) :: parts, cells, r, cs, ps, h, hd, h1, h2 => by
    obtain ⟨p, ps', rfl⟩ : ∃ p ps', ps = p :: ps' := by cases ps with
      | nil => simp at h1
      | cons p ps' => exact ⟨p, ps', rfl⟩
    obtain ⟨i', v⟩ := p
    simp only [List.map_cons, List.cons.injEq] at h1
    obtain ⟨rfl, h1⟩ := h1
    simp only [List.map_cons, DenL, List.cons.injEq] at h2
    obtain ⟨v', r', ⟨rfl, rfl⟩, h3, h4⟩ := h2
    unfold fillS at h
    split at h
    · rename_i off size l hp hc
      split at h
      · rename_i hb
        simp only [Bool.and_eq_true, beq_iff_eq, Nat.ble_eq] at hb
        have hcl := cellsV_ok hc h3
        have hsz : v.cells.size = size := by have := hcl.length; simp at this; omega
        have hcs : cells.length = cs.size := by have := hd.length; simpa using this
        have hno : (v.cells.size ≠ size || off + v.cells.size > cs.size) = false := by
          simp [hsz]; omega
        simp only [Instr.fill, hp, hno, Bool.false_eq_true, if_false]
        refine fillS_ok h ?_ h1 h4
        have := foldl_setAll off v.cells.toList 0 cs
        rw [← Array.foldl_toList]
        simp only [Array.toList_zipIdx]
        rw [this]
        simpa using setAll_den hcl hd
      · simp at h
    · simp at h
def placesS (P : Program) : List Field → Option (List (Nat × Nat))
  | [] => some []
  | f :: r => match szT P f.type, placesS P r with
    | some n, some l => some ((f.offset, n) :: l)
    | _, _ => none
theorem placesS_ok : ∀ {fs : List Field} {l : List (Nat × Nat)}, placesS P fs = some l →
    (fs.mapM fun f => do pure (f.offset, ← sizeOf f.type) : Sem (List (Nat × Nat))).run P w = .ok l w
  | [], l, h => by simp only [placesS, Option.some.injEq] at h; simp [← h]
  | f :: fs, l, h => by
    unfold placesS at h
    split at h
    · rename_i n l' h1 h2
      simp only [Option.some.injEq] at h
      subst h
      simp only [List.mapM_cons, Sem.run_bind, run_szT h1, placesS_ok h2, Result.andThen_ok, Sem.run_pure]
    · simp at h
def buildS (P : Program) (T : TypeId) (parts : List (Nat × SV)) : Option SV :=
  match zeroT P T, P.underlying T with
  | some z, some (.struct fields) => match placesS P fields.toList with
    | some pl => (fillS (pl[·]?) (z.cells.toList.map .v) parts).map .a
    | none => none
  | some z, some (.array _ elem) => match szT P elem with
    | some n => (fillS (fun i => some (i * n, n)) (z.cells.toList.map .v) parts).map .a
    | none => none
  | _, _ => none
theorem buildS_ok {e : Env} {T : TypeId} {parts : List (Nat × SV)} {ps : Array (Nat × Value)} {x : SV} (h : buildS P T parts = some x)
    (h1 : ps.toList.map (·.1) = parts.map (·.1)) (h2 : DenL e (parts.map (·.2)) (ps.toList.map (·.2))) :
    ∃ v, (Instr.build T ps).run P w = .ok v w ∧ Den e x v := by
  unfold buildS at h
  split at h
  · rename_i z fields hz hu
    split at h
    · rename_i pl hpl
      simp only [Option.map_eq_some_iff] at h
      obtain ⟨r, hf, rfl⟩ := h
      obtain ⟨rs, hr, hdr⟩ := fillS_ok (e := e) (cs := z.cells) (ps := ps.toList) hf (DenL.plain _) h1 h2
      have hpl' := placesS_ok (w := w) hpl
      have hm : (fields.mapM fun f => do pure (f.offset, ← sizeOf f.type) : Sem (Array (Nat × Nat))).run P w = .ok pl.toArray w := by
        rw [Array.mapM_eq_mapM_toList]; simp only [Sem.run_map, hpl', Result.andThen_ok]
      refine ⟨.agg rs, ?_, ?_⟩
      · simp only [Instr.build, Sem.run_bind, run_zeroT hz, Result.andThen_ok, run_und hu, hm]
        simp [hr]
      · simp only [Den]; exact ⟨rs.toList, hdr, rfl⟩
    · simp at h
  · rename_i z len elem hz hu
    split at h
    · rename_i n hn
      simp only [Option.map_eq_some_iff] at h
      obtain ⟨r, hf, rfl⟩ := h
      obtain ⟨rs, hr, hdr⟩ := fillS_ok (e := e) (cs := z.cells) (ps := ps.toList) hf (DenL.plain _) h1 h2
      refine ⟨.agg rs, ?_, ?_⟩
      · simp only [Instr.build, Sem.run_bind, run_zeroT hz, Result.andThen_ok, run_und hu, run_szT hn, hr, Sem.run_pure]
      · simp only [Den]; exact ⟨rs.toList, hdr, rfl⟩
    · simp at h
  · simp at h
def minI : List SV → Option SV
  | [.v (.int k x), .v (.int _ y)] => some (.v (.int k (if y < x then y else x)))
  | _ => none
def maxI : List SV → Option SV
  | [.v (.int k x), .v (.int _ y)] => some (.v (.int k (if y > x then y else x)))
  | _ => none
def lenS (P : Program) (T : TypeId) : List SV → Option SV
  | [x] => match P.underlying T, x with
    | some .string, .v (.string s) => some (.v (.int .i64 s.size))
    | some (.array n _), _ => some (.v (.int .i64 n))
    | some (.pointer arr), _ => match P.underlying arr with
      | some (.array n _) => some (.v (.int .i64 n))
      | _ => none
    | some (.slice _), .s _ _ len _ => some (.v (.int .i64 len))
    | some (.slice _), .v (.slice _ n _) => some (.v (.int .i64 n))
    | _, _ => none
  | _ => none
theorem lenS_ok {e : Env} {T ty : TypeId} {ats : List TypeId} {xs : List SV} {vs : List Value} {x : SV} (h : lenS P T xs = some x) (hd : DenL e xs vs) :
    ∃ v, (Builtin.len_ (T :: ats).toArray ty vs.toArray).run P w = .ok v w ∧ Den e x v := by
  unfold lenS at h
  split at h
  · rename_i y
    simp only [DenL] at hd
    obtain ⟨u, r, rfl, hy, rfl⟩ := hd
    split at h
    · rename_i s hu; simp only [Option.some.injEq] at h; subst h; simp only [Den] at hy; subst hy
      exact ⟨.int .i64 s.size, by simp [Builtin.len_, run_und hu, goInt], by simp [Den]⟩
    · rename_i n el hu; simp only [Option.some.injEq] at h; subst h
      exact ⟨.int .i64 n, by simp [Builtin.len_, run_und hu, goInt], by simp [Den]⟩
    · rename_i arr hu
      split at h
      · rename_i n el hu2
        simp only [Option.some.injEq] at h; subst h
        exact ⟨.int .i64 n, by simp [Builtin.len_, run_und hu, run_und hu2, goInt], by simp [Den]⟩
      · simp at h
    · rename_i el b o len cap hu; simp only [Option.some.injEq] at h; subst h; simp only [Den] at hy; obtain ⟨m, _, rfl⟩ := hy
      exact ⟨.int .i64 len, by simp [Builtin.len_, run_und hu, goInt], by simp [Den]⟩
    · rename_i el a n c hu; simp only [Option.some.injEq] at h; subst h; simp only [Den] at hy; subst hy
      exact ⟨.int .i64 n, by simp [Builtin.len_, run_und hu, goInt], by simp [Den]⟩
    · simp at h
  · simp at h
def convS (P : Program) (src dst : TypeId) (x : SV) : Option SV :=
  match P.underlying src, P.underlying dst, x with
  | some _, some (.int k), .v (.int _ n) => some (.v (.int k (k.wrap n)))
  | some _, some .string, .v (.string s) => some (.v (.string s))
  | some _, some .string, .v (.int _ n) => some (.v (.string (Utf8.encode n)))
  | _, _, _ => none
theorem convS_ok {e : Env} {src dst : TypeId} {x y : SV} {v : Value} (h : convS P src dst x = some y) (hd : Den e x v) :
    ∃ u, (convert src dst v).run P w = .ok u w ∧ Den e y u := by
  unfold convS at h
  split at h
  · rename_i d k j n h1 h2
    simp only [Option.some.injEq] at h; subst h; simp only [Den] at hd; subst hd
    exact ⟨_, by simp [convert, run_und h1, run_und h2, Conv.intToInt]; rfl, by simp [Den]⟩
  · rename_i d s h1 h2
    simp only [Option.some.injEq] at h; subst h; simp only [Den] at hd; subst hd
    exact ⟨.string s, by cases d <;> simp [convert, run_und h1, run_und h2], by simp [Den]⟩
  · rename_i d j n h1 h2
    simp only [Option.some.injEq] at h; subst h; simp only [Den] at hd; subst hd
    exact ⟨_, by simp [convert, run_und h1, run_und h2, Conv.intToString]; rfl, by simp [Den]⟩
  · simp at h
def unS (op : UnOp) (x : SV) : Option SV :=
  match op, x with
  | .not, .v (.bool b) => some (.v (.bool !b))
  | .neg, .v (.int k n) => some (.v (.int k (k.wrap (0 - n))))
  | _, _ => none
theorem unS_ok {e : Env} {op : UnOp} {x y : SV} {v : Value} (h : unS op x = some y) (hd : Den e x v) : ∃ u, (Op.unary op v).run P w = .ok u w ∧ Den e y u := by
  unfold unS at h
  split at h <;> simp at h <;> subst h <;> simp only [Den] at hd <;> subst hd
  · exact ⟨_, by simp [Op.unary]; rfl, by simp [Den]⟩
  · exact ⟨_, by simp [Op.unary, Op.intArith]; rfl, by simp [Den]⟩
def fieldS (P : Program) (S : TypeId) (x : SV) (i : Nat) : Option SV :=
  match P.underlying S, x with
  | some (.struct fields), .p b o => match fields[i]? with
    | some f => match szT P f.type with
      | some (_ + 1) => some (.p b (o + f.offset))
      | _ => none
    | none => none
  | _, _ => none
theorem fieldS_ok {e : Env} {S : TypeId} {x y : SV} {i : Nat} {v : Value} (h : fieldS P S x i = some y) (hd : Den e x v) :
    ∃ u, (Instr.fieldAt S v i).run P w = .ok u w ∧ Den e y u := by
  unfold fieldS at h
  split at h
  · rename_i fields b o hu
    split at h
    · rename_i f hf
      split at h
      · rename_i n hn
        simp only [Option.some.injEq] at h; subst h
        simp only [Den] at hd
        obtain ⟨m, hm, rfl⟩ := hd
        refine ⟨.pointer (some ⟨m, o + f.offset, none⟩), ?_, ?_⟩
        · simp [Instr.fieldAt, run_und hu, hf, Instr.sureAddr, fieldPlace, run_szT hn, add_none]
        · simp only [Den]; exact ⟨m, hm, rfl⟩
      · simp at h
    · simp at h
  · simp at h
def idxS (P : Program) (T : TypeId) (x ix : SV) : Option (Bool × SV) :=
  match ix, P.underlying T, x with
  | .v (.int _ i), some (.array len elem), .p b o => match szT P elem with
    | some n => some (decide (0 ≤ i ∧ i < (len : Int)), .p b (o + i.toNat * n))
    | none => none
  | .v (.int _ i), some (.slice elem), .s b o len _ => match szT P elem with
    | some n => some (decide (0 ≤ i ∧ i < (len : Int)), .p b (o + i.toNat * n))
    | none => none
  | _, _, _ => none
theorem idxS_ok {e : Env} {T : TypeId} {x ix y : SV} {c : Bool} {u v : Value} (h : idxS P T x ix = some (c, y)) (hc : c = true) (hx : Den e x u) (hi : Den e ix v) :
    ∃ r, (Instr.indexAt T u v).run P w = .ok r w ∧ Den e y r := by
  unfold idxS at h
  split at h
  · rename_i k i len elem b o hu
    split at h
    · rename_i n hn
      simp only [Option.some.injEq, Prod.mk.injEq] at h
      obtain ⟨h1, rfl⟩ := h
      rw [hc] at h1
      have hb : 0 ≤ i ∧ i < (len : Int) := of_decide_eq_true h1
      simp only [Den] at hx hi
      obtain ⟨m, hm, rfl⟩ := hx
      subst hi
      refine ⟨.pointer (some ⟨m, o + i.toNat * n, none⟩), ?_, ?_⟩
      · simp [Instr.indexAt, asIntOf, run_und hu, Instr.sureAddr, hb, run_szT hn, add_none]
      · simp only [Den]; exact ⟨m, hm, rfl⟩
    · simp at h
  · rename_i k i elem b o len cap hu
    split at h
    · rename_i n hn
      simp only [Option.some.injEq, Prod.mk.injEq] at h
      obtain ⟨h1, rfl⟩ := h
      rw [hc] at h1
      have hb : 0 ≤ i ∧ i < (len : Int) := of_decide_eq_true h1
      simp only [Den] at hx hi
      obtain ⟨m, hm, rfl⟩ := hx
      subst hi
      refine ⟨.pointer (some ⟨m, o + i.toNat * n, none⟩), ?_, ?_⟩
      · simp [Instr.indexAt, asIntOf, run_und hu, hb, run_szT hn, add_none]
      · simp only [Den]; exact ⟨m, hm, rfl⟩
    · simp at h
  · simp at h
def byteAt (s : ByteArray) (i : Nat) : Int := (s.data.toList.getD i 0).toNat
def ixS (P : Program) (T : TypeId) (x ix : SV) : Option (Bool × SV) :=
  match ix, P.underlying T, x with
  | .v (.int _ i), some .string, .v (.string s) => some (decide (0 ≤ i ∧ i < (s.size : Int)), .v (.int .u8 (byteAt s i.toNat)))
  | .v (.int _ i), some (.array len elem), .a l => match szT P elem with
    | some n => match loadC P elem (i.toNat * n) l with
      | some y => some (decide (0 ≤ i ∧ i < (len : Int)), y)
      | none => none
    | none => none
  | _, _, _ => none
theorem ixS_ok {e : Env} {T : TypeId} {x ix y : SV} {c : Bool} {u v : Value} (h : ixS P T x ix = some (c, y)) (hc : c = true) (hx : Den e x u) (hi : Den e ix v) :
    ∃ r, (Instr.index T u v).run P w = .ok r w ∧ Den e y r := by
  unfold ixS at h
  split at h
  · rename_i k i s hu
    simp only [Option.some.injEq, Prod.mk.injEq] at h
    obtain ⟨h1, rfl⟩ := h
    rw [hc] at h1
    have hb : 0 ≤ i ∧ i < (s.size : Int) := of_decide_eq_true h1
    simp only [Den] at hx hi
    subst hx; subst hi
    have hlt : i.toNat < s.size := by omega
    refine ⟨.int .u8 (byteAt s i.toNat), ?_, by simp [Den]⟩
    have hg : s[i.toNat]? = some (s[i.toNat]'hlt) := by simp [hlt]
    have hb2 : byteAt s i.toNat = ((s[i.toNat]'hlt).toNat : Int) := by
      unfold byteAt
      have hl2 : i.toNat < s.data.toList.length := by simpa using hlt
      rw [List.getD, List.getElem?_eq_getElem hl2]
      rfl
    simp [Instr.index, asIntOf, run_und hu, hb.1, hg, hb2]
  · rename_i k i len elem l hu
    split at h
    · rename_i n hn
      split at h
      · rename_i z hz
        simp only [Option.some.injEq, Prod.mk.injEq] at h
        obtain ⟨h1, rfl⟩ := h
        rw [hc] at h1
        have hb : 0 ≤ i ∧ i < (len : Int) := of_decide_eq_true h1
        simp only [Den] at hx hi
        obtain ⟨vs, hvs, rfl⟩ := hx
        subst hi
        obtain ⟨r, hr, hdr⟩ := partS_ok (P := P) (w := w) hz hvs
        exact ⟨r, by simp [Instr.index, asIntOf, run_und hu, hb, run_szT hn, hr], hdr⟩
      · simp at h
    · simp at h
  · simp at h
def fldS (P : Program) (T : TypeId) (x : SV) (i : Nat) : Option SV :=
  match P.underlying T, x with
  | some (.struct fields), .a l => match fields[i]? with
    | some f => loadC P f.type f.offset l
    | none => none
  | _, _ => none
theorem fldS_ok {e : Env} {T : TypeId} {x y : SV} {i : Nat} {v : Value} (h : fldS P T x i = some y) (hd : Den e x v) :
    ∃ u, (Instr.field T v i).run P w = .ok u w ∧ Den e y u := by
  unfold fldS at h
  split at h
  · rename_i fields l hu
    split at h
    · rename_i f hf
      simp only [Den] at hd
      obtain ⟨vs, hvs, rfl⟩ := hd
      obtain ⟨r, hr, hdr⟩ := partS_ok (P := P) (w := w) h hvs
      exact ⟨r, by simp [Instr.field, run_und hu, hf, asAgg, hr], hdr⟩
    · simp at h
  · simp at h
def nilckS (x : SV) : Option SV :=
  match x with
  | .p b o => some (.p b o)
  | .s b o l c => some (.s b o l c)
  | .f (.func g) cs => some (.f (.func g) cs)
  | .y b => some (.y b)
  | .v (.pointer (some a)) => some (.v (.pointer (some a)))
  | .v (.func (.func g) a c) => some (.v (.func (.func g) a c))
  | _ => none
def loadQ (P : Program) (T : TypeId) (x : SV) (H : List (SB τ)) : Option (Bool × SV) :=
  match x with
  | .p b o => match H[b]? with
    | some (.cells l _) => (loadC P T o l).map ((true, ·))
    | some (.ints k xs n _) => match aggT P T with
      | some false => some (Nat.blt o n, .v (.int k (xs.getD o 0)))
      | _ => none
    | _ => none
  | .v (.pointer (some a)) => match a.spot with
    | none => match globAt a.block with
      | some l => (loadC P T a.off (l.map .v)).map ((true, ·))
      | none => none
    | some _ => none
  | _ => none
theorem loadQ_ok {e : Env} {H : List (SB τ)} {Fr : PH} {T : TypeId} {x y : SV} {c : Bool} {v : Value} (hM : Models I e H Fr w) (h : loadQ P T x H = some (c, y)) (hc : c = true) (hd : Den e x v) :
    ∃ u, (Instr.loadAt T v).run P w = .ok u w ∧ Den e y u := by
  unfold loadQ at h
  split at h
  · rename_i b o
    split at h
    · rename_i l T' hb
      simp only [Option.map_eq_some_iff, Prod.mk.injEq] at h
      obtain ⟨z, hz, _, rfl⟩ := h
      exact loadS_ok hM (by simp only [loadS, hb]; exact hz) hd
    · rename_i k xs n T' hb
      split at h
      · rename_i ha
        simp only [Option.some.injEq, Prod.mk.injEq] at h
        obtain ⟨h1, rfl⟩ := h
        rw [hc, Nat.blt_eq] at h1
        obtain ⟨m, g1, g2, g3⟩ := hM.ints hb
        simp only [Den] at hd
        obtain ⟨m', g4, rfl⟩ := hd
        rw [g1] at g4; cases g4
        refine ⟨.int k (xs.getD o 0), ?_, by simp [Den]⟩
        have hcell : w.cell? ⟨m, o, none⟩ = some (.int k (xs.getD o 0)) := by
          have hlt : o < xs.length := by omega
          rw [cell_at g3]
          simp [hlt]
        simp only [Instr.loadAt, Instr.sureAddr, Sem.run_bind, Sem.run_pure, Result.andThen_ok, loadVar, run_aggT ha, Bool.false_eq_true, if_false, run_load, hcell]
      · cases h
    · cases h
  · rename_i a
    split at h
    · rename_i hs
      split at h
      · rename_i l hg
        simp only [Option.map_eq_some_iff, Prod.mk.injEq] at h
        obtain ⟨z, hz, _, rfl⟩ := h
        obtain ⟨T', fz, hw⟩ := hM.gw _ _ hg
        obtain ⟨b, o, sp⟩ := a
        simp only at hs hg hz hw
        subst hs
        obtain ⟨u, hu, hdu⟩ := loadC_okF (P := P) hz (DenL.plain (e := e) l) hw
        refine ⟨u, ?_, hdu⟩
        simp only [Den] at hd
        subst hd
        simp only [Instr.loadAt, Instr.sureAddr, Sem.run_bind, Sem.run_pure, Result.andThen_ok, hu]
      · cases h
    · cases h
  · cases h
def bndI (d : Int) : Option SV → Option Int
  | none => some d
  | some (.v (.int _ i)) => some i
  | _ => none
theorem bnd_ok {e : Env} {d : Nat} {x : Option SV} {v : Option Value} {i : Int} {y : Nat} {code : BoundsCode} (h : bndI d x = some i) (h0 : 0 ≤ i) (h1 : i ≤ (y : Int)) (hv : ∀ a, v = some a → ∃ s, x = some s ∧ Den e s a) (hn : v = none → x = none) :
    (match v with
      | some a => Instr.sliceBound a y code
      | none => pure d : Sem Nat).run P w = .ok i.toNat w := by
  cases v with
  | none =>
    rw [hn rfl] at h
    simp only [bndI, Option.some.injEq] at h
    subst h
    simp
  | some a =>
    obtain ⟨s, rfl, hd⟩ := hv a rfl
    cases s with
    | v q =>
      cases q with
      | int k j =>
        simp only [bndI, Option.some.injEq] at h
        subst h
        simp only [Den] at hd
        subst hd
        simp [Instr.sliceBound, asIntOf, h0, h1]
      | _ => simp [bndI] at h
    | _ => simp [bndI] at h
def cutS (P : Program) (elem : TypeId) (b o len cap : Nat) (lo hi : Option SV) : Option (Bool × SV) :=
  match bndI 0 lo, bndI len hi, szT P elem with
  | some l, some h, some n => some (decide (0 ≤ l ∧ l ≤ h ∧ h ≤ (cap : Int)), .s b (bif Nat.beq cap l.toNat then o else o + l.toNat * n) (h.toNat - l.toNat) (cap - l.toNat))
  | _, _, _ => none
def sliceS (P : Program) (T : TypeId) (x : SV) (lo hi : Option SV) : Option (Bool × SV) :=
  match P.underlying T, x with
  | some (.array n elem), .p b o => cutS P elem b o n n lo hi
  | some (.slice elem), .s b o len cap => cutS P elem b o len cap lo hi
  | some .string, .v (.string s) => match bndI 0 lo, bndI s.size hi with
    | some l, some h => some (decide (0 ≤ l ∧ l ≤ h ∧ h ≤ (s.size : Int)), .v (.string (s.extract l.toNat h.toNat)))
    | _, _ => none
  | _, _ => none
theorem bnds_ok {e : Env} {isS : Bool} {len cap : Nat} {lo hi : Option SV} {vl vh : Option Value} {l h : Int} (hl : bndI 0 lo = some l) (hh : bndI len hi = some h) (hc : 0 ≤ l ∧ l ≤ h ∧ h ≤ (cap : Int))
    (gl : ∀ a, vl = some a → ∃ s, lo = some s ∧ Den e s a) (nl : vl = none → lo = none) (gh : ∀ a, vh = some a → ∃ s, hi = some s ∧ Den e s a) (nh : vh = none → hi = none) :
    (Instr.sliceBounds isS len cap vl vh none).run P w = .ok (l.toNat, h.toNat, cap) w := by
  have h1 : (match vh with
      | some a => Instr.sliceBound a cap (if isS then .sliceAcap else .sliceAlen)
      | none => pure len : Sem Nat).run P w = .ok h.toNat w := bnd_ok hh (by omega) hc.2.2 gh nh
  have h2 : (match vl with
      | some a => Instr.sliceBound a h.toNat .sliceB
      | none => pure 0 : Sem Nat).run P w = .ok l.toNat w := bnd_ok (d := 0) hl hc.1 (by omega) gl nl
  unfold Instr.sliceBounds
  cases vh <;> cases vl <;> simp_all
theorem sliceS_ok {e : Env} {T : TypeId} {x y : SV} {lo hi : Option SV} {v : Value} {vl vh : Option Value} {c : Bool} (h : sliceS P T x lo hi = some (c, y)) (hc : c = true) (hx : Den e x v)
    (gl : ∀ a, vl = some a → ∃ s, lo = some s ∧ Den e s a) (nl : vl = none → lo = none) (gh : ∀ a, vh = some a → ∃ s, hi = some s ∧ Den e s a) (nh : vh = none → hi = none) :
    ∃ r, (Instr.sliceAt T v vl vh none).run P w = .ok r w ∧ Den e y r := by
  unfold sliceS at h
  split at h
  · rename_i n elem b o hu
    unfold cutS at h
    split at h
    · rename_i l h' sz hl hh hs
      simp only [Option.some.injEq, Prod.mk.injEq] at h
      obtain ⟨h1, rfl⟩ := h
      rw [hc] at h1
      have hb := of_decide_eq_true h1
      simp only [Den] at hx
      obtain ⟨m, hm, rfl⟩ := hx
      refine ⟨.slice (some ⟨m, bif Nat.beq n l.toNat then o else o + l.toNat * sz, none⟩) (h'.toNat - l.toNat) (n - l.toNat), ?_, by simp only [Den]; exact ⟨m, hm, rfl⟩⟩
      simp only [Instr.sliceAt, Sem.run_bind, run_und hu, Result.andThen_ok, Instr.sureAddr, Sem.run_pure, bnds_ok (isS := false) hl hh hb gl nl gh nh, run_szT hs]
      by_cases hn : n = l.toNat
      · rw [if_pos hn, show Nat.beq n l.toNat = true from by rw [Nat.beq_eq]; exact hn]; rfl
      · rw [if_neg hn, show Nat.beq n l.toNat = false from by rw [← Bool.not_eq_true, Nat.beq_eq]; exact hn, add_none]; rfl
    · cases h
  · rename_i elem b o len cap hu
    unfold cutS at h
    split at h
    · rename_i l h' sz hl hh hs
      simp only [Option.some.injEq, Prod.mk.injEq] at h
      obtain ⟨h1, rfl⟩ := h
      rw [hc] at h1
      have hb := of_decide_eq_true h1
      simp only [Den] at hx
      obtain ⟨m, hm, rfl⟩ := hx
      refine ⟨.slice (some ⟨m, bif Nat.beq cap l.toNat then o else o + l.toNat * sz, none⟩) (h'.toNat - l.toNat) (cap - l.toNat), ?_, by simp only [Den]; exact ⟨m, hm, rfl⟩⟩
      simp only [Instr.sliceAt, Instr.slice, Sem.run_bind, run_und hu, Result.andThen_ok, Sem.run_pure, bnds_ok (isS := true) hl hh hb gl nl gh nh, run_szT hs]
      by_cases hn : cap = l.toNat
      · rw [if_pos hn, show Nat.beq cap l.toNat = true from by rw [Nat.beq_eq]; exact hn]; rfl
      · rw [if_neg hn, show Nat.beq cap l.toNat = false from by rw [← Bool.not_eq_true, Nat.beq_eq]; exact hn, Option.map_some, add_none]; rfl
    · cases h
  · rename_i s hu
    split at h
    · rename_i l h' hl hh
      simp only [Option.some.injEq, Prod.mk.injEq] at h
      obtain ⟨h1, rfl⟩ := h
      rw [hc] at h1
      have hb := of_decide_eq_true h1
      simp only [Den] at hx
      subst hx
      refine ⟨.string (s.extract l.toNat h'.toNat), ?_, by simp [Den]⟩
      simp [Instr.sliceAt, Instr.slice, run_und hu, bnds_ok (isS := false) hl hh hb gl nl gh nh]
    · cases h
  · cases h
def stepV0 (P : Program) (op : Op) (tm : List SV) (H : List (SB τ)) : Option (Bool × SV) :=
  match op with
  | .move x => some (true, ev tm x)
  | .assign x => some (true, ev tm x)
  | .pick c a b => match ev tm c with
    | .v (.bool true) => some (true, ev tm a)
    | .v (.bool false) => some (true, ev tm b)
    | _ => none
  | .load T x => loadQ P T (ev tm x) H
  | .slice T x lo hi none => sliceS P T (ev tm x) (lo.map (ev tm)) (hi.map (ev tm))
  | .nilCheck x => (nilckS (ev tm x)).map ((true, ·))
  | .fieldAddr S x i => (fieldS P S (ev tm x) i).map ((true, ·))
  | .field T x i => (fldS P T (ev tm x) i).map ((true, ·))
  | .indexAddr T x ix => idxS P T (ev tm x) (ev tm ix)
  | .index T x ix => ixS P T (ev tm x) (ev tm ix)
  | .build T parts => (buildS P T (parts.toList.map fun p => (p.1, ev tm p.2))).map ((true, ·))
  | .binOp o T x y _ => binS P o T (ev tm x) (ev tm y)
  | .unOp o _ x => (unS o (ev tm x)).map ((true, ·))
  | .convert s d x => (convS P s d (ev tm x)).map ((true, ·))
  | .extract t i => match ev tm t with
    | .t l => l[i]?.map ((true, ·))
    | _ => none
  | .makeFunc fn first cap => match first.toList with
    | [] => some (true, .f fn (cap.toList.map (ev tm)))
    | _ => none
  | .call { callee := .builtin b, args, argTypes } => match b with
    | .len => match argTypes.toList with
      | T :: _ => (lenS P T (args.toList.map (ev tm))).map ((true, ·))
      | [] => none
    | .min => (minI (args.toList.map (ev tm))).map ((true, ·))
    | .max => (maxI (args.toList.map (ev tm))).map ((true, ·))
    | _ => none
  | _ => none
theorem evs_ok {e : Env} {tm : List SV} {a : Act} (h : DenL e tm a.tmps.toList) : ∀ (os : List Operand), DenL e (os.map (ev tm)) (os.map a.eval)
  | [] => by simp [DenL]
  | o :: os => by simp only [List.map_cons, DenL]; exact ⟨_, _, rfl, ev_ok h o, evs_ok h os⟩
theorem stepV0_ok {e : Env} {tm : List SV} {a : Act} {H : List (SB τ)} {Fr : PH} {o : Oper} {c : Bool} {x : SV} (hM : Models I e H Fr w) (ht : DenL e tm a.tmps.toList)
    (h : stepV0 P o.op tm H = some (c, x)) (hc : c = true) : ∃ v, (execOp a.eval o).run P w = .ok (.value v) w ∧ Den e x v := by
  unfold stepV0 at h
  split at h
  · rename_i y hop
    simp only [Option.some.injEq, Prod.mk.injEq] at h
    obtain ⟨_, rfl⟩ := h
    exact ⟨_, by simp [execOp, hop], ev_ok ht y⟩
  · rename_i y hop
    simp only [Option.some.injEq, Prod.mk.injEq] at h
    obtain ⟨_, rfl⟩ := h
    exact ⟨_, by simp [execOp, hop], ev_ok ht y⟩
  · rename_i oc oa ob hop
    have hcd := ev_ok ht oc
    split at h
    · rename_i he
      rw [he] at hcd; simp only [Den] at hcd
      simp only [Option.some.injEq, Prod.mk.injEq] at h
      obtain ⟨_, rfl⟩ := h
      exact ⟨_, by simp [execOp, hop, hcd, asBool], ev_ok ht oa⟩
    · rename_i he
      rw [he] at hcd; simp only [Den] at hcd
      simp only [Option.some.injEq, Prod.mk.injEq] at h
      obtain ⟨_, rfl⟩ := h
      exact ⟨_, by simp [execOp, hop, hcd, asBool], ev_ok ht ob⟩
    · simp at h
  · rename_i T y hop
    obtain ⟨u, hu, hdu⟩ := loadQ_ok hM h hc (ev_ok ht y)
    exact ⟨u, by simp [execOp, hop, hu], hdu⟩
  · rename_i T y lo hi hop
    obtain ⟨u, hu, hdu⟩ := sliceS_ok (P := P) (w := w) (vl := lo.map a.eval) (vh := hi.map a.eval) h hc (ev_ok ht y)
      (by intro q hq; cases lo <;> simp at hq; subst hq; exact ⟨_, rfl, ev_ok ht _⟩) (by intro hq; cases lo <;> simp at hq; rfl)
      (by intro q hq; cases hi <;> simp at hq; subst hq; exact ⟨_, rfl, ev_ok ht _⟩) (by intro hq; cases hi <;> simp at hq; rfl)
    exact ⟨u, by simp [execOp, hop, hu], hdu⟩
  · rename_i y hop
    simp only [Option.map_eq_some_iff, Prod.mk.injEq] at h
    obtain ⟨z, hz, _, rfl⟩ := h
    have hd := ev_ok ht y
    generalize ev tm y = q at hz hd
    unfold nilckS at hz
    split at hz <;> simp at hz <;> subst hz <;> (have hd' := hd; simp only [Den] at hd')
    · obtain ⟨n, _, hv⟩ := hd'; exact ⟨_, by simp [execOp, hop, hv]; rfl, by rw [← hv]; exact hd⟩
    · obtain ⟨n, _, hv⟩ := hd'; exact ⟨_, by simp [execOp, hop, hv]; rfl, by rw [← hv]; exact hd⟩
    · obtain ⟨n, _, hv⟩ := hd'; exact ⟨_, by simp [execOp, hop, hv]; rfl, by rw [← hv]; exact hd⟩
    · obtain ⟨n, _, hv⟩ := hd'; exact ⟨_, by simp [execOp, hop, hv]; rfl, by rw [← hv]; exact hd⟩
    · exact ⟨_, by simp [execOp, hop, hd']; rfl, by simp [Den]⟩
    · exact ⟨_, by simp [execOp, hop, hd']; rfl, by simp [Den]⟩
  · rename_i S y i hop
    simp only [Option.map_eq_some_iff, Prod.mk.injEq] at h
    obtain ⟨z, hz, _, rfl⟩ := h
    obtain ⟨u, hu, hdu⟩ := fieldS_ok (w := w) hz (ev_ok ht y)
    exact ⟨u, by simp [execOp, hop, hu], hdu⟩
  · rename_i S y i hop
    simp only [Option.map_eq_some_iff, Prod.mk.injEq] at h
    obtain ⟨z, hz, _, rfl⟩ := h
    obtain ⟨u, hu, hdu⟩ := fldS_ok (w := w) hz (ev_ok ht y)
    exact ⟨u, by simp [execOp, hop, hu], hdu⟩
  · rename_i T y ix hop
    obtain ⟨u, hu, hdu⟩ := idxS_ok (w := w) h hc (ev_ok ht y) (ev_ok ht ix)
    exact ⟨u, by simp [execOp, hop, hu], hdu⟩
  · rename_i T y ix hop
    obtain ⟨u, hu, hdu⟩ := ixS_ok (w := w) h hc (ev_ok ht y) (ev_ok ht ix)
    exact ⟨u, by simp [execOp, hop, hu], hdu⟩
  · rename_i T parts hop
    simp only [Option.map_eq_some_iff, Prod.mk.injEq] at h
    obtain ⟨z, hz, _, rfl⟩ := h
    obtain ⟨u, hu, hdu⟩ := buildS_ok (w := w) (e := e) (ps := parts.map fun p => (p.1, a.eval p.2)) hz (by simp) (by
      have := evs_ok ht (parts.toList.map (·.2))
      simpa [List.map_map, Function.comp_def] using this)
    exact ⟨u, by simp [execOp, hop, hu], hdu⟩
  · rename_i op T y z ty hop
    obtain ⟨u, hu, hdu⟩ := binS_ok (w := w) (ox := y) (oy := z) h hc (ev_ok ht y) (ev_ok ht z)
    exact ⟨u, by simp only [execOp, hop]; rw [Sem.run_bind, hu]; rfl, hdu⟩
  · rename_i op T y hop
    simp only [Option.map_eq_some_iff, Prod.mk.injEq] at h
    obtain ⟨z, hz, _, rfl⟩ := h
    obtain ⟨u, hu, hdu⟩ := unS_ok (P := P) (w := w) hz (ev_ok ht y)
    exact ⟨u, by simp [execOp, hop, hu], hdu⟩
  · rename_i s d y hop
    simp only [Option.map_eq_some_iff, Prod.mk.injEq] at h
    obtain ⟨z, hz, _, rfl⟩ := h
    obtain ⟨u, hu, hdu⟩ := convS_ok (w := w) hz (ev_ok ht y)
    exact ⟨u, by simp [execOp, hop, hu], hdu⟩
  · rename_i y i hop
    have hd := ev_ok ht y
    split at h
    · rename_i l he
      rw [he] at hd
      simp only [Den] at hd
      obtain ⟨vs, hvs, hv⟩ := hd
      simp only [Option.map_eq_some_iff, Prod.mk.injEq] at h
      obtain ⟨z, hz, _, rfl⟩ := h
      obtain ⟨u, hu, hdu⟩ := hvs.get hz
      exact ⟨u, by simp [execOp, hop, hv, Instr.extract, hu], hdu⟩
    · simp at h
  · rename_i fn first cap hop
    split at h
    · rename_i hf
      have hf' : first = #[] := by simpa using hf
      subst hf'
      simp only [Option.some.injEq, Prod.mk.injEq] at h
      obtain ⟨_, rfl⟩ := h
      refine ⟨.func fn #[] (cap.map a.eval), by simp [execOp, hop, Instr.makeFunc], ?_⟩
      simp only [Den]
      exact ⟨cap.toList.map a.eval, evs_ok ht _, by congr 1; apply Array.toList_inj.1; simp⟩
    · simp at h
  · rename_i b args ats hop
    split at h
    · split at h
      · rename_i T rest hT
        simp only [Option.map_eq_some_iff, Prod.mk.injEq] at h
        obtain ⟨z, hz, _, rfl⟩ := h
        obtain ⟨u, hu, hdu⟩ := lenS_ok (w := w) (ty := o.type) (ats := rest) hz (evs_ok ht args.toList)
        have e1 : (T :: rest).toArray = ats := by rw [← hT]
        have e2 : (args.toList.map a.eval).toArray = args.map a.eval := by apply Array.toList_inj.1; simp
        rw [e1, e2] at hu
        exact ⟨u, by simp [execOp, hop, resolve, invoke, builtin, hu], hdu⟩
      · simp at h
    · simp only [Option.map_eq_some_iff, Prod.mk.injEq] at h
      obtain ⟨z, hz, _, rfl⟩ := h
      have hd := evs_ok ht args.toList
      generalize args.toList.map (ev tm) = xs at hz hd
      unfold minI at hz
      split at hz <;> simp at hz
      subst hz
      simp only [DenL, Den] at hd
      obtain ⟨v1, r1, e1, rfl, v2, r2, rfl, rfl, rfl⟩ := hd
      have e2 : args.map a.eval = (args.toList.map a.eval).toArray := by apply Array.toList_inj.1; simp
      rw [e1] at e2
      exact ⟨_, by simp [execOp, hop, resolve, invoke, builtin, Builtin.min_, e2, Builtin.min2]; rfl, by simp [Den]⟩
    · simp only [Option.map_eq_some_iff, Prod.mk.injEq] at h
      obtain ⟨z, hz, _, rfl⟩ := h
      have hd := evs_ok ht args.toList
      generalize args.toList.map (ev tm) = xs at hz hd
      unfold maxI at hz
      split at hz <;> simp at hz
      subst hz
      simp only [DenL, Den] at hd
      obtain ⟨v1, r1, e1, rfl, v2, r2, rfl, rfl, rfl⟩ := hd
      have e2 : args.map a.eval = (args.toList.map a.eval).toArray := by apply Array.toList_inj.1; simp
      rw [e1] at e2
      exact ⟨_, by simp [execOp, hop, resolve, invoke, builtin, Builtin.max_, e2, Builtin.max2]; rfl, by simp [Den]⟩
    · simp at h
  · simp at h
end Go.Sym
namespace Go.Sym
open Go
variable {P : Program} {w : World} {τ : Type} {I : Inv τ}
theorem setAll_eq {α : Type} : ∀ (r l : List α) (o : Nat), o + r.length ≤ l.length → setAll l o r = l.take o ++ r ++ l.drop (o + r.length)
  | [], l, o, _ => by simp [setAll]
  | x :: r, l, o, h => by
    simp only [List.length_cons] at h
    have ih := setAll_eq r (l.set o x) (o + 1) (by simp; omega)
    simp only [setAll]
    rw [ih]
    have h1 : (l.set o x).take (o + 1) = l.take o ++ [x] := by
      rw [List.take_set, List.take_succ_eq_append_getElem (by omega : o < l.length)]
      have : (List.take o l).length = o := by simp; omega
      rw [List.set_append_right _ _ (by omega)]
      simp [this]
    have h2 : (l.set o x).drop (o + 1 + r.length) = l.drop (o + (x :: r).length) := by
      rw [List.drop_set_of_lt (by omega)]
      congr 1
      simp only [List.length_cons]; omega
    rw [h1, h2]
    simp [Nat.add_assoc]
theorem Models.newRow {e : Env} {H : List (SB τ)} {Fr : PH} (h : Models I e H Fr w) {l : List SV} {vs : List Value} (T : TypeId) (hd : DenL e l vs) :
    Le e (ext e H.length (.blk w.heap.size)) ∧ Models I (ext e H.length (.blk w.heap.size)) (H ++ [.cells l T]) Fr { w with heap := w.heap.push (.cells vs.toArray T) } := by
  have hle : Le e (ext e H.length (.blk w.heap.size)) := le_ext h.fresh
  refine ⟨hle, h.add (r := .blk w.heap.size) (hn := single w.heap.size (.cells vs.toArray T (0, 0))) ⟨w.heap.size, vs, rfl, hd.mono hle, rfl⟩ (Ext.alloc w _) (fun k o hk => ?_) (fun k hk => ?_)⟩
  · unfold single at hk
    split at hk
    · rename_i hk'; subst hk'; simp only [Option.some.injEq] at hk; subst hk; simp
    · cases hk
  · unfold single at hk
    split at hk
    · rename_i hk'; omega
    · exact absurd rfl hk
theorem Models.newObj {e : Env} {H : List (SB τ)} {Fr : PH} (h : Models I e H Fr w) (o : Obj) :
    Le e (ext e H.length (.blk w.heap.size)) ∧ Models I (ext e H.length (.blk w.heap.size)) (H ++ [.obj o]) Fr { w with heap := w.heap.push o } := by
  have hle : Le e (ext e H.length (.blk w.heap.size)) := le_ext h.fresh
  refine ⟨hle, h.add (r := .blk w.heap.size) (hn := single w.heap.size o) ⟨w.heap.size, rfl, rfl⟩ (Ext.alloc w _) (fun k o hk => ?_) (fun k hk => ?_)⟩
  · unfold single at hk
    split at hk
    · rename_i hk'; subst hk'; simp only [Option.some.injEq] at hk; subst hk; simp
    · cases hk
  · unfold single at hk
    split at hk
    · rename_i hk'; omega
    · exact absurd rfl hk
theorem stay_setRow (w : World) (m : Nat) (r : Array Value) : Stay w (w.setRow m r) := ⟨rfl, rfl⟩
theorem Models.turn {e : Env} {H : List (SB τ)} {Fr : PH} {w' : World} (h : Models I e H Fr w) {i n : Nat} {b b' : SB τ} {o' : Obj} (hi : H[i]? = some b) (hn : e i = some (.blk n))
    (hb : ∀ hp, ItemOk I e b (e i) hp → ∃ o, hp = single n o) (hb' : ItemOk I e b' (e i) (single n o'))
    (hw : w'.heap[n]? = some o') (hother : ∀ k, k ≠ n → w'.heap[k]? = w.heap[k]?) (hy : Stay w w') : Models I e (H.set i b') Fr w' := by
  refine h.upd i hi hy fun hp hok hsub => ?_
  obtain ⟨o, rfl⟩ := hb hp hok
  refine ⟨single n o', hb', fun k x hk => ?_, fun k hk => ?_, fun k x hk hne => ?_⟩
  · unfold single at hk
    split at hk
    · rename_i e1; subst e1; simp only [Option.some.injEq] at hk; subst hk; exact hw
    · cases hk
  · unfold single at hk ⊢
    split at hk
    · rename_i e1; left; rw [if_pos e1]; simp
    · exact absurd rfl hk
  · unfold single at hne
    split at hne
    · cases hne
    · rename_i e1; rw [hother k e1]; exact hk
def allInts (k : IntKind) : List SV → Bool
  | [] => true
  | .v (.int j _) :: r => decide (j = k) && allInts k r
  | _ => false
def intsOf : List SV → List Int
  | [] => []
  | .v (.int _ n) :: r => n :: intsOf r
  | _ :: r => 0 :: intsOf r
theorem intsOf_length : ∀ (l : List SV), (intsOf l).length = l.length
  | [] => rfl
  | x :: r => by
    have := intsOf_length r
    unfold intsOf
    split <;> simp_all
theorem allInts_ok {k : IntKind} : ∀ {l : List SV}, allInts k l = true → l = (intsOf l).map (fun x => .v (.int k x))
  | [], _ => rfl
  | x :: r, h => by
    unfold allInts at h
    split at h
    · rename_i hx; cases hx
    · rename_i j n r' hx
      cases hx
      simp only [Bool.and_eq_true, decide_eq_true_eq] at h
      obtain ⟨rfl, h2⟩ := h
      simp only [intsOf, List.map_cons, List.cons.injEq, true_and]
      exact allInts_ok h2
    · cases h
def packI (l : List SV) (T : TypeId) : SB τ :=
  match l with
  | .v (.int k _) :: _ => match Nat.ble 8 l.length && allInts k l with
    | true => .ints k (intsOf l) l.length T
    | false => .cells l T
  | _ => .cells l T
theorem ints_den {e : Env} {k : IntKind} : ∀ {xs : List Int} {vs : List Value}, DenL e (xs.map fun x => .v (.int k x)) vs → vs = xs.map (Value.int k)
  | [], _, h => by simpa [DenL] using h
  | x :: xs, _, h => by
    simp only [List.map_cons, DenL] at h
    obtain ⟨v, r, rfl, h4, h5⟩ := h
    simp only [Den] at h4
    rw [h4, ints_den h5]
    rfl
theorem Models.newPack {e : Env} {H : List (SB τ)} {Fr : PH} (h : Models I e H Fr w) {l : List SV} {vs : List Value} (T : TypeId) (hd : DenL e l vs) :
    Le e (ext e H.length (.blk w.heap.size)) ∧ Models I (ext e H.length (.blk w.heap.size)) (H ++ [packI l T]) Fr { w with heap := w.heap.push (.cells vs.toArray T) } := by
  unfold packI
  split
  · rename_i k n r
    split
    · rename_i hc
      rw [Bool.and_eq_true] at hc
      have hl := allInts_ok hc.2
      have hle : Le e (ext e H.length (.blk w.heap.size)) := le_ext h.fresh
      have hvs : vs = (intsOf (.v (.int k n) :: r)).map (Value.int k) := ints_den (by rw [← hl]; exact hd)
      refine ⟨hle, h.add (r := .blk w.heap.size) (hn := single w.heap.size (.cells vs.toArray T (0, 0))) ⟨w.heap.size, rfl, intsOf_length _, by rw [hvs]⟩ (Ext.alloc w _) (fun k o hk => ?_) (fun k hk => ?_)⟩
      · unfold single at hk
        split at hk
        · rename_i hk'; subst hk'; simp only [Option.some.injEq] at hk; subst hk; simp
        · cases hk
      · unfold single at hk
        split at hk
        · rename_i hk'; omega
        · exact absurd rfl hk
    · exact h.newRow T hd
  · exact h.newRow T hd
def stepA (P : Program) (op : Op) (tm : List SV) (H : List (SB τ)) : Option (SV × List (SB τ)) :=
  match op with
  | .alloc T => match zeroT P T with
    | some z => some (.p H.length 0, H ++ [.cells (z.cells.toList.map .v) T])
    | none => none
  | .box T x => match cellsV (ev tm x) with
    | some l => some (.p H.length 0, H ++ [packI l T])
    | none => none
  | .buildSlice T len parts => match P.underlying T with
    | some (.slice elem) => match szT P elem, zeroT P elem with
      | some n, some z => match Nat.ble (len * n) 16777216, fillS (fun i => some (i * n, n)) ((List.range (len * n)).map fun i => .v (z.cells[i % z.cells.size]!)) (parts.toList.map fun p => (p.1, ev tm p.2)) with
        | true, some l => some (.s H.length 0 len len, H ++ [packI l elem])
        | _, _ => none
      | _, _ => none
    | _ => none
  | .store T a x => match ev tm a with
    | .p b o => match H[b]?, cellsV (ev tm x), szT P T with
      | some (.cells l T'), some c, some n => match c.length == n && Nat.ble (o + n) l.length && c.all oneS with
        | true => some (.v undef, H.set b (.cells (setAll l o c) T'))
        | false => none
      | _, _, _ => none
    | _ => none
  | .range T x => match P.underlying T, ev tm x with
    | some .string, .v (.string s) => some (.p H.length 0, H ++ [.obj (.stringIter s 0)])
    | _, _ => none
  | .next it true => match ev tm it with
    | .p b 0 => match H[b]? with
      | some (.obj (.stringIter s pos)) => match Nat.blt pos s.size with
        | true => some (.t [.v (.bool true), .v (.int .i64 pos), .v (.int .i32 (Utf8.decode s pos).1)], H.set b (.obj (.stringIter s (pos + (Utf8.decode s pos).2))))
        | false => some (.t [.v (.bool false)], H)
      | _ => none
    | _ => none
  | _ => none
theorem all_one {e : Env} : ∀ {c : List SV} {vs : List Value}, c.all oneS = true → DenL e c vs → ∀ v ∈ vs, v.oneCell' = true
  | [], _, _, hd => by simp only [DenL] at hd; subst hd; simp
  | x :: c, _, h, hd => by
    simp only [DenL] at hd
    obtain ⟨v, r, rfl, h2, h3⟩ := hd
    simp only [List.all_cons, Bool.and_eq_true] at h
    intro u hu
    rcases List.mem_cons.1 hu with rfl | hu
    · exact oneS_ok h.1 h2
    · exact all_one h.2 h3 u hu
def Gave (I : Inv τ) (P : Program) (o : Oper) (a : Act) (e : Env) (Fr : PH) (w : World) (x : SV) (H H' : List (SB τ)) : Prop :=
  ∃ nx v w' e', (execOp a.eval o).run P w = .ok nx w' ∧ (nx = .value v ∨ (nx = .skip ∧ v = undef)) ∧ Le e e' ∧ Models I e' H' Fr w' ∧ Den e' x v ∧ (H'.length = H.length → e' = e)
theorem stepA_ok {e : Env} {tm : List SV} {a : Act} {H H' : List (SB τ)} {Fr : PH} {o : Oper} {x : SV} (hM : Models I e H Fr w) (ht : DenL e tm a.tmps.toList)
    (h : stepA P o.op tm H = some (x, H')) : Gave I P o a e Fr w x H H' := by
  unfold stepA at h
  split at h
  · rename_i T hop
    split at h
    · rename_i z hz
      simp only [Option.some.injEq, Prod.mk.injEq] at h
      obtain ⟨rfl, rfl⟩ := h
      obtain ⟨hle, hM'⟩ := hM.newRow T (DenL.plain z.cells.toList)
      refine ⟨_, _, _, _, by simp [execOp, hop, Instr.alloc, run_zeroT hz, newVar, newRow]; rfl, .inl rfl, hle, hM', ?_⟩
      refine ⟨?_, fun hl => by simp at hl⟩
      simp only [Den, ext_self]
      exact ⟨_, rfl, rfl⟩
    · simp at h
  · rename_i T y hop
    split at h
    · rename_i l hl
      simp only [Option.some.injEq, Prod.mk.injEq] at h
      obtain ⟨rfl, rfl⟩ := h
      obtain ⟨hle, hM'⟩ := hM.newPack T (cellsV_ok hl (ev_ok ht y))
      refine ⟨_, _, _, _, by simp [execOp, hop, Instr.box, newVar, newRow]; rfl, .inl rfl, hle, hM', ?_⟩
      refine ⟨?_, fun hl => by simp at hl⟩
      simp only [Den, ext_self]
      exact ⟨_, rfl, rfl⟩
    · simp at h
  · rename_i T len parts hop
    split at h
    · rename_i elem hu
      split at h
      · rename_i n z hn hz
        split at h
        · rename_i l hb hl
          simp only [Option.some.injEq, Prod.mk.injEq] at h
          obtain ⟨rfl, rfl⟩ := h
          have hbig : ¬ (len * n > 2 ^ 24) := by rw [Nat.ble_eq] at hb; omega
          have hz0 : ∃ zs : Array Value, (Array.range (len * n)).map (fun i => zs[i % zs.size]!) = ((List.range (len * n)).map fun i => z.cells[i % z.cells.size]!).toArray ∧
              ∀ (f : Array Value → Sem Value), ((do let zero ← (if len * n = 0 then pure #[] else do pure (← zeroValue elem).cells); f zero : Sem Value)).run P w = (f zs).run P w := by
            by_cases h0 : len * n = 0
            · refine ⟨#[], ?_, fun f => by simp [h0]⟩
              apply Array.toList_inj.1; simp [h0]
            · refine ⟨z.cells, ?_, fun f => by simp [h0, run_zeroT hz]⟩
              apply Array.toList_inj.1; simp
          obtain ⟨zs, hz2, hz1⟩ := hz0
          obtain ⟨rs, hr, hdr⟩ := fillS_ok (e := e) (cs := (Array.range (len * n)).map fun i => zs[i % zs.size]!) (ps := (parts.map fun p => (p.1, a.eval p.2)).toList) hl
            (by rw [hz2]; have := DenL.plain (e := e) ((List.range (len * n)).map fun i => z.cells[i % z.cells.size]!); simpa [List.map_map, Function.comp_def] using this) (by simp) (by
            have := evs_ok ht (parts.toList.map (·.2))
            simpa [List.map_map, Function.comp_def] using this)
          obtain ⟨hle, hM'⟩ := hM.newPack elem hdr
          have hrun : (Instr.buildSlice T len (parts.map fun p => (p.1, a.eval p.2))).run P w = .ok (.slice (some ⟨w.heap.size, 0, none⟩) len len) { w with heap := w.heap.push (.cells rs.toList.toArray elem) } := by
            unfold Instr.buildSlice
            simp only [Sem.run_bind, run_und hu, Result.andThen_ok, run_szT hn, hbig, if_false, Sem.run_pure]
            have := hz1 (fun zero => do
              let some cells := Instr.fill (fun i => some (i * n, n)) ((Array.range (len * n)).map (zero[· % zero.size]!)) (parts.map fun p => (p.1, a.eval p.2)).toList | stuck "buildSlice: a part of the wrong size"
              pure (.slice (some (← newRow elem cells)) len len))
            refine Eq.trans ?_ (this.trans ?_)
            · by_cases h0 : len * n = 0
              · rw [if_pos h0, if_pos h0]; simp only [Sem.run_bind, Sem.run_pure, Result.andThen_ok]; rfl
              · rw [if_neg h0, if_neg h0]; simp only [Sem.run_bind, Sem.run_pure, Result.andThen_ok, run_zeroT hz]; rfl
            · simp only [hr]; simp [newRow]
          refine ⟨.value (.slice (some ⟨w.heap.size, 0, none⟩) len len), .slice (some ⟨w.heap.size, 0, none⟩) len len, _, _, by simp only [execOp, hop]; rw [Sem.run_bind, hrun]; rfl, .inl rfl, hle, hM', ?_⟩
          refine ⟨?_, fun hl => by simp at hl⟩
          simp only [Den, ext_self]
          exact ⟨_, rfl, rfl⟩
        · simp at h
      · simp at h
    · simp at h
  · rename_i T oa ox hop
    have hda := ev_ok ht oa
    split at h
    · rename_i b off hea
      rw [hea] at hda
      simp only [Den] at hda
      obtain ⟨m, hm, hav⟩ := hda
      split at h
      · rename_i l T' c n hb hc hn
        split at h
        · rename_i hcond
          simp only [Bool.and_eq_true, beq_iff_eq, Nat.ble_eq] at hcond
          obtain ⟨⟨h1, h2⟩, h3⟩ := hcond
          simp only [Option.some.injEq, Prod.mk.injEq] at h
          obtain ⟨rfl, rfl⟩ := h
          obtain ⟨m', vs, g1, g2, g3⟩ := hM.cells hb
          rw [hm] at g1; cases g1
          have hcd := cellsV_ok hc (ev_ok ht ox)
          generalize hv : a.eval ox = v at hcd
          have hsz : v.cells.size = n := by have := hcd.length; simp at this; omega
          have hlv := g2.length
          have hst := run_storeCells_at (P := P) m off T' v.cells.toList 0 vs.toArray w g3 (by simp; omega) (all_one h3 hcd)
          have hsv : (storeVar T ⟨m, off, none⟩ v).run P w = .ok () (w.setRow m (setAll vs off v.cells.toList).toArray) := by
            have hs2 : ¬ (v.cells.size ≠ n) := by simp [hsz]
            simp only [storeVar, Sem.run_bind, run_szT hn, Result.andThen_ok, hs2, if_false]
            rw [hst, setAll_eq _ _ _ (by simp; omega)]
            simp
          refine ⟨.skip, undef, w.setRow m (setAll vs off v.cells.toList).toArray, e, by simp [execOp, hop, hav, Instr.storeAt, Instr.sureAddr, hv, hsv], .inr ⟨rfl, rfl⟩, Le.refl e, ?_, by simp [Den], fun _ => rfl⟩
          refine hM.turn (o' := .cells (setAll vs off v.cells.toList).toArray T' (0, 0)) hb hm (fun hp hok => ?_) ⟨m, _, hm, setAll_den hcd g2, rfl⟩ (setRow_heap w m _ _ T' (0, 0) g3) (fun k hk => setRow_other w m k _ hk) (stay_setRow w m _)
          obtain ⟨n', vs', q1, _, q3⟩ := hok
          rw [hm] at q1; cases q1
          exact ⟨_, q3⟩
        · simp at h
      · simp at h
    · simp at h
  · rename_i T y hop
    have hd := ev_ok ht y
    split at h
    · rename_i s hu he
      rw [he] at hd
      simp only [Den] at hd
      simp only [Option.some.injEq, Prod.mk.injEq] at h
      obtain ⟨rfl, rfl⟩ := h
      obtain ⟨hle, hM'⟩ := hM.newObj (.stringIter s 0)
      refine ⟨_, _, _, _, by simp [execOp, hop, hd, Instr.range, run_und hu]; rfl, .inl rfl, hle, hM', ?_⟩
      refine ⟨?_, fun hl => by simp at hl⟩
      simp only [Den, ext_self]
      exact ⟨_, rfl, rfl⟩
    · simp at h
  · rename_i it hop
    have hda := ev_ok ht it
    split at h
    · rename_i b hea
      rw [hea] at hda
      simp only [Den] at hda
      obtain ⟨m, hm, hav⟩ := hda
      split at h
      · rename_i s pos hb
        obtain ⟨hn, ⟨m', g1, rfl⟩, g5⟩ := hM.item hb
        rw [hm] at g1; cases g1
        have g3 : w.heap[m]? = some (.stringIter s pos) := g5 m _ (by simp [single])
        have hget : (getObj m).run P w = .ok (.stringIter s pos) w := by unfold getObj; simp only [Sem.run, g3]
        split at h
        · rename_i hlt
          rw [Nat.blt_eq] at hlt
          simp only [Option.some.injEq, Prod.mk.injEq] at h
          obtain ⟨rfl, rfl⟩ := h
          generalize hdec : Utf8.decode s pos = dc
          obtain ⟨cp, width⟩ := dc
          have hset : (setObj m (.stringIter s (pos + width))).run P w = .ok () { w with heap := w.heap.setIfInBounds m (.stringIter s (pos + width)) } := by unfold setObj; simp only [Sem.run, g3]
          refine ⟨.value (.tuple #[.bool true, .int .i64 pos, .int .i32 cp]), .tuple #[.bool true, .int .i64 pos, .int .i32 cp], { w with heap := w.heap.setIfInBounds m (.stringIter s (pos + width)) }, e, ?_, .inl rfl, Le.refl e, ?_, ?_, fun _ => rfl⟩
          · simp only [execOp, hop, hav, Instr.next, Sem.run_bind, Sem.run_pure, Result.andThen_ok, hget, hlt, if_true, hdec, hset]
            rfl
          · have hlt' : m < w.heap.size := (Array.getElem?_eq_some_iff.1 g3).1
            refine hM.turn (o' := .stringIter s (pos + width)) hb hm (fun hp hok => ?_) ⟨m, hm, rfl⟩ (by simp [hlt']) (fun k hk => by simp [Array.getElem?_setIfInBounds, Ne.symm hk]) ⟨rfl, rfl⟩
            obtain ⟨n', q1, q3⟩ := hok
            rw [hm] at q1; cases q1
            exact ⟨_, q3⟩
          · simp only [Den, DenL]
            exact ⟨_, ⟨_, _, rfl, rfl, _, _, rfl, rfl, _, _, rfl, rfl, rfl⟩, rfl⟩
        · rename_i hlt
          have hlt : ¬ pos < s.size := fun hh => by rw [← Nat.blt_eq] at hh; rw [hh] at hlt; cases hlt
          simp only [Option.some.injEq, Prod.mk.injEq] at h
          obtain ⟨rfl, rfl⟩ := h
          refine ⟨.value (.tuple #[.bool false]), .tuple #[.bool false], w, e, ?_, .inl rfl, Le.refl e, hM, ?_, fun _ => rfl⟩
          · simp only [execOp, hop, hav, Instr.next, Sem.run_bind, Sem.run_pure, Result.andThen_ok, hget, hlt, if_false]
          · simp only [Den, DenL]
            exact ⟨_, ⟨_, _, rfl, rfl, rfl⟩, rfl⟩
      · simp at h
    · simp at h
  · simp at h
def stepI (P : Program) (op : Op) (tm : List SV) (H : List (SB τ)) : Option (Bool × SV × List (SB τ)) :=
  match op with
  | .store T a x => match ev tm a, ev tm x with
    | .p b o, .v (.int k m) => match H[b]?, szT P T with
      | some (.ints k' xs n T'), some 1 => match decide (k = k') with
        | true => some (Nat.blt o n, .v undef, H.set b (.ints k (xs.set o m) n T'))
        | false => none
      | _, _ => none
    | _, _ => none
  | .call { callee := .builtin .copy, args, argTypes } => match argTypes.toList, args.toList.map (ev tm) with
    | [D, _], [.s b o len _, .s b' o' len' _] => match P.underlying D with
      | some (.slice el) => match szT P el, H[b]?, H[b']? with
        | some 1, some (.ints k xs n T), some (.ints k' ys n' _) => match decide (k = k') with
          | true => some (Nat.ble (o + Nat.min len' len) n && Nat.ble (o' + Nat.min len' len) n', .v (.int .i64 (Nat.min len' len : Nat)),
              H.set b (.ints k (xs.take o ++ (ys.drop o').take (Nat.min len' len) ++ xs.drop (o + Nat.min len' len)) n T))
          | false => none
        | _, _, _ => none
      | _ => none
    | _, _ => none
  | _ => none
theorem set_map {α β : Type} (f : α → β) (l : List α) (i : Nat) (a : α) : (l.map f).set i (f a) = (l.set i a).map f := by
  induction l generalizing i with
  | nil => rfl
  | cons x l ih => cases i with
    | zero => rfl
    | succ i => simp only [List.map_cons, List.set_cons_succ, ih]
theorem stepI_ok {e : Env} {tm : List SV} {a : Act} {H H' : List (SB τ)} {Fr : PH} {o : Oper} {x : SV} {c : Bool} (hM : Models I e H Fr w) (ht : DenL e tm a.tmps.toList)
    (h : stepI P o.op tm H = some (c, x, H')) (hc : c = true) : Gave I P o a e Fr w x H H' := by
  unfold stepI at h
  split at h
  · rename_i T oa ox hop
    have hda := ev_ok ht oa
    have hdx := ev_ok ht ox
    split at h
    · rename_i b off k m hea hex
      rw [hea] at hda
      rw [hex] at hdx
      simp only [Den] at hda hdx
      obtain ⟨bn, hm, hav⟩ := hda
      split at h
      · rename_i k' xs n T' hb hs
        split at h
        · rename_i hk
          have hk := of_decide_eq_true hk
          subst hk
          simp only [Option.some.injEq, Prod.mk.injEq] at h
          obtain ⟨h1, rfl, rfl⟩ := h
          rw [hc, Nat.blt_eq] at h1
          obtain ⟨m', g1, g2, g3⟩ := hM.ints hb
          rw [hm] at g1; cases g1
          have hst := run_storeCells_at (P := P) bn off T' [Value.int k m] 0 (xs.map (Value.int k)).toArray w g3 (by simp; omega) (by intro v hv; simp at hv; subst hv; rfl)
          have hrow : ((xs.map (Value.int k)).toArray.toList.take off ++ [Value.int k m] ++ (xs.map (Value.int k)).toArray.toList.drop (off + 1)) = (xs.set off m).map (Value.int k) := by
            rw [← set_map, List.set_eq_take_append_cons_drop]
            rw [if_pos (by simp; omega)]
            simp
          have hsv : (storeVar T ⟨bn, off, none⟩ (.int k m)).run P w = .ok () (w.setRow bn ((xs.set off m).map (Value.int k)).toArray) := by
            have hs2 : ¬ ((Value.int k m).cells.size ≠ 1) := by simp [Value.cells]
            simp only [storeVar, Sem.run_bind, run_szT hs, Result.andThen_ok, hs2, if_false]
            have e1 : (Value.int k m).cells.toList = [Value.int k m] := rfl
            rw [e1, hst]
            simp only [List.length_singleton, Nat.add_zero] at hrow ⊢
            simp only [List.length_cons, List.length_nil, Nat.zero_add] at *
            rw [hrow]
          refine ⟨.skip, undef, w.setRow bn ((xs.set off m).map (Value.int k)).toArray, e, by simp [execOp, hop, hav, Instr.storeAt, Instr.sureAddr, hdx, hsv], .inr ⟨rfl, rfl⟩, Le.refl e, ?_, by simp [Den], fun _ => rfl⟩
          refine hM.turn (o' := .cells ((xs.set off m).map (Value.int k)).toArray T' (0, 0)) hb hm (fun hp hok => ?_) ⟨bn, hm, by simp [g2], rfl⟩ (setRow_heap w bn _ _ T' (0, 0) g3) (fun k hk => setRow_other w bn k _ hk) (stay_setRow w bn _)
          obtain ⟨n', q1, _, q3⟩ := hok
          rw [hm] at q1; cases q1
          exact ⟨_, q3⟩
        · cases h
      · cases h
    · cases h
  · rename_i args ats hop
    split at h
    · rename_i D D' b off len cap b' off' len' cap' hat hargs
      split at h
      · rename_i el hu
        split at h
        · rename_i k xs n T k' ys n' T' hs hb hb'
          split at h
          · rename_i hk
            have hk := of_decide_eq_true hk
            subst hk
            simp only [Option.some.injEq, Prod.mk.injEq] at h
            obtain ⟨h1, rfl, rfl⟩ := h
            generalize hmin : Nat.min len' len = mn at h1 ⊢
            rw [hc, Bool.and_eq_true, Nat.ble_eq, Nat.ble_eq] at h1
            obtain ⟨h1, h2⟩ := h1
            have hev := evs_ok ht args.toList
            rw [hargs] at hev
            simp only [DenL, Den] at hev
            obtain ⟨v1, r1, e1, ⟨m, hm, rfl⟩, v2, r2, rfl, ⟨m', hm', rfl⟩, rfl⟩ := hev
            obtain ⟨q, g1, g2, g3⟩ := hM.ints hb
            rw [hm] at g1; cases g1
            obtain ⟨q', k1, k2, k3⟩ := hM.ints hb'
            rw [hm'] at k1; cases k1
            have hargs' : args.map a.eval = #[.slice (some ⟨m, off, none⟩) len cap, .slice (some ⟨m', off', none⟩) len' cap'] := by apply Array.toList_inj.1; simpa using e1
            have hats : ats = #[D, D'] := by apply Array.toList_inj.1; simpa using hat
            have hseg : (((ys.drop off').take mn).map (Value.int k)).length = mn := by simp; omega
            have hld := run_loadCells_list (P := P) w ⟨m', off', none⟩ (((ys.drop off').take mn).map (Value.int k)) (fun j v hj => by
              rw [add_none, cell_at k3]
              have hj2 : j < mn := by have := (List.getElem?_eq_some_iff.1 hj).1; omega
              rw [List.getElem?_map, List.getElem?_take_of_lt hj2, List.getElem?_drop] at hj
              simpa using hj)
            rw [hseg] at hld
            have hst := run_storeCells_at (P := P) m off T (((ys.drop off').take mn).map (Value.int k)) 0 (xs.map (Value.int k)).toArray w g3 (by rw [hseg]; simp; omega) (by intro v hv; obtain ⟨z, _, rfl⟩ := List.mem_map.1 hv; rfl)
            rw [hseg] at hst
            have hrow : ((xs.map (Value.int k)).take off ++ ((ys.drop off').take mn).map (Value.int k) ++ (xs.map (Value.int k)).drop (off + mn)) = (xs.take off ++ (ys.drop off').take mn ++ xs.drop (off + mn)).map (Value.int k) := by simp
            have hcp : (Builtin.copy_ #[D, D'] o.type #[.slice (some ⟨m, off, none⟩) len cap, .slice (some ⟨m', off', none⟩) len' cap']).run P w = .ok (goInt mn) (w.setRow m ((xs.take off ++ (ys.drop off').take mn ++ xs.drop (off + mn)).map (Value.int k)).toArray) := by
              simp only [Nat.add_zero, Nat.zero_add, List.toList_toArray] at hst
              rw [hrow] at hst
              have hq : ∀ f : Array Value → Sem Value, ((loadCells ⟨m', off', none⟩ (mn * 1) >>= f) : Sem Value).run P w = (f (((ys.drop off').take mn).map (Value.int k)).toArray).run P w := fun f => by
                rw [Nat.mul_one, Sem.run_bind, hld, Result.andThen_ok]
              have : ∀ (y : Value) (b : Addr), ((do storeCells b (((ys.drop off').take mn).map (Value.int k)); pure y : Sem Value)).run P w = ((storeCells b (((ys.drop off').take mn).map (Value.int k))).run P w).andThen fun _ w => .ok y w := fun y b => by
                simp only [Sem.run_bind, Sem.run_pure]
              unfold Builtin.copy_
              simp only [List.getElem?_toArray, List.getElem?_cons_zero, List.getElem?_cons_succ, Sem.run_bind, run_und hu, Result.andThen_ok, Builtin.lenOf, Sem.run_pure, Builtin.firstCells, run_szT hs, hmin, Nat.mul_one, hld, hst]
            refine ⟨.value (goInt mn), goInt mn, w.setRow m ((xs.take off ++ (ys.drop off').take mn ++ xs.drop (off + mn)).map (Value.int k)).toArray, e, ?_, .inl rfl, Le.refl e, ?_, by simp [Den, goInt], fun _ => rfl⟩
            · simp only [execOp, hop, resolve, hargs', invoke, hats, builtin, Sem.run_bind, Sem.run_pure, Result.andThen_ok, hcp]
            · refine hM.turn (o' := .cells ((xs.take off ++ (ys.drop off').take mn ++ xs.drop (off + mn)).map (Value.int k)).toArray T (0, 0)) hb hm (fun hp hok => ?_) ⟨m, hm, by simp; omega, rfl⟩ (setRow_heap w m _ _ T (0, 0) g3) (fun q hq => setRow_other w m q _ hq) (stay_setRow w m _)
              obtain ⟨n', q1, _, q3⟩ := hok
              rw [hm] at q1; cases q1
              exact ⟨_, q3⟩
          · cases h
        · cases h
      · cases h
    · cases h
  · cases h
end Go.Sym
namespace Go.Sym
open Go
variable {P : Program} {w : World} {τ : Type} {I : Inv τ}
theorem join_none {h h' : PH} {k : Nat} : join h h' k = none ↔ h k = none ∧ h' k = none := by
  unfold join
  cases h k <;> simp
theorem join_sub_left {h h' : PH} {k : Nat} {o : Obj} (hk : h k = some o) : join h h' k = some o := by simp [join, hk]
theorem join_sub_right {h h' : PH} (hd : Disj h h') {k : Nat} {o : Obj} (hk : h' k = some o) : join h h' k = some o := by
  rcases hd k with e | e
  · simp [join, e, hk]
  · rw [hk] at e; cases e
theorem join_some {h h' : PH} {k : Nat} {o : Obj} (hk : join h h' k = some o) : h k = some o ∨ h' k = some o := by
  unfold join at hk
  cases hq : h k with
  | none => rw [hq] at hk; exact .inr hk
  | some x => rw [hq] at hk; simp only [Option.some.injEq] at hk; subst hk; exact .inl rfl
theorem join_emp (h : PH) : join emp h = h := by funext k; simp [join, emp]
theorem join_emp' (h : PH) : join h emp = h := by funext k; unfold join emp; cases h k <;> rfl
theorem join_assoc (a b c : PH) : join (join a b) c = join a (join b c) := by
  funext k; unfold join; cases a k <;> rfl
theorem join_comm {a b : PH} (h : Disj a b) : join a b = join b a := by
  funext k
  unfold join
  rcases h k with e | e
  · rw [e]; cases b k <;> rfl
  · rw [e]; cases a k <;> rfl
theorem disj_join {a b c : PH} : Disj a (join b c) ↔ Disj a b ∧ Disj a c := by
  constructor
  · intro h
    refine ⟨fun k => ?_, fun k => ?_⟩
    · rcases h k with e | e
      · exact .inl e
      · exact .inr (join_none.1 e).1
    · rcases h k with e | e
      · exact .inl e
      · exact .inr (join_none.1 e).2
  · rintro ⟨h1, h2⟩ k
    rcases h1 k with e | e
    · exact .inl e
    · rcases h2 k with e' | e'
      · exact .inl e'
      · exact .inr (join_none.2 ⟨e, e'⟩)
theorem Disj.symm {a b : PH} (h : Disj a b) : Disj b a := fun k => (h k).symm
theorem sub_join {a b : PH} {w : World} (hd : Disj a b) : Sub (join a b) w ↔ Sub a w ∧ Sub b w := by
  constructor
  · intro h
    exact ⟨fun k o hk => h k o (join_sub_left hk), fun k o hk => h k o (join_sub_right hd hk)⟩
  · rintro ⟨h1, h2⟩ k o hk
    rcases join_some hk with e | e
    · exact h1 k o e
    · exact h2 k o e
theorem emp_disj (h : PH) : Disj emp h := fun _ => .inl rfl
theorem disj_emp (h : PH) : Disj h emp := fun _ => .inr rfl
theorem single_ne {n k : Nat} {o : Obj} : single n o k ≠ none ↔ k = n := by unfold single; split <;> simp_all
theorem sub_single {n : Nat} {o : Obj} (h : w.heap[n]? = some o) : Sub (single n o) w := fun k x hk => by
  unfold single at hk
  split at hk
  · rename_i e; subst e; simp only [Option.some.injEq] at hk; subst hk; exact h
  · cases hk
theorem single_self (n : Nat) (o : Obj) : single n o n = some o := by simp [single]
def RowIn (w : World) (v : Value) (n sz : Nat) (T : TypeId) (vs : List Value) : Prop :=
  vs.length = n * sz ∧ ((v = .slice none 0 0 ∧ n = 0) ∨
    ∃ g cap rest, v = .slice (some ⟨g, 0, none⟩) n cap ∧ w.heap[g]? = some (.cells (vs ++ rest).toArray T (0, 0)) ∧ n ≤ cap ∧ cap ≤ maxLen ∧ (vs ++ rest).length = cap * sz)
theorem RowOk.in {v : Value} {n sz : Nat} {T : TypeId} {vs : List Value} {h : PH} (hr : RowOk v n sz T vs h) (hs : Sub h w) : RowIn w v n sz T vs := by
  obtain ⟨h1, ⟨h2, h3, _⟩ | ⟨g, cap, rest, h2, h3, h4⟩⟩ := hr
  · exact ⟨h1, .inl ⟨h2, h3⟩⟩
  · exact ⟨h1, .inr ⟨g, cap, rest, h2, hs g _ (by rw [h3]; exact single_self _ _), h4⟩⟩
theorem RowOk.one {v : Value} {n sz : Nat} {T : TypeId} {vs : List Value} {h : PH} (hr : RowOk v n sz T vs h) : v.oneCell' = true := by
  obtain ⟨h1, ⟨rfl, _⟩ | ⟨g, cap, rest, rfl, _⟩⟩ := hr <;> rfl
theorem RowIn.slice {v : Value} {n sz : Nat} {T : TypeId} {vs : List Value} (h : RowIn w v n sz T vs) : ∃ a cap, v = .slice a n cap := by
  obtain ⟨h1, ⟨rfl, rfl⟩ | ⟨g, cap, rest, rfl, _⟩⟩ := h
  · exact ⟨_, _, rfl⟩
  · exact ⟨_, _, rfl⟩
theorem Rws.rows_length (R : Rws) : R.rows.length = R.len := by cases R <;> simp [Rws.rows, Rws.len]
theorem RowsOk.length {T sz : Nat} : ∀ {us : List Value} {rs : List (Nat × List Value)} {h : PH}, RowsOk T sz us rs h → us.length = rs.length
  | [], [], _, _ => rfl
  | [], _ :: _, _, h => h.elim
  | _ :: _, [], _, h => h.elim
  | _ :: us, _ :: rs, _, ⟨_, _, _, h, _, _⟩ => by simp [RowsOk.length h]
theorem RowsOk.split {T sz : Nat} : ∀ {us : List Value} {rs : List (Nat × List Value)} {h : PH} {i : Nat} {r : Nat × List Value}, RowsOk T sz us rs h → rs[i]? = some r →
    ∃ v h1 h2, us[i]? = some v ∧ RowOk v r.1 sz T r.2 h1 ∧ Disj h1 h2 ∧ h = join h1 h2 ∧
      ∀ v' r' h1', RowOk v' r'.1 sz T r'.2 h1' → Disj h1' h2 → RowsOk T sz (us.set i v') (rs.set i r') (join h1' h2)
  | [], [], _, _, _, _, hi => by simp at hi
  | [], _ :: _, _, _, _, h, _ => h.elim
  | _ :: _, [], _, _, _, h, _ => h.elim
  | u :: us, r0 :: rs, _, 0, r, ⟨h1, h2, ho, hr, hd, e⟩, hi => by
    simp only [List.getElem?_cons_zero, Option.some.injEq] at hi
    subst hi
    exact ⟨u, h1, h2, rfl, ho, hd, e, fun v' r' h1' ho' hd' => ⟨h1', h2, ho', hr, hd', rfl⟩⟩
  | u :: us, r0 :: rs, _, i + 1, r, ⟨h1, h2, ho, hr, hd, e⟩, hi => by
    simp only [List.getElem?_cons_succ] at hi
    obtain ⟨v, k1, k2, g1, g2, g3, g4, g5⟩ := RowsOk.split hr hi
    subst g4
    rw [disj_join] at hd
    refine ⟨v, k1, join h1 k2, by simpa using g1, g2, disj_join.2 ⟨hd.1.symm, g3⟩, ?_, fun v' r' h1' ho' hd' => ?_⟩
    · rw [e, ← join_assoc, ← join_assoc, join_comm hd.1]
    · rw [disj_join] at hd'
      refine ⟨h1, join h1' k2, ho, g5 v' r' h1' ho' hd'.2, disj_join.2 ⟨hd'.1.symm, hd.2⟩, ?_⟩
      rw [← join_assoc, ← join_assoc, join_comm hd'.1]
theorem RowsOk.snoc {T sz : Nat} : ∀ {us : List Value} {rs : List (Nat × List Value)} {h h' : PH} {v : Value} {r : Nat × List Value}, RowsOk T sz us rs h → RowOk v r.1 sz T r.2 h' → Disj h h' →
    RowsOk T sz (us ++ [v]) (rs ++ [r]) (join h h')
  | [], [], h, h', v, r, e, ho, hd => by
    have e : h = emp := e
    subst e
    rw [join_emp]
    exact ⟨h', emp, ho, rfl, disj_emp _, (join_emp' _).symm⟩
  | [], _ :: _, _, _, _, _, h, _, _ => h.elim
  | _ :: _, [], _, _, _, _, h, _, _ => h.elim
  | u :: us, r0 :: rs, _, h', v, r, ⟨h1, h2, ho, hr, hd, e⟩, ho', hd' => by
    subst e
    rw [Go.Sym.join_assoc]
    have hd2 : Disj h1 h' ∧ Disj h2 h' := by
      have := disj_join.1 hd'.symm
      exact ⟨this.1.symm, this.2.symm⟩
    exact ⟨h1, join h2 h', ho, hr.snoc ho' hd2.2, disj_join.2 ⟨hd, hd2.1⟩, rfl⟩
def hsel (x : SV) : Option (Nat × Nat × Option Nat × List Nat) :=
  match x with
  | .h b p => match p with
    | ep :: q => match q with
      | t :: r => match t with
        | 0 => some (b, ep, none, r)
        | 1 => match r with
          | i :: r => some (b, ep, some i, r)
          | [] => none
        | _ => none
      | [] => none
    | [] => none
  | _ => none
def selQ (sel : Option Nat) (r : List Nat) : List Nat :=
  match sel with
  | none => 0 :: r
  | some i => 1 :: i :: r
def selP (ep : Nat) (sel : Option Nat) (r : List Nat) : List Nat := ep :: selQ sel r
theorem hsel_ok {x : SV} {b ep : Nat} {sel : Option Nat} {r : List Nat} (h : hsel x = some (b, ep, sel, r)) : x = .h b (selP ep sel r) := by
  unfold hsel at h
  split at h
  · split at h
    · split at h
      · split at h
        · simp only [Option.some.injEq, Prod.mk.injEq] at h; obtain ⟨rfl, rfl, rfl, rfl⟩ := h; rfl
        · split at h
          · simp only [Option.some.injEq, Prod.mk.injEq] at h; obtain ⟨rfl, rfl, rfl, rfl⟩ := h; rfl
          · cases h
        · cases h
      · cases h
    · cases h
  · cases h
def Rws.at (R : Rws) (i : Nat) : Cn :=
  match R with
  | .i k l => .ints k (l.getD i [])
  | .c l => .recs (l.getD i [])
def Rws.nAt (R : Rws) (i : Nat) : Nat :=
  match R with
  | .i _ l => (l.getD i []).length
  | .c l => (l.getD i []).length
def getR (H : List (SB τ)) (b ep : Nat) (sel : Option Nat) : Option (Bool × Cn × Nat × Nat × TypeId) :=
  match H[b]? with
  | some (.own c n T sz q _) => match sel with
    | none => some (Nat.beq q ep, c, n, sz, T)
    | some _ => none
  | some (.rows R T _ _ q _) => match sel with
    | some i => some (Nat.beq q ep && Nat.blt i R.len, R.at i, R.nAt i, R.sz, T)
    | none => none
  | _ => none
theorem Rws.rows_at (R : Rws) {i : Nat} (h : i < R.len) : ∃ r, R.rows[i]? = some r ∧ r.1 = R.nAt i ∧ ∀ e, (R.at i).den e r.2 := by
  cases R with
  | i k l =>
    simp only [Rws.len] at h
    refine ⟨(l[i].length, l[i].map (Value.int k)), by simp [Rws.rows, h], by simp [Rws.nAt, List.getD, h], fun e => ?_⟩
    simp [Rws.at, Cn.den, List.getD, h]
  | c l =>
    simp only [Rws.len] at h
    refine ⟨(l[i].length, cvals l[i]), by simp [Rws.rows, h], by simp [Rws.nAt, List.getD, h], fun e => ?_⟩
    simp [Rws.at, Cn.den, List.getD, h]
theorem den_h {e : Env} {b ep : Nat} {sel : Option Nat} {r : List Nat} {v : Value} (h : Den e (.h b (selP ep sel r)) v) :
    ∃ f g, e b = some (.hd f) ∧ f ep = some g ∧ v = g (selQ sel r) ∧ v.oneCell' = true := by
  simp only [Den] at h
  obtain ⟨f, h1, h2, h3⟩ := h
  simp only [selP, hdAt, Option.map_eq_some_iff] at h2
  obtain ⟨g, h4, h5⟩ := h2
  exact ⟨f, g, h1, h4, h5.symm, h3⟩
theorem h_den {e : Env} {b ep : Nat} {sel : Option Nat} {r : List Nat} {f : Nat → Option (List Nat → Value)} {g : List Nat → Value} (h1 : e b = some (.hd f)) (h2 : f ep = some g)
    (h3 : (g (selQ sel r)).oneCell' = true) : Den e (.h b (selP ep sel r)) (g (selQ sel r)) := by
  simp only [Den]
  exact ⟨f, h1, by simp [selP, hdAt, h2], h3⟩
theorem getR_ok {e : Env} {H : List (SB τ)} {Fr : PH} (hM : Models I e H Fr w) {b ep : Nat} {sel : Option Nat} {c : Bool} {cn : Cn} {n sz : Nat} {T : TypeId} (h : getR H b ep sel = some (c, cn, n, sz, T)) (hc : c = true) :
    ∃ f g u vs, e b = some (.hd f) ∧ f ep = some g ∧ (∀ r, g (selQ sel r) = rowRef sz u r) ∧ cn.den e vs ∧ RowIn w u n sz T vs ∧ u.oneCell' = true := by
  unfold getR at h
  split at h
  · rename_i c' n' T' sz' q nn hb
    split at h
    · simp only [Option.some.injEq, Prod.mk.injEq] at h
      obtain ⟨h1, rfl, rfl, rfl, rfl⟩ := h
      rw [hc, Nat.beq_eq] at h1
      subst h1
      obtain ⟨hn, ⟨f, v, vs, g1, g2, g3, g4, g5, g6⟩, hs⟩ := hM.item hb
      exact ⟨f, _, v, vs, g1, g2, fun _ => rfl, g4, g5.in hs, g5.one⟩
    · cases h
  · rename_i R T' TS oe q pd hb
    split at h
    · rename_i i
      simp only [Option.some.injEq, Prod.mk.injEq] at h
      obtain ⟨h1, rfl, rfl, rfl, rfl⟩ := h
      rw [hc, Bool.and_eq_true, Nat.beq_eq, Nat.blt_eq] at h1
      obtain ⟨rfl, h1⟩ := h1
      obtain ⟨hn, ⟨f, u, us, hs, ho, hr, g1, g2, g3, g4, g4', g5, g6, g7, rfl⟩, hs⟩ := hM.item hb
      obtain ⟨r, q1, q2, q3⟩ := R.rows_at h1
      obtain ⟨v, k1, k2, p1, p2, p3, rfl, _⟩ := g6.split q1
      rw [sub_join g7, sub_join p3] at hs
      refine ⟨f, _, v, r.2, g1, g2, fun r' => ?_, q3 e, ?_, p2.one⟩
      · show rowRef R.sz (us.getD i undef) r' = rowRef R.sz v r'
        rw [List.getD, p1]; rfl
      · rw [← q2]; exact p2.in hs.2.1
    · cases h
  · cases h
end Go.Sym
namespace Go.Sym
open Go
variable {P : Program} {w : World} {τ : Type} {I : Inv τ}
def baseN (H : List (SB τ)) (b ep : Nat) (sel : Option Nat) : Option (Bool × Nat × Nat) :=
  match getR H b ep sel with
  | some (c, _, n, sz, _) => some (c, n, sz)
  | none => match sel with
    | none => match H[b]? with
      | some (.rows R _ _ q _ _) => some (Nat.beq q ep, R.len, 1)
      | some (.limbo _ _ L _ _ q) => some (Nat.beq q ep, L.rows.length, 1)
      | _ => none
    | some _ => none
def SliceIn (u : Value) (n : Nat) : Prop := (u = .slice none 0 0 ∧ n = 0) ∨ ∃ g cap, u = .slice (some ⟨g, 0, none⟩) n cap ∧ n ≤ cap ∧ cap ≤ maxLen
theorem RowIn.sliceIn {v : Value} {n sz : Nat} {T : TypeId} {vs : List Value} (h : RowIn w v n sz T vs) : SliceIn v n := by
  obtain ⟨_, h | ⟨g, cap, rest, h1, _, h2, h3, _⟩⟩ := h
  · exact .inl h
  · exact .inr ⟨g, cap, h1, h2, h3⟩
theorem RowOk.sliceIn {v : Value} {n sz : Nat} {T : TypeId} {vs : List Value} {h : PH} (hr : RowOk v n sz T vs h) : SliceIn v n := by
  obtain ⟨_, ⟨h, h', _⟩ | ⟨g, cap, rest, h1, _, h2, h3, _⟩⟩ := hr
  · exact .inl ⟨h, h'⟩
  · exact .inr ⟨g, cap, h1, h2, h3⟩
theorem hdrs_length {pd : Option Nat} {us hs : List Value} (h : hdrs pd us hs) : hs.length = us.length := by
  cases pd with
  | none => rw [show hs = us from h]
  | some i => exact h.1
theorem LimOk.length {T sz : Nat} {g : List Nat → Value} : ∀ {us : List Value} {rs : List (Nat ⊕ (Nat × List Value))} {h : PH}, LimOk T sz g us rs h → us.length = rs.length
  | [], [], _, _ => rfl
  | [], _ :: _, _, h => h.elim
  | _ :: _, [], _, h => h.elim
  | _ :: us, .inl _ :: rs, _, ⟨_, h⟩ => by simp [LimOk.length h]
  | _ :: us, .inr _ :: rs, _, ⟨_, _, _, h, _, _⟩ => by simp [LimOk.length h]
theorem baseN_ok {e : Env} {H : List (SB τ)} {Fr : PH} (hM : Models I e H Fr w) {b ep : Nat} {sel : Option Nat} {c : Bool} {n sz : Nat} (h : baseN H b ep sel = some (c, n, sz)) (hc : c = true) :
    ∃ f g u, e b = some (.hd f) ∧ f ep = some g ∧ (∀ r, g (selQ sel r) = rowRef sz u r) ∧ SliceIn u n := by
  unfold baseN at h
  split at h
  · rename_i c' cn n' sz' T hg
    simp only [Option.some.injEq, Prod.mk.injEq] at h
    obtain ⟨rfl, rfl, rfl⟩ := h
    obtain ⟨f, g, u, vs, h1, h2, h3, _, h5, _⟩ := getR_ok hM hg hc
    exact ⟨f, g, u, h1, h2, h3, h5.sliceIn⟩
  · split at h
    · split at h
      · rename_i R T' TS q re pd hb
        simp only [Option.some.injEq, Prod.mk.injEq] at h
        obtain ⟨h1, rfl, rfl⟩ := h
        rw [hc, Nat.beq_eq] at h1
        subst h1
        obtain ⟨hn, ⟨f, u, us, hs, ho, hr, g1, g2, ⟨_, ⟨g0, g2', g2''⟩, g3⟩, g4, g4', g5, g6, g7, rfl⟩, hs'⟩ := hM.item hb
        refine ⟨f, g0, u, g1, g2', fun r => g2'' r, ?_⟩
        rw [← R.rows_length, ← g6.length, ← hdrs_length g4]
        exact g5.sliceIn
      · rename_i b' q L T' TS q' hb
        simp only [Option.some.injEq, Prod.mk.injEq] at h
        obtain ⟨h1, rfl, rfl⟩ := h
        rw [hc, Nat.beq_eq] at h1
        subst h1
        obtain ⟨hn, ⟨f, u, us, ho, hr, fb, gb, g1, g2, g3, g4, g5, g5', g6, g7, g8, rfl⟩, hs'⟩ := hM.item hb
        refine ⟨f, _, u, g1, g2, fun r => rfl, ?_⟩
        rw [← g7.length]
        exact g6.sliceIn
      · cases h
    · cases h
def recS (c : C4) : List SV := [.v (.int .i32 c.g), .v (.int .i64 c.a), .v (.bool c.gd), .v (.int .i64 c.m)]
theorem recS_den {e : Env} (c : C4) : DenL e (recS c) c.vals := by
  simp only [recS, C4.vals, DenL, Den]
  exact ⟨_, _, rfl, rfl, _, _, rfl, rfl, _, _, rfl, rfl, _, _, rfl, rfl, rfl⟩
theorem cvals_drop : ∀ (l : List C4) (i : Nat), (cvals l).drop (i * 4) = cvals (l.drop i)
  | l, 0 => by simp
  | [], i + 1 => by simp [cvals]
  | c :: l, i + 1 => by
    have h := cvals_drop l i
    simp only [cvals, List.flatMap_cons, List.drop_succ_cons] at h ⊢
    rw [show (i + 1) * 4 = c.vals.length + i * 4 by simp [C4.vals]; omega, ← List.drop_drop]
    simp [h]
theorem cvals_take : ∀ (l : List C4) (i : Nat), (cvals l).take (i * 4) = cvals (l.take i)
  | l, 0 => by simp [cvals]
  | [], i + 1 => by simp [cvals]
  | c :: l, i + 1 => by
    have h := cvals_take l i
    simp only [cvals, List.flatMap_cons, List.take_succ_cons] at h ⊢
    rw [List.take_append, show (i + 1) * 4 - c.vals.length = i * 4 by simp [C4.vals]; omega, h]
    congr 1
    rw [List.take_of_length_le]
    simp [C4.vals]; omega
theorem cvals_append (l r : List C4) : cvals (l ++ r) = cvals l ++ cvals r := by simp [cvals]
theorem cvals_get {l : List C4} {i : Nat} (h : i < l.length) (k : Nat) (hk : k < 4) : (cvals l)[i * 4 + k]? = (l[i]).vals[k]? := by
  have h1 : (cvals l)[i * 4 + k]? = ((cvals l).drop (i * 4))[k]? := by rw [List.getElem?_drop]
  rw [h1, cvals_drop, List.drop_eq_getElem_cons h]
  simp only [cvals, List.flatMap_cons]
  rw [List.getElem?_append_left (by simpa [C4.vals] using hk)]
theorem cvals_one {v : Value} {l : List C4} (h : v ∈ cvals l) : v.oneCell' = true := by
  unfold cvals at h
  rw [List.mem_flatMap] at h
  obtain ⟨c, _, h⟩ := h
  simp only [C4.vals, List.mem_cons, List.not_mem_nil, or_false] at h
  rcases h with rfl | rfl | rfl | rfl <;> rfl
def fieldC (c : C4) (o : Nat) : Option SV :=
  match o with
  | 0 => some (.v (.int .i32 c.g))
  | 1 => some (.v (.int .i64 c.a))
  | 2 => some (.v (.bool c.gd))
  | 3 => some (.v (.int .i64 c.m))
  | _ => none
def readR (P : Program) (T : TypeId) (cn : Cn) (sz i o : Nat) : Option (Bool × SV) :=
  match cn with
  | .ints k xs => match aggT P T, Nat.beq sz 1, o with
    | some false, true, 0 => some (Nat.blt i xs.length, .v (.int k (xs.getD i 0)))
    | _, _, _ => none
  | .recs xs => match aggT P T, szT P T, Nat.beq sz 4 with
    | some true, some 4, true => match o with
      | 0 => some (Nat.blt i xs.length, .a (recS (xs.getD i C4.no)))
      | _ => none
    | some false, _, true => (fieldC (xs.getD i C4.no) o).map fun y => (Nat.blt i xs.length, y)
    | _, _, _ => none
  | .sv l => match Nat.blt 0 l.length with
    | true => (loadC P T (i * sz + o) l).map ((true, ·))
    | false => none
theorem loadC_prefix {T : TypeId} {o : Nat} {l l' : List SV} {x : SV} (h : loadC P T o l = some x) : loadC P T o (l ++ l') = some x := by
  unfold loadC at h ⊢
  split at h
  · rename_i k ha hs
    split at h
    · rename_i hb
      rw [Nat.ble_eq] at hb
      have hb' : Nat.ble (o + k) (l ++ l').length = true := by rw [Nat.ble_eq]; simp; omega
      simp only [hb']
      rw [List.drop_append_of_le_length (by omega), List.take_append_of_le_length (by simp; omega)]
      exact h
    · cases h
  · have hlt := (List.getElem?_eq_some_iff.1 h).1
    show (l ++ l')[o]? = some x
    rw [List.getElem?_append_left hlt]
    exact h
  · cases h
theorem run_load_one {T : TypeId} {g o : Nat} {cs : Array Value} {T' : TypeId} {fz : Nat × Nat} {v : Value} (ha : aggT P T = some false) (hg : w.heap[g]? = some (.cells cs T' fz)) (hv : cs[o]? = some v) : (loadVar T ⟨g, o, none⟩).run P w = .ok v w := by
  have hc : w.cell? ⟨g, o, none⟩ = some v := by rw [cell_at hg]; exact hv
  simp only [loadVar, Sem.run_bind, run_aggT ha, Result.andThen_ok, Bool.false_eq_true, if_false, run_load, hc]
theorem run_load_agg {T : TypeId} {g o n : Nat} {cs : Array Value} {T' : TypeId} {fz : Nat × Nat} {vs : List Value} (ha : aggT P T = some true) (hs : szT P T = some n) (hg : w.heap[g]? = some (.cells cs T' fz)) (hl : vs.length = n) (hv : ∀ j v, vs[j]? = some v → cs[o + j]? = some v) :
    (loadVar T ⟨g, o, none⟩).run P w = .ok (.agg vs.toArray) w := by
  have hl' := run_loadCells_list (P := P) w ⟨g, o, none⟩ vs (fun j v hj => by
    rw [add_none, cell_at hg]
    exact hv j v hj)
  rw [hl] at hl'
  simp only [loadVar, Sem.run_bind, run_aggT ha, Result.andThen_ok, if_true, run_szT hs, hl', Sem.run_pure]
theorem readR_ok {e : Env} {T : TypeId} {cn : Cn} {sz i o : Nat} {c : Bool} {x : SV} {u : Value} {n : Nat} {T' : TypeId} {vs : List Value} (h : readR P T cn sz i o = some (c, x)) (hc : c = true)
    (hd : cn.den e vs) (hr : RowIn w u n sz T' vs) : ∃ g cap v, u = .slice (some ⟨g, 0, none⟩) n cap ∧ (loadVar T ⟨g, i * sz + o, none⟩).run P w = .ok v w ∧ Den e x v := by
  have hblk : (0 < vs.length) → ∃ g cap rest, u = .slice (some ⟨g, 0, none⟩) n cap ∧ w.heap[g]? = some (.cells (vs ++ rest).toArray T' (0, 0)) := fun hpos => by
    obtain ⟨h1, ⟨_, rfl⟩ | ⟨g, cap, rest, h2, h3, _⟩⟩ := hr
    · simp at h1; simp [h1] at hpos
    · exact ⟨g, cap, rest, h2, h3⟩
  unfold readR at h
  split at h
  · rename_i k xs
    simp only [Cn.den] at hd
    subst hd
    split at h
    · rename_i ha hs
      rw [Nat.beq_eq] at hs
      subst hs
      simp only [Option.some.injEq, Prod.mk.injEq] at h
      obtain ⟨h1, rfl⟩ := h
      rw [hc, Nat.blt_eq] at h1
      obtain ⟨g, cap, rest, h2, h3⟩ := hblk (by simp; omega)
      refine ⟨g, cap, .int k (xs.getD i 0), h2, run_load_one ha h3 ?_, by simp [Den]⟩
      simp [List.getElem?_append, h1]
    · cases h
  · rename_i xs
    simp only [Cn.den] at hd
    subst hd
    split at h
    · rename_i ha hsz hs
      rw [Nat.beq_eq] at hs
      subst hs
      split at h
      · simp only [Option.some.injEq, Prod.mk.injEq] at h
        obtain ⟨h1, rfl⟩ := h
        rw [hc, Nat.blt_eq] at h1
        obtain ⟨g, cap, rest, h2, h3⟩ := hblk (by rw [cvals_length]; omega)
        refine ⟨g, cap, .agg (xs.getD i C4.no).vals.toArray, h2, run_load_agg ha hsz h3 rfl (fun j v hj => ?_), ?_⟩
        · have hj4 : j < 4 := by have := (List.getElem?_eq_some_iff.1 hj).1; simpa [C4.vals] using this
          have := cvals_get h1 j hj4
          simp only [List.getElem?_toArray, Nat.add_zero]
          rw [List.getElem?_append_left (by rw [cvals_length]; omega), this]
          simpa [List.getD, h1] using hj
        · simp only [Den]; exact ⟨_, recS_den _, rfl⟩
      · cases h
    · rename_i ha hs
      rw [Nat.beq_eq] at hs
      subst hs
      simp only [Option.map_eq_some_iff, Prod.mk.injEq] at h
      obtain ⟨y, hy, h1, rfl⟩ := h
      rw [hc, Nat.blt_eq] at h1
      obtain ⟨g, cap, rest, h2, h3⟩ := hblk (by rw [cvals_length]; omega)
      have key : ∀ k v, k < 4 → (xs.getD i C4.no).vals[k]? = some v → (cvals xs ++ rest).toArray[i * 4 + k]? = some v := fun k v hk hv => by
        have := cvals_get h1 k hk
        simp only [List.getElem?_toArray]
        rw [List.getElem?_append_left (by rw [cvals_length]; omega), this]
        simpa [List.getD, h1] using hv
      unfold fieldC at hy
      split at hy
      · simp only [Option.some.injEq] at hy; subst hy
        exact ⟨g, cap, _, h2, run_load_one ha h3 (key 0 _ (by omega) rfl), by simp [Den]⟩
      · simp only [Option.some.injEq] at hy; subst hy
        exact ⟨g, cap, _, h2, run_load_one ha h3 (key 1 _ (by omega) rfl), by simp [Den]⟩
      · simp only [Option.some.injEq] at hy; subst hy
        exact ⟨g, cap, _, h2, run_load_one ha h3 (key 2 _ (by omega) rfl), by simp [Den]⟩
      · simp only [Option.some.injEq] at hy; subst hy
        exact ⟨g, cap, _, h2, run_load_one ha h3 (key 3 _ (by omega) rfl), by simp [Den]⟩
      · cases hy
    · cases h
  · rename_i l
    split at h
    · rename_i hpos
      rw [Nat.blt_eq] at hpos
      simp only [Option.map_eq_some_iff, Prod.mk.injEq] at h
      obtain ⟨y, hy, _, rfl⟩ := h
      have hd : DenL e l vs := hd
      obtain ⟨g, cap, rest, h2, h3⟩ := hblk (by rw [← hd.length]; exact hpos)
      have hd2 : DenL e (l ++ List.replicate rest.length .any) (vs ++ rest) := hd.append (by
        clear h3
        induction rest with
        | nil => simp [DenL]
        | cons y r ih => simp only [List.length_cons, List.replicate_succ, DenL]; exact ⟨_, _, rfl, by simp [Den], ih⟩)
      obtain ⟨v, hv, hdv⟩ := loadC_ok (P := P) (loadC_prefix (l' := List.replicate rest.length .any) hy) hd2 h3
      exact ⟨g, cap, v, h2, hv, hdv⟩
    · cases h
end Go.Sym
namespace Go.Sym
open Go
variable {P : Program} {w : World} {τ : Type} {I : Inv τ}
def lenH (x : SV) (H : List (SB τ)) : Option (Bool × SV) :=
  match hsel x with
  | some (b, ep, sel, r) => match baseN H b ep sel with
    | some (c, n, _) => match r with
      | [] => some (c, .v (.int .i64 n))
      | [_, len, _] => some (c && Nat.blt 0 n, .v (.int .i64 len))
      | _ => none
    | none => none
  | none => none
theorem lenH_ok {e : Env} {H : List (SB τ)} {Fr : PH} {x y : SV} {c : Bool} {v : Value} (hM : Models I e H Fr w) (h : lenH x H = some (c, y)) (hc : c = true) (hd : Den e x v) :
    ∃ a n cap, v = .slice a n cap ∧ y = .v (.int .i64 n) := by
  unfold lenH at h
  split at h
  · rename_i b ep sel r hs
    rw [hsel_ok hs] at hd
    split at h
    · rename_i c' n sz hb
      obtain ⟨f, g, hf, hg, hv, _⟩ := den_h hd
      split at h
      · simp only [Option.some.injEq, Prod.mk.injEq] at h
        obtain ⟨h1, rfl⟩ := h
        obtain ⟨f', g', u, k1, k2, k3, k4⟩ := baseN_ok hM hb (by rw [h1, hc])
        rw [hf] at k1; cases k1
        rw [hg] at k2; cases k2
        rw [k3] at hv
        rcases k4 with ⟨rfl, rfl⟩ | ⟨g0, cap, rfl, _⟩
        · exact ⟨_, _, _, hv, rfl⟩
        · exact ⟨_, _, _, hv, rfl⟩
      · rename_i lo len z
        simp only [Option.some.injEq, Prod.mk.injEq] at h
        obtain ⟨h1, rfl⟩ := h
        rw [hc, Bool.and_eq_true, Nat.blt_eq] at h1
        obtain ⟨f', g', u, k1, k2, k3, k4⟩ := baseN_ok hM hb h1.1
        rw [hf] at k1; cases k1
        rw [hg] at k2; cases k2
        rw [k3] at hv
        rcases k4 with ⟨rfl, rfl⟩ | ⟨g0, cap, rfl, _⟩
        · omega
        · exact ⟨_, _, _, hv, rfl⟩
      · cases h
    · cases h
  · cases h
def idxH (x : SV) (H : List (SB τ)) (i : Int) (k : Nat) : Option (Bool × SV) :=
  match hsel x with
  | some (b, ep, sel, r) => match baseN H b ep sel with
    | some (c, n, sz) => match r with
      | [] => some (c && (Nat.beq sz k && decide (0 ≤ i ∧ i < (n : Int))), .h b (selP ep sel [i.toNat, 0]))
      | [lo, len, _] => some (c && (Nat.beq sz k && (Nat.ble (lo + len) n && decide (0 ≤ i ∧ i < (len : Int)))), .h b (selP ep sel [lo + i.toNat, 0]))
      | _ => none
    | none => none
  | none => none
theorem idxH_ok {e : Env} {H : List (SB τ)} {Fr : PH} {T el : TypeId} {x y : SV} {c : Bool} {k : Nat} {kd : IntKind} {i : Int} {v : Value} (hM : Models I e H Fr w) (h : idxH x H i k = some (c, y)) (hc : c = true) (hd : Den e x v)
    (hu : P.underlying T = some (.slice el)) (hk : szT P el = some k) : ∃ u, (Instr.indexAt T v (.int kd i)).run P w = .ok u w ∧ Den e y u := by
  unfold idxH at h
  split at h
  · rename_i b ep sel r hs
    rw [hsel_ok hs] at hd
    split at h
    · rename_i c' n sz hb
      obtain ⟨f, g, hf, hg, hv, _⟩ := den_h hd
      split at h
      · simp only [Option.some.injEq, Prod.mk.injEq] at h
        obtain ⟨h1, rfl⟩ := h
        rw [hc, Bool.and_eq_true, Bool.and_eq_true, Nat.beq_eq, decide_eq_true_eq] at h1
        obtain ⟨h1, rfl, h2⟩ := h1
        obtain ⟨f', g', u, k1, k2, k3, k4⟩ := baseN_ok hM hb h1
        rw [hf] at k1; cases k1
        rw [hg] at k2; cases k2
        rw [k3] at hv
        rcases k4 with ⟨rfl, rfl⟩ | ⟨g0, cap, rfl, _⟩
        · omega
        · have hv : v = .slice (some ⟨g0, 0, none⟩) n cap := hv
          subst hv
          refine ⟨.pointer (some ⟨g0, i.toNat * sz, none⟩), ?_, ?_⟩
          · simp [Instr.indexAt, asIntOf, run_und hu, h2, run_szT hk, add_none]
          · have := h_den (sel := sel) (r := [i.toNat, 0]) hf hg
            rw [k3] at this
            exact this rfl
      · rename_i lo len z
        simp only [Option.some.injEq, Prod.mk.injEq] at h
        obtain ⟨h1, rfl⟩ := h
        rw [hc, Bool.and_eq_true, Bool.and_eq_true, Bool.and_eq_true, Nat.beq_eq, decide_eq_true_eq, Nat.ble_eq] at h1
        obtain ⟨h1, rfl, h3, h2⟩ := h1
        obtain ⟨f', g', u, k1, k2, k3, k4⟩ := baseN_ok hM hb h1
        rw [hf] at k1; cases k1
        rw [hg] at k2; cases k2
        rw [k3] at hv
        rcases k4 with ⟨rfl, rfl⟩ | ⟨g0, cap, rfl, k5, _⟩
        · omega
        · have hne : Nat.beq cap lo = false := by
            rw [← Bool.not_eq_true, Nat.beq_eq]; omega
          have hv : v = .slice (some ⟨g0, lo * sz, none⟩) len (cap - lo) := by simpa [rowRef, hne] using hv
          subst hv
          refine ⟨.pointer (some ⟨g0, (lo + i.toNat) * sz, none⟩), ?_, ?_⟩
          · simp [Instr.indexAt, asIntOf, run_und hu, h2, run_szT hk, add_none, Nat.add_mul]
          · have := h_den (sel := sel) (r := [lo + i.toNat, 0]) hf hg
            rw [k3] at this
            exact this rfl
      · cases h
    · cases h
  · cases h
def fldH (x : SV) (H : List (SB τ)) (off : Nat) : Option (Bool × SV) :=
  match hsel x with
  | some (b, ep, sel, r) => match baseN H b ep sel with
    | some (c, n, _) => match r with
      | [i, o] => some (c && Nat.blt i n, .h b (selP ep sel [i, o + off]))
      | _ => none
    | none => none
  | none => none
theorem fldH_ok {e : Env} {H : List (SB τ)} {Fr : PH} {S : TypeId} {fields : Array Field} {f : Field} {x y : SV} {c : Bool} {m i : Nat} {v : Value} (hM : Models I e H Fr w) (h : fldH x H f.offset = some (c, y)) (hc : c = true) (hd : Den e x v)
    (hu : P.underlying S = some (.struct fields)) (hf' : fields[i]? = some f) (hm : szT P f.type = some (m + 1)) : ∃ u, (Instr.fieldAt S v i).run P w = .ok u w ∧ Den e y u := by
  unfold fldH at h
  split at h
  · rename_i b ep sel r hs
    rw [hsel_ok hs] at hd
    split at h
    · rename_i c' n sz hb
      obtain ⟨f0, g, hf, hg, hv, _⟩ := den_h hd
      split at h
      · rename_i j o
        simp only [Option.some.injEq, Prod.mk.injEq] at h
        obtain ⟨h1, rfl⟩ := h
        rw [hc, Bool.and_eq_true, Nat.blt_eq] at h1
        obtain ⟨f', g', u, k1, k2, k3, k4⟩ := baseN_ok hM hb h1.1
        rw [hf] at k1; cases k1
        rw [hg] at k2; cases k2
        rw [k3] at hv
        rcases k4 with ⟨rfl, rfl⟩ | ⟨g0, cap, rfl, _⟩
        · omega
        · have hv : v = .pointer (some ⟨g0, j * sz + o, none⟩) := hv
          subst hv
          refine ⟨.pointer (some ⟨g0, j * sz + (o + f.offset), none⟩), ?_, ?_⟩
          · simp [Instr.fieldAt, run_und hu, hf', Instr.sureAddr, fieldPlace, run_szT hm, add_none, Nat.add_assoc]
          · have := h_den (sel := sel) (r := [j, o + f.offset]) hf hg
            rw [k3] at this
            exact this rfl
      · cases h
    · cases h
  · cases h
def hdrH (H : List (SB τ)) (b ep : Nat) (sel : Option Nat) (i : Nat) : Option (Bool × SV) :=
  match sel with
  | none => match H[b]? with
    | some (.rows R _ _ q re pd) => match pd with
      | none => some (Nat.beq q ep && Nat.blt i R.len, .h b [re, 1, i])
      | some _ => none
    | _ => none
  | some _ => none
def loadH (P : Program) (T : TypeId) (x : SV) (H : List (SB τ)) : Option (Bool × SV) :=
  match hsel x with
  | some (b, ep, sel, r) => match r with
    | [i, o] => match getR H b ep sel with
      | some (c, cn, _, sz, _) => match readR P T cn sz i o with
        | some (c', y) => some (c && c', y)
        | none => none
      | none => match hdrH H b ep sel i, aggT P T, o with
        | some (c, y), some false, 0 => some (c, y)
        | _, _, _ => none
    | _ => none
  | none => none
theorem run_loadAt {T : TypeId} {a : Addr} {u : Value} (h : (loadVar T a).run P w = .ok u w) : (Instr.loadAt T (.pointer (some a))).run P w = .ok u w := by
  simp only [Instr.loadAt, Instr.sureAddr, Sem.run_bind, Sem.run_pure, Result.andThen_ok, h]
theorem loadH_ok {e : Env} {H : List (SB τ)} {Fr : PH} {T : TypeId} {x y : SV} {c : Bool} {v : Value} (hM : Models I e H Fr w) (h : loadH P T x H = some (c, y)) (hc : c = true) (hd : Den e x v) :
    ∃ u, (Instr.loadAt T v).run P w = .ok u w ∧ Den e y u := by
  unfold loadH at h
  split at h
  · rename_i b ep sel r hs
    rw [hsel_ok hs] at hd
    obtain ⟨f, g, hf, hg, hv, _⟩ := den_h hd
    split at h
    · rename_i i o
      split at h
      · rename_i c1 cn n sz T' hget
        split at h
        · rename_i c2 z hr
          simp only [Option.some.injEq, Prod.mk.injEq] at h
          obtain ⟨h1, rfl⟩ := h
          rw [hc, Bool.and_eq_true] at h1
          obtain ⟨f', g', u, vs, k1, k2, k3, k4, k5, _⟩ := getR_ok hM hget h1.1
          rw [hf] at k1; cases k1
          rw [hg] at k2; cases k2
          rw [k3] at hv
          obtain ⟨g0, cap, r, rfl, hl, hdr⟩ := readR_ok hr h1.2 k4 k5
          have hv : v = .pointer (some ⟨g0, i * sz + o, none⟩) := hv
          subst hv
          exact ⟨r, run_loadAt hl, hdr⟩
        · cases h
      · split at h
        · rename_i c1 z hh ha
          simp only [Option.some.injEq, Prod.mk.injEq] at h
          obtain ⟨h1, rfl⟩ := h
          unfold hdrH at hh
          split at hh
          · split at hh
            · rename_i R T' TS q re pd hb
              split at hh
              · simp only [Option.some.injEq, Prod.mk.injEq] at hh
                obtain ⟨h2, rfl⟩ := hh
                rw [h1, hc, Bool.and_eq_true, Nat.beq_eq, Nat.blt_eq] at h2
                obtain ⟨rfl, h2⟩ := h2
                obtain ⟨hn, ⟨f0, u, us, hs0, ho, hr, g1, g2r, ⟨_, ⟨g00, g2, g2u⟩, g3⟩, g4, g4', g5, g6, g7, rfl⟩, hs'⟩ := hM.item hb
                rw [hf] at g1; cases g1
                rw [hg] at g2; cases g2
                have hv : v = rowRef 1 u [i, 0] := hv.trans (g2u _)
                have g4 : hs0 = us := g4
                subst g4
                have hlen : i < hs0.length := by rw [g6.length, R.rows_length]; exact h2
                rw [sub_join g7] at hs'
                obtain ⟨_, ⟨rfl, h0⟩ | ⟨g0, cap, rest, rfl, h4, _⟩⟩ := g5.in hs'.1
                · omega
                · have hv : v = .pointer (some ⟨g0, i * 1 + 0, none⟩) := hv
                  subst hv
                  refine ⟨hs0[i], run_loadAt (run_load_one ha h4 ?_), ?_⟩
                  · simp [List.getElem?_append, hlen]
                  · have := h_den (sel := some i) (r := []) hf g2r
                    have e1 : rowsRef R.sz (.slice (some ⟨g0, 0, none⟩) hs0.length cap) hs0 (selQ (some i) []) = hs0[i] := by
                      show hs0.getD i undef = hs0[i]
                      rw [List.getD, List.getElem?_eq_getElem hlen]; rfl
                    rw [e1] at this
                    exact this (g4' _ (List.getElem_mem hlen))
              · cases hh
            · cases hh
          · cases hh
        · cases h
    · cases h
  · cases h
def cutH (x : SV) (H : List (SB τ)) (lo hi : Option SV) (k : Nat) : Option (Bool × SV) :=
  match hsel x with
  | some (b, ep, sel, r) => match baseN H b ep sel with
    | some (c, n, sz) => match r with
      | [] => match bndI 0 lo, bndI n hi with
        | some l, some h => some (c && (Nat.beq sz k && decide (0 ≤ l ∧ l ≤ h ∧ h ≤ (n : Int))), .h b (selP ep sel [l.toNat, h.toNat - l.toNat, 0]))
        | _, _ => none
      | _ => none
    | none => none
  | none => none
theorem cutH_ok {e : Env} {H : List (SB τ)} {Fr : PH} {T el : TypeId} {x y : SV} {lo hi : Option SV} {c : Bool} {k : Nat} {v : Value} {vl vh : Option Value} (hM : Models I e H Fr w) (h : cutH x H lo hi k = some (c, y)) (hc : c = true) (hd : Den e x v)
    (hu : P.underlying T = some (.slice el)) (hk : szT P el = some k) (gl : ∀ a, vl = some a → ∃ s, lo = some s ∧ Den e s a) (nl : vl = none → lo = none) (gh : ∀ a, vh = some a → ∃ s, hi = some s ∧ Den e s a) (nh : vh = none → hi = none) :
    ∃ r, (Instr.sliceAt T v vl vh none).run P w = .ok r w ∧ Den e y r := by
  unfold cutH at h
  split at h
  · rename_i b ep sel r hs
    rw [hsel_ok hs] at hd
    split at h
    · rename_i c' n sz hb
      obtain ⟨f, g, hf, hg, hv, _⟩ := den_h hd
      split at h
      · split at h
        · rename_i l h' hl hh
          simp only [Option.some.injEq, Prod.mk.injEq] at h
          obtain ⟨h1, rfl⟩ := h
          rw [hc, Bool.and_eq_true, Bool.and_eq_true, Nat.beq_eq, decide_eq_true_eq] at h1
          obtain ⟨h1, rfl, h2⟩ := h1
          obtain ⟨f', g', u, k1, k2, k3, k4⟩ := baseN_ok hM hb h1
          rw [hf] at k1; cases k1
          rw [hg] at k2; cases k2
          rw [k3] at hv
          have hden := h_den (sel := sel) (r := [l.toNat, h'.toNat - l.toNat, 0]) hf hg
          rw [k3] at hden
          rcases k4 with ⟨rfl, rfl⟩ | ⟨g0, cap, rfl, k5, _⟩
          · have hv : v = .slice none 0 0 := hv
            subst hv
            have h3 : 0 ≤ l ∧ l ≤ h' ∧ h' ≤ ((0 : Nat) : Int) := h2
            have hl0 : l = 0 := by omega
            have hh0 : h' = 0 := by omega
            subst hl0; subst hh0
            refine ⟨.slice none 0 0, ?_, hden rfl⟩
            simp only [Instr.sliceAt, Instr.slice, Sem.run_bind, run_und hu, Result.andThen_ok, Sem.run_pure, bnds_ok (isS := true) (cap := 0) hl hh h3 gl nl gh nh, run_szT hk]
            rfl
          · have hv : v = .slice (some ⟨g0, 0, none⟩) n cap := hv
            subst hv
            refine ⟨.slice (some ⟨g0, bif Nat.beq cap l.toNat then 0 else l.toNat * sz, none⟩) (h'.toNat - l.toNat) (cap - l.toNat), ?_, hden rfl⟩
            simp only [Instr.sliceAt, Instr.slice, Sem.run_bind, run_und hu, Result.andThen_ok, Sem.run_pure, bnds_ok (isS := true) (cap := cap) hl hh ⟨h2.1, h2.2.1, by omega⟩ gl nl gh nh, run_szT hk]
            by_cases hn : cap = l.toNat
            · rw [if_pos hn, show Nat.beq cap l.toNat = true from by rw [Nat.beq_eq]; exact hn]; rfl
            · rw [if_neg hn, show Nat.beq cap l.toNat = false from by rw [← Bool.not_eq_true, Nat.beq_eq]; exact hn, Option.map_some, add_none]; simp
        · cases h
      · cases h
    · cases h
  · cases h
def realH (x : SV) (H : List (SB τ)) : Option Bool :=
  match hsel x with
  | some (b, ep, sel, r) => match r with
    | [] => match baseN H b ep sel with
      | some (c, n, _) => match sel, H[b]? with
        | none, some (.own _ _ _ _ _ true) => some c
        | _, _ => some (c && Nat.blt 0 n)
      | none => none
    | _ => none
  | none => none
theorem realH_ok {e : Env} {H : List (SB τ)} {Fr : PH} {x : SV} {c : Bool} {v : Value} (hM : Models I e H Fr w) (h : realH x H = some c) (hc : c = true) (hd : Den e x v) : ∃ a n cap, v = .slice (some a) n cap := by
  unfold realH at h
  split at h
  · rename_i b ep sel r hs
    rw [hsel_ok hs] at hd
    split at h
    · split at h
      · rename_i c' n sz hb
        obtain ⟨f, g, hf, hg, hv, _⟩ := den_h hd
        split at h
        · rename_i cn n' T sz' q hi
          simp only [Option.some.injEq] at h
          obtain ⟨f', g', u, k1, k2, k3, k4⟩ := baseN_ok hM hb (by rw [h, hc])
          rw [hf] at k1; cases k1
          rw [hg] at k2; cases k2
          rw [k3] at hv
          obtain ⟨hn, ⟨f0, v0, vs, g1, g2, g3, g4, g5, g6⟩, hs'⟩ := hM.item hi
          rw [hf] at g1; cases g1
          have hq : q = ep := by
            unfold baseN at hb
            simp only [getR, hi, Option.some.injEq, Prod.mk.injEq] at hb
            have := hb.1
            rw [h, hc, Nat.beq_eq] at this
            exact this
          subst hq
          rw [hg] at g2; cases g2
          have huv : u = v0 := by have := k3 []; exact this.symm
          subst huv
          rcases k4 with ⟨rfl, _⟩ | ⟨g0, cap, rfl, _⟩
          · exact absurd rfl (g6 rfl)
          · exact ⟨_, _, _, hv⟩
        · simp only [Option.some.injEq] at h
          rw [hc, Bool.and_eq_true, Nat.blt_eq] at h
          obtain ⟨f', g', u, k1, k2, k3, k4⟩ := baseN_ok hM hb h.1
          rw [hf] at k1; cases k1
          rw [hg] at k2; cases k2
          rw [k3] at hv
          rcases k4 with ⟨rfl, rfl⟩ | ⟨g0, cap, rfl, _⟩
          · omega
          · exact ⟨_, _, _, hv⟩
      · cases h
    · cases h
  · cases h
end Go.Sym
namespace Go.Sym
open Go
variable {P : Program} {w : World} {τ : Type} {I : Inv τ}
def nilS (x : SV) : Bool :=
  match x with
  | .v (.slice none n c) => Nat.beq n 0 && Nat.beq c 0
  | _ => false
theorem nilS_ok {e : Env} {x : SV} {v : Value} (h : nilS x = true) (hd : Den e x v) : v = .slice none 0 0 := by
  unfold nilS at h
  split at h
  · rename_i n c
    simp only [Bool.and_eq_true, Nat.beq_eq] at h
    obtain ⟨rfl, rfl⟩ := h
    simpa [Den] using hd
  · cases h
def cutN (cn : Cn) (sz lo len : Nat) : Cn :=
  match cn with
  | .ints k xs => .ints k ((xs.drop lo).take len)
  | .recs xs => .recs ((xs.drop lo).take len)
  | .sv l => .sv ((l.drop (lo * sz)).take (len * sz))
def szN (cn : Cn) (sz : Nat) : Bool :=
  match cn with
  | .ints _ _ => Nat.beq sz 1
  | .recs _ => Nat.beq sz 4
  | .sv _ => true
theorem cutN_den {e : Env} {cn : Cn} {sz lo len : Nat} {vs : List Value} (h : szN cn sz = true) (hd : cn.den e vs) : (cutN cn sz lo len).den e ((vs.drop (lo * sz)).take (len * sz)) := by
  cases cn with
  | ints k xs =>
    simp only [szN, Nat.beq_eq] at h
    subst h
    simp only [Cn.den] at hd ⊢
    subst hd
    simp [cutN, Cn.den]
  | recs xs =>
    simp only [szN, Nat.beq_eq] at h
    subst h
    simp only [Cn.den] at hd ⊢
    subst hd
    simp [cutN, Cn.den, cvals_drop, cvals_take]
  | sv l => exact DenL.take _ (DenL.drop _ hd)
def oneN (cn : Cn) : Bool :=
  match cn with
  | .sv l => l.all oneS
  | _ => true
theorem oneN_ok {e : Env} {cn : Cn} {vs : List Value} (h : oneN cn = true) (hd : cn.den e vs) : ∀ u ∈ vs, u.oneCell' = true := by
  cases cn with
  | sv l => exact all_one h hd
  | ints k xs => simp only [Cn.den] at hd; subst hd; intro u hu; obtain ⟨y, _, rfl⟩ := List.mem_map.1 hu; rfl
  | recs xs => simp only [Cn.den] at hd; subst hd; exact fun u hu => cvals_one hu
def srcC (x : SV) (H : List (SB τ)) (sz : Nat) : Option (Bool × Nat × Cn) :=
  match nilS x with
  | true => some (true, 0, .sv [])
  | false => match x with
    | .s b o m _ => match H[b]? with
      | some (.cells l _) => match Nat.ble (o + m * sz) l.length && l.all oneS with
        | true => some (true, m, .sv ((l.drop o).take (m * sz)))
        | false => none
      | some (.ints k xs n _) => match Nat.beq sz 1 with
        | true => some (Nat.ble (o + m) n, m, .ints k ((xs.drop o).take m))
        | false => none
      | _ => none
    | x => match hsel x with
      | some (b, ep, sel, r) => match getR H b ep sel with
        | some (c, cn, n, sz', _) => match oneN cn with
          | true => match r with
            | [] => some (c && Nat.beq sz' sz, n, cn)
            | [lo, len, _] => some (c && (Nat.beq sz' sz && (szN cn sz && (Nat.ble (lo + len) n && Nat.blt 0 n))), len, cutN cn sz lo len)
            | _ => none
          | false => none
        | none => none
      | none => none
def SrcIn (w : World) (v : Value) (m sz : Nat) (vs : List Value) : Prop :=
  vs.length = m * sz ∧ (∀ u ∈ vs, u.oneCell' = true) ∧ ((v = .slice none 0 0 ∧ m = 0) ∨ ∃ a cap, v = .slice (some a) m cap ∧ ∀ (j : Nat) u, vs[j]? = some u → w.cell? (a.add j) = some u)
theorem srcC_ok {e : Env} {H : List (SB τ)} {Fr : PH} {x : SV} {sz : Nat} {q : Bool} {m : Nat} {c : Cn} {v : Value} (hM : Models I e H Fr w) (h : srcC x H sz = some (q, m, c)) (hq : q = true) (hd : Den e x v) :
    ∃ vs, c.den e vs ∧ SrcIn w v m sz vs := by
  unfold srcC at h
  split at h
  · rename_i hn
    simp only [Option.some.injEq, Prod.mk.injEq] at h
    obtain ⟨_, rfl, rfl⟩ := h
    exact ⟨[], by simp [Cn.den, DenL], by simp, by simp, .inl ⟨nilS_ok hn hd, rfl⟩⟩
  split at h
  · rename_i b o len cap _
    split at h
    · rename_i l T hb
      split at h
      · rename_i hcond
        simp only [Bool.and_eq_true, Nat.ble_eq] at hcond
        simp only [Option.some.injEq, Prod.mk.injEq] at h
        obtain ⟨_, rfl, rfl⟩ := h
        obtain ⟨n, vs, h1, h2, h3⟩ := hM.cells hb
        simp only [Den] at hd
        obtain ⟨n', h4, rfl⟩ := hd
        rw [h1] at h4; cases h4
        have hlen := h2.length
        refine ⟨(vs.drop o).take (len * sz), (h2.drop o).take (len * sz), by simp; omega, fun u hu => all_one hcond.2 h2 u (List.mem_of_mem_drop (List.mem_of_mem_take hu)), .inr ⟨_, _, rfl, fun j u hj => ?_⟩⟩
        rw [add_none, cell_at h3]
        have hj2 : j < len * sz := by
          have := (List.getElem?_eq_some_iff.1 hj).1
          simp at this
          omega
        rw [List.getElem?_take_of_lt hj2, List.getElem?_drop] at hj
        simpa using hj
      · cases h
    · rename_i k xs n T hb
      split at h
      · rename_i hs
        rw [Nat.beq_eq] at hs
        subst hs
        simp only [Option.some.injEq, Prod.mk.injEq] at h
        obtain ⟨hcond, rfl, rfl⟩ := h
        rw [hq, Nat.ble_eq] at hcond
        obtain ⟨n', h1, h2, h3⟩ := hM.ints hb
        simp only [Den] at hd
        obtain ⟨n2, h4, rfl⟩ := hd
        rw [h1] at h4; cases h4
        refine ⟨((xs.drop o).take len).map (Value.int k), rfl, by simp; omega, fun u hu => ?_, .inr ⟨_, _, rfl, fun j u hj => ?_⟩⟩
        · obtain ⟨y, _, rfl⟩ := List.mem_map.1 hu; rfl
        · rw [add_none, cell_at h3]
          have hj2 : j < len := by
            have := (List.getElem?_eq_some_iff.1 hj).1
            simp at this
            omega
          rw [List.getElem?_map, List.getElem?_take_of_lt hj2, List.getElem?_drop] at hj
          simpa using hj
      · cases h
    · cases h
  · split at h
    · rename_i b ep sel r hs
      split at h
      · rename_i c' cn n sz' T hg
        split at h
        · rename_i hone
          rw [hsel_ok hs] at hd
          obtain ⟨f, g, hf, hg', hv, _⟩ := den_h hd
          split at h
          · simp only [Option.some.injEq, Prod.mk.injEq] at h
            obtain ⟨h1, rfl, rfl⟩ := h
            rw [hq, Bool.and_eq_true, Nat.beq_eq] at h1
            obtain ⟨h1, rfl⟩ := h1
            obtain ⟨f', g', u, vs, k1, k2, k3, k4, k5, k6⟩ := getR_ok hM hg h1
            rw [hf] at k1; cases k1
            rw [hg'] at k2; cases k2
            rw [k3] at hv
            have hv : v = u := hv
            subst hv
            refine ⟨vs, k4, k5.1, oneN_ok hone k4, ?_⟩
            obtain ⟨k7, ⟨rfl, rfl⟩ | ⟨g0, cap, rest, rfl, h4, _⟩⟩ := k5
            · exact .inl ⟨rfl, rfl⟩
            · refine .inr ⟨_, _, rfl, fun j u hj => ?_⟩
              rw [add_none, cell_at h4]
              have hj2 := (List.getElem?_eq_some_iff.1 hj).1
              simp only [Nat.zero_add, List.getElem?_toArray]
              rw [List.getElem?_append_left hj2]; exact hj
          · rename_i lo len z
            simp only [Option.some.injEq, Prod.mk.injEq] at h
            obtain ⟨h1, rfl, rfl⟩ := h
            rw [hq] at h1
            simp only [Bool.and_eq_true, Nat.beq_eq, Nat.ble_eq, Nat.blt_eq] at h1
            obtain ⟨h1, rfl, h2, h3, h4⟩ := h1
            obtain ⟨f', g', u, vs, k1, k2, k3, k4, k5, k6⟩ := getR_ok hM hg h1
            rw [hf] at k1; cases k1
            rw [hg'] at k2; cases k2
            rw [k3] at hv
            have hvl := k5.1
            have hmul : (lo + len) * sz' ≤ n * sz' := Nat.mul_le_mul_right _ h3
            rw [Nat.add_mul] at hmul
            refine ⟨(vs.drop (lo * sz')).take (len * sz'), cutN_den h2 k4, by simp; omega, fun u hu => oneN_ok hone k4 u (List.mem_of_mem_drop (List.mem_of_mem_take hu)), ?_⟩
            obtain ⟨k7, ⟨rfl, rfl⟩ | ⟨g0, cap, rest, rfl, h5, _⟩⟩ := k5
            · omega
            · refine .inr ⟨⟨g0, bif Nat.beq cap lo then 0 else lo * sz', none⟩, _, hv, fun j u hj => ?_⟩
              have hj2 : j < len * sz' := by
                have := (List.getElem?_eq_some_iff.1 hj).1
                simp at this
                omega
              have hne : Nat.beq cap lo = false := by
                rw [← Bool.not_eq_true, Nat.beq_eq]
                intro hh
                have hlen0 : len = 0 := by omega
                subst hlen0
                simp at hj2
              rw [hne]
              simp only [cond_false]
              rw [add_none, cell_at h5]
              rw [List.getElem?_take_of_lt hj2, List.getElem?_drop] at hj
              have hj3 := (List.getElem?_eq_some_iff.1 hj).1
              simp only [List.getElem?_toArray]
              rw [List.getElem?_append_left hj3]; exact hj
          · cases h
        · cases h
      · cases h
    · cases h
def bytesOf (xs : List Int) : ByteArray := ⟨(xs.map fun n => UInt8.ofNat n.toNat).toArray⟩
theorem run_push (P : Program) (w : World) (f : Value → ByteArray → Sem (ForInStep ByteArray)) (hf : ∀ n s, f (.int .u8 n) s = pure (.yield (s.push (UInt8.ofNat n.toNat)))) : ∀ (xs : List Int) (s : ByteArray),
    (forIn (xs.map (Value.int .u8)) s f : Sem ByteArray).run P w = .ok (s ++ bytesOf xs) w
  | [], s => by
    have : s ++ bytesOf [] = s := by
      apply ByteArray.ext; simp [bytesOf]
    simp [this]
  | x :: xs, s => by
    simp only [List.map_cons, List.forIn_cons, Sem.run_bind, hf, Sem.run_pure, Result.andThen_ok]
    rw [run_push P w f hf xs]
    congr 1
    apply ByteArray.ext
    simp [bytesOf, ByteArray.push]
theorem run_bytes {v : Value} {xs : List Int} (h : SrcIn w v xs.length 1 (xs.map (Value.int .u8))) : (Conv.bytesToString v).run P w = .ok (.string (bytesOf xs)) w := by
  obtain ⟨_, _, ⟨rfl, h0⟩ | ⟨a, cap, rfl, hc⟩⟩ := h
  · have : xs = [] := List.eq_nil_of_length_eq_zero h0
    subst this
    simp [Conv.bytesToString]; rfl
  · have hl := run_loadCells_list (P := P) w a (xs.map (Value.int .u8)) hc
    rw [List.length_map] at hl
    unfold Conv.bytesToString
    simp only [Sem.run_bind, hl, Result.andThen_ok]
    rw [← Array.forIn_toList]
    simp only [List.toList_toArray]
    rw [run_push P w _ (fun n s => rfl) xs ByteArray.empty]
    simp only [Result.andThen_ok, Sem.run_pure]
    congr 2
def asSl : IC → Option (Nat × Nat × (Nat → Nat → IC))
  | .pl _ => none
  | .sl n sz c => some (n, sz, c)
  | .ss L => some (L.length, 1, fun i _ => .pl (.string (L.getD i ByteArray.empty)))
theorem View.node {ro : PH} {g : List Nat → Value} {ic : IC} {s : List Nat} {n sz : Nat} {c : Nat → Nat → IC} (h : View ro g ic s) (hc : asSl ic = some (n, sz, c)) :
    (g s).oneCell' = true ∧ ((g s = .slice none 0 0 ∧ n = 0) ∨ ∃ b o sp cap, g s = .slice (some ⟨b, o, sp⟩) n cap ∧
      ∀ i fo, i < n → fo < sz → sp = none ∧ g (s ++ [i, fo, 0]) = .pointer (some ⟨b, o + (i * sz + fo), none⟩) ∧ ∃ cs T fz x, ro b = some (.cells cs T fz) ∧ cs[o + (i * sz + fo)]? = some x ∧
        (match c i fo with
          | .pl y => x = y
          | _ => x = g (s ++ [i, fo]) ∧ x.oneCell' = true) ∧ View ro g (c i fo) (s ++ [i, fo])) := by
  cases ic with
  | pl y => simp [asSl] at hc
  | sl n' sz' c' =>
    simp only [asSl, Option.some.injEq, Prod.mk.injEq] at hc
    obtain ⟨rfl, rfl, rfl⟩ := hc
    obtain ⟨h1, h2 | ⟨b, o, sp, cap, h2, h3⟩⟩ := h
    · exact ⟨h1, .inl h2⟩
    · refine ⟨h1, .inr ⟨b, o, sp, cap, h2, fun i fo hi hf => ?_⟩⟩
      obtain ⟨g0, g1, cs, T, fz, x, g2, g3, g4, g5⟩ := h3 i fo hi hf
      refine ⟨g0, g1, cs, T, fz, x, g2, g3, ?_, g5⟩
      cases hcc : c' i fo with
      | pl y => rw [hcc] at g4; exact g4
      | sl _ _ _ => rw [hcc] at g4 g5; exact ⟨g4, by rw [g4]; exact g5.1⟩
      | ss _ => rw [hcc] at g4 g5; exact ⟨g4, by rw [g4]; exact g5.1⟩
  | ss L =>
    simp only [asSl, Option.some.injEq, Prod.mk.injEq] at hc
    obtain ⟨rfl, rfl, rfl⟩ := hc
    obtain ⟨h1, h2 | ⟨b, o, sp, cap, h2, h3⟩⟩ := h
    · exact ⟨h1, .inl h2⟩
    · refine ⟨h1, .inr ⟨b, o, sp, cap, h2, fun i fo hi hf => ?_⟩⟩
      obtain ⟨g0, g1, cs, T, fz, g2, g3⟩ := h3 i fo hi hf
      exact ⟨g0, g1, cs, T, fz, _, g2, g3, rfl, trivial⟩
def navS : IC → List Nat → Option (Bool × IC)
  | ic, [] => some (true, ic)
  | _, [_] => none
  | ic, i :: fo :: r => match asSl ic with
    | some (n, sz, c) => match navS (c i fo) r with
      | some (q, x) => some (Nat.blt i n && (Nat.blt fo sz && q), x)
      | none => none
    | none => none
theorem navS_ok {ro : PH} {g : List Nat → Value} : ∀ {p : List Nat} {ic x : IC} {s : List Nat} {q : Bool}, View ro g ic s → navS ic p = some (q, x) → q = true → View ro g x (s ++ p)
  | [], ic, x, s, q, h, hn, _ => by
    simp only [navS, Option.some.injEq, Prod.mk.injEq] at hn
    obtain ⟨_, rfl⟩ := hn
    simpa using h
  | [_], ic, x, s, q, h, hn, _ => by simp [navS] at hn
  | i :: fo :: r, ic, x, s, q, h, hn, hq => by
    unfold navS at hn
    split at hn
    · rename_i n sz c hc
      split at hn
      · rename_i q' x' hr
        simp only [Option.some.injEq, Prod.mk.injEq] at hn
        obtain ⟨h1, rfl⟩ := hn
        rw [hq, Bool.and_eq_true, Bool.and_eq_true, Nat.blt_eq, Nat.blt_eq] at h1
        obtain ⟨h1, h2, h3⟩ := h1
        obtain ⟨_, ⟨_, h0⟩ | ⟨b, o, sp, cap, _, hall⟩⟩ := h.node hc
        · omega
        · obtain ⟨_, _, _, _, _, _, _, _, _, hv⟩ := hall i fo h1 h2
          have := navS_ok hv hr h3
          simpa using this
      · cases hn
    · cases hn
def navL (ic : IC) (p : List Nat) : Option (Bool × Nat × Nat × (Nat → Nat → IC)) :=
  match navS ic p with
  | some (q, x) => match asSl x with
    | some (n, sz, c) => some (q, n, sz, c)
    | none => none
  | none => none
theorem navL_ok {ro : PH} {g : List Nat → Value} {ic : IC} {p : List Nat} {q : Bool} {n sz : Nat} {c : Nat → Nat → IC} (h : View ro g ic []) (hn : navL ic p = some (q, n, sz, c)) (hq : q = true) :
    ∃ x, navS ic p = some (true, x) ∧ View ro g x p ∧ asSl x = some (n, sz, c) := by
  unfold navL at hn
  split at hn
  · rename_i q' x hx
    split at hn
    · rename_i n' sz' c' hc
      simp only [Option.some.injEq, Prod.mk.injEq] at hn
      obtain ⟨rfl, rfl, rfl, rfl⟩ := hn
      subst hq
      have := navS_ok h hx rfl
      exact ⟨x, hx, by simpa using this, hc⟩
    · cases hn
  · cases hn
def lastP : List Nat → Option (List Nat × Nat × Nat)
  | [i, fo, z] => match z with
    | 0 => some ([], i, fo)
    | _ => none
  | i :: fo :: r => match lastP r with
    | some (p, j, f) => some (i :: fo :: p, j, f)
    | none => none
  | _ => none
theorem lastP_ok : ∀ {q : List Nat} {p : List Nat} {i fo : Nat}, lastP q = some (p, i, fo) → q = p ++ [i, fo, 0]
  | [], _, _, _, h => by simp [lastP] at h
  | [_], _, _, _, h => by simp [lastP] at h
  | [a, b], p, i, fo, h => by simp [lastP] at h
  | [a, b, z], p, i, fo, h => by
    simp only [lastP] at h
    split at h
    · simp only [Option.some.injEq, Prod.mk.injEq] at h
      obtain ⟨rfl, rfl, rfl⟩ := h
      rfl
    · cases h
  | a :: b :: c :: d :: r, p, i, fo, h => by
    simp only [lastP] at h
    split at h
    · rename_i p' j f hr
      simp only [Option.some.injEq, Prod.mk.injEq] at h
      obtain ⟨rfl, rfl, rfl⟩ := h
      rw [lastP_ok hr]; rfl
    · cases h
def viewB (x : SV) (H : List (SB τ)) : Option (Nat × List Nat × IC) :=
  match x with
  | .r b p => match H[b]? with
    | some (.inp ic) => some (b, p, ic)
    | _ => none
  | _ => none
theorem viewB_ok {e : Env} {H : List (SB τ)} {Fr : PH} {x : SV} {b : Nat} {p : List Nat} {ic : IC} {v : Value} (hM : Models I e H Fr w) (h : viewB x H = some (b, p, ic)) (hd : Den e x v) :
    x = .r b p ∧ ∃ g, e b = some (.rd g) ∧ v = g p ∧ View I.ro g ic [] ∧ ∀ (k : Nat) (o : Obj), I.ro k = some o → w.heap[k]? = some o := by
  unfold viewB at h
  split at h
  · rename_i b' p'
    split at h
    · rename_i ic' hb
      simp only [Option.some.injEq, Prod.mk.injEq] at h
      obtain ⟨rfl, rfl, rfl⟩ := h
      obtain ⟨hn, ⟨g, h1, _, h2⟩, _⟩ := hM.item hb
      simp only [Den] at hd
      obtain ⟨g', h3, h4, _⟩ := hd
      rw [h1] at h3; cases h3
      exact ⟨rfl, g, h1, h4, h2, fun k o hk => hM.frame k o (hM.1.ro k o hk)⟩
    · cases h
  · cases h
def lenV (x : SV) (H : List (SB τ)) : Option (Bool × SV) :=
  match viewB x H with
  | some (_, p, ic) => match navL ic p with
    | some (q, n, _, _) => some (q, .v (.int .i64 n))
    | none => none
  | none => none
theorem lenV_ok {e : Env} {H : List (SB τ)} {Fr : PH} {x y : SV} {c : Bool} {v : Value} (hM : Models I e H Fr w) (h : lenV x H = some (c, y)) (hc : c = true) (hd : Den e x v) :
    ∃ a n cap, v = .slice a n cap ∧ y = .v (.int .i64 n) := by
  unfold lenV at h
  split at h
  · rename_i b p ic hv
    obtain ⟨rfl, g, h1, rfl, h2, _⟩ := viewB_ok hM hv hd
    split at h
    · rename_i q n sz c' hn
      simp only [Option.some.injEq, Prod.mk.injEq] at h
      obtain ⟨h3, rfl⟩ := h
      obtain ⟨x, _, hx, hs⟩ := navL_ok h2 hn (h3.trans hc)
      obtain ⟨_, ⟨h4, rfl⟩ | ⟨b0, o, sp, cap, h4, _⟩⟩ := hx.node hs
      · exact ⟨_, _, _, h4, rfl⟩
      · exact ⟨_, _, _, h4, rfl⟩
    · cases h
  · cases h
def idxV (x : SV) (H : List (SB τ)) (i : Int) (k : Nat) : Option (Bool × SV) :=
  match viewB x H with
  | some (b, p, ic) => match navL ic p with
    | some (q, n, sz, _) => some (q && (Nat.beq sz k && (Nat.blt 0 sz && decide (0 ≤ i ∧ i < (n : Int)))), .r b (p ++ [i.toNat, 0, 0]))
    | none => none
  | none => none
theorem idxV_ok {e : Env} {H : List (SB τ)} {Fr : PH} {T el : TypeId} {x y : SV} {c : Bool} {k : Nat} {kd : IntKind} {i : Int} {v : Value} (hM : Models I e H Fr w) (h : idxV x H i k = some (c, y)) (hc : c = true) (hd : Den e x v)
    (hu : P.underlying T = some (.slice el)) (hk : szT P el = some k) : ∃ u, (Instr.indexAt T v (.int kd i)).run P w = .ok u w ∧ Den e y u := by
  unfold idxV at h
  split at h
  · rename_i b p ic hv
    obtain ⟨rfl, g, h1, rfl, h2, _⟩ := viewB_ok hM hv hd
    split at h
    · rename_i q n sz c' hn
      simp only [Option.some.injEq, Prod.mk.injEq] at h
      obtain ⟨h3, rfl⟩ := h
      rw [hc] at h3
      simp only [Bool.and_eq_true, Nat.beq_eq, Nat.blt_eq, decide_eq_true_eq] at h3
      obtain ⟨h3, rfl, h4, h5⟩ := h3
      obtain ⟨x, _, hx, hs⟩ := navL_ok h2 hn h3
      obtain ⟨_, ⟨_, rfl⟩ | ⟨b0, o, sp, cap, h6, hall⟩⟩ := hx.node hs
      · omega
      · obtain ⟨rfl, h7, _⟩ := hall i.toNat 0 (by omega) h4
        refine ⟨.pointer (some ⟨b0, o + i.toNat * sz, none⟩), ?_, ?_⟩
        · rw [h6]; simp [Instr.indexAt, asIntOf, run_und hu, h5, run_szT hk, add_none]
        · simp only [Den]
          exact ⟨g, h1, by rw [h7]; simp, rfl⟩
    · cases h
  · cases h
def fldV (x : SV) (H : List (SB τ)) (off : Nat) : Option (Bool × SV) :=
  match viewB x H with
  | some (b, p, ic) => match lastP p with
    | some (p', i, fo) => match navL ic p' with
      | some (q, n, sz, _) => some (q && (Nat.blt i n && Nat.blt (fo + off) sz), .r b (p' ++ [i, fo + off, 0]))
      | none => none
    | none => none
  | none => none
theorem fldV_ok {e : Env} {H : List (SB τ)} {Fr : PH} {S : TypeId} {fields : Array Field} {f : Field} {x y : SV} {c : Bool} {m i : Nat} {v : Value} (hM : Models I e H Fr w) (h : fldV x H f.offset = some (c, y)) (hc : c = true) (hd : Den e x v)
    (hu : P.underlying S = some (.struct fields)) (hf' : fields[i]? = some f) (hm : szT P f.type = some (m + 1)) : ∃ u, (Instr.fieldAt S v i).run P w = .ok u w ∧ Den e y u := by
  unfold fldV at h
  split at h
  · rename_i b p ic hv
    obtain ⟨rfl, g, h1, rfl, h2, _⟩ := viewB_ok hM hv hd
    split at h
    · rename_i p' j fo hl
      have := lastP_ok hl
      subst this
      split at h
      · rename_i q n sz c' hn
        simp only [Option.some.injEq, Prod.mk.injEq] at h
        obtain ⟨h3, rfl⟩ := h
        rw [hc] at h3
        simp only [Bool.and_eq_true, Nat.blt_eq] at h3
        obtain ⟨h3, h4, h5⟩ := h3
        obtain ⟨x, _, hx, hs⟩ := navL_ok h2 hn h3
        obtain ⟨_, ⟨_, rfl⟩ | ⟨b0, o, sp, cap, h6, hall⟩⟩ := hx.node hs
        · omega
        · obtain ⟨rfl, h7, _⟩ := hall j fo h4 (by omega)
          obtain ⟨_, h8, _⟩ := hall j (fo + f.offset) h4 h5
          refine ⟨.pointer (some ⟨b0, o + (j * sz + (fo + f.offset)), none⟩), ?_, ?_⟩
          · rw [h7]; simp [Instr.fieldAt, run_und hu, hf', Instr.sureAddr, fieldPlace, run_szT hm, add_none, Nat.add_assoc]
          · simp only [Den]
            exact ⟨g, h1, h8.symm, rfl⟩
      · cases h
    · cases h
  · cases h
def cellV (b : Nat) (p : List Nat) (i fo : Nat) (ic : IC) : SV :=
  match ic with
  | .pl y => .v y
  | _ => .r b (p ++ [i, fo])
def cellsW (b : Nat) (p : List Nat) (c : Nat → Nat → IC) (i : Nat) : Nat → Nat → List SV
  | _, 0 => []
  | fo, k + 1 => cellV b p i fo (c i fo) :: cellsW b p c i (fo + 1) k
def loadV (P : Program) (T : TypeId) (x : SV) (H : List (SB τ)) : Option (Bool × SV) :=
  match viewB x H with
  | some (b, p, ic) => match lastP p with
    | some (p', i, fo) => match navL ic p' with
      | some (q, n, sz, c) => match aggT P T, szT P T with
        | some true, some k => some (q && (Nat.blt i n && (Nat.ble (fo + k) sz && Nat.blt 0 k)), .a (cellsW b p' c i fo k))
        | some false, _ => some (q && (Nat.blt i n && Nat.blt fo sz), cellV b p' i fo (c i fo))
        | _, _ => none
      | none => none
    | none => none
  | none => none
theorem loadV_ok {e : Env} {H : List (SB τ)} {Fr : PH} {T : TypeId} {x y : SV} {c : Bool} {v : Value} (hM : Models I e H Fr w) (h : loadV P T x H = some (c, y)) (hc : c = true) (hd : Den e x v) :
    ∃ u, (Instr.loadAt T v).run P w = .ok u w ∧ Den e y u := by
  unfold loadV at h
  split at h
  · rename_i b p ic hv
    obtain ⟨rfl, g, h1, rfl, h2, hro⟩ := viewB_ok hM hv hd
    split at h
    · rename_i p' j fo hl
      have := lastP_ok hl
      subst this
      split at h
      · rename_i q n sz c' hn
        -- one cell
        have cell : q = true → j < n → ∀ f, f < sz → ∃ b0 o cs T' fz x, g (p' ++ [j, f, 0]) = .pointer (some ⟨b0, o + (j * sz + f), none⟩) ∧ w.heap[b0]? = some (.cells cs T' fz) ∧ cs[o + (j * sz + f)]? = some x ∧ Den e (cellV b p' j f (c' j f)) x ∧
            (∃ cap, g p' = .slice (some ⟨b0, o, none⟩) n cap) := fun hq hj f hf => by
          obtain ⟨x0, _, hx, hs⟩ := navL_ok h2 hn hq
          obtain ⟨_, ⟨_, rfl⟩ | ⟨b0, o, sp, cap, h6, hall⟩⟩ := hx.node hs
          · omega
          · obtain ⟨rfl, h7, cs, T', fz, x, h8, h9, h10, h11⟩ := hall j f hj hf
            refine ⟨b0, o, cs, T', fz, x, h7, hro _ _ h8, h9, ?_, ⟨cap, h6⟩⟩
            unfold cellV
            cases hcc : c' j f with
            | pl y => rw [hcc] at h10; simpa [Den] using h10
            | sl _ _ _ => rw [hcc] at h10; simp only [Den]; exact ⟨g, h1, h10.1, h10.2⟩
            | ss _ => rw [hcc] at h10; simp only [Den]; exact ⟨g, h1, h10.1, h10.2⟩
        split at h
        · rename_i k ha hs
          simp only [Option.some.injEq, Prod.mk.injEq] at h
          obtain ⟨h3, rfl⟩ := h
          rw [hc] at h3
          simp only [Bool.and_eq_true, Nat.blt_eq, Nat.ble_eq] at h3
          obtain ⟨h3, h4, h5, h6⟩ := h3
          obtain ⟨b0, o, cs, T', fz, x0, g1, g2, _, _, cap, g3⟩ := cell h3 h4 fo (by omega)
          have all : ∀ (m f : Nat), f + m ≤ sz → ∃ vs : List Value, vs.length = m ∧ (∀ (i : Nat) v, vs[i]? = some v → cs[o + (j * sz + f) + i]? = some v) ∧ DenL e (cellsW b p' c' j f m) vs := by
            intro m
            induction m with
            | zero => intro f _; exact ⟨[], rfl, by simp, by simp [cellsW, DenL]⟩
            | succ m ih =>
              intro f hf
              obtain ⟨vs, q1, q2, q3⟩ := ih (f + 1) (by omega)
              obtain ⟨b1, o1, cs1, T1, fz1, x1, k1, k2, k3, k4, cap1, k5⟩ := cell h3 h4 f (by omega)
              rw [g3] at k5
              simp only [Value.slice.injEq, Option.some.injEq, Addr.mk.injEq, and_true, true_and] at k5
              obtain ⟨⟨rfl, rfl⟩, _⟩ := k5
              rw [g2] at k2; cases k2
              refine ⟨x1 :: vs, by simp [q1], fun i v hi => ?_, ?_⟩
              · cases i with
                | zero => simp only [List.getElem?_cons_zero, Option.some.injEq] at hi; subst hi; exact k3
                | succ i =>
                  have := q2 i v (by simpa using hi)
                  rw [← this]; congr 1; omega
              · simp only [cellsW, DenL]; exact ⟨_, _, rfl, k4, q3⟩
          obtain ⟨vs, q1, q2, q3⟩ := all k fo h5
          rw [g1]
          refine ⟨.agg vs.toArray, run_loadAt (run_load_agg ha hs g2 q1 q2), ?_⟩
          simp only [Den]; exact ⟨vs, q3, rfl⟩
        · rename_i ha
          simp only [Option.some.injEq, Prod.mk.injEq] at h
          obtain ⟨h3, rfl⟩ := h
          rw [hc] at h3
          simp only [Bool.and_eq_true, Nat.blt_eq] at h3
          obtain ⟨h3, h4, h5⟩ := h3
          obtain ⟨b0, o, cs, T', fz, x0, g1, g2, g4, g5, _⟩ := cell h3 h4 fo h5
          rw [g1]
          exact ⟨x0, run_loadAt (run_load_one ha g2 g4), g5⟩
        · cases h
      · cases h
    · cases h
  · cases h
end Go.Sym
namespace Go.Sym
open Go
variable {P : Program} {w : World} {τ : Type} {I : Inv τ}
def viaR {α : Type} (x : SV) (a b : Option α) : Option α :=
  match x with
  | .r _ _ => b
  | _ => a
theorem viaR_or {α : Type} {x : SV} {a b : Option α} {r : α} (h : viaR x a b = some r) : a = some r ∨ b = some r := by
  unfold viaR at h
  split at h
  · exact .inr h
  · exact .inl h
theorem viaR_heap {α : Type} {x : SV} {a b a' b' : Option α} {r : α} (h : viaR x a b = some r) (ha : a = some r → a' = some r) (hb : b = some r → b' = some r) : viaR x a' b' = some r := by
  unfold viaR at h ⊢
  split at h
  · exact hb h
  · exact ha h
def litNil (x : SV) : Bool :=
  match x with
  | .v (.slice none _ _) => true
  | _ => false
def strS (P : Program) (s d : TypeId) (x : SV) (H : List (SB τ)) : Option (Bool × SV) :=
  match P.underlying s, P.underlying d with
  | some (.slice el), some .string => match P.underlying el, szT P el with
    | some (.int .u8), some 1 => match srcC x H 1 with
      | some (c, m, .ints .u8 xs) => some (c && Nat.beq xs.length m, .v (.string (bytesOf xs)))
      | some (c, m, .sv l) => match allInts .u8 l with
        | true => some (c && Nat.beq l.length m, .v (.string (bytesOf (intsOf l))))
        | false => none
      | _ => none
    | _, _ => none
  | _, _ => none
def convU (P : Program) (s d : TypeId) (x : SV) (H : List (SB τ)) : Option (Bool × SV) :=
  match P.underlying s with
  | some (.pointer t) => match P.underlying d with
    | some .unsafePointer => match x with
      | .p b o => match H[b]? with
        | some (.cells l _) => match szT P t with
          | some (_ + 1) => some (Nat.blt o l.length, .p b o)
          | _ => none
        | _ => none
      | _ => none
    | _ => none
  | some .unsafePointer => match P.underlying d with
    | some (.pointer u) => match x with
      | .p b o => match H[b]? with
        | some (.cells l T) => match P.info? u with
          | some _ => some (liesAt P P.depth T (l.length / P.cellsOf T) o u 1, .p b o)
          | none => none
        | _ => none
      | _ => none
    | _ => none
  | _ => none
theorem convU_ok {e : Env} {H : List (SB τ)} {Fr : PH} {s d : TypeId} {x y : SV} {c : Bool} {v : Value} (hM : Models I e H Fr w) (h : convU P s d x H = some (c, y)) (hc : c = true) (hd : Den e x v) :
    ∃ u, (convert s d v).run P w = .ok u w ∧ Den e y u := by
  unfold convU at h
  split at h
  · rename_i t hs
    split at h
    · rename_i hdst
      split at h
      · rename_i b o
        split at h
        · rename_i l T hb
          split at h
          · rename_i k hsz
            simp only [Option.some.injEq, Prod.mk.injEq] at h
            obtain ⟨h1, rfl⟩ := h
            rw [hc, Nat.blt_eq] at h1
            obtain ⟨n, vs, g1, g2, g3⟩ := hM.cells hb
            have hd' := hd
            simp only [Den] at hd
            obtain ⟨m, g4, rfl⟩ := hd
            rw [g1] at g4; cases g4
            unfold szT at hsz
            split at hsz
            · rename_i j hj
              simp only [Option.some.injEq] at hsz
              refine ⟨_, Lib.run_to_unsafe (e := T) (cells := vs.length) w ⟨n, o, none⟩ hs hdst hj (by omega) (by simp [World.shape?, g3]) (by rw [← g2.length]; exact h1), hd'⟩
            · cases hsz
          · cases h
        · cases h
      · cases h
    · cases h
  · rename_i hs
    split at h
    · rename_i u hdst
      split at h
      · rename_i b o
        split at h
        · rename_i l T hb
          split at h
          · rename_i j hj
            simp only [Option.some.injEq, Prod.mk.injEq] at h
            obtain ⟨h1, rfl⟩ := h
            rw [hc] at h1
            obtain ⟨n, vs, g1, g2, g3⟩ := hM.cells hb
            have hd' := hd
            simp only [Den] at hd
            obtain ⟨m, g4, rfl⟩ := hd
            rw [g1] at g4; cases g4
            refine ⟨_, Lib.run_from_unsafe (e := T) (cells := vs.length) w ⟨n, o, none⟩ hs hdst hj (by simp [World.shape?, g3]) (by rw [← g2.length]; exact h1), hd'⟩
          · cases h
        · cases h
      · cases h
    · cases h
  · cases h
def convH (P : Program) (s d : TypeId) (x : SV) (H : List (SB τ)) : Option (Bool × SV) :=
  match strS P s d x H with
  | some r => some r
  | none => convU P s d x H
def stepH (P : Program) (op : Op) (tm : List SV) (H : List (SB τ)) : Option (Bool × SV) :=
  match op with
  | .call { callee := .builtin .len, args, argTypes } => match argTypes.toList, args.toList.map (ev tm) with
    | [T], [x] => match P.underlying T with
      | some (.slice _) => viaR x (lenH x H) (lenV x H)
      | _ => none
    | _, _ => none
  | .indexAddr T x ix => match ev tm ix, P.underlying T with
    | .v (.int _ i), some (.slice el) => match szT P el with
      | some k => viaR (ev tm x) (idxH (ev tm x) H i k) (idxV (ev tm x) H i k)
      | none => none
    | _, _ => none
  | .fieldAddr S x i => match P.underlying S with
    | some (.struct fields) => match fields[i]? with
      | some f => match szT P f.type with
        | some (_ + 1) => viaR (ev tm x) (fldH (ev tm x) H f.offset) (fldV (ev tm x) H f.offset)
        | _ => none
      | none => none
    | _ => none
  | .load T x => viaR (ev tm x) (loadH P T (ev tm x) H) (loadV P T (ev tm x) H)
  | .slice T x lo hi none => match P.underlying T with
    | some (.slice el) => match szT P el with
      | some k => cutH (ev tm x) H (lo.map (ev tm)) (hi.map (ev tm)) k
      | none => none
    | _ => none
  | .binOp o T x y _ => match P.underlying T, o with
    | some (.slice _), .eql => match litNil (ev tm y) with
      | true => (realH (ev tm x) H).map fun c => (c, .v (.bool false))
      | false => none
    | some (.slice _), .neq => match litNil (ev tm y) with
      | true => (realH (ev tm x) H).map fun c => (c, .v (.bool true))
      | false => none
    | _, _ => none
  | .convert s d x => convH P s d (ev tm x) H
  | _ => none
theorem run_len {T ty el : TypeId} {a : Option Addr} {n cap : Nat} (hu : P.underlying T = some (.slice el)) : (Builtin.len_ #[T] ty #[.slice a n cap]).run P w = .ok (.int .i64 n) w := by
  simp [Builtin.len_, run_und hu, goInt]
theorem run_real {T el : TypeId} {a : Addr} {n cap : Nat} {u v : Value} {ox oy : Operand} (hu : P.underlying T = some (.slice el)) (hv : ∃ n c, v = .slice none n c) :
    (do eqGuard .eql T ox oy (.slice (some a) n cap) v; binOp .eql T (.slice (some a) n cap) v : Sem Value).run P w = .ok (.bool false) w ∧
    (do eqGuard .neq T ox oy (.slice (some a) n cap) v; binOp .neq T (.slice (some a) n cap) v : Sem Value).run P w = .ok (.bool true) w := by
  obtain ⟨_, _, rfl⟩ := hv
  refine run_eq_of (r := false) ?_ rfl rfl rfl rfl
  generalize hd : 10000 = d
  obtain ⟨d, rfl⟩ : ∃ k, d = k + 1 := ⟨9999, hd.symm⟩
  clear hd
  simp [Op.equalIn, run_und hu]
theorem litNil_ok {e : Env} {x : SV} {v : Value} (h : litNil x = true) (hd : Den e x v) : ∃ n c, v = .slice none n c := by
  unfold litNil at h
  split at h
  · simp only [Den] at hd; exact ⟨_, _, hd⟩
  · cases h
theorem strS_ok {e : Env} {H : List (SB τ)} {Fr : PH} {s d : TypeId} {x y : SV} {c : Bool} {v : Value} (hM : Models I e H Fr w) (h : strS P s d x H = some (c, y)) (hc : c = true) (hd : Den e x v) :
    ∃ u, (convert s d v).run P w = .ok u w ∧ Den e y u := by
  unfold strS at h
  split at h
  · rename_i el hs hdst
    split at h
    · rename_i hel hsz
      have key : ∀ (xs : List Int) (m : Nat) (vs : List Value), vs = xs.map (Value.int .u8) → xs.length = m → SrcIn w v m 1 vs → (convert s d v).run P w = .ok (.string (bytesOf xs)) w := fun xs m vs h1 h2 h3 => by
        subst h1; subst h2
        have hb := run_bytes (P := P) h3
        have hsl : ∃ a n cap, v = .slice a n cap := by
          obtain ⟨_, _, ⟨rfl, _⟩ | ⟨a, cap, rfl, _⟩⟩ := h3
          · exact ⟨_, _, _, rfl⟩
          · exact ⟨_, _, _, rfl⟩
        obtain ⟨a, n, cap, rfl⟩ := hsl
        cases a with
        | none => simp only [convert, Sem.run_bind, run_und hs, run_und hdst, Result.andThen_ok, run_und hel, hb]
        | some a => simp only [convert, Sem.run_bind, run_und hs, run_und hdst, Result.andThen_ok, run_und hel, hb]
      split at h
      · rename_i c' m xs hsrc
        simp only [Option.some.injEq, Prod.mk.injEq] at h
        obtain ⟨h1, rfl⟩ := h
        rw [hc, Bool.and_eq_true, Nat.beq_eq] at h1
        obtain ⟨vs, h2, h3⟩ := srcC_ok hM hsrc h1.1 hd
        exact ⟨_, key xs m vs h2 h1.2 h3, by simp [Den]⟩
      · rename_i c' m l hsrc
        split at h
        · rename_i hall
          simp only [Option.some.injEq, Prod.mk.injEq] at h
          obtain ⟨h1, rfl⟩ := h
          rw [hc, Bool.and_eq_true, Nat.beq_eq] at h1
          obtain ⟨vs, h2, h3⟩ := srcC_ok hM hsrc h1.1 hd
          have h2 : DenL e l vs := h2
          rw [allInts_ok hall] at h2
          exact ⟨_, key (intsOf l) m vs (ints_den h2) (by rw [intsOf_length]; exact h1.2) h3, by simp [Den]⟩
        · cases h
      · cases h
    · cases h
  · cases h
theorem stepH_ok {e : Env} {tm : List SV} {a : Act} {H : List (SB τ)} {Fr : PH} {o : Oper} {c : Bool} {x : SV} (hM : Models I e H Fr w) (ht : DenL e tm a.tmps.toList)
    (h : stepH P o.op tm H = some (c, x)) (hc : c = true) : ∃ v, (execOp a.eval o).run P w = .ok (.value v) w ∧ Den e x v := by
  unfold stepH at h
  split at h
  · rename_i args ats hop
    split at h
    · rename_i T y hat hargs
      split at h
      · rename_i el hu
        have hev := evs_ok ht args.toList
        rw [hargs] at hev
        simp only [DenL] at hev
        obtain ⟨v1, r1, e1, hd, rfl⟩ := hev
        have hargs' : args.map a.eval = #[v1] := by apply Array.toList_inj.1; simpa using e1
        have hats : ats = #[T] := by apply Array.toList_inj.1; simpa using hat
        have fin : (∃ b n cap, v1 = .slice b n cap ∧ x = .v (.int .i64 n)) → ∃ v, (execOp a.eval o).run P w = .ok (.value v) w ∧ Den e x v := by
          rintro ⟨b, n, cap, rfl, rfl⟩
          refine ⟨.int .i64 n, ?_, by simp [Den]⟩
          simp only [execOp, hop, resolve, hargs', invoke, hats, builtin, Sem.run_bind, Sem.run_pure, Result.andThen_ok, run_len hu]
        rcases viaR_or h with hl | hl
        · exact fin (lenH_ok hM hl hc hd)
        · exact fin (lenV_ok hM hl hc hd)
      · cases h
    · cases h
  · rename_i T ox oi hop
    split at h
    · rename_i kd i el hei hu
      split at h
      · rename_i k hk
        have hi := ev_ok ht oi
        rw [hei] at hi
        simp only [Den] at hi
        have fin : (∃ u, (Instr.indexAt T (a.eval ox) (.int kd i)).run P w = .ok u w ∧ Den e x u) → ∃ v, (execOp a.eval o).run P w = .ok (.value v) w ∧ Den e x v := by
          rintro ⟨u, h1, h2⟩
          exact ⟨u, by simp [execOp, hop, hi, h1], h2⟩
        rcases viaR_or h with hl | hl
        · exact fin (idxH_ok hM hl hc (ev_ok ht ox) hu hk)
        · exact fin (idxV_ok hM hl hc (ev_ok ht ox) hu hk)
      · cases h
    · cases h
  · rename_i S ox i hop
    split at h
    · rename_i fields hu
      split at h
      · rename_i f hf
        split at h
        · rename_i m hm
          have fin : (∃ u, (Instr.fieldAt S (a.eval ox) i).run P w = .ok u w ∧ Den e x u) → ∃ v, (execOp a.eval o).run P w = .ok (.value v) w ∧ Den e x v := by
            rintro ⟨u, h1, h2⟩
            exact ⟨u, by simp [execOp, hop, h1], h2⟩
          rcases viaR_or h with hl | hl
          · exact fin (fldH_ok hM hl hc (ev_ok ht ox) hu hf hm)
          · exact fin (fldV_ok hM hl hc (ev_ok ht ox) hu hf hm)
        · cases h
      · cases h
    · cases h
  · rename_i T ox hop
    have fin : (∃ u, (Instr.loadAt T (a.eval ox)).run P w = .ok u w ∧ Den e x u) → ∃ v, (execOp a.eval o).run P w = .ok (.value v) w ∧ Den e x v := by
      rintro ⟨u, h1, h2⟩
      exact ⟨u, by simp [execOp, hop, h1], h2⟩
    rcases viaR_or h with hl | hl
    · exact fin (loadH_ok hM hl hc (ev_ok ht ox))
    · exact fin (loadV_ok hM hl hc (ev_ok ht ox))
  · rename_i T ox lo hi hop
    split at h
    · rename_i el hu
      split at h
      · rename_i k hk
        obtain ⟨u, hu', hdu⟩ := cutH_ok (P := P) (vl := lo.map a.eval) (vh := hi.map a.eval) hM h hc (ev_ok ht ox) hu hk
          (by intro q hq; cases lo <;> simp at hq; subst hq; exact ⟨_, rfl, ev_ok ht _⟩) (by intro hq; cases lo <;> simp at hq; rfl)
          (by intro q hq; cases hi <;> simp at hq; subst hq; exact ⟨_, rfl, ev_ok ht _⟩) (by intro hq; cases hi <;> simp at hq; rfl)
        exact ⟨u, by simp [execOp, hop, hu'], hdu⟩
      · cases h
    · cases h
  · rename_i op T ox oy ty hop
    split at h
    · rename_i el hu
      split at h
      · rename_i hn
        simp only [Option.map_eq_some_iff, Prod.mk.injEq] at h
        obtain ⟨c', hr, rfl, rfl⟩ := h
        obtain ⟨b, n, cap, hx⟩ := realH_ok hM hr hc (ev_ok ht ox)
        refine ⟨.bool false, ?_, by simp [Den]⟩
        have := (run_real (P := P) (w := w) (u := undef) (a := b) (n := n) (cap := cap) (ox := ox) (oy := oy) hu (litNil_ok hn (ev_ok ht oy))).1
        simp only [execOp, hop, hx]
        rw [Sem.run_bind, this]; rfl
      · cases h
    · rename_i el hu
      split at h
      · rename_i hn
        simp only [Option.map_eq_some_iff, Prod.mk.injEq] at h
        obtain ⟨c', hr, rfl, rfl⟩ := h
        obtain ⟨b, n, cap, hx⟩ := realH_ok hM hr hc (ev_ok ht ox)
        refine ⟨.bool true, ?_, by simp [Den]⟩
        have := (run_real (P := P) (w := w) (u := undef) (a := b) (n := n) (cap := cap) (ox := ox) (oy := oy) hu (litNil_ok hn (ev_ok ht oy))).2
        simp only [execOp, hop, hx]
        rw [Sem.run_bind, this]; rfl
      · cases h
    · cases h
  · rename_i s d ox hop
    have : ∃ u, (convert s d (a.eval ox)).run P w = .ok u w ∧ Den e x u := by
      unfold convH at h
      split at h
      · rename_i r hr
        simp only [Option.some.injEq] at h
        subst h
        exact strS_ok (P := P) hM hr hc (ev_ok ht ox)
      · exact convU_ok (P := P) hM h hc (ev_ok ht ox)
    obtain ⟨u, h1, h2⟩ := this
    exact ⟨u, by simp [execOp, hop, h1], h2⟩
  · cases h
def stepV (P : Program) (op : Op) (tm : List SV) (H : List (SB τ)) : Option (Bool × SV) :=
  match stepV0 P op tm H with
  | some r => some r
  | none => stepH P op tm H
theorem stepV_ok {e : Env} {tm : List SV} {a : Act} {H : List (SB τ)} {Fr : PH} {o : Oper} {c : Bool} {x : SV} (hM : Models I e H Fr w) (ht : DenL e tm a.tmps.toList)
    (h : stepV P o.op tm H = some (c, x)) (hc : c = true) : ∃ v, (execOp a.eval o).run P w = .ok (.value v) w ∧ Den e x v := by
  unfold stepV at h
  split at h
  · rename_i r hr
    simp only [Option.some.injEq] at h
    subst h
    exact stepV0_ok hM ht hr hc
  · exact stepH_ok hM ht h hc
theorem ev_map_congr {tm tm' : List SV} {l : List Operand} (h : ∀ o ∈ l, ev tm o = ev tm' o) : l.map (ev tm) = l.map (ev tm') := List.map_congr_left h
theorem stepV0_congr {P : Program} {op : Op} {tm tm' : List SV} {H : List (SB τ)} (h : ∀ o ∈ op.operands.toList, ev tm o = ev tm' o) : stepV0 P op tm H = stepV0 P op tm' H := by
  cases op with
  | build T parts =>
    simp only [Op.operands] at h
    have e : parts.toList.map (fun p => (p.1, ev tm p.2)) = parts.toList.map (fun p => (p.1, ev tm' p.2)) := by
      refine List.map_congr_left fun p hp => ?_
      rw [h p.2 (by simp; exact ⟨p.1, by simpa using hp⟩)]
    simp only [stepV0, e]
  | makeFunc fn first cap =>
    simp only [Op.operands, Array.toList_append, List.mem_append] at h
    have e := ev_map_congr (l := cap.toList) fun o ho => h o (.inr ho)
    simp only [stepV0, e]
  | slice T x lo hi mx =>
    cases mx with
    | some _ => rfl
    | none =>
      have e1 := h x (by simp [Op.operands])
      have e2 : lo.map (ev tm) = lo.map (ev tm') := by
        cases lo with
        | none => rfl
        | some q => simp only [Option.map_some]; rw [h q (by simp [Op.operands])]
      have e3 : hi.map (ev tm) = hi.map (ev tm') := by
        cases hi with
        | none => rfl
        | some q => simp only [Option.map_some]; rw [h q (by simp [Op.operands])]
      simp only [stepV0, e1, e2, e3]
  | call c =>
    obtain ⟨callee, args, ats⟩ := c
    simp only [Op.operands, Call.operands, Array.toList_append, List.mem_append] at h
    have e := ev_map_congr (l := args.toList) fun o ho => h o (.inr ho)
    cases callee <;> simp only [stepV0]
    rename_i b
    cases b <;> simp only [e]
  | _ => simp only [stepV0] <;> simp_all [Op.operands]
theorem stepH_congr {P : Program} {op : Op} {tm tm' : List SV} {H : List (SB τ)} (h : ∀ o ∈ op.operands.toList, ev tm o = ev tm' o) : stepH P op tm H = stepH P op tm' H := by
  cases op with
  | slice T x lo hi mx =>
    cases mx with
    | some _ => rfl
    | none =>
      have e1 := h x (by simp [Op.operands])
      have e2 : lo.map (ev tm) = lo.map (ev tm') := by
        cases lo with
        | none => rfl
        | some q => simp only [Option.map_some]; rw [h q (by simp [Op.operands])]
      have e3 : hi.map (ev tm) = hi.map (ev tm') := by
        cases hi with
        | none => rfl
        | some q => simp only [Option.map_some]; rw [h q (by simp [Op.operands])]
      simp only [stepH, e1, e2, e3]
  | call c =>
    obtain ⟨callee, args, ats⟩ := c
    simp only [Op.operands, Call.operands, Array.toList_append, List.mem_append] at h
    have e := ev_map_congr (l := args.toList) fun o ho => h o (.inr ho)
    cases callee <;> simp only [stepH]
    rename_i b
    cases b <;> simp only [e]
  | load T x =>
    have e1 := h x (by simp [Op.operands])
    simp only [stepH, e1]
  | indexAddr T x y =>
    have e1 := h x (by simp [Op.operands])
    have e2 := h y (by simp [Op.operands])
    simp only [stepH, e1, e2]
  | fieldAddr T x i =>
    have e1 := h x (by simp [Op.operands])
    simp only [stepH, e1]
  | binOp o T x y z =>
    have e1 := h x (by simp [Op.operands])
    have e2 := h y (by simp [Op.operands])
    simp only [stepH, e1, e2]
  | convert s d x =>
    have e1 := h x (by simp [Op.operands])
    simp only [stepH, e1]
  | _ => simp only [stepH]
theorem stepV_congr {P : Program} {op : Op} {tm tm' : List SV} {H : List (SB τ)} (h : ∀ o ∈ op.operands.toList, ev tm o = ev tm' o) : stepV P op tm H = stepV P op tm' H := by
  simp only [stepV, stepV0_congr h, stepH_congr h]
def hhS (x : SV) : Option Nat :=
  match x with
  | .h b _ => some b
  | .r b _ => some b
  | _ => none
def hsS (x : SV) : Option Nat :=
  match x with
  | .h b _ => some b
  | .r b _ => some b
  | .p b _ => some b
  | .s b _ _ _ => some b
  | _ => none
def touch (op : Op) (tm : List SV) : Option Nat :=
  match op with
  | .load _ x => hsS (ev tm x)
  | .indexAddr _ x _ => hhS (ev tm x)
  | .fieldAddr _ x _ => hhS (ev tm x)
  | .slice _ x _ _ _ => hhS (ev tm x)
  | .convert _ _ x => hsS (ev tm x)
  | .binOp _ _ x _ _ => hhS (ev tm x)
  | .call { callee := .builtin .len, args, .. } => match args.toList.map (ev tm) with
    | [x] => hhS x
    | _ => none
  | _ => none
theorem touch_congr {op : Op} {tm tm' : List SV} (h : ∀ o ∈ op.operands.toList, ev tm o = ev tm' o) : touch op tm = touch op tm' := by
  cases op with
  | call c =>
    obtain ⟨callee, args, ats⟩ := c
    simp only [Op.operands, Call.operands, Array.toList_append, List.mem_append] at h
    have e := ev_map_congr (l := args.toList) fun o ho => h o (.inr ho)
    cases callee <;> simp only [touch]
    rename_i b
    cases b <;> simp only [e]
  | load T x => have e1 := h x (by simp [Op.operands]); simp only [touch, e1]
  | indexAddr T x y => have e1 := h x (by simp [Op.operands]); simp only [touch, e1]
  | fieldAddr T x y => have e1 := h x (by simp [Op.operands]); simp only [touch, e1]
  | slice T x y z u => have e1 := h x (by simp [Op.operands]); simp only [touch, e1]
  | convert T y x => have e1 := h x (by simp [Op.operands]); simp only [touch, e1]
  | binOp o T x y z => have e1 := h x (by simp [Op.operands]); simp only [touch, e1]
  | _ => simp only [touch]
theorem hsel_h {x : SV} {b ep : Nat} {sel : Option Nat} {r : List Nat} (h : hsel x = some (b, ep, sel, r)) : hhS x = some b ∧ hsS x = some b := by
  rw [hsel_ok h]; exact ⟨rfl, rfl⟩
section
variable {H H' : List (SB τ)} {b : Nat}
theorem getR_heap {ep : Nat} {sel : Option Nat} {r : Bool × Cn × Nat × Nat × TypeId} (h : getR H b ep sel = some r) (hh : ∀ it, H[b]? = some it → H'[b]? = some it) : getR H' b ep sel = some r := by
  unfold getR at h ⊢
  cases hq : H[b]? with
  | none => rw [hq] at h; cases h
  | some it => rw [hq] at h; rw [hh it hq]; exact h
theorem getR_eq {ep : Nat} {sel : Option Nat} (h : H[b]? = H'[b]?) : getR H b ep sel = getR H' b ep sel := by unfold getR; rw [h]
theorem baseN_heap {ep : Nat} {sel : Option Nat} {r : Bool × Nat × Nat} (h : baseN H b ep sel = some r) (hh : ∀ it, H[b]? = some it → H'[b]? = some it) : baseN H' b ep sel = some r := by
  cases hq : H[b]? with
  | none =>
    unfold baseN getR at h
    rw [hq] at h
    cases sel <;> cases h
  | some it =>
    have e : H[b]? = H'[b]? := by rw [hq, hh it hq]
    unfold baseN at h ⊢
    rw [← getR_eq e, ← e]; exact h
theorem lenH_heap {x : SV} {r : Bool × SV} (h : lenH x H = some r) (hh : ∀ b it, hhS x = some b → H[b]? = some it → H'[b]? = some it) : lenH x H' = some r := by
  unfold lenH at h ⊢
  split at h
  · rename_i b ep sel p hs
    split at h
    · rename_i c n sz hb
      rw [baseN_heap hb (fun it => hh b it (hsel_h hs).1)]; exact h
    · cases h
  · cases h
theorem idxH_heap {x : SV} {i : Int} {k : Nat} {r : Bool × SV} (h : idxH x H i k = some r) (hh : ∀ b it, hhS x = some b → H[b]? = some it → H'[b]? = some it) : idxH x H' i k = some r := by
  unfold idxH at h ⊢
  split at h
  · rename_i b ep sel p hs
    split at h
    · rename_i c n sz hb
      rw [baseN_heap hb (fun it => hh b it (hsel_h hs).1)]; exact h
    · cases h
  · cases h
theorem fldH_heap {x : SV} {k : Nat} {r : Bool × SV} (h : fldH x H k = some r) (hh : ∀ b it, hhS x = some b → H[b]? = some it → H'[b]? = some it) : fldH x H' k = some r := by
  unfold fldH at h ⊢
  split at h
  · rename_i b ep sel p hs
    split at h
    · rename_i c n sz hb
      rw [baseN_heap hb (fun it => hh b it (hsel_h hs).1)]; exact h
    · cases h
  · cases h
theorem cutH_heap {x : SV} {lo hi : Option SV} {k : Nat} {r : Bool × SV} (h : cutH x H lo hi k = some r) (hh : ∀ b it, hhS x = some b → H[b]? = some it → H'[b]? = some it) : cutH x H' lo hi k = some r := by
  unfold cutH at h ⊢
  split at h
  · rename_i b ep sel p hs
    split at h
    · rename_i c n sz hb
      rw [baseN_heap hb (fun it => hh b it (hsel_h hs).1)]; exact h
    · cases h
  · cases h
theorem loadH_heap {P : Program} {T : TypeId} {x : SV} {r : Bool × SV} (h : loadH P T x H = some r) (hh : ∀ b it, hsS x = some b → H[b]? = some it → H'[b]? = some it) : loadH P T x H' = some r := by
  unfold loadH at h ⊢
  split at h
  · rename_i b ep sel p hs
    have hb : ∀ it, H[b]? = some it → H'[b]? = some it := fun it => hh b it (hsel_h hs).2
    cases hq : H[b]? with
    | none =>
      exfalso
      split at h
      · unfold getR hdrH at h
        rw [hq] at h
        cases sel <;> simp at h
      · cases h
    | some it =>
      have e : H[b]? = H'[b]? := by rw [hq, hb it hq]
      split at h
      · simp only [← getR_eq e]
        have : ∀ i, hdrH H' b ep sel i = hdrH H b ep sel i := fun i => by unfold hdrH; rw [e]
        rw [this]; exact h
      · cases h
  · cases h
theorem realH_heap {x : SV} {r : Bool} (h : realH x H = some r) (hh : ∀ b it, hhS x = some b → H[b]? = some it → H'[b]? = some it) : realH x H' = some r := by
  unfold realH at h ⊢
  split at h
  · rename_i b ep sel p hs
    have hb : ∀ it, H[b]? = some it → H'[b]? = some it := fun it => hh b it (hsel_h hs).1
    split at h
    · split at h
      · rename_i c n sz hbn
        rw [baseN_heap hbn hb]
        dsimp only
        cases hq : H[b]? with
        | none => rw [hq] at h; unfold baseN getR at hbn; rw [hq] at hbn; cases sel <;> cases hbn
        | some it => rw [hb it hq]; rw [hq] at h; exact h
      · cases h
    · cases h
  · cases h
theorem viewB_heap {x : SV} {r : Nat × List Nat × IC} (h : viewB x H = some r) (hh : ∀ b it, hhS x = some b → H[b]? = some it → H'[b]? = some it) : viewB x H' = some r := by
  unfold viewB at h ⊢
  split at h
  · rename_i b p
    cases hq : H[b]? with
    | none => rw [hq] at h; cases h
    | some it => rw [hh b it rfl hq]; rw [hq] at h; exact h
  · cases h
theorem lenV_heap {x : SV} {r : Bool × SV} (h : lenV x H = some r) (hh : ∀ b it, hhS x = some b → H[b]? = some it → H'[b]? = some it) : lenV x H' = some r := by
  unfold lenV at h ⊢
  split at h
  · rename_i hv; rw [viewB_heap hv hh]; exact h
  · cases h
theorem idxV_heap {x : SV} {i : Int} {k : Nat} {r : Bool × SV} (h : idxV x H i k = some r) (hh : ∀ b it, hhS x = some b → H[b]? = some it → H'[b]? = some it) : idxV x H' i k = some r := by
  unfold idxV at h ⊢
  split at h
  · rename_i hv; rw [viewB_heap hv hh]; exact h
  · cases h
theorem fldV_heap {x : SV} {k : Nat} {r : Bool × SV} (h : fldV x H k = some r) (hh : ∀ b it, hhS x = some b → H[b]? = some it → H'[b]? = some it) : fldV x H' k = some r := by
  unfold fldV at h ⊢
  split at h
  · rename_i hv; rw [viewB_heap hv hh]; exact h
  · cases h
theorem loadV_heap {P : Program} {T : TypeId} {x : SV} {r : Bool × SV} (h : loadV P T x H = some r) (hh : ∀ b it, hhS x = some b → H[b]? = some it → H'[b]? = some it) : loadV P T x H' = some r := by
  unfold loadV at h ⊢
  split at h
  · rename_i hv; rw [viewB_heap hv hh]; exact h
  · cases h
theorem hhS_hsS {x : SV} {b : Nat} (h : hhS x = some b) : hsS x = some b := by
  unfold hhS at h
  split at h <;> simp at h <;> subst h <;> rfl
theorem srcC_heap {x : SV} {sz : Nat} {r : Bool × Nat × Cn} (h : srcC x H sz = some r) (hh : ∀ b it, hsS x = some b → H[b]? = some it → H'[b]? = some it) : srcC x H' sz = some r := by
  unfold srcC at h ⊢
  split at h
  · exact h
  · split at h
    · rename_i b o m cap _
      cases hq : H[b]? with
      | none => rw [hq] at h; cases h
      | some it => rw [hh b it rfl hq]; rw [hq] at h; exact h
    · rename_i hnot
      split at h
      · rename_i b ep sel p hs
        have hx := hsel_ok hs
        subst hx
        split at h
        · rename_i hg
          rw [getR_heap hg (fun it => hh b it rfl)]; exact h
        · cases h
      · cases h
end
theorem stepH_heap {P : Program} {op : Op} {tm : List SV} {H H' : List (SB τ)} {r : Bool × SV} (h : stepH P op tm H = some r) (hh : ∀ b it, touch op tm = some b → H[b]? = some it → H'[b]? = some it) : stepH P op tm H' = some r := by
  cases op with
  | call c =>
    obtain ⟨callee, args, ats⟩ := c
    cases callee with
    | builtin b =>
      cases b <;> simp only [stepH] at h ⊢ <;> try exact h
      split at h
      · rename_i T x hat hargs
        have hh' : ∀ b it, hhS x = some b → H[b]? = some it → H'[b]? = some it := fun b it hb => hh b it (by simp only [touch, hargs]; exact hb)
        split at h
        · rename_i hu; exact viaR_heap h (fun h => lenH_heap h hh') (fun h => lenV_heap h hh')
        · cases h
      · cases h
    | _ => exact h
  | indexAddr T x ix =>
    simp only [stepH] at h ⊢
    have hh' : ∀ b it, hhS (ev tm x) = some b → H[b]? = some it → H'[b]? = some it := fun b it hb => hh b it hb
    split at h
    · split at h
      · rename_i hk; exact viaR_heap h (fun h => idxH_heap h hh') (fun h => idxV_heap h hh')
      · cases h
    · cases h
  | fieldAddr S x i =>
    simp only [stepH] at h ⊢
    have hh' : ∀ b it, hhS (ev tm x) = some b → H[b]? = some it → H'[b]? = some it := fun b it hb => hh b it hb
    split at h
    · split at h
      · split at h
        · rename_i hm; exact viaR_heap h (fun h => fldH_heap h hh') (fun h => fldV_heap h hh')
        · cases h
      · cases h
    · cases h
  | load T x =>
    simp only [stepH] at h ⊢
    have hh' : ∀ b it, hsS (ev tm x) = some b → H[b]? = some it → H'[b]? = some it := fun b it hb => hh b it hb
    exact viaR_heap h (fun h => loadH_heap h hh') (fun h => loadV_heap h fun b it hb => hh' b it (hhS_hsS hb))
  | slice T x lo hi mx =>
    cases mx with
    | some _ => exact h
    | none =>
      simp only [stepH] at h ⊢
      split at h
      · split at h
        · rename_i hk; exact cutH_heap h (fun b it hb => hh b it hb)
        · cases h
      · cases h
  | binOp o T x y z =>
    simp only [stepH] at h ⊢
    have hh' : ∀ b it, hhS (ev tm x) = some b → H[b]? = some it → H'[b]? = some it := fun b it hb => hh b it hb
    split at h
    · split at h
      · simp only [Option.map_eq_some_iff] at h ⊢
        obtain ⟨c, h1, h2⟩ := h
        exact ⟨c, realH_heap h1 hh', h2⟩
      · cases h
    · split at h
      · simp only [Option.map_eq_some_iff] at h ⊢
        obtain ⟨c, h1, h2⟩ := h
        exact ⟨c, realH_heap h1 hh', h2⟩
      · cases h
    · cases h
  | convert s d x =>
    simp only [stepH] at h ⊢
    unfold convH at h ⊢
    split at h
    · rename_i r' hr'
      have hh' : strS P s d (ev tm x) H' = some r' := by
        unfold strS at hr' ⊢
        split at hr'
        · split at hr'
          · split at hr'
            · rename_i hs; rw [srcC_heap hs (fun b it hb => hh b it hb)]; exact hr'
            · rename_i hs; rw [srcC_heap hs (fun b it hb => hh b it hb)]; exact hr'
            · cases hr'
          · cases hr'
        · cases hr'
      rw [hh']; exact h
    · rename_i hn
      have hn' : strS P s d (ev tm x) H' = none := by
        unfold convU at h
        unfold strS
        split at h
        · rename_i t hs
          rw [hs]
        · rename_i hs
          rw [hs]
        · cases h
      rw [hn']
      unfold convU at h ⊢
      split at h
      · split at h
        · split at h
          · rename_i b o hx
            split at h
            · rename_i l T hb
              simp only [hh b _ (by simp [touch, hx, hsS]) hb]
              exact h
            · cases h
          · cases h
        · cases h
      · split at h
        · split at h
          · rename_i b o hx
            split at h
            · rename_i l T hb
              simp only [hh b _ (by simp [touch, hx, hsS]) hb]
              exact h
            · cases h
          · cases h
        · cases h
      · cases h
  | _ => exact h
theorem stepV0_heap {P : Program} {op : Op} {tm : List SV} {H H' : List (SB τ)} {r : Bool × SV} (h : stepV0 P op tm H = some r) (hh : ∀ b it, touch op tm = some b → H[b]? = some it → H'[b]? = some it) : stepV0 P op tm H' = some r := by
  cases op with
  | load T x =>
    simp only [stepV0] at h ⊢
    unfold loadQ at h ⊢
    split at h
    · rename_i b o he
      split at h
      · rename_i l T' hb
        rw [hh b _ (by simp [touch, he, hsS]) hb]
        exact h
      · rename_i k xs n T' hb
        rw [hh b _ (by simp [touch, he, hsS]) hb]
        exact h
      · cases h
    · exact h
    · cases h
  | slice T x lo hi mx => cases mx <;> exact h
  | call c =>
    obtain ⟨callee, args, ats⟩ := c
    cases callee <;> exact h
  | _ => exact h
theorem stepV0_not {P : Program} {op : Op} {tm : List SV} {H H' : List (SB τ)} {r : Bool × SV} (h : stepV0 P op tm H = none) (hs : stepH P op tm H = some r) (hh : ∀ b it, touch op tm = some b → H[b]? = some it → H'[b]? = some it) : stepV0 P op tm H' = none := by
  cases op with
  | load T x =>
    simp only [stepV0] at h ⊢
    simp only [stepH] at hs
    rcases viaR_or hs with h1 | h1
    · unfold loadH at h1
      split at h1
      · rename_i hsel; rw [hsel_ok hsel]; rfl
      · cases h1
    · unfold loadV viewB at h1
      cases hx : ev tm x <;> rw [hx] at h1 <;> first | rfl | cases h1
  | slice T x lo hi mx => cases mx <;> exact h
  | call c =>
    obtain ⟨callee, args, ats⟩ := c
    cases callee <;> exact h
  | _ => exact h
theorem stepV_heap {P : Program} {op : Op} {tm : List SV} {H H' : List (SB τ)} {r : Bool × SV} (h : stepV P op tm H = some r) (hh : ∀ b it, touch op tm = some b → H[b]? = some it → H'[b]? = some it) : stepV P op tm H' = some r := by
  unfold stepV at h ⊢
  split at h
  · rename_i r' hr
    rw [stepV0_heap hr hh]; exact h
  · rename_i hn
    rw [stepV0_not hn h hh]
    exact stepH_heap h hh
end Go.Sym
namespace Go.Sym
open Go
variable {P : Program} {w : World} {τ : Type} {I : Inv τ}
theorem append_any {t ty e : TypeId} {i : TypeInfo} {z : Value} {size : Nat} (ht : P.underlying t = some (.slice e)) (hi : P.info? e = some i) (hz : i.zero = some z)
    (hsize : i.size = size) (hzs : z.cells.size = size) {v : Value} {n : Nat} {xs : List Value} (hx : xs.length = n * size)
    (hv : (v = .slice none 0 0 ∧ n = 0) ∨ ∃ g cap rest, v = .slice (some ⟨g, 0, none⟩) n cap ∧ w.heap[g]? = some (.cells (xs ++ rest).toArray e (0, 0)) ∧ n ≤ cap ∧ cap ≤ maxLen ∧ (xs ++ rest).length = cap * size)
    {a : Addr} {m c : Nat} {news : List Value} (hl : news.length = m * size) (hnews : ∀ (j : Nat) u, news[j]? = some u → w.cell? (a.add j) = some u) (h1 : ∀ u ∈ news, u.oneCell' = true)
    (h63 : n + m ≤ maxLen) (hbytes : (n + m) * i.bytes ≤ 140737488355328) :
    ∃ v' w', (Builtin.append_ #[t, t] ty #[v, .slice (some a) m c]).run P w = .ok v' w' ∧
      ((v = .slice none 0 0 ∧ n = 0 ∧ m = 0 ∧ v' = .slice none 0 0 ∧ w' = w) ∨
       (∃ cap' rest, v' = .slice (some ⟨w.heap.size, 0, none⟩) (n + m) cap' ∧ w' = w.drew.alloc (.cells (xs ++ news ++ rest).toArray e) ∧ n + m ≤ cap' ∧ cap' ≤ maxLen ∧ (xs ++ news ++ rest).length = cap' * size) ∨
       (∃ g cap rest, v = .slice (some ⟨g, 0, none⟩) n cap ∧ v' = .slice (some ⟨g, 0, none⟩) (n + m) cap ∧ w' = w.setRow g (xs ++ news ++ rest).toArray ∧ n + m ≤ cap ∧ cap ≤ maxLen ∧ (xs ++ news ++ rest).length = cap * size)) := by
  subst hsize
  have hsmall : n + m ≤ 9223372036854775807 := by simp only [maxLen] at h63; omega
  have hzc : ∀ k, (Builtin.zeroCells z.cells k).toList.length = k * i.size := fun k => by
    rw [Array.length_toList, size_zeroCells, hzs]
  have hge : ∀ old, n + m ≤ grownCap w (n + m) old e := fun old => grownCap_ge w (n + m) old e
  have hcm : ∀ old, grownCap w (n + m) old e ≤ maxLen := fun old => grownCap_le_maxLen w (n + m) old e h63
  have hnew : ∀ old, (xs ++ news ++ (Builtin.zeroCells z.cells (grownCap w (n + m) old e - (n + m))).toList).length = grownCap w (n + m) old e * i.size := fun old => by
    rw [List.length_append, List.length_append, hzc, hx, hl, ← Nat.add_mul, ← Nat.add_mul]
    congr 1
    have := hge old
    omega
  have harr : ∀ old, xs.toArray ++ news.toArray ++ Builtin.zeroCells z.cells (grownCap w (n + m) old e - (n + m)) = (xs ++ news ++ (Builtin.zeroCells z.cells (grownCap w (n + m) old e - (n + m))).toList).toArray := fun old => by
    apply Array.toList_inj.1; simp
  rcases hv with ⟨rfl, rfl⟩ | ⟨g, cap, rest, rfl, hg, hnc, hcap, hcs⟩
  · have hxe : xs = [] := List.eq_nil_of_length_eq_zero (by simpa using hx)
    subst hxe
    by_cases hm : m = 0
    · subst hm
      have hn : news = [] := List.eq_nil_of_length_eq_zero (by simpa using hl)
      subst hn
      refine ⟨.slice none 0 0, w, ?_, .inl ⟨rfl, rfl, rfl, rfl, rfl⟩⟩
      simp [Builtin.append_, run_underlying ht, sizeOf, typeInfo, hi, Builtin.lenOf, Builtin.firstCells, loadCells, loadCellsFrom]
    · have hr := run_append_nil (P := P) w t ty e i z ht hi hz a m c news hl hnews (by omega) (by omega) (by simp only [Nat.zero_add] at hbytes; omega)
      refine ⟨_, _, hr, .inr (.inl ⟨grownCap w m 0 e, (Builtin.zeroCells z.cells (grownCap w m 0 e - m)).toList, by simp only [Nat.zero_add], ?_, ?_, ?_, ?_⟩)⟩
      · congr 1
        have := harr 0
        simp only [Nat.zero_add, List.nil_append] at this ⊢
        rw [← this]
        simp
      · have := hge 0; simpa using this
      · have := hcm 0; simpa using this
      · have := hnew 0; simpa using this
  · by_cases hroom : n + m ≤ cap
    · have hxl : xs.length + rest.length = cap * i.size := by simpa using hcs
      have hfit : n * i.size + news.length ≤ (xs ++ rest).toArray.size := by
        have h2 := Nat.mul_le_mul_right i.size hroom
        rw [Nat.add_mul] at h2
        simp; omega
      have hr := run_append_room (P := P) w t ty e i ht hi g n cap (xs ++ rest).toArray hg a m c news hl hnews h1 hroom hfit
      refine ⟨_, _, hr, .inr (.inr ⟨g, cap, rest.drop news.length, rfl, rfl, ?_, hroom, hcap, ?_⟩)⟩
      · congr 2
        have e1 : ((xs ++ rest).toArray.toList.take (n * i.size)) = xs := by rw [← hx]; simp
        have e2 : (xs ++ rest).toArray.toList.drop (n * i.size + news.length) = rest.drop news.length := by rw [← hx]; simp [List.drop_append]
        rw [e1, e2]
      · have h2 := Nat.mul_le_mul_right i.size hroom
        rw [Nat.add_mul] at h2
        simp; omega
    · have holds : ∀ (j : Nat) u, xs[j]? = some u → w.cell? ((⟨g, 0, none⟩ : Addr).add j) = some u := fun j u hj => by
        rw [add_none, cell_at hg]
        have hlt := (List.getElem?_eq_some_iff.1 hj).1
        simp only [Nat.zero_add, List.getElem?_toArray]
        rw [List.getElem?_append_left hlt]
        exact hj
      have hr := run_append_grow (P := P) w t ty e i z ht hi hz ⟨g, 0, none⟩ n cap xs hx holds a m c news hl hnews (by omega) (by omega) (growslice_fits (by omega) hbytes)
      exact ⟨_, _, hr, .inr (.inl ⟨_, (Builtin.zeroCells z.cells (grownCap w (n + m) cap e - (n + m))).toList, rfl, by rw [← harr], hge cap, hcm cap, hnew cap⟩)⟩
theorem append_none {t ty e : TypeId} {i : TypeInfo} (ht : P.underlying t = some (.slice e)) (hi : P.info? e = some i) {v : Value} {n : Nat}
    (hv : (v = .slice none 0 0 ∧ n = 0) ∨ ∃ g cap, v = .slice (some ⟨g, 0, none⟩) n cap ∧ n ≤ cap) :
    (Builtin.append_ #[t, t] ty #[v, .slice none 0 0]).run P w = .ok v w := by
  rcases hv with ⟨rfl, rfl⟩ | ⟨g, cap, rfl, h⟩
  · simp [Builtin.append_, run_underlying ht, sizeOf, typeInfo, hi, Builtin.lenOf, Builtin.firstCells]
  · simp [Builtin.append_, run_underlying ht, sizeOf, typeInfo, hi, Builtin.lenOf, Builtin.firstCells, h, storeCells]
structure Turned (w w' : World) (h h' : PH) : Prop where
  sub : Sub h' w'
  own : ∀ k, h' k ≠ none → h k ≠ none ∨ w.heap.size ≤ k
  keep : ∀ (k : Nat) (o : Obj), w.heap[k]? = some o → h k = none → w'.heap[k]? = some o
  stay : Stay w w'
theorem Turned.refl {h : PH} (hs : Sub h w) : Turned w w h h := ⟨hs, fun _ hk => .inl hk, fun _ _ hk _ => hk, Stay.refl w⟩
theorem Turned.disj {w' : World} {h h' x : PH} (ht : Turned w w' h h') (hx : Sub x w) (hd : Disj h x) : Disj h' x := fun k => by
  cases hk : x k with
  | none => exact .inr rfl
  | some o =>
    left
    have hlt := lt_of_sub hx hk
    cases hq : h' k with
    | none => rfl
    | some o' =>
      rcases ht.own k (by rw [hq]; simp) with h2 | h2
      · rcases hd k with h3 | h3
        · exact absurd h3 h2
        · rw [hk] at h3; cases h3
      · omega
theorem Turned.keeps {w' : World} {h h' x : PH} (ht : Turned w w' h h') (hx : Sub x w) (hd : Disj h x) : Sub x w' := fun k o hk => by
  refine ht.keep k o (hx k o hk) ?_
  rcases hd k with h3 | h3
  · exact h3
  · rw [hk] at h3; cases h3
theorem Turned.left {w' : World} {h h' x : PH} (ht : Turned w w' h h') (hx : Sub x w) (hd : Disj h x) : Turned w w' (join h x) (join h' x) := by
  refine ⟨(sub_join (ht.disj hx hd)).2 ⟨ht.sub, ht.keeps hx hd⟩, fun k hk => ?_, fun k o hk hn => ?_, ht.stay⟩
  · cases hq : x k with
    | some o => left; intro hn; rw [join_none] at hn; rw [hq] at hn; cases hn.2
    | none =>
      have : h' k ≠ none := fun e => hk (join_none.2 ⟨e, hq⟩)
      rcases ht.own k this with h2 | h2
      · left; intro hn; exact h2 (join_none.1 hn).1
      · exact .inr h2
  · exact ht.keep k o hk (join_none.1 hn).1
theorem Turned.right {w' : World} {h h' x : PH} (ht : Turned w w' h h') (hx : Sub x w) (hd : Disj h x) : Turned w w' (join x h) (join x h') := by
  have := ht.left hx hd
  rw [join_comm hd, join_comm (ht.disj hx hd)] at this
  exact this
theorem Models.take {e : Env} {H : List (SB τ)} {Fr : PH} (hM : Models I e H Fr w) {i : Nat} {b : SB τ} (hi : H[i]? = some b) :
    ∃ hn, ItemOk I e b (e i) hn ∧ Sub hn w ∧ ∀ {e' : Env} {w' : World} {b' : SB τ} {hn' : PH}, Le e e' → (∀ j, j ≠ i → e' j = e j) → ItemOk I e' b' (e' i) hn' → Turned w w' hn hn' → Models I e' (H.set i b') Fr w' := by
  have hlt : i < H.length := (List.getElem?_eq_some_iff.1 hi).1
  obtain ⟨h0, hs, h1, h2, h3, h4, h5, h6⟩ := hM
  refine ⟨hs i, h1 i b hi, h5 i, fun {e' w' b' hn'} hle he hb ht => ?_⟩
  refine Models.turn0 (S := fun j => j = i) (hs := hs) (hs' := fun j => if j = i then hn' else hs j) h0 h1 h2 h3 h4 h5 h6 hle ht.stay (fun j hj => ⟨List.getElem?_set_ne (fun e => hj e.symm), he j hj⟩)
    (fun j hj => if_neg hj) (fun j b'' hj hb'' => ?_) (fun j hj hl => ?_) (fun j k hj hk hjk => ?_) (fun j hj => ?_) (fun j k hj hk => ?_) (fun k o hk hn => ?_)
  · subst hj
    simp [hlt] at hb''
    subst hb''
    simpa using hb
  · subst hj; simp at hl; omega
  · exact absurd (hj.trans hk.symm) hjk
  · subst hj; simpa using ht.sub
  · subst hj
    simp only [if_true] at hk
    rcases ht.own k hk with h5 | h5
    · exact .inl ⟨j, rfl, h5⟩
    · exact .inr h5
  · exact ht.keep k o hk (hn i rfl)
theorem Models.take2 {e : Env} {H : List (SB τ)} {Fr : PH} (hM : Models I e H Fr w) {i j : Nat} {b c : SB τ} (hi : H[i]? = some b) (hj : H[j]? = some c) (hij : i ≠ j) :
    ∃ hn hm, ItemOk I e b (e i) hn ∧ ItemOk I e c (e j) hm ∧ Sub hn w ∧ Sub hm w ∧ Disj hn hm ∧ ∀ {e' : Env} {w' : World} {b' c' : SB τ} {hn' hm' : PH}, Le e e' → (∀ k, k ≠ i → k ≠ j → e' k = e k) →
      ItemOk I e' b' (e' i) hn' → ItemOk I e' c' (e' j) hm' → Disj hn' hm' → Turned w w' (join hn hm) (join hn' hm') → Models I e' ((H.set i b').set j c') Fr w' := by
  have hlt : i < H.length := (List.getElem?_eq_some_iff.1 hi).1
  have hlt' : j < H.length := (List.getElem?_eq_some_iff.1 hj).1
  obtain ⟨h0, hs, h1, h2, h3, h4, h5, h6⟩ := hM
  refine ⟨hs i, hs j, h1 i b hi, h1 j c hj, h5 i, h5 j, h3 i j hij, fun {e' w' b' c' hn' hm'} hle he hb hc hd ht => ?_⟩
  have hji : j ≠ i := fun e => hij e.symm
  refine Models.turn0 (S := fun k => k = i ∨ k = j) (hs := hs) (hs' := fun k => if k = i then hn' else if k = j then hm' else hs k) h0 h1 h2 h3 h4 h5 h6 hle ht.stay (fun k hk => ?_)
    (fun k hk => ?_) (fun k b'' hk hb'' => ?_) (fun k hk hl => ?_) (fun k l hk hl hkl => ?_) (fun k hk => ?_) (fun k m hk hn => ?_) (fun k o hk hn => ?_)
  · have hk1 : k ≠ i := fun e => hk (.inl e)
    have hk2 : k ≠ j := fun e => hk (.inr e)
    rw [List.getElem?_set_ne (fun e => hk2 e.symm), List.getElem?_set_ne (fun e => hk1 e.symm)]
    exact ⟨rfl, he k hk1 hk2⟩
  · have hk1 : k ≠ i := fun e => hk (.inl e)
    have hk2 : k ≠ j := fun e => hk (.inr e)
    simp only [hk1, hk2, if_false]
  · rcases hk with rfl | rfl
    · rw [List.getElem?_set_ne hji] at hb''
      simp [hlt] at hb''
      subst hb''
      simpa using hb
    · simp [hlt'] at hb''
      subst hb''
      simpa [hji] using hc
  · simp only [List.length_set] at hl; rcases hk with rfl | rfl <;> omega
  · rcases hk with rfl | rfl
    · rcases hl with rfl | rfl
      · exact absurd rfl hkl
      · simpa [hji] using hd
    · rcases hl with rfl | rfl
      · simpa [hji] using hd.symm
      · exact absurd rfl hkl
  · have hh := (sub_join hd).1 ht.sub
    rcases hk with rfl | rfl
    · simpa using hh.1
    · simpa [hji] using hh.2
  · have : join hn' hm' m ≠ none := by
      intro e
      rw [join_none] at e
      rcases hk with rfl | rfl
      · simp only [if_true] at hn; exact hn e.1
      · simp only [hji, if_false, if_true] at hn; exact hn e.2
    rcases ht.own m this with h7 | h7
    · left
      rcases Classical.em (hs i m = none) with h8 | h8
      · refine ⟨j, .inr rfl, fun h9 => h7 (join_none.2 ⟨h8, h9⟩)⟩
      · exact ⟨i, .inl rfl, h8⟩
    · exact .inr h7
  · exact ht.keep k o hk (join_none.2 ⟨hn i (.inl rfl), hn j (.inr rfl)⟩)
theorem append_ok {t ty el : TypeId} {i : TypeInfo} {z : Value} {sz : Nat} (ht : P.underlying t = some (.slice el)) (hi : P.info? el = some i) (hz : i.zero = some z)
    (hsize : i.size = sz) (hzs : z.cells.size = sz) {v : Value} {n : Nat} {xs : List Value} {h : PH} (hr : RowOk v n sz el xs h) (hsub : Sub h w)
    {u : Value} {m : Nat} {news : List Value} (hs : SrcIn w u m sz news) (h63 : n + m ≤ maxLen) (hbytes : (n + m) * i.bytes ≤ 140737488355328) :
    ∃ v' w' h', (Builtin.append_ #[t, t] ty #[v, u]).run P w = .ok v' w' ∧ RowOk v' (n + m) sz el (xs ++ news) h' ∧ Turned w w' h h' ∧ (v ≠ .slice none 0 0 ∨ 0 < m → v' ≠ .slice none 0 0) := by
  obtain ⟨hnl, hone, hsrc⟩ := hs
  have hxl := hr.1
  have hlen : (xs ++ news).length = (n + m) * sz := by rw [List.length_append, hxl, hnl, Nat.add_mul]
  rcases hsrc with ⟨rfl, rfl⟩ | ⟨a, cap0, rfl, hc⟩
  · have hn0 : news = [] := List.eq_nil_of_length_eq_zero (by simpa using hnl)
    subst hn0
    refine ⟨v, w, h, append_none (n := n) ht hi ?_, by simpa using hr, Turned.refl hsub, ?_⟩
    · obtain ⟨_, ⟨h1, h2, _⟩ | ⟨g, cap, rest, h1, h2, h3, _⟩⟩ := hr
      · exact .inl ⟨h1, h2⟩
      · exact .inr ⟨g, cap, h1, h3⟩
    · rintro (h1 | h1)
      · exact h1
      · omega
  · have hv : (v = .slice none 0 0 ∧ n = 0) ∨ ∃ g cap rest, v = .slice (some ⟨g, 0, none⟩) n cap ∧ w.heap[g]? = some (.cells (xs ++ rest).toArray el (0, 0)) ∧ n ≤ cap ∧ cap ≤ maxLen ∧ (xs ++ rest).length = cap * sz := (hr.in hsub).2
    obtain ⟨v', w', h1, h2⟩ := append_any (ty := ty) (c := cap0) ht hi hz hsize hzs hxl hv hnl hc hone h63 hbytes
    rcases h2 with ⟨rfl, rfl, rfl, rfl, rfl⟩ | ⟨cap', rest, rfl, rfl, h3, h4, h5⟩ | ⟨g, cap, rest, rfl, rfl, rfl, h3, h4, h5⟩
    · have hn0 : news = [] := List.eq_nil_of_length_eq_zero (by simpa using hnl)
      subst hn0
      refine ⟨_, _, h, h1, by simpa using hr, Turned.refl hsub, ?_⟩
      rintro (h6 | h6)
      · exact absurd rfl h6
      · omega
    · have hnew : (w.drew.alloc (.cells (xs ++ news ++ rest).toArray el)).heap[w.heap.size]? = some (.cells (xs ++ news ++ rest).toArray el (0, 0)) := by
        show (w.heap.push _)[w.heap.size]? = _; simp
      refine ⟨_, _, single w.heap.size (.cells (xs ++ news ++ rest).toArray el (0, 0)), h1, ⟨hlen, .inr ⟨_, cap', rest, rfl, rfl, h3, h4, h5⟩⟩, ⟨sub_single hnew, fun k hk => .inr (by rw [single_ne] at hk; omega), fun k o hk _ => (Ext.alloc w.drew _).heap k o hk, ⟨rfl, rfl⟩⟩, fun _ hh => by cases hh⟩
    · obtain ⟨_, ⟨h6, _⟩ | ⟨g', cap', rest', h6, h7, _⟩⟩ := hr
      · cases h6
      · cases h6
        have hg : w.heap[g]? = some (.cells (xs ++ rest').toArray el (0, 0)) := hsub g _ (by rw [h7]; exact single_self _ _)
        refine ⟨_, _, single g (.cells (xs ++ news ++ rest).toArray el (0, 0)), h1, ⟨hlen, .inr ⟨g, cap, rest, rfl, rfl, h3, h4, h5⟩⟩, ⟨sub_single (setRow_heap w g _ _ el (0, 0) hg), fun k hk => ?_, fun k o hk hn => ?_, stay_setRow w g _⟩, fun _ hh => by cases hh⟩
        · rw [single_ne] at hk
          left; rw [h7, hk, single_self]; simp
        · rw [setRow_other w g k]
          · exact hk
          · intro e; subst e; rw [h7, single_self] at hn; cases hn
theorem write_ok {T : TypeId} {g n cap sz : Nat} {vs vs' : List Value} {h : PH} (hr : RowOk (.slice (some ⟨g, 0, none⟩) n cap) n sz T vs h) (hsub : Sub h w) (hl : vs'.length = vs.length) :
    ∃ rest, w.heap[g]? = some (.cells (vs ++ rest).toArray T (0, 0)) ∧ ∃ h', RowOk (.slice (some ⟨g, 0, none⟩) n cap) n sz T vs' h' ∧ Turned w (w.setRow g (vs' ++ rest).toArray) h h' := by
  obtain ⟨h0, ⟨h1, _⟩ | ⟨g', cap', rest, h1, rfl, h2, h3, h4⟩⟩ := hr
  · cases h1
  · cases h1
    have hg : w.heap[g]? = some (.cells (vs ++ rest).toArray T (0, 0)) := hsub g _ (single_self _ _)
    refine ⟨rest, hg, single g (.cells (vs' ++ rest).toArray T (0, 0)), ⟨by rw [hl]; exact h0, .inr ⟨g, cap, rest, rfl, rfl, h2, h3, by simp at h4 ⊢; omega⟩⟩, ⟨sub_single (setRow_heap w g _ _ T (0, 0) hg), fun k hk => ?_, fun k o hk hn => ?_, stay_setRow w g _⟩⟩
    · rw [single_ne] at hk; left; rw [hk, single_self]; simp
    · rw [setRow_other w g k]
      · exact hk
      · intro e; subst e; rw [single_self] at hn; cases hn
def Rws.setAt (R : Rws) (i : Nat) (cn : Cn) : Option Rws :=
  match R with
  | .i k l => match cn with
    | .ints k' xs => match decide (k = k') with
      | true => some (.i k (l.set i xs))
      | false => none
    | _ => none
  | .c l => match cn with
    | .recs xs => some (.c (l.set i xs))
    | _ => none
theorem Rws.setAt_ok {R R' : Rws} {i : Nat} {cn : Cn} (h : R.setAt i cn = some R') (hi : i < R.len) : R'.sz = R.sz ∧ R'.len = R.len ∧ ∀ e vs, cn.den e vs → ∃ n, vs.length = n * R.sz ∧ R'.rows = R.rows.set i (n, vs) := by
  cases R with
  | i k l =>
    cases cn with
    | ints k' xs =>
      simp only [Rws.setAt] at h
      split at h
      · rename_i hk
        have hk := of_decide_eq_true hk
        subst hk
        simp only [Option.some.injEq] at h
        subst h
        refine ⟨rfl, by simp [Rws.len], fun e vs hd => ⟨xs.length, ?_, ?_⟩⟩
        · simp only [Cn.den] at hd; subst hd; simp [Rws.sz]
        · simp only [Cn.den] at hd; subst hd; simp only [Rws.rows]; rw [← set_map]
      · cases h
    | _ => simp [Rws.setAt] at h
  | c l =>
    cases cn with
    | recs xs =>
      simp only [Rws.setAt, Option.some.injEq] at h
      subst h
      refine ⟨rfl, by simp [Rws.len], fun e vs hd => ⟨xs.length, ?_, ?_⟩⟩
      · simp only [Cn.den] at hd; subst hd; simp [Rws.sz, cvals_length]
      · simp only [Cn.den] at hd; subst hd; simp only [Rws.rows]; rw [← set_map]
    | _ => simp [Rws.setAt] at h
def setR (H : List (SB τ)) (b : Nat) (sel : Option Nat) (cn : Cn) : Option (List (SB τ)) :=
  match H[b]? with
  | some (.own _ n T sz q nn) => match sel with
    | none => some (H.set b (.own cn n T sz q nn))
    | some _ => none
  | some (.rows R T TS oe q pd) => match sel with
    | some i => match R.setAt i cn with
      | some R' => some (H.set b (.rows R' T TS oe q pd))
      | none => none
    | none => none
  | _ => none
theorem getR_lens {e : Env} {H : List (SB τ)} {Fr : PH} (hM : Models I e H Fr w) {b ep : Nat} {sel : Option Nat} {c : Bool} {cn : Cn} {n sz : Nat} {T : TypeId} (h : getR H b ep sel = some (c, cn, n, sz, T)) (hc : c = true) :
    ∃ f g u vs h1, e b = some (.hd f) ∧ f ep = some g ∧ (∀ r, g (selQ sel r) = rowRef sz u r) ∧ cn.den e vs ∧ RowOk u n sz T vs h1 ∧ Sub h1 w ∧
      ∀ cn' H' vs' h1' w', setR H b sel cn' = some H' → cn'.den e vs' → RowOk u n sz T vs' h1' → Turned w w' h1 h1' → Models I e H' Fr w' := by
  unfold getR at h
  split at h
  · rename_i c' n' T' sz' q nn hb
    split at h
    · simp only [Option.some.injEq, Prod.mk.injEq] at h
      obtain ⟨h1, rfl, rfl, rfl, rfl⟩ := h
      rw [hc, Nat.beq_eq] at h1
      subst h1
      obtain ⟨hn, ⟨f, v, vs, g1, g2, g3, g4, g5, g6⟩, hs, hput⟩ := hM.take hb
      refine ⟨f, _, v, vs, hn, g1, g2, fun _ => rfl, g4, g5, hs, fun cn' H' vs' h1' w' hset hd hr ht => ?_⟩
      simp only [setR, hb, Option.some.injEq] at hset
      subst hset
      exact hput (Le.refl e) (fun _ _ => rfl) ⟨f, v, vs', g1, g2, g3, hd, hr, g6⟩ ht
    · cases h
  · rename_i R T' TS oe q pd hb
    split at h
    · rename_i i
      simp only [Option.some.injEq, Prod.mk.injEq] at h
      obtain ⟨h1, rfl, rfl, rfl, rfl⟩ := h
      rw [hc, Bool.and_eq_true, Nat.beq_eq, Nat.blt_eq] at h1
      obtain ⟨rfl, h1⟩ := h1
      obtain ⟨hn, ⟨f, u, us, hs, ho, hr, g1, g2, g3, g4, g4', g5, g6, g7, rfl⟩, hs, hput⟩ := hM.take hb
      obtain ⟨r, q1, q2, q3⟩ := R.rows_at h1
      obtain ⟨v, k1, k2, p1, p2, p3, rfl, p4⟩ := g6.split q1
      rw [sub_join g7, sub_join p3] at hs
      refine ⟨f, _, v, r.2, k1, g1, g2, fun r' => ?_, q3 e, ?_, hs.2.1, fun cn' H' vs' h1' w' hset hd hrow ht => ?_⟩
      · show rowRef R.sz (us.getD i undef) r' = rowRef R.sz v r'
        rw [List.getD, p1]; rfl
      · rw [← q2]; exact p2
      · simp only [setR, hb] at hset
        split at hset
        · rename_i R' hR
          simp only [Option.some.injEq] at hset
          subst hset
          obtain ⟨e1, e2, e3⟩ := Rws.setAt_ok hR h1
          obtain ⟨m, e4, e5⟩ := e3 e vs' hd
          have hm : m = R.nAt i := by
            have h5 := hrow.1
            rw [e4] at h5
            have hpos : 0 < R.sz := by cases R <;> simp [Rws.sz]
            exact Nat.eq_of_mul_eq_mul_right hpos h5
          have ht2 := (ht.left hs.2.2 p3)
          have g7' := disj_join.1 g7
          have hd3 : Disj (join k1 k2) ho := g7.symm
          have ht3 := ht2.right (x := ho) hs.1 hd3
          have hset2 : us.set i v = us := by
            refine List.ext_getElem? fun j => ?_
            by_cases hj : j = i
            · subst hj; rw [List.getElem?_set_self (List.getElem?_eq_some_iff.1 p1).1]; exact p1.symm
            · rw [List.getElem?_set_ne (fun e => hj e.symm)]
          refine hput (Le.refl e) (fun _ _ => rfl) ⟨f, u, us, _, ho, join h1' k2, g1, by rw [e1]; exact g2, g3, g4, g4', g5, ?_, ?_, rfl⟩ ht3
          · rw [e1, e5, ← hset2]
            exact p4 v (m, vs') h1' (by rw [hm]; exact hrow) (ht.disj hs.2.2 p3)
          · exact (ht2.disj hs.1 hd3).symm
        · cases hset
    · cases h
  · cases h
end Go.Sym
