/- Operations of package strings' Builder (unsafe.SliceData, unsafe.String, abi.NoEscape), and a map that is made and never looked at. -/
import Derived.Test.YtienakdnmhmglaaVOj
import Derived.KernelRfl
set_option linter.unusedSimpArgs false
set_option linter.unusedVariables false
set_option linter.unusedSectionVars false
namespace Go.Sym
open Go
variable {P : Program} {w : World} {τ : Type} {I : Inv τ}

/-! ### unsafe.SliceData -/
def dataH (x : SV) (H : List (SB τ)) : LR τ :=
  match x with
  | .v y => match y with
    | .slice none _ _ => some (true, .v (.pointer none), H, [])
    | _ => none
  | .h b p => match p with
    | [ep, z] => match z with
      | 0 => match H[b]? with
        | some (.own _ n _ _ ep' _) => some (Nat.beq ep' ep && Nat.blt 0 n, .h b [ep, 0, 0, 0], H, [])
        | _ => none
      | _ => none
    | _ => none
  | _ => none
theorem dataH_ok {e : Env} {H H' : List (SB τ)} {Fr : PH} {x y : SV} {c : Bool} {ws : List Nat} {v : Value} (ts : Array TypeId) (ty : TypeId) (hM : Models I e H Fr w) (h : dataH x H = some (c, y, H', ws)) (hc : c = true) (hd : Den e x v) :
    ∃ r, (Builtin.unsafeSliceData_ ts ty #[v]).run P w = .ok r w ∧ H' = H ∧ Den e y r := by
  unfold dataH at h
  split at h
  · rename_i q
    split at h
    · rename_i n cap
      simp only [Option.some.injEq, Prod.mk.injEq] at h
      obtain ⟨_, rfl, rfl, _⟩ := h
      simp only [Den] at hd
      subst hd
      exact ⟨_, Lib.run_unsafeSliceData_nil w ts ty n cap, rfl, by simp [Den]⟩
    · cases h
  · rename_i b p
    split at h
    · rename_i ep z
      split at h
      · split at h
        · rename_i cn n T sz ep' nn hb
          simp only [Option.some.injEq, Prod.mk.injEq] at h
          obtain ⟨h1, rfl, rfl, _⟩ := h
          rw [hc, Bool.and_eq_true, Nat.beq_eq, Nat.blt_eq] at h1
          obtain ⟨rfl, h1⟩ := h1
          obtain ⟨hn, ⟨f, u, vs, g1, g2, g3, g4, ⟨g5, g6⟩, _⟩, _⟩ := hM.item hb
          simp only [Den] at hd
          obtain ⟨f', k1, k2, k3⟩ := hd
          rw [g1] at k1; cases k1
          simp only [hdAt, g2, Option.map_some, Option.some.injEq, ownRef, rowRef] at k2
          subst k2
          rcases g6 with ⟨_, h0, _⟩ | ⟨g, cap, rest, rfl, _, hcap, _, _⟩
          · omega
          · refine ⟨_, Lib.run_unsafeSliceData_row w ts ty _ n cap (by omega), rfl, ?_⟩
            simp only [Den]
            exact ⟨f, g1, by simp [hdAt, g2, ownRef, rowRef], rfl⟩
        · cases h
      · cases h
    · cases h
  · cases h

/-! ### unsafe.String -/
def byteB (xs : List Int) : Bool := xs.all fun x => decide (0 ≤ x ∧ x ≤ 255)
def ustrH (P : Program) (pt : TypeId) (x k : SV) (H : List (SB τ)) : LR τ :=
  match x with
  | .v y => match y with
    | .pointer none => match k with
      | .v (.int kk m) => match decide (kk = .i64) with
        | true => some (decide (m = 0), .v (.string ByteArray.empty), H, [])
        | false => none
      | _ => none
    | _ => none
  | .h b p => match p with
    | [ep, z, i, o] => match Nat.beq z 0 && (Nat.beq i 0 && Nat.beq o 0) with
      | true => match k with
        | .v (.int kk m) => match H[b]? with
          | some (.own cn n T sz ep' _) => match cn with
            | .ints kd xs => match P.underlying pt with
              | some (.pointer T') => match Nat.beq sz 1 && (Nat.beq T' T && (decide (kd = .u8) && (decide (kk = .i64) && Nat.beq (P.cellsOf T) 1))) with
                | true => some (Nat.beq ep' ep && (Nat.blt 0 n && (decide (m = (n : Int)) && (byteB xs && decide (n ≤ 9223372036854775807)))), .v (.string (bytesOf xs)), H.set b .gone, [b])
                | false => none
              | _ => none
            | _ => none
          | _ => none
        | _ => none
      | false => none
    | _ => none
  | _ => none
theorem bytesOf_u8 (xs : List Int) : bytesOf xs = ⟨(xs.map fun n => UInt8.ofNat n.toNat).toArray⟩ := rfl
theorem freeze_turned {g : Nat} {o : Obj} {n : Nat} : Turned w (w.freeze ⟨g, 0, none⟩ n) (single g o) emp := by
  refine ⟨fun k x hk => (by cases hk), fun k hk => absurd rfl hk, fun k x hk hs => ?_, ?_⟩
  · have hkg : k ≠ g := fun e => by subst e; simp [single] at hs
    unfold World.freeze
    split
    · exact hk
    · simp only [Array.getElem?_modify, Ne.symm hkg, if_false]; exact hk
  · unfold World.freeze
    split
    · exact ⟨rfl, rfl⟩
    · exact ⟨rfl, rfl⟩
theorem ustrH_ok {e : Env} {H H' : List (SB τ)} {Fr : PH} {x y k : SV} {c : Bool} {ws : List Nat} {u v : Value} {pt it : TypeId} (ty : TypeId) (hM : Models I e H Fr w) (h : ustrH P pt x k H = some (c, y, H', ws)) (hc : c = true) (hx : Den e x u) (hk : Den e k v) :
    ∃ r w', (Builtin.unsafeString_ #[pt, it] ty #[u, v]).run P w = .ok r w' ∧ Models I e H' Fr w' ∧ Den e y r := by
  unfold ustrH at h
  split at h
  · split at h
    · split at h
      · rename_i kk m
        split at h
        · rename_i hkk
          simp only [Option.some.injEq, Prod.mk.injEq] at h
          obtain ⟨h1, rfl, rfl, _⟩ := h
          rw [hc] at h1
          have h1 := of_decide_eq_true h1
          have hkk := of_decide_eq_true hkk
          subst h1; subst hkk
          simp only [Den] at hx hk
          subst hx; subst hk
          exact ⟨_, w, Lib.run_unsafeString_none w pt it ty none, hM, by simp [Den]⟩
        · cases h
      · cases h
    · cases h
  · rename_i b p
    split at h
    · rename_i ep z i o
      split at h
      · rename_i hz
        simp only [Bool.and_eq_true, Nat.beq_eq] at hz
        obtain ⟨rfl, rfl, rfl⟩ := hz
        split at h
        · rename_i kk m
          split at h
          · rename_i cn n T sz ep' nn hb
            split at h
            · rename_i kd xs
              split at h
              · rename_i T' hpt
                split at h
                · rename_i hcond
                  simp only [Bool.and_eq_true, Nat.beq_eq, decide_eq_true_eq] at hcond
                  obtain ⟨rfl, rfl, rfl, rfl, hcell⟩ := hcond
                  simp only [Option.some.injEq, Prod.mk.injEq] at h
                  obtain ⟨h1, rfl, rfl, _⟩ := h
                  simp only [hc, Bool.true_eq, Bool.and_eq_true, Nat.beq_eq, Nat.blt_eq, decide_eq_true_eq] at h1
                  obtain ⟨rfl, hn0, rfl, hby, h63⟩ := h1
                  obtain ⟨hn, ⟨f, vv, vs, g1, g2, g3, g4, ⟨g5, g6⟩, _⟩, hsub, hput⟩ := hM.take hb
                  simp only [Den] at hx hk
                  obtain ⟨f', k1, k2, k3⟩ := hx
                  rw [g1] at k1; cases k1
                  subst hk
                  rcases g6 with ⟨_, h0, _⟩ | ⟨g, cap, rest, rfl, rfl, hcap, _, hlen⟩
                  · omega
                  · simp only [hdAt, g2, Option.map_some, Option.some.injEq, ownRef, rowRef, Nat.zero_mul, Nat.add_zero] at k2
                    subst k2
                    have g4 : vs = xs.map (Value.int .u8) := g4
                    have hlx : xs.length = n := by rw [g4] at g5; simpa using g5
                    have hh : w.heap[g]? = some (.cells (vs ++ rest).toArray T' (0, 0)) := hsub g _ (by simp [single])
                    have hby' : ∀ a ∈ xs, 0 ≤ a ∧ a ≤ 255 := by
                      intro a ha
                      have := List.all_eq_true.1 hby a ha
                      exact of_decide_eq_true this
                    have hrun := Lib.run_unsafeString_row w pt it ty T' hpt hcell g (vs ++ rest).length (by simp [World.shape?, hh]) (xs.map fun n => UInt8.ofNat n.toNat) (by intro hq; rw [List.map_eq_nil_iff] at hq; subst hq; simp at hlx; omega) (by simp at hlen ⊢; omega) (by simp; omega) (fun j a hj => by
                      rw [List.getElem?_map, Option.map_eq_some_iff] at hj
                      obtain ⟨q, hq, rfl⟩ := hj
                      rw [add_none, cell_at hh]
                      have hjl : j < xs.length := (List.getElem?_eq_some_iff.1 hq).1
                      have hq2 := hby' q (List.mem_of_getElem? hq)
                      simp only [Nat.zero_add, List.getElem?_toArray]
                      rw [List.getElem?_append_left (by rw [g4]; simpa using hjl), g4, List.getElem?_map, hq]
                      simp only [Option.map_some, Option.some.injEq, Value.int.injEq, true_and]
                      rw [UInt8.toNat_ofNat']
                      omega)
                    rw [List.length_map, hlx] at hrun
                    exact ⟨_, _, hrun, hput (b' := .gone) (hn' := emp) (Le.refl e) (fun _ _ => rfl) rfl freeze_turned, by simp [Den, bytesOf_u8]⟩
                · cases h
              · cases h
            · cases h
          · cases h
        · cases h
      · cases h
    · cases h
  · cases h

/-! ### A map that is made -/
def mapH (H : List (SB τ)) : LR τ := some (true, .h H.length [0], H ++ [.gone], [])
theorem mapH_ok {e : Env} {H : List (SB τ)} {Fr : PH} (T : TypeId) (hM : Models I e H Fr w) :
    ∃ r w' e', (Instr.makeMap T none).run P w = .ok r w' ∧ Le e e' ∧ Models I e' (H ++ [.gone]) Fr w' ∧ Den e' (.h H.length [0]) r := by
  have hle : Le e (ext e H.length (.hd fun j => if j = 0 then some (fun _ => .map (some w.heap.size)) else none)) := le_ext hM.fresh
  refine ⟨.map (some w.heap.size), w.alloc (.map #[] 0), _, ?_, hle, hM.add (hn := emp) rfl (Ext.alloc w _) (fun k o hk => by simp [emp] at hk) (fun k hk => by simp [emp] at hk), ?_⟩
  · simp [Instr.makeMap]
  · simp only [Den, ext_self]
    exact ⟨_, rfl, by simp [hdAt], rfl⟩

/-! ### internal/abi.NoEscape -/
def escName : String := "internal/abi.NoEscape"
theorem esc_next : Extern.allNextRows.lookup escName = none := by kernel_rfl
theorem esc_next0 : Extern.allNextRows.lookup "" = none := by kernel_rfl
theorem esc_gen : Extern.allGenericRows.lookup escName = none := by kernel_rfl
theorem esc_typ : Extern.allTypedRows.lookup escName = none := by kernel_rfl
theorem esc_all : Extern.allRows.lookup escName = some Extern.AbiNoEscape.same := by kernel_rfl
def escH (P : Program) (f : SV) (args : List SV) (H : List (SB τ)) : LR τ :=
  match f with
  | .v y => match y with
    | .func (.func g) a c => match a.toList with
      | [] => match c.toList with
        | [] => match args with
          | [x] => match P.funcs[g]? with
            | some fn => match fn.name == escName && (fn.origin == "" && fn.body.isNone) with
              | true => some (true, x, H, [])
              | false => none
            | none => none
          | _ => none
        | _ => none
      | _ => none
    | _ => none
  | _ => none
theorem run_esc {g : FuncId} {fn : Func} {v : Value} (hf : P.funcs[g]? = some fn) (h1 : fn.name = escName) (h2 : fn.origin = "") (h3 : fn.body.isNone = true) : (callFunc g #[v]).run P w = .ok (.value v) w := by
  have hn : (fn.name == "runtime.NumGoroutine") = false := by rw [h1]; kernel_rfl
  have e1 : Extern.findNext fn = none := by simp only [Extern.findNext, h1, h2, esc_next, esc_next0]; rfl
  have e2 : Extern.find fn = some Extern.AbiNoEscape.same := by simp only [Extern.find, h1, h2, esc_gen, esc_typ, esc_all]; rfl
  simp only [callFunc, Sem.run_bind, run_program, Result.andThen_ok, hf, hn, h3, Bool.false_eq_true, if_false, if_true, e1, e2]
  rfl
end Go.Sym
