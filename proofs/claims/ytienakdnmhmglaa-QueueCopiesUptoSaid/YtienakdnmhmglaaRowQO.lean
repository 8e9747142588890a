/- The law of copies, as its row says it. -/
import Derived.Test.YtienakdnmhmglaaRows
import Derived.Test.YtienakdnmhmglaaVW
import Derived.Test.YtienakdnmhmglaaQuO
import Derived.WalkKit
import Derived.JoinedCond
set_option linter.unusedSimpArgs false
set_option linter.unusedVariables false
set_option linter.unusedSectionVars false
namespace Go.Proofs.Ytienakdnmhmglaa
open Go Go.Sym
theorem own : ownKnob Try.prog.godebug = none := by kernel_rfl
theorem laidOut : laidOutB Try.prog = true := by kernel_rfl
theorem bulk_one {H : Type} (d : DataW H) : 1 ≤ Rows.uptoBulk d := by
  cases d with
  | lit l => cases l <;> simp [Rows.uptoBulk]
  | _ => simp [Rows.uptoBulk]
theorem bulk_part {H : Type} {d : DataW H} : ∀ {l : List (DataW H)}, d ∈ l → Rows.uptoBulk d ≤ Rows.uptoBulkAll l
  | x :: r, h => by
    simp only [Rows.uptoBulkAll]
    rcases List.mem_cons.1 h with rfl | h
    · omega
    · have := bulk_part h; omega
theorem bulk_len {H : Type} : ∀ l : List (DataW H), l.length ≤ Rows.uptoBulkAll l
  | [] => by simp
  | x :: r => by have := bulk_one x; have := bulk_len r; simp only [Rows.uptoBulkAll, List.length_cons]; omega
theorem bulk_bound {H : Type} {l : List (DataW H)} (hk : Rows.uptoSmall H l = true) : Rows.uptoBulkAll l ≤ 1048576 := by
  simpa [Rows.uptoSmall] using hk
theorem bulk_upto {H : Type} : BulkQ (H := H) (fun d => Rows.uptoBulk d ≤ 1048576) 1048576 := by
  refine ⟨fun e s h _ => ?_, fun ps h d hd => ?_, fun bs h _ => ?_⟩
  · simp only [Rows.uptoBulk] at h
    have := bulk_len e
    exact ⟨by omega, fun d hd => by have := bulk_part hd; omega⟩
  · simp only [Rows.uptoBulk] at h
    have := bulk_part hd
    omega
  · simp only [Rows.uptoBulk] at h
    omega

namespace queueCopies
open Go.ChangeShapes Go.WideShapes Go.ChangeAt Go.RowKit
set_option maxRecDepth 100000 in
theorem lifted (os : Os) (started : os.Started) (H : Type) (enc : TypeId × Value → H) (F : Stop.Interp) :
    ReturnsInHanded {} Try.checked os 7 .any ((Rows.OpenSpec.upto Rows.queueCopiesSpec).pre6 enc Try.prog Try.f7 Rows.queueCopiesUptoRow.domain false) (((Rows.OpenSpec.upto Rows.queueCopiesSpec).at F).post enc Try.prog Try.f7 false true false false) := by
  refine returnsInHanded_of_cond (C := Try.checked) (s := Rows.OpenSpec.upto Rows.queueCopiesSpec) (k := Rows.uptoSmall) rfl own started (by kernel_rfl) Try.func7
    (OpenSpec.witness (enc := enc) (C := Try.checked) (s := Rows.OpenSpec.upto Rows.queueCopiesSpec) (k := Rows.uptoSmall) rfl false ⟨#[], #[.int .i64 0, .slice none 0 0, .slice none 0 0], []⟩ 8 (by kernel_rfl) (by kernel_rfl) (by kernel_rfl)
      (x := ([.lit (.int .i64 0), .nil, .nil], [], [])) (by kernel_rfl) rfl (by kernel_rfl)) ?_
  intro W base args ds gs before hval0 hW hcnd hk _
  have hval : ∀ (j : Nat) t v, Try.f7.params[j]? = some t → args[j]? = some v → Value.okWide Try.prog W .any base t v := hval0
  have hW' := hW
  obtain ⟨p, q, hA0, hV, rfl, hfz, hnd⟩ := hW
  have hA : DataW.TrodAll enc Try.prog W 0 (fun _ => true) true Try.f7.params.toList args.toList ds p := hA0
  have hq : ∀ d ∈ ds, Rows.uptoBulk d ≤ 1048576 := fun d hd => by
    have := Nat.le_trans (bulk_part (List.mem_append_left gs hd)) (bulk_bound hk)
    exact this
  have hB := bulk_upto (H := H)
  obtain ⟨rfl, rfl⟩ := trodVars_none hV
  have hp := ips_of hB (r := .any) (b0 := base) (show ipsOf Try.prog Try.f7.params.toList = some [.one (.i .i64), .one (.sl [.i .i64, .sl [.s], .i .i64]), .one (.sl [.i .i64, .sl [.s], .i .i64])] by kernel_rfl) hA (fun i t v h1 h2 => hval i t v (by rw [← Array.getElem?_toList]; exact h1) (by rw [← Array.getElem?_toList]; exact h2)) hq
  have hst : ∀ W', Ext W W' → _ := fun W' hext => args_stay laidOut hext (by kernel_rfl) hA
  have hdl0 : ds.length = 3 := trodAll_dlen hA
  obtain ⟨d0, e0, rfl, hdl1⟩ := len_succ hdl0
  obtain ⟨d1, e1, rfl, hdl2⟩ := len_succ hdl1
  obtain ⟨d2, e2, rfl, hdl3⟩ := len_succ hdl2
  obtain rfl := len_zero hdl3
  obtain ⟨args⟩ := args
  clear hval0 hval hA0
  refine (law_copies hp).mono fun e W' ⟨he, hext⟩ => ?_
  subst he
  exact ⟨_, rfl, _, _, _, [], _, [], hW', trodAll_mk1 (shut_bool Try.underlying4 _), hst W' hext, rfl, ext_frame hext _, fun h => by cases h⟩

theorem over : Rows.queueCopiesUptoRow.holds Try.pinned (Rows.OpenSpec.upto Rows.queueCopiesSpec) :=
  OpenClaim.holds_of_cond 7 Try.f7 rfl rfl rfl rfl rfl rfl rfl ⟨rfl, rfl, rfl, rfl, rfl⟩ rfl rfl rfl rfl rfl (by kernel_rfl) Try.func7 (by kernel_rfl)
    (of_decide_eq_true (by kernel_rfl)) (by unfold Func.isWrapper; first | (rw [if_pos (by decide +kernel)]; kernel_rfl) | (rw [if_neg (by decide +kernel)]; exact ⟨rfl, rfl⟩))
    (fun os started H enc _ F => lifted os started H enc F)

/-- The statement. -/
theorem proved : Rows.QueueCopiesUptoSaid := over
#print axioms proved
end queueCopies

end Go.Proofs.Ytienakdnmhmglaa
