/- Rows of layer 12: the blank cell, as the row's condition lays it. -/
import Derived.Test.YtcbjgpkbfmmdpaaGreatDoorRows
import Derived.Test.YtcbjgpkbfmmdpaaGreatDoorHpPw
import Derived.WalkKit
import Derived.JoinedCond
import Derived.OpenShut
import Derived.LaidMore
import Derived.Lay
import Derived.Stop.Joined
set_option linter.unusedSimpArgs false
set_option linter.unusedVariables false
set_option linter.unusedSectionVars false
namespace Go.Proofs.YtcbjgpkbfmmdpaaGreatDoor
open Go Go.Sym
theorem own : ownKnob Tryz.prog.godebug = none := by kernel_rfl
theorem laidOut : laidOutB Tryz.prog = true := by kernel_rfl
/-- What each row lists. -/
def laidL : List (String × DataW Unit) := [("vizard/screen.Blank", Rows.laid_vizard_screen_Blank)]
theorem len4 {α : Type} {l : List α} (h : l.length = 4) : ∃ a b c d, l = [a, b, c, d] := by
  match l, h with
  | [a, b, c, d], _ => exact ⟨a, b, c, d, rfl⟩
theorem gw_of_laid {W : World} (h : laidMetH Tryz.prog laidL W) : Gw W := by
  rw [MakeChecks.laidMetH_plain _ _ _ (by kernel_rfl)] at h
  obtain ⟨ps, ⟨g, t, cs, fuel, p, q, hg, ht, hv, hd, _, _⟩, _, _⟩ := h
  obtain rfl := Option.some.inj ((show Tryz.prog.globalNamed "vizard/screen.Blank" = some 0 by kernel_rfl).symm.trans hg)
  obtain rfl := Option.some.inj ((show (Tryz.prog.globals[0]?).map (·.type) = some 45 by kernel_rfl).symm.trans ht)
  obtain ⟨fs, hfs, e0, e1, e2, e3, e4⟩ : ∃ fs : Array Field, Tryz.prog.underlying 45 = some (.struct fs) ∧ fs.size = 4 ∧ fs[0]?.map (fun f => (f.type, f.offset)) = some (21, 0) ∧ fs[1]?.map (fun f => (f.type, f.offset)) = some (3, 1) ∧ fs[2]?.map (fun f => (f.type, f.offset)) = some (4, 2) ∧ fs[3]?.map (fun f => (f.type, f.offset)) = some (3, 3) :=
    ⟨_, Tryz.underlying45, rfl, rfl, rfl, rfl, rfl⟩
  obtain ⟨xs, n, rfl, hx, hl, hn, hel⟩ := DataW.trod_struct hfs hd
  have c1 : Tryz.prog.cellsOf 21 = 1 := by kernel_rfl
  have c2 : Tryz.prog.cellsOf 3 = 1 := by kernel_rfl
  have c3 : Tryz.prog.cellsOf 4 = 1 := by kernel_rfl
  have c4 : Tryz.prog.cellsOf 45 = 4 := by kernel_rfl
  have u1 : Tryz.prog.underlying 21 = some (.int .i32) := by kernel_rfl
  have u2 : Tryz.prog.underlying 3 = some (.int .i64) := by kernel_rfl
  have u3 : Tryz.prog.underlying 4 = some .bool := by kernel_rfl
  simp only [Option.map_eq_some_iff, Prod.mk.injEq] at e1 e2 e3 e4
  obtain ⟨f1, e1, t1, o1⟩ := e1
  obtain ⟨f2, e2, t2, o2⟩ := e2
  obtain ⟨f3, e3, t3, o3⟩ := e3
  obtain ⟨f4, e4, t4, o4⟩ := e4
  have h1 := hel 0 f1 e1
  have h2 := hel 1 f2 e2
  have h3 := hel 2 f3 e3
  have h4 := hel 3 f4 e4
  rw [t1, o1, c1] at h1
  rw [t2, o2, c2] at h2
  rw [t3, o3, c3] at h3
  rw [t4, o4, c2] at h4
  simp only [Prod.mk.injEq, Rows.laid_vizard_screen_Blank, DataW.agg.injEq] at hx
  obtain ⟨hx, _⟩ := hx
  rw [c4] at hl
  rw [e0] at hn
  obtain ⟨x1, x2, x3, x4, rfl⟩ := len4 hn
  simp only [List.map_cons, List.map_nil, List.cons.injEq, and_true] at hx
  obtain ⟨hx1, hx2, hx3, hx4⟩ := hx
  obtain ⟨n1, k1, y1, _⟩ := DataW.trod_int u1 (show DataW.trod _ _ _ _ _ _ _ _ _ = some x1 from h1)
  obtain ⟨n2, k2, y2, _⟩ := DataW.trod_int u2 (show DataW.trod _ _ _ _ _ _ _ _ _ = some x2 from h2)
  obtain ⟨b3, k3, y3⟩ := DataW.trod_bool u3 (show DataW.trod _ _ _ _ _ _ _ _ _ = some x3 from h3)
  obtain ⟨n4, k4, y4, _⟩ := DataW.trod_int u2 (show DataW.trod _ _ _ _ _ _ _ _ _ = some x4 from h4)
  subst y1; subst y2; subst y3; subst y4
  simp only [DataW.lit.injEq, Lit.int.injEq, Lit.bool.injEq, true_and] at hx1 hx2 hx3 hx4
  subst hx1; subst hx2; subst hx3; subst hx4
  obtain ⟨cs⟩ := cs
  obtain ⟨a, b, c, d, rfl⟩ := len4 (show cs.length = 4 from hl)
  simp only [List.drop_zero, List.drop_succ_cons, List.take_succ_cons, List.take_zero, List.cons.injEq, and_true] at k1 k2 k3 k4
  subst k1; subst k2; subst k3; subst k4
  intro g l hgl
  have hg0 : g = 0 ∧ l = [.int .i32 32, .int .i64 0, .bool false, .int .i64 0] := by
    unfold globAt globs lookG at hgl
    split at hgl
    · rename_i hb
      have := Nat.eq_of_beq_eq_true hb
      simp only [Option.some.injEq] at hgl
      exact ⟨this.symm, hgl.symm⟩
    · cases hgl
  obtain ⟨rfl, rfl⟩ := hg0
  simp only [World.var?, hg, Option.bind_some] at hv
  split at hv
  · rename_i cs' T fz hc
    simp only [Option.some.injEq] at hv
    subst hv
    exact ⟨T, fz, hc⟩
  · cases hv
end Go.Proofs.YtcbjgpkbfmmdpaaGreatDoor
