/- LaneOrder of the given program is true for every input, by a walk over an abstract memory and its plain law. Conditions: none beyond the statement. -/
import Derived.Test.YtogappokeheilaaRows
import Derived.Test.YtogappokeheilaaB26
import Derived.Test.YtogappokeheilaaAw26
set_option linter.unusedVariables false
set_option maxRecDepth 100000
namespace Go.Proofs.Ytogappokeheilaa
open Go.Aw Go.RowKit
theorem Try.own : ownKnob Try.prog.godebug = none := by kernel_rfl
theorem Try.laidOut : laidOutB Try.prog = true := by kernel_rfl
set_option maxRecDepth 100000 in
theorem laneOrder_lifted (os : Os) (started : os.Started) (H : Type) (enc : TypeId × Value → H) :
    ReturnsInHanded {} Try.checked os 14 .any (Rows.laneOrderSpec.pre6 enc Try.prog Try.f14 Rows.laneOrderRow.domain false) (Rows.laneOrderSpec.post enc Try.prog Try.f14 false true false false) :=
  lift_true (C := Try.checked) (r := 4) 8 Try.own Try.laidOut started (by kernel_rfl) Try.func14
    (ChangeSpec.witness6 (enc := enc) (C := Try.checked) false ⟨#[], #[.slice none 0 0, .int .u8 0, .slice none 0 0], []⟩ 8 (by kernel_rfl) (by kernel_rfl) (by kernel_rfl) (by kernel_rfl))
    rfl (fun ds hl => by rw [Try.params14] at hl; match ds, hl with | [d0, d1, d2], _ => rfl) (by kernel_rfl) Try.underlying4
    (fun t ht => by rw [Try.params14] at ht; simp at ht; rcases ht with rfl | rfl | rfl <;> exact by kernel_rfl) (fun t ht => by rw [Try.params14] at ht; simp at ht; rcases ht with rfl | rfl | rfl <;> exact ⟨by kernel_rfl, of_decide_eq_true (by kernel_rfl)⟩)
    fun bs h => by
      rw [Try.params14] at h
      obtain ⟨xs, r, rfl, hx, h⟩ := hasTs_cons h
      obtain ⟨ys, r, rfl, hy, h⟩ := hasTs_cons h
      obtain ⟨zs, rfl, hz⟩ := hasTs_one h
      obtain ⟨a, rfl⟩ := hasT_rows Try.underlying82 Try.underlying33 Try.underlying5 hx
      obtain ⟨m, rfl⟩ := hasT_u8 Try.underlying5 hy
      obtain ⟨o, rfl⟩ := hasT_bools Try.underlying83 Try.underlying4 hz
      rw [show aggB Try.checked.prog 82 = false from by kernel_rfl, show aggB Try.checked.prog 5 = false from by kernel_rfl, show aggB Try.checked.prog 83 = false from by kernel_rfl]
      exact pc_14 a m o
theorem laneOrder_named : Try.checked.prog.funcNamed Rows.laneOrderRow.func = some 14 := by kernel_rfl
theorem laneOrder_A : joinA Try.checked.prog 14 Try.f14 Rows.laneOrderSpec Rows.laneOrderRow = true := by kernel_rfl
theorem laneOrder_B : joinB Try.checked.prog Rows.laneOrderRow = true := by kernel_rfl
/-- LaneOrder, for every input. -/
theorem laneOrder_holds : Rows.LaneOrderSaid :=
  OpenClaim.holds_of_wide 14 Try.f14 rfl rfl rfl rfl rfl rfl rfl ⟨rfl, rfl, rfl, rfl, rfl⟩ rfl rfl rfl rfl rfl laneOrder_named Try.func14 (joined_of laneOrder_A Try.laidOut laneOrder_B)
    (of_decide_eq_true (by kernel_rfl)) (by unfold Func.isWrapper; first | (rw [if_pos (by decide +kernel)]; kernel_rfl) | (rw [if_neg (by decide +kernel)]; exact ⟨rfl, rfl⟩))
    (fun os started H enc _ => laneOrder_lifted os started H enc)
#print axioms laneOrder_holds
end Go.Proofs.Ytogappokeheilaa
