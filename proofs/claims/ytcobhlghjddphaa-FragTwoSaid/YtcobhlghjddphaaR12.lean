/- FragTwo of the given program is true for every input, by a walk over an abstract memory and its plain law. Conditions: none beyond the statement. -/
import Derived.Test.YtcobhlghjddphaaRows
import Derived.Test.YtcobhlghjddphaaA11
import Derived.Test.YtcobhlghjddphaaAw26
set_option linter.unusedVariables false
set_option maxRecDepth 100000
namespace Go.Proofs.Ytcobhlghjddphaa
open Go.Aw Go.RowKit
theorem Try.own : ownKnob Try.prog.godebug = none := by kernel_rfl
theorem Try.laidOut : laidOutB Try.prog = true := by kernel_rfl
set_option maxRecDepth 100000 in
theorem fragTwo_lifted (os : Os) (started : os.Started) (H : Type) (enc : TypeId × Value → H) :
    ReturnsInHanded {} Try.checked os 12 .any (Rows.fragTwoSpec.pre6 enc Try.prog Try.f12 Rows.fragTwoRow.domain false) (Rows.fragTwoSpec.post enc Try.prog Try.f12 false true false false) :=
  lift_true (C := Try.checked) (r := 4) 8 Try.own Try.laidOut started (by kernel_rfl) Try.func12
    (ChangeSpec.witness6 (enc := enc) (C := Try.checked) false ⟨#[], #[.slice none 0 0, .slice none 0 0, .int .u8 0], []⟩ 8 (by kernel_rfl) (by kernel_rfl) (by kernel_rfl) (by kernel_rfl))
    rfl (fun ds hl => by rw [Try.params12] at hl; match ds, hl with | [d0, d1, d2], _ => rfl) (by kernel_rfl) Try.underlying4
    (fun t ht => by rw [Try.params12] at ht; simp at ht; rcases ht with rfl | rfl | rfl <;> exact by kernel_rfl) (fun t ht => by rw [Try.params12] at ht; simp at ht; rcases ht with rfl | rfl | rfl <;> exact ⟨by kernel_rfl, of_decide_eq_true (by kernel_rfl)⟩)
    fun bs h => by
      rw [Try.params12] at h
      obtain ⟨xs, r, rfl, hx, h⟩ := hasTs_cons h
      obtain ⟨ys, r2, rfl, hy, h⟩ := hasTs_cons h
      obtain ⟨zs, rfl, hz⟩ := hasTs_one h
      obtain ⟨a, rfl⟩ := hasT_bytes Try.underlying23 Try.underlying5 hx
      obtain ⟨b, rfl⟩ := hasT_bytes Try.underlying23 Try.underlying5 hy
      obtain ⟨m, rfl⟩ := hasT_u8 Try.underlying5 hz
      rw [show aggB Try.checked.prog 23 = false from by kernel_rfl, show aggB Try.checked.prog 5 = false from by kernel_rfl]
      exact pc_12 a b m
theorem fragTwo_named : Try.checked.prog.funcNamed Rows.fragTwoRow.func = some 12 := by kernel_rfl
theorem fragTwo_A : joinA Try.checked.prog 12 Try.f12 Rows.fragTwoSpec Rows.fragTwoRow = true := by kernel_rfl
theorem fragTwo_B : joinB Try.checked.prog Rows.fragTwoRow = true := by kernel_rfl
/-- FragTwo, for every input. -/
theorem fragTwo_holds : Rows.FragTwoSaid :=
  OpenClaim.holds_of_wide 12 Try.f12 rfl rfl rfl rfl rfl rfl rfl ⟨rfl, rfl, rfl, rfl, rfl⟩ rfl rfl rfl rfl rfl fragTwo_named Try.func12 (joined_of fragTwo_A Try.laidOut fragTwo_B)
    (of_decide_eq_true (by kernel_rfl)) (by unfold Func.isWrapper; first | (rw [if_pos (by decide +kernel)]; kernel_rfl) | (rw [if_neg (by decide +kernel)]; exact ⟨rfl, rfl⟩))
    (fun os started H enc _ => fragTwo_lifted os started H enc)
#print axioms fragTwo_holds
end Go.Proofs.Ytcobhlghjddphaa
