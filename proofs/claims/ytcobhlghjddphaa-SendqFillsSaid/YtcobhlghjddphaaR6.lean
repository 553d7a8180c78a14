/- SendqFills of the given program is true for every input, by a walk over an abstract memory and its plain law. Conditions: none beyond the statement. -/
import Derived.Test.YtcobhlghjddphaaRows
import Derived.Test.YtcobhlghjddphaaA3
set_option linter.unusedVariables false
namespace Go.Proofs.Ytcobhlghjddphaa
open Go.Aw Go.RowKit
theorem Try.own : ownKnob Try.prog.godebug = none := by kernel_rfl
theorem Try.laidOut : laidOutB Try.prog = true := by kernel_rfl
set_option maxRecDepth 100000 in
theorem sendqFills_lifted (os : Os) (started : os.Started) (H : Type) (enc : TypeId × Value → H) :
    ReturnsInHanded {} Try.checked os 6 .any (Rows.sendqFillsSpec.pre6 enc Try.prog Try.f6 Rows.sendqFillsRow.domain false) (Rows.sendqFillsSpec.post enc Try.prog Try.f6 false true false false) :=
  lift_true (C := Try.checked) (r := 4) 8 Try.own Try.laidOut started (by kernel_rfl) Try.func6
    (ChangeSpec.witness6 (enc := enc) (C := Try.checked) false ⟨#[], #[.int .u8 0, .slice none 0 0], []⟩ 8 (by kernel_rfl) (by kernel_rfl) (by kernel_rfl) (by kernel_rfl))
    rfl (fun ds hl => by rw [Try.params6] at hl; match ds, hl with | [d0, d1], _ => rfl) (by kernel_rfl) Try.underlying4
    (fun t ht => by rw [Try.params6] at ht; simp at ht; rcases ht with rfl | rfl <;> exact by kernel_rfl) (fun t ht => by rw [Try.params6] at ht; simp at ht; rcases ht with rfl | rfl <;> exact ⟨by kernel_rfl, of_decide_eq_true (by kernel_rfl)⟩)
    fun bs h => by
      rw [Try.params6] at h
      obtain ⟨xs, r, rfl, hx, h⟩ := hasTs_cons h
      obtain ⟨ys, rfl, hy⟩ := hasTs_one h
      obtain ⟨room, rfl⟩ := hasT_u8 Try.underlying5 hx
      obtain ⟨b, rfl⟩ := hasT_bytes Try.underlying23 Try.underlying5 hy
      rw [show aggB Try.checked.prog 5 = false from by kernel_rfl, show aggB Try.checked.prog 23 = false from by kernel_rfl]
      exact pc_6 room b
/-- SendqFills, for every input. -/
theorem sendqFills_holds : Rows.SendqFillsSaid :=
  OpenClaim.holds_of_wide 6 Try.f6 rfl rfl rfl rfl rfl rfl rfl ⟨rfl, rfl, rfl, rfl, rfl⟩ rfl rfl rfl rfl rfl (by kernel_rfl) Try.func6 (by kernel_rfl)
    (of_decide_eq_true (by kernel_rfl)) (by unfold Func.isWrapper; first | (rw [if_pos (by decide +kernel)]; kernel_rfl) | (rw [if_neg (by decide +kernel)]; exact ⟨rfl, rfl⟩))
    (fun os started H enc _ => sendqFills_lifted os started H enc)
#print axioms sendqFills_holds
end Go.Proofs.Ytcobhlghjddphaa
