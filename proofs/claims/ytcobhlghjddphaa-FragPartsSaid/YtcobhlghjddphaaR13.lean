/- FragParts of the given program is true for every input, by a walk over an abstract memory and its plain law. Conditions: none beyond the statement. -/
import Derived.Test.YtcobhlghjddphaaRows
import Derived.Test.YtcobhlghjddphaaA10
set_option linter.unusedVariables false
namespace Go.Proofs.Ytcobhlghjddphaa
open Go.Aw Go.RowKit
theorem Try.own : ownKnob Try.prog.godebug = none := by kernel_rfl
theorem Try.laidOut : laidOutB Try.prog = true := by kernel_rfl
set_option maxRecDepth 100000 in
theorem fragParts_lifted (os : Os) (started : os.Started) (H : Type) (enc : TypeId × Value → H) :
    ReturnsInHanded {} Try.checked os 13 .any (Rows.fragPartsSpec.pre6 enc Try.prog Try.f13 Rows.fragPartsRow.domain false) (Rows.fragPartsSpec.post enc Try.prog Try.f13 false true false false) :=
  lift_true (C := Try.checked) (r := 4) 8 Try.own Try.laidOut started (by kernel_rfl) Try.func13
    (ChangeSpec.witness6 (enc := enc) (C := Try.checked) false ⟨#[], #[.slice none 0 0, .int .i64 0], []⟩ 8 (by kernel_rfl) (by kernel_rfl) (by kernel_rfl) (by kernel_rfl))
    rfl (fun ds hl => by rw [Try.params13] at hl; match ds, hl with | [d0, d1], _ => rfl) (by kernel_rfl) Try.underlying4
    (fun t ht => by rw [Try.params13] at ht; simp at ht; rcases ht with rfl | rfl <;> exact by kernel_rfl) (fun t ht => by rw [Try.params13] at ht; simp at ht; rcases ht with rfl | rfl <;> exact ⟨by kernel_rfl, of_decide_eq_true (by kernel_rfl)⟩)
    fun bs h => by
      rw [Try.params13] at h
      obtain ⟨xs, r, rfl, hx, h⟩ := hasTs_cons h
      obtain ⟨ys, rfl, hy⟩ := hasTs_one h
      obtain ⟨l, rfl⟩ := hasT_rows Try.underlying22 Try.underlying23 Try.underlying5 hx
      obtain ⟨s, rfl, hs⟩ := hasT_int Try.underlying3 hy
      rw [show aggB Try.checked.prog 22 = false from by kernel_rfl, show aggB Try.checked.prog 3 = false from by kernel_rfl]
      exact pc_13 l s hs
/-- FragParts, for every input. -/
theorem fragParts_holds : Rows.FragPartsSaid :=
  OpenClaim.holds_of_wide 13 Try.f13 rfl rfl rfl rfl rfl rfl rfl ⟨rfl, rfl, rfl, rfl, rfl⟩ rfl rfl rfl rfl rfl (by kernel_rfl) Try.func13 (by kernel_rfl)
    (of_decide_eq_true (by kernel_rfl)) (by unfold Func.isWrapper; first | (rw [if_pos (by decide +kernel)]; kernel_rfl) | (rw [if_neg (by decide +kernel)]; exact ⟨rfl, rfl⟩))
    (fun os started H enc _ => fragParts_lifted os started H enc)
#print axioms fragParts_holds
end Go.Proofs.Ytcobhlghjddphaa
