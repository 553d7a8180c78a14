/- TokRound of the given program is true for every input, by a walk over an abstract memory and its plain law. Conditions: none beyond the statement. -/
import Derived.Test.YtogappokeheilaaRows
import Derived.Test.YtogappokeheilaaB53
import Derived.Test.YtogappokeheilaaAw26
set_option linter.unusedVariables false
set_option maxRecDepth 100000
namespace Go.Proofs.Ytogappokeheilaa
open Go.Aw Go.RowKit
theorem Try.own : ownKnob Try.prog.godebug = none := by kernel_rfl
theorem Try.laidOut : laidOutB Try.prog = true := by kernel_rfl
set_option maxRecDepth 100000 in
theorem tokRound_lifted (os : Os) (started : os.Started) (H : Type) (enc : TypeId × Value → H) :
    ReturnsInHanded {} Try.checked os 4 .any (Rows.tokRoundSpec.pre6 enc Try.prog Try.f4 Rows.tokRoundRow.domain false) (Rows.tokRoundSpec.post enc Try.prog Try.f4 false true false false) :=
  lift_true (C := Try.checked) (r := 4) 8 Try.own Try.laidOut started (by kernel_rfl) Try.func4
    (ChangeSpec.witness6 (enc := enc) (C := Try.checked) false ⟨#[], #[.slice none 0 0], []⟩ 8 (by kernel_rfl) (by kernel_rfl) (by kernel_rfl) (by kernel_rfl))
    rfl (fun ds hl => by rw [Try.params4] at hl; match ds, hl with | [d0], _ => rfl) (by kernel_rfl) Try.underlying4
    (fun t ht => by rw [Try.params4] at ht; simp at ht; subst ht; exact by kernel_rfl) (fun t ht => by rw [Try.params4] at ht; simp at ht; subst ht; exact ⟨by kernel_rfl, of_decide_eq_true (by kernel_rfl)⟩)
    fun bs h => by
      rw [Try.params4] at h
      obtain ⟨xs, rfl, hx⟩ := hasTs_one h
      obtain ⟨cs, rfl⟩ := hasT_bytes Try.underlying33 Try.underlying5 hx
      rw [show aggB Try.checked.prog 33 = false from by kernel_rfl]
      exact pc_4 cs
theorem tokRound_named : Try.checked.prog.funcNamed Rows.tokRoundRow.func = some 4 := by kernel_rfl
theorem tokRound_A : joinA Try.checked.prog 4 Try.f4 Rows.tokRoundSpec Rows.tokRoundRow = true := by kernel_rfl
theorem tokRound_B : joinB Try.checked.prog Rows.tokRoundRow = true := by kernel_rfl
/-- TokRound, for every input. -/
theorem tokRound_holds : Rows.TokRoundSaid :=
  OpenClaim.holds_of_wide 4 Try.f4 rfl rfl rfl rfl rfl rfl rfl ⟨rfl, rfl, rfl, rfl, rfl⟩ rfl rfl rfl rfl rfl tokRound_named Try.func4 (joined_of tokRound_A Try.laidOut tokRound_B)
    (of_decide_eq_true (by kernel_rfl)) (by unfold Func.isWrapper; first | (rw [if_pos (by decide +kernel)]; kernel_rfl) | (rw [if_neg (by decide +kernel)]; exact ⟨rfl, rfl⟩))
    (fun os started H enc _ => tokRound_lifted os started H enc)
#print axioms tokRound_holds
end Go.Proofs.Ytogappokeheilaa
