/- SeqrRounds of the given program is true for every input, by a walk over an abstract memory and its plain law. Conditions: none beyond the statement. -/
import Derived.Test.YtogappokeheilaaRows
import Derived.Test.YtogappokeheilaaB68
import Derived.Test.YtogappokeheilaaAw26
set_option linter.unusedVariables false
set_option maxRecDepth 100000
namespace Go.Proofs.Ytogappokeheilaa
open Go.Aw Go.RowKit
theorem Try.own : ownKnob Try.prog.godebug = none := by kernel_rfl
theorem Try.laidOut : laidOutB Try.prog = true := by kernel_rfl
set_option maxRecDepth 100000 in
theorem seqrRounds_lifted (os : Os) (started : os.Started) (H : Type) (enc : TypeId × Value → H) :
    ReturnsInHanded {} Try.checked os 9 .any (Rows.seqrRoundsSpec.pre6 enc Try.prog Try.f9 Rows.seqrRoundsRow.domain false) (Rows.seqrRoundsSpec.post enc Try.prog Try.f9 false true false false) :=
  lift_true (C := Try.checked) (r := 4) 8 Try.own Try.laidOut started (by kernel_rfl) Try.func9
    (ChangeSpec.witness6 (enc := enc) (C := Try.checked) false ⟨#[], #[.slice none 0 0, .int .u8 0], []⟩ 8 (by kernel_rfl) (by kernel_rfl) (by kernel_rfl) (by kernel_rfl))
    rfl (fun ds hl => by rw [Try.params9] at hl; match ds, hl with | [d0, d1], _ => rfl) (by kernel_rfl) Try.underlying4
    (fun t ht => by rw [Try.params9] at ht; simp at ht; rcases ht with rfl | rfl <;> exact by kernel_rfl) (fun t ht => by rw [Try.params9] at ht; simp at ht; rcases ht with rfl | rfl <;> exact ⟨by kernel_rfl, of_decide_eq_true (by kernel_rfl)⟩)
    fun bs h => by
      rw [Try.params9] at h
      obtain ⟨xs, r, rfl, hx, h⟩ := hasTs_cons h
      obtain ⟨ys, rfl, hy⟩ := hasTs_one h
      obtain ⟨cs, rfl⟩ := hasT_bytes Try.underlying33 Try.underlying5 hx
      obtain ⟨q, rfl⟩ := hasT_u8 Try.underlying5 hy
      rw [show aggB Try.checked.prog 33 = false from by kernel_rfl, show aggB Try.checked.prog 5 = false from by kernel_rfl]
      exact pc_9 cs q
theorem seqrRounds_named : Try.checked.prog.funcNamed Rows.seqrRoundsRow.func = some 9 := by kernel_rfl
theorem seqrRounds_A : joinA Try.checked.prog 9 Try.f9 Rows.seqrRoundsSpec Rows.seqrRoundsRow = true := by kernel_rfl
theorem seqrRounds_B : joinB Try.checked.prog Rows.seqrRoundsRow = true := by kernel_rfl
/-- SeqrRounds, for every input. -/
theorem seqrRounds_holds : Rows.SeqrRoundsSaid :=
  OpenClaim.holds_of_wide 9 Try.f9 rfl rfl rfl rfl rfl rfl rfl ⟨rfl, rfl, rfl, rfl, rfl⟩ rfl rfl rfl rfl rfl seqrRounds_named Try.func9 (joined_of seqrRounds_A Try.laidOut seqrRounds_B)
    (of_decide_eq_true (by kernel_rfl)) (by unfold Func.isWrapper; first | (rw [if_pos (by decide +kernel)]; kernel_rfl) | (rw [if_neg (by decide +kernel)]; exact ⟨rfl, rfl⟩))
    (fun os started H enc _ => seqrRounds_lifted os started H enc)
#print axioms seqrRounds_holds
end Go.Proofs.Ytogappokeheilaa
