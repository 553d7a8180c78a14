/- SpecAll of the given program is true for every input, by a walk over an abstract memory and its plain law. Conditions: none beyond the statement. -/
import Derived.Test.YtnibihjlclelgaaRows
import Derived.Test.YtnibihjlclelgaaC18
import Derived.Test.YtnibihjlclelgaaAw26
set_option linter.unusedVariables false
set_option maxRecDepth 100000
namespace Go.Proofs.Ytnibihjlclelgaa
open Go.Aw Go.RowKit
theorem Try.own : ownKnob Try.prog.godebug = none := by kernel_rfl
theorem Try.laidOut : laidOutB Try.prog = true := by kernel_rfl
set_option maxRecDepth 100000 in
theorem specAll_lifted (os : Os) (started : os.Started) (H : Type) (enc : TypeId × Value → H) :
    ReturnsInHanded {} Try.checked os 5 .any (Rows.specAllSpec.pre6 enc Try.prog Try.f5 Rows.specAllRow.domain false) (Rows.specAllSpec.post enc Try.prog Try.f5 false true false false) :=
  lift_true (C := Try.checked) (r := 4) 8 Try.own Try.laidOut started (by kernel_rfl) Try.func5
    (ChangeSpec.witness6 (enc := enc) (C := Try.checked) false ⟨#[], #[.int .u8 0, .slice none 0 0, .slice none 0 0], []⟩ 8 (by kernel_rfl) (by kernel_rfl) (by kernel_rfl) (by kernel_rfl))
    rfl (fun ds hl => by rw [Try.params5] at hl; match ds, hl with | [d0, d1, d2], _ => rfl) (by kernel_rfl) Try.underlying4
    (fun t ht => by rw [Try.params5] at ht; simp at ht; rcases ht with rfl | rfl | rfl <;> exact by kernel_rfl) (fun t ht => by rw [Try.params5] at ht; simp at ht; rcases ht with rfl | rfl | rfl <;> exact ⟨by kernel_rfl, of_decide_eq_true (by kernel_rfl)⟩)
    fun bs h => by
      rw [Try.params5] at h
      obtain ⟨xs, r, rfl, hx, h⟩ := hasTs_cons h
      obtain ⟨ys, r, rfl, hy, h⟩ := hasTs_cons h
      obtain ⟨zs, rfl, hz⟩ := hasTs_one h
      obtain ⟨n, rfl⟩ := hasT_u8 Try.underlying5 hx
      obtain ⟨a, rfl⟩ := hasT_bytes Try.underlying38 Try.underlying5 hy
      obtain ⟨b, rfl⟩ := hasT_bytes Try.underlying38 Try.underlying5 hz
      rw [show aggB Try.checked.prog 5 = false from by kernel_rfl, show aggB Try.checked.prog 38 = false from by kernel_rfl]
      exact pc_5 n a b
theorem specAll_named : Try.checked.prog.funcNamed Rows.specAllRow.func = some 5 := by kernel_rfl
theorem specAll_A : joinA Try.checked.prog 5 Try.f5 Rows.specAllSpec Rows.specAllRow = true := by kernel_rfl
theorem specAll_B : joinB Try.checked.prog Rows.specAllRow = true := by kernel_rfl
/-- SpecAll, for every input. -/
theorem specAll_holds : Rows.SpecAllSaid :=
  OpenClaim.holds_of_wide 5 Try.f5 rfl rfl rfl rfl rfl rfl rfl ⟨rfl, rfl, rfl, rfl, rfl⟩ rfl rfl rfl rfl rfl specAll_named Try.func5 (joined_of specAll_A Try.laidOut specAll_B)
    (of_decide_eq_true (by kernel_rfl)) (by unfold Func.isWrapper; first | (rw [if_pos (by decide +kernel)]; kernel_rfl) | (rw [if_neg (by decide +kernel)]; exact ⟨rfl, rfl⟩))
    (fun os started H enc _ => specAll_lifted os started H enc)
#print axioms specAll_holds
end Go.Proofs.Ytnibihjlclelgaa
