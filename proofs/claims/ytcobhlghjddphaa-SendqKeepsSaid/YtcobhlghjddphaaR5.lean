/- SendqKeeps of the given program is true for every input, by a walk over an abstract memory and its plain law. Conditions: none beyond the statement. -/
import Derived.Test.YtcobhlghjddphaaRows
import Derived.Test.YtcobhlghjddphaaA3
set_option linter.unusedVariables false
namespace Go.Proofs.Ytcobhlghjddphaa
open Go.Aw Go.RowKit
theorem Try.own : ownKnob Try.prog.godebug = none := by kernel_rfl
theorem Try.laidOut : laidOutB Try.prog = true := by kernel_rfl
theorem ty_44 {f : Nat} {xs : List PV} (h : HasT Try.prog (f + 5) 44 xs) : ∃ q b room most, xs = [rowP q, bsP b, .int .i64 room, .int .i64 most] := by
  have h1 := hasT_struct Try.underlying44 h
  simp [HasFs] at h1
  obtain ⟨a, b, rfl, ha, e, g, rfl, he, i, j, rfl, hi, hj⟩ := h1
  obtain ⟨q, rfl⟩ := hasT_rows Try.underlying22 Try.underlying23 Try.underlying5 ha
  obtain ⟨b, rfl⟩ := hasT_bytes Try.underlying23 Try.underlying5 he
  obtain ⟨r, rfl, _⟩ := hasT_int Try.underlying3 hi
  obtain ⟨m, rfl, _⟩ := hasT_int Try.underlying3 hj
  exact ⟨q, b, r, m, rfl⟩
set_option maxRecDepth 100000 in
theorem sendqKeeps_lifted (os : Os) (started : os.Started) (H : Type) (enc : TypeId × Value → H) :
    ReturnsInHanded {} Try.checked os 5 .any (Rows.sendqKeepsSpec.pre6 enc Try.prog Try.f5 Rows.sendqKeepsRow.domain false) (Rows.sendqKeepsSpec.post enc Try.prog Try.f5 false true false false) :=
  lift_true (C := Try.checked) (r := 4) 8 Try.own Try.laidOut started (by kernel_rfl) Try.func5
    (ChangeSpec.witness6 (enc := enc) (C := Try.checked) false ⟨#[], #[.agg #[.slice none 0 0, .slice none 0 0, .int .i64 0, .int .i64 0]], []⟩ 8 (by kernel_rfl) (by kernel_rfl) (by kernel_rfl) (by kernel_rfl))
    rfl (fun ds hl => by rw [Try.params5] at hl; match ds, hl with | [d0], _ => rfl) (by kernel_rfl) Try.underlying4
    (fun t ht => by rw [Try.params5] at ht; simp at ht; subst ht; exact by kernel_rfl) (fun t ht => by rw [Try.params5] at ht; simp at ht; subst ht; exact ⟨by kernel_rfl, of_decide_eq_true (by kernel_rfl)⟩)
    fun bs h => by
      rw [Try.params5] at h
      obtain ⟨xs, rfl, hx⟩ := hasTs_one h
      obtain ⟨q, b, r, m, rfl⟩ := ty_44 (f := 3) hx
      rw [show aggB Try.checked.prog 44 = true from by kernel_rfl]
      exact pc_5 q b r m
/-- SendqKeeps, for every input. -/
theorem sendqKeeps_holds : Rows.SendqKeepsSaid :=
  OpenClaim.holds_of_wide 5 Try.f5 rfl rfl rfl rfl rfl rfl rfl ⟨rfl, rfl, rfl, rfl, rfl⟩ rfl rfl rfl rfl rfl (by kernel_rfl) Try.func5 (by kernel_rfl)
    (of_decide_eq_true (by kernel_rfl)) (by unfold Func.isWrapper; first | (rw [if_pos (by decide +kernel)]; kernel_rfl) | (rw [if_neg (by decide +kernel)]; exact ⟨rfl, rfl⟩))
    (fun os started H enc _ => sendqKeeps_lifted os started H enc)
#print axioms sendqKeeps_holds
end Go.Proofs.Ytcobhlghjddphaa
