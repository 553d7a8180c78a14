/- SendqOrder of the given program is true for every input, by a walk over an abstract memory and its plain law. Conditions: none beyond the statement. -/
import Derived.Test.YtcobhlghjddphaaRows
import Derived.Test.YtcobhlghjddphaaA13
import Derived.Test.YtcobhlghjddphaaAw26
set_option linter.unusedVariables false
set_option maxRecDepth 100000
namespace Go.Proofs.Ytcobhlghjddphaa
open Go.Aw Go.RowKit
theorem Try.own : ownKnob Try.prog.godebug = none := by kernel_rfl
theorem Try.laidOut : laidOutB Try.prog = true := by kernel_rfl
theorem ty_41 {f : Nat} {xs : List PV} (h : HasT Try.prog (f + 5) 41 xs) : ∃ (l : List (List UInt8)) (pops : List Bool) (room most : UInt8), xs = [rowP l, boolsP pops, .int .u8 room.toNat, .int .u8 most.toNat] := by
  have h1 := hasT_struct Try.underlying41 h
  simp [HasFs] at h1
  obtain ⟨a, b, rfl, ha, e, g, rfl, he, i, j, rfl, hi, hj⟩ := h1
  obtain ⟨q, rfl⟩ := hasT_rows Try.underlying22 Try.underlying23 Try.underlying5 ha
  obtain ⟨p, rfl⟩ := hasT_bools Try.underlying39 Try.underlying4 he
  obtain ⟨r, rfl⟩ := hasT_u8 Try.underlying5 hi
  obtain ⟨m, rfl⟩ := hasT_u8 Try.underlying5 hj
  exact ⟨q, p, r, m, rfl⟩
set_option maxRecDepth 100000 in
theorem sendqOrder_lifted (os : Os) (started : os.Started) (H : Type) (enc : TypeId × Value → H) :
    ReturnsInHanded {} Try.checked os 4 .any (Rows.sendqOrderSpec.pre6 enc Try.prog Try.f4 Rows.sendqOrderRow.domain false) (Rows.sendqOrderSpec.post enc Try.prog Try.f4 false true false false) :=
  lift_true (C := Try.checked) (r := 4) 8 Try.own Try.laidOut started (by kernel_rfl) Try.func4
    (ChangeSpec.witness6 (enc := enc) (C := Try.checked) false ⟨#[], #[.agg #[.slice none 0 0, .slice none 0 0, .int .u8 0, .int .u8 0]], []⟩ 8 (by kernel_rfl) (by kernel_rfl) (by kernel_rfl) (by kernel_rfl))
    rfl (fun ds hl => by rw [Try.params4] at hl; match ds, hl with | [d0], _ => rfl) (by kernel_rfl) Try.underlying4
    (fun t ht => by rw [Try.params4] at ht; simp at ht; subst ht; exact by kernel_rfl) (fun t ht => by rw [Try.params4] at ht; simp at ht; subst ht; exact ⟨by kernel_rfl, of_decide_eq_true (by kernel_rfl)⟩)
    fun bs h => by
      rw [Try.params4] at h
      obtain ⟨xs, rfl, hx⟩ := hasTs_one h
      obtain ⟨l, p, r, m, rfl⟩ := ty_41 (f := 3) hx
      rw [show aggB Try.checked.prog 41 = true from by kernel_rfl]
      exact pc_4 l p r m
theorem sendqOrder_named : Try.checked.prog.funcNamed Rows.sendqOrderRow.func = some 4 := by kernel_rfl
theorem sendqOrder_A : joinA Try.checked.prog 4 Try.f4 Rows.sendqOrderSpec Rows.sendqOrderRow = true := by kernel_rfl
theorem sendqOrder_B : joinB Try.checked.prog Rows.sendqOrderRow = true := by kernel_rfl
/-- SendqOrder, for every input. -/
theorem sendqOrder_holds : Rows.SendqOrderSaid :=
  OpenClaim.holds_of_wide 4 Try.f4 rfl rfl rfl rfl rfl rfl rfl ⟨rfl, rfl, rfl, rfl, rfl⟩ rfl rfl rfl rfl rfl sendqOrder_named Try.func4 (joined_of sendqOrder_A Try.laidOut sendqOrder_B)
    (of_decide_eq_true (by kernel_rfl)) (by unfold Func.isWrapper; first | (rw [if_pos (by decide +kernel)]; kernel_rfl) | (rw [if_neg (by decide +kernel)]; exact ⟨rfl, rfl⟩))
    (fun os started H enc _ => sendqOrder_lifted os started H enc)
#print axioms sendqOrder_holds
end Go.Proofs.Ytcobhlghjddphaa
