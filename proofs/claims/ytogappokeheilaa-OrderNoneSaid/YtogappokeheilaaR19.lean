/- OrderNone of the given program is true for every input, by a walk over an abstract memory and its plain law. Conditions: none beyond the statement. -/
import Derived.Test.YtogappokeheilaaRows
import Derived.Test.YtogappokeheilaaB64
import Derived.Test.YtogappokeheilaaAw26
set_option linter.unusedVariables false
set_option maxRecDepth 100000
namespace Go.Proofs.Ytogappokeheilaa
open Go.Aw Go.RowKit
theorem Try.own : ownKnob Try.prog.godebug = none := by kernel_rfl
theorem Try.laidOut : laidOutB Try.prog = true := by kernel_rfl
theorem ty_in {f : Nat} {xs : List PV} (h : HasT Try.prog (f + 2) 98 xs) : ∃ (n w u q : UInt8), xs = [.int .u8 n.toNat, .int .u8 w.toNat, .int .u8 u.toNat, .int .u8 q.toNat] := by
  have h1 := hasT_struct Try.underlying98 h
  simp [HasFs] at h1
  obtain ⟨a, b, rfl, ha, c, d, rfl, hc, e, g, rfl, he, hg⟩ := h1
  obtain ⟨n, rfl⟩ := hasT_u8 Try.underlying5 ha
  obtain ⟨w, rfl⟩ := hasT_u8 Try.underlying5 hc
  obtain ⟨u, rfl⟩ := hasT_u8 Try.underlying5 he
  obtain ⟨q, rfl⟩ := hasT_u8 Try.underlying5 hg
  exact ⟨n, w, u, q, rfl⟩
set_option maxRecDepth 100000 in
theorem orderNone_lifted (os : Os) (started : os.Started) (H : Type) (enc : TypeId × Value → H) :
    ReturnsInHanded {} Try.checked os 19 .any (Rows.orderNoneSpec.pre6 enc Try.prog Try.f19 Rows.orderNoneRow.domain false) (Rows.orderNoneSpec.post enc Try.prog Try.f19 false true false false) :=
  lift_true (C := Try.checked) (r := 4) 8 Try.own Try.laidOut started (by kernel_rfl) Try.func19
    (ChangeSpec.witness6 (enc := enc) (C := Try.checked) false ⟨#[], #[.agg #[.int .u8 0, .int .u8 0, .int .u8 0, .int .u8 0]], []⟩ 8 (by kernel_rfl) (by kernel_rfl) (by kernel_rfl) (by kernel_rfl))
    rfl (fun ds hl => by rw [Try.params19] at hl; match ds, hl with | [d0], _ => rfl) (by kernel_rfl) Try.underlying4
    (fun t ht => by rw [Try.params19] at ht; simp at ht; subst ht; exact by kernel_rfl) (fun t ht => by rw [Try.params19] at ht; simp at ht; subst ht; exact ⟨by kernel_rfl, of_decide_eq_true (by kernel_rfl)⟩)
    fun bs h => by
      rw [Try.params19] at h
      obtain ⟨xs, rfl, hx⟩ := hasTs_one h
      obtain ⟨n, w, u, q, rfl⟩ := ty_in (f := 6) hx
      rw [show aggB Try.checked.prog 98 = true from by kernel_rfl]
      exact pc_19 n w u q
theorem orderNone_named : Try.checked.prog.funcNamed Rows.orderNoneRow.func = some 19 := by kernel_rfl
theorem orderNone_A : joinA Try.checked.prog 19 Try.f19 Rows.orderNoneSpec Rows.orderNoneRow = true := by kernel_rfl
theorem orderNone_B : joinB Try.checked.prog Rows.orderNoneRow = true := by kernel_rfl
/-- OrderNone, for every input. -/
theorem orderNone_holds : Rows.OrderNoneSaid :=
  OpenClaim.holds_of_wide 19 Try.f19 rfl rfl rfl rfl rfl rfl rfl ⟨rfl, rfl, rfl, rfl, rfl⟩ rfl rfl rfl rfl rfl orderNone_named Try.func19 (joined_of orderNone_A Try.laidOut orderNone_B)
    (of_decide_eq_true (by kernel_rfl)) (by unfold Func.isWrapper; first | (rw [if_pos (by decide +kernel)]; kernel_rfl) | (rw [if_neg (by decide +kernel)]; exact ⟨rfl, rfl⟩))
    (fun os started H enc _ => orderNone_lifted os started H enc)
#print axioms orderNone_holds
end Go.Proofs.Ytogappokeheilaa
