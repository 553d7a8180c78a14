/- FragOrder of the given program is true for every input, by a walk over an abstract memory and its plain law. Conditions: none beyond the statement. -/
import Derived.Test.YtcobhlghjddphaaRows
import Derived.Test.YtcobhlghjddphaaA8
set_option linter.unusedVariables false
namespace Go.Proofs.Ytcobhlghjddphaa
open Go.Aw Go.RowKit
theorem Try.own : ownKnob Try.prog.godebug = none := by kernel_rfl
theorem Try.laidOut : laidOutB Try.prog = true := by kernel_rfl
theorem ty_part {f : Nat} {xs : List PV} (h : HasT Try.prog (f + 5) 48 xs) : ∃ p : Part, xs = partP p ∧ -9223372036854775808 ≤ p.Got ∧ p.Got ≤ 9223372036854775807 := by
  have h1 := hasT_struct Try.underlying48 h
  simp [HasFs] at h1
  obtain ⟨a, b, rfl, ha, c, d, rfl, hc, e, g, rfl, he, hg⟩ := h1
  obtain ⟨x, rfl, _⟩ := hasT_int Try.underlying3 ha
  obtain ⟨y, rfl, _⟩ := hasT_int Try.underlying3 hc
  obtain ⟨z, rfl, z1, z2⟩ := hasT_int Try.underlying3 he
  obtain ⟨w, rfl⟩ := hasT_bytes Try.underlying23 Try.underlying5 hg
  exact ⟨⟨x, y, z, w⟩, rfl, z1, z2⟩
theorem ty_62 {f : Nat} {xs : List PV} (h : HasT Try.prog (f + 6) 62 xs) : ∃ (p : Part) (index total : Int) (b : List UInt8), (-9223372036854775808 ≤ p.Got ∧ p.Got ≤ 9223372036854775807) ∧ xs = [.int .i64 p.Seq, .int .i64 p.Total, .int .i64 p.Got, bsP p.B, .int .i64 index, .int .i64 total, bsP b] := by
  have h1 := hasT_struct Try.underlying62 h
  simp [HasFs] at h1
  obtain ⟨a, b, rfl, ha, c, d, rfl, hc, e, g, rfl, he, hg⟩ := h1
  obtain ⟨p, rfl, hp⟩ := ty_part ha
  obtain ⟨x, rfl, _⟩ := hasT_int Try.underlying3 hc
  obtain ⟨y, rfl, _⟩ := hasT_int Try.underlying3 he
  obtain ⟨b, rfl⟩ := hasT_bytes Try.underlying23 Try.underlying5 hg
  exact ⟨p, x, y, b, hp, rfl⟩
set_option maxRecDepth 100000 in
theorem fragOrder_lifted (os : Os) (started : os.Started) (H : Type) (enc : TypeId × Value → H) :
    ReturnsInHanded {} Try.checked os 10 .any (Rows.fragOrderSpec.pre6 enc Try.prog Try.f10 Rows.fragOrderRow.domain false) (Rows.fragOrderSpec.post enc Try.prog Try.f10 false true false false) :=
  lift_true (C := Try.checked) (r := 4) 8 Try.own Try.laidOut started (by kernel_rfl) Try.func10
    (ChangeSpec.witness6 (enc := enc) (C := Try.checked) false ⟨#[], #[.agg #[.int .i64 0, .int .i64 0, .int .i64 0, .slice none 0 0, .int .i64 0, .int .i64 0, .slice none 0 0]], []⟩ 8 (by kernel_rfl) (by kernel_rfl) (by kernel_rfl) (by kernel_rfl))
    rfl (fun ds hl => by rw [Try.params10] at hl; match ds, hl with | [d0], _ => rfl) (by kernel_rfl) Try.underlying4
    (fun t ht => by rw [Try.params10] at ht; simp at ht; subst ht; exact by kernel_rfl) (fun t ht => by rw [Try.params10] at ht; simp at ht; subst ht; exact ⟨by kernel_rfl, of_decide_eq_true (by kernel_rfl)⟩)
    fun bs h => by
      rw [Try.params10] at h
      obtain ⟨xs, rfl, hx⟩ := hasTs_one h
      obtain ⟨p, x, y, b, hp, rfl⟩ := ty_62 (f := 2) hx
      rw [show aggB Try.checked.prog 62 = true from by kernel_rfl]
      exact pc_10 p x y b hp
/-- FragOrder, for every input. -/
theorem fragOrder_holds : Rows.FragOrderSaid :=
  OpenClaim.holds_of_wide 10 Try.f10 rfl rfl rfl rfl rfl rfl rfl ⟨rfl, rfl, rfl, rfl, rfl⟩ rfl rfl rfl rfl rfl (by kernel_rfl) Try.func10 (by kernel_rfl)
    (of_decide_eq_true (by kernel_rfl)) (by unfold Func.isWrapper; first | (rw [if_pos (by decide +kernel)]; kernel_rfl) | (rw [if_neg (by decide +kernel)]; exact ⟨rfl, rfl⟩))
    (fun os started H enc _ => fragOrder_lifted os started H enc)
#print axioms fragOrder_holds
end Go.Proofs.Ytcobhlghjddphaa
