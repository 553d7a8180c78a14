/- SpecOne of the given program is true for every input, by a walk over an abstract memory and its plain law. Conditions: none beyond the statement. -/
import Derived.Test.YtnibihjlclelgaaRows
import Derived.Test.YtnibihjlclelgaaC22
import Derived.Test.YtnibihjlclelgaaAw26
set_option linter.unusedVariables false
set_option maxRecDepth 100000
namespace Go.Proofs.Ytnibihjlclelgaa
open Go.Aw Go.RowKit
theorem Try.own : ownKnob Try.prog.godebug = none := by kernel_rfl
theorem Try.laidOut : laidOutB Try.prog = true := by kernel_rfl
theorem ty_ev {f : Nat} {xs : List PV} (h : HasT Try.prog (f + 3) 40 xs) : ∃ e : Ev, xs = evP e := by
  have h1 := hasT_struct Try.underlying40 h
  simp [HasFs] at h1
  obtain ⟨a, b, rfl, ha, c, d, rfl, hc, e, g, rfl, he, hg⟩ := h1
  obtain ⟨x, rfl⟩ := hasT_bool Try.underlying4 ha
  obtain ⟨y, rfl, _⟩ := hasT_int Try.underlying3 hc
  obtain ⟨z, rfl, _⟩ := hasT_int Try.underlying3 he
  obtain ⟨w, rfl⟩ := hasT_bytes Try.underlying38 Try.underlying5 hg
  exact ⟨⟨x, y, z, w⟩, rfl⟩
theorem ty_evs {f : Nat} {xs : List PV} (h : HasT Try.prog (f + 4) 27 xs) : ∃ l : List Ev, xs = [evsP l] := by
  obtain ⟨l, rfl, _⟩ := hasT_slice evP (fun _ => True) Try.underlying27 (fun x hx => by obtain ⟨y, hy⟩ := ty_ev (f := f) hx; exact ⟨y, hy, trivial⟩) h
  exact ⟨l, rfl⟩
set_option maxRecDepth 100000 in
theorem specOne_lifted (os : Os) (started : os.Started) (H : Type) (enc : TypeId × Value → H) :
    ReturnsInHanded {} Try.checked os 4 .any (Rows.specOneSpec.pre6 enc Try.prog Try.f4 Rows.specOneRow.domain false) (Rows.specOneSpec.post enc Try.prog Try.f4 false true false false) :=
  lift_true (C := Try.checked) (r := 4) 8 Try.own Try.laidOut started (by kernel_rfl) Try.func4
    (ChangeSpec.witness6 (enc := enc) (C := Try.checked) false ⟨#[], #[.int .u8 0, .slice none 0 0], []⟩ 8 (by kernel_rfl) (by kernel_rfl) (by kernel_rfl) (by kernel_rfl))
    rfl (fun ds hl => by rw [Try.params4] at hl; match ds, hl with | [d0, d1], _ => rfl) (by kernel_rfl) Try.underlying4
    (fun t ht => by rw [Try.params4] at ht; simp at ht; rcases ht with rfl | rfl <;> exact by kernel_rfl) (fun t ht => by rw [Try.params4] at ht; simp at ht; rcases ht with rfl | rfl <;> exact ⟨by kernel_rfl, of_decide_eq_true (by kernel_rfl)⟩)
    fun bs h => by
      rw [Try.params4] at h
      obtain ⟨xs, r, rfl, hx, h⟩ := hasTs_cons h
      obtain ⟨ys, rfl, hy⟩ := hasTs_one h
      obtain ⟨n, rfl⟩ := hasT_u8 Try.underlying5 hx
      obtain ⟨l, rfl⟩ := ty_evs hy
      rw [show aggB Try.checked.prog 5 = false from by kernel_rfl, show aggB Try.checked.prog 27 = false from by kernel_rfl]
      exact pc_4 n l
theorem specOne_named : Try.checked.prog.funcNamed Rows.specOneRow.func = some 4 := by kernel_rfl
theorem specOne_A : joinA Try.checked.prog 4 Try.f4 Rows.specOneSpec Rows.specOneRow = true := by kernel_rfl
theorem specOne_B : joinB Try.checked.prog Rows.specOneRow = true := by kernel_rfl
/-- SpecOne, for every input. -/
theorem specOne_holds : Rows.SpecOneSaid :=
  OpenClaim.holds_of_wide 4 Try.f4 rfl rfl rfl rfl rfl rfl rfl ⟨rfl, rfl, rfl, rfl, rfl⟩ rfl rfl rfl rfl rfl specOne_named Try.func4 (joined_of specOne_A Try.laidOut specOne_B)
    (of_decide_eq_true (by kernel_rfl)) (by unfold Func.isWrapper; first | (rw [if_pos (by decide +kernel)]; kernel_rfl) | (rw [if_neg (by decide +kernel)]; exact ⟨rfl, rfl⟩))
    (fun os started H enc _ => specOne_lifted os started H enc)
#print axioms specOne_holds
end Go.Proofs.Ytnibihjlclelgaa
