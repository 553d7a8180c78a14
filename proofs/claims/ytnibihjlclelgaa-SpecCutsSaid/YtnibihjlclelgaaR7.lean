/- SpecCuts of the given program is true for every input, by a walk over an abstract memory and its plain law. Conditions: none beyond the statement. -/
import Derived.Test.YtnibihjlclelgaaRows
import Derived.Test.YtnibihjlclelgaaC16
import Derived.Test.YtnibihjlclelgaaAw26
set_option linter.unusedVariables false
set_option maxRecDepth 100000
namespace Go.Proofs.Ytnibihjlclelgaa
open Go.Aw Go.RowKit
theorem Try.own : ownKnob Try.prog.godebug = none := by kernel_rfl
theorem Try.laidOut : laidOutB Try.prog = true := by kernel_rfl
theorem ty_ev {f : Nat} {xs : List PV} (h : HasT Try.prog (f + 3) 40 xs) : ∃ e : Ev, xs = evP e := by
  have h1 := hasT_struct Try.underlying40 h
  simp [HasFs] at h1
  obtain ⟨a, b, rfl, ha, c, d, rfl, hc, e, g, rfl, he, hg⟩ := h1
  obtain ⟨x, rfl⟩ := hasT_bool Try.underlying4 ha
  obtain ⟨y, rfl, _⟩ := hasT_int Try.underlying3 hc
  obtain ⟨z, rfl, _⟩ := hasT_int Try.underlying3 he
  obtain ⟨w, rfl⟩ := hasT_bytes Try.underlying38 Try.underlying5 hg
  exact ⟨⟨x, y, z, w⟩, rfl⟩
theorem ty_evs {f : Nat} {xs : List PV} (h : HasT Try.prog (f + 4) 27 xs) : ∃ l : List Ev, xs = [evsP l] := by
  obtain ⟨l, rfl, _⟩ := hasT_slice evP (fun _ => True) Try.underlying27 (fun x hx => by obtain ⟨y, hy⟩ := ty_ev (f := f) hx; exact ⟨y, hy, trivial⟩) h
  exact ⟨l, rfl⟩
set_option maxRecDepth 100000 in
theorem specCuts_lifted (os : Os) (started : os.Started) (H : Type) (enc : TypeId × Value → H) :
    ReturnsInHanded {} Try.checked os 7 .any (Rows.specCutsSpec.pre6 enc Try.prog Try.f7 Rows.specCutsRow.domain false) (Rows.specCutsSpec.post enc Try.prog Try.f7 false true false false) :=
  lift_true (C := Try.checked) (r := 4) 8 Try.own Try.laidOut started (by kernel_rfl) Try.func7
    (ChangeSpec.witness6 (enc := enc) (C := Try.checked) false ⟨#[], #[.int .u8 0, .slice none 0 0, .int .u8 0], []⟩ 8 (by kernel_rfl) (by kernel_rfl) (by kernel_rfl) (by kernel_rfl))
    rfl (fun ds hl => by rw [Try.params7] at hl; match ds, hl with | [d0, d1, d2], _ => rfl) (by kernel_rfl) Try.underlying4
    (fun t ht => by rw [Try.params7] at ht; simp at ht; rcases ht with rfl | rfl | rfl <;> exact by kernel_rfl) (fun t ht => by rw [Try.params7] at ht; simp at ht; rcases ht with rfl | rfl | rfl <;> exact ⟨by kernel_rfl, of_decide_eq_true (by kernel_rfl)⟩)
    fun bs h => by
      rw [Try.params7] at h
      obtain ⟨xs, r, rfl, hx, h⟩ := hasTs_cons h
      obtain ⟨ys, r, rfl, hy, h⟩ := hasTs_cons h
      obtain ⟨zs, rfl, hz⟩ := hasTs_one h
      obtain ⟨n, rfl⟩ := hasT_u8 Try.underlying5 hx
      obtain ⟨l, rfl⟩ := ty_evs hy
      obtain ⟨c, rfl⟩ := hasT_u8 Try.underlying5 hz
      rw [show aggB Try.checked.prog 5 = false from by kernel_rfl, show aggB Try.checked.prog 27 = false from by kernel_rfl]
      exact pc_7 n l c
theorem specCuts_named : Try.checked.prog.funcNamed Rows.specCutsRow.func = some 7 := by kernel_rfl
theorem specCuts_A : joinA Try.checked.prog 7 Try.f7 Rows.specCutsSpec Rows.specCutsRow = true := by kernel_rfl
theorem specCuts_B : joinB Try.checked.prog Rows.specCutsRow = true := by kernel_rfl
/-- SpecCuts, for every input. -/
theorem specCuts_holds : Rows.SpecCutsSaid :=
  OpenClaim.holds_of_wide 7 Try.f7 rfl rfl rfl rfl rfl rfl rfl ⟨rfl, rfl, rfl, rfl, rfl⟩ rfl rfl rfl rfl rfl specCuts_named Try.func7 (joined_of specCuts_A Try.laidOut specCuts_B)
    (of_decide_eq_true (by kernel_rfl)) (by unfold Func.isWrapper; first | (rw [if_pos (by decide +kernel)]; kernel_rfl) | (rw [if_neg (by decide +kernel)]; exact ⟨rfl, rfl⟩))
    (fun os started H enc _ => specCuts_lifted os started H enc)
#print axioms specCuts_holds
end Go.Proofs.Ytnibihjlclelgaa
