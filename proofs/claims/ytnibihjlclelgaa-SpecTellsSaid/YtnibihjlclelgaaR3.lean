/- SpecTells of the given program is true for every input, by a walk over an abstract memory and its plain law. Conditions: none beyond the statement. -/
import Derived.Test.YtnibihjlclelgaaRows
import Derived.Test.YtnibihjlclelgaaC20
import Derived.Test.YtnibihjlclelgaaAw26
set_option linter.unusedVariables false
set_option maxRecDepth 100000
namespace Go.Proofs.Ytnibihjlclelgaa
open Go.Aw Go.RowKit
theorem Try.own : ownKnob Try.prog.godebug = none := by kernel_rfl
theorem Try.laidOut : laidOutB Try.prog = true := by kernel_rfl
theorem ty_deliv {f : Nat} {xs : List PV} (h : HasT Try.prog (f + 3) 44 xs) : ∃ d : Deliv, xs = delivP d := by
  have h1 := hasT_struct Try.underlying44 h
  simp [HasFs] at h1
  obtain ⟨a, b, rfl, ha, hc⟩ := h1
  obtain ⟨x, rfl, _⟩ := hasT_int Try.underlying3 ha
  obtain ⟨w, rfl⟩ := hasT_bytes Try.underlying38 Try.underlying5 hc
  exact ⟨⟨x, w⟩, rfl⟩
theorem ty_spec {f : Nat} {xs : List PV} (h : HasT Try.prog (f + 6) 26 xs) : ∃ s : SpecS, xs = specP s := by
  have h1 := hasT_struct Try.underlying26 h
  simp [HasFs] at h1
  obtain ⟨a, b, rfl, ha, c, d, rfl, hc, he⟩ := h1
  obtain ⟨x, rfl, _⟩ := hasT_slice rowsP (fun _ => True) Try.underlying22 (fun x hx => by obtain ⟨y, hy⟩ := hasT_rows Try.underlying45 Try.underlying38 Try.underlying5 hx; exact ⟨y, hy, trivial⟩) ha
  obtain ⟨y, rfl, _⟩ := hasT_slice delivP (fun _ => True) Try.underlying23 (fun x hx => by obtain ⟨y, hy⟩ := ty_deliv (f := f + 1) hx; exact ⟨y, hy, trivial⟩) hc
  obtain ⟨z, rfl, _⟩ := hasT_ints Try.underlying24 Try.underlying3 he
  exact ⟨⟨x, y, z⟩, rfl⟩
theorem ty_ev {f : Nat} {xs : List PV} (h : HasT Try.prog (f + 3) 40 xs) : ∃ e : Ev, xs = evP e := by
  have h1 := hasT_struct Try.underlying40 h
  simp [HasFs] at h1
  obtain ⟨a, b, rfl, ha, c, d, rfl, hc, e, g, rfl, he, hg⟩ := h1
  obtain ⟨x, rfl⟩ := hasT_bool Try.underlying4 ha
  obtain ⟨y, rfl, _⟩ := hasT_int Try.underlying3 hc
  obtain ⟨z, rfl, _⟩ := hasT_int Try.underlying3 he
  obtain ⟨w, rfl⟩ := hasT_bytes Try.underlying38 Try.underlying5 hg
  exact ⟨⟨x, y, z, w⟩, rfl⟩
theorem ty_evs {f : Nat} {xs : List PV} (h : HasT Try.prog (f + 4) 27 xs) : ∃ l : List Ev, xs = [evsP l] := by
  obtain ⟨l, rfl, _⟩ := hasT_slice evP (fun _ => True) Try.underlying27 (fun x hx => by obtain ⟨y, hy⟩ := ty_ev (f := f) hx; exact ⟨y, hy, trivial⟩) h
  exact ⟨l, rfl⟩
set_option maxRecDepth 100000 in
theorem specTells_lifted (os : Os) (started : os.Started) (H : Type) (enc : TypeId × Value → H) :
    ReturnsInHanded {} Try.checked os 3 .any (Rows.specTellsSpec.pre6 enc Try.prog Try.f3 Rows.specTellsRow.domain false) (Rows.specTellsSpec.post enc Try.prog Try.f3 false true false false) :=
  lift_true (C := Try.checked) (r := 4) 8 Try.own Try.laidOut started (by kernel_rfl) Try.func3
    (ChangeSpec.witness6 (enc := enc) (C := Try.checked) false ⟨#[], #[.agg #[.slice none 0 0, .slice none 0 0, .slice none 0 0], .agg #[.slice none 0 0, .slice none 0 0, .slice none 0 0], .slice none 0 0], []⟩ 8 (by kernel_rfl) (by kernel_rfl) (by kernel_rfl) (by kernel_rfl))
    rfl (fun ds hl => by rw [Try.params3] at hl; match ds, hl with | [d0, d1, d2], _ => rfl) (by kernel_rfl) Try.underlying4
    (fun t ht => by rw [Try.params3] at ht; simp at ht; rcases ht with rfl | rfl | rfl <;> exact by kernel_rfl) (fun t ht => by rw [Try.params3] at ht; simp at ht; rcases ht with rfl | rfl | rfl <;> exact ⟨by kernel_rfl, of_decide_eq_true (by kernel_rfl)⟩)
    fun bs h => by
      rw [Try.params3] at h
      obtain ⟨xs, r, rfl, hx, h⟩ := hasTs_cons h
      obtain ⟨ys, r, rfl, hy, h⟩ := hasTs_cons h
      obtain ⟨zs, rfl, hz⟩ := hasTs_one h
      obtain ⟨s, rfl⟩ := ty_spec hx
      obtain ⟨o, rfl⟩ := ty_spec hy
      obtain ⟨l, rfl⟩ := ty_evs hz
      rw [show aggB Try.checked.prog 26 = true from by kernel_rfl, show aggB Try.checked.prog 27 = false from by kernel_rfl]
      exact pc_3 s o l
theorem specTells_named : Try.checked.prog.funcNamed Rows.specTellsRow.func = some 3 := by kernel_rfl
theorem specTells_A : joinA Try.checked.prog 3 Try.f3 Rows.specTellsSpec Rows.specTellsRow = true := by kernel_rfl
theorem specTells_B : joinB Try.checked.prog Rows.specTellsRow = true := by kernel_rfl
/-- SpecTells, for every input. -/
theorem specTells_holds : Rows.SpecTellsSaid :=
  OpenClaim.holds_of_wide 3 Try.f3 rfl rfl rfl rfl rfl rfl rfl ⟨rfl, rfl, rfl, rfl, rfl⟩ rfl rfl rfl rfl rfl specTells_named Try.func3 (joined_of specTells_A Try.laidOut specTells_B)
    (of_decide_eq_true (by kernel_rfl)) (by unfold Func.isWrapper; first | (rw [if_pos (by decide +kernel)]; kernel_rfl) | (rw [if_neg (by decide +kernel)]; exact ⟨rfl, rfl⟩))
    (fun os started H enc _ => specTells_lifted os started H enc)
#print axioms specTells_holds
end Go.Proofs.Ytnibihjlclelgaa
