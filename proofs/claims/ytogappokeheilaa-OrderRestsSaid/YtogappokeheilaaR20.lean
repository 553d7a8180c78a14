/- OrderRests of the given program is true for every input, by a walk over an abstract memory and its plain law. Conditions: none beyond the statement. -/
import Derived.Test.YtogappokeheilaaRows
import Derived.Test.YtogappokeheilaaB63
import Derived.Test.YtogappokeheilaaAw26
set_option linter.unusedVariables false
set_option maxRecDepth 100000
namespace Go.Proofs.Ytogappokeheilaa
open Go.Aw Go.RowKit
theorem Try.own : ownKnob Try.prog.godebug = none := by kernel_rfl
theorem Try.laidOut : laidOutB Try.prog = true := by kernel_rfl
theorem ty_part {f : Nat} {xs : List PV} (h : HasT Try.prog (f + 3) 45 xs) : ∃ p : Part, xs = partP p := by
  have h1 := hasT_struct Try.underlying45 h
  simp [HasFs] at h1
  obtain ⟨a, b, rfl, ha, c, d, rfl, hc, e, g, rfl, he, hg⟩ := h1
  obtain ⟨x, rfl, _⟩ := hasT_int Try.underlying3 ha
  obtain ⟨y, rfl, _⟩ := hasT_int Try.underlying3 hc
  obtain ⟨z, rfl, z1, z2⟩ := hasT_int Try.underlying3 he
  obtain ⟨w, rfl⟩ := hasT_bytes Try.underlying33 Try.underlying5 hg
  exact ⟨⟨x, y, z, w⟩, rfl⟩
theorem ty_ent {f : Nat} {xs : List PV} (h : HasT Try.prog (f + 3) 49 xs) : ∃ e : Entry, xs = entP e := by
  have h1 := hasT_struct Try.underlying49 h
  simp [HasFs] at h1
  obtain ⟨a, b, rfl, ha, c, d, rfl, hc, e, g, rfl, he, i, j, rfl, hi, hj⟩ := h1
  obtain ⟨x, rfl, _⟩ := hasT_int Try.underlying3 ha
  obtain ⟨y, rfl, _⟩ := hasT_int Try.underlying3 hc
  obtain ⟨z, rfl⟩ := hasT_bytes Try.underlying33 Try.underlying5 he
  obtain ⟨w, rfl, _⟩ := hasT_ints Try.underlying32 Try.underlying3 hi
  obtain ⟨v, rfl⟩ := hasT_bool Try.underlying4 hj
  exact ⟨⟨x, y, z, w, v⟩, rfl⟩
theorem ty_lane {f : Nat} {xs : List PV} (h : HasT Try.prog (f + 5) 47 xs) : ∃ l : Lane, xs = laneP l := by
  have h1 := hasT_struct Try.underlying47 h
  simp [HasFs] at h1
  obtain ⟨a, b, rfl, ha, hb⟩ := h1
  obtain ⟨l, rfl, _⟩ := hasT_slice entP (fun _ => True) Try.underlying43 (fun x hx => by obtain ⟨e, he⟩ := ty_ent (f := f) hx; exact ⟨e, he, trivial⟩) ha
  obtain ⟨p, rfl⟩ := ty_part (f := f + 1) hb
  exact ⟨⟨l, p⟩, rfl⟩
theorem ty_turn {f : Nat} {xs : List PV} (h : HasT Try.prog (f + 2) 23 xs) : ∃ t : Turn, xs = turnP t := by
  have h1 := hasT_struct Try.underlying23 h
  simp [HasFs] at h1
  obtain ⟨a, b, rfl, ha, hc⟩ := h1
  obtain ⟨x, rfl, _⟩ := hasT_int Try.underlying3 ha
  obtain ⟨y, rfl, _⟩ := hasT_int Try.underlying3 hc
  exact ⟨⟨x, y⟩, rfl⟩
theorem ty_lanes {f : Nat} {xs : List PV} (h : HasT Try.prog (f + 6) 24 xs) : ∃ l : List Lane, xs = [lnP l] := by
  obtain ⟨l, rfl, _⟩ := hasT_slice laneP (fun _ => True) Try.underlying24 (fun x hx => by obtain ⟨y, hy⟩ := ty_lane (f := f) hx; exact ⟨y, hy, trivial⟩) h
  exact ⟨l, rfl⟩
set_option maxRecDepth 100000 in
theorem orderRests_lifted (os : Os) (started : os.Started) (H : Type) (enc : TypeId × Value → H) :
    ReturnsInHanded {} Try.checked os 20 .any (Rows.orderRestsSpec.pre6 enc Try.prog Try.f20 Rows.orderRestsRow.domain false) (Rows.orderRestsSpec.post enc Try.prog Try.f20 false true false false) :=
  lift_true (C := Try.checked) (r := 4) 8 Try.own Try.laidOut started (by kernel_rfl) Try.func20
    (ChangeSpec.witness6 (enc := enc) (C := Try.checked) false ⟨#[], #[.slice none 0 0], []⟩ 8 (by kernel_rfl) (by kernel_rfl) (by kernel_rfl) (by kernel_rfl))
    rfl (fun ds hl => by rw [Try.params20] at hl; match ds, hl with | [d0], _ => rfl) (by kernel_rfl) Try.underlying4
    (fun t ht => by rw [Try.params20] at ht; simp at ht; subst ht; exact by kernel_rfl) (fun t ht => by rw [Try.params20] at ht; simp at ht; subst ht; exact ⟨by kernel_rfl, of_decide_eq_true (by kernel_rfl)⟩)
    fun bs h => by
      rw [Try.params20] at h
      obtain ⟨xs, rfl, hx⟩ := hasTs_one h
      obtain ⟨l, rfl⟩ := ty_lanes (f := 2) hx
      rw [show aggB Try.checked.prog 24 = false from by kernel_rfl]
      exact pc_20 l
theorem orderRests_named : Try.checked.prog.funcNamed Rows.orderRestsRow.func = some 20 := by kernel_rfl
theorem orderRests_A : joinA Try.checked.prog 20 Try.f20 Rows.orderRestsSpec Rows.orderRestsRow = true := by kernel_rfl
theorem orderRests_B : joinB Try.checked.prog Rows.orderRestsRow = true := by kernel_rfl
/-- OrderRests, for every input. -/
theorem orderRests_holds : Rows.OrderRestsSaid :=
  OpenClaim.holds_of_wide 20 Try.f20 rfl rfl rfl rfl rfl rfl rfl ⟨rfl, rfl, rfl, rfl, rfl⟩ rfl rfl rfl rfl rfl orderRests_named Try.func20 (joined_of orderRests_A Try.laidOut orderRests_B)
    (of_decide_eq_true (by kernel_rfl)) (by unfold Func.isWrapper; first | (rw [if_pos (by decide +kernel)]; kernel_rfl) | (rw [if_neg (by decide +kernel)]; exact ⟨rfl, rfl⟩))
    (fun os started H enc _ => orderRests_lifted os started H enc)
#print axioms orderRests_holds
end Go.Proofs.Ytogappokeheilaa
