/- OrderAll of the given program is true for every input, by a walk over an abstract memory and its plain law. Conditions: none beyond the statement. -/
import Derived.Test.YtogappokeheilaaRows
import Derived.Test.YtogappokeheilaaB67
import Derived.Test.YtogappokeheilaaAw26
set_option linter.unusedVariables false
set_option maxRecDepth 100000
namespace Go.Proofs.Ytogappokeheilaa
open Go.Aw Go.RowKit
theorem Try.own : ownKnob Try.prog.godebug = none := by kernel_rfl
theorem Try.laidOut : laidOutB Try.prog = true := by kernel_rfl
theorem ty_part {f : Nat} {xs : List PV} (h : HasT Try.prog (f + 3) 45 xs) : ∃ p : Part, xs = partP p := by
  have h1 := hasT_struct Try.underlying45 h
  simp [HasFs] at h1
  obtain ⟨a, b, rfl, ha, c, d, rfl, hc, e, g, rfl, he, hg⟩ := h1
  obtain ⟨x, rfl, _⟩ := hasT_int Try.underlying3 ha
  obtain ⟨y, rfl, _⟩ := hasT_int Try.underlying3 hc
  obtain ⟨z, rfl, z1, z2⟩ := hasT_int Try.underlying3 he
  obtain ⟨w, rfl⟩ := hasT_bytes Try.underlying33 Try.underlying5 hg
  exact ⟨⟨x, y, z, w⟩, rfl⟩
theorem ty_ent {f : Nat} {xs : List PV} (h : HasT Try.prog (f + 3) 49 xs) : ∃ e : Entry, xs = entP e := by
  have h1 := hasT_struct Try.underlying49 h
  simp [HasFs] at h1
  obtain ⟨a, b, rfl, ha, c, d, rfl, hc, e, g, rfl, he, i, j, rfl, hi, hj⟩ := h1
  obtain ⟨x, rfl, _⟩ := hasT_int Try.underlying3 ha
  obtain ⟨y, rfl, _⟩ := hasT_int Try.underlying3 hc
  obtain ⟨z, rfl⟩ := hasT_bytes Try.underlying33 Try.underlying5 he
  obtain ⟨w, rfl, _⟩ := hasT_ints Try.underlying32 Try.underlying3 hi
  obtain ⟨v, rfl⟩ := hasT_bool Try.underlying4 hj
  exact ⟨⟨x, y, z, w, v⟩, rfl⟩
theorem ty_lane {f : Nat} {xs : List PV} (h : HasT Try.prog (f + 5) 47 xs) : ∃ l : Lane, xs = laneP l := by
  have h1 := hasT_struct Try.underlying47 h
  simp [HasFs] at h1
  obtain ⟨a, b, rfl, ha, hb⟩ := h1
  obtain ⟨l, rfl, _⟩ := hasT_slice entP (fun _ => True) Try.underlying43 (fun x hx => by obtain ⟨e, he⟩ := ty_ent (f := f) hx; exact ⟨e, he, trivial⟩) ha
  obtain ⟨p, rfl⟩ := ty_part (f := f + 1) hb
  exact ⟨⟨l, p⟩, rfl⟩
theorem ty_turn {f : Nat} {xs : List PV} (h : HasT Try.prog (f + 2) 23 xs) : ∃ t : Turn, xs = turnP t := by
  have h1 := hasT_struct Try.underlying23 h
  simp [HasFs] at h1
  obtain ⟨a, b, rfl, ha, hc⟩ := h1
  obtain ⟨x, rfl, _⟩ := hasT_int Try.underlying3 ha
  obtain ⟨y, rfl, _⟩ := hasT_int Try.underlying3 hc
  exact ⟨⟨x, y⟩, rfl⟩
theorem ty_lanes {f : Nat} {xs : List PV} (h : HasT Try.prog (f + 6) 24 xs) : ∃ l : List Lane, xs = [lnP l] := by
  obtain ⟨l, rfl, _⟩ := hasT_slice laneP (fun _ => True) Try.underlying24 (fun x hx => by obtain ⟨y, hy⟩ := ty_lane (f := f) hx; exact ⟨y, hy, trivial⟩) h
  exact ⟨l, rfl⟩
set_option maxRecDepth 100000 in
theorem orderAll_lifted (os : Os) (started : os.Started) (H : Type) (enc : TypeId × Value → H) :
    ReturnsInHanded {} Try.checked os 18 .any (Rows.orderAllSpec.pre6 enc Try.prog Try.f18 Rows.orderAllRow.domain false) (Rows.orderAllSpec.post enc Try.prog Try.f18 false true false false) :=
  lift_true (C := Try.checked) (r := 4) 8 Try.own Try.laidOut started (by kernel_rfl) Try.func18
    (ChangeSpec.witness6 (enc := enc) (C := Try.checked) false ⟨#[], #[.int .u8 0, .agg #[.int .i64 0, .int .i64 0], .slice none 0 0], []⟩ 8 (by kernel_rfl) (by kernel_rfl) (by kernel_rfl) (by kernel_rfl))
    rfl (fun ds hl => by rw [Try.params18] at hl; match ds, hl with | [d0, d1, d2], _ => rfl) (by kernel_rfl) Try.underlying4
    (fun t ht => by rw [Try.params18] at ht; simp at ht; rcases ht with rfl | rfl | rfl <;> exact by kernel_rfl) (fun t ht => by rw [Try.params18] at ht; simp at ht; rcases ht with rfl | rfl | rfl <;> exact ⟨by kernel_rfl, of_decide_eq_true (by kernel_rfl)⟩)
    fun bs h => by
      rw [Try.params18] at h
      obtain ⟨gs, r, rfl, hg, h⟩ := hasTs_cons h
      obtain ⟨xs, r, rfl, hx, h⟩ := hasTs_cons h
      obtain ⟨ys, rfl, hy⟩ := hasTs_one h
      obtain ⟨g, rfl⟩ := hasT_u8 Try.underlying5 hg
      obtain ⟨t, rfl⟩ := ty_turn hx
      obtain ⟨l, rfl⟩ := ty_lanes hy
      rw [show aggB Try.checked.prog 5 = false from by kernel_rfl, show aggB Try.checked.prog 23 = true from by kernel_rfl, show aggB Try.checked.prog 24 = false from by kernel_rfl]
      exact pc_18 g t l
theorem orderAll_named : Try.checked.prog.funcNamed Rows.orderAllRow.func = some 18 := by kernel_rfl
theorem orderAll_A : joinA Try.checked.prog 18 Try.f18 Rows.orderAllSpec Rows.orderAllRow = true := by kernel_rfl
theorem orderAll_B : joinB Try.checked.prog Rows.orderAllRow = true := by kernel_rfl
/-- OrderAll, for every input. -/
theorem orderAll_holds : Rows.OrderAllSaid :=
  OpenClaim.holds_of_wide 18 Try.f18 rfl rfl rfl rfl rfl rfl rfl ⟨rfl, rfl, rfl, rfl, rfl⟩ rfl rfl rfl rfl rfl orderAll_named Try.func18 (joined_of orderAll_A Try.laidOut orderAll_B)
    (of_decide_eq_true (by kernel_rfl)) (by unfold Func.isWrapper; first | (rw [if_pos (by decide +kernel)]; kernel_rfl) | (rw [if_neg (by decide +kernel)]; exact ⟨rfl, rfl⟩))
    (fun os started H enc _ => orderAll_lifted os started H enc)
#print axioms orderAll_holds
end Go.Proofs.Ytogappokeheilaa
