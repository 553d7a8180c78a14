/- SeqrSaid of the given program is true for every input, by a walk over an abstract memory and its plain law. Conditions: none beyond the statement. -/
import Derived.Test.YtogappokeheilaaRows
import Derived.Test.YtogappokeheilaaB58
import Derived.Test.YtogappokeheilaaAw26
set_option linter.unusedVariables false
set_option maxRecDepth 100000
namespace Go.Proofs.Ytogappokeheilaa
open Go.Aw Go.RowKit
theorem Try.own : ownKnob Try.prog.godebug = none := by kernel_rfl
theorem Try.laidOut : laidOutB Try.prog = true := by kernel_rfl
theorem ty_part {f : Nat} {xs : List PV} (h : HasT Try.prog (f + 3) 45 xs) : ∃ p : Part, xs = partP p := by
  have h1 := hasT_struct Try.underlying45 h
  simp [HasFs] at h1
  obtain ⟨a, b, rfl, ha, c, d, rfl, hc, e, g, rfl, he, hg⟩ := h1
  obtain ⟨x, rfl, _⟩ := hasT_int Try.underlying3 ha
  obtain ⟨y, rfl, _⟩ := hasT_int Try.underlying3 hc
  obtain ⟨z, rfl, z1, z2⟩ := hasT_int Try.underlying3 he
  obtain ⟨w, rfl⟩ := hasT_bytes Try.underlying33 Try.underlying5 hg
  exact ⟨⟨x, y, z, w⟩, rfl⟩
theorem ty_ent {f : Nat} {xs : List PV} (h : HasT Try.prog (f + 3) 49 xs) : ∃ e : Entry, xs = entP e ∧ e.Seq ≤ 9223372036854775807 := by
  have h1 := hasT_struct Try.underlying49 h
  simp [HasFs] at h1
  obtain ⟨a, b, rfl, ha, c, d, rfl, hc, e, g, rfl, he, i, j, rfl, hi, hj⟩ := h1
  obtain ⟨x, rfl, _⟩ := hasT_int Try.underlying3 ha
  obtain ⟨y, rfl, _, y2⟩ := hasT_int Try.underlying3 hc
  obtain ⟨z, rfl⟩ := hasT_bytes Try.underlying33 Try.underlying5 he
  obtain ⟨w, rfl, _⟩ := hasT_ints Try.underlying32 Try.underlying3 hi
  obtain ⟨v, rfl⟩ := hasT_bool Try.underlying4 hj
  exact ⟨⟨x, y, z, w, v⟩, rfl, y2⟩
theorem ty_lane {f : Nat} {xs : List PV} (h : HasT Try.prog (f + 5) 47 xs) : ∃ l : Lane, xs = laneP l ∧ ∀ e ∈ l.L, e.Seq ≤ 9223372036854775807 := by
  have h1 := hasT_struct Try.underlying47 h
  simp [HasFs] at h1
  obtain ⟨a, b, rfl, ha, hb⟩ := h1
  obtain ⟨l, rfl, _, hl⟩ := hasT_slice entP (fun e => e.Seq ≤ 9223372036854775807) Try.underlying43 (fun x hx => ty_ent (f := f) hx) ha
  obtain ⟨p, rfl⟩ := ty_part (f := f + 1) hb
  exact ⟨⟨l, p⟩, rfl, hl⟩
theorem ty_turn {f : Nat} {xs : List PV} (h : HasT Try.prog (f + 2) 23 xs) : ∃ t : Turn, xs = turnP t := by
  have h1 := hasT_struct Try.underlying23 h
  simp [HasFs] at h1
  obtain ⟨a, b, rfl, ha, hc⟩ := h1
  obtain ⟨x, rfl, _⟩ := hasT_int Try.underlying3 ha
  obtain ⟨y, rfl, _⟩ := hasT_int Try.underlying3 hc
  exact ⟨⟨x, y⟩, rfl⟩
theorem ty_lanes {f : Nat} {xs : List PV} (h : HasT Try.prog (f + 6) 24 xs) : ∃ l : List Lane, xs = [lnP l] ∧ ∀ x ∈ l, ∀ e ∈ x.L, e.Seq ≤ 9223372036854775807 := by
  obtain ⟨l, rfl, _, hl⟩ := hasT_slice laneP (fun x => ∀ e ∈ x.L, e.Seq ≤ 9223372036854775807) Try.underlying24 (fun x hx => ty_lane (f := f) hx) h
  exact ⟨l, rfl, hl⟩
set_option maxRecDepth 100000 in
theorem seqrSaid_lifted (os : Os) (started : os.Started) (H : Type) (enc : TypeId × Value → H) :
    ReturnsInHanded {} Try.checked os 7 .any (Rows.seqrSaidSpec.pre6 enc Try.prog Try.f7 Rows.seqrSaidRow.domain false) (Rows.seqrSaidSpec.post enc Try.prog Try.f7 false true false false) :=
  lift_true (C := Try.checked) (r := 4) 8 Try.own Try.laidOut started (by kernel_rfl) Try.func7
    (ChangeSpec.witness6 (enc := enc) (C := Try.checked) false ⟨#[], #[.agg #[.int .i64 0, .int .i64 0], .slice none 0 0, .int .u8 0], []⟩ 8 (by kernel_rfl) (by kernel_rfl) (by kernel_rfl) (by kernel_rfl))
    rfl (fun ds hl => by rw [Try.params7] at hl; match ds, hl with | [d0, d1, d2], _ => rfl) (by kernel_rfl) Try.underlying4
    (fun t ht => by rw [Try.params7] at ht; simp at ht; rcases ht with rfl | rfl | rfl <;> exact by kernel_rfl) (fun t ht => by rw [Try.params7] at ht; simp at ht; rcases ht with rfl | rfl | rfl <;> exact ⟨by kernel_rfl, of_decide_eq_true (by kernel_rfl)⟩)
    fun bs h => by
      rw [Try.params7] at h
      obtain ⟨xs, r, rfl, hx, h⟩ := hasTs_cons h
      obtain ⟨ys, r, rfl, hy, h⟩ := hasTs_cons h
      obtain ⟨zs, rfl, hz⟩ := hasTs_one h
      obtain ⟨t, rfl⟩ := ty_turn (f := 5) hx
      obtain ⟨l, rfl, hl⟩ := ty_lanes (f := 1) hy
      obtain ⟨q, rfl⟩ := hasT_u8 Try.underlying5 hz
      rw [show aggB Try.checked.prog 23 = true from by kernel_rfl, show aggB Try.checked.prog 24 = false from by kernel_rfl, show aggB Try.checked.prog 5 = false from by kernel_rfl]
      exact pc_7 t l q hl
theorem seqrSaid_named : Try.checked.prog.funcNamed Rows.seqrSaidRow.func = some 7 := by kernel_rfl
theorem seqrSaid_A : joinA Try.checked.prog 7 Try.f7 Rows.seqrSaidSpec Rows.seqrSaidRow = true := by kernel_rfl
theorem seqrSaid_B : joinB Try.checked.prog Rows.seqrSaidRow = true := by kernel_rfl
/-- SeqrSaid, for every input. -/
theorem seqrSaid_holds : Rows.SeqrSaidSaid :=
  OpenClaim.holds_of_wide 7 Try.f7 rfl rfl rfl rfl rfl rfl rfl ⟨rfl, rfl, rfl, rfl, rfl⟩ rfl rfl rfl rfl rfl seqrSaid_named Try.func7 (joined_of seqrSaid_A Try.laidOut seqrSaid_B)
    (of_decide_eq_true (by kernel_rfl)) (by unfold Func.isWrapper; first | (rw [if_pos (by decide +kernel)]; kernel_rfl) | (rw [if_neg (by decide +kernel)]; exact ⟨rfl, rfl⟩))
    (fun os started H enc _ => seqrSaid_lifted os started H enc)
#print axioms seqrSaid_holds
end Go.Proofs.Ytogappokeheilaa
