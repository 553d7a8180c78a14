/- OrderTells of the given program is true for every input, by a walk over an abstract memory and its plain law. Conditions: none beyond the statement. -/
import Derived.Test.YtogappokeheilaaRows
import Derived.Test.YtogappokeheilaaB62
import Derived.Test.YtogappokeheilaaAw26
set_option linter.unusedVariables false
set_option maxRecDepth 100000
namespace Go.Proofs.Ytogappokeheilaa
open Go.Aw Go.RowKit
theorem Try.own : ownKnob Try.prog.godebug = none := by kernel_rfl
theorem Try.laidOut : laidOutB Try.prog = true := by kernel_rfl
theorem ty_part {f : Nat} {xs : List PV} (h : HasT Try.prog (f + 3) 45 xs) : ∃ p : Part, xs = partP p := by
  have h1 := hasT_struct Try.underlying45 h
  simp [HasFs] at h1
  obtain ⟨a, b, rfl, ha, c, d, rfl, hc, e, g, rfl, he, hg⟩ := h1
  obtain ⟨x, rfl, _⟩ := hasT_int Try.underlying3 ha
  obtain ⟨y, rfl, _⟩ := hasT_int Try.underlying3 hc
  obtain ⟨z, rfl, z1, z2⟩ := hasT_int Try.underlying3 he
  obtain ⟨w, rfl⟩ := hasT_bytes Try.underlying33 Try.underlying5 hg
  exact ⟨⟨x, y, z, w⟩, rfl⟩
theorem ty_ent {f : Nat} {xs : List PV} (h : HasT Try.prog (f + 3) 49 xs) : ∃ e : Entry, xs = entP e := by
  have h1 := hasT_struct Try.underlying49 h
  simp [HasFs] at h1
  obtain ⟨a, b, rfl, ha, c, d, rfl, hc, e, g, rfl, he, i, j, rfl, hi, hj⟩ := h1
  obtain ⟨x, rfl, _⟩ := hasT_int Try.underlying3 ha
  obtain ⟨y, rfl, _⟩ := hasT_int Try.underlying3 hc
  obtain ⟨z, rfl⟩ := hasT_bytes Try.underlying33 Try.underlying5 he
  obtain ⟨w, rfl, _⟩ := hasT_ints Try.underlying32 Try.underlying3 hi
  obtain ⟨v, rfl⟩ := hasT_bool Try.underlying4 hj
  exact ⟨⟨x, y, z, w, v⟩, rfl⟩
theorem ty_lane {f : Nat} {xs : List PV} (h : HasT Try.prog (f + 5) 47 xs) : ∃ l : Lane, xs = laneP l := by
  have h1 := hasT_struct Try.underlying47 h
  simp [HasFs] at h1
  obtain ⟨a, b, rfl, ha, hb⟩ := h1
  obtain ⟨l, rfl, _⟩ := hasT_slice entP (fun _ => True) Try.underlying43 (fun x hx => by obtain ⟨e, he⟩ := ty_ent (f := f) hx; exact ⟨e, he, trivial⟩) ha
  obtain ⟨p, rfl⟩ := ty_part (f := f + 1) hb
  exact ⟨⟨l, p⟩, rfl⟩
theorem ty_turn {f : Nat} {xs : List PV} (h : HasT Try.prog (f + 2) 23 xs) : ∃ t : Turn, xs = turnP t := by
  have h1 := hasT_struct Try.underlying23 h
  simp [HasFs] at h1
  obtain ⟨a, b, rfl, ha, hc⟩ := h1
  obtain ⟨x, rfl, _⟩ := hasT_int Try.underlying3 ha
  obtain ⟨y, rfl, _⟩ := hasT_int Try.underlying3 hc
  exact ⟨⟨x, y⟩, rfl⟩
theorem ty_lanes {f : Nat} {xs : List PV} (h : HasT Try.prog (f + 6) 24 xs) : ∃ l : List Lane, xs = [lnP l] := by
  obtain ⟨l, rfl, _⟩ := hasT_slice laneP (fun _ => True) Try.underlying24 (fun x hx => by obtain ⟨y, hy⟩ := ty_lane (f := f) hx; exact ⟨y, hy, trivial⟩) h
  exact ⟨l, rfl⟩
theorem ty_in {f : Nat} {xs : List PV} (h : HasT Try.prog (f + 7) 89 xs) : ∃ (e : UInt8) (t : Turn) (l : List Lane) (m q : UInt8), xs = [.int .u8 e.toNat, .int .i64 t.Who, .int .i64 t.Used, lnP l, .int .u8 m.toNat, .int .u8 q.toNat] := by
  have h1 := hasT_struct Try.underlying89 h
  simp [HasFs] at h1
  obtain ⟨a0, b0, rfl, h0, a, b, rfl, ha, c, d, rfl, hc, e, g, rfl, he, hg⟩ := h1
  obtain ⟨en, rfl⟩ := hasT_u8 Try.underlying5 h0
  obtain ⟨t, rfl⟩ := ty_turn (f := f + 4) ha
  obtain ⟨l, rfl⟩ := ty_lanes (f := f) hc
  obtain ⟨m, rfl⟩ := hasT_u8 Try.underlying5 he
  obtain ⟨q, rfl⟩ := hasT_u8 Try.underlying5 hg
  exact ⟨en, t, l, m, q, rfl⟩
set_option maxRecDepth 100000 in
theorem orderTells_lifted (os : Os) (started : os.Started) (H : Type) (enc : TypeId × Value → H) :
    ReturnsInHanded {} Try.checked os 17 .any (Rows.orderTellsSpec.pre6 enc Try.prog Try.f17 Rows.orderTellsRow.domain false) (Rows.orderTellsSpec.post enc Try.prog Try.f17 false true false false) :=
  lift_true (C := Try.checked) (r := 4) 8 Try.own Try.laidOut started (by kernel_rfl) Try.func17
    (ChangeSpec.witness6 (enc := enc) (C := Try.checked) false ⟨#[], #[.agg #[.int .u8 0, .int .i64 0, .int .i64 0, .slice none 0 0, .int .u8 0, .int .u8 0]], []⟩ 8 (by kernel_rfl) (by kernel_rfl) (by kernel_rfl) (by kernel_rfl))
    rfl (fun ds hl => by rw [Try.params17] at hl; match ds, hl with | [d0], _ => rfl) (by kernel_rfl) Try.underlying4
    (fun t ht => by rw [Try.params17] at ht; simp at ht; subst ht; exact by kernel_rfl) (fun t ht => by rw [Try.params17] at ht; simp at ht; subst ht; exact ⟨by kernel_rfl, of_decide_eq_true (by kernel_rfl)⟩)
    fun bs h => by
      rw [Try.params17] at h
      obtain ⟨xs, rfl, hx⟩ := hasTs_one h
      obtain ⟨e, t, l, m, q, rfl⟩ := ty_in (f := 1) hx
      rw [show aggB Try.checked.prog 89 = true from by kernel_rfl]
      exact pc_17 e t l m q
theorem orderTells_named : Try.checked.prog.funcNamed Rows.orderTellsRow.func = some 17 := by kernel_rfl
theorem orderTells_A : joinA Try.checked.prog 17 Try.f17 Rows.orderTellsSpec Rows.orderTellsRow = true := by kernel_rfl
theorem orderTells_B : joinB Try.checked.prog Rows.orderTellsRow = true := by kernel_rfl
/-- OrderTells, for every input. -/
theorem orderTells_holds : Rows.OrderTellsSaid :=
  OpenClaim.holds_of_wide 17 Try.f17 rfl rfl rfl rfl rfl rfl rfl ⟨rfl, rfl, rfl, rfl, rfl⟩ rfl rfl rfl rfl rfl orderTells_named Try.func17 (joined_of orderTells_A Try.laidOut orderTells_B)
    (of_decide_eq_true (by kernel_rfl)) (by unfold Func.isWrapper; first | (rw [if_pos (by decide +kernel)]; kernel_rfl) | (rw [if_neg (by decide +kernel)]; exact ⟨rfl, rfl⟩))
    (fun os started H enc _ => orderTells_lifted os started H enc)
#print axioms orderTells_holds
end Go.Proofs.Ytogappokeheilaa
