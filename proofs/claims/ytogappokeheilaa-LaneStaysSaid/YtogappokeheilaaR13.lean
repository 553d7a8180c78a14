/- LaneStays of the given program is true for every input, by a walk over an abstract memory and its plain law. Conditions: none beyond the statement. -/
import Derived.Test.YtogappokeheilaaRows
import Derived.Test.YtogappokeheilaaB20
import Derived.Test.YtogappokeheilaaAw26
set_option linter.unusedVariables false
set_option maxRecDepth 100000
namespace Go.Proofs.Ytogappokeheilaa
open Go.Aw Go.RowKit
theorem Try.own : ownKnob Try.prog.godebug = none := by kernel_rfl
theorem Try.laidOut : laidOutB Try.prog = true := by kernel_rfl
theorem ty_part {f : Nat} {xs : List PV} (h : HasT Try.prog (f + 5) 45 xs) : ∃ p : Part, xs = partP p := by
  have h1 := hasT_struct Try.underlying45 h
  simp [HasFs] at h1
  obtain ⟨a, b, rfl, ha, c, d, rfl, hc, e, g, rfl, he, hg⟩ := h1
  obtain ⟨x, rfl, _⟩ := hasT_int Try.underlying3 ha
  obtain ⟨y, rfl, _⟩ := hasT_int Try.underlying3 hc
  obtain ⟨z, rfl, z1, z2⟩ := hasT_int Try.underlying3 he
  obtain ⟨w, rfl⟩ := hasT_bytes Try.underlying33 Try.underlying5 hg
  exact ⟨⟨x, y, z, w⟩, rfl⟩
theorem ty_ent {f : Nat} {xs : List PV} (h : HasT Try.prog (f + 5) 49 xs) : ∃ e : Entry, xs = entP e := by
  have h1 := hasT_struct Try.underlying49 h
  simp [HasFs] at h1
  obtain ⟨a, b, rfl, ha, c, d, rfl, hc, e, g, rfl, he, i, j, rfl, hi, hj⟩ := h1
  obtain ⟨x, rfl, _⟩ := hasT_int Try.underlying3 ha
  obtain ⟨y, rfl, _⟩ := hasT_int Try.underlying3 hc
  obtain ⟨z, rfl⟩ := hasT_bytes Try.underlying33 Try.underlying5 he
  obtain ⟨w, rfl, _⟩ := hasT_ints Try.underlying32 Try.underlying3 hi
  obtain ⟨v, rfl⟩ := hasT_bool Try.underlying4 hj
  exact ⟨⟨x, y, z, w, v⟩, rfl⟩
theorem ty_lane {f : Nat} {xs : List PV} (h : HasT Try.prog (f + 7) 47 xs) : ∃ l : Lane, xs = laneP l := by
  have h1 := hasT_struct Try.underlying47 h
  simp [HasFs] at h1
  obtain ⟨a, b, rfl, ha, hb⟩ := h1
  obtain ⟨l, rfl, _⟩ := hasT_slice entP (fun _ => True) Try.underlying43 (fun x hx => by obtain ⟨e, he⟩ := ty_ent (f := f) hx; exact ⟨e, he, trivial⟩) ha
  obtain ⟨p, rfl⟩ := ty_part (f := f + 1) hb
  exact ⟨⟨l, p⟩, rfl⟩
theorem ty_item {f : Nat} {xs : List PV} (h : HasT Try.prog (f + 5) 35 xs) : ∃ t : Aw.Item, xs = itemP t := by
  have h1 := hasT_struct Try.underlying35 h
  simp [HasFs] at h1
  obtain ⟨a, b, rfl, ha, c, d, rfl, hc, e, g, rfl, he, i, j, rfl, hi, k, l, rfl, hk, m, n, rfl, hm, o, p, rfl, ho, hp⟩ := h1
  obtain ⟨x1, rfl, _⟩ := hasT_int Try.underlying3 ha
  obtain ⟨x2, rfl, _⟩ := hasT_int Try.underlying3 hc
  obtain ⟨x3, rfl, _⟩ := hasT_int Try.underlying3 he
  obtain ⟨x4, rfl, _⟩ := hasT_int Try.underlying3 hi
  obtain ⟨x5, rfl, _⟩ := hasT_int Try.underlying3 hk
  obtain ⟨x6, rfl, _⟩ := hasT_int Try.underlying3 hm
  obtain ⟨x7, rfl, _⟩ := hasT_ints Try.underlying32 Try.underlying3 ho
  obtain ⟨x8, rfl⟩ := hasT_bytes Try.underlying33 Try.underlying5 hp
  exact ⟨⟨x1, x2, x3, x4, x5, x6, x7, x8⟩, rfl⟩
theorem ty_in {f : Nat} {xs : List PV} (h : HasT Try.prog (f + 8) 80 xs) : ∃ (l : Lane) (t : Aw.Item) (n : Int) (e : Entry), xs = laneP l ++ itemP t ++ [.int .i64 n] ++ entP e := by
  have h1 := hasT_struct Try.underlying80 h
  simp [HasFs] at h1
  obtain ⟨a, b, rfl, ha, c, d, rfl, hc, e, g, rfl, he, hg⟩ := h1
  obtain ⟨l, rfl⟩ := ty_lane (f := f) ha
  obtain ⟨t, rfl⟩ := ty_item (f := f + 2) hc
  obtain ⟨n, rfl, _⟩ := hasT_int Try.underlying3 he
  obtain ⟨e, rfl⟩ := ty_ent (f := f + 2) hg
  exact ⟨l, t, n, e, rfl⟩
set_option maxRecDepth 100000 in
theorem laneStays_lifted (os : Os) (started : os.Started) (H : Type) (enc : TypeId × Value → H) :
    ReturnsInHanded {} Try.checked os 13 .any (Rows.laneStaysSpec.pre6 enc Try.prog Try.f13 Rows.laneStaysRow.domain false) (Rows.laneStaysSpec.post enc Try.prog Try.f13 false true false false) :=
  lift_true (C := Try.checked) (r := 4) 8 Try.own Try.laidOut started (by kernel_rfl) Try.func13
    (ChangeSpec.witness6 (enc := enc) (C := Try.checked) false ⟨#[], #[.agg #[.slice none 0 0, .int .i64 0, .int .i64 0, .int .i64 0, .slice none 0 0, .int .i64 0, .int .i64 0, .int .i64 0, .int .i64 0, .int .i64 0, .int .i64 0, .slice none 0 0, .slice none 0 0, .int .i64 0, .int .i64 0, .int .i64 0, .slice none 0 0, .slice none 0 0, .bool false]], []⟩ 8 (by kernel_rfl) (by kernel_rfl) (by kernel_rfl) (by kernel_rfl))
    rfl (fun ds hl => by rw [Try.params13] at hl; match ds, hl with | [d0], _ => rfl) (by kernel_rfl) Try.underlying4
    (fun t ht => by rw [Try.params13] at ht; simp at ht; subst ht; exact by kernel_rfl) (fun t ht => by rw [Try.params13] at ht; simp at ht; subst ht; exact ⟨by kernel_rfl, of_decide_eq_true (by kernel_rfl)⟩)
    fun bs h => by
      rw [Try.params13] at h
      obtain ⟨xs, rfl, hx⟩ := hasTs_one h
      obtain ⟨l, t, n, e, rfl⟩ := ty_in (f := 0) hx
      rw [show aggB Try.checked.prog 80 = true from by kernel_rfl]
      exact pc_13 l t n e
theorem laneStays_named : Try.checked.prog.funcNamed Rows.laneStaysRow.func = some 13 := by kernel_rfl
theorem laneStays_A : joinA Try.checked.prog 13 Try.f13 Rows.laneStaysSpec Rows.laneStaysRow = true := by kernel_rfl
theorem laneStays_B : joinB Try.checked.prog Rows.laneStaysRow = true := by kernel_rfl
/-- LaneStays, for every input. -/
theorem laneStays_holds : Rows.LaneStaysSaid :=
  OpenClaim.holds_of_wide 13 Try.f13 rfl rfl rfl rfl rfl rfl rfl ⟨rfl, rfl, rfl, rfl, rfl⟩ rfl rfl rfl rfl rfl laneStays_named Try.func13 (joined_of laneStays_A Try.laidOut laneStays_B)
    (of_decide_eq_true (by kernel_rfl)) (by unfold Func.isWrapper; first | (rw [if_pos (by decide +kernel)]; kernel_rfl) | (rw [if_neg (by decide +kernel)]; exact ⟨rfl, rfl⟩))
    (fun os started H enc _ => laneStays_lifted os started H enc)
#print axioms laneStays_holds
end Go.Proofs.Ytogappokeheilaa
