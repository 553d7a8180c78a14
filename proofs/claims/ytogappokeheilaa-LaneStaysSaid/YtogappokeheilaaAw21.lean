/-
  An abstract memory for walks, part 21: what values of a type are.
-/
import Derived.Test.YtogappokeheilaaAw20
import Derived.Test.YtogappokeheilaaPd1
set_option linter.unusedVariables false
set_option linter.unusedSimpArgs false
namespace Go.Aw
abbrev rowP (q : List (List UInt8)) : PV := .sl false (q.map bytesP)
section
variable {P : Program} {f : Nat} {t e : TypeId} {xs : List PV}
theorem hasT_int (hu : P.underlying t = some (.int .i64)) (h : HasT P (f + 1) t xs) : ∃ n : Int, xs = [.int .i64 n] ∧ -9223372036854775808 ≤ n ∧ n ≤ 9223372036854775807 := by
  simp only [HasT, hu] at h
  obtain ⟨n, rfl, hw⟩ := h
  refine ⟨n, rfl, ?_⟩
  simpa [Lit.wf, IntKind.min, IntKind.max, IntKind.signed, IntKind.bits] using hw
theorem hasT_u8 (hu : P.underlying t = some (.int .u8)) (h : HasT P (f + 1) t xs) : ∃ b : UInt8, xs = encB b := by
  simp only [HasT, hu] at h
  obtain ⟨n, rfl, hw⟩ := h
  have : 0 ≤ n ∧ n ≤ 255 := by simpa [Lit.wf, IntKind.min, IntKind.max, IntKind.signed, IntKind.bits] using hw
  refine ⟨UInt8.ofNat n.toNat, ?_⟩
  have h2 : ((UInt8.ofNat n.toNat).toNat : Int) = n := by rw [UInt8.toNat_ofNat']; omega
  rw [encB, h2]
theorem hasT_u32 (hu : P.underlying t = some (.int .u32)) (h : HasT P (f + 1) t xs) : ∃ n : Int, xs = [.int .u32 n] ∧ 0 ≤ n ∧ n ≤ 4294967295 := by
  simp only [HasT, hu] at h
  obtain ⟨n, rfl, hw⟩ := h
  refine ⟨n, rfl, ?_⟩
  simpa [Lit.wf, IntKind.min, IntKind.max, IntKind.signed, IntKind.bits] using hw
theorem hasT_u16 (hu : P.underlying t = some (.int .u16)) (h : HasT P (f + 1) t xs) : ∃ n : Int, xs = [.int .u16 n] ∧ 0 ≤ n ∧ n ≤ 65535 := by
  simp only [HasT, hu] at h
  obtain ⟨n, rfl, hw⟩ := h
  refine ⟨n, rfl, ?_⟩
  simpa [Lit.wf, IntKind.min, IntKind.max, IntKind.signed, IntKind.bits] using hw
theorem hasT_bool (hu : P.underlying t = some .bool) (h : HasT P (f + 1) t xs) : ∃ b : Bool, xs = [.bool b] := by
  simp only [HasT, hu] at h; exact h
/-- Slices of what is spelled by 'g'. -/
theorem hasT_slice {α : Type} (g : α → List PV) (Q : α → Prop) (hu : P.underlying t = some (.slice e)) (hg : ∀ x, HasT P f e x → ∃ a, x = g a ∧ Q a) (h : HasT P (f + 1) t xs) :
    ∃ l : List α, xs = [.sl false (l.map g)] ∧ l.length * P.bytesOf e ≤ 140737488351232 ∧ ∀ a ∈ l, Q a := by
  simp only [HasT, hu] at h
  obtain ⟨es, rfl, hl, hes⟩ := h
  have : ∃ l : List α, es = l.map g ∧ ∀ a ∈ l, Q a := by
    clear hl
    induction es with
    | nil => exact ⟨[], rfl, by simp⟩
    | cons x es ih =>
      obtain ⟨a, rfl, ha⟩ := hg x (hes x (by simp))
      obtain ⟨l, rfl, hl⟩ := ih fun y hy => hes y (by simp [hy])
      exact ⟨a :: l, rfl, by simpa using ⟨ha, hl⟩⟩
  obtain ⟨l, rfl, hq⟩ := this
  exact ⟨l, rfl, by simpa [reachBytes] using hl, hq⟩
theorem hasT_bytes (hu : P.underlying t = some (.slice e)) (he : P.underlying e = some (.int .u8)) (h : HasT P (f + 2) t xs) : ∃ b : List UInt8, xs = [bsP b] := by
  obtain ⟨l, h1, _⟩ := hasT_slice encB (fun _ => True) hu (fun x hx => by obtain ⟨b, hb⟩ := hasT_u8 he hx; exact ⟨b, hb, trivial⟩) h
  exact ⟨l, h1⟩
theorem hasT_rows {e2 : TypeId} (hu : P.underlying t = some (.slice e)) (he : P.underlying e = some (.slice e2)) (he2 : P.underlying e2 = some (.int .u8)) (h : HasT P (f + 3) t xs) : ∃ q : List (List UInt8), xs = [rowP q] := by
  obtain ⟨l, h1, _⟩ := hasT_slice bytesP (fun _ => True) hu (fun x hx => by obtain ⟨b, hb⟩ := hasT_bytes he he2 hx; exact ⟨b, hb, trivial⟩) h
  exact ⟨l, h1⟩
theorem hasT_bools (hu : P.underlying t = some (.slice e)) (he : P.underlying e = some .bool) (h : HasT P (f + 2) t xs) : ∃ l : List Bool, xs = [.sl false (l.map fun b => [.bool b])] := by
  obtain ⟨l, h1, _⟩ := hasT_slice (fun b => [PV.bool b]) (fun _ => True) hu (fun x hx => by obtain ⟨b, hb⟩ := hasT_bool he hx; exact ⟨b, hb, trivial⟩) h
  exact ⟨l, h1⟩
theorem hasT_ints (hu : P.underlying t = some (.slice e)) (he : P.underlying e = some (.int .i64)) (h : HasT P (f + 2) t xs) : ∃ l : List Int, xs = [isP l] ∧ ∀ n ∈ l, -9223372036854775808 ≤ n ∧ n ≤ 9223372036854775807 := by
  obtain ⟨l, h1, _, h2⟩ := hasT_slice encI _ hu (fun x hx => by obtain ⟨n, hb, hr⟩ := hasT_int he hx; exact ⟨n, hb, hr⟩) h
  exact ⟨l, h1, h2⟩
/-- A struct's fields, one behind the other. -/
theorem hasT_struct {fs : Array Field} (hu : P.underlying t = some (.struct fs)) (h : HasT P (f + 1) t xs) : HasFs (HasT P f) fs.toList xs := by
  simp only [HasT, hu] at h; exact h
theorem hasFs_cons {Q : TypeId → List PV → Prop} {fd : Field} {r : List Field} (h : HasFs Q (fd :: r) xs) : ∃ ys zs, xs = ys ++ zs ∧ Q fd.type ys ∧ HasFs Q r zs := h
theorem hasFs_nil {Q : TypeId → List PV → Prop} (h : HasFs Q [] xs) : xs = [] := h
theorem hasTs_one {bs : List PB} (h : HasTs P f [t] bs) : ∃ xs, bs = [(aggB P t, xs)] ∧ HasT P f t xs := by
  match bs, h with
  | [(a, xs)], h => obtain ⟨h1, h2, _⟩ := h; exact ⟨xs, by simp at h1; simp [h1], h2⟩
theorem hasTs_cons {ts : List TypeId} {bs : List PB} (h : HasTs P f (t :: ts) bs) : ∃ xs r, bs = (aggB P t, xs) :: r ∧ HasT P f t xs ∧ HasTs P f ts r := by
  match bs, h with
  | (a, xs) :: r, h => obtain ⟨h1, h2, h3⟩ := h; exact ⟨xs, r, by simp at h1; simp [h1], h2, h3⟩
theorem hasTs_nil {bs : List PB} (h : HasTs P f [] bs) : bs = [] := by
  match bs, h with
  | [], _ => rfl
end
end Go.Aw
