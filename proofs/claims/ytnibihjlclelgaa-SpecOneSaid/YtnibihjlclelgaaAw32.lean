import Derived.Test.YtnibihjlclelgaaAw31
/-
  A slot that holds all of an array of our own: from now on it reads as a plain list that nobody changes.
-/
set_option linter.unusedVariables false
namespace Go.Aw
variable {n k : Nat} {sl : Slots} {H : List AObj}
theorem Sub.frz (d id : Nat) {T size frz : Nat} {es : List (List PV)} (ho : H[id]? = some (.arr T size frz es)) (hd : getS sl d = .c (.own id es.length)) : Sub n k sl H ((d, .c (.p (.sl false es))) :: sl) (H.set id (.arr T size es.length es)) := by
  rintro cx hk a w ⟨S, m, s, e, b, r⟩
  have hv := r.slot d
  rw [hd] at hv
  obtain ⟨S2, s2, e2, hv2⟩ := s.freeze ho hv
  refine ⟨S2, m, s2, e.trans e2, b, ?_, r.big, r.size, fun d' => ?_⟩
  · have h0 := r.defers
    simp only [getS]
    by_cases hdd : DEF = d
    · subst hdd
      rw [hd] at h0
      rw [if_pos rfl]; exact h0
    · rw [if_neg hdd]; exact h0.ext e2
  simp only [getS]
  by_cases h : d' = d
  · subst h
    rw [if_pos rfl]
    exact hv2
  · rw [if_neg h]; exact (r.slot d').ext e2
end Go.Aw
