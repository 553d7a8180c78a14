import Derived.Test.YtogappokeheilaaB59
import Derived.Test.YtogappokeheilaaB52
set_option linter.unusedVariables false
set_option linter.unusedSimpArgs false
set_option maxRecDepth 100000
set_option maxHeartbeats 0
namespace Go.Proofs.Ytogappokeheilaa
open Go.Aw

/-! The rest. -/
def restL (i : Nat) (L : List Entry) : List Deliv := (L.filter isMsg).map fun e => ⟨i, e.B⟩
def restN (l : List Lane) : Nat → List Deliv
  | 0 => []
  | m + 1 => restN l m ++ restL m (l.getD m zeroL).L
theorem restL_len (i : Nat) (L : List Entry) : (restL i L).length = manyL L := by simp [restL, manyL]
theorem restN_le {l : List Lane} (h : ∀ x ∈ l, x.L.length ≤ 80) : ∀ m, (restN l m).length ≤ 80 * m
  | 0 => by simp [restN]
  | m + 1 => by
    have ih := restN_le h m
    have h1 : manyL (l.getD m zeroL).L ≤ 80 := by
      by_cases hm : m < l.length
      · have hx : l.getD m zeroL = l[m] := by rw [List.getD_eq_getElem?_getD, List.getElem?_eq_getElem hm]; rfl
        rw [hx]; exact Nat.le_trans (many_le _) (h _ (List.getElem_mem hm))
      · have hx : l.getD m zeroL = zeroL := by rw [List.getD_eq_getElem?_getD, List.getElem?_eq_none (by omega)]; rfl
        rw [hx]; simp [manyL, zeroL]
    rw [restN, List.length_append, restL_len]; omega
theorem restL_succ {i : Nat} {L : List Entry} {k : Nat} {e : Entry} (h : L[k]? = some e) : restL i (L.take (k + 1)) = restL i (L.take k) ++ if e.Kind = 1 then [⟨i, e.B⟩] else [] := by
  unfold restL
  rw [List.take_add_one, h, List.filter_append, List.map_append]
  by_cases hk : e.Kind = 1 <;> simp [isMsg, hk]
end Go.Proofs.Ytogappokeheilaa
