import Derived.Test.YtnibihjlclelgaaAw30
/-
  Gates: which kind of goal it is, told fast.
-/
namespace Go.Aw
section
variable {P : Program} {n : Nat} {sl : Slots} {H : List AObj} {ow : Bool} {ops : Array Oper} {l : List Oper} {K : Slots → List AObj → Prop} {tab : List Row}
theorem Ga (h : aops P ow n ops l sl H K) : aops P ow n ops l sl H K := h
theorem Gd (h : dOps P ops l tab sl H K) : dOps P ops l tab sl H K := h
end
end Go.Aw
