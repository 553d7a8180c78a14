/-
  An abstract memory for walks, part 20: one operation after the other.
-/
import Derived.Test.YtogappokeheilaaAw19
set_option linter.unusedVariables false
set_option linter.unusedSimpArgs false
namespace Go.Aw
section
variable {P : Program} {n k : Nat} {sl : Slots} {H : List AObj} {ow : Bool} {ops : Array Oper} {o o2 : Oper} {l : List Oper} {K : Slots → List AObj → Prop}
def notLit (o : Oper) : List Oper → Bool
  | [] => true
  | o2 :: _ => !isLit o o2
theorem aStep_mono {K' : Slots → List AObj → Prop} (hk : K = K') (h : aStep P ow n ops o sl H K) : aStep P ow n ops o sl H K' := hk ▸ h
theorem aops_s (h : ∀ HK : Slots → List AObj → Prop, (∀ sl' H', aops P ow n ops l sl' H' K → HK sl' H') → aStep P ow n ops o sl H HK) (hn : notLit o l = true) : aops P ow n ops (o :: l) sl H K := by
  cases l with
  | nil => exact h _ fun _ _ h => h
  | cons o2 r =>
    have : isLit o o2 = false := by simpa [notLit] using hn
    simp only [aops, this, Bool.false_eq_true, if_false]
    exact h _ fun _ _ h => h
theorem aops_l (hn : isLit o o2 = true) (h : ∀ HK : Slots → List AObj → Prop, (∀ sl' H', aops P ow n ops l sl' H' K → HK sl' H') → aLit P n sl H o o2 HK) : aops P ow n ops (o :: o2 :: l) sl H K := by
  simp only [aops, hn, if_true]
  exact h _ fun _ _ h => h
theorem aops_n (h : K sl H) : aops P ow n ops [] sl H K := h
theorem dOps_s {r : Row} {tab : List Row} (h : ∀ HK : Slots → List AObj → Prop, (∀ sl' H', dOps P ops l tab sl' H' K → HK sl' H') → dStep P ops r o sl H HK) : dOps P ops (o :: l) (r :: tab) sl H K := h _ fun _ _ h => h
theorem dOps_0 (h : ∀ HK : Slots → List AObj → Prop, (∀ sl' H', dOps P ops l [] sl' H' K → HK sl' H') → dStep P ops (none, []) o sl H HK) : dOps P ops (o :: l) [] sl H K := h _ fun _ _ h => h
theorem dOps_n {tab : List Row} (h : K sl H) : dOps P ops [] tab sl H K := by cases tab <;> exact h
variable {Q : Exit → Slots → List AObj → Prop} {y : Code} {id : Nat}
theorem AW.q (ow : Bool) (h : ∀ K : Slots → List AObj → Prop, (∀ sl' H', AW P n k y Q sl' H' → K sl' H') → aops P ow n l.toArray l sl H K) : AW P n k (.seq (.region id l.toArray false) y) Q sl H :=
  AW.r ow fun K hK => by simpa using h K hK
theorem AW.ql (ow : Bool) (h : ∀ K : Slots → List AObj → Prop, (∀ sl' H', Q .normal sl' H' → K sl' H') → aops P ow n l.toArray l sl H K) : AW P n k (.region id l.toArray false) Q sl H :=
  AW.rl ow fun K hK => by simpa using h K hK
theorem AW.w (tab : List Row) (hm : P.follows .mixedOrders = true) (hB : drawB n l.toArray tab = true) (h : ∀ K : Slots → List AObj → Prop, (∀ sl' H', AW P n k y Q sl' H' → K sl' H') → dOps P l.toArray l tab sl H K) : AW P n k (.seq (.region id l.toArray true) y) Q sl H :=
  AW.d tab hm hB fun K hK => by simpa using h K hK
theorem AW.wl (tab : List Row) (hm : P.follows .mixedOrders = true) (hB : drawB n l.toArray tab = true) (h : ∀ K : Slots → List AObj → Prop, (∀ sl' H', Q .normal sl' H' → K sl' H') → dOps P l.toArray l tab sl H K) : AW P n k (.region id l.toArray true) Q sl H :=
  AW.dl tab hm hB fun K hK => by simpa using h K hK
end
end Go.Aw
