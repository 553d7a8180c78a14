/-
  An abstract memory for walks, part 16: rules for use.
-/
import Derived.Test.YtogappokeheilaaAw15
set_option linter.unusedVariables false
set_option linter.unusedSimpArgs false
namespace Go.Aw
open Go.RowKit
attribute [go_sem] dOps dStep aopE aopF aAppOwn freshK aopD aPartD aLoadD aFieldAddrD aIndexAddrD aLenD lookF putL Ef.on
section
variable {P : Program} {n k : Nat} {sl : Slots} {H : List AObj} {Q : Exit → Slots → List AObj → Prop} {x y : Code}
/-- What follows, hidden. -/
theorem AW.seqK (h : ∀ K : Slots → List AObj → Prop, (∀ sl' H', AW P n k y Q sl' H' → K sl' H') → AW P n k x (AThen K Q) sl H) : AW P n k (.seq x y) Q sl H :=
  AW.seq (h _ fun _ _ h => h)
/-- A region at the head, and what follows. -/
theorem AW.r {id : Nat} {ops : Array Oper} (ow : Bool) (h : ∀ K : Slots → List AObj → Prop, (∀ sl' H', AW P n k y Q sl' H' → K sl' H') → aops P ow n ops ops.toList sl H K) : AW P n k (.seq (.region id ops false) y) Q sl H :=
  AW.seq (AW.region ow (h _ fun _ _ h => h))
theorem AW.d {id : Nat} {ops : Array Oper} (tab : List Row) (hm : P.follows .mixedOrders = true) (hB : drawB n ops tab = true)
    (h : ∀ K : Slots → List AObj → Prop, (∀ sl' H', AW P n k y Q sl' H' → K sl' H') → dOps P ops ops.toList tab sl H K) : AW P n k (.seq (.region id ops true) y) Q sl H :=
  AW.seq (AW.draw tab hm hB (h _ fun _ _ h => h))
/-- The last region of a piece of code. -/
theorem AW.rl {id : Nat} {ops : Array Oper} (ow : Bool) (h : ∀ K : Slots → List AObj → Prop, (∀ sl' H', Q .normal sl' H' → K sl' H') → aops P ow n ops ops.toList sl H K) : AW P n k (.region id ops false) Q sl H :=
  AW.region ow (h _ fun _ _ h => h)
theorem AW.dl {id : Nat} {ops : Array Oper} (tab : List Row) (hm : P.follows .mixedOrders = true) (hB : drawB n ops tab = true)
    (h : ∀ K : Slots → List AObj → Prop, (∀ sl' H', Q .normal sl' H' → K sl' H') → dOps P ops ops.toList tab sl H K) : AW P n k (.region id ops true) Q sl H :=
  AW.draw tab hm hB (h _ fun _ _ h => h)
/-- A slice is no longer than slices are. -/
theorem AW.len {c : Code} {full : Bool} {xs : List (List PV)} (d : Nat) (hd : getS sl d = .c (.p (.sl full xs))) (h : (xs.length : Int) ≤ 9223372036854775807 → AW P n k c Q sl H) : AW P n k c Q sl H := fun cx hk a w hin => by
  obtain ⟨S, m, s, e, b, r⟩ := hin
  have hv := r.slot d
  rw [hd] at hv
  have hl : xs.length ≤ maxLen := by
    have hv' : VP S (.sl full xs) (a.tmps.getD d undef) := hv
    generalize a.tmps.getD d undef = v at hv'
    cases hv' with
    | nil => simp
    | emp => simp
    | sl _ _ b off cap size n u hn hc hm => omega
  exact h (by have := hl; unfold maxLen at this; omega) cx hk a w ⟨S, m, s, e, b, r⟩
end
/-- Results that may have room behind them. -/
def loR : PR → PR
  | .one (f, xs) => .one (f, xs.map lo)
  | .tup bs => .tup (bs.map fun b => (b.1, b.2.map lo))
section
variable {P : Program} {S : Mem}
theorem VPB.lo {b : PB} {v : Value} (h : VPB S b v) : VPB S (b.1, b.2.map lo) v := by
  obtain ⟨f, xs⟩ := b
  cases f with
  | true =>
    obtain ⟨vs, h1, h2⟩ := h
    refine ⟨vs, h1, ?_⟩
    have hp : VPs S xs vs := ⟨by simpa using h2.1, fun i x v a b => h2.2 i (.p x) v (by simp only [List.getElem?_map, a]; rfl) b⟩
    exact hp.lo.cells
  | false =>
    obtain ⟨c, h1, h2⟩ := h
    match xs, h1 with
    | [x], h1 =>
      simp at h1; subst h1
      exact ⟨_, rfl, VP.lo h2⟩
theorem VPR.lo {r : PR} {v : Value} (h : VPR S r v) : VPR S (loR r) v := by
  cases r with
  | one b => obtain ⟨f, xs⟩ := b; exact VPB.lo h
  | tup bs =>
    obtain ⟨vs, h1, h2, h3⟩ := h
    refine ⟨vs, h1, by simpa using h2, fun i b u hb hu => ?_⟩
    rw [List.getElem?_map] at hb
    cases hx : bs[i]? with
    | none => simp [hx] at hb
    | some x => simp [hx] at hb; subst hb; exact (h3 i x u hx hu).lo
theorem PC.loose {f : FuncId} {args : List PB} {r : PR} (h : PC P f args r) : PC P f args (loR r) :=
  ⟨h.1, fun S w vs hS hv => (h.2 S w vs hS hv).mono fun e w' ⟨v, S', a, b, c, d, e, f⟩ => ⟨v, S', a, b, c, d, e, f.lo⟩⟩
theorem frzR_ok {S S' : Mem} {m' : List Loc} {H' : List AObj} {x : AV} {r : PR} {v : Value} {w w' : World} (s' : Sim S' m' H' w.heap.size w') (e' : Ext w.heap.size S [] [] S' m' H') (b' : Below w.heap.size w w')
    (hx : VA S' m' H' x v) (hk : frzR H' x = some r) : ∃ u S2, Ending.returned v = .returned u ∧ S.le S2 ∧ OldMem w.heap.size S S2 ∧ ValidM S2 w' ∧ Below w.heap.size w w' ∧ VPR S2 r u := by
  have conc : ∀ S2 H2, Sim S2 m' H2 w.heap.size w' → Ext w.heap.size S' m' H' S2 m' H2 → VPR S2 r v → ∃ u S', Ending.returned v = .returned u ∧ S.le S' ∧ OldMem w.heap.size S S' ∧ ValidM S' w' ∧ Below w.heap.size w w' ∧ VPR S' r u := fun S2 H2 s2 e2 hr =>
    ⟨v, S2, rfl, Mem.le_trans e'.mem e2.mem, fun b o hb => (e2.old b o hb).trans (e'.old b o hb), s2.mem, b', hr⟩
  cases x with
  | any => simp [frzR, frzV] at hk
  | mark _ => simp [frzR, frzV] at hk
  | c x =>
    simp only [frzR] at hk
    cases hf : frzC H' x with
    | none => simp [hf] at hk
    | some q =>
      obtain ⟨b, H2⟩ := q
      simp [hf] at hk; subst hk
      obtain ⟨S2, s2, e2, p2⟩ := frzC_ok s' hx hf
      exact conc S2 H2 s2 e2 ⟨_, rfl, p2⟩
  | agg cs =>
    simp only [frzR] at hk
    cases hf : frzV H' (.agg cs) with
    | none => simp [hf] at hk
    | some q =>
      obtain ⟨b, H2⟩ := q
      simp [hf] at hk; subst hk
      obtain ⟨S2, s2, e2, p2⟩ := frzV_ok s' hx hf
      exact conc S2 H2 s2 e2 p2
  | tup bs =>
    simp only [frzR] at hk
    obtain ⟨us, rfl, hl, hu⟩ := hx
    cases hf : frzVs H' (bs.map oneB) with
    | none => simp [hf] at hk
    | some q =>
      obtain ⟨ps, H2⟩ := q
      simp [hf] at hk; subst hk
      obtain ⟨S2, s2, e2, p2⟩ := frzVs_ok s' (vs := us) ⟨by simpa using hl, fun i x u hx hui => by
        rw [List.getElem?_map] at hx
        cases hb : bs[i]? with
        | none => simp [hb] at hx
        | some b =>
          simp [hb] at hx; subst hx
          have := hu i b u hb hui
          obtain ⟨fl, cs⟩ := b
          cases fl with
          | true => exact this
          | false => obtain ⟨c, rfl, hc⟩ := this; exact hc⟩ hf
      exact conc S2 H2 s2 e2 ⟨us, rfl, p2⟩
/-- A contract whose results are told without their room. -/
theorem PC.of_loose {f : FuncId} {pargs : List PB} {r : PR} (h : ACall P f (pargs.map pbAV) [] fun x H' => (frzR H' x).map loR = some r) : PC P f pargs r := by
  refine ⟨h.1, fun S w vs hS hv => ?_⟩
  have h2 : ∀ x H', (frzR H' x).map loR = some r → ∃ r', frzR H' x = some r' ∧ loR r' = r := fun x H' hh => by
    cases hq : frzR H' x with
    | none => simp [hq] at hh
    | some r' => exact ⟨r', rfl, by simpa [hq] using hh⟩
  have key := (h.2 S [] w.heap.size w vs (Sim.start hS) (hv.VAs [] []))
  refine key.mono fun e w' ⟨v, he, S', m', H', x, s', e', b', hx, hk⟩ => ?_
  obtain ⟨r', hr, rfl⟩ := h2 x H' hk
  subst he
  obtain ⟨u, S2, q1, q2, q3, q4, q5, q6⟩ := frzR_ok s' e' b'.below hx hr
  exact ⟨u, S2, q1, q2, q3, q4, q5, q6.lo⟩
end
end Go.Aw
