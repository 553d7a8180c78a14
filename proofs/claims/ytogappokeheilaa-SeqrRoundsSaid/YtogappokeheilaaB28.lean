import Derived.Test.YtogappokeheilaaB27
import Derived.Test.YtogappokeheilaaB21
set_option linter.unusedVariables false
set_option linter.unusedSimpArgs false
set_option maxRecDepth 100000
set_option maxHeartbeats 0
namespace Go.Proofs.Ytogappokeheilaa
open Go.Aw

/-! The token's walk, entry by entry. -/
structure WS where
  t : Turn
  x : List Lane
  o : List Deliv
def turnN (t : Turn) (n : Nat) (e : Entry) : Turn := if e.Kind = 1 then ⟨t.Who, t.Used + 1⟩ else if e.Kind = 3 then ⟨if t.Who + 1 = n then 0 else t.Who + 1, 0⟩ else t
def outN (t : Turn) (o : List Deliv) (e : Entry) : List Deliv := if e.Kind = 1 then o ++ [⟨t.Who, e.B⟩] else o
def wNext (s : WS) : Option WS := match s.x[s.t.Who.toNat]? with
  | some ln => match ln.L with
    | e :: r => some ⟨turnN s.t s.x.length e, s.x.set s.t.Who.toNat ⟨r, ln.Part⟩, outN s.t s.o e⟩
    | [] => none
  | none => none
def walkS (s : WS) : Nat → WS
  | 0 => s
  | k + 1 => (wNext (walkS s k)).getD (walkS s k)
def tot (x : List Lane) : Nat := (x.map fun l => l.L.length).sum
def walkF (t : Turn) (l : List Lane) : WS := walkS ⟨t, l, []⟩ (tot l)
theorem tot_set : ∀ (x : List Lane) (i : Nat) (a b : Lane), x[i]? = some a → tot (x.set i b) + a.L.length = tot x + b.L.length
  | [], i, a, b, h => by simp at h
  | y :: x, 0, a, b, h => by
    simp at h; subst h
    simp [tot]; omega
  | y :: x, i + 1, a, b, h => by
    have ih := tot_set x i a b (by simpa using h)
    simp only [tot] at ih
    simp only [tot, List.set_cons_succ, List.map_cons, List.sum_cons]; omega
theorem tot_le : ∀ (x : List Lane), (∀ l ∈ x, l.L.length ≤ 80) → tot x ≤ 80 * x.length
  | [], _ => by simp [tot]
  | y :: x, h => by
    have ih := tot_le x fun l hl => h l (by simp [hl])
    have h1 := h y (by simp)
    simp only [tot] at ih
    simp [tot]; omega
structure WInv (n : Nat) (s : WS) : Prop where
  len : s.x.length = n
  lo : 0 ≤ s.t.Who
  hi : s.t.Who < n
  ok : ∀ l ∈ s.x, lowR 0 l.L = true ∧ l.L.length ≤ 80
  used : 0 ≤ s.t.Used
  bound : s.t.Used + tot s.x ≤ 2305843009213693952
  out : s.o.length + tot s.x ≤ 5120
theorem winv_start {t : Turn} {l : List Lane} (h : mayT t l = true) : WInv l.length ⟨t, l, []⟩ ∧ 2 ≤ l.length ∧ l.length ≤ 64 := by
  unfold mayT lanesF at h
  simp only [Bool.and_eq_true, decide_eq_true_eq, List.all_eq_true] at h
  obtain ⟨⟨h1, h2⟩, h3, h4, h5, h6, h7⟩ := h
  have hok : ∀ x ∈ l, lowR 0 x.L = true ∧ x.L.length ≤ 80 := fun x hx => by
    have := h2 x hx
    unfold goodL at this
    rw [Bool.and_eq_true] at this
    exact ⟨((right_iff x).1 this.2).1, (few_len this.1).1⟩
  have ht := tot_le l fun x hx => (hok x hx).2
  exact ⟨⟨rfl, h4, h5, hok, h6, by simp only; omega, by simp; omega⟩, h3, by omega⟩
/-- A step: what is there, and what comes. -/
theorem wnext_some {n : Nat} {s s' : WS} (h : WInv n s) (hn : wNext s = some s') : ∃ (w : Nat) (p : Part) (e : Entry) (r : List Entry), s.t.Who = w ∧ w < n ∧ s.x[w]? = some ⟨e :: r, p⟩ ∧
    s' = ⟨turnN s.t n e, s.x.set w ⟨r, p⟩, outN s.t s.o e⟩ ∧ tot s'.x + 1 = tot s.x := by
  obtain ⟨w, hw⟩ : ∃ w : Nat, s.t.Who = w := ⟨s.t.Who.toNat, by have := h.lo; omega⟩
  have hwn : w < n := by have := h.hi; omega
  unfold wNext at hn
  rw [hw, Int.toNat_natCast] at hn
  cases hx : s.x[w]? with
  | none => rw [hx] at hn; cases hn
  | some ln =>
    obtain ⟨L, p⟩ := ln
    rw [hx] at hn
    cases L with
    | nil => cases hn
    | cons e r =>
      simp only [Option.some.injEq] at hn
      subst hn
      refine ⟨w, p, e, r, hw, hwn, hx, by rw [h.len], ?_⟩
      have := tot_set s.x w ⟨e :: r, p⟩ ⟨r, p⟩ hx
      simp only [List.length_cons] at this
      simp only; omega
theorem wnext_none {n : Nat} {s : WS} (h : WInv n s) (hn : wNext s = none) : ∃ (w : Nat) (p : Part), s.t.Who = w ∧ w < n ∧ s.x[w]? = some ⟨[], p⟩ := by
  obtain ⟨w, hw⟩ : ∃ w : Nat, s.t.Who = w := ⟨s.t.Who.toNat, by have := h.lo; omega⟩
  have hwn : w < n := by have := h.hi; omega
  have hl := h.len
  obtain ⟨ln, hx⟩ : ∃ ln, s.x[w]? = some ln := ⟨_, List.getElem?_eq_getElem (by omega)⟩
  unfold wNext at hn
  rw [hw, Int.toNat_natCast, hx] at hn
  obtain ⟨L, p⟩ := ln
  cases L with
  | nil => exact ⟨w, p, hw, hwn, hx⟩
  | cons e r => cases hn
theorem winv_next {n : Nat} {s s' : WS} (h : WInv n s) (hn : wNext s = some s') : WInv n s' := by
  obtain ⟨w, p, e, r, hw, hwn, hx, rfl, ht⟩ := wnext_some h hn
  have h1 := h.len
  have h2 := h.lo
  have h3 := h.hi
  have h4 := h.used
  have h5 := h.bound
  have h6 := h.out
  simp only at ht
  refine ⟨by simp [h1], ?_, ?_, fun l hl => ?_, ?_, ?_, ?_⟩
  · simp only [turnN]; split
    · exact h2
    · split
      · simp only; split <;> omega
      · exact h2
  · simp only [turnN]; split
    · exact h3
    · split
      · simp only; split <;> omega
      · exact h3
  · rcases List.mem_or_eq_of_mem_set hl with hl | rfl
    · exact h.ok l hl
    · have := h.ok _ (List.mem_of_getElem? hx)
      exact ⟨lowR_sub this.1 (List.sublist_cons_self e r), by have := this.2; simp at this; simp; omega⟩
  · simp only [turnN]; split
    · simp only; omega
    · split
      · simp
      · exact h4
  · simp only [turnN]; split
    · simp only; omega
    · split
      · simp only; omega
      · omega
  · simp only [outN]; split
    · simp; omega
    · omega
theorem walkS_inv {n : Nat} {s : WS} (h : WInv n s) : ∀ k, WInv n (walkS s k)
  | 0 => h
  | k + 1 => by
    have ih := walkS_inv h k
    rw [walkS]
    cases hq : wNext (walkS s k) with
    | none => exact ih
    | some s' => exact winv_next ih hq
theorem walkS_stop {s : WS} {k : Nat} (h : wNext (walkS s k) = none) : ∀ d, walkS s (k + d) = walkS s k
  | 0 => rfl
  | d + 1 => by
    have ih := walkS_stop h d
    rw [← Nat.add_assoc, walkS, ih, h]; rfl
theorem walkS_step {s s' : WS} {k : Nat} (h : wNext (walkS s k) = some s') : walkS s (k + 1) = s' := by rw [walkS, h]; rfl
end Go.Proofs.Ytogappokeheilaa
