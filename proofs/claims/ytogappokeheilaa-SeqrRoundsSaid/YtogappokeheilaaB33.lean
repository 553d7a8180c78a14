import Derived.Test.YtogappokeheilaaB28
import Derived.Test.YtogappokeheilaaB23
set_option linter.unusedVariables false
set_option linter.unusedSimpArgs false
set_option maxRecDepth 100000
set_option maxHeartbeats 0
namespace Go.Proofs.Ytogappokeheilaa
open Go.Aw

/-! The sequencer's walk, step by step. -/
def tailE (e : Entry) : Entry := ⟨2, e.Seq, [], e.L.tail, e.Hand⟩
def nextT (t : Turn) (n : Nat) : Turn := ⟨if t.Who + 1 = n then 0 else t.Who + 1, 0⟩
def qPop (s : WS) (w : Nat) (ln : Lane) (e : Entry) : WS := ⟨if e.Hand then nextT s.t s.x.length else s.t, s.x.set w (popF ln e.Seq), s.o⟩
def qSkip (s : WS) (w : Nat) (ln : Lane) (e : Entry) : WS := ⟨s.t, s.x.set w (setF ln (tailE e)), s.o⟩
def qTell (s : WS) (w c : Nat) (lc lw : Lane) (m e : Entry) : WS := ⟨⟨s.t.Who, s.t.Used + 1⟩, (s.x.set c (popF lc m.Seq)).set w (setF lw (tailE e)), s.o ++ [⟨c, m.B⟩]⟩
/-- A step. -/
inductive QStep : WS → WS → Prop
  | pop (s : WS) (w : Nat) (ln : Lane) (e : Entry) (hw : s.t.Who = w) (hx : s.x[w]? = some ln) (hf : findF isCtl ln.L = (e, true)) (hk : e.Kind = 3 ∨ e.L = []) : QStep s (qPop s w ln e)
  | skip (s : WS) (w c : Nat) (ln : Lane) (e : Entry) (r : List Int) (hw : s.t.Who = w) (hx : s.x[w]? = some ln) (hf : findF isCtl ln.L = (e, true)) (hk : e.Kind ≠ 3) (hl : e.L = (c : Int) :: r) (hc : ¬ c < s.x.length) : QStep s (qSkip s w ln e)
  | tell (s : WS) (w c : Nat) (ln lc lw : Lane) (m e : Entry) (r : List Int) (hw : s.t.Who = w) (hx : s.x[w]? = some ln) (hf : findF isCtl ln.L = (e, true)) (hk : e.Kind ≠ 3) (hl : e.L = (c : Int) :: r) (hc : s.x[c]? = some lc)
      (hm : findF isMsg lc.L = (m, true)) (hw2 : (s.x.set c (popF lc m.Seq))[w]? = some lw) : QStep s (qTell s w c lc lw m e)
/-- No step. -/
inductive QStop : WS → Prop
  | none (s : WS) (w : Nat) (ln : Lane) (e : Entry) (hw : s.t.Who = w) (hx : s.x[w]? = some ln) (hf : findF isCtl ln.L = (e, false)) : QStop s
  | wait (s : WS) (w c : Nat) (ln lc : Lane) (m e : Entry) (r : List Int) (hw : s.t.Who = w) (hx : s.x[w]? = some ln) (hf : findF isCtl ln.L = (e, true)) (hk : e.Kind ≠ 3) (hl : e.L = (c : Int) :: r) (hc : s.x[c]? = some lc)
      (hm : findF isMsg lc.L = (m, false)) : QStop s
def wgt (l : List Entry) : Nat := (l.map fun e => 1 + e.L.length).sum
def mu (x : List Lane) : Nat := (x.map fun l => wgt l.L).sum
theorem mu_set : ∀ (x : List Lane) (i : Nat) (a b : Lane), x[i]? = some a → mu (x.set i b) + wgt a.L = mu x + wgt b.L
  | [], i, a, b, h => by simp at h
  | y :: x, 0, a, b, h => by
    simp at h; subst h
    simp [mu]; omega
  | y :: x, i + 1, a, b, h => by
    have ih := mu_set x i a b (by simpa using h)
    simp only [mu] at ih
    simp only [mu, List.set_cons_succ, List.map_cons, List.sum_cons]; omega
theorem wgt_le : ∀ (l : List Entry), (∀ e ∈ l, e.L.length ≤ 80) → wgt l ≤ 81 * l.length
  | [], _ => by simp [wgt]
  | y :: x, h => by
    have ih := wgt_le x fun l hl => h l (by simp [hl])
    have h1 := h y (by simp)
    simp only [wgt] at ih
    simp [wgt]; omega
theorem mu_le : ∀ (x : List Lane), (∀ l ∈ x, wgt l.L ≤ 6480) → mu x ≤ 6480 * x.length
  | [], _ => by simp [mu]
  | y :: x, h => by
    have ih := mu_le x fun l hl => h l (by simp [hl])
    have h1 := h y (by simp)
    simp only [mu] at ih
    simp [mu]; omega
theorem wgt_filter (p : Entry → Bool) : ∀ (l : List Entry), wgt (l.filter p) ≤ wgt l
  | [] => by simp [wgt]
  | y :: x => by
    have ih := wgt_filter p x
    simp only [wgt] at ih
    rw [List.filter_cons]
    split <;> simp [wgt] <;> omega
theorem wgt_pop {e : Entry} : ∀ {l : List Entry}, e ∈ l → wgt (l.filter (fun x => !seqP e.Seq x)) + 1 + e.L.length ≤ wgt l
  | [], h => by cases h
  | y :: x, h => by
    have hf := wgt_filter (fun x => !seqP e.Seq x) x
    rw [List.filter_cons]
    by_cases hy : seqP e.Seq y = true
    · simp only [hy, Bool.not_true, Bool.false_eq_true, if_false]
      rcases List.mem_cons.1 h with rfl | h
      · simp only [wgt] at hf
        simp [wgt]; omega
      · have ih := wgt_pop h
        simp only [wgt] at ih
        simp [wgt]; omega
    · simp only [hy, Bool.not_false, if_true]
      rcases List.mem_cons.1 h with rfl | h
      · exact absurd (decide_eq_true rfl) hy
      · have ih := wgt_pop h
        simp only [wgt] at ih
        simp [wgt]; omega
theorem map_same {q : Entry → Bool} {e' : Entry} : ∀ {l : List Entry}, (∀ x ∈ l, q x = false) → l.map (fun x => if q x then e' else x) = l
  | [], _ => rfl
  | x :: r, h => by
    rw [List.map_cons, map_same fun y hy => h y (by simp [hy]), h x (by simp)]; rfl
theorem wgt_set {e e' : Entry} : ∀ {l : List Entry}, (l.map (·.Seq)).Pairwise (· < ·) → e ∈ l → wgt (l.map (fun x => if seqP e.Seq x then e' else x)) + e.L.length = wgt l + e'.L.length
  | [], _, h => by cases h
  | y :: x, hp, h => by
    have inj := seq_inj hp
    rw [List.map_cons, List.pairwise_cons] at hp
    rw [List.map_cons]
    rcases List.mem_cons.1 h with rfl | h
    · have hn : ∀ z ∈ x, seqP e.Seq z = false := fun z hz => by
        have := hp.1 z.Seq (List.mem_map.2 ⟨z, hz, rfl⟩)
        exact decide_eq_false (by omega)
      have hee : seqP e.Seq e = true := decide_eq_true rfl
      rw [map_same hn, if_pos hee]
      simp [wgt]; omega
    · have hy : seqP e.Seq y = false := decide_eq_false fun hh => by
        have := hp.1 e.Seq (List.mem_map.2 ⟨e, h, rfl⟩)
        omega
      have ih := wgt_set (e' := e') hp.2 h
      rw [hy]
      simp only [wgt] at ih
      simp [wgt] at ih ⊢; omega
structure QInv (n : Nat) (s : WS) : Prop where
  len : s.x.length = n
  lo : 0 ≤ s.t.Who
  hi : s.t.Who < n
  n64 : n ≤ 64
  ok : ∀ l ∈ s.x, rightF l = true ∧ l.L.length ≤ 100
  used : 0 ≤ s.t.Used
  bound : s.t.Used + mu s.x ≤ 2305843009213693952
  out : s.o.length + mu s.x ≤ 500000
theorem qinv_start {t : Turn} {l : List Lane} (h : mayT t l = true) : QInv l.length ⟨t, l, []⟩ := by
  have h0 := h
  obtain ⟨w1, w2, w3⟩ := winv_start h
  unfold mayT lanesF at h
  simp only [Bool.and_eq_true, decide_eq_true_eq, List.all_eq_true] at h
  obtain ⟨⟨h1, h2⟩, h3, h4, h5, h6, h7⟩ := h
  have hg : ∀ x ∈ l, fewF x = true ∧ rightF x = true := fun x hx => by
    have := h2 x hx
    unfold goodL at this
    rwa [Bool.and_eq_true] at this
  have hw : ∀ x ∈ l, wgt x.L ≤ 6480 := fun x hx => by
    have hf := (hg x hx).1
    have hl := (few_len hf).1
    unfold fewF at hf
    simp only [Bool.and_eq_true, decide_eq_true_eq, List.all_eq_true] at hf
    have := wgt_le x.L fun e he => (hf.2 e he).1
    omega
  have hm := mu_le l hw
  exact ⟨rfl, h4, h5, w3, fun x hx => ⟨(hg x hx).2, Nat.le_trans (few_len (hg x hx).1).1 (by omega)⟩, h6, by simp only; omega, by simp; omega⟩
theorem ctl_facts {ln : Lane} {e : Entry} (hr : rightF ln = true) (hf : findF isCtl ln.L = (e, true)) :
    e ∈ ln.L ∧ mayF e = true ∧ 1 ≤ e.Seq ∧ ((e.Kind = 3 ∧ e.Hand = false ∧ e.L = [] ∧ e.B = []) ∨ (e.Kind = 2 ∧ e.B = [] ∧ inR e.L = true)) := by
  have h1 := find_some hf
  have hmem := List.mem_of_find?_eq_some h1
  have hc := List.find?_some h1
  have hm := ((lowR_all ((right_iff ln).1 hr).1).2 e hmem).2
  refine ⟨hmem, hm, may_pos hm, ?_⟩
  have hc1 : e.Kind ≠ 1 := by simpa [isCtl] using hc
  unfold mayF at hm
  rw [Bool.and_eq_true, Bool.and_eq_true] at hm
  obtain ⟨⟨_, h2⟩, h3⟩ := hm
  rw [if_neg hc1] at h3
  by_cases hk2 : e.Kind = 2
  · rw [if_pos hk2] at h3
    exact .inr ⟨hk2, List.isEmpty_iff.1 h3, h2⟩
  · rw [if_neg hk2] at h3
    by_cases hk3 : e.Kind = 3
    · rw [if_pos hk3] at h3
      simp at h3
      exact .inl ⟨hk3, h3.2, h3.1.2, h3.1.1⟩
    · rw [if_neg hk3] at h3; cases h3
end Go.Proofs.Ytogappokeheilaa
