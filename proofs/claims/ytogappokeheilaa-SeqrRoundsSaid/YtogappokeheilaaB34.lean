import Derived.Test.YtogappokeheilaaB33
set_option linter.unusedVariables false
set_option linter.unusedSimpArgs false
set_option maxRecDepth 100000
set_option maxHeartbeats 0
namespace Go.Proofs.Ytogappokeheilaa
open Go.Aw

def qNext (s : WS) : Option WS := match s.x[s.t.Who.toNat]? with
  | none => none
  | some ln => if (findF isCtl ln.L).2 = false then none
    else if (findF isCtl ln.L).1.Kind = 3 ∨ (findF isCtl ln.L).1.L = [] then some (qPop s s.t.Who.toNat ln (findF isCtl ln.L).1)
    else match s.x[((findF isCtl ln.L).1.L.headD 0).toNat]? with
      | none => some (qSkip s s.t.Who.toNat ln (findF isCtl ln.L).1)
      | some lc => if (findF isMsg lc.L).2 = false then none
        else match (s.x.set ((findF isCtl ln.L).1.L.headD 0).toNat (popF lc (findF isMsg lc.L).1.Seq))[s.t.Who.toNat]? with
          | none => none
          | some lw => some (qTell s s.t.Who.toNat ((findF isCtl ln.L).1.L.headD 0).toNat lc lw (findF isMsg lc.L).1 (findF isCtl ln.L).1)
theorem tail_may {ln : Lane} {e : Entry} (hr : rightF ln = true) (hf : findF isCtl ln.L = (e, true)) (hk : e.Kind ≠ 3) : mayF (tailE e) = true ∧ tailE e = ⟨e.Kind, e.Seq, e.B, e.L.tail, e.Hand⟩ := by
  obtain ⟨h1, h2, h3, h4⟩ := ctl_facts hr hf
  rcases h4 with h | ⟨h5, h6, h7⟩
  · exact absurd h.1 hk
  · refine ⟨?_, by unfold tailE; rw [h5, h6]⟩
    have h8 : inR e.L.tail = true := by
      unfold inR at h7 ⊢
      rw [List.all_eq_true] at h7 ⊢
      exact fun x hx => h7 x (List.mem_of_mem_tail hx)
    simp [mayF, tailE, h8, h3]
theorem qnext_cases {n : Nat} {s : WS} (h : QInv n s) : (∃ s', qNext s = some s' ∧ QStep s s') ∨ (qNext s = none ∧ QStop s) := by
  obtain ⟨w, hw⟩ : ∃ w : Nat, s.t.Who = w := ⟨s.t.Who.toNat, by have := h.lo; omega⟩
  have hwn : w < n := by have := h.hi; omega
  have hl := h.len
  obtain ⟨ln, hx⟩ : ∃ ln, s.x[w]? = some ln := ⟨_, List.getElem?_eq_getElem (by omega)⟩
  have hr := (h.ok ln (List.mem_of_getElem? hx)).1
  unfold qNext
  rw [hw, Int.toNat_natCast, hx]
  simp only
  cases hf : findF isCtl ln.L with
  | mk e b =>
  cases b with
  | false => exact .inr ⟨by simp, .none s w ln e hw hx hf⟩
  | true =>
    simp only [Bool.true_eq_false, if_false]
    by_cases hk : e.Kind = 3 ∨ e.L = []
    · rw [if_pos hk]
      exact .inl ⟨_, rfl, .pop s w ln e hw hx hf hk⟩
    · rw [if_neg hk]
      obtain ⟨h1, h2, h3, h4⟩ := ctl_facts hr hf
      have hk3 : e.Kind ≠ 3 := fun hh => hk (.inl hh)
      rcases h4 with h4 | ⟨h5, h6, h7⟩
      · exact absurd h4.1 hk3
      · cases hL : e.L with
        | nil => exact absurd (.inr hL) hk
        | cons c0 r =>
          rw [hL] at h7
          have hc0 : 0 ≤ c0 := by
            unfold inR at h7
            simp at h7
            exact h7.1.1
          obtain ⟨c, rfl⟩ : ∃ c : Nat, c0 = c := ⟨c0.toNat, by omega⟩
          simp only [List.headD_cons, Int.toNat_natCast]
          cases hc : s.x[c]? with
          | none =>
            refine .inl ⟨_, rfl, .skip s w c ln e r hw hx hf hk3 hL ?_⟩
            have := List.getElem?_eq_none_iff.1 hc
            omega
          | some lc =>
            simp only
            cases hm : findF isMsg lc.L with
            | mk m b2 =>
            cases b2 with
            | false => exact .inr ⟨by simp, .wait s w c ln lc m e r hw hx hf hk3 hL hc hm⟩
            | true =>
              simp only [Bool.true_eq_false, if_false]
              obtain ⟨lw, hw2⟩ : ∃ lw, (s.x.set c (popF lc m.Seq))[w]? = some lw := ⟨_, List.getElem?_eq_getElem (by rw [List.length_set]; omega)⟩
              rw [hw2]
              exact .inl ⟨_, rfl, .tell s w c ln lc lw m e r hw hx hf hk3 hL hc hm hw2⟩
theorem pop_wgt {ln : Lane} {e : Entry} (h : e ∈ ln.L) : wgt (popF ln e.Seq).L + 1 ≤ wgt ln.L := by
  show wgt (popN e.Seq ln.L ln.L.length) + 1 ≤ wgt ln.L
  rw [popN_all]
  have := wgt_pop h
  omega
theorem wgt_map_le {q : Entry → Bool} {e' : Entry} : ∀ {l : List Entry}, (∀ x ∈ l, q x = true → e'.L.length ≤ x.L.length) → wgt (l.map (fun x => if q x then e' else x)) ≤ wgt l
  | [], _ => by simp [wgt]
  | y :: x, h => by
    have ih := wgt_map_le (q := q) (e' := e') (l := x) fun z hz => h z (by simp [hz])
    rw [List.map_cons]
    simp only [wgt] at ih
    by_cases hy : q y = true
    · have := h y (by simp) hy
      rw [if_pos hy]
      simp [wgt] at ih ⊢; omega
    · rw [if_neg hy]
      simp [wgt] at ih ⊢; omega
theorem okset {x : List Lane} {i : Nat} {b : Lane} {P : Lane → Prop} (h : ∀ l ∈ x, P l) (hb : P b) : ∀ l ∈ x.set i b, P l := fun l hl => by
  rcases List.mem_or_eq_of_mem_set hl with hl | rfl
  · exact h l hl
  · exact hb
theorem qstep_inv {n : Nat} {s s' : WS} (h : QInv n s) (hs : QStep s s') : QInv n s' ∧ mu s'.x + 1 ≤ mu s.x := by
  have g1 := h.len
  have g2 := h.lo
  have g3 := h.hi
  have g4 := h.used
  have g5 := h.bound
  have g6 := h.out
  cases hs with
  | pop w ln e hw hx hf hk =>
    obtain ⟨hr, hl⟩ := h.ok ln (List.mem_of_getElem? hx)
    obtain ⟨h1, h2, h3, h4⟩ := ctl_facts hr hf
    have hpw := pop_wgt h1
    have hms := mu_set s.x w ln (popF ln e.Seq) hx
    have hmu : mu (qPop s w ln e).x + 1 ≤ mu s.x := by show mu (s.x.set w (popF ln e.Seq)) + 1 ≤ mu s.x; omega
    have hx2 : (qPop s w ln e).x = s.x.set w (popF ln e.Seq) := rfl
    have ho2 : (qPop s w ln e).o = s.o := rfl
    have ht2 : (qPop s w ln e).t = if e.Hand then nextT s.t s.x.length else s.t := rfl
    refine ⟨⟨by rw [hx2, List.length_set]; exact g1, ?_, ?_, h.n64, ?_, ?_, ?_, by rw [ho2]; omega⟩, hmu⟩
    · rw [ht2]; split
      · simp only [nextT]; split <;> omega
      · exact g2
    · rw [ht2]; split
      · simp only [nextT]; split <;> omega
      · exact g3
    · rw [hx2]
      exact okset h.ok ⟨right_pop hr, Nat.le_trans (popN_le _ _ _) hl⟩
    · rw [ht2]; split
      · simp [nextT]
      · exact g4
    · rw [ht2]; split
      · simp only [nextT]; omega
      · omega
  | skip w c ln e r hw hx hf hk hl hc =>
    obtain ⟨hr, hll⟩ := h.ok ln (List.mem_of_getElem? hx)
    obtain ⟨h1, h2, h3, h4⟩ := ctl_facts hr hf
    obtain ⟨t1, t2⟩ := tail_may hr hf hk
    have hp := (lowR_all ((right_iff ln).1 hr).1).1
    have hwg : wgt (setF ln (tailE e)).L + 1 = wgt ln.L := by
      unfold setF; rw [if_pos t1]
      show wgt (setN (tailE e) ln.L ln.L.length) + 1 = wgt ln.L
      rw [setN_all]
      have := wgt_set (e' := tailE e) hp h1
      have e1 : (tailE e).L.length = r.length := by unfold tailE; rw [hl]; rfl
      rw [e1, hl, List.length_cons] at this
      show wgt (ln.L.map (fun x => if seqP e.Seq x then tailE e else x)) + 1 = wgt ln.L
      omega
    have hms := mu_set s.x w ln (setF ln (tailE e)) hx
    have hx2 : (qSkip s w ln e).x = s.x.set w (setF ln (tailE e)) := rfl
    have hmu : mu (qSkip s w ln e).x + 1 ≤ mu s.x := by rw [hx2]; omega
    refine ⟨⟨by rw [hx2, List.length_set]; exact g1, g2, g3, h.n64, ?_, g4, ?_, ?_⟩, hmu⟩
    · rw [hx2]
      exact okset h.ok ⟨right_set hr, by rw [set_len]; exact hll⟩
    · show s.t.Used + _ ≤ _; omega
    · show s.o.length + _ ≤ _; omega
  | tell w c ln lc lw m e r hw hx hf hk hl hc hm hw2 =>
    obtain ⟨hr, hll⟩ := h.ok ln (List.mem_of_getElem? hx)
    obtain ⟨hrc, hlc⟩ := h.ok lc (List.mem_of_getElem? hc)
    obtain ⟨h1, h2, h3, h4⟩ := ctl_facts hr hf
    obtain ⟨t1, t2⟩ := tail_may hr hf hk
    have hmm := List.mem_of_find?_eq_some (find_some hm)
    have hpw := pop_wgt hmm
    have hms := mu_set s.x c lc (popF lc m.Seq) hc
    have ok1 := okset (i := c) h.ok (⟨right_pop (n := m.Seq) hrc, Nat.le_trans (popN_le _ _ _) hlc⟩ : rightF (popF lc m.Seq) = true ∧ (popF lc m.Seq).L.length ≤ 100)
    obtain ⟨hrw, hlw⟩ := ok1 lw (List.mem_of_getElem? hw2)
    have hsub : ∀ x ∈ lw.L, x ∈ ln.L := by
      by_cases hcw : c = w
      · subst hcw
        have hlt := (List.getElem?_eq_some_iff.1 hx).1
        rw [List.getElem?_set_self hlt] at hw2
        rw [hx] at hc
        cases hc
        cases hw2
        intro x hx'
        have hx'' : x ∈ popN m.Seq ln.L ln.L.length := hx'
        rw [popN_all] at hx''
        exact (List.mem_filter.1 hx'').1
      · rw [List.getElem?_set_ne hcw, hx] at hw2
        cases hw2
        exact fun x hx => hx
    have inj := seq_inj (lowR_all ((right_iff ln).1 hr).1).1
    have hwg : wgt (setF lw (tailE e)).L ≤ wgt lw.L := by
      unfold setF; rw [if_pos t1]
      show wgt (setN (tailE e) lw.L lw.L.length) ≤ wgt lw.L
      rw [setN_all]
      refine wgt_map_le fun x hx hq => ?_
      have hxe : x.Seq = e.Seq := of_decide_eq_true hq
      have := inj x (hsub x hx) e h1 hxe
      rw [this]
      unfold tailE; simp
    have hms2 := mu_set (s.x.set c (popF lc m.Seq)) w lw (setF lw (tailE e)) hw2
    have hx2 : (qTell s w c lc lw m e).x = (s.x.set c (popF lc m.Seq)).set w (setF lw (tailE e)) := rfl
    have hmu : mu (qTell s w c lc lw m e).x + 1 ≤ mu s.x := by rw [hx2]; omega
    refine ⟨⟨by rw [hx2, List.length_set, List.length_set]; exact g1, g2, g3, h.n64, ?_, ?_, ?_, ?_⟩, hmu⟩
    · rw [hx2]
      exact okset ok1 ⟨right_set hrw, by rw [set_len]; exact hlw⟩
    · show 0 ≤ s.t.Used + 1; omega
    · show s.t.Used + 1 + _ ≤ _; omega
    · show (s.o ++ [_]).length + _ ≤ _; rw [List.length_append]; simp only [List.length_cons, List.length_nil]; omega
def walkQ (s : WS) : Nat → WS
  | 0 => s
  | k + 1 => (qNext (walkQ s k)).getD (walkQ s k)
def walkG (t : Turn) (l : List Lane) : WS := walkQ ⟨t, l, []⟩ (mu l)
theorem walkQ_inv {n : Nat} {s : WS} (h : QInv n s) : ∀ k, QInv n (walkQ s k)
  | 0 => h
  | k + 1 => by
    have ih := walkQ_inv h k
    rw [walkQ]
    rcases qnext_cases ih with ⟨s', h1, h2⟩ | ⟨h1, _⟩
    · rw [h1]; exact (qstep_inv ih h2).1
    · rw [h1]; exact ih
theorem walkQ_stop {s : WS} {k : Nat} (h : qNext (walkQ s k) = none) : ∀ d, walkQ s (k + d) = walkQ s k
  | 0 => rfl
  | d + 1 => by
    have ih := walkQ_stop h d
    rw [← Nat.add_assoc, walkQ, ih, h]; rfl
theorem walkQ_step {s s' : WS} {k : Nat} (h : qNext (walkQ s k) = some s') : walkQ s (k + 1) = s' := by rw [walkQ, h]; rfl
end Go.Proofs.Ytogappokeheilaa
