import Derived.Test.YtogappokeheilaaB52
import Derived.Test.YtogappokeheilaaB51
import Derived.Test.YtogappokeheilaaB48
set_option linter.unusedVariables false
set_option linter.unusedSimpArgs false
set_option maxRecDepth 100000
set_option maxHeartbeats 0
namespace Go.Proofs.Ytogappokeheilaa
open Go.Aw

/-! What is said, read and walked. -/
theorem find_of {p : Entry → Bool} {l : List Entry} {e : Entry} (h : l.find? p = some e) : findF p l = (e, true) := by unfold findF; rw [h]
theorem find_no {p : Entry → Bool} {l : List Entry} (h : ∀ x ∈ l, p x = false) : (findF p l).2 = false := by
  unfold findF
  rw [List.find?_eq_none.2 fun x hx => by rw [h x hx]; simp]
theorem find_filter {p q : Entry → Bool} : ∀ {l : List Entry}, (∀ x ∈ l, p x = true → q x = true) → (l.filter q).find? p = l.find? p
  | [], _ => rfl
  | y :: r, h => by
    have ih := find_filter (p := p) (q := q) (l := r) fun x hx => h x (by simp [hx])
    by_cases hp : p y = true
    · rw [List.filter_cons_of_pos (h y (by simp) hp), List.find?_cons_of_pos hp, List.find?_cons_of_pos hp]
    · rw [List.find?_cons_of_neg hp]
      by_cases hq : q y = true
      · rw [List.filter_cons_of_pos hq, List.find?_cons_of_neg hp, ih]
      · rw [List.filter_cons_of_neg hq, ih]
theorem find_put {e e' : Entry} (hc : isCtl e' = true) : ∀ {l : List Entry}, (l.map (·.Seq)).Pairwise (· < ·) → l.find? isCtl = some e → (l.map fun x => if seqP e.Seq x then e' else x).find? isCtl = some e'
  | [], _, h => by cases h
  | y :: r, hp, h => by
    rw [List.map_cons, List.pairwise_cons] at hp
    rw [List.map_cons]
    by_cases hy : isCtl y = true
    · rw [List.find?_cons_of_pos hy] at h
      obtain rfl : y = e := Option.some.inj h
      have : seqP y.Seq y = true := decide_eq_true rfl
      rw [if_pos this, List.find?_cons_of_pos hc]
    · rw [List.find?_cons_of_neg hy] at h
      have hmem := List.mem_of_find?_eq_some h
      have hn : seqP e.Seq y = false := decide_eq_false (by have := hp.1 e.Seq (List.mem_map.2 ⟨e, hmem, rfl⟩); omega)
      rw [hn, if_neg (by simp), List.find?_cons_of_neg hy]
      exact find_put hc hp.2 h
theorem msg_some {l : List Entry} (h : 1 ≤ manyL l) : ∃ m, findF isMsg l = (m, true) := by
  cases hq : l.find? isMsg with
  | some m => exact ⟨m, find_of hq⟩
  | none =>
    have := List.find?_eq_none.1 hq
    unfold manyL at h
    rw [List.filter_eq_nil_iff.2 this] at h
    simp at h
theorem wait_count {l : List Lane} {me : Nat} (hme : me < l.length) (c : Nat) : ∀ k, k ≤ l.length →
    (((waitL l me k).filter fun v => decide (v = (c : Int))).length = 0 ∨ ∃ j, j < k ∧ (me + j) % l.length = c) ∧ ((waitL l me k).filter fun v => decide (v = (c : Int))).length ≤ manyL (l.getD c zeroL).L
  | 0, _ => by simp [waitL]
  | k + 1, hk => by
    obtain ⟨h1, h2⟩ := wait_count hme c k (by omega)
    rw [waitL, List.filter_append, List.length_append]
    by_cases hc : (me + k) % l.length = c
    · have h0 : ((waitL l me k).filter fun v => decide (v = (c : Int))).length = 0 := by
        rcases h1 with h | ⟨j, hj, hjc⟩
        · exact h
        · have a := rnd_mod hme (show j < l.length by omega)
          have b := rnd_mod hme (show k < l.length by omega)
          rw [hjc] at a; rw [hc] at b
          omega
      refine ⟨.inr ⟨k, by omega, hc⟩, ?_⟩
      rw [h0, hc]
      have := List.length_filter_le (fun v => decide (v = (c : Int))) (List.replicate (manyL (l.getD c zeroL).L) (c : Int))
      rw [List.length_replicate] at this
      omega
    · have h0 : ((List.replicate (manyL (l.getD ((me + k) % l.length) zeroL).L) (((me + k) % l.length : Nat) : Int)).filter fun v => decide (v = (c : Int))) = [] := by
        rw [List.filter_eq_nil_iff]
        intro v hv
        have hne : ¬ ((((me + k) % l.length : Nat) : Int) = (c : Int)) := fun h => hc (Int.ofNat.inj h)
        rw [List.eq_of_mem_replicate hv, decide_eq_false hne]; simp
      rw [h0]
      refine ⟨?_, by simpa using h2⟩
      rcases h1 with h | ⟨j, hj, hjc⟩
      · exact .inl (by simpa using h)
      · exact .inr ⟨j, by omega, hjc⟩
theorem mu_start {t : Turn} {l : List Lane} (h : mayT t l = true) : mu l ≤ 414720 := by
  obtain ⟨_, _, w3⟩ := winv_start h
  unfold mayT lanesF at h
  simp only [Bool.and_eq_true, List.all_eq_true] at h
  have hw : ∀ x ∈ l, wgt x.L ≤ 6480 := fun x hx => by
    have hf := h.1.2 x hx
    unfold goodL at hf
    rw [Bool.and_eq_true] at hf
    have hf := hf.1
    have hl := (few_len hf).1
    unfold fewF at hf
    simp only [Bool.and_eq_true, decide_eq_true_eq, List.all_eq_true] at hf
    have := wgt_le x.L fun e he => (hf.2 e he).1
    omega
  have := mu_le l hw
  omega
theorem walkQ_add (s : WS) (a : Nat) : ∀ b, walkQ s (a + b) = walkQ (walkQ s a) b
  | 0 => rfl
  | b + 1 => by rw [← Nat.add_assoc, walkQ, walkQ_add s a b]; rfl
/-- Deliveries are only added; no lane grows. -/
theorem grow_step {s s' : WS} {n : Nat} (hi : QInv n s) (hs : QStep s s') : (∃ o, s'.o = s.o ++ o) ∧ ∀ (i : Nat) (a b : Lane), s.x[i]? = some a → s'.x[i]? = some b → b.L.length ≤ a.L.length := by
  cases hs with
  | pop w ln e hw hx hf hk =>
    refine ⟨⟨[], by rw [List.append_nil]; rfl⟩, fun i a b ha hb => ?_⟩
    rcases setL_get hb with ⟨rfl, rfl⟩ | ⟨_, hb⟩
    · rw [hx] at ha; cases ha; exact popN_le _ _ _
    · rw [ha] at hb; cases hb; exact Nat.le_refl _
  | skip w c ln e r hw hx hf hk hl hc =>
    refine ⟨⟨[], by rw [List.append_nil]; rfl⟩, fun i a b ha hb => ?_⟩
    rcases setL_get hb with ⟨rfl, rfl⟩ | ⟨_, hb⟩
    · rw [hx] at ha; cases ha; rw [set_len]; exact Nat.le_refl _
    · rw [ha] at hb; cases hb; exact Nat.le_refl _
  | tell w c ln lc lw m e r hw hx hf hk hl hc hm hw2 =>
    refine ⟨⟨[_], rfl⟩, fun i a b ha hb => ?_⟩
    have mid : ∀ (i : Nat) (a b : Lane), s.x[i]? = some a → (s.x.set c (popF lc m.Seq))[i]? = some b → b.L.length ≤ a.L.length := fun i a b ha hb => by
      rcases setL_get hb with ⟨rfl, rfl⟩ | ⟨_, hb⟩
      · rw [hc] at ha; cases ha; exact popN_le _ _ _
      · rw [ha] at hb; cases hb; exact Nat.le_refl _
    rcases setL_get hb with ⟨rfl, rfl⟩ | ⟨_, hb⟩
    · rw [set_len]; exact mid i a lw ha hw2
    · exact mid i a b ha hb
theorem grow_walk {s : WS} {n : Nat} (hi : QInv n s) : ∀ k, (∃ o, (walkQ s k).o = s.o ++ o) ∧ ∀ (i : Nat) (a b : Lane), s.x[i]? = some a → (walkQ s k).x[i]? = some b → b.L.length ≤ a.L.length
  | 0 => ⟨⟨[], (List.append_nil _).symm⟩, fun i a b ha hb => by rw [walkQ] at hb; rw [ha] at hb; cases hb; exact Nat.le_refl _⟩
  | k + 1 => by
    obtain ⟨⟨o, ho⟩, hx⟩ := grow_walk hi k
    have hI := walkQ_inv hi k
    rw [walkQ]
    rcases qnext_cases hI with ⟨s', h1, h2⟩ | ⟨h1, _⟩
    · rw [h1]
      simp only [Option.getD_some]
      obtain ⟨⟨o2, ho2⟩, hx2⟩ := grow_step hI h2
      refine ⟨⟨o ++ o2, by rw [ho2, ho, List.append_assoc]⟩, fun i a b ha hb => ?_⟩
      have hl := hI.len
      have hl2 := (qstep_inv hI h2).1.len
      have hlt := (List.getElem?_eq_some_iff.1 hb).1
      obtain ⟨m, hm⟩ : ∃ m, (walkQ s k).x[i]? = some m := ⟨_, List.getElem?_eq_getElem (by omega)⟩
      exact Nat.le_trans (hx2 i m b hm hb) (hx i a m ha hm)
    · rw [h1]; exact ⟨⟨o, ho⟩, hx⟩
structure SaidInv (w : Nat) (u S : Int) (V : List Int) (hd : Bool) (x0 : List Lane) (j : Nat) (s : WS) : Prop where
  t : s.t = ⟨w, u + j⟩
  o : s.o.map (·.From) = V.take j
  ln : ∃ ln, s.x[w]? = some ln ∧ findF isCtl ln.L = (⟨2, S, [], V.drop j, hd⟩, true) ∧ ∀ x ∈ ln.L, isCtl x = true → x.Seq = S
  mu : mu s.x + j ≤ mu x0
theorem said_step {n w : Nat} {u S : Int} {V : List Int} {hd : Bool} {x0 : List Lane} {j : Nat} {s : WS} (hi : QInv n s) (k : KInv x0 s) (h : SaidInv w u S V hd x0 j s) (hj : j < V.length)
    (hV : ∀ v ∈ V, ∃ i : Nat, v = i ∧ i < n) (hcnt : ∀ (c : Nat) (a : Lane), x0[c]? = some a → (V.filter fun v => decide (v = (c : Int))).length ≤ manyL a.L) : ∃ s', qNext s = some s' ∧ QStep s s' ∧ SaidInv w u S V hd x0 (j + 1) s' := by
  obtain ⟨ht, ho, ⟨ln, hx, hf, hone⟩, hmu⟩ := h
  have hw : s.t.Who = w := by rw [ht]
  obtain ⟨v, hv⟩ : ∃ v, V[j]? = some v := ⟨_, List.getElem?_eq_getElem hj⟩
  obtain ⟨c, rfl, hcn⟩ := hV v (List.mem_of_getElem? hv)
  have hdr : V.drop j = (c : Int) :: V.drop (j + 1) := by rw [List.drop_eq_getElem_cons hj, (List.getElem?_eq_some_iff.1 hv).2]
  have hl := hi.len
  have hkl := k.len
  obtain ⟨lc, hc⟩ : ∃ lc, s.x[c]? = some lc := ⟨_, List.getElem?_eq_getElem (by omega)⟩
  obtain ⟨a, ha⟩ : ∃ a, x0[c]? = some a := ⟨_, List.getElem?_eq_getElem (by omega)⟩
  have hm1 : 1 ≤ manyL lc.L := by
    have h1 := congrArg List.length (k.get c a lc ha hc)
    rw [List.length_append, msgB_len, msgB_len] at h1
    have h2 : (outB s.o c).length = ((V.take j).filter fun v => decide (v = (c : Int))).length := by
      unfold outB
      rw [List.length_map, ← ho, List.filter_map, List.length_map]; rfl
    have h3 := hcnt c a ha
    have h4 : V = V.take j ++ (c : Int) :: V.drop (j + 1) := by rw [← hdr, List.take_append_drop]
    rw [h4, List.filter_append, List.length_append, List.filter_cons_of_pos (by simp), List.length_cons] at h3
    omega
  obtain ⟨m, hm⟩ := msg_some hm1
  obtain ⟨lw, hw2⟩ : ∃ lw, (s.x.set c (popF lc m.Seq))[w]? = some lw := ⟨_, List.getElem?_eq_getElem (by rw [List.length_set]; exact (List.getElem?_eq_some_iff.1 hx).1)⟩
  have hstep : QStep s (qTell s w c lc lw m ⟨2, S, [], V.drop j, hd⟩) := .tell s w c ln lc lw m _ (V.drop (j + 1)) hw hx hf (show (2 : Int) ≠ 3 by decide) hdr hc hm hw2
  have hnext : qNext s = some (qTell s w c lc lw m ⟨2, S, [], V.drop j, hd⟩) := by
    have hne : ¬ ((2 : Int) = 3 ∨ V.drop j = []) := by rw [hdr]; simp
    unfold qNext
    simp only [hw, Int.toNat_natCast, hx, hf, Bool.true_eq_false, if_false]
    rw [if_neg hne]
    simp only [hdr, List.headD_cons, Int.toNat_natCast, hc, hm, Bool.true_eq_false, if_false, hw2]
  obtain ⟨hr, _⟩ := hi.ok ln (List.mem_of_getElem? hx)
  obtain ⟨hrc, _⟩ := hi.ok lc (List.mem_of_getElem? hc)
  obtain ⟨t1, t2⟩ := tail_may hr hf (show (2 : Int) ≠ 3 by decide)
  have hp := (lowR_all ((right_iff ln).1 hr).1).1
  have hpc := (lowR_all ((right_iff lc).1 hrc).1).1
  have hmm := List.find?_some (find_some hm)
  have hmem := List.mem_of_find?_eq_some (find_some hm)
  -- lane w ahead of the set
  have hlw : lw.L.find? isCtl = some ⟨2, S, [], V.drop j, hd⟩ ∧ (lw.L.map (·.Seq)).Pairwise (· < ·) ∧ ∀ x ∈ lw.L, x ∈ ln.L := by
    rcases setL_get hw2 with ⟨rfl, rfl⟩ | ⟨hne, hw2⟩
    · rw [hx] at hc; cases hc
      have hpe : (popF ln m.Seq).L = ln.L.filter fun e => !seqP m.Seq e := popN_all _ _
      rw [hpe]
      refine ⟨?_, hp.sublist (List.Sublist.map _ List.filter_sublist), fun x hx => (List.mem_filter.1 hx).1⟩
      rw [find_filter fun x hx' hcx => ?_]
      · exact find_some hf
      · have : ¬ x.Seq = m.Seq := fun hh => by
          have := seq_inj hpc x hx' m hmem hh
          rw [this] at hcx
          rw [ctl_nm hcx] at hmm; cases hmm
        simp [seqP, this]
    · rw [hx] at hw2; cases hw2
      exact ⟨find_some hf, hp, fun x h => h⟩
  have hset : (setF lw (tailE ⟨2, S, [], V.drop j, hd⟩)).L = lw.L.map fun x => if seqP S x then tailE ⟨2, S, [], V.drop j, hd⟩ else x := by
    unfold setF; rw [if_pos t1]
    exact setN_all _ _
  have hte : tailE ⟨2, S, [], V.drop j, hd⟩ = ⟨2, S, [], V.drop (j + 1), hd⟩ := by unfold tailE; simp only [hdr, List.tail_cons]
  refine ⟨_, hnext, hstep, ?_, ?_, ⟨setF lw (tailE ⟨2, S, [], V.drop j, hd⟩), ?_, ?_, fun x hx' hcx => ?_⟩, ?_⟩
  · show (⟨s.t.Who, s.t.Used + 1⟩ : Turn) = _
    rw [ht]; simp only [Turn.mk.injEq, true_and]; omega
  · show (s.o ++ ([⟨c, m.B⟩] : List Deliv)).map (fun d : Deliv => d.From) = _
    rw [List.map_append, ho, List.take_add_one, hv]; rfl
  · show ((s.x.set c (popF lc m.Seq)).set w _)[w]? = _
    rw [List.getElem?_set_self (by rw [List.length_set]; exact (List.getElem?_eq_some_iff.1 hx).1)]
  · rw [hset, ← hte]
    exact find_of (find_put (e := ⟨2, S, [], V.drop j, hd⟩) (e' := tailE ⟨2, S, [], V.drop j, hd⟩) (by simp [isCtl, tailE]) hlw.2.1 hlw.1)
  · rw [hset] at hx'
    obtain ⟨y, hy, rfl⟩ := List.mem_map.1 hx'
    by_cases hs : seqP S y = true
    · rw [if_pos hs]; rfl
    · rw [if_neg hs] at hcx ⊢; exact hone y (hlw.2.2 y hy) hcx
  · have := (qstep_inv hi hstep).2
    omega
theorem said_walk {n w : Nat} {u S : Int} {V : List Int} {hd : Bool} {t : Turn} {x0 : List Lane} (hi : QInv n ⟨t, x0, []⟩) (h0 : SaidInv w u S V hd x0 0 ⟨t, x0, []⟩)
    (hV : ∀ v ∈ V, ∃ i : Nat, v = i ∧ i < n) (hcnt : ∀ (c : Nat) (a : Lane), x0[c]? = some a → (V.filter fun v => decide (v = (c : Int))).length ≤ manyL a.L) :
    ∀ j, j ≤ V.length → SaidInv w u S V hd x0 j (walkQ ⟨t, x0, []⟩ j)
  | 0, _ => h0
  | j + 1, hj => by
    have ih := said_walk hi h0 hV hcnt j (by omega)
    obtain ⟨s', h1, _, h3⟩ := said_step (walkQ_inv hi j) (kinv_walkQ hi (kinv_start t x0) j) ih (by omega) hV hcnt
    rw [walkQ_step h1]; exact h3
/-- What becomes of an order that is read as the last entry of the lane whose turn it is. -/
theorem said_end {n w : Nat} {u S : Int} {V : List Int} {hd : Bool} {t : Turn} {x0 : List Lane} (hi : QInv n ⟨t, x0, []⟩) (h0 : SaidInv w u S V hd x0 0 ⟨t, x0, []⟩)
    (hV : ∀ v ∈ V, ∃ i : Nat, v = i ∧ i < n) (hcnt : ∀ (c : Nat) (a : Lane), x0[c]? = some a → (V.filter fun v => decide (v = (c : Int))).length ≤ manyL a.L) :
    (∀ i, i < V.length → ∃ d, (walkG t x0).o[i]? = some d ∧ V[i]? = some d.From) ∧ V.length ≤ (walkG t x0).o.length ∧
    (hd = true → ∃ a b, x0[w]? = some a ∧ (walkG t x0).x[w]? = some b ∧ b.L.length < a.L.length) ∧
    (hd = false → (walkG t x0).o.length = V.length ∧ (walkG t x0).t = ⟨w, u + V.length⟩) := by
  have h := said_walk hi h0 hV hcnt V.length (Nat.le_refl _)
  have hI := walkQ_inv hi V.length
  have hK := kinv_walkQ hi (kinv_start t x0) V.length
  generalize hs : walkQ ⟨t, x0, []⟩ V.length = s at *
  obtain ⟨ht, ho, ⟨ln, hx, hf, hone⟩, hmu⟩ := h
  rw [List.take_length] at ho
  rw [List.drop_length] at hf
  have hol : s.o.length = V.length := by have := congrArg List.length ho; rwa [List.length_map] at this
  have hw : s.t.Who = w := by rw [ht]
  have hnext : qNext s = some (qPop s w ln ⟨2, S, [], [], hd⟩) := by
    unfold qNext
    simp only [hw, Int.toNat_natCast, hx, hf, Bool.true_eq_false, if_false]
    simp
  have hst : QStep s (qPop s w ln ⟨2, S, [], [], hd⟩) := .pop s w ln _ hw hx hf (.inr rfl)
  obtain ⟨hI2, hmu2⟩ := qstep_inv hI hst
  have hs2 : walkQ ⟨t, x0, []⟩ (V.length + 1) = qPop s w ln ⟨2, S, [], [], hd⟩ := by rw [walkQ, hs, hnext]; rfl
  obtain ⟨d, hd2⟩ : ∃ d, mu x0 = V.length + 1 + d := ⟨mu x0 - (V.length + 1), by omega⟩
  have hG : walkG t x0 = walkQ (qPop s w ln ⟨2, S, [], [], hd⟩) d := by
    show walkQ ⟨t, x0, []⟩ (mu x0) = _
    rw [hd2, walkQ_add, hs2]
  obtain ⟨⟨o2, ho2⟩, hgx⟩ := grow_walk hI2 d
  rw [← hG] at ho2 hgx
  have ho3 : (qPop s w ln ⟨2, S, [], [], hd⟩).o = s.o := rfl
  rw [ho3] at ho2
  have hwl := (List.getElem?_eq_some_iff.1 hx).1
  have hpx : (qPop s w ln ⟨2, S, [], [], hd⟩).x[w]? = some (popF ln S) := List.getElem?_set_self hwl
  refine ⟨fun i hiv => ?_, by rw [ho2, List.length_append]; omega, fun hh => ?_, fun hh => ?_⟩
  · obtain ⟨e, he⟩ : ∃ e, s.o[i]? = some e := ⟨_, List.getElem?_eq_getElem (by omega)⟩
    refine ⟨e, by rw [ho2, List.getElem?_append_left (by omega)]; exact he, ?_⟩
    rw [← ho, List.getElem?_map, he]; rfl
  · have hkl := hK.len
    obtain ⟨a, ha⟩ : ∃ a, x0[w]? = some a := ⟨_, List.getElem?_eq_getElem (by omega)⟩
    have hlen : (walkG t x0).x.length = n := by rw [hG]; exact (walkQ_inv hI2 d).len
    have hil := hI.len
    obtain ⟨b, hb⟩ : ∃ b, (walkG t x0).x[w]? = some b := ⟨_, List.getElem?_eq_getElem (by omega)⟩
    refine ⟨a, b, ha, hb, ?_⟩
    have h1 := hgx w _ b hpx hb
    have h2 := (hK.sub w a ln ha hx).1
    have h3 : (popF ln S).L.length < ln.L.length := by
      have he := List.mem_of_find?_eq_some (find_some hf)
      show (popN S ln.L ln.L.length).length < _
      rw [popN_all]
      have hle := List.length_filter_le (fun e => !seqP S e) ln.L
      rcases Nat.lt_or_ge (ln.L.filter fun e => !seqP S e).length ln.L.length with h | h
      · exact h
      · have h5 := List.filter_sublist.eq_of_length (show (ln.L.filter fun e => !seqP S e).length = ln.L.length by omega)
        rw [← h5] at he
        have := (List.mem_filter.1 he).2
        simp [seqP] at this
    omega
  · subst hh
    have hstop : qNext (qPop s w ln ⟨2, S, [], [], false⟩) = none := by
      have hno : (findF isCtl (popF ln S).L).2 = false := by
        refine find_no fun x hx' => ?_
        have hx'' : x ∈ popN S ln.L ln.L.length := hx'
        rw [popN_all] at hx''
        obtain ⟨a, b⟩ := List.mem_filter.1 hx''
        cases hc : isCtl x with
        | false => rfl
        | true => rw [show seqP S x = true from decide_eq_true (hone x a hc)] at b; simp at b
      have ht2 : (qPop s w ln ⟨2, S, [], [], false⟩).t.Who = w := hw
      unfold qNext
      rw [ht2, Int.toNat_natCast, hpx]
      simp only [hno, if_true]
    have hfin : walkG t x0 = qPop s w ln ⟨2, S, [], [], false⟩ := by rw [hG]; exact walkQ_none hstop d
    rw [hfin]
    exact ⟨hol, ht⟩

/-! The highest number of a lane. -/
def maxS (n : Int) (e : Entry) : Int := if n < e.Seq then e.Seq else n
def highF (l : Lane) : Int := l.L.foldl maxS l.Part.Seq
def highK (l : Lane) (k : Nat) : Int := (l.L.take k).foldl maxS l.Part.Seq
theorem highK_zero (l : Lane) : highK l 0 = l.Part.Seq := rfl
theorem highK_succ {l : Lane} {k : Nat} {e : Entry} (h : l.L[k]? = some e) : highK l (k + 1) = if highK l k < e.Seq then e.Seq else highK l k := by
  unfold highK
  rw [List.take_add_one, h, List.foldl_append]; rfl
theorem highK_all (l : Lane) : highK l l.L.length = highF l := by unfold highK highF; rw [List.take_length]
theorem fold_ge : ∀ (L : List Entry) (a : Int), a ≤ L.foldl maxS a ∧ ∀ e ∈ L, e.Seq ≤ L.foldl maxS a
  | [], a => ⟨Int.le_refl _, fun e h => by cases h⟩
  | y :: r, a => by
    have ih := fold_ge r (maxS a y)
    rw [List.foldl_cons]
    have h1 : a ≤ maxS a y ∧ y.Seq ≤ maxS a y := by unfold maxS; split <;> omega
    refine ⟨by omega, fun e he => ?_⟩
    rcases List.mem_cons.1 he with rfl | he
    · omega
    · exact ih.2 e he
theorem fold_le {B : Int} : ∀ (L : List Entry) (a : Int), a ≤ B → (∀ e ∈ L, e.Seq ≤ B) → L.foldl maxS a ≤ B
  | [], a, h, _ => h
  | y :: r, a, h, g => by
    rw [List.foldl_cons]
    refine fold_le r _ ?_ fun e he => g e (by simp [he])
    have := g y (by simp)
    unfold maxS; split <;> omega
theorem pc_38 (l : Lane) : PC Try.prog 38 [bL l] (.one (bI (highF l))) := by
  refine PC.of_ACall (ACall.of_AW (fun args w => Try.call38 args w) Try.func38 rfl (by simp [Try.ntmps38]) ?_)
  simp only [Try.ntmps38, List.length_nil]
  refine AW.lenA 0 0 rfl rfl fun hl => ?_; simp only [List.length_map] at hl
  all_goals repeat' (first | (refine Zc ?_ ?_ <;> intro h <;> (try simp [go_sem] at h) <;> try omega) | (refine Zi ?_; try simp only [AThen, ABlock]) | (refine Ze ?_; simp +decide only [AThen, ABlock, reduceIte]) | (refine Zt ?_; (try simp [go_sem]); all_goals (try simp [loR, lo]); all_goals try exact rfl) | ((first | refine Zq ?_ | refine Zr ?_ | refine Zw ?_ | refine Zx ?_); intro K hK; repeat' (first | ((first | refine Zs ?_ | refine Zl ?_ | refine Z0 ?_ | refine Zd ?_); intro HK hk; simp [go_sem]; (repeat refine ⟨by omega, ?_⟩); apply hk; clear hk HK) | ((first | refine Zg ?_ ?_ | refine Zh ?_ ?_ | refine Zp ?_ ?_ | refine Zk ?_ ?_) <;> intro hg <;> simp only [hg] <;> (try simp at hg) <;> try omega)); all_goals try ((first | refine Zn ?_ | refine Zm ?_); apply hK; clear hK K; try simp only [AThen, ABlock])) | refine Zz ?_ | refine Zb ?_)
  all_goals try exact rfl
  refine AW.upto l.L.length (fun _ => True) (fun k => [(4, .c (.p (.int .i64 k))), (3, .c (.p (.int .i64 (highK l k)))), (1, .c (.ptr 0 0))]) (fun _ => [.var ((laneP l).map .p)]) trivial ?_ fun k hk _ => ?_
  · refine Sub.of 1 (by simp) (by first | (simp [highK]; done) | (simp [go_sem, highK]; done)) (by simp [go_sem]) ?_ (by simp [go_sem])
    simp [go_sem, highK]
  · by_cases hkl : k < l.L.length
    · have hwk := wrapS (show (k : Int) < 9223372036854775807 by omega)
      obtain ⟨e, he⟩ : ∃ e, l.L[k]? = some e := ⟨_, List.getElem?_eq_getElem hkl⟩
      have hs := highK_succ he
      by_cases hlt : highK l k < e.Seq
      · rw [if_pos hlt] at hs
        all_goals repeat' (first | (refine Zc ?_ ?_ <;> intro h <;> (try simp [go_sem, he, hlt, hwk] at h) <;> try omega) | (refine Zi ?_; try simp only [AThen, ABlock]) | (refine Ze ?_; simp +decide only [AThen, ABlock, reduceIte]) | (refine Zt ?_; (try simp [go_sem, he, hlt, hwk]); all_goals (try simp [loR, lo]); all_goals try exact rfl) | ((first | refine Zq ?_ | refine Zr ?_ | refine Zw ?_ | refine Zx ?_); intro K hK; repeat' (first | ((first | refine Zs ?_ | refine Zl ?_ | refine Z0 ?_ | refine Zd ?_); intro HK hk; simp [go_sem, he, hlt, hwk]; (repeat refine ⟨by omega, ?_⟩); apply hk; clear hk HK) | ((first | refine Zg ?_ ?_ | refine Zh ?_ ?_ | refine Zp ?_ ?_ | refine Zk ?_ ?_) <;> intro hg <;> simp only [hg] <;> (try simp at hg) <;> try omega)); all_goals try ((first | refine Zn ?_ | refine Zm ?_); apply hK; clear hK K; try simp only [AThen, ABlock])) | refine Zz ?_ | refine Zb ?_)
        all_goals try exact rfl
        refine ⟨hkl, trivial, ?_⟩
        refine Sub.of 1 (by simp) (by first | (simp [hs]; done) | (simp [go_sem, hs]; done)) (by simp [go_sem]) ?_ (by simp [go_sem])
        simp [go_sem, hs]
      · rw [if_neg hlt] at hs
        all_goals repeat' (first | (refine Zc ?_ ?_ <;> intro h <;> (try simp [go_sem, he, hlt, hwk] at h) <;> try omega) | (refine Zi ?_; try simp only [AThen, ABlock]) | (refine Ze ?_; simp +decide only [AThen, ABlock, reduceIte]) | (refine Zt ?_; (try simp [go_sem, he, hlt, hwk]); all_goals (try simp [loR, lo]); all_goals try exact rfl) | ((first | refine Zq ?_ | refine Zr ?_ | refine Zw ?_ | refine Zx ?_); intro K hK; repeat' (first | ((first | refine Zs ?_ | refine Zl ?_ | refine Z0 ?_ | refine Zd ?_); intro HK hk; simp [go_sem, he, hlt, hwk]; (repeat refine ⟨by omega, ?_⟩); apply hk; clear hk HK) | ((first | refine Zg ?_ ?_ | refine Zh ?_ ?_ | refine Zp ?_ ?_ | refine Zk ?_ ?_) <;> intro hg <;> simp only [hg] <;> (try simp at hg) <;> try omega)); all_goals try ((first | refine Zn ?_ | refine Zm ?_); apply hK; clear hK K; try simp only [AThen, ABlock])) | refine Zz ?_ | refine Zb ?_)
        all_goals try exact rfl
        refine ⟨hkl, trivial, ?_⟩
        refine Sub.of 1 (by simp) (by first | (simp [hs]; done) | (simp [go_sem, hs]; done)) (by simp [go_sem]) ?_ (by simp [go_sem])
        simp [go_sem, hs]
    · obtain rfl : k = l.L.length := by omega
      all_goals repeat' (first | (refine Zc ?_ ?_ <;> intro h <;> (try simp [go_sem, highK_all] at h) <;> try omega) | (refine Zi ?_; try simp only [AThen, ABlock]) | (refine Ze ?_; simp +decide only [AThen, ABlock, reduceIte]) | (refine Zt ?_; (try simp [go_sem, highK_all]); all_goals (try simp [loR, lo]); all_goals try exact rfl) | ((first | refine Zq ?_ | refine Zr ?_ | refine Zw ?_ | refine Zx ?_); intro K hK; repeat' (first | ((first | refine Zs ?_ | refine Zl ?_ | refine Z0 ?_ | refine Zd ?_); intro HK hk; simp [go_sem, highK_all]; (repeat refine ⟨by omega, ?_⟩); apply hk; clear hk HK) | ((first | refine Zg ?_ ?_ | refine Zh ?_ ?_ | refine Zp ?_ ?_ | refine Zk ?_ ?_) <;> intro hg <;> simp only [hg] <;> (try simp at hg) <;> try omega)); all_goals try ((first | refine Zn ?_ | refine Zm ?_); apply hK; clear hK K; try simp only [AThen, ABlock])) | refine Zz ?_ | refine Zb ?_)
      all_goals try exact rfl
theorem say_form {t : Turn} {l : List Lane} {me : Nat} {q : Int} {it : Aw.Item} (h : sayQ t l me q = (it, true)) :
    it = ⟨2, 0, 0, if q ≤ t.Used + (someQ t l me q).length then 1 else 0, 0, 0, someQ t l me q, []⟩ ∧ someQ t l me q ≠ [] ∧ t.Who = me ∧ (findF isCtl (l.getD me zeroL).L).2 = false := by
  unfold sayQ at h
  by_cases h1 : t.Who ≠ me
  · rw [if_pos h1] at h; cases h
  · rw [if_neg h1] at h
    by_cases h2 : (findF isCtl (l.getD me zeroL).L).2 = true
    · rw [if_pos h2] at h; cases h
    · rw [if_neg h2] at h
      by_cases h3 : someQ t l me q = []
      · rw [if_pos h3] at h; cases h
      · rw [if_neg h3] at h
        cases h
        exact ⟨rfl, h3, by omega, by simpa using h2⟩
theorem said_start {t : Turn} {l : List Lane} {w : Nat} {q S : Int} {lw : Lane} {V : List Int} {hd : Bool} (hm : mayT t l = true) (hw : t.Who = w) (hx : l[w]? = some lw) (hV : V = someQ t l w q) (hV0 : V ≠ []) (hq : q ≤ 64)
    (hc : (findF isCtl lw.L).2 = false) (hS1 : 1 ≤ S) (hS : ∀ e ∈ lw.L, e.Seq < S) (hg : ¬ 0 < lw.Part.Got) :
    QInv l.length ⟨t, l.set w ⟨lw.L ++ [⟨2, S, [], V, hd⟩], lw.Part⟩, []⟩ ∧ SaidInv w t.Used S V hd (l.set w ⟨lw.L ++ [⟨2, S, [], V, hd⟩], lw.Part⟩) 0 ⟨t, l.set w ⟨lw.L ++ [⟨2, S, [], V, hd⟩], lw.Part⟩, []⟩ ∧
    (∀ v ∈ V, ∃ i : Nat, v = i ∧ i < l.length) ∧ (∀ (c : Nat) (a : Lane), (l.set w ⟨lw.L ++ [⟨2, S, [], V, hd⟩], lw.Part⟩)[c]? = some a → (V.filter fun v => decide (v = (c : Int))).length ≤ manyL a.L) ∧
    1 ≤ V.length ∧ V.length ≤ 64 ∧ t.Used + V.length ≤ q := by
  have hQ := qinv_start hm
  obtain ⟨hi0, hn2, hn64⟩ := winv_start hm
  have hwn := (List.getElem?_eq_some_iff.1 hx).1
  have h80 : lw.L.length ≤ 80 := (hi0.ok lw (List.mem_of_getElem? hx)).2
  have hmu0 := mu_start hm
  have hV1 : 1 ≤ V.length := List.length_pos_iff.2 hV0
  have hlen : V.length ≤ (q - t.Used).toNat := by rw [hV]; unfold someQ; rw [List.length_take]; omega
  have hu : 0 ≤ t.Used := hQ.used
  have hmem : ∀ v ∈ V, v ∈ waitL l w l.length := fun v hv => by rw [hV] at hv; exact List.mem_of_mem_take hv
  have hVn : ∀ v ∈ V, ∃ i : Nat, v = i ∧ i < l.length := fun v hv => by
    obtain ⟨i, a, b, _⟩ := (wait_pair hwn l.length (Nat.le_refl _)).1 v (hmem v hv)
    exact ⟨i, a, b⟩
  obtain ⟨hr, hl100⟩ := hQ.ok lw (List.mem_of_getElem? hx)
  obtain ⟨hlow, hpart⟩ := (right_iff lw).1 hr
  have hpz : lw.Part = ⟨0, 0, 0, []⟩ := by
    rcases hpart with h | h
    · exact h
    · exact absurd h.1 hg
  have hmay : mayF ⟨2, S, [], V, hd⟩ = true := by
    have hin : inR V = true := by
      unfold inR
      rw [List.all_eq_true]
      intro v hv
      obtain ⟨i, rfl, hi⟩ := hVn v hv
      exact decide_eq_true (by omega)
    simp [mayF, hin, hS1]
  have hrn : rightF ⟨lw.L ++ [⟨2, S, [], V, hd⟩], lw.Part⟩ = true := by
    refine (right_iff _).2 ⟨?_, .inl hpz⟩
    show lowR 0 (lw.L ++ [_]) = true
    rw [lowR_snoc, hlow, hmay, Bool.true_and, Bool.true_and]
    refine decide_eq_true ?_
    show endFrom 0 lw.L < S
    rcases end_mem 0 lw.L with h | ⟨x, hx', h⟩
    · omega
    · have := hS x hx'; omega
  have hmuS := mu_set l w lw ⟨lw.L ++ [⟨2, S, [], V, hd⟩], lw.Part⟩ hx
  have hwg : wgt (lw.L ++ [⟨2, S, [], V, hd⟩]) = wgt lw.L + (1 + V.length) := by simp [wgt]
  simp only [hwg] at hmuS
  obtain ⟨x0, hx0⟩ : ∃ x0, x0 = l.set w ⟨lw.L ++ [⟨2, S, [], V, hd⟩], lw.Part⟩ := ⟨_, rfl⟩
  rw [← hx0] at hmuS ⊢
  have hx0w : x0[w]? = some ⟨lw.L ++ [⟨2, S, [], V, hd⟩], lw.Part⟩ := by rw [hx0, List.getElem?_set_self hwn]
  refine ⟨⟨by rw [hx0, List.length_set], hQ.lo, hQ.hi, hn64, ?_, hu, ?_, ?_⟩, ⟨?_, rfl, ⟨_, hx0w, ?_, ?_⟩, Nat.le_refl _⟩, hVn, ?_, hV1, by omega, by omega⟩
  · rw [hx0]
    exact okset hQ.ok ⟨hrn, by simp only [List.length_append, List.length_cons, List.length_nil]; omega⟩
  · have := hi0.bound; simp only at this ⊢; omega
  · simp only [List.length_nil]; omega
  · obtain ⟨who, u⟩ := t
    simp only at hw ⊢
    rw [hw]; simp
  · refine find_of ?_
    have hnone : lw.L.find? isCtl = none := by
      unfold findF at hc
      cases hq : lw.L.find? isCtl with
      | none => rfl
      | some e => rw [hq] at hc; cases hc
    rw [List.find?_append, hnone]; simp [isCtl]
  · intro x hx' hcx
    rcases List.mem_append.1 hx' with h | h
    · have hnone : lw.L.find? isCtl = none := by
        unfold findF at hc
        cases hq : lw.L.find? isCtl with
        | none => rfl
        | some e => rw [hq] at hc; cases hc
      exact absurd hcx (List.find?_eq_none.1 hnone x h)
    · simp at h; rw [h]
  · intro c a ha
    have h1 := (wait_count hwn c l.length (Nat.le_refl _)).2
    have h2 : (V.filter fun v => decide (v = (c : Int))).length ≤ ((waitL l w l.length).filter fun v => decide (v = (c : Int))).length := by
      rw [hV]; unfold someQ
      exact ((List.take_sublist _ _).filter _).length_le
    have h3 : manyL a.L = manyL (l.getD c zeroL).L := by
      rw [hx0] at ha
      rw [List.getD_eq_getElem?_getD]
      rcases setL_get ha with ⟨rfl, rfl⟩ | ⟨_, ha⟩
      · rw [hx]; simp [manyL, isMsg]
      · rw [ha]; rfl
    omega
end Go.Proofs.Ytogappokeheilaa
