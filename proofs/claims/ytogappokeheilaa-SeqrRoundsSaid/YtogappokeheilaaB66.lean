import Derived.Test.YtogappokeheilaaB56
import Derived.Test.YtogappokeheilaaB65
set_option linter.unusedVariables false
set_option linter.unusedSimpArgs false
set_option maxRecDepth 100000
set_option maxHeartbeats 0
namespace Go.Proofs.Ytogappokeheilaa
open Go.Aw

/-! Rounds: all speak in their turns. -/
theorem ent_set {P : Nat → Entry → Prop} {x : List Lane} {w : Nat} {b : Lane} (h : ∀ (i : Nat) (ls : Lane), x[i]? = some ls → ∀ e ∈ ls.L, P i e) (hb : ∀ e ∈ b.L, P w e) : ∀ (i : Nat) (ls : Lane), (x.set w b)[i]? = some ls → ∀ e ∈ ls.L, P i e := fun i ls hi => by
  rcases setL_get hi with ⟨rfl, rfl⟩ | ⟨_, hi⟩
  · exact hb
  · exact h i ls hi
theorem ent_pop {P : Nat → Entry → Prop} {w : Nat} {ln : Lane} {n : Int} (h : ∀ e ∈ ln.L, P w e) : ∀ e ∈ (popF ln n).L, P w e := fun e he => by
  have he' : e ∈ popN n ln.L ln.L.length := he
  rw [popN_all] at he'
  exact h e (List.mem_filter.1 he').1
theorem ent_setF {P : Nat → Entry → Prop} {w : Nat} {ln : Lane} {e' : Entry} (h : ∀ e ∈ ln.L, P w e) (h' : P w e') : ∀ e ∈ (setF ln e').L, P w e := fun e he => by
  unfold setF at he
  split at he
  · have he' : e ∈ setN e' ln.L ln.L.length := he
    rw [setN_all] at he'
    obtain ⟨y, hy, rfl⟩ := List.mem_map.1 he'
    split
    · exact h'
    · exact h y hy
  · exact h e he
theorem ent_step {P : Nat → Entry → Prop} (hP : ∀ i e, isCtl e = true → P i e → P i (tailE e)) {s s' : WS} (hs : QStep s s') (h : ∀ (i : Nat) (ls : Lane), s.x[i]? = some ls → ∀ e ∈ ls.L, P i e) : ∀ (i : Nat) (ls : Lane), s'.x[i]? = some ls → ∀ e ∈ ls.L, P i e := by
  cases hs with
  | pop w ln e hw hx hf hk => exact ent_set h (ent_pop (h w ln hx))
  | skip w c ln e r hw hx hf hk hl hc =>
    have hc := List.find?_some (find_some hf)
    have hm := List.mem_of_find?_eq_some (find_some hf)
    exact ent_set h (ent_setF (h w ln hx) (hP w e hc (h w ln hx e hm)))
  | tell w c ln lc lw m e r hw hx hf hk hl hc hm hw2 =>
    have hct := List.find?_some (find_some hf)
    have hme := List.mem_of_find?_eq_some (find_some hf)
    have h1 := ent_set h (ent_pop (n := m.Seq) (h c lc hc))
    exact ent_set h1 (ent_setF (h1 w lw hw2) (hP w e hct (h w ln hx e hme)))
theorem ent_walk {P : Nat → Entry → Prop} (hP : ∀ i e, isCtl e = true → P i e → P i (tailE e)) {s : WS} {n : Nat} (hi : QInv n s) (h : ∀ (i : Nat) (ls : Lane), s.x[i]? = some ls → ∀ e ∈ ls.L, P i e) : ∀ k, ∀ (i : Nat) (ls : Lane), (walkQ s k).x[i]? = some ls → ∀ e ∈ ls.L, P i e
  | 0 => h
  | k + 1 => by
    have ih := ent_walk hP hi h k
    rw [walkQ]
    rcases qnext_cases (walkQ_inv hi k) with ⟨s', h1, h2⟩ | ⟨h1, _⟩
    · rw [h1]; exact ent_step hP h2 ih
    · rw [h1]; exact ih
/-- Entries of a round: messages of low numbers, and the order of lane w. -/
def rndP (w : Nat) (S : Int) (i : Nat) (e : Entry) : Prop := (isCtl e = true → i = w ∧ e.Seq = S) ∧ (isCtl e = false → e.Seq ≤ 99)
theorem rndP_tail (w : Nat) (S : Int) : ∀ i e, isCtl e = true → rndP w S i e → rndP w S i (tailE e) := fun i e hc h =>
  ⟨fun _ => h.1 hc, fun h2 => by simp [isCtl, tailE] at h2⟩
theorem round_end {n w : Nat} {u S : Int} {V : List Int} {hd : Bool} {t : Turn} {x0 : List Lane} (hi : QInv n ⟨t, x0, []⟩) (h0 : SaidInv w u S V hd x0 0 ⟨t, x0, []⟩)
    (hV : ∀ v ∈ V, ∃ i : Nat, v = i ∧ i < n) (hcnt : ∀ (c : Nat) (a : Lane), x0[c]? = some a → (V.filter fun v => decide (v = (c : Int))).length ≤ manyL a.L)
    (hent : ∀ (i : Nat) (ls : Lane), x0[i]? = some ls → ∀ e ∈ ls.L, rndP w S i e) :
    (walkG t x0).o.length = V.length ∧ (walkG t x0).t = (if hd = true then nextT ⟨w, u + V.length⟩ n else ⟨w, u + V.length⟩) ∧ ∀ (i : Nat) (ls : Lane), (walkG t x0).x[i]? = some ls → ∀ e ∈ ls.L, isCtl e = false ∧ e.Seq ≤ 99 := by
  have h := said_walk hi h0 hV hcnt V.length (Nat.le_refl _)
  have hI := walkQ_inv hi V.length
  have hE := ent_walk (rndP_tail w S) hi hent V.length
  generalize hs : walkQ ⟨t, x0, []⟩ V.length = s at *
  obtain ⟨ht, ho, ⟨ln, hx, hf, hone⟩, hmu⟩ := h
  rw [List.take_length] at ho
  rw [List.drop_length] at hf
  have hol : s.o.length = V.length := by have := congrArg List.length ho; rwa [List.length_map] at this
  have hw : s.t.Who = w := by rw [ht]
  have hnext : qNext s = some (qPop s w ln ⟨2, S, [], [], hd⟩) := by
    unfold qNext
    simp only [hw, Int.toNat_natCast, hx, hf, Bool.true_eq_false, if_false]
    simp
  have hst : QStep s (qPop s w ln ⟨2, S, [], [], hd⟩) := .pop s w ln _ hw hx hf (.inr rfl)
  obtain ⟨hI2, hmu2⟩ := qstep_inv hI hst
  have hs2 : walkQ ⟨t, x0, []⟩ (V.length + 1) = qPop s w ln ⟨2, S, [], [], hd⟩ := by rw [walkQ, hs, hnext]; rfl
  obtain ⟨d, hd2⟩ : ∃ d, mu x0 = V.length + 1 + d := ⟨mu x0 - (V.length + 1), by omega⟩
  have hG : walkG t x0 = walkQ (qPop s w ln ⟨2, S, [], [], hd⟩) d := by
    show walkQ ⟨t, x0, []⟩ (mu x0) = _
    rw [hd2, walkQ_add, hs2]
  have hno : ∀ (i : Nat) (ls : Lane), (qPop s w ln ⟨2, S, [], [], hd⟩).x[i]? = some ls → ∀ e ∈ ls.L, isCtl e = false ∧ e.Seq ≤ 99 := fun i ls hi2 e he => by
    have hcf : isCtl e = false := by
      cases hc : isCtl e with
      | false => rfl
      | true =>
        exfalso
        rcases setL_get hi2 with ⟨rfl, rfl⟩ | ⟨hne, hi2⟩
        · have he' : e ∈ popN S ln.L ln.L.length := he
          rw [popN_all] at he'
          obtain ⟨a, b⟩ := List.mem_filter.1 he'
          have := ((hE i ln hx e a).1 hc).2
          rw [show seqP S e = true from decide_eq_true this] at b
          simp at b
        · exact hne ((hE i ls hi2 e he).1 hc).1
    refine ⟨hcf, ?_⟩
    have h2 := ent_set (P := rndP w S) hE (ent_pop (n := S) (hE w ln hx)) i ls hi2 e he
    exact h2.2 hcf
  have hstop : qNext (qPop s w ln ⟨2, S, [], [], hd⟩) = none := by
    unfold qNext
    cases hq : (qPop s w ln ⟨2, S, [], [], hd⟩).x[(qPop s w ln ⟨2, S, [], [], hd⟩).t.Who.toNat]? with
    | none => rfl
    | some ls =>
      simp only
      rw [if_pos (find_no fun e he => (hno _ ls hq e he).1)]
  have hfin : walkG t x0 = qPop s w ln ⟨2, S, [], [], hd⟩ := by rw [hG]; exact walkQ_none hstop d
  rw [hfin]
  refine ⟨hol, ?_, hno⟩
  show (if hd = true then nextT s.t s.x.length else s.t) = _
  rw [ht, hI.len]

def msgR (i k : Nat) : Entry := ⟨1, k + 1, [UInt8.ofNat i, UInt8.ofNat k], [], false⟩
def msgsR (i n : Nat) : List Entry := (List.range n).map (msgR i)
def laneR (i n : Nat) : Lane := ⟨msgsR i n, ⟨0, 0, 0, []⟩⟩
def cntR (cs : List UInt8) (i : Nat) : Nat := (cs.getD i 0).toNat % 9
def lanesR (cs : List UInt8) (m : Nat) : List Lane := (List.range m).map fun i => laneR i (cntR cs i)
def totR (cs : List UInt8) : Nat → Nat
  | 0 => 0
  | m + 1 => totR cs m + cntR cs m
theorem cntR_lt (cs : List UInt8) (i : Nat) : cntR cs i < 9 := Nat.mod_lt _ (by omega)
theorem msgsR_len (i n : Nat) : (msgsR i n).length = n := by simp [msgsR]
theorem msgsR_succ (i j : Nat) : msgsR i (j + 1) = msgsR i j ++ [msgR i j] := by unfold msgsR; rw [List.range_succ, List.map_append]; rfl
theorem lanesR_succ (cs : List UInt8) (m : Nat) : lanesR cs (m + 1) = lanesR cs m ++ [laneR m (cntR cs m)] := by unfold lanesR; rw [List.range_succ, List.map_append]; rfl
theorem lanesR_len (cs : List UInt8) (m : Nat) : (lanesR cs m).length = m := by simp [lanesR]
theorem totR_le (cs : List UInt8) : ∀ m, totR cs m ≤ 8 * m
  | 0 => Nat.le_refl _
  | m + 1 => by have := totR_le cs m; have := cntR_lt cs m; rw [totR]; omega
theorem lanesR_get {cs : List UInt8} {m i : Nat} {a : Lane} (h : (lanesR cs m)[i]? = some a) : a = laneR i (cntR cs i) ∧ i < m := by
  have hl := (List.getElem?_eq_some_iff.1 h).1
  rw [lanesR_len] at hl
  unfold lanesR at h
  rw [List.getElem?_map, List.getElem?_range hl] at h
  exact ⟨(Option.some.inj h).symm, hl⟩
theorem good_laneR : ∀ i < 6, ∀ n < 9, goodL (laneR i n) = true := by decide
theorem msgsR_ent : ∀ i < 6, ∀ n < 9, ∀ e ∈ msgsR i n, isCtl e = false ∧ e.Seq ≤ 99 := by decide
theorem msgB_R (i n : Nat) : msgB (msgsR i n) = (List.range n).map fun k => [UInt8.ofNat i, UInt8.ofNat k] := by
  unfold msgB msgsR
  rw [List.filter_eq_self.2 (fun x hx => by obtain ⟨k, _, rfl⟩ := List.mem_map.1 hx; rfl), List.map_map]; rfl
structure RInv (l0 : List Lane) (q : Nat) (t : Turn) (l : List Lane) (o : List Deliv) : Prop where
  may : mayT t l = true
  len : l.length = l0.length
  get : ∀ (i : Nat) (a b : Lane), l0[i]? = some a → l[i]? = some b → msgB a.L = outB o i ++ msgB b.L
  frm : ∀ d ∈ o, ∃ c : Nat, d.From = c ∧ c < l0.length
  part : ∀ b ∈ l, b.Part = ⟨0, 0, 0, []⟩
  ent : ∀ b ∈ l, ∀ e ∈ b.L, isCtl e = false ∧ e.Seq ≤ 99
  turn : t = ⟨((o.length / q % l0.length : Nat) : Int), ((o.length % q : Nat) : Int)⟩
theorem rinv_start (cs : List UInt8) (q : Nat) (h2 : 2 ≤ cs.length) (h6 : cs.length ≤ 6) : RInv (lanesR cs cs.length) q ⟨0, 0⟩ (lanesR cs cs.length) [] where
  may := by
    unfold mayT lanesF
    have hl := lanesR_len cs cs.length
    simp only [Bool.and_eq_true, decide_eq_true_eq, List.all_eq_true, hl]
    refine ⟨⟨by omega, fun x hx => ?_⟩, by omega, by omega, by omega, by omega, by omega⟩
    obtain ⟨i, hi, rfl⟩ := List.mem_map.1 hx
    exact good_laneR i (by have := List.mem_range.1 hi; omega) _ (cntR_lt cs i)
  len := rfl
  get i a b ha hb := by rw [ha] at hb; cases hb; rfl
  frm d hd := by cases hd
  part b hb := by
    obtain ⟨i, hi, rfl⟩ := List.mem_map.1 hb; rfl
  ent b hb := by
    obtain ⟨i, hi, rfl⟩ := List.mem_map.1 hb
    exact msgsR_ent i (by have := List.mem_range.1 hi; omega) _ (cntR_lt cs i)
  turn := by simp
theorem many_all {L : List Entry} (h : ∀ e ∈ L, isCtl e = false) : manyL L = L.length := by
  unfold manyL
  rw [List.filter_eq_self.2 fun e he => ?_]
  have := h e he
  cases hm : isMsg e with
  | true => rfl
  | false =>
    have h1 : ¬ e.Kind = 1 := of_decide_eq_false hm
    rw [show isCtl e = true by simp [isCtl, h1]] at this
    cases this
theorem rinv_8 {cs : List UInt8} {q : Nat} {t : Turn} {l : List Lane} {o : List Deliv} (h : RInv (lanesR cs cs.length) q t l o) : ∀ b ∈ l, b.L.length ≤ 8 := fun b hb => by
  obtain ⟨i, hi, rfl⟩ := List.getElem_of_mem hb
  have hl := h.len
  have h1 : (lanesR cs cs.length)[i]? = some (lanesR cs cs.length)[i] := List.getElem?_eq_getElem (by omega)
  have hg := congrArg List.length (h.get i _ _ h1 (List.getElem?_eq_getElem hi))
  rw [List.length_append, msgB_len, msgB_len, many_all fun e he => (h.ent _ (List.getElem_mem hi) e he).1] at hg
  have h2 := (lanesR_get h1).1
  have h3 := many_le (lanesR cs cs.length)[i].L
  have h4 : (lanesR cs cs.length)[i].L.length = cntR cs i := by rw [h2]; exact msgsR_len _ _
  have := cntR_lt cs i
  omega
theorem rinv_turn (n q m k : Nat) (hn : 0 < n) (hk : k ≤ q - m % q) (hq : 0 < q) : (if m % q + k = q then nextT ⟨((m / q % n : Nat) : Int), ((m % q + k : Nat) : Int)⟩ n else ⟨((m / q % n : Nat) : Int), ((m % q + k : Nat) : Int)⟩) = (⟨(((m + k) / q % n : Nat) : Int), (((m + k) % q : Nat) : Int)⟩ : Turn) := by
  have hr := Nat.mod_lt m hq
  have hd := Nat.div_add_mod m q
  by_cases h : m % q + k = q
  · rw [if_pos h]
    have e : m + k = q * (m / q + 1) := by rw [Nat.mul_add]; omega
    rw [e, Nat.mul_div_cancel_left _ hq, Nat.mul_mod_right]
    unfold nextT
    have ha := Nat.mod_lt (m / q) hn
    have hb : (m / q + 1) % n = if m / q % n + 1 = n then 0 else m / q % n + 1 := by
      rw [Nat.add_mod]
      by_cases h1 : m / q % n + 1 = n
      · rw [if_pos h1]
        rcases Nat.lt_or_ge 1 n with h2 | h2
        · rw [Nat.mod_eq_of_lt h2, h1, Nat.mod_self]
        · obtain rfl : n = 1 := by omega
          exact Nat.mod_one _
      · rw [if_neg h1, Nat.mod_eq_of_lt (show 1 < n by omega), Nat.mod_eq_of_lt (by omega)]
    rw [hb]
    by_cases h1 : m / q % n + 1 = n
    · have h2 : ((m / q % n : Nat) : Int) + 1 = n := by omega
      rw [if_pos h1, if_pos h2]; rfl
    · have h2 : ¬ ((m / q % n : Nat) : Int) + 1 = n := by omega
      rw [if_neg h1, if_neg h2, Int.natCast_add]; rfl
  · rw [if_neg h]
    have e : m + k = q * (m / q) + (m % q + k) := by omega
    have hlt : m % q + k < q := by omega
    rw [e, Nat.mul_add_mod, Nat.mod_eq_of_lt hlt, Nat.mul_add_div hq, Nat.div_eq_of_lt hlt, Nat.add_zero]
/-- Nothing is said just when all is delivered. -/
theorem round_none {cs : List UInt8} {q : Nat} {t : Turn} {l : List Lane} {o : List Deliv} (h : RInv (lanesR cs cs.length) q t l o) (hn : 2 ≤ cs.length) {w : Nat} (hw : w < cs.length) (hv : waitL l w l.length = []) : o.length = totR cs cs.length := by
  have hl := h.len
  rw [lanesR_len] at hl
  have hz : ∀ i, i < cs.length → manyL (l.getD i zeroL).L = 0 := fun i hi => by
    have key : ∀ k, k ≤ l.length → waitL l w k = [] → ∀ j, j < k → manyL (l.getD ((w + j) % l.length) zeroL).L = 0 := fun k => by
      induction k with
      | zero => intro _ _ j hj; omega
      | succ k ih =>
        intro hk hv j hj
        rw [waitL, List.append_eq_nil_iff] at hv
        rcases Nat.lt_or_ge j k with h1 | h1
        · exact ih (by omega) hv.1 j h1
        · obtain rfl : j = k := by omega
          have := congrArg List.length hv.2
          rwa [List.length_replicate] at this
    by_cases hiw : w ≤ i
    · have := key l.length (Nat.le_refl _) hv (i - w) (by omega)
      rwa [show w + (i - w) = i by omega, Nat.mod_eq_of_lt (by omega)] at this
    · have := key l.length (Nat.le_refl _) hv (i + l.length - w) (by omega)
      rwa [show w + (i + l.length - w) = i + l.length by omega, Nat.add_mod_right, Nat.mod_eq_of_lt (by omega)] at this
  have hlen := len_sum cs.length o fun d hd => by have := h.frm d hd; rwa [lanesR_len] at this
  rw [hlen]
  have hs : ∀ m, m ≤ cs.length → sumN (fun i => (outB o i).length) m = totR cs m := fun m => by
    induction m with
    | zero => intro _; rfl
    | succ m ih =>
      intro hm
      rw [sumN, totR, ih (by omega)]
      congr 1
      have h1 : (lanesR cs cs.length)[m]? = some (laneR m (cntR cs m)) := by
        unfold lanesR; rw [List.getElem?_map, List.getElem?_range (by omega)]; rfl
      obtain ⟨b, hb⟩ : ∃ b, l[m]? = some b := ⟨_, List.getElem?_eq_getElem (by omega)⟩
      have hg := congrArg List.length (h.get m _ b h1 hb)
      have hzm := hz m (by omega)
      rw [List.getD_eq_getElem?_getD, hb] at hzm
      rw [List.length_append, msgB_len b.L, show manyL b.L = 0 from hzm, Nat.add_zero] at hg
      rw [← hg, msgB_len]
      show manyL (msgsR m (cntR cs m)) = _
      have : manyL (msgsR m (cntR cs m)) = (msgsR m (cntR cs m)).length := by
        unfold manyL; rw [List.filter_eq_self.2]
        intro x hx; obtain ⟨k, _, rfl⟩ := List.mem_map.1 hx; rfl
      rw [this, msgsR_len]
  exact hs cs.length (Nat.le_refl _)
theorem rinv_le {cs : List UInt8} {q : Nat} {t : Turn} {l : List Lane} {o : List Deliv} (h : RInv (lanesR cs cs.length) q t l o) : o.length ≤ totR cs cs.length := by
  have hl := h.len
  rw [lanesR_len] at hl
  have hlen := len_sum cs.length o fun d hd => by have := h.frm d hd; rwa [lanesR_len] at this
  rw [hlen]
  have hs : ∀ m, m ≤ cs.length → sumN (fun i => (outB o i).length) m ≤ totR cs m := fun m => by
    induction m with
    | zero => intro _; exact Nat.le_refl _
    | succ m ih =>
      intro hm
      rw [sumN, totR]
      have ih := ih (by omega)
      have h1 : (lanesR cs cs.length)[m]? = some (laneR m (cntR cs m)) := by
        unfold lanesR; rw [List.getElem?_map, List.getElem?_range (by omega)]; rfl
      obtain ⟨b, hb⟩ : ∃ b, l[m]? = some b := ⟨_, List.getElem?_eq_getElem (by omega)⟩
      have hg := congrArg List.length (h.get m _ b h1 hb)
      rw [List.length_append, msgB_len] at hg
      have h3 : manyL (laneR m (cntR cs m)).L ≤ cntR cs m := by have := many_le (msgsR m (cntR cs m)); rw [msgsR_len] at this; exact this
      omega
  exact hs cs.length (Nat.le_refl _)
/-- One round. -/
theorem round_step {cs : List UInt8} {q w : Nat} {t : Turn} {l : List Lane} {o : List Deliv} {S : Int} {lw : Lane} {V : List Int} {hd : Bool} (h : RInv (lanesR cs cs.length) q t l o) (hn : 2 ≤ cs.length) (h6 : cs.length ≤ 6) (hq : 1 ≤ q) (hq9 : q ≤ 9)
    (hw : w = o.length / q % cs.length) (hx : l[w]? = some lw) (hV : V = someQ t l w q) (hV0 : V ≠ []) (hS : 100 ≤ S) (hdq : hd = decide ((q : Int) ≤ t.Used + V.length)) :
    QInv l.length ⟨t, l.set w ⟨lw.L ++ [⟨2, S, [], V, hd⟩], lw.Part⟩, []⟩ ∧ V.length ≤ 64 ∧ 1 ≤ (walkG t (l.set w ⟨lw.L ++ [⟨2, S, [], V, hd⟩], lw.Part⟩)).o.length ∧
    RInv (lanesR cs cs.length) q (walkG t (l.set w ⟨lw.L ++ [⟨2, S, [], V, hd⟩], lw.Part⟩)).t (walkG t (l.set w ⟨lw.L ++ [⟨2, S, [], V, hd⟩], lw.Part⟩)).x (o ++ (walkG t (l.set w ⟨lw.L ++ [⟨2, S, [], V, hd⟩], lw.Part⟩)).o) := by
  have hln := lanesR_len cs cs.length
  have hlen := h.len
  have htn := h.turn
  rw [hln] at htn hlen
  have hwho : t.Who = w := by rw [htn, hw]
  have hused : t.Used = ((o.length % q : Nat) : Int) := by rw [htn]
  have hlm := List.mem_of_getElem? hx
  have hent := h.ent lw hlm
  have hpz := h.part lw hlm
  have hc : (findF isCtl lw.L).2 = false := find_no fun e he => (hent e he).1
  obtain ⟨hQ, hSI, hVn, hcnt, hV1, hV64, huq⟩ := said_start (q := (q : Int)) (S := S) (hd := hd) h.may hwho hx hV hV0 (by omega) hc (by omega) (fun e he => by have := (hent e he).2; omega) (by rw [hpz]; simp)
  have hE : ∀ (i : Nat) (ls : Lane), (l.set w ⟨lw.L ++ [⟨2, S, [], V, hd⟩], lw.Part⟩)[i]? = some ls → ∀ e ∈ ls.L, rndP w S i e := by
    refine ent_set (fun i ls hi e he => ?_) fun e he => ?_
    · have := h.ent ls (List.mem_of_getElem? hi) e he
      exact ⟨fun hh => (by rw [this.1] at hh; cases hh), fun _ => this.2⟩
    · rcases List.mem_append.1 he with he | he
      · have := hent e he
        exact ⟨fun hh => (by rw [this.1] at hh; cases hh), fun _ => this.2⟩
      · simp at he; subst he
        exact ⟨fun _ => ⟨rfl, rfl⟩, fun hh => by simp [isCtl] at hh⟩
  obtain ⟨r1, r2, r3⟩ := round_end hQ hSI hVn hcnt hE
  have hwn := (List.getElem?_eq_some_iff.1 hx).1
  obtain ⟨x, hx0⟩ : ∃ x, x = l.set w ⟨lw.L ++ [⟨2, S, [], V, hd⟩], lw.Part⟩ := ⟨_, rfl⟩
  have hxl : x.length = l.length := by rw [hx0, List.length_set]
  have hfew : ∀ b ∈ x, fewF b = true := by
    have hm := h.may
    unfold mayT lanesF at hm
    simp only [Bool.and_eq_true, List.all_eq_true] at hm
    have hg : ∀ b ∈ l, fewF b = true := fun b hb => by
      have := hm.1.2 b hb
      unfold goodL at this
      rw [Bool.and_eq_true] at this
      exact this.1
    rw [hx0]
    refine okset hg ?_
    have h8 := rinv_8 h lw hlm
    have hf := hg lw hlm
    unfold fewF at hf ⊢
    simp only [Bool.and_eq_true, decide_eq_true_eq, List.all_eq_true, List.length_append, List.length_cons, List.length_nil] at hf ⊢
    refine ⟨⟨by omega, hf.1.2⟩, fun e he => ?_⟩
    rcases List.mem_append.1 he with he | he
    · exact hf.2 e he
    · simp at he; subst he
      simp; omega
  have hmsg : ∀ (i : Nat) (a b : Lane), l[i]? = some a → x[i]? = some b → msgB b.L = msgB a.L ∧ b.Part = a.Part := fun i a b ha hb => by
    rw [hx0] at hb
    rcases setL_get hb with ⟨rfl, rfl⟩ | ⟨_, hb⟩
    · rw [hx] at ha; cases ha
      refine ⟨?_, rfl⟩
      unfold msgB
      rw [List.filter_append]; simp [isMsg]
    · rw [ha] at hb; cases hb; exact ⟨rfl, rfl⟩
  rw [← hx0] at hQ r1 r2 r3 ⊢
  have hK := kinv_walkQ hQ (kinv_start t x) (mu x)
  have hI := walkQ_inv hQ (mu x)
  have hF := few_walkQ hQ hfew (mu x)
  have e : walkQ ⟨t, x, []⟩ (mu x) = walkG t x := rfl
  rw [e] at hK hI hF
  have hGl := hK.len
  have hk : (V.length : Int) ≤ (q : Int) - t.Used := by omega
  have hr := Nat.mod_lt o.length (show 0 < q by omega)
  have hturn := rinv_turn cs.length q o.length V.length (by omega) (by omega) (by omega)
  have ht2 : (walkG t x).t = ⟨((((o ++ (walkG t x).o).length) / q % cs.length : Nat) : Int), (((o ++ (walkG t x).o).length % q : Nat) : Int)⟩ := by
    rw [r2, List.length_append, r1, ← hturn, hdq, hused, ← hw, hlen]
    by_cases hh : o.length % q + V.length = q
    · rw [if_pos hh, if_pos (decide_eq_true (by omega))]; rw [Int.natCast_add]
    · rw [if_neg hh, if_neg (by rw [decide_eq_true_eq]; omega)]; rw [Int.natCast_add]
  have hlo := hI.lo
  have hhi := hI.hi
  have hw2 : (o ++ (walkG t x).o).length % q < q := Nat.mod_lt _ (by omega)
  refine ⟨hQ, hV64, by omega, ⟨?_, by omega, fun i a b ha hb => ?_, fun d hd => ?_, fun b hb => ?_, fun b hb => ?_, by rw [hln]; exact ht2⟩⟩
  · unfold mayT lanesF
    have hall : (walkG t x).x.all goodL = true := List.all_eq_true.2 fun b hb => by
      unfold goodL; rw [hF b hb, (hI.ok b hb).1]; rfl
    rw [hall, decide_eq_true (show ((walkG t x).x.length : Int) ≤ 64 by omega), Bool.true_and, Bool.true_and]
    refine decide_eq_true ⟨by omega, hlo, by omega, hI.used, ?_⟩
    rw [ht2]; simp only; omega
  · obtain ⟨c, hc⟩ : ∃ c, l[i]? = some c := ⟨_, List.getElem?_eq_getElem (by have := (List.getElem?_eq_some_iff.1 hb).1; omega)⟩
    obtain ⟨c2, hc2⟩ : ∃ c, x[i]? = some c := ⟨_, List.getElem?_eq_getElem (by have := (List.getElem?_eq_some_iff.1 hb).1; omega)⟩
    rw [h.get i a c ha hc, ← (hmsg i c c2 hc hc2).1, hK.get i c2 b hc2 hb, outB_two, List.append_assoc]
  · rcases List.mem_append.1 hd with h1 | h1
    · exact h.frm d h1
    · obtain ⟨c, h2, h3⟩ := hK.frm d h1
      exact ⟨c, h2, by omega⟩
  · obtain ⟨i, hi, rfl⟩ := List.getElem_of_mem hb
    obtain ⟨c, hc⟩ : ∃ c, l[i]? = some c := ⟨_, List.getElem?_eq_getElem (by omega)⟩
    obtain ⟨c2, hc2⟩ : ∃ c, x[i]? = some c := ⟨_, List.getElem?_eq_getElem (by omega)⟩
    rw [(hK.sub i c2 _ hc2 (List.getElem?_eq_getElem hi)).2, (hmsg i c c2 hc hc2).2]
    exact h.part c (List.mem_of_getElem? hc)
  · obtain ⟨i, hi, rfl⟩ := List.getElem_of_mem hb
    exact r3 i _ (List.getElem?_eq_getElem hi)
/-- What is delivered is just right. -/
theorem round_at {cs : List UInt8} {q : Nat} {t : Turn} {l : List Lane} {o : List Deliv} (h : RInv (lanesR cs cs.length) q t l o) {i : Nat} {d : Deliv} (hd : o[i]? = some d) : ∃ c : Nat, d.From = c ∧ c < cs.length ∧ d.B = [UInt8.ofNat c, UInt8.ofNat (cntD o c i)] ∧ cntD o c i < 9 := by
  obtain ⟨c, hc, hcl⟩ := h.frm d (List.mem_of_getElem? hd)
  have hl := h.len
  rw [lanesR_len] at hcl hl
  have h1 : (lanesR cs cs.length)[c]? = some (laneR c (cntR cs c)) := by
    unfold lanesR; rw [List.getElem?_map, List.getElem?_range hcl]; rfl
  obtain ⟨b, hb⟩ : ∃ b, l[c]? = some b := ⟨_, List.getElem?_eq_getElem (by omega)⟩
  have hg := h.get c _ b h1 hb
  have ha := outD_at hd hc
  have ha2 : (msgB (laneR c (cntR cs c)).L)[cntD o c i]? = some d.B := by
    rw [hg, List.getElem?_append_left (List.getElem?_eq_some_iff.1 ha).1]; exact ha
  rw [show (laneR c (cntR cs c)).L = msgsR c (cntR cs c) from rfl, msgB_R, List.getElem?_map] at ha2
  have hlt : cntD o c i < cntR cs c := by
    rcases Nat.lt_or_ge (cntD o c i) (cntR cs c) with h | h
    · exact h
    · rw [List.getElem?_eq_none (by rw [List.length_range]; exact h)] at ha2; cases ha2
  rw [List.getElem?_range hlt] at ha2
  have := cntR_lt cs c
  exact ⟨c, hc, hcl, (Option.some.inj ha2).symm, by omega⟩
end Go.Proofs.Ytogappokeheilaa
