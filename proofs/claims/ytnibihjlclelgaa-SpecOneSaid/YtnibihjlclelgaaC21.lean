import Derived.Test.YtnibihjlclelgaaC2
set_option linter.unusedVariables false
set_option linter.unusedSimpArgs false
set_option maxRecDepth 100000
namespace Go.Aw

/-! One sequence: plain laws. -/
def logsS (s : SpecS) (k : Nat) : List (List Deliv) := (List.range k).map fun i => s.Seq.take (s.At.getD i 0).toNat
structure OInv (k M : Nat) (s : SpecS) : Prop where
  inv : SInv M s
  len : s.Acc.length = k
  pre : ∀ i : Nat, i < k → ofF s.Seq (i : Int) <+: s.Acc.getD i []
  top : ∃ i, i < k ∧ s.At.getD i 0 = s.Seq.length
theorem logsS_len (s : SpecS) (k : Nat) : (logsS s k).length = k := by simp [logsS]
theorem logsS_get {s : SpecS} {k i : Nat} (h : i < k) : (logsS s k)[i]? = some (s.Seq.take (s.At.getD i 0).toNat) := by unfold logsS; rw [List.getElem?_map, List.getElem?_range h]; rfl
theorem logsS_getD {s : SpecS} {k i : Nat} (h : i < k) : (logsS s k).getD i [] = s.Seq.take (s.At.getD i 0).toNat := by rw [List.getD_eq_getElem?_getD, logsS_get h]; rfl
theorem o_new {k M : Nat} (h1 : 1 ≤ k) (h2 : k ≤ 64) : OInv k M (newS k) := by
  refine ⟨⟨by simp [newS], by simp [newS]; omega, fun a ha => ?_, fun d hd => by simp [newS] at hd, by simp [newS], fun r hr => ?_⟩, by simp [newS], fun i hi => ?_, 0, by omega, ?_⟩
  · simp [newS] at ha; simp [newS]; omega
  · simp [newS] at hr; rw [hr.2]; simp
  · exact ⟨(newS k).Acc.getD i [], by simp [newS, ofF]⟩
  · simp only [newS]
    rw [List.getD_eq_getElem?_getD, List.getElem?_replicate, if_pos (by omega)]; rfl
theorem logs_new (k : Nat) : logsS (newS k) k = List.replicate k [] := by
  apply List.ext_getElem?
  intro j
  by_cases hj : j < k
  · rw [logsS_get hj, List.getElem?_replicate, if_pos hj]; simp [newS]
  · rw [List.getElem?_eq_none (by rw [logsS_len]; omega), List.getElem?_replicate, if_neg hj]
theorem o_at {k M : Nat} {s : SpecS} (h : OInv k M s) {i : Nat} (hi : i < k) : ∃ a : Nat, s.At[i]? = some (a : Int) ∧ s.At.getD i 0 = a ∧ a ≤ s.Seq.length := by
  obtain ⟨a, h1, h2, h3, h4⟩ := at_inv h.inv (w := i) (by rw [h.len]; exact hi)
  refine ⟨a.toNat, ?_, ?_, by omega⟩
  · rw [h1]; congr 1; omega
  · rw [h2]; omega
theorem pre_one {α : Type} {p l : List α} {b : α} (h : p <+: l) (hb : l[p.length]? = some b) : p ++ [b] <+: l := by
  obtain ⟨t, rfl⟩ := h
  rw [List.getElem?_append_right (Nat.le_refl _), Nat.sub_self] at hb
  cases t with
  | nil => simp at hb
  | cons x t => simp at hb; subst hb; exact ⟨t, by simp⟩
theorem o_right {k M : Nat} {s : SpecS} (h : OInv k M s) : rightS s = true := by
  unfold rightS
  rw [Bool.and_eq_true, Bool.and_eq_true]
  refine ⟨⟨decide_eq_true ⟨h.inv.len, h.inv.n64⟩, List.all_eq_true.2 h.inv.frm⟩, List.all_eq_true.2 fun i hi => ?_⟩
  rw [List.mem_range, h.len] at hi
  obtain ⟨a, _, h2, h3⟩ := o_at h hi
  unfold okAt
  rw [Bool.and_eq_true]
  exact ⟨decide_eq_true (by rw [h2]; omega), List.isPrefixOf_iff_prefix.2 (h.pre i hi)⟩
theorem o_no {k M : Nat} {s : SpecS} {e : Ev} (h : OInv k M s) (h2 : (stepS s e).2 = false) : (stepS s e).1 = s := by
  rcases step_left (e := e) h.inv with ⟨_, h⟩ | ⟨h, _⟩ | ⟨h, _⟩ | ⟨h, _⟩
  · exact h
  all_goals rw [h] at h2; cases h2
theorem getD_setS {α : Type} {l : List α} {i j : Nat} {x d : α} (hi : i < l.length) : (l.set i x).getD j d = if i = j then x else l.getD j d := by
  rw [List.getD_eq_getElem?_getD, List.getD_eq_getElem?_getD]
  by_cases h : i = j
  · subst h; rw [List.getElem?_set_self hi, if_pos rfl]; rfl
  · rw [List.getElem?_set_ne h, if_neg h]
theorem o_accept {k M : Nat} {s : SpecS} {e : Ev} (h : OInv k M s) (hb : e.B.length ≤ 2000) (h2 : (stepS s e).2 = true) (hd : e.Deliver = false) :
    ∃ w : Nat, w < k ∧ e.Who = w ∧ (stepS s e).1.Acc = s.Acc.set w (s.Acc.getD w [] ++ [e.B]) ∧ logsS (stepS s e).1 k = logsS s k ∧ OInv k (M + 1) (stepS s e).1 := by
  obtain ⟨i1, i2⟩ := step_inv (e := e) h.inv hb
  have hl := h.len
  by_cases c1 : e.Who < 0 ∨ (s.Acc.length : Int) ≤ e.Who
  · unfold stepS at h2; rw [if_pos c1] at h2; cases h2
  · have es : stepS s e = (⟨s.Acc.set e.Who.toNat (s.Acc.getD e.Who.toNat [] ++ [e.B]), s.Seq, s.At⟩, true) := by unfold stepS; rw [if_neg c1, if_pos hd]
    rw [es] at i1 i2 ⊢
    refine ⟨e.Who.toNat, by omega, by omega, rfl, rfl, i1, by rw [i2]; exact hl, fun i hi => ?_, h.top⟩
    simp only
    rw [getD_setS (by omega)]
    have hp := h.pre i hi
    split
    · rename_i hw
      rw [hw]
      exact hp.trans (List.prefix_append _ _)
    · exact hp
theorem o_deliver {k M : Nat} {s : SpecS} {e : Ev} (h : OInv k M s) (hb : e.B.length ≤ 2000) (h2 : (stepS s e).2 = true) (hd : e.Deliver = true) :
    ∃ w : Nat, w < k ∧ e.Who = w ∧ (stepS s e).1.Acc = s.Acc ∧ logsS (stepS s e).1 k = (logsS s k).set w ((logsS s k).getD w [] ++ [⟨e.From, e.B⟩]) ∧ OInv k (M + 1) (stepS s e).1 := by
  obtain ⟨i1, i2⟩ := step_inv (e := e) h.inv hb
  have hl := h.len
  have hal := h.inv.len
  by_cases c1 : e.Who < 0 ∨ (s.Acc.length : Int) ≤ e.Who
  · unfold stepS at h2; rw [if_pos c1] at h2; cases h2
  · obtain ⟨a, ha, hg, hle⟩ := o_at h (i := e.Who.toNat) (by omega)
    obtain ⟨t, ht, htop⟩ := h.top
    have hc2 : ¬ e.Deliver = false := by rw [hd]; simp
    have hwl : e.Who.toNat < s.At.length := by omega
    by_cases c3 : a < s.Seq.length
    · by_cases c4 : s.Seq[a]? = some ⟨e.From, e.B⟩
      · have es : stepS s e = (⟨s.Acc, s.Seq, s.At.set e.Who.toNat ((a : Int) + 1)⟩, true) := by
          unfold stepS
          rw [if_neg c1, if_neg hc2, hg, if_pos (by omega), Int.toNat_natCast, if_pos c4]
        rw [es] at i1 i2 ⊢
        refine ⟨e.Who.toNat, by omega, by omega, rfl, ?_, i1, hl, h.pre, ?_⟩
        · apply List.ext_getElem?
          intro j
          by_cases hj : j < k
          · rw [logsS_get hj, logsS_getD (by omega), hg, Int.toNat_natCast]
            simp only
            rw [getD_setS hwl]
            by_cases hwj : e.Who.toNat = j
            · subst hwj
              rw [if_pos rfl, List.getElem?_set_self (by rw [logsS_len]; exact hj)]
              rw [show ((a : Int) + 1).toNat = a + 1 by omega, List.take_add_one, c4]; rfl
            · rw [if_neg hwj, List.getElem?_set_ne hwj, logsS_get hj]
          · rw [List.getElem?_eq_none (by rw [logsS_len]; omega), List.getElem?_eq_none (by rw [List.length_set, logsS_len]; omega)]
        · refine ⟨t, ht, ?_⟩
          simp only
          rw [getD_setS hwl]
          split
          · rename_i hwt
            rw [← hwt, hg] at htop
            omega
          · exact htop
      · have : stepS s e = (s, false) := by
          unfold stepS
          rw [if_neg c1, if_neg hc2, hg, if_pos (by omega), Int.toNat_natCast, if_neg c4]
        rw [this] at h2; cases h2
    · obtain rfl : a = s.Seq.length := by omega
      by_cases c5 : e.From < 0 ∨ (s.Acc.length : Int) ≤ e.From
      · have : stepS s e = (s, false) := by
          unfold stepS
          rw [if_neg c1, if_neg hc2, hg, if_neg (by omega), if_pos c5]
        rw [this] at h2; cases h2
      · by_cases c6 : (s.Acc.getD e.From.toNat [])[(ofF s.Seq e.From).length]? = some e.B
        · have es : stepS s e = (⟨s.Acc, s.Seq ++ [⟨e.From, e.B⟩], s.At.set e.Who.toNat ((s.Seq.length : Int) + 1)⟩, true) := by
            unfold stepS
            rw [if_neg c1, if_neg hc2, hg, if_neg (by omega), if_neg c5, if_pos c6]
          rw [es] at i1 i2 ⊢
          refine ⟨e.Who.toNat, by omega, by omega, rfl, ?_, i1, hl, fun i hi => ?_, ?_⟩
          · apply List.ext_getElem?
            intro j
            by_cases hj : j < k
            · rw [logsS_get hj, logsS_getD (by omega), hg, Int.toNat_natCast]
              simp only
              rw [getD_setS hwl]
              by_cases hwj : e.Who.toNat = j
              · subst hwj
                rw [if_pos rfl, List.getElem?_set_self (by rw [logsS_len]; exact hj), List.take_of_length_le (by simp), List.take_of_length_le (Nat.le_refl _)]
              · rw [if_neg hwj, List.getElem?_set_ne hwj, logsS_get hj]
                obtain ⟨a', _, hg', hle'⟩ := o_at h hj
                rw [hg', Int.toNat_natCast, List.take_append_of_le_length hle']
            · rw [List.getElem?_eq_none (by rw [logsS_len]; omega), List.getElem?_eq_none (by rw [List.length_set, logsS_len]; omega)]
          · simp only
            rw [ofF_app, ofF_one]
            simp only
            split
            · rename_i hfi
              have hp := h.pre i hi
              refine pre_one hp ?_
              rw [← hfi]
              have : i = e.From.toNat := by omega
              rw [this]; exact c6
            · rw [List.append_nil]; exact h.pre i hi
          · refine ⟨e.Who.toNat, by omega, ?_⟩
            simp only
            rw [getD_setS hwl, if_pos rfl]; simp
        · have : stepS s e = (s, false) := by
            unfold stepS
            rw [if_neg c1, if_neg hc2, hg, if_neg (by omega), if_neg c5, if_neg c6]
          rw [this] at h2; cases h2
def bestF (ls : List (List Deliv)) : Nat → Nat
  | 0 => 0
  | i + 1 => if (ls.getD (bestF ls i) []).length < (ls.getD i []).length then i else bestF ls i
theorem best_le (ls : List (List Deliv)) : ∀ i, (∀ j, j < i → (ls.getD j []).length ≤ (ls.getD (bestF ls i) []).length) ∧ bestF ls i < i + 1 ∧ (0 < i → bestF ls i < i)
  | 0 => ⟨fun j hj => by omega, by simp [bestF], fun h => by omega⟩
  | i + 1 => by
    obtain ⟨h1, h2, h3⟩ := best_le ls i
    rw [bestF]
    split
    · rename_i hlt
      refine ⟨fun j hj => ?_, by omega, fun _ => by omega⟩
      by_cases hji : j = i
      · subst hji; exact Nat.le_refl _
      · exact Nat.le_trans (h1 j (by omega)) (Nat.le_of_lt hlt)
    · rename_i hge
      refine ⟨fun j hj => ?_, by omega, fun _ => by omega⟩
      by_cases hji : j = i
      · subst hji; omega
      · exact h1 j (by omega)
theorem o_best {k M : Nat} {s : SpecS} (h : OInv k M s) (hk : 1 ≤ k) : bestF (logsS s k) k < k ∧ (logsS s k).getD (bestF (logsS s k) k) [] = s.Seq := by
  obtain ⟨h1, _, h3⟩ := best_le (logsS s k) k
  have hb := h3 (by omega)
  refine ⟨hb, ?_⟩
  obtain ⟨t, ht, htop⟩ := h.top
  have h4 := h1 t ht
  rw [logsS_getD ht, htop, Int.toNat_natCast, List.take_length] at h4
  obtain ⟨a, _, hg, hle⟩ := o_at h hb
  rw [logsS_getD hb, hg, Int.toNat_natCast] at h4 ⊢
  rw [List.length_take] at h4
  exact List.take_of_length_le (by omega)
theorem o_log {k M : Nat} {s : SpecS} (h : OInv k M s) {i : Nat} (hi : i < k) : ∃ a : Nat, a ≤ s.Seq.length ∧ (logsS s k)[i]? = some (s.Seq.take a) := by
  obtain ⟨a, _, hg, hle⟩ := o_at h hi
  exact ⟨a, hle, by rw [logsS_get hi, hg]; rfl⟩
theorem o_acc {k M : Nat} {s : SpecS} (h : OInv k M s) {i j : Nat} {d : Deliv} (hi : i < k) (hd : s.Seq[j]? = some d) (hf : d.From = (i : Int)) : (s.Acc.getD i [])[(ofF (s.Seq.take j) (i : Int)).length]? = some d.B := by
  have h1 := ofF_get hd
  rw [hf] at h1
  obtain ⟨t, ht⟩ := h.pre i hi
  rw [← ht, List.getElem?_append_left (List.getElem?_eq_some_iff.1 h1).1]
  exact h1
end Go.Aw
