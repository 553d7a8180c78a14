import Derived.Test.YtogappokeheilaaB46
set_option linter.unusedVariables false
set_option linter.unusedSimpArgs false
set_option maxRecDepth 100000
set_option maxHeartbeats 0
namespace Go.Proofs.Ytogappokeheilaa
open Go.Aw

/-! How far behind, going round. -/
def rndI (i f n : Int) : Int := if i < f then i + n - f else i - f
theorem pc_40 (i f n : Nat) (hi : i ≤ 64) (hf : f ≤ 64) (hn : n ≤ 64) : PC Try.prog 40 [bI i, bI f, bI n] (.one (bI (rndI i f n))) := by
  have h1 : IntKind.i64.wrap ((i : Int) + n) = (i : Int) + n := wrapI (by omega) (by omega)
  have h2 : IntKind.i64.wrap ((i : Int) + n - f) = (i : Int) + n - f := wrapI (by omega) (by omega)
  have h3 : IntKind.i64.wrap ((i : Int) - f) = (i : Int) - f := wrapI (by omega) (by omega)
  refine PC.of_ACall (ACall.of_AW (fun args w => Try.call40 args w) Try.func40 rfl (by simp [Try.ntmps40]) ?_)
  simp only [Try.ntmps40, List.length_nil]
  all_goals repeat' (first | (refine Zc ?_ ?_ <;> intro h <;> (try simp [go_sem, h1, h2, h3] at h) <;> try omega) | (refine Zi ?_; try simp only [AThen, ABlock]) | (refine Ze ?_; simp +decide only [AThen, ABlock, reduceIte]) | (refine Zt ?_; (try simp [go_sem, h1, h2, h3]); all_goals (try simp [loR, lo]); all_goals try exact rfl) | ((first | refine Zq ?_ | refine Zr ?_ | refine Zw ?_ | refine Zx ?_); intro K hK; repeat' (first | ((first | refine Zs ?_ | refine Zl ?_ | refine Z0 ?_ | refine Zd ?_); intro HK hk; simp [go_sem, h1, h2, h3]; (repeat refine ⟨by omega, ?_⟩); apply hk; clear hk HK) | ((first | refine Zg ?_ ?_ | refine Zh ?_ ?_ | refine Zp ?_ ?_ | refine Zk ?_ ?_) <;> intro hg <;> simp only [hg] <;> (try simp at hg) <;> try omega)); all_goals try ((first | refine Zn ?_ | refine Zm ?_); apply hK; clear hK K; try simp only [AThen, ABlock])) | refine Zz ?_ | refine Zb ?_)
  all_goals try exact rfl
  · unfold rndI; rw [if_pos (by omega)]
  · unfold rndI; rw [if_neg (by omega)]
theorem rnd_mod {me j n : Nat} (hme : me < n) (hj : j < n) : rndI (((me + j) % n : Nat) : Int) me n = j := by
  unfold rndI
  by_cases h : me + j < n
  · rw [Nat.mod_eq_of_lt h, if_neg (by omega)]; omega
  · have : (me + j) % n = me + j - n := by rw [Nat.mod_eq_sub_mod (by omega), Nat.mod_eq_of_lt (by omega)]
    rw [this, if_pos (by omega)]; omega
/-- Whose messages wait: members, in the round's order. -/
theorem wait_pair {l : List Lane} {me : Nat} (hme : me < l.length) : ∀ k, k ≤ l.length →
    (∀ v ∈ waitL l me k, ∃ i : Nat, v = i ∧ i < l.length ∧ rndI v me l.length < k) ∧ (waitL l me k).Pairwise fun a b => rndI a me l.length ≤ rndI b me l.length
  | 0, _ => ⟨fun v hv => by simp [waitL] at hv, by simp [waitL]⟩
  | k + 1, hk => by
    obtain ⟨h1, h2⟩ := wait_pair hme k (by omega)
    have hr := rnd_mod hme (show k < l.length by omega)
    have hlt := Nat.mod_lt (me + k) (show 0 < l.length by omega)
    refine ⟨fun v hv => ?_, ?_⟩
    · rw [waitL] at hv
      rcases List.mem_append.1 hv with h | h
      · obtain ⟨i, a, b, c⟩ := h1 v h
        exact ⟨i, a, b, by omega⟩
      · rw [List.eq_of_mem_replicate h]
        exact ⟨_, rfl, hlt, by rw [hr]; omega⟩
    · rw [waitL, List.pairwise_append]
      refine ⟨h2, ?_, fun a ha b hb => ?_⟩
      · rw [List.pairwise_replicate]; right; exact Int.le_refl _
      · obtain ⟨i, _, _, c⟩ := h1 a ha
        rw [List.eq_of_mem_replicate hb, hr]; omega
def wN (l : List Lane) : Nat → Nat
  | 0 => 0
  | m + 1 => wN l m + manyL (l.getD m zeroL).L
theorem wN_le {l : List Lane} (h : ∀ x ∈ l, x.L.length ≤ 80) : ∀ m, wN l m ≤ 80 * m
  | 0 => by simp [wN]
  | m + 1 => by
    have ih := wN_le h m
    have h1 : manyL (l.getD m zeroL).L ≤ 80 := by
      by_cases hm : m < l.length
      · have hx : l.getD m zeroL = l[m] := by rw [List.getD_eq_getElem?_getD, List.getElem?_eq_getElem hm]; rfl
        rw [hx]; exact Nat.le_trans (many_le _) (h _ (List.getElem_mem hm))
      · have hx : l.getD m zeroL = zeroL := by rw [List.getD_eq_getElem?_getD, List.getElem?_eq_none (by omega)]; rfl
        rw [hx]; simp [manyL, zeroL]
    rw [wN]; omega
theorem wait_lo {l : List Lane} {me : Nat} : ∀ k, me + k ≤ l.length → (waitL l me k).length + wN l me = wN l (me + k)
  | 0, _ => by simp [waitL]
  | k + 1, hk => by
    have ih := wait_lo (l := l) (me := me) k (by omega)
    rw [waitL, List.length_append, List.length_replicate, Nat.mod_eq_of_lt (by omega), ← Nat.add_assoc, wN]; omega
theorem wait_hi {l : List Lane} {me : Nat} (hme : me < l.length) : ∀ r, r ≤ me → (waitL l me (l.length - me + r)).length + wN l me = wN l l.length + wN l r
  | 0, _ => by
    have := wait_lo (l := l) (me := me) (l.length - me) (by omega)
    rw [Nat.add_zero, this, show me + (l.length - me) = l.length by omega]; simp [wN]
  | r + 1, hr => by
    have ih := wait_hi hme r (by omega)
    rw [← Nat.add_assoc, waitL, List.length_append, List.length_replicate, show (me + (l.length - me + r)) % l.length = r by
      rw [show me + (l.length - me + r) = r + l.length by omega, Nat.add_mod_right, Nat.mod_eq_of_lt (by omega)], wN]; omega
theorem wait_all {l : List Lane} {me : Nat} (hme : me < l.length) : (waitL l me l.length).length = wN l l.length := by
  have := wait_hi hme me (Nat.le_refl _)
  rw [show l.length - me + me = l.length by omega] at this; omega
theorem find_any (p : Entry → Bool) : ∀ l : List Entry, (findF p l).2 = l.any p
  | [] => rfl
  | e :: r => by
    have ih := find_any p r
    unfold findF at *
    rw [List.find?_cons]
    cases h : p e with
    | true => simp [h]
    | false => simp only [List.any_cons, h, Bool.false_or]; exact ih
/-- Is something said, and what. -/
theorem say_is {t : Turn} {l : List Lane} {me : Nat} {q : Int} (hme : me < l.length) (ln : Lane) (hx : l[me]? = some ln) :
    (sayQ t l me q).2 = (decide ((me : Int) = t.Who) && decide (0 < wN l l.length) && !(ln.L.any isCtl) && decide (t.Used < q)) := by
  have hgd : l.getD me zeroL = ln := by rw [List.getD_eq_getElem?_getD, hx]; rfl
  have hw := wait_all hme
  unfold sayQ
  by_cases h1 : t.Who = me
  · rw [if_neg (by omega), hgd, find_any, decide_eq_true (by omega)]
    cases hc : ln.L.any isCtl with
    | true => simp
    | false =>
      rw [if_neg (by simp)]
      have hs : someQ t l me q = [] ↔ ¬ (0 < wN l l.length ∧ t.Used < q) := by
        unfold someQ
        rw [List.take_eq_nil_iff, ← List.length_eq_zero_iff, hw]; omega
      by_cases h2 : someQ t l me q = []
      · rw [if_pos h2]
        have := hs.1 h2
        by_cases h3 : 0 < wN l l.length
        · have h4 : ¬ t.Used < q := fun h => this ⟨h3, h⟩
          simp [h3, h4]
        · simp [h3]
      · rw [if_neg h2]
        have h3 : 0 < wN l l.length ∧ t.Used < q := by
          by_cases h : 0 < wN l l.length ∧ t.Used < q
          · exact h
          · exact absurd (hs.2 h) h2
        simp [h3.1, h3.2]
  · rw [if_pos (by omega), decide_eq_false (by omega)]; simp
/-- What is said: the messages' members. -/
theorem say_row {t : Turn} {l : List Lane} {me : Nat} {q : Int} (hme : me < l.length) : (sayQ t l me q).1.L = [] ∨ (sayQ t l me q).1.L = someQ t l me q := by
  unfold sayQ
  split
  · exact .inl rfl
  · split
    · exact .inl rfl
    · split
      · exact .inl rfl
      · exact .inr rfl
theorem say_len {t : Turn} {l : List Lane} {me : Nat} {q : Int} (hme : me < l.length) (h : (sayQ t l me q).2 = true) : (sayQ t l me q).1.L = someQ t l me q ∧ (someQ t l me q).length = min (wN l l.length) (q - t.Used).toNat := by
  refine ⟨?_, by unfold someQ; rw [List.length_take, wait_all hme, Nat.min_comm]⟩
  unfold sayQ at *
  split
  · rename_i h1; rw [if_pos h1] at h; cases h
  · rename_i h1
    rw [if_neg h1] at h
    split
    · rename_i h2; rw [if_pos h2] at h; cases h
    · rename_i h2
      rw [if_neg h2] at h
      split
      · rename_i h3; rw [if_pos h3] at h; cases h
      · rfl
theorem say_pair {t : Turn} {l : List Lane} {me : Nat} {q : Int} (hme : me < l.length) : (∀ v ∈ (sayQ t l me q).1.L, ∃ i : Nat, v = i ∧ i < l.length) ∧ ((sayQ t l me q).1.L).Pairwise fun a b => rndI a me l.length ≤ rndI b me l.length := by
  obtain ⟨h1, h2⟩ := wait_pair hme l.length (Nat.le_refl _)
  rcases say_row (t := t) (q := q) hme with h | h
  · rw [h]; exact ⟨fun v hv => by simp at hv, List.Pairwise.nil⟩
  · rw [h]
    unfold someQ
    exact ⟨fun v hv => by obtain ⟨i, a, b, _⟩ := h1 v (List.mem_of_mem_take hv); exact ⟨i, a, b⟩, h2.sublist (List.take_sublist _ _)⟩
theorem many_take {l : List Entry} {k : Nat} {e : Entry} (h : l[k]? = some e) : manyL (l.take (k + 1)) = manyL (l.take k) + if e.Kind = 1 then 1 else 0 := by
  rw [List.take_add_one, h]
  simp only [Option.toList, manyL, List.filter_append, List.length_append]
  by_cases hk : e.Kind = 1
  · simp [isMsg, hk]
  · simp [isMsg, hk]
theorem any_take {l : List Entry} {k : Nat} {e : Entry} (h : l[k]? = some e) : (l.take (k + 1)).any isCtl = ((l.take k).any isCtl || isCtl e) := by
  rw [List.take_add_one, h]
  simp [Option.toList, List.any_append]
end Go.Proofs.Ytogappokeheilaa
