import Derived.Test.YtogappokeheilaaB8
import Derived.Test.YtogappokeheilaaAw25
set_option linter.unusedVariables false
set_option linter.unusedSimpArgs false
set_option maxRecDepth 100000
set_option maxHeartbeats 0
namespace Go.Proofs.Ytogappokeheilaa
open Go.Aw

theorem poc_102 (l : List Entry) (hl : l.length ≤ 1000) : POC Try.prog 102 [bEs l] 49 5 (l.map entP) := by
  refine POC.mk (fun args w => Try.call102 args w) fun H K h1 => ?_
  rw [List.length_map] at h1
  refine ACall.promote 49 5 (by decide) ?_
  refine ACall.of_AW (fun args w => Try.call102 args w) Try.func102 rfl (by simp [Try.ntmps102]) ?_
  simp only [Try.ntmps102, List.length_append, List.length_cons, List.length_nil, List.cons_append, List.nil_append, List.map_cons, List.map_nil, Nat.zero_add, Nat.reduceAdd, capAV]
  all_goals repeat' (first | (refine Zc ?_ ?_ <;> intro h <;> (try simp [go_sem] at h) <;> try omega) | (refine Zi ?_; try simp only [AThen, ABlock]) | (refine Ze ?_; simp +decide only [AThen, ABlock, reduceIte]) | (refine Zt ?_; (try simp [go_sem]); all_goals (try simp [loR, lo]); all_goals try exact rfl) | ((first | refine Zq ?_ | refine Zr ?_ | refine Zw ?_ | refine Zx ?_); intro K hK; repeat' (first | ((first | refine Zs ?_ | refine Zl ?_ | refine Z0 ?_ | refine Zd ?_); intro HK hk; simp [go_sem]; (repeat refine ⟨by omega, ?_⟩); apply hk; clear hk HK) | ((first | refine Zg ?_ ?_ | refine Zh ?_ ?_ | refine Zp ?_ ?_ | refine Zk ?_ ?_) <;> intro hg <;> simp only [hg] <;> (try simp at hg) <;> try omega)); all_goals try ((first | refine Zn ?_ | refine Zm ?_); apply hK; clear hK K; try simp only [AThen, ABlock])) | refine Zz ?_ | refine Zb ?_)
  all_goals try exact rfl
  (first | refine Zs ?_ | refine Zl ?_ | refine Z0 ?_ | refine Zd ?_); intro HK hk; simp [go_sem]
  refine ⟨fun hne => ?_, fun he => ⟨?_, ?_⟩⟩ <;> apply hk <;> clear hk HK
  all_goals (refine aops_n ?_; apply hK; clear hK K; try simp only [AThen, ABlock])
  all_goals repeat' (first | (refine Zc ?_ ?_ <;> intro h <;> (try simp [go_sem] at h) <;> try omega) | (refine Zi ?_; try simp only [AThen, ABlock]) | (refine Ze ?_; simp +decide only [AThen, ABlock, reduceIte]) | (refine Zt ?_; (try simp [go_sem]); all_goals (try simp [loR, lo]); all_goals try exact rfl) | ((first | refine Zq ?_ | refine Zr ?_ | refine Zw ?_ | refine Zx ?_); intro K hK; repeat' (first | ((first | refine Zs ?_ | refine Zl ?_ | refine Z0 ?_ | refine Zd ?_); intro HK hk; simp [go_sem]; (repeat refine ⟨by omega, ?_⟩); apply hk; clear hk HK) | ((first | refine Zg ?_ ?_ | refine Zh ?_ ?_ | refine Zp ?_ ?_ | refine Zk ?_ ?_) <;> intro hg <;> simp only [hg] <;> (try simp at hg) <;> try omega)); all_goals try ((first | refine Zn ?_ | refine Zm ?_); apply hK; clear hK K; try simp only [AThen, ABlock])) | refine Zz ?_ | refine Zb ?_)
  all_goals try exact rfl
  · exact h1
  · exact h1
  · subst he; exact .inl h1

def delK (seq : Int) (l : List Entry) : Nat → List Entry
  | 0 => l
  | k + 1 => match l[k]? with
    | some x => if seqP seq x then delK seq l k else (delK seq l k).set (popN seq l k).length x
    | none => delK seq l k
theorem delK_facts (seq : Int) (l : List Entry) : ∀ k, k ≤ l.length → (delK seq l k).length = l.length ∧ (∀ j, k ≤ j → (delK seq l k)[j]? = l[j]?) ∧ (delK seq l k).take (popN seq l k).length = popN seq l k ∧ (popN seq l k).length ≤ k
  | 0, _ => ⟨rfl, fun j _ => rfl, rfl, Nat.le_refl _⟩
  | k + 1, h => by
    obtain ⟨h1, h2, h3, h4⟩ := delK_facts seq l k (by omega)
    obtain ⟨x, hx⟩ : ∃ x, l[k]? = some x := ⟨_, List.getElem?_eq_getElem (by omega)⟩
    have hp := popN_succ (seq := seq) hx
    simp only [delK, hx]
    cases hq : seqP seq x with
    | true =>
      rw [hq, if_pos rfl] at hp
      rw [hp]
      simp only [if_true]
      exact ⟨h1, fun j hj => h2 j (by omega), h3, by omega⟩
    | false =>
      rw [hq] at hp
      simp only [Bool.false_eq_true, if_false] at hp ⊢
      rw [hp, List.length_append, List.length_singleton, List.length_set]
      refine ⟨h1, fun j hj => ?_, ?_, by omega⟩
      · rw [List.getElem?_set_ne (by omega)]; exact h2 j (by omega)
      · rw [List.take_add_one, List.take_set_of_le (Nat.le_refl _), h3, List.getElem?_set_self (by omega)]; rfl
theorem popN_none {seq : Int} {l : List Entry} {k : Nat} (h : ∀ y, y ∈ l.take k → seqP seq y = false) : popN seq l k = l.take k := by
  unfold popN
  rw [List.filter_eq_self]
  intro y hy; rw [h y hy]; rfl
theorem delK_first {seq : Int} {l : List Entry} {i : Nat} (h : ∀ y, y ∈ l.take i → seqP seq y = false) : ∀ k, k ≤ i → k ≤ l.length → delK seq l k = l
  | 0, _, _ => rfl
  | k + 1, h1, h2 => by
    obtain ⟨x, hx⟩ : ∃ x, l[k]? = some x := ⟨_, List.getElem?_eq_getElem (by omega)⟩
    have hq : seqP seq x = false := h x (by rw [List.mem_take_iff_getElem]; exact ⟨k, by omega, (List.getElem?_eq_some_iff.1 hx).2⟩)
    have hn : popN seq l k = l.take k := popN_none fun y hy => h y (by
      obtain ⟨j, hj, rfl⟩ := List.mem_take_iff_getElem.1 hy
      exact List.mem_take_iff_getElem.2 ⟨j, by omega, rfl⟩)
    simp only [delK, hx, hq, Bool.false_eq_true, if_false]
    rw [delK_first h k (by omega) (by omega), hn, List.length_take, Nat.min_eq_left (by omega)]
    apply List.ext_getElem?
    intro j
    by_cases hj : k = j
    · subst hj; rw [List.getElem?_set_self (by omega), hx]
    · rw [List.getElem?_set_ne hj]
end Go.Proofs.Ytogappokeheilaa
