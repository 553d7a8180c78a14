import Derived.Test.YtogappokeheilaaB15
set_option linter.unusedVariables false
set_option linter.unusedSimpArgs false
set_option maxRecDepth 100000
set_option maxHeartbeats 0
namespace Go.Proofs.Ytogappokeheilaa
open Go.Aw

def inN (l : List Int) (m : Int) : Bool := l.all fun n => decide (0 ≤ n ∧ n ≤ m)
theorem inN_bad {l : List Int} {m : Int} {k : Nat} {x : Int} (hx : l[k]? = some x) (h : x < 0 ∨ m < x) : inN l m = false := by
  unfold inN
  rw [List.all_eq_false]
  exact ⟨x, List.mem_of_getElem? hx, by simp; omega⟩
theorem inN_all {l : List Int} {m : Int} (h : ∀ x, x ∈ l.take l.length → 0 ≤ x ∧ x ≤ m) : inN l m = true := by
  unfold inN
  rw [List.take_length] at h
  simpa using h
theorem pc_83 (l : List Int) (m : Int) : PC Try.prog 83 [(false, [isP l]), bI m] (.one (bB (inN l m))) := by
  refine PC.of_ACall (ACall.of_AW (fun args w => Try.call83 args w) Try.func83 rfl (by simp [Try.ntmps83]) ?_)
  simp only [Try.ntmps83, List.length_nil]
  all_goals repeat' (first | (refine Zc ?_ ?_ <;> intro h <;> (try simp [go_sem] at h) <;> try omega) | (refine Zi ?_; try simp only [AThen, ABlock]) | (refine Ze ?_; simp +decide only [AThen, ABlock, reduceIte]) | (refine Zt ?_; (try simp [go_sem]); all_goals (try simp [loR, lo]); all_goals try exact rfl) | ((first | refine Zq ?_ | refine Zr ?_ | refine Zw ?_ | refine Zx ?_); intro K hK; repeat' (first | ((first | refine Zs ?_ | refine Zl ?_ | refine Z0 ?_ | refine Zd ?_); intro HK hk; simp [go_sem]; (repeat refine ⟨by omega, ?_⟩); apply hk; clear hk HK) | ((first | refine Zg ?_ ?_ | refine Zh ?_ ?_ | refine Zp ?_ ?_ | refine Zk ?_ ?_) <;> intro hg <;> simp only [hg] <;> (try simp at hg) <;> try omega)); all_goals try ((first | refine Zn ?_ | refine Zm ?_); apply hK; clear hK K; try simp only [AThen, ABlock])) | refine Zz ?_ | refine Zb ?_)
  all_goals try exact rfl
  refine AW.len 0 rfl fun hl => ?_; simp only [List.length_map] at hl
  refine AW.upto l.length (fun k => ∀ x, x ∈ l.take k → 0 ≤ x ∧ x ≤ m) (fun k => [(5, .c (.p (.int .i64 k))), (0, .c (.p (isP l))), (1, .c (.p (.int .i64 m)))]) (fun _ => []) (by simp) ?_ fun k hk hj => ?_
  · refine Sub.of 0 (by simp) (by first | (simp; done) | (simp [go_sem]; done)) (by simp [go_sem]) ?_ (by simp [go_sem])
    simp [go_sem]
  · all_goals repeat' (first | (refine Zc ?_ ?_ <;> intro h <;> (try simp [go_sem] at h) <;> try omega) | (refine Zi ?_; try simp only [AThen, ABlock]) | (refine Ze ?_; simp +decide only [AThen, ABlock, reduceIte]) | (refine Zt ?_; (try simp [go_sem]); all_goals (try simp [loR, lo]); all_goals try exact rfl) | ((first | refine Zq ?_ | refine Zr ?_ | refine Zw ?_ | refine Zx ?_); intro K hK; repeat' (first | ((first | refine Zs ?_ | refine Zl ?_ | refine Z0 ?_ | refine Zd ?_); intro HK hk; simp [go_sem]; (repeat refine ⟨by omega, ?_⟩); apply hk; clear hk HK) | ((first | refine Zg ?_ ?_ | refine Zh ?_ ?_ | refine Zp ?_ ?_ | refine Zk ?_ ?_) <;> intro hg <;> simp only [hg] <;> (try simp at hg) <;> try omega)); all_goals try ((first | refine Zn ?_ | refine Zm ?_); apply hK; clear hK K; try simp only [AThen, ABlock])) | refine Zz ?_ | refine Zb ?_)
    all_goals try exact rfl
    · have hkl := h
      obtain ⟨x, hx⟩ : ∃ x, l[k]? = some x := ⟨_, List.getElem?_eq_getElem hkl⟩
      have hw := wrapS (show (k : Int) < 9223372036854775807 by omega)
      all_goals (repeat' (first | ((first | refine Zs ?_ | refine Zl ?_ | refine Z0 ?_ | refine Zd ?_); intro HK hk; simp [go_sem, hx, hw]; (repeat refine ⟨by omega, ?_⟩); apply hk; clear hk HK) | ((first | refine Zg ?_ ?_ | refine Zh ?_ ?_ | refine Zp ?_ ?_ | refine Zk ?_ ?_) <;> intro hg <;> simp only [hg] <;> (try simp at hg) <;> try omega)))
      all_goals try ((first | refine Zn ?_ | refine Zm ?_); apply hK; clear hK K; try simp only [AThen, ABlock])
      all_goals repeat' (first | (refine Zc ?_ ?_ <;> intro h <;> (try simp [go_sem, hx, hw] at h) <;> try omega) | (refine Zi ?_; try simp only [AThen, ABlock]) | (refine Ze ?_; simp +decide only [AThen, ABlock, reduceIte]) | (refine Zt ?_; (try simp [go_sem, hx, hw]); all_goals (try simp [loR, lo]); all_goals try exact rfl) | ((first | refine Zq ?_ | refine Zr ?_ | refine Zw ?_ | refine Zx ?_); intro K hK; repeat' (first | ((first | refine Zs ?_ | refine Zl ?_ | refine Z0 ?_ | refine Zd ?_); intro HK hk; simp [go_sem, hx, hw]; (repeat refine ⟨by omega, ?_⟩); apply hk; clear hk HK) | ((first | refine Zg ?_ ?_ | refine Zh ?_ ?_ | refine Zp ?_ ?_ | refine Zk ?_ ?_) <;> intro hg <;> simp only [hg] <;> (try simp at hg) <;> try omega)); all_goals try ((first | refine Zn ?_ | refine Zm ?_); apply hK; clear hK K; try simp only [AThen, ABlock])) | refine Zz ?_ | refine Zb ?_)
      all_goals try exact rfl
      · rw [inN_bad hx (.inl (by omega))]
      · rw [inN_bad hx (.inr (by omega))]
      · refine ⟨hkl, take_all_succ hx hj ⟨by omega, by omega⟩, ?_⟩
        refine Sub.of 0 (by simp) (by first | (simp; done) | (simp [go_sem]; done)) (by simp [go_sem]) ?_ (by simp [go_sem])
        simp [go_sem]
    · obtain rfl : k = l.length := by omega
      rw [inN_all hj]
def mayI (t : Aw.Item) : Bool :=
  decide (1 ≤ t.Seq ∧ t.Seq ≤ 4611686018427387904 ∧ 0 ≤ t.Epoch ∧ t.Epoch ≤ 4611686018427387904 ∧
    ((t.Kind = 1 ∧ 1 ≤ t.Total ∧ t.Total ≤ 32 ∧ 0 ≤ t.Index ∧ t.Index < t.Total ∧ t.Count = 0 ∧ t.L.length = 0 ∧ t.Body.length ≤ 1024) ∨
     (t.Kind = 2 ∧ inN t.L 63 = true ∧ 0 ≤ t.Index ∧ t.Index ≤ 1 ∧ t.Total = 0 ∧ t.Count = 0 ∧ t.Body.length = 0 ∧ 1 ≤ t.L.length ∧ t.L.length ≤ 64) ∨
     (t.Kind = 3 ∧ t.L.length = 0 ∧ t.Body.length = 0 ∧ t.Index = 0 ∧ t.Total = 0 ∧ t.Count = 0) ∨
     (t.Kind = 4 ∧ t.L.length = 0 ∧ t.Body.length = 0 ∧ 0 ≤ t.Index ∧ t.Index ≤ 1 ∧ t.Total = 0 ∧ t.Count = 0) ∨
     (t.Kind = 5 ∧ t.L.length = 0 ∧ t.Body.length = 0 ∧ t.Index = 0 ∧ t.Total = 0 ∧ 0 ≤ t.Count ∧ t.Count ≤ 4611686018427387904) ∨
     (t.Kind = 6 ∧ inN t.L 4611686018427387904 = true ∧ t.Index = 0 ∧ t.Total = 0 ∧ t.Count = 0 ∧ t.Body.length = 0 ∧ 2 ≤ t.L.length ∧ t.L.length ≤ 64)))
theorem mayI_no {t : Aw.Item} (h : ¬ (1 ≤ t.Seq ∧ t.Seq ≤ 4611686018427387904 ∧ 0 ≤ t.Epoch ∧ t.Epoch ≤ 4611686018427387904 ∧
    ((t.Kind = 1 ∧ 1 ≤ t.Total ∧ t.Total ≤ 32 ∧ 0 ≤ t.Index ∧ t.Index < t.Total ∧ t.Count = 0 ∧ t.L.length = 0 ∧ t.Body.length ≤ 1024) ∨
     (t.Kind = 2 ∧ inN t.L 63 = true ∧ 0 ≤ t.Index ∧ t.Index ≤ 1 ∧ t.Total = 0 ∧ t.Count = 0 ∧ t.Body.length = 0 ∧ 1 ≤ t.L.length ∧ t.L.length ≤ 64) ∨
     (t.Kind = 3 ∧ t.L.length = 0 ∧ t.Body.length = 0 ∧ t.Index = 0 ∧ t.Total = 0 ∧ t.Count = 0) ∨
     (t.Kind = 4 ∧ t.L.length = 0 ∧ t.Body.length = 0 ∧ 0 ≤ t.Index ∧ t.Index ≤ 1 ∧ t.Total = 0 ∧ t.Count = 0) ∨
     (t.Kind = 5 ∧ t.L.length = 0 ∧ t.Body.length = 0 ∧ t.Index = 0 ∧ t.Total = 0 ∧ 0 ≤ t.Count ∧ t.Count ≤ 4611686018427387904) ∨
     (t.Kind = 6 ∧ inN t.L 4611686018427387904 = true ∧ t.Index = 0 ∧ t.Total = 0 ∧ t.Count = 0 ∧ t.Body.length = 0 ∧ 2 ≤ t.L.length ∧ t.L.length ≤ 64)))) : mayI t = false := decide_eq_false h
theorem nil_len {α : Type} {l : List α} (h : l = []) : l.length = 0 := by rw [h]; rfl
theorem not_nil_len {α : Type} {l : List α} (h : ¬ l = []) : l.length ≠ 0 := fun g => h (List.eq_nil_of_length_eq_zero g)
theorem pc_39 (t : Aw.Item) : PC Try.prog 39 [bT t] (.one (bB (mayI t))) := by
  refine PC.of_ACall (ACall.of_AW (fun args w => Try.call39 args w) Try.func39 rfl (by simp [Try.ntmps39]) ?_)
  simp only [Try.ntmps39, List.length_nil]
  all_goals repeat' (first | (refine Zc ?_ ?_ <;> intro h <;> (try simp [go_sem] at h) <;> try omega) | (refine Zi ?_; try simp only [AThen, ABlock]) | (refine Ze ?_; simp +decide only [AThen, ABlock, reduceIte]) | (refine Zt ?_; (try simp [go_sem]); all_goals (try simp [loR, lo]); all_goals try exact rfl) | ((first | refine Zq ?_ | refine Zr ?_ | refine Zw ?_ | refine Zx ?_); intro K hK; repeat' (first | ((first | refine Zs ?_ | refine Zl ?_ | refine Z0 ?_ | refine Zd ?_); intro HK hk; simp [go_sem]; (repeat refine ⟨by omega, ?_⟩); apply hk; clear hk HK) | ((first | refine Zg ?_ ?_ | refine Zh ?_ ?_ | refine Zp ?_ ?_ | refine Zk ?_ ?_) <;> intro hg <;> simp only [hg] <;> (try simp at hg) <;> try omega)); all_goals try ((first | refine Zn ?_ | refine Zm ?_); apply hK; clear hK K; try simp only [AThen, ABlock])) | refine Zz ?_ | refine Zb ?_)
  all_goals try exact rfl
  all_goals try (first
    | (with_reducible refine mayI_no ?_; (try simp only [← List.length_eq_zero_iff] at *); omega)
    | (with_reducible refine (Bool.eq_iff_iff.2 ?_ : (_ : Bool) = mayI t); unfold mayI; simp only [decide_eq_true_eq, beq_iff_eq]; (try simp only [← List.length_eq_zero_iff] at *); omega))
  · (first | refine Zs ?_ | refine Z0 ?_ | refine Zd ?_); intro HK hk; simp [go_sem]; (repeat refine ⟨by omega, ?_⟩); (first | refine ACall.pur rfl (pc_83 t.L 63) ?_ | refine ACallD.mk rfl (pc_83 t.L 63) ?_); simp [go_sem]; (repeat refine ⟨by omega, ?_⟩); apply hk; clear hk HK; repeat' (first | ((first | refine Zs ?_ | refine Zl ?_ | refine Z0 ?_ | refine Zd ?_); intro HK hk; simp [go_sem]; (repeat refine ⟨by omega, ?_⟩); apply hk; clear hk HK) | ((first | refine Zg ?_ ?_ | refine Zh ?_ ?_ | refine Zp ?_ ?_ | refine Zk ?_ ?_) <;> intro hg <;> simp only [hg] <;> (try simp at hg) <;> try omega))
    all_goals try ((first | refine Zn ?_ | refine Zm ?_); apply hK; clear hK K; try simp only [AThen, ABlock])
    cases hN : inN t.L 63 with
    | false =>
      all_goals repeat' (first | (refine Zc ?_ ?_ <;> intro h <;> (try simp [go_sem, hN] at h) <;> try omega) | (refine Zi ?_; try simp only [AThen, ABlock]) | (refine Ze ?_; simp +decide only [AThen, ABlock, reduceIte]) | (refine Zt ?_; (try simp [go_sem, hN]); all_goals (try simp [loR, lo]); all_goals try exact rfl) | ((first | refine Zq ?_ | refine Zr ?_ | refine Zw ?_ | refine Zx ?_); intro K hK; repeat' (first | ((first | refine Zs ?_ | refine Zl ?_ | refine Z0 ?_ | refine Zd ?_); intro HK hk; simp [go_sem, hN]; (repeat refine ⟨by omega, ?_⟩); apply hk; clear hk HK) | ((first | refine Zg ?_ ?_ | refine Zh ?_ ?_ | refine Zp ?_ ?_ | refine Zk ?_ ?_) <;> intro hg <;> simp only [hg] <;> (try simp at hg) <;> try omega)); all_goals try ((first | refine Zn ?_ | refine Zm ?_); apply hK; clear hK K; try simp only [AThen, ABlock])) | refine Zz ?_ | refine Zb ?_)
      all_goals try exact rfl
      all_goals (first
    | (with_reducible refine mayI_no ?_; simp only [hN, Bool.false_eq_true, false_and, and_false, or_false, false_or, true_and, and_true]; (try simp only [← List.length_eq_zero_iff] at *); omega)
    | (with_reducible refine (Bool.eq_iff_iff.2 ?_ : (_ : Bool) = mayI t); unfold mayI; simp only [hN, Bool.false_eq_true, false_and, and_false, or_false, false_or, true_and, and_true, decide_eq_true_eq, beq_iff_eq]; (try simp only [← List.length_eq_zero_iff] at *); omega))
    | true =>
      all_goals repeat' (first | (refine Zc ?_ ?_ <;> intro h <;> (try simp [go_sem, hN] at h) <;> try omega) | (refine Zi ?_; try simp only [AThen, ABlock]) | (refine Ze ?_; simp +decide only [AThen, ABlock, reduceIte]) | (refine Zt ?_; (try simp [go_sem, hN]); all_goals (try simp [loR, lo]); all_goals try exact rfl) | ((first | refine Zq ?_ | refine Zr ?_ | refine Zw ?_ | refine Zx ?_); intro K hK; repeat' (first | ((first | refine Zs ?_ | refine Zl ?_ | refine Z0 ?_ | refine Zd ?_); intro HK hk; simp [go_sem, hN]; (repeat refine ⟨by omega, ?_⟩); apply hk; clear hk HK) | ((first | refine Zg ?_ ?_ | refine Zh ?_ ?_ | refine Zp ?_ ?_ | refine Zk ?_ ?_) <;> intro hg <;> simp only [hg] <;> (try simp at hg) <;> try omega)); all_goals try ((first | refine Zn ?_ | refine Zm ?_); apply hK; clear hK K; try simp only [AThen, ABlock])) | refine Zz ?_ | refine Zb ?_)
      all_goals try exact rfl
      all_goals (first
    | (with_reducible refine mayI_no ?_; simp only [hN, Bool.false_eq_true, false_and, and_false, or_false, false_or, true_and, and_true]; (try simp only [← List.length_eq_zero_iff] at *); omega)
    | (with_reducible refine (Bool.eq_iff_iff.2 ?_ : (_ : Bool) = mayI t); unfold mayI; simp only [hN, Bool.false_eq_true, false_and, and_false, or_false, false_or, true_and, and_true, decide_eq_true_eq, beq_iff_eq]; (try simp only [← List.length_eq_zero_iff] at *); omega))
  · (first | refine Zs ?_ | refine Z0 ?_ | refine Zd ?_); intro HK hk; simp [go_sem]; (repeat refine ⟨by omega, ?_⟩); (first | refine ACall.pur rfl (pc_83 t.L 4611686018427387904) ?_ | refine ACallD.mk rfl (pc_83 t.L 4611686018427387904) ?_); simp [go_sem]; (repeat refine ⟨by omega, ?_⟩); apply hk; clear hk HK; repeat' (first | ((first | refine Zs ?_ | refine Zl ?_ | refine Z0 ?_ | refine Zd ?_); intro HK hk; simp [go_sem]; (repeat refine ⟨by omega, ?_⟩); apply hk; clear hk HK) | ((first | refine Zg ?_ ?_ | refine Zh ?_ ?_ | refine Zp ?_ ?_ | refine Zk ?_ ?_) <;> intro hg <;> simp only [hg] <;> (try simp at hg) <;> try omega))
    all_goals try ((first | refine Zn ?_ | refine Zm ?_); apply hK; clear hK K; try simp only [AThen, ABlock])
    cases hN : inN t.L 4611686018427387904 with
    | false =>
      all_goals repeat' (first | (refine Zc ?_ ?_ <;> intro h <;> (try simp [go_sem, hN] at h) <;> try omega) | (refine Zi ?_; try simp only [AThen, ABlock]) | (refine Ze ?_; simp +decide only [AThen, ABlock, reduceIte]) | (refine Zt ?_; (try simp [go_sem, hN]); all_goals (try simp [loR, lo]); all_goals try exact rfl) | ((first | refine Zq ?_ | refine Zr ?_ | refine Zw ?_ | refine Zx ?_); intro K hK; repeat' (first | ((first | refine Zs ?_ | refine Zl ?_ | refine Z0 ?_ | refine Zd ?_); intro HK hk; simp [go_sem, hN]; (repeat refine ⟨by omega, ?_⟩); apply hk; clear hk HK) | ((first | refine Zg ?_ ?_ | refine Zh ?_ ?_ | refine Zp ?_ ?_ | refine Zk ?_ ?_) <;> intro hg <;> simp only [hg] <;> (try simp at hg) <;> try omega)); all_goals try ((first | refine Zn ?_ | refine Zm ?_); apply hK; clear hK K; try simp only [AThen, ABlock])) | refine Zz ?_ | refine Zb ?_)
      all_goals try exact rfl
      all_goals (first
    | (with_reducible refine mayI_no ?_; simp only [hN, Bool.false_eq_true, false_and, and_false, or_false, false_or, true_and, and_true]; (try simp only [← List.length_eq_zero_iff] at *); omega)
    | (with_reducible refine (Bool.eq_iff_iff.2 ?_ : (_ : Bool) = mayI t); unfold mayI; simp only [hN, Bool.false_eq_true, false_and, and_false, or_false, false_or, true_and, and_true, decide_eq_true_eq, beq_iff_eq]; (try simp only [← List.length_eq_zero_iff] at *); omega))
    | true =>
      all_goals repeat' (first | (refine Zc ?_ ?_ <;> intro h <;> (try simp [go_sem, hN] at h) <;> try omega) | (refine Zi ?_; try simp only [AThen, ABlock]) | (refine Ze ?_; simp +decide only [AThen, ABlock, reduceIte]) | (refine Zt ?_; (try simp [go_sem, hN]); all_goals (try simp [loR, lo]); all_goals try exact rfl) | ((first | refine Zq ?_ | refine Zr ?_ | refine Zw ?_ | refine Zx ?_); intro K hK; repeat' (first | ((first | refine Zs ?_ | refine Zl ?_ | refine Z0 ?_ | refine Zd ?_); intro HK hk; simp [go_sem, hN]; (repeat refine ⟨by omega, ?_⟩); apply hk; clear hk HK) | ((first | refine Zg ?_ ?_ | refine Zh ?_ ?_ | refine Zp ?_ ?_ | refine Zk ?_ ?_) <;> intro hg <;> simp only [hg] <;> (try simp at hg) <;> try omega)); all_goals try ((first | refine Zn ?_ | refine Zm ?_); apply hK; clear hK K; try simp only [AThen, ABlock])) | refine Zz ?_ | refine Zb ?_)
      all_goals try exact rfl
      all_goals (first
    | (with_reducible refine mayI_no ?_; simp only [hN, Bool.false_eq_true, false_and, and_false, or_false, false_or, true_and, and_true]; (try simp only [← List.length_eq_zero_iff] at *); omega)
    | (with_reducible refine (Bool.eq_iff_iff.2 ?_ : (_ : Bool) = mayI t); unfold mayI; simp only [hN, Bool.false_eq_true, false_and, and_false, or_false, false_or, true_and, and_true, decide_eq_true_eq, beq_iff_eq]; (try simp only [← List.length_eq_zero_iff] at *); omega))
  · (first | refine Zs ?_ | refine Z0 ?_ | refine Zd ?_); intro HK hk; simp [go_sem]; (repeat refine ⟨by omega, ?_⟩); (first | refine ACall.pur rfl (pc_83 t.L 63) ?_ | refine ACallD.mk rfl (pc_83 t.L 63) ?_); simp [go_sem]; (repeat refine ⟨by omega, ?_⟩); apply hk; clear hk HK; repeat' (first | ((first | refine Zs ?_ | refine Zl ?_ | refine Z0 ?_ | refine Zd ?_); intro HK hk; simp [go_sem]; (repeat refine ⟨by omega, ?_⟩); apply hk; clear hk HK) | ((first | refine Zg ?_ ?_ | refine Zh ?_ ?_ | refine Zp ?_ ?_ | refine Zk ?_ ?_) <;> intro hg <;> simp only [hg] <;> (try simp at hg) <;> try omega))
    all_goals try ((first | refine Zn ?_ | refine Zm ?_); apply hK; clear hK K; try simp only [AThen, ABlock])
    cases hN : inN t.L 63 with
    | false =>
      all_goals repeat' (first | (refine Zc ?_ ?_ <;> intro h <;> (try simp [go_sem, hN] at h) <;> try omega) | (refine Zi ?_; try simp only [AThen, ABlock]) | (refine Ze ?_; simp +decide only [AThen, ABlock, reduceIte]) | (refine Zt ?_; (try simp [go_sem, hN]); all_goals (try simp [loR, lo]); all_goals try exact rfl) | ((first | refine Zq ?_ | refine Zr ?_ | refine Zw ?_ | refine Zx ?_); intro K hK; repeat' (first | ((first | refine Zs ?_ | refine Zl ?_ | refine Z0 ?_ | refine Zd ?_); intro HK hk; simp [go_sem, hN]; (repeat refine ⟨by omega, ?_⟩); apply hk; clear hk HK) | ((first | refine Zg ?_ ?_ | refine Zh ?_ ?_ | refine Zp ?_ ?_ | refine Zk ?_ ?_) <;> intro hg <;> simp only [hg] <;> (try simp at hg) <;> try omega)); all_goals try ((first | refine Zn ?_ | refine Zm ?_); apply hK; clear hK K; try simp only [AThen, ABlock])) | refine Zz ?_ | refine Zb ?_)
      all_goals try exact rfl
      all_goals (first
    | (with_reducible refine mayI_no ?_; simp only [hN, Bool.false_eq_true, false_and, and_false, or_false, false_or, true_and, and_true]; (try simp only [← List.length_eq_zero_iff] at *); omega)
    | (with_reducible refine (Bool.eq_iff_iff.2 ?_ : (_ : Bool) = mayI t); unfold mayI; simp only [hN, Bool.false_eq_true, false_and, and_false, or_false, false_or, true_and, and_true, decide_eq_true_eq, beq_iff_eq]; (try simp only [← List.length_eq_zero_iff] at *); omega))
    | true =>
      all_goals repeat' (first | (refine Zc ?_ ?_ <;> intro h <;> (try simp [go_sem, hN] at h) <;> try omega) | (refine Zi ?_; try simp only [AThen, ABlock]) | (refine Ze ?_; simp +decide only [AThen, ABlock, reduceIte]) | (refine Zt ?_; (try simp [go_sem, hN]); all_goals (try simp [loR, lo]); all_goals try exact rfl) | ((first | refine Zq ?_ | refine Zr ?_ | refine Zw ?_ | refine Zx ?_); intro K hK; repeat' (first | ((first | refine Zs ?_ | refine Zl ?_ | refine Z0 ?_ | refine Zd ?_); intro HK hk; simp [go_sem, hN]; (repeat refine ⟨by omega, ?_⟩); apply hk; clear hk HK) | ((first | refine Zg ?_ ?_ | refine Zh ?_ ?_ | refine Zp ?_ ?_ | refine Zk ?_ ?_) <;> intro hg <;> simp only [hg] <;> (try simp at hg) <;> try omega)); all_goals try ((first | refine Zn ?_ | refine Zm ?_); apply hK; clear hK K; try simp only [AThen, ABlock])) | refine Zz ?_ | refine Zb ?_)
      all_goals try exact rfl
      all_goals (first
    | (with_reducible refine mayI_no ?_; simp only [hN, Bool.false_eq_true, false_and, and_false, or_false, false_or, true_and, and_true]; (try simp only [← List.length_eq_zero_iff] at *); omega)
    | (with_reducible refine (Bool.eq_iff_iff.2 ?_ : (_ : Bool) = mayI t); unfold mayI; simp only [hN, Bool.false_eq_true, false_and, and_false, or_false, false_or, true_and, and_true, decide_eq_true_eq, beq_iff_eq]; (try simp only [← List.length_eq_zero_iff] at *); omega))
  · (first | refine Zs ?_ | refine Z0 ?_ | refine Zd ?_); intro HK hk; simp [go_sem]; (repeat refine ⟨by omega, ?_⟩); (first | refine ACall.pur rfl (pc_83 t.L 4611686018427387904) ?_ | refine ACallD.mk rfl (pc_83 t.L 4611686018427387904) ?_); simp [go_sem]; (repeat refine ⟨by omega, ?_⟩); apply hk; clear hk HK; repeat' (first | ((first | refine Zs ?_ | refine Zl ?_ | refine Z0 ?_ | refine Zd ?_); intro HK hk; simp [go_sem]; (repeat refine ⟨by omega, ?_⟩); apply hk; clear hk HK) | ((first | refine Zg ?_ ?_ | refine Zh ?_ ?_ | refine Zp ?_ ?_ | refine Zk ?_ ?_) <;> intro hg <;> simp only [hg] <;> (try simp at hg) <;> try omega))
    all_goals try ((first | refine Zn ?_ | refine Zm ?_); apply hK; clear hK K; try simp only [AThen, ABlock])
    cases hN : inN t.L 4611686018427387904 with
    | false =>
      all_goals repeat' (first | (refine Zc ?_ ?_ <;> intro h <;> (try simp [go_sem, hN] at h) <;> try omega) | (refine Zi ?_; try simp only [AThen, ABlock]) | (refine Ze ?_; simp +decide only [AThen, ABlock, reduceIte]) | (refine Zt ?_; (try simp [go_sem, hN]); all_goals (try simp [loR, lo]); all_goals try exact rfl) | ((first | refine Zq ?_ | refine Zr ?_ | refine Zw ?_ | refine Zx ?_); intro K hK; repeat' (first | ((first | refine Zs ?_ | refine Zl ?_ | refine Z0 ?_ | refine Zd ?_); intro HK hk; simp [go_sem, hN]; (repeat refine ⟨by omega, ?_⟩); apply hk; clear hk HK) | ((first | refine Zg ?_ ?_ | refine Zh ?_ ?_ | refine Zp ?_ ?_ | refine Zk ?_ ?_) <;> intro hg <;> simp only [hg] <;> (try simp at hg) <;> try omega)); all_goals try ((first | refine Zn ?_ | refine Zm ?_); apply hK; clear hK K; try simp only [AThen, ABlock])) | refine Zz ?_ | refine Zb ?_)
      all_goals try exact rfl
      all_goals (first
    | (with_reducible refine mayI_no ?_; simp only [hN, Bool.false_eq_true, false_and, and_false, or_false, false_or, true_and, and_true]; (try simp only [← List.length_eq_zero_iff] at *); omega)
    | (with_reducible refine (Bool.eq_iff_iff.2 ?_ : (_ : Bool) = mayI t); unfold mayI; simp only [hN, Bool.false_eq_true, false_and, and_false, or_false, false_or, true_and, and_true, decide_eq_true_eq, beq_iff_eq]; (try simp only [← List.length_eq_zero_iff] at *); omega))
    | true =>
      all_goals repeat' (first | (refine Zc ?_ ?_ <;> intro h <;> (try simp [go_sem, hN] at h) <;> try omega) | (refine Zi ?_; try simp only [AThen, ABlock]) | (refine Ze ?_; simp +decide only [AThen, ABlock, reduceIte]) | (refine Zt ?_; (try simp [go_sem, hN]); all_goals (try simp [loR, lo]); all_goals try exact rfl) | ((first | refine Zq ?_ | refine Zr ?_ | refine Zw ?_ | refine Zx ?_); intro K hK; repeat' (first | ((first | refine Zs ?_ | refine Zl ?_ | refine Z0 ?_ | refine Zd ?_); intro HK hk; simp [go_sem, hN]; (repeat refine ⟨by omega, ?_⟩); apply hk; clear hk HK) | ((first | refine Zg ?_ ?_ | refine Zh ?_ ?_ | refine Zp ?_ ?_ | refine Zk ?_ ?_) <;> intro hg <;> simp only [hg] <;> (try simp at hg) <;> try omega)); all_goals try ((first | refine Zn ?_ | refine Zm ?_); apply hK; clear hK K; try simp only [AThen, ABlock])) | refine Zz ?_ | refine Zb ?_)
      all_goals try exact rfl
      all_goals (first
    | (with_reducible refine mayI_no ?_; simp only [hN, Bool.false_eq_true, false_and, and_false, or_false, false_or, true_and, and_true]; (try simp only [← List.length_eq_zero_iff] at *); omega)
    | (with_reducible refine (Bool.eq_iff_iff.2 ?_ : (_ : Bool) = mayI t); unfold mayI; simp only [hN, Bool.false_eq_true, false_and, and_false, or_false, false_or, true_and, and_true, decide_eq_true_eq, beq_iff_eq]; (try simp only [← List.length_eq_zero_iff] at *); omega))
end Go.Proofs.Ytogappokeheilaa
