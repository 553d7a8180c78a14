import Derived.Test.YtcobhlghjddphaaA8
set_option linter.unusedVariables false
set_option linter.unusedSimpArgs false
set_option maxRecDepth 100000
namespace Go.Proofs.Ytcobhlghjddphaa
open Go.Aw

theorem chunk_get (m : Nat) : ∀ (k : Nat) (b : List UInt8) (i : Nat), i < k → (chunk m k b)[i]? = some ((b.drop (i * m)).take m)
  | 0, b, i, h => by omega
  | k + 1, b, 0, h => by simp [chunk]
  | k + 1, b, i + 1, h => by
    rw [chunk, List.getElem?_cons_succ, chunk_get m k (b.drop m) i (by omega), List.drop_drop]
    rw [show m + i * m = (i + 1) * m by rw [Nat.add_mul]; omega]
/-- The pieces: N of them. -/
structure Cuts (b : List UInt8) (M N : Nat) : Prop where
  pos : 0 < M
  len : (cutF b M).length = N
  get : ∀ i, i < N → (cutF b M)[i]? = some ((b.drop (i * M)).take M)
  one : 1 ≤ N
  many : manyF b.length M = (N : Int)
  hi : b.length ≤ N * M
  lo : 1 < N → (N - 1) * M < b.length
  le : N ≤ b.length + 1
theorem cuts (b : List UInt8) (M : Nat) (hM : 0 < M) : ∃ N, Cuts b M N := by
  obtain ⟨f1, f2, f3, f4, f5⟩ := many_facts (b := b.length) (m := M) (by omega) (by omega)
  obtain ⟨N, hN⟩ : ∃ N : Nat, manyF b.length M = (N : Int) := ⟨(manyF b.length M).toNat, by omega⟩
  rw [hN] at f1 f2 f3 f4 f5
  have e : cutF b M = chunk M N b := by unfold cutF; rw [hN]; rfl
  refine ⟨N, hM, by rw [e]; exact chunk_len _ _ _, fun i hi => by rw [e]; exact chunk_get _ _ _ _ hi, by omega, hN, ?_, fun h => ?_, by omega⟩
  · have : ((b.length : Nat) : Int) ≤ ((N * M : Nat) : Int) := by rw [Int.natCast_mul]; exact f2
    omega
  · have h1 := f3 (by omega)
    have : (((N - 1) * M : Nat) : Int) < ((b.length : Nat) : Int) := by
      rw [Int.natCast_mul, show ((N - 1 : Nat) : Int) = (N : Int) - 1 by omega]; exact h1
    omega
theorem Cuts.piece {b : List UInt8} {M N i : Nat} (c : Cuts b M N) (hi : i < N) : ((b.drop (i * M)).take M).length ≤ M ∧ (i + 1 < N → ((b.drop (i * M)).take M).length = M) ∧ (0 < b.length → 0 < ((b.drop (i * M)).take M).length) := by
  have h1 : (i + 1 < N → (i + 1) * M ≤ (N - 1) * M) := fun h => Nat.mul_le_mul_right _ (by omega)
  have h2 : i * M ≤ (N - 1) * M := Nat.mul_le_mul_right _ (by omega)
  have h3 : (i + 1) * M = i * M + M := by rw [Nat.add_mul, Nat.one_mul]
  have h4 := c.lo
  have hp := c.pos
  rw [List.length_take, List.length_drop]
  refine ⟨by omega, fun h => by have := h1 h; have := h4 (by omega); omega, fun h => ?_⟩
  by_cases hN : 1 < N
  · have := h4 hN; omega
  · have : i = 0 := by omega
    subst this; omega
theorem Cuts.cat {b : List UInt8} {M N : Nat} (c : Cuts b M N) : ∀ i, i ≤ N → catN (cutF b M) i = b.take (i * M)
  | 0, _ => by simp [catN]
  | i + 1, h => by
    rw [catN_succ _ _ _ (c.get i (by omega)), c.cat i (by omega), Nat.add_mul, Nat.one_mul, List.take_add]
theorem Cuts.all {b : List UInt8} {M N : Nat} (c : Cuts b M N) : catN (cutF b M) N = b := by
  rw [c.cat N (Nat.le_refl _)]; exact List.take_of_length_le c.hi

theorem Cuts.elem {b : List UInt8} {M N i : Nat} (c : Cuts b M N) (hi : i < N) : ∃ x, (cutF b M)[i]? = some x ∧ x.length ≤ M ∧ (i + 1 < N → x.length = M) ∧ (0 < b.length → 0 < x.length) ∧
    catN (cutF b M) (i + 1) = catN (cutF b M) i ++ x ∧ (catN (cutF b M) i).length + x.length ≤ b.length := by
  obtain ⟨h1, h2, h3⟩ := c.piece hi
  have h4 := catN_succ _ _ _ (c.get i hi)
  refine ⟨_, c.get i hi, h1, h2, h3, h4, ?_⟩
  have h5 := congrArg List.length h4
  rw [List.length_append] at h5
  have h6 := catN_le (cutF b M) (i + 1)
  rw [c.len, c.all] at h6
  omega
theorem pc_9 (b : List UInt8) (m : Int) (hm : m ≤ 9223372036854775807) : PC Try.prog 9 [(false, [bsP b]), bI m] (.one (bB true)) := by
  refine PC.of_ACall (ACall.of_AW (fun args w => Try.call9 args w) Try.func9 rfl (by simp [Try.ntmps9]) ?_)
  simp only [Try.ntmps9, List.length_nil]
  all_goals repeat' (first | (refine Zc ?_ ?_ <;> intro h <;> (try simp [go_sem] at h) <;> try omega) | (refine Zi ?_; try simp only [AThen, ABlock]) | (refine Ze ?_; simp +decide only [AThen, ABlock, reduceIte]) | (refine Zt ?_; (try simp [go_sem]); all_goals (try simp [loR, lo]); all_goals try exact rfl) | ((first | refine Zq ?_ | refine Zr ?_ | refine Zw ?_ | refine Zx ?_); intro K hK; repeat' (first | ((first | refine Zs ?_ | refine Zl ?_ | refine Z0 ?_ | refine Zd ?_); intro HK hk; simp [go_sem]; (repeat refine ⟨by omega, ?_⟩); apply hk; clear hk HK) | ((first | refine Zg ?_ ?_ | refine Zh ?_ ?_ | refine Zp ?_ ?_ | refine Zk ?_ ?_) <;> intro hg <;> simp only [hg] <;> (try simp at hg) <;> try omega)); all_goals try ((first | refine Zn ?_ | refine Zm ?_); apply hK; clear hK K; try simp only [AThen, ABlock])) | refine Zz ?_ | refine Zb ?_)
  all_goals try exact rfl
  (first | refine Zs ?_ | refine Z0 ?_ | refine Zd ?_); intro HK hk; simp [go_sem]; (repeat refine ⟨by omega, ?_⟩); (first | refine ACall.pur rfl (pc_24) ?_ | refine ACallD.mk rfl (pc_24) ?_); simp [go_sem]; (repeat refine ⟨by omega, ?_⟩); apply hk; clear hk HK; repeat' (first | ((first | refine Zs ?_ | refine Zl ?_ | refine Z0 ?_ | refine Zd ?_); intro HK hk; simp [go_sem]; (repeat refine ⟨by omega, ?_⟩); apply hk; clear hk HK) | ((first | refine Zg ?_ ?_ | refine Zh ?_ ?_ | refine Zp ?_ ?_ | refine Zk ?_ ?_) <;> intro hg <;> simp only [hg] <;> (try simp at hg) <;> try omega))
  all_goals try ((first | refine Zn ?_ | refine Zm ?_); apply hK; clear hK K; try simp only [AThen, ABlock])
  all_goals repeat' (first | (refine Zc ?_ ?_ <;> intro h <;> (try simp [go_sem] at h) <;> try omega) | (refine Zi ?_; try simp only [AThen, ABlock]) | (refine Ze ?_; simp +decide only [AThen, ABlock, reduceIte]) | (refine Zt ?_; (try simp [go_sem]); all_goals (try simp [loR, lo]); all_goals try exact rfl) | ((first | refine Zq ?_ | refine Zr ?_ | refine Zw ?_ | refine Zx ?_); intro K hK; repeat' (first | ((first | refine Zs ?_ | refine Zl ?_ | refine Z0 ?_ | refine Zd ?_); intro HK hk; simp [go_sem]; (repeat refine ⟨by omega, ?_⟩); apply hk; clear hk HK) | ((first | refine Zg ?_ ?_ | refine Zh ?_ ?_ | refine Zp ?_ ?_ | refine Zk ?_ ?_) <;> intro hg <;> simp only [hg] <;> (try simp at hg) <;> try omega)); all_goals try ((first | refine Zn ?_ | refine Zm ?_); apply hK; clear hK K; try simp only [AThen, ABlock])) | refine Zz ?_ | refine Zb ?_)
  all_goals try exact rfl
  have hb : b.length ≤ 2000 := by omega
  (first | refine Zs ?_ | refine Z0 ?_ | refine Zd ?_); intro HK hk; simp [go_sem]; (repeat refine ⟨by omega, ?_⟩); (first | refine ACall.pur rfl (pc_30 b m hm (by omega)) ?_ | refine ACallD.mk rfl (pc_30 b m hm (by omega)) ?_); simp [go_sem]; (repeat refine ⟨by omega, ?_⟩); apply hk; clear hk HK; repeat' (first | ((first | refine Zs ?_ | refine Zl ?_ | refine Z0 ?_ | refine Zd ?_); intro HK hk; simp [go_sem]; (repeat refine ⟨by omega, ?_⟩); apply hk; clear hk HK) | ((first | refine Zg ?_ ?_ | refine Zh ?_ ?_ | refine Zp ?_ ?_ | refine Zk ?_ ?_) <;> intro hg <;> simp only [hg] <;> (try simp at hg) <;> try omega))
  all_goals try ((first | refine Zn ?_ | refine Zm ?_); apply hK; clear hK K; try simp only [AThen, ABlock])
  all_goals repeat' (first | (refine Zc ?_ ?_ <;> intro h <;> (try simp [go_sem] at h) <;> try omega) | (refine Zi ?_; try simp only [AThen, ABlock]) | (refine Ze ?_; simp +decide only [AThen, ABlock, reduceIte]) | (refine Zt ?_; (try simp [go_sem]); all_goals (try simp [loR, lo]); all_goals try exact rfl) | ((first | refine Zq ?_ | refine Zr ?_ | refine Zw ?_ | refine Zx ?_); intro K hK; repeat' (first | ((first | refine Zs ?_ | refine Zl ?_ | refine Z0 ?_ | refine Zd ?_); intro HK hk; simp [go_sem]; (repeat refine ⟨by omega, ?_⟩); apply hk; clear hk HK) | ((first | refine Zg ?_ ?_ | refine Zh ?_ ?_ | refine Zp ?_ ?_ | refine Zk ?_ ?_) <;> intro hg <;> simp only [hg] <;> (try simp at hg) <;> try omega)); all_goals try ((first | refine Zn ?_ | refine Zm ?_); apply hK; clear hK K; try simp only [AThen, ABlock])) | refine Zz ?_ | refine Zb ?_)
  all_goals try exact rfl
  · (first | refine Zs ?_ | refine Z0 ?_ | refine Zd ?_); intro HK hk; simp [go_sem]; (repeat refine ⟨by omega, ?_⟩); (first | refine ACall.pur rfl (pc_27 b.length m (by omega)) ?_ | refine ACallD.mk rfl (pc_27 b.length m (by omega)) ?_); simp [go_sem]; (repeat refine ⟨by omega, ?_⟩); apply hk; clear hk HK; repeat' (first | ((first | refine Zs ?_ | refine Zl ?_ | refine Z0 ?_ | refine Zd ?_); intro HK hk; simp [go_sem]; (repeat refine ⟨by omega, ?_⟩); apply hk; clear hk HK) | ((first | refine Zg ?_ ?_ | refine Zh ?_ ?_ | refine Zp ?_ ?_ | refine Zk ?_ ?_) <;> intro hg <;> simp only [hg] <;> (try simp at hg) <;> try omega))
    all_goals try ((first | refine Zn ?_ | refine Zm ?_); apply hK; clear hK K; try simp only [AThen, ABlock])
    all_goals repeat' (first | (refine Zc ?_ ?_ <;> intro h <;> (try simp [go_sem] at h) <;> try omega) | (refine Zi ?_; try simp only [AThen, ABlock]) | (refine Ze ?_; simp +decide only [AThen, ABlock, reduceIte]) | (refine Zt ?_; (try simp [go_sem]); all_goals (try simp [loR, lo]); all_goals try exact rfl) | ((first | refine Zq ?_ | refine Zr ?_ | refine Zw ?_ | refine Zx ?_); intro K hK; repeat' (first | ((first | refine Zs ?_ | refine Zl ?_ | refine Z0 ?_ | refine Zd ?_); intro HK hk; simp [go_sem]; (repeat refine ⟨by omega, ?_⟩); apply hk; clear hk HK) | ((first | refine Zg ?_ ?_ | refine Zh ?_ ?_ | refine Zp ?_ ?_ | refine Zk ?_ ?_) <;> intro hg <;> simp only [hg] <;> (try simp at hg) <;> try omega)); all_goals try ((first | refine Zn ?_ | refine Zm ?_); apply hK; clear hK K; try simp only [AThen, ABlock])) | refine Zz ?_ | refine Zb ?_)
    all_goals try exact rfl
    unfold manyF; rw [if_pos (.inr (by omega))]
  · have he : cutF b m = [] := by unfold cutF manyF; rw [if_pos (.inr (by omega))]; rfl
    exact absurd he (by assumption)
  · obtain ⟨M, rfl⟩ : ∃ M : Nat, m = M := ⟨m.toNat, by omega⟩
    obtain ⟨N, c⟩ := cuts b M (by omega)
    have hle := c.le
    have hlen := c.len
    have hone := c.one
    have hw1 : IntKind.i64.wrap ((N : Int) - 1) = (N : Int) - 1 := wrapI (by omega) (by omega)
    refine AW.weak (Sub.promote 7 5 1 (by decide) rfl) ?_
    refine AW.upto N (fun _ => True) (fun k => [(8, .c (.p (.int .i64 k))), (7, .c (.own 0 (catN (cutF b M) k).length)), (6, .c (.p (rowP (cutF b M)))), (5, .c (.p (.bool true))), (0, .c (.p (bsP b))), (1, .c (.p (.int .i64 M)))])
      (fun k => [.arr 5 1 0 ((catN (cutF b M) k).map encB)]) trivial ?_ fun k hk _ => ?_
    · refine Sub.of 1 (by simp) (by first | (simp [catN_zero]; done) | (simp [go_sem, catN_zero]; done)) (by simp [go_sem]) ?_ (by simp [go_sem])
      simp [go_sem, catN_zero]
    · all_goals repeat' (first | (refine Zc ?_ ?_ <;> intro h <;> (try simp [go_sem, hlen, hw1] at h) <;> try omega) | (refine Zi ?_; try simp only [AThen, ABlock]) | (refine Ze ?_; simp +decide only [AThen, ABlock, reduceIte]) | (refine Zt ?_; (try simp [go_sem, hlen, hw1]); all_goals (try simp [loR, lo]); all_goals try exact rfl) | ((first | refine Zq ?_ | refine Zr ?_ | refine Zw ?_ | refine Zx ?_); intro K hK; repeat' (first | ((first | refine Zs ?_ | refine Zl ?_ | refine Z0 ?_ | refine Zd ?_); intro HK hk; simp [go_sem, hlen, hw1]; (repeat refine ⟨by omega, ?_⟩); apply hk; clear hk HK) | ((first | refine Zg ?_ ?_ | refine Zh ?_ ?_ | refine Zp ?_ ?_ | refine Zk ?_ ?_) <;> intro hg <;> simp only [hg] <;> (try simp at hg) <;> try omega)); all_goals try ((first | refine Zn ?_ | refine Zm ?_); apply hK; clear hK K; try simp only [AThen, ABlock])) | refine Zz ?_ | refine Zb ?_)
      all_goals try exact rfl
      · obtain ⟨x, hx, x1, x2, x3, x4, x5⟩ := c.elem (show k < N by omega)
        have hkN := h
        have hw2 := wrapS (show (k : Int) < 9223372036854775807 by omega)
        all_goals (repeat' (first | ((first | refine Zs ?_ | refine Zl ?_ | refine Z0 ?_ | refine Zd ?_); intro HK hk; simp [go_sem, hx, hw1]; (repeat refine ⟨by omega, ?_⟩); apply hk; clear hk HK) | ((first | refine Zg ?_ ?_ | refine Zh ?_ ?_ | refine Zp ?_ ?_ | refine Zk ?_ ?_) <;> intro hg <;> simp only [hg] <;> (try simp at hg) <;> try omega)))
        all_goals try ((first | refine Zn ?_ | refine Zm ?_); apply hK; clear hK K; try simp only [AThen, ABlock])
        all_goals repeat' (first | (refine Zc ?_ ?_ <;> intro h <;> (try simp [go_sem, hx, hw2, hlen] at h) <;> try omega) | (refine Zi ?_; try simp only [AThen, ABlock]) | (refine Ze ?_; simp +decide only [AThen, ABlock, reduceIte]) | (refine Zt ?_; (try simp [go_sem, hx, hw2, hlen]); all_goals (try simp [loR, lo]); all_goals try exact rfl) | ((first | refine Zq ?_ | refine Zr ?_ | refine Zw ?_ | refine Zx ?_); intro K hK; repeat' (first | ((first | refine Zs ?_ | refine Zl ?_ | refine Z0 ?_ | refine Zd ?_); intro HK hk; simp [go_sem, hx, hw2, hlen]; (repeat refine ⟨by omega, ?_⟩); apply hk; clear hk HK) | ((first | refine Zg ?_ ?_ | refine Zh ?_ ?_ | refine Zp ?_ ?_ | refine Zk ?_ ?_) <;> intro hg <;> simp only [hg] <;> (try simp at hg) <;> try omega)); all_goals try ((first | refine Zn ?_ | refine Zm ?_); apply hK; clear hK K; try simp only [AThen, ABlock])) | refine Zz ?_ | refine Zb ?_)
        all_goals try exact rfl
        · exfalso; have hxe : x = [] := by assumption
          have x6 := x3 (by omega)
          rw [hxe] at x6; simp at x6
        all_goals
          refine ⟨hkN, trivial, ?_⟩
          refine Sub.of 1 (by simp) (by first | (simp [x4]; done) | (simp [go_sem, x4]; done)) (by simp [go_sem]) ?_ (by simp [go_sem])
          simp [go_sem, x4]
      · obtain ⟨x, hx, x1, x2, x3, x4, x5⟩ := c.elem (show k < N by omega)
        have hkN := h
        have hw2 := wrapS (show (k : Int) < 9223372036854775807 by omega)
        all_goals (repeat' (first | ((first | refine Zs ?_ | refine Zl ?_ | refine Z0 ?_ | refine Zd ?_); intro HK hk; simp [go_sem, hx, hw1]; (repeat refine ⟨by omega, ?_⟩); apply hk; clear hk HK) | ((first | refine Zg ?_ ?_ | refine Zh ?_ ?_ | refine Zp ?_ ?_ | refine Zk ?_ ?_) <;> intro hg <;> simp only [hg] <;> (try simp at hg) <;> try omega)))
        all_goals try ((first | refine Zn ?_ | refine Zm ?_); apply hK; clear hK K; try simp only [AThen, ABlock])
        all_goals repeat' (first | (refine Zc ?_ ?_ <;> intro h <;> (try simp [go_sem, hx, hw2, hlen] at h) <;> try omega) | (refine Zi ?_; try simp only [AThen, ABlock]) | (refine Ze ?_; simp +decide only [AThen, ABlock, reduceIte]) | (refine Zt ?_; (try simp [go_sem, hx, hw2, hlen]); all_goals (try simp [loR, lo]); all_goals try exact rfl) | ((first | refine Zq ?_ | refine Zr ?_ | refine Zw ?_ | refine Zx ?_); intro K hK; repeat' (first | ((first | refine Zs ?_ | refine Zl ?_ | refine Z0 ?_ | refine Zd ?_); intro HK hk; simp [go_sem, hx, hw2, hlen]; (repeat refine ⟨by omega, ?_⟩); apply hk; clear hk HK) | ((first | refine Zg ?_ ?_ | refine Zh ?_ ?_ | refine Zp ?_ ?_ | refine Zk ?_ ?_) <;> intro hg <;> simp only [hg] <;> (try simp at hg) <;> try omega)); all_goals try ((first | refine Zn ?_ | refine Zm ?_); apply hK; clear hK K; try simp only [AThen, ABlock])) | refine Zz ?_ | refine Zb ?_)
        all_goals try exact rfl
        · exfalso; have hxe : x = [] := by assumption
          have x6 := x3 (by omega)
          rw [hxe] at x6; simp at x6
        all_goals
          refine ⟨hkN, trivial, ?_⟩
          refine Sub.of 1 (by simp) (by first | (simp [x4]; done) | (simp [go_sem, x4]; done)) (by simp [go_sem]) ?_ (by simp [go_sem])
          simp [go_sem, x4]
      · obtain rfl : k = N := by omega
        exact c.all

def partAt (s total : Int) (i : Nat) (b : List UInt8) : Part := if i = 0 then ⟨0, 0, 0, []⟩ else ⟨s, total, i, b⟩
theorem add_at {s s' total : Int} {i : Nat} {b x : List UInt8} (hi : (i : Int) < total) (ht : total ≤ 32) (h0 : i = 0 → s' = s ∧ b = []) :
    addF (partAt s total i b) s' i total x = if (i : Int) + 1 = total then (⟨0, 0, 0, []⟩, b ++ x, true, 0) else (partAt s total (i + 1) (b ++ x), [], false, 0) := by
  by_cases h : i = 0
  · obtain ⟨rfl, rfl⟩ := h0 h
    subst h
    have hc : ¬ (total < 1 ∨ 32 < total ∨ ((0 : Nat) : Int) ≠ (partAt s' total 0 []).Got ∨ ((partAt s' total 0 []).Got ≠ 0 ∧ total ≠ (partAt s' total 0 []).Total)) := by simp [partAt]; omega
    unfold addF
    rw [if_neg hc]
    simp [partAt]
  · have hw : IntKind.i64.wrap ((i : Int) + 1) = (i : Int) + 1 := wrapI (by omega) (by omega)
    have hc : ¬ (total < 1 ∨ 32 < total ∨ (i : Int) ≠ (partAt s total i b).Got ∨ ((partAt s total i b).Got ≠ 0 ∧ total ≠ (partAt s total i b).Total)) := by simp [partAt, h]; omega
    unfold addF
    rw [if_neg hc]
    have hi0 : ¬ (i : Int) = 0 := by omega
    simp [partAt, h, hw, hi0]
theorem partAt_len (s total : Int) (i : Nat) (b : List UInt8) : (partAt s total i b).B.length ≤ b.length := by unfold partAt; split <;> simp
end Go.Proofs.Ytcobhlghjddphaa
