import Derived.Test.YtcobhlghjddphaaA7
set_option linter.unusedVariables false
set_option linter.unusedSimpArgs false
set_option maxRecDepth 100000
namespace Go.Proofs.Ytcobhlghjddphaa
open Go.Aw

def addBad (p : Part) (index total : Int) : Prop := total < 1 ∨ 32 < total ∨ index ≠ p.Got ∨ (p.Got ≠ 0 ∧ total ≠ p.Total)
theorem add_bad {p : Part} {seq index total : Int} {b : List UInt8} (h : addBad p index total) : addF p seq index total b = (p, [], false, 2) := by
  unfold addBad at h; unfold addF; rw [if_pos h]
theorem add_good {p : Part} {seq index total : Int} {b : List UInt8} (h : ¬ addBad p index total) : (addF p seq index total b).2.2.2 = 0 ∧ (addF p seq index total b).2.2.1 = decide ((if p.Got = 0 then 1 else IntKind.i64.wrap (p.Got + 1)) = total) := by
  unfold addBad at h; unfold addF; rw [if_neg h]
  simp only
  by_cases hx : (if p.Got = 0 then 1 else IntKind.i64.wrap (p.Got + 1)) = total
  · rw [if_pos hx]; simp only [hx, decide_true, and_self]
  · rw [if_neg hx]; simp only [hx, decide_false, and_self]
theorem whole_iff {g total : Int} (h1 : 1 ≤ total) (h2 : total ≤ 32) (hg : -9223372036854775808 ≤ g ∧ g ≤ 9223372036854775807) : decide ((if g = 0 then 1 else IntKind.i64.wrap (g + 1)) = total) = decide (g = total - 1) := by
  congr 1
  by_cases h0 : g = 0
  · rw [if_pos h0]; subst h0; apply propext; omega
  · rw [if_neg h0, i64w]; apply propext; omega
theorem pc_10 (p : Part) (index total : Int) (b : List UInt8) (hgot : -9223372036854775808 ≤ p.Got ∧ p.Got ≤ 9223372036854775807) :
    PC Try.prog 10 [(true, [.int .i64 p.Seq, .int .i64 p.Total, .int .i64 p.Got, bsP p.B, .int .i64 index, .int .i64 total, bsP b])] (.one (bB true)) := by
  refine PC.of_ACall (ACall.of_AW (fun args w => Try.call10 args w) Try.func10 rfl (by simp [Try.ntmps10]) ?_)
  simp only [Try.ntmps10, List.length_nil]
  all_goals repeat' (first | (refine Zc ?_ ?_ <;> intro h <;> (try simp [go_sem] at h) <;> try omega) | (refine Zi ?_; try simp only [AThen, ABlock]) | (refine Ze ?_; simp +decide only [AThen, ABlock, reduceIte]) | (refine Zt ?_; (try simp [go_sem]); all_goals (try simp [loR, lo]); all_goals try exact rfl) | ((first | refine Zq ?_ | refine Zr ?_ | refine Zw ?_ | refine Zx ?_); intro K hK; repeat' (first | ((first | refine Zs ?_ | refine Zl ?_ | refine Z0 ?_ | refine Zd ?_); intro HK hk; simp [go_sem]; (repeat refine ⟨by omega, ?_⟩); apply hk; clear hk HK) | ((first | refine Zg ?_ ?_ | refine Zh ?_ ?_ | refine Zp ?_ ?_ | refine Zk ?_ ?_) <;> intro hg <;> simp only [hg] <;> (try simp at hg) <;> try omega)); all_goals try ((first | refine Zn ?_ | refine Zm ?_); apply hK; clear hK K; try simp only [AThen, ABlock])) | refine Zz ?_ | refine Zb ?_)
  all_goals try exact rfl
  (first | refine Zs ?_ | refine Z0 ?_ | refine Zd ?_); intro HK hk; simp [go_sem]; (repeat refine ⟨by omega, ?_⟩); (first | refine ACall.pur rfl (pc_24) ?_ | refine ACallD.mk rfl (pc_24) ?_); simp [go_sem]; (repeat refine ⟨by omega, ?_⟩); apply hk; clear hk HK; repeat' (first | ((first | refine Zs ?_ | refine Zl ?_ | refine Z0 ?_ | refine Zd ?_); intro HK hk; simp [go_sem]; (repeat refine ⟨by omega, ?_⟩); apply hk; clear hk HK) | ((first | refine Zg ?_ ?_ | refine Zh ?_ ?_ | refine Zp ?_ ?_ | refine Zk ?_ ?_) <;> intro hg <;> simp only [hg] <;> (try simp at hg) <;> try omega))
  all_goals try ((first | refine Zn ?_ | refine Zm ?_); apply hK; clear hK K; try simp only [AThen, ABlock])
  all_goals repeat' (first | (refine Zc ?_ ?_ <;> intro h <;> (try simp [go_sem] at h) <;> try omega) | (refine Zi ?_; try simp only [AThen, ABlock]) | (refine Ze ?_; simp +decide only [AThen, ABlock, reduceIte]) | (refine Zt ?_; (try simp [go_sem]); all_goals (try simp [loR, lo]); all_goals try exact rfl) | ((first | refine Zq ?_ | refine Zr ?_ | refine Zw ?_ | refine Zx ?_); intro K hK; repeat' (first | ((first | refine Zs ?_ | refine Zl ?_ | refine Z0 ?_ | refine Zd ?_); intro HK hk; simp [go_sem]; (repeat refine ⟨by omega, ?_⟩); apply hk; clear hk HK) | ((first | refine Zg ?_ ?_ | refine Zh ?_ ?_ | refine Zp ?_ ?_ | refine Zk ?_ ?_) <;> intro hg <;> simp only [hg] <;> (try simp at hg) <;> try omega)); all_goals try ((first | refine Zn ?_ | refine Zm ?_); apply hK; clear hK K; try simp only [AThen, ABlock])) | refine Zz ?_ | refine Zb ?_)
  all_goals try exact rfl
  have hp : p.B.length ≤ 2000 := by omega
  have hb : b.length ≤ 2000 := by omega
  (first | refine Zs ?_ | refine Z0 ?_ | refine Zd ?_); intro HK hk; simp [go_sem]; (repeat refine ⟨by omega, ?_⟩); (first | refine ACall.pur rfl (pc_25 p 7 index total b (by omega) (by omega)) ?_ | refine ACallD.mk rfl (pc_25 p 7 index total b (by omega) (by omega)) ?_); simp [go_sem]; (repeat refine ⟨by omega, ?_⟩); apply hk; clear hk HK; repeat' (first | ((first | refine Zs ?_ | refine Zl ?_ | refine Z0 ?_ | refine Zd ?_); intro HK hk; simp [go_sem]; (repeat refine ⟨by omega, ?_⟩); apply hk; clear hk HK) | ((first | refine Zg ?_ ?_ | refine Zh ?_ ?_ | refine Zp ?_ ?_ | refine Zk ?_ ?_) <;> intro hg <;> simp only [hg] <;> (try simp at hg) <;> try omega))
  all_goals try ((first | refine Zn ?_ | refine Zm ?_); apply hK; clear hK K; try simp only [AThen, ABlock])
  by_cases hc : addBad p index total
  · have ha := add_bad (seq := 7) (b := b) hc
    all_goals repeat' (first | (refine Zc ?_ ?_ <;> intro h <;> (try simp [go_sem, ha] at h) <;> try omega) | (refine Zi ?_; try simp only [AThen, ABlock]) | (refine Ze ?_; simp +decide only [AThen, ABlock, reduceIte]) | (refine Zt ?_; (try simp [go_sem, ha]); all_goals (try simp [loR, lo]); all_goals try exact rfl) | ((first | refine Zq ?_ | refine Zr ?_ | refine Zw ?_ | refine Zx ?_); intro K hK; repeat' (first | ((first | refine Zs ?_ | refine Zl ?_ | refine Z0 ?_ | refine Zd ?_); intro HK hk; simp [go_sem, ha]; (repeat refine ⟨by omega, ?_⟩); apply hk; clear hk HK) | ((first | refine Zg ?_ ?_ | refine Zh ?_ ?_ | refine Zp ?_ ?_ | refine Zk ?_ ?_) <;> intro hg <;> simp only [hg] <;> (try simp at hg) <;> try omega)); all_goals try ((first | refine Zn ?_ | refine Zm ?_); apply hK; clear hK K; try simp only [AThen, ABlock])) | refine Zz ?_ | refine Zb ?_)
    all_goals try exact rfl
    (first | refine Zs ?_ | refine Z0 ?_ | refine Zd ?_); intro HK hk; simp [go_sem]; (repeat refine ⟨by omega, ?_⟩); (first | refine ACall.pur rfl (pc_32 p p) ?_ | refine ACallD.mk rfl (pc_32 p p) ?_); simp [go_sem, samePart, ha]; (repeat refine ⟨by omega, ?_⟩); apply hk; clear hk HK; repeat' (first | ((first | refine Zs ?_ | refine Zl ?_ | refine Z0 ?_ | refine Zd ?_); intro HK hk; simp [go_sem, samePart, ha]; (repeat refine ⟨by omega, ?_⟩); apply hk; clear hk HK) | ((first | refine Zg ?_ ?_ | refine Zh ?_ ?_ | refine Zp ?_ ?_ | refine Zk ?_ ?_) <;> intro hg <;> simp only [hg] <;> (try simp at hg) <;> try omega))
    all_goals try ((first | refine Zn ?_ | refine Zm ?_); apply hK; clear hK K; try simp only [AThen, ABlock])
    all_goals repeat' (first | (refine Zc ?_ ?_ <;> intro h <;> (try simp [go_sem, ha] at h) <;> try omega) | (refine Zi ?_; try simp only [AThen, ABlock]) | (refine Ze ?_; simp +decide only [AThen, ABlock, reduceIte]) | (refine Zt ?_; (try simp [go_sem, ha]); all_goals (try simp [loR, lo]); all_goals try exact rfl) | ((first | refine Zq ?_ | refine Zr ?_ | refine Zw ?_ | refine Zx ?_); intro K hK; repeat' (first | ((first | refine Zs ?_ | refine Zl ?_ | refine Z0 ?_ | refine Zd ?_); intro HK hk; simp [go_sem, ha]; (repeat refine ⟨by omega, ?_⟩); apply hk; clear hk HK) | ((first | refine Zg ?_ ?_ | refine Zh ?_ ?_ | refine Zp ?_ ?_ | refine Zk ?_ ?_) <;> intro hg <;> simp only [hg] <;> (try simp at hg) <;> try omega)); all_goals try ((first | refine Zn ?_ | refine Zm ?_); apply hK; clear hK K; try simp only [AThen, ABlock])) | refine Zz ?_ | refine Zb ?_)
    all_goals try exact rfl
  · obtain ⟨ha, hw⟩ := add_good (seq := 7) (b := b) hc
    unfold addBad at hc
    all_goals repeat' (first | (refine Zc ?_ ?_ <;> intro h <;> (try simp [go_sem, ha, hw] at h) <;> try omega) | (refine Zi ?_; try simp only [AThen, ABlock]) | (refine Ze ?_; simp +decide only [AThen, ABlock, reduceIte]) | (refine Zt ?_; (try simp [go_sem, ha, hw]); all_goals (try simp [loR, lo]); all_goals try exact rfl) | ((first | refine Zq ?_ | refine Zr ?_ | refine Zw ?_ | refine Zx ?_); intro K hK; repeat' (first | ((first | refine Zs ?_ | refine Zl ?_ | refine Z0 ?_ | refine Zd ?_); intro HK hk; simp [go_sem, ha, hw]; (repeat refine ⟨by omega, ?_⟩); apply hk; clear hk HK) | ((first | refine Zg ?_ ?_ | refine Zh ?_ ?_ | refine Zp ?_ ?_ | refine Zk ?_ ?_) <;> intro hg <;> simp only [hg] <;> (try simp at hg) <;> try omega)); all_goals try ((first | refine Zn ?_ | refine Zm ?_); apply hK; clear hK K; try simp only [AThen, ABlock])) | refine Zz ?_ | refine Zb ?_)
    all_goals try exact rfl
    all_goals
      rw [whole_iff (by omega) (by omega) hgot, wrapI (n := total - 1) (by omega) (by omega)]
      have hi : index = p.Got := by omega
      subst hi
      by_cases hq : p.Got = total - 1 <;> simp [hq]

theorem many_facts {b m : Int} (hb : 0 ≤ b) (hm : 1 ≤ m) : 1 ≤ manyF b m ∧ b ≤ manyF b m * m ∧ (1 < manyF b m → (manyF b m - 1) * m < b) ∧ manyF b m * m ≤ b + m ∧ manyF b m ≤ b + 1 := by
  unfold manyF
  rw [if_neg (by omega)]
  by_cases hz : b = 0
  · rw [if_pos hz]; omega
  · rw [if_neg hz]
    have h1 := Int.emod_add_mul_ediv (b - 1) m
    have h2 := Int.emod_nonneg (b - 1) (show m ≠ 0 by omega)
    have h3 := Int.emod_lt_of_pos (b - 1) (show 0 < m by omega)
    have h4 : 0 ≤ (b - 1) / m := Int.ediv_nonneg (by omega) (by omega)
    have h5 : (b - 1) / m ≤ b - 1 := Int.ediv_le_self _ (by omega)
    rw [Int.mul_comm] at h1
    generalize (b - 1) / m = q at *
    rw [Int.add_mul, Int.one_mul, Int.add_sub_cancel]
    omega
theorem many_mono {b c m : Int} (hb : 0 ≤ b) (hbc : b ≤ c) (hm : 1 ≤ m) : manyF b m ≤ manyF c m := by
  have := (many_facts (b := c) (m := m) (by omega) hm).1
  by_cases hz : b = 0
  · have : manyF b m = 1 := by unfold manyF; rw [if_neg (by omega), if_pos hz]
    omega
  · unfold manyF
    rw [if_neg (by omega), if_neg hz, if_neg (by omega), if_neg (by omega)]
    have := Int.ediv_le_ediv (show 0 < m by omega) (show b - 1 ≤ c - 1 by omega)
    omega
theorem many_anti {b m k : Int} (hb : 0 ≤ b) (hm : 1 ≤ m) (hk : m ≤ k) : manyF b k ≤ manyF b m := by
  unfold manyF
  rw [if_neg (show ¬ (b < 0 ∨ k < 1) by omega), if_neg (show ¬ (b < 0 ∨ m < 1) by omega)]
  by_cases hz : b = 0
  · rw [if_pos hz, if_pos hz]; exact Int.le_refl _
  · rw [if_neg hz, if_neg hz]
    have h1 := Int.emod_add_mul_ediv (b - 1) k
    have h2 := Int.emod_nonneg (b - 1) (show k ≠ 0 by omega)
    have h4 : 0 ≤ (b - 1) / k := Int.ediv_nonneg (by omega) (by omega)
    have h5 : (b - 1) / k * m ≤ (b - 1) / k * k := Int.mul_le_mul_of_nonneg_left hk h4
    have h6 : (b - 1) / k ≤ (b - 1) / m := Int.le_ediv_of_mul_le (by omega) (by rw [Int.mul_comm k] at h1; omega)
    omega
theorem pc_11 (n m d : Int) (hn : 0 ≤ n ∧ n ≤ 4294967295) (hm : 0 ≤ m ∧ m ≤ 65535) (hd : 0 ≤ d ∧ d ≤ 65535) :
    PC Try.prog 11 [(false, [.int .u32 n]), (false, [.int .u16 m]), (false, [.int .u16 d])] (.one (bB true)) := by
  have w1 : IntKind.i64.wrap n = n := wrapI (by omega) (by omega)
  have w2 : IntKind.i64.wrap m = m := wrapI (by omega) (by omega)
  have w3 : IntKind.i64.wrap d = d := wrapI (by omega) (by omega)
  have w4 : IntKind.i64.wrap (1 + m) = 1 + m := wrapI (by omega) (by omega)
  have w5 : IntKind.i64.wrap (n + d) = n + d := wrapI (by omega) (by omega)
  have w6 : IntKind.i64.wrap (1 + m + d) = 1 + m + d := wrapI (by omega) (by omega)
  obtain ⟨k1, k2, k3, k4, hkn⟩ := many_facts hn.1 (show 1 ≤ 1 + m by omega)
  have k5 := many_mono hn.1 (show n ≤ n + d by omega) (show 1 ≤ 1 + m by omega)
  have k6 := many_anti hn.1 (show 1 ≤ 1 + m by omega) (show 1 + m ≤ 1 + m + d by omega)
  refine PC.of_ACall (ACall.of_AW (fun args w => Try.call11 args w) Try.func11 rfl (by simp [Try.ntmps11]) ?_)
  simp only [Try.ntmps11, List.length_nil]
  all_goals repeat' (first | (refine Zc ?_ ?_ <;> intro h <;> (try simp [go_sem] at h) <;> try omega) | (refine Zi ?_; try simp only [AThen, ABlock]) | (refine Ze ?_; simp +decide only [AThen, ABlock, reduceIte]) | (refine Zt ?_; (try simp [go_sem]); all_goals (try simp [loR, lo]); all_goals try exact rfl) | ((first | refine Zq ?_ | refine Zr ?_ | refine Zw ?_ | refine Zx ?_); intro K hK; repeat' (first | ((first | refine Zs ?_ | refine Zl ?_ | refine Z0 ?_ | refine Zd ?_); intro HK hk; simp [go_sem]; (repeat refine ⟨by omega, ?_⟩); apply hk; clear hk HK) | ((first | refine Zg ?_ ?_ | refine Zh ?_ ?_ | refine Zp ?_ ?_ | refine Zk ?_ ?_) <;> intro hg <;> simp only [hg] <;> (try simp at hg) <;> try omega)); all_goals try ((first | refine Zn ?_ | refine Zm ?_); apply hK; clear hK K; try simp only [AThen, ABlock])) | refine Zz ?_ | refine Zb ?_)
  all_goals try exact rfl
  (first | refine Zs ?_ | refine Z0 ?_ | refine Zd ?_); intro HK hk; simp [go_sem]; (repeat refine ⟨by omega, ?_⟩); (first | refine ACall.pur rfl (pc_24) ?_ | refine ACallD.mk rfl (pc_24) ?_); simp [go_sem]; (repeat refine ⟨by omega, ?_⟩); apply hk; clear hk HK; repeat' (first | ((first | refine Zs ?_ | refine Zl ?_ | refine Z0 ?_ | refine Zd ?_); intro HK hk; simp [go_sem]; (repeat refine ⟨by omega, ?_⟩); apply hk; clear hk HK) | ((first | refine Zg ?_ ?_ | refine Zh ?_ ?_ | refine Zp ?_ ?_ | refine Zk ?_ ?_) <;> intro hg <;> simp only [hg] <;> (try simp at hg) <;> try omega))
  all_goals try ((first | refine Zn ?_ | refine Zm ?_); apply hK; clear hK K; try simp only [AThen, ABlock])
  all_goals repeat' (first | (refine Zc ?_ ?_ <;> intro h <;> (try simp [go_sem, w1, w2, w3, w4] at h) <;> try omega) | (refine Zi ?_; try simp only [AThen, ABlock]) | (refine Ze ?_; simp +decide only [AThen, ABlock, reduceIte]) | (refine Zt ?_; (try simp [go_sem, w1, w2, w3, w4]); all_goals (try simp [loR, lo]); all_goals try exact rfl) | ((first | refine Zq ?_ | refine Zr ?_ | refine Zw ?_ | refine Zx ?_); intro K hK; repeat' (first | ((first | refine Zs ?_ | refine Zl ?_ | refine Z0 ?_ | refine Zd ?_); intro HK hk; simp [go_sem, w1, w2, w3, w4]; (repeat refine ⟨by omega, ?_⟩); apply hk; clear hk HK) | ((first | refine Zg ?_ ?_ | refine Zh ?_ ?_ | refine Zp ?_ ?_ | refine Zk ?_ ?_) <;> intro hg <;> simp only [hg] <;> (try simp at hg) <;> try omega)); all_goals try ((first | refine Zn ?_ | refine Zm ?_); apply hK; clear hK K; try simp only [AThen, ABlock])) | refine Zz ?_ | refine Zb ?_)
  all_goals try exact rfl
  (first | refine Zs ?_ | refine Z0 ?_ | refine Zd ?_); intro HK hk; simp [go_sem]; (repeat refine ⟨by omega, ?_⟩); (first | refine ACall.pur rfl (pc_27 n (1 + m) (by omega)) ?_ | refine ACallD.mk rfl (pc_27 n (1 + m) (by omega)) ?_); simp [go_sem]; (repeat refine ⟨by omega, ?_⟩); apply hk; clear hk HK; repeat' (first | ((first | refine Zs ?_ | refine Zl ?_ | refine Z0 ?_ | refine Zd ?_); intro HK hk; simp [go_sem]; (repeat refine ⟨by omega, ?_⟩); apply hk; clear hk HK) | ((first | refine Zg ?_ ?_ | refine Zh ?_ ?_ | refine Zp ?_ ?_ | refine Zk ?_ ?_) <;> intro hg <;> simp only [hg] <;> (try simp at hg) <;> try omega))
  all_goals try ((first | refine Zn ?_ | refine Zm ?_); apply hK; clear hK K; try simp only [AThen, ABlock])
  obtain ⟨k, hk⟩ : ∃ k, k = manyF n (1 + m) := ⟨_, rfl⟩
  rw [← hk] at k1 k2 k3 k4 k5 k6 hkn ⊢
  have w7 : IntKind.i64.wrap (k * (1 + m)) = k * (1 + m) := wrapI (by omega) (by omega)
  have w8 : IntKind.i64.wrap (k - 1) = k - 1 := wrapI (by omega) (by omega)
  have w9 : IntKind.i64.wrap ((k - 1) * (1 + m)) = (k - 1) * (1 + m) := by rw [Int.sub_mul]; exact wrapI (by omega) (by omega)
  all_goals repeat' (first | (refine Zc ?_ ?_ <;> intro h <;> (try simp [go_sem, w1, w2, w3, w4, w5, w6, w7, w8, w9] at h) <;> try omega) | (refine Zi ?_; try simp only [AThen, ABlock]) | (refine Ze ?_; simp +decide only [AThen, ABlock, reduceIte]) | (refine Zt ?_; (try simp [go_sem, w1, w2, w3, w4, w5, w6, w7, w8, w9]); all_goals (try simp [loR, lo]); all_goals try exact rfl) | ((first | refine Zq ?_ | refine Zr ?_ | refine Zw ?_ | refine Zx ?_); intro K hK; repeat' (first | ((first | refine Zs ?_ | refine Zl ?_ | refine Z0 ?_ | refine Zd ?_); intro HK hk; simp [go_sem, w1, w2, w3, w4, w5, w6, w7, w8, w9]; (repeat refine ⟨by omega, ?_⟩); apply hk; clear hk HK) | ((first | refine Zg ?_ ?_ | refine Zh ?_ ?_ | refine Zp ?_ ?_ | refine Zk ?_ ?_) <;> intro hg <;> simp only [hg] <;> (try simp at hg) <;> try omega)); all_goals try ((first | refine Zn ?_ | refine Zm ?_); apply hK; clear hK K; try simp only [AThen, ABlock])) | refine Zz ?_ | refine Zb ?_)
  all_goals try exact rfl
  all_goals
    (first | refine Zs ?_ | refine Z0 ?_ | refine Zd ?_); intro HK hk; simp [go_sem]; (repeat refine ⟨by omega, ?_⟩); (first | refine ACall.pur rfl (pc_27 (n + d) (1 + m) (by omega)) ?_ | refine ACallD.mk rfl (pc_27 (n + d) (1 + m) (by omega)) ?_); simp [go_sem, w3, w6]; (repeat refine ⟨by omega, ?_⟩); apply hk; clear hk HK; repeat' (first | ((first | refine Zs ?_ | refine Zl ?_ | refine Z0 ?_ | refine Zd ?_); intro HK hk; simp [go_sem, w3, w6]; (repeat refine ⟨by omega, ?_⟩); apply hk; clear hk HK) | ((first | refine Zg ?_ ?_ | refine Zh ?_ ?_ | refine Zp ?_ ?_ | refine Zk ?_ ?_) <;> intro hg <;> simp only [hg] <;> (try simp at hg) <;> try omega))
    all_goals try ((first | refine Zn ?_ | refine Zm ?_); apply hK; clear hK K; try simp only [AThen, ABlock])
    (first | refine Zs ?_ | refine Z0 ?_ | refine Zd ?_); intro HK hk; simp [go_sem]; (repeat refine ⟨by omega, ?_⟩); (first | refine ACall.pur rfl (pc_27 n (1 + m + d) (by omega)) ?_ | refine ACallD.mk rfl (pc_27 n (1 + m + d) (by omega)) ?_); simp [go_sem]; (repeat refine ⟨by omega, ?_⟩); apply hk; clear hk HK; repeat' (first | ((first | refine Zs ?_ | refine Zl ?_ | refine Z0 ?_ | refine Zd ?_); intro HK hk; simp [go_sem]; (repeat refine ⟨by omega, ?_⟩); apply hk; clear hk HK) | ((first | refine Zg ?_ ?_ | refine Zh ?_ ?_ | refine Zp ?_ ?_ | refine Zk ?_ ?_) <;> intro hg <;> simp only [hg] <;> (try simp at hg) <;> try omega))
    all_goals try ((first | refine Zn ?_ | refine Zm ?_); apply hK; clear hK K; try simp only [AThen, ABlock])
    all_goals repeat' (first | (refine Zc ?_ ?_ <;> intro h <;> (try simp [go_sem] at h) <;> try omega) | (refine Zi ?_; try simp only [AThen, ABlock]) | (refine Ze ?_; simp +decide only [AThen, ABlock, reduceIte]) | (refine Zt ?_; (try simp [go_sem]); all_goals (try simp [loR, lo]); all_goals try exact rfl) | ((first | refine Zq ?_ | refine Zr ?_ | refine Zw ?_ | refine Zx ?_); intro K hK; repeat' (first | ((first | refine Zs ?_ | refine Zl ?_ | refine Z0 ?_ | refine Zd ?_); intro HK hk; simp [go_sem]; (repeat refine ⟨by omega, ?_⟩); apply hk; clear hk HK) | ((first | refine Zg ?_ ?_ | refine Zh ?_ ?_ | refine Zp ?_ ?_ | refine Zk ?_ ?_) <;> intro hg <;> simp only [hg] <;> (try simp at hg) <;> try omega)); all_goals try ((first | refine Zn ?_ | refine Zm ?_); apply hK; clear hK K; try simp only [AThen, ABlock])) | refine Zz ?_ | refine Zb ?_)
    all_goals try exact rfl
    all_goals omega
end Go.Proofs.Ytcobhlghjddphaa
