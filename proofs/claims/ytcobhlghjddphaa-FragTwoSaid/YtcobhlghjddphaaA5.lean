import Derived.Test.YtcobhlghjddphaaA4
set_option linter.unusedVariables false
set_option linter.unusedSimpArgs false
set_option maxRecDepth 100000
namespace Go.Proofs.Ytcobhlghjddphaa
open Go.Aw

theorem pc_26 (p : Part) (seq index total : Int) (piece : List UInt8) (h1 : p.B.length ≤ 100000) (h2 : piece.length ≤ 100000) :
    PC Try.prog 26 [(true, partP p), bI seq, bI index, bI total, (false, [bsP piece])] (addR (addF p seq index total piece)) := by
  refine PC.of_loose (ACall.of_AW (fun args w => Try.call26 args w) Try.func26 rfl (by simp [Try.ntmps26]) ?_)
  simp only [Try.ntmps26, List.length_nil]
  all_goals repeat' (first | (refine Zc ?_ ?_ <;> intro h <;> (try simp [go_sem] at h) <;> try omega) | (refine Zi ?_; try simp only [AThen, ABlock]) | (refine Ze ?_; simp +decide only [AThen, ABlock, reduceIte]) | (refine Zt ?_; (try simp [go_sem]); all_goals (try simp [loR, lo]); all_goals try exact rfl) | ((first | refine AW.q false fun K hK => ?_ | refine AW.ql false fun K hK => ?_ | refine AW.w [(none, []), (none, [1]), (none, [1]), (some 1, [])] rfl (by decide +kernel) fun K hK => ?_ | refine AW.wl [(none, []), (none, [1]), (none, [1]), (some 1, [])] rfl (by decide +kernel) fun K hK => ?_); repeat' (first | ((first | refine Zs ?_ | refine Zl ?_ | refine Z0 ?_ | refine Zd ?_); intro HK hk; simp [go_sem]; (repeat refine ⟨by omega, ?_⟩); apply hk; clear hk HK) | ((first | refine Zg ?_ ?_ | refine Zh ?_ ?_ | refine Zp ?_ ?_ | refine Zk ?_ ?_) <;> intro hg <;> simp only [hg] <;> (try simp at hg) <;> try omega)); all_goals try ((first | refine Zn ?_ | refine Zm ?_); apply hK; clear hK K; try simp only [AThen, ABlock])) | refine Zz ?_ | refine Zb ?_)
  all_goals try exact rfl
  · simp [addF, hg, partP]
  · simp [addF, hg, partP]
  · simp [addF, hg, partP]
  · simp [addF, hg, h, partP]
  · refine AW.weak (Sub.holes 1) ?_; simp only [List.replicate, List.cons_append, List.nil_append]
    (first | (refine AW.w [(none, [4, 4]), (none, [4, 4]), (none, [4, 4]), (none, [4, 4]), (none, [4, 4]), (none, [4, 4]), (none, [4]), (none, [4, 4]), (none, [4]), (some 4, []), (none, [4]), (some 4, []), (none, [4]), (some 3, [])] rfl (by decide +kernel) fun K hK => ?_) | (refine AW.seq ?_; refine AW.w [(none, [4, 4]), (none, [4, 4]), (none, [4, 4]), (none, [4, 4]), (none, [4, 4]), (none, [4, 4]), (none, [4]), (none, [4, 4]), (none, [4]), (some 4, []), (none, [4]), (some 4, []), (none, [4]), (some 3, [])] rfl (by decide +kernel) fun K hK => ?_) | (refine AW.seq (AW.seq ?_); refine AW.w [(none, [4, 4]), (none, [4, 4]), (none, [4, 4]), (none, [4, 4]), (none, [4, 4]), (none, [4, 4]), (none, [4]), (none, [4, 4]), (none, [4]), (some 4, []), (none, [4]), (some 4, []), (none, [4]), (some 3, [])] rfl (by decide +kernel) fun K hK => ?_) | (refine AW.block ?_; refine AW.w [(none, [4, 4]), (none, [4, 4]), (none, [4, 4]), (none, [4, 4]), (none, [4, 4]), (none, [4, 4]), (none, [4]), (none, [4, 4]), (none, [4]), (some 4, []), (none, [4]), (some 4, []), (none, [4]), (some 3, [])] rfl (by decide +kernel) fun K hK => ?_) | (refine AW.seq (AW.block ?_); refine AW.w [(none, [4, 4]), (none, [4, 4]), (none, [4, 4]), (none, [4, 4]), (none, [4, 4]), (none, [4, 4]), (none, [4]), (none, [4, 4]), (none, [4]), (some 4, []), (none, [4]), (some 4, []), (none, [4]), (some 3, [])] rfl (by decide +kernel) fun K hK => ?_) | (refine AW.wl [(none, [4, 4]), (none, [4, 4]), (none, [4, 4]), (none, [4, 4]), (none, [4, 4]), (none, [4, 4]), (none, [4]), (none, [4, 4]), (none, [4]), (some 4, []), (none, [4]), (some 4, []), (none, [4]), (some 3, [])] rfl (by decide +kernel) fun K hK => ?_)); repeat ((first | refine Zs ?_ | refine Zl ?_ | refine Z0 ?_ | refine Zd ?_); intro HK hk; simp [go_sem]; (repeat refine ⟨by omega, ?_⟩); apply hk; clear hk HK)
    try ((first | refine Zn ?_ | refine Zm ?_); apply hK; clear hK K; try simp only [AThen, ABlock])
    all_goals repeat' (first | (refine Zc ?_ ?_ <;> intro h <;> (try simp [go_sem] at h) <;> try omega) | (refine Zi ?_; try simp only [AThen, ABlock]) | (refine Ze ?_; simp +decide only [AThen, ABlock, reduceIte]) | (refine Zt ?_; (try simp [go_sem]); all_goals (try simp [loR, lo]); all_goals try exact rfl) | ((first | refine AW.q false fun K hK => ?_ | refine AW.ql false fun K hK => ?_ | refine AW.w [(none, []), (none, [1]), (none, [1]), (some 1, [])] rfl (by decide +kernel) fun K hK => ?_ | refine AW.wl [(none, []), (none, [1]), (none, [1]), (some 1, [])] rfl (by decide +kernel) fun K hK => ?_); repeat' (first | ((first | refine Zs ?_ | refine Zl ?_ | refine Z0 ?_ | refine Zd ?_); intro HK hk; simp [go_sem]; (repeat refine ⟨by omega, ?_⟩); apply hk; clear hk HK) | ((first | refine Zg ?_ ?_ | refine Zh ?_ ?_ | refine Zp ?_ ?_ | refine Zk ?_ ?_) <;> intro hg <;> simp only [hg] <;> (try simp at hg) <;> try omega)); all_goals try ((first | refine Zn ?_ | refine Zm ?_); apply hK; clear hK K; try simp only [AThen, ABlock])) | refine Zz ?_ | refine Zb ?_)
    all_goals try exact rfl
    all_goals
      have hc : ¬ (total < 1 ∨ 32 < total ∨ index ≠ p.Got ∨ (p.Got ≠ 0 ∧ total ≠ p.Total)) := by omega
      simp only [addF, if_neg hc]
      simp [hg, h, partP]
      try omega
  all_goals
    have hc : ¬ (total < 1 ∨ 32 < total ∨ index ≠ p.Got ∨ (p.Got ≠ 0 ∧ total ≠ p.Total)) := by omega
    simp only [addF, if_neg hc]
    simp [hg, h, partP]
    try omega
end Go.Proofs.Ytcobhlghjddphaa
