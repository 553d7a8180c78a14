import Derived.Test.YtogappokeheilaaB36
import Derived.Test.YtogappokeheilaaB32
set_option linter.unusedVariables false
set_option linter.unusedSimpArgs false
set_option maxRecDepth 100000
set_option maxHeartbeats 0
namespace Go.Proofs.Ytogappokeheilaa
open Go.Aw

theorem pc_34q (t : Turn) (l : List Lane) (hi0 : QInv l.length ⟨t, l, []⟩) (hn2 : 2 ≤ l.length) (hn64 : l.length ≤ 64) : PC Try.prog 34 [bTu t, bLs l] (.tup [bTu (walkG t l).t, bLs (walkG t l).x, bDs (walkG t l).o]) := by
  have hn0 : l.length ≠ 0 := by omega
  have hnext : ∀ k s', mu (walkQ ⟨t, l, []⟩ k).x + k ≤ mu l → qNext (walkQ ⟨t, l, []⟩ k) = some s' → walkQ ⟨t, l, []⟩ (k + 1) = s' ∧ mu (walkQ ⟨t, l, []⟩ (k + 1)).x + (k + 1) ≤ mu l ∧ k < mu l := fun k s' hk hq => by
    have hst := walkQ_step hq
    rcases qnext_cases (walkQ_inv hi0 k) with ⟨s2, hq2, hs⟩ | ⟨hq2, _⟩
    · rw [hq] at hq2
      cases hq2
      have := (qstep_inv (walkQ_inv hi0 k) hs).2
      rw [hst]
      exact ⟨rfl, by omega, by omega⟩
    · rw [hq] at hq2; cases hq2
  have hfin : ∀ k, mu (walkQ ⟨t, l, []⟩ k).x + k ≤ mu l → qNext (walkQ ⟨t, l, []⟩ k) = none → walkG t l = walkQ ⟨t, l, []⟩ k := fun k hk h1 => by
    have := walkQ_stop h1 (mu l - k)
    rw [show k + (mu l - k) = mu l by omega] at this
    unfold walkG; rw [this]
  refine PC.of_loose (ACall.of_AW (fun args w => Try.call34 args w) Try.func34 rfl (by simp [Try.ntmps34]) ?_)
  simp only [Try.ntmps34, List.length_nil]
  (first | (refine AW.q false fun K hK => ?_) | (refine AW.seq ?_; refine AW.q false fun K hK => ?_) | (refine AW.seq (AW.seq ?_); refine AW.q false fun K hK => ?_) | (refine AW.block ?_; refine AW.q false fun K hK => ?_) | (refine AW.seq (AW.block ?_); refine AW.q false fun K hK => ?_) | (refine AW.ql false fun K hK => ?_)); repeat ((first | refine Zs ?_ | refine Zl ?_ | refine Z0 ?_ | refine Zd ?_); intro HK hk; simp [go_sem]; (repeat refine ⟨by omega, ?_⟩); apply hk; clear hk HK)
  try ((first | refine Zn ?_ | refine Zm ?_); apply hK; clear hK K; try simp only [AThen, ABlock])
  refine AW.scope (rest := ?rest) 0 ?hf (X := {k : Nat // mu (walkQ ⟨t, l, []⟩ k).x + k ≤ mu l}) (fun _ => [(8, .c (.clo 81 [] [(1, 0), (0, 0), (4, 0)])), (2, .c (.ptr 0 0)), (3, .c (.ptr 1 0)), (7, .c (.ptr 4 0)), (4, .c (.ptr 2 0))]) (fun k => seqH l.length (walkQ ⟨t, l, []⟩ k.1)) (fun k => mu l - k.1) ?first ?round
  case hf => exact rfl
  case first =>
    all_goals repeat' (first | (refine Zc ?_ ?_ <;> intro h <;> (try simp [go_sem] at h) <;> try omega) | (refine Zi ?_; try simp only [AThen, ABlock]) | (refine Ze ?_; simp +decide only [AThen, ABlock, reduceIte]) | (refine Zt ?_; (try simp [go_sem]); all_goals (try simp [loR, lo]); all_goals try exact rfl) | ((first | refine Zq ?_ | refine Zr ?_ | refine Zw ?_ | refine Zx ?_); intro K hK; repeat' (first | ((first | refine Zs ?_ | refine Zl ?_ | refine Z0 ?_ | refine Zd ?_); intro HK hk; simp [go_sem]; (repeat refine ⟨by omega, ?_⟩); apply hk; clear hk HK) | ((first | refine Zg ?_ ?_ | refine Zh ?_ ?_ | refine Zp ?_ ?_ | refine Zk ?_ ?_) <;> intro hg <;> simp only [hg] <;> (try simp at hg) <;> try omega)); all_goals try ((first | refine Zn ?_ | refine Zm ?_); apply hK; clear hK K; try simp only [AThen, ABlock])) | refine Zz ?_ | refine Zb ?_)
    all_goals try exact rfl
    (first | refine Zs ?_ | refine Z0 ?_ | refine Zd ?_); intro HK hk; simp [go_sem]; (repeat refine ⟨by omega, ?_⟩); (first | refine ACall.pocF rfl (poc_76 l (by omega)) ?_ | refine POCD.mk rfl (poc_76 l (by omega)) (by simp [go_sem]) ?_); simp [go_sem]; (repeat refine ⟨by omega, ?_⟩); apply hk; clear hk HK; repeat' (first | ((first | refine Zs ?_ | refine Zl ?_ | refine Z0 ?_ | refine Zd ?_); intro HK hk; simp [go_sem]; (repeat refine ⟨by omega, ?_⟩); apply hk; clear hk HK) | ((first | refine Zg ?_ ?_ | refine Zh ?_ ?_ | refine Zp ?_ ?_ | refine Zk ?_ ?_) <;> intro hg <;> simp only [hg] <;> (try simp at hg) <;> try omega))
    all_goals try ((first | refine Zn ?_ | refine Zm ?_); apply hK; clear hK K; try simp only [AThen, ABlock])
    all_goals repeat' (first | (refine Zc ?_ ?_ <;> intro h <;> (try simp [go_sem] at h) <;> try omega) | (refine Zi ?_; try simp only [AThen, ABlock]) | (refine Ze ?_; simp +decide only [AThen, ABlock, reduceIte]) | (refine Zt ?_; (try simp [go_sem]); all_goals (try simp [loR, lo]); all_goals try exact rfl) | ((first | refine Zq ?_ | refine Zr ?_ | refine Zw ?_ | refine Zx ?_); intro K hK; repeat' (first | ((first | refine Zs ?_ | refine Zl ?_ | refine Z0 ?_ | refine Zd ?_); intro HK hk; simp [go_sem]; (repeat refine ⟨by omega, ?_⟩); apply hk; clear hk HK) | ((first | refine Zg ?_ ?_ | refine Zh ?_ ?_ | refine Zp ?_ ?_ | refine Zk ?_ ?_) <;> intro hg <;> simp only [hg] <;> (try simp at hg) <;> try omega)); all_goals try ((first | refine Zn ?_ | refine Zm ?_); apply hK; clear hK K; try simp only [AThen, ABlock])) | refine Zz ?_ | refine Zb ?_)
    all_goals try exact rfl
    refine AW.weak (Sub.promoteVar 4 51 2 (by decide) rfl) ?_
    simp only [List.set_cons_zero, List.set_cons_succ, List.cons_append, List.nil_append, List.length_cons, List.length_nil, Nat.zero_add, Nat.reduceAdd]
    refine AW.label ?_
    simp only [AThen]
    have hk : mu (walkQ ⟨t, l, []⟩ 0).x + 0 ≤ mu l := Nat.le_refl _
    have hI := walkQ_inv hi0 0
    have hnx := fun s' => hnext 0 s' hk
    have hf := hfin 0 hk
    all_goals repeat' (first | (refine Zc ?_ ?_ <;> intro h <;> (try simp [go_sem] at h) <;> try omega) | (refine Zi ?_; try simp only [AThen, ABlock]) | (refine Ze ?_; simp +decide only [AThen, ABlock, reduceIte]) | (refine Zt ?_; (try simp [go_sem]); all_goals (try simp [loR, lo]); all_goals try exact rfl) | ((first | refine Zq ?_ | refine Zr ?_ | refine Zw ?_ | refine Zx ?_); intro K hK; repeat' (first | ((first | refine Zs ?_ | refine Zl ?_ | refine Z0 ?_ | refine Zd ?_); intro HK hk; simp [go_sem]; (repeat refine ⟨by omega, ?_⟩); apply hk; clear hk HK) | ((first | refine Zg ?_ ?_ | refine Zh ?_ ?_ | refine Zp ?_ ?_ | refine Zk ?_ ?_) <;> intro hg <;> simp only [hg] <;> (try simp at hg) <;> try omega)); all_goals try ((first | refine Zn ?_ | refine Zm ?_); apply hK; clear hK K; try simp only [AThen, ABlock])) | refine Zz ?_ | refine Zb ?_)
    all_goals try exact rfl
    (first | refine Zs ?_ | refine Zl ?_ | refine Z0 ?_ | refine Zd ?_); intro HK hk; simp [go_sem]
    refine ac_81 l.length (walkQ ⟨t, l, []⟩ 0) hn0 hI _ (fun s' hq more => ?_) (fun hq more => ?_)
    · obtain ⟨hst, hmu2, hkl⟩ := hnx s' hq
      subst hst
      (repeat refine ⟨by omega, ?_⟩); apply hk; clear hk HK; repeat' (first | ((first | refine Zs ?_ | refine Zl ?_ | refine Z0 ?_ | refine Zd ?_); intro HK hk; simp [go_sem]; (repeat refine ⟨by omega, ?_⟩); apply hk; clear hk HK) | ((first | refine Zg ?_ ?_ | refine Zh ?_ ?_ | refine Zp ?_ ?_ | refine Zk ?_ ?_) <;> intro hg <;> simp only [hg] <;> (try simp at hg) <;> try omega))
      all_goals try ((first | refine Zn ?_ | refine Zm ?_); apply hK; clear hK K; try simp only [AThen, ABlock])
      refine AW.cond rfl (fun h => ?_) (fun h => ?_) <;> simp [go_sem] at h
      refine AW.goto ?_
      simp only [AThen, AJump]
      refine ⟨trivial, ⟨0 + 1, hmu2⟩, ?_⟩
      refine Sub.of 6 (by simp) (by first | (simp; done) | (simp [go_sem]; done)) (by simp [go_sem]) ?_ (by simp [go_sem])
      simp [go_sem]
    · have hg := hf hq
      (repeat refine ⟨by omega, ?_⟩); apply hk; clear hk HK; repeat' (first | ((first | refine Zs ?_ | refine Zl ?_ | refine Z0 ?_ | refine Zd ?_); intro HK hk; simp [go_sem]; (repeat refine ⟨by omega, ?_⟩); apply hk; clear hk HK) | ((first | refine Zg ?_ ?_ | refine Zh ?_ ?_ | refine Zp ?_ ?_ | refine Zk ?_ ?_) <;> intro hg <;> simp only [hg] <;> (try simp at hg) <;> try omega))
      all_goals try ((first | refine Zn ?_ | refine Zm ?_); apply hK; clear hK K; try simp only [AThen, ABlock])
      rw [hg]
      generalize walkQ ⟨t, l, []⟩ 0 = s at *
      have hxl := hI.len
      all_goals repeat' (first | (refine Zc ?_ ?_ <;> intro h <;> (try simp [go_sem, hxl] at h) <;> try omega) | (refine Zi ?_; try simp only [AThen, ABlock]) | (refine Ze ?_; simp +decide only [AThen, ABlock, reduceIte]) | (refine Zt ?_; (try simp [go_sem, hxl]); all_goals (try simp [loR, lo]); all_goals try exact rfl) | ((first | refine AW.q false fun K hK => ?_ | refine AW.ql false fun K hK => ?_ | refine AW.w [(none, []), (none, [2]), (none, [2]), (some 2, [])] rfl (by decide +kernel) fun K hK => ?_ | refine AW.wl [(none, []), (none, [2]), (none, [2]), (some 2, [])] rfl (by decide +kernel) fun K hK => ?_); repeat' (first | ((first | refine Zs ?_ | refine Zl ?_ | refine Z0 ?_ | refine Zd ?_); intro HK hk; simp [go_sem, hxl]; (repeat refine ⟨by omega, ?_⟩); apply hk; clear hk HK) | ((first | refine Zg ?_ ?_ | refine Zh ?_ ?_ | refine Zp ?_ ?_ | refine Zk ?_ ?_) <;> intro hg <;> simp only [hg] <;> (try simp at hg) <;> try omega)); all_goals try ((first | refine Zn ?_ | refine Zm ?_); apply hK; clear hK K; try simp only [AThen, ABlock])) | refine Zz ?_ | refine Zb ?_)
      all_goals try exact rfl
      simp [go_sem, AJump, hxl]
  case round =>
    rintro ⟨k, hk⟩
    have hI := walkQ_inv hi0 k
    have hnx := fun s' => hnext k s' hk
    have hf := hfin k hk
    all_goals repeat' (first | (refine Zc ?_ ?_ <;> intro h <;> (try simp [go_sem] at h) <;> try omega) | (refine Zi ?_; try simp only [AThen, ABlock]) | (refine Ze ?_; simp +decide only [AThen, ABlock, reduceIte]) | (refine Zt ?_; (try simp [go_sem]); all_goals (try simp [loR, lo]); all_goals try exact rfl) | ((first | refine Zq ?_ | refine Zr ?_ | refine Zw ?_ | refine Zx ?_); intro K hK; repeat' (first | ((first | refine Zs ?_ | refine Zl ?_ | refine Z0 ?_ | refine Zd ?_); intro HK hk; simp [go_sem]; (repeat refine ⟨by omega, ?_⟩); apply hk; clear hk HK) | ((first | refine Zg ?_ ?_ | refine Zh ?_ ?_ | refine Zp ?_ ?_ | refine Zk ?_ ?_) <;> intro hg <;> simp only [hg] <;> (try simp at hg) <;> try omega)); all_goals try ((first | refine Zn ?_ | refine Zm ?_); apply hK; clear hK K; try simp only [AThen, ABlock])) | refine Zz ?_ | refine Zb ?_)
    all_goals try exact rfl
    (first | refine Zs ?_ | refine Zl ?_ | refine Z0 ?_ | refine Zd ?_); intro HK hk; simp [go_sem]
    refine ac_81 l.length _ hn0 hI _ (fun s' hq more => ?_) (fun hq more => ?_)
    · obtain ⟨hst, hmu2, hkl⟩ := hnx s' hq
      subst hst
      (repeat refine ⟨by omega, ?_⟩); apply hk; clear hk HK; repeat' (first | ((first | refine Zs ?_ | refine Zl ?_ | refine Z0 ?_ | refine Zd ?_); intro HK hk; simp [go_sem]; (repeat refine ⟨by omega, ?_⟩); apply hk; clear hk HK) | ((first | refine Zg ?_ ?_ | refine Zh ?_ ?_ | refine Zp ?_ ?_ | refine Zk ?_ ?_) <;> intro hg <;> simp only [hg] <;> (try simp at hg) <;> try omega))
      all_goals try ((first | refine Zn ?_ | refine Zm ?_); apply hK; clear hK K; try simp only [AThen, ABlock])
      refine AW.cond rfl (fun h => ?_) (fun h => ?_) <;> simp [go_sem] at h
      refine AW.goto ?_
      simp only [AThen, AJump]
      refine ⟨trivial, ⟨k + 1, hmu2⟩, by show mu l - (k + 1) < mu l - k; omega, ?_⟩
      refine Sub.of 6 (by simp) (by first | (simp; done) | (simp [go_sem]; done)) (by simp [go_sem]) ?_ (by simp [go_sem])
      simp [go_sem]
    · have hg := hf hq
      (repeat refine ⟨by omega, ?_⟩); apply hk; clear hk HK; repeat' (first | ((first | refine Zs ?_ | refine Zl ?_ | refine Z0 ?_ | refine Zd ?_); intro HK hk; simp [go_sem]; (repeat refine ⟨by omega, ?_⟩); apply hk; clear hk HK) | ((first | refine Zg ?_ ?_ | refine Zh ?_ ?_ | refine Zp ?_ ?_ | refine Zk ?_ ?_) <;> intro hg <;> simp only [hg] <;> (try simp at hg) <;> try omega))
      all_goals try ((first | refine Zn ?_ | refine Zm ?_); apply hK; clear hK K; try simp only [AThen, ABlock])
      rw [hg]
      generalize walkQ ⟨t, l, []⟩ k = s at *
      have hxl := hI.len
      all_goals repeat' (first | (refine Zc ?_ ?_ <;> intro h <;> (try simp [go_sem, hxl] at h) <;> try omega) | (refine Zi ?_; try simp only [AThen, ABlock]) | (refine Ze ?_; simp +decide only [AThen, ABlock, reduceIte]) | (refine Zt ?_; (try simp [go_sem, hxl]); all_goals (try simp [loR, lo]); all_goals try exact rfl) | ((first | refine AW.q false fun K hK => ?_ | refine AW.ql false fun K hK => ?_ | refine AW.w [(none, []), (none, [2]), (none, [2]), (some 2, [])] rfl (by decide +kernel) fun K hK => ?_ | refine AW.wl [(none, []), (none, [2]), (none, [2]), (some 2, [])] rfl (by decide +kernel) fun K hK => ?_); repeat' (first | ((first | refine Zs ?_ | refine Zl ?_ | refine Z0 ?_ | refine Zd ?_); intro HK hk; simp [go_sem, hxl]; (repeat refine ⟨by omega, ?_⟩); apply hk; clear hk HK) | ((first | refine Zg ?_ ?_ | refine Zh ?_ ?_ | refine Zp ?_ ?_ | refine Zk ?_ ?_) <;> intro hg <;> simp only [hg] <;> (try simp at hg) <;> try omega)); all_goals try ((first | refine Zn ?_ | refine Zm ?_); apply hK; clear hK K; try simp only [AThen, ABlock])) | refine Zz ?_ | refine Zb ?_)
      all_goals try exact rfl
      simp [go_sem, AJump, hxl]
theorem pc_34 (t : Turn) (l : List Lane) (hm : mayT t l = true) : PC Try.prog 34 [bTu t, bLs l] (.tup [bTu (walkG t l).t, bLs (walkG t l).x, bDs (walkG t l).o]) := pc_34q t l (qinv_start hm) (winv_start hm).2.1 (winv_start hm).2.2
end Go.Proofs.Ytogappokeheilaa
