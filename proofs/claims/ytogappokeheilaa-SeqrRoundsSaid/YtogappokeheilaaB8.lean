import Derived.Test.YtogappokeheilaaB7
set_option linter.unusedVariables false
set_option linter.unusedSimpArgs false
set_option maxRecDepth 100000
set_option maxHeartbeats 0
namespace Go.Proofs.Ytogappokeheilaa
open Go.Aw

def readF (l : Lane) (it : Aw.Item) : Lane × Int :=
  if it.Kind < 1 ∨ 3 < it.Kind then (l, 1)
  else if it.Seq ≤ lastF l then (l, 2)
  else if it.Kind = 1 then
    if (addF l.Part it.Seq it.Index it.Total it.Body).2.2.2 ≠ 0 then (l, 2)
    else if (addF l.Part it.Seq it.Index it.Total it.Body).2.2.1 = false then ({ L := l.L, Part := (addF l.Part it.Seq it.Index it.Total it.Body).1 }, 0)
    else ({ L := l.L ++ [⟨1, if 0 < l.Part.Got then l.Part.Seq else it.Seq, (addF l.Part it.Seq it.Index it.Total it.Body).2.1, [], false⟩], Part := (addF l.Part it.Seq it.Index it.Total it.Body).1 }, 0)
  else if 0 < l.Part.Got then (l, 2)
  else ({ l with L := l.L ++ [⟨it.Kind, it.Seq, [], if it.Kind = 2 then it.L else [], decide (it.Kind = 2) && decide (it.Index = 1)⟩] }, 0)
abbrev bT (t : Aw.Item) : PB := (true, itemP t)
theorem pc_59 (l : Lane) (it : Aw.Item) (hl : l.L.length ≤ 900) (hp : l.Part.B.length ≤ 100000) (hb : it.Body.length ≤ 100000) (hi : it.L.length ≤ 1000) :
    PC Try.prog 59 [bL l, bT it] (.tup [bL (readF l it).1, bI (readF l it).2]) := by
  refine PC.of_loose (ACall.of_AW (fun args w => Try.call59 args w) Try.func59 rfl (by simp [Try.ntmps59]) ?_)
  simp only [Try.ntmps59, List.length_nil]
  all_goals repeat' (first | (refine Zc ?_ ?_ <;> intro h <;> (try simp [go_sem] at h) <;> try omega) | (refine Zi ?_; try simp only [AThen, ABlock]) | (refine Ze ?_; simp +decide only [AThen, ABlock, reduceIte]) | (refine Zt ?_; (try simp [go_sem]); all_goals (try simp [loR, lo]); all_goals try exact rfl) | ((first | refine Zq ?_ | refine Zr ?_ | refine Zw ?_ | refine Zx ?_); intro K hK; repeat' (first | ((first | refine Zs ?_ | refine Zl ?_ | refine Z0 ?_ | refine Zd ?_); intro HK hk; simp [go_sem]; (repeat refine ⟨by omega, ?_⟩); apply hk; clear hk HK) | ((first | refine Zg ?_ ?_ | refine Zh ?_ ?_ | refine Zp ?_ ?_ | refine Zk ?_ ?_) <;> intro hg <;> simp only [hg] <;> (try simp at hg) <;> try omega)); all_goals try ((first | refine Zn ?_ | refine Zm ?_); apply hK; clear hK K; try simp only [AThen, ABlock])) | refine Zz ?_ | refine Zb ?_)
  all_goals try exact rfl
  · have hr : readF l it = (l, 1) := by unfold readF; rw [if_pos (by omega)]
    rw [hr]; exact ⟨rfl, rfl⟩
  · have hr : readF l it = (l, 1) := by unfold readF; rw [if_pos (by omega)]
    rw [hr]; exact ⟨rfl, rfl⟩
  · (first | refine Zs ?_ | refine Z0 ?_ | refine Zd ?_); intro HK hk; simp [go_sem]; (repeat refine ⟨by omega, ?_⟩); (first | refine ACall.pur rfl (pc_98 l) ?_ | refine ACallD.mk rfl (pc_98 l) ?_); simp [go_sem]; (repeat refine ⟨by omega, ?_⟩); apply hk; clear hk HK; repeat' (first | ((first | refine Zs ?_ | refine Zl ?_ | refine Z0 ?_ | refine Zd ?_); intro HK hk; simp [go_sem]; (repeat refine ⟨by omega, ?_⟩); apply hk; clear hk HK) | ((first | refine Zg ?_ ?_ | refine Zh ?_ ?_ | refine Zp ?_ ?_ | refine Zk ?_ ?_) <;> intro hg <;> simp only [hg] <;> (try simp at hg) <;> try omega))
    all_goals try ((first | refine Zn ?_ | refine Zm ?_); apply hK; clear hK K; try simp only [AThen, ABlock])
    all_goals repeat' (first | (refine Zc ?_ ?_ <;> intro h <;> (try simp [go_sem] at h) <;> try omega) | (refine Zi ?_; try simp only [AThen, ABlock]) | (refine Ze ?_; simp +decide only [AThen, ABlock, reduceIte]) | (refine Zt ?_; (try simp [go_sem]); all_goals (try simp [loR, lo]); all_goals try exact rfl) | ((first | refine Zq ?_ | refine Zr ?_ | refine Zw ?_ | refine Zx ?_); intro K hK; repeat' (first | ((first | refine Zs ?_ | refine Zl ?_ | refine Z0 ?_ | refine Zd ?_); intro HK hk; simp [go_sem]; (repeat refine ⟨by omega, ?_⟩); apply hk; clear hk HK) | ((first | refine Zg ?_ ?_ | refine Zh ?_ ?_ | refine Zp ?_ ?_ | refine Zk ?_ ?_) <;> intro hg <;> simp only [hg] <;> (try simp at hg) <;> try omega)); all_goals try ((first | refine Zn ?_ | refine Zm ?_); apply hK; clear hK K; try simp only [AThen, ABlock])) | refine Zz ?_ | refine Zb ?_)
    all_goals try exact rfl
    · have hr : readF l it = (l, 2) := by unfold readF; rw [if_neg (by omega), if_pos (by omega)]
      rw [hr]; exact ⟨rfl, rfl⟩
    · (first | refine Zs ?_ | refine Z0 ?_ | refine Zd ?_); intro HK hk; simp [go_sem]; (repeat refine ⟨by omega, ?_⟩); (first | refine ACall.pur rfl (pc_99 l.Part it.Seq it.Index it.Total it.Body hp hb) ?_ | refine ACallD.mk rfl (pc_99 l.Part it.Seq it.Index it.Total it.Body hp hb) ?_); simp [go_sem]; (repeat refine ⟨by omega, ?_⟩); apply hk; clear hk HK; repeat' (first | ((first | refine Zs ?_ | refine Zl ?_ | refine Z0 ?_ | refine Zd ?_); intro HK hk; simp [go_sem]; (repeat refine ⟨by omega, ?_⟩); apply hk; clear hk HK) | ((first | refine Zg ?_ ?_ | refine Zh ?_ ?_ | refine Zp ?_ ?_ | refine Zk ?_ ?_) <;> intro hg <;> simp only [hg] <;> (try simp at hg) <;> try omega))
      all_goals try ((first | refine Zn ?_ | refine Zm ?_); apply hK; clear hK K; try simp only [AThen, ABlock])
      generalize hA : addF l.Part it.Seq it.Index it.Total it.Body = r at *
      all_goals repeat' (first | (refine Zc ?_ ?_ <;> intro h <;> (try simp [go_sem] at h) <;> try omega) | (refine Zi ?_; try simp only [AThen, ABlock]) | (refine Ze ?_; simp +decide only [AThen, ABlock, reduceIte]) | (refine Zt ?_; (try simp [go_sem]); all_goals (try simp [loR, lo]); all_goals try exact rfl) | ((first | refine Zq ?_ | refine Zr ?_ | refine Zw ?_ | refine Zx ?_); intro K hK; repeat' (first | ((first | refine Zs ?_ | refine Zl ?_ | refine Z0 ?_ | refine Zd ?_); intro HK hk; simp [go_sem]; (repeat refine ⟨by omega, ?_⟩); apply hk; clear hk HK) | ((first | refine Zg ?_ ?_ | refine Zh ?_ ?_ | refine Zp ?_ ?_ | refine Zk ?_ ?_) <;> intro hg <;> simp only [hg] <;> (try simp at hg) <;> try omega)); all_goals try ((first | refine Zn ?_ | refine Zm ?_); apply hK; clear hK K; try simp only [AThen, ABlock])) | refine Zz ?_ | refine Zb ?_)
      all_goals try exact rfl
      · have hr : readF l it = (l, 2) := by unfold readF; rw [if_neg (by omega), if_neg (by omega), if_pos (by omega), hA, if_pos (by assumption)]
        rw [hr]; exact ⟨rfl, rfl⟩
      · have hr : readF l it = ({ L := l.L, Part := r.1 }, 0) := by unfold readF; rw [if_neg (by omega), if_neg (by omega), if_pos (by omega), hA, if_neg (by omega), if_pos (by assumption)]
        rw [hr]; exact ⟨rfl, rfl⟩
      · (first | refine Zs ?_ | refine Z0 ?_ | refine Zd ?_); intro HK hk; simp [go_sem]; (repeat refine ⟨by omega, ?_⟩); (first | refine ACall.pur rfl (pc_100 ⟨l.L, r.1⟩ ⟨1, l.Part.Seq, r.2.1, [], false⟩ (by simp; omega)) ?_ | refine ACallD.mk rfl (pc_100 ⟨l.L, r.1⟩ ⟨1, l.Part.Seq, r.2.1, [], false⟩ (by simp; omega)) ?_); simp [go_sem]; (repeat refine ⟨by omega, ?_⟩); apply hk; clear hk HK; repeat' (first | ((first | refine Zs ?_ | refine Zl ?_ | refine Z0 ?_ | refine Zd ?_); intro HK hk; simp [go_sem]; (repeat refine ⟨by omega, ?_⟩); apply hk; clear hk HK) | ((first | refine Zg ?_ ?_ | refine Zh ?_ ?_ | refine Zp ?_ ?_ | refine Zk ?_ ?_) <;> intro hg <;> simp only [hg] <;> (try simp at hg) <;> try omega))
        all_goals try ((first | refine Zn ?_ | refine Zm ?_); apply hK; clear hK K; try simp only [AThen, ABlock])
        all_goals repeat' (first | (refine Zc ?_ ?_ <;> intro h <;> (try simp [go_sem] at h) <;> try omega) | (refine Zi ?_; try simp only [AThen, ABlock]) | (refine Ze ?_; simp +decide only [AThen, ABlock, reduceIte]) | (refine Zt ?_; (try simp [go_sem]); all_goals (try simp [loR, lo]); all_goals try exact rfl) | ((first | refine Zq ?_ | refine Zr ?_ | refine Zw ?_ | refine Zx ?_); intro K hK; repeat' (first | ((first | refine Zs ?_ | refine Zl ?_ | refine Z0 ?_ | refine Zd ?_); intro HK hk; simp [go_sem]; (repeat refine ⟨by omega, ?_⟩); apply hk; clear hk HK) | ((first | refine Zg ?_ ?_ | refine Zh ?_ ?_ | refine Zp ?_ ?_ | refine Zk ?_ ?_) <;> intro hg <;> simp only [hg] <;> (try simp at hg) <;> try omega)); all_goals try ((first | refine Zn ?_ | refine Zm ?_); apply hK; clear hK K; try simp only [AThen, ABlock])) | refine Zz ?_ | refine Zb ?_)
        all_goals try exact rfl
        have hr : readF l it = ({ L := l.L ++ [⟨1, l.Part.Seq, r.2.1, [], false⟩], Part := r.1 }, 0) := by unfold readF; rw [if_neg (by omega), if_neg (by omega), if_pos (by omega), hA, if_neg (by omega), if_neg (by simp; assumption), if_pos (by omega)]
        rw [hr]; simp [laneP, entP]
      · have hr : readF l it = ({ L := l.L, Part := r.1 }, 0) := by unfold readF; rw [if_neg (by omega), if_neg (by omega), if_pos (by omega), hA, if_neg (by omega), if_pos (by assumption)]
        rw [hr]; exact ⟨rfl, rfl⟩
      · (first | refine Zs ?_ | refine Z0 ?_ | refine Zd ?_); intro HK hk; simp [go_sem]; (repeat refine ⟨by omega, ?_⟩); (first | refine ACall.pur rfl (pc_100 ⟨l.L, r.1⟩ ⟨1, it.Seq, r.2.1, [], false⟩ (by simp; omega)) ?_ | refine ACallD.mk rfl (pc_100 ⟨l.L, r.1⟩ ⟨1, it.Seq, r.2.1, [], false⟩ (by simp; omega)) ?_); simp [go_sem]; (repeat refine ⟨by omega, ?_⟩); apply hk; clear hk HK; repeat' (first | ((first | refine Zs ?_ | refine Zl ?_ | refine Z0 ?_ | refine Zd ?_); intro HK hk; simp [go_sem]; (repeat refine ⟨by omega, ?_⟩); apply hk; clear hk HK) | ((first | refine Zg ?_ ?_ | refine Zh ?_ ?_ | refine Zp ?_ ?_ | refine Zk ?_ ?_) <;> intro hg <;> simp only [hg] <;> (try simp at hg) <;> try omega))
        all_goals try ((first | refine Zn ?_ | refine Zm ?_); apply hK; clear hK K; try simp only [AThen, ABlock])
        all_goals repeat' (first | (refine Zc ?_ ?_ <;> intro h <;> (try simp [go_sem] at h) <;> try omega) | (refine Zi ?_; try simp only [AThen, ABlock]) | (refine Ze ?_; simp +decide only [AThen, ABlock, reduceIte]) | (refine Zt ?_; (try simp [go_sem]); all_goals (try simp [loR, lo]); all_goals try exact rfl) | ((first | refine Zq ?_ | refine Zr ?_ | refine Zw ?_ | refine Zx ?_); intro K hK; repeat' (first | ((first | refine Zs ?_ | refine Zl ?_ | refine Z0 ?_ | refine Zd ?_); intro HK hk; simp [go_sem]; (repeat refine ⟨by omega, ?_⟩); apply hk; clear hk HK) | ((first | refine Zg ?_ ?_ | refine Zh ?_ ?_ | refine Zp ?_ ?_ | refine Zk ?_ ?_) <;> intro hg <;> simp only [hg] <;> (try simp at hg) <;> try omega)); all_goals try ((first | refine Zn ?_ | refine Zm ?_); apply hK; clear hK K; try simp only [AThen, ABlock])) | refine Zz ?_ | refine Zb ?_)
        all_goals try exact rfl
        have hr : readF l it = ({ L := l.L ++ [⟨1, it.Seq, r.2.1, [], false⟩], Part := r.1 }, 0) := by unfold readF; rw [if_neg (by omega), if_neg (by omega), if_pos (by omega), hA, if_neg (by omega), if_neg (by simp; assumption), if_neg (by omega)]
        rw [hr]; simp [laneP, entP]
    · have hr : readF l it = (l, 2) := by unfold readF; rw [if_neg (by omega), if_neg (by omega), if_neg (by omega), if_pos (by omega)]
      rw [hr]; exact ⟨rfl, rfl⟩
    · (first | refine Zs ?_ | refine Zl ?_ | refine Z0 ?_ | refine Zd ?_); intro HK hk; simp [go_sem]
      refine ACall.via ?_; simp only [frzVs_cons, frzVs_nil, frzV_c, frzV_agg, frzs_cons, frzs_nil, frzs_map', frzC_p, frzC_own, frzC_clo, lo, List.getElem?_cons_zero, List.getElem?_cons_succ, List.length_map, List.length_append, List.length_cons, List.length_nil, Nat.zero_add, Nat.add_zero, reduceIte, List.set_cons_zero, List.set_cons_succ]
      refine ExPC.mk (pc_100 l ⟨it.Kind, it.Seq, [], it.L, it.Index == 1⟩ (by omega)) ?_; simp [go_sem]; (repeat refine ⟨by omega, ?_⟩); apply hk; clear hk HK; repeat' (first | ((first | refine Zs ?_ | refine Zl ?_ | refine Z0 ?_ | refine Zd ?_); intro HK hk; simp [go_sem]; (repeat refine ⟨by omega, ?_⟩); apply hk; clear hk HK) | ((first | refine Zg ?_ ?_ | refine Zh ?_ ?_ | refine Zp ?_ ?_ | refine Zk ?_ ?_) <;> intro hg <;> simp only [hg] <;> (try simp at hg) <;> try omega))
      all_goals try ((first | refine Zn ?_ | refine Zm ?_); apply hK; clear hK K; try simp only [AThen, ABlock])
      all_goals repeat' (first | (refine Zc ?_ ?_ <;> intro h <;> (try simp [go_sem] at h) <;> try omega) | (refine Zi ?_; try simp only [AThen, ABlock]) | (refine Ze ?_; simp +decide only [AThen, ABlock, reduceIte]) | (refine Zt ?_; (try simp [go_sem]); all_goals (try simp [loR, lo]); all_goals try exact rfl) | ((first | refine Zq ?_ | refine Zr ?_ | refine Zw ?_ | refine Zx ?_); intro K hK; repeat' (first | ((first | refine Zs ?_ | refine Zl ?_ | refine Z0 ?_ | refine Zd ?_); intro HK hk; simp [go_sem]; (repeat refine ⟨by omega, ?_⟩); apply hk; clear hk HK) | ((first | refine Zg ?_ ?_ | refine Zh ?_ ?_ | refine Zp ?_ ?_ | refine Zk ?_ ?_) <;> intro hg <;> simp only [hg] <;> (try simp at hg) <;> try omega)); all_goals try ((first | refine Zn ?_ | refine Zm ?_); apply hK; clear hK K; try simp only [AThen, ABlock])) | refine Zz ?_ | refine Zb ?_)
      all_goals try exact rfl
      have hk : it.Kind = 2 := by assumption
      have hr : readF l it = ({ l with L := l.L ++ [⟨it.Kind, it.Seq, [], it.L, it.Index == 1⟩] }, 0) := by
        unfold readF; rw [if_neg (by omega), if_neg (by omega), if_neg (by omega), if_neg (by omega), if_pos hk, decide_eq_true hk, Bool.true_and]
        rfl
      rw [hr]; simp [laneP, entP]
    · (first | refine Zs ?_ | refine Z0 ?_ | refine Zd ?_); intro HK hk; simp [go_sem]; (repeat refine ⟨by omega, ?_⟩); (first | refine ACall.pur rfl (pc_100 l ⟨it.Kind, it.Seq, [], [], false⟩ (by omega)) ?_ | refine ACallD.mk rfl (pc_100 l ⟨it.Kind, it.Seq, [], [], false⟩ (by omega)) ?_); simp [go_sem]; (repeat refine ⟨by omega, ?_⟩); apply hk; clear hk HK; repeat' (first | ((first | refine Zs ?_ | refine Zl ?_ | refine Z0 ?_ | refine Zd ?_); intro HK hk; simp [go_sem]; (repeat refine ⟨by omega, ?_⟩); apply hk; clear hk HK) | ((first | refine Zg ?_ ?_ | refine Zh ?_ ?_ | refine Zp ?_ ?_ | refine Zk ?_ ?_) <;> intro hg <;> simp only [hg] <;> (try simp at hg) <;> try omega))
      all_goals try ((first | refine Zn ?_ | refine Zm ?_); apply hK; clear hK K; try simp only [AThen, ABlock])
      all_goals repeat' (first | (refine Zc ?_ ?_ <;> intro h <;> (try simp [go_sem] at h) <;> try omega) | (refine Zi ?_; try simp only [AThen, ABlock]) | (refine Ze ?_; simp +decide only [AThen, ABlock, reduceIte]) | (refine Zt ?_; (try simp [go_sem]); all_goals (try simp [loR, lo]); all_goals try exact rfl) | ((first | refine Zq ?_ | refine Zr ?_ | refine Zw ?_ | refine Zx ?_); intro K hK; repeat' (first | ((first | refine Zs ?_ | refine Zl ?_ | refine Z0 ?_ | refine Zd ?_); intro HK hk; simp [go_sem]; (repeat refine ⟨by omega, ?_⟩); apply hk; clear hk HK) | ((first | refine Zg ?_ ?_ | refine Zh ?_ ?_ | refine Zp ?_ ?_ | refine Zk ?_ ?_) <;> intro hg <;> simp only [hg] <;> (try simp at hg) <;> try omega)); all_goals try ((first | refine Zn ?_ | refine Zm ?_); apply hK; clear hK K; try simp only [AThen, ABlock])) | refine Zz ?_ | refine Zb ?_)
      all_goals try exact rfl
      have hk : ¬ it.Kind = 2 := by assumption
      have hr : readF l it = ({ l with L := l.L ++ [⟨it.Kind, it.Seq, [], [], false⟩] }, 0) := by
        unfold readF; rw [if_neg (by omega), if_neg (by omega), if_neg (by omega), if_neg (by omega), if_neg hk, decide_eq_false hk, Bool.false_and]
      rw [hr]; simp [laneP, entP]
end Go.Proofs.Ytogappokeheilaa
