import Derived.Test.YtogappokeheilaaB27
set_option linter.unusedVariables false
set_option linter.unusedSimpArgs false
set_option maxRecDepth 100000
set_option maxHeartbeats 0
namespace Go.Proofs.Ytogappokeheilaa
open Go.Aw

/-- One item of one member, read. -/
theorem pc_32 (l : List Lane) (w : Nat) (it : Aw.Item) (ln : Lane) (hx : l[w]? = some ln) (hl : ln.L.length ≤ 900) (hp : ln.Part.B.length ≤ 100000) (hb : it.Body.length ≤ 100000) (hi : it.L.length ≤ 1000) (hn64 : l.length ≤ 64) :
    PC Try.prog 32 [bLs l, (false, [isP [(w : Int)]]), (false, [.sl false [itemP it]])] (.one (bLs (l.set w (readF ln it).1))) := by
  have hw := (List.getElem?_eq_some_iff.1 hx).1
  have hne : l ≠ [] := fun h => by rw [h] at hw; simp at hw
  refine PC.of_loose (ACall.of_AW (fun args w => Try.call32 args w) Try.func32 rfl (by simp [Try.ntmps32]) ?_)
  simp only [Try.ntmps32, List.length_nil]
  all_goals repeat' (first | (refine Zc ?_ ?_ <;> intro h <;> (try simp [go_sem] at h) <;> try omega) | (refine Zi ?_; try simp only [AThen, ABlock]) | (refine Ze ?_; simp +decide only [AThen, ABlock, reduceIte]) | (refine Zt ?_; (try simp [go_sem]); all_goals (try simp [loR, lo]); all_goals try exact rfl) | ((first | refine Zq ?_ | refine Zr ?_ | refine Zw ?_ | refine Zx ?_); intro K hK; repeat' (first | ((first | refine Zs ?_ | refine Zl ?_ | refine Z0 ?_ | refine Zd ?_); intro HK hk; simp [go_sem]; (repeat refine ⟨by omega, ?_⟩); apply hk; clear hk HK) | ((first | refine Zg ?_ ?_ | refine Zh ?_ ?_ | refine Zp ?_ ?_ | refine Zk ?_ ?_) <;> intro hg <;> simp only [hg] <;> (try simp at hg) <;> try omega)); all_goals try ((first | refine Zn ?_ | refine Zm ?_); apply hK; clear hK K; try simp only [AThen, ABlock])) | refine Zz ?_ | refine Zb ?_)
  all_goals try exact rfl
  refine AW.upto 1 (fun _ => True) (fun k => [(8, .c (.p (.int .i64 k))), (7, .c (.own 0 l.length)), (0, .c (.p (lnP l))), (1, .c (.p (isP [(w : Int)]))), (2, .c (.p (.sl false [itemP it])))]) (fun k => [.arr 47 5 0 ((if k = 0 then l else l.set w (readF ln it).1).map laneP)]) trivial ?_ fun k hk _ => ?_
  · refine Sub.of 1 (by simp) (by first | (simp; done) | (simp [go_sem]; done)) (by simp [go_sem]) ?_ (by simp [go_sem])
    simp [go_sem]
  · have hk01 : k = 0 ∨ k = 1 := by omega
    rcases hk01 with rfl | rfl
    · refine AW.weak (Sub.holes 1) ?_; simp only [List.replicate, List.cons_append, List.nil_append]
      all_goals repeat' (first | (refine Zc ?_ ?_ <;> intro h <;> (try simp [go_sem, hx] at h) <;> try omega) | (refine Zi ?_; try simp only [AThen, ABlock]) | (refine Ze ?_; simp +decide only [AThen, ABlock, reduceIte]) | (refine Zt ?_; (try simp [go_sem, hx]); all_goals (try simp [loR, lo]); all_goals try exact rfl) | ((first | refine AW.q false fun K hK => ?_ | refine AW.ql false fun K hK => ?_ | refine AW.w [(none, [1]), (none, [1]), (none, [1]), (none, [1]), (none, [1]), (none, [1]), (none, [1]), (none, [1]), (none, [1]), (none, [1]), (none, [1]), (none, [1]), (none, [1]), (none, [1]), (none, [1, 1]), (some 1, []), (some 1, [])] rfl (by decide +kernel) fun K hK => ?_ | refine AW.wl [(none, [1]), (none, [1]), (none, [1]), (none, [1]), (none, [1]), (none, [1]), (none, [1]), (none, [1]), (none, [1]), (none, [1]), (none, [1]), (none, [1]), (none, [1]), (none, [1]), (none, [1, 1]), (some 1, []), (some 1, [])] rfl (by decide +kernel) fun K hK => ?_); repeat' (first | ((first | refine Zs ?_ | refine Zl ?_ | refine Z0 ?_ | refine Zd ?_); intro HK hk; simp [go_sem, hx]; (repeat refine ⟨by omega, ?_⟩); apply hk; clear hk HK) | ((first | refine Zg ?_ ?_ | refine Zh ?_ ?_ | refine Zp ?_ ?_ | refine Zk ?_ ?_) <;> intro hg <;> simp only [hg] <;> (try simp at hg) <;> try omega)); all_goals try ((first | refine Zn ?_ | refine Zm ?_); apply hK; clear hK K; try simp only [AThen, ABlock])) | refine Zz ?_ | refine Zb ?_)
      all_goals try exact rfl
      (first | refine Zs ?_ | refine Z0 ?_ | refine Zd ?_); intro HK hk; simp [go_sem]; (repeat refine ⟨by omega, ?_⟩); (first | refine ACall.pur rfl (pc_59 ln it hl hp hb hi) ?_ | refine ACallD.mk rfl (pc_59 ln it hl hp hb hi) ?_); simp [go_sem, hx]; (repeat refine ⟨by omega, ?_⟩); apply hk; clear hk HK; repeat' (first | ((first | refine Zs ?_ | refine Zl ?_ | refine Z0 ?_ | refine Zd ?_); intro HK hk; simp [go_sem, hx]; (repeat refine ⟨by omega, ?_⟩); apply hk; clear hk HK) | ((first | refine Zg ?_ ?_ | refine Zh ?_ ?_ | refine Zp ?_ ?_ | refine Zk ?_ ?_) <;> intro hg <;> simp only [hg] <;> (try simp at hg) <;> try omega))
      all_goals try ((first | refine Zn ?_ | refine Zm ?_); apply hK; clear hK K; try simp only [AThen, ABlock])
      all_goals repeat' (first | (refine Zc ?_ ?_ <;> intro h <;> (try simp [go_sem, hx, hw] at h) <;> try omega) | (refine Zi ?_; try simp only [AThen, ABlock]) | (refine Ze ?_; simp +decide only [AThen, ABlock, reduceIte]) | (refine Zt ?_; (try simp [go_sem, hx, hw]); all_goals (try simp [loR, lo]); all_goals try exact rfl) | ((first | refine AW.q false fun K hK => ?_ | refine AW.ql false fun K hK => ?_ | refine AW.w [(none, []), (none, []), (none, []), (none, []), (none, []), (none, []), (none, []), (some 0, [])] rfl (by decide +kernel) fun K hK => ?_ | refine AW.wl [(none, []), (none, []), (none, []), (none, []), (none, []), (none, []), (none, []), (some 0, [])] rfl (by decide +kernel) fun K hK => ?_); repeat' (first | ((first | refine Zs ?_ | refine Zl ?_ | refine Z0 ?_ | refine Zd ?_); intro HK hk; simp [go_sem, hx, hw]; (repeat refine ⟨by omega, ?_⟩); apply hk; clear hk HK) | ((first | refine Zg ?_ ?_ | refine Zh ?_ ?_ | refine Zp ?_ ?_ | refine Zk ?_ ?_) <;> intro hg <;> simp only [hg] <;> (try simp at hg) <;> try omega)); all_goals try ((first | refine Zn ?_ | refine Zm ?_); apply hK; clear hK K; try simp only [AThen, ABlock])) | refine Zz ?_ | refine Zb ?_)
      all_goals try exact rfl
      refine ⟨by omega, trivial, ?_⟩
      refine Sub.of 1 (by simp) (by first | (simp [List.map_set]; done) | (simp [go_sem, List.map_set]; done)) (by simp [go_sem]) ?_ (by simp [go_sem])
      simp [go_sem, List.map_set]
    · all_goals repeat' (first | (refine Zc ?_ ?_ <;> intro h <;> (try simp [go_sem] at h) <;> try omega) | (refine Zi ?_; try simp only [AThen, ABlock]) | (refine Ze ?_; simp +decide only [AThen, ABlock, reduceIte]) | (refine Zt ?_; (try simp [go_sem]); all_goals (try simp [loR, lo]); all_goals try exact rfl) | ((first | refine Zq ?_ | refine Zr ?_ | refine Zw ?_ | refine Zx ?_); intro K hK; repeat' (first | ((first | refine Zs ?_ | refine Zl ?_ | refine Z0 ?_ | refine Zd ?_); intro HK hk; simp [go_sem]; (repeat refine ⟨by omega, ?_⟩); apply hk; clear hk HK) | ((first | refine Zg ?_ ?_ | refine Zh ?_ ?_ | refine Zp ?_ ?_ | refine Zk ?_ ?_) <;> intro hg <;> simp only [hg] <;> (try simp at hg) <;> try omega)); all_goals try ((first | refine Zn ?_ | refine Zm ?_); apply hK; clear hK K; try simp only [AThen, ABlock])) | refine Zz ?_ | refine Zb ?_)
      all_goals try exact rfl
end Go.Proofs.Ytogappokeheilaa
