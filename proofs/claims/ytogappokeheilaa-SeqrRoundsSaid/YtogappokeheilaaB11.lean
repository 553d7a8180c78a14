import Derived.Test.YtogappokeheilaaB10
set_option linter.unusedVariables false
set_option linter.unusedSimpArgs false
set_option maxRecDepth 100000
set_option maxHeartbeats 0
namespace Go.Proofs.Ytogappokeheilaa
open Go.Aw

abbrev setH (l : Lane) (e : Entry) : List AObj := [.var ((laneP l).map .p), .var ((entP e).map .p), .var laneZ]
theorem ac_104s (l : Lane) (e : Entry) (K : AV → List AObj → Prop) (hl : l.L.length ≤ 1000)
    (h1 : K (.c (.p (.int .i64 (idxF (seqP e.Seq) l.L)))) (setH l e)) :
    ACall Try.prog 104 [.c (.p (.sl false (l.L.map entP))), .c (.clo 105 [] [(1, 0)])] (setH l e) K := by
  refine ACall.of_AW (fun args w => Try.call104 args w) Try.func104 rfl (by simp [Try.ntmps104]) ?_
  simp only [Try.ntmps104, List.length_append, List.length_cons, List.length_nil, List.cons_append, List.nil_append, List.map_cons, List.map_nil, Nat.zero_add, Nat.reduceAdd, capAV]
  all_goals repeat' (first | (refine Zc ?_ ?_ <;> intro h <;> (try simp [go_sem] at h) <;> try omega) | (refine Zi ?_; try simp only [AThen, ABlock]) | (refine Ze ?_; simp +decide only [AThen, ABlock, reduceIte]) | (refine Zt ?_; (try simp [go_sem]); all_goals (try simp [loR, lo]); all_goals try exact rfl) | ((first | refine Zq ?_ | refine Zr ?_ | refine Zw ?_ | refine Zx ?_); intro K hK; repeat' (first | ((first | refine Zs ?_ | refine Zl ?_ | refine Z0 ?_ | refine Zd ?_); intro HK hk; simp [go_sem]; (repeat refine ⟨by omega, ?_⟩); apply hk; clear hk HK) | ((first | refine Zg ?_ ?_ | refine Zh ?_ ?_ | refine Zp ?_ ?_ | refine Zk ?_ ?_) <;> intro hg <;> simp only [hg] <;> (try simp at hg) <;> try omega)); all_goals try ((first | refine Zn ?_ | refine Zm ?_); apply hK; clear hK K; try simp only [AThen, ABlock])) | refine Zz ?_ | refine Zb ?_)
  all_goals try exact rfl
  refine AW.upto l.L.length (fun k => ∀ y, y ∈ l.L.take k → seqP e.Seq y = false) (fun k => [(8, .c (.p (.int .i64 k))), (7, .c (.p (.int .i64 l.L.length))), (0, .c (.p (.sl false (l.L.map entP)))), (1, .c (.clo 105 [] [(1, 0)]))]) (fun _ => setH l e) (by simp) ?_ fun k hk hj => ?_
  · refine Sub.of 3 (by simp) (by first | (simp; done) | (simp [go_sem]; done)) (by simp [go_sem]) ?_ (by simp [go_sem])
    simp [go_sem]
  · all_goals repeat' (first | (refine Zc ?_ ?_ <;> intro h <;> (try simp [go_sem] at h) <;> try omega) | (refine Zi ?_; try simp only [AThen, ABlock]) | (refine Ze ?_; simp +decide only [AThen, ABlock, reduceIte]) | (refine Zt ?_; (try simp [go_sem]); all_goals (try simp [loR, lo]); all_goals try exact rfl) | ((first | refine Zq ?_ | refine Zr ?_ | refine Zw ?_ | refine Zx ?_); intro K hK; repeat' (first | ((first | refine Zs ?_ | refine Zl ?_ | refine Z0 ?_ | refine Zd ?_); intro HK hk; simp [go_sem]; (repeat refine ⟨by omega, ?_⟩); apply hk; clear hk HK) | ((first | refine Zg ?_ ?_ | refine Zh ?_ ?_ | refine Zp ?_ ?_ | refine Zk ?_ ?_) <;> intro hg <;> simp only [hg] <;> (try simp at hg) <;> try omega)); all_goals try ((first | refine Zn ?_ | refine Zm ?_); apply hK; clear hK K; try simp only [AThen, ABlock])) | refine Zz ?_ | refine Zb ?_)
    all_goals try exact rfl
    · have hkl := h
      obtain ⟨x, hx⟩ : ∃ x, l.L[k]? = some x := ⟨_, List.getElem?_eq_getElem hkl⟩
      have hw := wrapS (show (k : Int) < 9223372036854775807 by omega)
      all_goals (repeat' (first | ((first | refine Zs ?_ | refine Zl ?_ | refine Z0 ?_ | refine Zd ?_); intro HK hk; simp [go_sem, hx]; (repeat refine ⟨by omega, ?_⟩); apply hk; clear hk HK) | ((first | refine Zg ?_ ?_ | refine Zh ?_ ?_ | refine Zp ?_ ?_ | refine Zk ?_ ?_) <;> intro hg <;> simp only [hg] <;> (try simp at hg) <;> try omega)))
      all_goals try ((first | refine Zn ?_ | refine Zm ?_); apply hK; clear hK K; try simp only [AThen, ABlock])
      (first | refine Zs ?_ | refine Zl ?_ | refine Z0 ?_ | refine Zd ?_); intro HK hk; simp [go_sem, hx]
      refine ACall.of_AW (fun args w => Try.call105 args w) Try.func105 rfl (by simp [Try.ntmps105]) ?_
      simp only [Try.ntmps105, List.length_append, List.length_cons, List.length_nil, List.cons_append, List.nil_append, List.map_cons, List.map_nil, Nat.zero_add, Nat.reduceAdd, capAV]
      all_goals repeat' (first | (refine Zc ?_ ?_ <;> intro h <;> (try simp [go_sem] at h) <;> try omega) | (refine Zi ?_; try simp only [AThen, ABlock]) | (refine Ze ?_; simp +decide only [AThen, ABlock, reduceIte]) | (refine Zt ?_; (try simp [go_sem]); all_goals (try simp [loR, lo]); all_goals try exact rfl) | ((first | refine Zq ?_ | refine Zr ?_ | refine Zw ?_ | refine Zx ?_); intro K hK; repeat' (first | ((first | refine Zs ?_ | refine Zl ?_ | refine Z0 ?_ | refine Zd ?_); intro HK hk; simp [go_sem]; (repeat refine ⟨by omega, ?_⟩); apply hk; clear hk HK) | ((first | refine Zg ?_ ?_ | refine Zh ?_ ?_ | refine Zp ?_ ?_ | refine Zk ?_ ?_) <;> intro hg <;> simp only [hg] <;> (try simp at hg) <;> try omega)); all_goals try ((first | refine Zn ?_ | refine Zm ?_); apply hK; clear hK K; try simp only [AThen, ABlock])) | refine Zz ?_ | refine Zb ?_)
      all_goals try exact rfl
      have hsq : (x.Seq == e.Seq) = seqP e.Seq x := rfl
      rw [hsq]
      apply hk; clear hk HK
      refine aops_n ?_; apply hK; clear hK K; try simp only [AThen, ABlock]
      refine AW.weak (sl' := [(16, .c (.p (.bool (seqP e.Seq x)))), (5, .c (.p (.int .i64 k))), (8, .c (.p (.int .i64 k))), (7, .c (.p (.int .i64 l.L.length))), (0, .c (.p (.sl false (l.L.map entP)))), (1, .c (.clo 105 [] [(1, 0)]))]) (H' := setH l e) ?_ ?_
      · refine Sub.of 3 (by simp) (by first | (simp; done) | (simp [go_sem]; done)) (by simp [go_sem]) ?_ (by simp [go_sem])
        simp [go_sem]
      cases hpx : seqP e.Seq x with
      | true =>
        all_goals repeat' (first | (refine Zc ?_ ?_ <;> intro h <;> (try simp [go_sem, hpx] at h) <;> try omega) | (refine Zi ?_; try simp only [AThen, ABlock]) | (refine Ze ?_; simp +decide only [AThen, ABlock, reduceIte]) | (refine Zt ?_; (try simp [go_sem, hpx]); all_goals (try simp [loR, lo]); all_goals try exact rfl) | ((first | refine Zq ?_ | refine Zr ?_ | refine Zw ?_ | refine Zx ?_); intro K hK; repeat' (first | ((first | refine Zs ?_ | refine Zl ?_ | refine Z0 ?_ | refine Zd ?_); intro HK hk; simp [go_sem, hpx]; (repeat refine ⟨by omega, ?_⟩); apply hk; clear hk HK) | ((first | refine Zg ?_ ?_ | refine Zh ?_ ?_ | refine Zp ?_ ?_ | refine Zk ?_ ?_) <;> intro hg <;> simp only [hg] <;> (try simp at hg) <;> try omega)); all_goals try ((first | refine Zn ?_ | refine Zm ?_); apply hK; clear hK K; try simp only [AThen, ABlock])) | refine Zz ?_ | refine Zb ?_)
        all_goals try exact rfl
        rw [idx_hit hj hx hpx] at h1; exact h1
      | false =>
        all_goals repeat' (first | (refine Zc ?_ ?_ <;> intro h <;> (try simp [go_sem, hpx, hw] at h) <;> try omega) | (refine Zi ?_; try simp only [AThen, ABlock]) | (refine Ze ?_; simp +decide only [AThen, ABlock, reduceIte]) | (refine Zt ?_; (try simp [go_sem, hpx, hw]); all_goals (try simp [loR, lo]); all_goals try exact rfl) | ((first | refine Zq ?_ | refine Zr ?_ | refine Zw ?_ | refine Zx ?_); intro K hK; repeat' (first | ((first | refine Zs ?_ | refine Zl ?_ | refine Z0 ?_ | refine Zd ?_); intro HK hk; simp [go_sem, hpx, hw]; (repeat refine ⟨by omega, ?_⟩); apply hk; clear hk HK) | ((first | refine Zg ?_ ?_ | refine Zh ?_ ?_ | refine Zp ?_ ?_ | refine Zk ?_ ?_) <;> intro hg <;> simp only [hg] <;> (try simp at hg) <;> try omega)); all_goals try ((first | refine Zn ?_ | refine Zm ?_); apply hK; clear hK K; try simp only [AThen, ABlock])) | refine Zz ?_ | refine Zb ?_)
        all_goals try exact rfl
        refine ⟨hkl, take_all_succ hx hj hpx, ?_⟩
        refine Sub.of 3 (by simp) (by first | (simp; done) | (simp [go_sem]; done)) (by simp [go_sem]) ?_ (by simp [go_sem])
        simp [go_sem]
    · obtain rfl : k = l.L.length := by omega
      rw [idx_none hj] at h1
      exact h1
end Go.Proofs.Ytogappokeheilaa
