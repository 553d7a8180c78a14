import Derived.Test.YtogappokeheilaaB11
set_option linter.unusedVariables false
set_option linter.unusedSimpArgs false
set_option maxRecDepth 100000
set_option maxHeartbeats 0
namespace Go.Proofs.Ytogappokeheilaa
open Go.Aw

theorem popN_full {seq : Int} {l : List Entry} (h : ∀ y, y ∈ l → seqP seq y = false) : popN seq l l.length = l := by
  rw [popN_none (by rw [List.take_length]; exact h), List.take_length]
abbrev popG (l : Lane) (seq : Int) (f : Nat) (es : List (List PV)) : List AObj := [.var ((laneP l).map .p), .var [.p (.int .i64 seq)], .var laneZ, .arr 49 5 f es]
theorem ac_101 (l : Lane) (seq : Int) (K : AV → List AObj → Prop) (hl : l.L.length ≤ 1000)
    (h1 : popN seq l.L l.L.length = l.L → K (.c (.own 3 l.L.length)) (popH l seq))
    (h2 : ∀ f es, K (.c (.p (.sl false ((popN seq l.L l.L.length).map entP)))) (popG l seq f es)) :
    ACall Try.prog 101 [.c (.own 3 l.L.length), .c (.clo 103 [] [(1, 0)])] (popH l seq) K := by
  refine ACall.of_AW (fun args w => Try.call101 args w) Try.func101 rfl (by simp [Try.ntmps101]) ?_
  simp only [Try.ntmps101, List.length_append, List.length_cons, List.length_nil, List.cons_append, List.nil_append, List.map_cons, List.map_nil, Nat.zero_add, Nat.reduceAdd, capAV]
  all_goals repeat' (first | (refine Zc ?_ ?_ <;> intro h <;> (try simp [go_sem] at h) <;> try omega) | (refine Zi ?_; try simp only [AThen, ABlock]) | (refine Ze ?_; simp +decide only [AThen, ABlock, reduceIte]) | (refine Zt ?_; (try simp [go_sem]); all_goals (try simp [loR, lo]); all_goals try exact rfl) | ((first | refine Zq ?_ | refine Zr ?_ | refine Zw ?_ | refine Zx ?_); intro K hK; repeat' (first | ((first | refine Zs ?_ | refine Zl ?_ | refine Z0 ?_ | refine Zd ?_); intro HK hk; simp [go_sem]; (repeat refine ⟨by omega, ?_⟩); apply hk; clear hk HK) | ((first | refine Zg ?_ ?_ | refine Zh ?_ ?_ | refine Zp ?_ ?_ | refine Zk ?_ ?_) <;> intro hg <;> simp only [hg] <;> (try simp at hg) <;> try omega)); all_goals try ((first | refine Zn ?_ | refine Zm ?_); apply hK; clear hK K; try simp only [AThen, ABlock])) | refine Zz ?_ | refine Zb ?_)
  all_goals try exact rfl
  (first | refine Zs ?_ | refine Zl ?_ | refine Z0 ?_ | refine Zd ?_); intro HK hk; simp [go_sem]
  refine ac_104 l seq _ hl ?_
  cases hq : l.L.findIdx? (seqP seq) with
  | none =>
    have hi : idxF (seqP seq) l.L = -1 := by unfold idxF; rw [hq]
    have hfull := popN_full (List.findIdx?_eq_none_iff.1 hq)
    rw [hi]
    (repeat refine ⟨by omega, ?_⟩); apply hk; clear hk HK; repeat' (first | ((first | refine Zs ?_ | refine Zl ?_ | refine Z0 ?_ | refine Zd ?_); intro HK hk; simp [go_sem]; (repeat refine ⟨by omega, ?_⟩); apply hk; clear hk HK) | ((first | refine Zg ?_ ?_ | refine Zh ?_ ?_ | refine Zp ?_ ?_ | refine Zk ?_ ?_) <;> intro hg <;> simp only [hg] <;> (try simp at hg) <;> try omega))
    all_goals try ((first | refine Zn ?_ | refine Zm ?_); apply hK; clear hK K; try simp only [AThen, ABlock])
    all_goals repeat' (first | (refine Zc ?_ ?_ <;> intro h <;> (try simp [go_sem] at h) <;> try omega) | (refine Zi ?_; try simp only [AThen, ABlock]) | (refine Ze ?_; simp +decide only [AThen, ABlock, reduceIte]) | (refine Zt ?_; (try simp [go_sem]); all_goals (try simp [loR, lo]); all_goals try exact rfl) | ((first | refine Zq ?_ | refine Zr ?_ | refine Zw ?_ | refine Zx ?_); intro K hK; repeat' (first | ((first | refine Zs ?_ | refine Zl ?_ | refine Z0 ?_ | refine Zd ?_); intro HK hk; simp [go_sem]; (repeat refine ⟨by omega, ?_⟩); apply hk; clear hk HK) | ((first | refine Zg ?_ ?_ | refine Zh ?_ ?_ | refine Zp ?_ ?_ | refine Zk ?_ ?_) <;> intro hg <;> simp only [hg] <;> (try simp at hg) <;> try omega)); all_goals try ((first | refine Zn ?_ | refine Zm ?_); apply hK; clear hK K; try simp only [AThen, ABlock])) | refine Zz ?_ | refine Zb ?_)
    all_goals try exact rfl
    exact h1 hfull
  | some i0 =>
    have hi : idxF (seqP seq) l.L = i0 := by unfold idxF; rw [hq]
    obtain ⟨hi0, hp0, hn0⟩ := List.findIdx?_eq_some_iff_getElem.1 hq
    have hpre : ∀ y, y ∈ l.L.take i0 → seqP seq y = false := by
      intro y hy
      obtain ⟨j, hj, rfl⟩ := List.mem_take_iff_getElem.1 hy
      have := hn0 j (by omega)
      simpa using this
    have hx0 : l.L[i0]? = some l.L[i0] := List.getElem?_eq_getElem hi0
    have hpop : popN seq l.L (i0 + 1) = l.L.take i0 := by rw [popN_succ hx0, hp0, if_pos rfl, popN_none hpre]
    have hdel : delK seq l.L (i0 + 1) = l.L := by
      simp only [delK, hx0, hp0, if_true]
      exact delK_first hpre i0 (Nat.le_refl _) (by omega)
    have hpl : (popN seq l.L (i0 + 1)).length = i0 := by rw [hpop, List.length_take]; omega
    have hw0 := wrapS (show (i0 : Int) < 9223372036854775807 by omega)
    rw [hi]
    (repeat refine ⟨by omega, ?_⟩); apply hk; clear hk HK; repeat' (first | ((first | refine Zs ?_ | refine Zl ?_ | refine Z0 ?_ | refine Zd ?_); intro HK hk; simp [go_sem, hw0]; (repeat refine ⟨by omega, ?_⟩); apply hk; clear hk HK) | ((first | refine Zg ?_ ?_ | refine Zh ?_ ?_ | refine Zp ?_ ?_ | refine Zk ?_ ?_) <;> intro hg <;> simp only [hg] <;> (try simp at hg) <;> try omega))
    all_goals try ((first | refine Zn ?_ | refine Zm ?_); apply hK; clear hK K; try simp only [AThen, ABlock])
    all_goals repeat' (first | (refine Zc ?_ ?_ <;> intro h <;> (try simp [go_sem, hw0] at h) <;> try omega) | (refine Zi ?_; try simp only [AThen, ABlock]) | (refine Ze ?_; simp +decide only [AThen, ABlock, reduceIte]) | (refine Zt ?_; (try simp [go_sem, hw0]); all_goals (try simp [loR, lo]); all_goals try exact rfl) | ((first | refine Zq ?_ | refine Zr ?_ | refine Zw ?_ | refine Zx ?_); intro K hK; repeat' (first | ((first | refine Zs ?_ | refine Zl ?_ | refine Z0 ?_ | refine Zd ?_); intro HK hk; simp [go_sem, hw0]; (repeat refine ⟨by omega, ?_⟩); apply hk; clear hk HK) | ((first | refine Zg ?_ ?_ | refine Zh ?_ ?_ | refine Zp ?_ ?_ | refine Zk ?_ ?_) <;> intro hg <;> simp only [hg] <;> (try simp at hg) <;> try omega)); all_goals try ((first | refine Zn ?_ | refine Zm ?_); apply hK; clear hK K; try simp only [AThen, ABlock])) | refine Zz ?_ | refine Zb ?_)
    all_goals try exact rfl
    refine AW.upto (l.L.length - (i0 + 1)) (fun _ => True) (fun k => [(6, .c (.p (.int .i64 (i0 + 1 + k : Nat)))), (5, .c (.p (.int .i64 (popN seq l.L (i0 + 1 + k)).length))), (0, .c (.own 3 l.L.length)), (1, .c (.clo 103 [] [(1, 0)]))]) (fun k => popG l seq 0 ((delK seq l.L (i0 + 1 + k)).map entP)) trivial ?_ fun k hk _ => ?_
    · refine Sub.of 4 (by simp) (by first | (simp [hpl, hdel]; done) | (simp [go_sem, hpl, hdel]; done)) (by simp [go_sem]) ?_ (by simp [go_sem])
      simp [go_sem, hpl, hdel]
    · obtain ⟨j, hj⟩ : ∃ j, j = i0 + 1 + k := ⟨_, rfl⟩
      have hj2 : i0 + 1 + (k + 1) = j + 1 := by omega
      rw [hj2, ← hj]
      obtain ⟨hd1, hd2, hd3, hd4⟩ := delK_facts seq l.L j (by omega)
      (first | (refine AW.q false fun K hK => ?_) | (refine AW.seq ?_; refine AW.q false fun K hK => ?_) | (refine AW.seq (AW.seq ?_); refine AW.q false fun K hK => ?_) | (refine AW.block ?_; refine AW.q false fun K hK => ?_) | (refine AW.seq (AW.block ?_); refine AW.q false fun K hK => ?_) | (refine AW.ql false fun K hK => ?_)); repeat ((first | refine Zs ?_ | refine Zl ?_ | refine Z0 ?_ | refine Zd ?_); intro HK hk; simp [go_sem, hd1]; (repeat refine ⟨by omega, ?_⟩); apply hk; clear hk HK)
      try ((first | refine Zn ?_ | refine Zm ?_); apply hK; clear hK K; try simp only [AThen, ABlock])
      refine AW.cond rfl (fun h => ?_) (fun h => ?_) <;> simp [go_sem] at h
      · refine AW.skip ?_; simp only [AThen, ABlock]
        obtain ⟨x, hx⟩ : ∃ x, l.L[j]? = some x := ⟨_, List.getElem?_eq_getElem (by omega)⟩
        have hxd : (delK seq l.L j)[j]? = some x := by rw [hd2 j (Nat.le_refl _)]; exact hx
        have hw := wrapS (show (j : Int) < 9223372036854775807 by omega)
        have hw2 := wrapS (show ((popN seq l.L j).length : Int) < 9223372036854775807 by omega)
        obtain ⟨y, hy⟩ : ∃ y, (delK seq l.L j)[(popN seq l.L j).length]? = some y := ⟨_, List.getElem?_eq_getElem (by omega)⟩
        have hps := popN_succ (seq := seq) hx
        have hds : delK seq l.L (j + 1) = if seqP seq x then delK seq l.L j else (delK seq l.L j).set (popN seq l.L j).length x := by simp only [delK, hx]
        all_goals repeat' (first | (refine Zc ?_ ?_ <;> intro h <;> (try simp [go_sem, hd1, hxd] at h) <;> try omega) | (refine Zi ?_; try simp only [AThen, ABlock]) | (refine Ze ?_; simp +decide only [AThen, ABlock, reduceIte]) | (refine Zt ?_; (try simp [go_sem, hd1, hxd]); all_goals (try simp [loR, lo]); all_goals try exact rfl) | ((first | refine Zq ?_ | refine Zr ?_ | refine Zw ?_ | refine Zx ?_); intro K hK; repeat' (first | ((first | refine Zs ?_ | refine Zl ?_ | refine Z0 ?_ | refine Zd ?_); intro HK hk; simp [go_sem, hd1, hxd]; (repeat refine ⟨by omega, ?_⟩); apply hk; clear hk HK) | ((first | refine Zg ?_ ?_ | refine Zh ?_ ?_ | refine Zp ?_ ?_ | refine Zk ?_ ?_) <;> intro hg <;> simp only [hg] <;> (try simp at hg) <;> try omega)); all_goals try ((first | refine Zn ?_ | refine Zm ?_); apply hK; clear hK K; try simp only [AThen, ABlock])) | refine Zz ?_ | refine Zb ?_)
        all_goals try exact rfl
        (first | refine Zs ?_ | refine Zl ?_ | refine Z0 ?_ | refine Zd ?_); intro HK hk; simp [go_sem, hd1, hxd]
        refine ACall.of_AW (fun args w => Try.call103 args w) Try.func103 rfl (by simp [Try.ntmps103]) ?_
        simp only [Try.ntmps103, List.length_append, List.length_cons, List.length_nil, List.cons_append, List.nil_append, List.map_cons, List.map_nil, Nat.zero_add, Nat.reduceAdd, capAV]
        all_goals repeat' (first | (refine Zc ?_ ?_ <;> intro h <;> (try simp [go_sem] at h) <;> try omega) | (refine Zi ?_; try simp only [AThen, ABlock]) | (refine Ze ?_; simp +decide only [AThen, ABlock, reduceIte]) | (refine Zt ?_; (try simp [go_sem]); all_goals (try simp [loR, lo]); all_goals try exact rfl) | ((first | refine Zq ?_ | refine Zr ?_ | refine Zw ?_ | refine Zx ?_); intro K hK; repeat' (first | ((first | refine Zs ?_ | refine Zl ?_ | refine Z0 ?_ | refine Zd ?_); intro HK hk; simp [go_sem]; (repeat refine ⟨by omega, ?_⟩); apply hk; clear hk HK) | ((first | refine Zg ?_ ?_ | refine Zh ?_ ?_ | refine Zp ?_ ?_ | refine Zk ?_ ?_) <;> intro hg <;> simp only [hg] <;> (try simp at hg) <;> try omega)); all_goals try ((first | refine Zn ?_ | refine Zm ?_); apply hK; clear hK K; try simp only [AThen, ABlock])) | refine Zz ?_ | refine Zb ?_)
        all_goals try exact rfl
        have hsq : (x.Seq == seq) = seqP seq x := rfl
        rw [hsq]
        (repeat refine ⟨by omega, ?_⟩); apply hk; clear hk HK; repeat' (first | ((first | refine Zs ?_ | refine Zl ?_ | refine Z0 ?_ | refine Zd ?_); intro HK hk; simp [go_sem]; (repeat refine ⟨by omega, ?_⟩); apply hk; clear hk HK) | ((first | refine Zg ?_ ?_ | refine Zh ?_ ?_ | refine Zp ?_ ?_ | refine Zk ?_ ?_) <;> intro hg <;> simp only [hg] <;> (try simp at hg) <;> try omega))
        all_goals try ((first | refine Zn ?_ | refine Zm ?_); apply hK; clear hK K; try simp only [AThen, ABlock])
        cases hpx : seqP seq x with
        | true =>
          rw [hpx, if_pos rfl] at hps hds
          all_goals repeat' (first | (refine Zc ?_ ?_ <;> intro h <;> (try simp [go_sem, hpx, hw] at h) <;> try omega) | (refine Zi ?_; try simp only [AThen, ABlock]) | (refine Ze ?_; simp +decide only [AThen, ABlock, reduceIte]) | (refine Zt ?_; (try simp [go_sem, hpx, hw]); all_goals (try simp [loR, lo]); all_goals try exact rfl) | ((first | refine Zq ?_ | refine Zr ?_ | refine Zw ?_ | refine Zx ?_); intro K hK; repeat' (first | ((first | refine Zs ?_ | refine Zl ?_ | refine Z0 ?_ | refine Zd ?_); intro HK hk; simp [go_sem, hpx, hw]; (repeat refine ⟨by omega, ?_⟩); apply hk; clear hk HK) | ((first | refine Zg ?_ ?_ | refine Zh ?_ ?_ | refine Zp ?_ ?_ | refine Zk ?_ ?_) <;> intro hg <;> simp only [hg] <;> (try simp at hg) <;> try omega)); all_goals try ((first | refine Zn ?_ | refine Zm ?_); apply hK; clear hK K; try simp only [AThen, ABlock])) | refine Zz ?_ | refine Zb ?_)
          all_goals try exact rfl
          refine ⟨by omega, trivial, ?_⟩
          refine Sub.of 4 (by simp) (by first | (simp [hps, hds]; done) | (simp [go_sem, hps, hds]; done)) (by simp [go_sem]) ?_ (by simp [go_sem])
          simp [go_sem, hps, hds]
        | false =>
          rw [hpx] at hps hds
          simp only [Bool.false_eq_true, if_false] at hps hds
          all_goals repeat' (first | (refine Zc ?_ ?_ <;> intro h <;> (try simp [go_sem, hpx, hd1, hy, hw, hw2] at h) <;> try omega) | (refine Zi ?_; try simp only [AThen, ABlock]) | (refine Ze ?_; simp +decide only [AThen, ABlock, reduceIte]) | (refine Zt ?_; (try simp [go_sem, hpx, hd1, hy, hw, hw2]); all_goals (try simp [loR, lo]); all_goals try exact rfl) | ((first | refine Zq ?_ | refine Zr ?_ | refine Zw ?_ | refine Zx ?_); intro K hK; repeat' (first | ((first | refine Zs ?_ | refine Zl ?_ | refine Z0 ?_ | refine Zd ?_); intro HK hk; simp [go_sem, hpx, hd1, hy, hw, hw2]; (repeat refine ⟨by omega, ?_⟩); apply hk; clear hk HK) | ((first | refine Zg ?_ ?_ | refine Zh ?_ ?_ | refine Zp ?_ ?_ | refine Zk ?_ ?_) <;> intro hg <;> simp only [hg] <;> (try simp at hg) <;> try omega)); all_goals try ((first | refine Zn ?_ | refine Zm ?_); apply hK; clear hK K; try simp only [AThen, ABlock])) | refine Zz ?_ | refine Zb ?_)
          all_goals try exact rfl
          refine ⟨by omega, trivial, ?_⟩
          refine Sub.of 4 (by simp) (by first | (simp [hps, hds, entP]; done) | (simp [go_sem, hps, hds, entP]; done)) (by simp [go_sem]) ?_ (by simp [go_sem])
          simp [go_sem, hps, hds, entP]
      · obtain rfl : j = l.L.length := by omega
        refine AW.exit ?_; simp +decide only [AThen, ABlock, reduceIte]
        refine AW.seq (AW.clr rfl ?_)
        simp [go_sem]
        have hz : zeroP Try.prog 49 = some [.int .i64 0, .int .i64 0, .sl true [], .sl true [], .bool false] := by first | rfl | (simp [zeroP, go_sem]; done)
        refine ⟨43, 49, 38, .tmp 36, .tmp 37, 3, 49, 0, l.L.length, .i64, (popN seq l.L l.L.length).length, (delK seq l.L l.L.length).map entP, _, rfl, rfl, rfl, by decide, rfl, rfl, rfl, by simp [go_sem], hz, by simp [go_sem], by simp [go_sem], rfl, rfl, hd4, by simp [hd1], by simp [go_sem], Nat.zero_le _, ?_⟩
        simp [go_sem]
        have hpl2 : (popN seq l.L l.L.length).length ≤ (delK seq l.L l.L.length).length := by omega
        have ht : List.take (popN seq l.L l.L.length).length (List.take (popN seq l.L l.L.length).length ((delK seq l.L l.L.length).map entP) ++ List.replicate (l.L.length - (popN seq l.L l.L.length).length) [PV.int .i64 0, .int .i64 0, .sl false [], .sl false [], .bool false]) = (popN seq l.L l.L.length).map entP := by
          rw [List.take_append_of_le_length (by rw [List.length_take, List.length_map]; omega), List.take_take, Nat.min_self, ← List.map_take, hd3]
        have hlen2 : (List.take (popN seq l.L l.L.length).length ((delK seq l.L l.L.length).map entP) ++ List.replicate (l.L.length - (popN seq l.L l.L.length).length) [PV.int .i64 0, .int .i64 0, .sl false [], .sl false [], .bool false]).length = l.L.length := by simp; omega
        have hal : allLen 5 (List.take (popN seq l.L l.L.length).length ((delK seq l.L l.L.length).map entP) ++ List.replicate (l.L.length - (popN seq l.L l.L.length).length) [PV.int .i64 0, .int .i64 0, .sl false [], .sl false [], .bool false]) := by
          intro y hy
          rcases List.mem_append.1 hy with h | h
          · obtain ⟨e, _, rfl⟩ := List.mem_map.1 (List.mem_of_mem_take h); rfl
          · rw [List.eq_of_mem_replicate h]; rfl
        generalize (List.take (popN seq l.L l.L.length).length ((delK seq l.L l.L.length).map entP) ++ List.replicate (l.L.length - (popN seq l.L l.L.length).length) [PV.int .i64 0, .int .i64 0, .sl false [], .sl false [], .bool false]) = E at *
        all_goals repeat' (first | (refine Zc ?_ ?_ <;> intro h <;> (try simp [go_sem, ht, hal, hlen2] at h) <;> try omega) | (refine Zi ?_; try simp only [AThen, ABlock]) | (refine Ze ?_; simp +decide only [AThen, ABlock, reduceIte]) | (refine Zt ?_; (try simp [go_sem, ht, hal, hlen2]); all_goals (try simp [loR, lo]); all_goals try exact rfl) | ((first | refine Zq ?_ | refine Zr ?_ | refine Zw ?_ | refine Zx ?_); intro K hK; repeat' (first | ((first | refine Zs ?_ | refine Zl ?_ | refine Z0 ?_ | refine Zd ?_); intro HK hk; simp [go_sem, ht, hal, hlen2]; (repeat refine ⟨by omega, ?_⟩); apply hk; clear hk HK) | ((first | refine Zg ?_ ?_ | refine Zh ?_ ?_ | refine Zp ?_ ?_ | refine Zk ?_ ?_) <;> intro hg <;> simp only [hg] <;> (try simp at hg) <;> try omega)); all_goals try ((first | refine Zn ?_ | refine Zm ?_); apply hK; clear hK K; try simp only [AThen, ABlock])) | refine Zz ?_ | refine Zb ?_)
        all_goals try exact rfl
        exact h2 _ _
theorem pc_60 (l : Lane) (seq : Int) (hl : l.L.length ≤ 1000) : PC Try.prog 60 [bL l, bI seq] (.one (bL (popF l seq))) := by
  refine PC.of_loose (ACall.of_AW (fun args w => Try.call60 args w) Try.func60 rfl (by simp [Try.ntmps60]) ?_)
  simp only [Try.ntmps60, List.length_nil]
  all_goals repeat' (first | (refine Zc ?_ ?_ <;> intro h <;> (try simp [go_sem] at h) <;> try omega) | (refine Zi ?_; try simp only [AThen, ABlock]) | (refine Ze ?_; simp +decide only [AThen, ABlock, reduceIte]) | (refine Zt ?_; (try simp [go_sem]); all_goals (try simp [loR, lo]); all_goals try exact rfl) | ((first | refine Zq ?_ | refine Zr ?_ | refine Zw ?_ | refine Zx ?_); intro K hK; repeat' (first | ((first | refine Zs ?_ | refine Zl ?_ | refine Z0 ?_ | refine Zd ?_); intro HK hk; simp [go_sem]; (repeat refine ⟨by omega, ?_⟩); apply hk; clear hk HK) | ((first | refine Zg ?_ ?_ | refine Zh ?_ ?_ | refine Zp ?_ ?_ | refine Zk ?_ ?_) <;> intro hg <;> simp only [hg] <;> (try simp at hg) <;> try omega)); all_goals try ((first | refine Zn ?_ | refine Zm ?_); apply hK; clear hK K; try simp only [AThen, ABlock])) | refine Zz ?_ | refine Zb ?_)
  all_goals try exact rfl
  (first | refine Zs ?_ | refine Z0 ?_ | refine Zd ?_); intro HK hk; simp [go_sem]; (repeat refine ⟨by omega, ?_⟩); (first | refine ACall.pocF rfl (poc_102 l.L (by omega)) ?_ | refine POCD.mk rfl (poc_102 l.L (by omega)) (by simp [go_sem]) ?_); simp [go_sem]; (repeat refine ⟨by omega, ?_⟩); apply hk; clear hk HK; repeat' (first | ((first | refine Zs ?_ | refine Zl ?_ | refine Z0 ?_ | refine Zd ?_); intro HK hk; simp [go_sem]; (repeat refine ⟨by omega, ?_⟩); apply hk; clear hk HK) | ((first | refine Zg ?_ ?_ | refine Zh ?_ ?_ | refine Zp ?_ ?_ | refine Zk ?_ ?_) <;> intro hg <;> simp only [hg] <;> (try simp at hg) <;> try omega))
  all_goals try ((first | refine Zn ?_ | refine Zm ?_); apply hK; clear hK K; try simp only [AThen, ABlock])
  (first | refine Zs ?_ | refine Zl ?_ | refine Z0 ?_ | refine Zd ?_); intro HK hk; simp [go_sem]
  refine ac_101 l seq _ hl (fun hp => ?_) (fun f es => ?_)
  · (repeat refine ⟨by omega, ?_⟩); apply hk; clear hk HK; repeat' (first | ((first | refine Zs ?_ | refine Zl ?_ | refine Z0 ?_ | refine Zd ?_); intro HK hk; simp [go_sem]; (repeat refine ⟨by omega, ?_⟩); apply hk; clear hk HK) | ((first | refine Zg ?_ ?_ | refine Zh ?_ ?_ | refine Zp ?_ ?_ | refine Zk ?_ ?_) <;> intro hg <;> simp only [hg] <;> (try simp at hg) <;> try omega))
    all_goals try ((first | refine Zn ?_ | refine Zm ?_); apply hK; clear hK K; try simp only [AThen, ABlock])
    all_goals repeat' (first | (refine Zc ?_ ?_ <;> intro h <;> (try simp [go_sem] at h) <;> try omega) | (refine Zi ?_; try simp only [AThen, ABlock]) | (refine Ze ?_; simp +decide only [AThen, ABlock, reduceIte]) | (refine Zt ?_; (try simp [go_sem]); all_goals (try simp [loR, lo]); all_goals try exact rfl) | ((first | refine Zq ?_ | refine Zr ?_ | refine Zw ?_ | refine Zx ?_); intro K hK; repeat' (first | ((first | refine Zs ?_ | refine Zl ?_ | refine Z0 ?_ | refine Zd ?_); intro HK hk; simp [go_sem]; (repeat refine ⟨by omega, ?_⟩); apply hk; clear hk HK) | ((first | refine Zg ?_ ?_ | refine Zh ?_ ?_ | refine Zp ?_ ?_ | refine Zk ?_ ?_) <;> intro hg <;> simp only [hg] <;> (try simp at hg) <;> try omega)); all_goals try ((first | refine Zn ?_ | refine Zm ?_); apply hK; clear hK K; try simp only [AThen, ABlock])) | refine Zz ?_ | refine Zb ?_)
    all_goals try exact rfl
    have hr : popF l seq = l := by unfold popF; rw [hp]
    rw [hr]; rfl
  · (repeat refine ⟨by omega, ?_⟩); apply hk; clear hk HK; repeat' (first | ((first | refine Zs ?_ | refine Zl ?_ | refine Z0 ?_ | refine Zd ?_); intro HK hk; simp [go_sem]; (repeat refine ⟨by omega, ?_⟩); apply hk; clear hk HK) | ((first | refine Zg ?_ ?_ | refine Zh ?_ ?_ | refine Zp ?_ ?_ | refine Zk ?_ ?_) <;> intro hg <;> simp only [hg] <;> (try simp at hg) <;> try omega))
    all_goals try ((first | refine Zn ?_ | refine Zm ?_); apply hK; clear hK K; try simp only [AThen, ABlock])
    all_goals repeat' (first | (refine Zc ?_ ?_ <;> intro h <;> (try simp [go_sem] at h) <;> try omega) | (refine Zi ?_; try simp only [AThen, ABlock]) | (refine Ze ?_; simp +decide only [AThen, ABlock, reduceIte]) | (refine Zt ?_; (try simp [go_sem]); all_goals (try simp [loR, lo]); all_goals try exact rfl) | ((first | refine Zq ?_ | refine Zr ?_ | refine Zw ?_ | refine Zx ?_); intro K hK; repeat' (first | ((first | refine Zs ?_ | refine Zl ?_ | refine Z0 ?_ | refine Zd ?_); intro HK hk; simp [go_sem]; (repeat refine ⟨by omega, ?_⟩); apply hk; clear hk HK) | ((first | refine Zg ?_ ?_ | refine Zh ?_ ?_ | refine Zp ?_ ?_ | refine Zk ?_ ?_) <;> intro hg <;> simp only [hg] <;> (try simp at hg) <;> try omega)); all_goals try ((first | refine Zn ?_ | refine Zm ?_); apply hK; clear hK K; try simp only [AThen, ABlock])) | refine Zz ?_ | refine Zb ?_)
    all_goals try exact rfl
end Go.Proofs.Ytogappokeheilaa
