import Derived.Test.YtogappokeheilaaB34
set_option linter.unusedVariables false
set_option linter.unusedSimpArgs false
set_option maxRecDepth 100000
set_option maxHeartbeats 0
namespace Go.Proofs.Ytogappokeheilaa
open Go.Aw

abbrev walkR2 (s : WS) : PR := .tup [bTu s.t, bLs s.x, bDs s.o]
theorem pc_35 (t : Turn) (l : List Lane) (hm : mayT t l = true) : PC Try.prog 35 [bTu t, bLs l] (walkR2 (walkG t l)) := by
  have hi0 := qinv_start hm
  obtain ⟨_, hn2, hn64⟩ := winv_start hm
  have hne : l ≠ [] := fun h => by rw [h] at hn2; simp at hn2
  refine PC.of_loose (ACall.of_AW (fun args w => Try.call35 args w) Try.func35 rfl (by simp [Try.ntmps35]) ?_)
  simp only [Try.ntmps35, List.length_nil]
  all_goals repeat' (first | (refine Zc ?_ ?_ <;> intro h <;> (try simp [go_sem] at h) <;> try omega) | (refine Zi ?_; try simp only [AThen, ABlock]) | (refine Ze ?_; simp +decide only [AThen, ABlock, reduceIte]) | (refine Zt ?_; (try simp [go_sem]); all_goals (try simp [loR, lo]); all_goals try exact rfl) | ((first | refine Zq ?_ | refine Zr ?_ | refine Zw ?_ | refine Zx ?_); intro K hK; repeat' (first | ((first | refine Zs ?_ | refine Zl ?_ | refine Z0 ?_ | refine Zd ?_); intro HK hk; simp [go_sem]; (repeat refine ⟨by omega, ?_⟩); apply hk; clear hk HK) | ((first | refine Zg ?_ ?_ | refine Zh ?_ ?_ | refine Zp ?_ ?_ | refine Zk ?_ ?_) <;> intro hg <;> simp only [hg] <;> (try simp at hg) <;> try omega)); all_goals try ((first | refine Zn ?_ | refine Zm ?_); apply hK; clear hK K; try simp only [AThen, ABlock])) | refine Zz ?_ | refine Zb ?_)
  all_goals try exact rfl
  refine AW.weak (Sub.promote 8 51 2 (by decide) rfl) ?_
  refine AW.upto (mu l) (fun k => mu (walkQ ⟨t, l, []⟩ k).x + k ≤ mu l) (fun k => [(8, .c (.own 3 (walkQ ⟨t, l, []⟩ k).o.length)), (7, .c (.own 2 l.length)), (2, .c (.ptr 0 0)), (4, .c (.ptr 1 0))])
    (fun k => [.var ((turnP (walkQ ⟨t, l, []⟩ k).t).map .p), .var [.p (.int .i64 0), .p (.int .i64 0)], .arr 47 5 0 ((walkQ ⟨t, l, []⟩ k).x.map laneP), .arr 51 2 0 ((walkQ ⟨t, l, []⟩ k).o.map delivP)]) (by show mu l + 0 ≤ mu l; omega) ?_ fun k hk hj => ?_
  · refine Sub.of 4 (by simp) (by first | (simp [walkQ]; done) | (simp [go_sem, walkQ]; done)) (by simp [go_sem]) ?_ (by simp [go_sem])
    simp [go_sem, walkQ]
  · have hI := walkQ_inv hi0 k
    have hfin : ∀ s, qNext (walkQ ⟨t, l, []⟩ k) = none → walkQ ⟨t, l, []⟩ k = s → walkG t l = s := fun s h1 h2 => by
      have := walkQ_stop h1 (mu l - k)
      rw [show k + (mu l - k) = mu l by omega] at this
      unfold walkG; rw [this, h2]
    have hstp : ∀ s', qNext (walkQ ⟨t, l, []⟩ k) = some s' → walkQ ⟨t, l, []⟩ (k + 1) = s' := fun s' h => walkQ_step h
    generalize hS : walkQ ⟨t, l, []⟩ k = s at *
    have hxl := hI.len
    rcases qnext_cases hI with ⟨s', hq, hs⟩ | ⟨hq, hs⟩
    · obtain ⟨hI2, hmu⟩ := qstep_inv hI hs
      have hst := hstp s' hq
      have hb := hI.bound
      have ho := hI.out
      have hu := hI.used
      have hok := hI.ok
      have hkl : k < mu l := by omega
      have hjn : mu (walkQ ⟨t, l, []⟩ (k + 1)).x + (k + 1) ≤ mu l := by rw [hst]; omega
      clear hfin hstp hI2 hS hj hq
      cases hs with
      | pop w ln e hw hx hf hkk =>
        have hwn : w < l.length := by have := hI.hi; omega
        obtain ⟨hr, hll⟩ := hok ln (List.mem_of_getElem? hx)
        obtain ⟨h1, h2, h3, h4⟩ := ctl_facts hr hf
        obtain ⟨⟨who, u⟩, x, o⟩ := s
        simp only at hw hx hxl hb ho hu hst
        subst hw
        all_goals repeat' (first | (refine Zc ?_ ?_ <;> intro h <;> (try simp [go_sem, hx, hxl] at h) <;> try omega) | (refine Zi ?_; try simp only [AThen, ABlock]) | (refine Ze ?_; simp +decide only [AThen, ABlock, reduceIte]) | (refine Zt ?_; (try simp [go_sem, hx, hxl]); all_goals (try simp [loR, lo]); all_goals try exact rfl) | ((first | refine Zq ?_ | refine Zr ?_ | refine Zw ?_ | refine Zx ?_); intro K hK; repeat' (first | ((first | refine Zs ?_ | refine Zl ?_ | refine Z0 ?_ | refine Zd ?_); intro HK hk; simp [go_sem, hx, hxl]; (repeat refine ⟨by omega, ?_⟩); apply hk; clear hk HK) | ((first | refine Zg ?_ ?_ | refine Zh ?_ ?_ | refine Zp ?_ ?_ | refine Zk ?_ ?_) <;> intro hg <;> simp only [hg] <;> (try simp at hg) <;> try omega)); all_goals try ((first | refine Zn ?_ | refine Zm ?_); apply hK; clear hK K; try simp only [AThen, ABlock])) | refine Zz ?_ | refine Zb ?_)
        all_goals try exact rfl
        (first | refine Zs ?_ | refine Z0 ?_ | refine Zd ?_); intro HK hk; simp [go_sem]; (repeat refine ⟨by omega, ?_⟩); (first | refine ACall.pur rfl (pc_53 ln) ?_ | refine ACallD.mk rfl (pc_53 ln) ?_); simp [go_sem, hf]; (repeat refine ⟨by omega, ?_⟩); apply hk; clear hk HK; repeat' (first | ((first | refine Zs ?_ | refine Zl ?_ | refine Z0 ?_ | refine Zd ?_); intro HK hk; simp [go_sem, hf]; (repeat refine ⟨by omega, ?_⟩); apply hk; clear hk HK) | ((first | refine Zg ?_ ?_ | refine Zh ?_ ?_ | refine Zp ?_ ?_ | refine Zk ?_ ?_) <;> intro hg <;> simp only [hg] <;> (try simp at hg) <;> try omega))
        all_goals try ((first | refine Zn ?_ | refine Zm ?_); apply hK; clear hK K; try simp only [AThen, ABlock])
        have hww : IntKind.i64.wrap ((w : Int) + 1) = (w : Int) + 1 := wrapI (by omega) (by omega)
        rcases h4 with ⟨k1, k2, k3, _⟩ | ⟨k1, _, _⟩
        · have hst2 : walkQ ⟨t, l, []⟩ (k + 1) = ⟨⟨w, u⟩, x.set w (popF ln e.Seq), o⟩ := by rw [hst]; unfold qPop; rw [k2]; rfl
          all_goals repeat' (first | (refine Zc ?_ ?_ <;> intro h <;> (try simp [go_sem, k1, hx, hxl] at h) <;> try omega) | (refine Zi ?_; try simp only [AThen, ABlock]) | (refine Ze ?_; simp +decide only [AThen, ABlock, reduceIte]) | (refine Zt ?_; (try simp [go_sem, k1, hx, hxl]); all_goals (try simp [loR, lo]); all_goals try exact rfl) | ((first | refine AW.q false fun K hK => ?_ | refine AW.ql false fun K hK => ?_ | refine AW.w [(none, []), (none, []), (none, []), (none, []), (none, []), (none, []), (none, []), (none, []), (none, []), (none, []), (some 2, [])] rfl (by decide +kernel) fun K hK => ?_ | refine AW.wl [(none, []), (none, []), (none, []), (none, []), (none, []), (none, []), (none, []), (none, []), (none, []), (none, []), (some 2, [])] rfl (by decide +kernel) fun K hK => ?_); repeat' (first | ((first | refine Zs ?_ | refine Zl ?_ | refine Z0 ?_ | refine Zd ?_); intro HK hk; simp [go_sem, k1, hx, hxl]; (repeat refine ⟨by omega, ?_⟩); apply hk; clear hk HK) | ((first | refine Zg ?_ ?_ | refine Zh ?_ ?_ | refine Zp ?_ ?_ | refine Zk ?_ ?_) <;> intro hg <;> simp only [hg] <;> (try simp at hg) <;> try omega)); all_goals try ((first | refine Zn ?_ | refine Zm ?_); apply hK; clear hK K; try simp only [AThen, ABlock])) | refine Zz ?_ | refine Zb ?_)
          all_goals try exact rfl
          (first | refine Zs ?_ | refine Z0 ?_ | refine Zd ?_); intro HK hk; simp [go_sem]; (repeat refine ⟨by omega, ?_⟩); (first | refine ACall.pur rfl (pc_61 ln e.Seq (by omega)) ?_ | refine ACallD.mk rfl (pc_61 ln e.Seq (by omega)) ?_); simp [go_sem, hx, hxl]; (repeat refine ⟨by omega, ?_⟩); apply hk; clear hk HK; repeat' (first | ((first | refine Zs ?_ | refine Zl ?_ | refine Z0 ?_ | refine Zd ?_); intro HK hk; simp [go_sem, hx, hxl]; (repeat refine ⟨by omega, ?_⟩); apply hk; clear hk HK) | ((first | refine Zg ?_ ?_ | refine Zh ?_ ?_ | refine Zp ?_ ?_ | refine Zk ?_ ?_) <;> intro hg <;> simp only [hg] <;> (try simp at hg) <;> try omega))
          all_goals try ((first | refine Zn ?_ | refine Zm ?_); apply hK; clear hK K; try simp only [AThen, ABlock])
          all_goals repeat' (first | (refine Zc ?_ ?_ <;> intro h <;> (try simp [go_sem] at h) <;> try omega) | (refine Zi ?_; try simp only [AThen, ABlock]) | (refine Ze ?_; simp +decide only [AThen, ABlock, reduceIte]) | (refine Zt ?_; (try simp [go_sem]); all_goals (try simp [loR, lo]); all_goals try exact rfl) | ((first | refine Zq ?_ | refine Zr ?_ | refine Zw ?_ | refine Zx ?_); intro K hK; repeat' (first | ((first | refine Zs ?_ | refine Zl ?_ | refine Z0 ?_ | refine Zd ?_); intro HK hk; simp [go_sem]; (repeat refine ⟨by omega, ?_⟩); apply hk; clear hk HK) | ((first | refine Zg ?_ ?_ | refine Zh ?_ ?_ | refine Zp ?_ ?_ | refine Zk ?_ ?_) <;> intro hg <;> simp only [hg] <;> (try simp at hg) <;> try omega)); all_goals try ((first | refine Zn ?_ | refine Zm ?_); apply hK; clear hK K; try simp only [AThen, ABlock])) | refine Zz ?_ | refine Zb ?_)
          all_goals try exact rfl
          refine ⟨hkl, hjn, ?_⟩
          refine Sub.of 4 (by simp) (by first | (simp [hst2]; done) | (simp [go_sem, hst2]; done)) (by simp [go_sem]) ?_ (by simp [go_sem])
          simp [go_sem, hst2]
        · have hL : e.L = [] := by
            rcases hkk with h | h
            · omega
            · exact h
          all_goals repeat' (first | (refine Zc ?_ ?_ <;> intro h <;> (try simp [go_sem, k1, hL, hx, hxl] at h) <;> try omega) | (refine Zi ?_; try simp only [AThen, ABlock]) | (refine Ze ?_; simp +decide only [AThen, ABlock, reduceIte]) | (refine Zt ?_; (try simp [go_sem, k1, hL, hx, hxl]); all_goals (try simp [loR, lo]); all_goals try exact rfl) | ((first | refine AW.q false fun K hK => ?_ | refine AW.ql false fun K hK => ?_ | refine AW.w [(none, []), (none, []), (none, []), (none, []), (none, []), (none, []), (none, []), (none, []), (none, []), (none, []), (some 2, [])] rfl (by decide +kernel) fun K hK => ?_ | refine AW.wl [(none, []), (none, []), (none, []), (none, []), (none, []), (none, []), (none, []), (none, []), (none, []), (none, []), (some 2, [])] rfl (by decide +kernel) fun K hK => ?_); repeat' (first | ((first | refine Zs ?_ | refine Zl ?_ | refine Z0 ?_ | refine Zd ?_); intro HK hk; simp [go_sem, k1, hL, hx, hxl]; (repeat refine ⟨by omega, ?_⟩); apply hk; clear hk HK) | ((first | refine Zg ?_ ?_ | refine Zh ?_ ?_ | refine Zp ?_ ?_ | refine Zk ?_ ?_) <;> intro hg <;> simp only [hg] <;> (try simp at hg) <;> try omega)); all_goals try ((first | refine Zn ?_ | refine Zm ?_); apply hK; clear hK K; try simp only [AThen, ABlock])) | refine Zz ?_ | refine Zb ?_)
          all_goals try exact rfl
          (first | refine Zs ?_ | refine Z0 ?_ | refine Zd ?_); intro HK hk; simp [go_sem]; (repeat refine ⟨by omega, ?_⟩); (first | refine ACall.pur rfl (pc_61 ln e.Seq (by omega)) ?_ | refine ACallD.mk rfl (pc_61 ln e.Seq (by omega)) ?_); simp [go_sem, hx, hxl]; (repeat refine ⟨by omega, ?_⟩); apply hk; clear hk HK; repeat' (first | ((first | refine Zs ?_ | refine Zl ?_ | refine Z0 ?_ | refine Zd ?_); intro HK hk; simp [go_sem, hx, hxl]; (repeat refine ⟨by omega, ?_⟩); apply hk; clear hk HK) | ((first | refine Zg ?_ ?_ | refine Zh ?_ ?_ | refine Zp ?_ ?_ | refine Zk ?_ ?_) <;> intro hg <;> simp only [hg] <;> (try simp at hg) <;> try omega))
          all_goals try ((first | refine Zn ?_ | refine Zm ?_); apply hK; clear hK K; try simp only [AThen, ABlock])
          cases hh : e.Hand with
          | false =>
            have hst2 : walkQ ⟨t, l, []⟩ (k + 1) = ⟨⟨w, u⟩, x.set w (popF ln e.Seq), o⟩ := by rw [hst]; unfold qPop; rw [hh]; rfl
            all_goals repeat' (first | (refine Zc ?_ ?_ <;> intro h <;> (try simp [go_sem, hh] at h) <;> try omega) | (refine Zi ?_; try simp only [AThen, ABlock]) | (refine Ze ?_; simp +decide only [AThen, ABlock, reduceIte]) | (refine Zt ?_; (try simp [go_sem, hh]); all_goals (try simp [loR, lo]); all_goals try exact rfl) | ((first | refine Zq ?_ | refine Zr ?_ | refine Zw ?_ | refine Zx ?_); intro K hK; repeat' (first | ((first | refine Zs ?_ | refine Zl ?_ | refine Z0 ?_ | refine Zd ?_); intro HK hk; simp [go_sem, hh]; (repeat refine ⟨by omega, ?_⟩); apply hk; clear hk HK) | ((first | refine Zg ?_ ?_ | refine Zh ?_ ?_ | refine Zp ?_ ?_ | refine Zk ?_ ?_) <;> intro hg <;> simp only [hg] <;> (try simp at hg) <;> try omega)); all_goals try ((first | refine Zn ?_ | refine Zm ?_); apply hK; clear hK K; try simp only [AThen, ABlock])) | refine Zz ?_ | refine Zb ?_)
            all_goals try exact rfl
            refine ⟨hkl, hjn, ?_⟩
            refine Sub.of 4 (by simp) (by first | (simp [hst2]; done) | (simp [go_sem, hst2]; done)) (by simp [go_sem]) ?_ (by simp [go_sem])
            simp [go_sem, hst2]
          | true =>
            all_goals repeat' (first | (refine Zc ?_ ?_ <;> intro h <;> (try simp [go_sem, hh, hww] at h) <;> try omega) | (refine Zi ?_; try simp only [AThen, ABlock]) | (refine Ze ?_; simp +decide only [AThen, ABlock, reduceIte]) | (refine Zt ?_; (try simp [go_sem, hh, hww]); all_goals (try simp [loR, lo]); all_goals try exact rfl) | ((first | refine Zq ?_ | refine Zr ?_ | refine Zw ?_ | refine Zx ?_); intro K hK; repeat' (first | ((first | refine Zs ?_ | refine Zl ?_ | refine Z0 ?_ | refine Zd ?_); intro HK hk; simp [go_sem, hh, hww]; (repeat refine ⟨by omega, ?_⟩); apply hk; clear hk HK) | ((first | refine Zg ?_ ?_ | refine Zh ?_ ?_ | refine Zp ?_ ?_ | refine Zk ?_ ?_) <;> intro hg <;> simp only [hg] <;> (try simp at hg) <;> try omega)); all_goals try ((first | refine Zn ?_ | refine Zm ?_); apply hK; clear hK K; try simp only [AThen, ABlock])) | refine Zz ?_ | refine Zb ?_)
            all_goals try exact rfl
            · have hst2 : walkQ ⟨t, l, []⟩ (k + 1) = ⟨⟨0, 0⟩, x.set w (popF ln e.Seq), o⟩ := by rw [hst]; unfold qPop; rw [hh, if_pos rfl]; unfold nextT; simp only; rw [if_pos (by omega)]
              refine ⟨hkl, hjn, ?_⟩
              refine Sub.of 4 (by simp) (by first | (simp [hst2]; done) | (simp [go_sem, hst2]; done)) (by simp [go_sem]) ?_ (by simp [go_sem])
              simp [go_sem, hst2]
            · have hst2 : walkQ ⟨t, l, []⟩ (k + 1) = ⟨⟨w + 1, 0⟩, x.set w (popF ln e.Seq), o⟩ := by rw [hst]; unfold qPop; rw [hh, if_pos rfl]; unfold nextT; simp only; rw [if_neg (by omega)]
              refine ⟨hkl, hjn, ?_⟩
              refine Sub.of 4 (by simp) (by first | (simp [hst2]; done) | (simp [go_sem, hst2]; done)) (by simp [go_sem]) ?_ (by simp [go_sem])
              simp [go_sem, hst2]
      | skip w c ln e r hw hx hf hkk hl hc =>
        have hwn : w < l.length := by have := hI.hi; omega
        obtain ⟨hr, hll⟩ := hok ln (List.mem_of_getElem? hx)
        obtain ⟨h1, h2, h3, h4⟩ := ctl_facts hr hf
        have k1 : e.Kind = 2 := by rcases h4 with h | h; exact absurd h.1 hkk; exact h.1
        have htl : tailE e = ⟨2, e.Seq, [], r, e.Hand⟩ := by unfold tailE; rw [hl]; rfl
        have hc63 : c ≤ 63 := by
          rcases h4 with h | ⟨_, _, h⟩
          · exact absurd h.1 hkk
          · rw [hl] at h; unfold inR at h; simp at h; omega
        obtain ⟨⟨who, u⟩, x, o⟩ := s
        simp only at hw hx hxl hb ho hu hst hc
        subst hw
        have hst2 : walkQ ⟨t, l, []⟩ (k + 1) = ⟨⟨w, u⟩, x.set w (setF ln ⟨2, e.Seq, [], r, e.Hand⟩), o⟩ := by rw [hst]; unfold qSkip; rw [htl]
        all_goals repeat' (first | (refine Zc ?_ ?_ <;> intro h <;> (try simp [go_sem, hx, hxl] at h) <;> try omega) | (refine Zi ?_; try simp only [AThen, ABlock]) | (refine Ze ?_; simp +decide only [AThen, ABlock, reduceIte]) | (refine Zt ?_; (try simp [go_sem, hx, hxl]); all_goals (try simp [loR, lo]); all_goals try exact rfl) | ((first | refine Zq ?_ | refine Zr ?_ | refine Zw ?_ | refine Zx ?_); intro K hK; repeat' (first | ((first | refine Zs ?_ | refine Zl ?_ | refine Z0 ?_ | refine Zd ?_); intro HK hk; simp [go_sem, hx, hxl]; (repeat refine ⟨by omega, ?_⟩); apply hk; clear hk HK) | ((first | refine Zg ?_ ?_ | refine Zh ?_ ?_ | refine Zp ?_ ?_ | refine Zk ?_ ?_) <;> intro hg <;> simp only [hg] <;> (try simp at hg) <;> try omega)); all_goals try ((first | refine Zn ?_ | refine Zm ?_); apply hK; clear hK K; try simp only [AThen, ABlock])) | refine Zz ?_ | refine Zb ?_)
        all_goals try exact rfl
        (first | refine Zs ?_ | refine Z0 ?_ | refine Zd ?_); intro HK hk; simp [go_sem]; (repeat refine ⟨by omega, ?_⟩); (first | refine ACall.pur rfl (pc_53 ln) ?_ | refine ACallD.mk rfl (pc_53 ln) ?_); simp [go_sem, hf]; (repeat refine ⟨by omega, ?_⟩); apply hk; clear hk HK; repeat' (first | ((first | refine Zs ?_ | refine Zl ?_ | refine Z0 ?_ | refine Zd ?_); intro HK hk; simp [go_sem, hf]; (repeat refine ⟨by omega, ?_⟩); apply hk; clear hk HK) | ((first | refine Zg ?_ ?_ | refine Zh ?_ ?_ | refine Zp ?_ ?_ | refine Zk ?_ ?_) <;> intro hg <;> simp only [hg] <;> (try simp at hg) <;> try omega))
        all_goals try ((first | refine Zn ?_ | refine Zm ?_); apply hK; clear hK K; try simp only [AThen, ABlock])
        all_goals repeat' (first | (refine Zc ?_ ?_ <;> intro h <;> (try simp [go_sem, k1, hl, hx, hxl] at h) <;> try omega) | (refine Zi ?_; try simp only [AThen, ABlock]) | (refine Ze ?_; simp +decide only [AThen, ABlock, reduceIte]) | (refine Zt ?_; (try simp [go_sem, k1, hl, hx, hxl]); all_goals (try simp [loR, lo]); all_goals try exact rfl) | ((first | refine AW.q false fun K hK => ?_ | refine AW.ql false fun K hK => ?_ | refine AW.w [(none, []), (none, []), (none, []), (none, []), (none, []), (none, []), (none, []), (none, []), (none, []), (none, []), (none, []), (none, []), (none, []), (none, []), (none, []), (none, []), (some 2, [])] rfl (by decide +kernel) fun K hK => ?_ | refine AW.wl [(none, []), (none, []), (none, []), (none, []), (none, []), (none, []), (none, []), (none, []), (none, []), (none, []), (none, []), (none, []), (none, []), (none, []), (none, []), (none, []), (some 2, [])] rfl (by decide +kernel) fun K hK => ?_); repeat' (first | ((first | refine Zs ?_ | refine Zl ?_ | refine Z0 ?_ | refine Zd ?_); intro HK hk; simp [go_sem, k1, hl, hx, hxl]; (repeat refine ⟨by omega, ?_⟩); apply hk; clear hk HK) | ((first | refine Zg ?_ ?_ | refine Zh ?_ ?_ | refine Zp ?_ ?_ | refine Zk ?_ ?_) <;> intro hg <;> simp only [hg] <;> (try simp at hg) <;> try omega)); all_goals try ((first | refine Zn ?_ | refine Zm ?_); apply hK; clear hK K; try simp only [AThen, ABlock])) | refine Zz ?_ | refine Zb ?_)
        all_goals try exact rfl
        (first | refine Zs ?_ | refine Z0 ?_ | refine Zd ?_); intro HK hk; simp [go_sem]; (repeat refine ⟨by omega, ?_⟩); (first | refine ACall.pur rfl (pc_63 ln ⟨2, e.Seq, [], r, e.Hand⟩ (by omega)) ?_ | refine ACallD.mk rfl (pc_63 ln ⟨2, e.Seq, [], r, e.Hand⟩ (by omega)) ?_); simp [go_sem, hx, hxl]; (repeat refine ⟨by omega, ?_⟩); apply hk; clear hk HK; repeat' (first | ((first | refine Zs ?_ | refine Zl ?_ | refine Z0 ?_ | refine Zd ?_); intro HK hk; simp [go_sem, hx, hxl]; (repeat refine ⟨by omega, ?_⟩); apply hk; clear hk HK) | ((first | refine Zg ?_ ?_ | refine Zh ?_ ?_ | refine Zp ?_ ?_ | refine Zk ?_ ?_) <;> intro hg <;> simp only [hg] <;> (try simp at hg) <;> try omega))
        all_goals try ((first | refine Zn ?_ | refine Zm ?_); apply hK; clear hK K; try simp only [AThen, ABlock])
        all_goals repeat' (first | (refine Zc ?_ ?_ <;> intro h <;> (try simp [go_sem] at h) <;> try omega) | (refine Zi ?_; try simp only [AThen, ABlock]) | (refine Ze ?_; simp +decide only [AThen, ABlock, reduceIte]) | (refine Zt ?_; (try simp [go_sem]); all_goals (try simp [loR, lo]); all_goals try exact rfl) | ((first | refine Zq ?_ | refine Zr ?_ | refine Zw ?_ | refine Zx ?_); intro K hK; repeat' (first | ((first | refine Zs ?_ | refine Zl ?_ | refine Z0 ?_ | refine Zd ?_); intro HK hk; simp [go_sem]; (repeat refine ⟨by omega, ?_⟩); apply hk; clear hk HK) | ((first | refine Zg ?_ ?_ | refine Zh ?_ ?_ | refine Zp ?_ ?_ | refine Zk ?_ ?_) <;> intro hg <;> simp only [hg] <;> (try simp at hg) <;> try omega)); all_goals try ((first | refine Zn ?_ | refine Zm ?_); apply hK; clear hK K; try simp only [AThen, ABlock])) | refine Zz ?_ | refine Zb ?_)
        all_goals try exact rfl
        refine ⟨hkl, hjn, ?_⟩
        refine Sub.of 4 (by simp) (by first | (simp [hst2]; done) | (simp [go_sem, hst2]; done)) (by simp [go_sem]) ?_ (by simp [go_sem])
        simp [go_sem, hst2]
      | tell w c ln lc lw m e r hw hx hf hkk hl hc hm hw2 =>
        have hwn : w < l.length := by have := hI.hi; omega
        obtain ⟨hr, hll⟩ := hok ln (List.mem_of_getElem? hx)
        obtain ⟨h1, h2, h3, h4⟩ := ctl_facts hr hf
        have k1 : e.Kind = 2 := by rcases h4 with h | h; exact absurd h.1 hkk; exact h.1
        have htl : tailE e = ⟨2, e.Seq, [], r, e.Hand⟩ := by unfold tailE; rw [hl]; rfl
        obtain ⟨hrc, hlc⟩ := hok lc (List.mem_of_getElem? hc)
        have hlw : lw.L.length ≤ 100 := (okset (i := c) hok (⟨right_pop (n := m.Seq) hrc, Nat.le_trans (popN_le _ _ _) hlc⟩ : rightF (popF lc m.Seq) = true ∧ (popF lc m.Seq).L.length ≤ 100) lw (List.mem_of_getElem? hw2)).2
        obtain ⟨⟨who, u⟩, x, o⟩ := s
        simp only at hw hx hxl hb ho hu hst hc hw2
        subst hw
        have hcl := (List.getElem?_eq_some_iff.1 hc).1
        have hwu : IntKind.i64.wrap (u + 1) = u + 1 := wrapI (by omega) (by omega)
        have hst2 : walkQ ⟨t, l, []⟩ (k + 1) = ⟨⟨w, u + 1⟩, (x.set c (popF lc m.Seq)).set w (setF lw ⟨2, e.Seq, [], r, e.Hand⟩), o ++ [⟨c, m.B⟩]⟩ := by rw [hst]; unfold qTell; rw [htl]
        obtain ⟨x1, hx1⟩ : ∃ x1, x1 = x.set c (popF lc m.Seq) := ⟨_, rfl⟩
        have hms : (List.map laneP x).set c [PV.sl false (List.map entP (popN m.Seq lc.L lc.L.length)), .int .i64 lc.Part.Seq, .int .i64 lc.Part.Total, .int .i64 lc.Part.Got, bsP lc.Part.B] = List.map laneP x1 := by rw [hx1, List.map_set]; rfl
        have hx1l : x1.length = l.length := by rw [hx1, List.length_set]; exact hxl
        rw [← hx1] at hst2 hw2
        all_goals repeat' (first | (refine Zc ?_ ?_ <;> intro h <;> (try simp [go_sem, hx, hxl] at h) <;> try omega) | (refine Zi ?_; try simp only [AThen, ABlock]) | (refine Ze ?_; simp +decide only [AThen, ABlock, reduceIte]) | (refine Zt ?_; (try simp [go_sem, hx, hxl]); all_goals (try simp [loR, lo]); all_goals try exact rfl) | ((first | refine Zq ?_ | refine Zr ?_ | refine Zw ?_ | refine Zx ?_); intro K hK; repeat' (first | ((first | refine Zs ?_ | refine Zl ?_ | refine Z0 ?_ | refine Zd ?_); intro HK hk; simp [go_sem, hx, hxl]; (repeat refine ⟨by omega, ?_⟩); apply hk; clear hk HK) | ((first | refine Zg ?_ ?_ | refine Zh ?_ ?_ | refine Zp ?_ ?_ | refine Zk ?_ ?_) <;> intro hg <;> simp only [hg] <;> (try simp at hg) <;> try omega)); all_goals try ((first | refine Zn ?_ | refine Zm ?_); apply hK; clear hK K; try simp only [AThen, ABlock])) | refine Zz ?_ | refine Zb ?_)
        all_goals try exact rfl
        (first | refine Zs ?_ | refine Z0 ?_ | refine Zd ?_); intro HK hk; simp [go_sem]; (repeat refine ⟨by omega, ?_⟩); (first | refine ACall.pur rfl (pc_53 ln) ?_ | refine ACallD.mk rfl (pc_53 ln) ?_); simp [go_sem, hf]; (repeat refine ⟨by omega, ?_⟩); apply hk; clear hk HK; repeat' (first | ((first | refine Zs ?_ | refine Zl ?_ | refine Z0 ?_ | refine Zd ?_); intro HK hk; simp [go_sem, hf]; (repeat refine ⟨by omega, ?_⟩); apply hk; clear hk HK) | ((first | refine Zg ?_ ?_ | refine Zh ?_ ?_ | refine Zp ?_ ?_ | refine Zk ?_ ?_) <;> intro hg <;> simp only [hg] <;> (try simp at hg) <;> try omega))
        all_goals try ((first | refine Zn ?_ | refine Zm ?_); apply hK; clear hK K; try simp only [AThen, ABlock])
        all_goals repeat' (first | (refine Zc ?_ ?_ <;> intro h <;> (try simp [go_sem, k1, hl, hx, hxl, hc] at h) <;> try omega) | (refine Zi ?_; try simp only [AThen, ABlock]) | (refine Ze ?_; simp +decide only [AThen, ABlock, reduceIte]) | (refine Zt ?_; (try simp [go_sem, k1, hl, hx, hxl, hc]); all_goals (try simp [loR, lo]); all_goals try exact rfl) | ((first | refine AW.q false fun K hK => ?_ | refine AW.ql false fun K hK => ?_ | refine AW.w [(none, []), (none, []), (none, []), (none, []), (none, []), (none, []), (none, []), (none, []), (none, []), (none, []), (some 2, [])] rfl (by decide +kernel) fun K hK => ?_ | refine AW.wl [(none, []), (none, []), (none, []), (none, []), (none, []), (none, []), (none, []), (none, []), (none, []), (none, []), (some 2, [])] rfl (by decide +kernel) fun K hK => ?_); repeat' (first | ((first | refine Zs ?_ | refine Zl ?_ | refine Z0 ?_ | refine Zd ?_); intro HK hk; simp [go_sem, k1, hl, hx, hxl, hc]; (repeat refine ⟨by omega, ?_⟩); apply hk; clear hk HK) | ((first | refine Zg ?_ ?_ | refine Zh ?_ ?_ | refine Zp ?_ ?_ | refine Zk ?_ ?_) <;> intro hg <;> simp only [hg] <;> (try simp at hg) <;> try omega)); all_goals try ((first | refine Zn ?_ | refine Zm ?_); apply hK; clear hK K; try simp only [AThen, ABlock])) | refine Zz ?_ | refine Zb ?_)
        all_goals try exact rfl
        (first | refine Zs ?_ | refine Z0 ?_ | refine Zd ?_); intro HK hk; simp [go_sem]; (repeat refine ⟨by omega, ?_⟩); (first | refine ACall.pur rfl (pc_51 lc) ?_ | refine ACallD.mk rfl (pc_51 lc) ?_); simp [go_sem, hm]; (repeat refine ⟨by omega, ?_⟩); apply hk; clear hk HK; repeat' (first | ((first | refine Zs ?_ | refine Zl ?_ | refine Z0 ?_ | refine Zd ?_); intro HK hk; simp [go_sem, hm]; (repeat refine ⟨by omega, ?_⟩); apply hk; clear hk HK) | ((first | refine Zg ?_ ?_ | refine Zh ?_ ?_ | refine Zp ?_ ?_ | refine Zk ?_ ?_) <;> intro hg <;> simp only [hg] <;> (try simp at hg) <;> try omega))
        all_goals try ((first | refine Zn ?_ | refine Zm ?_); apply hK; clear hK K; try simp only [AThen, ABlock])
        all_goals repeat' (first | (refine Zc ?_ ?_ <;> intro h <;> (try simp [go_sem, hc, hxl] at h) <;> try omega) | (refine Zi ?_; try simp only [AThen, ABlock]) | (refine Ze ?_; simp +decide only [AThen, ABlock, reduceIte]) | (refine Zt ?_; (try simp [go_sem, hc, hxl]); all_goals (try simp [loR, lo]); all_goals try exact rfl) | ((first | refine AW.q false fun K hK => ?_ | refine AW.ql false fun K hK => ?_ | refine AW.w [(none, []), (none, []), (none, []), (none, []), (none, []), (none, []), (none, []), (none, []), (none, []), (none, []), (some 2, [])] rfl (by decide +kernel) fun K hK => ?_ | refine AW.wl [(none, []), (none, []), (none, []), (none, []), (none, []), (none, []), (none, []), (none, []), (none, []), (none, []), (some 2, [])] rfl (by decide +kernel) fun K hK => ?_); repeat' (first | ((first | refine Zs ?_ | refine Zl ?_ | refine Z0 ?_ | refine Zd ?_); intro HK hk; simp [go_sem, hc, hxl]; (repeat refine ⟨by omega, ?_⟩); apply hk; clear hk HK) | ((first | refine Zg ?_ ?_ | refine Zh ?_ ?_ | refine Zp ?_ ?_ | refine Zk ?_ ?_) <;> intro hg <;> simp only [hg] <;> (try simp at hg) <;> try omega)); all_goals try ((first | refine Zn ?_ | refine Zm ?_); apply hK; clear hK K; try simp only [AThen, ABlock])) | refine Zz ?_ | refine Zb ?_)
        all_goals try exact rfl
        (first | refine Zs ?_ | refine Z0 ?_ | refine Zd ?_); intro HK hk; simp [go_sem]; (repeat refine ⟨by omega, ?_⟩); (first | refine ACall.pur rfl (pc_61 lc m.Seq (by omega)) ?_ | refine ACallD.mk rfl (pc_61 lc m.Seq (by omega)) ?_); simp [go_sem, hc, hxl]; (repeat refine ⟨by omega, ?_⟩); apply hk; clear hk HK; repeat' (first | ((first | refine Zs ?_ | refine Zl ?_ | refine Z0 ?_ | refine Zd ?_); intro HK hk; simp [go_sem, hc, hxl]; (repeat refine ⟨by omega, ?_⟩); apply hk; clear hk HK) | ((first | refine Zg ?_ ?_ | refine Zh ?_ ?_ | refine Zp ?_ ?_ | refine Zk ?_ ?_) <;> intro hg <;> simp only [hg] <;> (try simp at hg) <;> try omega))
        all_goals try ((first | refine Zn ?_ | refine Zm ?_); apply hK; clear hK K; try simp only [AThen, ABlock])
        all_goals repeat' (first | (refine Zc ?_ ?_ <;> intro h <;> (try simp [go_sem, hwu, hms, hw2, hx1l, hl] at h) <;> try omega) | (refine Zi ?_; try simp only [AThen, ABlock]) | (refine Ze ?_; simp +decide only [AThen, ABlock, reduceIte]) | (refine Zt ?_; (try simp [go_sem, hwu, hms, hw2, hx1l, hl]); all_goals (try simp [loR, lo]); all_goals try exact rfl) | ((first | refine AW.q false fun K hK => ?_ | refine AW.ql false fun K hK => ?_ | refine AW.w [(none, []), (none, []), (none, []), (none, []), (none, []), (none, []), (none, []), (none, []), (none, []), (none, []), (none, []), (none, []), (none, []), (none, []), (none, []), (none, []), (some 2, [])] rfl (by decide +kernel) fun K hK => ?_ | refine AW.wl [(none, []), (none, []), (none, []), (none, []), (none, []), (none, []), (none, []), (none, []), (none, []), (none, []), (none, []), (none, []), (none, []), (none, []), (none, []), (none, []), (some 2, [])] rfl (by decide +kernel) fun K hK => ?_); repeat' (first | ((first | refine Zs ?_ | refine Zl ?_ | refine Z0 ?_ | refine Zd ?_); intro HK hk; simp [go_sem, hwu, hms, hw2, hx1l, hl]; (repeat refine ⟨by omega, ?_⟩); apply hk; clear hk HK) | ((first | refine Zg ?_ ?_ | refine Zh ?_ ?_ | refine Zp ?_ ?_ | refine Zk ?_ ?_) <;> intro hg <;> simp only [hg] <;> (try simp at hg) <;> try omega)); all_goals try ((first | refine Zn ?_ | refine Zm ?_); apply hK; clear hK K; try simp only [AThen, ABlock])) | refine Zz ?_ | refine Zb ?_)
        all_goals try exact rfl
        (first | refine Zs ?_ | refine Z0 ?_ | refine Zd ?_); intro HK hk; simp [go_sem]; (repeat refine ⟨by omega, ?_⟩); (first | refine ACall.pur rfl (pc_63 lw ⟨2, e.Seq, [], r, e.Hand⟩ (by omega)) ?_ | refine ACallD.mk rfl (pc_63 lw ⟨2, e.Seq, [], r, e.Hand⟩ (by omega)) ?_); simp [go_sem, hw2, hx1l]; (repeat refine ⟨by omega, ?_⟩); apply hk; clear hk HK; repeat' (first | ((first | refine Zs ?_ | refine Zl ?_ | refine Z0 ?_ | refine Zd ?_); intro HK hk; simp [go_sem, hw2, hx1l]; (repeat refine ⟨by omega, ?_⟩); apply hk; clear hk HK) | ((first | refine Zg ?_ ?_ | refine Zh ?_ ?_ | refine Zp ?_ ?_ | refine Zk ?_ ?_) <;> intro hg <;> simp only [hg] <;> (try simp at hg) <;> try omega))
        all_goals try ((first | refine Zn ?_ | refine Zm ?_); apply hK; clear hK K; try simp only [AThen, ABlock])
        all_goals repeat' (first | (refine Zc ?_ ?_ <;> intro h <;> (try simp [go_sem] at h) <;> try omega) | (refine Zi ?_; try simp only [AThen, ABlock]) | (refine Ze ?_; simp +decide only [AThen, ABlock, reduceIte]) | (refine Zt ?_; (try simp [go_sem]); all_goals (try simp [loR, lo]); all_goals try exact rfl) | ((first | refine Zq ?_ | refine Zr ?_ | refine Zw ?_ | refine Zx ?_); intro K hK; repeat' (first | ((first | refine Zs ?_ | refine Zl ?_ | refine Z0 ?_ | refine Zd ?_); intro HK hk; simp [go_sem]; (repeat refine ⟨by omega, ?_⟩); apply hk; clear hk HK) | ((first | refine Zg ?_ ?_ | refine Zh ?_ ?_ | refine Zp ?_ ?_ | refine Zk ?_ ?_) <;> intro hg <;> simp only [hg] <;> (try simp at hg) <;> try omega)); all_goals try ((first | refine Zn ?_ | refine Zm ?_); apply hK; clear hK K; try simp only [AThen, ABlock])) | refine Zz ?_ | refine Zb ?_)
        all_goals try exact rfl
        refine ⟨hkl, hjn, ?_⟩
        refine Sub.of 4 (by simp) (by first | (simp [hst2]; done) | (simp [go_sem, hst2]; done)) (by simp [go_sem]) ?_ (by simp [go_sem])
        simp [go_sem, hst2]
    · have hf0 := hfin s hq rfl
      rw [hf0]
      have hok := hI.ok
      clear hfin hstp
      cases hs with
      | none w ln e hw hx hf =>
        have hwn : w < l.length := by have := hI.hi; omega
        obtain ⟨⟨who, u⟩, x, o⟩ := s
        simp only at hw hx hxl
        subst hw
        all_goals repeat' (first | (refine Zc ?_ ?_ <;> intro h <;> (try simp [go_sem, hx, hxl] at h) <;> try omega) | (refine Zi ?_; try simp only [AThen, ABlock]) | (refine Ze ?_; simp +decide only [AThen, ABlock, reduceIte]) | (refine Zt ?_; (try simp [go_sem, hx, hxl]); all_goals (try simp [loR, lo]); all_goals try exact rfl) | ((first | refine Zq ?_ | refine Zr ?_ | refine Zw ?_ | refine Zx ?_); intro K hK; repeat' (first | ((first | refine Zs ?_ | refine Zl ?_ | refine Z0 ?_ | refine Zd ?_); intro HK hk; simp [go_sem, hx, hxl]; (repeat refine ⟨by omega, ?_⟩); apply hk; clear hk HK) | ((first | refine Zg ?_ ?_ | refine Zh ?_ ?_ | refine Zp ?_ ?_ | refine Zk ?_ ?_) <;> intro hg <;> simp only [hg] <;> (try simp at hg) <;> try omega)); all_goals try ((first | refine Zn ?_ | refine Zm ?_); apply hK; clear hK K; try simp only [AThen, ABlock])) | refine Zz ?_ | refine Zb ?_)
        all_goals try exact rfl
        (first | refine Zs ?_ | refine Z0 ?_ | refine Zd ?_); intro HK hk; simp [go_sem]; (repeat refine ⟨by omega, ?_⟩); (first | refine ACall.pur rfl (pc_53 ln) ?_ | refine ACallD.mk rfl (pc_53 ln) ?_); simp [go_sem, hf]; (repeat refine ⟨by omega, ?_⟩); apply hk; clear hk HK; repeat' (first | ((first | refine Zs ?_ | refine Zl ?_ | refine Z0 ?_ | refine Zd ?_); intro HK hk; simp [go_sem, hf]; (repeat refine ⟨by omega, ?_⟩); apply hk; clear hk HK) | ((first | refine Zg ?_ ?_ | refine Zh ?_ ?_ | refine Zp ?_ ?_ | refine Zk ?_ ?_) <;> intro hg <;> simp only [hg] <;> (try simp at hg) <;> try omega))
        all_goals try ((first | refine Zn ?_ | refine Zm ?_); apply hK; clear hK K; try simp only [AThen, ABlock])
        all_goals repeat' (first | (refine Zc ?_ ?_ <;> intro h <;> (try simp [go_sem, hxl] at h) <;> try omega) | (refine Zi ?_; try simp only [AThen, ABlock]) | (refine Ze ?_; simp +decide only [AThen, ABlock, reduceIte]) | (refine Zt ?_; (try simp [go_sem, hxl]); all_goals (try simp [loR, lo]); all_goals try exact rfl) | ((first | refine AW.q false fun K hK => ?_ | refine AW.ql false fun K hK => ?_ | refine AW.w [(none, []), (none, [1]), (none, [1]), (some 1, [])] rfl (by decide +kernel) fun K hK => ?_ | refine AW.wl [(none, []), (none, [1]), (none, [1]), (some 1, [])] rfl (by decide +kernel) fun K hK => ?_); repeat' (first | ((first | refine Zs ?_ | refine Zl ?_ | refine Z0 ?_ | refine Zd ?_); intro HK hk; simp [go_sem, hxl]; (repeat refine ⟨by omega, ?_⟩); apply hk; clear hk HK) | ((first | refine Zg ?_ ?_ | refine Zh ?_ ?_ | refine Zp ?_ ?_ | refine Zk ?_ ?_) <;> intro hg <;> simp only [hg] <;> (try simp at hg) <;> try omega)); all_goals try ((first | refine Zn ?_ | refine Zm ?_); apply hK; clear hK K; try simp only [AThen, ABlock])) | refine Zz ?_ | refine Zb ?_)
        all_goals try exact rfl
      | wait w c ln lc m e r hw hx hf hkk hl hc hm =>
        have hwn : w < l.length := by have := hI.hi; omega
        obtain ⟨hr, hll⟩ := hok ln (List.mem_of_getElem? hx)
        obtain ⟨h1, h2, h3, h4⟩ := ctl_facts hr hf
        have k1 : e.Kind = 2 := by rcases h4 with h | h; exact absurd h.1 hkk; exact h.1
        obtain ⟨⟨who, u⟩, x, o⟩ := s
        simp only at hw hx hxl hc
        subst hw
        have hcl := (List.getElem?_eq_some_iff.1 hc).1
        all_goals repeat' (first | (refine Zc ?_ ?_ <;> intro h <;> (try simp [go_sem, hx, hxl] at h) <;> try omega) | (refine Zi ?_; try simp only [AThen, ABlock]) | (refine Ze ?_; simp +decide only [AThen, ABlock, reduceIte]) | (refine Zt ?_; (try simp [go_sem, hx, hxl]); all_goals (try simp [loR, lo]); all_goals try exact rfl) | ((first | refine Zq ?_ | refine Zr ?_ | refine Zw ?_ | refine Zx ?_); intro K hK; repeat' (first | ((first | refine Zs ?_ | refine Zl ?_ | refine Z0 ?_ | refine Zd ?_); intro HK hk; simp [go_sem, hx, hxl]; (repeat refine ⟨by omega, ?_⟩); apply hk; clear hk HK) | ((first | refine Zg ?_ ?_ | refine Zh ?_ ?_ | refine Zp ?_ ?_ | refine Zk ?_ ?_) <;> intro hg <;> simp only [hg] <;> (try simp at hg) <;> try omega)); all_goals try ((first | refine Zn ?_ | refine Zm ?_); apply hK; clear hK K; try simp only [AThen, ABlock])) | refine Zz ?_ | refine Zb ?_)
        all_goals try exact rfl
        (first | refine Zs ?_ | refine Z0 ?_ | refine Zd ?_); intro HK hk; simp [go_sem]; (repeat refine ⟨by omega, ?_⟩); (first | refine ACall.pur rfl (pc_53 ln) ?_ | refine ACallD.mk rfl (pc_53 ln) ?_); simp [go_sem, hf]; (repeat refine ⟨by omega, ?_⟩); apply hk; clear hk HK; repeat' (first | ((first | refine Zs ?_ | refine Zl ?_ | refine Z0 ?_ | refine Zd ?_); intro HK hk; simp [go_sem, hf]; (repeat refine ⟨by omega, ?_⟩); apply hk; clear hk HK) | ((first | refine Zg ?_ ?_ | refine Zh ?_ ?_ | refine Zp ?_ ?_ | refine Zk ?_ ?_) <;> intro hg <;> simp only [hg] <;> (try simp at hg) <;> try omega))
        all_goals try ((first | refine Zn ?_ | refine Zm ?_); apply hK; clear hK K; try simp only [AThen, ABlock])
        all_goals repeat' (first | (refine Zc ?_ ?_ <;> intro h <;> (try simp [go_sem, k1, hl, hx, hxl, hc] at h) <;> try omega) | (refine Zi ?_; try simp only [AThen, ABlock]) | (refine Ze ?_; simp +decide only [AThen, ABlock, reduceIte]) | (refine Zt ?_; (try simp [go_sem, k1, hl, hx, hxl, hc]); all_goals (try simp [loR, lo]); all_goals try exact rfl) | ((first | refine Zq ?_ | refine Zr ?_ | refine Zw ?_ | refine Zx ?_); intro K hK; repeat' (first | ((first | refine Zs ?_ | refine Zl ?_ | refine Z0 ?_ | refine Zd ?_); intro HK hk; simp [go_sem, k1, hl, hx, hxl, hc]; (repeat refine ⟨by omega, ?_⟩); apply hk; clear hk HK) | ((first | refine Zg ?_ ?_ | refine Zh ?_ ?_ | refine Zp ?_ ?_ | refine Zk ?_ ?_) <;> intro hg <;> simp only [hg] <;> (try simp at hg) <;> try omega)); all_goals try ((first | refine Zn ?_ | refine Zm ?_); apply hK; clear hK K; try simp only [AThen, ABlock])) | refine Zz ?_ | refine Zb ?_)
        all_goals try exact rfl
        (first | refine Zs ?_ | refine Z0 ?_ | refine Zd ?_); intro HK hk; simp [go_sem]; (repeat refine ⟨by omega, ?_⟩); (first | refine ACall.pur rfl (pc_51 lc) ?_ | refine ACallD.mk rfl (pc_51 lc) ?_); simp [go_sem, hm]; (repeat refine ⟨by omega, ?_⟩); apply hk; clear hk HK; repeat' (first | ((first | refine Zs ?_ | refine Zl ?_ | refine Z0 ?_ | refine Zd ?_); intro HK hk; simp [go_sem, hm]; (repeat refine ⟨by omega, ?_⟩); apply hk; clear hk HK) | ((first | refine Zg ?_ ?_ | refine Zh ?_ ?_ | refine Zp ?_ ?_ | refine Zk ?_ ?_) <;> intro hg <;> simp only [hg] <;> (try simp at hg) <;> try omega))
        all_goals try ((first | refine Zn ?_ | refine Zm ?_); apply hK; clear hK K; try simp only [AThen, ABlock])
        all_goals repeat' (first | (refine Zc ?_ ?_ <;> intro h <;> (try simp [go_sem, hxl] at h) <;> try omega) | (refine Zi ?_; try simp only [AThen, ABlock]) | (refine Ze ?_; simp +decide only [AThen, ABlock, reduceIte]) | (refine Zt ?_; (try simp [go_sem, hxl]); all_goals (try simp [loR, lo]); all_goals try exact rfl) | ((first | refine AW.q false fun K hK => ?_ | refine AW.ql false fun K hK => ?_ | refine AW.w [(none, []), (none, [1]), (none, [1]), (some 1, [])] rfl (by decide +kernel) fun K hK => ?_ | refine AW.wl [(none, []), (none, [1]), (none, [1]), (some 1, [])] rfl (by decide +kernel) fun K hK => ?_); repeat' (first | ((first | refine Zs ?_ | refine Zl ?_ | refine Z0 ?_ | refine Zd ?_); intro HK hk; simp [go_sem, hxl]; (repeat refine ⟨by omega, ?_⟩); apply hk; clear hk HK) | ((first | refine Zg ?_ ?_ | refine Zh ?_ ?_ | refine Zp ?_ ?_ | refine Zk ?_ ?_) <;> intro hg <;> simp only [hg] <;> (try simp at hg) <;> try omega)); all_goals try ((first | refine Zn ?_ | refine Zm ?_); apply hK; clear hK K; try simp only [AThen, ABlock])) | refine Zz ?_ | refine Zb ?_)
        all_goals try exact rfl
end Go.Proofs.Ytogappokeheilaa
