import Derived.Test.YtogappokeheilaaB28
import Derived.Test.YtogappokeheilaaB32
import Derived.Test.YtogappokeheilaaT2
import Derived.Test.YtogappokeheilaaAw30
set_option linter.unusedVariables false
set_option linter.unusedSimpArgs false
set_option maxRecDepth 100000
set_option maxHeartbeats 0
namespace Go.Proofs.Ytogappokeheilaa
open Go.Aw

abbrev walkH (t : Turn) (l : List Lane) (s : WS) : List AObj := [.var ((turnP t).map .p), .var [.p (.int .i64 0), .p (.int .i64 0)], .arr 47 5 0 (s.x.map laneP), .var [.p (.int .i64 s.t.Who), .p (.int .i64 s.t.Used), .own 2 l.length, .own 5 s.o.length], .var [.ptr 3 0], .arr 51 2 0 (s.o.map delivP), .map [(1, .clo 77 [] [(4, 0)]), (3, .clo 78 [] [(4, 0)])], .var [.mp 6], .var [.ptr 3 0]]
theorem pop_first {e : Entry} {r : List Entry} {low : Int} (h : lowR low (e :: r) = true) : popN e.Seq (e :: r) (r.length + 1) = r := by
  simp only [lowR, Bool.and_eq_true, decide_eq_true_eq] at h
  have h2 := (lowR_all h.2).2
  have h3 := popN_all e.Seq (e :: r)
  rw [List.length_cons] at h3
  rw [h3, List.filter_cons]
  have : seqP e.Seq e = true := decide_eq_true rfl
  simp only [this, Bool.not_true, Bool.false_eq_true, if_false]
  rw [List.filter_eq_self]
  intro x hx
  have := (h2 x hx).1
  simp [seqP]; omega
theorem hf0 : findF (fun _ => true) ([] : List Entry) = (zeroE, false) := rfl
theorem pc_23 (t : Turn) (l : List Lane) (hm : mayT t l = true) : PC Try.prog 23 [bTu t, bLs l] (.tup [bTu (walkF t l).t, bLs (walkF t l).x, bDs (walkF t l).o]) := by
  obtain ⟨hi0, hn2, hn64⟩ := winv_start hm
  have hne : l ≠ [] := fun h => by rw [h] at hn2; simp at hn2
  refine PC.of_loose (ACall.of_AWm (fun args w => Try.call23 args w) Try.func23 rfl (by simp [Try.ntmps23]) ?_)
  simp only [Try.ntmps23, List.length_nil]
  (first | (refine AW.q false fun K hK => ?_) | (refine AW.seq ?_; refine AW.q false fun K hK => ?_) | (refine AW.seq (AW.seq ?_); refine AW.q false fun K hK => ?_) | (refine AW.block ?_; refine AW.q false fun K hK => ?_) | (refine AW.seq (AW.block ?_); refine AW.q false fun K hK => ?_) | (refine AW.ql false fun K hK => ?_)); repeat ((first | refine Zs ?_ | refine Zl ?_ | refine Z0 ?_ | refine Zd ?_); intro HK hk; simp [go_sem]; (repeat refine ⟨by omega, ?_⟩); apply hk; clear hk HK)
  try ((first | refine Zn ?_ | refine Zm ?_); apply hK; clear hK K; try simp only [AThen, ABlock])
  refine AW.weak (Sub.holes 3) ?_; simp only [List.replicate, List.cons_append, List.nil_append]
  (first | (refine AW.w [(none, [2, 3, 4]), (none, [3, 4]), (some 2, [3, 4]), (none, [4]), (some 3, [2, 4]), (some 4, [2, 3]), (some 4, [])] rfl (by decide +kernel) fun K hK => ?_) | (refine AW.seq ?_; refine AW.w [(none, [2, 3, 4]), (none, [3, 4]), (some 2, [3, 4]), (none, [4]), (some 3, [2, 4]), (some 4, [2, 3]), (some 4, [])] rfl (by decide +kernel) fun K hK => ?_) | (refine AW.seq (AW.seq ?_); refine AW.w [(none, [2, 3, 4]), (none, [3, 4]), (some 2, [3, 4]), (none, [4]), (some 3, [2, 4]), (some 4, [2, 3]), (some 4, [])] rfl (by decide +kernel) fun K hK => ?_) | (refine AW.block ?_; refine AW.w [(none, [2, 3, 4]), (none, [3, 4]), (some 2, [3, 4]), (none, [4]), (some 3, [2, 4]), (some 4, [2, 3]), (some 4, [])] rfl (by decide +kernel) fun K hK => ?_) | (refine AW.seq (AW.block ?_); refine AW.w [(none, [2, 3, 4]), (none, [3, 4]), (some 2, [3, 4]), (none, [4]), (some 3, [2, 4]), (some 4, [2, 3]), (some 4, [])] rfl (by decide +kernel) fun K hK => ?_) | (refine AW.wl [(none, [2, 3, 4]), (none, [3, 4]), (some 2, [3, 4]), (none, [4]), (some 3, [2, 4]), (some 4, [2, 3]), (some 4, [])] rfl (by decide +kernel) fun K hK => ?_)); repeat ((first | refine Zs ?_ | refine Zl ?_ | refine Z0 ?_ | refine Zd ?_); intro HK hk; simp [go_sem]; (repeat refine ⟨by omega, ?_⟩); apply hk; clear hk HK)
  try ((first | refine Zn ?_ | refine Zm ?_); apply hK; clear hK K; try simp only [AThen, ABlock])
  (first | refine Zs ?_ | refine Zl ?_ | refine Z0 ?_ | refine Zd ?_); intro HK hk; simp [go_sem]
  refine ⟨_, _, _, _, poc_76 l (by omega), rfl, ?_⟩
  rw [List.length_map]
  (repeat refine ⟨by omega, ?_⟩); apply hk; clear hk HK; repeat' (first | ((first | refine Zs ?_ | refine Zl ?_ | refine Z0 ?_ | refine Zd ?_); intro HK hk; simp [go_sem]; (repeat refine ⟨by omega, ?_⟩); apply hk; clear hk HK) | ((first | refine Zg ?_ ?_ | refine Zh ?_ ?_ | refine Zp ?_ ?_ | refine Zk ?_ ?_) <;> intro hg <;> simp only [hg] <;> (try simp at hg) <;> try omega))
  all_goals try ((first | refine Zn ?_ | refine Zm ?_); apply hK; clear hK K; try simp only [AThen, ABlock])
  refine AW.weak (Sub.promoteAt 3 3 51 2 (by decide) rfl rfl) ?_
  simp only [List.set_cons_zero, List.set_cons_succ, List.cons_append, List.nil_append, List.length_cons, List.length_nil, Nat.zero_add, Nat.reduceAdd]
  refine AW.seq (AW.new (l := [_, _, _, _, _, _]) (o := _) (o2 := _) rfl ?_)
  simp [go_sem, aSteps]
  have hz : (Try.prog.info? 107).bind (·.zero) = some (.map none) := by kernel_rfl
  have hc : Try.prog.cellsOf 107 = 1 := by kernel_rfl
  refine ⟨107, 8, .tmp 20, .map none, [.mp 6], rfl, rfl, rfl, by decide, by simp, rfl, rfl, rfl, hz, by rw [hc]; rfl, by rw [hc]; decide, rfl, by rw [hc]; rfl, ?_⟩
  simp only [AThen]
  all_goals repeat' (first | (refine Zc ?_ ?_ <;> intro h <;> (try simp [go_sem] at h) <;> try omega) | (refine Zi ?_; try simp only [AThen, ABlock]) | (refine Ze ?_; simp +decide only [AThen, ABlock, reduceIte]) | (refine Zt ?_; (try simp [go_sem]); all_goals (try simp [loR, lo]); all_goals try exact rfl) | ((first | refine Zq ?_ | refine Zr ?_ | refine Zw ?_ | refine Zx ?_); intro K hK; repeat' (first | ((first | refine Zs ?_ | refine Zl ?_ | refine Z0 ?_ | refine Zd ?_); intro HK hk; simp [go_sem]; (repeat refine ⟨by omega, ?_⟩); apply hk; clear hk HK) | ((first | refine Zg ?_ ?_ | refine Zh ?_ ?_ | refine Zp ?_ ?_ | refine Zk ?_ ?_) <;> intro hg <;> simp only [hg] <;> (try simp at hg) <;> try omega)); all_goals try ((first | refine Zn ?_ | refine Zm ?_); apply hK; clear hK K; try simp only [AThen, ABlock])) | refine Zz ?_ | refine Zb ?_)
  all_goals try exact rfl
  (first | refine Zs ?_ | refine Zl ?_ | refine Z0 ?_ | refine Zd ?_); intro HK hk; simp [go_sem]
  refine ACall.of_AW (fun args w => Try.call79 args w) Try.func79 rfl (by simp [Try.ntmps79]) ?_
  simp only [Try.ntmps79, List.length_append, List.length_cons, List.length_nil, List.cons_append, List.nil_append, List.map_cons, List.map_nil, Nat.zero_add, Nat.reduceAdd, capAV]
  all_goals repeat' (first | (refine Zc ?_ ?_ <;> intro h <;> (try simp [go_sem] at h) <;> try omega) | (refine Zi ?_; try simp only [AThen, ABlock]) | (refine Ze ?_; simp +decide only [AThen, ABlock, reduceIte]) | (refine Zt ?_; (try simp [go_sem]); all_goals (try simp [loR, lo]); all_goals try exact rfl) | ((first | refine Zq ?_ | refine Zr ?_ | refine Zw ?_ | refine Zx ?_); intro K hK; repeat' (first | ((first | refine Zs ?_ | refine Zl ?_ | refine Z0 ?_ | refine Zd ?_); intro HK hk; simp [go_sem]; (repeat refine ⟨by omega, ?_⟩); apply hk; clear hk HK) | ((first | refine Zg ?_ ?_ | refine Zh ?_ ?_ | refine Zp ?_ ?_ | refine Zk ?_ ?_) <;> intro hg <;> simp only [hg] <;> (try simp at hg) <;> try omega)); all_goals try ((first | refine Zn ?_ | refine Zm ?_); apply hK; clear hK K; try simp only [AThen, ABlock])) | refine Zz ?_ | refine Zb ?_)
  all_goals try exact rfl
  (repeat refine ⟨by omega, ?_⟩); apply hk; clear hk HK; repeat' (first | ((first | refine Zs ?_ | refine Zl ?_ | refine Z0 ?_ | refine Zd ?_); intro HK hk; simp [go_sem]; (repeat refine ⟨by omega, ?_⟩); apply hk; clear hk HK) | ((first | refine Zg ?_ ?_ | refine Zh ?_ ?_ | refine Zp ?_ ?_ | refine Zk ?_ ?_) <;> intro hg <;> simp only [hg] <;> (try simp at hg) <;> try omega))
  all_goals try ((first | refine Zn ?_ | refine Zm ?_); apply hK; clear hK K; try simp only [AThen, ABlock])
  clear hz hc
  refine AW.block ?_
  refine AW.rangeFuncL rfl rfl fun L hL => ?_
  simp only [List.set_cons_zero, List.cons_append, List.nil_append, List.length_cons, List.length_nil, Nat.zero_add, Nat.reduceAdd, List.map_cons, List.map_nil, capAV]
  refine ACall.of_AW (fun args w => Try.call107 args w) Try.func107 rfl (by simp [Try.ntmps107]) ?_
  simp only [Try.ntmps107, List.length_append, List.length_cons, List.length_nil, List.cons_append, List.nil_append, List.map_cons, List.map_nil, Nat.zero_add, Nat.reduceAdd, capAV]
  refine AW.block ?_
  refine AW.upto (tot l) (fun k => tot (walkS ⟨t, l, []⟩ k).x + k = tot l) (fun k => [(0, .c (.yld 10)), (1, .c (.ptr 8 0))]) (fun k => walkH t l (walkS ⟨t, l, []⟩ k) ++ [.dfr, .loop L]) rfl ?_ fun k hk hj => ?_
  · subst hL
    refine Sub.of 11 (by simp) (by first | (simp [walkS]; done) | (simp [go_sem, walkS]; done)) (by simp [go_sem]) ?_ (by simp [go_sem])
    simp [go_sem, walkS]
  · have hI := walkS_inv hi0 k
    have hfin : ∀ s, wNext (walkS ⟨t, l, []⟩ k) = none → walkS ⟨t, l, []⟩ k = s → walkF t l = s := fun s h1 h2 => by
      have := walkS_stop h1 (tot l - k)
      rw [show k + (tot l - k) = tot l by omega] at this
      unfold walkF; rw [this, h2]
    have hstp : ∀ s', wNext (walkS ⟨t, l, []⟩ k) = some s' → walkS ⟨t, l, []⟩ (k + 1) = s' := fun s' h => walkS_step h
    generalize hS : walkS ⟨t, l, []⟩ k = s at *
    have hxl := hI.len
    simp only [List.cons_append, List.nil_append]
    cases hq : wNext s with
    | none =>
      obtain ⟨w, p, hw, hwn, hx⟩ := wnext_none hI hq
      have hf := hfin s hq rfl
      rw [hf]
      obtain ⟨⟨who, u⟩, x, o⟩ := s
      simp only at hw hx hxl
      subst hw
      all_goals repeat' (first | (refine Zc ?_ ?_ <;> intro h <;> (try simp [go_sem, hx, hxl] at h) <;> try omega) | (refine Zi ?_; try simp only [AThen, ABlock]) | (refine Ze ?_; simp +decide only [AThen, ABlock, reduceIte]) | (refine Zt ?_; (try simp [go_sem, hx, hxl]); all_goals (try simp [loR, lo]); all_goals try exact rfl) | ((first | refine Zq ?_ | refine Zr ?_ | refine Zw ?_ | refine Zx ?_); intro K hK; repeat' (first | ((first | refine Zs ?_ | refine Zl ?_ | refine Z0 ?_ | refine Zd ?_); intro HK hk; simp [go_sem, hx, hxl]; (repeat refine ⟨by omega, ?_⟩); apply hk; clear hk HK) | ((first | refine Zg ?_ ?_ | refine Zh ?_ ?_ | refine Zp ?_ ?_ | refine Zk ?_ ?_) <;> intro hg <;> simp only [hg] <;> (try simp at hg) <;> try omega)); all_goals try ((first | refine Zn ?_ | refine Zm ?_); apply hK; clear hK K; try simp only [AThen, ABlock])) | refine Zz ?_ | refine Zb ?_)
      all_goals try exact rfl
      (first | refine Zs ?_ | refine Z0 ?_ | refine Zd ?_); intro HK hk; simp [go_sem]; (repeat refine ⟨by omega, ?_⟩); (first | refine ACall.pur rfl (pc_48 ⟨[], p⟩) ?_ | refine ACallD.mk rfl (pc_48 ⟨[], p⟩) ?_); simp [go_sem, hf0]; (repeat refine ⟨by omega, ?_⟩); apply hk; clear hk HK; repeat' (first | ((first | refine Zs ?_ | refine Zl ?_ | refine Z0 ?_ | refine Zd ?_); intro HK hk; simp [go_sem, hf0]; (repeat refine ⟨by omega, ?_⟩); apply hk; clear hk HK) | ((first | refine Zg ?_ ?_ | refine Zh ?_ ?_ | refine Zp ?_ ?_ | refine Zk ?_ ?_) <;> intro hg <;> simp only [hg] <;> (try simp at hg) <;> try omega))
      all_goals try ((first | refine Zn ?_ | refine Zm ?_); apply hK; clear hK K; try simp only [AThen, ABlock])
      all_goals repeat' (first | (refine Zc ?_ ?_ <;> intro h <;> (try simp [go_sem] at h) <;> try omega) | (refine Zi ?_; try simp only [AThen, ABlock]) | (refine Ze ?_; simp +decide only [AThen, ABlock, reduceIte]) | (refine Zt ?_; (try simp [go_sem]); all_goals (try simp [loR, lo]); all_goals try exact rfl) | ((first | refine Zq ?_ | refine Zr ?_ | refine Zw ?_ | refine Zx ?_); intro K hK; repeat' (first | ((first | refine Zs ?_ | refine Zl ?_ | refine Z0 ?_ | refine Zd ?_); intro HK hk; simp [go_sem]; (repeat refine ⟨by omega, ?_⟩); apply hk; clear hk HK) | ((first | refine Zg ?_ ?_ | refine Zh ?_ ?_ | refine Zp ?_ ?_ | refine Zk ?_ ?_) <;> intro hg <;> simp only [hg] <;> (try simp at hg) <;> try omega)); all_goals try ((first | refine Zn ?_ | refine Zm ?_); apply hK; clear hK K; try simp only [AThen, ABlock])) | refine Zz ?_ | refine Zb ?_)
      all_goals try exact rfl
      subst hL
      simp [go_sem]
      all_goals repeat' (first | (refine Zc ?_ ?_ <;> intro h <;> (try simp [go_sem, hxl] at h) <;> try omega) | (refine Zi ?_; try simp only [AThen, ABlock]) | (refine Ze ?_; simp +decide only [AThen, ABlock, reduceIte]) | (refine Zt ?_; (try simp [go_sem, hxl]); all_goals (try simp [loR, lo]); all_goals try exact rfl) | ((first | refine AW.q false fun K hK => ?_ | refine AW.ql false fun K hK => ?_ | refine AW.w [(none, []), (none, []), (none, []), (none, []), (none, [1]), (none, [1]), (none, [1]), (none, [1]), (none, [1]), (none, [1]), (none, [1]), (none, [1]), (some 1, [])] rfl (by decide +kernel) fun K hK => ?_ | refine AW.wl [(none, []), (none, []), (none, []), (none, []), (none, [1]), (none, [1]), (none, [1]), (none, [1]), (none, [1]), (none, [1]), (none, [1]), (none, [1]), (some 1, [])] rfl (by decide +kernel) fun K hK => ?_); repeat' (first | ((first | refine Zs ?_ | refine Zl ?_ | refine Z0 ?_ | refine Zd ?_); intro HK hk; simp [go_sem, hxl]; (repeat refine ⟨by omega, ?_⟩); apply hk; clear hk HK) | ((first | refine Zg ?_ ?_ | refine Zh ?_ ?_ | refine Zp ?_ ?_ | refine Zk ?_ ?_) <;> intro hg <;> simp only [hg] <;> (try simp at hg) <;> try omega)); all_goals try ((first | refine Zn ?_ | refine Zm ?_); apply hK; clear hK K; try simp only [AThen, ABlock])) | refine Zz ?_ | refine Zb ?_)
      all_goals try exact rfl
    | some s' =>
      obtain ⟨w, p, e, r, hw, hwn, hx, hs', ht⟩ := wnext_some hI hq
      have hst := hstp s' hq
      have hI2 := winv_next hI hq
      have hb := hI.bound
      have ho := hI.out
      have hu := hI.used
      obtain ⟨⟨who, u⟩, x, o⟩ := s
      simp only at hw hx hxl hb ho hu hs' ht
      subst hw
      have hfe : findF (fun _ => true) (e :: r) = (e, true) := by rw [find_first]
      have hlr := (hI.ok _ (List.mem_of_getElem? hx)).1
      have hpop := pop_first hlr
      have hrl : r.length ≤ 79 := by have := (hI.ok _ (List.mem_of_getElem? hx)).2; simp at this; omega
      have hwu : IntKind.i64.wrap (u + 1) = u + 1 := wrapI (by omega) (by omega)
      have hww : IntKind.i64.wrap ((w : Int) + 1) = (w : Int) + 1 := wrapI (by omega) (by omega)
      have hkl : k < tot l := by simp only at hj; omega
      have hjn : tot (walkS ⟨t, l, []⟩ (k + 1)).x + (k + 1) = tot l := by rw [hst]; simp only at hj; omega
      have hst2 := hst.trans hs'
      clear hfin hstp hI hI2 hst hs' hq hS hj
      all_goals repeat' (first | (refine Zc ?_ ?_ <;> intro h <;> (try simp [go_sem, hx, hxl] at h) <;> try omega) | (refine Zi ?_; try simp only [AThen, ABlock]) | (refine Ze ?_; simp +decide only [AThen, ABlock, reduceIte]) | (refine Zt ?_; (try simp [go_sem, hx, hxl]); all_goals (try simp [loR, lo]); all_goals try exact rfl) | ((first | refine Zq ?_ | refine Zr ?_ | refine Zw ?_ | refine Zx ?_); intro K hK; repeat' (first | ((first | refine Zs ?_ | refine Zl ?_ | refine Z0 ?_ | refine Zd ?_); intro HK hk; simp [go_sem, hx, hxl]; (repeat refine ⟨by omega, ?_⟩); apply hk; clear hk HK) | ((first | refine Zg ?_ ?_ | refine Zh ?_ ?_ | refine Zp ?_ ?_ | refine Zk ?_ ?_) <;> intro hg <;> simp only [hg] <;> (try simp at hg) <;> try omega)); all_goals try ((first | refine Zn ?_ | refine Zm ?_); apply hK; clear hK K; try simp only [AThen, ABlock])) | refine Zz ?_ | refine Zb ?_)
      all_goals try exact rfl
      (first | refine Zs ?_ | refine Z0 ?_ | refine Zd ?_); intro HK hk; simp [go_sem]; (repeat refine ⟨by omega, ?_⟩); (first | refine ACall.pur rfl (pc_48 ⟨e :: r, p⟩) ?_ | refine ACallD.mk rfl (pc_48 ⟨e :: r, p⟩) ?_); simp [go_sem, hfe]; (repeat refine ⟨by omega, ?_⟩); apply hk; clear hk HK; repeat' (first | ((first | refine Zs ?_ | refine Zl ?_ | refine Z0 ?_ | refine Zd ?_); intro HK hk; simp [go_sem, hfe]; (repeat refine ⟨by omega, ?_⟩); apply hk; clear hk HK) | ((first | refine Zg ?_ ?_ | refine Zh ?_ ?_ | refine Zp ?_ ?_ | refine Zk ?_ ?_) <;> intro hg <;> simp only [hg] <;> (try simp at hg) <;> try omega))
      all_goals try ((first | refine Zn ?_ | refine Zm ?_); apply hK; clear hK K; try simp only [AThen, ABlock])
      all_goals repeat' (first | (refine Zc ?_ ?_ <;> intro h <;> (try simp [go_sem, hx, hxl] at h) <;> try omega) | (refine Zi ?_; try simp only [AThen, ABlock]) | (refine Ze ?_; simp +decide only [AThen, ABlock, reduceIte]) | (refine Zt ?_; (try simp [go_sem, hx, hxl]); all_goals (try simp [loR, lo]); all_goals try exact rfl) | ((first | refine AW.q false fun K hK => ?_ | refine AW.ql false fun K hK => ?_ | refine AW.w [(none, []), (none, []), (none, []), (none, []), (none, []), (none, []), (none, []), (none, []), (none, []), (none, []), (none, []), (none, []), (none, []), (none, []), (none, []), (none, []), (some 2, [])] rfl (by decide +kernel) fun K hK => ?_ | refine AW.wl [(none, []), (none, []), (none, []), (none, []), (none, []), (none, []), (none, []), (none, []), (none, []), (none, []), (none, []), (none, []), (none, []), (none, []), (none, []), (none, []), (some 2, [])] rfl (by decide +kernel) fun K hK => ?_); repeat' (first | ((first | refine Zs ?_ | refine Zl ?_ | refine Z0 ?_ | refine Zd ?_); intro HK hk; simp [go_sem, hx, hxl]; (repeat refine ⟨by omega, ?_⟩); apply hk; clear hk HK) | ((first | refine Zg ?_ ?_ | refine Zh ?_ ?_ | refine Zp ?_ ?_ | refine Zk ?_ ?_) <;> intro hg <;> simp only [hg] <;> (try simp at hg) <;> try omega)); all_goals try ((first | refine Zn ?_ | refine Zm ?_); apply hK; clear hK K; try simp only [AThen, ABlock])) | refine Zz ?_ | refine Zb ?_)
      all_goals try exact rfl
      (first | refine Zs ?_ | refine Z0 ?_ | refine Zd ?_); intro HK hk; simp [go_sem]; (repeat refine ⟨by omega, ?_⟩); (first | refine ACall.pur rfl (pc_60 ⟨e :: r, p⟩ e.Seq (by simp; omega)) ?_ | refine ACallD.mk rfl (pc_60 ⟨e :: r, p⟩ e.Seq (by simp; omega)) ?_); simp [go_sem, hpop, hx, hxl]; (repeat refine ⟨by omega, ?_⟩); apply hk; clear hk HK; repeat' (first | ((first | refine Zs ?_ | refine Zl ?_ | refine Z0 ?_ | refine Zd ?_); intro HK hk; simp [go_sem, hpop, hx, hxl]; (repeat refine ⟨by omega, ?_⟩); apply hk; clear hk HK) | ((first | refine Zg ?_ ?_ | refine Zh ?_ ?_ | refine Zp ?_ ?_ | refine Zk ?_ ?_) <;> intro hg <;> simp only [hg] <;> (try simp at hg) <;> try omega))
      all_goals try ((first | refine Zn ?_ | refine Zm ?_); apply hK; clear hK K; try simp only [AThen, ABlock])
      all_goals repeat' (first | (refine Zc ?_ ?_ <;> intro h <;> (try simp [go_sem] at h) <;> try omega) | (refine Zi ?_; try simp only [AThen, ABlock]) | (refine Ze ?_; simp +decide only [AThen, ABlock, reduceIte]) | (refine Zt ?_; (try simp [go_sem]); all_goals (try simp [loR, lo]); all_goals try exact rfl) | ((first | refine Zq ?_ | refine Zr ?_ | refine Zw ?_ | refine Zx ?_); intro K hK; repeat' (first | ((first | refine Zs ?_ | refine Zl ?_ | refine Z0 ?_ | refine Zd ?_); intro HK hk; simp [go_sem]; (repeat refine ⟨by omega, ?_⟩); apply hk; clear hk HK) | ((first | refine Zg ?_ ?_ | refine Zh ?_ ?_ | refine Zp ?_ ?_ | refine Zk ?_ ?_) <;> intro hg <;> simp only [hg] <;> (try simp at hg) <;> try omega)); all_goals try ((first | refine Zn ?_ | refine Zm ?_); apply hK; clear hK K; try simp only [AThen, ABlock])) | refine Zz ?_ | refine Zb ?_)
      all_goals try exact rfl
      subst hL
      (first | refine Zs ?_ | refine Zl ?_ | refine Z0 ?_ | refine Zd ?_); intro HK hk; simp [go_sem]
      refine YCall.of_AW rfl rfl (by simp) (by simp) (by simp [go_sem]) ?_
      simp only [putPs, List.length_append, List.length_cons, List.length_nil, Nat.zero_add, Nat.reduceAdd]
      all_goals repeat' (first | (refine Zc ?_ ?_ <;> intro h <;> (try simp [go_sem] at h) <;> try omega) | (refine Zi ?_; try simp only [AThen, ABlock]) | (refine Ze ?_; simp +decide only [AThen, ABlock, reduceIte]) | (refine Zt ?_; (try simp [go_sem]); all_goals (try simp [loR, lo]); all_goals try exact rfl) | ((first | refine Zq ?_ | refine Zr ?_ | refine Zw ?_ | refine Zx ?_); intro K hK; repeat' (first | ((first | refine Zs ?_ | refine Zl ?_ | refine Z0 ?_ | refine Zd ?_); intro HK hk; simp [go_sem]; (repeat refine ⟨by omega, ?_⟩); apply hk; clear hk HK) | ((first | refine Zg ?_ ?_ | refine Zh ?_ ?_ | refine Zp ?_ ?_ | refine Zk ?_ ?_) <;> intro hg <;> simp only [hg] <;> (try simp at hg) <;> try omega)); all_goals try ((first | refine Zn ?_ | refine Zm ?_); apply hK; clear hK K; try simp only [AThen, ABlock])) | refine Zz ?_ | refine Zb ?_)
      all_goals try exact rfl
      refine ⟨_, rfl, rfl, ?_⟩
      simp only [List.set_cons_zero, List.set_cons_succ]
      all_goals repeat' (first | (refine Zc ?_ ?_ <;> intro h <;> (try simp [go_sem] at h) <;> try omega) | (refine Zi ?_; try simp only [AThen, ABlock]) | (refine Ze ?_; simp +decide only [AThen, ABlock, reduceIte]) | (refine Zt ?_; (try simp [go_sem]); all_goals (try simp [loR, lo]); all_goals try exact rfl) | ((first | refine Zq ?_ | refine Zr ?_ | refine Zw ?_ | refine Zx ?_); intro K hK; repeat' (first | ((first | refine Zs ?_ | refine Zl ?_ | refine Z0 ?_ | refine Zd ?_); intro HK hk; simp [go_sem]; (repeat refine ⟨by omega, ?_⟩); apply hk; clear hk HK) | ((first | refine Zg ?_ ?_ | refine Zh ?_ ?_ | refine Zp ?_ ?_ | refine Zk ?_ ?_) <;> intro hg <;> simp only [hg] <;> (try simp at hg) <;> try omega)); all_goals try ((first | refine Zn ?_ | refine Zm ?_); apply hK; clear hK K; try simp only [AThen, ABlock])) | refine Zz ?_ | refine Zb ?_)
      all_goals try exact rfl
      by_cases hk1 : e.Kind = 1
      · have h1 : turnN ⟨(w : Int), u⟩ l.length e = ⟨w, u + 1⟩ := by unfold turnN; rw [if_pos hk1]
        have h2 : outN ⟨(w : Int), u⟩ o e = o ++ [⟨w, e.B⟩] := by unfold outN; rw [if_pos hk1]
        rw [h1, h2] at hst2
        (first | refine Zs ?_ | refine Zl ?_ | refine Z0 ?_ | refine Zd ?_); intro HK hk; simp [go_sem, hk1]
        (repeat refine ⟨by omega, ?_⟩); apply hk; clear hk HK; repeat' (first | ((first | refine Zs ?_ | refine Zl ?_ | refine Z0 ?_ | refine Zd ?_); intro HK hk; simp [go_sem]; (repeat refine ⟨by omega, ?_⟩); apply hk; clear hk HK) | ((first | refine Zg ?_ ?_ | refine Zh ?_ ?_ | refine Zp ?_ ?_ | refine Zk ?_ ?_) <;> intro hg <;> simp only [hg] <;> (try simp at hg) <;> try omega))
        all_goals try ((first | refine Zn ?_ | refine Zm ?_); apply hK; clear hK K; try simp only [AThen, ABlock])
        all_goals repeat' (first | (refine Zc ?_ ?_ <;> intro h <;> (try simp [go_sem] at h) <;> try omega) | (refine Zi ?_; try simp only [AThen, ABlock]) | (refine Ze ?_; simp +decide only [AThen, ABlock, reduceIte]) | (refine Zt ?_; (try simp [go_sem]); all_goals (try simp [loR, lo]); all_goals try exact rfl) | ((first | refine Zq ?_ | refine Zr ?_ | refine Zw ?_ | refine Zx ?_); intro K hK; repeat' (first | ((first | refine Zs ?_ | refine Zl ?_ | refine Z0 ?_ | refine Zd ?_); intro HK hk; simp [go_sem]; (repeat refine ⟨by omega, ?_⟩); apply hk; clear hk HK) | ((first | refine Zg ?_ ?_ | refine Zh ?_ ?_ | refine Zp ?_ ?_ | refine Zk ?_ ?_) <;> intro hg <;> simp only [hg] <;> (try simp at hg) <;> try omega)); all_goals try ((first | refine Zn ?_ | refine Zm ?_); apply hK; clear hK K; try simp only [AThen, ABlock])) | refine Zz ?_ | refine Zb ?_)
        all_goals try exact rfl
        (first | refine Zs ?_ | refine Zl ?_ | refine Z0 ?_ | refine Zd ?_); intro HK hk; simp [go_sem]
        refine ACall.of_AW (fun args w => Try.call77 args w) Try.func77 rfl (by simp [Try.ntmps77]) ?_
        simp only [Try.ntmps77, List.length_append, List.length_cons, List.length_nil, List.cons_append, List.nil_append, List.map_cons, List.map_nil, Nat.zero_add, Nat.reduceAdd, capAV]
        all_goals repeat' (first | (refine Zc ?_ ?_ <;> intro h <;> (try simp [go_sem, hwu] at h) <;> try omega) | (refine Zi ?_; try simp only [AThen, ABlock]) | (refine Ze ?_; simp +decide only [AThen, ABlock, reduceIte]) | (refine Zt ?_; (try simp [go_sem, hwu]); all_goals (try simp [loR, lo]); all_goals try exact rfl) | ((first | refine AW.q false fun K hK => ?_ | refine AW.ql false fun K hK => ?_ | refine AW.w [(none, [5]), (none, [5]), (none, [5]), (none, [5]), (none, []), (none, [5]), (none, [5]), (none, [5]), (none, [5]), (none, [5]), (none, [5]), (none, [5]), (none, [5]), (none, []), (some 5, []), (none, [3]), (none, []), (some 3, [])] rfl (by decide +kernel) fun K hK => ?_ | refine AW.wl [(none, [5]), (none, [5]), (none, [5]), (none, [5]), (none, []), (none, [5]), (none, [5]), (none, [5]), (none, [5]), (none, [5]), (none, [5]), (none, [5]), (none, [5]), (none, []), (some 5, []), (none, [3]), (none, []), (some 3, [])] rfl (by decide +kernel) fun K hK => ?_); repeat' (first | ((first | refine Zs ?_ | refine Zl ?_ | refine Z0 ?_ | refine Zd ?_); intro HK hk; simp [go_sem, hwu]; (repeat refine ⟨by omega, ?_⟩); apply hk; clear hk HK) | ((first | refine Zg ?_ ?_ | refine Zh ?_ ?_ | refine Zp ?_ ?_ | refine Zk ?_ ?_) <;> intro hg <;> simp only [hg] <;> (try simp at hg) <;> try omega)); all_goals try ((first | refine Zn ?_ | refine Zm ?_); apply hK; clear hK K; try simp only [AThen, ABlock])) | refine Zz ?_ | refine Zb ?_)
        all_goals try exact rfl
        simp [go_sem]
        (repeat refine ⟨by omega, ?_⟩); apply hk; clear hk HK; repeat' (first | ((first | refine Zs ?_ | refine Zl ?_ | refine Z0 ?_ | refine Zd ?_); intro HK hk; simp [go_sem]; (repeat refine ⟨by omega, ?_⟩); apply hk; clear hk HK) | ((first | refine Zg ?_ ?_ | refine Zh ?_ ?_ | refine Zp ?_ ?_ | refine Zk ?_ ?_) <;> intro hg <;> simp only [hg] <;> (try simp at hg) <;> try omega))
        all_goals try ((first | refine Zn ?_ | refine Zm ?_); apply hK; clear hK K; try simp only [AThen, ABlock])
        all_goals repeat' (first | (refine Zc ?_ ?_ <;> intro h <;> (try simp [go_sem] at h) <;> try omega) | (refine Zi ?_; try simp only [AThen, ABlock]) | (refine Ze ?_; simp +decide only [AThen, ABlock, reduceIte]) | (refine Zt ?_; (try simp [go_sem]); all_goals (try simp [loR, lo]); all_goals try exact rfl) | ((first | refine Zq ?_ | refine Zr ?_ | refine Zw ?_ | refine Zx ?_); intro K hK; repeat' (first | ((first | refine Zs ?_ | refine Zl ?_ | refine Z0 ?_ | refine Zd ?_); intro HK hk; simp [go_sem]; (repeat refine ⟨by omega, ?_⟩); apply hk; clear hk HK) | ((first | refine Zg ?_ ?_ | refine Zh ?_ ?_ | refine Zp ?_ ?_ | refine Zk ?_ ?_) <;> intro hg <;> simp only [hg] <;> (try simp at hg) <;> try omega)); all_goals try ((first | refine Zn ?_ | refine Zm ?_); apply hK; clear hK K; try simp only [AThen, ABlock])) | refine Zz ?_ | refine Zb ?_)
        all_goals try exact rfl
        refine ⟨_, rfl, ?_⟩
        simp [go_sem]; (repeat refine ⟨by omega, ?_⟩); apply hk; clear hk HK; repeat' (first | ((first | refine Zs ?_ | refine Zl ?_ | refine Z0 ?_ | refine Zd ?_); intro HK hk; simp [go_sem]; (repeat refine ⟨by omega, ?_⟩); apply hk; clear hk HK) | ((first | refine Zg ?_ ?_ | refine Zh ?_ ?_ | refine Zp ?_ ?_ | refine Zk ?_ ?_) <;> intro hg <;> simp only [hg] <;> (try simp at hg) <;> try omega))
        all_goals try ((first | refine Zn ?_ | refine Zm ?_); apply hK; clear hK K; try simp only [AThen, ABlock])
        all_goals repeat' (first | (refine Zc ?_ ?_ <;> intro h <;> (try simp [go_sem] at h) <;> try omega) | (refine Zi ?_; try simp only [AThen, ABlock]) | (refine Ze ?_; simp +decide only [AThen, ABlock, reduceIte]) | (refine Zt ?_; (try simp [go_sem]); all_goals (try simp [loR, lo]); all_goals try exact rfl) | ((first | refine Zq ?_ | refine Zr ?_ | refine Zw ?_ | refine Zx ?_); intro K hK; repeat' (first | ((first | refine Zs ?_ | refine Zl ?_ | refine Z0 ?_ | refine Zd ?_); intro HK hk; simp [go_sem]; (repeat refine ⟨by omega, ?_⟩); apply hk; clear hk HK) | ((first | refine Zg ?_ ?_ | refine Zh ?_ ?_ | refine Zp ?_ ?_ | refine Zk ?_ ?_) <;> intro hg <;> simp only [hg] <;> (try simp at hg) <;> try omega)); all_goals try ((first | refine Zn ?_ | refine Zm ?_); apply hK; clear hK K; try simp only [AThen, ABlock])) | refine Zz ?_ | refine Zb ?_)
        all_goals try exact rfl
        refine ⟨hkl, hjn, ?_⟩
        refine Sub.of 11 (by simp) (by first | (simp [hst2]; done) | (simp [go_sem, hst2]; done)) (by simp [go_sem]) ?_ (by simp [go_sem])
        simp [go_sem, hst2]
      · by_cases hk3 : e.Kind = 3
        · have h2 : outN ⟨(w : Int), u⟩ o e = o := by unfold outN; rw [if_neg hk1]
          by_cases hwl : w + 1 = l.length
          · have h1 : turnN ⟨(w : Int), u⟩ l.length e = ⟨0, 0⟩ := by unfold turnN; rw [if_neg hk1, if_pos hk3, if_pos (by simp only; omega)]
            have hmd : ((w : Int) + 1).tmod (l.length : Int) = 0 := by rw [Int.tmod_eq_emod_of_nonneg (by omega), show ((w : Int) + 1) = (l.length : Int) by omega]; exact Int.emod_self
            rw [h1, h2] at hst2
            (first | refine Zs ?_ | refine Zl ?_ | refine Z0 ?_ | refine Zd ?_); intro HK hk; simp [go_sem, hk3]
            (repeat refine ⟨by omega, ?_⟩); apply hk; clear hk HK; repeat' (first | ((first | refine Zs ?_ | refine Zl ?_ | refine Z0 ?_ | refine Zd ?_); intro HK hk; simp [go_sem]; (repeat refine ⟨by omega, ?_⟩); apply hk; clear hk HK) | ((first | refine Zg ?_ ?_ | refine Zh ?_ ?_ | refine Zp ?_ ?_ | refine Zk ?_ ?_) <;> intro hg <;> simp only [hg] <;> (try simp at hg) <;> try omega))
            all_goals try ((first | refine Zn ?_ | refine Zm ?_); apply hK; clear hK K; try simp only [AThen, ABlock])
            all_goals repeat' (first | (refine Zc ?_ ?_ <;> intro h <;> (try simp [go_sem] at h) <;> try omega) | (refine Zi ?_; try simp only [AThen, ABlock]) | (refine Ze ?_; simp +decide only [AThen, ABlock, reduceIte]) | (refine Zt ?_; (try simp [go_sem]); all_goals (try simp [loR, lo]); all_goals try exact rfl) | ((first | refine Zq ?_ | refine Zr ?_ | refine Zw ?_ | refine Zx ?_); intro K hK; repeat' (first | ((first | refine Zs ?_ | refine Zl ?_ | refine Z0 ?_ | refine Zd ?_); intro HK hk; simp [go_sem]; (repeat refine ⟨by omega, ?_⟩); apply hk; clear hk HK) | ((first | refine Zg ?_ ?_ | refine Zh ?_ ?_ | refine Zp ?_ ?_ | refine Zk ?_ ?_) <;> intro hg <;> simp only [hg] <;> (try simp at hg) <;> try omega)); all_goals try ((first | refine Zn ?_ | refine Zm ?_); apply hK; clear hK K; try simp only [AThen, ABlock])) | refine Zz ?_ | refine Zb ?_)
            all_goals try exact rfl
            (first | refine Zs ?_ | refine Zl ?_ | refine Z0 ?_ | refine Zd ?_); intro HK hk; simp [go_sem]
            refine ACall.of_AW (fun args w => Try.call78 args w) Try.func78 rfl (by simp [Try.ntmps78]) ?_
            simp only [Try.ntmps78, List.length_append, List.length_cons, List.length_nil, List.cons_append, List.nil_append, List.map_cons, List.map_nil, Nat.zero_add, Nat.reduceAdd, capAV]
            all_goals repeat' (first | (refine Zc ?_ ?_ <;> intro h <;> (try simp [go_sem, hww, hmd, hne] at h) <;> try omega) | (refine Zi ?_; try simp only [AThen, ABlock]) | (refine Ze ?_; simp +decide only [AThen, ABlock, reduceIte]) | (refine Zt ?_; (try simp [go_sem, hww, hmd, hne]); all_goals (try simp [loR, lo]); all_goals try exact rfl) | ((first | refine AW.q false fun K hK => ?_ | refine AW.ql false fun K hK => ?_ | refine AW.w [(none, []), (none, []), (none, []), (none, []), (none, []), (none, []), (none, []), (none, []), (none, []), (none, []), (none, []), (none, []), (none, []), (none, []), (none, [3]), (none, []), (some 3, [])] rfl (by decide +kernel) fun K hK => ?_ | refine AW.wl [(none, []), (none, []), (none, []), (none, []), (none, []), (none, []), (none, []), (none, []), (none, []), (none, []), (none, []), (none, []), (none, []), (none, []), (none, [3]), (none, []), (some 3, [])] rfl (by decide +kernel) fun K hK => ?_); repeat' (first | ((first | refine Zs ?_ | refine Zl ?_ | refine Z0 ?_ | refine Zd ?_); intro HK hk; simp [go_sem, hww, hmd, hne]; (repeat refine ⟨by omega, ?_⟩); apply hk; clear hk HK) | ((first | refine Zg ?_ ?_ | refine Zh ?_ ?_ | refine Zp ?_ ?_ | refine Zk ?_ ?_) <;> intro hg <;> simp only [hg] <;> (try simp at hg) <;> try omega)); all_goals try ((first | refine Zn ?_ | refine Zm ?_); apply hK; clear hK K; try simp only [AThen, ABlock])) | refine Zz ?_ | refine Zb ?_)
            all_goals try exact rfl
            simp [go_sem]
            (repeat refine ⟨by omega, ?_⟩); apply hk; clear hk HK; repeat' (first | ((first | refine Zs ?_ | refine Zl ?_ | refine Z0 ?_ | refine Zd ?_); intro HK hk; simp [go_sem]; (repeat refine ⟨by omega, ?_⟩); apply hk; clear hk HK) | ((first | refine Zg ?_ ?_ | refine Zh ?_ ?_ | refine Zp ?_ ?_ | refine Zk ?_ ?_) <;> intro hg <;> simp only [hg] <;> (try simp at hg) <;> try omega))
            all_goals try ((first | refine Zn ?_ | refine Zm ?_); apply hK; clear hK K; try simp only [AThen, ABlock])
            all_goals repeat' (first | (refine Zc ?_ ?_ <;> intro h <;> (try simp [go_sem] at h) <;> try omega) | (refine Zi ?_; try simp only [AThen, ABlock]) | (refine Ze ?_; simp +decide only [AThen, ABlock, reduceIte]) | (refine Zt ?_; (try simp [go_sem]); all_goals (try simp [loR, lo]); all_goals try exact rfl) | ((first | refine Zq ?_ | refine Zr ?_ | refine Zw ?_ | refine Zx ?_); intro K hK; repeat' (first | ((first | refine Zs ?_ | refine Zl ?_ | refine Z0 ?_ | refine Zd ?_); intro HK hk; simp [go_sem]; (repeat refine ⟨by omega, ?_⟩); apply hk; clear hk HK) | ((first | refine Zg ?_ ?_ | refine Zh ?_ ?_ | refine Zp ?_ ?_ | refine Zk ?_ ?_) <;> intro hg <;> simp only [hg] <;> (try simp at hg) <;> try omega)); all_goals try ((first | refine Zn ?_ | refine Zm ?_); apply hK; clear hK K; try simp only [AThen, ABlock])) | refine Zz ?_ | refine Zb ?_)
            all_goals try exact rfl
            refine ⟨_, rfl, ?_⟩
            simp [go_sem]; (repeat refine ⟨by omega, ?_⟩); apply hk; clear hk HK; repeat' (first | ((first | refine Zs ?_ | refine Zl ?_ | refine Z0 ?_ | refine Zd ?_); intro HK hk; simp [go_sem]; (repeat refine ⟨by omega, ?_⟩); apply hk; clear hk HK) | ((first | refine Zg ?_ ?_ | refine Zh ?_ ?_ | refine Zp ?_ ?_ | refine Zk ?_ ?_) <;> intro hg <;> simp only [hg] <;> (try simp at hg) <;> try omega))
            all_goals try ((first | refine Zn ?_ | refine Zm ?_); apply hK; clear hK K; try simp only [AThen, ABlock])
            all_goals repeat' (first | (refine Zc ?_ ?_ <;> intro h <;> (try simp [go_sem] at h) <;> try omega) | (refine Zi ?_; try simp only [AThen, ABlock]) | (refine Ze ?_; simp +decide only [AThen, ABlock, reduceIte]) | (refine Zt ?_; (try simp [go_sem]); all_goals (try simp [loR, lo]); all_goals try exact rfl) | ((first | refine Zq ?_ | refine Zr ?_ | refine Zw ?_ | refine Zx ?_); intro K hK; repeat' (first | ((first | refine Zs ?_ | refine Zl ?_ | refine Z0 ?_ | refine Zd ?_); intro HK hk; simp [go_sem]; (repeat refine ⟨by omega, ?_⟩); apply hk; clear hk HK) | ((first | refine Zg ?_ ?_ | refine Zh ?_ ?_ | refine Zp ?_ ?_ | refine Zk ?_ ?_) <;> intro hg <;> simp only [hg] <;> (try simp at hg) <;> try omega)); all_goals try ((first | refine Zn ?_ | refine Zm ?_); apply hK; clear hK K; try simp only [AThen, ABlock])) | refine Zz ?_ | refine Zb ?_)
            all_goals try exact rfl
            refine ⟨hkl, hjn, ?_⟩
            refine Sub.of 11 (by simp) (by first | (simp [hst2]; done) | (simp [go_sem, hst2]; done)) (by simp [go_sem]) ?_ (by simp [go_sem])
            simp [go_sem, hst2]
          · have h1 : turnN ⟨(w : Int), u⟩ l.length e = ⟨w + 1, 0⟩ := by unfold turnN; rw [if_neg hk1, if_pos hk3, if_neg (by simp only; omega)]
            have hmd : ((w : Int) + 1).tmod (l.length : Int) = (w : Int) + 1 := by rw [Int.tmod_eq_emod_of_nonneg (by omega)]; exact Int.emod_eq_of_lt (by omega) (by omega)
            rw [h1, h2] at hst2
            (first | refine Zs ?_ | refine Zl ?_ | refine Z0 ?_ | refine Zd ?_); intro HK hk; simp [go_sem, hk3]
            (repeat refine ⟨by omega, ?_⟩); apply hk; clear hk HK; repeat' (first | ((first | refine Zs ?_ | refine Zl ?_ | refine Z0 ?_ | refine Zd ?_); intro HK hk; simp [go_sem]; (repeat refine ⟨by omega, ?_⟩); apply hk; clear hk HK) | ((first | refine Zg ?_ ?_ | refine Zh ?_ ?_ | refine Zp ?_ ?_ | refine Zk ?_ ?_) <;> intro hg <;> simp only [hg] <;> (try simp at hg) <;> try omega))
            all_goals try ((first | refine Zn ?_ | refine Zm ?_); apply hK; clear hK K; try simp only [AThen, ABlock])
            all_goals repeat' (first | (refine Zc ?_ ?_ <;> intro h <;> (try simp [go_sem] at h) <;> try omega) | (refine Zi ?_; try simp only [AThen, ABlock]) | (refine Ze ?_; simp +decide only [AThen, ABlock, reduceIte]) | (refine Zt ?_; (try simp [go_sem]); all_goals (try simp [loR, lo]); all_goals try exact rfl) | ((first | refine Zq ?_ | refine Zr ?_ | refine Zw ?_ | refine Zx ?_); intro K hK; repeat' (first | ((first | refine Zs ?_ | refine Zl ?_ | refine Z0 ?_ | refine Zd ?_); intro HK hk; simp [go_sem]; (repeat refine ⟨by omega, ?_⟩); apply hk; clear hk HK) | ((first | refine Zg ?_ ?_ | refine Zh ?_ ?_ | refine Zp ?_ ?_ | refine Zk ?_ ?_) <;> intro hg <;> simp only [hg] <;> (try simp at hg) <;> try omega)); all_goals try ((first | refine Zn ?_ | refine Zm ?_); apply hK; clear hK K; try simp only [AThen, ABlock])) | refine Zz ?_ | refine Zb ?_)
            all_goals try exact rfl
            (first | refine Zs ?_ | refine Zl ?_ | refine Z0 ?_ | refine Zd ?_); intro HK hk; simp [go_sem]
            refine ACall.of_AW (fun args w => Try.call78 args w) Try.func78 rfl (by simp [Try.ntmps78]) ?_
            simp only [Try.ntmps78, List.length_append, List.length_cons, List.length_nil, List.cons_append, List.nil_append, List.map_cons, List.map_nil, Nat.zero_add, Nat.reduceAdd, capAV]
            all_goals repeat' (first | (refine Zc ?_ ?_ <;> intro h <;> (try simp [go_sem, hww, hmd, hne] at h) <;> try omega) | (refine Zi ?_; try simp only [AThen, ABlock]) | (refine Ze ?_; simp +decide only [AThen, ABlock, reduceIte]) | (refine Zt ?_; (try simp [go_sem, hww, hmd, hne]); all_goals (try simp [loR, lo]); all_goals try exact rfl) | ((first | refine AW.q false fun K hK => ?_ | refine AW.ql false fun K hK => ?_ | refine AW.w [(none, []), (none, []), (none, []), (none, []), (none, []), (none, []), (none, []), (none, []), (none, []), (none, []), (none, []), (none, []), (none, []), (none, []), (none, [3]), (none, []), (some 3, [])] rfl (by decide +kernel) fun K hK => ?_ | refine AW.wl [(none, []), (none, []), (none, []), (none, []), (none, []), (none, []), (none, []), (none, []), (none, []), (none, []), (none, []), (none, []), (none, []), (none, []), (none, [3]), (none, []), (some 3, [])] rfl (by decide +kernel) fun K hK => ?_); repeat' (first | ((first | refine Zs ?_ | refine Zl ?_ | refine Z0 ?_ | refine Zd ?_); intro HK hk; simp [go_sem, hww, hmd, hne]; (repeat refine ⟨by omega, ?_⟩); apply hk; clear hk HK) | ((first | refine Zg ?_ ?_ | refine Zh ?_ ?_ | refine Zp ?_ ?_ | refine Zk ?_ ?_) <;> intro hg <;> simp only [hg] <;> (try simp at hg) <;> try omega)); all_goals try ((first | refine Zn ?_ | refine Zm ?_); apply hK; clear hK K; try simp only [AThen, ABlock])) | refine Zz ?_ | refine Zb ?_)
            all_goals try exact rfl
            simp [go_sem]
            (repeat refine ⟨by omega, ?_⟩); apply hk; clear hk HK; repeat' (first | ((first | refine Zs ?_ | refine Zl ?_ | refine Z0 ?_ | refine Zd ?_); intro HK hk; simp [go_sem]; (repeat refine ⟨by omega, ?_⟩); apply hk; clear hk HK) | ((first | refine Zg ?_ ?_ | refine Zh ?_ ?_ | refine Zp ?_ ?_ | refine Zk ?_ ?_) <;> intro hg <;> simp only [hg] <;> (try simp at hg) <;> try omega))
            all_goals try ((first | refine Zn ?_ | refine Zm ?_); apply hK; clear hK K; try simp only [AThen, ABlock])
            all_goals repeat' (first | (refine Zc ?_ ?_ <;> intro h <;> (try simp [go_sem] at h) <;> try omega) | (refine Zi ?_; try simp only [AThen, ABlock]) | (refine Ze ?_; simp +decide only [AThen, ABlock, reduceIte]) | (refine Zt ?_; (try simp [go_sem]); all_goals (try simp [loR, lo]); all_goals try exact rfl) | ((first | refine Zq ?_ | refine Zr ?_ | refine Zw ?_ | refine Zx ?_); intro K hK; repeat' (first | ((first | refine Zs ?_ | refine Zl ?_ | refine Z0 ?_ | refine Zd ?_); intro HK hk; simp [go_sem]; (repeat refine ⟨by omega, ?_⟩); apply hk; clear hk HK) | ((first | refine Zg ?_ ?_ | refine Zh ?_ ?_ | refine Zp ?_ ?_ | refine Zk ?_ ?_) <;> intro hg <;> simp only [hg] <;> (try simp at hg) <;> try omega)); all_goals try ((first | refine Zn ?_ | refine Zm ?_); apply hK; clear hK K; try simp only [AThen, ABlock])) | refine Zz ?_ | refine Zb ?_)
            all_goals try exact rfl
            refine ⟨_, rfl, ?_⟩
            simp [go_sem]; (repeat refine ⟨by omega, ?_⟩); apply hk; clear hk HK; repeat' (first | ((first | refine Zs ?_ | refine Zl ?_ | refine Z0 ?_ | refine Zd ?_); intro HK hk; simp [go_sem]; (repeat refine ⟨by omega, ?_⟩); apply hk; clear hk HK) | ((first | refine Zg ?_ ?_ | refine Zh ?_ ?_ | refine Zp ?_ ?_ | refine Zk ?_ ?_) <;> intro hg <;> simp only [hg] <;> (try simp at hg) <;> try omega))
            all_goals try ((first | refine Zn ?_ | refine Zm ?_); apply hK; clear hK K; try simp only [AThen, ABlock])
            all_goals repeat' (first | (refine Zc ?_ ?_ <;> intro h <;> (try simp [go_sem] at h) <;> try omega) | (refine Zi ?_; try simp only [AThen, ABlock]) | (refine Ze ?_; simp +decide only [AThen, ABlock, reduceIte]) | (refine Zt ?_; (try simp [go_sem]); all_goals (try simp [loR, lo]); all_goals try exact rfl) | ((first | refine Zq ?_ | refine Zr ?_ | refine Zw ?_ | refine Zx ?_); intro K hK; repeat' (first | ((first | refine Zs ?_ | refine Zl ?_ | refine Z0 ?_ | refine Zd ?_); intro HK hk; simp [go_sem]; (repeat refine ⟨by omega, ?_⟩); apply hk; clear hk HK) | ((first | refine Zg ?_ ?_ | refine Zh ?_ ?_ | refine Zp ?_ ?_ | refine Zk ?_ ?_) <;> intro hg <;> simp only [hg] <;> (try simp at hg) <;> try omega)); all_goals try ((first | refine Zn ?_ | refine Zm ?_); apply hK; clear hK K; try simp only [AThen, ABlock])) | refine Zz ?_ | refine Zb ?_)
            all_goals try exact rfl
            refine ⟨hkl, hjn, ?_⟩
            refine Sub.of 11 (by simp) (by first | (simp [hst2]; done) | (simp [go_sem, hst2]; done)) (by simp [go_sem]) ?_ (by simp [go_sem])
            simp [go_sem, hst2]
        · have h1 : turnN ⟨(w : Int), u⟩ l.length e = ⟨w, u⟩ := by unfold turnN; rw [if_neg hk1, if_neg hk3]
          have h2 : outN ⟨(w : Int), u⟩ o e = o := by unfold outN; rw [if_neg hk1]
          rw [h1, h2] at hst2
          have hk1' : ¬ (1 : Int) = e.Kind := fun h => hk1 h.symm
          have hk3' : ¬ (3 : Int) = e.Kind := fun h => hk3 h.symm
          (first | refine Zs ?_ | refine Zl ?_ | refine Z0 ?_ | refine Zd ?_); intro HK hk; simp [go_sem, hk1', hk3']
          (repeat refine ⟨by omega, ?_⟩); apply hk; clear hk HK; repeat' (first | ((first | refine Zs ?_ | refine Zl ?_ | refine Z0 ?_ | refine Zd ?_); intro HK hk; simp [go_sem]; (repeat refine ⟨by omega, ?_⟩); apply hk; clear hk HK) | ((first | refine Zg ?_ ?_ | refine Zh ?_ ?_ | refine Zp ?_ ?_ | refine Zk ?_ ?_) <;> intro hg <;> simp only [hg] <;> (try simp at hg) <;> try omega))
          all_goals try ((first | refine Zn ?_ | refine Zm ?_); apply hK; clear hK K; try simp only [AThen, ABlock])
          all_goals repeat' (first | (refine Zc ?_ ?_ <;> intro h <;> (try simp [go_sem] at h) <;> try omega) | (refine Zi ?_; try simp only [AThen, ABlock]) | (refine Ze ?_; simp +decide only [AThen, ABlock, reduceIte]) | (refine Zt ?_; (try simp [go_sem]); all_goals (try simp [loR, lo]); all_goals try exact rfl) | ((first | refine Zq ?_ | refine Zr ?_ | refine Zw ?_ | refine Zx ?_); intro K hK; repeat' (first | ((first | refine Zs ?_ | refine Zl ?_ | refine Z0 ?_ | refine Zd ?_); intro HK hk; simp [go_sem]; (repeat refine ⟨by omega, ?_⟩); apply hk; clear hk HK) | ((first | refine Zg ?_ ?_ | refine Zh ?_ ?_ | refine Zp ?_ ?_ | refine Zk ?_ ?_) <;> intro hg <;> simp only [hg] <;> (try simp at hg) <;> try omega)); all_goals try ((first | refine Zn ?_ | refine Zm ?_); apply hK; clear hK K; try simp only [AThen, ABlock])) | refine Zz ?_ | refine Zb ?_)
          all_goals try exact rfl
          refine ⟨_, rfl, ?_⟩
          simp [go_sem]; (repeat refine ⟨by omega, ?_⟩); apply hk; clear hk HK; repeat' (first | ((first | refine Zs ?_ | refine Zl ?_ | refine Z0 ?_ | refine Zd ?_); intro HK hk; simp [go_sem]; (repeat refine ⟨by omega, ?_⟩); apply hk; clear hk HK) | ((first | refine Zg ?_ ?_ | refine Zh ?_ ?_ | refine Zp ?_ ?_ | refine Zk ?_ ?_) <;> intro hg <;> simp only [hg] <;> (try simp at hg) <;> try omega))
          all_goals try ((first | refine Zn ?_ | refine Zm ?_); apply hK; clear hK K; try simp only [AThen, ABlock])
          all_goals repeat' (first | (refine Zc ?_ ?_ <;> intro h <;> (try simp [go_sem] at h) <;> try omega) | (refine Zi ?_; try simp only [AThen, ABlock]) | (refine Ze ?_; simp +decide only [AThen, ABlock, reduceIte]) | (refine Zt ?_; (try simp [go_sem]); all_goals (try simp [loR, lo]); all_goals try exact rfl) | ((first | refine Zq ?_ | refine Zr ?_ | refine Zw ?_ | refine Zx ?_); intro K hK; repeat' (first | ((first | refine Zs ?_ | refine Zl ?_ | refine Z0 ?_ | refine Zd ?_); intro HK hk; simp [go_sem]; (repeat refine ⟨by omega, ?_⟩); apply hk; clear hk HK) | ((first | refine Zg ?_ ?_ | refine Zh ?_ ?_ | refine Zp ?_ ?_ | refine Zk ?_ ?_) <;> intro hg <;> simp only [hg] <;> (try simp at hg) <;> try omega)); all_goals try ((first | refine Zn ?_ | refine Zm ?_); apply hK; clear hK K; try simp only [AThen, ABlock])) | refine Zz ?_ | refine Zb ?_)
          all_goals try exact rfl
          refine ⟨hkl, hjn, ?_⟩
          refine Sub.of 11 (by simp) (by first | (simp [hst2]; done) | (simp [go_sem, hst2]; done)) (by simp [go_sem]) ?_ (by simp [go_sem])
          simp [go_sem, hst2]
end Go.Proofs.Ytogappokeheilaa
