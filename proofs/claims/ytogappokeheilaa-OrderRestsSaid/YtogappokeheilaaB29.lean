import Derived.Test.YtogappokeheilaaB28
set_option linter.unusedVariables false
set_option linter.unusedSimpArgs false
set_option maxRecDepth 100000
set_option maxHeartbeats 0
namespace Go.Proofs.Ytogappokeheilaa
open Go.Aw

abbrev walkR (s : WS) : PR := .tup [bTu s.t, bLs s.x, bDs s.o]
theorem pc_24 (t : Turn) (l : List Lane) (hm : mayT t l = true) : PC Try.prog 24 [bTu t, bLs l] (walkR (walkF t l)) := by
  obtain ⟨hi0, hn2, hn64⟩ := winv_start hm
  have hne : l ≠ [] := fun h => by rw [h] at hn2; simp at hn2
  refine PC.of_loose (ACall.of_AW (fun args w => Try.call24 args w) Try.func24 rfl (by simp [Try.ntmps24]) ?_)
  simp only [Try.ntmps24, List.length_nil]
  all_goals repeat' (first | (refine Zc ?_ ?_ <;> intro h <;> (try simp [go_sem] at h) <;> try omega) | (refine Zi ?_; try simp only [AThen, ABlock]) | (refine Ze ?_; simp +decide only [AThen, ABlock, reduceIte]) | (refine Zt ?_; (try simp [go_sem]); all_goals (try simp [loR, lo]); all_goals try exact rfl) | ((first | refine Zq ?_ | refine Zr ?_ | refine Zw ?_ | refine Zx ?_); intro K hK; repeat' (first | ((first | refine Zs ?_ | refine Zl ?_ | refine Z0 ?_ | refine Zd ?_); intro HK hk; simp [go_sem]; (repeat refine ⟨by omega, ?_⟩); apply hk; clear hk HK) | ((first | refine Zg ?_ ?_ | refine Zh ?_ ?_ | refine Zp ?_ ?_ | refine Zk ?_ ?_) <;> intro hg <;> simp only [hg] <;> (try simp at hg) <;> try omega)); all_goals try ((first | refine Zn ?_ | refine Zm ?_); apply hK; clear hK K; try simp only [AThen, ABlock])) | refine Zz ?_ | refine Zb ?_)
  all_goals try exact rfl
  refine AW.weak (Sub.promote 8 51 2 (by decide) rfl) ?_
  refine AW.upto (tot l) (fun k => tot (walkS ⟨t, l, []⟩ k).x + k = tot l) (fun k => [(8, .c (.own 3 (walkS ⟨t, l, []⟩ k).o.length)), (7, .c (.own 2 l.length)), (2, .c (.ptr 0 0)), (4, .c (.ptr 1 0))])
    (fun k => [.var ((turnP (walkS ⟨t, l, []⟩ k).t).map .p), .var [.p (.int .i64 0), .p (.int .i64 0)], .arr 47 5 0 ((walkS ⟨t, l, []⟩ k).x.map laneP), .arr 51 2 0 ((walkS ⟨t, l, []⟩ k).o.map delivP)]) rfl ?_ fun k hk hj => ?_
  · refine Sub.of 4 (by simp) (by first | (simp [walkS]; done) | (simp [go_sem, walkS]; done)) (by simp [go_sem]) ?_ (by simp [go_sem])
    simp [go_sem, walkS]
  · have hI := walkS_inv hi0 k
    have hfin : ∀ s, wNext (walkS ⟨t, l, []⟩ k) = none → walkS ⟨t, l, []⟩ k = s → walkF t l = s := fun s h1 h2 => by
      have := walkS_stop h1 (tot l - k)
      rw [show k + (tot l - k) = tot l by omega] at this
      unfold walkF; rw [this, h2]
    have hstp : ∀ s', wNext (walkS ⟨t, l, []⟩ k) = some s' → walkS ⟨t, l, []⟩ (k + 1) = s' := fun s' h => walkS_step h
    generalize hS : walkS ⟨t, l, []⟩ k = s at *
    have hxl := hI.len
    cases hq : wNext s with
    | none =>
      obtain ⟨w, p, hw, hwn, hx⟩ := wnext_none hI hq
      have hf := hfin s hq rfl
      rw [hf]
      obtain ⟨⟨who, u⟩, x, o⟩ := s
      simp only at hw hx hxl
      subst hw
      all_goals repeat' (first | (refine Zc ?_ ?_ <;> intro h <;> (try simp [go_sem, hx, hxl] at h) <;> try omega) | (refine Zi ?_; try simp only [AThen, ABlock]) | (refine Ze ?_; simp +decide only [AThen, ABlock, reduceIte]) | (refine Zt ?_; (try simp [go_sem, hx, hxl]); all_goals (try simp [loR, lo]); all_goals try exact rfl) | ((first | refine AW.q false fun K hK => ?_ | refine AW.ql false fun K hK => ?_ | refine AW.w [(none, []), (none, [1]), (none, [1]), (some 1, [])] rfl (by decide +kernel) fun K hK => ?_ | refine AW.wl [(none, []), (none, [1]), (none, [1]), (some 1, [])] rfl (by decide +kernel) fun K hK => ?_); repeat' (first | ((first | refine Zs ?_ | refine Zl ?_ | refine Z0 ?_ | refine Zd ?_); intro HK hk; simp [go_sem, hx, hxl]; (repeat refine ⟨by omega, ?_⟩); apply hk; clear hk HK) | ((first | refine Zg ?_ ?_ | refine Zh ?_ ?_ | refine Zp ?_ ?_ | refine Zk ?_ ?_) <;> intro hg <;> simp only [hg] <;> (try simp at hg) <;> try omega)); all_goals try ((first | refine Zn ?_ | refine Zm ?_); apply hK; clear hK K; try simp only [AThen, ABlock])) | refine Zz ?_ | refine Zb ?_)
      all_goals try exact rfl
    | some s' =>
      obtain ⟨w, p, e, r, hw, hwn, hx, hs', ht⟩ := wnext_some hI hq
      have hst := hstp s' hq
      have hI2 := winv_next hI hq
      have hb := hI.bound
      have ho := hI.out
      have hu := hI.used
      obtain ⟨⟨who, u⟩, x, o⟩ := s
      simp only at hw hx hxl hb ho hu hs' ht
      subst hw
      have hwu : IntKind.i64.wrap (u + 1) = u + 1 := wrapI (by omega) (by omega)
      have hww : IntKind.i64.wrap ((w : Int) + 1) = (w : Int) + 1 := wrapI (by omega) (by omega)
      have hkl : k < tot l := by simp only at hj; omega
      have hjn : tot (walkS ⟨t, l, []⟩ (k + 1)).x + (k + 1) = tot l := by rw [hst]; simp only at hj; omega
      have hst2 := hst.trans hs'
      have hrl : r.length ≤ 80 := by have := (hI.ok _ (List.mem_of_getElem? hx)).2; simp at this; omega
      clear hfin hstp hI hI2 hst hs' hq hS hj
      (first | (refine AW.q false fun K hK => ?_) | (refine AW.seq ?_; refine AW.q false fun K hK => ?_) | (refine AW.seq (AW.seq ?_); refine AW.q false fun K hK => ?_) | (refine AW.block ?_; refine AW.q false fun K hK => ?_) | (refine AW.seq (AW.block ?_); refine AW.q false fun K hK => ?_) | (refine AW.ql false fun K hK => ?_)); repeat ((first | refine Zs ?_ | refine Zl ?_ | refine Z0 ?_ | refine Zd ?_); intro HK hk; simp [go_sem, hx, hxl]; (repeat refine ⟨by omega, ?_⟩); apply hk; clear hk HK)
      try ((first | refine Zn ?_ | refine Zm ?_); apply hK; clear hK K; try simp only [AThen, ABlock])
      all_goals repeat' (first | (refine Zc ?_ ?_ <;> intro h <;> (try simp [go_sem, hx, hxl, hwu, hww] at h) <;> try omega) | (refine Zi ?_; try simp only [AThen, ABlock]) | (refine Ze ?_; simp +decide only [AThen, ABlock, reduceIte]) | (refine Zt ?_; (try simp [go_sem, hx, hxl, hwu, hww]); all_goals (try simp [loR, lo]); all_goals try exact rfl) | ((first | refine AW.q false fun K hK => ?_ | refine AW.ql false fun K hK => ?_ | refine AW.w [(none, []), (none, []), (none, []), (none, []), (none, []), (none, []), (none, []), (none, []), (none, []), (none, []), (none, []), (none, []), (none, []), (none, []), (none, []), (none, []), (none, []), (some 2, [])] rfl (by decide +kernel) fun K hK => ?_ | refine AW.wl [(none, []), (none, []), (none, []), (none, []), (none, []), (none, []), (none, []), (none, []), (none, []), (none, []), (none, []), (none, []), (none, []), (none, []), (none, []), (none, []), (none, []), (some 2, [])] rfl (by decide +kernel) fun K hK => ?_); repeat' (first | ((first | refine Zs ?_ | refine Zl ?_ | refine Z0 ?_ | refine Zd ?_); intro HK hk; simp [go_sem, hx, hxl, hwu, hww]; (repeat refine ⟨by omega, ?_⟩); apply hk; clear hk HK) | ((first | refine Zg ?_ ?_ | refine Zh ?_ ?_ | refine Zp ?_ ?_ | refine Zk ?_ ?_) <;> intro hg <;> simp only [hg] <;> (try simp at hg) <;> try omega)); all_goals try ((first | refine Zn ?_ | refine Zm ?_); apply hK; clear hK K; try simp only [AThen, ABlock])) | refine Zz ?_ | refine Zb ?_)
      all_goals try exact rfl
      · have h1 : turnN ⟨(w : Int), u⟩ l.length e = ⟨w, u + 1⟩ := by unfold turnN; rw [if_pos (by assumption)]
        have h2 : outN ⟨(w : Int), u⟩ o e = o ++ [⟨w, e.B⟩] := by unfold outN; rw [if_pos (by assumption)]
        rw [h1, h2] at hst2
        refine ⟨hkl, hjn, ?_⟩
        refine Sub.of 4 (by simp) (by first | (simp [hst2]; done) | (simp [go_sem, hst2]; done)) (by simp [go_sem]) ?_ (by simp [go_sem])
        simp [go_sem, hst2]
      · have h1 : turnN ⟨(w : Int), u⟩ l.length e = ⟨0, 0⟩ := by unfold turnN; rw [if_neg (by assumption), if_pos (by assumption), if_pos (by simp only; omega)]
        have h2 : outN ⟨(w : Int), u⟩ o e = o := by unfold outN; rw [if_neg (by assumption)]
        rw [h1, h2] at hst2
        refine ⟨hkl, hjn, ?_⟩
        refine Sub.of 4 (by simp) (by first | (simp [hst2]; done) | (simp [go_sem, hst2]; done)) (by simp [go_sem]) ?_ (by simp [go_sem])
        simp [go_sem, hst2]
      · have h1 : turnN ⟨(w : Int), u⟩ l.length e = ⟨w + 1, 0⟩ := by unfold turnN; rw [if_neg (by assumption), if_pos (by assumption), if_neg (by simp only; omega)]
        have h2 : outN ⟨(w : Int), u⟩ o e = o := by unfold outN; rw [if_neg (by assumption)]
        rw [h1, h2] at hst2
        refine ⟨hkl, hjn, ?_⟩
        refine Sub.of 4 (by simp) (by first | (simp [hst2]; done) | (simp [go_sem, hst2]; done)) (by simp [go_sem]) ?_ (by simp [go_sem])
        simp [go_sem, hst2]
      · have h1 : turnN ⟨(w : Int), u⟩ l.length e = ⟨w, u⟩ := by unfold turnN; rw [if_neg (by assumption), if_neg (by assumption)]
        have h2 : outN ⟨(w : Int), u⟩ o e = o := by unfold outN; rw [if_neg (by assumption)]
        rw [h1, h2] at hst2
        refine ⟨hkl, hjn, ?_⟩
        refine Sub.of 4 (by simp) (by first | (simp [hst2]; done) | (simp [go_sem, hst2]; done)) (by simp [go_sem]) ?_ (by simp [go_sem])
        simp [go_sem, hst2]
end Go.Proofs.Ytogappokeheilaa
