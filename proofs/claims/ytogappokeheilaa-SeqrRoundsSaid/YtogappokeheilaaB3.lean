import Derived.Test.YtogappokeheilaaB2
set_option linter.unusedVariables false
set_option linter.unusedSimpArgs false
set_option maxRecDepth 100000
namespace Go.Proofs.Ytogappokeheilaa
open Go.Aw

def lowK (l : List Entry) (k : Nat) : Int := match (l.take k).getLast? with
  | some e => e.Seq
  | none => 0
theorem lowK_zero (l : List Entry) : lowK l 0 = 0 := rfl
theorem lowK_succ {l : List Entry} {k : Nat} {x : Entry} (hx : l[k]? = some x) : lowK l (k + 1) = x.Seq := by
  unfold lowK; rw [List.take_add_one, hx]; simp
theorem low_step {l : List Entry} {k : Nat} {x : Entry} (hx : l[k]? = some x) (low : Int) : lowR low (l.drop k) = (mayF x && decide (low < x.Seq) && lowR x.Seq (l.drop (k + 1))) := by
  have hk := (List.getElem?_eq_some_iff.1 hx).1
  have h2 := (List.getElem?_eq_some_iff.1 hx).2
  rw [List.drop_eq_getElem_cons hk, h2]; rfl
theorem may_pos {e : Entry} (h : mayF e = true) : 1 ≤ e.Seq := by
  simp only [mayF, Bool.and_eq_true, decide_eq_true_eq] at h
  exact h.1.1
theorem right_low {l : Lane} {k : Nat} (h : lowR 0 l.L = lowR (lowK l.L k) (l.L.drop k)) (hb : lowR (lowK l.L k) (l.L.drop k) = false) : rightF l = false := by
  unfold rightF; rw [h, hb]; rfl
theorem right_end {l : Lane} (h : lowR 0 l.L = lowR (lowK l.L l.L.length) (l.L.drop l.L.length)) : rightF l = (if l.Part.Got = 0 then decide (l.Part = ⟨0, 0, 0, []⟩) else decide (0 < l.Part.Got ∧ l.Part.Got < l.Part.Total ∧ l.Part.Total ≤ 32 ∧ lowK l.L l.L.length < l.Part.Seq)) := by
  unfold rightF; rw [h, List.drop_length]
  unfold lowK
  rw [List.take_length]; rfl
theorem pc_45 (l : Lane) : PC Try.prog 45 [bL l] (.one (bB (rightF l))) := by
  refine PC.of_ACall (ACall.of_AW (fun args w => Try.call45 args w) Try.func45 rfl (by simp [Try.ntmps45]) ?_)
  simp only [Try.ntmps45, List.length_nil]
  all_goals repeat' (first | (refine Zc ?_ ?_ <;> intro h <;> (try simp [go_sem] at h) <;> try omega) | (refine Zi ?_; try simp only [AThen, ABlock]) | (refine Ze ?_; simp +decide only [AThen, ABlock, reduceIte]) | (refine Zt ?_; (try simp [go_sem]); all_goals (try simp [loR, lo]); all_goals try exact rfl) | ((first | refine Zq ?_ | refine Zr ?_ | refine Zw ?_ | refine Zx ?_); intro K hK; repeat' (first | ((first | refine Zs ?_ | refine Zl ?_ | refine Z0 ?_ | refine Zd ?_); intro HK hk; simp [go_sem]; (repeat refine ⟨by omega, ?_⟩); apply hk; clear hk HK) | ((first | refine Zg ?_ ?_ | refine Zh ?_ ?_ | refine Zp ?_ ?_ | refine Zk ?_ ?_) <;> intro hg <;> simp only [hg] <;> (try simp at hg) <;> try omega)); all_goals try ((first | refine Zn ?_ | refine Zm ?_); apply hK; clear hK K; try simp only [AThen, ABlock])) | refine Zz ?_ | refine Zb ?_)
  all_goals try exact rfl
  refine AW.lenA 0 0 rfl rfl fun hl => ?_; simp only [List.length_map] at hl
  refine AW.upto l.L.length (fun k => lowR 0 l.L = lowR (lowK l.L k) (l.L.drop k)) (fun k => [(10, .c (.p (.int .i64 k))), (9, .c (.p (.int .i64 l.L.length))), (8, .c (.p (.sl false (l.L.map entP)))), (3, .c (.p (.int .i64 (lowK l.L k)))), (1, .c (.ptr 0 0)), (2, .c (.p (.bool false)))]) (fun _ => [.var ((laneP l).map .p)]) rfl ?_ fun k hk hj => ?_
  · refine Sub.of 1 (by simp) (by first | (simp [lowK_zero]; done) | (simp [go_sem, lowK_zero]; done)) (by simp [go_sem]) ?_ (by simp [go_sem])
    simp [go_sem, lowK_zero]
  · all_goals repeat' (first | (refine Zc ?_ ?_ <;> intro h <;> (try simp [go_sem] at h) <;> try omega) | (refine Zi ?_; try simp only [AThen, ABlock]) | (refine Ze ?_; simp +decide only [AThen, ABlock, reduceIte]) | (refine Zt ?_; (try simp [go_sem]); all_goals (try simp [loR, lo]); all_goals try exact rfl) | ((first | refine Zq ?_ | refine Zr ?_ | refine Zw ?_ | refine Zx ?_); intro K hK; repeat' (first | ((first | refine Zs ?_ | refine Zl ?_ | refine Z0 ?_ | refine Zd ?_); intro HK hk; simp [go_sem]; (repeat refine ⟨by omega, ?_⟩); apply hk; clear hk HK) | ((first | refine Zg ?_ ?_ | refine Zh ?_ ?_ | refine Zp ?_ ?_ | refine Zk ?_ ?_) <;> intro hg <;> simp only [hg] <;> (try simp at hg) <;> try omega)); all_goals try ((first | refine Zn ?_ | refine Zm ?_); apply hK; clear hK K; try simp only [AThen, ABlock])) | refine Zz ?_ | refine Zb ?_)
    all_goals try exact rfl
    · have hkl := h
      obtain ⟨x, hx⟩ : ∃ x, l.L[k]? = some x := ⟨_, List.getElem?_eq_getElem hkl⟩
      have hw := wrapS (show (k : Int) < 9223372036854775807 by omega)
      have hst := low_step hx (lowK l.L k)
      have hls := lowK_succ hx
      all_goals (repeat' (first | ((first | refine Zs ?_ | refine Zl ?_ | refine Z0 ?_ | refine Zd ?_); intro HK hk; simp [go_sem, hx]; (repeat refine ⟨by omega, ?_⟩); apply hk; clear hk HK) | ((first | refine Zg ?_ ?_ | refine Zh ?_ ?_ | refine Zp ?_ ?_ | refine Zk ?_ ?_) <;> intro hg <;> simp only [hg] <;> (try simp at hg) <;> try omega)))
      all_goals try ((first | refine Zn ?_ | refine Zm ?_); apply hK; clear hK K; try simp only [AThen, ABlock])
      all_goals repeat' (first | (refine Zc ?_ ?_ <;> intro h <;> (try simp [go_sem, hx] at h) <;> try omega) | (refine Zi ?_; try simp only [AThen, ABlock]) | (refine Ze ?_; simp +decide only [AThen, ABlock, reduceIte]) | (refine Zt ?_; (try simp [go_sem, hx]); all_goals (try simp [loR, lo]); all_goals try exact rfl) | ((first | refine Zq ?_ | refine Zr ?_ | refine Zw ?_ | refine Zx ?_); intro K hK; repeat' (first | ((first | refine Zs ?_ | refine Zl ?_ | refine Z0 ?_ | refine Zd ?_); intro HK hk; simp [go_sem, hx]; (repeat refine ⟨by omega, ?_⟩); apply hk; clear hk HK) | ((first | refine Zg ?_ ?_ | refine Zh ?_ ?_ | refine Zp ?_ ?_ | refine Zk ?_ ?_) <;> intro hg <;> simp only [hg] <;> (try simp at hg) <;> try omega)); all_goals try ((first | refine Zn ?_ | refine Zm ?_); apply hK; clear hK K; try simp only [AThen, ABlock])) | refine Zz ?_ | refine Zb ?_)
      all_goals try exact rfl
      (first | refine Zs ?_ | refine Z0 ?_ | refine Zd ?_); intro HK hk; simp [go_sem]; (repeat refine ⟨by omega, ?_⟩); (first | refine ACall.pur rfl (pc_85 x) ?_ | refine ACallD.mk rfl (pc_85 x) ?_); simp [go_sem]; (repeat refine ⟨by omega, ?_⟩); apply hk; clear hk HK; repeat' (first | ((first | refine Zs ?_ | refine Zl ?_ | refine Z0 ?_ | refine Zd ?_); intro HK hk; simp [go_sem]; (repeat refine ⟨by omega, ?_⟩); apply hk; clear hk HK) | ((first | refine Zg ?_ ?_ | refine Zh ?_ ?_ | refine Zp ?_ ?_ | refine Zk ?_ ?_) <;> intro hg <;> simp only [hg] <;> (try simp at hg) <;> try omega))
      all_goals try ((first | refine Zn ?_ | refine Zm ?_); apply hK; clear hK K; try simp only [AThen, ABlock])
      · all_goals repeat' (first | (refine Zc ?_ ?_ <;> intro h <;> (try simp [go_sem] at h) <;> try omega) | (refine Zi ?_; try simp only [AThen, ABlock]) | (refine Ze ?_; simp +decide only [AThen, ABlock, reduceIte]) | (refine Zt ?_; (try simp [go_sem]); all_goals (try simp [loR, lo]); all_goals try exact rfl) | ((first | refine Zq ?_ | refine Zr ?_ | refine Zw ?_ | refine Zx ?_); intro K hK; repeat' (first | ((first | refine Zs ?_ | refine Zl ?_ | refine Z0 ?_ | refine Zd ?_); intro HK hk; simp [go_sem]; (repeat refine ⟨by omega, ?_⟩); apply hk; clear hk HK) | ((first | refine Zg ?_ ?_ | refine Zh ?_ ?_ | refine Zp ?_ ?_ | refine Zk ?_ ?_) <;> intro hg <;> simp only [hg] <;> (try simp at hg) <;> try omega)); all_goals try ((first | refine Zn ?_ | refine Zm ?_); apply hK; clear hK K; try simp only [AThen, ABlock])) | refine Zz ?_ | refine Zb ?_)
        all_goals try exact rfl
        refine right_low hj ?_; rw [hst]
        have hm : mayF x = false := by assumption
        rw [hm]; rfl
      · all_goals repeat' (first | (refine Zc ?_ ?_ <;> intro h <;> (try simp [go_sem, hx, hw] at h) <;> try omega) | (refine Zi ?_; try simp only [AThen, ABlock]) | (refine Ze ?_; simp +decide only [AThen, ABlock, reduceIte]) | (refine Zt ?_; (try simp [go_sem, hx, hw]); all_goals (try simp [loR, lo]); all_goals try exact rfl) | ((first | refine Zq ?_ | refine Zr ?_ | refine Zw ?_ | refine Zx ?_); intro K hK; repeat' (first | ((first | refine Zs ?_ | refine Zl ?_ | refine Z0 ?_ | refine Zd ?_); intro HK hk; simp [go_sem, hx, hw]; (repeat refine ⟨by omega, ?_⟩); apply hk; clear hk HK) | ((first | refine Zg ?_ ?_ | refine Zh ?_ ?_ | refine Zp ?_ ?_ | refine Zk ?_ ?_) <;> intro hg <;> simp only [hg] <;> (try simp at hg) <;> try omega)); all_goals try ((first | refine Zn ?_ | refine Zm ?_); apply hK; clear hK K; try simp only [AThen, ABlock])) | refine Zz ?_ | refine Zb ?_)
        all_goals try exact rfl
        · refine right_low hj ?_; rw [hst]
          have hd : decide (lowK l.L k < x.Seq) = false := decide_eq_false (by omega)
          rw [hd, Bool.and_false]; rfl
        · refine ⟨hkl, ?_, ?_⟩
          · rw [hj, hst, hls]
            have hd : decide (lowK l.L k < x.Seq) = true := decide_eq_true (by omega)
            have hm : mayF x = true := by assumption
            rw [hd, hm]; rfl
          · refine Sub.of 1 (by simp) (by first | (simp [hls, hw]; done) | (simp [go_sem, hls, hw]; done)) (by simp [go_sem]) ?_ (by simp [go_sem])
            simp [go_sem, hls, hw]
    · obtain rfl : k = l.L.length := by omega
      have hre := right_end hj
      (first | refine Zs ?_ | refine Z0 ?_ | refine Zd ?_); intro HK hk; simp [go_sem]; (repeat refine ⟨by omega, ?_⟩); (first | refine ACall.pur rfl (pc_86 l.Part ⟨0, 0, 0, []⟩) ?_ | refine ACallD.mk rfl (pc_86 l.Part ⟨0, 0, 0, []⟩) ?_); simp [go_sem]; (repeat refine ⟨by omega, ?_⟩); apply hk; clear hk HK; repeat' (first | ((first | refine Zs ?_ | refine Zl ?_ | refine Z0 ?_ | refine Zd ?_); intro HK hk; simp [go_sem]; (repeat refine ⟨by omega, ?_⟩); apply hk; clear hk HK) | ((first | refine Zg ?_ ?_ | refine Zh ?_ ?_ | refine Zp ?_ ?_ | refine Zk ?_ ?_) <;> intro hg <;> simp only [hg] <;> (try simp at hg) <;> try omega))
      all_goals try ((first | refine Zn ?_ | refine Zm ?_); apply hK; clear hK K; try simp only [AThen, ABlock])
      all_goals repeat' (first | (refine Zc ?_ ?_ <;> intro h <;> (try simp [go_sem] at h) <;> try omega) | (refine Zi ?_; try simp only [AThen, ABlock]) | (refine Ze ?_; simp +decide only [AThen, ABlock, reduceIte]) | (refine Zt ?_; (try simp [go_sem]); all_goals (try simp [loR, lo]); all_goals try exact rfl) | ((first | refine Zq ?_ | refine Zr ?_ | refine Zw ?_ | refine Zx ?_); intro K hK; repeat' (first | ((first | refine Zs ?_ | refine Zl ?_ | refine Z0 ?_ | refine Zd ?_); intro HK hk; simp [go_sem]; (repeat refine ⟨by omega, ?_⟩); apply hk; clear hk HK) | ((first | refine Zg ?_ ?_ | refine Zh ?_ ?_ | refine Zp ?_ ?_ | refine Zk ?_ ?_) <;> intro hg <;> simp only [hg] <;> (try simp at hg) <;> try omega)); all_goals try ((first | refine Zn ?_ | refine Zm ?_); apply hK; clear hK K; try simp only [AThen, ABlock])) | refine Zz ?_ | refine Zb ?_)
      all_goals try exact rfl
      rw [hre, if_pos (by assumption)]
    all_goals
      obtain rfl : k = l.L.length := by omega
      rw [right_end hj, if_neg (by omega)]
      first | (rw [decide_eq_false (by omega)]; done) | (congr 1; apply propext; omega)
theorem pc_44 (l : Lane) : PC Try.prog 44 [bL l] (.one (bB (rightF l))) := by
  refine PC.of_ACall (ACall.of_AW (fun args w => Try.call44 args w) Try.func44 rfl (by simp [Try.ntmps44]) ?_)
  simp only [Try.ntmps44, List.length_nil]
  all_goals repeat' (first | (refine Zc ?_ ?_ <;> intro h <;> (try simp [go_sem] at h) <;> try omega) | (refine Zi ?_; try simp only [AThen, ABlock]) | (refine Ze ?_; simp +decide only [AThen, ABlock, reduceIte]) | (refine Zt ?_; (try simp [go_sem]); all_goals (try simp [loR, lo]); all_goals try exact rfl) | ((first | refine Zq ?_ | refine Zr ?_ | refine Zw ?_ | refine Zx ?_); intro K hK; repeat' (first | ((first | refine Zs ?_ | refine Zl ?_ | refine Z0 ?_ | refine Zd ?_); intro HK hk; simp [go_sem]; (repeat refine ⟨by omega, ?_⟩); apply hk; clear hk HK) | ((first | refine Zg ?_ ?_ | refine Zh ?_ ?_ | refine Zp ?_ ?_ | refine Zk ?_ ?_) <;> intro hg <;> simp only [hg] <;> (try simp at hg) <;> try omega)); all_goals try ((first | refine Zn ?_ | refine Zm ?_); apply hK; clear hK K; try simp only [AThen, ABlock])) | refine Zz ?_ | refine Zb ?_)
  all_goals try exact rfl
  refine AW.lenA 0 0 rfl rfl fun hl => ?_; simp only [List.length_map] at hl
  refine AW.upto l.L.length (fun k => lowR 0 l.L = lowR (lowK l.L k) (l.L.drop k) ∧ 0 ≤ lowK l.L k) (fun k => [(4, .c (.p (.int .i64 k))), (3, .c (.p (.int .i64 (lowK l.L k)))), (1, .c (.ptr 0 0)), (2, .c (.p (.bool false)))]) (fun _ => [.var ((laneP l).map .p)]) ⟨rfl, by rw [lowK_zero]; omega⟩ ?_ fun k hk hj => ?_
  · refine Sub.of 1 (by simp) (by first | (simp [lowK_zero]; done) | (simp [go_sem, lowK_zero]; done)) (by simp [go_sem]) ?_ (by simp [go_sem])
    simp [go_sem, lowK_zero]
  · obtain ⟨hj, hj0⟩ := hj
    all_goals repeat' (first | (refine Zc ?_ ?_ <;> intro h <;> (try simp [go_sem] at h) <;> try omega) | (refine Zi ?_; try simp only [AThen, ABlock]) | (refine Ze ?_; simp +decide only [AThen, ABlock, reduceIte]) | (refine Zt ?_; (try simp [go_sem]); all_goals (try simp [loR, lo]); all_goals try exact rfl) | ((first | refine Zq ?_ | refine Zr ?_ | refine Zw ?_ | refine Zx ?_); intro K hK; repeat' (first | ((first | refine Zs ?_ | refine Zl ?_ | refine Z0 ?_ | refine Zd ?_); intro HK hk; simp [go_sem]; (repeat refine ⟨by omega, ?_⟩); apply hk; clear hk HK) | ((first | refine Zg ?_ ?_ | refine Zh ?_ ?_ | refine Zp ?_ ?_ | refine Zk ?_ ?_) <;> intro hg <;> simp only [hg] <;> (try simp at hg) <;> try omega)); all_goals try ((first | refine Zn ?_ | refine Zm ?_); apply hK; clear hK K; try simp only [AThen, ABlock])) | refine Zz ?_ | refine Zb ?_)
    all_goals try exact rfl
    · have hkl := h
      obtain ⟨x, hx⟩ : ∃ x, l.L[k]? = some x := ⟨_, List.getElem?_eq_getElem hkl⟩
      have hw := wrapS (show (k : Int) < 9223372036854775807 by omega)
      have hst := low_step hx (lowK l.L k)
      have hls := lowK_succ hx
      all_goals (repeat' (first | ((first | refine Zs ?_ | refine Zl ?_ | refine Z0 ?_ | refine Zd ?_); intro HK hk; simp [go_sem, hx]; (repeat refine ⟨by omega, ?_⟩); apply hk; clear hk HK) | ((first | refine Zg ?_ ?_ | refine Zh ?_ ?_ | refine Zp ?_ ?_ | refine Zk ?_ ?_) <;> intro hg <;> simp only [hg] <;> (try simp at hg) <;> try omega)))
      all_goals try ((first | refine Zn ?_ | refine Zm ?_); apply hK; clear hK K; try simp only [AThen, ABlock])
      all_goals repeat' (first | (refine Zc ?_ ?_ <;> intro h <;> (try simp [go_sem, hx] at h) <;> try omega) | (refine Zi ?_; try simp only [AThen, ABlock]) | (refine Ze ?_; simp +decide only [AThen, ABlock, reduceIte]) | (refine Zt ?_; (try simp [go_sem, hx]); all_goals (try simp [loR, lo]); all_goals try exact rfl) | ((first | refine Zq ?_ | refine Zr ?_ | refine Zw ?_ | refine Zx ?_); intro K hK; repeat' (first | ((first | refine Zs ?_ | refine Zl ?_ | refine Z0 ?_ | refine Zd ?_); intro HK hk; simp [go_sem, hx]; (repeat refine ⟨by omega, ?_⟩); apply hk; clear hk HK) | ((first | refine Zg ?_ ?_ | refine Zh ?_ ?_ | refine Zp ?_ ?_ | refine Zk ?_ ?_) <;> intro hg <;> simp only [hg] <;> (try simp at hg) <;> try omega)); all_goals try ((first | refine Zn ?_ | refine Zm ?_); apply hK; clear hK K; try simp only [AThen, ABlock])) | refine Zz ?_ | refine Zb ?_)
      all_goals try exact rfl
      (first | refine Zs ?_ | refine Z0 ?_ | refine Zd ?_); intro HK hk; simp [go_sem]; (repeat refine ⟨by omega, ?_⟩); (first | refine ACall.pur rfl (pc_84 x) ?_ | refine ACallD.mk rfl (pc_84 x) ?_); simp [go_sem]; (repeat refine ⟨by omega, ?_⟩); apply hk; clear hk HK; repeat' (first | ((first | refine Zs ?_ | refine Zl ?_ | refine Z0 ?_ | refine Zd ?_); intro HK hk; simp [go_sem]; (repeat refine ⟨by omega, ?_⟩); apply hk; clear hk HK) | ((first | refine Zg ?_ ?_ | refine Zh ?_ ?_ | refine Zp ?_ ?_ | refine Zk ?_ ?_) <;> intro hg <;> simp only [hg] <;> (try simp at hg) <;> try omega))
      all_goals try ((first | refine Zn ?_ | refine Zm ?_); apply hK; clear hK K; try simp only [AThen, ABlock])
      all_goals repeat' (first | (refine Zc ?_ ?_ <;> intro h <;> (try simp [go_sem, hx, hw] at h) <;> try omega) | (refine Zi ?_; try simp only [AThen, ABlock]) | (refine Ze ?_; simp +decide only [AThen, ABlock, reduceIte]) | (refine Zt ?_; (try simp [go_sem, hx, hw]); all_goals (try simp [loR, lo]); all_goals try exact rfl) | ((first | refine Zq ?_ | refine Zr ?_ | refine Zw ?_ | refine Zx ?_); intro K hK; repeat' (first | ((first | refine Zs ?_ | refine Zl ?_ | refine Z0 ?_ | refine Zd ?_); intro HK hk; simp [go_sem, hx, hw]; (repeat refine ⟨by omega, ?_⟩); apply hk; clear hk HK) | ((first | refine Zg ?_ ?_ | refine Zh ?_ ?_ | refine Zp ?_ ?_ | refine Zk ?_ ?_) <;> intro hg <;> simp only [hg] <;> (try simp at hg) <;> try omega)); all_goals try ((first | refine Zn ?_ | refine Zm ?_); apply hK; clear hK K; try simp only [AThen, ABlock])) | refine Zz ?_ | refine Zb ?_)
      all_goals try exact rfl
      · refine right_low hj ?_; rw [hst]
        have hm : mayF x = false := by assumption
        rw [hm]; rfl
      · refine right_low hj ?_; rw [hst]
        have hd : decide (lowK l.L k < x.Seq) = false := decide_eq_false (by omega)
        rw [hd, Bool.and_false]; rfl
      · have hm : mayF x = true := by assumption
        have hp := may_pos hm
        refine ⟨hkl, ⟨?_, by omega⟩, ?_⟩
        · rw [hj, hst, hls]
          have hd : decide (lowK l.L k < x.Seq) = true := decide_eq_true (by omega)
          rw [hd, hm]; rfl
        · refine Sub.of 1 (by simp) (by first | (simp [hls, hw]; done) | (simp [go_sem, hls, hw]; done)) (by simp [go_sem]) ?_ (by simp [go_sem])
          simp [go_sem, hls, hw]
    all_goals
      obtain rfl : k = l.L.length := by omega
      rw [right_end hj]
      first
      | (rw [if_neg (by omega)]; first | (rw [decide_eq_false (by omega)]; done) | (congr 1; apply propext; omega))
      | (rw [if_pos (by omega)]
         generalize l.Part = q at *
         cases q
         simp_all [len_zero]
         all_goals first | (cases ‹List UInt8› <;> rfl) | skip)
end Go.Proofs.Ytogappokeheilaa
