import Derived.Test.YtogappokeheilaaB41
set_option linter.unusedVariables false
set_option linter.unusedSimpArgs false
set_option maxRecDepth 100000
set_option maxHeartbeats 0
namespace Go.Proofs.Ytogappokeheilaa
open Go.Aw

/-! The sequencer's order, said of lanes that are still ours to write. -/
abbrev fullP (x : Lane) : List PV := [.sl true (x.L.map entP), .int .i64 x.Part.Seq, .int .i64 x.Part.Total, .int .i64 x.Part.Got, .sl true (x.Part.B.map encB)]
abbrev zeroIC : List Cell := [.p (.int .i64 0), .p (.int .i64 0), .p (.int .i64 0), .p (.int .i64 0), .p (.int .i64 0), .p (.int .i64 0), .p (.sl true []), .p (.sl true [])]
abbrev saysH (l : List Lane) (t : Turn) (c : Entry) : List AObj := [.arr 47 5 0 (l.map fullP), .var ((turnP t).map .p), .var zeroIC, .var [.p (.int .i64 c.Kind), .p (.int .i64 c.Seq), .p (bsP c.B), .p (isP c.L), .p (.bool c.Hand)]]
theorem ac_82 (l : List Lane) (t : Turn) (c : Entry) (me : Nat) (hme : me < l.length) (hl : l.length ≤ 64) (hok : ∀ x ∈ l, x.L.length ≤ 80) (K : AV → List AObj → Prop)
    (h1 : K (.c (.own 4 (waitL l me l.length).length)) (saysH l t c ++ [.arr 3 1 0 ((waitL l me l.length).map encI)])) :
    ACall Try.prog 82 [.c (.own 0 l.length), .c (.p (.int .i64 me))] (saysH l t c) K := by
  refine ACall.of_AW (fun args w => Try.call82 args w) Try.func82 rfl (by simp [Try.ntmps82]) ?_
  simp only [Try.ntmps82, List.length_append, List.length_cons, List.length_nil, List.cons_append, List.nil_append, List.map_cons, List.map_nil, Nat.zero_add, Nat.reduceAdd, capAV]
  all_goals repeat' (first | (refine Zc ?_ ?_ <;> intro h <;> (try simp [go_sem] at h) <;> try omega) | (refine Zi ?_; try simp only [AThen, ABlock]) | (refine Ze ?_; simp +decide only [AThen, ABlock, reduceIte]) | (refine Zt ?_; (try simp [go_sem]); all_goals (try simp [loR, lo]); all_goals try exact rfl) | ((first | refine Zq ?_ | refine Zr ?_ | refine Zw ?_ | refine Zx ?_); intro K hK; repeat' (first | ((first | refine Zs ?_ | refine Zl ?_ | refine Z0 ?_ | refine Zd ?_); intro HK hk; simp [go_sem]; (repeat refine ⟨by omega, ?_⟩); apply hk; clear hk HK) | ((first | refine Zg ?_ ?_ | refine Zh ?_ ?_ | refine Zp ?_ ?_ | refine Zk ?_ ?_) <;> intro hg <;> simp only [hg] <;> (try simp at hg) <;> try omega)); all_goals try ((first | refine Zn ?_ | refine Zm ?_); apply hK; clear hK K; try simp only [AThen, ABlock])) | refine Zz ?_ | refine Zb ?_)
  all_goals try exact rfl
  refine AW.weak (Sub.promote 5 3 1 (by decide) rfl) ?_
  refine AW.upto l.length (fun _ => True) (fun k => [(10, .c (.p (.int .i64 k))), (9, .c (.p (.int .i64 l.length))), (5, .c (.own 4 (waitL l me k).length)), (0, .c (.own 0 l.length)), (1, .c (.p (.int .i64 me)))]) (fun k => saysH l t c ++ [.arr 3 1 0 ((waitL l me k).map encI)]) trivial ?_ fun k hk _ => ?_
  · refine Sub.of 5 (by simp) (by first | (simp [waitL]; done) | (simp [go_sem, waitL]; done)) (by simp [go_sem]) ?_ (by simp [go_sem])
    simp [go_sem, waitL]
  · have hwl := waitL_len hok me (by omega) k
    have hwk := wrapS (show (k : Int) < 9223372036854775807 by omega)
    (first | (refine AW.q false fun K hK => ?_) | (refine AW.seq ?_; refine AW.q false fun K hK => ?_) | (refine AW.seq (AW.seq ?_); refine AW.q false fun K hK => ?_) | (refine AW.block ?_; refine AW.q false fun K hK => ?_) | (refine AW.seq (AW.block ?_); refine AW.q false fun K hK => ?_) | (refine AW.ql false fun K hK => ?_)); repeat ((first | refine Zs ?_ | refine Zl ?_ | refine Z0 ?_ | refine Zd ?_); intro HK hk; simp [go_sem]; (repeat refine ⟨by omega, ?_⟩); apply hk; clear hk HK)
    try ((first | refine Zn ?_ | refine Zm ?_); apply hK; clear hK K; try simp only [AThen, ABlock])
    refine AW.seq ?_
    refine AW.cond rfl (fun h => ?_) (fun h => ?_) <;> simp [go_sem] at h
    · refine AW.skip ?_; simp only [AThen, ABlock]
      have hkl := h
      have hlt := Nat.mod_lt (me + k) (show 0 < l.length by omega)
      have hwm : IntKind.i64.wrap ((me : Int) + (k : Int)) = (me : Int) + (k : Int) := wrapI (by omega) (by omega)
      obtain ⟨i, hi⟩ : ∃ i, i = (me + k) % l.length := ⟨_, rfl⟩
      have hmd : ((me : Int) + (k : Int)).tmod (l.length : Int) = (i : Int) := by rw [Int.tmod_eq_emod_of_nonneg (by omega), hi, Int.natCast_emod, Int.natCast_add]
      rw [← hi] at hlt
      obtain ⟨ln, hx⟩ : ∃ ln, l[i]? = some ln := ⟨_, List.getElem?_eq_getElem hlt⟩
      have hgd : l.getD i zeroL = ln := by rw [List.getD_eq_getElem?_getD, hx]; rfl
      have hml := many_le ln.L
      have hll := hok ln (List.mem_of_getElem? hx)
      have hst : waitL l me (k + 1) = waitL l me k ++ List.replicate (manyL ln.L) (i : Int) := by rw [waitL, ← hi, hgd]
      have hne : ¬ l = [] := fun hh => by rw [hh] at hme; simp at hme
      all_goals repeat' (first | (refine Zc ?_ ?_ <;> intro h <;> (try simp [go_sem, hwm, hmd, hx, hne] at h) <;> try omega) | (refine Zi ?_; try simp only [AThen, ABlock]) | (refine Ze ?_; simp +decide only [AThen, ABlock, reduceIte]) | (refine Zt ?_; (try simp [go_sem, hwm, hmd, hx, hne]); all_goals (try simp [loR, lo]); all_goals try exact rfl) | ((first | refine Zq ?_ | refine Zr ?_ | refine Zw ?_ | refine Zx ?_); intro K hK; repeat' (first | ((first | refine Zs ?_ | refine Zl ?_ | refine Z0 ?_ | refine Zd ?_); intro HK hk; simp [go_sem, hwm, hmd, hx, hne]; (repeat refine ⟨by omega, ?_⟩); apply hk; clear hk HK) | ((first | refine Zg ?_ ?_ | refine Zh ?_ ?_ | refine Zp ?_ ?_ | refine Zk ?_ ?_) <;> intro hg <;> simp only [hg] <;> (try simp at hg) <;> try omega)); all_goals try ((first | refine Zn ?_ | refine Zm ?_); apply hK; clear hK K; try simp only [AThen, ABlock])) | refine Zz ?_ | refine Zb ?_)
      all_goals try exact rfl
      (first | refine Zs ?_ | refine Z0 ?_ | refine Zd ?_); intro HK hk; simp [go_sem]; (repeat refine ⟨by omega, ?_⟩); (first | refine ACall.pur rfl (pc_55 ln) ?_ | refine ACallD.mk rfl (pc_55 ln) ?_); simp [go_sem]; (repeat refine ⟨by omega, ?_⟩); apply hk; clear hk HK; repeat' (first | ((first | refine Zs ?_ | refine Zl ?_ | refine Z0 ?_ | refine Zd ?_); intro HK hk; simp [go_sem]; (repeat refine ⟨by omega, ?_⟩); apply hk; clear hk HK) | ((first | refine Zg ?_ ?_ | refine Zh ?_ ?_ | refine Zp ?_ ?_ | refine Zk ?_ ?_) <;> intro hg <;> simp only [hg] <;> (try simp at hg) <;> try omega))
      all_goals try ((first | refine Zn ?_ | refine Zm ?_); apply hK; clear hK K; try simp only [AThen, ABlock])
      all_goals repeat' (first | (refine Zc ?_ ?_ <;> intro h <;> (try simp [go_sem] at h) <;> try omega) | (refine Zi ?_; try simp only [AThen, ABlock]) | (refine Ze ?_; simp +decide only [AThen, ABlock, reduceIte]) | (refine Zt ?_; (try simp [go_sem]); all_goals (try simp [loR, lo]); all_goals try exact rfl) | ((first | refine Zq ?_ | refine Zr ?_ | refine Zw ?_ | refine Zx ?_); intro K hK; repeat' (first | ((first | refine Zs ?_ | refine Zl ?_ | refine Z0 ?_ | refine Zd ?_); intro HK hk; simp [go_sem]; (repeat refine ⟨by omega, ?_⟩); apply hk; clear hk HK) | ((first | refine Zg ?_ ?_ | refine Zh ?_ ?_ | refine Zp ?_ ?_ | refine Zk ?_ ?_) <;> intro hg <;> simp only [hg] <;> (try simp at hg) <;> try omega)); all_goals try ((first | refine Zn ?_ | refine Zm ?_); apply hK; clear hK K; try simp only [AThen, ABlock])) | refine Zz ?_ | refine Zb ?_)
      all_goals try exact rfl
      refine AW.upto (manyL ln.L) (fun _ => True) (fun j => [(24, .c (.p (.int .i64 j))), (23, .c (.p (.int .i64 (manyL ln.L)))), (7, .c (.p (.int .i64 i))), (10, .c (.p (.int .i64 k))), (9, .c (.p (.int .i64 l.length))), (5, .c (.own 4 ((waitL l me k).length + j))), (0, .c (.own 0 l.length)), (1, .c (.p (.int .i64 me)))]) (fun j => saysH l t c ++ [.arr 3 1 0 ((waitL l me k ++ List.replicate j (i : Int)).map encI)]) trivial ?_ fun j hj _ => ?_
      · refine Sub.of 5 (by simp) (by first | (simp; done) | (simp [go_sem]; done)) (by simp [go_sem]) ?_ (by simp [go_sem])
        simp [go_sem]
      · have hwj := wrapS (show (j : Int) < 9223372036854775807 by omega)
        have hrs : List.map encI (waitL l me k) ++ (List.replicate j [PV.int .i64 (i : Int)] ++ [[PV.int .i64 (i : Int)]]) = List.map encI (waitL l me k) ++ List.replicate (j + 1) [PV.int .i64 (i : Int)] := by rw [List.replicate_succ']
        all_goals repeat' (first | (refine Zc ?_ ?_ <;> intro h <;> (try simp [go_sem] at h) <;> try omega) | (refine Zi ?_; try simp only [AThen, ABlock]) | (refine Ze ?_; simp +decide only [AThen, ABlock, reduceIte]) | (refine Zt ?_; (try simp [go_sem]); all_goals (try simp [loR, lo]); all_goals try exact rfl) | ((first | refine Zq ?_ | refine Zr ?_ | refine Zw ?_ | refine Zx ?_); intro K hK; repeat' (first | ((first | refine Zs ?_ | refine Zl ?_ | refine Z0 ?_ | refine Zd ?_); intro HK hk; simp [go_sem]; (repeat refine ⟨by omega, ?_⟩); apply hk; clear hk HK) | ((first | refine Zg ?_ ?_ | refine Zh ?_ ?_ | refine Zp ?_ ?_ | refine Zk ?_ ?_) <;> intro hg <;> simp only [hg] <;> (try simp at hg) <;> try omega)); all_goals try ((first | refine Zn ?_ | refine Zm ?_); apply hK; clear hK K; try simp only [AThen, ABlock])) | refine Zz ?_ | refine Zb ?_)
        all_goals try exact rfl
        · have hjl := h
          all_goals repeat' (first | (refine Zc ?_ ?_ <;> intro h <;> (try simp [go_sem, hwj] at h) <;> try omega) | (refine Zi ?_; try simp only [AThen, ABlock]) | (refine Ze ?_; simp +decide only [AThen, ABlock, reduceIte]) | (refine Zt ?_; (try simp [go_sem, hwj]); all_goals (try simp [loR, lo]); all_goals try exact rfl) | ((first | refine Zq ?_ | refine Zr ?_ | refine Zw ?_ | refine Zx ?_); intro K hK; repeat' (first | ((first | refine Zs ?_ | refine Zl ?_ | refine Z0 ?_ | refine Zd ?_); intro HK hk; simp [go_sem, hwj]; (repeat refine ⟨by omega, ?_⟩); apply hk; clear hk HK) | ((first | refine Zg ?_ ?_ | refine Zh ?_ ?_ | refine Zp ?_ ?_ | refine Zk ?_ ?_) <;> intro hg <;> simp only [hg] <;> (try simp at hg) <;> try omega)); all_goals try ((first | refine Zn ?_ | refine Zm ?_); apply hK; clear hK K; try simp only [AThen, ABlock])) | refine Zz ?_ | refine Zb ?_)
          all_goals try exact rfl
          refine ⟨hjl, trivial, ?_⟩
          refine Sub.of 5 (by simp) (by first | (simp [hrs, hwj, Nat.add_assoc]; done) | (simp [go_sem, hrs, hwj, Nat.add_assoc]; done)) (by simp [go_sem]) ?_ (by simp [go_sem])
          simp [go_sem, hrs, hwj, Nat.add_assoc]
        · obtain rfl : j = manyL ln.L := by omega
          all_goals repeat' (first | (refine Zc ?_ ?_ <;> intro h <;> (try simp [go_sem, hwk] at h) <;> try omega) | (refine Zi ?_; try simp only [AThen, ABlock]) | (refine Ze ?_; simp +decide only [AThen, ABlock, reduceIte]) | (refine Zt ?_; (try simp [go_sem, hwk]); all_goals (try simp [loR, lo]); all_goals try exact rfl) | ((first | refine Zq ?_ | refine Zr ?_ | refine Zw ?_ | refine Zx ?_); intro K hK; repeat' (first | ((first | refine Zs ?_ | refine Zl ?_ | refine Z0 ?_ | refine Zd ?_); intro HK hk; simp [go_sem, hwk]; (repeat refine ⟨by omega, ?_⟩); apply hk; clear hk HK) | ((first | refine Zg ?_ ?_ | refine Zh ?_ ?_ | refine Zp ?_ ?_ | refine Zk ?_ ?_) <;> intro hg <;> simp only [hg] <;> (try simp at hg) <;> try omega)); all_goals try ((first | refine Zn ?_ | refine Zm ?_); apply hK; clear hK K; try simp only [AThen, ABlock])) | refine Zz ?_ | refine Zb ?_)
          all_goals try exact rfl
          refine ⟨hkl, trivial, ?_⟩
          refine Sub.of 5 (by simp) (by first | (simp [hst, hwk]; done) | (simp [go_sem, hst, hwk]; done)) (by simp [go_sem]) ?_ (by simp [go_sem])
          simp [go_sem, hst, hwk]
    · obtain rfl : k = l.length := by omega
      refine AW.exit ?_; simp +decide only [AThen, ABlock, reduceIte]
      all_goals repeat' (first | (refine Zc ?_ ?_ <;> intro h <;> (try simp [go_sem] at h) <;> try omega) | (refine Zi ?_; try simp only [AThen, ABlock]) | (refine Ze ?_; simp +decide only [AThen, ABlock, reduceIte]) | (refine Zt ?_; (try simp [go_sem]); all_goals (try simp [loR, lo]); all_goals try exact rfl) | ((first | refine Zq ?_ | refine Zr ?_ | refine Zw ?_ | refine Zx ?_); intro K hK; repeat' (first | ((first | refine Zs ?_ | refine Zl ?_ | refine Z0 ?_ | refine Zd ?_); intro HK hk; simp [go_sem]; (repeat refine ⟨by omega, ?_⟩); apply hk; clear hk HK) | ((first | refine Zg ?_ ?_ | refine Zh ?_ ?_ | refine Zp ?_ ?_ | refine Zk ?_ ?_) <;> intro hg <;> simp only [hg] <;> (try simp at hg) <;> try omega)); all_goals try ((first | refine Zn ?_ | refine Zm ?_); apply hK; clear hK K; try simp only [AThen, ABlock])) | refine Zz ?_ | refine Zb ?_)
      all_goals try exact rfl
      exact h1
end Go.Proofs.Ytogappokeheilaa
