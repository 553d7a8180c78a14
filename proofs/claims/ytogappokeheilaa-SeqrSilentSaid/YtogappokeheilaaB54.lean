import Derived.Test.YtogappokeheilaaB51
set_option linter.unusedVariables false
set_option linter.unusedSimpArgs false
set_option maxRecDepth 100000
set_option maxHeartbeats 0
namespace Go.Proofs.Ytogappokeheilaa
open Go.Aw

theorem pc_10 (t : Turn) (l : List Lane) (qu : UInt8) : PC Try.prog 10 [bTu t, bLs l, (false, [.int .u8 qu.toNat])] (.one (bB true)) := by
  have hwq : IntKind.i64.wrap (qu.toNat : Int) = (qu.toNat : Int) := wrapI (by omega) (by have := qu.toNat_lt; omega)
  obtain ⟨q, hq, hq63⟩ : ∃ q : Nat, (qu.toNat : Int).tmod 64 = (q : Int) ∧ q ≤ 63 := ⟨qu.toNat % 64, by rw [Int.tmod_eq_emod_of_nonneg (by omega)]; omega, by omega⟩
  have hw1 : IntKind.i64.wrap (1 + (q : Int)) = 1 + (q : Int) := wrapI (by omega) (by omega)
  refine PC.of_ACall (ACall.of_AW (fun args w => Try.call10 args w) Try.func10 rfl (by simp [Try.ntmps10]) ?_)
  simp only [Try.ntmps10, List.length_nil]
  all_goals repeat' (first | (refine Zc ?_ ?_ <;> intro h <;> (try simp [go_sem] at h) <;> try omega) | (refine Zi ?_; try simp only [AThen, ABlock]) | (refine Ze ?_; simp +decide only [AThen, ABlock, reduceIte]) | (refine Zt ?_; (try simp [go_sem]); all_goals (try simp [loR, lo]); all_goals try exact rfl) | ((first | refine Zq ?_ | refine Zr ?_ | refine Zw ?_ | refine Zx ?_); intro K hK; repeat' (first | ((first | refine Zs ?_ | refine Zl ?_ | refine Z0 ?_ | refine Zd ?_); intro HK hk; simp [go_sem]; (repeat refine ⟨by omega, ?_⟩); apply hk; clear hk HK) | ((first | refine Zg ?_ ?_ | refine Zh ?_ ?_ | refine Zp ?_ ?_ | refine Zk ?_ ?_) <;> intro hg <;> simp only [hg] <;> (try simp at hg) <;> try omega)); all_goals try ((first | refine Zn ?_ | refine Zm ?_); apply hK; clear hK K; try simp only [AThen, ABlock])) | refine Zz ?_ | refine Zb ?_)
  all_goals try exact rfl
  (first | refine Zs ?_ | refine Z0 ?_ | refine Zd ?_); intro HK hk; simp [go_sem]; (repeat refine ⟨by omega, ?_⟩); (first | refine ACall.pur rfl (pc_33) ?_ | refine ACallD.mk rfl (pc_33) ?_); simp [go_sem]; (repeat refine ⟨by omega, ?_⟩); apply hk; clear hk HK; repeat' (first | ((first | refine Zs ?_ | refine Zl ?_ | refine Z0 ?_ | refine Zd ?_); intro HK hk; simp [go_sem]; (repeat refine ⟨by omega, ?_⟩); apply hk; clear hk HK) | ((first | refine Zg ?_ ?_ | refine Zh ?_ ?_ | refine Zp ?_ ?_ | refine Zk ?_ ?_) <;> intro hg <;> simp only [hg] <;> (try simp at hg) <;> try omega))
  all_goals try ((first | refine Zn ?_ | refine Zm ?_); apply hK; clear hK K; try simp only [AThen, ABlock])
  all_goals repeat' (first | (refine Zc ?_ ?_ <;> intro h <;> (try simp [go_sem] at h) <;> try omega) | (refine Zi ?_; try simp only [AThen, ABlock]) | (refine Ze ?_; simp +decide only [AThen, ABlock, reduceIte]) | (refine Zt ?_; (try simp [go_sem]); all_goals (try simp [loR, lo]); all_goals try exact rfl) | ((first | refine Zq ?_ | refine Zr ?_ | refine Zw ?_ | refine Zx ?_); intro K hK; repeat' (first | ((first | refine Zs ?_ | refine Zl ?_ | refine Z0 ?_ | refine Zd ?_); intro HK hk; simp [go_sem]; (repeat refine ⟨by omega, ?_⟩); apply hk; clear hk HK) | ((first | refine Zg ?_ ?_ | refine Zh ?_ ?_ | refine Zp ?_ ?_ | refine Zk ?_ ?_) <;> intro hg <;> simp only [hg] <;> (try simp at hg) <;> try omega)); all_goals try ((first | refine Zn ?_ | refine Zm ?_); apply hK; clear hK K; try simp only [AThen, ABlock])) | refine Zz ?_ | refine Zb ?_)
  all_goals try exact rfl
  (first | refine Zs ?_ | refine Z0 ?_ | refine Zd ?_); intro HK hk; simp [go_sem]; (repeat refine ⟨by omega, ?_⟩); (first | refine ACall.pur rfl (pc_22 t l) ?_ | refine ACallD.mk rfl (pc_22 t l) ?_); simp [go_sem]; (repeat refine ⟨by omega, ?_⟩); apply hk; clear hk HK; repeat' (first | ((first | refine Zs ?_ | refine Zl ?_ | refine Z0 ?_ | refine Zd ?_); intro HK hk; simp [go_sem]; (repeat refine ⟨by omega, ?_⟩); apply hk; clear hk HK) | ((first | refine Zg ?_ ?_ | refine Zh ?_ ?_ | refine Zp ?_ ?_ | refine Zk ?_ ?_) <;> intro hg <;> simp only [hg] <;> (try simp at hg) <;> try omega))
  all_goals try ((first | refine Zn ?_ | refine Zm ?_); apply hK; clear hK K; try simp only [AThen, ABlock])
  cases hm : mayT t l with
  | false =>
    all_goals repeat' (first | (refine Zc ?_ ?_ <;> intro h <;> (try simp [go_sem, hm] at h) <;> try omega) | (refine Zi ?_; try simp only [AThen, ABlock]) | (refine Ze ?_; simp +decide only [AThen, ABlock, reduceIte]) | (refine Zt ?_; (try simp [go_sem, hm]); all_goals (try simp [loR, lo]); all_goals try exact rfl) | ((first | refine Zq ?_ | refine Zr ?_ | refine Zw ?_ | refine Zx ?_); intro K hK; repeat' (first | ((first | refine Zs ?_ | refine Zl ?_ | refine Z0 ?_ | refine Zd ?_); intro HK hk; simp [go_sem, hm]; (repeat refine ⟨by omega, ?_⟩); apply hk; clear hk HK) | ((first | refine Zg ?_ ?_ | refine Zh ?_ ?_ | refine Zp ?_ ?_ | refine Zk ?_ ?_) <;> intro hg <;> simp only [hg] <;> (try simp at hg) <;> try omega)); all_goals try ((first | refine Zn ?_ | refine Zm ?_); apply hK; clear hK K; try simp only [AThen, ABlock])) | refine Zz ?_ | refine Zb ?_)
    all_goals try exact rfl
  | true =>
    obtain ⟨hi0, hn2, hn64⟩ := winv_start hm
    have hok : ∀ x ∈ l, x.L.length ≤ 80 := fun x hx => (hi0.ok x hx).2
    have hwb := wN_le hok
    have hu0 := hi0.used
    have hub := hi0.bound
    obtain ⟨w, hw⟩ : ∃ w : Nat, t.Who = w := ⟨t.Who.toNat, by have := hi0.lo; simp only at this; omega⟩
    have hwn : w < l.length := by have := hi0.hi; simp only at this; omega
    obtain ⟨lw, hxw⟩ : ∃ lw, l[w]? = some lw := ⟨_, List.getElem?_eq_getElem hwn⟩
    obtain ⟨who, u⟩ := t
    simp only at hw hu0 hub
    subst hw
    clear hi0
    obtain ⟨C, hC⟩ : ∃ C, C = lw.L.any isCtl := ⟨_, rfl⟩
    all_goals repeat' (first | (refine Zc ?_ ?_ <;> intro h <;> (try simp [go_sem, hm, hwq, hq, hw1] at h) <;> try omega) | (refine Zi ?_; try simp only [AThen, ABlock]) | (refine Ze ?_; simp +decide only [AThen, ABlock, reduceIte]) | (refine Zt ?_; (try simp [go_sem, hm, hwq, hq, hw1]); all_goals (try simp [loR, lo]); all_goals try exact rfl) | ((first | refine Zq ?_ | refine Zr ?_ | refine Zw ?_ | refine Zx ?_); intro K hK; repeat' (first | ((first | refine Zs ?_ | refine Zl ?_ | refine Z0 ?_ | refine Zd ?_); intro HK hk; simp [go_sem, hm, hwq, hq, hw1]; (repeat refine ⟨by omega, ?_⟩); apply hk; clear hk HK) | ((first | refine Zg ?_ ?_ | refine Zh ?_ ?_ | refine Zp ?_ ?_ | refine Zk ?_ ?_) <;> intro hg <;> simp only [hg] <;> (try simp at hg) <;> try omega)); all_goals try ((first | refine Zn ?_ | refine Zm ?_); apply hK; clear hK K; try simp only [AThen, ABlock])) | refine Zz ?_ | refine Zb ?_)
    all_goals try exact rfl
    refine AW.upto l.length (fun _ => True) (fun k => [(11, .c (.p (.int .i64 k))), (10, .c (.p (.bool (decide (w < k) && C)))), (9, .c (.p (.int .i64 (wN l k)))), (8, .c (.p (.int .i64 (1 + (q : Int))))), (7, .c (.p (.bool true))), (3, .c (.ptr 0 0)), (1, .c (.p (lnP l)))]) (fun _ => [.var [.p (.int .i64 w), .p (.int .i64 u)]]) trivial ?_ fun k hk _ => ?_
    · refine Sub.of 1 (by simp) (by first | (simp [wN]; done) | (simp [go_sem, wN]; done)) (by simp [go_sem]) ?_ (by simp [go_sem])
      simp [go_sem, wN]
    · have hwk := wrapS (show (k : Int) < 9223372036854775807 by omega)
      have hbk := hwb k
      by_cases hkl : k < l.length
      · obtain ⟨ln, hx⟩ : ∃ ln, l[k]? = some ln := ⟨_, List.getElem?_eq_getElem hkl⟩
        have hl80 := hok ln (List.mem_of_getElem? hx)
        have hgd : l.getD k zeroL = ln := by rw [List.getD_eq_getElem?_getD, hx]; rfl
        have hwN : wN l (k + 1) = wN l k + manyL ln.L := by rw [wN, hgd]
        have hta : ln.L.take ln.L.length = ln.L := List.take_length
        by_cases hkw : k = w
        · subst hkw
          obtain rfl : ln = lw := by rw [hx] at hxw; exact Option.some.inj hxw
          all_goals repeat' (first | (refine Zc ?_ ?_ <;> intro h <;> (try simp [go_sem, hx] at h) <;> try omega) | (refine Zi ?_; try simp only [AThen, ABlock]) | (refine Ze ?_; simp +decide only [AThen, ABlock, reduceIte]) | (refine Zt ?_; (try simp [go_sem, hx]); all_goals (try simp [loR, lo]); all_goals try exact rfl) | ((first | refine Zq ?_ | refine Zr ?_ | refine Zw ?_ | refine Zx ?_); intro K hK; repeat' (first | ((first | refine Zs ?_ | refine Zl ?_ | refine Z0 ?_ | refine Zd ?_); intro HK hk; simp [go_sem, hx]; (repeat refine ⟨by omega, ?_⟩); apply hk; clear hk HK) | ((first | refine Zg ?_ ?_ | refine Zh ?_ ?_ | refine Zp ?_ ?_ | refine Zk ?_ ?_) <;> intro hg <;> simp only [hg] <;> (try simp at hg) <;> try omega)); all_goals try ((first | refine Zn ?_ | refine Zm ?_); apply hK; clear hK K; try simp only [AThen, ABlock])) | refine Zz ?_ | refine Zb ?_)
          all_goals try exact rfl
          refine AW.upto ln.L.length (fun _ => True) (fun j => [(12, .c (.p (.int .i64 j))), (11, .c (.p (.int .i64 k))), (10, .c (.p (.bool ((ln.L.take j).any isCtl)))), (9, .c (.p (.int .i64 ((wN l k : Int) + (manyL (ln.L.take j) : Int))))), (8, .c (.p (.int .i64 (1 + (q : Int))))), (7, .c (.p (.bool true))), (3, .c (.ptr 0 0)), (1, .c (.p (lnP l)))]) (fun _ => [.var [.p (.int .i64 k), .p (.int .i64 u)]]) trivial ?_ fun j hj _ => ?_
          · refine Sub.of 1 (by simp) (by first | (simp [manyL]; done) | (simp [go_sem, manyL]; done)) (by simp [go_sem]) ?_ (by simp [go_sem])
            simp [go_sem, manyL]
          · have hwj := wrapS (show (j : Int) < 9223372036854775807 by omega)
            have hmj : manyL (ln.L.take j) ≤ 80 := Nat.le_trans (many_le _) (by rw [List.length_take]; omega)
            by_cases hjl : j < ln.L.length
            · obtain ⟨e, he⟩ : ∃ e, ln.L[j]? = some e := ⟨_, List.getElem?_eq_getElem hjl⟩
              have hmt := many_take he
              have hat := any_take he
              have hwv : IntKind.i64.wrap ((wN l k : Int) + (manyL (ln.L.take j) : Int) + 1) = (wN l k : Int) + (manyL (ln.L.take j) : Int) + 1 := wrapI (by omega) (by omega)
              by_cases hk1 : e.Kind = 1
              · have hc : isCtl e = false := by simp [isCtl, hk1]
                rw [if_pos hk1] at hmt
                all_goals repeat' (first | (refine Zc ?_ ?_ <;> intro h <;> (try simp [go_sem, hx, he, hk1, hwj, hwv] at h) <;> try omega) | (refine Zi ?_; try simp only [AThen, ABlock]) | (refine Ze ?_; simp +decide only [AThen, ABlock, reduceIte]) | (refine Zt ?_; (try simp [go_sem, hx, he, hk1, hwj, hwv]); all_goals (try simp [loR, lo]); all_goals try exact rfl) | ((first | refine Zq ?_ | refine Zr ?_ | refine Zw ?_ | refine Zx ?_); intro K hK; repeat' (first | ((first | refine Zs ?_ | refine Zl ?_ | refine Z0 ?_ | refine Zd ?_); intro HK hk; simp [go_sem, hx, he, hk1, hwj, hwv]; (repeat refine ⟨by omega, ?_⟩); apply hk; clear hk HK) | ((first | refine Zg ?_ ?_ | refine Zh ?_ ?_ | refine Zp ?_ ?_ | refine Zk ?_ ?_) <;> intro hg <;> simp only [hg] <;> (try simp at hg) <;> try omega)); all_goals try ((first | refine Zn ?_ | refine Zm ?_); apply hK; clear hK K; try simp only [AThen, ABlock])) | refine Zz ?_ | refine Zb ?_)
                all_goals try exact rfl
                refine ⟨hjl, trivial, ?_⟩
                refine Sub.of 1 (by simp) (by first | (simp [hmt, hat, hc, Int.add_assoc]; done) | (simp [go_sem, hmt, hat, hc, Int.add_assoc]; done)) (by simp [go_sem]) ?_ (by simp [go_sem])
                simp [go_sem, hmt, hat, hc, Int.add_assoc]
              · have hc : isCtl e = true := by simp [isCtl, hk1]
                rw [if_neg hk1] at hmt
                all_goals repeat' (first | (refine Zc ?_ ?_ <;> intro h <;> (try simp [go_sem, hx, he, hk1, hwj, hwv] at h) <;> try omega) | (refine Zi ?_; try simp only [AThen, ABlock]) | (refine Ze ?_; simp +decide only [AThen, ABlock, reduceIte]) | (refine Zt ?_; (try simp [go_sem, hx, he, hk1, hwj, hwv]); all_goals (try simp [loR, lo]); all_goals try exact rfl) | ((first | refine Zq ?_ | refine Zr ?_ | refine Zw ?_ | refine Zx ?_); intro K hK; repeat' (first | ((first | refine Zs ?_ | refine Zl ?_ | refine Z0 ?_ | refine Zd ?_); intro HK hk; simp [go_sem, hx, he, hk1, hwj, hwv]; (repeat refine ⟨by omega, ?_⟩); apply hk; clear hk HK) | ((first | refine Zg ?_ ?_ | refine Zh ?_ ?_ | refine Zp ?_ ?_ | refine Zk ?_ ?_) <;> intro hg <;> simp only [hg] <;> (try simp at hg) <;> try omega)); all_goals try ((first | refine Zn ?_ | refine Zm ?_); apply hK; clear hK K; try simp only [AThen, ABlock])) | refine Zz ?_ | refine Zb ?_)
                all_goals try exact rfl
                refine ⟨hjl, trivial, ?_⟩
                refine Sub.of 1 (by simp) (by first | (simp [hmt, hat, hc, Int.add_assoc]; done) | (simp [go_sem, hmt, hat, hc, Int.add_assoc]; done)) (by simp [go_sem]) ?_ (by simp [go_sem])
                simp [go_sem, hmt, hat, hc, Int.add_assoc]
            · obtain rfl : j = ln.L.length := by omega
              all_goals repeat' (first | (refine Zc ?_ ?_ <;> intro h <;> (try simp [go_sem, hx, hwk] at h) <;> try omega) | (refine Zi ?_; try simp only [AThen, ABlock]) | (refine Ze ?_; simp +decide only [AThen, ABlock, reduceIte]) | (refine Zt ?_; (try simp [go_sem, hx, hwk]); all_goals (try simp [loR, lo]); all_goals try exact rfl) | ((first | refine Zq ?_ | refine Zr ?_ | refine Zw ?_ | refine Zx ?_); intro K hK; repeat' (first | ((first | refine Zs ?_ | refine Zl ?_ | refine Z0 ?_ | refine Zd ?_); intro HK hk; simp [go_sem, hx, hwk]; (repeat refine ⟨by omega, ?_⟩); apply hk; clear hk HK) | ((first | refine Zg ?_ ?_ | refine Zh ?_ ?_ | refine Zp ?_ ?_ | refine Zk ?_ ?_) <;> intro hg <;> simp only [hg] <;> (try simp at hg) <;> try omega)); all_goals try ((first | refine Zn ?_ | refine Zm ?_); apply hK; clear hK K; try simp only [AThen, ABlock])) | refine Zz ?_ | refine Zb ?_)
              all_goals try exact rfl
              refine ⟨hkl, trivial, ?_⟩
              refine Sub.of 1 (by simp) (by first | (simp [hwN, hta, hC]; done) | (simp [go_sem, hwN, hta, hC]; done)) (by simp [go_sem]) ?_ (by simp [go_sem])
              simp [go_sem, hwN, hta, hC]
        · obtain ⟨B0, hB0⟩ : ∃ B0, B0 = (decide (w < k) && C) := ⟨_, rfl⟩
          have hB1 : B0 = (decide (w < k + 1) && C) := by rw [hB0]; congr 2; apply propext; omega
          rw [← hB0]
          all_goals repeat' (first | (refine Zc ?_ ?_ <;> intro h <;> (try simp [go_sem, hx] at h) <;> try omega) | (refine Zi ?_; try simp only [AThen, ABlock]) | (refine Ze ?_; simp +decide only [AThen, ABlock, reduceIte]) | (refine Zt ?_; (try simp [go_sem, hx]); all_goals (try simp [loR, lo]); all_goals try exact rfl) | ((first | refine Zq ?_ | refine Zr ?_ | refine Zw ?_ | refine Zx ?_); intro K hK; repeat' (first | ((first | refine Zs ?_ | refine Zl ?_ | refine Z0 ?_ | refine Zd ?_); intro HK hk; simp [go_sem, hx]; (repeat refine ⟨by omega, ?_⟩); apply hk; clear hk HK) | ((first | refine Zg ?_ ?_ | refine Zh ?_ ?_ | refine Zp ?_ ?_ | refine Zk ?_ ?_) <;> intro hg <;> simp only [hg] <;> (try simp at hg) <;> try omega)); all_goals try ((first | refine Zn ?_ | refine Zm ?_); apply hK; clear hK K; try simp only [AThen, ABlock])) | refine Zz ?_ | refine Zb ?_)
          all_goals try exact rfl
          refine AW.upto ln.L.length (fun _ => True) (fun j => [(12, .c (.p (.int .i64 j))), (11, .c (.p (.int .i64 k))), (10, .c (.p (.bool B0))), (9, .c (.p (.int .i64 ((wN l k : Int) + (manyL (ln.L.take j) : Int))))), (8, .c (.p (.int .i64 (1 + (q : Int))))), (7, .c (.p (.bool true))), (3, .c (.ptr 0 0)), (1, .c (.p (lnP l)))]) (fun _ => [.var [.p (.int .i64 w), .p (.int .i64 u)]]) trivial ?_ fun j hj _ => ?_
          · refine Sub.of 1 (by simp) (by first | (simp [manyL]; done) | (simp [go_sem, manyL]; done)) (by simp [go_sem]) ?_ (by simp [go_sem])
            simp [go_sem, manyL]
          · have hwj := wrapS (show (j : Int) < 9223372036854775807 by omega)
            have hmj : manyL (ln.L.take j) ≤ 80 := Nat.le_trans (many_le _) (by rw [List.length_take]; omega)
            by_cases hjl : j < ln.L.length
            · obtain ⟨e, he⟩ : ∃ e, ln.L[j]? = some e := ⟨_, List.getElem?_eq_getElem hjl⟩
              have hmt := many_take he
              have hwv : IntKind.i64.wrap ((wN l k : Int) + (manyL (ln.L.take j) : Int) + 1) = (wN l k : Int) + (manyL (ln.L.take j) : Int) + 1 := wrapI (by omega) (by omega)
              by_cases hk1 : e.Kind = 1
              · rw [if_pos hk1] at hmt
                all_goals repeat' (first | (refine Zc ?_ ?_ <;> intro h <;> (try simp [go_sem, hx, he, hk1, hwj, hwv] at h) <;> try omega) | (refine Zi ?_; try simp only [AThen, ABlock]) | (refine Ze ?_; simp +decide only [AThen, ABlock, reduceIte]) | (refine Zt ?_; (try simp [go_sem, hx, he, hk1, hwj, hwv]); all_goals (try simp [loR, lo]); all_goals try exact rfl) | ((first | refine Zq ?_ | refine Zr ?_ | refine Zw ?_ | refine Zx ?_); intro K hK; repeat' (first | ((first | refine Zs ?_ | refine Zl ?_ | refine Z0 ?_ | refine Zd ?_); intro HK hk; simp [go_sem, hx, he, hk1, hwj, hwv]; (repeat refine ⟨by omega, ?_⟩); apply hk; clear hk HK) | ((first | refine Zg ?_ ?_ | refine Zh ?_ ?_ | refine Zp ?_ ?_ | refine Zk ?_ ?_) <;> intro hg <;> simp only [hg] <;> (try simp at hg) <;> try omega)); all_goals try ((first | refine Zn ?_ | refine Zm ?_); apply hK; clear hK K; try simp only [AThen, ABlock])) | refine Zz ?_ | refine Zb ?_)
                all_goals try exact rfl
                refine ⟨hjl, trivial, ?_⟩
                refine Sub.of 1 (by simp) (by first | (simp [hmt, Int.add_assoc]; done) | (simp [go_sem, hmt, Int.add_assoc]; done)) (by simp [go_sem]) ?_ (by simp [go_sem])
                simp [go_sem, hmt, Int.add_assoc]
              · rw [if_neg hk1] at hmt
                all_goals repeat' (first | (refine Zc ?_ ?_ <;> intro h <;> (try simp [go_sem, hx, he, hk1, hwj, hwv, hkw] at h) <;> try omega) | (refine Zi ?_; try simp only [AThen, ABlock]) | (refine Ze ?_; simp +decide only [AThen, ABlock, reduceIte]) | (refine Zt ?_; (try simp [go_sem, hx, he, hk1, hwj, hwv, hkw]); all_goals (try simp [loR, lo]); all_goals try exact rfl) | ((first | refine Zq ?_ | refine Zr ?_ | refine Zw ?_ | refine Zx ?_); intro K hK; repeat' (first | ((first | refine Zs ?_ | refine Zl ?_ | refine Z0 ?_ | refine Zd ?_); intro HK hk; simp [go_sem, hx, he, hk1, hwj, hwv, hkw]; (repeat refine ⟨by omega, ?_⟩); apply hk; clear hk HK) | ((first | refine Zg ?_ ?_ | refine Zh ?_ ?_ | refine Zp ?_ ?_ | refine Zk ?_ ?_) <;> intro hg <;> simp only [hg] <;> (try simp at hg) <;> try omega)); all_goals try ((first | refine Zn ?_ | refine Zm ?_); apply hK; clear hK K; try simp only [AThen, ABlock])) | refine Zz ?_ | refine Zb ?_)
                all_goals try exact rfl
                refine ⟨hjl, trivial, ?_⟩
                refine Sub.of 1 (by simp) (by first | (simp [hmt, Int.add_assoc]; done) | (simp [go_sem, hmt, Int.add_assoc]; done)) (by simp [go_sem]) ?_ (by simp [go_sem])
                simp [go_sem, hmt, Int.add_assoc]
            · obtain rfl : j = ln.L.length := by omega
              all_goals repeat' (first | (refine Zc ?_ ?_ <;> intro h <;> (try simp [go_sem, hx, hwk] at h) <;> try omega) | (refine Zi ?_; try simp only [AThen, ABlock]) | (refine Ze ?_; simp +decide only [AThen, ABlock, reduceIte]) | (refine Zt ?_; (try simp [go_sem, hx, hwk]); all_goals (try simp [loR, lo]); all_goals try exact rfl) | ((first | refine Zq ?_ | refine Zr ?_ | refine Zw ?_ | refine Zx ?_); intro K hK; repeat' (first | ((first | refine Zs ?_ | refine Zl ?_ | refine Z0 ?_ | refine Zd ?_); intro HK hk; simp [go_sem, hx, hwk]; (repeat refine ⟨by omega, ?_⟩); apply hk; clear hk HK) | ((first | refine Zg ?_ ?_ | refine Zh ?_ ?_ | refine Zp ?_ ?_ | refine Zk ?_ ?_) <;> intro hg <;> simp only [hg] <;> (try simp at hg) <;> try omega)); all_goals try ((first | refine Zn ?_ | refine Zm ?_); apply hK; clear hK K; try simp only [AThen, ABlock])) | refine Zz ?_ | refine Zb ?_)
              all_goals try exact rfl
              refine ⟨hkl, trivial, ?_⟩
              refine Sub.of 1 (by simp) (by first | (simp [hwN, hta, ← hB1]; done) | (simp [go_sem, hwN, hta, ← hB1]; done)) (by simp [go_sem]) ?_ (by simp [go_sem])
              simp [go_sem, hwN, hta, ← hB1]
      · obtain rfl : k = l.length := by omega
        obtain ⟨M, hM⟩ : ∃ M, M = wN l l.length := ⟨_, rfl⟩
        rw [← hM] at hbk ⊢
        all_goals repeat' (first | (refine Zc ?_ ?_ <;> intro h <;> (try simp [go_sem, hwn] at h) <;> try omega) | (refine Zi ?_; try simp only [AThen, ABlock]) | (refine Ze ?_; simp +decide only [AThen, ABlock, reduceIte]) | (refine Zt ?_; (try simp [go_sem, hwn]); all_goals (try simp [loR, lo]); all_goals try exact rfl) | ((first | refine Zq ?_ | refine Zr ?_ | refine Zw ?_ | refine Zx ?_); intro K hK; repeat' (first | ((first | refine Zs ?_ | refine Zl ?_ | refine Z0 ?_ | refine Zd ?_); intro HK hk; simp [go_sem, hwn]; (repeat refine ⟨by omega, ?_⟩); apply hk; clear hk HK) | ((first | refine Zg ?_ ?_ | refine Zh ?_ ?_ | refine Zp ?_ ?_ | refine Zk ?_ ?_) <;> intro hg <;> simp only [hg] <;> (try simp at hg) <;> try omega)); all_goals try ((first | refine Zn ?_ | refine Zm ?_); apply hK; clear hK K; try simp only [AThen, ABlock])) | refine Zz ?_ | refine Zb ?_)
        all_goals try exact rfl
        refine AW.upto l.length (fun _ => True) (fun i => [(13, .c (.p (.int .i64 i))), (10, .c (.p (.bool C))), (9, .c (.p (.int .i64 M))), (8, .c (.p (.int .i64 (1 + (q : Int))))), (7, .c (.p (.bool true))), (3, .c (.ptr 0 0)), (1, .c (.p (lnP l)))]) (fun _ => [.var [.p (.int .i64 w), .p (.int .i64 u)]]) trivial ?_ fun i hi _ => ?_
        · refine Sub.of 1 (by simp) (by first | (simp; done) | (simp [go_sem]; done)) (by simp [go_sem]) ?_ (by simp [go_sem])
          simp [go_sem]
        · have hwi := wrapS (show (i : Int) < 9223372036854775807 by omega)
          by_cases hil : i < l.length
          · obtain ⟨li, hxi⟩ : ∃ li, l[i]? = some li := ⟨_, List.getElem?_eq_getElem hil⟩
            have hs := say_is (t := ⟨(w : Int), u⟩) (q := 1 + (q : Int)) hil li hxi
            have hsl := say_len (t := ⟨(w : Int), u⟩) (q := 1 + (q : Int)) hil
            have hsp := say_pair (t := ⟨(w : Int), u⟩) (q := 1 + (q : Int)) hil
            have hsn : (sayQ ⟨(w : Int), u⟩ l i (1 + (q : Int))).2 = false → (sayQ ⟨(w : Int), u⟩ l i (1 + (q : Int))).1 = zeroI := fun h => by
              unfold sayQ at *
              repeat' split at h <;> simp_all
            generalize hsq : sayQ ⟨(w : Int), u⟩ l i (1 + (q : Int)) = r at *
            obtain ⟨it, is⟩ := r
            simp only at hs hsl hsp hsn
            rw [← hM] at hs hsl
            cases is with
            | false =>
              have hz := hsn rfl
              subst hz
              clear hsl hsp hsn
              have hsq' : sayQ ⟨(w : Int), u⟩ l i (1 + (q : Int)) = (⟨0, 0, 0, 0, 0, 0, [], []⟩, false) := hsq
              by_cases hiw : i = w
              · obtain rfl : i = w := hiw
                by_cases hM0 : 0 < M
                · rcases Bool.eq_false_or_eq_true C with hCC | hCC
                  · subst hCC
                    all_goals repeat' (first | (refine Zc ?_ ?_ <;> intro h <;> (try simp [go_sem] at h) <;> try omega) | (refine Zi ?_; try simp only [AThen, ABlock]) | (refine Ze ?_; simp +decide only [AThen, ABlock, reduceIte]) | (refine Zt ?_; (try simp [go_sem]); all_goals (try simp [loR, lo]); all_goals try exact rfl) | ((first | refine Zq ?_ | refine Zr ?_ | refine Zw ?_ | refine Zx ?_); intro K hK; repeat' (first | ((first | refine Zs ?_ | refine Zl ?_ | refine Z0 ?_ | refine Zd ?_); intro HK hk; simp [go_sem]; (repeat refine ⟨by omega, ?_⟩); apply hk; clear hk HK) | ((first | refine Zg ?_ ?_ | refine Zh ?_ ?_ | refine Zp ?_ ?_ | refine Zk ?_ ?_) <;> intro hg <;> simp only [hg] <;> (try simp at hg) <;> try omega)); all_goals try ((first | refine Zn ?_ | refine Zm ?_); apply hK; clear hK K; try simp only [AThen, ABlock])) | refine Zz ?_ | refine Zb ?_)
                    all_goals try exact rfl
                    (first | refine Zs ?_ | refine Z0 ?_ | refine Zd ?_); intro HK hk; simp [go_sem]; (repeat refine ⟨by omega, ?_⟩); (first | refine ACall.pur rfl (pc_36 ⟨(i : Int), u⟩ l i (1 + (q : Int)) hm hil (by omega)) ?_ | refine ACallD.mk rfl (pc_36 ⟨(i : Int), u⟩ l i (1 + (q : Int)) hm hil (by omega)) ?_); simp [go_sem, hsq']; (repeat refine ⟨by omega, ?_⟩); apply hk; clear hk HK; repeat' (first | ((first | refine Zs ?_ | refine Zl ?_ | refine Z0 ?_ | refine Zd ?_); intro HK hk; simp [go_sem, hsq']; (repeat refine ⟨by omega, ?_⟩); apply hk; clear hk HK) | ((first | refine Zg ?_ ?_ | refine Zh ?_ ?_ | refine Zp ?_ ?_ | refine Zk ?_ ?_) <;> intro hg <;> simp only [hg] <;> (try simp at hg) <;> try omega))
                    all_goals try ((first | refine Zn ?_ | refine Zm ?_); apply hK; clear hK K; try simp only [AThen, ABlock])
                    all_goals repeat' (first | (refine Zc ?_ ?_ <;> intro h <;> (try simp [go_sem, hM0] at h) <;> try omega) | (refine Zi ?_; try simp only [AThen, ABlock]) | (refine Ze ?_; simp +decide only [AThen, ABlock, reduceIte]) | (refine Zt ?_; (try simp [go_sem, hM0]); all_goals (try simp [loR, lo]); all_goals try exact rfl) | ((first | refine Zq ?_ | refine Zr ?_ | refine Zw ?_ | refine Zx ?_); intro K hK; repeat' (first | ((first | refine Zs ?_ | refine Zl ?_ | refine Z0 ?_ | refine Zd ?_); intro HK hk; simp [go_sem, hM0]; (repeat refine ⟨by omega, ?_⟩); apply hk; clear hk HK) | ((first | refine Zg ?_ ?_ | refine Zh ?_ ?_ | refine Zp ?_ ?_ | refine Zk ?_ ?_) <;> intro hg <;> simp only [hg] <;> (try simp at hg) <;> try omega)); all_goals try ((first | refine Zn ?_ | refine Zm ?_); apply hK; clear hK K; try simp only [AThen, ABlock])) | refine Zz ?_ | refine Zb ?_)
                    all_goals try exact rfl
                    refine AW.upto 0 (fun _ => True) (fun _ => [(16, .c (.p (.int .i64 0))), (15, .c (.p (.bool false))), (14, .c (.ptr 1 0)), (13, .c (.p (.int .i64 i))), (10, .c (.p (.bool true))), (9, .c (.p (.int .i64 M))), (8, .c (.p (.int .i64 (1 + (q : Int))))), (7, .c (.p (.bool true))), (3, .c (.ptr 0 0)), (1, .c (.p (lnP l)))]) (fun _ => [.var [.p (.int .i64 i), .p (.int .i64 u)], .var [.p (.int .i64 0), .p (.int .i64 0), .p (.int .i64 0), .p (.int .i64 0), .p (.int .i64 0), .p (.int .i64 0), .p (.sl false []), .p (.sl false [])]]) trivial ?_ fun j hj _ => ?_
                    · refine Sub.of 2 (by simp) (by first | (simp; done) | (simp [go_sem]; done)) (by simp [go_sem]) ?_ (by simp [go_sem])
                      simp [go_sem]
                    · all_goals repeat' (first | (refine Zc ?_ ?_ <;> intro h <;> (try simp [go_sem, hwi] at h) <;> try omega) | (refine Zi ?_; try simp only [AThen, ABlock]) | (refine Ze ?_; simp +decide only [AThen, ABlock, reduceIte]) | (refine Zt ?_; (try simp [go_sem, hwi]); all_goals (try simp [loR, lo]); all_goals try exact rfl) | ((first | refine Zq ?_ | refine Zr ?_ | refine Zw ?_ | refine Zx ?_); intro K hK; repeat' (first | ((first | refine Zs ?_ | refine Zl ?_ | refine Z0 ?_ | refine Zd ?_); intro HK hk; simp [go_sem, hwi]; (repeat refine ⟨by omega, ?_⟩); apply hk; clear hk HK) | ((first | refine Zg ?_ ?_ | refine Zh ?_ ?_ | refine Zp ?_ ?_ | refine Zk ?_ ?_) <;> intro hg <;> simp only [hg] <;> (try simp at hg) <;> try omega)); all_goals try ((first | refine Zn ?_ | refine Zm ?_); apply hK; clear hK K; try simp only [AThen, ABlock])) | refine Zz ?_ | refine Zb ?_)
                      all_goals try exact rfl
                      refine ⟨hil, trivial, ?_⟩
                      refine Sub.of 1 (by simp) (by first | (simp; done) | (simp [go_sem]; done)) (by simp [go_sem]) ?_ (by simp [go_sem])
                      simp [go_sem]
                  · have huq : ¬ u < 1 + (q : Int) := fun h => by
                      obtain rfl : li = lw := by rw [hxi] at hxw; exact Option.some.inj hxw
                      rw [← hC, hCC, decide_eq_true hM0, decide_eq_true h] at hs
                      simp at hs
                    subst hCC
                    all_goals repeat' (first | (refine Zc ?_ ?_ <;> intro h <;> (try simp [go_sem] at h) <;> try omega) | (refine Zi ?_; try simp only [AThen, ABlock]) | (refine Ze ?_; simp +decide only [AThen, ABlock, reduceIte]) | (refine Zt ?_; (try simp [go_sem]); all_goals (try simp [loR, lo]); all_goals try exact rfl) | ((first | refine Zq ?_ | refine Zr ?_ | refine Zw ?_ | refine Zx ?_); intro K hK; repeat' (first | ((first | refine Zs ?_ | refine Zl ?_ | refine Z0 ?_ | refine Zd ?_); intro HK hk; simp [go_sem]; (repeat refine ⟨by omega, ?_⟩); apply hk; clear hk HK) | ((first | refine Zg ?_ ?_ | refine Zh ?_ ?_ | refine Zp ?_ ?_ | refine Zk ?_ ?_) <;> intro hg <;> simp only [hg] <;> (try simp at hg) <;> try omega)); all_goals try ((first | refine Zn ?_ | refine Zm ?_); apply hK; clear hK K; try simp only [AThen, ABlock])) | refine Zz ?_ | refine Zb ?_)
                    all_goals try exact rfl
                    (first | refine Zs ?_ | refine Z0 ?_ | refine Zd ?_); intro HK hk; simp [go_sem]; (repeat refine ⟨by omega, ?_⟩); (first | refine ACall.pur rfl (pc_36 ⟨(i : Int), u⟩ l i (1 + (q : Int)) hm hil (by omega)) ?_ | refine ACallD.mk rfl (pc_36 ⟨(i : Int), u⟩ l i (1 + (q : Int)) hm hil (by omega)) ?_); simp [go_sem, hsq']; (repeat refine ⟨by omega, ?_⟩); apply hk; clear hk HK; repeat' (first | ((first | refine Zs ?_ | refine Zl ?_ | refine Z0 ?_ | refine Zd ?_); intro HK hk; simp [go_sem, hsq']; (repeat refine ⟨by omega, ?_⟩); apply hk; clear hk HK) | ((first | refine Zg ?_ ?_ | refine Zh ?_ ?_ | refine Zp ?_ ?_ | refine Zk ?_ ?_) <;> intro hg <;> simp only [hg] <;> (try simp at hg) <;> try omega))
                    all_goals try ((first | refine Zn ?_ | refine Zm ?_); apply hK; clear hK K; try simp only [AThen, ABlock])
                    all_goals repeat' (first | (refine Zc ?_ ?_ <;> intro h <;> (try simp [go_sem, hM0, huq] at h) <;> try omega) | (refine Zi ?_; try simp only [AThen, ABlock]) | (refine Ze ?_; simp +decide only [AThen, ABlock, reduceIte]) | (refine Zt ?_; (try simp [go_sem, hM0, huq]); all_goals (try simp [loR, lo]); all_goals try exact rfl) | ((first | refine Zq ?_ | refine Zr ?_ | refine Zw ?_ | refine Zx ?_); intro K hK; repeat' (first | ((first | refine Zs ?_ | refine Zl ?_ | refine Z0 ?_ | refine Zd ?_); intro HK hk; simp [go_sem, hM0, huq]; (repeat refine ⟨by omega, ?_⟩); apply hk; clear hk HK) | ((first | refine Zg ?_ ?_ | refine Zh ?_ ?_ | refine Zp ?_ ?_ | refine Zk ?_ ?_) <;> intro hg <;> simp only [hg] <;> (try simp at hg) <;> try omega)); all_goals try ((first | refine Zn ?_ | refine Zm ?_); apply hK; clear hK K; try simp only [AThen, ABlock])) | refine Zz ?_ | refine Zb ?_)
                    all_goals try exact rfl
                    refine AW.upto 0 (fun _ => True) (fun _ => [(16, .c (.p (.int .i64 0))), (15, .c (.p (.bool false))), (14, .c (.ptr 1 0)), (13, .c (.p (.int .i64 i))), (10, .c (.p (.bool false))), (9, .c (.p (.int .i64 M))), (8, .c (.p (.int .i64 (1 + (q : Int))))), (7, .c (.p (.bool true))), (3, .c (.ptr 0 0)), (1, .c (.p (lnP l)))]) (fun _ => [.var [.p (.int .i64 i), .p (.int .i64 u)], .var [.p (.int .i64 0), .p (.int .i64 0), .p (.int .i64 0), .p (.int .i64 0), .p (.int .i64 0), .p (.int .i64 0), .p (.sl false []), .p (.sl false [])]]) trivial ?_ fun j hj _ => ?_
                    · refine Sub.of 2 (by simp) (by first | (simp; done) | (simp [go_sem]; done)) (by simp [go_sem]) ?_ (by simp [go_sem])
                      simp [go_sem]
                    · all_goals repeat' (first | (refine Zc ?_ ?_ <;> intro h <;> (try simp [go_sem, hwi] at h) <;> try omega) | (refine Zi ?_; try simp only [AThen, ABlock]) | (refine Ze ?_; simp +decide only [AThen, ABlock, reduceIte]) | (refine Zt ?_; (try simp [go_sem, hwi]); all_goals (try simp [loR, lo]); all_goals try exact rfl) | ((first | refine Zq ?_ | refine Zr ?_ | refine Zw ?_ | refine Zx ?_); intro K hK; repeat' (first | ((first | refine Zs ?_ | refine Zl ?_ | refine Z0 ?_ | refine Zd ?_); intro HK hk; simp [go_sem, hwi]; (repeat refine ⟨by omega, ?_⟩); apply hk; clear hk HK) | ((first | refine Zg ?_ ?_ | refine Zh ?_ ?_ | refine Zp ?_ ?_ | refine Zk ?_ ?_) <;> intro hg <;> simp only [hg] <;> (try simp at hg) <;> try omega)); all_goals try ((first | refine Zn ?_ | refine Zm ?_); apply hK; clear hK K; try simp only [AThen, ABlock])) | refine Zz ?_ | refine Zb ?_)
                      all_goals try exact rfl
                      refine ⟨hil, trivial, ?_⟩
                      refine Sub.of 1 (by simp) (by first | (simp; done) | (simp [go_sem]; done)) (by simp [go_sem]) ?_ (by simp [go_sem])
                      simp [go_sem]
                · obtain rfl : M = 0 := by omega
                  all_goals repeat' (first | (refine Zc ?_ ?_ <;> intro h <;> (try simp [go_sem] at h) <;> try omega) | (refine Zi ?_; try simp only [AThen, ABlock]) | (refine Ze ?_; simp +decide only [AThen, ABlock, reduceIte]) | (refine Zt ?_; (try simp [go_sem]); all_goals (try simp [loR, lo]); all_goals try exact rfl) | ((first | refine Zq ?_ | refine Zr ?_ | refine Zw ?_ | refine Zx ?_); intro K hK; repeat' (first | ((first | refine Zs ?_ | refine Zl ?_ | refine Z0 ?_ | refine Zd ?_); intro HK hk; simp [go_sem]; (repeat refine ⟨by omega, ?_⟩); apply hk; clear hk HK) | ((first | refine Zg ?_ ?_ | refine Zh ?_ ?_ | refine Zp ?_ ?_ | refine Zk ?_ ?_) <;> intro hg <;> simp only [hg] <;> (try simp at hg) <;> try omega)); all_goals try ((first | refine Zn ?_ | refine Zm ?_); apply hK; clear hK K; try simp only [AThen, ABlock])) | refine Zz ?_ | refine Zb ?_)
                  all_goals try exact rfl
                  (first | refine Zs ?_ | refine Z0 ?_ | refine Zd ?_); intro HK hk; simp [go_sem]; (repeat refine ⟨by omega, ?_⟩); (first | refine ACall.pur rfl (pc_36 ⟨(i : Int), u⟩ l i (1 + (q : Int)) hm hil (by omega)) ?_ | refine ACallD.mk rfl (pc_36 ⟨(i : Int), u⟩ l i (1 + (q : Int)) hm hil (by omega)) ?_); simp [go_sem, hsq']; (repeat refine ⟨by omega, ?_⟩); apply hk; clear hk HK; repeat' (first | ((first | refine Zs ?_ | refine Zl ?_ | refine Z0 ?_ | refine Zd ?_); intro HK hk; simp [go_sem, hsq']; (repeat refine ⟨by omega, ?_⟩); apply hk; clear hk HK) | ((first | refine Zg ?_ ?_ | refine Zh ?_ ?_ | refine Zp ?_ ?_ | refine Zk ?_ ?_) <;> intro hg <;> simp only [hg] <;> (try simp at hg) <;> try omega))
                  all_goals try ((first | refine Zn ?_ | refine Zm ?_); apply hK; clear hK K; try simp only [AThen, ABlock])
                  all_goals repeat' (first | (refine Zc ?_ ?_ <;> intro h <;> (try simp [go_sem, hM0] at h) <;> try omega) | (refine Zi ?_; try simp only [AThen, ABlock]) | (refine Ze ?_; simp +decide only [AThen, ABlock, reduceIte]) | (refine Zt ?_; (try simp [go_sem, hM0]); all_goals (try simp [loR, lo]); all_goals try exact rfl) | ((first | refine Zq ?_ | refine Zr ?_ | refine Zw ?_ | refine Zx ?_); intro K hK; repeat' (first | ((first | refine Zs ?_ | refine Zl ?_ | refine Z0 ?_ | refine Zd ?_); intro HK hk; simp [go_sem, hM0]; (repeat refine ⟨by omega, ?_⟩); apply hk; clear hk HK) | ((first | refine Zg ?_ ?_ | refine Zh ?_ ?_ | refine Zp ?_ ?_ | refine Zk ?_ ?_) <;> intro hg <;> simp only [hg] <;> (try simp at hg) <;> try omega)); all_goals try ((first | refine Zn ?_ | refine Zm ?_); apply hK; clear hK K; try simp only [AThen, ABlock])) | refine Zz ?_ | refine Zb ?_)
                  all_goals try exact rfl
                  refine AW.upto 0 (fun _ => True) (fun _ => [(16, .c (.p (.int .i64 0))), (15, .c (.p (.bool false))), (14, .c (.ptr 1 0)), (13, .c (.p (.int .i64 i))), (10, .c (.p (.bool C))), (9, .c (.p (.int .i64 0))), (8, .c (.p (.int .i64 (1 + (q : Int))))), (7, .c (.p (.bool true))), (3, .c (.ptr 0 0)), (1, .c (.p (lnP l)))]) (fun _ => [.var [.p (.int .i64 i), .p (.int .i64 u)], .var [.p (.int .i64 0), .p (.int .i64 0), .p (.int .i64 0), .p (.int .i64 0), .p (.int .i64 0), .p (.int .i64 0), .p (.sl false []), .p (.sl false [])]]) trivial ?_ fun j hj _ => ?_
                  · refine Sub.of 2 (by simp) (by first | (simp; done) | (simp [go_sem]; done)) (by simp [go_sem]) ?_ (by simp [go_sem])
                    simp [go_sem]
                  · all_goals repeat' (first | (refine Zc ?_ ?_ <;> intro h <;> (try simp [go_sem, hwi] at h) <;> try omega) | (refine Zi ?_; try simp only [AThen, ABlock]) | (refine Ze ?_; simp +decide only [AThen, ABlock, reduceIte]) | (refine Zt ?_; (try simp [go_sem, hwi]); all_goals (try simp [loR, lo]); all_goals try exact rfl) | ((first | refine Zq ?_ | refine Zr ?_ | refine Zw ?_ | refine Zx ?_); intro K hK; repeat' (first | ((first | refine Zs ?_ | refine Zl ?_ | refine Z0 ?_ | refine Zd ?_); intro HK hk; simp [go_sem, hwi]; (repeat refine ⟨by omega, ?_⟩); apply hk; clear hk HK) | ((first | refine Zg ?_ ?_ | refine Zh ?_ ?_ | refine Zp ?_ ?_ | refine Zk ?_ ?_) <;> intro hg <;> simp only [hg] <;> (try simp at hg) <;> try omega)); all_goals try ((first | refine Zn ?_ | refine Zm ?_); apply hK; clear hK K; try simp only [AThen, ABlock])) | refine Zz ?_ | refine Zb ?_)
                    all_goals try exact rfl
                    refine ⟨hil, trivial, ?_⟩
                    refine Sub.of 1 (by simp) (by first | (simp; done) | (simp [go_sem]; done)) (by simp [go_sem]) ?_ (by simp [go_sem])
                    simp [go_sem]
              · have hiw' : ¬ (i : Int) = w := by omega
                all_goals repeat' (first | (refine Zc ?_ ?_ <;> intro h <;> (try simp [go_sem] at h) <;> try omega) | (refine Zi ?_; try simp only [AThen, ABlock]) | (refine Ze ?_; simp +decide only [AThen, ABlock, reduceIte]) | (refine Zt ?_; (try simp [go_sem]); all_goals (try simp [loR, lo]); all_goals try exact rfl) | ((first | refine Zq ?_ | refine Zr ?_ | refine Zw ?_ | refine Zx ?_); intro K hK; repeat' (first | ((first | refine Zs ?_ | refine Zl ?_ | refine Z0 ?_ | refine Zd ?_); intro HK hk; simp [go_sem]; (repeat refine ⟨by omega, ?_⟩); apply hk; clear hk HK) | ((first | refine Zg ?_ ?_ | refine Zh ?_ ?_ | refine Zp ?_ ?_ | refine Zk ?_ ?_) <;> intro hg <;> simp only [hg] <;> (try simp at hg) <;> try omega)); all_goals try ((first | refine Zn ?_ | refine Zm ?_); apply hK; clear hK K; try simp only [AThen, ABlock])) | refine Zz ?_ | refine Zb ?_)
                all_goals try exact rfl
                (first | refine Zs ?_ | refine Z0 ?_ | refine Zd ?_); intro HK hk; simp [go_sem]; (repeat refine ⟨by omega, ?_⟩); (first | refine ACall.pur rfl (pc_36 ⟨(w : Int), u⟩ l i (1 + (q : Int)) hm hil (by omega)) ?_ | refine ACallD.mk rfl (pc_36 ⟨(w : Int), u⟩ l i (1 + (q : Int)) hm hil (by omega)) ?_); simp [go_sem, hsq']; (repeat refine ⟨by omega, ?_⟩); apply hk; clear hk HK; repeat' (first | ((first | refine Zs ?_ | refine Zl ?_ | refine Z0 ?_ | refine Zd ?_); intro HK hk; simp [go_sem, hsq']; (repeat refine ⟨by omega, ?_⟩); apply hk; clear hk HK) | ((first | refine Zg ?_ ?_ | refine Zh ?_ ?_ | refine Zp ?_ ?_ | refine Zk ?_ ?_) <;> intro hg <;> simp only [hg] <;> (try simp at hg) <;> try omega))
                all_goals try ((first | refine Zn ?_ | refine Zm ?_); apply hK; clear hK K; try simp only [AThen, ABlock])
                all_goals repeat' (first | (refine Zc ?_ ?_ <;> intro h <;> (try simp [go_sem, hiw, hiw'] at h) <;> try omega) | (refine Zi ?_; try simp only [AThen, ABlock]) | (refine Ze ?_; simp +decide only [AThen, ABlock, reduceIte]) | (refine Zt ?_; (try simp [go_sem, hiw, hiw']); all_goals (try simp [loR, lo]); all_goals try exact rfl) | ((first | refine Zq ?_ | refine Zr ?_ | refine Zw ?_ | refine Zx ?_); intro K hK; repeat' (first | ((first | refine Zs ?_ | refine Zl ?_ | refine Z0 ?_ | refine Zd ?_); intro HK hk; simp [go_sem, hiw, hiw']; (repeat refine ⟨by omega, ?_⟩); apply hk; clear hk HK) | ((first | refine Zg ?_ ?_ | refine Zh ?_ ?_ | refine Zp ?_ ?_ | refine Zk ?_ ?_) <;> intro hg <;> simp only [hg] <;> (try simp at hg) <;> try omega)); all_goals try ((first | refine Zn ?_ | refine Zm ?_); apply hK; clear hK K; try simp only [AThen, ABlock])) | refine Zz ?_ | refine Zb ?_)
                all_goals try exact rfl
                refine AW.upto 0 (fun _ => True) (fun _ => [(16, .c (.p (.int .i64 0))), (15, .c (.p (.bool false))), (14, .c (.ptr 1 0)), (13, .c (.p (.int .i64 i))), (10, .c (.p (.bool C))), (9, .c (.p (.int .i64 M))), (8, .c (.p (.int .i64 (1 + (q : Int))))), (7, .c (.p (.bool true))), (3, .c (.ptr 0 0)), (1, .c (.p (lnP l)))]) (fun _ => [.var [.p (.int .i64 w), .p (.int .i64 u)], .var [.p (.int .i64 0), .p (.int .i64 0), .p (.int .i64 0), .p (.int .i64 0), .p (.int .i64 0), .p (.int .i64 0), .p (.sl false []), .p (.sl false [])]]) trivial ?_ fun j hj _ => ?_
                · refine Sub.of 2 (by simp) (by first | (simp; done) | (simp [go_sem]; done)) (by simp [go_sem]) ?_ (by simp [go_sem])
                  simp [go_sem]
                · all_goals repeat' (first | (refine Zc ?_ ?_ <;> intro h <;> (try simp [go_sem, hwi] at h) <;> try omega) | (refine Zi ?_; try simp only [AThen, ABlock]) | (refine Ze ?_; simp +decide only [AThen, ABlock, reduceIte]) | (refine Zt ?_; (try simp [go_sem, hwi]); all_goals (try simp [loR, lo]); all_goals try exact rfl) | ((first | refine Zq ?_ | refine Zr ?_ | refine Zw ?_ | refine Zx ?_); intro K hK; repeat' (first | ((first | refine Zs ?_ | refine Zl ?_ | refine Z0 ?_ | refine Zd ?_); intro HK hk; simp [go_sem, hwi]; (repeat refine ⟨by omega, ?_⟩); apply hk; clear hk HK) | ((first | refine Zg ?_ ?_ | refine Zh ?_ ?_ | refine Zp ?_ ?_ | refine Zk ?_ ?_) <;> intro hg <;> simp only [hg] <;> (try simp at hg) <;> try omega)); all_goals try ((first | refine Zn ?_ | refine Zm ?_); apply hK; clear hK K; try simp only [AThen, ABlock])) | refine Zz ?_ | refine Zb ?_)
                  all_goals try exact rfl
                  refine ⟨hil, trivial, ?_⟩
                  refine Sub.of 1 (by simp) (by first | (simp; done) | (simp [go_sem]; done)) (by simp [go_sem]) ?_ (by simp [go_sem])
                  simp [go_sem]
            | true =>
              obtain ⟨hL, hlen⟩ := hsl rfl
              obtain ⟨hpa, hpw⟩ := hsp
              clear hsn hsl
              obtain ⟨k1, k2, k3, k4, k5, k6, V, bd⟩ := it
              simp only at hL hpa hpw
              rw [← hL] at hlen
              clear hL
              have hfs : i = w ∧ 0 < M ∧ li.L.any isCtl = false ∧ u < 1 + (q : Int) := by
                have h := hs.symm
                simp only [Bool.and_eq_true, decide_eq_true_eq, Bool.not_eq_true'] at h
                exact ⟨by omega, h.1.1.2, h.1.2, h.2⟩
              obtain ⟨rfl, hM0, hCf, huq⟩ := hfs
              obtain rfl : li = lw := by rw [hxi] at hxw; exact Option.some.inj hxw
              have hC0 : C = false := hC.trans hCf
              subst hC0
              have hws : IntKind.i64.wrap (1 + (q : Int) - u) = 1 + (q : Int) - u := wrapI (by omega) (by omega)
              have hmin : (if 1 + (q : Int) - u < (M : Int) then 1 + (q : Int) - u else (M : Int)) = (V.length : Int) := by split <;> omega
              have hV80 : V.length ≤ 80 * l.length := by omega
              all_goals repeat' (first | (refine Zc ?_ ?_ <;> intro h <;> (try simp [go_sem] at h) <;> try omega) | (refine Zi ?_; try simp only [AThen, ABlock]) | (refine Ze ?_; simp +decide only [AThen, ABlock, reduceIte]) | (refine Zt ?_; (try simp [go_sem]); all_goals (try simp [loR, lo]); all_goals try exact rfl) | ((first | refine Zq ?_ | refine Zr ?_ | refine Zw ?_ | refine Zx ?_); intro K hK; repeat' (first | ((first | refine Zs ?_ | refine Zl ?_ | refine Z0 ?_ | refine Zd ?_); intro HK hk; simp [go_sem]; (repeat refine ⟨by omega, ?_⟩); apply hk; clear hk HK) | ((first | refine Zg ?_ ?_ | refine Zh ?_ ?_ | refine Zp ?_ ?_ | refine Zk ?_ ?_) <;> intro hg <;> simp only [hg] <;> (try simp at hg) <;> try omega)); all_goals try ((first | refine Zn ?_ | refine Zm ?_); apply hK; clear hK K; try simp only [AThen, ABlock])) | refine Zz ?_ | refine Zb ?_)
              all_goals try exact rfl
              (first | refine Zs ?_ | refine Z0 ?_ | refine Zd ?_); intro HK hk; simp [go_sem]; (repeat refine ⟨by omega, ?_⟩); (first | refine ACall.pur rfl (pc_36 ⟨(i : Int), u⟩ l i (1 + (q : Int)) hm hil (by omega)) ?_ | refine ACallD.mk rfl (pc_36 ⟨(i : Int), u⟩ l i (1 + (q : Int)) hm hil (by omega)) ?_); simp [go_sem, hsq]; (repeat refine ⟨by omega, ?_⟩); apply hk; clear hk HK; repeat' (first | ((first | refine Zs ?_ | refine Zl ?_ | refine Z0 ?_ | refine Zd ?_); intro HK hk; simp [go_sem, hsq]; (repeat refine ⟨by omega, ?_⟩); apply hk; clear hk HK) | ((first | refine Zg ?_ ?_ | refine Zh ?_ ?_ | refine Zp ?_ ?_ | refine Zk ?_ ?_) <;> intro hg <;> simp only [hg] <;> (try simp at hg) <;> try omega))
              all_goals try ((first | refine Zn ?_ | refine Zm ?_); apply hK; clear hK K; try simp only [AThen, ABlock])
              all_goals repeat' (first | (refine Zc ?_ ?_ <;> intro h <;> (try simp [go_sem, hM0, huq] at h) <;> try omega) | (refine Zi ?_; try simp only [AThen, ABlock]) | (refine Ze ?_; simp +decide only [AThen, ABlock, reduceIte]) | (refine Zt ?_; (try simp [go_sem, hM0, huq]); all_goals (try simp [loR, lo]); all_goals try exact rfl) | ((first | refine Zq ?_ | refine Zr ?_ | refine Zw ?_ | refine Zx ?_); intro K hK; repeat' (first | ((first | refine Zs ?_ | refine Zl ?_ | refine Z0 ?_ | refine Zd ?_); intro HK hk; simp [go_sem, hM0, huq]; (repeat refine ⟨by omega, ?_⟩); apply hk; clear hk HK) | ((first | refine Zg ?_ ?_ | refine Zh ?_ ?_ | refine Zp ?_ ?_ | refine Zk ?_ ?_) <;> intro hg <;> simp only [hg] <;> (try simp at hg) <;> try omega)); all_goals try ((first | refine Zn ?_ | refine Zm ?_); apply hK; clear hK K; try simp only [AThen, ABlock])) | refine Zz ?_ | refine Zb ?_)
              all_goals try exact rfl
              refine AW.upto V.length (fun _ => True) (fun j => [(16, .c (.p (.int .i64 j))), (15, .c (.p (.bool true))), (14, .c (.ptr 1 0)), (13, .c (.p (.int .i64 i))), (10, .c (.p (.bool false))), (9, .c (.p (.int .i64 M))), (8, .c (.p (.int .i64 (1 + (q : Int))))), (7, .c (.p (.bool true))), (3, .c (.ptr 0 0)), (1, .c (.p (lnP l)))]) (fun _ => [.var [.p (.int .i64 i), .p (.int .i64 u)], .var ((itemP ⟨k1, k2, k3, k4, k5, k6, V, bd⟩).map .p)]) trivial ?_ fun j hj _ => ?_
              · refine Sub.of 2 (by simp) (by first | (simp; done) | (simp [go_sem]; done)) (by simp [go_sem]) ?_ (by simp [go_sem])
                simp [go_sem]
              · have hwj := wrapS (show (j : Int) < 9223372036854775807 by omega)
                by_cases hjl : j < V.length
                · obtain ⟨a0, ha0⟩ : ∃ a, V[j]? = some a := ⟨_, List.getElem?_eq_getElem hjl⟩
                  obtain ⟨a, rfl, hal⟩ := hpa a0 (List.mem_of_getElem? ha0)
                  cases j with
                  | zero =>
                    have ha0' := (List.getElem?_eq_some_iff.1 ha0).2
                    have hVn : V ≠ [] := fun h => by rw [h] at hjl; simp at hjl
                    all_goals repeat' (first | (refine Zc ?_ ?_ <;> intro h <;> (try simp [go_sem, hwj, ha0, ha0', hVn, hal, hjl] at h) <;> try omega) | (refine Zi ?_; try simp only [AThen, ABlock]) | (refine Ze ?_; simp +decide only [AThen, ABlock, reduceIte]) | (refine Zt ?_; (try simp [go_sem, hwj, ha0, ha0', hVn, hal, hjl]); all_goals (try simp [loR, lo]); all_goals try exact rfl) | ((first | refine Zq ?_ | refine Zr ?_ | refine Zw ?_ | refine Zx ?_); intro K hK; repeat' (first | ((first | refine Zs ?_ | refine Zl ?_ | refine Z0 ?_ | refine Zd ?_); intro HK hk; simp [go_sem, hwj, ha0, ha0', hVn, hal, hjl]; (repeat refine ⟨by omega, ?_⟩); apply hk; clear hk HK) | ((first | refine Zg ?_ ?_ | refine Zh ?_ ?_ | refine Zp ?_ ?_ | refine Zk ?_ ?_) <;> intro hg <;> simp only [hg] <;> (try simp at hg) <;> try omega)); all_goals try ((first | refine Zn ?_ | refine Zm ?_); apply hK; clear hK K; try simp only [AThen, ABlock])) | refine Zz ?_ | refine Zb ?_)
                    all_goals try exact rfl
                    refine ⟨hjl, trivial, ?_⟩
                    refine Sub.of 2 (by simp) (by first | (simp; done) | (simp [go_sem]; done)) (by simp [go_sem]) ?_ (by simp [go_sem])
                    simp [go_sem]
                  | succ p =>
                    obtain ⟨b0, hb0⟩ : ∃ b, V[p]? = some b := ⟨_, List.getElem?_eq_getElem (by omega)⟩
                    obtain ⟨b, rfl, hbl⟩ := hpa b0 (List.mem_of_getElem? hb0)
                    have hle : rndI b i l.length ≤ rndI a i l.length := by
                      have := List.pairwise_iff_getElem.1 hpw p (p + 1) (by omega) hjl (by omega)
                      rwa [(List.getElem?_eq_some_iff.1 hb0).2, (List.getElem?_eq_some_iff.1 ha0).2] at this
                    have hwp : IntKind.i64.wrap (p : Int) = (p : Int) := wrapI (by omega) (by omega)
                    have hwj2 : IntKind.i64.wrap ((p : Int) + 1 + 1) = (p : Int) + 1 + 1 := wrapI (by omega) (by omega)
                    have ha0' := (List.getElem?_eq_some_iff.1 ha0).2
                    have hpl : p < V.length := by omega
                    have hb0' := (List.getElem?_eq_some_iff.1 hb0).2
                    all_goals repeat' (first | (refine Zc ?_ ?_ <;> intro h <;> (try simp [go_sem, hwj2, ha0', hb0', hal, hwp, hjl] at h) <;> try omega) | (refine Zi ?_; try simp only [AThen, ABlock]) | (refine Ze ?_; simp +decide only [AThen, ABlock, reduceIte]) | (refine Zt ?_; (try simp [go_sem, hwj2, ha0', hb0', hal, hwp, hjl]); all_goals (try simp [loR, lo]); all_goals try exact rfl) | ((first | refine Zq ?_ | refine Zr ?_ | refine Zw ?_ | refine Zx ?_); intro K hK; repeat' (first | ((first | refine Zs ?_ | refine Zl ?_ | refine Z0 ?_ | refine Zd ?_); intro HK hk; simp [go_sem, hwj2, ha0', hb0', hal, hwp, hjl]; (repeat refine ⟨by omega, ?_⟩); apply hk; clear hk HK) | ((first | refine Zg ?_ ?_ | refine Zh ?_ ?_ | refine Zp ?_ ?_ | refine Zk ?_ ?_) <;> intro hg <;> simp only [hg] <;> (try simp at hg) <;> try omega)); all_goals try ((first | refine Zn ?_ | refine Zm ?_); apply hK; clear hK K; try simp only [AThen, ABlock])) | refine Zz ?_ | refine Zb ?_)
                    all_goals try exact rfl
                    (first | refine Zs ?_ | refine Z0 ?_ | refine Zd ?_); intro HK hk; simp [go_sem]; (repeat refine ⟨by omega, ?_⟩); (first | refine ACall.pur rfl (pc_40 a i l.length (by omega) (by omega) hn64) ?_ | refine ACallD.mk rfl (pc_40 a i l.length (by omega) (by omega) hn64) ?_); simp [go_sem, hwj2, ha0', hb0', hal, hwp, hpl]; (repeat refine ⟨by omega, ?_⟩); apply hk; clear hk HK; repeat' (first | ((first | refine Zs ?_ | refine Zl ?_ | refine Z0 ?_ | refine Zd ?_); intro HK hk; simp [go_sem, hwj2, ha0', hb0', hal, hwp, hpl]; (repeat refine ⟨by omega, ?_⟩); apply hk; clear hk HK) | ((first | refine Zg ?_ ?_ | refine Zh ?_ ?_ | refine Zp ?_ ?_ | refine Zk ?_ ?_) <;> intro hg <;> simp only [hg] <;> (try simp at hg) <;> try omega))
                    all_goals try ((first | refine Zn ?_ | refine Zm ?_); apply hK; clear hK K; try simp only [AThen, ABlock])
                    (first | refine Zs ?_ | refine Z0 ?_ | refine Zd ?_); intro HK hk; simp [go_sem]; (repeat refine ⟨by omega, ?_⟩); (first | refine ACall.pur rfl (pc_40 b i l.length (by omega) (by omega) hn64) ?_ | refine ACallD.mk rfl (pc_40 b i l.length (by omega) (by omega) hn64) ?_); simp [go_sem, hwj2, ha0', hb0', hal, hwp, hpl, hle]; (repeat refine ⟨by omega, ?_⟩); apply hk; clear hk HK; repeat' (first | ((first | refine Zs ?_ | refine Zl ?_ | refine Z0 ?_ | refine Zd ?_); intro HK hk; simp [go_sem, hwj2, ha0', hb0', hal, hwp, hpl, hle]; (repeat refine ⟨by omega, ?_⟩); apply hk; clear hk HK) | ((first | refine Zg ?_ ?_ | refine Zh ?_ ?_ | refine Zp ?_ ?_ | refine Zk ?_ ?_) <;> intro hg <;> simp only [hg] <;> (try simp at hg) <;> try omega))
                    all_goals try ((first | refine Zn ?_ | refine Zm ?_); apply hK; clear hK K; try simp only [AThen, ABlock])
                    have hle' : ¬ rndI a i l.length < rndI b i l.length := by omega
                    all_goals repeat' (first | (refine Zc ?_ ?_ <;> intro h <;> (try simp [go_sem, hle', hwj2] at h) <;> try omega) | (refine Zi ?_; try simp only [AThen, ABlock]) | (refine Ze ?_; simp +decide only [AThen, ABlock, reduceIte]) | (refine Zt ?_; (try simp [go_sem, hle', hwj2]); all_goals (try simp [loR, lo]); all_goals try exact rfl) | ((first | refine Zq ?_ | refine Zr ?_ | refine Zw ?_ | refine Zx ?_); intro K hK; repeat' (first | ((first | refine Zs ?_ | refine Zl ?_ | refine Z0 ?_ | refine Zd ?_); intro HK hk; simp [go_sem, hle', hwj2]; (repeat refine ⟨by omega, ?_⟩); apply hk; clear hk HK) | ((first | refine Zg ?_ ?_ | refine Zh ?_ ?_ | refine Zp ?_ ?_ | refine Zk ?_ ?_) <;> intro hg <;> simp only [hg] <;> (try simp at hg) <;> try omega)); all_goals try ((first | refine Zn ?_ | refine Zm ?_); apply hK; clear hK K; try simp only [AThen, ABlock])) | refine Zz ?_ | refine Zb ?_)
                    all_goals try exact rfl
                    refine ⟨hjl, trivial, ?_⟩
                    refine Sub.of 2 (by simp) (by first | (simp; done) | (simp [go_sem]; done)) (by simp [go_sem]) ?_ (by simp [go_sem])
                    simp [go_sem]
                · obtain rfl : j = V.length := by omega
                  all_goals repeat' (first | (refine Zc ?_ ?_ <;> intro h <;> (try simp [go_sem, hws, hmin, hwi] at h) <;> try omega) | (refine Zi ?_; try simp only [AThen, ABlock]) | (refine Ze ?_; simp +decide only [AThen, ABlock, reduceIte]) | (refine Zt ?_; (try simp [go_sem, hws, hmin, hwi]); all_goals (try simp [loR, lo]); all_goals try exact rfl) | ((first | refine Zq ?_ | refine Zr ?_ | refine Zw ?_ | refine Zx ?_); intro K hK; repeat' (first | ((first | refine Zs ?_ | refine Zl ?_ | refine Z0 ?_ | refine Zd ?_); intro HK hk; simp [go_sem, hws, hmin, hwi]; (repeat refine ⟨by omega, ?_⟩); apply hk; clear hk HK) | ((first | refine Zg ?_ ?_ | refine Zh ?_ ?_ | refine Zp ?_ ?_ | refine Zk ?_ ?_) <;> intro hg <;> simp only [hg] <;> (try simp at hg) <;> try omega)); all_goals try ((first | refine Zn ?_ | refine Zm ?_); apply hK; clear hK K; try simp only [AThen, ABlock])) | refine Zz ?_ | refine Zb ?_)
                  all_goals try exact rfl
                  refine ⟨hil, trivial, ?_⟩
                  refine Sub.of 1 (by simp) (by first | (simp; done) | (simp [go_sem]; done)) (by simp [go_sem]) ?_ (by simp [go_sem])
                  simp [go_sem]
          · all_goals repeat' (first | (refine Zc ?_ ?_ <;> intro h <;> (try simp [go_sem] at h) <;> try omega) | (refine Zi ?_; try simp only [AThen, ABlock]) | (refine Ze ?_; simp +decide only [AThen, ABlock, reduceIte]) | (refine Zt ?_; (try simp [go_sem]); all_goals (try simp [loR, lo]); all_goals try exact rfl) | ((first | refine Zq ?_ | refine Zr ?_ | refine Zw ?_ | refine Zx ?_); intro K hK; repeat' (first | ((first | refine Zs ?_ | refine Zl ?_ | refine Z0 ?_ | refine Zd ?_); intro HK hk; simp [go_sem]; (repeat refine ⟨by omega, ?_⟩); apply hk; clear hk HK) | ((first | refine Zg ?_ ?_ | refine Zh ?_ ?_ | refine Zp ?_ ?_ | refine Zk ?_ ?_) <;> intro hg <;> simp only [hg] <;> (try simp at hg) <;> try omega)); all_goals try ((first | refine Zn ?_ | refine Zm ?_); apply hK; clear hK K; try simp only [AThen, ABlock])) | refine Zz ?_ | refine Zb ?_)
            all_goals try exact rfl
end Go.Proofs.Ytogappokeheilaa
