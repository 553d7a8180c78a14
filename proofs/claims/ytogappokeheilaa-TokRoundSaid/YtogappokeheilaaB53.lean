import Derived.Test.YtogappokeheilaaB50
import Derived.Test.YtogappokeheilaaAw30
set_option linter.unusedVariables false
set_option linter.unusedSimpArgs false
set_option maxRecDepth 100000
set_option maxHeartbeats 0
namespace Go.Proofs.Ytogappokeheilaa
open Go.Aw

theorem wantT_len (cs : List UInt8) : ∀ m, (wantT cs m).length ≤ 6 * m
  | 0 => by simp [wantT]
  | m + 1 => by
    have ih := wantT_len cs m
    have := cnt_lt cs m
    rw [wantT, List.length_append]
    simp [delT]; omega
theorem msgsT_succ (i j : Nat) : msgsT i (j + 1) = msgsT i j ++ [msgT i j] := by unfold msgsT; rw [List.range_succ, List.map_append]; rfl
theorem delT_succ (i j : Nat) : delT i (j + 1) = delT i j ++ [⟨i, [UInt8.ofNat i, UInt8.ofNat j]⟩] := by unfold delT; rw [List.range_succ, List.map_append]; rfl
theorem lanesT_succ (cs : List UInt8) (m : Nat) : lanesT cs (m + 1) = lanesT cs m ++ [laneT m (cntT cs m)] := by unfold lanesT; rw [List.range_succ, List.map_append]; rfl
theorem lanesT_len (cs : List UInt8) (m : Nat) : (lanesT cs m).length = m := by simp [lanesT]
theorem msgsT_len (i j : Nat) : (msgsT i j).length = j := by simp [msgsT]
theorem delT_len (i j : Nat) : (delT i j).length = j := by simp [delT]
theorem pc_4 (cs : List UInt8) : PC Try.prog 4 [(false, [bsP cs])] (.one (bB true)) := by
  refine PC.of_ACall (ACall.of_AW (fun args w => Try.call4 args w) Try.func4 rfl (by simp [Try.ntmps4]) ?_)
  simp only [Try.ntmps4, List.length_nil]
  all_goals repeat' (first | (refine Zc ?_ ?_ <;> intro h <;> (try simp [go_sem] at h) <;> try omega) | (refine Zi ?_; try simp only [AThen, ABlock]) | (refine Ze ?_; simp +decide only [AThen, ABlock, reduceIte]) | (refine Zt ?_; (try simp [go_sem]); all_goals (try simp [loR, lo]); all_goals try exact rfl) | ((first | refine Zq ?_ | refine Zr ?_ | refine Zw ?_ | refine Zx ?_); intro K hK; repeat' (first | ((first | refine Zs ?_ | refine Zl ?_ | refine Z0 ?_ | refine Zd ?_); intro HK hk; simp [go_sem]; (repeat refine ⟨by omega, ?_⟩); apply hk; clear hk HK) | ((first | refine Zg ?_ ?_ | refine Zh ?_ ?_ | refine Zp ?_ ?_ | refine Zk ?_ ?_) <;> intro hg <;> simp only [hg] <;> (try simp at hg) <;> try omega)); all_goals try ((first | refine Zn ?_ | refine Zm ?_); apply hK; clear hK K; try simp only [AThen, ABlock])) | refine Zz ?_ | refine Zb ?_)
  all_goals try exact rfl
  (first | refine Zs ?_ | refine Z0 ?_ | refine Zd ?_); intro HK hk; simp [go_sem]; (repeat refine ⟨by omega, ?_⟩); (first | refine ACall.pur rfl (pc_21) ?_ | refine ACallD.mk rfl (pc_21) ?_); simp [go_sem]; (repeat refine ⟨by omega, ?_⟩); apply hk; clear hk HK; repeat' (first | ((first | refine Zs ?_ | refine Zl ?_ | refine Z0 ?_ | refine Zd ?_); intro HK hk; simp [go_sem]; (repeat refine ⟨by omega, ?_⟩); apply hk; clear hk HK) | ((first | refine Zg ?_ ?_ | refine Zh ?_ ?_ | refine Zp ?_ ?_ | refine Zk ?_ ?_) <;> intro hg <;> simp only [hg] <;> (try simp at hg) <;> try omega))
  all_goals try ((first | refine Zn ?_ | refine Zm ?_); apply hK; clear hK K; try simp only [AThen, ABlock])
  by_cases h28 : 2 ≤ cs.length ∧ cs.length ≤ 8
  · obtain ⟨h2, h8⟩ := h28
    have hn2 : ¬ cs.length < 2 := by omega
    have hn8 : ¬ 8 < cs.length := by omega
    all_goals repeat' (first | (refine Zc ?_ ?_ <;> intro h <;> (try simp [go_sem, hn2, hn8] at h) <;> try omega) | (refine Zi ?_; try simp only [AThen, ABlock]) | (refine Ze ?_; simp +decide only [AThen, ABlock, reduceIte]) | (refine Zt ?_; (try simp [go_sem, hn2, hn8]); all_goals (try simp [loR, lo]); all_goals try exact rfl) | ((first | refine Zq ?_ | refine Zr ?_ | refine Zw ?_ | refine Zx ?_); intro K hK; repeat' (first | ((first | refine Zs ?_ | refine Zl ?_ | refine Z0 ?_ | refine Zd ?_); intro HK hk; simp [go_sem, hn2, hn8]; (repeat refine ⟨by omega, ?_⟩); apply hk; clear hk HK) | ((first | refine Zg ?_ ?_ | refine Zh ?_ ?_ | refine Zp ?_ ?_ | refine Zk ?_ ?_) <;> intro hg <;> simp only [hg] <;> (try simp at hg) <;> try omega)); all_goals try ((first | refine Zn ?_ | refine Zm ?_); apply hK; clear hK K; try simp only [AThen, ABlock])) | refine Zz ?_ | refine Zb ?_)
    all_goals try exact rfl
    refine AW.weak (Sub.promote 4 47 5 (by decide) rfl) ?_
    refine AW.weak (Sub.promote 5 51 2 (by decide) rfl) ?_
    refine AW.upto cs.length (fun _ => True) (fun k => [(6, .c (.p (.int .i64 k))), (5, .c (.own 1 (wantT cs k).length)), (4, .c (.own 0 k)), (3, .c (.p (.bool true))), (0, .c (.p (bsP cs)))]) (fun k => [.arr 47 5 0 ((lanesT cs k).map laneP), .arr 51 2 0 ((wantT cs k).map delivP)]) trivial ?_ fun k hk _ => ?_
    · refine Sub.of 2 (by simp) (by first | (simp [lanesT, wantT]; done) | (simp [go_sem, lanesT, wantT]; done)) (by simp [go_sem]) ?_ (by simp [go_sem])
      simp [go_sem, lanesT, wantT]
    · have hwk := wrapS (show (k : Int) < 9223372036854775807 by omega)
      by_cases hkl : k < cs.length
      · obtain ⟨c, hc⟩ : ∃ c, cs[k]? = some c := ⟨_, List.getElem?_eq_getElem hkl⟩
        have hcn : cntT cs k = c.toNat % 7 := by unfold cntT; rw [List.getD_eq_getElem?_getD, hc]; rfl
        have hc7 := cnt_lt cs k
        obtain ⟨n, hn⟩ : ∃ n, n = cntT cs k := ⟨_, rfl⟩
        have hwc : IntKind.i64.wrap (c.toNat : Int) = (c.toNat : Int) := wrapI (by omega) (by have := c.toNat_lt; omega)
        have hrem : (c.toNat : Int).tmod 7 = (n : Int) := by rw [hn, hcn, Int.tmod_eq_emod_of_nonneg (by omega)]; omega
        have hwl := wantT_len cs k
        obtain ⟨W, hW⟩ : ∃ W, W = (wantT cs k).length := ⟨_, rfl⟩
        all_goals repeat' (first | (refine Zc ?_ ?_ <;> intro h <;> (try simp [go_sem, hc, hwc, hrem] at h) <;> try omega) | (refine Zi ?_; try simp only [AThen, ABlock]) | (refine Ze ?_; simp +decide only [AThen, ABlock, reduceIte]) | (refine Zt ?_; (try simp [go_sem, hc, hwc, hrem]); all_goals (try simp [loR, lo]); all_goals try exact rfl) | ((first | refine Zq ?_ | refine Zr ?_ | refine Zw ?_ | refine Zx ?_); intro K hK; repeat' (first | ((first | refine Zs ?_ | refine Zl ?_ | refine Z0 ?_ | refine Zd ?_); intro HK hk; simp [go_sem, hc, hwc, hrem]; (repeat refine ⟨by omega, ?_⟩); apply hk; clear hk HK) | ((first | refine Zg ?_ ?_ | refine Zh ?_ ?_ | refine Zp ?_ ?_ | refine Zk ?_ ?_) <;> intro hg <;> simp only [hg] <;> (try simp at hg) <;> try omega)); all_goals try ((first | refine Zn ?_ | refine Zm ?_); apply hK; clear hK K; try simp only [AThen, ABlock])) | refine Zz ?_ | refine Zb ?_)
        all_goals try exact rfl
        rw [← hn] at hc7
        rw [← hW] at hwl ⊢
        refine AW.weak (Sub.promoteAt 2 0 49 5 (by decide) rfl rfl) ?_
        simp only [List.set_cons_zero, List.set_cons_succ, List.cons_append, List.nil_append, List.length_cons, List.length_nil, Nat.zero_add, Nat.reduceAdd]
        refine AW.upto n (fun _ => True) (fun j => [(9, .c (.p (.int .i64 j))), (8, .c (.p (.int .i64 n))), (7, .c (.ptr 2 0)), (6, .c (.p (.int .i64 k))), (5, .c (.own 1 (W + j))), (4, .c (.own 0 k)), (3, .c (.p (.bool true))), (0, .c (.p (bsP cs)))])
          (fun j => [.arr 47 5 0 ((lanesT cs k).map laneP), .arr 51 2 0 ((wantT cs k ++ delT k j).map delivP), .var [.own 3 j, .p (.int .i64 0), .p (.int .i64 0), .p (.int .i64 0), .p (.sl true [])], .arr 49 5 0 ((msgsT k j).map entP)]) trivial ?_ fun j hj _ => ?_
        · refine Sub.of 4 (by simp) (by first | (simp [delT, msgsT, hW]; done) | (simp [go_sem, delT, msgsT, hW]; done)) (by simp [go_sem]) ?_ (by simp [go_sem])
          simp [go_sem, delT, msgsT, hW]
        · have hwj := wrapS (show (j : Int) < 9223372036854775807 by omega)
          have hl1 := lanesT_len cs k
          have hl2 := msgsT_len k j
          have hl3 := delT_len k j
          have hu1 : IntKind.u8.wrap (k : Int) = (k : Int) := by unfold IntKind.wrap; simp [IntKind.bits, IntKind.signed]; omega
          by_cases hjn : j < n
          · have hjn' : ¬ n ≤ j := by omega
            have hu2 : IntKind.u8.wrap (j : Int) = (j : Int) := by unfold IntKind.wrap; simp [IntKind.bits, IntKind.signed]; omega
            have hk2 : k % 256 = k := Nat.mod_eq_of_lt (by omega)
            have hj2 : j % 256 = j := Nat.mod_eq_of_lt (by omega)
            all_goals repeat' (first | (refine Zc ?_ ?_ <;> intro h <;> (try simp [go_sem, hwj, hu1, hu2, hW, hl1, hl2, hl3] at h) <;> try omega) | (refine Zi ?_; try simp only [AThen, ABlock]) | (refine Ze ?_; simp +decide only [AThen, ABlock, reduceIte]) | (refine Zt ?_; (try simp [go_sem, hwj, hu1, hu2, hW, hl1, hl2, hl3]); all_goals (try simp [loR, lo]); all_goals try exact rfl) | ((first | refine Zq ?_ | refine Zr ?_ | refine Zw ?_ | refine Zx ?_); intro K hK; repeat' (first | ((first | refine Zs ?_ | refine Zl ?_ | refine Z0 ?_ | refine Zd ?_); intro HK hk; simp [go_sem, hwj, hu1, hu2, hW, hl1, hl2, hl3]; (repeat refine ⟨by omega, ?_⟩); apply hk; clear hk HK) | ((first | refine Zg ?_ ?_ | refine Zh ?_ ?_ | refine Zp ?_ ?_ | refine Zk ?_ ?_) <;> intro hg <;> simp only [hg] <;> (try simp at hg) <;> try omega)); all_goals try ((first | refine Zn ?_ | refine Zm ?_); apply hK; clear hK K; try simp only [AThen, ABlock])) | refine Zz ?_ | refine Zb ?_)
            all_goals try exact rfl
            refine ⟨hjn, trivial, ?_⟩
            refine Sub.of 4 (by simp) (by first | (simp [msgsT_succ, delT_succ, msgT, encB, hk2, hj2, hW, hu1, hu2, Nat.add_assoc]; done) | (simp [go_sem, msgsT_succ, delT_succ, msgT, encB, hk2, hj2, hW, hu1, hu2, Nat.add_assoc]; done)) (by simp [go_sem]) ?_ (by simp [go_sem])
            simp [go_sem, msgsT_succ, delT_succ, msgT, encB, hk2, hj2, hW, hu1, hu2, Nat.add_assoc]
          · obtain rfl : j = n := by omega
            have hwn : IntKind.i64.wrap ((j : Int) + 1) = (j : Int) + 1 := hwj
            have hlt : laneT k j = ⟨msgsT k j ++ [tkT j], zP⟩ := rfl
            all_goals repeat' (first | (refine Zc ?_ ?_ <;> intro h <;> (try simp [go_sem, hwj, hwk, hW, hl1, hl2, hl3] at h) <;> try omega) | (refine Zi ?_; try simp only [AThen, ABlock]) | (refine Ze ?_; simp +decide only [AThen, ABlock, reduceIte]) | (refine Zt ?_; (try simp [go_sem, hwj, hwk, hW, hl1, hl2, hl3]); all_goals (try simp [loR, lo]); all_goals try exact rfl) | ((first | refine Zq ?_ | refine Zr ?_ | refine Zw ?_ | refine Zx ?_); intro K hK; repeat' (first | ((first | refine Zs ?_ | refine Zl ?_ | refine Z0 ?_ | refine Zd ?_); intro HK hk; simp [go_sem, hwj, hwk, hW, hl1, hl2, hl3]; (repeat refine ⟨by omega, ?_⟩); apply hk; clear hk HK) | ((first | refine Zg ?_ ?_ | refine Zh ?_ ?_ | refine Zp ?_ ?_ | refine Zk ?_ ?_) <;> intro hg <;> simp only [hg] <;> (try simp at hg) <;> try omega)); all_goals try ((first | refine Zn ?_ | refine Zm ?_); apply hK; clear hK K; try simp only [AThen, ABlock])) | refine Zz ?_ | refine Zb ?_)
            all_goals try exact rfl
            refine ⟨hkl, trivial, ?_⟩
            have hwt : wantT cs (k + 1) = wantT cs k ++ delT k j := by rw [wantT, ← hn]
            have hla : lanesT cs (k + 1) = lanesT cs k ++ [laneT k j] := by rw [lanesT_succ, ← hn]
            refine Sub.of 2 (by simp) (by first | (simp [hwt, hla, hlt, tkT, hl3]; done) | (simp [go_sem, hwt, hla, hlt, tkT, hl3]; done)) (by simp [go_sem]) ?_ (by simp [go_sem])
            simp [go_sem, hwt, hla, hlt, tkT, hl3]
      · obtain rfl : k = cs.length := by omega
        have hll := lanesT_len cs cs.length
        have hwl := wantT_len cs cs.length
        all_goals repeat' (first | (refine Zc ?_ ?_ <;> intro h <;> (try simp [go_sem] at h) <;> try omega) | (refine Zi ?_; try simp only [AThen, ABlock]) | (refine Ze ?_; simp +decide only [AThen, ABlock, reduceIte]) | (refine Zt ?_; (try simp [go_sem]); all_goals (try simp [loR, lo]); all_goals try exact rfl) | ((first | refine Zq ?_ | refine Zr ?_ | refine Zw ?_ | refine Zx ?_); intro K hK; repeat' (first | ((first | refine Zs ?_ | refine Zl ?_ | refine Z0 ?_ | refine Zd ?_); intro HK hk; simp [go_sem]; (repeat refine ⟨by omega, ?_⟩); apply hk; clear hk HK) | ((first | refine Zg ?_ ?_ | refine Zh ?_ ?_ | refine Zp ?_ ?_ | refine Zk ?_ ?_) <;> intro hg <;> simp only [hg] <;> (try simp at hg) <;> try omega)); all_goals try ((first | refine Zn ?_ | refine Zm ?_); apply hK; clear hK K; try simp only [AThen, ABlock])) | refine Zz ?_ | refine Zb ?_)
        all_goals try exact rfl
        (first | refine Zs ?_ | refine Zl ?_ | refine Z0 ?_ | refine Zd ?_); intro HK hk; simp [go_sem]
        refine ACall.via ?_; simp only [frzVs_cons, frzVs_nil, frzV_c, frzV_agg, frzs_cons, frzs_nil, frzs_map', frzC_p, frzC_own, frzC_clo, lo, List.getElem?_cons_zero, List.getElem?_cons_succ, List.length_map, List.length_append, List.length_cons, List.length_nil, Nat.zero_add, Nat.add_zero, reduceIte, List.set_cons_zero, List.set_cons_succ, hll]
        refine ExPC.mk (pc_23 ⟨0, 0⟩ (lanesT cs cs.length) (may_lanesT cs h2 h8)) ?_; simp [go_sem, round_all cs (by omega)]; (repeat refine ⟨by omega, ?_⟩); apply hk; clear hk HK; repeat' (first | ((first | refine Zs ?_ | refine Zl ?_ | refine Z0 ?_ | refine Zd ?_); intro HK hk; simp [go_sem, round_all cs (by omega)]; (repeat refine ⟨by omega, ?_⟩); apply hk; clear hk HK) | ((first | refine Zg ?_ ?_ | refine Zh ?_ ?_ | refine Zp ?_ ?_ | refine Zk ?_ ?_) <;> intro hg <;> simp only [hg] <;> (try simp at hg) <;> try omega))
        all_goals try ((first | refine Zn ?_ | refine Zm ?_); apply hK; clear hK K; try simp only [AThen, ABlock])
        all_goals repeat' (first | (refine Zc ?_ ?_ <;> intro h <;> (try simp [go_sem, hll] at h) <;> try omega) | (refine Zi ?_; try simp only [AThen, ABlock]) | (refine Ze ?_; simp +decide only [AThen, ABlock, reduceIte]) | (refine Zt ?_; (try simp [go_sem, hll]); all_goals (try simp [loR, lo]); all_goals try exact rfl) | ((first | refine Zq ?_ | refine Zr ?_ | refine Zw ?_ | refine Zx ?_); intro K hK; repeat' (first | ((first | refine Zs ?_ | refine Zl ?_ | refine Z0 ?_ | refine Zd ?_); intro HK hk; simp [go_sem, hll]; (repeat refine ⟨by omega, ?_⟩); apply hk; clear hk HK) | ((first | refine Zg ?_ ?_ | refine Zh ?_ ?_ | refine Zp ?_ ?_ | refine Zk ?_ ?_) <;> intro hg <;> simp only [hg] <;> (try simp at hg) <;> try omega)); all_goals try ((first | refine Zn ?_ | refine Zm ?_); apply hK; clear hK K; try simp only [AThen, ABlock])) | refine Zz ?_ | refine Zb ?_)
        all_goals try exact rfl
        refine AW.upto cs.length (fun _ => True) (fun k => [(14, .c (.p (.int .i64 k))), (13, .c (.p (dvP (wantT cs cs.length)))), (12, .c (.p (lnP (List.replicate cs.length ⟨[], zP⟩)))), (11, .c (.ptr 2 0)), (5, .c (.own 1 (wantT cs cs.length).length)), (3, .c (.p (.bool true)))])
          (fun _ => [.arr 47 5 cs.length ((lanesT cs cs.length).map laneP), .arr 51 2 0 ((wantT cs cs.length).map delivP), .var [.p (.int .i64 0), .p (.int .i64 0)]]) trivial ?_ fun i hi _ => ?_
        · refine Sub.of 3 (by simp) (by first | (simp [hll]; done) | (simp [go_sem, hll]; done)) (by simp [go_sem]) ?_ (by simp [go_sem])
          simp [go_sem, hll]
        · have hwi := wrapS (show (i : Int) < 9223372036854775807 by omega)
          by_cases hin : i < cs.length
          · have hx : (List.replicate cs.length (⟨[], zP⟩ : Lane))[i]? = some ⟨[], zP⟩ := by rw [List.getElem?_replicate, if_pos hin]
            all_goals repeat' (first | (refine Zc ?_ ?_ <;> intro h <;> (try simp [go_sem, hx, hin, hwi] at h) <;> try omega) | (refine Zi ?_; try simp only [AThen, ABlock]) | (refine Ze ?_; simp +decide only [AThen, ABlock, reduceIte]) | (refine Zt ?_; (try simp [go_sem, hx, hin, hwi]); all_goals (try simp [loR, lo]); all_goals try exact rfl) | ((first | refine Zq ?_ | refine Zr ?_ | refine Zw ?_ | refine Zx ?_); intro K hK; repeat' (first | ((first | refine Zs ?_ | refine Zl ?_ | refine Z0 ?_ | refine Zd ?_); intro HK hk; simp [go_sem, hx, hin, hwi]; (repeat refine ⟨by omega, ?_⟩); apply hk; clear hk HK) | ((first | refine Zg ?_ ?_ | refine Zh ?_ ?_ | refine Zp ?_ ?_ | refine Zk ?_ ?_) <;> intro hg <;> simp only [hg] <;> (try simp at hg) <;> try omega)); all_goals try ((first | refine Zn ?_ | refine Zm ?_); apply hK; clear hK K; try simp only [AThen, ABlock])) | refine Zz ?_ | refine Zb ?_)
            all_goals try exact rfl
            refine ⟨hin, trivial, ?_⟩
            refine Sub.of 3 (by simp) (by first | (simp; done) | (simp [go_sem]; done)) (by simp [go_sem]) ?_ (by simp [go_sem])
            simp [go_sem]
          · obtain rfl : i = cs.length := by omega
            all_goals repeat' (first | (refine Zc ?_ ?_ <;> intro h <;> (try simp [go_sem] at h) <;> try omega) | (refine Zi ?_; try simp only [AThen, ABlock]) | (refine Ze ?_; simp +decide only [AThen, ABlock, reduceIte]) | (refine Zt ?_; (try simp [go_sem]); all_goals (try simp [loR, lo]); all_goals try exact rfl) | ((first | refine Zq ?_ | refine Zr ?_ | refine Zw ?_ | refine Zx ?_); intro K hK; repeat' (first | ((first | refine Zs ?_ | refine Zl ?_ | refine Z0 ?_ | refine Zd ?_); intro HK hk; simp [go_sem]; (repeat refine ⟨by omega, ?_⟩); apply hk; clear hk HK) | ((first | refine Zg ?_ ?_ | refine Zh ?_ ?_ | refine Zp ?_ ?_ | refine Zk ?_ ?_) <;> intro hg <;> simp only [hg] <;> (try simp at hg) <;> try omega)); all_goals try ((first | refine Zn ?_ | refine Zm ?_); apply hK; clear hK K; try simp only [AThen, ABlock])) | refine Zz ?_ | refine Zb ?_)
            all_goals try exact rfl
            (first | refine Zs ?_ | refine Zl ?_ | refine Z0 ?_ | refine Zd ?_); intro HK hk; simp [go_sem, eqGuard_turn]
            refine .inr ⟨aggEq_self ⟨0, 0⟩, ?_⟩
            (repeat refine ⟨by omega, ?_⟩); apply hk; clear hk HK; repeat' (first | ((first | refine Zs ?_ | refine Zl ?_ | refine Z0 ?_ | refine Zd ?_); intro HK hk; simp [go_sem]; (repeat refine ⟨by omega, ?_⟩); apply hk; clear hk HK) | ((first | refine Zg ?_ ?_ | refine Zh ?_ ?_ | refine Zp ?_ ?_ | refine Zk ?_ ?_) <;> intro hg <;> simp only [hg] <;> (try simp at hg) <;> try omega))
            all_goals try ((first | refine Zn ?_ | refine Zm ?_); apply hK; clear hK K; try simp only [AThen, ABlock])
            (first | refine Zs ?_ | refine Zl ?_ | refine Z0 ?_ | refine Zd ?_); intro HK hk; simp [go_sem]
            refine ACall.via ?_; simp only [frzVs_cons, frzVs_nil, frzV_c, frzV_agg, frzs_cons, frzs_nil, frzs_map', frzC_p, frzC_own, frzC_clo, lo, List.getElem?_cons_zero, List.getElem?_cons_succ, List.length_map, List.length_append, List.length_cons, List.length_nil, Nat.zero_add, Nat.add_zero, reduceIte, List.set_cons_zero, List.set_cons_succ]
            refine ExPC.mk (pc_28 (wantT cs cs.length) (wantT cs cs.length)) ?_; simp [go_sem]; (repeat refine ⟨by omega, ?_⟩); apply hk; clear hk HK; repeat' (first | ((first | refine Zs ?_ | refine Zl ?_ | refine Z0 ?_ | refine Zd ?_); intro HK hk; simp [go_sem]; (repeat refine ⟨by omega, ?_⟩); apply hk; clear hk HK) | ((first | refine Zg ?_ ?_ | refine Zh ?_ ?_ | refine Zp ?_ ?_ | refine Zk ?_ ?_) <;> intro hg <;> simp only [hg] <;> (try simp at hg) <;> try omega))
            all_goals try ((first | refine Zn ?_ | refine Zm ?_); apply hK; clear hK K; try simp only [AThen, ABlock])
            all_goals repeat' (first | (refine Zc ?_ ?_ <;> intro h <;> (try simp [go_sem] at h) <;> try omega) | (refine Zi ?_; try simp only [AThen, ABlock]) | (refine Ze ?_; simp +decide only [AThen, ABlock, reduceIte]) | (refine Zt ?_; (try simp [go_sem]); all_goals (try simp [loR, lo]); all_goals try exact rfl) | ((first | refine Zq ?_ | refine Zr ?_ | refine Zw ?_ | refine Zx ?_); intro K hK; repeat' (first | ((first | refine Zs ?_ | refine Zl ?_ | refine Z0 ?_ | refine Zd ?_); intro HK hk; simp [go_sem]; (repeat refine ⟨by omega, ?_⟩); apply hk; clear hk HK) | ((first | refine Zg ?_ ?_ | refine Zh ?_ ?_ | refine Zp ?_ ?_ | refine Zk ?_ ?_) <;> intro hg <;> simp only [hg] <;> (try simp at hg) <;> try omega)); all_goals try ((first | refine Zn ?_ | refine Zm ?_); apply hK; clear hK K; try simp only [AThen, ABlock])) | refine Zz ?_ | refine Zb ?_)
            all_goals try exact rfl
  · all_goals repeat' (first | (refine Zc ?_ ?_ <;> intro h <;> (try simp [go_sem] at h) <;> try omega) | (refine Zi ?_; try simp only [AThen, ABlock]) | (refine Ze ?_; simp +decide only [AThen, ABlock, reduceIte]) | (refine Zt ?_; (try simp [go_sem]); all_goals (try simp [loR, lo]); all_goals try exact rfl) | ((first | refine Zq ?_ | refine Zr ?_ | refine Zw ?_ | refine Zx ?_); intro K hK; repeat' (first | ((first | refine Zs ?_ | refine Zl ?_ | refine Z0 ?_ | refine Zd ?_); intro HK hk; simp [go_sem]; (repeat refine ⟨by omega, ?_⟩); apply hk; clear hk HK) | ((first | refine Zg ?_ ?_ | refine Zh ?_ ?_ | refine Zp ?_ ?_ | refine Zk ?_ ?_) <;> intro hg <;> simp only [hg] <;> (try simp at hg) <;> try omega)); all_goals try ((first | refine Zn ?_ | refine Zm ?_); apply hK; clear hK K; try simp only [AThen, ABlock])) | refine Zz ?_ | refine Zb ?_)
    all_goals try exact rfl
    trace_state
    all_goals (exfalso; omega)
end Go.Proofs.Ytogappokeheilaa
