import Derived.Test.YtogappokeheilaaB63
import Derived.Test.YtogappokeheilaaB38
set_option linter.unusedVariables false
set_option linter.unusedSimpArgs false
set_option maxRecDepth 100000
set_option maxHeartbeats 0
namespace Go.Proofs.Ytogappokeheilaa
open Go.Aw

abbrev zl (k : Nat) : List Lane := List.replicate k zeroL
theorem zl_get {k i : Nat} (h : i < k) : (zl k)[i]? = some zeroL := by unfold zl; rw [List.getElem?_replicate, if_pos h]
theorem zl_getD (k i : Nat) : (zl k).getD i zeroL = zeroL := by
  rw [List.getD_eq_getElem?_getD]; unfold zl; rw [List.getElem?_replicate]; split <;> rfl
theorem zl_may {k w U : Nat} (h2 : 2 ≤ k) (h64 : k ≤ 64) (hw : w < k) (hU : U < 256) : mayT ⟨w, U⟩ (zl k) = true := by
  unfold mayT lanesF
  have hl : (zl k).length = k := List.length_replicate
  simp only [Bool.and_eq_true, decide_eq_true_eq, List.all_eq_true, hl]
  refine ⟨⟨by omega, fun x hx => ?_⟩, h2, by omega, by omega, by omega, by omega⟩
  rw [List.eq_of_mem_replicate hx]; decide
theorem zl_mu : ∀ k, mu (zl k) = 0
  | 0 => rfl
  | k + 1 => by
    have ih := zl_mu k
    unfold mu zl at *
    rw [List.replicate_succ, List.map_cons, List.sum_cons, ih]; rfl
theorem zl_tot : ∀ k, tot (zl k) = 0
  | 0 => rfl
  | k + 1 => by
    have ih := zl_tot k
    unfold tot zl at *
    rw [List.replicate_succ, List.map_cons, List.sum_cons, ih]; rfl
theorem zl_walk (g k : Nat) (t : Turn) : walkE g t (zl k) = ⟨t, zl k, []⟩ := by
  unfold walkE
  split
  · unfold walkG; rw [zl_mu]; rfl
  · unfold walkF; rw [zl_tot]; rfl
theorem zl_wait (k me : Nat) : ∀ j, waitL (zl k) me j = []
  | 0 => rfl
  | j + 1 => by rw [waitL, zl_wait k me j, zl_getD]; rfl
theorem zl_say (g k i w : Nat) (u q : Int) : (sayE g ⟨w, u⟩ (zl k) i q).2 = (decide (g ≠ 0) && decide (i = w)) := by
  unfold sayE
  by_cases hg : g = 0
  · rw [if_pos hg]
    have hs : someQ ⟨w, u⟩ (zl k) i q = [] := by unfold someQ; rw [zl_wait]; simp
    unfold sayQ
    rw [hs]
    simp [hg]
  · rw [if_neg hg, zl_getD]
    unfold sayF ownF
    by_cases h : i = w
    · simp [h, hg, zeroL]
    · have : ¬ (w : Int) = i := by omega
      simp [h, this]
theorem zl_mayE (g k i w : Nat) (u q : Int) : mayE g ⟨w, u⟩ (zl k) i q = (decide (g = 0) || (decide (i = w) && decide (u < q))) := by
  unfold mayE
  by_cases hg : g = 0
  · rw [if_pos hg, decide_eq_true hg]; rfl
  · rw [if_neg hg, zl_getD, decide_eq_false hg]
    unfold mayS ownF
    by_cases h : i = w
    · simp [h, zeroL]
    · have : ¬ (w : Int) = i := by omega
      simp [h, this]
theorem pc_19 (n who used qu : UInt8) : PC Try.prog 19 [(true, [.int .u8 n.toNat, .int .u8 who.toNat, .int .u8 used.toNat, .int .u8 qu.toNat])] (.one (bB true)) := by
  have hwn : IntKind.i64.wrap (n.toNat : Int) = (n.toNat : Int) := wrapI (by omega) (by have := n.toNat_lt; omega)
  have hww : IntKind.i64.wrap (who.toNat : Int) = (who.toNat : Int) := wrapI (by omega) (by have := who.toNat_lt; omega)
  have hwu : IntKind.i64.wrap (used.toNat : Int) = (used.toNat : Int) := wrapI (by omega) (by have := used.toNat_lt; omega)
  have hwq : IntKind.i64.wrap (qu.toNat : Int) = (qu.toNat : Int) := wrapI (by omega) (by have := qu.toNat_lt; omega)
  obtain ⟨a, ha, ha8⟩ : ∃ a : Nat, (n.toNat : Int).tmod 8 = (a : Int) ∧ a < 8 := ⟨n.toNat % 8, by rw [Int.tmod_eq_emod_of_nonneg (by omega)]; omega, by omega⟩
  obtain ⟨k, hk⟩ : ∃ k, k = 2 + a := ⟨_, rfl⟩
  have hwk : IntKind.i64.wrap (2 + (a : Int)) = (k : Int) := by rw [wrapI (by omega) (by omega)]; omega
  obtain ⟨w, hw, hwl⟩ : ∃ w : Nat, (who.toNat : Int).tmod (k : Int) = (w : Int) ∧ w < k := ⟨who.toNat % k, by rw [Int.tmod_eq_emod_of_nonneg (by omega)]; omega, Nat.mod_lt _ (by omega)⟩
  obtain ⟨q, hq, hq63⟩ : ∃ q : Nat, (qu.toNat : Int).tmod 64 = (q : Int) ∧ q ≤ 63 := ⟨qu.toNat % 64, by rw [Int.tmod_eq_emod_of_nonneg (by omega)]; omega, by omega⟩
  have hw1 : IntKind.i64.wrap (1 + (q : Int)) = 1 + (q : Int) := wrapI (by omega) (by omega)
  have hk0 : ¬ k = 0 := by omega
  have hk29 : 2 ≤ k ∧ k ≤ 9 := by omega
  have hU : used.toNat < 256 := used.toNat_lt
  generalize used.toNat = U at *
  refine PC.of_ACall (ACall.of_AW (fun args w => Try.call19 args w) Try.func19 rfl (by simp [Try.ntmps19]) ?_)
  simp only [Try.ntmps19, List.length_nil]
  all_goals repeat' (first | (refine Zc ?_ ?_ <;> intro h <;> (try simp [go_sem] at h) <;> try omega) | (refine Zi ?_; try simp only [AThen, ABlock]) | (refine Ze ?_; simp +decide only [AThen, ABlock, reduceIte]) | (refine Zt ?_; (try simp [go_sem]); all_goals (try simp [loR, lo]); all_goals try exact rfl) | ((first | refine Zq ?_ | refine Zr ?_ | refine Zw ?_ | refine Zx ?_); intro K hK; repeat' (first | ((first | with_reducible refine Z0 ?_ | with_reducible refine Zd ?_ | refine Zs ?_ | refine Zl ?_); intro HK hk; simp [go_sem]; (repeat refine ⟨by omega, ?_⟩); apply hk; clear hk HK) | ((first | ((with_reducible refine Gd ?_); first | refine Zh ?_ ?_ | refine Zk ?_ ?_) | ((with_reducible refine Ga ?_); first | refine Zg ?_ ?_ | refine Zp ?_ ?_)) <;> intro hg <;> simp only [hg] <;> (try simp at hg) <;> try omega)); all_goals try ((first | with_reducible refine Zn ?_ | refine Zm ?_); apply hK; clear hK K; try simp only [AThen, ABlock])) | refine Zz ?_ | refine Zb ?_)
  all_goals try exact rfl
  (first | with_reducible refine Z0 ?_ | with_reducible refine Zd ?_ | refine Zs ?_); intro HK hk; simp [go_sem]; (repeat refine ⟨by omega, ?_⟩); (first | refine ACall.pur rfl (pc_66) ?_ | refine ACallD.mk rfl (pc_66) ?_); simp [go_sem]; (repeat refine ⟨by omega, ?_⟩); apply hk; clear hk HK; repeat' (first | ((first | with_reducible refine Z0 ?_ | with_reducible refine Zd ?_ | refine Zs ?_ | refine Zl ?_); intro HK hk; simp [go_sem]; (repeat refine ⟨by omega, ?_⟩); apply hk; clear hk HK) | ((first | ((with_reducible refine Gd ?_); first | refine Zh ?_ ?_ | refine Zk ?_ ?_) | ((with_reducible refine Ga ?_); first | refine Zg ?_ ?_ | refine Zp ?_ ?_)) <;> intro hg <;> simp only [hg] <;> (try simp at hg) <;> try omega))
  all_goals try ((first | with_reducible refine Zn ?_ | refine Zm ?_); apply hK; clear hK K; try simp only [AThen, ABlock])
  all_goals repeat' (first | (refine Zc ?_ ?_ <;> intro h <;> (try simp [go_sem, hwn, hww, hwu, hwq, ha, hwk, hw, hq, hw1, hk0] at h) <;> try omega) | (refine Zi ?_; try simp only [AThen, ABlock]) | (refine Ze ?_; simp +decide only [AThen, ABlock, reduceIte]) | (refine Zt ?_; (try simp [go_sem, hwn, hww, hwu, hwq, ha, hwk, hw, hq, hw1, hk0]); all_goals (try simp [loR, lo]); all_goals try exact rfl) | ((first | refine Zq ?_ | refine Zr ?_ | refine Zw ?_ | refine Zx ?_); intro K hK; repeat' (first | ((first | with_reducible refine Z0 ?_ | with_reducible refine Zd ?_ | refine Zs ?_ | refine Zl ?_); intro HK hk; simp [go_sem, hwn, hww, hwu, hwq, ha, hwk, hw, hq, hw1, hk0]; (repeat refine ⟨by omega, ?_⟩); apply hk; clear hk HK) | ((first | ((with_reducible refine Gd ?_); first | refine Zh ?_ ?_ | refine Zk ?_ ?_) | ((with_reducible refine Ga ?_); first | refine Zg ?_ ?_ | refine Zp ?_ ?_)) <;> intro hg <;> simp only [hg] <;> (try simp at hg) <;> try omega)); all_goals try ((first | with_reducible refine Zn ?_ | refine Zm ?_); apply hK; clear hK K; try simp only [AThen, ABlock])) | refine Zz ?_ | refine Zb ?_)
  all_goals try exact rfl
  obtain ⟨hk2, hk9⟩ := hk29
  have hm := zl_may (w := w) (U := U) hk2 (by omega) hwl hU
  obtain ⟨Z, hZ⟩ : ∃ Z, Z = zl k := ⟨_, rfl⟩
  have hkl : Z.length = k := by rw [hZ]; exact List.length_replicate
  have hzp : List.replicate k [PV.sl false [], .int .i64 0, .int .i64 0, .int .i64 0, .sl false []] = List.map laneP Z := by rw [hZ]; simp [zl]; right; rfl
  have hwalk : ∀ g, walkE g ⟨(w : Int), (U : Int)⟩ Z = ⟨⟨(w : Int), (U : Int)⟩, Z, []⟩ := fun g => by rw [hZ]; exact zl_walk g k _
  have hsay : ∀ g i q, (sayE g ⟨(w : Int), (U : Int)⟩ Z i q).2 = (decide (g ≠ 0) && decide (i = w)) := fun g i q => by rw [hZ]; exact zl_say g k i w _ q
  have hmay : ∀ g i q, mayE g ⟨(w : Int), (U : Int)⟩ Z i q = (decide (g = 0) || (decide (i = w) && decide ((U : Int) < q))) := fun g i q => by rw [hZ]; exact zl_mayE g k i w _ q
  have hok : ∀ x ∈ Z, rightF x = true ∧ x.L.length ≤ 80 := fun x hx => by rw [hZ] at hx; rw [List.eq_of_mem_replicate hx]; decide
  have h71 : PC Try.prog 71 [bLs Z] (.tup [bLs Z, bDs []]) := by
    have := pc_71 Z hok (by omega)
    rw [hkl, hZ, restN_nil] at this; rw [hZ]; exact this
  rw [← hZ] at hm
  clear hZ
  refine AW.upto 2 (fun _ => True) (fun e => [(12, .c (.p (.int .i64 e))), (11, .c (.p (.int .i64 (1 + (q : Int))))), (10, .c (.own 2 k)), (9, .c (.ptr 1 0)), (8, .c (.p (.int .i64 k))), (7, .c (.p (.bool true)))])
    (fun e => [.var [.p (.int .u8 n.toNat), .p (.int .u8 who.toNat), .p (.int .u8 U), .p (.int .u8 qu.toNat)], .var [.p (.int .i64 w), .p (.int .i64 U)], .arr 47 5 (if e = 0 then 0 else k) (List.map laneP Z)]) trivial ?_ fun e he _ => ?_
  · refine Sub.of 3 (by simp) (by first | (simp [hzp]; done) | (simp [go_sem, hzp]; done)) (by simp [go_sem]) ?_ (by simp [go_sem])
    simp [go_sem, hzp]
  · by_cases he2 : e < 2
    · have hwe := wrapS (show (e : Int) < 9223372036854775807 by omega)
      all_goals repeat' (first | (refine Zc ?_ ?_ <;> intro h <;> (try simp [go_sem, he2] at h) <;> try omega) | (refine Zi ?_; try simp only [AThen, ABlock]) | (refine Ze ?_; simp +decide only [AThen, ABlock, reduceIte]) | (refine Zt ?_; (try simp [go_sem, he2]); all_goals (try simp [loR, lo]); all_goals try exact rfl) | ((first | refine Zq ?_ | refine Zr ?_ | refine Zw ?_ | refine Zx ?_); intro K hK; repeat' (first | ((first | with_reducible refine Z0 ?_ | with_reducible refine Zd ?_ | refine Zs ?_ | refine Zl ?_); intro HK hk; simp [go_sem, he2]; (repeat refine ⟨by omega, ?_⟩); apply hk; clear hk HK) | ((first | ((with_reducible refine Gd ?_); first | refine Zh ?_ ?_ | refine Zk ?_ ?_) | ((with_reducible refine Ga ?_); first | refine Zg ?_ ?_ | refine Zp ?_ ?_)) <;> intro hg <;> simp only [hg] <;> (try simp at hg) <;> try omega)); all_goals try ((first | with_reducible refine Zn ?_ | refine Zm ?_); apply hK; clear hK K; try simp only [AThen, ABlock])) | refine Zz ?_ | refine Zb ?_)
      all_goals try exact rfl
      (first | with_reducible refine Z0 ?_ | with_reducible refine Zd ?_ | refine Zs ?_ | refine Zl ?_); intro HK hk; simp [go_sem]
      refine ACall.via ?_; simp only [frzVs_cons, frzVs_nil, frzV_c, frzV_agg, frzs_cons, frzs_nil, frzs_map', frzC_p, frzC_own, frzC_clo, lo, List.getElem?_cons_zero, List.getElem?_cons_succ, List.length_map, List.length_append, List.length_cons, List.length_nil, Nat.zero_add, Nat.add_zero, reduceIte, List.set_cons_zero, List.set_cons_succ, hkl]
      refine ExPC.mk (pc_67 e he2 ⟨(w : Int), (U : Int)⟩ Z hm) ?_; simp [go_sem, hwalk]; (repeat refine ⟨by omega, ?_⟩); apply hk; clear hk HK; repeat' (first | ((first | with_reducible refine Z0 ?_ | with_reducible refine Zd ?_ | refine Zs ?_ | refine Zl ?_); intro HK hk; simp [go_sem, hwalk]; (repeat refine ⟨by omega, ?_⟩); apply hk; clear hk HK) | ((first | ((with_reducible refine Gd ?_); first | refine Zh ?_ ?_ | refine Zk ?_ ?_) | ((with_reducible refine Ga ?_); first | refine Zg ?_ ?_ | refine Zp ?_ ?_)) <;> intro hg <;> simp only [hg] <;> (try simp at hg) <;> try omega))
      all_goals try ((first | with_reducible refine Zn ?_ | refine Zm ?_); apply hK; clear hK K; try simp only [AThen, ABlock])
      all_goals repeat' (first | (refine Zc ?_ ?_ <;> intro h <;> (try simp [go_sem] at h) <;> try omega) | (refine Zi ?_; try simp only [AThen, ABlock]) | (refine Ze ?_; simp +decide only [AThen, ABlock, reduceIte]) | (refine Zt ?_; (try simp [go_sem]); all_goals (try simp [loR, lo]); all_goals try exact rfl) | ((first | refine Zq ?_ | refine Zr ?_ | refine Zw ?_ | refine Zx ?_); intro K hK; repeat' (first | ((first | with_reducible refine Z0 ?_ | with_reducible refine Zd ?_ | refine Zs ?_ | refine Zl ?_); intro HK hk; simp [go_sem]; (repeat refine ⟨by omega, ?_⟩); apply hk; clear hk HK) | ((first | ((with_reducible refine Gd ?_); first | refine Zh ?_ ?_ | refine Zk ?_ ?_) | ((with_reducible refine Ga ?_); first | refine Zg ?_ ?_ | refine Zp ?_ ?_)) <;> intro hg <;> simp only [hg] <;> (try simp at hg) <;> try omega)); all_goals try ((first | with_reducible refine Zn ?_ | refine Zm ?_); apply hK; clear hK K; try simp only [AThen, ABlock])) | refine Zz ?_ | refine Zb ?_)
      all_goals try exact rfl
      (first | with_reducible refine Z0 ?_ | with_reducible refine Zd ?_ | refine Zs ?_ | refine Zl ?_); intro HK hk; simp [go_sem]
      refine ACall.via ?_; simp only [frzVs_cons, frzVs_nil, frzV_c, frzV_agg, frzs_cons, frzs_nil, frzs_map', frzC_p, frzC_own, frzC_clo, lo, List.getElem?_cons_zero, List.getElem?_cons_succ, List.length_map, List.length_append, List.length_cons, List.length_nil, Nat.zero_add, Nat.add_zero, reduceIte, List.set_cons_zero, List.set_cons_succ, hkl]
      refine ExPC.mk (h71) ?_; simp [go_sem]; (repeat refine ⟨by omega, ?_⟩); apply hk; clear hk HK; repeat' (first | ((first | with_reducible refine Z0 ?_ | with_reducible refine Zd ?_ | refine Zs ?_ | refine Zl ?_); intro HK hk; simp [go_sem]; (repeat refine ⟨by omega, ?_⟩); apply hk; clear hk HK) | ((first | ((with_reducible refine Gd ?_); first | refine Zh ?_ ?_ | refine Zk ?_ ?_) | ((with_reducible refine Ga ?_); first | refine Zg ?_ ?_ | refine Zp ?_ ?_)) <;> intro hg <;> simp only [hg] <;> (try simp at hg) <;> try omega))
      all_goals try ((first | with_reducible refine Zn ?_ | refine Zm ?_); apply hK; clear hK K; try simp only [AThen, ABlock])
      all_goals repeat' (first | (refine Zc ?_ ?_ <;> intro h <;> (try simp [go_sem] at h) <;> try omega) | (refine Zi ?_; try simp only [AThen, ABlock]) | (refine Ze ?_; simp +decide only [AThen, ABlock, reduceIte]) | (refine Zt ?_; (try simp [go_sem]); all_goals (try simp [loR, lo]); all_goals try exact rfl) | ((first | refine Zq ?_ | refine Zr ?_ | refine Zw ?_ | refine Zx ?_); intro K hK; repeat' (first | ((first | with_reducible refine Z0 ?_ | with_reducible refine Zd ?_ | refine Zs ?_ | refine Zl ?_); intro HK hk; simp [go_sem]; (repeat refine ⟨by omega, ?_⟩); apply hk; clear hk HK) | ((first | ((with_reducible refine Gd ?_); first | refine Zh ?_ ?_ | refine Zk ?_ ?_) | ((with_reducible refine Ga ?_); first | refine Zg ?_ ?_ | refine Zp ?_ ?_)) <;> intro hg <;> simp only [hg] <;> (try simp at hg) <;> try omega)); all_goals try ((first | with_reducible refine Zn ?_ | refine Zm ?_); apply hK; clear hK K; try simp only [AThen, ABlock])) | refine Zz ?_ | refine Zb ?_)
      all_goals try exact rfl
      (first | with_reducible refine Z0 ?_ | with_reducible refine Zd ?_ | refine Zs ?_ | refine Zl ?_); intro HK hk; simp [go_sem, eqGuard_turn]
      refine .inr ⟨aggEq_self ⟨(w : Int), (U : Int)⟩, ?_⟩
      (repeat refine ⟨by omega, ?_⟩); apply hk; clear hk HK; repeat' (first | ((first | with_reducible refine Z0 ?_ | with_reducible refine Zd ?_ | refine Zs ?_ | refine Zl ?_); intro HK hk; simp [go_sem]; (repeat refine ⟨by omega, ?_⟩); apply hk; clear hk HK) | ((first | ((with_reducible refine Gd ?_); first | refine Zh ?_ ?_ | refine Zk ?_ ?_) | ((with_reducible refine Ga ?_); first | refine Zg ?_ ?_ | refine Zp ?_ ?_)) <;> intro hg <;> simp only [hg] <;> (try simp at hg) <;> try omega))
      all_goals try ((first | with_reducible refine Zn ?_ | refine Zm ?_); apply hK; clear hK K; try simp only [AThen, ABlock])
      all_goals repeat' (first | (refine Zc ?_ ?_ <;> intro h <;> (try simp [go_sem, hkl] at h) <;> try omega) | (refine Zi ?_; try simp only [AThen, ABlock]) | (refine Ze ?_; simp +decide only [AThen, ABlock, reduceIte]) | (refine Zt ?_; (try simp [go_sem, hkl]); all_goals (try simp [loR, lo]); all_goals try exact rfl) | ((first | refine Zq ?_ | refine Zr ?_ | refine Zw ?_ | refine Zx ?_); intro K hK; repeat' (first | ((first | with_reducible refine Z0 ?_ | with_reducible refine Zd ?_ | refine Zs ?_ | refine Zl ?_); intro HK hk; simp [go_sem, hkl]; (repeat refine ⟨by omega, ?_⟩); apply hk; clear hk HK) | ((first | ((with_reducible refine Gd ?_); first | refine Zh ?_ ?_ | refine Zk ?_ ?_) | ((with_reducible refine Ga ?_); first | refine Zg ?_ ?_ | refine Zp ?_ ?_)) <;> intro hg <;> simp only [hg] <;> (try simp at hg) <;> try omega)); all_goals try ((first | with_reducible refine Zn ?_ | refine Zm ?_); apply hK; clear hK K; try simp only [AThen, ABlock])) | refine Zz ?_ | refine Zb ?_)
      all_goals try exact rfl
      refine AW.upto k (fun _ => True) (fun i => [(18, .c (.p (.int .i64 i))), (12, .c (.p (.int .i64 e))), (11, .c (.p (.int .i64 (1 + (q : Int))))), (10, .c (.own 2 k)), (9, .c (.ptr 1 0)), (8, .c (.p (.int .i64 k))), (7, .c (.p (.bool true)))])
        (fun i => [.var [.p (.int .u8 n.toNat), .p (.int .u8 who.toNat), .p (.int .u8 U), .p (.int .u8 qu.toNat)], .var [.p (.int .i64 w), .p (.int .i64 U)], .arr 47 5 k (List.map laneP Z)]) trivial ?_ fun i hi _ => ?_
      · refine Sub.of 3 (by simp) (by first | (simp; done) | (simp [go_sem]; done)) (by simp [go_sem]) ?_ (by simp [go_sem])
        simp [go_sem]
      · have hwi := wrapS (show (i : Int) < 9223372036854775807 by omega)
        by_cases hik : i < k
        · by_cases he0 : e = 0
          · subst he0
            obtain ⟨it, hit⟩ : ∃ it, sayE 0 ⟨(w : Int), (U : Int)⟩ Z i (1 + (q : Int)) = (it, false) := ⟨_, Prod.ext rfl (by rw [hsay]; simp )⟩
            have hmy : mayE 0 ⟨(w : Int), (U : Int)⟩ Z i (1 + (q : Int)) = true := by rw [hmay]; simp 
            all_goals repeat' (first | (refine Zc ?_ ?_ <;> intro h <;> (try simp [go_sem, hik] at h) <;> try omega) | (refine Zi ?_; try simp only [AThen, ABlock]) | (refine Ze ?_; simp +decide only [AThen, ABlock, reduceIte]) | (refine Zt ?_; (try simp [go_sem, hik]); all_goals (try simp [loR, lo]); all_goals try exact rfl) | ((first | refine Zq ?_ | refine Zr ?_ | refine Zw ?_ | refine Zx ?_); intro K hK; repeat' (first | ((first | with_reducible refine Z0 ?_ | with_reducible refine Zd ?_ | refine Zs ?_ | refine Zl ?_); intro HK hk; simp [go_sem, hik]; (repeat refine ⟨by omega, ?_⟩); apply hk; clear hk HK) | ((first | ((with_reducible refine Gd ?_); first | refine Zh ?_ ?_ | refine Zk ?_ ?_) | ((with_reducible refine Ga ?_); first | refine Zg ?_ ?_ | refine Zp ?_ ?_)) <;> intro hg <;> simp only [hg] <;> (try simp at hg) <;> try omega)); all_goals try ((first | with_reducible refine Zn ?_ | refine Zm ?_); apply hK; clear hK K; try simp only [AThen, ABlock])) | refine Zz ?_ | refine Zb ?_)
            all_goals try exact rfl
            (first | with_reducible refine Z0 ?_ | with_reducible refine Zd ?_ | refine Zs ?_ | refine Zl ?_); intro HK hk; simp [go_sem]
            refine ACall.via ?_; simp only [frzVs_cons, frzVs_nil, frzV_c, frzV_agg, frzs_cons, frzs_nil, frzs_map', frzC_p, frzC_own, frzC_clo, lo, List.getElem?_cons_zero, List.getElem?_cons_succ, List.length_map, List.length_append, List.length_cons, List.length_nil, Nat.zero_add, Nat.add_zero, reduceIte, List.set_cons_zero, List.set_cons_succ, hkl]
            refine ExPC.mk (pc_69 0 (by omega) ⟨(w : Int), (U : Int)⟩ Z i (1 + (q : Int)) hm (by omega) (by omega)) ?_; simp [go_sem, hit]; (repeat refine ⟨by omega, ?_⟩); apply hk; clear hk HK; repeat' (first | ((first | with_reducible refine Z0 ?_ | with_reducible refine Zd ?_ | refine Zs ?_ | refine Zl ?_); intro HK hk; simp [go_sem, hit]; (repeat refine ⟨by omega, ?_⟩); apply hk; clear hk HK) | ((first | ((with_reducible refine Gd ?_); first | refine Zh ?_ ?_ | refine Zk ?_ ?_) | ((with_reducible refine Ga ?_); first | refine Zg ?_ ?_ | refine Zp ?_ ?_)) <;> intro hg <;> simp only [hg] <;> (try simp at hg) <;> try omega))
            all_goals try ((first | with_reducible refine Zn ?_ | refine Zm ?_); apply hK; clear hK K; try simp only [AThen, ABlock])
            all_goals repeat' (first | (refine Zc ?_ ?_ <;> intro h <;> (try simp [go_sem] at h) <;> try omega) | (refine Zi ?_; try simp only [AThen, ABlock]) | (refine Ze ?_; simp +decide only [AThen, ABlock, reduceIte]) | (refine Zt ?_; (try simp [go_sem]); all_goals (try simp [loR, lo]); all_goals try exact rfl) | ((first | refine Zq ?_ | refine Zr ?_ | refine Zw ?_ | refine Zx ?_); intro K hK; repeat' (first | ((first | with_reducible refine Z0 ?_ | with_reducible refine Zd ?_ | refine Zs ?_ | refine Zl ?_); intro HK hk; simp [go_sem]; (repeat refine ⟨by omega, ?_⟩); apply hk; clear hk HK) | ((first | ((with_reducible refine Gd ?_); first | refine Zh ?_ ?_ | refine Zk ?_ ?_) | ((with_reducible refine Ga ?_); first | refine Zg ?_ ?_ | refine Zp ?_ ?_)) <;> intro hg <;> simp only [hg] <;> (try simp at hg) <;> try omega)); all_goals try ((first | with_reducible refine Zn ?_ | refine Zm ?_); apply hK; clear hK K; try simp only [AThen, ABlock])) | refine Zz ?_ | refine Zb ?_)
            all_goals try exact rfl
            (first | with_reducible refine Z0 ?_ | with_reducible refine Zd ?_ | refine Zs ?_ | refine Zl ?_); intro HK hk; simp [go_sem]
            refine ACall.via ?_; simp only [frzVs_cons, frzVs_nil, frzV_c, frzV_agg, frzs_cons, frzs_nil, frzs_map', frzC_p, frzC_own, frzC_clo, lo, List.getElem?_cons_zero, List.getElem?_cons_succ, List.length_map, List.length_append, List.length_cons, List.length_nil, Nat.zero_add, Nat.add_zero, reduceIte, List.set_cons_zero, List.set_cons_succ, hkl]
            refine ExPC.mk (pc_73 0 (by omega) ⟨(w : Int), (U : Int)⟩ Z i (1 + (q : Int)) (by omega)) ?_; simp [go_sem, hmy]; (repeat refine ⟨by omega, ?_⟩); apply hk; clear hk HK; repeat' (first | ((first | with_reducible refine Z0 ?_ | with_reducible refine Zd ?_ | refine Zs ?_ | refine Zl ?_); intro HK hk; simp [go_sem, hmy]; (repeat refine ⟨by omega, ?_⟩); apply hk; clear hk HK) | ((first | ((with_reducible refine Gd ?_); first | refine Zh ?_ ?_ | refine Zk ?_ ?_) | ((with_reducible refine Ga ?_); first | refine Zg ?_ ?_ | refine Zp ?_ ?_)) <;> intro hg <;> simp only [hg] <;> (try simp at hg) <;> try omega))
            all_goals try ((first | with_reducible refine Zn ?_ | refine Zm ?_); apply hK; clear hK K; try simp only [AThen, ABlock])
            all_goals repeat' (first | (refine Zc ?_ ?_ <;> intro h <;> (try simp [go_sem, hwi] at h) <;> try omega) | (refine Zi ?_; try simp only [AThen, ABlock]) | (refine Ze ?_; simp +decide only [AThen, ABlock, reduceIte]) | (refine Zt ?_; (try simp [go_sem, hwi]); all_goals (try simp [loR, lo]); all_goals try exact rfl) | ((first | refine Zq ?_ | refine Zr ?_ | refine Zw ?_ | refine Zx ?_); intro K hK; repeat' (first | ((first | with_reducible refine Z0 ?_ | with_reducible refine Zd ?_ | refine Zs ?_ | refine Zl ?_); intro HK hk; simp [go_sem, hwi]; (repeat refine ⟨by omega, ?_⟩); apply hk; clear hk HK) | ((first | ((with_reducible refine Gd ?_); first | refine Zh ?_ ?_ | refine Zk ?_ ?_) | ((with_reducible refine Ga ?_); first | refine Zg ?_ ?_ | refine Zp ?_ ?_)) <;> intro hg <;> simp only [hg] <;> (try simp at hg) <;> try omega)); all_goals try ((first | with_reducible refine Zn ?_ | refine Zm ?_); apply hK; clear hK K; try simp only [AThen, ABlock])) | refine Zz ?_ | refine Zb ?_)
            all_goals try exact rfl
            refine ⟨hik, trivial, ?_⟩
            refine Sub.of 3 (by simp) (by first | (simp; done) | (simp [go_sem]; done)) (by simp [go_sem]) ?_ (by simp [go_sem])
            simp [go_sem]
          · obtain rfl : e = 1 := by omega
            by_cases hiw : i = w
            · subst hiw
              by_cases hUq : (U : Int) < 1 + (q : Int)
              · skip
                obtain ⟨it, hit⟩ : ∃ it, sayE 1 ⟨(i : Int), (U : Int)⟩ Z i (1 + (q : Int)) = (it, true) := ⟨_, Prod.ext rfl (by rw [hsay]; simp [hUq])⟩
                have hmy : mayE 1 ⟨(i : Int), (U : Int)⟩ Z i (1 + (q : Int)) = true := by rw [hmay]; simp [hUq]
                all_goals repeat' (first | (refine Zc ?_ ?_ <;> intro h <;> (try simp [go_sem, hik] at h) <;> try omega) | (refine Zi ?_; try simp only [AThen, ABlock]) | (refine Ze ?_; simp +decide only [AThen, ABlock, reduceIte]) | (refine Zt ?_; (try simp [go_sem, hik]); all_goals (try simp [loR, lo]); all_goals try exact rfl) | ((first | refine Zq ?_ | refine Zr ?_ | refine Zw ?_ | refine Zx ?_); intro K hK; repeat' (first | ((first | with_reducible refine Z0 ?_ | with_reducible refine Zd ?_ | refine Zs ?_ | refine Zl ?_); intro HK hk; simp [go_sem, hik]; (repeat refine ⟨by omega, ?_⟩); apply hk; clear hk HK) | ((first | ((with_reducible refine Gd ?_); first | refine Zh ?_ ?_ | refine Zk ?_ ?_) | ((with_reducible refine Ga ?_); first | refine Zg ?_ ?_ | refine Zp ?_ ?_)) <;> intro hg <;> simp only [hg] <;> (try simp at hg) <;> try omega)); all_goals try ((first | with_reducible refine Zn ?_ | refine Zm ?_); apply hK; clear hK K; try simp only [AThen, ABlock])) | refine Zz ?_ | refine Zb ?_)
                all_goals try exact rfl
                (first | with_reducible refine Z0 ?_ | with_reducible refine Zd ?_ | refine Zs ?_ | refine Zl ?_); intro HK hk; simp [go_sem]
                refine ACall.via ?_; simp only [frzVs_cons, frzVs_nil, frzV_c, frzV_agg, frzs_cons, frzs_nil, frzs_map', frzC_p, frzC_own, frzC_clo, lo, List.getElem?_cons_zero, List.getElem?_cons_succ, List.length_map, List.length_append, List.length_cons, List.length_nil, Nat.zero_add, Nat.add_zero, reduceIte, List.set_cons_zero, List.set_cons_succ, hkl]
                refine ExPC.mk (pc_69 1 (by omega) ⟨(i : Int), (U : Int)⟩ Z i (1 + (q : Int)) hm (by omega) (by omega)) ?_; simp [go_sem, hit]; (repeat refine ⟨by omega, ?_⟩); apply hk; clear hk HK; repeat' (first | ((first | with_reducible refine Z0 ?_ | with_reducible refine Zd ?_ | refine Zs ?_ | refine Zl ?_); intro HK hk; simp [go_sem, hit]; (repeat refine ⟨by omega, ?_⟩); apply hk; clear hk HK) | ((first | ((with_reducible refine Gd ?_); first | refine Zh ?_ ?_ | refine Zk ?_ ?_) | ((with_reducible refine Ga ?_); first | refine Zg ?_ ?_ | refine Zp ?_ ?_)) <;> intro hg <;> simp only [hg] <;> (try simp at hg) <;> try omega))
                all_goals try ((first | with_reducible refine Zn ?_ | refine Zm ?_); apply hK; clear hK K; try simp only [AThen, ABlock])
                all_goals repeat' (first | (refine Zc ?_ ?_ <;> intro h <;> (try simp [go_sem] at h) <;> try omega) | (refine Zi ?_; try simp only [AThen, ABlock]) | (refine Ze ?_; simp +decide only [AThen, ABlock, reduceIte]) | (refine Zt ?_; (try simp [go_sem]); all_goals (try simp [loR, lo]); all_goals try exact rfl) | ((first | refine Zq ?_ | refine Zr ?_ | refine Zw ?_ | refine Zx ?_); intro K hK; repeat' (first | ((first | with_reducible refine Z0 ?_ | with_reducible refine Zd ?_ | refine Zs ?_ | refine Zl ?_); intro HK hk; simp [go_sem]; (repeat refine ⟨by omega, ?_⟩); apply hk; clear hk HK) | ((first | ((with_reducible refine Gd ?_); first | refine Zh ?_ ?_ | refine Zk ?_ ?_) | ((with_reducible refine Ga ?_); first | refine Zg ?_ ?_ | refine Zp ?_ ?_)) <;> intro hg <;> simp only [hg] <;> (try simp at hg) <;> try omega)); all_goals try ((first | with_reducible refine Zn ?_ | refine Zm ?_); apply hK; clear hK K; try simp only [AThen, ABlock])) | refine Zz ?_ | refine Zb ?_)
                all_goals try exact rfl
                (first | with_reducible refine Z0 ?_ | with_reducible refine Zd ?_ | refine Zs ?_ | refine Zl ?_); intro HK hk; simp [go_sem]
                refine ACall.via ?_; simp only [frzVs_cons, frzVs_nil, frzV_c, frzV_agg, frzs_cons, frzs_nil, frzs_map', frzC_p, frzC_own, frzC_clo, lo, List.getElem?_cons_zero, List.getElem?_cons_succ, List.length_map, List.length_append, List.length_cons, List.length_nil, Nat.zero_add, Nat.add_zero, reduceIte, List.set_cons_zero, List.set_cons_succ, hkl]
                refine ExPC.mk (pc_73 1 (by omega) ⟨(i : Int), (U : Int)⟩ Z i (1 + (q : Int)) (by omega)) ?_; simp [go_sem, hmy]; (repeat refine ⟨by omega, ?_⟩); apply hk; clear hk HK; repeat' (first | ((first | with_reducible refine Z0 ?_ | with_reducible refine Zd ?_ | refine Zs ?_ | refine Zl ?_); intro HK hk; simp [go_sem, hmy]; (repeat refine ⟨by omega, ?_⟩); apply hk; clear hk HK) | ((first | ((with_reducible refine Gd ?_); first | refine Zh ?_ ?_ | refine Zk ?_ ?_) | ((with_reducible refine Ga ?_); first | refine Zg ?_ ?_ | refine Zp ?_ ?_)) <;> intro hg <;> simp only [hg] <;> (try simp at hg) <;> try omega))
                all_goals try ((first | with_reducible refine Zn ?_ | refine Zm ?_); apply hK; clear hK K; try simp only [AThen, ABlock])
                all_goals repeat' (first | (refine Zc ?_ ?_ <;> intro h <;> (try simp [go_sem, hwi, hUq] at h) <;> try omega) | (refine Zi ?_; try simp only [AThen, ABlock]) | (refine Ze ?_; simp +decide only [AThen, ABlock, reduceIte]) | (refine Zt ?_; (try simp [go_sem, hwi, hUq]); all_goals (try simp [loR, lo]); all_goals try exact rfl) | ((first | refine Zq ?_ | refine Zr ?_ | refine Zw ?_ | refine Zx ?_); intro K hK; repeat' (first | ((first | with_reducible refine Z0 ?_ | with_reducible refine Zd ?_ | refine Zs ?_ | refine Zl ?_); intro HK hk; simp [go_sem, hwi, hUq]; (repeat refine ⟨by omega, ?_⟩); apply hk; clear hk HK) | ((first | ((with_reducible refine Gd ?_); first | refine Zh ?_ ?_ | refine Zk ?_ ?_) | ((with_reducible refine Ga ?_); first | refine Zg ?_ ?_ | refine Zp ?_ ?_)) <;> intro hg <;> simp only [hg] <;> (try simp at hg) <;> try omega)); all_goals try ((first | with_reducible refine Zn ?_ | refine Zm ?_); apply hK; clear hK K; try simp only [AThen, ABlock])) | refine Zz ?_ | refine Zb ?_)
                all_goals try exact rfl
                refine ⟨hik, trivial, ?_⟩
                refine Sub.of 3 (by simp) (by first | (simp; done) | (simp [go_sem]; done)) (by simp [go_sem]) ?_ (by simp [go_sem])
                simp [go_sem]
              · skip
                obtain ⟨it, hit⟩ : ∃ it, sayE 1 ⟨(i : Int), (U : Int)⟩ Z i (1 + (q : Int)) = (it, true) := ⟨_, Prod.ext rfl (by rw [hsay]; simp [hUq])⟩
                have hmy : mayE 1 ⟨(i : Int), (U : Int)⟩ Z i (1 + (q : Int)) = false := by rw [hmay]; simp [hUq]
                all_goals repeat' (first | (refine Zc ?_ ?_ <;> intro h <;> (try simp [go_sem, hik] at h) <;> try omega) | (refine Zi ?_; try simp only [AThen, ABlock]) | (refine Ze ?_; simp +decide only [AThen, ABlock, reduceIte]) | (refine Zt ?_; (try simp [go_sem, hik]); all_goals (try simp [loR, lo]); all_goals try exact rfl) | ((first | refine Zq ?_ | refine Zr ?_ | refine Zw ?_ | refine Zx ?_); intro K hK; repeat' (first | ((first | with_reducible refine Z0 ?_ | with_reducible refine Zd ?_ | refine Zs ?_ | refine Zl ?_); intro HK hk; simp [go_sem, hik]; (repeat refine ⟨by omega, ?_⟩); apply hk; clear hk HK) | ((first | ((with_reducible refine Gd ?_); first | refine Zh ?_ ?_ | refine Zk ?_ ?_) | ((with_reducible refine Ga ?_); first | refine Zg ?_ ?_ | refine Zp ?_ ?_)) <;> intro hg <;> simp only [hg] <;> (try simp at hg) <;> try omega)); all_goals try ((first | with_reducible refine Zn ?_ | refine Zm ?_); apply hK; clear hK K; try simp only [AThen, ABlock])) | refine Zz ?_ | refine Zb ?_)
                all_goals try exact rfl
                (first | with_reducible refine Z0 ?_ | with_reducible refine Zd ?_ | refine Zs ?_ | refine Zl ?_); intro HK hk; simp [go_sem]
                refine ACall.via ?_; simp only [frzVs_cons, frzVs_nil, frzV_c, frzV_agg, frzs_cons, frzs_nil, frzs_map', frzC_p, frzC_own, frzC_clo, lo, List.getElem?_cons_zero, List.getElem?_cons_succ, List.length_map, List.length_append, List.length_cons, List.length_nil, Nat.zero_add, Nat.add_zero, reduceIte, List.set_cons_zero, List.set_cons_succ, hkl]
                refine ExPC.mk (pc_69 1 (by omega) ⟨(i : Int), (U : Int)⟩ Z i (1 + (q : Int)) hm (by omega) (by omega)) ?_; simp [go_sem, hit]; (repeat refine ⟨by omega, ?_⟩); apply hk; clear hk HK; repeat' (first | ((first | with_reducible refine Z0 ?_ | with_reducible refine Zd ?_ | refine Zs ?_ | refine Zl ?_); intro HK hk; simp [go_sem, hit]; (repeat refine ⟨by omega, ?_⟩); apply hk; clear hk HK) | ((first | ((with_reducible refine Gd ?_); first | refine Zh ?_ ?_ | refine Zk ?_ ?_) | ((with_reducible refine Ga ?_); first | refine Zg ?_ ?_ | refine Zp ?_ ?_)) <;> intro hg <;> simp only [hg] <;> (try simp at hg) <;> try omega))
                all_goals try ((first | with_reducible refine Zn ?_ | refine Zm ?_); apply hK; clear hK K; try simp only [AThen, ABlock])
                all_goals repeat' (first | (refine Zc ?_ ?_ <;> intro h <;> (try simp [go_sem] at h) <;> try omega) | (refine Zi ?_; try simp only [AThen, ABlock]) | (refine Ze ?_; simp +decide only [AThen, ABlock, reduceIte]) | (refine Zt ?_; (try simp [go_sem]); all_goals (try simp [loR, lo]); all_goals try exact rfl) | ((first | refine Zq ?_ | refine Zr ?_ | refine Zw ?_ | refine Zx ?_); intro K hK; repeat' (first | ((first | with_reducible refine Z0 ?_ | with_reducible refine Zd ?_ | refine Zs ?_ | refine Zl ?_); intro HK hk; simp [go_sem]; (repeat refine ⟨by omega, ?_⟩); apply hk; clear hk HK) | ((first | ((with_reducible refine Gd ?_); first | refine Zh ?_ ?_ | refine Zk ?_ ?_) | ((with_reducible refine Ga ?_); first | refine Zg ?_ ?_ | refine Zp ?_ ?_)) <;> intro hg <;> simp only [hg] <;> (try simp at hg) <;> try omega)); all_goals try ((first | with_reducible refine Zn ?_ | refine Zm ?_); apply hK; clear hK K; try simp only [AThen, ABlock])) | refine Zz ?_ | refine Zb ?_)
                all_goals try exact rfl
                (first | with_reducible refine Z0 ?_ | with_reducible refine Zd ?_ | refine Zs ?_ | refine Zl ?_); intro HK hk; simp [go_sem]
                refine ACall.via ?_; simp only [frzVs_cons, frzVs_nil, frzV_c, frzV_agg, frzs_cons, frzs_nil, frzs_map', frzC_p, frzC_own, frzC_clo, lo, List.getElem?_cons_zero, List.getElem?_cons_succ, List.length_map, List.length_append, List.length_cons, List.length_nil, Nat.zero_add, Nat.add_zero, reduceIte, List.set_cons_zero, List.set_cons_succ, hkl]
                refine ExPC.mk (pc_73 1 (by omega) ⟨(i : Int), (U : Int)⟩ Z i (1 + (q : Int)) (by omega)) ?_; simp [go_sem, hmy]; (repeat refine ⟨by omega, ?_⟩); apply hk; clear hk HK; repeat' (first | ((first | with_reducible refine Z0 ?_ | with_reducible refine Zd ?_ | refine Zs ?_ | refine Zl ?_); intro HK hk; simp [go_sem, hmy]; (repeat refine ⟨by omega, ?_⟩); apply hk; clear hk HK) | ((first | ((with_reducible refine Gd ?_); first | refine Zh ?_ ?_ | refine Zk ?_ ?_) | ((with_reducible refine Ga ?_); first | refine Zg ?_ ?_ | refine Zp ?_ ?_)) <;> intro hg <;> simp only [hg] <;> (try simp at hg) <;> try omega))
                all_goals try ((first | with_reducible refine Zn ?_ | refine Zm ?_); apply hK; clear hK K; try simp only [AThen, ABlock])
                all_goals repeat' (first | (refine Zc ?_ ?_ <;> intro h <;> (try simp [go_sem, hwi, hUq] at h) <;> try omega) | (refine Zi ?_; try simp only [AThen, ABlock]) | (refine Ze ?_; simp +decide only [AThen, ABlock, reduceIte]) | (refine Zt ?_; (try simp [go_sem, hwi, hUq]); all_goals (try simp [loR, lo]); all_goals try exact rfl) | ((first | refine Zq ?_ | refine Zr ?_ | refine Zw ?_ | refine Zx ?_); intro K hK; repeat' (first | ((first | with_reducible refine Z0 ?_ | with_reducible refine Zd ?_ | refine Zs ?_ | refine Zl ?_); intro HK hk; simp [go_sem, hwi, hUq]; (repeat refine ⟨by omega, ?_⟩); apply hk; clear hk HK) | ((first | ((with_reducible refine Gd ?_); first | refine Zh ?_ ?_ | refine Zk ?_ ?_) | ((with_reducible refine Ga ?_); first | refine Zg ?_ ?_ | refine Zp ?_ ?_)) <;> intro hg <;> simp only [hg] <;> (try simp at hg) <;> try omega)); all_goals try ((first | with_reducible refine Zn ?_ | refine Zm ?_); apply hK; clear hK K; try simp only [AThen, ABlock])) | refine Zz ?_ | refine Zb ?_)
                all_goals try exact rfl
                refine ⟨hik, trivial, ?_⟩
                refine Sub.of 3 (by simp) (by first | (simp; done) | (simp [go_sem]; done)) (by simp [go_sem]) ?_ (by simp [go_sem])
                simp [go_sem]
            · have hiw' : ¬ (i : Int) = w := by omega
              obtain ⟨it, hit⟩ : ∃ it, sayE 1 ⟨(w : Int), (U : Int)⟩ Z i (1 + (q : Int)) = (it, false) := ⟨_, Prod.ext rfl (by rw [hsay]; simp [hiw])⟩
              have hmy : mayE 1 ⟨(w : Int), (U : Int)⟩ Z i (1 + (q : Int)) = false := by rw [hmay]; simp [hiw]
              all_goals repeat' (first | (refine Zc ?_ ?_ <;> intro h <;> (try simp [go_sem, hik] at h) <;> try omega) | (refine Zi ?_; try simp only [AThen, ABlock]) | (refine Ze ?_; simp +decide only [AThen, ABlock, reduceIte]) | (refine Zt ?_; (try simp [go_sem, hik]); all_goals (try simp [loR, lo]); all_goals try exact rfl) | ((first | refine Zq ?_ | refine Zr ?_ | refine Zw ?_ | refine Zx ?_); intro K hK; repeat' (first | ((first | with_reducible refine Z0 ?_ | with_reducible refine Zd ?_ | refine Zs ?_ | refine Zl ?_); intro HK hk; simp [go_sem, hik]; (repeat refine ⟨by omega, ?_⟩); apply hk; clear hk HK) | ((first | ((with_reducible refine Gd ?_); first | refine Zh ?_ ?_ | refine Zk ?_ ?_) | ((with_reducible refine Ga ?_); first | refine Zg ?_ ?_ | refine Zp ?_ ?_)) <;> intro hg <;> simp only [hg] <;> (try simp at hg) <;> try omega)); all_goals try ((first | with_reducible refine Zn ?_ | refine Zm ?_); apply hK; clear hK K; try simp only [AThen, ABlock])) | refine Zz ?_ | refine Zb ?_)
              all_goals try exact rfl
              (first | with_reducible refine Z0 ?_ | with_reducible refine Zd ?_ | refine Zs ?_ | refine Zl ?_); intro HK hk; simp [go_sem]
              refine ACall.via ?_; simp only [frzVs_cons, frzVs_nil, frzV_c, frzV_agg, frzs_cons, frzs_nil, frzs_map', frzC_p, frzC_own, frzC_clo, lo, List.getElem?_cons_zero, List.getElem?_cons_succ, List.length_map, List.length_append, List.length_cons, List.length_nil, Nat.zero_add, Nat.add_zero, reduceIte, List.set_cons_zero, List.set_cons_succ, hkl]
              refine ExPC.mk (pc_69 1 (by omega) ⟨(w : Int), (U : Int)⟩ Z i (1 + (q : Int)) hm (by omega) (by omega)) ?_; simp [go_sem, hit]; (repeat refine ⟨by omega, ?_⟩); apply hk; clear hk HK; repeat' (first | ((first | with_reducible refine Z0 ?_ | with_reducible refine Zd ?_ | refine Zs ?_ | refine Zl ?_); intro HK hk; simp [go_sem, hit]; (repeat refine ⟨by omega, ?_⟩); apply hk; clear hk HK) | ((first | ((with_reducible refine Gd ?_); first | refine Zh ?_ ?_ | refine Zk ?_ ?_) | ((with_reducible refine Ga ?_); first | refine Zg ?_ ?_ | refine Zp ?_ ?_)) <;> intro hg <;> simp only [hg] <;> (try simp at hg) <;> try omega))
              all_goals try ((first | with_reducible refine Zn ?_ | refine Zm ?_); apply hK; clear hK K; try simp only [AThen, ABlock])
              all_goals repeat' (first | (refine Zc ?_ ?_ <;> intro h <;> (try simp [go_sem] at h) <;> try omega) | (refine Zi ?_; try simp only [AThen, ABlock]) | (refine Ze ?_; simp +decide only [AThen, ABlock, reduceIte]) | (refine Zt ?_; (try simp [go_sem]); all_goals (try simp [loR, lo]); all_goals try exact rfl) | ((first | refine Zq ?_ | refine Zr ?_ | refine Zw ?_ | refine Zx ?_); intro K hK; repeat' (first | ((first | with_reducible refine Z0 ?_ | with_reducible refine Zd ?_ | refine Zs ?_ | refine Zl ?_); intro HK hk; simp [go_sem]; (repeat refine ⟨by omega, ?_⟩); apply hk; clear hk HK) | ((first | ((with_reducible refine Gd ?_); first | refine Zh ?_ ?_ | refine Zk ?_ ?_) | ((with_reducible refine Ga ?_); first | refine Zg ?_ ?_ | refine Zp ?_ ?_)) <;> intro hg <;> simp only [hg] <;> (try simp at hg) <;> try omega)); all_goals try ((first | with_reducible refine Zn ?_ | refine Zm ?_); apply hK; clear hK K; try simp only [AThen, ABlock])) | refine Zz ?_ | refine Zb ?_)
              all_goals try exact rfl
              (first | with_reducible refine Z0 ?_ | with_reducible refine Zd ?_ | refine Zs ?_ | refine Zl ?_); intro HK hk; simp [go_sem]
              refine ACall.via ?_; simp only [frzVs_cons, frzVs_nil, frzV_c, frzV_agg, frzs_cons, frzs_nil, frzs_map', frzC_p, frzC_own, frzC_clo, lo, List.getElem?_cons_zero, List.getElem?_cons_succ, List.length_map, List.length_append, List.length_cons, List.length_nil, Nat.zero_add, Nat.add_zero, reduceIte, List.set_cons_zero, List.set_cons_succ, hkl]
              refine ExPC.mk (pc_73 1 (by omega) ⟨(w : Int), (U : Int)⟩ Z i (1 + (q : Int)) (by omega)) ?_; simp [go_sem, hmy]; (repeat refine ⟨by omega, ?_⟩); apply hk; clear hk HK; repeat' (first | ((first | with_reducible refine Z0 ?_ | with_reducible refine Zd ?_ | refine Zs ?_ | refine Zl ?_); intro HK hk; simp [go_sem, hmy]; (repeat refine ⟨by omega, ?_⟩); apply hk; clear hk HK) | ((first | ((with_reducible refine Gd ?_); first | refine Zh ?_ ?_ | refine Zk ?_ ?_) | ((with_reducible refine Ga ?_); first | refine Zg ?_ ?_ | refine Zp ?_ ?_)) <;> intro hg <;> simp only [hg] <;> (try simp at hg) <;> try omega))
              all_goals try ((first | with_reducible refine Zn ?_ | refine Zm ?_); apply hK; clear hK K; try simp only [AThen, ABlock])
              all_goals repeat' (first | (refine Zc ?_ ?_ <;> intro h <;> (try simp [go_sem, hwi, hiw, hiw'] at h) <;> try omega) | (refine Zi ?_; try simp only [AThen, ABlock]) | (refine Ze ?_; simp +decide only [AThen, ABlock, reduceIte]) | (refine Zt ?_; (try simp [go_sem, hwi, hiw, hiw']); all_goals (try simp [loR, lo]); all_goals try exact rfl) | ((first | refine Zq ?_ | refine Zr ?_ | refine Zw ?_ | refine Zx ?_); intro K hK; repeat' (first | ((first | with_reducible refine Z0 ?_ | with_reducible refine Zd ?_ | refine Zs ?_ | refine Zl ?_); intro HK hk; simp [go_sem, hwi, hiw, hiw']; (repeat refine ⟨by omega, ?_⟩); apply hk; clear hk HK) | ((first | ((with_reducible refine Gd ?_); first | refine Zh ?_ ?_ | refine Zk ?_ ?_) | ((with_reducible refine Ga ?_); first | refine Zg ?_ ?_ | refine Zp ?_ ?_)) <;> intro hg <;> simp only [hg] <;> (try simp at hg) <;> try omega)); all_goals try ((first | with_reducible refine Zn ?_ | refine Zm ?_); apply hK; clear hK K; try simp only [AThen, ABlock])) | refine Zz ?_ | refine Zb ?_)
              all_goals try exact rfl
              refine ⟨hik, trivial, ?_⟩
              refine Sub.of 3 (by simp) (by first | (simp; done) | (simp [go_sem]; done)) (by simp [go_sem]) ?_ (by simp [go_sem])
              simp [go_sem]
        · obtain rfl : i = k := by omega
          all_goals repeat' (first | (refine Zc ?_ ?_ <;> intro h <;> (try simp [go_sem, hwe] at h) <;> try omega) | (refine Zi ?_; try simp only [AThen, ABlock]) | (refine Ze ?_; simp +decide only [AThen, ABlock, reduceIte]) | (refine Zt ?_; (try simp [go_sem, hwe]); all_goals (try simp [loR, lo]); all_goals try exact rfl) | ((first | refine Zq ?_ | refine Zr ?_ | refine Zw ?_ | refine Zx ?_); intro K hK; repeat' (first | ((first | with_reducible refine Z0 ?_ | with_reducible refine Zd ?_ | refine Zs ?_ | refine Zl ?_); intro HK hk; simp [go_sem, hwe]; (repeat refine ⟨by omega, ?_⟩); apply hk; clear hk HK) | ((first | ((with_reducible refine Gd ?_); first | refine Zh ?_ ?_ | refine Zk ?_ ?_) | ((with_reducible refine Ga ?_); first | refine Zg ?_ ?_ | refine Zp ?_ ?_)) <;> intro hg <;> simp only [hg] <;> (try simp at hg) <;> try omega)); all_goals try ((first | with_reducible refine Zn ?_ | refine Zm ?_); apply hK; clear hK K; try simp only [AThen, ABlock])) | refine Zz ?_ | refine Zb ?_)
          all_goals try exact rfl
          refine ⟨he2, trivial, ?_⟩
          refine Sub.of 3 (by simp) (by first | (simp; done) | (simp [go_sem]; done)) (by simp [go_sem]) ?_ (by simp [go_sem])
          simp [go_sem]
    · obtain rfl : e = 2 := by omega
      all_goals repeat' (first | (refine Zc ?_ ?_ <;> intro h <;> (try simp [go_sem] at h) <;> try omega) | (refine Zi ?_; try simp only [AThen, ABlock]) | (refine Ze ?_; simp +decide only [AThen, ABlock, reduceIte]) | (refine Zt ?_; (try simp [go_sem]); all_goals (try simp [loR, lo]); all_goals try exact rfl) | ((first | refine Zq ?_ | refine Zr ?_ | refine Zw ?_ | refine Zx ?_); intro K hK; repeat' (first | ((first | with_reducible refine Z0 ?_ | with_reducible refine Zd ?_ | refine Zs ?_ | refine Zl ?_); intro HK hk; simp [go_sem]; (repeat refine ⟨by omega, ?_⟩); apply hk; clear hk HK) | ((first | ((with_reducible refine Gd ?_); first | refine Zh ?_ ?_ | refine Zk ?_ ?_) | ((with_reducible refine Ga ?_); first | refine Zg ?_ ?_ | refine Zp ?_ ?_)) <;> intro hg <;> simp only [hg] <;> (try simp at hg) <;> try omega)); all_goals try ((first | with_reducible refine Zn ?_ | refine Zm ?_); apply hK; clear hK K; try simp only [AThen, ABlock])) | refine Zz ?_ | refine Zb ?_)
      all_goals try exact rfl
end Go.Proofs.Ytogappokeheilaa
