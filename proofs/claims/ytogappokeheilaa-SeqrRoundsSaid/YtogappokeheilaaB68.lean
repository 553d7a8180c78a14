import Derived.Test.YtogappokeheilaaB66
import Derived.Test.YtogappokeheilaaAw32
set_option linter.unusedVariables false
set_option linter.unusedSimpArgs false
set_option maxRecDepth 100000
set_option maxHeartbeats 0
namespace Go.Proofs.Ytogappokeheilaa
open Go.Aw

def atR (o : List Deliv) (n i : Nat) : List Int := (List.range n).map fun (s : Nat) => (cntD o s i : Int)
theorem atR_zero (o : List Deliv) (n : Nat) : (atR o n 0).map encI = List.replicate n [.int .i64 0] := by
  unfold atR
  rw [List.map_map]
  apply List.ext_getElem?
  intro j
  rw [List.getElem?_map, List.getElem?_replicate]
  by_cases h : j < n
  · rw [List.getElem?_range h, if_pos h]; rfl
  · rw [List.getElem?_eq_none (by rw [List.length_range]; omega), if_neg h]; rfl
theorem atR_len (o : List Deliv) (n i : Nat) : (atR o n i).length = n := by simp [atR]
theorem atR_get {o : List Deliv} {n i c : Nat} (h : c < n) : (atR o n i)[c]? = some (cntD o c i : Int) := by unfold atR; rw [List.getElem?_map, List.getElem?_range h]; rfl
theorem atR_set {o : List Deliv} {n i c : Nat} {d : Deliv} (h : c < n) (hd : o[i]? = some d) (hc : d.From = (c : Int)) : (atR o n i).set c ((cntD o c i : Int) + 1) = atR o n (i + 1) := by
  apply List.ext_getElem?
  intro j
  by_cases hj : j < n
  · rw [atR_get hj, cntD_succ hd]
    by_cases hcj : c = j
    · subst hcj
      rw [List.getElem?_set_self (by rw [atR_len]; exact h), if_pos hc]; simp
    · rw [List.getElem?_set_ne hcj, atR_get hj, if_neg (by omega)]; simp
  · rw [List.getElem?_eq_none (by rw [List.length_set, atR_len]; omega), List.getElem?_eq_none (by rw [atR_len]; omega)]
theorem pc_9 (cs : List UInt8) (qu : UInt8) : PC Try.prog 9 [(false, [bsP cs]), (false, [.int .u8 qu.toNat])] (.one (bB true)) := by
  have hwq : IntKind.i64.wrap (qu.toNat : Int) = (qu.toNat : Int) := wrapI (by omega) (by have := qu.toNat_lt; omega)
  obtain ⟨q0, hq, hq8⟩ : ∃ q0 : Nat, (qu.toNat : Int).tmod 9 = (q0 : Int) ∧ q0 ≤ 8 := ⟨qu.toNat % 9, by rw [Int.tmod_eq_emod_of_nonneg (by omega)]; omega, by omega⟩
  obtain ⟨q, hq1⟩ : ∃ q : Nat, q = 1 + q0 := ⟨_, rfl⟩
  have hw1 : IntKind.i64.wrap (1 + (q0 : Int)) = (q : Int) := by rw [hq1, wrapI (by omega) (by omega)]; omega
  refine PC.of_ACall (ACall.of_AW (fun args w => Try.call9 args w) Try.func9 rfl (by simp [Try.ntmps9]) ?_)
  simp only [Try.ntmps9, List.length_nil]
  all_goals repeat' (first | (refine Zc ?_ ?_ <;> intro h <;> (try simp [go_sem] at h) <;> try omega) | (refine Zi ?_; try simp only [AThen, ABlock]) | (refine Ze ?_; simp +decide only [AThen, ABlock, reduceIte]) | (refine Zt ?_; (try simp [go_sem]); all_goals (try simp [loR, lo]); all_goals try exact rfl) | ((first | refine Zq ?_ | refine Zr ?_ | refine Zw ?_ | refine Zx ?_); intro K hK; repeat' (first | ((first | with_reducible refine Z0 ?_ | with_reducible refine Zd ?_ | refine Zs ?_ | refine Zl ?_); intro HK hk; simp [go_sem]; (repeat refine ⟨by omega, ?_⟩); apply hk; clear hk HK) | ((first | ((with_reducible refine Gd ?_); first | refine Zh ?_ ?_ | refine Zk ?_ ?_) | ((with_reducible refine Ga ?_); first | refine Zg ?_ ?_ | refine Zp ?_ ?_)) <;> intro hg <;> simp only [hg] <;> (try simp at hg) <;> try omega)); all_goals try ((first | with_reducible refine Zn ?_ | refine Zm ?_); apply hK; clear hK K; try simp only [AThen, ABlock])) | refine Zz ?_ | refine Zb ?_)
  all_goals try exact rfl
  (first | with_reducible refine Z0 ?_ | with_reducible refine Zd ?_ | refine Zs ?_); intro HK hk; simp [go_sem]; (repeat refine ⟨by omega, ?_⟩); (first | refine ACall.pur rfl (pc_33) ?_ | refine ACallD.mk rfl (pc_33) ?_); simp [go_sem]; (repeat refine ⟨by omega, ?_⟩); apply hk; clear hk HK; repeat' (first | ((first | with_reducible refine Z0 ?_ | with_reducible refine Zd ?_ | refine Zs ?_ | refine Zl ?_); intro HK hk; simp [go_sem]; (repeat refine ⟨by omega, ?_⟩); apply hk; clear hk HK) | ((first | ((with_reducible refine Gd ?_); first | refine Zh ?_ ?_ | refine Zk ?_ ?_) | ((with_reducible refine Ga ?_); first | refine Zg ?_ ?_ | refine Zp ?_ ?_)) <;> intro hg <;> simp only [hg] <;> (try simp at hg) <;> try omega))
  all_goals try ((first | with_reducible refine Zn ?_ | refine Zm ?_); apply hK; clear hK K; try simp only [AThen, ABlock])
  by_cases h26 : 2 ≤ cs.length ∧ cs.length ≤ 6
  · obtain ⟨h2, h6⟩ := h26
    have hn2 : ¬ cs.length < 2 := by omega
    have hn6 : ¬ 6 < cs.length := by omega
    all_goals repeat' (first | (refine Zc ?_ ?_ <;> intro h <;> (try simp [go_sem, hn2, hn6, hwq, hq, hw1] at h) <;> try omega) | (refine Zi ?_; try simp only [AThen, ABlock]) | (refine Ze ?_; simp +decide only [AThen, ABlock, reduceIte]) | (refine Zt ?_; (try simp [go_sem, hn2, hn6, hwq, hq, hw1]); all_goals (try simp [loR, lo]); all_goals try exact rfl) | ((first | refine Zq ?_ | refine Zr ?_ | refine Zw ?_ | refine Zx ?_); intro K hK; repeat' (first | ((first | with_reducible refine Z0 ?_ | with_reducible refine Zd ?_ | refine Zs ?_ | refine Zl ?_); intro HK hk; simp [go_sem, hn2, hn6, hwq, hq, hw1]; (repeat refine ⟨by omega, ?_⟩); apply hk; clear hk HK) | ((first | ((with_reducible refine Gd ?_); first | refine Zh ?_ ?_ | refine Zk ?_ ?_) | ((with_reducible refine Ga ?_); first | refine Zg ?_ ?_ | refine Zp ?_ ?_)) <;> intro hg <;> simp only [hg] <;> (try simp at hg) <;> try omega)); all_goals try ((first | with_reducible refine Zn ?_ | refine Zm ?_); apply hK; clear hK K; try simp only [AThen, ABlock])) | refine Zz ?_ | refine Zb ?_)
    all_goals try exact rfl
    refine AW.weak (Sub.promote 8 47 5 (by decide) rfl) ?_
    refine AW.upto cs.length (fun _ => True) (fun k => [(10, .c (.p (.int .i64 k))), (9, .c (.p (.int .i64 (totR cs k)))), (8, .c (.own 0 k)), (7, .c (.p (.int .i64 q))), (6, .c (.p (.int .i64 cs.length))), (5, .c (.p (.bool true))), (0, .c (.p (bsP cs)))]) (fun k => [.arr 47 5 0 ((lanesR cs k).map laneP)]) trivial ?_ fun k hk _ => ?_
    · refine Sub.of 1 (by simp) (by first | (simp [lanesR, totR]; done) | (simp [go_sem, lanesR, totR]; done)) (by simp [go_sem]) ?_ (by simp [go_sem])
      simp [go_sem, lanesR, totR]
    · have hwk := wrapS (show (k : Int) < 9223372036854775807 by omega)
      have hll := lanesR_len cs k
      have htl := totR_le cs k
      obtain ⟨W, hW⟩ : ∃ W, W = totR cs k := ⟨_, rfl⟩
      rw [← hW] at htl ⊢
      by_cases hkl : k < cs.length
      · obtain ⟨c, hc⟩ : ∃ c, cs[k]? = some c := ⟨_, List.getElem?_eq_getElem hkl⟩
        have hcn : cntR cs k = c.toNat % 9 := by unfold cntR; rw [List.getD_eq_getElem?_getD, hc]; rfl
        have hc9 := cntR_lt cs k
        obtain ⟨n, hn⟩ : ∃ n, n = cntR cs k := ⟨_, rfl⟩
        have hwc : IntKind.i64.wrap (c.toNat : Int) = (c.toNat : Int) := wrapI (by omega) (by have := c.toNat_lt; omega)
        have hrem : (c.toNat : Int).tmod 9 = (n : Int) := by rw [hn, hcn, Int.tmod_eq_emod_of_nonneg (by omega)]; omega
        rw [← hn] at hc9
        all_goals repeat' (first | (refine Zc ?_ ?_ <;> intro h <;> (try simp [go_sem] at h) <;> try omega) | (refine Zi ?_; try simp only [AThen, ABlock]) | (refine Ze ?_; simp +decide only [AThen, ABlock, reduceIte]) | (refine Zt ?_; (try simp [go_sem]); all_goals (try simp [loR, lo]); all_goals try exact rfl) | ((first | refine Zq ?_ | refine Zr ?_ | refine Zw ?_ | refine Zx ?_); intro K hK; repeat' (first | ((first | with_reducible refine Z0 ?_ | with_reducible refine Zd ?_ | refine Zs ?_ | refine Zl ?_); intro HK hk; simp [go_sem]; (repeat refine ⟨by omega, ?_⟩); apply hk; clear hk HK) | ((first | ((with_reducible refine Gd ?_); first | refine Zh ?_ ?_ | refine Zk ?_ ?_) | ((with_reducible refine Ga ?_); first | refine Zg ?_ ?_ | refine Zp ?_ ?_)) <;> intro hg <;> simp only [hg] <;> (try simp at hg) <;> try omega)); all_goals try ((first | with_reducible refine Zn ?_ | refine Zm ?_); apply hK; clear hK K; try simp only [AThen, ABlock])) | refine Zz ?_ | refine Zb ?_)
        all_goals try exact rfl
        refine AW.weak (Sub.promoteAt 1 0 49 5 (by decide) rfl rfl) ?_
        simp only [List.set_cons_zero, List.set_cons_succ, List.cons_append, List.nil_append, List.length_cons, List.length_nil, Nat.zero_add, Nat.reduceAdd]
        refine AW.upto n (fun _ => True) (fun j => [(12, .c (.p (.int .i64 j))), (11, .c (.ptr 1 0)), (10, .c (.p (.int .i64 k))), (9, .c (.p (.int .i64 ((W + j : Nat) : Int)))), (8, .c (.own 0 k)), (7, .c (.p (.int .i64 q))), (6, .c (.p (.int .i64 cs.length))), (5, .c (.p (.bool true))), (0, .c (.p (bsP cs)))])
          (fun j => [.arr 47 5 0 ((lanesR cs k).map laneP), .var [.own 2 j, .p (.int .i64 0), .p (.int .i64 0), .p (.int .i64 0), .p (.sl true [])], .arr 49 5 0 ((msgsR k j).map entP)]) trivial ?_ fun j hj _ => ?_
        · refine Sub.of 3 (by simp) (by first | (simp [msgsR]; done) | (simp [go_sem, msgsR]; done)) (by simp [go_sem]) ?_ (by simp [go_sem])
          simp [go_sem, msgsR]
        · have hwj := wrapS (show (j : Int) < 9223372036854775807 by omega)
          have hwW := wrapS (show ((W + j : Nat) : Int) < 9223372036854775807 by omega)
          have hwW2 : IntKind.i64.wrap ((W : Int) + ((j : Int) + 1)) = (W : Int) + ((j : Int) + 1) := wrapI (by omega) (by omega)
          have hl2 := msgsR_len k j
          have hu1 : IntKind.u8.wrap (k : Int) = (k : Int) := by unfold IntKind.wrap; simp [IntKind.bits, IntKind.signed]; omega
          by_cases hjn : j < n
          · have hu2 : IntKind.u8.wrap (j : Int) = (j : Int) := by unfold IntKind.wrap; simp [IntKind.bits, IntKind.signed]; omega
            have hk2 : k % 256 = k := Nat.mod_eq_of_lt (by omega)
            have hj2 : j % 256 = j := Nat.mod_eq_of_lt (by omega)
            all_goals repeat' (first | (refine Zc ?_ ?_ <;> intro h <;> (try simp [go_sem, hc, hwc, hrem, hjn, hwj, hu1, hu2, hl2, hwW] at h) <;> try omega) | (refine Zi ?_; try simp only [AThen, ABlock]) | (refine Ze ?_; simp +decide only [AThen, ABlock, reduceIte]) | (refine Zt ?_; (try simp [go_sem, hc, hwc, hrem, hjn, hwj, hu1, hu2, hl2, hwW]); all_goals (try simp [loR, lo]); all_goals try exact rfl) | ((first | refine Zq ?_ | refine Zr ?_ | refine Zw ?_ | refine Zx ?_); intro K hK; repeat' (first | ((first | with_reducible refine Z0 ?_ | with_reducible refine Zd ?_ | refine Zs ?_ | refine Zl ?_); intro HK hk; simp [go_sem, hc, hwc, hrem, hjn, hwj, hu1, hu2, hl2, hwW]; (repeat refine ⟨by omega, ?_⟩); apply hk; clear hk HK) | ((first | ((with_reducible refine Gd ?_); first | refine Zh ?_ ?_ | refine Zk ?_ ?_) | ((with_reducible refine Ga ?_); first | refine Zg ?_ ?_ | refine Zp ?_ ?_)) <;> intro hg <;> simp only [hg] <;> (try simp at hg) <;> try omega)); all_goals try ((first | with_reducible refine Zn ?_ | refine Zm ?_); apply hK; clear hK K; try simp only [AThen, ABlock])) | refine Zz ?_ | refine Zb ?_)
            all_goals try exact rfl
            refine ⟨hjn, trivial, ?_⟩
            refine Sub.of 3 (by simp) (by first | (simp [msgsR_succ, msgR, encB, hk2, hj2, hu1, hu2, Int.add_assoc, hwW2]; done) | (simp [go_sem, msgsR_succ, msgR, encB, hk2, hj2, hu1, hu2, Int.add_assoc, hwW2]; done)) (by simp [go_sem]) ?_ (by simp [go_sem])
            simp [go_sem, msgsR_succ, msgR, encB, hk2, hj2, hu1, hu2, Int.add_assoc, hwW2]
          · obtain rfl : j = n := by omega
            have hlt : laneR k j = ⟨msgsR k j, ⟨0, 0, 0, []⟩⟩ := rfl
            have hla : lanesR cs (k + 1) = lanesR cs k ++ [laneR k j] := by rw [lanesR_succ, ← hn]
            have hto : totR cs (k + 1) = W + j := by rw [totR, ← hn, hW]
            all_goals repeat' (first | (refine Zc ?_ ?_ <;> intro h <;> (try simp [go_sem, hc, hwc, hrem, hwk, hll, hl2] at h) <;> try omega) | (refine Zi ?_; try simp only [AThen, ABlock]) | (refine Ze ?_; simp +decide only [AThen, ABlock, reduceIte]) | (refine Zt ?_; (try simp [go_sem, hc, hwc, hrem, hwk, hll, hl2]); all_goals (try simp [loR, lo]); all_goals try exact rfl) | ((first | refine Zq ?_ | refine Zr ?_ | refine Zw ?_ | refine Zx ?_); intro K hK; repeat' (first | ((first | with_reducible refine Z0 ?_ | with_reducible refine Zd ?_ | refine Zs ?_ | refine Zl ?_); intro HK hk; simp [go_sem, hc, hwc, hrem, hwk, hll, hl2]; (repeat refine ⟨by omega, ?_⟩); apply hk; clear hk HK) | ((first | ((with_reducible refine Gd ?_); first | refine Zh ?_ ?_ | refine Zk ?_ ?_) | ((with_reducible refine Ga ?_); first | refine Zg ?_ ?_ | refine Zp ?_ ?_)) <;> intro hg <;> simp only [hg] <;> (try simp at hg) <;> try omega)); all_goals try ((first | with_reducible refine Zn ?_ | refine Zm ?_); apply hK; clear hK K; try simp only [AThen, ABlock])) | refine Zz ?_ | refine Zb ?_)
            all_goals try exact rfl
            refine ⟨hkl, trivial, ?_⟩
            refine Sub.of 1 (by simp) (by first | (simp [hla, hlt, hto, hl2]; done) | (simp [go_sem, hla, hlt, hto, hl2]; done)) (by simp [go_sem]) ?_ (by simp [go_sem])
            simp [go_sem, hla, hlt, hto, hl2]
      · obtain rfl : k = cs.length := by omega
        have hcs : cs ≠ [] := fun h => by rw [h] at h2; simp at h2
        obtain ⟨L0, hL0⟩ : ∃ L0, L0 = lanesR cs cs.length := ⟨_, rfl⟩
        have hR0 := rinv_start cs q h2 h6
        rw [← hL0] at hR0 hll ⊢
        all_goals repeat' (first | (refine Zc ?_ ?_ <;> intro h <;> (try simp [go_sem] at h) <;> try omega) | (refine Zi ?_; try simp only [AThen, ABlock]) | (refine Ze ?_; simp +decide only [AThen, ABlock, reduceIte]) | (refine Zt ?_; (try simp [go_sem]); all_goals (try simp [loR, lo]); all_goals try exact rfl) | ((first | refine Zq ?_ | refine Zr ?_ | refine Zw ?_ | refine Zx ?_); intro K hK; repeat' (first | ((first | with_reducible refine Z0 ?_ | with_reducible refine Zd ?_ | refine Zs ?_ | refine Zl ?_); intro HK hk; simp [go_sem]; (repeat refine ⟨by omega, ?_⟩); apply hk; clear hk HK) | ((first | ((with_reducible refine Gd ?_); first | refine Zh ?_ ?_ | refine Zk ?_ ?_) | ((with_reducible refine Ga ?_); first | refine Zg ?_ ?_ | refine Zp ?_ ?_)) <;> intro hg <;> simp only [hg] <;> (try simp at hg) <;> try omega)); all_goals try ((first | with_reducible refine Zn ?_ | refine Zm ?_); apply hK; clear hK K; try simp only [AThen, ABlock])) | refine Zz ?_ | refine Zb ?_)
        all_goals try exact rfl
        refine AW.weak (Sub.promote 14 51 2 (by decide) rfl) ?_
        refine AW.weak (Sub.frz 8 0 rfl (by simp [getS, hll])) ?_
        simp only [List.set_cons_zero, List.set_cons_succ, List.cons_append, List.nil_append, List.length_cons, List.length_nil, Nat.zero_add, Nat.reduceAdd, List.length_map, hll]
        refine AW.loop (X := {p : Turn × List Lane × List Deliv × Nat // RInv L0 q p.1 p.2.1 p.2.2.1 ∧ p.2.2.2 ≤ p.2.2.1.length ∧ p.2.2.1.length ≤ 48 ∧ p.2.2.2 ≤ 100}) (fun p => [(16, .c (.p (.int .i64 p.1.2.2.2))), (15, .c (.p (.int .i64 (100 + (p.1.2.2.2 : Int))))), (14, .c (.own 2 p.1.2.2.1.length)), (13, .c (.ptr 1 0)), (9, .c (.p (.int .i64 W))), (8, .c (.p (lnP p.1.2.1))), (7, .c (.p (.int .i64 q))), (6, .c (.p (.int .i64 cs.length))), (5, .c (.p (.bool true)))])
          (fun p => [.arr 47 5 cs.length (L0.map laneP), .var ((turnP p.1.1).map .p), .arr 51 2 0 (p.1.2.2.1.map delivP)]) (fun p => 100 - p.1.2.2.2) ⟨(⟨0, 0⟩, L0, [], 0), hR0, Nat.le_refl _, by simp, by simp⟩ ?_ ?_
        · refine Sub.of 3 (by simp) (by first | (simp; done) | (simp [go_sem]; done)) (by simp [go_sem]) ?_ (by simp [go_sem])
          simp [go_sem]
        · rintro ⟨⟨t, l, o, st⟩, hR, hso, ho48, hst⟩
          simp only at hR hso ho48 hst
          have hst1 : st < 100 := by omega
          have hwst := wrapS (show (st : Int) < 9223372036854775807 by omega)
          have hwsq : IntKind.i64.wrap (100 + (st : Int) + 1) = 100 + ((st : Int) + 1) := by rw [wrapI (by omega) (by omega)]; omega
          have hlen : l.length = cs.length := hR.len.trans hll
          have hm := hR.may
          have htn := hR.turn
          rw [hll] at htn
          obtain ⟨w, hw⟩ : ∃ w, w = o.length / q % cs.length := ⟨_, rfl⟩
          obtain ⟨u, hu⟩ : ∃ u, u = o.length % q := ⟨_, rfl⟩
          rw [← hw, ← hu] at htn
          have hwn : w < l.length := by rw [hw, hlen]; exact Nat.mod_lt _ (by omega)
          have huq : u < q := by rw [hu]; exact Nat.mod_lt _ (by omega)
          obtain ⟨lw, hxw⟩ : ∃ lw, l[w]? = some lw := ⟨_, List.getElem?_eq_getElem hwn⟩
          have hgd : l.getD w zeroL = lw := by rw [List.getD_eq_getElem?_getD, hxw]; rfl
          have hctl : (findF isCtl (l.getD w zeroL).L).2 = false := by
            rw [hgd]; exact find_no fun e he => (hR.ent lw (List.mem_of_getElem? hxw) e he).1
          subst htn
          by_cases hV0 : someQ ⟨(w : Int), (u : Int)⟩ l w q = []
          · have hsq : sayQ ⟨(w : Int), (u : Int)⟩ l w q = (zeroI, false) := by
              unfold sayQ
              rw [if_neg (by simp), if_neg (by rw [hctl]; simp), if_pos hV0]
            have hwa : waitL l w l.length = [] := by
              unfold someQ at hV0
              rcases List.take_eq_nil_iff.1 hV0 with h | h
              · simp only at h; omega
              · exact h
            have hfin : o.length = W := by
              have hR' := hR
              rw [hL0] at hR'
              rw [hW]
              exact round_none hR' h2 (by omega) hwa
            obtain ⟨a, ha⟩ : ∃ a, a = W / q := ⟨_, rfl⟩
            have hd1 : (W : Int).tdiv q = (a : Int) := by rw [Int.tdiv_eq_ediv_of_nonneg (by omega), ha, Int.natCast_ediv]
            have hd2 : (a : Int).tmod cs.length = (w : Int) := by rw [Int.tmod_eq_emod_of_nonneg (by omega), hw, hfin, ← ha, Int.natCast_emod]
            have hd3 : (W : Int).tmod q = (u : Int) := by rw [Int.tmod_eq_emod_of_nonneg (by omega), hu, hfin, Int.natCast_emod]
            have haw : a ≤ W := by rw [ha]; exact Nat.div_le_self _ _
            have hwa2 : IntKind.i64.wrap (a : Int) = (a : Int) := wrapI (by omega) (by omega)
            all_goals repeat' (first | (refine Zc ?_ ?_ <;> intro h <;> (try simp [go_sem, hst1] at h) <;> try omega) | (refine Zi ?_; try simp only [AThen, ABlock]) | (refine Ze ?_; simp +decide only [AThen, ABlock, reduceIte]) | (refine Zt ?_; (try simp [go_sem, hst1]); all_goals (try simp [loR, lo]); all_goals try exact rfl) | ((first | refine Zq ?_ | refine Zr ?_ | refine Zw ?_ | refine Zx ?_); intro K hK; repeat' (first | ((first | with_reducible refine Z0 ?_ | with_reducible refine Zd ?_ | refine Zs ?_ | refine Zl ?_); intro HK hk; simp [go_sem, hst1]; (repeat refine ⟨by omega, ?_⟩); apply hk; clear hk HK) | ((first | ((with_reducible refine Gd ?_); first | refine Zh ?_ ?_ | refine Zk ?_ ?_) | ((with_reducible refine Ga ?_); first | refine Zg ?_ ?_ | refine Zp ?_ ?_)) <;> intro hg <;> simp only [hg] <;> (try simp at hg) <;> try omega)); all_goals try ((first | with_reducible refine Zn ?_ | refine Zm ?_); apply hK; clear hK K; try simp only [AThen, ABlock])) | refine Zz ?_ | refine Zb ?_)
            all_goals try exact rfl
            (first | with_reducible refine Z0 ?_ | with_reducible refine Zd ?_ | refine Zs ?_); intro HK hk; simp [go_sem]; (repeat refine ⟨by omega, ?_⟩); (first | refine ACall.pur rfl (pc_36 ⟨(w : Int), (u : Int)⟩ l w q hm hwn (by omega)) ?_ | refine ACallD.mk rfl (pc_36 ⟨(w : Int), (u : Int)⟩ l w q hm hwn (by omega)) ?_); simp [go_sem, hsq]; (repeat refine ⟨by omega, ?_⟩); apply hk; clear hk HK; repeat' (first | ((first | with_reducible refine Z0 ?_ | with_reducible refine Zd ?_ | refine Zs ?_ | refine Zl ?_); intro HK hk; simp [go_sem, hsq]; (repeat refine ⟨by omega, ?_⟩); apply hk; clear hk HK) | ((first | ((with_reducible refine Gd ?_); first | refine Zh ?_ ?_ | refine Zk ?_ ?_) | ((with_reducible refine Ga ?_); first | refine Zg ?_ ?_ | refine Zp ?_ ?_)) <;> intro hg <;> simp only [hg] <;> (try simp at hg) <;> try omega))
            all_goals try ((first | with_reducible refine Zn ?_ | refine Zm ?_); apply hK; clear hK K; try simp only [AThen, ABlock])
            all_goals repeat' (first | (refine Zc ?_ ?_ <;> intro h <;> (try simp [go_sem, hfin, hd1, hd2, hd3, hwa2, hcs] at h) <;> try omega) | (refine Zi ?_; try simp only [AThen, ABlock]) | (refine Ze ?_; simp +decide only [AThen, ABlock, reduceIte]) | (refine Zt ?_; (try simp [go_sem, hfin, hd1, hd2, hd3, hwa2, hcs]); all_goals (try simp [loR, lo]); all_goals try exact rfl) | ((first | refine Zq ?_ | refine Zr ?_ | refine Zw ?_ | refine Zx ?_); intro K hK; repeat' (first | ((first | with_reducible refine Z0 ?_ | with_reducible refine Zd ?_ | refine Zs ?_ | refine Zl ?_); intro HK hk; simp [go_sem, hfin, hd1, hd2, hd3, hwa2, hcs]; (repeat refine ⟨by omega, ?_⟩); apply hk; clear hk HK) | ((first | ((with_reducible refine Gd ?_); first | refine Zh ?_ ?_ | refine Zk ?_ ?_) | ((with_reducible refine Ga ?_); first | refine Zg ?_ ?_ | refine Zp ?_ ?_)) <;> intro hg <;> simp only [hg] <;> (try simp at hg) <;> try omega)); all_goals try ((first | with_reducible refine Zn ?_ | refine Zm ?_); apply hK; clear hK K; try simp only [AThen, ABlock])) | refine Zz ?_ | refine Zb ?_)
            all_goals try exact rfl
            rw [← atR_zero o]
            clear hwsq hst1 hwst hm hsq hwa hd1 hd2 hd3 hwa2 hctl hgd hxw hV0
            refine AW.weak (Sub.frz 14 2 rfl (by simp [getS, hfin])) ?_
            simp only [List.set_cons_zero, List.set_cons_succ, List.cons_append, List.nil_append, List.length_cons, List.length_nil, Nat.zero_add, Nat.reduceAdd, List.length_map]
            refine AW.upto o.length (fun _ => True) (fun i => [(23, .c (.p (.int .i64 i))), (22, .c (.own 4 cs.length)), (14, .c (.p (dvP o))), (6, .c (.p (.int .i64 cs.length))), (5, .c (.p (.bool true)))])
              (fun i => [.arr 47 5 cs.length (L0.map laneP), .var [.p (.int .i64 w), .p (.int .i64 u)], .arr 51 2 o.length (o.map delivP), .var ((itemP zeroI).map .p), .arr 3 1 0 ((atR o cs.length i).map encI)]) trivial ?_ fun i hi _ => ?_
            · refine Sub.of 5 (by simp) (by first | (simp; done) | (simp [go_sem]; done)) (by simp [go_sem]) ?_ (by simp [go_sem])
              simp [go_sem]
            · have hwi := wrapS (show (i : Int) < 9223372036854775807 by omega)
              by_cases hio : i < o.length
              · obtain ⟨d, hd⟩ : ∃ d, o[i]? = some d := ⟨_, List.getElem?_eq_getElem hio⟩
                have hR' := hR
                rw [hL0] at hR'
                obtain ⟨c, hdc, hcn, hdB, hc9⟩ := round_at hR' hd
                have hat := atR_get (o := o) (i := i) hcn
                have hset := atR_set hcn hd hdc
                have hal := atR_len o cs.length i
                have hset2 : ((atR o cs.length i).map encI).set c [.int .i64 ((cntD o c i : Int) + 1)] = (atR o cs.length (i + 1)).map encI := by rw [← hset, List.map_set]; rfl
                obtain ⟨cn, hcn2⟩ : ∃ cn, cn = cntD o c i := ⟨_, rfl⟩
                rw [← hcn2] at hdB hat hset2 hc9
                have hwc := wrapS (show (cn : Int) < 9223372036854775807 by omega)
                have hc0 : ¬ (c : Int) < 0 := by omega
                have hcl : ¬ cs.length ≤ c := by omega
                have hm1 : c % 256 = c := Nat.mod_eq_of_lt (by omega)
                have hm2 : cn % 256 = cn := Nat.mod_eq_of_lt (by omega)
                have hb1 : (UInt8.ofNat c).toNat = c := by simp; omega
                have hb2 : (UInt8.ofNat cn).toNat = cn := by simp; omega
                have hx1 : IntKind.i64.wrap (c : Int) = (c : Int) := wrapI (by omega) (by omega)
                have hx2 : IntKind.i64.wrap (cn : Int) = (cn : Int) := wrapI (by omega) (by omega)
                all_goals repeat' (first | (refine Zc ?_ ?_ <;> intro h <;> (try simp [go_sem, hd, hdc, hdB, hat, hal, hb1, hb2, hx1, hx2, hwc, hwi, hcl, hm1, hm2] at h) <;> try omega) | (refine Zi ?_; try simp only [AThen, ABlock]) | (refine Ze ?_; simp +decide only [AThen, ABlock, reduceIte]) | (refine Zt ?_; (try simp [go_sem, hd, hdc, hdB, hat, hal, hb1, hb2, hx1, hx2, hwc, hwi, hcl, hm1, hm2]); all_goals (try simp [loR, lo]); all_goals try exact rfl) | ((first | refine Zq ?_ | refine Zr ?_ | refine Zw ?_ | refine Zx ?_); intro K hK; repeat' (first | ((first | with_reducible refine Z0 ?_ | with_reducible refine Zd ?_ | refine Zs ?_ | refine Zl ?_); intro HK hk; simp [go_sem, hd, hdc, hdB, hat, hal, hb1, hb2, hx1, hx2, hwc, hwi, hcl, hm1, hm2]; (repeat refine ⟨by omega, ?_⟩); apply hk; clear hk HK) | ((first | ((with_reducible refine Gd ?_); first | refine Zh ?_ ?_ | refine Zk ?_ ?_) | ((with_reducible refine Ga ?_); first | refine Zg ?_ ?_ | refine Zp ?_ ?_)) <;> intro hg <;> simp only [hg] <;> (try simp at hg) <;> try omega)); all_goals try ((first | with_reducible refine Zn ?_ | refine Zm ?_); apply hK; clear hK K; try simp only [AThen, ABlock])) | refine Zz ?_ | refine Zb ?_)
                all_goals try exact rfl
                refine ⟨hio, trivial, ?_⟩
                refine Sub.of 5 (by simp) (by first | (simp [hset2]; done) | (simp [go_sem, hset2]; done)) (by simp [go_sem]) ?_ (by simp [go_sem])
                simp [go_sem, hset2]
              · obtain rfl : i = o.length := by omega
                all_goals repeat' (first | (refine Zc ?_ ?_ <;> intro h <;> (try simp [go_sem] at h) <;> try omega) | (refine Zi ?_; try simp only [AThen, ABlock]) | (refine Ze ?_; simp +decide only [AThen, ABlock, reduceIte]) | (refine Zt ?_; (try simp [go_sem]); all_goals (try simp [loR, lo]); all_goals try exact rfl) | ((first | refine Zq ?_ | refine Zr ?_ | refine Zw ?_ | refine Zx ?_); intro K hK; repeat' (first | ((first | with_reducible refine Z0 ?_ | with_reducible refine Zd ?_ | refine Zs ?_ | refine Zl ?_); intro HK hk; simp [go_sem]; (repeat refine ⟨by omega, ?_⟩); apply hk; clear hk HK) | ((first | ((with_reducible refine Gd ?_); first | refine Zh ?_ ?_ | refine Zk ?_ ?_) | ((with_reducible refine Ga ?_); first | refine Zg ?_ ?_ | refine Zp ?_ ?_)) <;> intro hg <;> simp only [hg] <;> (try simp at hg) <;> try omega)); all_goals try ((first | with_reducible refine Zn ?_ | refine Zm ?_); apply hK; clear hK K; try simp only [AThen, ABlock])) | refine Zz ?_ | refine Zb ?_)
                all_goals try exact rfl
          · obtain ⟨V, hV⟩ : ∃ V, V = someQ ⟨(w : Int), (u : Int)⟩ l w q := ⟨_, rfl⟩
            rw [← hV] at hV0
            obtain ⟨ix, hix⟩ : ∃ ix : Int, ix = if (q : Int) ≤ (u : Int) + V.length then 1 else 0 := ⟨_, rfl⟩
            have hsq : sayQ ⟨(w : Int), (u : Int)⟩ l w q = (⟨2, 0, 0, ix, 0, 0, V, []⟩, true) := by
              unfold sayQ
              rw [if_neg (by simp), if_neg (by rw [hctl]; simp), if_neg (by rw [← hV]; exact hV0), ← hV, hix]
            obtain ⟨S, hS⟩ : ∃ S, S = 100 + (st : Int) := ⟨_, rfl⟩
            have hR' := hR
            rw [hL0] at hR'
            have h8 := rinv_8 hR' lw (List.mem_of_getElem? hxw)
            have hpz := hR.part lw (List.mem_of_getElem? hxw)
            have hent := hR.ent lw (List.mem_of_getElem? hxw)
            obtain ⟨hQ2, hV64, hgo1, hRn⟩ := round_step (S := S) (hd := decide (ix = 1)) hR' h2 h6 (by omega) (by omega) hw hxw hV hV0 (by omega) (by rw [hix]; simp only; split <;> simp_all)
            have hrd : (readF lw ⟨2, S, 0, ix, 0, 0, V, []⟩).1 = ⟨lw.L ++ [⟨2, S, [], V, decide (ix = 1)⟩], lw.Part⟩ := by
              have hg : ¬ 0 < lw.Part.Got := by rw [hpz]; simp
              have hlast : lastF lw < S := by
                unfold lastF
                rw [if_neg hg]
                cases hq : lw.L.getLast? with
                | none => simp only; omega
                | some e => have := (hent e (List.mem_of_getLast? hq)).2; simp only; omega
              unfold readF
              rw [if_neg (by simp), if_neg (by simp only; omega), if_neg (by simp), if_neg hg]
              simp
            obtain ⟨x, hx0⟩ : ∃ x, x = l.set w ⟨lw.L ++ [⟨2, S, [], V, decide (ix = 1)⟩], lw.Part⟩ := ⟨_, rfl⟩
            rw [← hx0] at hQ2 hgo1 hRn
            have hxl : x.length = l.length := by rw [hx0, List.length_set]
            have h32 : PC Try.prog 32 [bLs l, (false, [isP [(w : Int)]]), (false, [.sl false [itemP ⟨2, S, 0, ix, 0, 0, V, []⟩]])] (.one (bLs x)) := by
              have := pc_32 l w ⟨2, S, 0, ix, 0, 0, V, []⟩ lw hxw (by omega) (by rw [hpz]; simp) (by simp) (by simp only; omega) (by omega)
              rw [hrd, ← hx0] at this; exact this
            have h34 := pc_34q ⟨(w : Int), (u : Int)⟩ x (by rw [hxl]; exact hQ2) (by omega) (by omega)
            have hlen2 := hRn.len
            have hole := rinv_le hRn
            rw [← hL0] at hRn hlen2
            rw [← hW] at hole
            rw [hll] at hlen2
            generalize hG : walkG ⟨(w : Int), (u : Int)⟩ x = G at *
            obtain ⟨⟨rw_, ru⟩, rx, ro⟩ := G
            simp only at hgo1 hRn h34 hlen2 hole
            rw [List.length_append] at hole
            have hS' : 100 + (st : Int) = S := hS.symm
            have hwS : IntKind.i64.wrap (S + 1) = S + 1 := wrapI (by omega) (by omega)
            have hSS : 100 + ((st : Int) + 1) = S + 1 := by omega
            refine AW.weak (Sub.holes 1) ?_; simp only [List.replicate, List.cons_append, List.nil_append]
            all_goals repeat' (first | (refine Zc ?_ ?_ <;> intro h <;> (try simp [go_sem, hst1] at h) <;> try omega) | (refine Zi ?_; try simp only [AThen, ABlock]) | (refine Ze ?_; simp +decide only [AThen, ABlock, reduceIte]) | (refine Zt ?_; (try simp [go_sem, hst1]); all_goals (try simp [loR, lo]); all_goals try exact rfl) | ((first | refine Zq ?_ | refine Zr ?_ | refine Zw ?_ | refine Zx ?_); intro K hK; repeat' (first | ((first | with_reducible refine Z0 ?_ | with_reducible refine Zd ?_ | refine Zs ?_ | refine Zl ?_); intro HK hk; simp [go_sem, hst1]; (repeat refine ⟨by omega, ?_⟩); apply hk; clear hk HK) | ((first | ((with_reducible refine Gd ?_); first | refine Zh ?_ ?_ | refine Zk ?_ ?_) | ((with_reducible refine Ga ?_); first | refine Zg ?_ ?_ | refine Zp ?_ ?_)) <;> intro hg <;> simp only [hg] <;> (try simp at hg) <;> try omega)); all_goals try ((first | with_reducible refine Zn ?_ | refine Zm ?_); apply hK; clear hK K; try simp only [AThen, ABlock])) | refine Zz ?_ | refine Zb ?_)
            all_goals try exact rfl
            (first | with_reducible refine Z0 ?_ | with_reducible refine Zd ?_ | refine Zs ?_); intro HK hk; simp [go_sem]; (repeat refine ⟨by omega, ?_⟩); (first | refine ACall.pur rfl (pc_36 ⟨(w : Int), (u : Int)⟩ l w q hm hwn (by omega)) ?_ | refine ACallD.mk rfl (pc_36 ⟨(w : Int), (u : Int)⟩ l w q hm hwn (by omega)) ?_); simp [go_sem, hsq]; (repeat refine ⟨by omega, ?_⟩); apply hk; clear hk HK; repeat' (first | ((first | with_reducible refine Z0 ?_ | with_reducible refine Zd ?_ | refine Zs ?_ | refine Zl ?_); intro HK hk; simp [go_sem, hsq]; (repeat refine ⟨by omega, ?_⟩); apply hk; clear hk HK) | ((first | ((with_reducible refine Gd ?_); first | refine Zh ?_ ?_ | refine Zk ?_ ?_) | ((with_reducible refine Ga ?_); first | refine Zg ?_ ?_ | refine Zp ?_ ?_)) <;> intro hg <;> simp only [hg] <;> (try simp at hg) <;> try omega))
            all_goals try ((first | with_reducible refine Zn ?_ | refine Zm ?_); apply hK; clear hK K; try simp only [AThen, ABlock])
            all_goals repeat' (first | (refine Zc ?_ ?_ <;> intro h <;> (try simp [go_sem, hS', hwS] at h) <;> try omega) | (refine Zi ?_; try simp only [AThen, ABlock]) | (refine Ze ?_; simp +decide only [AThen, ABlock, reduceIte]) | (refine Zt ?_; (try simp [go_sem, hS', hwS]); all_goals (try simp [loR, lo]); all_goals try exact rfl) | ((first | refine AW.q false fun K hK => ?_ | refine AW.ql false fun K hK => ?_ | refine AW.w [(none, [3]), (none, [3]), (none, [3]), (none, [3]), (none, [3]), (none, [3]), (none, [3]), (none, [3]), (none, [3]), (none, [3]), (none, [3]), (none, [3, 3]), (none, [3, 3]), (some 3, []), (some 3, [])] rfl (by decide +kernel) fun K hK => ?_ | refine AW.wl [(none, [3]), (none, [3]), (none, [3]), (none, [3]), (none, [3]), (none, [3]), (none, [3]), (none, [3]), (none, [3]), (none, [3]), (none, [3]), (none, [3, 3]), (none, [3, 3]), (some 3, []), (some 3, [])] rfl (by decide +kernel) fun K hK => ?_); repeat' (first | ((first | with_reducible refine Z0 ?_ | with_reducible refine Zd ?_ | refine Zs ?_ | refine Zl ?_); intro HK hk; simp [go_sem, hS', hwS]; (repeat refine ⟨by omega, ?_⟩); apply hk; clear hk HK) | ((first | ((with_reducible refine Gd ?_); first | refine Zh ?_ ?_ | refine Zk ?_ ?_) | ((with_reducible refine Ga ?_); first | refine Zg ?_ ?_ | refine Zp ?_ ?_)) <;> intro hg <;> simp only [hg] <;> (try simp at hg) <;> try omega)); all_goals try ((first | with_reducible refine Zn ?_ | refine Zm ?_); apply hK; clear hK K; try simp only [AThen, ABlock])) | refine Zz ?_ | refine Zb ?_)
            all_goals try exact rfl
            (first | with_reducible refine Z0 ?_ | with_reducible refine Zd ?_ | refine Zs ?_); intro HK hk; simp [go_sem]; (repeat refine ⟨by omega, ?_⟩); (first | refine ACall.pur rfl (h32) ?_ | refine ACallD.mk rfl (h32) ?_); simp [go_sem]; (repeat refine ⟨by omega, ?_⟩); apply hk; clear hk HK; repeat' (first | ((first | with_reducible refine Z0 ?_ | with_reducible refine Zd ?_ | refine Zs ?_ | refine Zl ?_); intro HK hk; simp [go_sem]; (repeat refine ⟨by omega, ?_⟩); apply hk; clear hk HK) | ((first | ((with_reducible refine Gd ?_); first | refine Zh ?_ ?_ | refine Zk ?_ ?_) | ((with_reducible refine Ga ?_); first | refine Zg ?_ ?_ | refine Zp ?_ ?_)) <;> intro hg <;> simp only [hg] <;> (try simp at hg) <;> try omega))
            all_goals try ((first | with_reducible refine Zn ?_ | refine Zm ?_); apply hK; clear hK K; try simp only [AThen, ABlock])
            (first | with_reducible refine Z0 ?_ | with_reducible refine Zd ?_ | refine Zs ?_); intro HK hk; simp [go_sem]; (repeat refine ⟨by omega, ?_⟩); (first | refine ACall.pur rfl (h34) ?_ | refine ACallD.mk rfl (h34) ?_); simp [go_sem]; (repeat refine ⟨by omega, ?_⟩); apply hk; clear hk HK; repeat' (first | ((first | with_reducible refine Z0 ?_ | with_reducible refine Zd ?_ | refine Zs ?_ | refine Zl ?_); intro HK hk; simp [go_sem]; (repeat refine ⟨by omega, ?_⟩); apply hk; clear hk HK) | ((first | ((with_reducible refine Gd ?_); first | refine Zh ?_ ?_ | refine Zk ?_ ?_) | ((with_reducible refine Ga ?_); first | refine Zg ?_ ?_ | refine Zp ?_ ?_)) <;> intro hg <;> simp only [hg] <;> (try simp at hg) <;> try omega))
            all_goals try ((first | with_reducible refine Zn ?_ | refine Zm ?_); apply hK; clear hK K; try simp only [AThen, ABlock])
            all_goals repeat' (first | (refine Zc ?_ ?_ <;> intro h <;> (try simp [go_sem, hlen2, hwst] at h) <;> try omega) | (refine Zi ?_; try simp only [AThen, ABlock]) | (refine Ze ?_; simp +decide only [AThen, ABlock, reduceIte]) | (refine Zt ?_; (try simp [go_sem, hlen2, hwst]); all_goals (try simp [loR, lo]); all_goals try exact rfl) | ((first | refine Zq ?_ | refine Zr ?_ | refine Zw ?_ | refine Zx ?_); intro K hK; repeat' (first | ((first | with_reducible refine Z0 ?_ | with_reducible refine Zd ?_ | refine Zs ?_ | refine Zl ?_); intro HK hk; simp [go_sem, hlen2, hwst]; (repeat refine ⟨by omega, ?_⟩); apply hk; clear hk HK) | ((first | ((with_reducible refine Gd ?_); first | refine Zh ?_ ?_ | refine Zk ?_ ?_) | ((with_reducible refine Ga ?_); first | refine Zg ?_ ?_ | refine Zp ?_ ?_)) <;> intro hg <;> simp only [hg] <;> (try simp at hg) <;> try omega)); all_goals try ((first | with_reducible refine Zn ?_ | refine Zm ?_); apply hK; clear hK K; try simp only [AThen, ABlock])) | refine Zz ?_ | refine Zb ?_)
            all_goals try exact rfl
            refine ⟨⟨(⟨rw_, ru⟩, rx, o ++ ro, st + 1), hRn, by simp only [List.length_append]; omega, by simp only [List.length_append]; omega, by simp only; omega⟩, by show 100 - (st + 1) < 100 - st; omega, ?_⟩
            refine Sub.of 3 (by simp) (by first | (simp [hSS]; done) | (simp [go_sem, hSS]; done)) (by simp [go_sem]) ?_ (by simp [go_sem])
            simp [go_sem, hSS]
  · all_goals repeat' (first | (refine Zc ?_ ?_ <;> intro h <;> (try simp [go_sem] at h) <;> try omega) | (refine Zi ?_; try simp only [AThen, ABlock]) | (refine Ze ?_; simp +decide only [AThen, ABlock, reduceIte]) | (refine Zt ?_; (try simp [go_sem]); all_goals (try simp [loR, lo]); all_goals try exact rfl) | ((first | refine Zq ?_ | refine Zr ?_ | refine Zw ?_ | refine Zx ?_); intro K hK; repeat' (first | ((first | with_reducible refine Z0 ?_ | with_reducible refine Zd ?_ | refine Zs ?_ | refine Zl ?_); intro HK hk; simp [go_sem]; (repeat refine ⟨by omega, ?_⟩); apply hk; clear hk HK) | ((first | ((with_reducible refine Gd ?_); first | refine Zh ?_ ?_ | refine Zk ?_ ?_) | ((with_reducible refine Ga ?_); first | refine Zg ?_ ?_ | refine Zp ?_ ?_)) <;> intro hg <;> simp only [hg] <;> (try simp at hg) <;> try omega)); all_goals try ((first | with_reducible refine Zn ?_ | refine Zm ?_); apply hK; clear hK K; try simp only [AThen, ABlock])) | refine Zz ?_ | refine Zb ?_)
    all_goals try exact rfl
    all_goals (exfalso; omega)
end Go.Proofs.Ytogappokeheilaa
