import Derived.Test.YtogappokeheilaaB56
import Derived.Test.YtogappokeheilaaAw31
set_option linter.unusedVariables false
set_option linter.unusedSimpArgs false
set_option maxRecDepth 100000
set_option maxHeartbeats 0
namespace Go.Proofs.Ytogappokeheilaa
open Go.Aw

theorem pc_7 (t : Turn) (l : List Lane) (qu : UInt8) (hb64 : ∀ x ∈ l, ∀ e ∈ x.L, e.Seq ≤ 9223372036854775807) : PC Try.prog 7 [bTu t, bLs l, (false, [.int .u8 qu.toNat])] (.one (bB true)) := by
  have hwq : IntKind.i64.wrap (qu.toNat : Int) = (qu.toNat : Int) := wrapI (by omega) (by have := qu.toNat_lt; omega)
  obtain ⟨q0, hq, hq63⟩ : ∃ q : Nat, (qu.toNat : Int).tmod 64 = (q : Int) ∧ q ≤ 63 := ⟨qu.toNat % 64, by rw [Int.tmod_eq_emod_of_nonneg (by omega)]; omega, by omega⟩
  obtain ⟨q, hq1⟩ : ∃ q : Int, q = 1 + (q0 : Int) := ⟨_, rfl⟩
  have hw1 : IntKind.i64.wrap (1 + (q0 : Int)) = q := by rw [hq1]; exact wrapI (by omega) (by omega)
  refine PC.of_ACall (ACall.of_AW (fun args w => Try.call7 args w) Try.func7 rfl (by simp [Try.ntmps7]) ?_)
  simp only [Try.ntmps7, List.length_nil]
  all_goals repeat' (first | (refine Zc ?_ ?_ <;> intro h <;> (try simp [go_sem] at h) <;> try omega) | (refine Zi ?_; try simp only [AThen, ABlock]) | (refine Ze ?_; simp +decide only [AThen, ABlock, reduceIte]) | (refine Zt ?_; (try simp [go_sem]); all_goals (try simp [loR, lo]); all_goals try exact rfl) | ((first | refine Zq ?_ | refine Zr ?_ | refine Zw ?_ | refine Zx ?_); intro K hK; repeat' (first | ((first | with_reducible refine Z0 ?_ | with_reducible refine Zd ?_ | refine Zs ?_ | refine Zl ?_); intro HK hk; simp [go_sem]; (repeat refine ⟨by omega, ?_⟩); apply hk; clear hk HK) | ((first | ((with_reducible refine Gd ?_); first | refine Zh ?_ ?_ | refine Zk ?_ ?_) | ((with_reducible refine Ga ?_); first | refine Zg ?_ ?_ | refine Zp ?_ ?_)) <;> intro hg <;> simp only [hg] <;> (try simp at hg) <;> try omega)); all_goals try ((first | with_reducible refine Zn ?_ | refine Zm ?_); apply hK; clear hK K; try simp only [AThen, ABlock])) | refine Zz ?_ | refine Zb ?_)
  all_goals try exact rfl
  (first | with_reducible refine Z0 ?_ | with_reducible refine Zd ?_ | refine Zs ?_); intro HK hk; simp [go_sem]; (repeat refine ⟨by omega, ?_⟩); (first | refine ACall.pur rfl (pc_33) ?_ | refine ACallD.mk rfl (pc_33) ?_); simp [go_sem]; (repeat refine ⟨by omega, ?_⟩); apply hk; clear hk HK; repeat' (first | ((first | with_reducible refine Z0 ?_ | with_reducible refine Zd ?_ | refine Zs ?_ | refine Zl ?_); intro HK hk; simp [go_sem]; (repeat refine ⟨by omega, ?_⟩); apply hk; clear hk HK) | ((first | ((with_reducible refine Gd ?_); first | refine Zh ?_ ?_ | refine Zk ?_ ?_) | ((with_reducible refine Ga ?_); first | refine Zg ?_ ?_ | refine Zp ?_ ?_)) <;> intro hg <;> simp only [hg] <;> (try simp at hg) <;> try omega))
  all_goals try ((first | with_reducible refine Zn ?_ | refine Zm ?_); apply hK; clear hK K; try simp only [AThen, ABlock])
  all_goals repeat' (first | (refine Zc ?_ ?_ <;> intro h <;> (try simp [go_sem] at h) <;> try omega) | (refine Zi ?_; try simp only [AThen, ABlock]) | (refine Ze ?_; simp +decide only [AThen, ABlock, reduceIte]) | (refine Zt ?_; (try simp [go_sem]); all_goals (try simp [loR, lo]); all_goals try exact rfl) | ((first | refine Zq ?_ | refine Zr ?_ | refine Zw ?_ | refine Zx ?_); intro K hK; repeat' (first | ((first | with_reducible refine Z0 ?_ | with_reducible refine Zd ?_ | refine Zs ?_ | refine Zl ?_); intro HK hk; simp [go_sem]; (repeat refine ⟨by omega, ?_⟩); apply hk; clear hk HK) | ((first | ((with_reducible refine Gd ?_); first | refine Zh ?_ ?_ | refine Zk ?_ ?_) | ((with_reducible refine Ga ?_); first | refine Zg ?_ ?_ | refine Zp ?_ ?_)) <;> intro hg <;> simp only [hg] <;> (try simp at hg) <;> try omega)); all_goals try ((first | with_reducible refine Zn ?_ | refine Zm ?_); apply hK; clear hK K; try simp only [AThen, ABlock])) | refine Zz ?_ | refine Zb ?_)
  all_goals try exact rfl
  (first | with_reducible refine Z0 ?_ | with_reducible refine Zd ?_ | refine Zs ?_); intro HK hk; simp [go_sem]; (repeat refine ⟨by omega, ?_⟩); (first | refine ACall.pur rfl (pc_22 t l) ?_ | refine ACallD.mk rfl (pc_22 t l) ?_); simp [go_sem]; (repeat refine ⟨by omega, ?_⟩); apply hk; clear hk HK; repeat' (first | ((first | with_reducible refine Z0 ?_ | with_reducible refine Zd ?_ | refine Zs ?_ | refine Zl ?_); intro HK hk; simp [go_sem]; (repeat refine ⟨by omega, ?_⟩); apply hk; clear hk HK) | ((first | ((with_reducible refine Gd ?_); first | refine Zh ?_ ?_ | refine Zk ?_ ?_) | ((with_reducible refine Ga ?_); first | refine Zg ?_ ?_ | refine Zp ?_ ?_)) <;> intro hg <;> simp only [hg] <;> (try simp at hg) <;> try omega))
  all_goals try ((first | with_reducible refine Zn ?_ | refine Zm ?_); apply hK; clear hK K; try simp only [AThen, ABlock])
  cases hm : mayT t l with
  | false =>
    all_goals repeat' (first | (refine Zc ?_ ?_ <;> intro h <;> (try simp [go_sem, hm] at h) <;> try omega) | (refine Zi ?_; try simp only [AThen, ABlock]) | (refine Ze ?_; simp +decide only [AThen, ABlock, reduceIte]) | (refine Zt ?_; (try simp [go_sem, hm]); all_goals (try simp [loR, lo]); all_goals try exact rfl) | ((first | refine Zq ?_ | refine Zr ?_ | refine Zw ?_ | refine Zx ?_); intro K hK; repeat' (first | ((first | with_reducible refine Z0 ?_ | with_reducible refine Zd ?_ | refine Zs ?_ | refine Zl ?_); intro HK hk; simp [go_sem, hm]; (repeat refine ⟨by omega, ?_⟩); apply hk; clear hk HK) | ((first | ((with_reducible refine Gd ?_); first | refine Zh ?_ ?_ | refine Zk ?_ ?_) | ((with_reducible refine Ga ?_); first | refine Zg ?_ ?_ | refine Zp ?_ ?_)) <;> intro hg <;> simp only [hg] <;> (try simp at hg) <;> try omega)); all_goals try ((first | with_reducible refine Zn ?_ | refine Zm ?_); apply hK; clear hK K; try simp only [AThen, ABlock])) | refine Zz ?_ | refine Zb ?_)
    all_goals try exact rfl
  | true =>
    obtain ⟨hi0, hn2, hn64⟩ := winv_start hm
    have hok : ∀ x ∈ l, x.L.length ≤ 80 := fun x hx => (hi0.ok x hx).2
    have hu0 := hi0.used
    have hub := hi0.bound
    obtain ⟨w, hw⟩ : ∃ w : Nat, t.Who = w := ⟨t.Who.toNat, by have := hi0.lo; simp only at this; omega⟩
    have hwn : w < l.length := by have := hi0.hi; simp only at this; omega
    obtain ⟨lw, hxw⟩ : ∃ lw, l[w]? = some lw := ⟨_, List.getElem?_eq_getElem hwn⟩
    have hgd : l.getD w zeroL = lw := by rw [List.getD_eq_getElem?_getD, hxw]; rfl
    have hl80 := hok lw (List.mem_of_getElem? hxw)
    obtain ⟨who, u⟩ := t
    simp only at hw hu0 hub
    subst hw
    have hrw : rightF lw = true := ((qinv_start hm).ok lw (List.mem_of_getElem? hxw)).1
    have hB64 := hb64 lw (List.mem_of_getElem? hxw)
    have hpb : lw.Part.B.length ≤ 40000 := by
      have h := hm
      unfold mayT lanesF at h
      simp only [Bool.and_eq_true, List.all_eq_true] at h
      have := h.1.2 lw (List.mem_of_getElem? hxw)
      unfold goodL at this
      rw [Bool.and_eq_true] at this
      exact (few_len this.1).2
    clear hi0
    have hsf := @say_form ⟨(w : Int), u⟩ l w q
    have hsp := say_pair (t := ⟨(w : Int), u⟩) (q := q) hwn
    have hst := @said_start ⟨(w : Int), u⟩ l w q
    generalize hsq : sayQ ⟨(w : Int), u⟩ l w q = r at *
    obtain ⟨it, is⟩ := r
    all_goals repeat' (first | (refine Zc ?_ ?_ <;> intro h <;> (try simp [go_sem, hm, hwq, hq, hw1] at h) <;> try omega) | (refine Zi ?_; try simp only [AThen, ABlock]) | (refine Ze ?_; simp +decide only [AThen, ABlock, reduceIte]) | (refine Zt ?_; (try simp [go_sem, hm, hwq, hq, hw1]); all_goals (try simp [loR, lo]); all_goals try exact rfl) | ((first | refine Zq ?_ | refine Zr ?_ | refine Zw ?_ | refine Zx ?_); intro K hK; repeat' (first | ((first | with_reducible refine Z0 ?_ | with_reducible refine Zd ?_ | refine Zs ?_ | refine Zl ?_); intro HK hk; simp [go_sem, hm, hwq, hq, hw1]; (repeat refine ⟨by omega, ?_⟩); apply hk; clear hk HK) | ((first | ((with_reducible refine Gd ?_); first | refine Zh ?_ ?_ | refine Zk ?_ ?_) | ((with_reducible refine Ga ?_); first | refine Zg ?_ ?_ | refine Zp ?_ ?_)) <;> intro hg <;> simp only [hg] <;> (try simp at hg) <;> try omega)); all_goals try ((first | with_reducible refine Zn ?_ | refine Zm ?_); apply hK; clear hK K; try simp only [AThen, ABlock])) | refine Zz ?_ | refine Zb ?_)
    all_goals try exact rfl
    (first | with_reducible refine Z0 ?_ | with_reducible refine Zd ?_ | refine Zs ?_); intro HK hk; simp [go_sem]; (repeat refine ⟨by omega, ?_⟩); (first | refine ACall.pur rfl (pc_36 ⟨(w : Int), u⟩ l w q hm hwn (by omega)) ?_ | refine ACallD.mk rfl (pc_36 ⟨(w : Int), u⟩ l w q hm hwn (by omega)) ?_); simp [go_sem, hsq]; (repeat refine ⟨by omega, ?_⟩); apply hk; clear hk HK; repeat' (first | ((first | with_reducible refine Z0 ?_ | with_reducible refine Zd ?_ | refine Zs ?_ | refine Zl ?_); intro HK hk; simp [go_sem, hsq]; (repeat refine ⟨by omega, ?_⟩); apply hk; clear hk HK) | ((first | ((with_reducible refine Gd ?_); first | refine Zh ?_ ?_ | refine Zk ?_ ?_) | ((with_reducible refine Ga ?_); first | refine Zg ?_ ?_ | refine Zp ?_ ?_)) <;> intro hg <;> simp only [hg] <;> (try simp at hg) <;> try omega))
    all_goals try ((first | with_reducible refine Zn ?_ | refine Zm ?_); apply hK; clear hK K; try simp only [AThen, ABlock])
    cases is with
    | false =>
      all_goals repeat' (first | (refine Zc ?_ ?_ <;> intro h <;> (try simp [go_sem] at h) <;> try omega) | (refine Zi ?_; try simp only [AThen, ABlock]) | (refine Ze ?_; simp +decide only [AThen, ABlock, reduceIte]) | (refine Zt ?_; (try simp [go_sem]); all_goals (try simp [loR, lo]); all_goals try exact rfl) | ((first | refine Zq ?_ | refine Zr ?_ | refine Zw ?_ | refine Zx ?_); intro K hK; repeat' (first | ((first | with_reducible refine Z0 ?_ | with_reducible refine Zd ?_ | refine Zs ?_ | refine Zl ?_); intro HK hk; simp [go_sem]; (repeat refine ⟨by omega, ?_⟩); apply hk; clear hk HK) | ((first | ((with_reducible refine Gd ?_); first | refine Zh ?_ ?_ | refine Zk ?_ ?_) | ((with_reducible refine Ga ?_); first | refine Zg ?_ ?_ | refine Zp ?_ ?_)) <;> intro hg <;> simp only [hg] <;> (try simp at hg) <;> try omega)); all_goals try ((first | with_reducible refine Zn ?_ | refine Zm ?_); apply hK; clear hK K; try simp only [AThen, ABlock])) | refine Zz ?_ | refine Zb ?_)
      all_goals try exact rfl
    | true =>
      obtain ⟨hit, hV0, _, hctl⟩ := hsf rfl
      rw [hgd] at hctl
      generalize hV : someQ ⟨(w : Int), u⟩ l w q = V at *
      obtain ⟨ix, hix⟩ : ∃ ix : Int, ix = if q ≤ u + V.length then 1 else 0 := ⟨_, rfl⟩
      simp only at hit
      rw [← hix] at hit
      subst hit
      simp only at hsp
      obtain ⟨hpa, hpw⟩ := hsp
      obtain ⟨S, hS⟩ : ∃ S, IntKind.i64.wrap (highF lw + 1) = S := ⟨_, rfl⟩
      all_goals repeat' (first | (refine Zc ?_ ?_ <;> intro h <;> (try simp [go_sem, hxw] at h) <;> try omega) | (refine Zi ?_; try simp only [AThen, ABlock]) | (refine Ze ?_; simp +decide only [AThen, ABlock, reduceIte]) | (refine Zt ?_; (try simp [go_sem, hxw]); all_goals (try simp [loR, lo]); all_goals try exact rfl) | ((first | refine Zq ?_ | refine Zr ?_ | refine Zw ?_ | refine Zx ?_); intro K hK; repeat' (first | ((first | with_reducible refine Z0 ?_ | with_reducible refine Zd ?_ | refine Zs ?_ | refine Zl ?_); intro HK hk; simp [go_sem, hxw]; (repeat refine ⟨by omega, ?_⟩); apply hk; clear hk HK) | ((first | ((with_reducible refine Gd ?_); first | refine Zh ?_ ?_ | refine Zk ?_ ?_) | ((with_reducible refine Ga ?_); first | refine Zg ?_ ?_ | refine Zp ?_ ?_)) <;> intro hg <;> simp only [hg] <;> (try simp at hg) <;> try omega)); all_goals try ((first | with_reducible refine Zn ?_ | refine Zm ?_); apply hK; clear hK K; try simp only [AThen, ABlock])) | refine Zz ?_ | refine Zb ?_)
      all_goals try exact rfl
      (first | with_reducible refine Z0 ?_ | with_reducible refine Zd ?_ | refine Zs ?_); intro HK hk; simp [go_sem]; (repeat refine ⟨by omega, ?_⟩); (first | refine ACall.pur rfl (pc_38 lw) ?_ | refine ACallD.mk rfl (pc_38 lw) ?_); simp [go_sem, hS, hxw]; (repeat refine ⟨by omega, ?_⟩); apply hk; clear hk HK; repeat' (first | ((first | with_reducible refine Z0 ?_ | with_reducible refine Zd ?_ | refine Zs ?_ | refine Zl ?_); intro HK hk; simp [go_sem, hS, hxw]; (repeat refine ⟨by omega, ?_⟩); apply hk; clear hk HK) | ((first | ((with_reducible refine Gd ?_); first | refine Zh ?_ ?_ | refine Zk ?_ ?_) | ((with_reducible refine Ga ?_); first | refine Zg ?_ ?_ | refine Zp ?_ ?_)) <;> intro hg <;> simp only [hg] <;> (try simp at hg) <;> try omega))
      all_goals try ((first | with_reducible refine Zn ?_ | refine Zm ?_); apply hK; clear hK K; try simp only [AThen, ABlock])
      by_cases hg : 0 < lw.Part.Got
      · all_goals repeat' (first | (refine Zc ?_ ?_ <;> intro h <;> (try simp [go_sem, hxw, hg] at h) <;> try omega) | (refine Zi ?_; try simp only [AThen, ABlock]) | (refine Ze ?_; simp +decide only [AThen, ABlock, reduceIte]) | (refine Zt ?_; (try simp [go_sem, hxw, hg]); all_goals (try simp [loR, lo]); all_goals try exact rfl) | ((first | refine Zq ?_ | refine Zr ?_ | refine Zw ?_ | refine Zx ?_); intro K hK; repeat' (first | ((first | with_reducible refine Z0 ?_ | with_reducible refine Zd ?_ | refine Zs ?_ | refine Zl ?_); intro HK hk; simp [go_sem, hxw, hg]; (repeat refine ⟨by omega, ?_⟩); apply hk; clear hk HK) | ((first | ((with_reducible refine Gd ?_); first | refine Zh ?_ ?_ | refine Zk ?_ ?_) | ((with_reducible refine Ga ?_); first | refine Zg ?_ ?_ | refine Zp ?_ ?_)) <;> intro hg <;> simp only [hg] <;> (try simp at hg) <;> try omega)); all_goals try ((first | with_reducible refine Zn ?_ | refine Zm ?_); apply hK; clear hK K; try simp only [AThen, ABlock])) | refine Zz ?_ | refine Zb ?_)
        all_goals try exact rfl
      · all_goals repeat' (first | (refine Zc ?_ ?_ <;> intro h <;> (try simp [go_sem, hxw, hg] at h) <;> try omega) | (refine Zi ?_; try simp only [AThen, ABlock]) | (refine Ze ?_; simp +decide only [AThen, ABlock, reduceIte]) | (refine Zt ?_; (try simp [go_sem, hxw, hg]); all_goals (try simp [loR, lo]); all_goals try exact rfl) | ((first | refine Zq ?_ | refine Zr ?_ | refine Zw ?_ | refine Zx ?_); intro K hK; repeat' (first | ((first | with_reducible refine Z0 ?_ | with_reducible refine Zd ?_ | refine Zs ?_ | refine Zl ?_); intro HK hk; simp [go_sem, hxw, hg]; (repeat refine ⟨by omega, ?_⟩); apply hk; clear hk HK) | ((first | ((with_reducible refine Gd ?_); first | refine Zh ?_ ?_ | refine Zk ?_ ?_) | ((with_reducible refine Ga ?_); first | refine Zg ?_ ?_ | refine Zp ?_ ?_)) <;> intro hg <;> simp only [hg] <;> (try simp at hg) <;> try omega)); all_goals try ((first | with_reducible refine Zn ?_ | refine Zm ?_); apply hK; clear hK K; try simp only [AThen, ABlock])) | refine Zz ?_ | refine Zb ?_)
        all_goals try exact rfl
        (first | with_reducible refine Z0 ?_ | with_reducible refine Zd ?_ | refine Zs ?_); intro HK hk; simp [go_sem]; (repeat refine ⟨by omega, ?_⟩); (first | refine ACall.pur rfl (pc_39 ⟨2, S, 0, ix, 0, 0, V, []⟩) ?_ | refine ACallD.mk rfl (pc_39 ⟨2, S, 0, ix, 0, 0, V, []⟩) ?_); simp [go_sem]; (repeat refine ⟨by omega, ?_⟩); apply hk; clear hk HK; repeat' (first | ((first | with_reducible refine Z0 ?_ | with_reducible refine Zd ?_ | refine Zs ?_ | refine Zl ?_); intro HK hk; simp [go_sem]; (repeat refine ⟨by omega, ?_⟩); apply hk; clear hk HK) | ((first | ((with_reducible refine Gd ?_); first | refine Zh ?_ ?_ | refine Zk ?_ ?_) | ((with_reducible refine Ga ?_); first | refine Zg ?_ ?_ | refine Zp ?_ ?_)) <;> intro hg <;> simp only [hg] <;> (try simp at hg) <;> try omega))
        all_goals try ((first | with_reducible refine Zn ?_ | refine Zm ?_); apply hK; clear hK K; try simp only [AThen, ABlock])
        cases hmi : mayI ⟨2, S, 0, ix, 0, 0, V, []⟩ with
        | false =>
          all_goals repeat' (first | (refine Zc ?_ ?_ <;> intro h <;> (try simp [go_sem, hmi] at h) <;> try omega) | (refine Zi ?_; try simp only [AThen, ABlock]) | (refine Ze ?_; simp +decide only [AThen, ABlock, reduceIte]) | (refine Zt ?_; (try simp [go_sem, hmi]); all_goals (try simp [loR, lo]); all_goals try exact rfl) | ((first | refine Zq ?_ | refine Zr ?_ | refine Zw ?_ | refine Zx ?_); intro K hK; repeat' (first | ((first | with_reducible refine Z0 ?_ | with_reducible refine Zd ?_ | refine Zs ?_ | refine Zl ?_); intro HK hk; simp [go_sem, hmi]; (repeat refine ⟨by omega, ?_⟩); apply hk; clear hk HK) | ((first | ((with_reducible refine Gd ?_); first | refine Zh ?_ ?_ | refine Zk ?_ ?_) | ((with_reducible refine Ga ?_); first | refine Zg ?_ ?_ | refine Zp ?_ ?_)) <;> intro hg <;> simp only [hg] <;> (try simp at hg) <;> try omega)); all_goals try ((first | with_reducible refine Zn ?_ | refine Zm ?_); apply hK; clear hK K; try simp only [AThen, ABlock])) | refine Zz ?_ | refine Zb ?_)
          all_goals try exact rfl
        | true =>
          have hS1 : 1 ≤ S := may_seq hmi
          have hpz : lw.Part = ⟨0, 0, 0, []⟩ := by
            rcases ((right_iff lw).1 hrw).2 with h | h
            · exact h
            · exact absurd h.1 hg
          have hfg := fold_ge lw.L lw.Part.Seq
          have hfl : highF lw ≤ 9223372036854775807 := fold_le lw.L lw.Part.Seq (by rw [hpz]; simp) hB64
          have hSe : highF lw + 1 = S := by
            by_cases h : highF lw + 1 ≤ 9223372036854775807
            · have h0 : (0 : Int) ≤ highF lw := by have := hfg.1; rw [hpz] at this; simp only at this; unfold highF; rw [hpz]; exact this
              rw [wrapI (by omega) h] at hS; exact hS
            · have h1 : highF lw = 9223372036854775807 := by omega
              rw [h1] at hS
              have h2 : IntKind.i64.wrap ((9223372036854775807 : Int) + 1) = -9223372036854775808 := by decide
              omega
          have hSall : ∀ e ∈ lw.L, e.Seq < S := fun e he => by
            have := hfg.2 e he
            unfold highF at hSe
            omega
          have hst2 := hst hm rfl hxw (V := V) (hd := decide (ix = 1)) rfl hV0 (by omega) hctl hS1 hSall hg
          clear hst hsf hsq
          obtain ⟨hQ2, hSI, hVn, hcnt, hV1, hV64, huq⟩ := hst2
          have hrd : (readF lw ⟨2, S, 0, ix, 0, 0, V, []⟩).1 = ⟨lw.L ++ [⟨2, S, [], V, decide (ix = 1)⟩], lw.Part⟩ := by
            have hlast : lastF lw < S := by
              unfold lastF
              rw [if_neg hg]
              cases hq : lw.L.getLast? with
              | none => simp only; omega
              | some e => exact hSall e (List.mem_of_getLast? hq)
            unfold readF
            rw [if_neg (by simp), if_neg (by simp only; omega), if_neg (by simp), if_neg hg]
            simp
          obtain ⟨hout, holen, hend1, hend0⟩ := said_end hQ2 hSI hVn hcnt
          have hIR := walkQ_inv hQ2 (mu (l.set w ⟨lw.L ++ [⟨2, S, [], V, decide (ix = 1)⟩], lw.Part⟩))
          obtain ⟨x, hx0⟩ : ∃ x, x = l.set w ⟨lw.L ++ [⟨2, S, [], V, decide (ix = 1)⟩], lw.Part⟩ := ⟨_, rfl⟩
          rw [← hx0] at hQ2 hout holen hend1 hend0 hIR
          have hxl : x.length = l.length := by rw [hx0, List.length_set]
          have hxx : x[w]? = some ⟨lw.L ++ [⟨2, S, [], V, decide (ix = 1)⟩], lw.Part⟩ := by rw [hx0, List.getElem?_set_self hwn]
          have h32 : PC Try.prog 32 [bLs l, (false, [isP [(w : Int)]]), (false, [.sl false [itemP ⟨2, S, 0, ix, 0, 0, V, []⟩]])] (.one (bLs x)) := by
            have := pc_32 l w ⟨2, S, 0, ix, 0, 0, V, []⟩ lw hxw (by omega) (by omega) (by simp) (by simp only; omega) hn64
            rw [hrd, ← hx0] at this; exact this
          have h34 := pc_34q ⟨(w : Int), u⟩ x (by rw [hxl]; exact hQ2) (by omega) (by omega)
          have hRl : (walkG ⟨(w : Int), u⟩ x).x.length = l.length := hIR.len
          have hRo : (walkG ⟨(w : Int), u⟩ x).o.length ≤ 500000 := by
            have h1 : (walkG ⟨(w : Int), u⟩ x).o.length + mu (walkG ⟨(w : Int), u⟩ x).x ≤ 500000 := hIR.out
            omega
          clear hIR hcnt hSI hQ2 hrd
          generalize hR : walkG ⟨(w : Int), u⟩ x = R at *
          obtain ⟨⟨rw_, ru⟩, rx, ro⟩ := R
          simp only at hout holen hend1 hend0 hRl hRo h34
          simp only at huq hix
          have hwu : IntKind.i64.wrap (u + (V.length : Int)) = u + (V.length : Int) := wrapI (by omega) (by omega)
          have hloN : ¬ ro.length < V.length := by omega
          have hN1 : ¬ V.length < 1 := by omega
          have huN : ¬ q < u + (V.length : Int) := by omega
          have hro0 : ro ≠ [] := fun h => by rw [h] at holen; simp only [List.length_nil] at holen; omega
          all_goals repeat' (first | (refine Zc ?_ ?_ <;> intro h <;> (try simp [go_sem, hmi] at h) <;> try omega) | (refine Zi ?_; try simp only [AThen, ABlock]) | (refine Ze ?_; simp +decide only [AThen, ABlock, reduceIte]) | (refine Zt ?_; (try simp [go_sem, hmi]); all_goals (try simp [loR, lo]); all_goals try exact rfl) | ((first | refine Zq ?_ | refine Zr ?_ | refine Zw ?_ | refine Zx ?_); intro K hK; repeat' (first | ((first | with_reducible refine Z0 ?_ | with_reducible refine Zd ?_ | refine Zs ?_ | refine Zl ?_); intro HK hk; simp [go_sem, hmi]; (repeat refine ⟨by omega, ?_⟩); apply hk; clear hk HK) | ((first | ((with_reducible refine Gd ?_); first | refine Zh ?_ ?_ | refine Zk ?_ ?_) | ((with_reducible refine Ga ?_); first | refine Zg ?_ ?_ | refine Zp ?_ ?_)) <;> intro hg <;> simp only [hg] <;> (try simp at hg) <;> try omega)); all_goals try ((first | with_reducible refine Zn ?_ | refine Zm ?_); apply hK; clear hK K; try simp only [AThen, ABlock])) | refine Zz ?_ | refine Zb ?_)
          all_goals try exact rfl
          (first | with_reducible refine Z0 ?_ | with_reducible refine Zd ?_ | refine Zs ?_); intro HK hk; simp [go_sem]; (repeat refine ⟨by omega, ?_⟩); (first | refine ACall.pur rfl (h32) ?_ | refine ACallD.mk rfl (h32) ?_); simp [go_sem]; (repeat refine ⟨by omega, ?_⟩); apply hk; clear hk HK; repeat' (first | ((first | with_reducible refine Z0 ?_ | with_reducible refine Zd ?_ | refine Zs ?_ | refine Zl ?_); intro HK hk; simp [go_sem]; (repeat refine ⟨by omega, ?_⟩); apply hk; clear hk HK) | ((first | ((with_reducible refine Gd ?_); first | refine Zh ?_ ?_ | refine Zk ?_ ?_) | ((with_reducible refine Ga ?_); first | refine Zg ?_ ?_ | refine Zp ?_ ?_)) <;> intro hg <;> simp only [hg] <;> (try simp at hg) <;> try omega))
          all_goals try ((first | with_reducible refine Zn ?_ | refine Zm ?_); apply hK; clear hK K; try simp only [AThen, ABlock])
          all_goals repeat' (first | (refine Zc ?_ ?_ <;> intro h <;> (try simp [go_sem] at h) <;> try omega) | (refine Zi ?_; try simp only [AThen, ABlock]) | (refine Ze ?_; simp +decide only [AThen, ABlock, reduceIte]) | (refine Zt ?_; (try simp [go_sem]); all_goals (try simp [loR, lo]); all_goals try exact rfl) | ((first | refine Zq ?_ | refine Zr ?_ | refine Zw ?_ | refine Zx ?_); intro K hK; repeat' (first | ((first | with_reducible refine Z0 ?_ | with_reducible refine Zd ?_ | refine Zs ?_ | refine Zl ?_); intro HK hk; simp [go_sem]; (repeat refine ⟨by omega, ?_⟩); apply hk; clear hk HK) | ((first | ((with_reducible refine Gd ?_); first | refine Zh ?_ ?_ | refine Zk ?_ ?_) | ((with_reducible refine Ga ?_); first | refine Zg ?_ ?_ | refine Zp ?_ ?_)) <;> intro hg <;> simp only [hg] <;> (try simp at hg) <;> try omega)); all_goals try ((first | with_reducible refine Zn ?_ | refine Zm ?_); apply hK; clear hK K; try simp only [AThen, ABlock])) | refine Zz ?_ | refine Zb ?_)
          all_goals try exact rfl
          (first | with_reducible refine Z0 ?_ | with_reducible refine Zd ?_ | refine Zs ?_); intro HK hk; simp [go_sem]; (repeat refine ⟨by omega, ?_⟩); (first | refine ACall.pur rfl (h34) ?_ | refine ACallD.mk rfl (h34) ?_); simp [go_sem]; (repeat refine ⟨by omega, ?_⟩); apply hk; clear hk HK; repeat' (first | ((first | with_reducible refine Z0 ?_ | with_reducible refine Zd ?_ | refine Zs ?_ | refine Zl ?_); intro HK hk; simp [go_sem]; (repeat refine ⟨by omega, ?_⟩); apply hk; clear hk HK) | ((first | ((with_reducible refine Gd ?_); first | refine Zh ?_ ?_ | refine Zk ?_ ?_) | ((with_reducible refine Ga ?_); first | refine Zg ?_ ?_ | refine Zp ?_ ?_)) <;> intro hg <;> simp only [hg] <;> (try simp at hg) <;> try omega))
          all_goals try ((first | with_reducible refine Zn ?_ | refine Zm ?_); apply hK; clear hK K; try simp only [AThen, ABlock])
          by_cases hqi : q ≤ u + V.length
          · rw [if_pos hqi] at hix
            subst hix
            have hqe : q = u + V.length := by omega
            obtain ⟨xa, br, hxa, hbr, hblt⟩ := hend1 rfl
            rw [hxx] at hxa
            cases hxa
            simp only [List.length_append, List.length_cons, List.length_nil] at hblt
            subst hqe
            all_goals repeat' (first | (refine Zc ?_ ?_ <;> intro h <;> (try simp [go_sem, hRl, hwu, hloN, hN1, huN] at h) <;> try omega) | (refine Zi ?_; try simp only [AThen, ABlock]) | (refine Ze ?_; simp +decide only [AThen, ABlock, reduceIte]) | (refine Zt ?_; (try simp [go_sem, hRl, hwu, hloN, hN1, huN]); all_goals (try simp [loR, lo]); all_goals try exact rfl) | ((first | refine Zq ?_ | refine Zr ?_ | refine Zw ?_ | refine Zx ?_); intro K hK; repeat' (first | ((first | with_reducible refine Z0 ?_ | with_reducible refine Zd ?_ | refine Zs ?_ | refine Zl ?_); intro HK hk; simp [go_sem, hRl, hwu, hloN, hN1, huN]; (repeat refine ⟨by omega, ?_⟩); apply hk; clear hk HK) | ((first | ((with_reducible refine Gd ?_); first | refine Zh ?_ ?_ | refine Zk ?_ ?_) | ((with_reducible refine Ga ?_); first | refine Zg ?_ ?_ | refine Zp ?_ ?_)) <;> intro hg <;> simp only [hg] <;> (try simp at hg) <;> try omega)); all_goals try ((first | with_reducible refine Zn ?_ | refine Zm ?_); apply hK; clear hK K; try simp only [AThen, ABlock])) | refine Zz ?_ | refine Zb ?_)
            all_goals try exact rfl
            refine AW.upto V.length (fun _ => True) (fun i => [(16, .c (.p (.int .i64 i))), (15, .c (.p (.int .i64 V.length))), (14, .c (.p (dvP ro))), (13, .c (.p (lnP rx))), (12, .c (.ptr 2 0)), (11, .c (.p (lnP x))), (9, .c (.ptr 1 0)), (7, .c (.p (.bool true))), (3, .c (.ptr 0 0)), (1, .c (.p (lnP l)))])
              (fun _ => [.var [.p (.int .i64 w), .p (.int .i64 u)], .var ((itemP ⟨2, S, 0, 1, 0, 0, V, []⟩).map .p), .var [.p (.int .i64 rw_), .p (.int .i64 ru)]]) trivial ?_ fun i hi _ => ?_
            · refine Sub.of 3 (by simp) (by first | (simp; done) | (simp [go_sem]; done)) (by simp [go_sem]) ?_ (by simp [go_sem])
              simp [go_sem]
            · have hwi := wrapS (show (i : Int) < 9223372036854775807 by omega)
              by_cases hiv : i < V.length
              · obtain ⟨d, hd, hdv⟩ := hout i hiv
                have hdm := List.mem_of_getElem? hdv
                obtain ⟨a, ha, hal⟩ := hpa d.From hdm
                rw [ha] at hdv
                have hdv' := (List.getElem?_eq_some_iff.1 hdv).2
                have hd' := (List.getElem?_eq_some_iff.1 hd).2
                have hir : i < ro.length := by omega
                cases i with
                | zero =>
                  all_goals repeat' (first | (refine Zc ?_ ?_ <;> intro h <;> (try simp [go_sem, hwi, hd', ha, hdv', hiv, hir, hV0, hro0] at h) <;> try omega) | (refine Zi ?_; try simp only [AThen, ABlock]) | (refine Ze ?_; simp +decide only [AThen, ABlock, reduceIte]) | (refine Zt ?_; (try simp [go_sem, hwi, hd', ha, hdv', hiv, hir, hV0, hro0]); all_goals (try simp [loR, lo]); all_goals try exact rfl) | ((first | refine Zq ?_ | refine Zr ?_ | refine Zw ?_ | refine Zx ?_); intro K hK; repeat' (first | ((first | with_reducible refine Z0 ?_ | with_reducible refine Zd ?_ | refine Zs ?_ | refine Zl ?_); intro HK hk; simp [go_sem, hwi, hd', ha, hdv', hiv, hir, hV0, hro0]; (repeat refine ⟨by omega, ?_⟩); apply hk; clear hk HK) | ((first | ((with_reducible refine Gd ?_); first | refine Zh ?_ ?_ | refine Zk ?_ ?_) | ((with_reducible refine Ga ?_); first | refine Zg ?_ ?_ | refine Zp ?_ ?_)) <;> intro hg <;> simp only [hg] <;> (try simp at hg) <;> try omega)); all_goals try ((first | with_reducible refine Zn ?_ | refine Zm ?_); apply hK; clear hK K; try simp only [AThen, ABlock])) | refine Zz ?_ | refine Zb ?_)
                  all_goals try exact rfl
                  refine ⟨hiv, trivial, ?_⟩
                  refine Sub.of 3 (by simp) (by first | (simp; done) | (simp [go_sem]; done)) (by simp [go_sem]) ?_ (by simp [go_sem])
                  simp [go_sem]
                | succ p =>
                  obtain ⟨b0, hb0⟩ : ∃ b, V[p]? = some b := ⟨_, List.getElem?_eq_getElem (by omega)⟩
                  obtain ⟨b, rfl, hbl⟩ := hpa b0 (List.mem_of_getElem? hb0)
                  have hb0' := (List.getElem?_eq_some_iff.1 hb0).2
                  have hpl : p < V.length := by omega
                  have hwp : IntKind.i64.wrap (p : Int) = (p : Int) := wrapI (by omega) (by omega)
                  have hwj2 : IntKind.i64.wrap ((p : Int) + 1 + 1) = (p : Int) + 1 + 1 := wrapI (by omega) (by omega)
                  have hle : rndI b w l.length ≤ rndI a w l.length := by
                    have := List.pairwise_iff_getElem.1 hpw p (p + 1) (by omega) hiv (by omega)
                    rwa [hb0', hdv'] at this
                  have hle' : ¬ rndI a w l.length < rndI b w l.length := by omega
                  all_goals repeat' (first | (refine Zc ?_ ?_ <;> intro h <;> (try simp [go_sem, hd', ha, hdv', hiv, hir, hwp] at h) <;> try omega) | (refine Zi ?_; try simp only [AThen, ABlock]) | (refine Ze ?_; simp +decide only [AThen, ABlock, reduceIte]) | (refine Zt ?_; (try simp [go_sem, hd', ha, hdv', hiv, hir, hwp]); all_goals (try simp [loR, lo]); all_goals try exact rfl) | ((first | refine Zq ?_ | refine Zr ?_ | refine Zw ?_ | refine Zx ?_); intro K hK; repeat' (first | ((first | with_reducible refine Z0 ?_ | with_reducible refine Zd ?_ | refine Zs ?_ | refine Zl ?_); intro HK hk; simp [go_sem, hd', ha, hdv', hiv, hir, hwp]; (repeat refine ⟨by omega, ?_⟩); apply hk; clear hk HK) | ((first | ((with_reducible refine Gd ?_); first | refine Zh ?_ ?_ | refine Zk ?_ ?_) | ((with_reducible refine Ga ?_); first | refine Zg ?_ ?_ | refine Zp ?_ ?_)) <;> intro hg <;> simp only [hg] <;> (try simp at hg) <;> try omega)); all_goals try ((first | with_reducible refine Zn ?_ | refine Zm ?_); apply hK; clear hK K; try simp only [AThen, ABlock])) | refine Zz ?_ | refine Zb ?_)
                  all_goals try exact rfl
                  (first | with_reducible refine Z0 ?_ | with_reducible refine Zd ?_ | refine Zs ?_); intro HK hk; simp [go_sem]; (repeat refine ⟨by omega, ?_⟩); (first | refine ACall.pur rfl (pc_40 a w l.length (by omega) (by omega) hn64) ?_ | refine ACallD.mk rfl (pc_40 a w l.length (by omega) (by omega) hn64) ?_); simp [go_sem, hwp, hb0, hb0', hpl]; (repeat refine ⟨by omega, ?_⟩); apply hk; clear hk HK; repeat' (first | ((first | with_reducible refine Z0 ?_ | with_reducible refine Zd ?_ | refine Zs ?_ | refine Zl ?_); intro HK hk; simp [go_sem, hwp, hb0, hb0', hpl]; (repeat refine ⟨by omega, ?_⟩); apply hk; clear hk HK) | ((first | ((with_reducible refine Gd ?_); first | refine Zh ?_ ?_ | refine Zk ?_ ?_) | ((with_reducible refine Ga ?_); first | refine Zg ?_ ?_ | refine Zp ?_ ?_)) <;> intro hg <;> simp only [hg] <;> (try simp at hg) <;> try omega))
                  all_goals try ((first | with_reducible refine Zn ?_ | refine Zm ?_); apply hK; clear hK K; try simp only [AThen, ABlock])
                  (first | with_reducible refine Z0 ?_ | with_reducible refine Zd ?_ | refine Zs ?_); intro HK hk; simp [go_sem]; (repeat refine ⟨by omega, ?_⟩); (first | refine ACall.pur rfl (pc_40 b w l.length (by omega) (by omega) hn64) ?_ | refine ACallD.mk rfl (pc_40 b w l.length (by omega) (by omega) hn64) ?_); simp [go_sem, hle']; (repeat refine ⟨by omega, ?_⟩); apply hk; clear hk HK; repeat' (first | ((first | with_reducible refine Z0 ?_ | with_reducible refine Zd ?_ | refine Zs ?_ | refine Zl ?_); intro HK hk; simp [go_sem, hle']; (repeat refine ⟨by omega, ?_⟩); apply hk; clear hk HK) | ((first | ((with_reducible refine Gd ?_); first | refine Zh ?_ ?_ | refine Zk ?_ ?_) | ((with_reducible refine Ga ?_); first | refine Zg ?_ ?_ | refine Zp ?_ ?_)) <;> intro hg <;> simp only [hg] <;> (try simp at hg) <;> try omega))
                  all_goals try ((first | with_reducible refine Zn ?_ | refine Zm ?_); apply hK; clear hK K; try simp only [AThen, ABlock])
                  all_goals repeat' (first | (refine Zc ?_ ?_ <;> intro h <;> (try simp [go_sem, hwj2] at h) <;> try omega) | (refine Zi ?_; try simp only [AThen, ABlock]) | (refine Ze ?_; simp +decide only [AThen, ABlock, reduceIte]) | (refine Zt ?_; (try simp [go_sem, hwj2]); all_goals (try simp [loR, lo]); all_goals try exact rfl) | ((first | refine Zq ?_ | refine Zr ?_ | refine Zw ?_ | refine Zx ?_); intro K hK; repeat' (first | ((first | with_reducible refine Z0 ?_ | with_reducible refine Zd ?_ | refine Zs ?_ | refine Zl ?_); intro HK hk; simp [go_sem, hwj2]; (repeat refine ⟨by omega, ?_⟩); apply hk; clear hk HK) | ((first | ((with_reducible refine Gd ?_); first | refine Zh ?_ ?_ | refine Zk ?_ ?_) | ((with_reducible refine Ga ?_); first | refine Zg ?_ ?_ | refine Zp ?_ ?_)) <;> intro hg <;> simp only [hg] <;> (try simp at hg) <;> try omega)); all_goals try ((first | with_reducible refine Zn ?_ | refine Zm ?_); apply hK; clear hK K; try simp only [AThen, ABlock])) | refine Zz ?_ | refine Zb ?_)
                  all_goals try exact rfl
                  refine ⟨hiv, trivial, ?_⟩
                  refine Sub.of 3 (by simp) (by first | (simp; done) | (simp [go_sem]; done)) (by simp [go_sem]) ?_ (by simp [go_sem])
                  simp [go_sem]
              · obtain rfl : i = V.length := by omega
                have hww : IntKind.i64.wrap ((w : Int) + 1) = (w : Int) + 1 := wrapI (by omega) (by omega)
                by_cases hlast : w + 1 = l.length
                · have hlast' : (w : Int) + 1 = l.length := by omega
                  obtain ⟨ny, hny⟩ : ∃ ny, l[0]? = some ny := ⟨_, List.getElem?_eq_getElem (by omega)⟩
                  obtain ⟨nb, hnb⟩ : ∃ nb, rx[0]? = some nb := ⟨_, List.getElem?_eq_getElem (by omega)⟩
                  have hny' := (List.getElem?_eq_some_iff.1 hny).2
                  have hnb' := (List.getElem?_eq_some_iff.1 hnb).2
                  have hwl : IntKind.i64.wrap (l.length : Int) = (l.length : Int) := wrapI (by omega) (by omega)
                  have hln : l ≠ [] := fun h => by rw [h] at hn2; simp at hn2
                  have hrn : rx ≠ [] := fun h => by rw [h] at hRl; simp only [List.length_nil] at hRl; omega
                  try clear hS; try clear hSe; try clear hSall; try clear hfl; try clear hfg; try clear hpz; try clear hmi; try clear hwu; try clear hloN; try clear hN1; try clear huN; try clear hro0; try clear hqi; try clear hub; try clear hu0; try clear hwq; try clear hq; try clear hq63; try clear hq1; try clear hw1; try clear hB64; try clear hb64; try clear hV0; try clear hV1; try clear hV64; try clear holen; try clear hout; try clear hend0; try clear hend1; try clear hpa; try clear hpw; try clear hVn; try clear hctl; try clear hRo; try clear hS1; try clear hpb; try clear hl80; try clear hok; try clear hm; try clear hrw; try clear hgd; try clear hsq; try clear hsf; try clear hst; try clear hR; try clear h32; try clear h34; try clear hx0; try clear hwi; try clear hi; try clear huq
                  all_goals repeat' (first | (refine Zc ?_ ?_ <;> intro h <;> (try simp [go_sem, hww, hlast', hwl, hny, hny', hnb, hnb', hln, hrn, hRl, hxx, hbr, hblt] at h) <;> try omega) | (refine Zi ?_; try simp only [AThen, ABlock]) | (refine Ze ?_; simp +decide only [AThen, ABlock, reduceIte]) | (refine Zt ?_; (try simp [go_sem, hww, hlast', hwl, hny, hny', hnb, hnb', hln, hrn, hRl, hxx, hbr, hblt]); all_goals (try simp [loR, lo]); all_goals try exact rfl) | ((first | refine Zq ?_ | refine Zr ?_ | refine Zw ?_ | refine Zx ?_); intro K hK; repeat' (first | ((first | with_reducible refine Z0 ?_ | with_reducible refine Zd ?_ | refine Zs ?_ | refine Zl ?_); intro HK hk; simp [go_sem, hww, hlast', hwl, hny, hny', hnb, hnb', hln, hrn, hRl, hxx, hbr, hblt]; (repeat refine ⟨by omega, ?_⟩); apply hk; clear hk HK) | ((first | ((with_reducible refine Gd ?_); first | refine Zh ?_ ?_ | refine Zk ?_ ?_) | ((with_reducible refine Ga ?_); first | refine Zg ?_ ?_ | refine Zp ?_ ?_)) <;> intro hg <;> simp only [hg] <;> (try simp at hg) <;> try omega)); all_goals try ((first | with_reducible refine Zn ?_ | refine Zm ?_); apply hK; clear hK K; try simp only [AThen, ABlock])) | refine Zz ?_ | refine Zb ?_)
                  all_goals try exact rfl
                  all_goals omega
                · obtain ⟨nx, hnx⟩ : ∃ nx, nx = w + 1 := ⟨_, rfl⟩
                  rw [← hnx] at hlast
                  have hww' : IntKind.i64.wrap ((w : Int) + 1) = (nx : Int) := by rw [hww]; omega
                  have hlast' : ¬ (nx : Int) = l.length := by omega
                  obtain ⟨ny, hny⟩ : ∃ ny, l[nx]? = some ny := ⟨_, List.getElem?_eq_getElem (by omega)⟩
                  obtain ⟨nb, hnb⟩ : ∃ nb, rx[nx]? = some nb := ⟨_, List.getElem?_eq_getElem (by omega)⟩
                  try clear hS; try clear hSe; try clear hSall; try clear hfl; try clear hfg; try clear hpz; try clear hmi; try clear hwu; try clear hloN; try clear hN1; try clear huN; try clear hro0; try clear hqi; try clear hub; try clear hu0; try clear hwq; try clear hq; try clear hq63; try clear hq1; try clear hw1; try clear hB64; try clear hb64; try clear hV0; try clear hV1; try clear hV64; try clear holen; try clear hout; try clear hend0; try clear hend1; try clear hpa; try clear hpw; try clear hVn; try clear hctl; try clear hRo; try clear hS1; try clear hpb; try clear hl80; try clear hok; try clear hm; try clear hrw; try clear hgd; try clear hsq; try clear hsf; try clear hst; try clear hR; try clear h32; try clear h34; try clear hx0; try clear hwi; try clear hi; try clear huq
                  all_goals repeat' (first | (refine Zc ?_ ?_ <;> intro h <;> (try simp [go_sem, hww', hlast, hlast', hny, hnb, hxx, hbr, hblt] at h) <;> try omega) | (refine Zi ?_; try simp only [AThen, ABlock]) | (refine Ze ?_; simp +decide only [AThen, ABlock, reduceIte]) | (refine Zt ?_; (try simp [go_sem, hww', hlast, hlast', hny, hnb, hxx, hbr, hblt]); all_goals (try simp [loR, lo]); all_goals try exact rfl) | ((first | refine Zq ?_ | refine Zr ?_ | refine Zw ?_ | refine Zx ?_); intro K hK; repeat' (first | ((first | with_reducible refine Z0 ?_ | with_reducible refine Zd ?_ | refine Zs ?_ | refine Zl ?_); intro HK hk; simp [go_sem, hww', hlast, hlast', hny, hnb, hxx, hbr, hblt]; (repeat refine ⟨by omega, ?_⟩); apply hk; clear hk HK) | ((first | ((with_reducible refine Gd ?_); first | refine Zh ?_ ?_ | refine Zk ?_ ?_) | ((with_reducible refine Ga ?_); first | refine Zg ?_ ?_ | refine Zp ?_ ?_)) <;> intro hg <;> simp only [hg] <;> (try simp at hg) <;> try omega)); all_goals try ((first | with_reducible refine Zn ?_ | refine Zm ?_); apply hK; clear hK K; try simp only [AThen, ABlock])) | refine Zz ?_ | refine Zb ?_)
                  all_goals try exact rfl
                  all_goals omega
          · rw [if_neg hqi] at hix
            subst hix
            obtain ⟨hol, hte⟩ := hend0 rfl
            simp only [Turn.mk.injEq] at hte
            obtain ⟨rfl, rfl⟩ := hte
            have hqe : ¬ u + (V.length : Int) = q := by omega
            all_goals repeat' (first | (refine Zc ?_ ?_ <;> intro h <;> (try simp [go_sem, hRl, hwu, hloN, hN1, huN, hqe, hol] at h) <;> try omega) | (refine Zi ?_; try simp only [AThen, ABlock]) | (refine Ze ?_; simp +decide only [AThen, ABlock, reduceIte]) | (refine Zt ?_; (try simp [go_sem, hRl, hwu, hloN, hN1, huN, hqe, hol]); all_goals (try simp [loR, lo]); all_goals try exact rfl) | ((first | refine Zq ?_ | refine Zr ?_ | refine Zw ?_ | refine Zx ?_); intro K hK; repeat' (first | ((first | with_reducible refine Z0 ?_ | with_reducible refine Zd ?_ | refine Zs ?_ | refine Zl ?_); intro HK hk; simp [go_sem, hRl, hwu, hloN, hN1, huN, hqe, hol]; (repeat refine ⟨by omega, ?_⟩); apply hk; clear hk HK) | ((first | ((with_reducible refine Gd ?_); first | refine Zh ?_ ?_ | refine Zk ?_ ?_) | ((with_reducible refine Ga ?_); first | refine Zg ?_ ?_ | refine Zp ?_ ?_)) <;> intro hg <;> simp only [hg] <;> (try simp at hg) <;> try omega)); all_goals try ((first | with_reducible refine Zn ?_ | refine Zm ?_); apply hK; clear hK K; try simp only [AThen, ABlock])) | refine Zz ?_ | refine Zb ?_)
            all_goals try exact rfl
            refine AW.upto V.length (fun _ => True) (fun i => [(16, .c (.p (.int .i64 i))), (15, .c (.p (.int .i64 V.length))), (14, .c (.p (dvP ro))), (13, .c (.p (lnP rx))), (12, .c (.ptr 2 0)), (11, .c (.p (lnP x))), (9, .c (.ptr 1 0)), (7, .c (.p (.bool true))), (3, .c (.ptr 0 0)), (1, .c (.p (lnP l)))])
              (fun _ => [.var [.p (.int .i64 w), .p (.int .i64 u)], .var ((itemP ⟨2, S, 0, 0, 0, 0, V, []⟩).map .p), .var [.p (.int .i64 w), .p (.int .i64 (u + (V.length : Int)))]]) trivial ?_ fun i hi _ => ?_
            · refine Sub.of 3 (by simp) (by first | (simp; done) | (simp [go_sem]; done)) (by simp [go_sem]) ?_ (by simp [go_sem])
              simp [go_sem]
            · have hwi := wrapS (show (i : Int) < 9223372036854775807 by omega)
              by_cases hiv : i < V.length
              · obtain ⟨d, hd, hdv⟩ := hout i hiv
                have hdm := List.mem_of_getElem? hdv
                obtain ⟨a, ha, hal⟩ := hpa d.From hdm
                rw [ha] at hdv
                have hdv' := (List.getElem?_eq_some_iff.1 hdv).2
                have hd' := (List.getElem?_eq_some_iff.1 hd).2
                have hir : i < ro.length := by omega
                cases i with
                | zero =>
                  all_goals repeat' (first | (refine Zc ?_ ?_ <;> intro h <;> (try simp [go_sem, hwi, hd', ha, hdv', hiv, hir, hV0, hro0] at h) <;> try omega) | (refine Zi ?_; try simp only [AThen, ABlock]) | (refine Ze ?_; simp +decide only [AThen, ABlock, reduceIte]) | (refine Zt ?_; (try simp [go_sem, hwi, hd', ha, hdv', hiv, hir, hV0, hro0]); all_goals (try simp [loR, lo]); all_goals try exact rfl) | ((first | refine Zq ?_ | refine Zr ?_ | refine Zw ?_ | refine Zx ?_); intro K hK; repeat' (first | ((first | with_reducible refine Z0 ?_ | with_reducible refine Zd ?_ | refine Zs ?_ | refine Zl ?_); intro HK hk; simp [go_sem, hwi, hd', ha, hdv', hiv, hir, hV0, hro0]; (repeat refine ⟨by omega, ?_⟩); apply hk; clear hk HK) | ((first | ((with_reducible refine Gd ?_); first | refine Zh ?_ ?_ | refine Zk ?_ ?_) | ((with_reducible refine Ga ?_); first | refine Zg ?_ ?_ | refine Zp ?_ ?_)) <;> intro hg <;> simp only [hg] <;> (try simp at hg) <;> try omega)); all_goals try ((first | with_reducible refine Zn ?_ | refine Zm ?_); apply hK; clear hK K; try simp only [AThen, ABlock])) | refine Zz ?_ | refine Zb ?_)
                  all_goals try exact rfl
                  refine ⟨hiv, trivial, ?_⟩
                  refine Sub.of 3 (by simp) (by first | (simp; done) | (simp [go_sem]; done)) (by simp [go_sem]) ?_ (by simp [go_sem])
                  simp [go_sem]
                | succ p =>
                  obtain ⟨b0, hb0⟩ : ∃ b, V[p]? = some b := ⟨_, List.getElem?_eq_getElem (by omega)⟩
                  obtain ⟨b, rfl, hbl⟩ := hpa b0 (List.mem_of_getElem? hb0)
                  have hb0' := (List.getElem?_eq_some_iff.1 hb0).2
                  have hpl : p < V.length := by omega
                  have hwp : IntKind.i64.wrap (p : Int) = (p : Int) := wrapI (by omega) (by omega)
                  have hwj2 : IntKind.i64.wrap ((p : Int) + 1 + 1) = (p : Int) + 1 + 1 := wrapI (by omega) (by omega)
                  have hle : rndI b w l.length ≤ rndI a w l.length := by
                    have := List.pairwise_iff_getElem.1 hpw p (p + 1) (by omega) hiv (by omega)
                    rwa [hb0', hdv'] at this
                  have hle' : ¬ rndI a w l.length < rndI b w l.length := by omega
                  all_goals repeat' (first | (refine Zc ?_ ?_ <;> intro h <;> (try simp [go_sem, hd', ha, hdv', hiv, hir, hwp] at h) <;> try omega) | (refine Zi ?_; try simp only [AThen, ABlock]) | (refine Ze ?_; simp +decide only [AThen, ABlock, reduceIte]) | (refine Zt ?_; (try simp [go_sem, hd', ha, hdv', hiv, hir, hwp]); all_goals (try simp [loR, lo]); all_goals try exact rfl) | ((first | refine Zq ?_ | refine Zr ?_ | refine Zw ?_ | refine Zx ?_); intro K hK; repeat' (first | ((first | with_reducible refine Z0 ?_ | with_reducible refine Zd ?_ | refine Zs ?_ | refine Zl ?_); intro HK hk; simp [go_sem, hd', ha, hdv', hiv, hir, hwp]; (repeat refine ⟨by omega, ?_⟩); apply hk; clear hk HK) | ((first | ((with_reducible refine Gd ?_); first | refine Zh ?_ ?_ | refine Zk ?_ ?_) | ((with_reducible refine Ga ?_); first | refine Zg ?_ ?_ | refine Zp ?_ ?_)) <;> intro hg <;> simp only [hg] <;> (try simp at hg) <;> try omega)); all_goals try ((first | with_reducible refine Zn ?_ | refine Zm ?_); apply hK; clear hK K; try simp only [AThen, ABlock])) | refine Zz ?_ | refine Zb ?_)
                  all_goals try exact rfl
                  (first | with_reducible refine Z0 ?_ | with_reducible refine Zd ?_ | refine Zs ?_); intro HK hk; simp [go_sem]; (repeat refine ⟨by omega, ?_⟩); (first | refine ACall.pur rfl (pc_40 a w l.length (by omega) (by omega) hn64) ?_ | refine ACallD.mk rfl (pc_40 a w l.length (by omega) (by omega) hn64) ?_); simp [go_sem, hwp, hb0, hb0', hpl]; (repeat refine ⟨by omega, ?_⟩); apply hk; clear hk HK; repeat' (first | ((first | with_reducible refine Z0 ?_ | with_reducible refine Zd ?_ | refine Zs ?_ | refine Zl ?_); intro HK hk; simp [go_sem, hwp, hb0, hb0', hpl]; (repeat refine ⟨by omega, ?_⟩); apply hk; clear hk HK) | ((first | ((with_reducible refine Gd ?_); first | refine Zh ?_ ?_ | refine Zk ?_ ?_) | ((with_reducible refine Ga ?_); first | refine Zg ?_ ?_ | refine Zp ?_ ?_)) <;> intro hg <;> simp only [hg] <;> (try simp at hg) <;> try omega))
                  all_goals try ((first | with_reducible refine Zn ?_ | refine Zm ?_); apply hK; clear hK K; try simp only [AThen, ABlock])
                  (first | with_reducible refine Z0 ?_ | with_reducible refine Zd ?_ | refine Zs ?_); intro HK hk; simp [go_sem]; (repeat refine ⟨by omega, ?_⟩); (first | refine ACall.pur rfl (pc_40 b w l.length (by omega) (by omega) hn64) ?_ | refine ACallD.mk rfl (pc_40 b w l.length (by omega) (by omega) hn64) ?_); simp [go_sem, hle']; (repeat refine ⟨by omega, ?_⟩); apply hk; clear hk HK; repeat' (first | ((first | with_reducible refine Z0 ?_ | with_reducible refine Zd ?_ | refine Zs ?_ | refine Zl ?_); intro HK hk; simp [go_sem, hle']; (repeat refine ⟨by omega, ?_⟩); apply hk; clear hk HK) | ((first | ((with_reducible refine Gd ?_); first | refine Zh ?_ ?_ | refine Zk ?_ ?_) | ((with_reducible refine Ga ?_); first | refine Zg ?_ ?_ | refine Zp ?_ ?_)) <;> intro hg <;> simp only [hg] <;> (try simp at hg) <;> try omega))
                  all_goals try ((first | with_reducible refine Zn ?_ | refine Zm ?_); apply hK; clear hK K; try simp only [AThen, ABlock])
                  all_goals repeat' (first | (refine Zc ?_ ?_ <;> intro h <;> (try simp [go_sem, hwj2] at h) <;> try omega) | (refine Zi ?_; try simp only [AThen, ABlock]) | (refine Ze ?_; simp +decide only [AThen, ABlock, reduceIte]) | (refine Zt ?_; (try simp [go_sem, hwj2]); all_goals (try simp [loR, lo]); all_goals try exact rfl) | ((first | refine Zq ?_ | refine Zr ?_ | refine Zw ?_ | refine Zx ?_); intro K hK; repeat' (first | ((first | with_reducible refine Z0 ?_ | with_reducible refine Zd ?_ | refine Zs ?_ | refine Zl ?_); intro HK hk; simp [go_sem, hwj2]; (repeat refine ⟨by omega, ?_⟩); apply hk; clear hk HK) | ((first | ((with_reducible refine Gd ?_); first | refine Zh ?_ ?_ | refine Zk ?_ ?_) | ((with_reducible refine Ga ?_); first | refine Zg ?_ ?_ | refine Zp ?_ ?_)) <;> intro hg <;> simp only [hg] <;> (try simp at hg) <;> try omega)); all_goals try ((first | with_reducible refine Zn ?_ | refine Zm ?_); apply hK; clear hK K; try simp only [AThen, ABlock])) | refine Zz ?_ | refine Zb ?_)
                  all_goals try exact rfl
                  refine ⟨hiv, trivial, ?_⟩
                  refine Sub.of 3 (by simp) (by first | (simp; done) | (simp [go_sem]; done)) (by simp [go_sem]) ?_ (by simp [go_sem])
                  simp [go_sem]
              · obtain rfl : i = V.length := by omega
                all_goals repeat' (first | (refine Zc ?_ ?_ <;> intro h <;> (try simp [go_sem, hwu] at h) <;> try omega) | (refine Zi ?_; try simp only [AThen, ABlock]) | (refine Ze ?_; simp +decide only [AThen, ABlock, reduceIte]) | (refine Zt ?_; (try simp [go_sem, hwu]); all_goals (try simp [loR, lo]); all_goals try exact rfl) | ((first | refine Zq ?_ | refine Zr ?_ | refine Zw ?_ | refine Zx ?_); intro K hK; repeat' (first | ((first | with_reducible refine Z0 ?_ | with_reducible refine Zd ?_ | refine Zs ?_ | refine Zl ?_); intro HK hk; simp [go_sem, hwu]; (repeat refine ⟨by omega, ?_⟩); apply hk; clear hk HK) | ((first | ((with_reducible refine Gd ?_); first | refine Zh ?_ ?_ | refine Zk ?_ ?_) | ((with_reducible refine Ga ?_); first | refine Zg ?_ ?_ | refine Zp ?_ ?_)) <;> intro hg <;> simp only [hg] <;> (try simp at hg) <;> try omega)); all_goals try ((first | with_reducible refine Zn ?_ | refine Zm ?_); apply hK; clear hK K; try simp only [AThen, ABlock])) | refine Zz ?_ | refine Zb ?_)
                all_goals try exact rfl
end Go.Proofs.Ytogappokeheilaa
