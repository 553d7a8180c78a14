import Derived.Test.YtogappokeheilaaB40
set_option linter.unusedVariables false
set_option linter.unusedSimpArgs false
set_option maxRecDepth 100000
set_option maxHeartbeats 0
namespace Go.Proofs.Ytogappokeheilaa
open Go.Aw

def zeroI : Aw.Item := ⟨0, 0, 0, 0, 0, 0, [], []⟩
def someQ (t : Turn) (l : List Lane) (me : Nat) (q : Int) : List Int := (waitL l me l.length).take (q - t.Used).toNat
def sayQ (t : Turn) (l : List Lane) (me : Nat) (q : Int) : Aw.Item × Bool :=
  if t.Who ≠ me then (zeroI, false)
  else if (findF isCtl (l.getD me zeroL).L).2 = true then (zeroI, false)
  else if someQ t l me q = [] then (zeroI, false)
  else (⟨2, 0, 0, if q ≤ t.Used + (someQ t l me q).length then 1 else 0, 0, 0, someQ t l me q, []⟩, true)
theorem pc_36 (t : Turn) (l : List Lane) (me : Nat) (q : Int) (hm : mayT t l = true) (hme : me < l.length) (hq : 0 ≤ q ∧ q ≤ 1000) : PC Try.prog 36 [bTu t, bLs l, bI me, bI q] (.tup [bT (sayQ t l me q).1, bB (sayQ t l me q).2]) := by
  have hI := qinv_start hm
  obtain ⟨_, hn2, hn64⟩ := winv_start hm
  have hok : ∀ x ∈ l, x.L.length ≤ 80 := fun x hx => ((winv_start hm).1.ok x hx).2
  have hu := hI.used
  have hb := hI.bound
  simp only at hu hb
  obtain ⟨ln, hx⟩ : ∃ ln, l[me]? = some ln := ⟨_, List.getElem?_eq_getElem hme⟩
  have hgd : l.getD me zeroL = ln := by rw [List.getD_eq_getElem?_getD, hx]; rfl
  have hwl := waitL_len hok me (by omega) l.length
  obtain ⟨W, hW⟩ : ∃ W, W = waitL l me l.length := ⟨_, rfl⟩
  have hwq : IntKind.i64.wrap (q - t.Used) = q - t.Used := wrapI (by omega) (by omega)
  rw [← hW] at hwl
  obtain ⟨r, hr⟩ : ∃ r, r = sayQ t l me q := ⟨_, rfl⟩
  rw [← hr]
  unfold sayQ someQ at hr
  rw [hgd, ← hW] at hr
  have hr0 : t.Who ≠ (me : Int) → r = (zeroI, false) := fun h => by rw [hr, if_pos h]
  have hr1 : t.Who = (me : Int) → (findF isCtl ln.L).2 = true → r = (zeroI, false) := fun h h1 => by rw [hr, if_neg (by omega), if_pos h1]
  have hr2 : t.Who = (me : Int) → (findF isCtl ln.L).2 = false → W.take (q - t.Used).toNat = [] → r = (zeroI, false) := fun h h1 h2 => by rw [hr, if_neg (by omega), if_neg (by rw [h1]; decide), if_pos h2]
  have hr3 : t.Who = (me : Int) → (findF isCtl ln.L).2 = false → W.take (q - t.Used).toNat ≠ [] → r = (⟨2, 0, 0, if q ≤ t.Used + (W.take (q - t.Used).toNat).length then 1 else 0, 0, 0, W.take (q - t.Used).toNat, []⟩, true) := fun h h1 h2 => by rw [hr, if_neg (by omega), if_neg (by rw [h1]; decide), if_neg h2]
  clear hr
  refine PC.of_loose (ACall.of_AW (fun args w => Try.call36 args w) Try.func36 rfl (by simp [Try.ntmps36]) ?_)
  simp only [Try.ntmps36, List.length_nil]
  all_goals repeat' (first | (refine Zc ?_ ?_ <;> intro h <;> (try simp [go_sem, hx] at h) <;> try omega) | (refine Zi ?_; try simp only [AThen, ABlock]) | (refine Ze ?_; simp +decide only [AThen, ABlock, reduceIte]) | (refine Zt ?_; (try simp [go_sem, hx]); all_goals (try simp [loR, lo]); all_goals try exact rfl) | ((first | refine Zq ?_ | refine Zr ?_ | refine Zw ?_ | refine Zx ?_); intro K hK; repeat' (first | ((first | refine Zs ?_ | refine Zl ?_ | refine Z0 ?_ | refine Zd ?_); intro HK hk; simp [go_sem, hx]; (repeat refine ⟨by omega, ?_⟩); apply hk; clear hk HK) | ((first | refine Zg ?_ ?_ | refine Zh ?_ ?_ | refine Zp ?_ ?_ | refine Zk ?_ ?_) <;> intro hg <;> simp only [hg] <;> (try simp at hg) <;> try omega)); all_goals try ((first | refine Zn ?_ | refine Zm ?_); apply hK; clear hK K; try simp only [AThen, ABlock])) | refine Zz ?_ | refine Zb ?_)
  all_goals try exact rfl
  · rename_i h
    rw [hr0 h]; exact ⟨rfl, rfl⟩
  · have hwho : t.Who = me := by omega
    replace hr1 := hr1 hwho
    replace hr2 := hr2 hwho
    replace hr3 := hr3 hwho
    clear hr0
    (first | refine Zs ?_ | refine Z0 ?_ | refine Zd ?_); intro HK hk; simp [go_sem]; (repeat refine ⟨by omega, ?_⟩); (first | refine ACall.pur rfl (pc_52 ln) ?_ | refine ACallD.mk rfl (pc_52 ln) ?_); simp [go_sem]; (repeat refine ⟨by omega, ?_⟩); apply hk; clear hk HK; repeat' (first | ((first | refine Zs ?_ | refine Zl ?_ | refine Z0 ?_ | refine Zd ?_); intro HK hk; simp [go_sem]; (repeat refine ⟨by omega, ?_⟩); apply hk; clear hk HK) | ((first | refine Zg ?_ ?_ | refine Zh ?_ ?_ | refine Zp ?_ ?_ | refine Zk ?_ ?_) <;> intro hg <;> simp only [hg] <;> (try simp at hg) <;> try omega))
    all_goals try ((first | refine Zn ?_ | refine Zm ?_); apply hK; clear hK K; try simp only [AThen, ABlock])
    generalize findF isCtl ln.L = R at *
    obtain ⟨c, b⟩ := R
    cases b with
    | true =>
      have hrr := hr1 rfl
      clear hr1 hr2 hr3
      rw [hrr]
      all_goals repeat' (first | (refine Zc ?_ ?_ <;> intro h <;> (try simp [go_sem] at h) <;> try omega) | (refine Zi ?_; try simp only [AThen, ABlock]) | (refine Ze ?_; simp +decide only [AThen, ABlock, reduceIte]) | (refine Zt ?_; (try simp [go_sem]); all_goals (try simp [loR, lo]); all_goals try exact rfl) | ((first | refine Zq ?_ | refine Zr ?_ | refine Zw ?_ | refine Zx ?_); intro K hK; repeat' (first | ((first | refine Zs ?_ | refine Zl ?_ | refine Z0 ?_ | refine Zd ?_); intro HK hk; simp [go_sem]; (repeat refine ⟨by omega, ?_⟩); apply hk; clear hk HK) | ((first | refine Zg ?_ ?_ | refine Zh ?_ ?_ | refine Zp ?_ ?_ | refine Zk ?_ ?_) <;> intro hg <;> simp only [hg] <;> (try simp at hg) <;> try omega)); all_goals try ((first | refine Zn ?_ | refine Zm ?_); apply hK; clear hK K; try simp only [AThen, ABlock])) | refine Zz ?_ | refine Zb ?_)
      all_goals try exact rfl
    | false =>
      replace hr2 := hr2 rfl
      replace hr3 := hr3 rfl
      clear hr1
      all_goals repeat' (first | (refine Zc ?_ ?_ <;> intro h <;> (try simp [go_sem] at h) <;> try omega) | (refine Zi ?_; try simp only [AThen, ABlock]) | (refine Ze ?_; simp +decide only [AThen, ABlock, reduceIte]) | (refine Zt ?_; (try simp [go_sem]); all_goals (try simp [loR, lo]); all_goals try exact rfl) | ((first | refine Zq ?_ | refine Zr ?_ | refine Zw ?_ | refine Zx ?_); intro K hK; repeat' (first | ((first | refine Zs ?_ | refine Zl ?_ | refine Z0 ?_ | refine Zd ?_); intro HK hk; simp [go_sem]; (repeat refine ⟨by omega, ?_⟩); apply hk; clear hk HK) | ((first | refine Zg ?_ ?_ | refine Zh ?_ ?_ | refine Zp ?_ ?_ | refine Zk ?_ ?_) <;> intro hg <;> simp only [hg] <;> (try simp at hg) <;> try omega)); all_goals try ((first | refine Zn ?_ | refine Zm ?_); apply hK; clear hK K; try simp only [AThen, ABlock])) | refine Zz ?_ | refine Zb ?_)
      all_goals try exact rfl
      (first | refine Zs ?_ | refine Z0 ?_ | refine Zd ?_); intro HK hk; simp [go_sem]; (repeat refine ⟨by omega, ?_⟩); (first | refine ACall.pur rfl (pc_82 l me hme (by omega) hok) ?_ | refine ACallD.mk rfl (pc_82 l me hme (by omega) hok) ?_); simp [go_sem, ← hW]; (repeat refine ⟨by omega, ?_⟩); apply hk; clear hk HK; repeat' (first | ((first | refine Zs ?_ | refine Zl ?_ | refine Z0 ?_ | refine Zd ?_); intro HK hk; simp [go_sem, ← hW]; (repeat refine ⟨by omega, ?_⟩); apply hk; clear hk HK) | ((first | refine Zg ?_ ?_ | refine Zh ?_ ?_ | refine Zp ?_ ?_ | refine Zk ?_ ?_) <;> intro hg <;> simp only [hg] <;> (try simp at hg) <;> try omega))
      all_goals try ((first | refine Zn ?_ | refine Zm ?_); apply hK; clear hK K; try simp only [AThen, ABlock])
      by_cases hneg : q - t.Used < 0
      · have hmin : (if q - t.Used < (W.length : Int) then q - t.Used else (W.length : Int)) = q - t.Used := if_pos (by omega)
        have ht0 : W.take (q - t.Used).toNat = [] := by rw [show (q - t.Used).toNat = 0 by omega]; rfl
        have hrr := hr2 ht0
        clear hr2 hr3
        rw [hrr]
        all_goals repeat' (first | (refine Zc ?_ ?_ <;> intro h <;> (try simp [go_sem, hwq, hmin] at h) <;> try omega) | (refine Zi ?_; try simp only [AThen, ABlock]) | (refine Ze ?_; simp +decide only [AThen, ABlock, reduceIte]) | (refine Zt ?_; (try simp [go_sem, hwq, hmin]); all_goals (try simp [loR, lo]); all_goals try exact rfl) | ((first | refine Zq ?_ | refine Zr ?_ | refine Zw ?_ | refine Zx ?_); intro K hK; repeat' (first | ((first | refine Zs ?_ | refine Zl ?_ | refine Z0 ?_ | refine Zd ?_); intro HK hk; simp [go_sem, hwq, hmin]; (repeat refine ⟨by omega, ?_⟩); apply hk; clear hk HK) | ((first | refine Zg ?_ ?_ | refine Zh ?_ ?_ | refine Zp ?_ ?_ | refine Zk ?_ ?_) <;> intro hg <;> simp only [hg] <;> (try simp at hg) <;> try omega)); all_goals try ((first | refine Zn ?_ | refine Zm ?_); apply hK; clear hK K; try simp only [AThen, ABlock])) | refine Zz ?_ | refine Zb ?_)
        all_goals try exact rfl
      · obtain ⟨N, hN⟩ : ∃ N, N = (W.take (q - t.Used).toNat).length := ⟨_, rfl⟩
        have hN2 : N = min (q - t.Used).toNat W.length := by rw [hN, List.length_take]
        have hmin : (if q - t.Used < (W.length : Int) then q - t.Used else (W.length : Int)) = (N : Int) := by split <;> omega
        have hta : (W.map encI).take N = (W.take (q - t.Used).toNat).map encI := by
          rw [← List.map_take]; congr 1
          rw [hN2]
          by_cases h : (q - t.Used).toNat ≤ W.length
          · rw [Nat.min_eq_left h]
          · rw [Nat.min_eq_right (by omega), List.take_length, List.take_of_length_le (by omega)]
        have hwu : IntKind.i64.wrap (t.Used + (N : Int)) = t.Used + (N : Int) := wrapI (by omega) (by omega)
        generalize W.take (q - t.Used).toNat = V at *
        all_goals repeat' (first | (refine Zc ?_ ?_ <;> intro h <;> (try simp [go_sem, hwq, hmin, hta, hwu] at h) <;> try omega) | (refine Zi ?_; try simp only [AThen, ABlock]) | (refine Ze ?_; simp +decide only [AThen, ABlock, reduceIte]) | (refine Zt ?_; (try simp [go_sem, hwq, hmin, hta, hwu]); all_goals (try simp [loR, lo]); all_goals try exact rfl) | ((first | refine Zq ?_ | refine Zr ?_ | refine Zw ?_ | refine Zx ?_); intro K hK; repeat' (first | ((first | refine Zs ?_ | refine Zl ?_ | refine Z0 ?_ | refine Zd ?_); intro HK hk; simp [go_sem, hwq, hmin, hta, hwu]; (repeat refine ⟨by omega, ?_⟩); apply hk; clear hk HK) | ((first | refine Zg ?_ ?_ | refine Zh ?_ ?_ | refine Zp ?_ ?_ | refine Zk ?_ ?_) <;> intro hg <;> simp only [hg] <;> (try simp at hg) <;> try omega)); all_goals try ((first | refine Zn ?_ | refine Zm ?_); apply hK; clear hK K; try simp only [AThen, ABlock])) | refine Zz ?_ | refine Zb ?_)
        all_goals try exact rfl
        · rw [hr2 (List.eq_nil_of_length_eq_zero (by omega))]
          exact ⟨rfl, rfl⟩
        · rw [hr3 (fun h0 => by rw [h0] at hN; simp at hN; omega), if_pos (by omega)]
          exact ⟨rfl, rfl⟩
        · rw [hr3 (fun h0 => by rw [h0] at hN; simp at hN; omega), if_neg (by omega)]
          exact ⟨rfl, rfl⟩
end Go.Proofs.Ytogappokeheilaa
