import Derived.Test.YtogappokeheilaaB44
set_option linter.unusedVariables false
set_option linter.unusedSimpArgs false
set_option maxRecDepth 100000
set_option maxHeartbeats 0
namespace Go.Proofs.Ytogappokeheilaa
open Go.Aw

theorem ac_36n (l : List Lane) (t : Turn) (me : Nat) (q : Int) (hw : t.Who ≠ me) (K : AV → List AObj → Prop)
    (h1 : K (.tup [(true, [.p (.int .i64 0), .p (.int .i64 0), .p (.int .i64 0), .p (.int .i64 0), .p (.int .i64 0), .p (.int .i64 0), .p (.sl true []), .p (.sl true [])]), (false, [.p (.bool false)])]) [.arr 47 5 0 (l.map fullP), .var ((turnP t).map .p), .var zeroIC]) :
    ACall Try.prog 36 [.agg ((turnP t).map .p), .c (.own 0 l.length), .c (.p (.int .i64 me)), .c (.p (.int .i64 q))] [.arr 47 5 0 (l.map fullP)] K := by
  refine ACall.of_AW (fun args w => Try.call36 args w) Try.func36 rfl (by simp [Try.ntmps36]) ?_
  simp only [Try.ntmps36, List.length_append, List.length_cons, List.length_nil, List.cons_append, List.nil_append, List.map_cons, List.map_nil, Nat.zero_add, Nat.reduceAdd, capAV]
  all_goals repeat' (first | (refine Zc ?_ ?_ <;> intro h <;> (try simp [go_sem, hw] at h) <;> try omega) | (refine Zi ?_; try simp only [AThen, ABlock]) | (refine Ze ?_; simp +decide only [AThen, ABlock, reduceIte]) | (refine Zt ?_; (try simp [go_sem, hw]); all_goals (try simp [loR, lo]); all_goals try exact rfl) | ((first | refine Zq ?_ | refine Zr ?_ | refine Zw ?_ | refine Zx ?_); intro K hK; repeat' (first | ((first | refine Zs ?_ | refine Zl ?_ | refine Z0 ?_ | refine Zd ?_); intro HK hk; simp [go_sem, hw]; (repeat refine ⟨by omega, ?_⟩); apply hk; clear hk HK) | ((first | refine Zg ?_ ?_ | refine Zh ?_ ?_ | refine Zp ?_ ?_ | refine Zk ?_ ?_) <;> intro hg <;> simp only [hg] <;> (try simp at hg) <;> try omega)); all_goals try ((first | refine Zn ?_ | refine Zm ?_); apply hK; clear hK K; try simp only [AThen, ABlock])) | refine Zz ?_ | refine Zb ?_)
  all_goals try exact rfl
  exact h1
abbrev saidC (V : List Int) (i : Int) : List Cell := [.p (.int .i64 2), .p (.int .i64 0), .p (.int .i64 0), .p (.int .i64 i), .p (.int .i64 0), .p (.int .i64 0), .p (.sl true (V.map encI)), .p (.sl true [])]
abbrev saidH (l : List Lane) (me : Nat) (u : Int) (c : Entry) (V : List Int) (i : Int) : List AObj := [.arr 47 5 0 (l.map fullP), .var [.p (.int .i64 me), .p (.int .i64 u)], .var (saidC V i), .var [.p (.int .i64 c.Kind), .p (.int .i64 c.Seq), .p (bsP c.B), .p (isP c.L), .p (.bool c.Hand)], .arr 3 1 (waitL l me l.length).length ((waitL l me l.length).map encI), .var (saidC V i)]
theorem ac_36a (l : List Lane) (t : Turn) (me : Nat) (q : Int) (hm : mayT t l = true) (hme : me < l.length) (hq : 0 ≤ q ∧ q ≤ 1000) (hw : t.Who = me) (ln : Lane) (hx : l[me]? = some ln) (c : Entry) (hc : findF isCtl ln.L = (c, false)) (V : List Int) (hV : someQ t l me q = V) (hV0 : V ≠ []) (K : AV → List AObj → Prop)
    (ix : Int) (hix : ix = if q ≤ t.Used + V.length then 1 else 0) (h1 : K (.tup [(true, saidC V ix), (false, [.p (.bool true)])]) (saidH l me t.Used c V ix)) :
    ACall Try.prog 36 [.agg ((turnP t).map .p), .c (.own 0 l.length), .c (.p (.int .i64 me)), .c (.p (.int .i64 q))] [.arr 47 5 0 (l.map fullP)] K := by
  have hI := qinv_start hm
  obtain ⟨_, hn2, hn64⟩ := winv_start hm
  have hok : ∀ x ∈ l, x.L.length ≤ 80 := fun x hx => ((winv_start hm).1.ok x hx).2
  have hu := hI.used
  have hb := hI.bound
  simp only at hu hb
  have hwl := waitL_len hok me (by omega) l.length
  obtain ⟨W, hW⟩ : ∃ W, W = waitL l me l.length := ⟨_, rfl⟩
  have hwq : IntKind.i64.wrap (q - t.Used) = q - t.Used := wrapI (by omega) (by omega)
  unfold someQ at hV
  rw [← hW] at hwl hV
  refine ACall.of_AW (fun args w => Try.call36 args w) Try.func36 rfl (by simp [Try.ntmps36]) ?_
  simp only [Try.ntmps36, List.length_append, List.length_cons, List.length_nil, List.cons_append, List.nil_append, List.map_cons, List.map_nil, Nat.zero_add, Nat.reduceAdd, capAV]
  obtain ⟨N, hN⟩ : ∃ N, N = V.length := ⟨_, rfl⟩
  have hN1 : 1 ≤ N := by rw [hN]; exact List.length_pos_iff.2 hV0
  have hN2 : N = min (q - t.Used).toNat W.length := by rw [hN, ← hV, List.length_take]
  have hneg : ¬ q - t.Used < 0 := by omega
  have hmin : (if q - t.Used < (W.length : Int) then q - t.Used else (W.length : Int)) = (N : Int) := by split <;> omega
  have hta : (W.map encI).take N = V.map encI := by
    rw [← List.map_take, ← hV]; congr 1
    rw [hN2]
    by_cases h : (q - t.Used).toNat ≤ W.length
    · rw [Nat.min_eq_left h]
    · rw [Nat.min_eq_right (by omega), List.take_length, List.take_of_length_le (by omega)]
  have hwu : IntKind.i64.wrap (t.Used + (N : Int)) = t.Used + (N : Int) := wrapI (by omega) (by omega)
  have hnl : ¬ N < 1 := by omega
  all_goals repeat' (first | (refine Zc ?_ ?_ <;> intro h <;> (try simp [go_sem, hx, hw] at h) <;> try omega) | (refine Zi ?_; try simp only [AThen, ABlock]) | (refine Ze ?_; simp +decide only [AThen, ABlock, reduceIte]) | (refine Zt ?_; (try simp [go_sem, hx, hw]); all_goals (try simp [loR, lo]); all_goals try exact rfl) | ((first | refine Zq ?_ | refine Zr ?_ | refine Zw ?_ | refine Zx ?_); intro K hK; repeat' (first | ((first | refine Zs ?_ | refine Zl ?_ | refine Z0 ?_ | refine Zd ?_); intro HK hk; simp [go_sem, hx, hw]; (repeat refine ⟨by omega, ?_⟩); apply hk; clear hk HK) | ((first | refine Zg ?_ ?_ | refine Zh ?_ ?_ | refine Zp ?_ ?_ | refine Zk ?_ ?_) <;> intro hg <;> simp only [hg] <;> (try simp at hg) <;> try omega)); all_goals try ((first | refine Zn ?_ | refine Zm ?_); apply hK; clear hK K; try simp only [AThen, ABlock])) | refine Zz ?_ | refine Zb ?_)
  all_goals try exact rfl
  (first | refine Zs ?_ | refine Z0 ?_ | refine Zd ?_); intro HK hk; simp [go_sem]; (repeat refine ⟨by omega, ?_⟩); (first | refine ACall.pur rfl (pc_52 ln) ?_ | refine ACallD.mk rfl (pc_52 ln) ?_); simp [go_sem, hc]; (repeat refine ⟨by omega, ?_⟩); apply hk; clear hk HK; repeat' (first | ((first | refine Zs ?_ | refine Zl ?_ | refine Z0 ?_ | refine Zd ?_); intro HK hk; simp [go_sem, hc]; (repeat refine ⟨by omega, ?_⟩); apply hk; clear hk HK) | ((first | refine Zg ?_ ?_ | refine Zh ?_ ?_ | refine Zp ?_ ?_ | refine Zk ?_ ?_) <;> intro hg <;> simp only [hg] <;> (try simp at hg) <;> try omega))
  all_goals try ((first | refine Zn ?_ | refine Zm ?_); apply hK; clear hK K; try simp only [AThen, ABlock])
  all_goals repeat' (first | (refine Zc ?_ ?_ <;> intro h <;> (try simp [go_sem] at h) <;> try omega) | (refine Zi ?_; try simp only [AThen, ABlock]) | (refine Ze ?_; simp +decide only [AThen, ABlock, reduceIte]) | (refine Zt ?_; (try simp [go_sem]); all_goals (try simp [loR, lo]); all_goals try exact rfl) | ((first | refine Zq ?_ | refine Zr ?_ | refine Zw ?_ | refine Zx ?_); intro K hK; repeat' (first | ((first | refine Zs ?_ | refine Zl ?_ | refine Z0 ?_ | refine Zd ?_); intro HK hk; simp [go_sem]; (repeat refine ⟨by omega, ?_⟩); apply hk; clear hk HK) | ((first | refine Zg ?_ ?_ | refine Zh ?_ ?_ | refine Zp ?_ ?_ | refine Zk ?_ ?_) <;> intro hg <;> simp only [hg] <;> (try simp at hg) <;> try omega)); all_goals try ((first | refine Zn ?_ | refine Zm ?_); apply hK; clear hK K; try simp only [AThen, ABlock])) | refine Zz ?_ | refine Zb ?_)
  all_goals try exact rfl
  (first | refine Zs ?_ | refine Zl ?_ | refine Z0 ?_ | refine Zd ?_); intro HK hk; simp [go_sem]
  refine ac_82 l ⟨(me : Int), t.Used⟩ c me hme hn64 hok _ ?_
  simp only [← hW]
  simp [go_sem]
  (repeat refine ⟨by omega, ?_⟩); apply hk; clear hk HK; repeat' (first | ((first | refine Zs ?_ | refine Zl ?_ | refine Z0 ?_ | refine Zd ?_); intro HK hk; simp [go_sem]; (repeat refine ⟨by omega, ?_⟩); apply hk; clear hk HK) | ((first | refine Zg ?_ ?_ | refine Zh ?_ ?_ | refine Zp ?_ ?_ | refine Zk ?_ ?_) <;> intro hg <;> simp only [hg] <;> (try simp at hg) <;> try omega))
  all_goals try ((first | refine Zn ?_ | refine Zm ?_); apply hK; clear hK K; try simp only [AThen, ABlock])
  all_goals repeat' (first | (refine Zc ?_ ?_ <;> intro h <;> (try simp [go_sem, hwq, hmin, hta, hwu, hnl] at h) <;> try omega) | (refine Zi ?_; try simp only [AThen, ABlock]) | (refine Ze ?_; simp +decide only [AThen, ABlock, reduceIte]) | (refine Zt ?_; (try simp [go_sem, hwq, hmin, hta, hwu, hnl]); all_goals (try simp [loR, lo]); all_goals try exact rfl) | ((first | refine Zq ?_ | refine Zr ?_ | refine Zw ?_ | refine Zx ?_); intro K hK; repeat' (first | ((first | refine Zs ?_ | refine Zl ?_ | refine Z0 ?_ | refine Zd ?_); intro HK hk; simp [go_sem, hwq, hmin, hta, hwu, hnl]; (repeat refine ⟨by omega, ?_⟩); apply hk; clear hk HK) | ((first | refine Zg ?_ ?_ | refine Zh ?_ ?_ | refine Zp ?_ ?_ | refine Zk ?_ ?_) <;> intro hg <;> simp only [hg] <;> (try simp at hg) <;> try omega)); all_goals try ((first | refine Zn ?_ | refine Zm ?_); apply hK; clear hK K; try simp only [AThen, ABlock])) | refine Zz ?_ | refine Zb ?_)
  all_goals try exact rfl
  · rw [if_pos (by omega)] at hix
    subst hix; subst hW; exact h1
  · rw [if_neg (by omega)] at hix
    subst hix; subst hW; exact h1
end Go.Proofs.Ytogappokeheilaa
