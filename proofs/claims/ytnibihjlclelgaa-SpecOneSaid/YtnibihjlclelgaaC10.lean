import Derived.Test.YtnibihjlclelgaaC9
set_option linter.unusedVariables false
set_option linter.unusedSimpArgs false
set_option maxRecDepth 100000
set_option maxHeartbeats 0
namespace Go.Proofs.Ytnibihjlclelgaa
open Go.Aw

abbrev evsP (l : List Ev) : PV := .sl false (l.map evP)
abbrev bEs (l : List Ev) : PB := (false, [evsP l])
theorem pc_20 (n : Nat) (hn : n ≤ 64) : PC Try.prog 20 [bI n] (.one (bSp (newS n))) := by
  refine PC.of_loose (ACall.of_AW (fun args w => Try.call20 args w) Try.func20 rfl (by simp [Try.ntmps20]) ?_)
  simp only [Try.ntmps20, List.length_nil]
  refine AW.weak (Sub.holes 2) ?_; simp only [List.replicate, List.cons_append, List.nil_append]
  all_goals repeat' (first | (refine Zc ?_ ?_ <;> intro h <;> (try simp [go_sem] at h) <;> try omega) | (refine Zi ?_; try simp only [AThen, ABlock]) | (refine Ze ?_; simp +decide only [AThen, ABlock, reduceIte]) | (refine Zt ?_; (try simp [go_sem]); all_goals (try simp [loR, lo]); all_goals try exact rfl) | ((first | refine AW.q false fun K hK => ?_ | refine AW.ql false fun K hK => ?_ | refine AW.w [(none, [1]), (some 0, [1]), (none, [0]), (some 1, [0]), (none, []), (some 2, [])] rfl (by decide +kernel) fun K hK => ?_ | refine AW.wl [(none, [1]), (some 0, [1]), (none, [0]), (some 1, [0]), (none, []), (some 2, [])] rfl (by decide +kernel) fun K hK => ?_); repeat' (first | ((first | with_reducible refine Z0 ?_ | with_reducible refine Zd ?_ | refine Zs ?_ | refine Zl ?_); intro HK hk; simp [go_sem]; (repeat refine ⟨by omega, ?_⟩); apply hk; clear hk HK) | ((first | ((with_reducible refine Gd ?_); first | refine Zh ?_ ?_ | refine Zk ?_ ?_) | ((with_reducible refine Ga ?_); first | refine Zg ?_ ?_ | refine Zp ?_ ?_)) <;> intro hg <;> simp only [hg] <;> (try simp at hg) <;> try omega)); all_goals try ((first | with_reducible refine Zn ?_ | refine Zm ?_); apply hK; clear hK K; try simp only [AThen, ABlock])) | refine Zz ?_ | refine Zb ?_)
  all_goals try exact rfl
  simp [newS, specP, rowsP, encI]
theorem allK_succ {s : SpecS} {l : List Ev} {k : Nat} {e : Ev} (h : allK s l k) (he : l[k]? = some e) (h2 : (stepS (stS s l k) e).2 = true) : allK s l (k + 1) := fun j e' hj he' => by
  by_cases hjk : j = k
  · subst hjk; rw [he] at he'; cases he'; exact h2
  · exact h j e' (by omega) he'
theorem pc_15 (s : SpecS) (l : List Ev) (M : Nat) (hs : SInv M s) (hM : M + l.length ≤ 900) (hb : ∀ e ∈ l, e.B.length ≤ 2000) : PC Try.prog 15 [bSp s, bEs l] (.tup [bSp (goS s l).1, bI (goS s l).2.1, bB (goS s l).2.2]) := by
  refine PC.of_loose (ACall.of_AW (fun args w => Try.call15 args w) Try.func15 rfl (by simp [Try.ntmps15]) ?_)
  simp only [Try.ntmps15, List.length_nil]
  all_goals repeat' (first | (refine Zc ?_ ?_ <;> intro h <;> (try simp [go_sem] at h) <;> try omega) | (refine Zi ?_; try simp only [AThen, ABlock]) | (refine Ze ?_; simp +decide only [AThen, ABlock, reduceIte]) | (refine Zt ?_; (try simp [go_sem]); all_goals (try simp [loR, lo]); all_goals try exact rfl) | ((first | refine Zq ?_ | refine Zr ?_ | refine Zw ?_ | refine Zx ?_); intro K hK; repeat' (first | ((first | with_reducible refine Z0 ?_ | with_reducible refine Zd ?_ | refine Zs ?_ | refine Zl ?_); intro HK hk; simp [go_sem]; (repeat refine ⟨by omega, ?_⟩); apply hk; clear hk HK) | ((first | ((with_reducible refine Gd ?_); first | refine Zh ?_ ?_ | refine Zk ?_ ?_) | ((with_reducible refine Ga ?_); first | refine Zg ?_ ?_ | refine Zp ?_ ?_)) <;> intro hg <;> simp only [hg] <;> (try simp at hg) <;> try omega)); all_goals try ((first | with_reducible refine Zn ?_ | refine Zm ?_); apply hK; clear hK K; try simp only [AThen, ABlock])) | refine Zz ?_ | refine Zb ?_)
  all_goals try exact rfl
  refine AW.upto l.length (fun k => allK s l k) (fun k => [(13, .c (.p (.int .i64 k))), (12, .c (.p (.int .i64 l.length))), (11, .c (.p (evsP l))), (2, .c (.ptr 0 0)), (4, .c (.ptr 1 0)), (1, .c (.p (evsP l)))])
    (fun k => [.var ((specP (stS s l k)).map .p), .var [.p (.sl true []), .p (.sl true []), .p (.sl true [])]]) (fun j e hj => by omega) ?_ fun k hk hj => ?_
  · refine Sub.of 2 (by simp) (by first | (simp [stS]; done) | (simp [go_sem, stS]; done)) (by simp [go_sem]) ?_ (by simp [go_sem])
    simp [go_sem, stS]
  · have hw := wrapS (show (k : Int) < 9223372036854775807 by omega)
    obtain ⟨hi, _⟩ := st_inv hs hb k
    by_cases hkl : k < l.length
    · obtain ⟨e, he⟩ : ∃ e, l[k]? = some e := ⟨_, List.getElem?_eq_getElem hkl⟩
      have hsu := stS_succ (s := s) he
      all_goals repeat' (first | (refine Zc ?_ ?_ <;> intro h <;> (try simp [go_sem, he] at h) <;> try omega) | (refine Zi ?_; try simp only [AThen, ABlock]) | (refine Ze ?_; simp +decide only [AThen, ABlock, reduceIte]) | (refine Zt ?_; (try simp [go_sem, he]); all_goals (try simp [loR, lo]); all_goals try exact rfl) | ((first | refine Zq ?_ | refine Zr ?_ | refine Zw ?_ | refine Zx ?_); intro K hK; repeat' (first | ((first | with_reducible refine Z0 ?_ | with_reducible refine Zd ?_ | refine Zs ?_ | refine Zl ?_); intro HK hk; simp [go_sem, he]; (repeat refine ⟨by omega, ?_⟩); apply hk; clear hk HK) | ((first | ((with_reducible refine Gd ?_); first | refine Zh ?_ ?_ | refine Zk ?_ ?_) | ((with_reducible refine Ga ?_); first | refine Zg ?_ ?_ | refine Zp ?_ ?_)) <;> intro hg <;> simp only [hg] <;> (try simp at hg) <;> try omega)); all_goals try ((first | with_reducible refine Zn ?_ | refine Zm ?_); apply hK; clear hK K; try simp only [AThen, ABlock])) | refine Zz ?_ | refine Zb ?_)
      all_goals try exact rfl
      (first | with_reducible refine Z0 ?_ | with_reducible refine Zd ?_ | refine Zs ?_); intro HK hk; simp [go_sem]; (repeat refine ⟨by omega, ?_⟩); (first | refine ACall.pur rfl (pc_21 (stS s l k) e (M + k) hi (by omega)) ?_ | refine ACallD.mk rfl (pc_21 (stS s l k) e (M + k) hi (by omega)) ?_); simp [go_sem]; (repeat refine ⟨by omega, ?_⟩); apply hk; clear hk HK; repeat' (first | ((first | with_reducible refine Z0 ?_ | with_reducible refine Zd ?_ | refine Zs ?_ | refine Zl ?_); intro HK hk; simp [go_sem]; (repeat refine ⟨by omega, ?_⟩); apply hk; clear hk HK) | ((first | ((with_reducible refine Gd ?_); first | refine Zh ?_ ?_ | refine Zk ?_ ?_) | ((with_reducible refine Ga ?_); first | refine Zg ?_ ?_ | refine Zp ?_ ?_)) <;> intro hg <;> simp only [hg] <;> (try simp at hg) <;> try omega))
      all_goals try ((first | with_reducible refine Zn ?_ | refine Zm ?_); apply hK; clear hK K; try simp only [AThen, ABlock])
      cases hq : (stepS (stS s l k) e).2 with
      | true =>
        all_goals repeat' (first | (refine Zc ?_ ?_ <;> intro h <;> (try simp [go_sem, hq, hw] at h) <;> try omega) | (refine Zi ?_; try simp only [AThen, ABlock]) | (refine Ze ?_; simp +decide only [AThen, ABlock, reduceIte]) | (refine Zt ?_; (try simp [go_sem, hq, hw]); all_goals (try simp [loR, lo]); all_goals try exact rfl) | ((first | refine Zq ?_ | refine Zr ?_ | refine Zw ?_ | refine Zx ?_); intro K hK; repeat' (first | ((first | with_reducible refine Z0 ?_ | with_reducible refine Zd ?_ | refine Zs ?_ | refine Zl ?_); intro HK hk; simp [go_sem, hq, hw]; (repeat refine ⟨by omega, ?_⟩); apply hk; clear hk HK) | ((first | ((with_reducible refine Gd ?_); first | refine Zh ?_ ?_ | refine Zk ?_ ?_) | ((with_reducible refine Ga ?_); first | refine Zg ?_ ?_ | refine Zp ?_ ?_)) <;> intro hg <;> simp only [hg] <;> (try simp at hg) <;> try omega)); all_goals try ((first | with_reducible refine Zn ?_ | refine Zm ?_); apply hK; clear hK K; try simp only [AThen, ABlock])) | refine Zz ?_ | refine Zb ?_)
        all_goals try exact rfl
        refine ⟨hkl, allK_succ hj he hq, ?_⟩
        refine Sub.of 2 (by simp) (by first | (simp [hsu]; done) | (simp [go_sem, hsu]; done)) (by simp [go_sem]) ?_ (by simp [go_sem])
        simp [go_sem, hsu]
      | false =>
        have hg := go_stop l s k e hj he hq
        all_goals repeat' (first | (refine Zc ?_ ?_ <;> intro h <;> (try simp [go_sem, hq, hg] at h) <;> try omega) | (refine Zi ?_; try simp only [AThen, ABlock]) | (refine Ze ?_; simp +decide only [AThen, ABlock, reduceIte]) | (refine Zt ?_; (try simp [go_sem, hq, hg]); all_goals (try simp [loR, lo]); all_goals try exact rfl) | ((first | refine Zq ?_ | refine Zr ?_ | refine Zw ?_ | refine Zx ?_); intro K hK; repeat' (first | ((first | with_reducible refine Z0 ?_ | with_reducible refine Zd ?_ | refine Zs ?_ | refine Zl ?_); intro HK hk; simp [go_sem, hq, hg]; (repeat refine ⟨by omega, ?_⟩); apply hk; clear hk HK) | ((first | ((with_reducible refine Gd ?_); first | refine Zh ?_ ?_ | refine Zk ?_ ?_) | ((with_reducible refine Ga ?_); first | refine Zg ?_ ?_ | refine Zp ?_ ?_)) <;> intro hg <;> simp only [hg] <;> (try simp at hg) <;> try omega)); all_goals try ((first | with_reducible refine Zn ?_ | refine Zm ?_); apply hK; clear hK K; try simp only [AThen, ABlock])) | refine Zz ?_ | refine Zb ?_)
        all_goals try exact rfl
    · obtain rfl : k = l.length := by omega
      have hg := go_all l s hj
      all_goals repeat' (first | (refine Zc ?_ ?_ <;> intro h <;> (try simp [go_sem, hg] at h) <;> try omega) | (refine Zi ?_; try simp only [AThen, ABlock]) | (refine Ze ?_; simp +decide only [AThen, ABlock, reduceIte]) | (refine Zt ?_; (try simp [go_sem, hg]); all_goals (try simp [loR, lo]); all_goals try exact rfl) | ((first | refine Zq ?_ | refine Zr ?_ | refine Zw ?_ | refine Zx ?_); intro K hK; repeat' (first | ((first | with_reducible refine Z0 ?_ | with_reducible refine Zd ?_ | refine Zs ?_ | refine Zl ?_); intro HK hk; simp [go_sem, hg]; (repeat refine ⟨by omega, ?_⟩); apply hk; clear hk HK) | ((first | ((with_reducible refine Gd ?_); first | refine Zh ?_ ?_ | refine Zk ?_ ?_) | ((with_reducible refine Ga ?_); first | refine Zg ?_ ?_ | refine Zp ?_ ?_)) <;> intro hg <;> simp only [hg] <;> (try simp at hg) <;> try omega)); all_goals try ((first | with_reducible refine Zn ?_ | refine Zm ?_); apply hK; clear hK K; try simp only [AThen, ABlock])) | refine Zz ?_ | refine Zb ?_)
      all_goals try exact rfl
end Go.Proofs.Ytnibihjlclelgaa
