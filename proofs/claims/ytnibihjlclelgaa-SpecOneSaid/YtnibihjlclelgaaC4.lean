import Derived.Test.YtnibihjlclelgaaC3
set_option linter.unusedVariables false
set_option linter.unusedSimpArgs false
set_option maxRecDepth 100000
set_option maxHeartbeats 0
namespace Go.Proofs.Ytnibihjlclelgaa
open Go.Aw

abbrev bI (n : Int) : PB := (false, [.int .i64 n])
abbrev bB (b : Bool) : PB := (false, [.bool b])
abbrev bSp (s : SpecS) : PB := (true, specP s)
abbrev bEv (e : Ev) : PB := (true, evP e)
abbrev bD (d : Deliv) : PB := (true, delivP d)
abbrev rrP (a : List (List (List UInt8))) : PV := .sl false (a.map rowsP)
abbrev dvP (l : List Deliv) : PV := .sl false (l.map delivP)
abbrev bR (r : List (List UInt8)) : PB := (false, [rowP r])
abbrev bRR (a : List (List (List UInt8))) : PB := (false, [rrP a])
abbrev bDs (l : List Deliv) : PB := (false, [dvP l])
theorem beq_dec (a b : List UInt8) : (a == b) = decide (a = b) := by by_cases h : a = b <;> simp [h]
theorem list_ext_upto {α : Type} {a b : List α} (hl : a.length = b.length) (h : ∀ j, j < a.length → a[j]? = b[j]?) : a = b := by
  apply List.ext_getElem?
  intro j
  by_cases hj : j < a.length
  · exact h j hj
  · rw [List.getElem?_eq_none (by omega), List.getElem?_eq_none (by omega)]
theorem pc_29 (a b : List UInt8) : PC Try.prog 29 [(false, [bsP a]), (false, [bsP b])] (.one (bB (decide (a = b)))) := by
  refine PC.of_ACall (ACall.of_AW (fun args w => Try.call29 args w) Try.func29 rfl (by simp [Try.ntmps29]) ?_)
  simp only [Try.ntmps29, List.length_nil]
  all_goals repeat' (first | (refine Zc ?_ ?_ <;> intro h <;> (try simp [go_sem] at h) <;> try omega) | (refine Zi ?_; try simp only [AThen, ABlock]) | (refine Ze ?_; simp +decide only [AThen, ABlock, reduceIte]) | (refine Zt ?_; (try simp [go_sem]); all_goals (try simp [loR, lo]); all_goals try exact rfl) | ((first | refine Zq ?_ | refine Zr ?_ | refine Zw ?_ | refine Zx ?_); intro K hK; repeat' (first | ((first | with_reducible refine Z0 ?_ | with_reducible refine Zd ?_ | refine Zs ?_ | refine Zl ?_); intro HK hk; simp [go_sem]; (repeat refine ⟨by omega, ?_⟩); apply hk; clear hk HK) | ((first | ((with_reducible refine Gd ?_); first | refine Zh ?_ ?_ | refine Zk ?_ ?_) | ((with_reducible refine Ga ?_); first | refine Zg ?_ ?_ | refine Zp ?_ ?_)) <;> intro hg <;> simp only [hg] <;> (try simp at hg) <;> try omega)); all_goals try ((first | with_reducible refine Zn ?_ | refine Zm ?_); apply hK; clear hK K; try simp only [AThen, ABlock])) | refine Zz ?_ | refine Zb ?_)
  all_goals try exact rfl
  exact beq_dec a b
theorem pc_42 (a b : List (List UInt8)) : PC Try.prog 42 [bR a, bR b, (false, [.fn 29])] (.one (bB (decide (a = b)))) := by
  refine PC.of_ACall (ACall.of_AW (fun args w => Try.call42 args w) Try.func42 rfl (by simp [Try.ntmps42]) ?_)
  simp only [Try.ntmps42, List.length_nil]
  all_goals repeat' (first | (refine Zc ?_ ?_ <;> intro h <;> (try simp [go_sem] at h) <;> try omega) | (refine Zi ?_; try simp only [AThen, ABlock]) | (refine Ze ?_; simp +decide only [AThen, ABlock, reduceIte]) | (refine Zt ?_; (try simp [go_sem]); all_goals (try simp [loR, lo]); all_goals try exact rfl) | ((first | refine Zq ?_ | refine Zr ?_ | refine Zw ?_ | refine Zx ?_); intro K hK; repeat' (first | ((first | with_reducible refine Z0 ?_ | with_reducible refine Zd ?_ | refine Zs ?_ | refine Zl ?_); intro HK hk; simp [go_sem]; (repeat refine ⟨by omega, ?_⟩); apply hk; clear hk HK) | ((first | ((with_reducible refine Gd ?_); first | refine Zh ?_ ?_ | refine Zk ?_ ?_) | ((with_reducible refine Ga ?_); first | refine Zg ?_ ?_ | refine Zp ?_ ?_)) <;> intro hg <;> simp only [hg] <;> (try simp at hg) <;> try omega)); all_goals try ((first | with_reducible refine Zn ?_ | refine Zm ?_); apply hK; clear hK K; try simp only [AThen, ABlock])) | refine Zz ?_ | refine Zb ?_)
  all_goals try exact rfl
  · intro hh; exact h (by rw [hh])
  · have hlen : a.length = b.length := by omega
    refine AW.len 0 rfl fun hl => ?_; simp only [List.length_map] at hl
    refine AW.upto a.length (fun k => ∀ j, j < k → a[j]? = b[j]?) (fun k => [(17, .c (.p (.int .i64 k))), (16, .c (.p (.int .i64 a.length))), (15, .c (.p (rowP a))), (1, .c (.p (rowP b))), (2, .c (.p (.fn 29)))]) (fun _ => []) (fun j hj => by omega) ?_ fun k hk hj => ?_
    · refine Sub.of 0 (by simp) (by first | (simp; done) | (simp [go_sem]; done)) (by simp [go_sem]) ?_ (by simp [go_sem])
      simp [go_sem]
    · by_cases hkl : k < a.length
      · obtain ⟨x, hx⟩ : ∃ x, a[k]? = some x := ⟨_, List.getElem?_eq_getElem hkl⟩
        obtain ⟨y, hy⟩ : ∃ y, b[k]? = some y := ⟨_, List.getElem?_eq_getElem (by omega)⟩
        have hw := wrapS (show (k : Int) < 9223372036854775807 by omega)
        all_goals repeat' (first | (refine Zc ?_ ?_ <;> intro h <;> (try simp [go_sem, hx, hy] at h) <;> try omega) | (refine Zi ?_; try simp only [AThen, ABlock]) | (refine Ze ?_; simp +decide only [AThen, ABlock, reduceIte]) | (refine Zt ?_; (try simp [go_sem, hx, hy]); all_goals (try simp [loR, lo]); all_goals try exact rfl) | ((first | refine Zq ?_ | refine Zr ?_ | refine Zw ?_ | refine Zx ?_); intro K hK; repeat' (first | ((first | with_reducible refine Z0 ?_ | with_reducible refine Zd ?_ | refine Zs ?_ | refine Zl ?_); intro HK hk; simp [go_sem, hx, hy]; (repeat refine ⟨by omega, ?_⟩); apply hk; clear hk HK) | ((first | ((with_reducible refine Gd ?_); first | refine Zh ?_ ?_ | refine Zk ?_ ?_) | ((with_reducible refine Ga ?_); first | refine Zg ?_ ?_ | refine Zp ?_ ?_)) <;> intro hg <;> simp only [hg] <;> (try simp at hg) <;> try omega)); all_goals try ((first | with_reducible refine Zn ?_ | refine Zm ?_); apply hK; clear hK K; try simp only [AThen, ABlock])) | refine Zz ?_ | refine Zb ?_)
        all_goals try exact rfl
        (first | with_reducible refine Z0 ?_ | with_reducible refine Zd ?_ | refine Zs ?_); intro HK hk; simp [go_sem]; (repeat refine ⟨by omega, ?_⟩); (first | refine ACall.pur rfl (pc_29 x y) ?_ | refine ACallD.mk rfl (pc_29 x y) ?_); simp [go_sem]; (repeat refine ⟨by omega, ?_⟩); apply hk; clear hk HK; repeat' (first | ((first | with_reducible refine Z0 ?_ | with_reducible refine Zd ?_ | refine Zs ?_ | refine Zl ?_); intro HK hk; simp [go_sem]; (repeat refine ⟨by omega, ?_⟩); apply hk; clear hk HK) | ((first | ((with_reducible refine Gd ?_); first | refine Zh ?_ ?_ | refine Zk ?_ ?_) | ((with_reducible refine Ga ?_); first | refine Zg ?_ ?_ | refine Zp ?_ ?_)) <;> intro hg <;> simp only [hg] <;> (try simp at hg) <;> try omega))
        all_goals try ((first | with_reducible refine Zn ?_ | refine Zm ?_); apply hK; clear hK K; try simp only [AThen, ABlock])
        by_cases hxy : x = y
        · all_goals repeat' (first | (refine Zc ?_ ?_ <;> intro h <;> (try simp [go_sem, hxy, hw] at h) <;> try omega) | (refine Zi ?_; try simp only [AThen, ABlock]) | (refine Ze ?_; simp +decide only [AThen, ABlock, reduceIte]) | (refine Zt ?_; (try simp [go_sem, hxy, hw]); all_goals (try simp [loR, lo]); all_goals try exact rfl) | ((first | refine Zq ?_ | refine Zr ?_ | refine Zw ?_ | refine Zx ?_); intro K hK; repeat' (first | ((first | with_reducible refine Z0 ?_ | with_reducible refine Zd ?_ | refine Zs ?_ | refine Zl ?_); intro HK hk; simp [go_sem, hxy, hw]; (repeat refine ⟨by omega, ?_⟩); apply hk; clear hk HK) | ((first | ((with_reducible refine Gd ?_); first | refine Zh ?_ ?_ | refine Zk ?_ ?_) | ((with_reducible refine Ga ?_); first | refine Zg ?_ ?_ | refine Zp ?_ ?_)) <;> intro hg <;> simp only [hg] <;> (try simp at hg) <;> try omega)); all_goals try ((first | with_reducible refine Zn ?_ | refine Zm ?_); apply hK; clear hK K; try simp only [AThen, ABlock])) | refine Zz ?_ | refine Zb ?_)
          all_goals try exact rfl
          refine ⟨hkl, fun j hjk => ?_, ?_⟩
          · by_cases hjk' : j = k
            · rw [hjk', hx, hy, hxy]
            · exact hj j (by omega)
          · refine Sub.of 0 (by simp) (by first | (simp; done) | (simp [go_sem]; done)) (by simp [go_sem]) ?_ (by simp [go_sem])
            simp [go_sem]
        · all_goals repeat' (first | (refine Zc ?_ ?_ <;> intro h <;> (try simp [go_sem, hxy] at h) <;> try omega) | (refine Zi ?_; try simp only [AThen, ABlock]) | (refine Ze ?_; simp +decide only [AThen, ABlock, reduceIte]) | (refine Zt ?_; (try simp [go_sem, hxy]); all_goals (try simp [loR, lo]); all_goals try exact rfl) | ((first | refine Zq ?_ | refine Zr ?_ | refine Zw ?_ | refine Zx ?_); intro K hK; repeat' (first | ((first | with_reducible refine Z0 ?_ | with_reducible refine Zd ?_ | refine Zs ?_ | refine Zl ?_); intro HK hk; simp [go_sem, hxy]; (repeat refine ⟨by omega, ?_⟩); apply hk; clear hk HK) | ((first | ((with_reducible refine Gd ?_); first | refine Zh ?_ ?_ | refine Zk ?_ ?_) | ((with_reducible refine Ga ?_); first | refine Zg ?_ ?_ | refine Zp ?_ ?_)) <;> intro hg <;> simp only [hg] <;> (try simp at hg) <;> try omega)); all_goals try ((first | with_reducible refine Zn ?_ | refine Zm ?_); apply hK; clear hK K; try simp only [AThen, ABlock])) | refine Zz ?_ | refine Zb ?_)
          all_goals try exact rfl
          intro hh; rw [hh, hy] at hx; exact hxy (Option.some.inj hx).symm
      · obtain rfl : k = a.length := by omega
        all_goals repeat' (first | (refine Zc ?_ ?_ <;> intro h <;> (try simp [go_sem] at h) <;> try omega) | (refine Zi ?_; try simp only [AThen, ABlock]) | (refine Ze ?_; simp +decide only [AThen, ABlock, reduceIte]) | (refine Zt ?_; (try simp [go_sem]); all_goals (try simp [loR, lo]); all_goals try exact rfl) | ((first | refine Zq ?_ | refine Zr ?_ | refine Zw ?_ | refine Zx ?_); intro K hK; repeat' (first | ((first | with_reducible refine Z0 ?_ | with_reducible refine Zd ?_ | refine Zs ?_ | refine Zl ?_); intro HK hk; simp [go_sem]; (repeat refine ⟨by omega, ?_⟩); apply hk; clear hk HK) | ((first | ((with_reducible refine Gd ?_); first | refine Zh ?_ ?_ | refine Zk ?_ ?_) | ((with_reducible refine Ga ?_); first | refine Zg ?_ ?_ | refine Zp ?_ ?_)) <;> intro hg <;> simp only [hg] <;> (try simp at hg) <;> try omega)); all_goals try ((first | with_reducible refine Zn ?_ | refine Zm ?_); apply hK; clear hK K; try simp only [AThen, ABlock])) | refine Zz ?_ | refine Zb ?_)
        all_goals try exact rfl
        exact list_ext_upto hlen fun j hjl => hj j (by omega)
theorem ac_40 (a b : List (List (List UInt8))) (K : AV → List AObj → Prop) (h1 : K (.c (.p (.bool (decide (a = b))))) [.var [.p (.fn 29)]]) :
    ACall Try.prog 40 [.c (.p (rrP a)), .c (.p (rrP b)), .c (.clo 41 [] [(0, 0)])] [.var [.p (.fn 29)]] K := by
  refine ACall.of_AW (fun args w => Try.call40 args w) Try.func40 rfl (by simp [Try.ntmps40]) ?_
  simp only [Try.ntmps40, List.length_append, List.length_cons, List.length_nil, List.cons_append, List.nil_append, List.map_cons, List.map_nil, Nat.zero_add, Nat.reduceAdd, capAV]
  all_goals repeat' (first | (refine Zc ?_ ?_ <;> intro h <;> (try simp [go_sem] at h) <;> try omega) | (refine Zi ?_; try simp only [AThen, ABlock]) | (refine Ze ?_; simp +decide only [AThen, ABlock, reduceIte]) | (refine Zt ?_; (try simp [go_sem]); all_goals (try simp [loR, lo]); all_goals try exact rfl) | ((first | refine Zq ?_ | refine Zr ?_ | refine Zw ?_ | refine Zx ?_); intro K hK; repeat' (first | ((first | with_reducible refine Z0 ?_ | with_reducible refine Zd ?_ | refine Zs ?_ | refine Zl ?_); intro HK hk; simp [go_sem]; (repeat refine ⟨by omega, ?_⟩); apply hk; clear hk HK) | ((first | ((with_reducible refine Gd ?_); first | refine Zh ?_ ?_ | refine Zk ?_ ?_) | ((with_reducible refine Ga ?_); first | refine Zg ?_ ?_ | refine Zp ?_ ?_)) <;> intro hg <;> simp only [hg] <;> (try simp at hg) <;> try omega)); all_goals try ((first | with_reducible refine Zn ?_ | refine Zm ?_); apply hK; clear hK K; try simp only [AThen, ABlock])) | refine Zz ?_ | refine Zb ?_)
  all_goals try exact rfl
  · have hne : ¬ a = b := fun hh => h (by rw [hh])
    rw [decide_eq_false hne] at h1
    exact h1
  · have hlen : a.length = b.length := by omega
    refine AW.len 0 rfl fun hl => ?_; simp only [List.length_map] at hl
    refine AW.upto a.length (fun k => ∀ j, j < k → a[j]? = b[j]?) (fun k => [(17, .c (.p (.int .i64 k))), (16, .c (.p (.int .i64 a.length))), (15, .c (.p (rrP a))), (1, .c (.p (rrP b))), (2, .c (.clo 41 [] [(0, 0)]))]) (fun _ => [.var [.p (.fn 29)]]) (fun j hj => by omega) ?_ fun k hk hj => ?_
    · refine Sub.of 1 (by simp) (by first | (simp; done) | (simp [go_sem]; done)) (by simp [go_sem]) ?_ (by simp [go_sem])
      simp [go_sem]
    · by_cases hkl : k < a.length
      · obtain ⟨x, hx⟩ : ∃ x, a[k]? = some x := ⟨_, List.getElem?_eq_getElem hkl⟩
        obtain ⟨y, hy⟩ : ∃ y, b[k]? = some y := ⟨_, List.getElem?_eq_getElem (by omega)⟩
        have hw := wrapS (show (k : Int) < 9223372036854775807 by omega)
        all_goals repeat' (first | (refine Zc ?_ ?_ <;> intro h <;> (try simp [go_sem, hx, hy] at h) <;> try omega) | (refine Zi ?_; try simp only [AThen, ABlock]) | (refine Ze ?_; simp +decide only [AThen, ABlock, reduceIte]) | (refine Zt ?_; (try simp [go_sem, hx, hy]); all_goals (try simp [loR, lo]); all_goals try exact rfl) | ((first | refine Zq ?_ | refine Zr ?_ | refine Zw ?_ | refine Zx ?_); intro K hK; repeat' (first | ((first | with_reducible refine Z0 ?_ | with_reducible refine Zd ?_ | refine Zs ?_ | refine Zl ?_); intro HK hk; simp [go_sem, hx, hy]; (repeat refine ⟨by omega, ?_⟩); apply hk; clear hk HK) | ((first | ((with_reducible refine Gd ?_); first | refine Zh ?_ ?_ | refine Zk ?_ ?_) | ((with_reducible refine Ga ?_); first | refine Zg ?_ ?_ | refine Zp ?_ ?_)) <;> intro hg <;> simp only [hg] <;> (try simp at hg) <;> try omega)); all_goals try ((first | with_reducible refine Zn ?_ | refine Zm ?_); apply hK; clear hK K; try simp only [AThen, ABlock])) | refine Zz ?_ | refine Zb ?_)
        all_goals try exact rfl
        refine ACall.of_AW (fun args w => Try.call41 args w) Try.func41 rfl (by simp [Try.ntmps41]) ?_
        simp only [Try.ntmps41, List.length_append, List.length_cons, List.length_nil, List.cons_append, List.nil_append, List.map_cons, List.map_nil, Nat.zero_add, Nat.reduceAdd, capAV]
        all_goals repeat' (first | (refine Zc ?_ ?_ <;> intro h <;> (try simp [go_sem] at h) <;> try omega) | (refine Zi ?_; try simp only [AThen, ABlock]) | (refine Ze ?_; simp +decide only [AThen, ABlock, reduceIte]) | (refine Zt ?_; (try simp [go_sem]); all_goals (try simp [loR, lo]); all_goals try exact rfl) | ((first | refine Zq ?_ | refine Zr ?_ | refine Zw ?_ | refine Zx ?_); intro K hK; repeat' (first | ((first | with_reducible refine Z0 ?_ | with_reducible refine Zd ?_ | refine Zs ?_ | refine Zl ?_); intro HK hk; simp [go_sem]; (repeat refine ⟨by omega, ?_⟩); apply hk; clear hk HK) | ((first | ((with_reducible refine Gd ?_); first | refine Zh ?_ ?_ | refine Zk ?_ ?_) | ((with_reducible refine Ga ?_); first | refine Zg ?_ ?_ | refine Zp ?_ ?_)) <;> intro hg <;> simp only [hg] <;> (try simp at hg) <;> try omega)); all_goals try ((first | with_reducible refine Zn ?_ | refine Zm ?_); apply hK; clear hK K; try simp only [AThen, ABlock])) | refine Zz ?_ | refine Zb ?_)
        all_goals try exact rfl
        (first | with_reducible refine Z0 ?_ | with_reducible refine Zd ?_ | refine Zs ?_); intro HK hk; simp [go_sem]; (repeat refine ⟨by omega, ?_⟩); (first | refine ACall.pur rfl (pc_42 x y) ?_ | refine ACallD.mk rfl (pc_42 x y) ?_); simp [go_sem]; (repeat refine ⟨by omega, ?_⟩); apply hk; clear hk HK; repeat' (first | ((first | with_reducible refine Z0 ?_ | with_reducible refine Zd ?_ | refine Zs ?_ | refine Zl ?_); intro HK hk; simp [go_sem]; (repeat refine ⟨by omega, ?_⟩); apply hk; clear hk HK) | ((first | ((with_reducible refine Gd ?_); first | refine Zh ?_ ?_ | refine Zk ?_ ?_) | ((with_reducible refine Ga ?_); first | refine Zg ?_ ?_ | refine Zp ?_ ?_)) <;> intro hg <;> simp only [hg] <;> (try simp at hg) <;> try omega))
        all_goals try ((first | with_reducible refine Zn ?_ | refine Zm ?_); apply hK; clear hK K; try simp only [AThen, ABlock])
        all_goals repeat' (first | (refine Zc ?_ ?_ <;> intro h <;> (try simp [go_sem] at h) <;> try omega) | (refine Zi ?_; try simp only [AThen, ABlock]) | (refine Ze ?_; simp +decide only [AThen, ABlock, reduceIte]) | (refine Zt ?_; (try simp [go_sem]); all_goals (try simp [loR, lo]); all_goals try exact rfl) | ((first | refine Zq ?_ | refine Zr ?_ | refine Zw ?_ | refine Zx ?_); intro K hK; repeat' (first | ((first | with_reducible refine Z0 ?_ | with_reducible refine Zd ?_ | refine Zs ?_ | refine Zl ?_); intro HK hk; simp [go_sem]; (repeat refine ⟨by omega, ?_⟩); apply hk; clear hk HK) | ((first | ((with_reducible refine Gd ?_); first | refine Zh ?_ ?_ | refine Zk ?_ ?_) | ((with_reducible refine Ga ?_); first | refine Zg ?_ ?_ | refine Zp ?_ ?_)) <;> intro hg <;> simp only [hg] <;> (try simp at hg) <;> try omega)); all_goals try ((first | with_reducible refine Zn ?_ | refine Zm ?_); apply hK; clear hK K; try simp only [AThen, ABlock])) | refine Zz ?_ | refine Zb ?_)
        all_goals try exact rfl
        first | apply hK | apply hk
        first | clear hK K | clear hk K | skip
        try simp only [AThen, ABlock]
        by_cases hxy : x = y
        · all_goals repeat' (first | (refine Zc ?_ ?_ <;> intro h <;> (try simp [go_sem, hxy, hw] at h) <;> try omega) | (refine Zi ?_; try simp only [AThen, ABlock]) | (refine Ze ?_; simp +decide only [AThen, ABlock, reduceIte]) | (refine Zt ?_; (try simp [go_sem, hxy, hw]); all_goals (try simp [loR, lo]); all_goals try exact rfl) | ((first | refine Zq ?_ | refine Zr ?_ | refine Zw ?_ | refine Zx ?_); intro K hK; repeat' (first | ((first | with_reducible refine Z0 ?_ | with_reducible refine Zd ?_ | refine Zs ?_ | refine Zl ?_); intro HK hk; simp [go_sem, hxy, hw]; (repeat refine ⟨by omega, ?_⟩); apply hk; clear hk HK) | ((first | ((with_reducible refine Gd ?_); first | refine Zh ?_ ?_ | refine Zk ?_ ?_) | ((with_reducible refine Ga ?_); first | refine Zg ?_ ?_ | refine Zp ?_ ?_)) <;> intro hg <;> simp only [hg] <;> (try simp at hg) <;> try omega)); all_goals try ((first | with_reducible refine Zn ?_ | refine Zm ?_); apply hK; clear hK K; try simp only [AThen, ABlock])) | refine Zz ?_ | refine Zb ?_)
          all_goals try exact rfl
          refine ⟨hkl, fun j hjk => ?_, ?_⟩
          · by_cases hjk' : j = k
            · rw [hjk', hx, hy, hxy]
            · exact hj j (by omega)
          · refine Sub.of 1 (by simp) (by first | (simp; done) | (simp [go_sem]; done)) (by simp [go_sem]) ?_ (by simp [go_sem])
            simp [go_sem]
        · have hne : ¬ a = b := fun hh => by rw [hh, hy] at hx; exact hxy (Option.some.inj hx).symm
          rw [decide_eq_false hne] at h1
          all_goals repeat' (first | (refine Zc ?_ ?_ <;> intro h <;> (try simp [go_sem, hxy] at h) <;> try omega) | (refine Zi ?_; try simp only [AThen, ABlock]) | (refine Ze ?_; simp +decide only [AThen, ABlock, reduceIte]) | (refine Zt ?_; (try simp [go_sem, hxy]); all_goals (try simp [loR, lo]); all_goals try exact rfl) | ((first | refine Zq ?_ | refine Zr ?_ | refine Zw ?_ | refine Zx ?_); intro K hK; repeat' (first | ((first | with_reducible refine Z0 ?_ | with_reducible refine Zd ?_ | refine Zs ?_ | refine Zl ?_); intro HK hk; simp [go_sem, hxy]; (repeat refine ⟨by omega, ?_⟩); apply hk; clear hk HK) | ((first | ((with_reducible refine Gd ?_); first | refine Zh ?_ ?_ | refine Zk ?_ ?_) | ((with_reducible refine Ga ?_); first | refine Zg ?_ ?_ | refine Zp ?_ ?_)) <;> intro hg <;> simp only [hg] <;> (try simp at hg) <;> try omega)); all_goals try ((first | with_reducible refine Zn ?_ | refine Zm ?_); apply hK; clear hK K; try simp only [AThen, ABlock])) | refine Zz ?_ | refine Zb ?_)
          all_goals try exact rfl
          exact h1
      · obtain rfl : k = a.length := by omega
        have he : a = b := list_ext_upto hlen fun j hjl => hj j (by omega)
        rw [decide_eq_true he] at h1
        all_goals repeat' (first | (refine Zc ?_ ?_ <;> intro h <;> (try simp [go_sem] at h) <;> try omega) | (refine Zi ?_; try simp only [AThen, ABlock]) | (refine Ze ?_; simp +decide only [AThen, ABlock, reduceIte]) | (refine Zt ?_; (try simp [go_sem]); all_goals (try simp [loR, lo]); all_goals try exact rfl) | ((first | refine Zq ?_ | refine Zr ?_ | refine Zw ?_ | refine Zx ?_); intro K hK; repeat' (first | ((first | with_reducible refine Z0 ?_ | with_reducible refine Zd ?_ | refine Zs ?_ | refine Zl ?_); intro HK hk; simp [go_sem]; (repeat refine ⟨by omega, ?_⟩); apply hk; clear hk HK) | ((first | ((with_reducible refine Gd ?_); first | refine Zh ?_ ?_ | refine Zk ?_ ?_) | ((with_reducible refine Ga ?_); first | refine Zg ?_ ?_ | refine Zp ?_ ?_)) <;> intro hg <;> simp only [hg] <;> (try simp at hg) <;> try omega)); all_goals try ((first | with_reducible refine Zn ?_ | refine Zm ?_); apply hK; clear hK K; try simp only [AThen, ABlock])) | refine Zz ?_ | refine Zb ?_)
        all_goals try exact rfl
        exact h1
theorem pc_30 (a b : List (List (List UInt8))) : PC Try.prog 30 [bRR a, bRR b, (false, [.fn 29])] (.one (bB (decide (a = b)))) := by
  refine PC.of_ACall (ACall.of_AW (fun args w => Try.call30 args w) Try.func30 rfl (by simp [Try.ntmps30]) ?_)
  simp only [Try.ntmps30, List.length_nil]
  all_goals repeat' (first | (refine Zc ?_ ?_ <;> intro h <;> (try simp [go_sem] at h) <;> try omega) | (refine Zi ?_; try simp only [AThen, ABlock]) | (refine Ze ?_; simp +decide only [AThen, ABlock, reduceIte]) | (refine Zt ?_; (try simp [go_sem]); all_goals (try simp [loR, lo]); all_goals try exact rfl) | ((first | refine Zq ?_ | refine Zr ?_ | refine Zw ?_ | refine Zx ?_); intro K hK; repeat' (first | ((first | with_reducible refine Z0 ?_ | with_reducible refine Zd ?_ | refine Zs ?_ | refine Zl ?_); intro HK hk; simp [go_sem]; (repeat refine ⟨by omega, ?_⟩); apply hk; clear hk HK) | ((first | ((with_reducible refine Gd ?_); first | refine Zh ?_ ?_ | refine Zk ?_ ?_) | ((with_reducible refine Ga ?_); first | refine Zg ?_ ?_ | refine Zp ?_ ?_)) <;> intro hg <;> simp only [hg] <;> (try simp at hg) <;> try omega)); all_goals try ((first | with_reducible refine Zn ?_ | refine Zm ?_); apply hK; clear hK K; try simp only [AThen, ABlock])) | refine Zz ?_ | refine Zb ?_)
  all_goals try exact rfl
  (first | with_reducible refine Z0 ?_ | with_reducible refine Zd ?_ | refine Zs ?_ | refine Zl ?_); intro HK hk; simp [go_sem]
  refine ac_40 a b _ ?_
  (repeat refine ⟨by omega, ?_⟩); apply hk; clear hk HK; repeat' (first | ((first | with_reducible refine Z0 ?_ | with_reducible refine Zd ?_ | refine Zs ?_ | refine Zl ?_); intro HK hk; simp [go_sem]; (repeat refine ⟨by omega, ?_⟩); apply hk; clear hk HK) | ((first | ((with_reducible refine Gd ?_); first | refine Zh ?_ ?_ | refine Zk ?_ ?_) | ((with_reducible refine Ga ?_); first | refine Zg ?_ ?_ | refine Zp ?_ ?_)) <;> intro hg <;> simp only [hg] <;> (try simp at hg) <;> try omega))
  all_goals try ((first | with_reducible refine Zn ?_ | refine Zm ?_); apply hK; clear hK K; try simp only [AThen, ABlock])
  all_goals repeat' (first | (refine Zc ?_ ?_ <;> intro h <;> (try simp [go_sem] at h) <;> try omega) | (refine Zi ?_; try simp only [AThen, ABlock]) | (refine Ze ?_; simp +decide only [AThen, ABlock, reduceIte]) | (refine Zt ?_; (try simp [go_sem]); all_goals (try simp [loR, lo]); all_goals try exact rfl) | ((first | refine Zq ?_ | refine Zr ?_ | refine Zw ?_ | refine Zx ?_); intro K hK; repeat' (first | ((first | with_reducible refine Z0 ?_ | with_reducible refine Zd ?_ | refine Zs ?_ | refine Zl ?_); intro HK hk; simp [go_sem]; (repeat refine ⟨by omega, ?_⟩); apply hk; clear hk HK) | ((first | ((with_reducible refine Gd ?_); first | refine Zh ?_ ?_ | refine Zk ?_ ?_) | ((with_reducible refine Ga ?_); first | refine Zg ?_ ?_ | refine Zp ?_ ?_)) <;> intro hg <;> simp only [hg] <;> (try simp at hg) <;> try omega)); all_goals try ((first | with_reducible refine Zn ?_ | refine Zm ?_); apply hK; clear hK K; try simp only [AThen, ABlock])) | refine Zz ?_ | refine Zb ?_)
  all_goals try exact rfl
end Go.Proofs.Ytnibihjlclelgaa
