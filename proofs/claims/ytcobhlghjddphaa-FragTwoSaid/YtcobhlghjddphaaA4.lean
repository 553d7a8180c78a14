import Derived.Test.YtcobhlghjddphaaA1
import Derived.Test.YtcobhlghjddphaaAw24
set_option linter.unusedVariables false
set_option linter.unusedSimpArgs false
set_option maxRecDepth 100000
namespace Go.Proofs.Ytcobhlghjddphaa
open Go.Aw

def manyF (n m : Int) : Int := if n < 0 ∨ m < 1 then 0 else if n = 0 then 1 else (n - 1) / m + 1

theorem i64w (x : Int) : IntKind.i64.wrap x = (x + 9223372036854775808) % 18446744073709551616 - 9223372036854775808 := IntKind.wrap_i64 x
theorem many_wrap {n m : Int} (h0 : 0 < n) (hn : n ≤ 9223372036854775807) (hm : 1 ≤ m) : IntKind.i64.wrap (IntKind.i64.wrap ((IntKind.i64.wrap (n - 1)).tdiv m) + 1) = (n - 1) / m + 1 := by
  rw [wrapI (n := n - 1) (by omega) (by omega), Int.tdiv_eq_ediv_of_nonneg (by omega)]
  have h1 : 0 ≤ (n - 1) / m := Int.ediv_nonneg (by omega) (by omega)
  have h2 : (n - 1) / m ≤ n - 1 := Int.ediv_le_self _ (by omega)
  rw [wrapI (n := (n - 1) / m) (by omega) (by omega), wrapI (n := (n - 1) / m + 1) (by omega) (by omega)]
theorem pc_27 (n m : Int) (hn : n ≤ 9223372036854775807) : PC Try.prog 27 [bI n, bI m] (.one (bI (manyF n m))) := by
  refine PC.of_ACall (ACall.of_AW (fun args w => Try.call27 args w) Try.func27 rfl (by simp [Try.ntmps27]) ?_)
  simp only [Try.ntmps27, List.length_nil]
  all_goals repeat' (first | (refine Zc ?_ ?_ <;> intro h <;> (try simp [go_sem] at h) <;> try omega) | (refine Zi ?_; try simp only [AThen, ABlock]) | (refine Ze ?_; simp +decide only [AThen, ABlock, reduceIte]) | (refine Zt ?_; (try simp [go_sem]); all_goals (try simp [loR, lo]); all_goals try exact rfl) | ((first | refine Zq ?_ | refine Zr ?_ | refine Zw ?_ | refine Zx ?_); intro K hK; repeat' (first | ((first | refine Zs ?_ | refine Zl ?_ | refine Z0 ?_ | refine Zd ?_); intro HK hk; simp [go_sem]; (repeat refine ⟨by omega, ?_⟩); apply hk; clear hk HK) | ((first | refine Zg ?_ ?_ | refine Zh ?_ ?_ | refine Zp ?_ ?_ | refine Zk ?_ ?_) <;> intro hg <;> simp only [hg] <;> (try simp at hg) <;> try omega)); all_goals try ((first | refine Zn ?_ | refine Zm ?_); apply hK; clear hK K; try simp only [AThen, ABlock])) | refine Zz ?_ | refine Zb ?_)
  all_goals try exact rfl
  all_goals unfold manyF
  · rw [if_pos (by omega)]
  · rw [if_pos (by omega)]
  · rw [if_neg (by omega), if_pos (by omega)]
  · rw [if_neg (by omega), if_neg (by omega), many_wrap (by omega) (by omega) (by omega)]

theorem many_ref {n m : Int} (h0 : 0 ≤ n) (hn : n ≤ 9223372036854775807) (hm : 1 ≤ m) : (if n % m > 0 ∨ n = 0 then n / m + 1 else n / m) = manyF n m := by
  unfold manyF
  rw [if_neg (show ¬ (n < 0 ∨ m < 1) by omega)]
  by_cases hz : n = 0
  · subst hz; simp
  · rw [if_neg hz]
    have h1 := Int.emod_add_mul_ediv n m
    have h2 := Int.emod_nonneg n (show m ≠ 0 by omega)
    have h3 := Int.emod_lt_of_pos n (show 0 < m by omega)
    by_cases hr : n % m > 0
    · rw [if_pos (.inl hr)]
      have e : (n - 1) / m = ((n % m - 1) + m * (n / m)) / m := by congr 1; omega
      rw [e, Int.add_mul_ediv_left _ _ (show m ≠ 0 by omega), Int.ediv_eq_zero_of_lt (show 0 ≤ n % m - 1 by omega) (by omega)]; omega
    · rw [if_neg (show ¬ (n % m > 0 ∨ n = 0) by omega)]
      have e : (n - 1) / m = ((m - 1) + m * (n / m - 1)) / m := by congr 1; rw [Int.mul_sub]; omega
      rw [e, Int.add_mul_ediv_left _ _ (show m ≠ 0 by omega), Int.ediv_eq_zero_of_lt (show 0 ≤ m - 1 by omega) (by omega)]; omega
theorem pc_28 (n m : Int) (hn : n ≤ 9223372036854775807) : PC Try.prog 28 [bI n, bI m] (.one (bI (manyF n m))) := by
  refine PC.of_ACall (ACall.of_AW (fun args w => Try.call28 args w) Try.func28 rfl (by simp [Try.ntmps28]) ?_)
  simp only [Try.ntmps28, List.length_nil]
  all_goals repeat' (first | (refine Zc ?_ ?_ <;> intro h <;> (try simp [go_sem] at h) <;> try omega) | (refine Zi ?_; try simp only [AThen, ABlock]) | (refine Ze ?_; simp +decide only [AThen, ABlock, reduceIte]) | (refine Zt ?_; (try simp [go_sem]); all_goals (try simp [loR, lo]); all_goals try exact rfl) | ((first | refine Zq ?_ | refine Zr ?_ | refine Zw ?_ | refine Zx ?_); intro K hK; repeat' (first | ((first | refine Zs ?_ | refine Zl ?_ | refine Z0 ?_ | refine Zd ?_); intro HK hk; simp [go_sem]; (repeat refine ⟨by omega, ?_⟩); apply hk; clear hk HK) | ((first | refine Zg ?_ ?_ | refine Zh ?_ ?_ | refine Zp ?_ ?_ | refine Zk ?_ ?_) <;> intro hg <;> simp only [hg] <;> (try simp at hg) <;> try omega)); all_goals try ((first | refine Zn ?_ | refine Zm ?_); apply hK; clear hK K; try simp only [AThen, ABlock])) | refine Zz ?_ | refine Zb ?_)
  all_goals try exact rfl
  · unfold manyF; rw [if_pos (by omega)]
  · unfold manyF; rw [if_pos (by omega)]
  all_goals
    rw [← many_ref (by omega) hn (by omega)]
    rw [Int.tmod_eq_emod_of_nonneg (by omega)] at hg
    rw [Int.tdiv_eq_ediv_of_nonneg (by omega)]
    have h1 : 0 ≤ n / m := Int.ediv_nonneg (by omega) (by omega)
    have h2 : n / m ≤ n := Int.ediv_le_self _ (by omega)
    rw [wrapI (n := n / m) (by omega) (by omega)]
  · have h3 : n / m < n ∨ m = 1 := by
      by_cases hm1 : m = 1
      · exact .inr hm1
      · exact .inl (Int.ediv_lt_self_of_pos_of_ne_one (by rcases Int.lt_or_eq_of_le (show 0 ≤ n by omega) with h | h; exact h; subst h; simp at hg) (by omega))
    have h4 : n / m + 1 ≤ 9223372036854775807 := by
      rcases h3 with h3 | h3
      · omega
      · subst h3; simp at hg
    rw [wrapI (n := n / m + 1) (by omega) h4, if_pos (.inl hg)]
  · rw [if_pos (.inr h)]; subst h; simp; exact wrapI (by omega) (by omega)
  · rw [if_neg (by omega)]

theorem beq_dec (a b : List UInt8) : (a == b) = decide (a = b) := by by_cases h : a = b <;> simp [h]
def samePart (a b : Part) : Bool := decide (a = b)
theorem pc_33 (a b : Part) : PC Try.prog 33 [(true, partP a), (true, partP b)] (.one (bB (samePart a b))) := by
  refine PC.of_ACall (ACall.of_AW (fun args w => Try.call33 args w) Try.func33 rfl (by simp [Try.ntmps33]) ?_)
  simp only [Try.ntmps33, List.length_nil]
  all_goals repeat' (first | (refine Zc ?_ ?_ <;> intro h <;> (try simp [go_sem] at h) <;> try omega) | (refine Zi ?_; try simp only [AThen, ABlock]) | (refine Ze ?_; simp +decide only [AThen, ABlock, reduceIte]) | (refine Zt ?_; (try simp [go_sem]); all_goals (try simp [loR, lo]); all_goals try exact rfl) | ((first | refine Zq ?_ | refine Zr ?_ | refine Zw ?_ | refine Zx ?_); intro K hK; repeat' (first | ((first | refine Zs ?_ | refine Zl ?_ | refine Z0 ?_ | refine Zd ?_); intro HK hk; simp [go_sem]; (repeat refine ⟨by omega, ?_⟩); apply hk; clear hk HK) | ((first | refine Zg ?_ ?_ | refine Zh ?_ ?_ | refine Zp ?_ ?_ | refine Zk ?_ ?_) <;> intro hg <;> simp only [hg] <;> (try simp at hg) <;> try omega)); all_goals try ((first | refine Zn ?_ | refine Zm ?_); apply hK; clear hK K; try simp only [AThen, ABlock])) | refine Zz ?_ | refine Zb ?_)
  all_goals try exact rfl
  · (first | refine Zs ?_ | refine Z0 ?_ | refine Zd ?_); intro HK hk; simp [go_sem]; (repeat refine ⟨by omega, ?_⟩); (first | refine ACall.pur rfl (pc_40 a.B b.B) ?_ | refine ACallD.mk rfl (pc_40 a.B b.B) ?_); simp [go_sem]; (repeat refine ⟨by omega, ?_⟩); apply hk; clear hk HK; repeat' (first | ((first | refine Zs ?_ | refine Zl ?_ | refine Z0 ?_ | refine Zd ?_); intro HK hk; simp [go_sem]; (repeat refine ⟨by omega, ?_⟩); apply hk; clear hk HK) | ((first | refine Zg ?_ ?_ | refine Zh ?_ ?_ | refine Zp ?_ ?_ | refine Zk ?_ ?_) <;> intro hg <;> simp only [hg] <;> (try simp at hg) <;> try omega))
    all_goals try ((first | refine Zn ?_ | refine Zm ?_); apply hK; clear hK K; try simp only [AThen, ABlock])
    all_goals repeat' (first | (refine Zc ?_ ?_ <;> intro h <;> (try simp [go_sem] at h) <;> try omega) | (refine Zi ?_; try simp only [AThen, ABlock]) | (refine Ze ?_; simp +decide only [AThen, ABlock, reduceIte]) | (refine Zt ?_; (try simp [go_sem]); all_goals (try simp [loR, lo]); all_goals try exact rfl) | ((first | refine Zq ?_ | refine Zr ?_ | refine Zw ?_ | refine Zx ?_); intro K hK; repeat' (first | ((first | refine Zs ?_ | refine Zl ?_ | refine Z0 ?_ | refine Zd ?_); intro HK hk; simp [go_sem]; (repeat refine ⟨by omega, ?_⟩); apply hk; clear hk HK) | ((first | refine Zg ?_ ?_ | refine Zh ?_ ?_ | refine Zp ?_ ?_ | refine Zk ?_ ?_) <;> intro hg <;> simp only [hg] <;> (try simp at hg) <;> try omega)); all_goals try ((first | refine Zn ?_ | refine Zm ?_); apply hK; clear hK K; try simp only [AThen, ABlock])) | refine Zz ?_ | refine Zb ?_)
    all_goals try exact rfl
    cases a; cases b; simp_all [samePart, beq_dec]
  all_goals (cases a; cases b; simp_all [samePart, beq_dec])
theorem pc_32 (a b : Part) : PC Try.prog 32 [(true, partP a), (true, partP b)] (.one (bB (samePart a b))) := by
  refine PC.of_ACall (ACall.of_AW (fun args w => Try.call32 args w) Try.func32 rfl (by simp [Try.ntmps32]) ?_)
  simp only [Try.ntmps32, List.length_nil]
  all_goals repeat' (first | (refine Zc ?_ ?_ <;> intro h <;> (try simp [go_sem] at h) <;> try omega) | (refine Zi ?_; try simp only [AThen, ABlock]) | (refine Ze ?_; simp +decide only [AThen, ABlock, reduceIte]) | (refine Zt ?_; (try simp [go_sem]); all_goals (try simp [loR, lo]); all_goals try exact rfl) | ((first | refine Zq ?_ | refine Zr ?_ | refine Zw ?_ | refine Zx ?_); intro K hK; repeat' (first | ((first | refine Zs ?_ | refine Zl ?_ | refine Z0 ?_ | refine Zd ?_); intro HK hk; simp [go_sem]; (repeat refine ⟨by omega, ?_⟩); apply hk; clear hk HK) | ((first | refine Zg ?_ ?_ | refine Zh ?_ ?_ | refine Zp ?_ ?_ | refine Zk ?_ ?_) <;> intro hg <;> simp only [hg] <;> (try simp at hg) <;> try omega)); all_goals try ((first | refine Zn ?_ | refine Zm ?_); apply hK; clear hK K; try simp only [AThen, ABlock])) | refine Zz ?_ | refine Zb ?_)
  all_goals try exact rfl
  all_goals (cases a; cases b; simp_all [samePart, beq_dec])

theorem ac_43 (n : Int) (hn : 0 ≤ n ∧ n ≤ 1000000000) (H : List AObj) (K : AV → List AObj → Prop) (h1 : K (.c (.own H.length 0)) (H ++ [.arr 5 1 0 []])) :
    ACall Try.prog 43 [.c (.p (.sl true [])), .c (.p (.int .i64 n))] H K := by
  refine ACall.promote 5 1 (by decide) ?_
  refine ACall.of_AW (fun args w => Try.call43 args w) Try.func43 rfl (by simp [Try.ntmps43]) ?_
  simp only [Try.ntmps43, List.length_append, List.length_cons, List.length_nil, List.cons_append, List.nil_append, List.map_cons, List.map_nil, Nat.zero_add, Nat.reduceAdd, capAV]
  all_goals repeat' (first | (refine Zc ?_ ?_ <;> intro h <;> (try simp [go_sem] at h) <;> try omega) | (refine Zi ?_; try simp only [AThen, ABlock]) | (refine Ze ?_; simp +decide only [AThen, ABlock, reduceIte]) | (refine Zt ?_; (try simp [go_sem]); all_goals (try simp [loR, lo]); all_goals try exact rfl) | ((first | refine Zq ?_ | refine Zr ?_ | refine Zw ?_ | refine Zx ?_); intro K hK; repeat' (first | ((first | refine Zs ?_ | refine Zl ?_ | refine Z0 ?_ | refine Zd ?_); intro HK hk; simp [go_sem]; (repeat refine ⟨by omega, ?_⟩); apply hk; clear hk HK) | ((first | refine Zg ?_ ?_ | refine Zh ?_ ?_ | refine Zp ?_ ?_ | refine Zk ?_ ?_) <;> intro hg <;> simp only [hg] <;> (try simp at hg) <;> try omega)); all_goals try ((first | refine Zn ?_ | refine Zm ?_); apply hK; clear hK K; try simp only [AThen, ABlock])) | refine Zz ?_ | refine Zb ?_)
  all_goals try exact rfl
  · have hw : IntKind.i64.wrap n = n := wrapI (by omega) (by omega)
    simp [hw] at h
    obtain ⟨k, rfl⟩ : ∃ k : Nat, n = k := ⟨n.toNat, by omega⟩
    repeat' (first | ((first | refine Zs ?_ | refine Zl ?_ | refine Z0 ?_ | refine Zd ?_); intro HK hk; simp [go_sem, hw]; (repeat refine ⟨by omega, ?_⟩); apply hk; clear hk HK) | ((first | refine Zg ?_ ?_ | refine Zh ?_ ?_ | refine Zp ?_ ?_ | refine Zk ?_ ?_) <;> intro hg <;> simp only [hg] <;> (try simp at hg) <;> try omega))
    all_goals try ((first | refine Zn ?_ | refine Zm ?_); apply hK; clear hK K; try simp only [AThen, ABlock])
    all_goals repeat' (first | (refine Zc ?_ ?_ <;> intro h <;> (try simp [go_sem, hw] at h) <;> try omega) | (refine Zi ?_; try simp only [AThen, ABlock]) | (refine Ze ?_; simp +decide only [AThen, ABlock, reduceIte]) | (refine Zt ?_; (try simp [go_sem, hw]); all_goals (try simp [loR, lo]); all_goals try exact rfl) | ((first | refine Zq ?_ | refine Zr ?_ | refine Zw ?_ | refine Zx ?_); intro K hK; repeat' (first | ((first | refine Zs ?_ | refine Zl ?_ | refine Z0 ?_ | refine Zd ?_); intro HK hk; simp [go_sem, hw]; (repeat refine ⟨by omega, ?_⟩); apply hk; clear hk HK) | ((first | refine Zg ?_ ?_ | refine Zh ?_ ?_ | refine Zp ?_ ?_ | refine Zk ?_ ?_) <;> intro hg <;> simp only [hg] <;> (try simp at hg) <;> try omega)); all_goals try ((first | refine Zn ?_ | refine Zm ?_); apply hK; clear hK K; try simp only [AThen, ABlock])) | refine Zz ?_ | refine Zb ?_)
    all_goals try exact rfl
    exact h1
  · exact .inl h1

def catN (ll : List (List UInt8)) (k : Nat) : List UInt8 := (ll.take k).flatten
theorem catN_zero (ll : List (List UInt8)) : catN ll 0 = [] := rfl
theorem catN_succ (ll : List (List UInt8)) (k : Nat) (x : List UInt8) (hx : ll[k]? = some x) : catN ll (k + 1) = catN ll k ++ x := by
  unfold catN; rw [List.take_add_one, hx]; simp
theorem catN_le (ll : List (List UInt8)) (k : Nat) : (catN ll k).length ≤ (catN ll ll.length).length := by
  have h : ll.flatten = (ll.take k).flatten ++ (ll.drop k).flatten := by rw [← List.flatten_append, List.take_append_drop]
  unfold catN
  rw [List.take_length, h, List.length_append]; omega
theorem pc_41 (ll : List (List UInt8)) (hl : (catN ll ll.length).length ≤ 1000000000) : PC Try.prog 41 [(false, [rowP ll])] (.one (false, [bsP (catN ll ll.length)])) := by
  refine PC.of_loose (ACall.of_AW (fun args w => Try.call41 args w) Try.func41 rfl (by simp [Try.ntmps41]) ?_)
  simp only [Try.ntmps41, List.length_nil]
  all_goals repeat' (first | (refine Zc ?_ ?_ <;> intro h <;> (try simp [go_sem] at h) <;> try omega) | (refine Zi ?_; try simp only [AThen, ABlock]) | (refine Ze ?_; simp +decide only [AThen, ABlock, reduceIte]) | (refine Zt ?_; (try simp [go_sem]); all_goals (try simp [loR, lo]); all_goals try exact rfl) | ((first | refine Zq ?_ | refine Zr ?_ | refine Zw ?_ | refine Zx ?_); intro K hK; repeat' (first | ((first | refine Zs ?_ | refine Zl ?_ | refine Z0 ?_ | refine Zd ?_); intro HK hk; simp [go_sem]; (repeat refine ⟨by omega, ?_⟩); apply hk; clear hk HK) | ((first | refine Zg ?_ ?_ | refine Zh ?_ ?_ | refine Zp ?_ ?_ | refine Zk ?_ ?_) <;> intro hg <;> simp only [hg] <;> (try simp at hg) <;> try omega)); all_goals try ((first | refine Zn ?_ | refine Zm ?_); apply hK; clear hK K; try simp only [AThen, ABlock])) | refine Zz ?_ | refine Zb ?_)
  all_goals try exact rfl
  refine AW.len 9 rfl fun hl9 => ?_; simp only [List.length_map] at hl9
  refine AW.upto ll.length (fun _ => True) (fun k => [(11, .c (.p (.int .i64 k))), (10, .c (.p (.int .i64 ll.length))), (9, .c (.p (rowP ll))), (3, .c (.p (.int .i64 (catN ll k).length))), (0, .c (.p (rowP ll)))]) (fun _ => []) trivial ?_ fun k hk _ => ?_
  · refine Sub.of 0 (by simp) (by first | (simp [catN_zero]; done) | (simp [go_sem, catN_zero]; done)) (by simp [go_sem]) ?_ (by simp [go_sem])
    simp [go_sem, catN_zero]
  · all_goals repeat' (first | (refine Zc ?_ ?_ <;> intro h <;> (try simp [go_sem] at h) <;> try omega) | (refine Zi ?_; try simp only [AThen, ABlock]) | (refine Ze ?_; simp +decide only [AThen, ABlock, reduceIte]) | (refine Zt ?_; (try simp [go_sem]); all_goals (try simp [loR, lo]); all_goals try exact rfl) | ((first | refine Zq ?_ | refine Zr ?_ | refine Zw ?_ | refine Zx ?_); intro K hK; repeat' (first | ((first | refine Zs ?_ | refine Zl ?_ | refine Z0 ?_ | refine Zd ?_); intro HK hk; simp [go_sem]; (repeat refine ⟨by omega, ?_⟩); apply hk; clear hk HK) | ((first | refine Zg ?_ ?_ | refine Zh ?_ ?_ | refine Zp ?_ ?_ | refine Zk ?_ ?_) <;> intro hg <;> simp only [hg] <;> (try simp at hg) <;> try omega)); all_goals try ((first | refine Zn ?_ | refine Zm ?_); apply hK; clear hK K; try simp only [AThen, ABlock])) | refine Zz ?_ | refine Zb ?_)
    all_goals try exact rfl
    · obtain ⟨x, hx⟩ : ∃ x, ll[k]? = some x := ⟨_, List.getElem?_eq_getElem h⟩
      have hf := catN_succ ll k x hx
      have hle := catN_le ll (k + 1)
      rw [hf, List.length_append] at hle
      have hw : IntKind.i64.wrap ((catN ll k).length + x.length : Int) = (catN ll k).length + x.length := wrapI (by omega) (by omega)
      have hw2 := wrapS (show (k : Int) < 9223372036854775807 by omega)
      repeat' (first | ((first | refine Zs ?_ | refine Zl ?_ | refine Z0 ?_ | refine Zd ?_); intro HK hk; simp [go_sem, hx]; (repeat refine ⟨by omega, ?_⟩); apply hk; clear hk HK) | ((first | refine Zg ?_ ?_ | refine Zh ?_ ?_ | refine Zp ?_ ?_ | refine Zk ?_ ?_) <;> intro hg <;> simp only [hg] <;> (try simp at hg) <;> try omega))
      all_goals try ((first | refine Zn ?_ | refine Zm ?_); apply hK; clear hK K; try simp only [AThen, ABlock])
      all_goals repeat' (first | (refine Zc ?_ ?_ <;> intro h <;> (try simp [go_sem, hw, hw2] at h) <;> try omega) | (refine Zi ?_; try simp only [AThen, ABlock]) | (refine Ze ?_; simp +decide only [AThen, ABlock, reduceIte]) | (refine Zt ?_; (try simp [go_sem, hw, hw2]); all_goals (try simp [loR, lo]); all_goals try exact rfl) | ((first | refine Zq ?_ | refine Zr ?_ | refine Zw ?_ | refine Zx ?_); intro K hK; repeat' (first | ((first | refine Zs ?_ | refine Zl ?_ | refine Z0 ?_ | refine Zd ?_); intro HK hk; simp [go_sem, hw, hw2]; (repeat refine ⟨by omega, ?_⟩); apply hk; clear hk HK) | ((first | refine Zg ?_ ?_ | refine Zh ?_ ?_ | refine Zp ?_ ?_ | refine Zk ?_ ?_) <;> intro hg <;> simp only [hg] <;> (try simp at hg) <;> try omega)); all_goals try ((first | refine Zn ?_ | refine Zm ?_); apply hK; clear hK K; try simp only [AThen, ABlock])) | refine Zz ?_ | refine Zb ?_)
      all_goals try exact rfl
      refine ⟨by omega, trivial, ?_⟩
      refine Sub.of 0 (by simp) (by first | (simp [hf]; done) | (simp [go_sem, hf]; done)) (by simp [go_sem]) ?_ (by simp [go_sem])
      simp [go_sem, hf]
    · have hle := catN_le ll k
      (first | refine Zs ?_ | refine Zl ?_ | refine Z0 ?_ | refine Zd ?_); intro HK hk; simp [go_sem]
      refine ac_43 _ (by omega) _ _ ?_
      (repeat refine ⟨by omega, ?_⟩); apply hk; clear hk HK; repeat' (first | ((first | refine Zs ?_ | refine Zl ?_ | refine Z0 ?_ | refine Zd ?_); intro HK hk; simp [go_sem]; (repeat refine ⟨by omega, ?_⟩); apply hk; clear hk HK) | ((first | refine Zg ?_ ?_ | refine Zh ?_ ?_ | refine Zp ?_ ?_ | refine Zk ?_ ?_) <;> intro hg <;> simp only [hg] <;> (try simp at hg) <;> try omega))
      all_goals try ((first | refine Zn ?_ | refine Zm ?_); apply hK; clear hK K; try simp only [AThen, ABlock])
      refine AW.seq ?_
      all_goals repeat' (first | (refine Zc ?_ ?_ <;> intro h <;> (try simp [go_sem] at h) <;> try omega) | (refine Zi ?_; try simp only [AThen, ABlock]) | (refine Ze ?_; simp +decide only [AThen, ABlock, reduceIte]) | (refine Zt ?_; (try simp [go_sem]); all_goals (try simp [loR, lo]); all_goals try exact rfl) | ((first | refine Zq ?_ | refine Zr ?_ | refine Zw ?_ | refine Zx ?_); intro K hK; repeat' (first | ((first | refine Zs ?_ | refine Zl ?_ | refine Z0 ?_ | refine Zd ?_); intro HK hk; simp [go_sem]; (repeat refine ⟨by omega, ?_⟩); apply hk; clear hk HK) | ((first | refine Zg ?_ ?_ | refine Zh ?_ ?_ | refine Zp ?_ ?_ | refine Zk ?_ ?_) <;> intro hg <;> simp only [hg] <;> (try simp at hg) <;> try omega)); all_goals try ((first | refine Zn ?_ | refine Zm ?_); apply hK; clear hK K; try simp only [AThen, ABlock])) | refine Zz ?_ | refine Zb ?_)
      all_goals try exact rfl
      refine AW.upto ll.length (fun _ => True) (fun k => [(27, .c (.p (.int .i64 k))), (26, .c (.p (.int .i64 ll.length))), (25, .c (.p (rowP ll))), (6, .c (.own 0 (catN ll k).length))]) (fun k => [.arr 5 1 0 ((catN ll k).map encB)]) trivial ?_ fun k hk _ => ?_
      · refine Sub.of 1 (by simp) (by first | (simp [catN_zero]; done) | (simp [go_sem, catN_zero]; done)) (by simp [go_sem]) ?_ (by simp [go_sem])
        simp [go_sem, catN_zero]
      · all_goals repeat' (first | (refine Zc ?_ ?_ <;> intro h <;> (try simp [go_sem] at h) <;> try omega) | (refine Zi ?_; try simp only [AThen, ABlock]) | (refine Ze ?_; simp +decide only [AThen, ABlock, reduceIte]) | (refine Zt ?_; (try simp [go_sem]); all_goals (try simp [loR, lo]); all_goals try exact rfl) | ((first | refine Zq ?_ | refine Zr ?_ | refine Zw ?_ | refine Zx ?_); intro K hK; repeat' (first | ((first | refine Zs ?_ | refine Zl ?_ | refine Z0 ?_ | refine Zd ?_); intro HK hk; simp [go_sem]; (repeat refine ⟨by omega, ?_⟩); apply hk; clear hk HK) | ((first | refine Zg ?_ ?_ | refine Zh ?_ ?_ | refine Zp ?_ ?_ | refine Zk ?_ ?_) <;> intro hg <;> simp only [hg] <;> (try simp at hg) <;> try omega)); all_goals try ((first | refine Zn ?_ | refine Zm ?_); apply hK; clear hK K; try simp only [AThen, ABlock])) | refine Zz ?_ | refine Zb ?_)
        all_goals try exact rfl
        · obtain ⟨x, hx⟩ : ∃ x, ll[k]? = some x := ⟨_, List.getElem?_eq_getElem h⟩
          have hf := catN_succ ll k x hx
          have hle := catN_le ll (k + 1)
          rw [hf, List.length_append] at hle
          have hw2 := wrapS (show (k : Int) < 9223372036854775807 by omega)
          repeat' (first | ((first | refine Zs ?_ | refine Zl ?_ | refine Z0 ?_ | refine Zd ?_); intro HK hk; simp [go_sem, hx]; (repeat refine ⟨by omega, ?_⟩); apply hk; clear hk HK) | ((first | refine Zg ?_ ?_ | refine Zh ?_ ?_ | refine Zp ?_ ?_ | refine Zk ?_ ?_) <;> intro hg <;> simp only [hg] <;> (try simp at hg) <;> try omega))
          all_goals try ((first | refine Zn ?_ | refine Zm ?_); apply hK; clear hK K; try simp only [AThen, ABlock])
          all_goals repeat' (first | (refine Zc ?_ ?_ <;> intro h <;> (try simp [go_sem, hx, hw2] at h) <;> try omega) | (refine Zi ?_; try simp only [AThen, ABlock]) | (refine Ze ?_; simp +decide only [AThen, ABlock, reduceIte]) | (refine Zt ?_; (try simp [go_sem, hx, hw2]); all_goals (try simp [loR, lo]); all_goals try exact rfl) | ((first | refine Zq ?_ | refine Zr ?_ | refine Zw ?_ | refine Zx ?_); intro K hK; repeat' (first | ((first | refine Zs ?_ | refine Zl ?_ | refine Z0 ?_ | refine Zd ?_); intro HK hk; simp [go_sem, hx, hw2]; (repeat refine ⟨by omega, ?_⟩); apply hk; clear hk HK) | ((first | refine Zg ?_ ?_ | refine Zh ?_ ?_ | refine Zp ?_ ?_ | refine Zk ?_ ?_) <;> intro hg <;> simp only [hg] <;> (try simp at hg) <;> try omega)); all_goals try ((first | refine Zn ?_ | refine Zm ?_); apply hK; clear hK K; try simp only [AThen, ABlock])) | refine Zz ?_ | refine Zb ?_)
          all_goals try exact rfl
          refine ⟨by omega, trivial, ?_⟩
          refine Sub.of 1 (by simp) (by first | (simp [hf]; done) | (simp [go_sem, hf]; done)) (by simp [go_sem]) ?_ (by simp [go_sem])
          simp [go_sem, hf]
        · obtain rfl : k = ll.length := by omega
          all_goals repeat' (first | (refine Zc ?_ ?_ <;> intro h <;> (try simp [go_sem] at h) <;> try omega) | (refine Zi ?_; try simp only [AThen, ABlock]) | (refine Ze ?_; simp +decide only [AThen, ABlock, reduceIte]) | (refine Zt ?_; (try simp [go_sem]); all_goals (try simp [loR, lo]); all_goals try exact rfl) | ((first | refine Zq ?_ | refine Zr ?_ | refine Zw ?_ | refine Zx ?_); intro K hK; repeat' (first | ((first | refine Zs ?_ | refine Zl ?_ | refine Z0 ?_ | refine Zd ?_); intro HK hk; simp [go_sem]; (repeat refine ⟨by omega, ?_⟩); apply hk; clear hk HK) | ((first | refine Zg ?_ ?_ | refine Zh ?_ ?_ | refine Zp ?_ ?_ | refine Zk ?_ ?_) <;> intro hg <;> simp only [hg] <;> (try simp at hg) <;> try omega)); all_goals try ((first | refine Zn ?_ | refine Zm ?_); apply hK; clear hK K; try simp only [AThen, ABlock])) | refine Zz ?_ | refine Zb ?_)
          all_goals try exact rfl

def addF (p : Part) (seq index total : Int) (piece : List UInt8) : Part × List UInt8 × Bool × Int :=
  if total < 1 ∨ 32 < total ∨ index ≠ p.Got ∨ (p.Got ≠ 0 ∧ total ≠ p.Total) then (p, [], false, 2)
  else
    let s := if p.Got = 0 then seq else p.Seq
    let b := if p.Got = 0 then piece else p.B ++ piece
    let g := if p.Got = 0 then 1 else IntKind.i64.wrap (p.Got + 1)
    if g = total then (⟨0, 0, 0, []⟩, b, true, 0) else (⟨s, total, g, b⟩, [], false, 0)
abbrev addR (r : Part × List UInt8 × Bool × Int) : PR := .tup [(true, partP r.1), (false, [bsP r.2.1]), bB r.2.2.1, bI r.2.2.2]
theorem pc_25 (p : Part) (seq index total : Int) (piece : List UInt8) (h1 : p.B.length ≤ 100000) (h2 : piece.length ≤ 100000) :
    PC Try.prog 25 [(true, partP p), bI seq, bI index, bI total, (false, [bsP piece])] (addR (addF p seq index total piece)) := by
  refine PC.of_loose (ACall.of_AW (fun args w => Try.call25 args w) Try.func25 rfl (by simp [Try.ntmps25]) ?_)
  simp only [Try.ntmps25, List.length_nil]
  all_goals repeat' (first | (refine Zc ?_ ?_ <;> intro h <;> (try simp [go_sem] at h) <;> try omega) | (refine Zi ?_; try simp only [AThen, ABlock]) | (refine Ze ?_; simp +decide only [AThen, ABlock, reduceIte]) | (refine Zt ?_; (try simp [go_sem]); all_goals (try simp [loR, lo]); all_goals try exact rfl) | ((first | refine Zq ?_ | refine Zr ?_ | refine Zw ?_ | refine Zx ?_); intro K hK; repeat' (first | ((first | refine Zs ?_ | refine Zl ?_ | refine Z0 ?_ | refine Zd ?_); intro HK hk; simp [go_sem]; (repeat refine ⟨by omega, ?_⟩); apply hk; clear hk HK) | ((first | refine Zg ?_ ?_ | refine Zh ?_ ?_ | refine Zp ?_ ?_ | refine Zk ?_ ?_) <;> intro hg <;> simp only [hg] <;> (try simp at hg) <;> try omega)); all_goals try ((first | refine Zn ?_ | refine Zm ?_); apply hK; clear hK K; try simp only [AThen, ABlock])) | refine Zz ?_ | refine Zb ?_)
  all_goals try exact rfl
  · simp [addF, hg, partP]
  · simp [addF, hg, partP]
  · simp [addF, hg, partP]
  · simp [addF, hg, h, partP]
  · (first | refine Zs ?_ | refine Z0 ?_ | refine Zd ?_); intro HK hk; simp [go_sem]; (repeat refine ⟨by omega, ?_⟩); (first | refine ACall.pur rfl (pc_41 [p.B, piece] (by simp [catN]; omega)) ?_ | refine ACallD.mk rfl (pc_41 [p.B, piece] (by simp [catN]; omega)) ?_); simp [go_sem, catN]; (repeat refine ⟨by omega, ?_⟩); apply hk; clear hk HK; repeat' (first | ((first | refine Zs ?_ | refine Zl ?_ | refine Z0 ?_ | refine Zd ?_); intro HK hk; simp [go_sem, catN]; (repeat refine ⟨by omega, ?_⟩); apply hk; clear hk HK) | ((first | refine Zg ?_ ?_ | refine Zh ?_ ?_ | refine Zp ?_ ?_ | refine Zk ?_ ?_) <;> intro hg <;> simp only [hg] <;> (try simp at hg) <;> try omega))
    all_goals try ((first | refine Zn ?_ | refine Zm ?_); apply hK; clear hK K; try simp only [AThen, ABlock])
    all_goals repeat' (first | (refine Zc ?_ ?_ <;> intro h <;> (try simp [go_sem] at h) <;> try omega) | (refine Zi ?_; try simp only [AThen, ABlock]) | (refine Ze ?_; simp +decide only [AThen, ABlock, reduceIte]) | (refine Zt ?_; (try simp [go_sem]); all_goals (try simp [loR, lo]); all_goals try exact rfl) | ((first | refine AW.q false fun K hK => ?_ | refine AW.ql false fun K hK => ?_ | refine AW.w [(none, []), (none, [1]), (none, [1]), (some 1, [])] rfl (by decide +kernel) fun K hK => ?_ | refine AW.wl [(none, []), (none, [1]), (none, [1]), (some 1, [])] rfl (by decide +kernel) fun K hK => ?_); repeat' (first | ((first | refine Zs ?_ | refine Zl ?_ | refine Z0 ?_ | refine Zd ?_); intro HK hk; simp [go_sem]; (repeat refine ⟨by omega, ?_⟩); apply hk; clear hk HK) | ((first | refine Zg ?_ ?_ | refine Zh ?_ ?_ | refine Zp ?_ ?_ | refine Zk ?_ ?_) <;> intro hg <;> simp only [hg] <;> (try simp at hg) <;> try omega)); all_goals try ((first | refine Zn ?_ | refine Zm ?_); apply hK; clear hK K; try simp only [AThen, ABlock])) | refine Zz ?_ | refine Zb ?_)
    all_goals try exact rfl
    all_goals
      have hc : ¬ (total < 1 ∨ 32 < total ∨ index ≠ p.Got ∨ (p.Got ≠ 0 ∧ total ≠ p.Total)) := by omega
      simp only [addF, if_neg hc]
      simp [hg, h, partP]
      try omega
  · (first | refine Zs ?_ | refine Z0 ?_ | refine Zd ?_); intro HK hk; simp [go_sem]; (repeat refine ⟨by omega, ?_⟩); (first | refine ACall.pur rfl (pc_41 [[], piece] (by simp [catN]; omega)) ?_ | refine ACallD.mk rfl (pc_41 [[], piece] (by simp [catN]; omega)) ?_); simp [go_sem, catN]; (repeat refine ⟨by omega, ?_⟩); apply hk; clear hk HK; repeat' (first | ((first | refine Zs ?_ | refine Zl ?_ | refine Z0 ?_ | refine Zd ?_); intro HK hk; simp [go_sem, catN]; (repeat refine ⟨by omega, ?_⟩); apply hk; clear hk HK) | ((first | refine Zg ?_ ?_ | refine Zh ?_ ?_ | refine Zp ?_ ?_ | refine Zk ?_ ?_) <;> intro hg <;> simp only [hg] <;> (try simp at hg) <;> try omega))
    all_goals try ((first | refine Zn ?_ | refine Zm ?_); apply hK; clear hK K; try simp only [AThen, ABlock])
    all_goals repeat' (first | (refine Zc ?_ ?_ <;> intro h <;> (try simp [go_sem] at h) <;> try omega) | (refine Zi ?_; try simp only [AThen, ABlock]) | (refine Ze ?_; simp +decide only [AThen, ABlock, reduceIte]) | (refine Zt ?_; (try simp [go_sem]); all_goals (try simp [loR, lo]); all_goals try exact rfl) | ((first | refine AW.q false fun K hK => ?_ | refine AW.ql false fun K hK => ?_ | refine AW.w [(none, []), (none, [1]), (none, [1]), (some 1, [])] rfl (by decide +kernel) fun K hK => ?_ | refine AW.wl [(none, []), (none, [1]), (none, [1]), (some 1, [])] rfl (by decide +kernel) fun K hK => ?_); repeat' (first | ((first | refine Zs ?_ | refine Zl ?_ | refine Z0 ?_ | refine Zd ?_); intro HK hk; simp [go_sem]; (repeat refine ⟨by omega, ?_⟩); apply hk; clear hk HK) | ((first | refine Zg ?_ ?_ | refine Zh ?_ ?_ | refine Zp ?_ ?_ | refine Zk ?_ ?_) <;> intro hg <;> simp only [hg] <;> (try simp at hg) <;> try omega)); all_goals try ((first | refine Zn ?_ | refine Zm ?_); apply hK; clear hK K; try simp only [AThen, ABlock])) | refine Zz ?_ | refine Zb ?_)
    all_goals try exact rfl
    all_goals
      have hc : ¬ (total < 1 ∨ 32 < total ∨ index ≠ p.Got ∨ (p.Got ≠ 0 ∧ total ≠ p.Total)) := by omega
      simp only [addF, if_neg hc]
      simp [hg, h, partP]
      try omega
end Go.Proofs.Ytcobhlghjddphaa
