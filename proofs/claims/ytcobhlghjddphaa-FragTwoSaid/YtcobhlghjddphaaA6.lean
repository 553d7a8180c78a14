import Derived.Test.YtcobhlghjddphaaA5
set_option linter.unusedVariables false
set_option linter.unusedSimpArgs false
set_option maxRecDepth 100000
namespace Go.Proofs.Ytcobhlghjddphaa
open Go.Aw

/-- k pieces of m bytes each, the first ones of b. -/
def chunk (m : Nat) : Nat → List UInt8 → List (List UInt8)
  | 0, _ => []
  | k + 1, b => b.take m :: chunk m k (b.drop m)
def cutF (b : List UInt8) (m : Int) : List (List UInt8) := chunk m.toNat (manyF b.length m).toNat b
theorem chunk_succ (m : Nat) : ∀ (k : Nat) (b : List UInt8), chunk m (k + 1) b = chunk m k b ++ [(b.drop (k * m)).take m]
  | 0, b => by simp [chunk]
  | k + 1, b => by
    have h := chunk_succ m k (b.drop m)
    rw [chunk, h, chunk]
    simp only [List.cons_append, List.drop_drop]
    rw [show m + k * m = (k + 1) * m by rw [Nat.add_mul]; omega]
theorem chunk_len (m : Nat) : ∀ (k : Nat) (b : List UInt8), (chunk m k b).length = k
  | 0, b => rfl
  | k + 1, b => by simp [chunk, chunk_len m k]
/-- How many whole pieces lie behind the first k bytes but the last piece; and that piece's length. -/
def qOf (m k : Nat) : Nat := (k - 1) / m
def rOf (m k : Nat) : Nat := k - qOf m k * m
theorem q_ub {m k : Nat} (hm : 0 < m) : k - 1 < (k - 1) / m * m + m := by
  have := Nat.lt_mul_div_succ (k - 1) hm
  rw [Nat.mul_add, Nat.mul_one, Nat.mul_comm] at this; exact this
theorem qr_le {m k : Nat} (hm : 0 < m) : qOf m k * m ≤ k ∧ rOf m k ≤ m ∧ k = qOf m k * m + rOf m k := by
  have h1 : (k - 1) / m * m ≤ k - 1 := Nat.div_mul_le_self _ _
  have h2 := q_ub (k := k) hm
  unfold rOf qOf
  omega
theorem qr_full {m k : Nat} (hm : 0 < m) (h : rOf m k = m) : qOf m (k + 1) = qOf m k + 1 ∧ rOf m (k + 1) = 1 := by
  have h1 : (k - 1) / m * m ≤ k - 1 := Nat.div_mul_le_self _ _
  have h2 := q_ub (k := k) hm
  have hq : qOf m (k + 1) = qOf m k + 1 := by
    unfold rOf qOf at h
    unfold qOf
    apply Nat.div_eq_of_lt_le <;> (try simp only [Nat.add_mul, Nat.one_mul]) <;> omega
  refine ⟨hq, ?_⟩
  unfold rOf at h ⊢
  rw [hq, Nat.add_mul, Nat.one_mul]
  unfold qOf at h ⊢
  omega
theorem qr_more {m k : Nat} (hm : 0 < m) (h : rOf m k ≠ m) : qOf m (k + 1) = qOf m k ∧ rOf m (k + 1) = rOf m k + 1 := by
  have h1 : (k - 1) / m * m ≤ k - 1 := Nat.div_mul_le_self _ _
  have h2 := q_ub (k := k) hm
  have hq : qOf m (k + 1) = qOf m k := by
    unfold rOf qOf at h
    unfold qOf
    apply Nat.div_eq_of_lt_le <;> (try simp only [Nat.add_mul, Nat.one_mul]) <;> omega
  refine ⟨hq, ?_⟩
  unfold rOf at h ⊢
  rw [hq]
  unfold qOf at h ⊢
  omega
def restR (b : List UInt8) (m k : Nat) : List UInt8 := (b.drop (qOf m k * m)).take (rOf m k)
def outR (b : List UInt8) (m k : Nat) : List (List UInt8) := chunk m (qOf m k) b
theorem restR_len {b : List UInt8} {m k : Nat} (hm : 0 < m) (hk : k ≤ b.length) : (restR b m k).length = rOf m k := by
  have h := qr_le (k := k) hm
  unfold restR
  rw [List.length_take, List.length_drop]; omega
theorem outR_len (b : List UInt8) (m k : Nat) : (outR b m k).length = qOf m k := chunk_len _ _ _
theorem step_full {b : List UInt8} {m k : Nat} {x : UInt8} (hm : 0 < m) (h : rOf m k = m) (hx : b[k]? = some x) : outR b m (k + 1) = outR b m k ++ [restR b m k] ∧ restR b m (k + 1) = [x] := by
  obtain ⟨h1, h2⟩ := qr_full hm h
  have h3 := qr_le (k := k) hm
  unfold outR restR
  rw [h1, h2, h, chunk_succ]
  refine ⟨rfl, ?_⟩
  have hd : (qOf m k + 1) * m = k := by rw [Nat.add_mul, Nat.one_mul]; omega
  rw [hd]
  have hl : k < b.length := (List.getElem?_eq_some_iff.1 hx).1
  rw [List.drop_eq_getElem_cons hl]
  have := (List.getElem?_eq_some_iff.1 hx).2
  simp [this]
theorem step_more {b : List UInt8} {m k : Nat} {x : UInt8} (hm : 0 < m) (h : rOf m k ≠ m) (hx : b[k]? = some x) : outR b m (k + 1) = outR b m k ∧ restR b m (k + 1) = restR b m k ++ [x] := by
  obtain ⟨h1, h2⟩ := qr_more hm h
  have h3 := qr_le (k := k) hm
  unfold outR restR
  rw [h1, h2]
  refine ⟨rfl, ?_⟩
  rw [List.take_add_one, List.getElem?_drop, ← h3.2.2, hx]; rfl
theorem cut_end (b : List UInt8) {m : Nat} (hm : 0 < m) : outR b m b.length ++ [restR b m b.length] = cutF b m := by
  have h3 := qr_le (k := b.length) hm
  have hn : (manyF b.length m).toNat = qOf m b.length + 1 := by
    unfold manyF qOf
    rw [if_neg (by omega)]
    by_cases hz : (b.length : Int) = 0
    · have hz' : b.length = 0 := by omega
      rw [if_pos hz, hz']; simp
    · rw [if_neg hz]
      have e : ((b.length : Int) - 1) / m = ((b.length - 1) / m : Nat) := by rw [Int.natCast_ediv]; congr 1; omega
      rw [e]; generalize (b.length - 1) / m = q; omega
  unfold cutF outR restR
  rw [hn, Int.toNat_natCast, chunk_succ]
  congr 2
  have hl : (b.drop (qOf m b.length * m)).length = rOf m b.length := by rw [List.length_drop]; omega
  rw [List.take_of_length_le (by omega), List.take_of_length_le (by omega)]
theorem pc_31 (b : List UInt8) (m : Int) (hm : m ≤ 9223372036854775807) (hb : b.length ≤ 100000) : PC Try.prog 31 [(false, [bsP b]), bI m] (.one (false, [rowP (cutF b m)])) := by
  refine PC.of_loose (ACall.of_AW (fun args w => Try.call31 args w) Try.func31 rfl (by simp [Try.ntmps31]) ?_)
  simp only [Try.ntmps31, List.length_nil]
  all_goals repeat' (first | (refine Zc ?_ ?_ <;> intro h <;> (try simp [go_sem] at h) <;> try omega) | (refine Zi ?_; try simp only [AThen, ABlock]) | (refine Ze ?_; simp +decide only [AThen, ABlock, reduceIte]) | (refine Zt ?_; (try simp [go_sem]); all_goals (try simp [loR, lo]); all_goals try exact rfl) | ((first | refine Zq ?_ | refine Zr ?_ | refine Zw ?_ | refine Zx ?_); intro K hK; repeat' (first | ((first | refine Zs ?_ | refine Zl ?_ | refine Z0 ?_ | refine Zd ?_); intro HK hk; simp [go_sem]; (repeat refine ⟨by omega, ?_⟩); apply hk; clear hk HK) | ((first | refine Zg ?_ ?_ | refine Zh ?_ ?_ | refine Zp ?_ ?_ | refine Zk ?_ ?_) <;> intro hg <;> simp only [hg] <;> (try simp at hg) <;> try omega)); all_goals try ((first | refine Zn ?_ | refine Zm ?_); apply hK; clear hK K; try simp only [AThen, ABlock])) | refine Zz ?_ | refine Zb ?_)
  all_goals try exact rfl
  · have : cutF b m = [] := by
      unfold cutF manyF
      rw [if_pos (.inr (by omega))]; rfl
    rw [this]
  · obtain ⟨M, rfl⟩ : ∃ M : Nat, m = M := ⟨m.toNat, by omega⟩
    have hM : 0 < M := by omega
    refine AW.weak (Sub.promote 5 23 1 (by decide) rfl) (AW.weak (Sub.promote 6 5 1 (by decide) rfl) ?_)
    refine AW.upto b.length (fun _ => True) (fun k => [(7, .c (.p (.int .i64 k))), (6, .c (.own 1 (rOf M k))), (5, .c (.own 0 (qOf M k))), (0, .c (.p (bsP b))), (1, .c (.p (.int .i64 M)))])
      (fun k => [.arr 23 1 0 ((outR b M k).map bytesP), .arr 5 1 0 ((restR b M k).map encB)]) trivial ?_ fun k hk _ => ?_
    · refine Sub.of 2 (by simp) (by first | (simp [rOf, qOf, outR, restR, chunk]; done) | (simp [go_sem, rOf, qOf, outR, restR, chunk]; done)) (by simp [go_sem]) ?_ (by simp [go_sem])
      simp [go_sem, rOf, qOf, outR, restR, chunk]
    · have hl1 := outR_len b M k
      have hl2 := restR_len hM hk
      have hq := qr_le (k := k) hM
      have hqk : qOf M k ≤ k := Nat.le_trans (Nat.div_le_self _ _) (by omega)
      refine AW.seq ?_
      (first | (refine AW.q false fun K hK => ?_) | (refine AW.seq ?_; refine AW.q false fun K hK => ?_) | (refine AW.seq (AW.seq ?_); refine AW.q false fun K hK => ?_) | (refine AW.block ?_; refine AW.q false fun K hK => ?_) | (refine AW.seq (AW.block ?_); refine AW.q false fun K hK => ?_) | (refine AW.ql false fun K hK => ?_)); repeat ((first | refine Zs ?_ | refine Zl ?_ | refine Z0 ?_ | refine Zd ?_); intro HK hk; simp [go_sem, hl1, hl2]; (repeat refine ⟨by omega, ?_⟩); apply hk; clear hk HK)
      try ((first | refine Zn ?_ | refine Zm ?_); apply hK; clear hK K; try simp only [AThen, ABlock])
      refine AW.cond rfl (fun h => ?_) (fun h => ?_) <;> simp [go_sem] at h
      · refine AW.skip ?_; simp only [AThen, ABlock]
        obtain ⟨x, hx⟩ : ∃ x, b[k]? = some x := ⟨_, List.getElem?_eq_getElem h⟩
        have hw2 := wrapS (show (k : Int) < 9223372036854775807 by omega)
        refine AW.seq (AW.block (AW.seq ?_))
        (first | (refine AW.q false fun K hK => ?_) | (refine AW.seq ?_; refine AW.q false fun K hK => ?_) | (refine AW.seq (AW.seq ?_); refine AW.q false fun K hK => ?_) | (refine AW.block ?_; refine AW.q false fun K hK => ?_) | (refine AW.seq (AW.block ?_); refine AW.q false fun K hK => ?_) | (refine AW.ql false fun K hK => ?_)); repeat ((first | refine Zs ?_ | refine Zl ?_ | refine Z0 ?_ | refine Zd ?_); intro HK hk; simp [go_sem, hl1, hl2]; (repeat refine ⟨by omega, ?_⟩); apply hk; clear hk HK)
        try ((first | refine Zn ?_ | refine Zm ?_); apply hK; clear hK K; try simp only [AThen, ABlock])
        refine AW.cond rfl (fun h2 => ?_) (fun h2 => ?_) <;> simp [go_sem] at h2
        · have h2' : rOf M k = M := by omega
          obtain ⟨s1, s2⟩ := step_full hM h2' hx
          obtain ⟨q1, q2⟩ := qr_full hM h2'
          (first | (refine AW.q false fun K hK => ?_) | (refine AW.seq ?_; refine AW.q false fun K hK => ?_) | (refine AW.seq (AW.seq ?_); refine AW.q false fun K hK => ?_) | (refine AW.block ?_; refine AW.q false fun K hK => ?_) | (refine AW.seq (AW.block ?_); refine AW.q false fun K hK => ?_) | (refine AW.ql false fun K hK => ?_)); repeat ((first | refine Zs ?_ | refine Zl ?_ | refine Z0 ?_ | refine Zd ?_); intro HK hk; simp [go_sem, hl1, hl2]; (repeat refine ⟨by omega, ?_⟩); apply hk; clear hk HK)
          try ((first | refine Zn ?_ | refine Zm ?_); apply hK; clear hK K; try simp only [AThen, ABlock])
          refine AW.weak (Sub.drop 1 (sl' := [(7, .c (.p (.int .i64 k))), (5, .c (.own 0 (qOf M k + 1))), (0, .c (.p (bsP b))), (1, .c (.p (.int .i64 M)))]) (by simp) rfl (by simp [go_sem]) (by simp [go_sem]) (by simp [go_sem])) ?_; simp only [List.set_cons_zero, List.set_cons_succ]
          (first | (refine AW.v [(some 1, [])] (by decide +kernel) fun K hK => ?_) | (refine AW.seq ?_; refine AW.v [(some 1, [])] (by decide +kernel) fun K hK => ?_) | (refine AW.seq (AW.seq ?_); refine AW.v [(some 1, [])] (by decide +kernel) fun K hK => ?_) | (refine AW.block ?_; refine AW.v [(some 1, [])] (by decide +kernel) fun K hK => ?_) | (refine AW.seq (AW.block ?_); refine AW.v [(some 1, [])] (by decide +kernel) fun K hK => ?_) | (refine AW.vl [(some 1, [])] (by decide +kernel) fun K hK => ?_)); repeat ((first | refine Zs ?_ | refine Zl ?_ | refine Z0 ?_ | refine Zd ?_); intro HK hk; simp [go_sem]; (repeat refine ⟨by omega, ?_⟩); apply hk; clear hk HK)
          try ((first | refine Zn ?_ | refine Zm ?_); apply hK; clear hK K; try simp only [AThen, ABlock])
          all_goals repeat' (first | (refine Zc ?_ ?_ <;> intro h <;> (try simp [go_sem, hl1, hl2, hx, hw2] at h) <;> try omega) | (refine Zi ?_; try simp only [AThen, ABlock]) | (refine Ze ?_; simp +decide only [AThen, ABlock, reduceIte]) | (refine Zt ?_; (try simp [go_sem, hl1, hl2, hx, hw2]); all_goals (try simp [loR, lo]); all_goals try exact rfl) | ((first | refine Zq ?_ | refine Zr ?_ | refine Zw ?_ | refine Zx ?_); intro K hK; repeat' (first | ((first | refine Zs ?_ | refine Zl ?_ | refine Z0 ?_ | refine Zd ?_); intro HK hk; simp [go_sem, hl1, hl2, hx, hw2]; (repeat refine ⟨by omega, ?_⟩); apply hk; clear hk HK) | ((first | refine Zg ?_ ?_ | refine Zh ?_ ?_ | refine Zp ?_ ?_ | refine Zk ?_ ?_) <;> intro hg <;> simp only [hg] <;> (try simp at hg) <;> try omega)); all_goals try ((first | refine Zn ?_ | refine Zm ?_); apply hK; clear hK K; try simp only [AThen, ABlock])) | refine Zz ?_ | refine Zb ?_)
          all_goals try exact rfl
          refine ⟨h, trivial, ?_⟩
          refine Sub.of 2 (by simp) (by first | (simp [s1, s2, q1, q2]; done) | (simp [go_sem, s1, s2, q1, q2]; done)) (by simp [go_sem]) ?_ (by simp [go_sem])
          simp [go_sem, s1, s2, q1, q2]
        · have h2' : rOf M k ≠ M := by omega
          obtain ⟨s1, s2⟩ := step_more hM h2' hx
          obtain ⟨q1, q2⟩ := qr_more hM h2'
          all_goals repeat' (first | (refine Zc ?_ ?_ <;> intro h <;> (try simp [go_sem, hl1, hl2, hx, hw2] at h) <;> try omega) | (refine Zi ?_; try simp only [AThen, ABlock]) | (refine Ze ?_; simp +decide only [AThen, ABlock, reduceIte]) | (refine Zt ?_; (try simp [go_sem, hl1, hl2, hx, hw2]); all_goals (try simp [loR, lo]); all_goals try exact rfl) | ((first | refine Zq ?_ | refine Zr ?_ | refine Zw ?_ | refine Zx ?_); intro K hK; repeat' (first | ((first | refine Zs ?_ | refine Zl ?_ | refine Z0 ?_ | refine Zd ?_); intro HK hk; simp [go_sem, hl1, hl2, hx, hw2]; (repeat refine ⟨by omega, ?_⟩); apply hk; clear hk HK) | ((first | refine Zg ?_ ?_ | refine Zh ?_ ?_ | refine Zp ?_ ?_ | refine Zk ?_ ?_) <;> intro hg <;> simp only [hg] <;> (try simp at hg) <;> try omega)); all_goals try ((first | refine Zn ?_ | refine Zm ?_); apply hK; clear hK K; try simp only [AThen, ABlock])) | refine Zz ?_ | refine Zb ?_)
          all_goals try exact rfl
          refine ⟨h, trivial, ?_⟩
          refine Sub.of 2 (by simp) (by first | (simp [s1, s2, q1, q2]; done) | (simp [go_sem, s1, s2, q1, q2]; done)) (by simp [go_sem]) ?_ (by simp [go_sem])
          simp [go_sem, s1, s2, q1, q2]
      · obtain rfl : k = b.length := by omega
        have he := cut_end b hM
        all_goals repeat' (first | (refine Zc ?_ ?_ <;> intro h <;> (try simp [go_sem, hl1, hl2] at h) <;> try omega) | (refine Zi ?_; try simp only [AThen, ABlock]) | (refine Ze ?_; simp +decide only [AThen, ABlock, reduceIte]) | (refine Zt ?_; (try simp [go_sem, hl1, hl2]); all_goals (try simp [loR, lo]); all_goals try exact rfl) | ((first | refine Zq ?_ | refine Zr ?_ | refine Zw ?_ | refine Zx ?_); intro K hK; repeat' (first | ((first | refine Zs ?_ | refine Zl ?_ | refine Z0 ?_ | refine Zd ?_); intro HK hk; simp [go_sem, hl1, hl2]; (repeat refine ⟨by omega, ?_⟩); apply hk; clear hk HK) | ((first | refine Zg ?_ ?_ | refine Zh ?_ ?_ | refine Zp ?_ ?_ | refine Zk ?_ ?_) <;> intro hg <;> simp only [hg] <;> (try simp at hg) <;> try omega)); all_goals try ((first | refine Zn ?_ | refine Zm ?_); apply hK; clear hK K; try simp only [AThen, ABlock])) | refine Zz ?_ | refine Zb ?_)
        all_goals try exact rfl
        rw [← he]; simp [bytesP]

theorem many_nat (b : List UInt8) (m : Int) : ∃ N : Nat, manyF b.length m = (N : Int) ∧ N ≤ b.length + 1 ∧ (0 < N → 1 ≤ m) := by
  unfold manyF
  by_cases h : (b.length : Int) < 0 ∨ m < 1
  · rw [if_pos h]; exact ⟨0, rfl, by omega, by omega⟩
  · rw [if_neg h]
    by_cases hz : (b.length : Int) = 0
    · rw [if_pos hz]; exact ⟨1, rfl, by omega, by omega⟩
    · rw [if_neg hz]
      have h1 : 0 ≤ ((b.length : Int) - 1) / m := Int.ediv_nonneg (by omega) (by omega)
      have h2 : ((b.length : Int) - 1) / m ≤ (b.length : Int) - 1 := Int.ediv_le_self _ (by omega)
      exact ⟨(((b.length : Int) - 1) / m + 1).toNat, by omega, by omega, by omega⟩
def dropN (b : List UInt8) (m : Int) (j : Nat) : List UInt8 := b.drop (j * m.toNat)
def pieceN (b : List UInt8) (m : Int) (j : Nat) : List UInt8 := (dropN b m j).take m.toNat
theorem drop_step (b : List UInt8) (m : Int) (j : Nat) (hm : 1 ≤ m) : ∃ n : Nat, (if m < ((dropN b m j).length : Int) then m else ((dropN b m j).length : Int)) = n ∧ n ≤ (dropN b m j).length ∧
    ((dropN b m j).map encB).take n = (pieceN b m j).map encB ∧ ((dropN b m j).map encB).drop n = (dropN b m (j + 1)).map encB := by
  unfold pieceN
  have hd : dropN b m (j + 1) = (dropN b m j).drop m.toNat := by
    unfold dropN
    rw [List.drop_drop]; congr 1; rw [Nat.add_mul]; omega
  by_cases h : m < ((dropN b m j).length : Int)
  · exact ⟨m.toNat, by rw [if_pos h]; omega, by omega, by rw [List.map_take], by rw [hd, List.map_drop]⟩
  · refine ⟨(dropN b m j).length, by rw [if_neg h], Nat.le_refl _, ?_, ?_⟩
    · rw [← List.map_take, List.take_length, List.take_of_length_le (by omega)]
    · rw [hd, ← List.map_drop, List.drop_length, List.drop_of_length_le (by omega)]
theorem chunk_step (b : List UInt8) (m : Int) (j : Nat) : chunk m.toNat (j + 1) b = chunk m.toNat j b ++ [pieceN b m j] := chunk_succ _ _ _
theorem pc_42 (H : List AObj) (b : List UInt8) (m : Int) (K : AV → List AObj → Prop) (h : K (.c (.clo 44 [] [(H.length, 0), (H.length + 1, 0)])) (H ++ [.var [.p (bsP b)], .var [.p (.int .i64 m)]])) :
    ACall Try.prog 42 [.c (.p (bsP b)), .c (.p (.int .i64 m))] H K := by
  refine ACall.of_AW (fun args w => Try.call42 args w) Try.func42 rfl (by simp [Try.ntmps42]) ?_
  simp only [Try.ntmps42, List.length_append, List.length_cons, List.length_nil, List.cons_append, List.nil_append, List.map_cons, List.map_nil, Nat.zero_add, Nat.reduceAdd, capAV]
  all_goals repeat' (first | (refine Zc ?_ ?_ <;> intro h <;> (try simp [go_sem] at h) <;> try omega) | (refine Zi ?_; try simp only [AThen, ABlock]) | (refine Ze ?_; simp +decide only [AThen, ABlock, reduceIte]) | (refine Zt ?_; (try simp [go_sem]); all_goals (try simp [loR, lo]); all_goals try exact rfl) | ((first | refine Zq ?_ | refine Zr ?_ | refine Zw ?_ | refine Zx ?_); intro K hK; repeat' (first | ((first | refine Zs ?_ | refine Zl ?_ | refine Z0 ?_ | refine Zd ?_); intro HK hk; simp [go_sem]; (repeat refine ⟨by omega, ?_⟩); apply hk; clear hk HK) | ((first | refine Zg ?_ ?_ | refine Zh ?_ ?_ | refine Zp ?_ ?_ | refine Zk ?_ ?_) <;> intro hg <;> simp only [hg] <;> (try simp at hg) <;> try omega)); all_goals try ((first | refine Zn ?_ | refine Zm ?_); apply hK; clear hK K; try simp only [AThen, ABlock])) | refine Zz ?_ | refine Zb ?_)
  all_goals try exact rfl
  exact h
theorem pc_30 (b : List UInt8) (m : Int) (hm : m ≤ 9223372036854775807) (hb : b.length ≤ 100000) : PC Try.prog 30 [(false, [bsP b]), bI m] (.one (false, [rowP (cutF b m)])) := by
  refine PC.of_loose (ACall.of_AWm (fun args w => Try.call30 args w) Try.func30 rfl (by simp [Try.ntmps30]) ?_)
  simp only [Try.ntmps30, List.length_nil]
  all_goals repeat' (first | (refine Zc ?_ ?_ <;> intro h <;> (try simp [go_sem] at h) <;> try omega) | (refine Zi ?_; try simp only [AThen, ABlock]) | (refine Ze ?_; simp +decide only [AThen, ABlock, reduceIte]) | (refine Zt ?_; (try simp [go_sem]); all_goals (try simp [loR, lo]); all_goals try exact rfl) | ((first | refine Zq ?_ | refine Zr ?_ | refine Zw ?_ | refine Zx ?_); intro K hK; repeat' (first | ((first | refine Zs ?_ | refine Zl ?_ | refine Z0 ?_ | refine Zd ?_); intro HK hk; simp [go_sem]; (repeat refine ⟨by omega, ?_⟩); apply hk; clear hk HK) | ((first | refine Zg ?_ ?_ | refine Zh ?_ ?_ | refine Zp ?_ ?_ | refine Zk ?_ ?_) <;> intro hg <;> simp only [hg] <;> (try simp at hg) <;> try omega)); all_goals try ((first | refine Zn ?_ | refine Zm ?_); apply hK; clear hK K; try simp only [AThen, ABlock])) | refine Zz ?_ | refine Zb ?_)
  all_goals try exact rfl
  (first | refine Zs ?_ | refine Z0 ?_ | refine Zd ?_); intro HK hk; simp [go_sem]; (repeat refine ⟨by omega, ?_⟩); (first | refine ACall.pur rfl (pc_36 b hb) ?_ | refine ACallD.mk rfl (pc_36 b hb) ?_); simp [go_sem]; (repeat refine ⟨by omega, ?_⟩); apply hk; clear hk HK; repeat' (first | ((first | refine Zs ?_ | refine Zl ?_ | refine Z0 ?_ | refine Zd ?_); intro HK hk; simp [go_sem]; (repeat refine ⟨by omega, ?_⟩); apply hk; clear hk HK) | ((first | refine Zg ?_ ?_ | refine Zh ?_ ?_ | refine Zp ?_ ?_ | refine Zk ?_ ?_) <;> intro hg <;> simp only [hg] <;> (try simp at hg) <;> try omega))
  all_goals try ((first | refine Zn ?_ | refine Zm ?_); apply hK; clear hK K; try simp only [AThen, ABlock])
  (first | refine Zs ?_ | refine Zl ?_ | refine Z0 ?_ | refine Zd ?_); intro HK hk; simp [go_sem]
  refine pc_42 _ b m _ ?_
  (repeat refine ⟨by omega, ?_⟩); apply hk; clear hk HK; repeat' (first | ((first | refine Zs ?_ | refine Zl ?_ | refine Z0 ?_ | refine Zd ?_); intro HK hk; simp [go_sem]; (repeat refine ⟨by omega, ?_⟩); apply hk; clear hk HK) | ((first | refine Zg ?_ ?_ | refine Zh ?_ ?_ | refine Zp ?_ ?_ | refine Zk ?_ ?_) <;> intro hg <;> simp only [hg] <;> (try simp at hg) <;> try omega))
  all_goals try ((first | refine Zn ?_ | refine Zm ?_); apply hK; clear hK K; try simp only [AThen, ABlock])
  refine AW.weak (Sub.promoteVar 0 23 1 (by decide) rfl) ?_
  simp only [List.set_cons_zero, List.cons_append, List.nil_append, List.length_cons, List.length_nil, Nat.zero_add, Nat.reduceAdd]
  all_goals repeat' (first | (refine Zc ?_ ?_ <;> intro h <;> (try simp [go_sem] at h) <;> try omega) | (refine Zi ?_; try simp only [AThen, ABlock]) | (refine Ze ?_; simp +decide only [AThen, ABlock, reduceIte]) | (refine Zt ?_; (try simp [go_sem]); all_goals (try simp [loR, lo]); all_goals try exact rfl) | ((first | refine Zq ?_ | refine Zr ?_ | refine Zw ?_ | refine Zx ?_); intro K hK; repeat' (first | ((first | refine Zs ?_ | refine Zl ?_ | refine Z0 ?_ | refine Zd ?_); intro HK hk; simp [go_sem]; (repeat refine ⟨by omega, ?_⟩); apply hk; clear hk HK) | ((first | refine Zg ?_ ?_ | refine Zh ?_ ?_ | refine Zp ?_ ?_ | refine Zk ?_ ?_) <;> intro hg <;> simp only [hg] <;> (try simp at hg) <;> try omega)); all_goals try ((first | refine Zn ?_ | refine Zm ?_); apply hK; clear hK K; try simp only [AThen, ABlock])) | refine Zz ?_ | refine Zb ?_)
  all_goals try exact rfl
  refine AW.rangeFuncL rfl rfl fun L hL => ?_
  simp only [List.set_cons_zero, List.cons_append, List.nil_append, List.length_cons, List.length_nil, Nat.zero_add, Nat.reduceAdd, List.map_cons, List.map_nil, capAV]
  refine ACall.of_AW (fun args w => Try.call44 args w) Try.func44 rfl (by simp [Try.ntmps44]) ?_
  simp only [Try.ntmps44, List.length_append, List.length_cons, List.length_nil, List.cons_append, List.nil_append, List.map_cons, List.map_nil, Nat.zero_add, Nat.reduceAdd, capAV]
  all_goals repeat' (first | (refine Zc ?_ ?_ <;> intro h <;> (try simp [go_sem] at h) <;> try omega) | (refine Zi ?_; try simp only [AThen, ABlock]) | (refine Ze ?_; simp +decide only [AThen, ABlock, reduceIte]) | (refine Zt ?_; (try simp [go_sem]); all_goals (try simp [loR, lo]); all_goals try exact rfl) | ((first | refine Zq ?_ | refine Zr ?_ | refine Zw ?_ | refine Zx ?_); intro K hK; repeat' (first | ((first | refine Zs ?_ | refine Zl ?_ | refine Z0 ?_ | refine Zd ?_); intro HK hk; simp [go_sem]; (repeat refine ⟨by omega, ?_⟩); apply hk; clear hk HK) | ((first | refine Zg ?_ ?_ | refine Zh ?_ ?_ | refine Zp ?_ ?_ | refine Zk ?_ ?_) <;> intro hg <;> simp only [hg] <;> (try simp at hg) <;> try omega)); all_goals try ((first | refine Zn ?_ | refine Zm ?_); apply hK; clear hK K; try simp only [AThen, ABlock])) | refine Zz ?_ | refine Zb ?_)
  all_goals try exact rfl
  (first | refine Zs ?_ | refine Z0 ?_ | refine Zd ?_); intro HK hk; simp [go_sem]; (repeat refine ⟨by omega, ?_⟩); (first | refine ACall.pur rfl (pc_27 b.length m (by omega)) ?_ | refine ACallD.mk rfl (pc_27 b.length m (by omega)) ?_); simp [go_sem]; (repeat refine ⟨by omega, ?_⟩); apply hk; clear hk HK; repeat' (first | ((first | refine Zs ?_ | refine Zl ?_ | refine Z0 ?_ | refine Zd ?_); intro HK hk; simp [go_sem]; (repeat refine ⟨by omega, ?_⟩); apply hk; clear hk HK) | ((first | refine Zg ?_ ?_ | refine Zh ?_ ?_ | refine Zp ?_ ?_ | refine Zk ?_ ?_) <;> intro hg <;> simp only [hg] <;> (try simp at hg) <;> try omega))
  all_goals try ((first | refine Zn ?_ | refine Zm ?_); apply hK; clear hK K; try simp only [AThen, ABlock])
  obtain ⟨N, hN, hNl, hN1⟩ := many_nat b m
  repeat' (first | ((first | refine Zs ?_ | refine Zl ?_ | refine Z0 ?_ | refine Zd ?_); intro HK hk; simp [go_sem, hN]; (repeat refine ⟨by omega, ?_⟩); apply hk; clear hk HK) | ((first | refine Zg ?_ ?_ | refine Zh ?_ ?_ | refine Zp ?_ ?_ | refine Zk ?_ ?_) <;> intro hg <;> simp only [hg] <;> (try simp at hg) <;> try omega))
  all_goals try ((first | refine Zn ?_ | refine Zm ?_); apply hK; clear hK K; try simp only [AThen, ABlock])
  refine AW.block ?_
  refine AW.upto N (fun _ => True) (fun j => [(9, .c (.p (.int .i64 j))), (8, .c (.p (.int .i64 N))), (0, .c (.yld 5)), (1, .c (.ptr 1 0)), (2, .c (.ptr 2 0))])
    (fun j => [.var [.own 3 j], .var [.p (bsP (dropN b m j))], .var [.p (.int .i64 m)], .arr 23 1 0 ((chunk m.toNat j b).map bytesP), .dfr, .loop L]) trivial ?_ fun j hj _ => ?_
  · subst hL
    refine Sub.of 6 (by simp) (by first | (simp [chunk, hN, dropN]; done) | (simp [go_sem, chunk, hN, dropN]; done)) (by simp [go_sem]) ?_ (by simp [go_sem])
    simp [go_sem, chunk, hN, dropN]
  · have hcl := chunk_len m.toNat j b
    all_goals repeat' (first | (refine Zc ?_ ?_ <;> intro h <;> (try simp [go_sem] at h) <;> try omega) | (refine Zi ?_; try simp only [AThen, ABlock]) | (refine Ze ?_; simp +decide only [AThen, ABlock, reduceIte]) | (refine Zt ?_; (try simp [go_sem]); all_goals (try simp [loR, lo]); all_goals try exact rfl) | ((first | refine Zq ?_ | refine Zr ?_ | refine Zw ?_ | refine Zx ?_); intro K hK; repeat' (first | ((first | refine Zs ?_ | refine Zl ?_ | refine Z0 ?_ | refine Zd ?_); intro HK hk; simp [go_sem]; (repeat refine ⟨by omega, ?_⟩); apply hk; clear hk HK) | ((first | refine Zg ?_ ?_ | refine Zh ?_ ?_ | refine Zp ?_ ?_ | refine Zk ?_ ?_) <;> intro hg <;> simp only [hg] <;> (try simp at hg) <;> try omega)); all_goals try ((first | refine Zn ?_ | refine Zm ?_); apply hK; clear hK K; try simp only [AThen, ABlock])) | refine Zz ?_ | refine Zb ?_)
    all_goals try exact rfl
    · obtain ⟨n, hn, hnl, hn1, hn2⟩ := drop_step b m j (hN1 (by omega))
      have hjN := h
      subst hL
      repeat' (first | ((first | refine Zs ?_ | refine Zl ?_ | refine Z0 ?_ | refine Zd ?_); intro HK hk; simp [go_sem, hn]; (repeat refine ⟨by omega, ?_⟩); apply hk; clear hk HK) | ((first | refine Zg ?_ ?_ | refine Zh ?_ ?_ | refine Zp ?_ ?_ | refine Zk ?_ ?_) <;> intro hg <;> simp only [hg] <;> (try simp at hg) <;> try omega))
      all_goals try ((first | refine Zn ?_ | refine Zm ?_); apply hK; clear hK K; try simp only [AThen, ABlock])
      (first | refine Zs ?_ | refine Zl ?_ | refine Z0 ?_ | refine Zd ?_); intro HK hk; simp [go_sem, hn, hn1]
      refine YCall.of_AW rfl rfl (by simp) (by simp) (by simp [go_sem]) ?_
      simp only [putPs, List.length_append, List.length_cons, List.length_nil, Nat.zero_add, Nat.reduceAdd]
      all_goals repeat' (first | (refine Zc ?_ ?_ <;> intro h <;> (try simp [go_sem] at h) <;> try omega) | (refine Zi ?_; try simp only [AThen, ABlock]) | (refine Ze ?_; simp +decide only [AThen, ABlock, reduceIte]) | (refine Zt ?_; (try simp [go_sem]); all_goals (try simp [loR, lo]); all_goals try exact rfl) | ((first | refine Zq ?_ | refine Zr ?_ | refine Zw ?_ | refine Zx ?_); intro K hK; repeat' (first | ((first | refine Zs ?_ | refine Zl ?_ | refine Z0 ?_ | refine Zd ?_); intro HK hk; simp [go_sem]; (repeat refine ⟨by omega, ?_⟩); apply hk; clear hk HK) | ((first | refine Zg ?_ ?_ | refine Zh ?_ ?_ | refine Zp ?_ ?_ | refine Zk ?_ ?_) <;> intro hg <;> simp only [hg] <;> (try simp at hg) <;> try omega)); all_goals try ((first | refine Zn ?_ | refine Zm ?_); apply hK; clear hK K; try simp only [AThen, ABlock])) | refine Zz ?_ | refine Zb ?_)
      all_goals try exact rfl
      refine ⟨_, rfl, rfl, ?_⟩
      simp only [List.set_cons_zero, List.set_cons_succ]
      all_goals repeat' (first | (refine Zc ?_ ?_ <;> intro h <;> (try simp [go_sem, hcl] at h) <;> try omega) | (refine Zi ?_; try simp only [AThen, ABlock]) | (refine Ze ?_; simp +decide only [AThen, ABlock, reduceIte]) | (refine Zt ?_; (try simp [go_sem, hcl]); all_goals (try simp [loR, lo]); all_goals try exact rfl) | ((first | refine Zq ?_ | refine Zr ?_ | refine Zw ?_ | refine Zx ?_); intro K hK; repeat' (first | ((first | refine Zs ?_ | refine Zl ?_ | refine Z0 ?_ | refine Zd ?_); intro HK hk; simp [go_sem, hcl]; (repeat refine ⟨by omega, ?_⟩); apply hk; clear hk HK) | ((first | refine Zg ?_ ?_ | refine Zh ?_ ?_ | refine Zp ?_ ?_ | refine Zk ?_ ?_) <;> intro hg <;> simp only [hg] <;> (try simp at hg) <;> try omega)); all_goals try ((first | refine Zn ?_ | refine Zm ?_); apply hK; clear hK K; try simp only [AThen, ABlock])) | refine Zz ?_ | refine Zb ?_)
      all_goals try exact rfl
      refine ⟨_, rfl, ?_⟩
      simp [go_sem, hn2]; (repeat refine ⟨by omega, ?_⟩); apply hk; clear hk HK; repeat' (first | ((first | refine Zs ?_ | refine Zl ?_ | refine Z0 ?_ | refine Zd ?_); intro HK hk; simp [go_sem, hn2]; (repeat refine ⟨by omega, ?_⟩); apply hk; clear hk HK) | ((first | refine Zg ?_ ?_ | refine Zh ?_ ?_ | refine Zp ?_ ?_ | refine Zk ?_ ?_) <;> intro hg <;> simp only [hg] <;> (try simp at hg) <;> try omega))
      all_goals try ((first | refine Zn ?_ | refine Zm ?_); apply hK; clear hK K; try simp only [AThen, ABlock])
      have hw2 := wrapS (show (j : Int) < 9223372036854775807 by omega)
      have hcs := chunk_step b m j
      all_goals repeat' (first | (refine Zc ?_ ?_ <;> intro h <;> (try simp [go_sem, hn2, hw2] at h) <;> try omega) | (refine Zi ?_; try simp only [AThen, ABlock]) | (refine Ze ?_; simp +decide only [AThen, ABlock, reduceIte]) | (refine Zt ?_; (try simp [go_sem, hn2, hw2]); all_goals (try simp [loR, lo]); all_goals try exact rfl) | ((first | refine Zq ?_ | refine Zr ?_ | refine Zw ?_ | refine Zx ?_); intro K hK; repeat' (first | ((first | refine Zs ?_ | refine Zl ?_ | refine Z0 ?_ | refine Zd ?_); intro HK hk; simp [go_sem, hn2, hw2]; (repeat refine ⟨by omega, ?_⟩); apply hk; clear hk HK) | ((first | refine Zg ?_ ?_ | refine Zh ?_ ?_ | refine Zp ?_ ?_ | refine Zk ?_ ?_) <;> intro hg <;> simp only [hg] <;> (try simp at hg) <;> try omega)); all_goals try ((first | refine Zn ?_ | refine Zm ?_); apply hK; clear hK K; try simp only [AThen, ABlock])) | refine Zz ?_ | refine Zb ?_)
      all_goals try exact rfl
      refine ⟨hjN, trivial, ?_⟩
      refine Sub.of 6 (by simp) (by first | (simp [hcs]; done) | (simp [go_sem, hcs]; done)) (by simp [go_sem]) ?_ (by simp [go_sem])
      simp [go_sem, hcs]
    · obtain rfl : j = N := by omega
      have hcf : chunk m.toNat j b = cutF b m := by unfold cutF; rw [hN]; rfl
      rw [hcf] at hcl
      subst hL
      simp [go_sem]
      all_goals repeat' (first | (refine Zc ?_ ?_ <;> intro h <;> (try simp [go_sem, hcf, hcl] at h) <;> try omega) | (refine Zi ?_; try simp only [AThen, ABlock]) | (refine Ze ?_; simp +decide only [AThen, ABlock, reduceIte]) | (refine Zt ?_; (try simp [go_sem, hcf, hcl]); all_goals (try simp [loR, lo]); all_goals try exact rfl) | ((first | refine Zq ?_ | refine Zr ?_ | refine Zw ?_ | refine Zx ?_); intro K hK; repeat' (first | ((first | refine Zs ?_ | refine Zl ?_ | refine Z0 ?_ | refine Zd ?_); intro HK hk; simp [go_sem, hcf, hcl]; (repeat refine ⟨by omega, ?_⟩); apply hk; clear hk HK) | ((first | refine Zg ?_ ?_ | refine Zh ?_ ?_ | refine Zp ?_ ?_ | refine Zk ?_ ?_) <;> intro hg <;> simp only [hg] <;> (try simp at hg) <;> try omega)); all_goals try ((first | refine Zn ?_ | refine Zm ?_); apply hK; clear hK K; try simp only [AThen, ABlock])) | refine Zz ?_ | refine Zb ?_)
      all_goals try exact rfl
end Go.Proofs.Ytcobhlghjddphaa
