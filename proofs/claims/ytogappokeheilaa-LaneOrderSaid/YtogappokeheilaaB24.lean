import Derived.Test.YtogappokeheilaaB21
set_option linter.unusedVariables false
set_option linter.unusedSimpArgs false
set_option maxRecDepth 100000
set_option maxHeartbeats 0
namespace Go.Proofs.Ytogappokeheilaa
open Go.Aw

/-- k pieces of m bytes each, the first ones of b. -/
def chunk (m : Nat) : Nat → List UInt8 → List (List UInt8)
  | 0, _ => []
  | k + 1, b => b.take m :: chunk m k (b.drop m)
theorem chunk_succ (m : Nat) : ∀ (k : Nat) (b : List UInt8), chunk m (k + 1) b = chunk m k b ++ [(b.drop (k * m)).take m]
  | 0, b => by simp [chunk]
  | k + 1, b => by
    have h := chunk_succ m k (b.drop m)
    rw [chunk, h, chunk]
    simp only [List.cons_append, List.drop_drop]
    rw [show m + k * m = (k + 1) * m by rw [Nat.add_mul]; omega]
theorem chunk_len (m : Nat) : ∀ (k : Nat) (b : List UInt8), (chunk m k b).length = k
  | 0, b => rfl
  | k + 1, b => by simp [chunk, chunk_len m k]
/-- How many whole pieces lie behind the first k bytes but the last piece; and that piece's length. -/
def qOf (m k : Nat) : Nat := (k - 1) / m
def rOf (m k : Nat) : Nat := k - qOf m k * m
theorem q_ub {m k : Nat} (hm : 0 < m) : k - 1 < (k - 1) / m * m + m := by
  have := Nat.lt_mul_div_succ (k - 1) hm
  rw [Nat.mul_add, Nat.mul_one, Nat.mul_comm] at this; exact this
theorem qr_le {m k : Nat} (hm : 0 < m) : qOf m k * m ≤ k ∧ rOf m k ≤ m ∧ k = qOf m k * m + rOf m k := by
  have h1 : (k - 1) / m * m ≤ k - 1 := Nat.div_mul_le_self _ _
  have h2 := q_ub (k := k) hm
  unfold rOf qOf
  omega
theorem qr_full {m k : Nat} (hm : 0 < m) (h : rOf m k = m) : qOf m (k + 1) = qOf m k + 1 ∧ rOf m (k + 1) = 1 := by
  have h1 : (k - 1) / m * m ≤ k - 1 := Nat.div_mul_le_self _ _
  have h2 := q_ub (k := k) hm
  have hq : qOf m (k + 1) = qOf m k + 1 := by
    unfold rOf qOf at h
    unfold qOf
    apply Nat.div_eq_of_lt_le <;> (try simp only [Nat.add_mul, Nat.one_mul]) <;> omega
  refine ⟨hq, ?_⟩
  unfold rOf at h ⊢
  rw [hq, Nat.add_mul, Nat.one_mul]
  unfold qOf at h ⊢
  omega
theorem qr_more {m k : Nat} (hm : 0 < m) (h : rOf m k ≠ m) : qOf m (k + 1) = qOf m k ∧ rOf m (k + 1) = rOf m k + 1 := by
  have h1 : (k - 1) / m * m ≤ k - 1 := Nat.div_mul_le_self _ _
  have h2 := q_ub (k := k) hm
  have hq : qOf m (k + 1) = qOf m k := by
    unfold rOf qOf at h
    unfold qOf
    apply Nat.div_eq_of_lt_le <;> (try simp only [Nat.add_mul, Nat.one_mul]) <;> omega
  refine ⟨hq, ?_⟩
  unfold rOf at h ⊢
  rw [hq]
  unfold qOf at h ⊢
  omega
def restR (b : List UInt8) (m k : Nat) : List UInt8 := (b.drop (qOf m k * m)).take (rOf m k)
def outR (b : List UInt8) (m k : Nat) : List (List UInt8) := chunk m (qOf m k) b
theorem restR_len {b : List UInt8} {m k : Nat} (hm : 0 < m) (hk : k ≤ b.length) : (restR b m k).length = rOf m k := by
  have h := qr_le (k := k) hm
  unfold restR
  rw [List.length_take, List.length_drop]; omega
theorem outR_len (b : List UInt8) (m k : Nat) : (outR b m k).length = qOf m k := chunk_len _ _ _
theorem step_full {b : List UInt8} {m k : Nat} {x : UInt8} (hm : 0 < m) (h : rOf m k = m) (hx : b[k]? = some x) : outR b m (k + 1) = outR b m k ++ [restR b m k] ∧ restR b m (k + 1) = [x] := by
  obtain ⟨h1, h2⟩ := qr_full hm h
  have h3 := qr_le (k := k) hm
  unfold outR restR
  rw [h1, h2, h, chunk_succ]
  refine ⟨rfl, ?_⟩
  have hd : (qOf m k + 1) * m = k := by rw [Nat.add_mul, Nat.one_mul]; omega
  rw [hd]
  have hl : k < b.length := (List.getElem?_eq_some_iff.1 hx).1
  rw [List.drop_eq_getElem_cons hl]
  have := (List.getElem?_eq_some_iff.1 hx).2
  simp [this]
theorem step_more {b : List UInt8} {m k : Nat} {x : UInt8} (hm : 0 < m) (h : rOf m k ≠ m) (hx : b[k]? = some x) : outR b m (k + 1) = outR b m k ∧ restR b m (k + 1) = restR b m k ++ [x] := by
  obtain ⟨h1, h2⟩ := qr_more hm h
  have h3 := qr_le (k := k) hm
  unfold outR restR
  rw [h1, h2]
  refine ⟨rfl, ?_⟩
  rw [List.take_add_one, List.getElem?_drop, ← h3.2.2, hx]; rfl

def cutP (b : List UInt8) (m : Nat) : List (List UInt8) := outR b m b.length ++ [restR b m b.length]
theorem cutP_len (b : List UInt8) (m : Nat) : (cutP b m).length = qOf m b.length + 1 := by unfold cutP; rw [List.length_append, outR_len]; rfl
theorem chunk_flat (m : Nat) : ∀ (k : Nat) (b : List UInt8), (chunk m k b).flatten = b.take (k * m)
  | 0, b => by simp [chunk]
  | k + 1, b => by
    rw [chunk, List.flatten_cons, chunk_flat m k (b.drop m), show (k + 1) * m = m + k * m by rw [Nat.add_mul]; omega, List.take_add]
theorem cutP_flat (b : List UInt8) {m : Nat} (hm : 0 < m) : (cutP b m).flatten = b := by
  have h3 := qr_le (k := b.length) hm
  unfold cutP outR restR
  rw [List.flatten_append, chunk_flat]
  have hl : (b.drop (qOf m b.length * m)).length = rOf m b.length := by rw [List.length_drop]; omega
  simp only [List.flatten_cons, List.flatten_nil, List.append_nil]
  rw [List.take_of_length_le (l := b.drop (qOf m b.length * m)) (by omega), List.take_append_drop]
theorem cutP_few {b : List UInt8} {m : Nat} (hm : 2 ≤ m) (hb : b.length ≤ 60) : (cutP b m).length ≤ 30 := by
  rw [cutP_len]
  unfold qOf
  have : (b.length - 1) / m ≤ (b.length - 1) / 2 := Nat.div_le_div_left hm (by omega)
  omega
theorem pc_64 (b : List UInt8) (M : Nat) (hM : 0 < M) (hm : M ≤ 100000) (hb : b.length ≤ 100000) : PC Try.prog 64 [(false, [bsP b]), bI M] (.one (false, [rowP (cutP b M)])) := by
  refine PC.of_loose (ACall.of_AW (fun args w => Try.call64 args w) Try.func64 rfl (by simp [Try.ntmps64]) ?_)
  simp only [Try.ntmps64, List.length_nil]
  all_goals repeat' (first | (refine AW.cond rfl (fun h => ?_) (fun h => ?_) <;> (try simp [go_sem] at h) <;> (try omega)) | (refine AW.skip ?_; try simp only [AThen, ABlock]) | (refine AW.exit ?_; simp +decide only [AThen, ABlock, reduceIte]) | (refine AW.ret ?_; (try simp [go_sem]); all_goals (try simp [loR, lo]); all_goals (try exact rfl)) | ((first | refine AW.q false fun K hK => ?_ | refine AW.ql false fun K hK => ?_ | refine AW.w [] rfl (by decide +kernel) fun K hK => ?_ | refine AW.wl [] rfl (by decide +kernel) fun K hK => ?_); repeat' (first | ((first | refine aops_s ?_ rfl | refine aops_l rfl ?_ | refine dOps_0 ?_ | refine dOps_s ?_); intro HK hk; simp [go_sem]; (repeat (refine ⟨by omega, ?_⟩)); apply hk; clear hk HK) | ((first | refine aops_g rfl rfl rfl (fun hg => ?_) (fun hg => ?_) | refine dOps_g rfl rfl rfl (fun hg => ?_) (fun hg => ?_) | refine aops_p rfl rfl (fun hg => ?_) (fun hg => ?_) | refine dOps_p rfl rfl (fun hg => ?_) (fun hg => ?_)) <;> simp only [hg] <;> (try simp at hg) <;> (try omega))); all_goals (try ((first | refine aops_n ?_ | refine dOps_n ?_); apply hK; clear hK K; try simp only [AThen, ABlock]))) | (refine AW.seq ?_) | (refine AW.block ?_))
  all_goals (try exact rfl)
  refine AW.weak (Sub.promote 5 33 1 (by decide) rfl) (AW.weak (Sub.promote 6 5 1 (by decide) rfl) ?_)
  refine AW.upto b.length (fun _ => True) (fun k => [(7, .c (.p (.int .i64 k))), (6, .c (.own 1 (rOf M k))), (5, .c (.own 0 (qOf M k))), (0, .c (.p (bsP b))), (1, .c (.p (.int .i64 M)))])
    (fun k => [.arr 33 1 0 ((outR b M k).map bytesP), .arr 5 1 0 ((restR b M k).map encB)]) trivial ?_ fun k hk _ => ?_
  · refine Sub.of 2 (by simp) (by first | (simp [rOf, qOf, outR, restR, chunk]; done) | (simp [go_sem, rOf, qOf, outR, restR, chunk]; done)) (by simp [go_sem]) ?_ (by simp [go_sem])
    simp [go_sem, rOf, qOf, outR, restR, chunk]
  · have hl1 := outR_len b M k
    have hl2 := restR_len hM hk
    have hq := qr_le (k := k) hM
    have hqk : qOf M k ≤ k := Nat.le_trans (Nat.div_le_self _ _) (by omega)
    refine AW.seq ?_
    (first | (refine AW.q false fun K hK => ?_) | (refine AW.seq ?_; refine AW.q false fun K hK => ?_) | (refine AW.seq (AW.seq ?_); refine AW.q false fun K hK => ?_) | (refine AW.block ?_; refine AW.q false fun K hK => ?_) | (refine AW.seq (AW.block ?_); refine AW.q false fun K hK => ?_) | (refine AW.ql false fun K hK => ?_)); repeat ((first | refine aops_s ?_ rfl | refine aops_l rfl ?_ | refine dOps_0 ?_ | refine dOps_s ?_); intro HK hk; simp [go_sem, hl1, hl2]; (repeat (refine ⟨by omega, ?_⟩)); apply hk; clear hk HK)
    try ((first | refine aops_n ?_ | refine dOps_n ?_); apply hK; clear hK K; try simp only [AThen, ABlock])
    refine AW.cond rfl (fun h => ?_) (fun h => ?_) <;> simp [go_sem] at h
    · refine AW.skip ?_; simp only [AThen, ABlock]
      obtain ⟨x, hx⟩ : ∃ x, b[k]? = some x := ⟨_, List.getElem?_eq_getElem h⟩
      have hw2 := wrapS (show (k : Int) < 9223372036854775807 by omega)
      refine AW.seq (AW.block (AW.seq ?_))
      (first | (refine AW.q false fun K hK => ?_) | (refine AW.seq ?_; refine AW.q false fun K hK => ?_) | (refine AW.seq (AW.seq ?_); refine AW.q false fun K hK => ?_) | (refine AW.block ?_; refine AW.q false fun K hK => ?_) | (refine AW.seq (AW.block ?_); refine AW.q false fun K hK => ?_) | (refine AW.ql false fun K hK => ?_)); repeat ((first | refine aops_s ?_ rfl | refine aops_l rfl ?_ | refine dOps_0 ?_ | refine dOps_s ?_); intro HK hk; simp [go_sem, hl1, hl2]; (repeat (refine ⟨by omega, ?_⟩)); apply hk; clear hk HK)
      try ((first | refine aops_n ?_ | refine dOps_n ?_); apply hK; clear hK K; try simp only [AThen, ABlock])
      refine AW.cond rfl (fun h2 => ?_) (fun h2 => ?_) <;> simp [go_sem] at h2
      · have h2' : rOf M k = M := by omega
        obtain ⟨s1, s2⟩ := step_full hM h2' hx
        obtain ⟨q1, q2⟩ := qr_full hM h2'
        (first | (refine AW.q false fun K hK => ?_) | (refine AW.seq ?_; refine AW.q false fun K hK => ?_) | (refine AW.seq (AW.seq ?_); refine AW.q false fun K hK => ?_) | (refine AW.block ?_; refine AW.q false fun K hK => ?_) | (refine AW.seq (AW.block ?_); refine AW.q false fun K hK => ?_) | (refine AW.ql false fun K hK => ?_)); repeat ((first | refine aops_s ?_ rfl | refine aops_l rfl ?_ | refine dOps_0 ?_ | refine dOps_s ?_); intro HK hk; simp [go_sem, hl1, hl2]; (repeat (refine ⟨by omega, ?_⟩)); apply hk; clear hk HK)
        try ((first | refine aops_n ?_ | refine dOps_n ?_); apply hK; clear hK K; try simp only [AThen, ABlock])
        refine AW.weak (Sub.drop 1 (sl' := [(7, .c (.p (.int .i64 k))), (5, .c (.own 0 (qOf M k + 1))), (0, .c (.p (bsP b))), (1, .c (.p (.int .i64 M)))]) (by simp) rfl (by simp [go_sem]) (by simp [go_sem]) (by simp [go_sem])) ?_; simp only [List.set_cons_zero, List.set_cons_succ]
        (first | (refine AW.v [(some 1, [])] (by decide +kernel) fun K hK => ?_) | (refine AW.seq ?_; refine AW.v [(some 1, [])] (by decide +kernel) fun K hK => ?_) | (refine AW.seq (AW.seq ?_); refine AW.v [(some 1, [])] (by decide +kernel) fun K hK => ?_) | (refine AW.block ?_; refine AW.v [(some 1, [])] (by decide +kernel) fun K hK => ?_) | (refine AW.seq (AW.block ?_); refine AW.v [(some 1, [])] (by decide +kernel) fun K hK => ?_) | (refine AW.vl [(some 1, [])] (by decide +kernel) fun K hK => ?_)); repeat ((first | refine aops_s ?_ rfl | refine aops_l rfl ?_ | refine dOps_0 ?_ | refine dOps_s ?_); intro HK hk; simp [go_sem]; (repeat (refine ⟨by omega, ?_⟩)); apply hk; clear hk HK)
        try ((first | refine aops_n ?_ | refine dOps_n ?_); apply hK; clear hK K; try simp only [AThen, ABlock])
        all_goals repeat' (first | (refine AW.cond rfl (fun h => ?_) (fun h => ?_) <;> (try simp [go_sem, hl1, hl2, hx, hw2] at h) <;> (try omega)) | (refine AW.skip ?_; try simp only [AThen, ABlock]) | (refine AW.exit ?_; simp +decide only [AThen, ABlock, reduceIte]) | (refine AW.ret ?_; (try simp [go_sem, hl1, hl2, hx, hw2]); all_goals (try simp [loR, lo]); all_goals (try exact rfl)) | ((first | refine AW.q false fun K hK => ?_ | refine AW.ql false fun K hK => ?_ | refine AW.w [] rfl (by decide +kernel) fun K hK => ?_ | refine AW.wl [] rfl (by decide +kernel) fun K hK => ?_); repeat' (first | ((first | refine aops_s ?_ rfl | refine aops_l rfl ?_ | refine dOps_0 ?_ | refine dOps_s ?_); intro HK hk; simp [go_sem, hl1, hl2, hx, hw2]; (repeat (refine ⟨by omega, ?_⟩)); apply hk; clear hk HK) | ((first | refine aops_g rfl rfl rfl (fun hg => ?_) (fun hg => ?_) | refine dOps_g rfl rfl rfl (fun hg => ?_) (fun hg => ?_) | refine aops_p rfl rfl (fun hg => ?_) (fun hg => ?_) | refine dOps_p rfl rfl (fun hg => ?_) (fun hg => ?_)) <;> simp only [hg] <;> (try simp at hg) <;> (try omega))); all_goals (try ((first | refine aops_n ?_ | refine dOps_n ?_); apply hK; clear hK K; try simp only [AThen, ABlock]))) | (refine AW.seq ?_) | (refine AW.block ?_))
        all_goals (try exact rfl)
        refine ⟨h, trivial, ?_⟩
        refine Sub.of 2 (by simp) (by first | (simp [s1, s2, q1, q2]; done) | (simp [go_sem, s1, s2, q1, q2]; done)) (by simp [go_sem]) ?_ (by simp [go_sem])
        simp [go_sem, s1, s2, q1, q2]
      · have h2' : rOf M k ≠ M := by omega
        obtain ⟨s1, s2⟩ := step_more hM h2' hx
        obtain ⟨q1, q2⟩ := qr_more hM h2'
        all_goals repeat' (first | (refine AW.cond rfl (fun h => ?_) (fun h => ?_) <;> (try simp [go_sem, hl1, hl2, hx, hw2] at h) <;> (try omega)) | (refine AW.skip ?_; try simp only [AThen, ABlock]) | (refine AW.exit ?_; simp +decide only [AThen, ABlock, reduceIte]) | (refine AW.ret ?_; (try simp [go_sem, hl1, hl2, hx, hw2]); all_goals (try simp [loR, lo]); all_goals (try exact rfl)) | ((first | refine AW.q false fun K hK => ?_ | refine AW.ql false fun K hK => ?_ | refine AW.w [] rfl (by decide +kernel) fun K hK => ?_ | refine AW.wl [] rfl (by decide +kernel) fun K hK => ?_); repeat' (first | ((first | refine aops_s ?_ rfl | refine aops_l rfl ?_ | refine dOps_0 ?_ | refine dOps_s ?_); intro HK hk; simp [go_sem, hl1, hl2, hx, hw2]; (repeat (refine ⟨by omega, ?_⟩)); apply hk; clear hk HK) | ((first | refine aops_g rfl rfl rfl (fun hg => ?_) (fun hg => ?_) | refine dOps_g rfl rfl rfl (fun hg => ?_) (fun hg => ?_) | refine aops_p rfl rfl (fun hg => ?_) (fun hg => ?_) | refine dOps_p rfl rfl (fun hg => ?_) (fun hg => ?_)) <;> simp only [hg] <;> (try simp at hg) <;> (try omega))); all_goals (try ((first | refine aops_n ?_ | refine dOps_n ?_); apply hK; clear hK K; try simp only [AThen, ABlock]))) | (refine AW.seq ?_) | (refine AW.block ?_))
        all_goals (try exact rfl)
        refine ⟨h, trivial, ?_⟩
        refine Sub.of 2 (by simp) (by first | (simp [s1, s2, q1, q2]; done) | (simp [go_sem, s1, s2, q1, q2]; done)) (by simp [go_sem]) ?_ (by simp [go_sem])
        simp [go_sem, s1, s2, q1, q2]
    · obtain rfl : k = b.length := by omega
      all_goals repeat' (first | (refine AW.cond rfl (fun h => ?_) (fun h => ?_) <;> (try simp [go_sem, hl1, hl2] at h) <;> (try omega)) | (refine AW.skip ?_; try simp only [AThen, ABlock]) | (refine AW.exit ?_; simp +decide only [AThen, ABlock, reduceIte]) | (refine AW.ret ?_; (try simp [go_sem, hl1, hl2]); all_goals (try simp [loR, lo]); all_goals (try exact rfl)) | ((first | refine AW.q false fun K hK => ?_ | refine AW.ql false fun K hK => ?_ | refine AW.w [] rfl (by decide +kernel) fun K hK => ?_ | refine AW.wl [] rfl (by decide +kernel) fun K hK => ?_); repeat' (first | ((first | refine aops_s ?_ rfl | refine aops_l rfl ?_ | refine dOps_0 ?_ | refine dOps_s ?_); intro HK hk; simp [go_sem, hl1, hl2]; (repeat (refine ⟨by omega, ?_⟩)); apply hk; clear hk HK) | ((first | refine aops_g rfl rfl rfl (fun hg => ?_) (fun hg => ?_) | refine dOps_g rfl rfl rfl (fun hg => ?_) (fun hg => ?_) | refine aops_p rfl rfl (fun hg => ?_) (fun hg => ?_) | refine dOps_p rfl rfl (fun hg => ?_) (fun hg => ?_)) <;> simp only [hg] <;> (try simp at hg) <;> (try omega))); all_goals (try ((first | refine aops_n ?_ | refine dOps_n ?_); apply hK; clear hK K; try simp only [AThen, ABlock]))) | (refine AW.seq ?_) | (refine AW.block ?_))
      all_goals (try exact rfl)
      unfold cutP; simp [bytesP]
end Go.Proofs.Ytogappokeheilaa
