import Derived.Test.YtogappokeheilaaB5
set_option linter.unusedVariables false
set_option linter.unusedSimpArgs false
set_option maxRecDepth 100000
set_option maxHeartbeats 0
namespace Go.Proofs.Ytogappokeheilaa
open Go.Aw

theorem pc_100 (l : Lane) (e : Entry) (hl : l.L.length ≤ 1000) : PC Try.prog 100 [bL l, bE e] (.one (bL { l with L := l.L ++ [e] })) := by
  refine PC.of_loose (ACall.of_AW (fun args w => Try.call100 args w) Try.func100 rfl (by simp [Try.ntmps100]) ?_)
  simp only [Try.ntmps100, List.length_nil]
  (first | (refine AW.q false fun K hK => ?_) | (refine AW.seq ?_; refine AW.q false fun K hK => ?_) | (refine AW.seq (AW.seq ?_); refine AW.q false fun K hK => ?_) | (refine AW.block ?_; refine AW.q false fun K hK => ?_) | (refine AW.seq (AW.block ?_); refine AW.q false fun K hK => ?_) | (refine AW.ql false fun K hK => ?_)); repeat ((first | refine Zs ?_ | refine Zl ?_ | refine Z0 ?_ | refine Zd ?_); intro HK hk; simp [go_sem]; (repeat refine ⟨by omega, ?_⟩); apply hk; clear hk HK)
  try ((first | refine Zn ?_ | refine Zm ?_); apply hK; clear hK K; try simp only [AThen, ABlock])
  refine AW.weak (Sub.holes 1) ?_; simp only [List.replicate, List.cons_append, List.nil_append]
  (first | (refine AW.w [(none, [3]), (none, [3, 3]), (none, [3]), (some 3, []), (none, [3, 3]), (none, [3]), (some 3, []), (none, [3, 3]), (none, [3, 3]), (none, [3]), (some 2, [])] rfl (by decide +kernel) fun K hK => ?_) | (refine AW.seq ?_; refine AW.w [(none, [3]), (none, [3, 3]), (none, [3]), (some 3, []), (none, [3, 3]), (none, [3]), (some 3, []), (none, [3, 3]), (none, [3, 3]), (none, [3]), (some 2, [])] rfl (by decide +kernel) fun K hK => ?_) | (refine AW.seq (AW.seq ?_); refine AW.w [(none, [3]), (none, [3, 3]), (none, [3]), (some 3, []), (none, [3, 3]), (none, [3]), (some 3, []), (none, [3, 3]), (none, [3, 3]), (none, [3]), (some 2, [])] rfl (by decide +kernel) fun K hK => ?_) | (refine AW.block ?_; refine AW.w [(none, [3]), (none, [3, 3]), (none, [3]), (some 3, []), (none, [3, 3]), (none, [3]), (some 3, []), (none, [3, 3]), (none, [3, 3]), (none, [3]), (some 2, [])] rfl (by decide +kernel) fun K hK => ?_) | (refine AW.seq (AW.block ?_); refine AW.w [(none, [3]), (none, [3, 3]), (none, [3]), (some 3, []), (none, [3, 3]), (none, [3]), (some 3, []), (none, [3, 3]), (none, [3, 3]), (none, [3]), (some 2, [])] rfl (by decide +kernel) fun K hK => ?_) | (refine AW.wl [(none, [3]), (none, [3, 3]), (none, [3]), (some 3, []), (none, [3, 3]), (none, [3]), (some 3, []), (none, [3, 3]), (none, [3, 3]), (none, [3]), (some 2, [])] rfl (by decide +kernel) fun K hK => ?_)); repeat ((first | refine Zs ?_ | refine Zl ?_ | refine Z0 ?_ | refine Zd ?_); intro HK hk; simp [go_sem]; (repeat refine ⟨by omega, ?_⟩); apply hk; clear hk HK)
  try ((first | refine Zn ?_ | refine Zm ?_); apply hK; clear hK K; try simp only [AThen, ABlock])
  all_goals repeat' (first | (refine Zc ?_ ?_ <;> intro h <;> (try simp [go_sem] at h) <;> try omega) | (refine Zi ?_; try simp only [AThen, ABlock]) | (refine Ze ?_; simp +decide only [AThen, ABlock, reduceIte]) | (refine Zt ?_; (try simp [go_sem]); all_goals (try simp [loR, lo]); all_goals try exact rfl) | ((first | refine Zq ?_ | refine Zr ?_ | refine Zw ?_ | refine Zx ?_); intro K hK; repeat' (first | ((first | refine Zs ?_ | refine Zl ?_ | refine Z0 ?_ | refine Zd ?_); intro HK hk; simp [go_sem]; (repeat refine ⟨by omega, ?_⟩); apply hk; clear hk HK) | ((first | refine Zg ?_ ?_ | refine Zh ?_ ?_ | refine Zp ?_ ?_ | refine Zk ?_ ?_) <;> intro hg <;> simp only [hg] <;> (try simp at hg) <;> try omega)); all_goals try ((first | refine Zn ?_ | refine Zm ?_); apply hK; clear hK K; try simp only [AThen, ABlock])) | refine Zz ?_ | refine Zb ?_)
  all_goals try exact rfl
  simp [laneP, entP]
theorem pc_96 (l : List Int) (hl : l.length ≤ 1000) : PC Try.prog 96 [(false, [isP l])] (.one (false, [isP l])) := by
  refine PC.of_loose (ACall.of_AW (fun args w => Try.call96 args w) Try.func96 rfl (by simp [Try.ntmps96]) ?_)
  simp only [Try.ntmps96, List.length_nil]
  all_goals repeat' (first | (refine Zc ?_ ?_ <;> intro h <;> (try simp [go_sem] at h) <;> try omega) | (refine Zi ?_; try simp only [AThen, ABlock]) | (refine Ze ?_; simp +decide only [AThen, ABlock, reduceIte]) | (refine Zt ?_; (try simp [go_sem]); all_goals (try simp [loR, lo]); all_goals try exact rfl) | ((first | refine Zq ?_ | refine Zr ?_ | refine Zw ?_ | refine Zx ?_); intro K hK; repeat' (first | ((first | refine Zs ?_ | refine Zl ?_ | refine Z0 ?_ | refine Zd ?_); intro HK hk; simp [go_sem]; (repeat refine ⟨by omega, ?_⟩); apply hk; clear hk HK) | ((first | refine Zg ?_ ?_ | refine Zh ?_ ?_ | refine Zp ?_ ?_ | refine Zk ?_ ?_) <;> intro hg <;> simp only [hg] <;> (try simp at hg) <;> try omega)); all_goals try ((first | refine Zn ?_ | refine Zm ?_); apply hK; clear hK K; try simp only [AThen, ABlock])) | refine Zz ?_ | refine Zb ?_)
  all_goals try exact rfl
  (first | refine Zs ?_ | refine Zl ?_ | refine Z0 ?_ | refine Zd ?_); intro HK hk; simp [go_sem]
  refine ⟨fun hne => ?_, fun he => ⟨?_, ?_⟩⟩ <;> apply hk <;> clear hk HK
  all_goals (refine aops_n ?_; apply hK; clear hK K; try simp only [AThen, ABlock])
  all_goals repeat' (first | (refine Zc ?_ ?_ <;> intro h <;> (try simp [go_sem] at h) <;> try omega) | (refine Zi ?_; try simp only [AThen, ABlock]) | (refine Ze ?_; simp +decide only [AThen, ABlock, reduceIte]) | (refine Zt ?_; (try simp [go_sem]); all_goals (try simp [loR, lo]); all_goals try exact rfl) | ((first | refine Zq ?_ | refine Zr ?_ | refine Zw ?_ | refine Zx ?_); intro K hK; repeat' (first | ((first | refine Zs ?_ | refine Zl ?_ | refine Z0 ?_ | refine Zd ?_); intro HK hk; simp [go_sem]; (repeat refine ⟨by omega, ?_⟩); apply hk; clear hk HK) | ((first | refine Zg ?_ ?_ | refine Zh ?_ ?_ | refine Zp ?_ ?_ | refine Zk ?_ ?_) <;> intro hg <;> simp only [hg] <;> (try simp at hg) <;> try omega)); all_goals try ((first | refine Zn ?_ | refine Zm ?_); apply hK; clear hK K; try simp only [AThen, ABlock])) | refine Zz ?_ | refine Zb ?_)
  all_goals try exact rfl
  exact he
theorem pc_97 (l : List Entry) : PC Try.prog 97 [bEs l] (.one (false, [.sl true (l.map entP)])) := by
  refine PC.of_ACall (ACall.of_AW (fun args w => Try.call97 args w) Try.func97 rfl (by simp [Try.ntmps97]) ?_)
  simp only [Try.ntmps97, List.length_nil]
  refine AW.len 0 rfl fun hl => ?_; simp only [List.length_map] at hl
  have ht : List.take l.length (l.map entP) = l.map entP := List.take_of_length_le (by simp)
  all_goals repeat' (first | (refine Zc ?_ ?_ <;> intro h <;> (try simp [go_sem, ht] at h) <;> try omega) | (refine Zi ?_; try simp only [AThen, ABlock]) | (refine Ze ?_; simp +decide only [AThen, ABlock, reduceIte]) | (refine Zt ?_; (try simp [go_sem, ht]); all_goals (try simp [loR, lo]); all_goals try exact rfl) | ((first | refine Zq ?_ | refine Zr ?_ | refine Zw ?_ | refine Zx ?_); intro K hK; repeat' (first | ((first | refine Zs ?_ | refine Zl ?_ | refine Z0 ?_ | refine Zd ?_); intro HK hk; simp [go_sem, ht]; (repeat refine ⟨by omega, ?_⟩); apply hk; clear hk HK) | ((first | refine Zg ?_ ?_ | refine Zh ?_ ?_ | refine Zp ?_ ?_ | refine Zk ?_ ?_) <;> intro hg <;> simp only [hg] <;> (try simp at hg) <;> try omega)); all_goals try ((first | refine Zn ?_ | refine Zm ?_); apply hK; clear hK K; try simp only [AThen, ABlock])) | refine Zz ?_ | refine Zb ?_)
  all_goals try exact rfl
def idxF (p : Entry → Bool) (l : List Entry) : Int := match l.findIdx? p with
  | some k => (k : Int)
  | none => -1
theorem idx_hit {p : Entry → Bool} {l : List Entry} {k : Nat} {x : Entry} (h : ∀ y, y ∈ l.take k → p y = false) (hx : l[k]? = some x) (hp : p x = true) : idxF p l = k := by
  obtain ⟨hk, hx'⟩ := List.getElem?_eq_some_iff.1 hx
  have : l.findIdx? p = some k := by
    rw [List.findIdx?_eq_some_iff_getElem]
    refine ⟨hk, by rw [hx']; exact hp, fun j hj => ?_⟩
    rw [h l[j] (by rw [List.mem_take_iff_getElem]; exact ⟨j, by omega, rfl⟩)]
    decide
  unfold idxF; rw [this]
theorem idx_none {p : Entry → Bool} {l : List Entry} (h : ∀ y, y ∈ l.take l.length → p y = false) : idxF p l = -1 := by
  rw [List.take_length] at h
  unfold idxF; rw [List.findIdx?_eq_none_iff.2 h]
def seqP (seq : Int) (e : Entry) : Bool := decide (e.Seq = seq)
abbrev laneZ : List Cell := [.p (.sl true []), .p (.int .i64 0), .p (.int .i64 0), .p (.int .i64 0), .p (.sl true [])]
abbrev popH (l : Lane) (seq : Int) : List AObj := [.var ((laneP l).map .p), .var [.p (.int .i64 seq)], .var laneZ, .arr 49 5 0 (l.L.map entP)]
theorem ac_104 (l : Lane) (seq : Int) (K : AV → List AObj → Prop) (hl : l.L.length ≤ 1000)
    (h1 : K (.c (.p (.int .i64 (idxF (seqP seq) l.L)))) (popH l seq)) :
    ACall Try.prog 104 [.c (.own 3 l.L.length), .c (.clo 103 [] [(1, 0)])] (popH l seq) K := by
  refine ACall.of_AW (fun args w => Try.call104 args w) Try.func104 rfl (by simp [Try.ntmps104]) ?_
  simp only [Try.ntmps104, List.length_append, List.length_cons, List.length_nil, List.cons_append, List.nil_append, List.map_cons, List.map_nil, Nat.zero_add, Nat.reduceAdd, capAV]
  all_goals repeat' (first | (refine Zc ?_ ?_ <;> intro h <;> (try simp [go_sem] at h) <;> try omega) | (refine Zi ?_; try simp only [AThen, ABlock]) | (refine Ze ?_; simp +decide only [AThen, ABlock, reduceIte]) | (refine Zt ?_; (try simp [go_sem]); all_goals (try simp [loR, lo]); all_goals try exact rfl) | ((first | refine Zq ?_ | refine Zr ?_ | refine Zw ?_ | refine Zx ?_); intro K hK; repeat' (first | ((first | refine Zs ?_ | refine Zl ?_ | refine Z0 ?_ | refine Zd ?_); intro HK hk; simp [go_sem]; (repeat refine ⟨by omega, ?_⟩); apply hk; clear hk HK) | ((first | refine Zg ?_ ?_ | refine Zh ?_ ?_ | refine Zp ?_ ?_ | refine Zk ?_ ?_) <;> intro hg <;> simp only [hg] <;> (try simp at hg) <;> try omega)); all_goals try ((first | refine Zn ?_ | refine Zm ?_); apply hK; clear hK K; try simp only [AThen, ABlock])) | refine Zz ?_ | refine Zb ?_)
  all_goals try exact rfl
  refine AW.upto l.L.length (fun k => ∀ y, y ∈ l.L.take k → seqP seq y = false) (fun k => [(8, .c (.p (.int .i64 k))), (7, .c (.p (.int .i64 l.L.length))), (0, .c (.own 3 l.L.length)), (1, .c (.clo 103 [] [(1, 0)]))]) (fun _ => popH l seq) (by simp) ?_ fun k hk hj => ?_
  · refine Sub.of 4 (by simp) (by first | (simp; done) | (simp [go_sem]; done)) (by simp [go_sem]) ?_ (by simp [go_sem])
    simp [go_sem]
  · all_goals repeat' (first | (refine Zc ?_ ?_ <;> intro h <;> (try simp [go_sem] at h) <;> try omega) | (refine Zi ?_; try simp only [AThen, ABlock]) | (refine Ze ?_; simp +decide only [AThen, ABlock, reduceIte]) | (refine Zt ?_; (try simp [go_sem]); all_goals (try simp [loR, lo]); all_goals try exact rfl) | ((first | refine Zq ?_ | refine Zr ?_ | refine Zw ?_ | refine Zx ?_); intro K hK; repeat' (first | ((first | refine Zs ?_ | refine Zl ?_ | refine Z0 ?_ | refine Zd ?_); intro HK hk; simp [go_sem]; (repeat refine ⟨by omega, ?_⟩); apply hk; clear hk HK) | ((first | refine Zg ?_ ?_ | refine Zh ?_ ?_ | refine Zp ?_ ?_ | refine Zk ?_ ?_) <;> intro hg <;> simp only [hg] <;> (try simp at hg) <;> try omega)); all_goals try ((first | refine Zn ?_ | refine Zm ?_); apply hK; clear hK K; try simp only [AThen, ABlock])) | refine Zz ?_ | refine Zb ?_)
    all_goals try exact rfl
    · have hkl := h
      obtain ⟨x, hx⟩ : ∃ x, l.L[k]? = some x := ⟨_, List.getElem?_eq_getElem hkl⟩
      have hw := wrapS (show (k : Int) < 9223372036854775807 by omega)
      all_goals (repeat' (first | ((first | refine Zs ?_ | refine Zl ?_ | refine Z0 ?_ | refine Zd ?_); intro HK hk; simp [go_sem, hx]; (repeat refine ⟨by omega, ?_⟩); apply hk; clear hk HK) | ((first | refine Zg ?_ ?_ | refine Zh ?_ ?_ | refine Zp ?_ ?_ | refine Zk ?_ ?_) <;> intro hg <;> simp only [hg] <;> (try simp at hg) <;> try omega)))
      all_goals try ((first | refine Zn ?_ | refine Zm ?_); apply hK; clear hK K; try simp only [AThen, ABlock])
      (first | refine Zs ?_ | refine Zl ?_ | refine Z0 ?_ | refine Zd ?_); intro HK hk; simp [go_sem, hx]
      refine ACall.of_AW (fun args w => Try.call103 args w) Try.func103 rfl (by simp [Try.ntmps103]) ?_
      simp only [Try.ntmps103, List.length_append, List.length_cons, List.length_nil, List.cons_append, List.nil_append, List.map_cons, List.map_nil, Nat.zero_add, Nat.reduceAdd, capAV]
      all_goals repeat' (first | (refine Zc ?_ ?_ <;> intro h <;> (try simp [go_sem] at h) <;> try omega) | (refine Zi ?_; try simp only [AThen, ABlock]) | (refine Ze ?_; simp +decide only [AThen, ABlock, reduceIte]) | (refine Zt ?_; (try simp [go_sem]); all_goals (try simp [loR, lo]); all_goals try exact rfl) | ((first | refine Zq ?_ | refine Zr ?_ | refine Zw ?_ | refine Zx ?_); intro K hK; repeat' (first | ((first | refine Zs ?_ | refine Zl ?_ | refine Z0 ?_ | refine Zd ?_); intro HK hk; simp [go_sem]; (repeat refine ⟨by omega, ?_⟩); apply hk; clear hk HK) | ((first | refine Zg ?_ ?_ | refine Zh ?_ ?_ | refine Zp ?_ ?_ | refine Zk ?_ ?_) <;> intro hg <;> simp only [hg] <;> (try simp at hg) <;> try omega)); all_goals try ((first | refine Zn ?_ | refine Zm ?_); apply hK; clear hK K; try simp only [AThen, ABlock])) | refine Zz ?_ | refine Zb ?_)
      all_goals try exact rfl
      have hsq : (x.Seq == seq) = seqP seq x := rfl
      rw [hsq]
      apply hk; clear hk HK
      refine aops_n ?_; apply hK; clear hK K; try simp only [AThen, ABlock]
      refine AW.weak (sl' := [(16, .c (.p (.bool (seqP seq x)))), (5, .c (.p (.int .i64 k))), (8, .c (.p (.int .i64 k))), (7, .c (.p (.int .i64 l.L.length))), (0, .c (.own 3 l.L.length)), (1, .c (.clo 103 [] [(1, 0)]))]) (H' := popH l seq) ?_ ?_
      · refine Sub.of 4 (by simp) (by first | (simp; done) | (simp [go_sem]; done)) (by simp [go_sem]) ?_ (by simp [go_sem])
        simp [go_sem]
      cases hpx : seqP seq x with
      | true =>
        all_goals repeat' (first | (refine Zc ?_ ?_ <;> intro h <;> (try simp [go_sem, hpx] at h) <;> try omega) | (refine Zi ?_; try simp only [AThen, ABlock]) | (refine Ze ?_; simp +decide only [AThen, ABlock, reduceIte]) | (refine Zt ?_; (try simp [go_sem, hpx]); all_goals (try simp [loR, lo]); all_goals try exact rfl) | ((first | refine Zq ?_ | refine Zr ?_ | refine Zw ?_ | refine Zx ?_); intro K hK; repeat' (first | ((first | refine Zs ?_ | refine Zl ?_ | refine Z0 ?_ | refine Zd ?_); intro HK hk; simp [go_sem, hpx]; (repeat refine ⟨by omega, ?_⟩); apply hk; clear hk HK) | ((first | refine Zg ?_ ?_ | refine Zh ?_ ?_ | refine Zp ?_ ?_ | refine Zk ?_ ?_) <;> intro hg <;> simp only [hg] <;> (try simp at hg) <;> try omega)); all_goals try ((first | refine Zn ?_ | refine Zm ?_); apply hK; clear hK K; try simp only [AThen, ABlock])) | refine Zz ?_ | refine Zb ?_)
        all_goals try exact rfl
        rw [idx_hit hj hx hpx] at h1; exact h1
      | false =>
        all_goals repeat' (first | (refine Zc ?_ ?_ <;> intro h <;> (try simp [go_sem, hpx, hw] at h) <;> try omega) | (refine Zi ?_; try simp only [AThen, ABlock]) | (refine Ze ?_; simp +decide only [AThen, ABlock, reduceIte]) | (refine Zt ?_; (try simp [go_sem, hpx, hw]); all_goals (try simp [loR, lo]); all_goals try exact rfl) | ((first | refine Zq ?_ | refine Zr ?_ | refine Zw ?_ | refine Zx ?_); intro K hK; repeat' (first | ((first | refine Zs ?_ | refine Zl ?_ | refine Z0 ?_ | refine Zd ?_); intro HK hk; simp [go_sem, hpx, hw]; (repeat refine ⟨by omega, ?_⟩); apply hk; clear hk HK) | ((first | refine Zg ?_ ?_ | refine Zh ?_ ?_ | refine Zp ?_ ?_ | refine Zk ?_ ?_) <;> intro hg <;> simp only [hg] <;> (try simp at hg) <;> try omega)); all_goals try ((first | refine Zn ?_ | refine Zm ?_); apply hK; clear hK K; try simp only [AThen, ABlock])) | refine Zz ?_ | refine Zb ?_)
        all_goals try exact rfl
        refine ⟨hkl, take_all_succ hx hj hpx, ?_⟩
        refine Sub.of 4 (by simp) (by first | (simp; done) | (simp [go_sem]; done)) (by simp [go_sem]) ?_ (by simp [go_sem])
        simp [go_sem]
    · obtain rfl : k = l.L.length := by omega
      rw [idx_none hj] at h1
      exact h1
end Go.Proofs.Ytogappokeheilaa
