import Derived.Test.YtogappokeheilaaB61
set_option linter.unusedVariables false
set_option linter.unusedSimpArgs false
set_option maxRecDepth 100000
set_option maxHeartbeats 0
namespace Go.Proofs.Ytogappokeheilaa
open Go.Aw

theorem restN_at {l : List Lane} {i k : Nat} {ln : Lane} {e : Entry} (hx : l[i]? = some ln) (he : ln.L[k]? = some e) (h1 : e.Kind = 1) : ∀ n, i < n → (restN l n)[(restN l i).length + manyK ln.L k]? = some ⟨i, e.B⟩
  | 0, h => by omega
  | n + 1, h => by
    by_cases hin : i < n
    · have ih := restN_at hx he h1 n hin
      rw [restN, List.getElem?_append_left (List.getElem?_eq_some_iff.1 ih).1]; exact ih
    · obtain rfl : i = n := by omega
      have hgd : l.getD i zeroL = ln := by rw [List.getD_eq_getElem?_getD, hx]; rfl
      rw [restN, List.getElem?_append_right (by omega), Nat.add_sub_cancel_left, hgd]
      exact filt_get (p := isMsg) (f := fun e : Entry => (⟨i, e.B⟩ : Deliv)) he (decide_eq_true h1)
theorem restN_nil (n : Nat) : ∀ m, restN (List.replicate n zeroL) m = []
  | 0 => rfl
  | m + 1 => by
    rw [restN, restN_nil n m]
    have : (List.replicate n zeroL).getD m zeroL = zeroL := by
      rw [List.getD_eq_getElem?_getD, List.getElem?_replicate]; split <;> rfl
    rw [this]; rfl
theorem pc_20 (l : List Lane) : PC Try.prog 20 [bLs l] (.one (bB true)) := by
  refine PC.of_ACall (ACall.of_AW (fun args w => Try.call20 args w) Try.func20 rfl (by simp [Try.ntmps20]) ?_)
  simp only [Try.ntmps20, List.length_nil]
  all_goals repeat' (first | (refine Zc ?_ ?_ <;> intro h <;> (try simp [go_sem] at h) <;> try omega) | (refine Zi ?_; try simp only [AThen, ABlock]) | (refine Ze ?_; simp +decide only [AThen, ABlock, reduceIte]) | (refine Zt ?_; (try simp [go_sem]); all_goals (try simp [loR, lo]); all_goals try exact rfl) | ((first | refine Zq ?_ | refine Zr ?_ | refine Zw ?_ | refine Zx ?_); intro K hK; repeat' (first | ((first | with_reducible refine Z0 ?_ | with_reducible refine Zd ?_ | refine Zs ?_ | refine Zl ?_); intro HK hk; simp [go_sem]; (repeat refine ⟨by omega, ?_⟩); apply hk; clear hk HK) | ((first | ((with_reducible refine Gd ?_); first | refine Zh ?_ ?_ | refine Zk ?_ ?_) | ((with_reducible refine Ga ?_); first | refine Zg ?_ ?_ | refine Zp ?_ ?_)) <;> intro hg <;> simp only [hg] <;> (try simp at hg) <;> try omega)); all_goals try ((first | with_reducible refine Zn ?_ | refine Zm ?_); apply hK; clear hK K; try simp only [AThen, ABlock])) | refine Zz ?_ | refine Zb ?_)
  all_goals try exact rfl
  (first | with_reducible refine Z0 ?_ | with_reducible refine Zd ?_ | refine Zs ?_); intro HK hk; simp [go_sem]; (repeat refine ⟨by omega, ?_⟩); (first | refine ACall.pur rfl (pc_66) ?_ | refine ACallD.mk rfl (pc_66) ?_); simp [go_sem]; (repeat refine ⟨by omega, ?_⟩); apply hk; clear hk HK; repeat' (first | ((first | with_reducible refine Z0 ?_ | with_reducible refine Zd ?_ | refine Zs ?_ | refine Zl ?_); intro HK hk; simp [go_sem]; (repeat refine ⟨by omega, ?_⟩); apply hk; clear hk HK) | ((first | ((with_reducible refine Gd ?_); first | refine Zh ?_ ?_ | refine Zk ?_ ?_) | ((with_reducible refine Ga ?_); first | refine Zg ?_ ?_ | refine Zp ?_ ?_)) <;> intro hg <;> simp only [hg] <;> (try simp at hg) <;> try omega))
  all_goals try ((first | with_reducible refine Zn ?_ | refine Zm ?_); apply hK; clear hK K; try simp only [AThen, ABlock])
  all_goals repeat' (first | (refine Zc ?_ ?_ <;> intro h <;> (try simp [go_sem] at h) <;> try omega) | (refine Zi ?_; try simp only [AThen, ABlock]) | (refine Ze ?_; simp +decide only [AThen, ABlock, reduceIte]) | (refine Zt ?_; (try simp [go_sem]); all_goals (try simp [loR, lo]); all_goals try exact rfl) | ((first | refine Zq ?_ | refine Zr ?_ | refine Zw ?_ | refine Zx ?_); intro K hK; repeat' (first | ((first | with_reducible refine Z0 ?_ | with_reducible refine Zd ?_ | refine Zs ?_ | refine Zl ?_); intro HK hk; simp [go_sem]; (repeat refine ⟨by omega, ?_⟩); apply hk; clear hk HK) | ((first | ((with_reducible refine Gd ?_); first | refine Zh ?_ ?_ | refine Zk ?_ ?_) | ((with_reducible refine Ga ?_); first | refine Zg ?_ ?_ | refine Zp ?_ ?_)) <;> intro hg <;> simp only [hg] <;> (try simp at hg) <;> try omega)); all_goals try ((first | with_reducible refine Zn ?_ | refine Zm ?_); apply hK; clear hK K; try simp only [AThen, ABlock])) | refine Zz ?_ | refine Zb ?_)
  all_goals try exact rfl
  (first | with_reducible refine Z0 ?_ | with_reducible refine Zd ?_ | refine Zs ?_); intro HK hk; simp [go_sem]; (repeat refine ⟨by omega, ?_⟩); (first | refine ACall.pur rfl (pc_22 ⟨0, 0⟩ l) ?_ | refine ACallD.mk rfl (pc_22 ⟨0, 0⟩ l) ?_); simp [go_sem]; (repeat refine ⟨by omega, ?_⟩); apply hk; clear hk HK; repeat' (first | ((first | with_reducible refine Z0 ?_ | with_reducible refine Zd ?_ | refine Zs ?_ | refine Zl ?_); intro HK hk; simp [go_sem]; (repeat refine ⟨by omega, ?_⟩); apply hk; clear hk HK) | ((first | ((with_reducible refine Gd ?_); first | refine Zh ?_ ?_ | refine Zk ?_ ?_) | ((with_reducible refine Ga ?_); first | refine Zg ?_ ?_ | refine Zp ?_ ?_)) <;> intro hg <;> simp only [hg] <;> (try simp at hg) <;> try omega))
  all_goals try ((first | with_reducible refine Zn ?_ | refine Zm ?_); apply hK; clear hK K; try simp only [AThen, ABlock])
  cases hm : mayT ⟨0, 0⟩ l with
  | false =>
    all_goals repeat' (first | (refine Zc ?_ ?_ <;> intro h <;> (try simp [go_sem, hm] at h) <;> try omega) | (refine Zi ?_; try simp only [AThen, ABlock]) | (refine Ze ?_; simp +decide only [AThen, ABlock, reduceIte]) | (refine Zt ?_; (try simp [go_sem, hm]); all_goals (try simp [loR, lo]); all_goals try exact rfl) | ((first | refine Zq ?_ | refine Zr ?_ | refine Zw ?_ | refine Zx ?_); intro K hK; repeat' (first | ((first | with_reducible refine Z0 ?_ | with_reducible refine Zd ?_ | refine Zs ?_ | refine Zl ?_); intro HK hk; simp [go_sem, hm]; (repeat refine ⟨by omega, ?_⟩); apply hk; clear hk HK) | ((first | ((with_reducible refine Gd ?_); first | refine Zh ?_ ?_ | refine Zk ?_ ?_) | ((with_reducible refine Ga ?_); first | refine Zg ?_ ?_ | refine Zp ?_ ?_)) <;> intro hg <;> simp only [hg] <;> (try simp at hg) <;> try omega)); all_goals try ((first | with_reducible refine Zn ?_ | refine Zm ?_); apply hK; clear hK K; try simp only [AThen, ABlock])) | refine Zz ?_ | refine Zb ?_)
    all_goals try exact rfl
  | true =>
    obtain ⟨hi0, hn2, hn64⟩ := winv_start hm
    have hQ := qinv_start hm
    have hok : ∀ x ∈ l, rightF x = true ∧ x.L.length ≤ 80 := fun x hx => ⟨(hQ.ok x hx).1, (hi0.ok x hx).2⟩
    have hok2 : ∀ x ∈ l, x.L.length ≤ 80 := fun x hx => (hok x hx).2
    have hle := restN_le hok2
    clear hi0 hQ
    obtain ⟨d, hd⟩ : ∃ d, d = restN l l.length := ⟨_, rfl⟩
    all_goals repeat' (first | (refine Zc ?_ ?_ <;> intro h <;> (try simp [go_sem, hm] at h) <;> try omega) | (refine Zi ?_; try simp only [AThen, ABlock]) | (refine Ze ?_; simp +decide only [AThen, ABlock, reduceIte]) | (refine Zt ?_; (try simp [go_sem, hm]); all_goals (try simp [loR, lo]); all_goals try exact rfl) | ((first | refine Zq ?_ | refine Zr ?_ | refine Zw ?_ | refine Zx ?_); intro K hK; repeat' (first | ((first | with_reducible refine Z0 ?_ | with_reducible refine Zd ?_ | refine Zs ?_ | refine Zl ?_); intro HK hk; simp [go_sem, hm]; (repeat refine ⟨by omega, ?_⟩); apply hk; clear hk HK) | ((first | ((with_reducible refine Gd ?_); first | refine Zh ?_ ?_ | refine Zk ?_ ?_) | ((with_reducible refine Ga ?_); first | refine Zg ?_ ?_ | refine Zp ?_ ?_)) <;> intro hg <;> simp only [hg] <;> (try simp at hg) <;> try omega)); all_goals try ((first | with_reducible refine Zn ?_ | refine Zm ?_); apply hK; clear hK K; try simp only [AThen, ABlock])) | refine Zz ?_ | refine Zb ?_)
    all_goals try exact rfl
    (first | with_reducible refine Z0 ?_ | with_reducible refine Zd ?_ | refine Zs ?_); intro HK hk; simp [go_sem]; (repeat refine ⟨by omega, ?_⟩); (first | refine ACall.pur rfl (pc_71 l hok hn64) ?_ | refine ACallD.mk rfl (pc_71 l hok hn64) ?_); simp [go_sem, ← hd]; (repeat refine ⟨by omega, ?_⟩); apply hk; clear hk HK; repeat' (first | ((first | with_reducible refine Z0 ?_ | with_reducible refine Zd ?_ | refine Zs ?_ | refine Zl ?_); intro HK hk; simp [go_sem, ← hd]; (repeat refine ⟨by omega, ?_⟩); apply hk; clear hk HK) | ((first | ((with_reducible refine Gd ?_); first | refine Zh ?_ ?_ | refine Zk ?_ ?_) | ((with_reducible refine Ga ?_); first | refine Zg ?_ ?_ | refine Zp ?_ ?_)) <;> intro hg <;> simp only [hg] <;> (try simp at hg) <;> try omega))
    all_goals try ((first | with_reducible refine Zn ?_ | refine Zm ?_); apply hK; clear hK K; try simp only [AThen, ABlock])
    all_goals repeat' (first | (refine Zc ?_ ?_ <;> intro h <;> (try simp [go_sem] at h) <;> try omega) | (refine Zi ?_; try simp only [AThen, ABlock]) | (refine Ze ?_; simp +decide only [AThen, ABlock, reduceIte]) | (refine Zt ?_; (try simp [go_sem]); all_goals (try simp [loR, lo]); all_goals try exact rfl) | ((first | refine Zq ?_ | refine Zr ?_ | refine Zw ?_ | refine Zx ?_); intro K hK; repeat' (first | ((first | with_reducible refine Z0 ?_ | with_reducible refine Zd ?_ | refine Zs ?_ | refine Zl ?_); intro HK hk; simp [go_sem]; (repeat refine ⟨by omega, ?_⟩); apply hk; clear hk HK) | ((first | ((with_reducible refine Gd ?_); first | refine Zh ?_ ?_ | refine Zk ?_ ?_) | ((with_reducible refine Ga ?_); first | refine Zg ?_ ?_ | refine Zp ?_ ?_)) <;> intro hg <;> simp only [hg] <;> (try simp at hg) <;> try omega)); all_goals try ((first | with_reducible refine Zn ?_ | refine Zm ?_); apply hK; clear hK K; try simp only [AThen, ABlock])) | refine Zz ?_ | refine Zb ?_)
    all_goals try exact rfl
    refine AW.upto l.length (fun _ => True) (fun i => [(7, .c (.p (.int .i64 i))), (6, .c (.p (.int .i64 (restN l i).length))), (5, .c (.p (dvP d))), (4, .c (.p (lnP (List.replicate l.length zeroL)))), (3, .c (.p (.bool true))), (0, .c (.p (lnP l)))]) (fun _ => []) trivial ?_ fun i hi _ => ?_
    · refine Sub.of 0 (by simp) (by first | (simp [restN]; done) | (simp [go_sem, restN]; done)) (by simp [go_sem]) ?_ (by simp [go_sem])
      simp [go_sem, restN]
    · have hwi := wrapS (show (i : Int) < 9223372036854775807 by omega)
      have hli := hle i
      by_cases hil : i < l.length
      · obtain ⟨ln, hx⟩ : ∃ ln, l[i]? = some ln := ⟨_, List.getElem?_eq_getElem hil⟩
        have hgd : l.getD i zeroL = ln := by rw [List.getD_eq_getElem?_getD, hx]; rfl
        have hl80 := hok2 ln (List.mem_of_getElem? hx)
        have hrs : (restN l (i + 1)).length = (restN l i).length + manyL ln.L := by rw [restN, hgd, List.length_append, restL_len]
        obtain ⟨W, hW⟩ : ∃ W, W = (restN l i).length := ⟨_, rfl⟩
        rw [← hW] at hli hrs
        have hat : ∀ k e, ln.L[k]? = some e → e.Kind = 1 → d[W + manyK ln.L k]? = some ⟨i, e.B⟩ := fun k e he h1 => by rw [hd, hW]; exact restN_at hx he h1 l.length hil
        all_goals repeat' (first | (refine Zc ?_ ?_ <;> intro h <;> (try simp [go_sem, ← hW] at h) <;> try omega) | (refine Zi ?_; try simp only [AThen, ABlock]) | (refine Ze ?_; simp +decide only [AThen, ABlock, reduceIte]) | (refine Zt ?_; (try simp [go_sem, ← hW]); all_goals (try simp [loR, lo]); all_goals try exact rfl) | ((first | refine Zq ?_ | refine Zr ?_ | refine Zw ?_ | refine Zx ?_); intro K hK; repeat' (first | ((first | with_reducible refine Z0 ?_ | with_reducible refine Zd ?_ | refine Zs ?_ | refine Zl ?_); intro HK hk; simp [go_sem, ← hW]; (repeat refine ⟨by omega, ?_⟩); apply hk; clear hk HK) | ((first | ((with_reducible refine Gd ?_); first | refine Zh ?_ ?_ | refine Zk ?_ ?_) | ((with_reducible refine Ga ?_); first | refine Zg ?_ ?_ | refine Zp ?_ ?_)) <;> intro hg <;> simp only [hg] <;> (try simp at hg) <;> try omega)); all_goals try ((first | with_reducible refine Zn ?_ | refine Zm ?_); apply hK; clear hK K; try simp only [AThen, ABlock])) | refine Zz ?_ | refine Zb ?_)
        all_goals try exact rfl
        refine AW.upto ln.L.length (fun _ => True) (fun k => [(8, .c (.p (.int .i64 k))), (7, .c (.p (.int .i64 i))), (6, .c (.p (.int .i64 ((W + manyK ln.L k : Nat) : Int)))), (5, .c (.p (dvP d))), (4, .c (.p (lnP (List.replicate l.length zeroL)))), (3, .c (.p (.bool true))), (0, .c (.p (lnP l)))]) (fun _ => []) trivial ?_ fun k hk _ => ?_
        · refine Sub.of 0 (by simp) (by first | (simp [manyK]; done) | (simp [go_sem, manyK]; done)) (by simp [go_sem]) ?_ (by simp [go_sem])
          simp [go_sem, manyK]
        · have hwk := wrapS (show (k : Int) < 9223372036854775807 by omega)
          have hmk : manyK ln.L k ≤ 80 := Nat.le_trans (List.length_filter_le _ _) (by rw [List.length_take]; omega)
          by_cases hkl : k < ln.L.length
          · obtain ⟨e, he⟩ : ∃ e, ln.L[k]? = some e := ⟨_, List.getElem?_eq_getElem hkl⟩
            have hs := manyK_succ he
            obtain ⟨p, hp⟩ : ∃ p, p = W + manyK ln.L k := ⟨_, rfl⟩
            have hwp := wrapS (show (p : Int) < 9223372036854775807 by omega)
            by_cases hk1 : e.Kind = 1
            · rw [if_pos hk1] at hs
              have hdp := hat k e he hk1
              rw [← hp] at hdp
              have hdp' := (List.getElem?_eq_some_iff.1 hdp).2
              have hpl := (List.getElem?_eq_some_iff.1 hdp).1
              rw [← hp]
              all_goals repeat' (first | (refine Zc ?_ ?_ <;> intro h <;> (try simp [go_sem, hx, he, hk1, hdp, hdp', hpl, hwk, hwp] at h) <;> try omega) | (refine Zi ?_; try simp only [AThen, ABlock]) | (refine Ze ?_; simp +decide only [AThen, ABlock, reduceIte]) | (refine Zt ?_; (try simp [go_sem, hx, he, hk1, hdp, hdp', hpl, hwk, hwp]); all_goals (try simp [loR, lo]); all_goals try exact rfl) | ((first | refine Zq ?_ | refine Zr ?_ | refine Zw ?_ | refine Zx ?_); intro K hK; repeat' (first | ((first | with_reducible refine Z0 ?_ | with_reducible refine Zd ?_ | refine Zs ?_ | refine Zl ?_); intro HK hk; simp [go_sem, hx, he, hk1, hdp, hdp', hpl, hwk, hwp]; (repeat refine ⟨by omega, ?_⟩); apply hk; clear hk HK) | ((first | ((with_reducible refine Gd ?_); first | refine Zh ?_ ?_ | refine Zk ?_ ?_) | ((with_reducible refine Ga ?_); first | refine Zg ?_ ?_ | refine Zp ?_ ?_)) <;> intro hg <;> simp only [hg] <;> (try simp at hg) <;> try omega)); all_goals try ((first | with_reducible refine Zn ?_ | refine Zm ?_); apply hK; clear hK K; try simp only [AThen, ABlock])) | refine Zz ?_ | refine Zb ?_)
              all_goals try exact rfl
              refine ⟨hkl, trivial, ?_⟩
              refine Sub.of 0 (by simp) (by first | (simp [hs, hp, Int.add_assoc]; done) | (simp [go_sem, hs, hp, Int.add_assoc]; done)) (by simp [go_sem]) ?_ (by simp [go_sem])
              simp [go_sem, hs, hp, Int.add_assoc]
            · rw [if_neg hk1] at hs
              all_goals repeat' (first | (refine Zc ?_ ?_ <;> intro h <;> (try simp [go_sem, hx, he, hk1, hwk] at h) <;> try omega) | (refine Zi ?_; try simp only [AThen, ABlock]) | (refine Ze ?_; simp +decide only [AThen, ABlock, reduceIte]) | (refine Zt ?_; (try simp [go_sem, hx, he, hk1, hwk]); all_goals (try simp [loR, lo]); all_goals try exact rfl) | ((first | refine Zq ?_ | refine Zr ?_ | refine Zw ?_ | refine Zx ?_); intro K hK; repeat' (first | ((first | with_reducible refine Z0 ?_ | with_reducible refine Zd ?_ | refine Zs ?_ | refine Zl ?_); intro HK hk; simp [go_sem, hx, he, hk1, hwk]; (repeat refine ⟨by omega, ?_⟩); apply hk; clear hk HK) | ((first | ((with_reducible refine Gd ?_); first | refine Zh ?_ ?_ | refine Zk ?_ ?_) | ((with_reducible refine Ga ?_); first | refine Zg ?_ ?_ | refine Zp ?_ ?_)) <;> intro hg <;> simp only [hg] <;> (try simp at hg) <;> try omega)); all_goals try ((first | with_reducible refine Zn ?_ | refine Zm ?_); apply hK; clear hK K; try simp only [AThen, ABlock])) | refine Zz ?_ | refine Zb ?_)
              all_goals try exact rfl
              refine ⟨hkl, trivial, ?_⟩
              refine Sub.of 0 (by simp) (by first | (simp [hs]; done) | (simp [go_sem, hs]; done)) (by simp [go_sem]) ?_ (by simp [go_sem])
              simp [go_sem, hs]
          · obtain rfl : k = ln.L.length := by omega
            all_goals repeat' (first | (refine Zc ?_ ?_ <;> intro h <;> (try simp [go_sem, hx, hwi] at h) <;> try omega) | (refine Zi ?_; try simp only [AThen, ABlock]) | (refine Ze ?_; simp +decide only [AThen, ABlock, reduceIte]) | (refine Zt ?_; (try simp [go_sem, hx, hwi]); all_goals (try simp [loR, lo]); all_goals try exact rfl) | ((first | refine Zq ?_ | refine Zr ?_ | refine Zw ?_ | refine Zx ?_); intro K hK; repeat' (first | ((first | with_reducible refine Z0 ?_ | with_reducible refine Zd ?_ | refine Zs ?_ | refine Zl ?_); intro HK hk; simp [go_sem, hx, hwi]; (repeat refine ⟨by omega, ?_⟩); apply hk; clear hk HK) | ((first | ((with_reducible refine Gd ?_); first | refine Zh ?_ ?_ | refine Zk ?_ ?_) | ((with_reducible refine Ga ?_); first | refine Zg ?_ ?_ | refine Zp ?_ ?_)) <;> intro hg <;> simp only [hg] <;> (try simp at hg) <;> try omega)); all_goals try ((first | with_reducible refine Zn ?_ | refine Zm ?_); apply hK; clear hK K; try simp only [AThen, ABlock])) | refine Zz ?_ | refine Zb ?_)
            all_goals try exact rfl
            refine ⟨hil, trivial, ?_⟩
            refine Sub.of 0 (by simp) (by first | (simp [hrs, manyK_all]; done) | (simp [go_sem, hrs, manyK_all]; done)) (by simp [go_sem]) ?_ (by simp [go_sem])
            simp [go_sem, hrs, manyK_all]
      · obtain rfl : i = l.length := by omega
        have hr0 : ∀ x ∈ List.replicate l.length zeroL, rightF x = true ∧ x.L.length ≤ 80 := fun x hx => by
          rw [List.eq_of_mem_replicate hx]; decide
        have hdl : d.length = (restN l l.length).length := by rw [hd]
        have hrl : (List.replicate l.length zeroL).length = l.length := List.length_replicate
        have h71 : PC Try.prog 71 [bLs (List.replicate l.length zeroL)] (.tup [bLs (List.replicate l.length zeroL), bDs []]) := by
          have := pc_71 (List.replicate l.length zeroL) hr0 (by omega)
          rw [restN_nil, hrl] at this; exact this
        all_goals repeat' (first | (refine Zc ?_ ?_ <;> intro h <;> (try simp [go_sem] at h) <;> try omega) | (refine Zi ?_; try simp only [AThen, ABlock]) | (refine Ze ?_; simp +decide only [AThen, ABlock, reduceIte]) | (refine Zt ?_; (try simp [go_sem]); all_goals (try simp [loR, lo]); all_goals try exact rfl) | ((first | refine Zq ?_ | refine Zr ?_ | refine Zw ?_ | refine Zx ?_); intro K hK; repeat' (first | ((first | with_reducible refine Z0 ?_ | with_reducible refine Zd ?_ | refine Zs ?_ | refine Zl ?_); intro HK hk; simp [go_sem]; (repeat refine ⟨by omega, ?_⟩); apply hk; clear hk HK) | ((first | ((with_reducible refine Gd ?_); first | refine Zh ?_ ?_ | refine Zk ?_ ?_) | ((with_reducible refine Ga ?_); first | refine Zg ?_ ?_ | refine Zp ?_ ?_)) <;> intro hg <;> simp only [hg] <;> (try simp at hg) <;> try omega)); all_goals try ((first | with_reducible refine Zn ?_ | refine Zm ?_); apply hK; clear hK K; try simp only [AThen, ABlock])) | refine Zz ?_ | refine Zb ?_)
        all_goals try exact rfl
        (first | with_reducible refine Z0 ?_ | with_reducible refine Zd ?_ | refine Zs ?_); intro HK hk; simp [go_sem]; (repeat refine ⟨by omega, ?_⟩); (first | refine ACall.pur rfl (h71) ?_ | refine ACallD.mk rfl (h71) ?_); simp [go_sem]; (repeat refine ⟨by omega, ?_⟩); apply hk; clear hk HK; repeat' (first | ((first | with_reducible refine Z0 ?_ | with_reducible refine Zd ?_ | refine Zs ?_ | refine Zl ?_); intro HK hk; simp [go_sem]; (repeat refine ⟨by omega, ?_⟩); apply hk; clear hk HK) | ((first | ((with_reducible refine Gd ?_); first | refine Zh ?_ ?_ | refine Zk ?_ ?_) | ((with_reducible refine Ga ?_); first | refine Zg ?_ ?_ | refine Zp ?_ ?_)) <;> intro hg <;> simp only [hg] <;> (try simp at hg) <;> try omega))
        all_goals try ((first | with_reducible refine Zn ?_ | refine Zm ?_); apply hK; clear hK K; try simp only [AThen, ABlock])
        all_goals repeat' (first | (refine Zc ?_ ?_ <;> intro h <;> (try simp [go_sem, hdl] at h) <;> try omega) | (refine Zi ?_; try simp only [AThen, ABlock]) | (refine Ze ?_; simp +decide only [AThen, ABlock, reduceIte]) | (refine Zt ?_; (try simp [go_sem, hdl]); all_goals (try simp [loR, lo]); all_goals try exact rfl) | ((first | refine Zq ?_ | refine Zr ?_ | refine Zw ?_ | refine Zx ?_); intro K hK; repeat' (first | ((first | with_reducible refine Z0 ?_ | with_reducible refine Zd ?_ | refine Zs ?_ | refine Zl ?_); intro HK hk; simp [go_sem, hdl]; (repeat refine ⟨by omega, ?_⟩); apply hk; clear hk HK) | ((first | ((with_reducible refine Gd ?_); first | refine Zh ?_ ?_ | refine Zk ?_ ?_) | ((with_reducible refine Ga ?_); first | refine Zg ?_ ?_ | refine Zp ?_ ?_)) <;> intro hg <;> simp only [hg] <;> (try simp at hg) <;> try omega)); all_goals try ((first | with_reducible refine Zn ?_ | refine Zm ?_); apply hK; clear hK K; try simp only [AThen, ABlock])) | refine Zz ?_ | refine Zb ?_)
        all_goals try exact rfl
end Go.Proofs.Ytogappokeheilaa
