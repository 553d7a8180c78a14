import Derived.Test.YtogappokeheilaaB69
set_option linter.unusedVariables false
set_option linter.unusedSimpArgs false
set_option maxRecDepth 100000
set_option maxHeartbeats 0
namespace Go.Proofs.Ytogappokeheilaa
open Go.Aw

theorem msg_popM : ∀ {l : List Entry} {m : Entry}, (l.map (·.Seq)).Pairwise (· < ·) → l.find? isMsg = some m → l.filter isMsg = m :: (popN m.Seq l l.length).filter isMsg
  | [], m, _, h => by cases h
  | e :: r, m, hp, h1 => by
    rw [popN_all]
    rw [List.map_cons, List.pairwise_cons] at hp
    by_cases he : isMsg e = true
    · have hm : e = m := by simpa [List.find?_cons, he] using h1
      subst hm
      have hk : r.filter (fun x => !seqP e.Seq x) = r := List.filter_eq_self.2 fun x hx => by
        have := hp.1 x.Seq (List.mem_map.2 ⟨x, hx, rfl⟩)
        have hn : ¬ x.Seq = e.Seq := by omega
        simp [seqP, hn]
      have hn : (!seqP e.Seq e) = false := by simp [seqP]
      rw [List.filter_cons_of_pos he, List.filter_cons_of_neg (p := fun x => !seqP e.Seq x) (by rw [hn]; simp), hk]
    · have h2 : r.find? isMsg = some m := by simpa [List.find?_cons, he] using h1
      have ih := msg_popM hp.2 h2
      have hmr : m ∈ r := List.mem_of_find?_eq_some h2
      have hne : seqP m.Seq e = false := decide_eq_false (by have := hp.1 m.Seq (List.mem_map.2 ⟨m, hmr, rfl⟩); omega)
      rw [popN_all] at ih
      rw [List.filter_cons_of_neg he, List.filter_cons_of_pos (p := fun x => !seqP m.Seq x) (by simp [hne]), List.filter_cons_of_neg he, ih]
/-- A lane without its first j messages. -/
def restX (ln : Lane) : Nat → Lane
  | 0 => ln
  | j + 1 => popF (restX ln j) (findF isMsg (restX ln j).L).1.Seq
theorem restX_inv {ln : Lane} (hr : rightF ln = true) : ∀ j, j ≤ manyL ln.L → rightF (restX ln j) = true ∧ (restX ln j).L.length ≤ ln.L.length ∧ (restX ln j).L.filter isMsg = (ln.L.filter isMsg).drop j
  | 0, _ => ⟨hr, Nat.le_refl _, rfl⟩
  | j + 1, hj => by
    obtain ⟨h1, h2, h3⟩ := restX_inv hr j (by omega)
    have hp := (lowR_all ((right_iff _).1 h1).1).1
    have hjl : j < (ln.L.filter isMsg).length := hj
    have hdr := List.drop_eq_getElem_cons hjl
    have hf : (restX ln j).L.find? isMsg = some (ln.L.filter isMsg)[j] := by
      rw [← List.head?_filter, h3, hdr]; rfl
    have hff : findF isMsg (restX ln j).L = ((ln.L.filter isMsg)[j], true) := by unfold findF; rw [hf]
    have hq := msg_popM hp hf
    rw [h3, hdr] at hq
    refine ⟨right_pop h1, Nat.le_trans (popN_le _ _ _) h2, ?_⟩
    rw [restX, hff]
    exact (List.cons.inj hq).2.symm
theorem restX_msg {ln : Lane} (hr : rightF ln = true) {j : Nat} {e : Entry} (h : (ln.L.filter isMsg)[j]? = some e) : findF isMsg (restX ln j).L = (e, true) := by
  have hjl := (List.getElem?_eq_some_iff.1 h).1
  obtain ⟨h1, h2, h3⟩ := restX_inv hr j (Nat.le_of_lt hjl)
  have hdr := List.drop_eq_getElem_cons hjl
  unfold findF
  rw [← List.head?_filter, h3, hdr, (List.getElem?_eq_some_iff.1 h).2]; rfl
theorem restX_end {ln : Lane} (hr : rightF ln = true) : findF isMsg (restX ln (manyL ln.L)).L = (zeroE, false) := by
  obtain ⟨h1, h2, h3⟩ := restX_inv hr (manyL ln.L) (Nat.le_refl _)
  unfold findF
  rw [← List.head?_filter, h3, List.drop_of_length_le (show (ln.L.filter isMsg).length ≤ manyL ln.L from Nat.le_refl _)]; rfl
def restJ (i : Nat) (L : List Entry) (j : Nat) : List Deliv := ((L.filter isMsg).take j).map fun e => ⟨i, e.B⟩
theorem pc_71 (l : List Lane) (hok : ∀ x ∈ l, rightF x = true ∧ x.L.length ≤ 80) (hn : l.length ≤ 64) : PC Try.prog 71 [bLs l] (.tup [bLs (List.replicate l.length zeroL), bDs (restN l l.length)]) := by
  have hok2 : ∀ x ∈ l, x.L.length ≤ 80 := fun x hx => (hok x hx).2
  refine PC.of_loose (ACall.of_AW (fun args w => Try.call71 args w) Try.func71 rfl (by simp [Try.ntmps71]) ?_)
  simp only [Try.ntmps71, List.length_nil]
  all_goals repeat' (first | (refine Zc ?_ ?_ <;> intro h <;> (try simp [go_sem] at h) <;> try omega) | (refine Zi ?_; try simp only [AThen, ABlock]) | (refine Ze ?_; simp +decide only [AThen, ABlock, reduceIte]) | (refine Zt ?_; (try simp [go_sem]); all_goals (try simp [loR, lo]); all_goals try exact rfl) | ((first | refine Zq ?_ | refine Zr ?_ | refine Zw ?_ | refine Zx ?_); intro K hK; repeat' (first | ((first | with_reducible refine Z0 ?_ | with_reducible refine Zd ?_ | refine Zs ?_ | refine Zl ?_); intro HK hk; simp [go_sem]; (repeat refine ⟨by omega, ?_⟩); apply hk; clear hk HK) | ((first | ((with_reducible refine Gd ?_); first | refine Zh ?_ ?_ | refine Zk ?_ ?_) | ((with_reducible refine Ga ?_); first | refine Zg ?_ ?_ | refine Zp ?_ ?_)) <;> intro hg <;> simp only [hg] <;> (try simp at hg) <;> try omega)); all_goals try ((first | with_reducible refine Zn ?_ | refine Zm ?_); apply hK; clear hK K; try simp only [AThen, ABlock])) | refine Zz ?_ | refine Zb ?_)
  all_goals try exact rfl
  refine AW.weak (Sub.promote 4 51 2 (by decide) rfl) ?_
  refine AW.upto l.length (fun _ => True) (fun i => [(11, .c (.p (.int .i64 i))), (10, .c (.p (.int .i64 l.length))), (9, .c (.p (lnP l))), (4, .c (.own 0 (restN l i).length)), (0, .c (.p (lnP l)))]) (fun i => [.arr 51 2 0 ((restN l i).map delivP)]) trivial ?_ fun i hi _ => ?_
  · refine Sub.of 1 (by simp) (by first | (simp [restN]; done) | (simp [go_sem, restN]; done)) (by simp [go_sem]) ?_ (by simp [go_sem])
    simp [go_sem, restN]
  · have hwi := wrapS (show (i : Int) < 9223372036854775807 by omega)
    have hle := restN_le hok2 i
    by_cases hil : i < l.length
    · obtain ⟨ln, hx⟩ : ∃ ln, l[i]? = some ln := ⟨_, List.getElem?_eq_getElem hil⟩
      have hgd : l.getD i zeroL = ln := by rw [List.getD_eq_getElem?_getD, hx]; rfl
      obtain ⟨hr, hl80⟩ := hok ln (List.mem_of_getElem? hx)
      have hml := many_le ln.L
      obtain ⟨W, hW⟩ : ∃ W, W = (restN l i).length := ⟨_, rfl⟩
      rw [← hW] at hle
      obtain ⟨F, hF⟩ : ∃ F, F = ln.L.filter isMsg := ⟨_, rfl⟩
      have hFl : F.length = manyL ln.L := by rw [hF]; rfl
      have hmsg : ∀ j e, F[j]? = some e → findF isMsg (restX ln j).L = (e, true) := fun j e h => restX_msg hr (by rw [← hF]; exact h)
      have hend : findF isMsg (restX ln F.length).L = (zeroE, false) := by rw [hFl]; exact restX_end hr
      have hlen : ∀ j, j ≤ F.length → (restX ln j).L.length ≤ 80 := fun j hj => Nat.le_trans (restX_inv hr j (by omega)).2.1 hl80
      have hsuc : ∀ j, popF (restX ln j) (findF isMsg (restX ln j).L).1.Seq = restX ln (j + 1) := fun j => rfl
      have h0 : restX ln 0 = ln := rfl
      have hf2 : ∀ j, j ≤ F.length → (findF isMsg (restX ln j).L).2 = decide (j < F.length) := fun j hj => by
        by_cases h : j < F.length
        · rw [hmsg j _ (List.getElem?_eq_getElem h), decide_eq_true h]
        · obtain rfl : j = F.length := by omega
          rw [hend, decide_eq_false h]
      have hf20 : (findF isMsg ln.L).2 = decide (0 < F.length) := hf2 0 (Nat.zero_le _)
      all_goals repeat' (first | (refine Zc ?_ ?_ <;> intro h <;> (try simp [go_sem, hx, ← hW] at h) <;> try omega) | (refine Zi ?_; try simp only [AThen, ABlock]) | (refine Ze ?_; simp +decide only [AThen, ABlock, reduceIte]) | (refine Zt ?_; (try simp [go_sem, hx, ← hW]); all_goals (try simp [loR, lo]); all_goals try exact rfl) | ((first | refine Zq ?_ | refine Zr ?_ | refine Zw ?_ | refine Zx ?_); intro K hK; repeat' (first | ((first | with_reducible refine Z0 ?_ | with_reducible refine Zd ?_ | refine Zs ?_ | refine Zl ?_); intro HK hk; simp [go_sem, hx, ← hW]; (repeat refine ⟨by omega, ?_⟩); apply hk; clear hk HK) | ((first | ((with_reducible refine Gd ?_); first | refine Zh ?_ ?_ | refine Zk ?_ ?_) | ((with_reducible refine Ga ?_); first | refine Zg ?_ ?_ | refine Zp ?_ ?_)) <;> intro hg <;> simp only [hg] <;> (try simp at hg) <;> try omega)); all_goals try ((first | with_reducible refine Zn ?_ | refine Zm ?_); apply hK; clear hK K; try simp only [AThen, ABlock])) | refine Zz ?_ | refine Zb ?_)
      all_goals try exact rfl
      (first | with_reducible refine Z0 ?_ | with_reducible refine Zd ?_ | refine Zs ?_); intro HK hk; simp [go_sem]; (repeat refine ⟨by omega, ?_⟩); (first | refine ACall.pur rfl (pc_50 ln) ?_ | refine ACallD.mk rfl (pc_50 ln) ?_); simp [go_sem]; (repeat refine ⟨by omega, ?_⟩); apply hk; clear hk HK; repeat' (first | ((first | with_reducible refine Z0 ?_ | with_reducible refine Zd ?_ | refine Zs ?_ | refine Zl ?_); intro HK hk; simp [go_sem]; (repeat refine ⟨by omega, ?_⟩); apply hk; clear hk HK) | ((first | ((with_reducible refine Gd ?_); first | refine Zh ?_ ?_ | refine Zk ?_ ?_) | ((with_reducible refine Ga ?_); first | refine Zg ?_ ?_ | refine Zp ?_ ?_)) <;> intro hg <;> simp only [hg] <;> (try simp at hg) <;> try omega))
      all_goals try ((first | with_reducible refine Zn ?_ | refine Zm ?_); apply hK; clear hK K; try simp only [AThen, ABlock])
      all_goals repeat' (first | (refine Zc ?_ ?_ <;> intro h <;> (try simp [go_sem] at h) <;> try omega) | (refine Zi ?_; try simp only [AThen, ABlock]) | (refine Ze ?_; simp +decide only [AThen, ABlock, reduceIte]) | (refine Zt ?_; (try simp [go_sem]); all_goals (try simp [loR, lo]); all_goals try exact rfl) | ((first | refine Zq ?_ | refine Zr ?_ | refine Zw ?_ | refine Zx ?_); intro K hK; repeat' (first | ((first | with_reducible refine Z0 ?_ | with_reducible refine Zd ?_ | refine Zs ?_ | refine Zl ?_); intro HK hk; simp [go_sem]; (repeat refine ⟨by omega, ?_⟩); apply hk; clear hk HK) | ((first | ((with_reducible refine Gd ?_); first | refine Zh ?_ ?_ | refine Zk ?_ ?_) | ((with_reducible refine Ga ?_); first | refine Zg ?_ ?_ | refine Zp ?_ ?_)) <;> intro hg <;> simp only [hg] <;> (try simp at hg) <;> try omega)); all_goals try ((first | with_reducible refine Zn ?_ | refine Zm ?_); apply hK; clear hK K; try simp only [AThen, ABlock])) | refine Zz ?_ | refine Zb ?_)
      all_goals try exact rfl
      refine AW.upto F.length (fun _ => True) (fun j => [(8, .c (.p (.bool (decide (j < F.length))))), (7, .c (.ptr 2 0)), (6, .c (.ptr 1 0)), (5, .c (.p (.int .i64 i))), (4, .c (.own 0 (W + j))), (11, .c (.p (.int .i64 i))), (10, .c (.p (.int .i64 l.length))), (9, .c (.p (lnP l))), (0, .c (.p (lnP l)))])
        (fun j => [.arr 51 2 0 ((restN l i).map delivP ++ (F.take j).map fun e => delivP ⟨i, e.B⟩), .var ((laneP (restX ln j)).map .p), .var ((entP (findF isMsg (restX ln j).L).1).map .p)]) trivial ?_ fun j hj _ => ?_
      · refine Sub.of 3 (by simp) (by first | (simp [hf20, h0]; done) | (simp [go_sem, hf20, h0]; done)) (by simp [go_sem]) ?_ (by simp [go_sem])
        simp [go_sem, hf20, h0]
      · by_cases hjF : j < F.length
        · obtain ⟨m, hm⟩ : ∃ m, F[j]? = some m := ⟨_, List.getElem?_eq_getElem hjF⟩
          have hfm := hmsg j m hm
          have hs := hsuc j
          rw [hfm] at hs
          simp only at hs
          have hl8 := hlen j hj
          have hta : F.take (j + 1) = F.take j ++ [m] := by rw [List.take_add_one, hm]; rfl
          have hftl : (F.take j).length = j := by rw [List.length_take]; omega
          generalize hX : restX ln j = X at *
          all_goals repeat' (first | (refine Zc ?_ ?_ <;> intro h <;> (try simp [go_sem, hfm, hjF, hW, hftl] at h) <;> try omega) | (refine Zi ?_; try simp only [AThen, ABlock]) | (refine Ze ?_; simp +decide only [AThen, ABlock, reduceIte]) | (refine Zt ?_; (try simp [go_sem, hfm, hjF, hW, hftl]); all_goals (try simp [loR, lo]); all_goals try exact rfl) | ((first | refine Zq ?_ | refine Zr ?_ | refine Zw ?_ | refine Zx ?_); intro K hK; repeat' (first | ((first | with_reducible refine Z0 ?_ | with_reducible refine Zd ?_ | refine Zs ?_ | refine Zl ?_); intro HK hk; simp [go_sem, hfm, hjF, hW, hftl]; (repeat refine ⟨by omega, ?_⟩); apply hk; clear hk HK) | ((first | ((with_reducible refine Gd ?_); first | refine Zh ?_ ?_ | refine Zk ?_ ?_) | ((with_reducible refine Ga ?_); first | refine Zg ?_ ?_ | refine Zp ?_ ?_)) <;> intro hg <;> simp only [hg] <;> (try simp at hg) <;> try omega)); all_goals try ((first | with_reducible refine Zn ?_ | refine Zm ?_); apply hK; clear hK K; try simp only [AThen, ABlock])) | refine Zz ?_ | refine Zb ?_)
          all_goals try exact rfl
          (first | with_reducible refine Z0 ?_ | with_reducible refine Zd ?_ | refine Zs ?_); intro HK hk; simp [go_sem]; (repeat refine ⟨by omega, ?_⟩); (first | refine ACall.pur rfl (pc_60 X m.Seq (by omega)) ?_ | refine ACallD.mk rfl (pc_60 X m.Seq (by omega)) ?_); simp [go_sem]; (repeat refine ⟨by omega, ?_⟩); apply hk; clear hk HK; repeat' (first | ((first | with_reducible refine Z0 ?_ | with_reducible refine Zd ?_ | refine Zs ?_ | refine Zl ?_); intro HK hk; simp [go_sem]; (repeat refine ⟨by omega, ?_⟩); apply hk; clear hk HK) | ((first | ((with_reducible refine Gd ?_); first | refine Zh ?_ ?_ | refine Zk ?_ ?_) | ((with_reducible refine Ga ?_); first | refine Zg ?_ ?_ | refine Zp ?_ ?_)) <;> intro hg <;> simp only [hg] <;> (try simp at hg) <;> try omega))
          all_goals try ((first | with_reducible refine Zn ?_ | refine Zm ?_); apply hK; clear hK K; try simp only [AThen, ABlock])
          have hf3 := hf2 (j + 1) hjF
          obtain ⟨Y, hY⟩ : ∃ Y, Y = restX ln (j + 1) := ⟨_, rfl⟩
          rw [← hY] at hs hf3 ⊢
          refine AW.weak (Sub.fixLast 7 (cs := entP m) (sl' := [(6, .c (.ptr 1 0)), (5, .c (.p (.int .i64 i))), (4, .c (.own 0 ((restN l i).length + j + 1))), (11, .c (.p (.int .i64 i))), (10, .c (.p (.int .i64 l.length))), (9, .c (.p (lnP l))), (0, .c (.p (lnP l)))]) rfl (by simp) (by simp [go_sem]) rfl (by simp) (by simp [go_sem]) rfl rfl) ?_
          refine AW.weak (sl' := [(7, .c (.pp (entP m))), (6, .c (.ptr 1 0)), (5, .c (.p (.int .i64 i))), (4, .c (.own 0 (W + (j + 1)))), (11, .c (.p (.int .i64 i))), (10, .c (.p (.int .i64 l.length))), (9, .c (.p (lnP l))), (0, .c (.p (lnP l)))]) (H' := [.arr 51 2 0 ((restN l i).map delivP ++ (F.take (j + 1)).map fun e => delivP ⟨i, e.B⟩), .var ((laneP Y).map .p)]) ?_ ?_
          · refine Sub.of 2 (by simp) (by first | (simp [hta, ← hs, hW, Nat.add_assoc, List.map_take]; done) | (simp [go_sem, hta, ← hs, hW, Nat.add_assoc, List.map_take]; done)) (by simp [go_sem]) ?_ (by simp [go_sem])
            simp [go_sem, hta, ← hs, hW, Nat.add_assoc, List.map_take]
          all_goals repeat' (first | (refine Zc ?_ ?_ <;> intro h <;> (try simp [go_sem] at h) <;> try omega) | (refine Zi ?_; try simp only [AThen, ABlock]) | (refine Ze ?_; simp +decide only [AThen, ABlock, reduceIte]) | (refine Zt ?_; (try simp [go_sem]); all_goals (try simp [loR, lo]); all_goals try exact rfl) | ((first | refine Zq ?_ | refine Zr ?_ | refine Zw ?_ | refine Zx ?_); intro K hK; repeat' (first | ((first | with_reducible refine Z0 ?_ | with_reducible refine Zd ?_ | refine Zs ?_ | refine Zl ?_); intro HK hk; simp [go_sem]; (repeat refine ⟨by omega, ?_⟩); apply hk; clear hk HK) | ((first | ((with_reducible refine Gd ?_); first | refine Zh ?_ ?_ | refine Zk ?_ ?_) | ((with_reducible refine Ga ?_); first | refine Zg ?_ ?_ | refine Zp ?_ ?_)) <;> intro hg <;> simp only [hg] <;> (try simp at hg) <;> try omega)); all_goals try ((first | with_reducible refine Zn ?_ | refine Zm ?_); apply hK; clear hK K; try simp only [AThen, ABlock])) | refine Zz ?_ | refine Zb ?_)
          all_goals try exact rfl
          (first | with_reducible refine Z0 ?_ | with_reducible refine Zd ?_ | refine Zs ?_); intro HK hk; simp [go_sem]; (repeat refine ⟨by omega, ?_⟩); (first | refine ACall.pur rfl (pc_50 Y) ?_ | refine ACallD.mk rfl (pc_50 Y) ?_); simp [go_sem]; (repeat refine ⟨by omega, ?_⟩); apply hk; clear hk HK; repeat' (first | ((first | with_reducible refine Z0 ?_ | with_reducible refine Zd ?_ | refine Zs ?_ | refine Zl ?_); intro HK hk; simp [go_sem]; (repeat refine ⟨by omega, ?_⟩); apply hk; clear hk HK) | ((first | ((with_reducible refine Gd ?_); first | refine Zh ?_ ?_ | refine Zk ?_ ?_) | ((with_reducible refine Ga ?_); first | refine Zg ?_ ?_ | refine Zp ?_ ?_)) <;> intro hg <;> simp only [hg] <;> (try simp at hg) <;> try omega))
          all_goals try ((first | with_reducible refine Zn ?_ | refine Zm ?_); apply hK; clear hK K; try simp only [AThen, ABlock])
          all_goals repeat' (first | (refine Zc ?_ ?_ <;> intro h <;> (try simp [go_sem] at h) <;> try omega) | (refine Zi ?_; try simp only [AThen, ABlock]) | (refine Ze ?_; simp +decide only [AThen, ABlock, reduceIte]) | (refine Zt ?_; (try simp [go_sem]); all_goals (try simp [loR, lo]); all_goals try exact rfl) | ((first | refine Zq ?_ | refine Zr ?_ | refine Zw ?_ | refine Zx ?_); intro K hK; repeat' (first | ((first | with_reducible refine Z0 ?_ | with_reducible refine Zd ?_ | refine Zs ?_ | refine Zl ?_); intro HK hk; simp [go_sem]; (repeat refine ⟨by omega, ?_⟩); apply hk; clear hk HK) | ((first | ((with_reducible refine Gd ?_); first | refine Zh ?_ ?_ | refine Zk ?_ ?_) | ((with_reducible refine Ga ?_); first | refine Zg ?_ ?_ | refine Zp ?_ ?_)) <;> intro hg <;> simp only [hg] <;> (try simp at hg) <;> try omega)); all_goals try ((first | with_reducible refine Zn ?_ | refine Zm ?_); apply hK; clear hK K; try simp only [AThen, ABlock])) | refine Zz ?_ | refine Zb ?_)
          all_goals try exact rfl
          refine ⟨hjF, trivial, ?_⟩
          refine Sub.of 3 (by simp) (by first | (simp [hf3]; done) | (simp [go_sem, hf3]; done)) (by simp [go_sem]) ?_ (by simp [go_sem])
          simp [go_sem, hf3]
        · obtain rfl : j = F.length := by omega
          have hrs : restN l (i + 1) = restN l i ++ F.map fun e => ⟨(i : Int), e.B⟩ := by rw [restN, hgd, hF]; rfl
          have hta : F.take F.length = F := List.take_length
          all_goals repeat' (first | (refine Zc ?_ ?_ <;> intro h <;> (try simp [go_sem, hwi] at h) <;> try omega) | (refine Zi ?_; try simp only [AThen, ABlock]) | (refine Ze ?_; simp +decide only [AThen, ABlock, reduceIte]) | (refine Zt ?_; (try simp [go_sem, hwi]); all_goals (try simp [loR, lo]); all_goals try exact rfl) | ((first | refine Zq ?_ | refine Zr ?_ | refine Zw ?_ | refine Zx ?_); intro K hK; repeat' (first | ((first | with_reducible refine Z0 ?_ | with_reducible refine Zd ?_ | refine Zs ?_ | refine Zl ?_); intro HK hk; simp [go_sem, hwi]; (repeat refine ⟨by omega, ?_⟩); apply hk; clear hk HK) | ((first | ((with_reducible refine Gd ?_); first | refine Zh ?_ ?_ | refine Zk ?_ ?_) | ((with_reducible refine Ga ?_); first | refine Zg ?_ ?_ | refine Zp ?_ ?_)) <;> intro hg <;> simp only [hg] <;> (try simp at hg) <;> try omega)); all_goals try ((first | with_reducible refine Zn ?_ | refine Zm ?_); apply hK; clear hK K; try simp only [AThen, ABlock])) | refine Zz ?_ | refine Zb ?_)
          all_goals try exact rfl
          refine ⟨hil, trivial, ?_⟩
          refine Sub.of 1 (by simp) (by first | (simp [hrs, hta, hW]; done) | (simp [go_sem, hrs, hta, hW]; done)) (by simp [go_sem]) ?_ (by simp [go_sem])
          simp [go_sem, hrs, hta, hW]
    · obtain rfl : i = l.length := by omega
      all_goals repeat' (first | (refine Zc ?_ ?_ <;> intro h <;> (try simp [go_sem] at h) <;> try omega) | (refine Zi ?_; try simp only [AThen, ABlock]) | (refine Ze ?_; simp +decide only [AThen, ABlock, reduceIte]) | (refine Zt ?_; (try simp [go_sem]); all_goals (try simp [loR, lo]); all_goals try exact rfl) | ((first | refine Zq ?_ | refine Zr ?_ | refine Zw ?_ | refine Zx ?_); intro K hK; repeat' (first | ((first | with_reducible refine Z0 ?_ | with_reducible refine Zd ?_ | refine Zs ?_ | refine Zl ?_); intro HK hk; simp [go_sem]; (repeat refine ⟨by omega, ?_⟩); apply hk; clear hk HK) | ((first | ((with_reducible refine Gd ?_); first | refine Zh ?_ ?_ | refine Zk ?_ ?_) | ((with_reducible refine Ga ?_); first | refine Zg ?_ ?_ | refine Zp ?_ ?_)) <;> intro hg <;> simp only [hg] <;> (try simp at hg) <;> try omega)); all_goals try ((first | with_reducible refine Zn ?_ | refine Zm ?_); apply hK; clear hK K; try simp only [AThen, ABlock])) | refine Zz ?_ | refine Zb ?_)
      all_goals try exact rfl
      exact .inr rfl
end Go.Proofs.Ytogappokeheilaa
