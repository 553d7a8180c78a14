import Derived.Test.YtogappokeheilaaB41
import Derived.Test.YtogappokeheilaaAw30
set_option linter.unusedVariables false
set_option linter.unusedSimpArgs false
set_option maxRecDepth 100000
set_option maxHeartbeats 0
namespace Go.Proofs.Ytogappokeheilaa
open Go.Aw

/-- What is said, while it is gathered. -/
def partQ (l : List Lane) (me S : Nat) (j k : Nat) : List Int := ((waitL l me j) ++ List.replicate k (((me + j) % l.length : Nat) : Int)).take S
theorem partQ_zero (l : List Lane) (me S j : Nat) : partQ l me S j 0 = (waitL l me j).take S := by simp [partQ]
theorem partQ_next {l : List Lane} {me S j k : Nat} (h : (partQ l me S j k).length < S) : partQ l me S j (k + 1) = partQ l me S j k ++ [(((me + j) % l.length : Nat) : Int)] := by
  unfold partQ at *
  rw [List.length_take] at h
  have h1 : ((waitL l me j) ++ List.replicate k (((me + j) % l.length : Nat) : Int)).length < S := by omega
  rw [List.take_of_length_le (by simp only [List.length_append, List.length_replicate] at h1 ⊢; omega), List.take_of_length_le (by omega), List.replicate_succ', List.append_assoc]
theorem partQ_full {l : List Lane} {me S j k : Nat} (h : S ≤ (partQ l me S j k).length) (d : Nat) : partQ l me S j (k + d) = partQ l me S j k := by
  unfold partQ at *
  rw [List.length_take] at h
  have h1 : S ≤ ((waitL l me j) ++ List.replicate k (((me + j) % l.length : Nat) : Int)).length := by omega
  rw [← List.replicate_append_replicate, ← List.append_assoc, List.take_append_of_le_length h1]
theorem partQ_end {l : List Lane} {me S j : Nat} {ln : Lane} (hx : l[(me + j) % l.length]? = some ln) : partQ l me S j (manyL ln.L) = partQ l me S (j + 1) 0 := by
  have hgd : l.getD ((me + j) % l.length) zeroL = ln := by rw [List.getD_eq_getElem?_getD, hx]; rfl
  rw [partQ_zero, waitL, hgd]; rfl
theorem partQ_len {l : List Lane} (h : ∀ x ∈ l, x.L.length ≤ 80) (me : Nat) (hn : 0 < l.length) (S j k : Nat) (hk : k ≤ 80) : (partQ l me S j k).length ≤ 80 * (j + 1) := by
  have := waitL_len h me hn j
  unfold partQ; simp; omega
theorem pc_37 (t : Turn) (l : List Lane) (me : Nat) (q : Int) (hm : mayT t l = true) (hme : me < l.length) (hq : 0 ≤ q ∧ q ≤ 1000) : PC Try.prog 37 [bTu t, bLs l, bI me, bI q] (.tup [bT (sayQ t l me q).1, bB (sayQ t l me q).2]) := by
  have hI := qinv_start hm
  obtain ⟨_, hn2, hn64⟩ := winv_start hm
  have hok : ∀ x ∈ l, x.L.length ≤ 80 := fun x hx => ((winv_start hm).1.ok x hx).2
  have hu := hI.used
  have hb := hI.bound
  simp only at hu hb
  obtain ⟨ln, hx⟩ : ∃ ln, l[me]? = some ln := ⟨_, List.getElem?_eq_getElem hme⟩
  have hgd : l.getD me zeroL = ln := by rw [List.getD_eq_getElem?_getD, hx]; rfl
  obtain ⟨W, hW⟩ : ∃ W, W = (partQ l me (q - t.Used).toNat l.length 0) := ⟨_, rfl⟩
  obtain ⟨r, hr⟩ : ∃ r, r = sayQ t l me q := ⟨_, rfl⟩
  rw [← hr]
  unfold sayQ someQ at hr
  rw [hgd, ← partQ_zero, ← hW] at hr
  have hr0 : t.Who ≠ (me : Int) → r = (zeroI, false) := fun h => by rw [hr, if_pos h]
  have hr1 : t.Who = (me : Int) → (findF isCtl ln.L).2 = true → r = (zeroI, false) := fun h h1 => by rw [hr, if_neg (by omega), if_pos h1]
  have hr2 : t.Who = (me : Int) → (findF isCtl ln.L).2 = false → W = [] → r = (zeroI, false) := fun h h1 h2 => by rw [hr, if_neg (by omega), if_neg (by rw [h1]; decide), if_pos h2]
  have hr3 : t.Who = (me : Int) → (findF isCtl ln.L).2 = false → W ≠ [] → r = (⟨2, 0, 0, if q ≤ t.Used + W.length then 1 else 0, 0, 0, W, []⟩, true) := fun h h1 h2 => by rw [hr, if_neg (by omega), if_neg (by rw [h1]; decide), if_neg h2]
  clear hr
  refine PC.of_loose (ACall.of_AW (fun args w => Try.call37 args w) Try.func37 rfl (by simp [Try.ntmps37]) ?_)
  simp only [Try.ntmps37, List.length_nil]
  all_goals repeat' (first | (refine Zc ?_ ?_ <;> intro h <;> (try simp [go_sem, hx] at h) <;> try omega) | (refine Zi ?_; try simp only [AThen, ABlock]) | (refine Ze ?_; simp +decide only [AThen, ABlock, reduceIte]) | (refine Zt ?_; (try simp [go_sem, hx]); all_goals (try simp [loR, lo]); all_goals try exact rfl) | ((first | refine Zq ?_ | refine Zr ?_ | refine Zw ?_ | refine Zx ?_); intro K hK; repeat' (first | ((first | refine Zs ?_ | refine Zl ?_ | refine Z0 ?_ | refine Zd ?_); intro HK hk; simp [go_sem, hx]; (repeat refine ⟨by omega, ?_⟩); apply hk; clear hk HK) | ((first | refine Zg ?_ ?_ | refine Zh ?_ ?_ | refine Zp ?_ ?_ | refine Zk ?_ ?_) <;> intro hg <;> simp only [hg] <;> (try simp at hg) <;> try omega)); all_goals try ((first | refine Zn ?_ | refine Zm ?_); apply hK; clear hK K; try simp only [AThen, ABlock])) | refine Zz ?_ | refine Zb ?_)
  all_goals try exact rfl
  · rename_i h
    rw [hr0 h]; exact ⟨rfl, rfl⟩
  · have hwho : t.Who = me := by omega
    replace hr1 := hr1 hwho
    replace hr2 := hr2 hwho
    replace hr3 := hr3 hwho
    clear hr0
    (first | refine Zs ?_ | refine Z0 ?_ | refine Zd ?_); intro HK hk; simp [go_sem]; (repeat refine ⟨by omega, ?_⟩); (first | refine ACall.pur rfl (pc_53 ln) ?_ | refine ACallD.mk rfl (pc_53 ln) ?_); simp [go_sem]; (repeat refine ⟨by omega, ?_⟩); apply hk; clear hk HK; repeat' (first | ((first | refine Zs ?_ | refine Zl ?_ | refine Z0 ?_ | refine Zd ?_); intro HK hk; simp [go_sem]; (repeat refine ⟨by omega, ?_⟩); apply hk; clear hk HK) | ((first | refine Zg ?_ ?_ | refine Zh ?_ ?_ | refine Zp ?_ ?_ | refine Zk ?_ ?_) <;> intro hg <;> simp only [hg] <;> (try simp at hg) <;> try omega))
    all_goals try ((first | refine Zn ?_ | refine Zm ?_); apply hK; clear hK K; try simp only [AThen, ABlock])
    generalize findF isCtl ln.L = R at *
    obtain ⟨c, b⟩ := R
    cases b with
    | true =>
      have hrr := hr1 rfl
      clear hr1 hr2 hr3
      rw [hrr]
      all_goals repeat' (first | (refine Zc ?_ ?_ <;> intro h <;> (try simp [go_sem] at h) <;> try omega) | (refine Zi ?_; try simp only [AThen, ABlock]) | (refine Ze ?_; simp +decide only [AThen, ABlock, reduceIte]) | (refine Zt ?_; (try simp [go_sem]); all_goals (try simp [loR, lo]); all_goals try exact rfl) | ((first | refine Zq ?_ | refine Zr ?_ | refine Zw ?_ | refine Zx ?_); intro K hK; repeat' (first | ((first | refine Zs ?_ | refine Zl ?_ | refine Z0 ?_ | refine Zd ?_); intro HK hk; simp [go_sem]; (repeat refine ⟨by omega, ?_⟩); apply hk; clear hk HK) | ((first | refine Zg ?_ ?_ | refine Zh ?_ ?_ | refine Zp ?_ ?_ | refine Zk ?_ ?_) <;> intro hg <;> simp only [hg] <;> (try simp at hg) <;> try omega)); all_goals try ((first | refine Zn ?_ | refine Zm ?_); apply hK; clear hK K; try simp only [AThen, ABlock])) | refine Zz ?_ | refine Zb ?_)
      all_goals try exact rfl
    | false =>
      replace hr2 := hr2 rfl
      replace hr3 := hr3 rfl
      clear hr1
      all_goals repeat' (first | (refine Zc ?_ ?_ <;> intro h <;> (try simp [go_sem] at h) <;> try omega) | (refine Zi ?_; try simp only [AThen, ABlock]) | (refine Ze ?_; simp +decide only [AThen, ABlock, reduceIte]) | (refine Zt ?_; (try simp [go_sem]); all_goals (try simp [loR, lo]); all_goals try exact rfl) | ((first | refine Zq ?_ | refine Zr ?_ | refine Zw ?_ | refine Zx ?_); intro K hK; repeat' (first | ((first | refine Zs ?_ | refine Zl ?_ | refine Z0 ?_ | refine Zd ?_); intro HK hk; simp [go_sem]; (repeat refine ⟨by omega, ?_⟩); apply hk; clear hk HK) | ((first | refine Zg ?_ ?_ | refine Zh ?_ ?_ | refine Zp ?_ ?_ | refine Zk ?_ ?_) <;> intro hg <;> simp only [hg] <;> (try simp at hg) <;> try omega)); all_goals try ((first | refine Zn ?_ | refine Zm ?_); apply hK; clear hK K; try simp only [AThen, ABlock])) | refine Zz ?_ | refine Zb ?_)
      all_goals try exact rfl
      have hl0 : partQ l me (q - t.Used).toNat 0 0 = [] := by simp [partQ, waitL]
      obtain ⟨S, hS⟩ : ∃ S, S = (q - t.Used).toNat := ⟨_, rfl⟩
      rw [← hS] at hW hl0
      refine AW.weak (Sub.promoteAt 3 6 3 1 (by decide) rfl rfl) ?_
      refine AW.upto l.length (fun _ => True) (fun j => [(14, .c (.p (.int .i64 j))), (13, .c (.p (.int .i64 ((me + j) % l.length : Nat)))), (12, .c (.ptr 3 0)), (8, .c (.ptr 1 0)), (4, .c (.ptr 0 0)), (1, .c (.p (lnP l))), (2, .c (.p (.int .i64 me))), (3, .c (.p (.int .i64 q)))])
        (fun j => [.var ((turnP t).map .p), .var [.p (.int .i64 0), .p (.int .i64 0), .p (.int .i64 0), .p (.int .i64 0), .p (.int .i64 0), .p (.int .i64 0), .p (.sl true []), .p (.sl true [])], .var [.p (.int .i64 c.Kind), .p (.int .i64 c.Seq), .p (bsP c.B), .p (isP c.L), .p (.bool c.Hand)], .var [.p (.int .i64 2), .p (.int .i64 0), .p (.int .i64 0), .p (.int .i64 0), .p (.int .i64 0), .p (.int .i64 0), .own 4 (partQ l me S j 0).length, .p (.sl true [])], .arr 3 1 0 ((partQ l me S j 0).map encI)]) trivial ?_ fun j hj _ => ?_
      · refine Sub.of 5 (by simp) (by first | (simp [hl0, Nat.mod_eq_of_lt hme]; done) | (simp [go_sem, hl0, Nat.mod_eq_of_lt hme]; done)) (by simp [go_sem]) ?_ (by simp [go_sem])
        simp [go_sem, hl0, Nat.mod_eq_of_lt hme]
      · have hlt := Nat.mod_lt (me + j) (show 0 < l.length by omega)
        obtain ⟨i, hi⟩ : ∃ i, i = (me + j) % l.length := ⟨_, rfl⟩
        rw [← hi] at hlt
        obtain ⟨li, hxi⟩ : ∃ li, l[i]? = some li := ⟨_, List.getElem?_eq_getElem hlt⟩
        have hml := many_le li.L
        have hll := hok li (List.mem_of_getElem? hxi)
        have hend : partQ l me S j (manyL li.L) = partQ l me S (j + 1) 0 := partQ_end (by rw [← hi]; exact hxi)
        have hlen : ∀ k, k ≤ 80 → (partQ l me S j k).length ≤ 80 * (j + 1) := fun k => partQ_len hok me (by omega) S j k
        have hlen0 := hlen 0 (by omega)
        have hwj := wrapS (show (j : Int) < 9223372036854775807 by omega)
        have hwi := wrapS (show (i : Int) < 9223372036854775807 by omega)
        have hin : ((me + (j + 1)) % l.length) = if i + 1 = l.length then 0 else i + 1 := by
          rw [← Nat.add_assoc, Nat.add_mod, ← hi, Nat.mod_eq_of_lt (show 1 < l.length by omega)]
          split
          · rename_i h; rw [h, Nat.mod_self]
          · exact Nat.mod_eq_of_lt (by omega)
        have hwl : IntKind.i64.wrap (t.Used + ((partQ l me S j 0).length : Int)) = t.Used + ((partQ l me S j 0).length : Int) := wrapI (by omega) (by omega)
        rw [← hi]
        have hne : ¬ l = [] := fun hh => by rw [hh] at hme; simp at hme
        all_goals repeat' (first | (refine Zc ?_ ?_ <;> intro h <;> (try simp [go_sem, hwl, hxi, hne] at h) <;> try omega) | (refine Zi ?_; try simp only [AThen, ABlock]) | (refine Ze ?_; simp +decide only [AThen, ABlock, reduceIte]) | (refine Zt ?_; (try simp [go_sem, hwl, hxi, hne]); all_goals (try simp [loR, lo]); all_goals try exact rfl) | ((first | refine Zq ?_ | refine Zr ?_ | refine Zw ?_ | refine Zx ?_); intro K hK; repeat' (first | ((first | refine Zs ?_ | refine Zl ?_ | refine Z0 ?_ | refine Zd ?_); intro HK hk; simp [go_sem, hwl, hxi, hne]; (repeat refine ⟨by omega, ?_⟩); apply hk; clear hk HK) | ((first | refine Zg ?_ ?_ | refine Zh ?_ ?_ | refine Zp ?_ ?_ | refine Zk ?_ ?_) <;> intro hg <;> simp only [hg] <;> (try simp at hg) <;> try omega)); all_goals try ((first | refine Zn ?_ | refine Zm ?_); apply hK; clear hK K; try simp only [AThen, ABlock])) | refine Zz ?_ | refine Zb ?_)
        all_goals try exact rfl
        · rename_i h
          have hjl := h
          (first | refine Zs ?_ | refine Z0 ?_ | refine Zd ?_); intro HK hk; simp [go_sem]; (repeat refine ⟨by omega, ?_⟩); (first | refine ACall.pur rfl (pc_41 li) ?_ | refine ACallD.mk rfl (pc_41 li) ?_); simp [go_sem]; (repeat refine ⟨by omega, ?_⟩); apply hk; clear hk HK; repeat' (first | ((first | refine Zs ?_ | refine Zl ?_ | refine Z0 ?_ | refine Zd ?_); intro HK hk; simp [go_sem]; (repeat refine ⟨by omega, ?_⟩); apply hk; clear hk HK) | ((first | refine Zg ?_ ?_ | refine Zh ?_ ?_ | refine Zp ?_ ?_ | refine Zk ?_ ?_) <;> intro hg <;> simp only [hg] <;> (try simp at hg) <;> try omega))
          all_goals try ((first | refine Zn ?_ | refine Zm ?_); apply hK; clear hK K; try simp only [AThen, ABlock])
          all_goals repeat' (first | (refine Zc ?_ ?_ <;> intro h <;> (try simp [go_sem] at h) <;> try omega) | (refine Zi ?_; try simp only [AThen, ABlock]) | (refine Ze ?_; simp +decide only [AThen, ABlock, reduceIte]) | (refine Zt ?_; (try simp [go_sem]); all_goals (try simp [loR, lo]); all_goals try exact rfl) | ((first | refine Zq ?_ | refine Zr ?_ | refine Zw ?_ | refine Zx ?_); intro K hK; repeat' (first | ((first | refine Zs ?_ | refine Zl ?_ | refine Z0 ?_ | refine Zd ?_); intro HK hk; simp [go_sem]; (repeat refine ⟨by omega, ?_⟩); apply hk; clear hk HK) | ((first | refine Zg ?_ ?_ | refine Zh ?_ ?_ | refine Zp ?_ ?_ | refine Zk ?_ ?_) <;> intro hg <;> simp only [hg] <;> (try simp at hg) <;> try omega)); all_goals try ((first | refine Zn ?_ | refine Zm ?_); apply hK; clear hK K; try simp only [AThen, ABlock])) | refine Zz ?_ | refine Zb ?_)
          all_goals try exact rfl
          refine AW.upto (manyL li.L) (fun _ => True) (fun k => [(16, .c (.p (.int .i64 k))), (15, .c (.p (.int .i64 (manyL li.L)))), (14, .c (.p (.int .i64 j))), (13, .c (.p (.int .i64 i))), (12, .c (.ptr 3 0)), (8, .c (.ptr 1 0)), (4, .c (.ptr 0 0)), (1, .c (.p (lnP l))), (2, .c (.p (.int .i64 me))), (3, .c (.p (.int .i64 q)))])
            (fun k => [.var ((turnP t).map .p), .var [.p (.int .i64 0), .p (.int .i64 0), .p (.int .i64 0), .p (.int .i64 0), .p (.int .i64 0), .p (.int .i64 0), .p (.sl true []), .p (.sl true [])], .var [.p (.int .i64 c.Kind), .p (.int .i64 c.Seq), .p (bsP c.B), .p (isP c.L), .p (.bool c.Hand)], .var [.p (.int .i64 2), .p (.int .i64 0), .p (.int .i64 0), .p (.int .i64 0), .p (.int .i64 0), .p (.int .i64 0), .own 4 (partQ l me S j k).length, .p (.sl true [])], .arr 3 1 0 ((partQ l me S j k).map encI)]) trivial ?_ fun k hk _ => ?_
          · refine Sub.of 5 (by simp) (by first | (simp; done) | (simp [go_sem]; done)) (by simp [go_sem]) ?_ (by simp [go_sem])
            simp [go_sem]
          · have hlk := hlen k (by omega)
            have hwk := wrapS (show (k : Int) < 9223372036854775807 by omega)
            have hwlk : IntKind.i64.wrap (t.Used + ((partQ l me S j k).length : Int)) = t.Used + ((partQ l me S j k).length : Int) := wrapI (by omega) (by omega)
            have hnx : (partQ l me S j k).length < S → partQ l me S j (k + 1) = partQ l me S j k ++ [(i : Int)] := fun h => by rw [hi]; exact partQ_next h
            have hfl : S ≤ (partQ l me S j k).length → partQ l me S j k = partQ l me S (j + 1) 0 := fun h => by
              rw [← hend, show manyL li.L = k + (manyL li.L - k) by omega]; exact (partQ_full h _).symm
            have hnd : k < manyL li.L ∨ partQ l me S j k = partQ l me S (j + 1) 0 := by
              by_cases h : k < manyL li.L
              · exact .inl h
              · rw [show k = manyL li.L by omega]; exact .inr hend
            all_goals repeat' (first | (refine Zc ?_ ?_ <;> intro h <;> (try simp [go_sem, hwlk, hwi, hwj, hwk] at h) <;> try omega) | (refine Zi ?_; try simp only [AThen, ABlock]) | (refine Ze ?_; simp +decide only [AThen, ABlock, reduceIte]) | (refine Zt ?_; (try simp [go_sem, hwlk, hwi, hwj, hwk]); all_goals (try simp [loR, lo]); all_goals try exact rfl) | ((first | refine Zq ?_ | refine Zr ?_ | refine Zw ?_ | refine Zx ?_); intro K hK; repeat' (first | ((first | refine Zs ?_ | refine Zl ?_ | refine Z0 ?_ | refine Zd ?_); intro HK hk; simp [go_sem, hwlk, hwi, hwj, hwk]; (repeat refine ⟨by omega, ?_⟩); apply hk; clear hk HK) | ((first | refine Zg ?_ ?_ | refine Zh ?_ ?_ | refine Zp ?_ ?_ | refine Zk ?_ ?_) <;> intro hg <;> simp only [hg] <;> (try simp at hg) <;> try omega)); all_goals try ((first | refine Zn ?_ | refine Zm ?_); apply hK; clear hK K; try simp only [AThen, ABlock])) | refine Zz ?_ | refine Zb ?_)
            all_goals try exact rfl
            · have hst := hnx (by omega)
              refine ⟨by omega, trivial, ?_⟩
              refine Sub.of 5 (by simp) (by first | (simp [hst]; done) | (simp [go_sem, hst]; done)) (by simp [go_sem]) ?_ (by simp [go_sem])
              simp [go_sem, hst]
            · have hst := hfl (by omega)
              have hin2 : ((me + (j + 1)) % l.length) = 0 := by rw [hin, if_pos (by omega)]
              refine ⟨hjl, trivial, ?_⟩
              refine Sub.of 5 (by simp) (by first | (simp [hst, hin2]; done) | (simp [go_sem, hst, hin2]; done)) (by simp [go_sem]) ?_ (by simp [go_sem])
              simp [go_sem, hst, hin2]
            · have hst := hfl (by omega)
              have hin2 : ((me + (j + 1)) % l.length) = i + 1 := by rw [hin, if_neg (by omega)]
              refine ⟨hjl, trivial, ?_⟩
              refine Sub.of 5 (by simp) (by first | (simp [hst, hin2]; done) | (simp [go_sem, hst, hin2]; done)) (by simp [go_sem]) ?_ (by simp [go_sem])
              simp [go_sem, hst, hin2]
            · have hst := hnd.resolve_left (by omega)
              have hin2 : ((me + (j + 1)) % l.length) = 0 := by rw [hin, if_pos (by omega)]
              refine ⟨hjl, trivial, ?_⟩
              refine Sub.of 5 (by simp) (by first | (simp [hst, hin2]; done) | (simp [go_sem, hst, hin2]; done)) (by simp [go_sem]) ?_ (by simp [go_sem])
              simp [go_sem, hst, hin2]
            · have hst := hnd.resolve_left (by omega)
              have hin2 : ((me + (j + 1)) % l.length) = i + 1 := by rw [hin, if_neg (by omega)]
              refine ⟨hjl, trivial, ?_⟩
              refine Sub.of 5 (by simp) (by first | (simp [hst, hin2]; done) | (simp [go_sem, hst, hin2]; done)) (by simp [go_sem]) ?_ (by simp [go_sem])
              simp [go_sem, hst, hin2]
        all_goals
          have hje : j = l.length := by omega
          subst hje
          subst hW
        · rw [hr2 (by assumption)]; exact ⟨rfl, rfl⟩
        · rw [hr3 (by assumption), if_pos (by omega)]; exact ⟨rfl, rfl⟩
        · rw [hr3 (by assumption), if_neg (by omega)]; exact ⟨rfl, rfl⟩
end Go.Proofs.Ytogappokeheilaa
