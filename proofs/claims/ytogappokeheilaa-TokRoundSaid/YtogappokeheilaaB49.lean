import Derived.Test.YtogappokeheilaaB43
import Derived.Test.YtogappokeheilaaB48
set_option linter.unusedVariables false
set_option linter.unusedSimpArgs false
set_option maxRecDepth 100000
set_option maxHeartbeats 0
namespace Go.Proofs.Ytogappokeheilaa
open Go.Aw

theorem walkS_cons {s s1 : WS} (h : wNext s = some s1) : ∀ k, walkS s (k + 1) = walkS s1 k
  | 0 => walkS_step (k := 0) h
  | k + 1 => by rw [walkS, walkS_cons h k]; rfl
theorem walkS_empty {n w : Nat} {p : Part} {s : WS} (hi : WInv n s) (h : s.x[w]? = some ⟨[], p⟩) : ∀ k, (walkS s k).x[w]? = some ⟨[], p⟩
  | 0 => h
  | k + 1 => by
    have ih := walkS_empty hi h k
    have hI := walkS_inv hi k
    rw [walkS]
    cases hq : wNext (walkS s k) with
    | none => exact ih
    | some s' =>
      obtain ⟨w', p', e, r, h1, h2, h3, rfl, _⟩ := wnext_some hI hq
      have hne : w' ≠ w := fun hh => by subst hh; rw [ih] at h3; cases h3
      show ((walkS s k).x.set w' ⟨r, p'⟩)[w]? = _
      rw [List.getElem?_set_ne hne]; exact ih
abbrev tokN : Entry := ⟨3, 1, [], [], false⟩
def nextM (w n : Nat) : Nat := if w + 1 = n then 0 else w + 1
theorem nextM_lt {w n : Nat} (hw : w < n) : nextM w n < n := by unfold nextM; split <;> omega
theorem turns_may {t : Turn} {l : List Lane} {w : Nat} {ln : Lane} (hm : mayT t l = true) (hx : l[w]? = some ln) (hL : ln.L = []) (hg : ¬ 0 < ln.Part.Got) : ln.Part = zP ∧ mayT t (l.set w ⟨[tokN], ln.Part⟩) = true := by
  have hm0 := hm
  unfold mayT lanesF at hm
  simp only [Bool.and_eq_true, decide_eq_true_eq, List.all_eq_true] at hm
  obtain ⟨⟨h1, h2⟩, h3, h4, h5, h6, h7⟩ := hm
  have hgd := h2 ln (List.mem_of_getElem? hx)
  unfold goodL at hgd
  rw [Bool.and_eq_true] at hgd
  obtain ⟨hf, hr⟩ := hgd
  have hp : ln.Part = zP := by
    unfold rightF at hr
    rw [Bool.and_eq_true] at hr
    have h := hr.2
    split at h
    · exact of_decide_eq_true h
    · have := of_decide_eq_true h; omega
  refine ⟨hp, ?_⟩
  unfold mayT lanesF
  simp only [Bool.and_eq_true, decide_eq_true_eq, List.all_eq_true, List.length_set]
  refine ⟨⟨h1, fun x hxm => ?_⟩, h3, h4, h5, h6, h7⟩
  rcases List.mem_or_eq_of_mem_set hxm with hxm | rfl
  · exact h2 x hxm
  · rw [hp]; decide
theorem turns_law (t : Turn) (l : List Lane) (w : Nat) (ln : Lane) (hm : mayT t l = true) (hw : t.Who = w) (hx : l[w]? = some ln) (hL : ln.L = []) (hg : ¬ 0 < ln.Part.Got) :
    ∃ (R : WS) (u : Nat), walkF t (l.set w ⟨[tokN], ln.Part⟩) = R ∧ R.x.length = l.length ∧ R.t.Who = u ∧ u < l.length ∧ (∃ p, R.x[w]? = some ⟨[], p⟩) ∧
      (∀ lx, l[nextM w l.length]? = some lx → lx.L = [] → R.t = ⟨nextM w l.length, 0⟩) := by
  obtain ⟨hp, hm'⟩ := turns_may hm hx hL hg
  obtain ⟨hi, hn2, hn64⟩ := winv_start hm'
  simp only [List.length_set] at hi hn2 hn64
  have hwn := (List.getElem?_eq_some_iff.1 hx).1
  obtain ⟨x', hx'⟩ : ∃ x', x' = l.set w ⟨[tokN], ln.Part⟩ := ⟨_, rfl⟩
  rw [← hx'] at hi ⊢
  have hxl : x'.length = l.length := by rw [hx', List.length_set]
  have hxw : x'[w]? = some ⟨[tokN], ln.Part⟩ := by rw [hx', List.getElem?_set_self hwn]
  have hnext : wNext ⟨t, x', []⟩ = some ⟨⟨nextM w l.length, 0⟩, x'.set w ⟨[], ln.Part⟩, []⟩ := by
    unfold wNext
    simp only [hw, Int.toNat_natCast, hxw]
    unfold turnN outN nextM
    simp only [hw, hxl]
    congr 2
    simp
    split <;> split <;> omega
  have htot : 1 ≤ tot x' := by
    have := tot_set x' w ⟨[tokN], ln.Part⟩ ⟨[], ln.Part⟩ hxw
    simp at this; omega
  obtain ⟨k, hk⟩ : ∃ k, tot x' = k + 1 := ⟨tot x' - 1, by omega⟩
  have hI1 := winv_next hi hnext
  have hwk : walkF t x' = walkS ⟨⟨nextM w l.length, 0⟩, x'.set w ⟨[], ln.Part⟩, []⟩ k := by unfold walkF; rw [hk, walkS_cons hnext]
  have hIk := walkS_inv hI1 k
  refine ⟨_, (walkF t x').t.Who.toNat, rfl, ?_, ?_, ?_, ?_, ?_⟩
  · rw [hwk]; exact hIk.len
  · rw [hwk]; have := hIk.lo; omega
  · rw [hwk]; have := hIk.hi; omega
  · rw [hwk]; exact ⟨_, walkS_empty hI1 (List.getElem?_set_self (by omega)) k⟩
  · intro lx hlx hle
    have hne : w ≠ nextM w l.length := by unfold nextM; split <;> omega
    have h0 : wNext (walkS ⟨⟨nextM w l.length, 0⟩, x'.set w ⟨[], ln.Part⟩, []⟩ 0) = none := by
      unfold walkS wNext
      simp only [Int.toNat_natCast]
      rw [List.getElem?_set_ne hne, hx', List.getElem?_set_ne hne, hlx]
      obtain ⟨L, p⟩ := lx
      simp only at hle
      subst hle; rfl
    have := walkS_stop h0 k
    rw [Nat.zero_add] at this
    rw [hwk, this]; rfl
theorem pc_5 (t : Turn) (l : List Lane) (qu : UInt8) : PC Try.prog 5 [bTu t, bLs l, (false, [.int .u8 qu.toNat])] (.one (bB true)) := by
  have hwq : IntKind.i64.wrap (qu.toNat : Int) = (qu.toNat : Int) := wrapI (by omega) (by have := qu.toNat_lt; omega)
  obtain ⟨q, hq, hq63⟩ : ∃ q : Nat, (qu.toNat : Int).tmod 64 = (q : Int) ∧ q ≤ 63 := ⟨qu.toNat % 64, by rw [Int.tmod_eq_emod_of_nonneg (by omega)]; omega, by omega⟩
  have hw1 : IntKind.i64.wrap (1 + (q : Int)) = 1 + (q : Int) := wrapI (by omega) (by omega)
  refine PC.of_ACall (ACall.of_AW (fun args w => Try.call5 args w) Try.func5 rfl (by simp [Try.ntmps5]) ?_)
  simp only [Try.ntmps5, List.length_nil]
  all_goals repeat' (first | (refine Zc ?_ ?_ <;> intro h <;> (try simp [go_sem] at h) <;> try omega) | (refine Zi ?_; try simp only [AThen, ABlock]) | (refine Ze ?_; simp +decide only [AThen, ABlock, reduceIte]) | (refine Zt ?_; (try simp [go_sem]); all_goals (try simp [loR, lo]); all_goals try exact rfl) | ((first | refine Zq ?_ | refine Zr ?_ | refine Zw ?_ | refine Zx ?_); intro K hK; repeat' (first | ((first | refine Zs ?_ | refine Zl ?_ | refine Z0 ?_ | refine Zd ?_); intro HK hk; simp [go_sem]; (repeat refine ⟨by omega, ?_⟩); apply hk; clear hk HK) | ((first | refine Zg ?_ ?_ | refine Zh ?_ ?_ | refine Zp ?_ ?_ | refine Zk ?_ ?_) <;> intro hg <;> simp only [hg] <;> (try simp at hg) <;> try omega)); all_goals try ((first | refine Zn ?_ | refine Zm ?_); apply hK; clear hK K; try simp only [AThen, ABlock])) | refine Zz ?_ | refine Zb ?_)
  all_goals try exact rfl
  (first | refine Zs ?_ | refine Z0 ?_ | refine Zd ?_); intro HK hk; simp [go_sem]; (repeat refine ⟨by omega, ?_⟩); (first | refine ACall.pur rfl (pc_21) ?_ | refine ACallD.mk rfl (pc_21) ?_); simp [go_sem]; (repeat refine ⟨by omega, ?_⟩); apply hk; clear hk HK; repeat' (first | ((first | refine Zs ?_ | refine Zl ?_ | refine Z0 ?_ | refine Zd ?_); intro HK hk; simp [go_sem]; (repeat refine ⟨by omega, ?_⟩); apply hk; clear hk HK) | ((first | refine Zg ?_ ?_ | refine Zh ?_ ?_ | refine Zp ?_ ?_ | refine Zk ?_ ?_) <;> intro hg <;> simp only [hg] <;> (try simp at hg) <;> try omega))
  all_goals try ((first | refine Zn ?_ | refine Zm ?_); apply hK; clear hK K; try simp only [AThen, ABlock])
  all_goals repeat' (first | (refine Zc ?_ ?_ <;> intro h <;> (try simp [go_sem] at h) <;> try omega) | (refine Zi ?_; try simp only [AThen, ABlock]) | (refine Ze ?_; simp +decide only [AThen, ABlock, reduceIte]) | (refine Zt ?_; (try simp [go_sem]); all_goals (try simp [loR, lo]); all_goals try exact rfl) | ((first | refine Zq ?_ | refine Zr ?_ | refine Zw ?_ | refine Zx ?_); intro K hK; repeat' (first | ((first | refine Zs ?_ | refine Zl ?_ | refine Z0 ?_ | refine Zd ?_); intro HK hk; simp [go_sem]; (repeat refine ⟨by omega, ?_⟩); apply hk; clear hk HK) | ((first | refine Zg ?_ ?_ | refine Zh ?_ ?_ | refine Zp ?_ ?_ | refine Zk ?_ ?_) <;> intro hg <;> simp only [hg] <;> (try simp at hg) <;> try omega)); all_goals try ((first | refine Zn ?_ | refine Zm ?_); apply hK; clear hK K; try simp only [AThen, ABlock])) | refine Zz ?_ | refine Zb ?_)
  all_goals try exact rfl
  (first | refine Zs ?_ | refine Z0 ?_ | refine Zd ?_); intro HK hk; simp [go_sem]; (repeat refine ⟨by omega, ?_⟩); (first | refine ACall.pur rfl (pc_22 t l) ?_ | refine ACallD.mk rfl (pc_22 t l) ?_); simp [go_sem]; (repeat refine ⟨by omega, ?_⟩); apply hk; clear hk HK; repeat' (first | ((first | refine Zs ?_ | refine Zl ?_ | refine Z0 ?_ | refine Zd ?_); intro HK hk; simp [go_sem]; (repeat refine ⟨by omega, ?_⟩); apply hk; clear hk HK) | ((first | refine Zg ?_ ?_ | refine Zh ?_ ?_ | refine Zp ?_ ?_ | refine Zk ?_ ?_) <;> intro hg <;> simp only [hg] <;> (try simp at hg) <;> try omega))
  all_goals try ((first | refine Zn ?_ | refine Zm ?_); apply hK; clear hK K; try simp only [AThen, ABlock])
  cases hm : mayT t l with
  | false =>
    all_goals repeat' (first | (refine Zc ?_ ?_ <;> intro h <;> (try simp [go_sem, hm] at h) <;> try omega) | (refine Zi ?_; try simp only [AThen, ABlock]) | (refine Ze ?_; simp +decide only [AThen, ABlock, reduceIte]) | (refine Zt ?_; (try simp [go_sem, hm]); all_goals (try simp [loR, lo]); all_goals try exact rfl) | ((first | refine Zq ?_ | refine Zr ?_ | refine Zw ?_ | refine Zx ?_); intro K hK; repeat' (first | ((first | refine Zs ?_ | refine Zl ?_ | refine Z0 ?_ | refine Zd ?_); intro HK hk; simp [go_sem, hm]; (repeat refine ⟨by omega, ?_⟩); apply hk; clear hk HK) | ((first | refine Zg ?_ ?_ | refine Zh ?_ ?_ | refine Zp ?_ ?_ | refine Zk ?_ ?_) <;> intro hg <;> simp only [hg] <;> (try simp at hg) <;> try omega)); all_goals try ((first | refine Zn ?_ | refine Zm ?_); apply hK; clear hK K; try simp only [AThen, ABlock])) | refine Zz ?_ | refine Zb ?_)
    all_goals try exact rfl
  | true =>
    obtain ⟨hi0, hn2, hn64⟩ := winv_start hm
    have hn0 : ¬ l = [] := fun h => by rw [h] at hn2; simp at hn2
    obtain ⟨w, hw⟩ : ∃ w : Nat, t.Who = w := ⟨t.Who.toNat, by have := hi0.lo; simp only at this; omega⟩
    have hwn : w < l.length := by have := hi0.hi; simp only at this; omega
    obtain ⟨lw, hxw⟩ : ∃ lw, l[w]? = some lw := ⟨_, List.getElem?_eq_getElem hwn⟩
    obtain ⟨who, u⟩ := t
    simp only at hw
    subst hw
    all_goals repeat' (first | (refine Zc ?_ ?_ <;> intro h <;> (try simp [go_sem, hm, hwq, hq, hw1] at h) <;> try omega) | (refine Zi ?_; try simp only [AThen, ABlock]) | (refine Ze ?_; simp +decide only [AThen, ABlock, reduceIte]) | (refine Zt ?_; (try simp [go_sem, hm, hwq, hq, hw1]); all_goals (try simp [loR, lo]); all_goals try exact rfl) | ((first | refine Zq ?_ | refine Zr ?_ | refine Zw ?_ | refine Zx ?_); intro K hK; repeat' (first | ((first | refine Zs ?_ | refine Zl ?_ | refine Z0 ?_ | refine Zd ?_); intro HK hk; simp [go_sem, hm, hwq, hq, hw1]; (repeat refine ⟨by omega, ?_⟩); apply hk; clear hk HK) | ((first | refine Zg ?_ ?_ | refine Zh ?_ ?_ | refine Zp ?_ ?_ | refine Zk ?_ ?_) <;> intro hg <;> simp only [hg] <;> (try simp at hg) <;> try omega)); all_goals try ((first | refine Zn ?_ | refine Zm ?_); apply hK; clear hK K; try simp only [AThen, ABlock])) | refine Zz ?_ | refine Zb ?_)
    all_goals try exact rfl
    refine AW.upto l.length (fun _ => True) (fun k => [(9, .c (.p (.int .i64 k))), (8, .c (.p (.int .i64 (1 + (q : Int))))), (7, .c (.p (.bool true))), (3, .c (.ptr 0 0)), (1, .c (.p (lnP l)))]) (fun _ => [.var [.p (.int .i64 w), .p (.int .i64 u)]]) trivial ?_ fun k hk _ => ?_
    · refine Sub.of 1 (by simp) (by first | (simp; done) | (simp [go_sem]; done)) (by simp [go_sem]) ?_ (by simp [go_sem])
      simp [go_sem]
    · have hwk := wrapS (show (k : Int) < 9223372036854775807 by omega)
      by_cases hkl : k < l.length
      · obtain ⟨ln, hx⟩ : ∃ ln, l[k]? = some ln := ⟨_, List.getElem?_eq_getElem hkl⟩
        by_cases hown : k = w ∧ ln.L = []
        · obtain ⟨rfl, hL⟩ := hown
          have ho : ownF ⟨(k : Int), u⟩ ln k = true := by unfold ownF; rw [hL]; simp
          have hs : sayF ⟨(k : Int), u⟩ ln k = (⟨3, 0, 0, 0, 0, 0, [], []⟩, true) := by unfold sayF; rw [ho]; rfl
          have hs2 : mayS ⟨(k : Int), u⟩ ln k (1 + (q : Int)) = decide (u < 1 + (q : Int)) := by unfold mayS; rw [ho]; rfl
          all_goals repeat' (first | (refine Zc ?_ ?_ <;> intro h <;> (try simp [go_sem, hx] at h) <;> try omega) | (refine Zi ?_; try simp only [AThen, ABlock]) | (refine Ze ?_; simp +decide only [AThen, ABlock, reduceIte]) | (refine Zt ?_; (try simp [go_sem, hx]); all_goals (try simp [loR, lo]); all_goals try exact rfl) | ((first | refine Zq ?_ | refine Zr ?_ | refine Zw ?_ | refine Zx ?_); intro K hK; repeat' (first | ((first | refine Zs ?_ | refine Zl ?_ | refine Z0 ?_ | refine Zd ?_); intro HK hk; simp [go_sem, hx]; (repeat refine ⟨by omega, ?_⟩); apply hk; clear hk HK) | ((first | refine Zg ?_ ?_ | refine Zh ?_ ?_ | refine Zp ?_ ?_ | refine Zk ?_ ?_) <;> intro hg <;> simp only [hg] <;> (try simp at hg) <;> try omega)); all_goals try ((first | refine Zn ?_ | refine Zm ?_); apply hK; clear hK K; try simp only [AThen, ABlock])) | refine Zz ?_ | refine Zb ?_)
          all_goals try exact rfl
          (first | refine Zs ?_ | refine Z0 ?_ | refine Zd ?_); intro HK hk; simp [go_sem]; (repeat refine ⟨by omega, ?_⟩); (first | refine ACall.pur rfl (pc_25 ⟨(k : Int), u⟩ l k ln hx) ?_ | refine ACallD.mk rfl (pc_25 ⟨(k : Int), u⟩ l k ln hx) ?_); simp [go_sem, hs, hL, hx]; (repeat refine ⟨by omega, ?_⟩); apply hk; clear hk HK; repeat' (first | ((first | refine Zs ?_ | refine Zl ?_ | refine Z0 ?_ | refine Zd ?_); intro HK hk; simp [go_sem, hs, hL, hx]; (repeat refine ⟨by omega, ?_⟩); apply hk; clear hk HK) | ((first | refine Zg ?_ ?_ | refine Zh ?_ ?_ | refine Zp ?_ ?_ | refine Zk ?_ ?_) <;> intro hg <;> simp only [hg] <;> (try simp at hg) <;> try omega))
          all_goals try ((first | refine Zn ?_ | refine Zm ?_); apply hK; clear hK K; try simp only [AThen, ABlock])
          all_goals repeat' (first | (refine Zc ?_ ?_ <;> intro h <;> (try simp [go_sem, hx, hL] at h) <;> try omega) | (refine Zi ?_; try simp only [AThen, ABlock]) | (refine Ze ?_; simp +decide only [AThen, ABlock, reduceIte]) | (refine Zt ?_; (try simp [go_sem, hx, hL]); all_goals (try simp [loR, lo]); all_goals try exact rfl) | ((first | refine Zq ?_ | refine Zr ?_ | refine Zw ?_ | refine Zx ?_); intro K hK; repeat' (first | ((first | refine Zs ?_ | refine Zl ?_ | refine Z0 ?_ | refine Zd ?_); intro HK hk; simp [go_sem, hx, hL]; (repeat refine ⟨by omega, ?_⟩); apply hk; clear hk HK) | ((first | refine Zg ?_ ?_ | refine Zh ?_ ?_ | refine Zp ?_ ?_ | refine Zk ?_ ?_) <;> intro hg <;> simp only [hg] <;> (try simp at hg) <;> try omega)); all_goals try ((first | refine Zn ?_ | refine Zm ?_); apply hK; clear hK K; try simp only [AThen, ABlock])) | refine Zz ?_ | refine Zb ?_)
          all_goals try exact rfl
          (first | refine Zs ?_ | refine Z0 ?_ | refine Zd ?_); intro HK hk; simp [go_sem]; (repeat refine ⟨by omega, ?_⟩); (first | refine ACall.pur rfl (pc_30 ⟨(k : Int), u⟩ l k (1 + (q : Int)) ln hx) ?_ | refine ACallD.mk rfl (pc_30 ⟨(k : Int), u⟩ l k (1 + (q : Int)) ln hx) ?_); simp [go_sem, hs2, hL, hx]; (repeat refine ⟨by omega, ?_⟩); apply hk; clear hk HK; repeat' (first | ((first | refine Zs ?_ | refine Zl ?_ | refine Z0 ?_ | refine Zd ?_); intro HK hk; simp [go_sem, hs2, hL, hx]; (repeat refine ⟨by omega, ?_⟩); apply hk; clear hk HK) | ((first | refine Zg ?_ ?_ | refine Zh ?_ ?_ | refine Zp ?_ ?_ | refine Zk ?_ ?_) <;> intro hg <;> simp only [hg] <;> (try simp at hg) <;> try omega))
          all_goals try ((first | refine Zn ?_ | refine Zm ?_); apply hK; clear hK K; try simp only [AThen, ABlock])
          all_goals repeat' (first | (refine Zc ?_ ?_ <;> intro h <;> (try simp [go_sem, hx, hL, hwk] at h) <;> try omega) | (refine Zi ?_; try simp only [AThen, ABlock]) | (refine Ze ?_; simp +decide only [AThen, ABlock, reduceIte]) | (refine Zt ?_; (try simp [go_sem, hx, hL, hwk]); all_goals (try simp [loR, lo]); all_goals try exact rfl) | ((first | refine Zq ?_ | refine Zr ?_ | refine Zw ?_ | refine Zx ?_); intro K hK; repeat' (first | ((first | refine Zs ?_ | refine Zl ?_ | refine Z0 ?_ | refine Zd ?_); intro HK hk; simp [go_sem, hx, hL, hwk]; (repeat refine ⟨by omega, ?_⟩); apply hk; clear hk HK) | ((first | refine Zg ?_ ?_ | refine Zh ?_ ?_ | refine Zp ?_ ?_ | refine Zk ?_ ?_) <;> intro hg <;> simp only [hg] <;> (try simp at hg) <;> try omega)); all_goals try ((first | refine Zn ?_ | refine Zm ?_); apply hK; clear hK K; try simp only [AThen, ABlock])) | refine Zz ?_ | refine Zb ?_)
          all_goals try exact rfl
          refine ⟨hkl, trivial, ?_⟩
          refine Sub.of 1 (by simp) (by first | (simp; done) | (simp [go_sem]; done)) (by simp [go_sem]) ?_ (by simp [go_sem])
          simp [go_sem]
        · have ho : ownF ⟨(w : Int), u⟩ ln k = false := by
            unfold ownF
            by_cases hkw : k = w
            · have hL : ln.L ≠ [] := fun h => hown ⟨hkw, h⟩
              cases hq : ln.L with
              | nil => exact absurd hq hL
              | cons a r => simp
            · rw [decide_eq_false (by simp only; omega)]; rfl
          have hs : sayF ⟨(w : Int), u⟩ ln k = (⟨0, 0, 0, 0, 0, 0, [], []⟩, false) := by unfold sayF; rw [ho]; rfl
          have hs2 : mayS ⟨(w : Int), u⟩ ln k (1 + (q : Int)) = false := by unfold mayS; rw [ho]; rfl
          by_cases hkw : k = w
          · have hL : ln.L ≠ [] := fun h => hown ⟨hkw, h⟩
            subst hkw
            all_goals repeat' (first | (refine Zc ?_ ?_ <;> intro h <;> (try simp [go_sem, hx] at h) <;> try omega) | (refine Zi ?_; try simp only [AThen, ABlock]) | (refine Ze ?_; simp +decide only [AThen, ABlock, reduceIte]) | (refine Zt ?_; (try simp [go_sem, hx]); all_goals (try simp [loR, lo]); all_goals try exact rfl) | ((first | refine Zq ?_ | refine Zr ?_ | refine Zw ?_ | refine Zx ?_); intro K hK; repeat' (first | ((first | refine Zs ?_ | refine Zl ?_ | refine Z0 ?_ | refine Zd ?_); intro HK hk; simp [go_sem, hx]; (repeat refine ⟨by omega, ?_⟩); apply hk; clear hk HK) | ((first | refine Zg ?_ ?_ | refine Zh ?_ ?_ | refine Zp ?_ ?_ | refine Zk ?_ ?_) <;> intro hg <;> simp only [hg] <;> (try simp at hg) <;> try omega)); all_goals try ((first | refine Zn ?_ | refine Zm ?_); apply hK; clear hK K; try simp only [AThen, ABlock])) | refine Zz ?_ | refine Zb ?_)
            all_goals try exact rfl
            (first | refine Zs ?_ | refine Z0 ?_ | refine Zd ?_); intro HK hk; simp [go_sem]; (repeat refine ⟨by omega, ?_⟩); (first | refine ACall.pur rfl (pc_25 ⟨(k : Int), u⟩ l k ln hx) ?_ | refine ACallD.mk rfl (pc_25 ⟨(k : Int), u⟩ l k ln hx) ?_); simp [go_sem, hs, hL, hx]; (repeat refine ⟨by omega, ?_⟩); apply hk; clear hk HK; repeat' (first | ((first | refine Zs ?_ | refine Zl ?_ | refine Z0 ?_ | refine Zd ?_); intro HK hk; simp [go_sem, hs, hL, hx]; (repeat refine ⟨by omega, ?_⟩); apply hk; clear hk HK) | ((first | refine Zg ?_ ?_ | refine Zh ?_ ?_ | refine Zp ?_ ?_ | refine Zk ?_ ?_) <;> intro hg <;> simp only [hg] <;> (try simp at hg) <;> try omega))
            all_goals try ((first | refine Zn ?_ | refine Zm ?_); apply hK; clear hK K; try simp only [AThen, ABlock])
            all_goals repeat' (first | (refine Zc ?_ ?_ <;> intro h <;> (try simp [go_sem, hx, hL] at h) <;> try omega) | (refine Zi ?_; try simp only [AThen, ABlock]) | (refine Ze ?_; simp +decide only [AThen, ABlock, reduceIte]) | (refine Zt ?_; (try simp [go_sem, hx, hL]); all_goals (try simp [loR, lo]); all_goals try exact rfl) | ((first | refine Zq ?_ | refine Zr ?_ | refine Zw ?_ | refine Zx ?_); intro K hK; repeat' (first | ((first | refine Zs ?_ | refine Zl ?_ | refine Z0 ?_ | refine Zd ?_); intro HK hk; simp [go_sem, hx, hL]; (repeat refine ⟨by omega, ?_⟩); apply hk; clear hk HK) | ((first | refine Zg ?_ ?_ | refine Zh ?_ ?_ | refine Zp ?_ ?_ | refine Zk ?_ ?_) <;> intro hg <;> simp only [hg] <;> (try simp at hg) <;> try omega)); all_goals try ((first | refine Zn ?_ | refine Zm ?_); apply hK; clear hK K; try simp only [AThen, ABlock])) | refine Zz ?_ | refine Zb ?_)
            all_goals try exact rfl
            · exact hL hg
            (first | refine Zs ?_ | refine Z0 ?_ | refine Zd ?_); intro HK hk; simp [go_sem]; (repeat refine ⟨by omega, ?_⟩); (first | refine ACall.pur rfl (pc_30 ⟨(k : Int), u⟩ l k (1 + (q : Int)) ln hx) ?_ | refine ACallD.mk rfl (pc_30 ⟨(k : Int), u⟩ l k (1 + (q : Int)) ln hx) ?_); simp [go_sem, hs2, hL, hx]; (repeat refine ⟨by omega, ?_⟩); apply hk; clear hk HK; repeat' (first | ((first | refine Zs ?_ | refine Zl ?_ | refine Z0 ?_ | refine Zd ?_); intro HK hk; simp [go_sem, hs2, hL, hx]; (repeat refine ⟨by omega, ?_⟩); apply hk; clear hk HK) | ((first | refine Zg ?_ ?_ | refine Zh ?_ ?_ | refine Zp ?_ ?_ | refine Zk ?_ ?_) <;> intro hg <;> simp only [hg] <;> (try simp at hg) <;> try omega))
            all_goals try ((first | refine Zn ?_ | refine Zm ?_); apply hK; clear hK K; try simp only [AThen, ABlock])
            all_goals repeat' (first | (refine Zc ?_ ?_ <;> intro h <;> (try simp [go_sem, hx, hL, hwk] at h) <;> try omega) | (refine Zi ?_; try simp only [AThen, ABlock]) | (refine Ze ?_; simp +decide only [AThen, ABlock, reduceIte]) | (refine Zt ?_; (try simp [go_sem, hx, hL, hwk]); all_goals (try simp [loR, lo]); all_goals try exact rfl) | ((first | refine Zq ?_ | refine Zr ?_ | refine Zw ?_ | refine Zx ?_); intro K hK; repeat' (first | ((first | refine Zs ?_ | refine Zl ?_ | refine Z0 ?_ | refine Zd ?_); intro HK hk; simp [go_sem, hx, hL, hwk]; (repeat refine ⟨by omega, ?_⟩); apply hk; clear hk HK) | ((first | refine Zg ?_ ?_ | refine Zh ?_ ?_ | refine Zp ?_ ?_ | refine Zk ?_ ?_) <;> intro hg <;> simp only [hg] <;> (try simp at hg) <;> try omega)); all_goals try ((first | refine Zn ?_ | refine Zm ?_); apply hK; clear hK K; try simp only [AThen, ABlock])) | refine Zz ?_ | refine Zb ?_)
            all_goals try exact rfl
            refine ⟨hkl, trivial, ?_⟩
            refine Sub.of 1 (by simp) (by first | (simp; done) | (simp [go_sem]; done)) (by simp [go_sem]) ?_ (by simp [go_sem])
            simp [go_sem]
          · all_goals repeat' (first | (refine Zc ?_ ?_ <;> intro h <;> (try simp [go_sem, hx] at h) <;> try omega) | (refine Zi ?_; try simp only [AThen, ABlock]) | (refine Ze ?_; simp +decide only [AThen, ABlock, reduceIte]) | (refine Zt ?_; (try simp [go_sem, hx]); all_goals (try simp [loR, lo]); all_goals try exact rfl) | ((first | refine Zq ?_ | refine Zr ?_ | refine Zw ?_ | refine Zx ?_); intro K hK; repeat' (first | ((first | refine Zs ?_ | refine Zl ?_ | refine Z0 ?_ | refine Zd ?_); intro HK hk; simp [go_sem, hx]; (repeat refine ⟨by omega, ?_⟩); apply hk; clear hk HK) | ((first | refine Zg ?_ ?_ | refine Zh ?_ ?_ | refine Zp ?_ ?_ | refine Zk ?_ ?_) <;> intro hg <;> simp only [hg] <;> (try simp at hg) <;> try omega)); all_goals try ((first | refine Zn ?_ | refine Zm ?_); apply hK; clear hK K; try simp only [AThen, ABlock])) | refine Zz ?_ | refine Zb ?_)
            all_goals try exact rfl
            (first | refine Zs ?_ | refine Z0 ?_ | refine Zd ?_); intro HK hk; simp [go_sem]; (repeat refine ⟨by omega, ?_⟩); (first | refine ACall.pur rfl (pc_25 ⟨(w : Int), u⟩ l k ln hx) ?_ | refine ACallD.mk rfl (pc_25 ⟨(w : Int), u⟩ l k ln hx) ?_); simp [go_sem, hs, hkw, hx]; (repeat refine ⟨by omega, ?_⟩); apply hk; clear hk HK; repeat' (first | ((first | refine Zs ?_ | refine Zl ?_ | refine Z0 ?_ | refine Zd ?_); intro HK hk; simp [go_sem, hs, hkw, hx]; (repeat refine ⟨by omega, ?_⟩); apply hk; clear hk HK) | ((first | refine Zg ?_ ?_ | refine Zh ?_ ?_ | refine Zp ?_ ?_ | refine Zk ?_ ?_) <;> intro hg <;> simp only [hg] <;> (try simp at hg) <;> try omega))
            all_goals try ((first | refine Zn ?_ | refine Zm ?_); apply hK; clear hK K; try simp only [AThen, ABlock])
            all_goals repeat' (first | (refine Zc ?_ ?_ <;> intro h <;> (try simp [go_sem, hx, hkw] at h) <;> try omega) | (refine Zi ?_; try simp only [AThen, ABlock]) | (refine Ze ?_; simp +decide only [AThen, ABlock, reduceIte]) | (refine Zt ?_; (try simp [go_sem, hx, hkw]); all_goals (try simp [loR, lo]); all_goals try exact rfl) | ((first | refine Zq ?_ | refine Zr ?_ | refine Zw ?_ | refine Zx ?_); intro K hK; repeat' (first | ((first | refine Zs ?_ | refine Zl ?_ | refine Z0 ?_ | refine Zd ?_); intro HK hk; simp [go_sem, hx, hkw]; (repeat refine ⟨by omega, ?_⟩); apply hk; clear hk HK) | ((first | refine Zg ?_ ?_ | refine Zh ?_ ?_ | refine Zp ?_ ?_ | refine Zk ?_ ?_) <;> intro hg <;> simp only [hg] <;> (try simp at hg) <;> try omega)); all_goals try ((first | refine Zn ?_ | refine Zm ?_); apply hK; clear hK K; try simp only [AThen, ABlock])) | refine Zz ?_ | refine Zb ?_)
            all_goals try exact rfl
            (first | refine Zs ?_ | refine Z0 ?_ | refine Zd ?_); intro HK hk; simp [go_sem]; (repeat refine ⟨by omega, ?_⟩); (first | refine ACall.pur rfl (pc_30 ⟨(w : Int), u⟩ l k (1 + (q : Int)) ln hx) ?_ | refine ACallD.mk rfl (pc_30 ⟨(w : Int), u⟩ l k (1 + (q : Int)) ln hx) ?_); simp [go_sem, hs2, hkw, hx]; (repeat refine ⟨by omega, ?_⟩); apply hk; clear hk HK; repeat' (first | ((first | refine Zs ?_ | refine Zl ?_ | refine Z0 ?_ | refine Zd ?_); intro HK hk; simp [go_sem, hs2, hkw, hx]; (repeat refine ⟨by omega, ?_⟩); apply hk; clear hk HK) | ((first | refine Zg ?_ ?_ | refine Zh ?_ ?_ | refine Zp ?_ ?_ | refine Zk ?_ ?_) <;> intro hg <;> simp only [hg] <;> (try simp at hg) <;> try omega))
            all_goals try ((first | refine Zn ?_ | refine Zm ?_); apply hK; clear hK K; try simp only [AThen, ABlock])
            all_goals repeat' (first | (refine Zc ?_ ?_ <;> intro h <;> (try simp [go_sem, hx, hkw, hwk] at h) <;> try omega) | (refine Zi ?_; try simp only [AThen, ABlock]) | (refine Ze ?_; simp +decide only [AThen, ABlock, reduceIte]) | (refine Zt ?_; (try simp [go_sem, hx, hkw, hwk]); all_goals (try simp [loR, lo]); all_goals try exact rfl) | ((first | refine Zq ?_ | refine Zr ?_ | refine Zw ?_ | refine Zx ?_); intro K hK; repeat' (first | ((first | refine Zs ?_ | refine Zl ?_ | refine Z0 ?_ | refine Zd ?_); intro HK hk; simp [go_sem, hx, hkw, hwk]; (repeat refine ⟨by omega, ?_⟩); apply hk; clear hk HK) | ((first | refine Zg ?_ ?_ | refine Zh ?_ ?_ | refine Zp ?_ ?_ | refine Zk ?_ ?_) <;> intro hg <;> simp only [hg] <;> (try simp at hg) <;> try omega)); all_goals try ((first | refine Zn ?_ | refine Zm ?_); apply hK; clear hK K; try simp only [AThen, ABlock])) | refine Zz ?_ | refine Zb ?_)
            all_goals try exact rfl
            refine ⟨hkl, trivial, ?_⟩
            refine Sub.of 1 (by simp) (by first | (simp; done) | (simp [go_sem]; done)) (by simp [go_sem]) ?_ (by simp [go_sem])
            simp [go_sem]
      · obtain rfl : k = l.length := by omega
        by_cases hL : lw.L = []
        · by_cases hg : 0 < lw.Part.Got
          · all_goals repeat' (first | (refine Zc ?_ ?_ <;> intro h <;> (try simp [go_sem, hxw, hL, hg] at h) <;> try omega) | (refine Zi ?_; try simp only [AThen, ABlock]) | (refine Ze ?_; simp +decide only [AThen, ABlock, reduceIte]) | (refine Zt ?_; (try simp [go_sem, hxw, hL, hg]); all_goals (try simp [loR, lo]); all_goals try exact rfl) | ((first | refine Zq ?_ | refine Zr ?_ | refine Zw ?_ | refine Zx ?_); intro K hK; repeat' (first | ((first | refine Zs ?_ | refine Zl ?_ | refine Z0 ?_ | refine Zd ?_); intro HK hk; simp [go_sem, hxw, hL, hg]; (repeat refine ⟨by omega, ?_⟩); apply hk; clear hk HK) | ((first | refine Zg ?_ ?_ | refine Zh ?_ ?_ | refine Zp ?_ ?_ | refine Zk ?_ ?_) <;> intro hg <;> simp only [hg] <;> (try simp at hg) <;> try omega)); all_goals try ((first | refine Zn ?_ | refine Zm ?_); apply hK; clear hK K; try simp only [AThen, ABlock])) | refine Zz ?_ | refine Zb ?_)
            all_goals try exact rfl
          · obtain ⟨hp, hm'⟩ := turns_may hm hxw hL hg
            obtain ⟨R, v, hR, r1, r2, r3, ⟨p, r4⟩, r5⟩ := turns_law ⟨(w : Int), u⟩ l w lw hm rfl hxw hL hg
            have hrd : (readF lw ⟨3, 1, 0, 0, 0, 0, [], []⟩).1 = ⟨[tokN], lw.Part⟩ := by
              obtain ⟨L0, P0⟩ := lw
              simp only at hL hp
              subst hL; subst hp; rfl
            have hww : IntKind.i64.wrap ((w : Int) + 1) = (w : Int) + 1 := wrapI (by omega) (by omega)
            obtain ⟨ny, hny⟩ : ∃ ny, l[nextM w l.length]? = some ny := ⟨_, List.getElem?_eq_getElem (nextM_lt hwn)⟩
            have r5' := r5 ny hny
            obtain ⟨⟨rw_, ru⟩, rx, ro⟩ := R
            simp only at r1 r2 r4 r5'
            subst r2
            refine AW.weak (Sub.holes 1) ?_; simp only [List.replicate, List.cons_append, List.nil_append]
            all_goals repeat' (first | (refine Zc ?_ ?_ <;> intro h <;> (try simp [go_sem, hxw, hL, hg] at h) <;> try omega) | (refine Zi ?_; try simp only [AThen, ABlock]) | (refine Ze ?_; simp +decide only [AThen, ABlock, reduceIte]) | (refine Zt ?_; (try simp [go_sem, hxw, hL, hg]); all_goals (try simp [loR, lo]); all_goals try exact rfl) | ((first | refine AW.q false fun K hK => ?_ | refine AW.ql false fun K hK => ?_ | refine AW.w [(none, [1]), (none, [1]), (none, [1]), (none, [1]), (none, [1]), (none, [1]), (none, [1]), (none, [1]), (none, [1]), (none, [1]), (none, [1]), (none, [1, 1]), (none, [1, 1]), (some 1, []), (some 1, [])] rfl (by decide +kernel) fun K hK => ?_ | refine AW.wl [(none, [1]), (none, [1]), (none, [1]), (none, [1]), (none, [1]), (none, [1]), (none, [1]), (none, [1]), (none, [1]), (none, [1]), (none, [1]), (none, [1, 1]), (none, [1, 1]), (some 1, []), (some 1, [])] rfl (by decide +kernel) fun K hK => ?_); repeat' (first | ((first | refine Zs ?_ | refine Zl ?_ | refine Z0 ?_ | refine Zd ?_); intro HK hk; simp [go_sem, hxw, hL, hg]; (repeat refine ⟨by omega, ?_⟩); apply hk; clear hk HK) | ((first | refine Zg ?_ ?_ | refine Zh ?_ ?_ | refine Zp ?_ ?_ | refine Zk ?_ ?_) <;> intro hg <;> simp only [hg] <;> (try simp at hg) <;> try omega)); all_goals try ((first | refine Zn ?_ | refine Zm ?_); apply hK; clear hK K; try simp only [AThen, ABlock])) | refine Zz ?_ | refine Zb ?_)
            all_goals try exact rfl
            (first | refine Zs ?_ | refine Z0 ?_ | refine Zd ?_); intro HK hk; simp [go_sem]; (repeat refine ⟨by omega, ?_⟩); (first | refine ACall.pur rfl (pc_32 l w ⟨3, 1, 0, 0, 0, 0, [], []⟩ lw hxw (by rw [hL]; simp) (by rw [hp]; simp) (by simp) (by simp) hn64) ?_ | refine ACallD.mk rfl (pc_32 l w ⟨3, 1, 0, 0, 0, 0, [], []⟩ lw hxw (by rw [hL]; simp) (by rw [hp]; simp) (by simp) (by simp) hn64) ?_); simp [go_sem, hrd, hxw]; (repeat refine ⟨by omega, ?_⟩); apply hk; clear hk HK; repeat' (first | ((first | refine Zs ?_ | refine Zl ?_ | refine Z0 ?_ | refine Zd ?_); intro HK hk; simp [go_sem, hrd, hxw]; (repeat refine ⟨by omega, ?_⟩); apply hk; clear hk HK) | ((first | refine Zg ?_ ?_ | refine Zh ?_ ?_ | refine Zp ?_ ?_ | refine Zk ?_ ?_) <;> intro hg <;> simp only [hg] <;> (try simp at hg) <;> try omega))
            all_goals try ((first | refine Zn ?_ | refine Zm ?_); apply hK; clear hK K; try simp only [AThen, ABlock])
            (first | refine Zs ?_ | refine Zl ?_ | refine Z0 ?_ | refine Zd ?_); intro HK hk; simp [go_sem]
            (first | refine ACall.pur rfl (pc_23 ⟨(w : Int), u⟩ (l.set w ⟨[tokN], lw.Part⟩) hm') ?_ | refine ACallD.mk rfl (pc_23 ⟨(w : Int), u⟩ (l.set w ⟨[tokN], lw.Part⟩) hm') ?_); simp [go_sem, hR, hxw]; (repeat refine ⟨by omega, ?_⟩); apply hk; clear hk HK; repeat' (first | ((first | refine Zs ?_ | refine Zl ?_ | refine Z0 ?_ | refine Zd ?_); intro HK hk; simp [go_sem, hR, hxw]; (repeat refine ⟨by omega, ?_⟩); apply hk; clear hk HK) | ((first | refine Zg ?_ ?_ | refine Zh ?_ ?_ | refine Zp ?_ ?_ | refine Zk ?_ ?_) <;> intro hg <;> simp only [hg] <;> (try simp at hg) <;> try omega))
            all_goals try ((first | refine Zn ?_ | refine Zm ?_); apply hK; clear hK K; try simp only [AThen, ABlock])
            have hwl : IntKind.i64.wrap (l.length : Int) = (l.length : Int) := wrapI (by omega) (by omega)
            unfold nextM at hny r5'
            by_cases hlast : w + 1 = l.length
            · rw [if_pos hlast] at hny r5'
              have hny' := (List.getElem?_eq_some_iff.1 hny).2
              have hlast' : (w : Int) + 1 = l.length := by omega
              cases hne : ny.L with
              | nil =>
                have hr := r5' hne
                simp only [Turn.mk.injEq] at hr
                obtain ⟨hv, rfl⟩ := hr
                obtain rfl : v = 0 := by omega
                all_goals repeat' (first | (refine Zc ?_ ?_ <;> intro h <;> (try simp [go_sem, r1, r3, hww, hwl, hlast, hlast', r4, hny, hny', hne, hn0] at h) <;> try omega) | (refine Zi ?_; try simp only [AThen, ABlock]) | (refine Ze ?_; simp +decide only [AThen, ABlock, reduceIte]) | (refine Zt ?_; (try simp [go_sem, r1, r3, hww, hwl, hlast, hlast', r4, hny, hny', hne, hn0]); all_goals (try simp [loR, lo]); all_goals try exact rfl) | ((first | refine Zq ?_ | refine Zr ?_ | refine Zw ?_ | refine Zx ?_); intro K hK; repeat' (first | ((first | refine Zs ?_ | refine Zl ?_ | refine Z0 ?_ | refine Zd ?_); intro HK hk; simp [go_sem, r1, r3, hww, hwl, hlast, hlast', r4, hny, hny', hne, hn0]; (repeat refine ⟨by omega, ?_⟩); apply hk; clear hk HK) | ((first | refine Zg ?_ ?_ | refine Zh ?_ ?_ | refine Zp ?_ ?_ | refine Zk ?_ ?_) <;> intro hg <;> simp only [hg] <;> (try simp at hg) <;> try omega)); all_goals try ((first | refine Zn ?_ | refine Zm ?_); apply hK; clear hK K; try simp only [AThen, ABlock])) | refine Zz ?_ | refine Zb ?_)
                all_goals try exact rfl
                (first | refine Zs ?_ | refine Zl ?_ | refine Z0 ?_ | refine Zd ?_); intro HK hk; simp [go_sem, eqGuard_turn]
                refine .inr ⟨aggEq_self ⟨0, 0⟩, ?_⟩
                (repeat refine ⟨by omega, ?_⟩); apply hk; clear hk HK; repeat' (first | ((first | refine Zs ?_ | refine Zl ?_ | refine Z0 ?_ | refine Zd ?_); intro HK hk; simp [go_sem]; (repeat refine ⟨by omega, ?_⟩); apply hk; clear hk HK) | ((first | refine Zg ?_ ?_ | refine Zh ?_ ?_ | refine Zp ?_ ?_ | refine Zk ?_ ?_) <;> intro hg <;> simp only [hg] <;> (try simp at hg) <;> try omega))
                all_goals try ((first | refine Zn ?_ | refine Zm ?_); apply hK; clear hK K; try simp only [AThen, ABlock])
                all_goals repeat' (first | (refine Zc ?_ ?_ <;> intro h <;> (try simp [go_sem] at h) <;> try omega) | (refine Zi ?_; try simp only [AThen, ABlock]) | (refine Ze ?_; simp +decide only [AThen, ABlock, reduceIte]) | (refine Zt ?_; (try simp [go_sem]); all_goals (try simp [loR, lo]); all_goals try exact rfl) | ((first | refine Zq ?_ | refine Zr ?_ | refine Zw ?_ | refine Zx ?_); intro K hK; repeat' (first | ((first | refine Zs ?_ | refine Zl ?_ | refine Z0 ?_ | refine Zd ?_); intro HK hk; simp [go_sem]; (repeat refine ⟨by omega, ?_⟩); apply hk; clear hk HK) | ((first | refine Zg ?_ ?_ | refine Zh ?_ ?_ | refine Zp ?_ ?_ | refine Zk ?_ ?_) <;> intro hg <;> simp only [hg] <;> (try simp at hg) <;> try omega)); all_goals try ((first | refine Zn ?_ | refine Zm ?_); apply hK; clear hK K; try simp only [AThen, ABlock])) | refine Zz ?_ | refine Zb ?_)
                all_goals try exact rfl
              | cons a b =>
                all_goals repeat' (first | (refine Zc ?_ ?_ <;> intro h <;> (try simp [go_sem, r1, r3, hww, hwl, hlast, hlast', r4, hny, hny', hne, hn0] at h) <;> try omega) | (refine Zi ?_; try simp only [AThen, ABlock]) | (refine Ze ?_; simp +decide only [AThen, ABlock, reduceIte]) | (refine Zt ?_; (try simp [go_sem, r1, r3, hww, hwl, hlast, hlast', r4, hny, hny', hne, hn0]); all_goals (try simp [loR, lo]); all_goals try exact rfl) | ((first | refine Zq ?_ | refine Zr ?_ | refine Zw ?_ | refine Zx ?_); intro K hK; repeat' (first | ((first | refine Zs ?_ | refine Zl ?_ | refine Z0 ?_ | refine Zd ?_); intro HK hk; simp [go_sem, r1, r3, hww, hwl, hlast, hlast', r4, hny, hny', hne, hn0]; (repeat refine ⟨by omega, ?_⟩); apply hk; clear hk HK) | ((first | refine Zg ?_ ?_ | refine Zh ?_ ?_ | refine Zp ?_ ?_ | refine Zk ?_ ?_) <;> intro hg <;> simp only [hg] <;> (try simp at hg) <;> try omega)); all_goals try ((first | refine Zn ?_ | refine Zm ?_); apply hK; clear hK K; try simp only [AThen, ABlock])) | refine Zz ?_ | refine Zb ?_)
                all_goals try exact rfl
            · rw [if_neg hlast] at hny r5'
              obtain ⟨nx, hnx⟩ : ∃ nx, nx = w + 1 := ⟨_, rfl⟩
              rw [← hnx] at hny r5' hlast
              have hww' : IntKind.i64.wrap ((w : Int) + 1) = (nx : Int) := by rw [hww]; omega
              clear hww r5 hnx
              cases hne : ny.L with
              | nil =>
                have hr := r5' hne
                simp only [Turn.mk.injEq] at hr
                obtain ⟨hv, rfl⟩ := hr
                obtain rfl : v = nx := by omega
                all_goals repeat' (first | (refine Zc ?_ ?_ <;> intro h <;> (try simp [go_sem, r1, r3, hww', hwl, hlast, r4, hny, hne] at h) <;> try omega) | (refine Zi ?_; try simp only [AThen, ABlock]) | (refine Ze ?_; simp +decide only [AThen, ABlock, reduceIte]) | (refine Zt ?_; (try simp [go_sem, r1, r3, hww', hwl, hlast, r4, hny, hne]); all_goals (try simp [loR, lo]); all_goals try exact rfl) | ((first | refine Zq ?_ | refine Zr ?_ | refine Zw ?_ | refine Zx ?_); intro K hK; repeat' (first | ((first | refine Zs ?_ | refine Zl ?_ | refine Z0 ?_ | refine Zd ?_); intro HK hk; simp [go_sem, r1, r3, hww', hwl, hlast, r4, hny, hne]; (repeat refine ⟨by omega, ?_⟩); apply hk; clear hk HK) | ((first | refine Zg ?_ ?_ | refine Zh ?_ ?_ | refine Zp ?_ ?_ | refine Zk ?_ ?_) <;> intro hg <;> simp only [hg] <;> (try simp at hg) <;> try omega)); all_goals try ((first | refine Zn ?_ | refine Zm ?_); apply hK; clear hK K; try simp only [AThen, ABlock])) | refine Zz ?_ | refine Zb ?_)
                all_goals try exact rfl
                (first | refine Zs ?_ | refine Zl ?_ | refine Z0 ?_ | refine Zd ?_); intro HK hk; simp [go_sem, eqGuard_turn]
                refine .inr ⟨aggEq_self ⟨(v : Int), 0⟩, ?_⟩
                (repeat refine ⟨by omega, ?_⟩); apply hk; clear hk HK; repeat' (first | ((first | refine Zs ?_ | refine Zl ?_ | refine Z0 ?_ | refine Zd ?_); intro HK hk; simp [go_sem]; (repeat refine ⟨by omega, ?_⟩); apply hk; clear hk HK) | ((first | refine Zg ?_ ?_ | refine Zh ?_ ?_ | refine Zp ?_ ?_ | refine Zk ?_ ?_) <;> intro hg <;> simp only [hg] <;> (try simp at hg) <;> try omega))
                all_goals try ((first | refine Zn ?_ | refine Zm ?_); apply hK; clear hK K; try simp only [AThen, ABlock])
                all_goals repeat' (first | (refine Zc ?_ ?_ <;> intro h <;> (try simp [go_sem] at h) <;> try omega) | (refine Zi ?_; try simp only [AThen, ABlock]) | (refine Ze ?_; simp +decide only [AThen, ABlock, reduceIte]) | (refine Zt ?_; (try simp [go_sem]); all_goals (try simp [loR, lo]); all_goals try exact rfl) | ((first | refine Zq ?_ | refine Zr ?_ | refine Zw ?_ | refine Zx ?_); intro K hK; repeat' (first | ((first | refine Zs ?_ | refine Zl ?_ | refine Z0 ?_ | refine Zd ?_); intro HK hk; simp [go_sem]; (repeat refine ⟨by omega, ?_⟩); apply hk; clear hk HK) | ((first | refine Zg ?_ ?_ | refine Zh ?_ ?_ | refine Zp ?_ ?_ | refine Zk ?_ ?_) <;> intro hg <;> simp only [hg] <;> (try simp at hg) <;> try omega)); all_goals try ((first | refine Zn ?_ | refine Zm ?_); apply hK; clear hK K; try simp only [AThen, ABlock])) | refine Zz ?_ | refine Zb ?_)
                all_goals try exact rfl
              | cons a b =>
                all_goals repeat' (first | (refine Zc ?_ ?_ <;> intro h <;> (try simp [go_sem, r1, r3, hww', hwl, hlast, r4, hny, hne] at h) <;> try omega) | (refine Zi ?_; try simp only [AThen, ABlock]) | (refine Ze ?_; simp +decide only [AThen, ABlock, reduceIte]) | (refine Zt ?_; (try simp [go_sem, r1, r3, hww', hwl, hlast, r4, hny, hne]); all_goals (try simp [loR, lo]); all_goals try exact rfl) | ((first | refine Zq ?_ | refine Zr ?_ | refine Zw ?_ | refine Zx ?_); intro K hK; repeat' (first | ((first | refine Zs ?_ | refine Zl ?_ | refine Z0 ?_ | refine Zd ?_); intro HK hk; simp [go_sem, r1, r3, hww', hwl, hlast, r4, hny, hne]; (repeat refine ⟨by omega, ?_⟩); apply hk; clear hk HK) | ((first | refine Zg ?_ ?_ | refine Zh ?_ ?_ | refine Zp ?_ ?_ | refine Zk ?_ ?_) <;> intro hg <;> simp only [hg] <;> (try simp at hg) <;> try omega)); all_goals try ((first | refine Zn ?_ | refine Zm ?_); apply hK; clear hK K; try simp only [AThen, ABlock])) | refine Zz ?_ | refine Zb ?_)
                all_goals try exact rfl
        · have hL' : 0 < lw.L.length := List.length_pos_iff.2 hL
          all_goals repeat' (first | (refine Zc ?_ ?_ <;> intro h <;> (try simp [go_sem, hxw, hL, hL'] at h) <;> try omega) | (refine Zi ?_; try simp only [AThen, ABlock]) | (refine Ze ?_; simp +decide only [AThen, ABlock, reduceIte]) | (refine Zt ?_; (try simp [go_sem, hxw, hL, hL']); all_goals (try simp [loR, lo]); all_goals try exact rfl) | ((first | refine Zq ?_ | refine Zr ?_ | refine Zw ?_ | refine Zx ?_); intro K hK; repeat' (first | ((first | refine Zs ?_ | refine Zl ?_ | refine Z0 ?_ | refine Zd ?_); intro HK hk; simp [go_sem, hxw, hL, hL']; (repeat refine ⟨by omega, ?_⟩); apply hk; clear hk HK) | ((first | refine Zg ?_ ?_ | refine Zh ?_ ?_ | refine Zp ?_ ?_ | refine Zk ?_ ?_) <;> intro hg <;> simp only [hg] <;> (try simp at hg) <;> try omega)); all_goals try ((first | refine Zn ?_ | refine Zm ?_); apply hK; clear hK K; try simp only [AThen, ABlock])) | refine Zz ?_ | refine Zb ?_)
          all_goals try exact rfl
          all_goals (exfalso; first | exact hL ‹_› | omega)
end Go.Proofs.Ytogappokeheilaa
