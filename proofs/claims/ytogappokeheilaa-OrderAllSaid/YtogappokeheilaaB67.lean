import Derived.Test.YtogappokeheilaaB61
import Derived.Test.YtogappokeheilaaB65
import Derived.Test.YtogappokeheilaaAw32
set_option linter.unusedVariables false
set_option linter.unusedSimpArgs false
set_option maxRecDepth 100000
set_option maxHeartbeats 0
namespace Go.Proofs.Ytogappokeheilaa
open Go.Aw

/-! A walk, and then the rest. -/
def manyN (l : List Lane) : Nat → Nat
  | 0 => 0
  | m + 1 => manyN l m + manyL (l.getD m zeroL).L
theorem manyN_sum (l : List Lane) : ∀ n, manyN l n = sumN (fun i => (msgB (l.getD i zeroL).L).length) n
  | 0 => rfl
  | n + 1 => by rw [manyN, sumN, manyN_sum l n, msgB_len]
theorem outB_restL (i j : Nat) (L : List Entry) : outB (restL j L) i = if j = i then msgB L else [] := by
  unfold outB restL msgB
  by_cases h : j = i
  · subst h
    rw [if_pos rfl, List.filter_eq_self.2 (fun x hx => by obtain ⟨e, _, rfl⟩ := List.mem_map.1 hx; simp [frmP]), List.map_map]; rfl
  · rw [if_neg h, List.filter_eq_nil_iff.2 (fun x hx => by obtain ⟨e, _, rfl⟩ := List.mem_map.1 hx; simp [frmP]; omega)]; rfl
theorem outB_rest (x : List Lane) (i : Nat) : ∀ m, outB (restN x m) i = if i < m then msgB (x.getD i zeroL).L else []
  | 0 => by rw [if_neg (by omega)]; rfl
  | m + 1 => by
    rw [restN, outB_two, outB_rest x i m, outB_restL]
    by_cases h1 : m = i
    · subst h1
      rw [if_neg (by omega), if_pos rfl, if_pos (by omega)]; rfl
    · rw [if_neg h1, List.append_nil]
      by_cases h2 : i < m
      · rw [if_pos h2, if_pos (by omega)]
      · rw [if_neg h2, if_neg (by omega)]
theorem right_tail {e : Entry} {r : List Entry} {p : Part} (h : rightF ⟨e :: r, p⟩ = true) : rightF ⟨r, p⟩ = true := by
  have hp := (lowR_all ((right_iff _).1 h).1).1
  have h2 := right_pop (n := e.Seq) h
  have hp : ((e :: r).map (·.Seq)).Pairwise (· < ·) := hp
  rw [List.map_cons, List.pairwise_cons] at hp
  have hr : popN e.Seq (e :: r) (e :: r).length = r := by
    rw [popN_all, List.filter_cons_of_neg (p := fun x => !seqP e.Seq x) (by simp [seqP])]
    exact List.filter_eq_self.2 fun x hx => by
      have := hp.1 x.Seq (List.mem_map.2 ⟨x, hx, rfl⟩)
      have hn : ¬ x.Seq = e.Seq := by omega
      simp [seqP, hn]
  have hq : popF ⟨e :: r, p⟩ e.Seq = ⟨r, p⟩ := by
    show (⟨popN e.Seq (e :: r) (e :: r).length, p⟩ : Lane) = _
    rw [hr]
  rw [hq] at h2; exact h2
theorem right_walkS {s : WS} {n : Nat} (hi : WInv n s) (h : ∀ x ∈ s.x, rightF x = true) : ∀ j, ∀ x ∈ (walkS s j).x, rightF x = true
  | 0 => h
  | j + 1 => by
    have ih := right_walkS hi h j
    rw [walkS]
    cases hq : wNext (walkS s j) with
    | none => exact ih
    | some s' =>
      obtain ⟨w, p, e, r, _, _, hx, rfl, _⟩ := wnext_some (walkS_inv hi j) hq
      exact okset ih (right_tail (ih _ (List.mem_of_getElem? hx)))
theorem walkE_ok {t : Turn} {l : List Lane} (hm : mayT t l = true) (g : Nat) : KInv l (walkE g t l) ∧ (∀ x ∈ (walkE g t l).x, rightF x = true) ∧ (walkE g t l).o.length ≤ 500000 := by
  have hQ := qinv_start hm
  obtain ⟨hW, _, _⟩ := winv_start hm
  unfold walkE
  split
  · exact ⟨kinv_walkQ hQ (kinv_start t l) (mu l), fun x hx => ((walkQ_inv hQ (mu l)).ok x hx).1, by have := (walkQ_inv hQ (mu l)).out; show (walkQ _ _).o.length ≤ _; omega⟩
  · exact ⟨kinv_walkS hW (kinv_start t l) (tot l), right_walkS hW (fun x hx => (hQ.ok x hx).1) (tot l), by have := (walkS_inv hW (tot l)).out; show (walkS _ _).o.length ≤ _; omega⟩
theorem walkE_80 {t : Turn} {l : List Lane} (hm : mayT t l = true) (g : Nat) : ∀ x ∈ (walkE g t l).x, rightF x = true ∧ x.L.length ≤ 80 := fun x hx => by
  obtain ⟨hK, hR, _⟩ := walkE_ok hm g
  obtain ⟨hW, _, _⟩ := winv_start hm
  refine ⟨hR x hx, ?_⟩
  obtain ⟨i, hi, rfl⟩ := List.getElem_of_mem hx
  have hl : (walkE g t l).x.length = l.length := hK.len
  have h1 : l[i]? = some l[i] := List.getElem?_eq_getElem (by omega)
  have := (hK.sub i _ _ h1 (List.getElem?_eq_getElem hi)).1
  exact Nat.le_trans this (hW.ok l[i] (List.getElem_mem (show i < l.length by omega))).2
theorem rest_frm (x : List Lane) (n : Nat) : ∀ m, m ≤ n → ∀ d ∈ restN x m, ∃ c : Nat, d.From = c ∧ c < n
  | 0, _, d, hd => by cases hd
  | m + 1, hm, d, hd => by
    rcases List.mem_append.1 hd with h | h
    · exact rest_frm x n m (by omega) d h
    · obtain ⟨e, _, rfl⟩ := List.mem_map.1 h
      exact ⟨m, rfl, by omega⟩
/-- All that is delivered: of each member, what waited. -/
theorem all_out {l : List Lane} {s : WS} (hK : KInv l s) (i : Nat) (ln : Lane) (hx : l[i]? = some ln) : outB (s.o ++ restN s.x l.length) i = msgB ln.L := by
  have hil := (List.getElem?_eq_some_iff.1 hx).1
  have hl := hK.len
  have hs : s.x[i]? = some s.x[i] := List.getElem?_eq_getElem (by omega)
  rw [outB_two, outB_rest, if_pos hil, hK.get i ln _ hx hs, List.getD_eq_getElem?_getD, hs]; rfl
theorem all_len {l : List Lane} {s : WS} (hK : KInv l s) : (s.o ++ restN s.x l.length).length = manyN l l.length := by
  rw [len_sum l.length _ fun d hd => ?_, manyN_sum]
  · exact sumN_congr _ fun i hi => by
      have hx : l[i]? = some l[i] := List.getElem?_eq_getElem hi
      rw [all_out hK i _ hx, List.getD_eq_getElem?_getD, hx]; rfl
  · rcases List.mem_append.1 hd with h | h
    · exact hK.frm d h
    · exact rest_frm s.x l.length l.length (Nat.le_refl _) d h
theorem manyN_le {l : List Lane} (h : ∀ x ∈ l, x.L.length ≤ 80) : ∀ m, manyN l m ≤ 80 * m
  | 0 => Nat.le_refl _
  | m + 1 => by
    have ih := manyN_le h m
    have h1 : manyL (l.getD m zeroL).L ≤ 80 := by
      by_cases hm : m < l.length
      · have hx : l.getD m zeroL = l[m] := by rw [List.getD_eq_getElem?_getD, List.getElem?_eq_getElem hm]; rfl
        rw [hx]; exact Nat.le_trans (many_le _) (h _ (List.getElem_mem hm))
      · have hx : l.getD m zeroL = zeroL := by rw [List.getD_eq_getElem?_getD, List.getElem?_eq_none (by omega)]; rfl
        rw [hx]; simp [manyL, zeroL]
    rw [manyN]; omega
theorem pc_18 (g : UInt8) (t : Turn) (l : List Lane) : PC Try.prog 18 [(false, [.int .u8 g.toNat]), bTu t, bLs l] (.one (bB true)) := by
  have hwg : IntKind.i64.wrap (g.toNat : Int) = (g.toNat : Int) := wrapI (by omega) (by have := g.toNat_lt; omega)
  obtain ⟨g0, hg, hg2⟩ : ∃ g0 : Nat, (g.toNat : Int).tmod 2 = (g0 : Int) ∧ g0 < 2 := ⟨g.toNat % 2, by rw [Int.tmod_eq_emod_of_nonneg (by omega)]; omega, by omega⟩
  refine PC.of_ACall (ACall.of_AW (fun args w => Try.call18 args w) Try.func18 rfl (by simp [Try.ntmps18]) ?_)
  simp only [Try.ntmps18, List.length_nil]
  all_goals repeat' (first | (refine Zc ?_ ?_ <;> intro h <;> (try simp [go_sem] at h) <;> try omega) | (refine Zi ?_; try simp only [AThen, ABlock]) | (refine Ze ?_; simp +decide only [AThen, ABlock, reduceIte]) | (refine Zt ?_; (try simp [go_sem]); all_goals (try simp [loR, lo]); all_goals try exact rfl) | ((first | refine Zq ?_ | refine Zr ?_ | refine Zw ?_ | refine Zx ?_); intro K hK; repeat' (first | ((first | with_reducible refine Z0 ?_ | with_reducible refine Zd ?_ | refine Zs ?_ | refine Zl ?_); intro HK hk; simp [go_sem]; (repeat refine ⟨by omega, ?_⟩); apply hk; clear hk HK) | ((first | ((with_reducible refine Gd ?_); first | refine Zh ?_ ?_ | refine Zk ?_ ?_) | ((with_reducible refine Ga ?_); first | refine Zg ?_ ?_ | refine Zp ?_ ?_)) <;> intro hg <;> simp only [hg] <;> (try simp at hg) <;> try omega)); all_goals try ((first | with_reducible refine Zn ?_ | refine Zm ?_); apply hK; clear hK K; try simp only [AThen, ABlock])) | refine Zz ?_ | refine Zb ?_)
  all_goals try exact rfl
  (first | with_reducible refine Z0 ?_ | with_reducible refine Zd ?_ | refine Zs ?_); intro HK hk; simp [go_sem]; (repeat refine ⟨by omega, ?_⟩); (first | refine ACall.pur rfl (pc_66) ?_ | refine ACallD.mk rfl (pc_66) ?_); simp [go_sem]; (repeat refine ⟨by omega, ?_⟩); apply hk; clear hk HK; repeat' (first | ((first | with_reducible refine Z0 ?_ | with_reducible refine Zd ?_ | refine Zs ?_ | refine Zl ?_); intro HK hk; simp [go_sem]; (repeat refine ⟨by omega, ?_⟩); apply hk; clear hk HK) | ((first | ((with_reducible refine Gd ?_); first | refine Zh ?_ ?_ | refine Zk ?_ ?_) | ((with_reducible refine Ga ?_); first | refine Zg ?_ ?_ | refine Zp ?_ ?_)) <;> intro hg <;> simp only [hg] <;> (try simp at hg) <;> try omega))
  all_goals try ((first | with_reducible refine Zn ?_ | refine Zm ?_); apply hK; clear hK K; try simp only [AThen, ABlock])
  all_goals repeat' (first | (refine Zc ?_ ?_ <;> intro h <;> (try simp [go_sem] at h) <;> try omega) | (refine Zi ?_; try simp only [AThen, ABlock]) | (refine Ze ?_; simp +decide only [AThen, ABlock, reduceIte]) | (refine Zt ?_; (try simp [go_sem]); all_goals (try simp [loR, lo]); all_goals try exact rfl) | ((first | refine Zq ?_ | refine Zr ?_ | refine Zw ?_ | refine Zx ?_); intro K hK; repeat' (first | ((first | with_reducible refine Z0 ?_ | with_reducible refine Zd ?_ | refine Zs ?_ | refine Zl ?_); intro HK hk; simp [go_sem]; (repeat refine ⟨by omega, ?_⟩); apply hk; clear hk HK) | ((first | ((with_reducible refine Gd ?_); first | refine Zh ?_ ?_ | refine Zk ?_ ?_) | ((with_reducible refine Ga ?_); first | refine Zg ?_ ?_ | refine Zp ?_ ?_)) <;> intro hg <;> simp only [hg] <;> (try simp at hg) <;> try omega)); all_goals try ((first | with_reducible refine Zn ?_ | refine Zm ?_); apply hK; clear hK K; try simp only [AThen, ABlock])) | refine Zz ?_ | refine Zb ?_)
  all_goals try exact rfl
  (first | with_reducible refine Z0 ?_ | with_reducible refine Zd ?_ | refine Zs ?_); intro HK hk; simp [go_sem]; (repeat refine ⟨by omega, ?_⟩); (first | refine ACall.pur rfl (pc_22 t l) ?_ | refine ACallD.mk rfl (pc_22 t l) ?_); simp [go_sem]; (repeat refine ⟨by omega, ?_⟩); apply hk; clear hk HK; repeat' (first | ((first | with_reducible refine Z0 ?_ | with_reducible refine Zd ?_ | refine Zs ?_ | refine Zl ?_); intro HK hk; simp [go_sem]; (repeat refine ⟨by omega, ?_⟩); apply hk; clear hk HK) | ((first | ((with_reducible refine Gd ?_); first | refine Zh ?_ ?_ | refine Zk ?_ ?_) | ((with_reducible refine Ga ?_); first | refine Zg ?_ ?_ | refine Zp ?_ ?_)) <;> intro hg <;> simp only [hg] <;> (try simp at hg) <;> try omega))
  all_goals try ((first | with_reducible refine Zn ?_ | refine Zm ?_); apply hK; clear hK K; try simp only [AThen, ABlock])
  cases hm : mayT t l with
  | false =>
    all_goals repeat' (first | (refine Zc ?_ ?_ <;> intro h <;> (try simp [go_sem, hm] at h) <;> try omega) | (refine Zi ?_; try simp only [AThen, ABlock]) | (refine Ze ?_; simp +decide only [AThen, ABlock, reduceIte]) | (refine Zt ?_; (try simp [go_sem, hm]); all_goals (try simp [loR, lo]); all_goals try exact rfl) | ((first | refine Zq ?_ | refine Zr ?_ | refine Zw ?_ | refine Zx ?_); intro K hK; repeat' (first | ((first | with_reducible refine Z0 ?_ | with_reducible refine Zd ?_ | refine Zs ?_ | refine Zl ?_); intro HK hk; simp [go_sem, hm]; (repeat refine ⟨by omega, ?_⟩); apply hk; clear hk HK) | ((first | ((with_reducible refine Gd ?_); first | refine Zh ?_ ?_ | refine Zk ?_ ?_) | ((with_reducible refine Ga ?_); first | refine Zg ?_ ?_ | refine Zp ?_ ?_)) <;> intro hg <;> simp only [hg] <;> (try simp at hg) <;> try omega)); all_goals try ((first | with_reducible refine Zn ?_ | refine Zm ?_); apply hK; clear hK K; try simp only [AThen, ABlock])) | refine Zz ?_ | refine Zb ?_)
    all_goals try exact rfl
  | true =>
    obtain ⟨hi0, hn2, hn64⟩ := winv_start hm
    have hok2 : ∀ x ∈ l, x.L.length ≤ 80 := fun x hx => (hi0.ok x hx).2
    clear hi0
    obtain ⟨hK, _, hRo⟩ := walkE_ok hm g0
    have hR80 := walkE_80 hm g0
    have hao := all_out hK
    have hal := all_len hK
    have hRl := hK.len
    clear hK
    generalize hR : walkE g0 t l = R at *
    obtain ⟨⟨rw_, ru⟩, rx, ro⟩ := R
    simp only at hRo hR80 hao hal hRl
    have h71 : PC Try.prog 71 [bLs rx] (.tup [bLs (List.replicate l.length zeroL), bDs (restN rx l.length)]) := by
      have := pc_71 rx hR80 (by omega)
      rw [hRl] at this; exact this
    obtain ⟨rr, hrr⟩ : ∃ rr, rr = restN rx l.length := ⟨_, rfl⟩
    have hrl : rr.length ≤ 80 * l.length := by rw [hrr]; exact restN_le (fun x hx => (hR80 x hx).2) _
    rw [← hrr] at h71 hao hal
    clear hrr hR80
    all_goals repeat' (first | (refine Zc ?_ ?_ <;> intro h <;> (try simp [go_sem, hm, hwg, hg] at h) <;> try omega) | (refine Zi ?_; try simp only [AThen, ABlock]) | (refine Ze ?_; simp +decide only [AThen, ABlock, reduceIte]) | (refine Zt ?_; (try simp [go_sem, hm, hwg, hg]); all_goals (try simp [loR, lo]); all_goals try exact rfl) | ((first | refine Zq ?_ | refine Zr ?_ | refine Zw ?_ | refine Zx ?_); intro K hK; repeat' (first | ((first | with_reducible refine Z0 ?_ | with_reducible refine Zd ?_ | refine Zs ?_ | refine Zl ?_); intro HK hk; simp [go_sem, hm, hwg, hg]; (repeat refine ⟨by omega, ?_⟩); apply hk; clear hk HK) | ((first | ((with_reducible refine Gd ?_); first | refine Zh ?_ ?_ | refine Zk ?_ ?_) | ((with_reducible refine Ga ?_); first | refine Zg ?_ ?_ | refine Zp ?_ ?_)) <;> intro hg <;> simp only [hg] <;> (try simp at hg) <;> try omega)); all_goals try ((first | with_reducible refine Zn ?_ | refine Zm ?_); apply hK; clear hK K; try simp only [AThen, ABlock])) | refine Zz ?_ | refine Zb ?_)
    all_goals try exact rfl
    (first | with_reducible refine Z0 ?_ | with_reducible refine Zd ?_ | refine Zs ?_); intro HK hk; simp [go_sem]; (repeat refine ⟨by omega, ?_⟩); (first | refine ACall.pur rfl (pc_67 g0 hg2 t l hm) ?_ | refine ACallD.mk rfl (pc_67 g0 hg2 t l hm) ?_); simp [go_sem, hR]; (repeat refine ⟨by omega, ?_⟩); apply hk; clear hk HK; repeat' (first | ((first | with_reducible refine Z0 ?_ | with_reducible refine Zd ?_ | refine Zs ?_ | refine Zl ?_); intro HK hk; simp [go_sem, hR]; (repeat refine ⟨by omega, ?_⟩); apply hk; clear hk HK) | ((first | ((with_reducible refine Gd ?_); first | refine Zh ?_ ?_ | refine Zk ?_ ?_) | ((with_reducible refine Ga ?_); first | refine Zg ?_ ?_ | refine Zp ?_ ?_)) <;> intro hg <;> simp only [hg] <;> (try simp at hg) <;> try omega))
    all_goals try ((first | with_reducible refine Zn ?_ | refine Zm ?_); apply hK; clear hK K; try simp only [AThen, ABlock])
    all_goals repeat' (first | (refine Zc ?_ ?_ <;> intro h <;> (try simp [go_sem] at h) <;> try omega) | (refine Zi ?_; try simp only [AThen, ABlock]) | (refine Ze ?_; simp +decide only [AThen, ABlock, reduceIte]) | (refine Zt ?_; (try simp [go_sem]); all_goals (try simp [loR, lo]); all_goals try exact rfl) | ((first | refine Zq ?_ | refine Zr ?_ | refine Zw ?_ | refine Zx ?_); intro K hK; repeat' (first | ((first | with_reducible refine Z0 ?_ | with_reducible refine Zd ?_ | refine Zs ?_ | refine Zl ?_); intro HK hk; simp [go_sem]; (repeat refine ⟨by omega, ?_⟩); apply hk; clear hk HK) | ((first | ((with_reducible refine Gd ?_); first | refine Zh ?_ ?_ | refine Zk ?_ ?_) | ((with_reducible refine Ga ?_); first | refine Zg ?_ ?_ | refine Zp ?_ ?_)) <;> intro hg <;> simp only [hg] <;> (try simp at hg) <;> try omega)); all_goals try ((first | with_reducible refine Zn ?_ | refine Zm ?_); apply hK; clear hK K; try simp only [AThen, ABlock])) | refine Zz ?_ | refine Zb ?_)
    all_goals try exact rfl
    (first | with_reducible refine Z0 ?_ | with_reducible refine Zd ?_ | refine Zs ?_); intro HK hk; simp [go_sem]; (repeat refine ⟨by omega, ?_⟩); (first | refine ACall.pur rfl (h71) ?_ | refine ACallD.mk rfl (h71) ?_); simp [go_sem]; (repeat refine ⟨by omega, ?_⟩); apply hk; clear hk HK; repeat' (first | ((first | with_reducible refine Z0 ?_ | with_reducible refine Zd ?_ | refine Zs ?_ | refine Zl ?_); intro HK hk; simp [go_sem]; (repeat refine ⟨by omega, ?_⟩); apply hk; clear hk HK) | ((first | ((with_reducible refine Gd ?_); first | refine Zh ?_ ?_ | refine Zk ?_ ?_) | ((with_reducible refine Ga ?_); first | refine Zg ?_ ?_ | refine Zp ?_ ?_)) <;> intro hg <;> simp only [hg] <;> (try simp at hg) <;> try omega))
    all_goals try ((first | with_reducible refine Zn ?_ | refine Zm ?_); apply hK; clear hK K; try simp only [AThen, ABlock])
    all_goals repeat' (first | (refine Zc ?_ ?_ <;> intro h <;> (try simp [go_sem] at h) <;> try omega) | (refine Zi ?_; try simp only [AThen, ABlock]) | (refine Ze ?_; simp +decide only [AThen, ABlock, reduceIte]) | (refine Zt ?_; (try simp [go_sem]); all_goals (try simp [loR, lo]); all_goals try exact rfl) | ((first | refine Zq ?_ | refine Zr ?_ | refine Zw ?_ | refine Zx ?_); intro K hK; repeat' (first | ((first | with_reducible refine Z0 ?_ | with_reducible refine Zd ?_ | refine Zs ?_ | refine Zl ?_); intro HK hk; simp [go_sem]; (repeat refine ⟨by omega, ?_⟩); apply hk; clear hk HK) | ((first | ((with_reducible refine Gd ?_); first | refine Zh ?_ ?_ | refine Zk ?_ ?_) | ((with_reducible refine Ga ?_); first | refine Zg ?_ ?_ | refine Zp ?_ ?_)) <;> intro hg <;> simp only [hg] <;> (try simp at hg) <;> try omega)); all_goals try ((first | with_reducible refine Zn ?_ | refine Zm ?_); apply hK; clear hK K; try simp only [AThen, ABlock])) | refine Zz ?_ | refine Zb ?_)
    all_goals try exact rfl
    obtain ⟨al, hall⟩ : ∃ al, al = ro ++ rr := ⟨_, rfl⟩
    have hall' : ro.map delivP ++ rr.map delivP = al.map delivP := by rw [hall, List.map_append]
    have hall2 : ro.length + rr.length = al.length := by rw [hall, List.length_append]
    rw [← hall] at hal hao
    have hal5 : al.length ≤ 600000 := by omega
    rw [hall', hall2]
    refine AW.weak (Sub.frz 13 2 rfl (by simp [getS])) ?_
    clear hall' hall2 hall hR h71 hRo hrl
    have hmn := manyN_le hok2
    obtain ⟨nl, hnl⟩ : ∃ nl, nl = List.replicate l.length zeroL := ⟨_, rfl⟩
    have hnll : nl.length = l.length := by rw [hnl, List.length_replicate]
    have hng : ∀ i, i < l.length → nl[i]? = some ⟨[], ⟨0, 0, 0, []⟩⟩ := fun i hi => by rw [hnl, List.getElem?_replicate, if_pos hi]; rfl
    rw [← hnl]
    clear hnl
    refine AW.upto l.length (fun _ => True) (fun i => [(15, .c (.p (.int .i64 i))), (14, .c (.p (.int .i64 (manyN l i)))), (13, .c (.p (dvP al))), (11, .c (.p (lnP nl))), (7, .c (.p (.bool true))), (2, .c (.p (lnP l)))]) (fun _ => []) trivial ?_ fun i hi _ => ?_
    · refine Sub.of 0 (by simp) (by first | (simp [manyN]; done) | (simp [go_sem, manyN]; done)) (by simp [go_sem]) ?_ (by simp [go_sem])
      simp [go_sem, manyN]
    · have hwi := wrapS (show (i : Int) < 9223372036854775807 by omega)
      have hmi := hmn i
      by_cases hil : i < l.length
      · obtain ⟨ln, hx⟩ : ∃ ln, l[i]? = some ln := ⟨_, List.getElem?_eq_getElem hil⟩
        have hgd : l.getD i zeroL = ln := by rw [List.getD_eq_getElem?_getD, hx]; rfl
        have hl80 := hok2 ln (List.mem_of_getElem? hx)
        have hms : manyN l (i + 1) = manyN l i + manyL ln.L := by rw [manyN, hgd]
        have ho := hao i ln hx
        have hrx2 := hng i hil
        obtain ⟨W, hW⟩ : ∃ W, W = manyN l i := ⟨_, rfl⟩
        rw [← hW] at hmi hms
        all_goals repeat' (first | (refine Zc ?_ ?_ <;> intro h <;> (try simp [go_sem, ← hW] at h) <;> try omega) | (refine Zi ?_; try simp only [AThen, ABlock]) | (refine Ze ?_; simp +decide only [AThen, ABlock, reduceIte]) | (refine Zt ?_; (try simp [go_sem, ← hW]); all_goals (try simp [loR, lo]); all_goals try exact rfl) | ((first | refine Zq ?_ | refine Zr ?_ | refine Zw ?_ | refine Zx ?_); intro K hK; repeat' (first | ((first | with_reducible refine Z0 ?_ | with_reducible refine Zd ?_ | refine Zs ?_ | refine Zl ?_); intro HK hk; simp [go_sem, ← hW]; (repeat refine ⟨by omega, ?_⟩); apply hk; clear hk HK) | ((first | ((with_reducible refine Gd ?_); first | refine Zh ?_ ?_ | refine Zk ?_ ?_) | ((with_reducible refine Ga ?_); first | refine Zg ?_ ?_ | refine Zp ?_ ?_)) <;> intro hg <;> simp only [hg] <;> (try simp at hg) <;> try omega)); all_goals try ((first | with_reducible refine Zn ?_ | refine Zm ?_); apply hK; clear hK K; try simp only [AThen, ABlock])) | refine Zz ?_ | refine Zb ?_)
        all_goals try exact rfl
        refine AW.loop (X := {p : Nat × Nat // p.1 ≤ ln.L.length ∧ p.2 ≤ al.length ∧ cntD al i p.2 = manyK ln.L p.1}) (fun p => [(17, .c (.p (.int .i64 p.1.1))), (16, .c (.p (.int .i64 p.1.2))), (15, .c (.p (.int .i64 i))), (14, .c (.p (.int .i64 ((W + manyK ln.L p.1.1 : Nat) : Int)))), (13, .c (.p (dvP al))), (11, .c (.p (lnP nl))), (7, .c (.p (.bool true))), (2, .c (.p (lnP l)))])
          (fun _ => []) (fun p => ln.L.length - p.1.1) ⟨(0, 0), Nat.zero_le _, Nat.zero_le _, rfl⟩ ?_ ?_
        · refine Sub.of 0 (by simp) (by first | (simp [manyK]; done) | (simp [go_sem, manyK]; done)) (by simp [go_sem]) ?_ (by simp [go_sem])
          simp [go_sem, manyK]
        · rintro ⟨⟨j, k⟩, hj, hk, hc⟩
          simp only at hj hk hc
          have hwj := wrapS (show (j : Int) < 9223372036854775807 by omega)
          have hmk : manyK ln.L j ≤ 80 := Nat.le_trans (List.length_filter_le _ _) (by rw [List.length_take]; omega)
          by_cases hjl : j < ln.L.length
          · obtain ⟨e, he⟩ : ∃ e, ln.L[j]? = some e := ⟨_, List.getElem?_eq_getElem hjl⟩
            have hs := manyK_succ he
            by_cases hk1 : e.Kind = 1
            · rw [if_pos hk1] at hs
              obtain ⟨p, hp⟩ : ∃ p, p = W + manyK ln.L j := ⟨_, rfl⟩
              have hwp := wrapS (show (p : Int) < 9223372036854775807 by omega)
              have hms1 := msgD_at he hk1
              rw [← hp]
              all_goals repeat' (first | (refine Zc ?_ ?_ <;> intro h <;> (try simp [go_sem, hx, he, hk1, ← hp] at h) <;> try omega) | (refine Zi ?_; try simp only [AThen, ABlock]) | (refine Ze ?_; simp +decide only [AThen, ABlock, reduceIte]) | (refine Zt ?_; (try simp [go_sem, hx, he, hk1, ← hp]); all_goals (try simp [loR, lo]); all_goals try exact rfl) | ((first | refine Zq ?_ | refine Zr ?_ | refine Zw ?_ | refine Zx ?_); intro K hK; repeat' (first | ((first | with_reducible refine Z0 ?_ | with_reducible refine Zd ?_ | refine Zs ?_ | refine Zl ?_); intro HK hk; simp [go_sem, hx, he, hk1, ← hp]; (repeat refine ⟨by omega, ?_⟩); apply hk; clear hk HK) | ((first | ((with_reducible refine Gd ?_); first | refine Zh ?_ ?_ | refine Zk ?_ ?_) | ((with_reducible refine Ga ?_); first | refine Zg ?_ ?_ | refine Zp ?_ ?_)) <;> intro hg <;> simp only [hg] <;> (try simp at hg) <;> try omega)); all_goals try ((first | with_reducible refine Zn ?_ | refine Zm ?_); apply hK; clear hK K; try simp only [AThen, ABlock])) | refine Zz ?_ | refine Zb ?_)
              all_goals try exact rfl
              refine AW.loop (X := {k : Nat // k ≤ al.length ∧ cntD al i k = manyK ln.L j}) (fun q => [(16, .c (.p (.int .i64 q.1))), (17, .c (.p (.int .i64 j))), (15, .c (.p (.int .i64 i))), (14, .c (.p (.int .i64 p))), (13, .c (.p (dvP al))), (11, .c (.p (lnP nl))), (7, .c (.p (.bool true))), (2, .c (.p (lnP l)))])
                (fun _ => []) (fun q => al.length - q.1) ⟨k, hk, hc⟩ ?_ ?_
              · refine Sub.of 0 (by simp) (by first | (simp; done) | (simp [go_sem]; done)) (by simp [go_sem]) ?_ (by simp [go_sem])
                simp [go_sem]
              · rintro ⟨k, hk, hc⟩
                have hwk := wrapS (show (k : Int) < 9223372036854775807 by omega)
                by_cases hkl : k < al.length
                · obtain ⟨d, hd⟩ : ∃ d, al[k]? = some d := ⟨_, List.getElem?_eq_getElem hkl⟩
                  have hcs := cntD_succ (i := i) hd
                  by_cases hdi : d.From = (i : Int)
                  · rw [if_pos hdi] at hcs
                    have hoa := outD_at hd hdi
                    rw [ho, hc, hms1] at hoa
                    have hB : e.B = d.B := Option.some.inj hoa
                    have hnl : ¬ al.length ≤ k := by omega
                    all_goals repeat' (first | (refine Zc ?_ ?_ <;> intro h <;> (try simp [go_sem, hd, hdi, hx, he, hB, hwk, hwj, hwp, hnl] at h) <;> try omega) | (refine Zi ?_; try simp only [AThen, ABlock]) | (refine Ze ?_; simp +decide only [AThen, ABlock, reduceIte]) | (refine Zt ?_; (try simp [go_sem, hd, hdi, hx, he, hB, hwk, hwj, hwp, hnl]); all_goals (try simp [loR, lo]); all_goals try exact rfl) | ((first | refine Zq ?_ | refine Zr ?_ | refine Zw ?_ | refine Zx ?_); intro K hK; repeat' (first | ((first | with_reducible refine Z0 ?_ | with_reducible refine Zd ?_ | refine Zs ?_ | refine Zl ?_); intro HK hk; simp [go_sem, hd, hdi, hx, he, hB, hwk, hwj, hwp, hnl]; (repeat refine ⟨by omega, ?_⟩); apply hk; clear hk HK) | ((first | ((with_reducible refine Gd ?_); first | refine Zh ?_ ?_ | refine Zk ?_ ?_) | ((with_reducible refine Ga ?_); first | refine Zg ?_ ?_ | refine Zp ?_ ?_)) <;> intro hg <;> simp only [hg] <;> (try simp at hg) <;> try omega)); all_goals try ((first | with_reducible refine Zn ?_ | refine Zm ?_); apply hK; clear hK K; try simp only [AThen, ABlock])) | refine Zz ?_ | refine Zb ?_)
                    all_goals try exact rfl
                    refine ⟨⟨(j + 1, k + 1), hjl, hkl, by show cntD al i (k + 1) = _; rw [hcs, hs, hc]⟩, by show ln.L.length - (j + 1) < ln.L.length - j; omega, ?_⟩
                    refine Sub.of 0 (by simp) (by first | (simp [hs, hp, Int.add_assoc]; done) | (simp [go_sem, hs, hp, Int.add_assoc]; done)) (by simp [go_sem]) ?_ (by simp [go_sem])
                    simp [go_sem, hs, hp, Int.add_assoc]
                  · rw [if_neg hdi] at hcs
                    all_goals repeat' (first | (refine Zc ?_ ?_ <;> intro h <;> (try simp [go_sem, hd, hdi, hwk] at h) <;> try omega) | (refine Zi ?_; try simp only [AThen, ABlock]) | (refine Ze ?_; simp +decide only [AThen, ABlock, reduceIte]) | (refine Zt ?_; (try simp [go_sem, hd, hdi, hwk]); all_goals (try simp [loR, lo]); all_goals try exact rfl) | ((first | refine Zq ?_ | refine Zr ?_ | refine Zw ?_ | refine Zx ?_); intro K hK; repeat' (first | ((first | with_reducible refine Z0 ?_ | with_reducible refine Zd ?_ | refine Zs ?_ | refine Zl ?_); intro HK hk; simp [go_sem, hd, hdi, hwk]; (repeat refine ⟨by omega, ?_⟩); apply hk; clear hk HK) | ((first | ((with_reducible refine Gd ?_); first | refine Zh ?_ ?_ | refine Zk ?_ ?_) | ((with_reducible refine Ga ?_); first | refine Zg ?_ ?_ | refine Zp ?_ ?_)) <;> intro hg <;> simp only [hg] <;> (try simp at hg) <;> try omega)); all_goals try ((first | with_reducible refine Zn ?_ | refine Zm ?_); apply hK; clear hK K; try simp only [AThen, ABlock])) | refine Zz ?_ | refine Zb ?_)
                    all_goals try exact rfl
                    refine ⟨⟨k + 1, hkl, by rw [hcs]; exact hc⟩, by show al.length - (k + 1) < al.length - k; omega, ?_⟩
                    refine Sub.of 0 (by simp) (by first | (simp; done) | (simp [go_sem]; done)) (by simp [go_sem]) ?_ (by simp [go_sem])
                    simp [go_sem]
                · exfalso
                  obtain rfl : k = al.length := by omega
                  rw [cntD_all, ho] at hc
                  have := (List.getElem?_eq_some_iff.1 hms1).1
                  omega
            · rw [if_neg hk1] at hs
              all_goals repeat' (first | (refine Zc ?_ ?_ <;> intro h <;> (try simp [go_sem, hx, he, hk1, hwj] at h) <;> try omega) | (refine Zi ?_; try simp only [AThen, ABlock]) | (refine Ze ?_; simp +decide only [AThen, ABlock, reduceIte]) | (refine Zt ?_; (try simp [go_sem, hx, he, hk1, hwj]); all_goals (try simp [loR, lo]); all_goals try exact rfl) | ((first | refine Zq ?_ | refine Zr ?_ | refine Zw ?_ | refine Zx ?_); intro K hK; repeat' (first | ((first | with_reducible refine Z0 ?_ | with_reducible refine Zd ?_ | refine Zs ?_ | refine Zl ?_); intro HK hk; simp [go_sem, hx, he, hk1, hwj]; (repeat refine ⟨by omega, ?_⟩); apply hk; clear hk HK) | ((first | ((with_reducible refine Gd ?_); first | refine Zh ?_ ?_ | refine Zk ?_ ?_) | ((with_reducible refine Ga ?_); first | refine Zg ?_ ?_ | refine Zp ?_ ?_)) <;> intro hg <;> simp only [hg] <;> (try simp at hg) <;> try omega)); all_goals try ((first | with_reducible refine Zn ?_ | refine Zm ?_); apply hK; clear hK K; try simp only [AThen, ABlock])) | refine Zz ?_ | refine Zb ?_)
              all_goals try exact rfl
              refine ⟨⟨(j + 1, k), hjl, hk, by show _ = manyK ln.L (j + 1); rw [hs]; exact hc⟩, by show ln.L.length - (j + 1) < ln.L.length - j; omega, ?_⟩
              refine Sub.of 0 (by simp) (by first | (simp [hs]; done) | (simp [go_sem, hs]; done)) (by simp [go_sem]) ?_ (by simp [go_sem])
              simp [go_sem, hs]
          · obtain rfl : j = ln.L.length := by omega
            all_goals repeat' (first | (refine Zc ?_ ?_ <;> intro h <;> (try simp [go_sem, hx, hrx2, hwi] at h) <;> try omega) | (refine Zi ?_; try simp only [AThen, ABlock]) | (refine Ze ?_; simp +decide only [AThen, ABlock, reduceIte]) | (refine Zt ?_; (try simp [go_sem, hx, hrx2, hwi]); all_goals (try simp [loR, lo]); all_goals try exact rfl) | ((first | refine Zq ?_ | refine Zr ?_ | refine Zw ?_ | refine Zx ?_); intro K hK; repeat' (first | ((first | with_reducible refine Z0 ?_ | with_reducible refine Zd ?_ | refine Zs ?_ | refine Zl ?_); intro HK hk; simp [go_sem, hx, hrx2, hwi]; (repeat refine ⟨by omega, ?_⟩); apply hk; clear hk HK) | ((first | ((with_reducible refine Gd ?_); first | refine Zh ?_ ?_ | refine Zk ?_ ?_) | ((with_reducible refine Ga ?_); first | refine Zg ?_ ?_ | refine Zp ?_ ?_)) <;> intro hg <;> simp only [hg] <;> (try simp at hg) <;> try omega)); all_goals try ((first | with_reducible refine Zn ?_ | refine Zm ?_); apply hK; clear hK K; try simp only [AThen, ABlock])) | refine Zz ?_ | refine Zb ?_)
            all_goals try exact rfl
            refine ⟨hil, trivial, ?_⟩
            refine Sub.of 0 (by simp) (by first | (simp [hms, manyK_all]; done) | (simp [go_sem, hms, manyK_all]; done)) (by simp [go_sem]) ?_ (by simp [go_sem])
            simp [go_sem, hms, manyK_all]
      · obtain rfl : i = l.length := by omega
        all_goals repeat' (first | (refine Zc ?_ ?_ <;> intro h <;> (try simp [go_sem, hal] at h) <;> try omega) | (refine Zi ?_; try simp only [AThen, ABlock]) | (refine Ze ?_; simp +decide only [AThen, ABlock, reduceIte]) | (refine Zt ?_; (try simp [go_sem, hal]); all_goals (try simp [loR, lo]); all_goals try exact rfl) | ((first | refine Zq ?_ | refine Zr ?_ | refine Zw ?_ | refine Zx ?_); intro K hK; repeat' (first | ((first | with_reducible refine Z0 ?_ | with_reducible refine Zd ?_ | refine Zs ?_ | refine Zl ?_); intro HK hk; simp [go_sem, hal]; (repeat refine ⟨by omega, ?_⟩); apply hk; clear hk HK) | ((first | ((with_reducible refine Gd ?_); first | refine Zh ?_ ?_ | refine Zk ?_ ?_) | ((with_reducible refine Ga ?_); first | refine Zg ?_ ?_ | refine Zp ?_ ?_)) <;> intro hg <;> simp only [hg] <;> (try simp at hg) <;> try omega)); all_goals try ((first | with_reducible refine Zn ?_ | refine Zm ?_); apply hK; clear hK K; try simp only [AThen, ABlock])) | refine Zz ?_ | refine Zb ?_)
        all_goals try exact rfl
end Go.Proofs.Ytogappokeheilaa
