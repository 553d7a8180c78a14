import Derived.Test.YtnibihjlclelgaaC15
import Derived.Test.YtnibihjlclelgaaC19
import Derived.Test.YtnibihjlclelgaaC21
import Derived.Test.YtnibihjlclelgaaAw34
set_option linter.unusedVariables false
set_option linter.unusedSimpArgs false
set_option maxRecDepth 100000
set_option maxHeartbeats 0
namespace Go.Proofs.Ytnibihjlclelgaa
open Go.Aw

theorem short_all' {l : List Ev} {m : Nat} (h : shortL l m = true) : l.length ≤ m ∧ ∀ e ∈ l, e.B.length ≤ 2000 := by
  unfold shortL at h
  rw [Bool.and_eq_true] at h
  refine ⟨of_decide_eq_true h.1, fun e he => ?_⟩
  have := List.all_eq_true.1 h.2 e he
  exact of_decide_eq_true this
theorem o_st {c : Nat} {l : List Ev} (h1 : 1 ≤ c) (h2 : c ≤ 64) (hb : ∀ e ∈ l, e.B.length ≤ 2000) : ∀ i, OInv c i (stS (newS c) l i)
  | 0 => o_new h1 h2
  | i + 1 => by
    have ih := o_st h1 h2 hb i
    rw [stS]
    cases hq : l[i]? with
    | none => simp only; exact ⟨ih.inv.mono (by omega), ih.len, ih.pre, ih.top⟩
    | some e =>
      simp only
      have hbe := hb e (List.mem_of_getElem? hq)
      cases hs : (stepS (stS (newS c) l i) e).2 with
      | false => rw [o_no ih hs]; exact ⟨ih.inv.mono (by omega), ih.len, ih.pre, ih.top⟩
      | true =>
        cases hd : e.Deliver with
        | false => obtain ⟨_, _, _, _, _, h⟩ := o_accept ih hbe hs hd; exact h
        | true => obtain ⟨_, _, _, _, _, h⟩ := o_deliver ih hbe hs hd; exact h
abbrev rowsO (s : SpecS) (c : Nat) : List AObj := rowsA 44 2 delivP (logsS s c) ++ rowsA 38 1 bytesP s.Acc
def objO (s : SpecS) (c : Nat) : List AObj := .var ((specP s).map .p) :: .var (ownC 5 (logsS s c)) :: .var (ownC (c + 5) s.Acc) :: .hole :: .hole :: rowsO s c
theorem objO_len {s : SpecS} {c : Nat} (h : s.Acc.length = c) : (objO s c).length = 5 + 2 * c := by simp [objO, rowsA_len, logsS_len, h]; omega
theorem objO_ids {s : SpecS} {c : Nat} (h : s.Acc.length = c) : idsO (5 + 2 * c) (objO s c) := by
  refine ⟨⟨trivial, trivial, trivial, trivial⟩, ownC_ids _ _ (by rw [logsS_len]; omega), ownC_ids _ _ (by omega), ?_⟩
  show idsO _ (rowsO s c)
  exact idsO_arrs rowsA_arrs
theorem Sub.o {n : Nat} {sl sl' : Slots} {s : SpecS} {c : Nat} (h : s.Acc.length = c) (hs : SubS (5 + 2 * c) sl sl') (hd : keepD (5 + 2 * c) (getS sl DEF) (getS sl' DEF)) : Sub n 0 sl (objO s c) sl' (objO s c) :=
  Sub.of (5 + 2 * c) (Nat.zero_le _) (List.take_of_length_le (by rw [objO_len h]; exact Nat.le_refl _)).symm (objO_ids h) hs hd
theorem idsL_p {j : Nat} : ∀ ps : List PV, idsL j (ps.map .p)
  | [] => trivial
  | _ :: r => ⟨trivial, idsL_p r⟩
theorem noL_p {j : Nat} : ∀ ps : List PV, noL j (ps.map .p)
  | [] => trivial
  | _ :: r => ⟨trivial, noL_p r⟩
theorem Sub.oEnd {n : Nat} {sl sl' : Slots} {s : SpecS} {c : Nat} (h : s.Acc.length = c) (es xs : List PV) {Lc Ac : List Cell} {Rw : List AObj} (hL : Lc = ownC 5 (logsS s c)) (hA : Ac = ownC (c + 5) s.Acc) (hR : Rw = rowsO s c)
    (h3 : SubN 3 sl sl') (h4 : SubN 4 sl' sl') (hs : SubS (5 + 2 * c) sl' sl') (hd : getS sl DEF = .any) (hd' : getS sl' DEF = .any) :
    Sub n 0 sl (.var ((specP s).map .p) :: .var Lc :: .var Ac :: .var (es.map .p) :: .var (xs.map .p) :: Rw) sl' (objO s c) := by
  subst hL; subst hA; subst hR
  refine Sub.trans (Sub.forget (sl' := sl') 3 (Nat.zero_le _) (by simp) ⟨noL_p _, ownC_no _ _ (by omega), ownC_no _ _ (by omega), noL_p _, noL_p _, noO_arrs rowsA_arrs⟩ h3 (by rw [hd, hd']; trivial)) ?_
  simp only [List.set_cons_zero, List.set_cons_succ]
  refine Sub.trans (Sub.forget (sl' := sl') 4 (Nat.zero_le _) (by simp) ⟨noL_p _, ownC_no _ _ (by omega), ownC_no _ _ (by omega), noL_p _, noO_arrs rowsA_arrs⟩ h4 (by rw [hd']; trivial)) ?_
  simp only [List.set_cons_zero, List.set_cons_succ]
  exact Sub.o h hs (by rw [hd']; trivial)
def endO (s : SpecS) (ls : List (List Deliv)) : List AObj := [.var ((specP s).map .p), .var (ls.map fun l => .p (dvP l)), .var (s.Acc.map fun r => .p (rowP r))]
theorem idsL_map {α : Type} {j : Nat} {f : α → PV} : ∀ ls : List α, idsL j (ls.map fun l => .p (f l))
  | [] => trivial
  | _ :: r => ⟨trivial, idsL_map r⟩
theorem endO_ids {j : Nat} (s : SpecS) (ls : List (List Deliv)) : idsO j (endO s ls) := ⟨⟨trivial, trivial, trivial, trivial⟩, idsL_map _, idsL_map _, trivial⟩
theorem Sub.oFrz {n : Nat} {sl sl' : Slots} {s : SpecS} {c : Nat} (h : s.Acc.length = c) (hs : SubS 3 sl sl') (hd : keepD 3 (getS sl DEF) (getS sl' DEF)) : Sub n 0 sl (objO s c) sl' (endO s (logsS s c)) := by
  obtain ⟨H1, a1, a2, a3, a4⟩ := Sub.frzAll (n := n) (k := 0) (sl := sl) (H := objO s c) 1 5 44 2 delivP (logsS s c) (by omega) rfl (fun i l hl => by
    have hlt : i < c := by have := (List.getElem?_eq_some_iff.1 hl).1; rw [logsS_len] at this; exact this
    rw [Nat.add_comm]
    show (rowsO s c)[i]? = _
    unfold rowsO
    rw [List.getElem?_append_left (by rw [rowsA_len, logsS_len]; exact hlt)]; exact rowsA_get hl)
  rw [logsS_len] at a4
  obtain ⟨H2, b1, b2, b3, b4⟩ := Sub.frzAll (n := n) (k := 0) (sl := sl) (H := H1) 2 (c + 5) 38 1 bytesP s.Acc (by omega) (by rw [a4 2 (by omega) (by omega)]; rfl) (fun i l hl => by
    have hlt : i < c := by have := (List.getElem?_eq_some_iff.1 hl).1; omega
    rw [a4 _ (by omega) (by omega), Nat.add_right_comm]
    show (rowsO s c)[c + i]? = _
    unfold rowsO
    rw [List.getElem?_append_right (by rw [rowsA_len, logsS_len]; omega), rowsA_len, logsS_len, Nat.add_sub_cancel_left]; exact rowsA_get hl)
  refine Sub.trans a1 (Sub.trans b1 (Sub.of 3 (Nat.zero_le _) ?_ (endO_ids _ _) hs hd))
  apply List.ext_getElem?
  intro j
  rw [List.getElem?_take]
  match j with
  | 0 => rw [if_pos (by omega), b4 0 (by omega) (by omega), a4 0 (by omega) (by omega)]; rfl
  | 1 => rw [if_pos (by omega), b4 1 (by omega) (by omega), a3]; rfl
  | 2 => rw [if_pos (by omega), b3]; rfl
  | j + 3 => rw [if_neg (by omega)]; rfl
theorem swp_a (a b : Nat) : swp a b a = b := by simp [swp]
theorem swp_o (w x : Nat) (hx : x < 5) : swp 1000 (w + 5) x = x := by unfold swp; rw [if_neg (by omega), if_neg (by omega)]
theorem pc_4 (nu : UInt8) (l : List Ev) : PC Try.prog 4 [(false, [.int .u8 nu.toNat]), (false, [evsP l])] (.one (bB true)) := by
  have hwn : IntKind.i64.wrap (nu.toNat : Int) = (nu.toNat : Int) := wrapI (by omega) (by have := nu.toNat_lt; omega)
  obtain ⟨q0, hq, hq8⟩ : ∃ q0 : Nat, (nu.toNat : Int).tmod 9 = (q0 : Int) ∧ q0 ≤ 8 := ⟨nu.toNat % 9, by rw [Int.tmod_eq_emod_of_nonneg (by omega)]; omega, by omega⟩
  obtain ⟨c, hc⟩ : ∃ c : Nat, c = 1 + q0 := ⟨_, rfl⟩
  have hw1 : IntKind.i64.wrap (1 + (q0 : Int)) = (c : Int) := by rw [hc, wrapI (by omega) (by omega)]; omega
  have hc1 : 1 ≤ c := by omega
  have hc9 : c ≤ 9 := by omega
  clear hc
  refine PC.of_ACall (ACall.of_AW (fun args w => Try.call4 args w) Try.func4 rfl (by simp [Try.ntmps4]) ?_)
  simp only [Try.ntmps4, List.length_nil]
  all_goals repeat' (first | (refine Zc ?_ ?_ <;> intro h <;> (try simp [go_sem] at h) <;> try omega) | (refine Zi ?_; try simp only [AThen, ABlock]) | (refine Ze ?_; simp +decide only [AThen, ABlock, reduceIte]) | (refine Zt ?_; (try simp [go_sem]); all_goals (try simp [loR, lo]); all_goals try exact rfl) | ((first | refine Zq ?_ | refine Zr ?_ | refine Zw ?_ | refine Zx ?_); intro K hK; repeat' (first | ((first | with_reducible refine Z0 ?_ | with_reducible refine Zd ?_ | refine Zs ?_ | refine Zl ?_); intro HK hk; simp [go_sem]; (repeat refine ⟨by omega, ?_⟩); apply hk; clear hk HK) | ((first | ((with_reducible refine Gd ?_); first | refine Zh ?_ ?_ | refine Zk ?_ ?_) | ((with_reducible refine Ga ?_); first | refine Zg ?_ ?_ | refine Zp ?_ ?_)) <;> intro hg <;> simp only [hg] <;> (try simp at hg) <;> try omega)); all_goals try ((first | with_reducible refine Zn ?_ | refine Zm ?_); apply hK; clear hK K; try simp only [AThen, ABlock])) | refine Zz ?_ | refine Zb ?_)
  all_goals try exact rfl
  (first | with_reducible refine Z0 ?_ | with_reducible refine Zd ?_ | refine Zs ?_); intro HK hk; simp [go_sem]; (repeat refine ⟨by omega, ?_⟩); (first | refine ACall.pur rfl (pc_8) ?_ | refine ACallD.mk rfl (pc_8) ?_); simp [go_sem]; (repeat refine ⟨by omega, ?_⟩); apply hk; clear hk HK; repeat' (first | ((first | with_reducible refine Z0 ?_ | with_reducible refine Zd ?_ | refine Zs ?_ | refine Zl ?_); intro HK hk; simp [go_sem]; (repeat refine ⟨by omega, ?_⟩); apply hk; clear hk HK) | ((first | ((with_reducible refine Gd ?_); first | refine Zh ?_ ?_ | refine Zk ?_ ?_) | ((with_reducible refine Ga ?_); first | refine Zg ?_ ?_ | refine Zp ?_ ?_)) <;> intro hg <;> simp only [hg] <;> (try simp at hg) <;> try omega))
  all_goals try ((first | with_reducible refine Zn ?_ | refine Zm ?_); apply hK; clear hK K; try simp only [AThen, ABlock])
  cases hsh : shortL l 60 with
  | false =>
    all_goals repeat' (first | (refine Zc ?_ ?_ <;> intro h <;> (try simp [go_sem] at h) <;> try omega) | (refine Zi ?_; try simp only [AThen, ABlock]) | (refine Ze ?_; simp +decide only [AThen, ABlock, reduceIte]) | (refine Zt ?_; (try simp [go_sem]); all_goals (try simp [loR, lo]); all_goals try exact rfl) | ((first | refine Zq ?_ | refine Zr ?_ | refine Zw ?_ | refine Zx ?_); intro K hK; repeat' (first | ((first | with_reducible refine Z0 ?_ | with_reducible refine Zd ?_ | refine Zs ?_ | refine Zl ?_); intro HK hk; simp [go_sem]; (repeat refine ⟨by omega, ?_⟩); apply hk; clear hk HK) | ((first | ((with_reducible refine Gd ?_); first | refine Zh ?_ ?_ | refine Zk ?_ ?_) | ((with_reducible refine Ga ?_); first | refine Zg ?_ ?_ | refine Zp ?_ ?_)) <;> intro hg <;> simp only [hg] <;> (try simp at hg) <;> try omega)); all_goals try ((first | with_reducible refine Zn ?_ | refine Zm ?_); apply hK; clear hK K; try simp only [AThen, ABlock])) | refine Zz ?_ | refine Zb ?_)
    all_goals try exact rfl
    (first | with_reducible refine Z0 ?_ | with_reducible refine Zd ?_ | refine Zs ?_); intro HK hk; simp [go_sem]; (repeat refine ⟨by omega, ?_⟩); (first | refine ACall.pur rfl (pc_10 l 60 (by omega)) ?_ | refine ACallD.mk rfl (pc_10 l 60 (by omega)) ?_); simp [go_sem, hsh]; (repeat refine ⟨by omega, ?_⟩); apply hk; clear hk HK; repeat' (first | ((first | with_reducible refine Z0 ?_ | with_reducible refine Zd ?_ | refine Zs ?_ | refine Zl ?_); intro HK hk; simp [go_sem, hsh]; (repeat refine ⟨by omega, ?_⟩); apply hk; clear hk HK) | ((first | ((with_reducible refine Gd ?_); first | refine Zh ?_ ?_ | refine Zk ?_ ?_) | ((with_reducible refine Ga ?_); first | refine Zg ?_ ?_ | refine Zp ?_ ?_)) <;> intro hg <;> simp only [hg] <;> (try simp at hg) <;> try omega))
    all_goals try ((first | with_reducible refine Zn ?_ | refine Zm ?_); apply hK; clear hK K; try simp only [AThen, ABlock])
    all_goals repeat' (first | (refine Zc ?_ ?_ <;> intro h <;> (try simp [go_sem] at h) <;> try omega) | (refine Zi ?_; try simp only [AThen, ABlock]) | (refine Ze ?_; simp +decide only [AThen, ABlock, reduceIte]) | (refine Zt ?_; (try simp [go_sem]); all_goals (try simp [loR, lo]); all_goals try exact rfl) | ((first | refine Zq ?_ | refine Zr ?_ | refine Zw ?_ | refine Zx ?_); intro K hK; repeat' (first | ((first | with_reducible refine Z0 ?_ | with_reducible refine Zd ?_ | refine Zs ?_ | refine Zl ?_); intro HK hk; simp [go_sem]; (repeat refine ⟨by omega, ?_⟩); apply hk; clear hk HK) | ((first | ((with_reducible refine Gd ?_); first | refine Zh ?_ ?_ | refine Zk ?_ ?_) | ((with_reducible refine Ga ?_); first | refine Zg ?_ ?_ | refine Zp ?_ ?_)) <;> intro hg <;> simp only [hg] <;> (try simp at hg) <;> try omega)); all_goals try ((first | with_reducible refine Zn ?_ | refine Zm ?_); apply hK; clear hK K; try simp only [AThen, ABlock])) | refine Zz ?_ | refine Zb ?_)
    all_goals try exact rfl
  | true =>
    obtain ⟨hl60, hlb⟩ := short_all' hsh
    have h19 := pc_19 c (by omega)
    have hO := o_st (c := c) (l := l) hc1 (by omega) hlb
    all_goals repeat' (first | (refine Zc ?_ ?_ <;> intro h <;> (try simp [go_sem] at h) <;> try omega) | (refine Zi ?_; try simp only [AThen, ABlock]) | (refine Ze ?_; simp +decide only [AThen, ABlock, reduceIte]) | (refine Zt ?_; (try simp [go_sem]); all_goals (try simp [loR, lo]); all_goals try exact rfl) | ((first | refine Zq ?_ | refine Zr ?_ | refine Zw ?_ | refine Zx ?_); intro K hK; repeat' (first | ((first | with_reducible refine Z0 ?_ | with_reducible refine Zd ?_ | refine Zs ?_ | refine Zl ?_); intro HK hk; simp [go_sem]; (repeat refine ⟨by omega, ?_⟩); apply hk; clear hk HK) | ((first | ((with_reducible refine Gd ?_); first | refine Zh ?_ ?_ | refine Zk ?_ ?_) | ((with_reducible refine Ga ?_); first | refine Zg ?_ ?_ | refine Zp ?_ ?_)) <;> intro hg <;> simp only [hg] <;> (try simp at hg) <;> try omega)); all_goals try ((first | with_reducible refine Zn ?_ | refine Zm ?_); apply hK; clear hK K; try simp only [AThen, ABlock])) | refine Zz ?_ | refine Zb ?_)
    all_goals try exact rfl
    (first | with_reducible refine Z0 ?_ | with_reducible refine Zd ?_ | refine Zs ?_); intro HK hk; simp [go_sem]; (repeat refine ⟨by omega, ?_⟩); (first | refine ACall.pur rfl (pc_10 l 60 (by omega)) ?_ | refine ACallD.mk rfl (pc_10 l 60 (by omega)) ?_); simp [go_sem, hsh]; (repeat refine ⟨by omega, ?_⟩); apply hk; clear hk HK; repeat' (first | ((first | with_reducible refine Z0 ?_ | with_reducible refine Zd ?_ | refine Zs ?_ | refine Zl ?_); intro HK hk; simp [go_sem, hsh]; (repeat refine ⟨by omega, ?_⟩); apply hk; clear hk HK) | ((first | ((with_reducible refine Gd ?_); first | refine Zh ?_ ?_ | refine Zk ?_ ?_) | ((with_reducible refine Ga ?_); first | refine Zg ?_ ?_ | refine Zp ?_ ?_)) <;> intro hg <;> simp only [hg] <;> (try simp at hg) <;> try omega))
    all_goals try ((first | with_reducible refine Zn ?_ | refine Zm ?_); apply hK; clear hK K; try simp only [AThen, ABlock])
    all_goals repeat' (first | (refine Zc ?_ ?_ <;> intro h <;> (try simp [go_sem, hwn, hq, hw1] at h) <;> try omega) | (refine Zi ?_; try simp only [AThen, ABlock]) | (refine Ze ?_; simp +decide only [AThen, ABlock, reduceIte]) | (refine Zt ?_; (try simp [go_sem, hwn, hq, hw1]); all_goals (try simp [loR, lo]); all_goals try exact rfl) | ((first | refine Zq ?_ | refine Zr ?_ | refine Zw ?_ | refine Zx ?_); intro K hK; repeat' (first | ((first | with_reducible refine Z0 ?_ | with_reducible refine Zd ?_ | refine Zs ?_ | refine Zl ?_); intro HK hk; simp [go_sem, hwn, hq, hw1]; (repeat refine ⟨by omega, ?_⟩); apply hk; clear hk HK) | ((first | ((with_reducible refine Gd ?_); first | refine Zh ?_ ?_ | refine Zk ?_ ?_) | ((with_reducible refine Ga ?_); first | refine Zg ?_ ?_ | refine Zp ?_ ?_)) <;> intro hg <;> simp only [hg] <;> (try simp at hg) <;> try omega)); all_goals try ((first | with_reducible refine Zn ?_ | refine Zm ?_); apply hK; clear hK K; try simp only [AThen, ABlock])) | refine Zz ?_ | refine Zb ?_)
    all_goals try exact rfl
    (first | with_reducible refine Z0 ?_ | with_reducible refine Zd ?_ | refine Zs ?_); intro HK hk; simp [go_sem]; (repeat refine ⟨by omega, ?_⟩); (first | refine ACall.pur rfl (h19) ?_ | refine ACallD.mk rfl (h19) ?_); simp [go_sem]; (repeat refine ⟨by omega, ?_⟩); apply hk; clear hk HK; repeat' (first | ((first | with_reducible refine Z0 ?_ | with_reducible refine Zd ?_ | refine Zs ?_ | refine Zl ?_); intro HK hk; simp [go_sem]; (repeat refine ⟨by omega, ?_⟩); apply hk; clear hk HK) | ((first | ((with_reducible refine Gd ?_); first | refine Zh ?_ ?_ | refine Zk ?_ ?_) | ((with_reducible refine Ga ?_); first | refine Zg ?_ ?_ | refine Zp ?_ ?_)) <;> intro hg <;> simp only [hg] <;> (try simp at hg) <;> try omega))
    all_goals try ((first | with_reducible refine Zn ?_ | refine Zm ?_); apply hK; clear hK K; try simp only [AThen, ABlock])
    refine AW.vsI 1 _ rfl (fun K hK => ?_)
    simp only [List.take_succ_cons, List.take_zero, List.drop_succ_cons, List.drop_zero]
    repeat' (first | ((first | with_reducible refine Z0 ?_ | with_reducible refine Zd ?_ | refine Zs ?_ | refine Zl ?_); intro HK hk; simp [go_sem]; (repeat refine ⟨by omega, ?_⟩); apply hk; clear hk HK) | ((first | ((with_reducible refine Gd ?_); first | refine Zh ?_ ?_ | refine Zk ?_ ?_) | ((with_reducible refine Ga ?_); first | refine Zg ?_ ?_ | refine Zp ?_ ?_)) <;> intro hg <;> simp only [hg] <;> (try simp at hg) <;> try omega))
    all_goals try ((first | with_reducible refine Zn ?_ | refine Zm ?_); apply hK; clear hK K; try simp only [AThen, ABlock])
    refine Zn ?_
    refine ⟨rfl, ?_⟩
    simp [go_sem]
    refine ⟨by omega, by omega, hK _ _ ?_⟩
    clear hK K
    refine AW.vsI 1 _ rfl (fun K hK => ?_)
    simp only [List.take_succ_cons, List.take_zero, List.drop_succ_cons, List.drop_zero]
    repeat' (first | ((first | with_reducible refine Z0 ?_ | with_reducible refine Zd ?_ | refine Zs ?_ | refine Zl ?_); intro HK hk; simp [go_sem]; (repeat refine ⟨by omega, ?_⟩); apply hk; clear hk HK) | ((first | ((with_reducible refine Gd ?_); first | refine Zh ?_ ?_ | refine Zk ?_ ?_) | ((with_reducible refine Ga ?_); first | refine Zg ?_ ?_ | refine Zp ?_ ?_)) <;> intro hg <;> simp only [hg] <;> (try simp at hg) <;> try omega))
    all_goals try ((first | with_reducible refine Zn ?_ | refine Zm ?_); apply hK; clear hK K; try simp only [AThen, ABlock])
    refine Zn ?_
    refine ⟨rfl, ?_⟩
    simp [go_sem]
    refine ⟨by omega, by omega, hK _ _ ?_⟩
    clear hK K
    refine AW.weak (Sub.holes 2) ?_
    simp only [List.replicate, List.cons_append, List.nil_append]
    refine AW.weak (Sub.promoteAll 1 44 2 c delivP (by decide) rfl) ?_
    refine AW.weak (Sub.promoteAll 2 38 1 c bytesP (by decide) rfl) ?_
    simp only [List.set_cons_zero, List.set_cons_succ, List.length_cons, List.length_nil, List.cons_append, List.nil_append, rowsA_len, List.length_replicate, Nat.zero_add, Nat.reduceAdd, Nat.add_zero]
    refine AW.seq (AW.seq ?_)
    (first | (refine AW.q false fun K hK => ?_) | (refine AW.seq ?_; refine AW.q false fun K hK => ?_) | (refine AW.seq (AW.seq ?_); refine AW.q false fun K hK => ?_) | (refine AW.block ?_; refine AW.q false fun K hK => ?_) | (refine AW.seq (AW.block ?_); refine AW.q false fun K hK => ?_) | (refine AW.ql false fun K hK => ?_)); repeat ((first | with_reducible refine Z0 ?_ | with_reducible refine Zd ?_ | refine Zs ?_ | refine Zl ?_); intro HK hk; simp [go_sem]; (repeat refine ⟨by omega, ?_⟩); apply hk; clear hk HK)
    try ((first | refine Zn ?_ | refine Zm ?_); apply hK; clear hK K; try simp only [AThen, ABlock])
    refine AW.block (AW.upto l.length (fun _ => True) (fun i => [(10, .c (.p (.int .i64 i))), (9, .c (.vs 2 c)), (8, .c (.vs 1 c)), (7, .c (.ptr 0 0)), (6, .c (.p (.int .i64 c))), (5, .c (.p (.bool true))), (1, .c (.p (evsP l)))]) (fun i => objO (stS (newS c) l i) c) trivial ?_ fun i hi _ => ?_)
    · have e2 : objO (stS (newS c) l 0) c = .var ((specP (newS c)).map .p) :: .var (ownC 5 (List.replicate c ([] : List Deliv))) :: .var (ownC (c + 5) (List.replicate c ([] : List (List UInt8)))) :: .hole :: .hole :: (rowsA 44 2 delivP (List.replicate c []) ++ rowsA 38 1 bytesP (List.replicate c [])) := by
        have e1 : (newS c).Acc = List.replicate c [] := rfl
        have e3 : stS (newS c) l 0 = newS c := rfl
        simp only [objO, rowsO, e3, logs_new, e1]
      have h3 := fun sl sl' hs hd => Sub.o (n := 200) (sl := sl) (sl' := sl') (s := stS (newS c) l 0) (c := c) (hO 0).len hs hd
      rw [e2] at h3 ⊢
      refine h3 _ _ ?_ (by simp [go_sem])
      simp [go_sem]
      omega
    have hwi := wrapS (show (i : Int) < 9223372036854775807 by omega)
    have hOi := hO i
    by_cases hil : i < l.length
    · obtain ⟨e, hx⟩ : ∃ e, l[i]? = some e := ⟨_, List.getElem?_eq_getElem hil⟩
      have hnx := stS_succ (s := newS c) hx
      have hOn := hO (i + 1)
      rw [hnx] at hOn
      obtain ⟨s, hs⟩ : ∃ s, s = stS (newS c) l i := ⟨_, rfl⟩
      rw [← hs] at hOi hOn hnx ⊢
      have hbe := hlb e (List.mem_of_getElem? hx)
      have h21 := pc_21 s e i hOi.inv (by omega)
      have h12 := pc_12 (stepS s e).1 (by have := hOn.inv.seq; omega) (by have := hOn.len; have := hOn.inv.len; omega)
      rw [o_right hOn] at h12
      refine AW.seq (AW.seq ?_)
      (first | (refine AW.q false fun K hK => ?_) | (refine AW.seq ?_; refine AW.q false fun K hK => ?_) | (refine AW.seq (AW.seq ?_); refine AW.q false fun K hK => ?_) | (refine AW.block ?_; refine AW.q false fun K hK => ?_) | (refine AW.seq (AW.block ?_); refine AW.q false fun K hK => ?_) | (refine AW.ql false fun K hK => ?_)); repeat ((first | with_reducible refine Z0 ?_ | with_reducible refine Zd ?_ | refine Zs ?_ | refine Zl ?_); intro HK hk; simp [go_sem]; (repeat refine ⟨by omega, ?_⟩); apply hk; clear hk HK)
      try ((first | refine Zn ?_ | refine Zm ?_); apply hK; clear hK K; try simp only [AThen, ABlock])
      refine AW.cond rfl (fun _ => AW.skip ?_) (fun h => absurd h (by simp [hil]))
      simp only [AThen]
      refine AW.seq (AW.block ?_)
      simp only [objO]
      (first | (refine AW.v [(none, []), (none, []), (none, []), (none, []), (some 3, []), (some 3, [])] (by decide +kernel) fun K hK => ?_) | (refine AW.seq ?_; refine AW.v [(none, []), (none, []), (none, []), (none, []), (some 3, []), (some 3, [])] (by decide +kernel) fun K hK => ?_) | (refine AW.seq (AW.seq ?_); refine AW.v [(none, []), (none, []), (none, []), (none, []), (some 3, []), (some 3, [])] (by decide +kernel) fun K hK => ?_) | (refine AW.block ?_; refine AW.v [(none, []), (none, []), (none, []), (none, []), (some 3, []), (some 3, [])] (by decide +kernel) fun K hK => ?_) | (refine AW.seq (AW.block ?_); refine AW.v [(none, []), (none, []), (none, []), (none, []), (some 3, []), (some 3, [])] (by decide +kernel) fun K hK => ?_) | (refine AW.vl [(none, []), (none, []), (none, []), (none, []), (some 3, []), (some 3, [])] (by decide +kernel) fun K hK => ?_)); repeat ((first | with_reducible refine Z0 ?_ | with_reducible refine Zd ?_ | refine Zs ?_ | refine Zl ?_); intro HK hk; simp [go_sem, hx]; (repeat refine ⟨by omega, ?_⟩); apply hk; clear hk HK)
      try ((first | refine Zn ?_ | refine Zm ?_); apply hK; clear hK K; try simp only [AThen, ABlock])
      (first | (refine AW.v [(none, []), (none, []), (none, []), (none, []), (none, []), (none, []), (some 4, []), (some 4, [])] (by decide +kernel) fun K hK => ?_) | (refine AW.seq ?_; refine AW.v [(none, []), (none, []), (none, []), (none, []), (none, []), (none, []), (some 4, []), (some 4, [])] (by decide +kernel) fun K hK => ?_) | (refine AW.seq (AW.seq ?_); refine AW.v [(none, []), (none, []), (none, []), (none, []), (none, []), (none, []), (some 4, []), (some 4, [])] (by decide +kernel) fun K hK => ?_) | (refine AW.block ?_; refine AW.v [(none, []), (none, []), (none, []), (none, []), (none, []), (none, []), (some 4, []), (some 4, [])] (by decide +kernel) fun K hK => ?_) | (refine AW.seq (AW.block ?_); refine AW.v [(none, []), (none, []), (none, []), (none, []), (none, []), (none, []), (some 4, []), (some 4, [])] (by decide +kernel) fun K hK => ?_) | (refine AW.vl [(none, []), (none, []), (none, []), (none, []), (none, []), (none, []), (some 4, []), (some 4, [])] (by decide +kernel) fun K hK => ?_)); repeat ((first | with_reducible refine Z0 ?_ | with_reducible refine Zd ?_ | refine Zs ?_ | refine Zl ?_); intro HK hk; simp [go_sem]; (repeat refine ⟨by omega, ?_⟩); apply hk; clear hk HK)
      try ((first | refine Zn ?_ | refine Zm ?_); apply hK; clear hK K; try simp only [AThen, ABlock])
      (first | with_reducible refine Z0 ?_ | with_reducible refine Zd ?_ | refine Zs ?_); intro HK hk; simp [go_sem]; (repeat refine ⟨by omega, ?_⟩); (first | refine ACall.pur rfl (h21) ?_ | refine ACallD.mk rfl (h21) ?_); simp [go_sem]; (repeat refine ⟨by omega, ?_⟩); apply hk; clear hk HK; repeat' (first | ((first | with_reducible refine Z0 ?_ | with_reducible refine Zd ?_ | refine Zs ?_ | refine Zl ?_); intro HK hk; simp [go_sem]; (repeat refine ⟨by omega, ?_⟩); apply hk; clear hk HK) | ((first | ((with_reducible refine Gd ?_); first | refine Zh ?_ ?_ | refine Zk ?_ ?_) | ((with_reducible refine Ga ?_); first | refine Zg ?_ ?_ | refine Zp ?_ ?_)) <;> intro hg <;> simp only [hg] <;> (try simp at hg) <;> try omega))
      all_goals try ((first | with_reducible refine Zn ?_ | refine Zm ?_); apply hK; clear hK K; try simp only [AThen, ABlock])
      cases hst : (stepS s e).2 with
      | false =>
        have hsame := o_no hOi hst
        have h13 := pc_13 (stepS s e).1 s
        rw [decide_eq_true hsame] at h13
        all_goals repeat' (first | (refine Zc ?_ ?_ <;> intro h <;> (try simp [go_sem] at h) <;> try omega) | (refine Zi ?_; try simp only [AThen, ABlock]) | (refine Ze ?_; simp +decide only [AThen, ABlock, reduceIte]) | (refine Zt ?_; (try simp [go_sem]); all_goals (try simp [loR, lo]); all_goals try exact rfl) | ((first | refine Zq ?_ | refine Zr ?_ | refine Zw ?_ | refine Zx ?_); intro K hK; repeat' (first | ((first | with_reducible refine Z0 ?_ | with_reducible refine Zd ?_ | refine Zs ?_ | refine Zl ?_); intro HK hk; simp [go_sem]; (repeat refine ⟨by omega, ?_⟩); apply hk; clear hk HK) | ((first | ((with_reducible refine Gd ?_); first | refine Zh ?_ ?_ | refine Zk ?_ ?_) | ((with_reducible refine Ga ?_); first | refine Zg ?_ ?_ | refine Zp ?_ ?_)) <;> intro hg <;> simp only [hg] <;> (try simp at hg) <;> try omega)); all_goals try ((first | with_reducible refine Zn ?_ | refine Zm ?_); apply hK; clear hK K; try simp only [AThen, ABlock])) | refine Zz ?_ | refine Zb ?_)
        all_goals try exact rfl
        (first | with_reducible refine Z0 ?_ | with_reducible refine Zd ?_ | refine Zs ?_); intro HK hk; simp [go_sem]; (repeat refine ⟨by omega, ?_⟩); (first | refine ACall.pur rfl (h12) ?_ | refine ACallD.mk rfl (h12) ?_); simp [go_sem]; (repeat refine ⟨by omega, ?_⟩); apply hk; clear hk HK; repeat' (first | ((first | with_reducible refine Z0 ?_ | with_reducible refine Zd ?_ | refine Zs ?_ | refine Zl ?_); intro HK hk; simp [go_sem]; (repeat refine ⟨by omega, ?_⟩); apply hk; clear hk HK) | ((first | ((with_reducible refine Gd ?_); first | refine Zh ?_ ?_ | refine Zk ?_ ?_) | ((with_reducible refine Ga ?_); first | refine Zg ?_ ?_ | refine Zp ?_ ?_)) <;> intro hg <;> simp only [hg] <;> (try simp at hg) <;> try omega))
        all_goals try ((first | with_reducible refine Zn ?_ | refine Zm ?_); apply hK; clear hK K; try simp only [AThen, ABlock])
        (first | with_reducible refine Z0 ?_ | with_reducible refine Zd ?_ | refine Zs ?_); intro HK hk; simp [go_sem]; (repeat refine ⟨by omega, ?_⟩); (first | refine ACall.pur rfl (h13) ?_ | refine ACallD.mk rfl (h13) ?_); simp [go_sem]; (repeat refine ⟨by omega, ?_⟩); apply hk; clear hk HK; repeat' (first | ((first | with_reducible refine Z0 ?_ | with_reducible refine Zd ?_ | refine Zs ?_ | refine Zl ?_); intro HK hk; simp [go_sem]; (repeat refine ⟨by omega, ?_⟩); apply hk; clear hk HK) | ((first | ((with_reducible refine Gd ?_); first | refine Zh ?_ ?_ | refine Zk ?_ ?_) | ((with_reducible refine Ga ?_); first | refine Zg ?_ ?_ | refine Zp ?_ ?_)) <;> intro hg <;> simp only [hg] <;> (try simp at hg) <;> try omega))
        all_goals try ((first | with_reducible refine Zn ?_ | refine Zm ?_); apply hK; clear hK K; try simp only [AThen, ABlock])
        all_goals repeat' (first | (refine Zc ?_ ?_ <;> intro h <;> (try simp [go_sem, hwi] at h) <;> try omega) | (refine Zi ?_; try simp only [AThen, ABlock]) | (refine Ze ?_; simp +decide only [AThen, ABlock, reduceIte]) | (refine Zt ?_; (try simp [go_sem, hwi]); all_goals (try simp [loR, lo]); all_goals try exact rfl) | ((first | refine Zq ?_ | refine Zr ?_ | refine Zw ?_ | refine Zx ?_); intro K hK; repeat' (first | ((first | with_reducible refine Z0 ?_ | with_reducible refine Zd ?_ | refine Zs ?_ | refine Zl ?_); intro HK hk; simp [go_sem, hwi]; (repeat refine ⟨by omega, ?_⟩); apply hk; clear hk HK) | ((first | ((with_reducible refine Gd ?_); first | refine Zh ?_ ?_ | refine Zk ?_ ?_) | ((with_reducible refine Ga ?_); first | refine Zg ?_ ?_ | refine Zp ?_ ?_)) <;> intro hg <;> simp only [hg] <;> (try simp at hg) <;> try omega)); all_goals try ((first | with_reducible refine Zn ?_ | refine Zm ?_); apply hK; clear hK K; try simp only [AThen, ABlock])) | refine Zz ?_ | refine Zb ?_)
        all_goals try exact rfl
        refine ⟨hil, trivial, ?_⟩
        rw [hnx, hsame]
        refine Sub.oEnd hOi.len (evP e) (specP s) rfl rfl rfl ?_ ?_ ?_ (by simp [go_sem]) (by simp [go_sem])
        · simp [go_sem]
        · simp [go_sem]
        · simp [go_sem]
          omega
      | true =>
        cases hdl : e.Deliver with
        | false =>
          obtain ⟨w, hwc, hww, hac, hlg, _⟩ := o_accept hOi hbe hst hdl
          have hAl := hOi.len
          obtain ⟨L, hL⟩ : ∃ L, s.Acc[w]? = some L := ⟨_, List.getElem?_eq_getElem (by omega)⟩
          have hLg : s.Acc.getD w [] = L := by rw [List.getD_eq_getElem?_getD, hL]; rfl
          rw [hLg] at hac
          have hLl : L.length ≤ 60 := by have := (hOi.inv.acc L (List.mem_of_getElem? hL)).1; omega
          have hcell : (ownC (c + 5) s.Acc)[w]? = some (.own (c + w + 5) L.length) := by rw [ownC_get (c + 5) hL, Nat.add_right_comm]
          have hcl : (ownC (c + 5) s.Acc).length = c := by rw [ownC_len, hAl]
          have hrow : (rowsO s c)[c + w]? = some (.arr 38 1 0 (L.map bytesP)) := by
            unfold rowsO
            rw [List.getElem?_append_right (by rw [rowsA_len, logsS_len]; omega), rowsA_len, logsS_len, Nat.add_sub_cancel_left]; exact rowsA_get hL
          have hrs : (rowsO s c).set (c + w) (.arr 38 1 0 (L.map bytesP ++ [[bsP e.B]])) = rowsO (stepS s e).1 c := by
            unfold rowsO
            rw [List.set_append, if_neg (by rw [rowsA_len, logsS_len]; omega), rowsA_len, logsS_len, Nat.add_sub_cancel_left, hlg, hac, ← rowsA_set]
            simp [bytesP]
          have hsp : (ownC (c + 5) s.Acc).take w ++ .own (c + w + 5) (L.length + 1) :: (ownC (c + 5) s.Acc).drop (w + 1) = ownC (c + 5) (stepS s e).1.Acc := by
            rw [hac, ← ownC_set]
            have h1 : (L ++ [e.B]).length = L.length + 1 := by simp
            rw [h1, Nat.add_right_comm c 5 w]
            rw [List.set_eq_take_append_cons_drop, if_pos (by rw [hcl]; exact hwc)]
          obtain ⟨R, hR⟩ : ∃ R, R = rowsO s c := ⟨_, rfl⟩
          rw [← hR] at hrow hrs ⊢
          refine AW.seq (AW.seq ?_)
          (first | (refine AW.q false fun K hK => ?_) | (refine AW.seq ?_; refine AW.q false fun K hK => ?_) | (refine AW.seq (AW.seq ?_); refine AW.q false fun K hK => ?_) | (refine AW.block ?_; refine AW.q false fun K hK => ?_) | (refine AW.seq (AW.block ?_); refine AW.q false fun K hK => ?_) | (refine AW.ql false fun K hK => ?_)); repeat' (first | ((first | with_reducible refine Z0 ?_ | with_reducible refine Zd ?_ | refine Zs ?_ | refine Zl ?_); intro HK hk; simp [go_sem]; (repeat refine ⟨by omega, ?_⟩); apply hk; clear hk HK) | ((first | ((with_reducible refine Gd ?_); first | refine Zh ?_ ?_ | refine Zk ?_ ?_) | ((with_reducible refine Ga ?_); first | refine Zg ?_ ?_ | refine Zp ?_ ?_)) <;> intro hg <;> simp only [hg] <;> (try simp at hg) <;> try omega))
          all_goals try ((first | with_reducible refine Zn ?_ | refine Zm ?_); apply hK; clear hK K; try simp only [AThen, ABlock])
          (first | with_reducible refine Z0 ?_ | with_reducible refine Zd ?_ | refine Zs ?_); intro HK hk; simp [go_sem]; (repeat refine ⟨by omega, ?_⟩); (first | refine ACall.pur rfl (h12) ?_ | refine ACallD.mk rfl (h12) ?_); simp [go_sem]; (repeat refine ⟨by omega, ?_⟩); apply hk; clear hk HK; repeat' (first | ((first | with_reducible refine Z0 ?_ | with_reducible refine Zd ?_ | refine Zs ?_ | refine Zl ?_); intro HK hk; simp [go_sem]; (repeat refine ⟨by omega, ?_⟩); apply hk; clear hk HK) | ((first | ((with_reducible refine Gd ?_); first | refine Zh ?_ ?_ | refine Zk ?_ ?_) | ((with_reducible refine Ga ?_); first | refine Zg ?_ ?_ | refine Zp ?_ ?_)) <;> intro hg <;> simp only [hg] <;> (try simp at hg) <;> try omega))
          all_goals try ((first | with_reducible refine Zn ?_ | refine Zm ?_); apply hK; clear hK K; try simp only [AThen, ABlock])
          refine AW.cond rfl (fun h => absurd h (by simp)) (fun _ => AW.skip ?_)
          simp only [AThen]
          refine AW.seq (AW.seq ?_)
          (first | (refine AW.q false fun K hK => ?_) | (refine AW.seq ?_; refine AW.q false fun K hK => ?_) | (refine AW.seq (AW.seq ?_); refine AW.q false fun K hK => ?_) | (refine AW.block ?_; refine AW.q false fun K hK => ?_) | (refine AW.seq (AW.block ?_); refine AW.q false fun K hK => ?_) | (refine AW.ql false fun K hK => ?_)); repeat' (first | ((first | with_reducible refine Z0 ?_ | with_reducible refine Zd ?_ | refine Zs ?_ | refine Zl ?_); intro HK hk; simp [go_sem, hdl]; (repeat refine ⟨by omega, ?_⟩); apply hk; clear hk HK) | ((first | ((with_reducible refine Gd ?_); first | refine Zh ?_ ?_ | refine Zk ?_ ?_) | ((with_reducible refine Ga ?_); first | refine Zg ?_ ?_ | refine Zp ?_ ?_)) <;> intro hg <;> simp only [hg] <;> (try simp at hg) <;> try omega))
          all_goals try ((first | with_reducible refine Zn ?_ | refine Zm ?_); apply hK; clear hK K; try simp only [AThen, ABlock])
          refine AW.cond rfl (fun h => absurd h (by simp)) (fun _ => AW.skip ?_)
          simp only [AThen]
          refine AW.seq (AW.seq ?_)
          (first | (refine AW.q false fun K hK => ?_) | (refine AW.seq ?_; refine AW.q false fun K hK => ?_) | (refine AW.seq (AW.seq ?_); refine AW.q false fun K hK => ?_) | (refine AW.block ?_; refine AW.q false fun K hK => ?_) | (refine AW.seq (AW.block ?_); refine AW.q false fun K hK => ?_) | (refine AW.ql false fun K hK => ?_)); repeat' (first | ((first | with_reducible refine Z0 ?_ | with_reducible refine Zd ?_ | refine Zs ?_ | refine Zl ?_); intro HK hk; simp [go_sem, hdl]; (repeat refine ⟨by omega, ?_⟩); apply hk; clear hk HK) | ((first | ((with_reducible refine Gd ?_); first | refine Zh ?_ ?_ | refine Zk ?_ ?_) | ((with_reducible refine Ga ?_); first | refine Zg ?_ ?_ | refine Zp ?_ ?_)) <;> intro hg <;> simp only [hg] <;> (try simp at hg) <;> try omega))
          all_goals try ((first | with_reducible refine Zn ?_ | refine Zm ?_); apply hK; clear hK K; try simp only [AThen, ABlock])
          refine AW.cond rfl (fun _ => ?_) (fun h => absurd h (by simp))
          refine AW.wl [(none, [c + w + 5]), (none, [c + w + 5]), (none, [c + w + 5]), (none, [c + w + 5]), (none, [c + w + 5]), (none, [c + w + 5]), (none, [c + w + 5]), (none, []), (none, [c + w + 5]), (none, [c + w + 5]), (none, []), (some (c + w + 5), []), (none, []), (some 2, [])] rfl
            (drawB_swp 1000 (c + w + 5) (tab := [(none, [1000]), (none, [1000]), (none, [1000]), (none, [1000]), (none, [1000]), (none, [1000]), (none, [1000]), (none, []), (none, [1000]), (none, [1000]), (none, []), (some 1000, []), (none, []), (some 2, [])]) (by decide +kernel) (by simp [mapRow, swp_a, swp_o])) (fun K hK => ?_)
          repeat' (first | ((first | with_reducible refine Z0 ?_ | with_reducible refine Zd ?_ | refine Zs ?_ | refine Zl ?_); intro HK hk; simp [go_sem, hww, hcell, hrow, hcl]; (repeat refine ⟨by omega, ?_⟩); apply hk; clear hk HK) | ((first | ((with_reducible refine Gd ?_); first | refine Zh ?_ ?_ | refine Zk ?_ ?_) | ((with_reducible refine Ga ?_); first | refine Zg ?_ ?_ | refine Zp ?_ ?_)) <;> intro hg <;> simp only [hg] <;> (try simp at hg) <;> try omega))
          all_goals try ((first | with_reducible refine Zn ?_ | refine Zm ?_); apply hK; clear hK K; try simp only [AThen, ABlock])
          all_goals repeat' (first | (refine Zc ?_ ?_ <;> intro h <;> (try simp [go_sem, hwi] at h) <;> try omega) | (refine Zi ?_; try simp only [AThen, ABlock]) | (refine Ze ?_; simp +decide only [AThen, ABlock, reduceIte]) | (refine Zt ?_; (try simp [go_sem, hwi]); all_goals (try simp [loR, lo]); all_goals try exact rfl) | ((first | refine Zq ?_ | refine Zr ?_ | refine Zw ?_ | refine Zx ?_); intro K hK; repeat' (first | ((first | with_reducible refine Z0 ?_ | with_reducible refine Zd ?_ | refine Zs ?_ | refine Zl ?_); intro HK hk; simp [go_sem, hwi]; (repeat refine ⟨by omega, ?_⟩); apply hk; clear hk HK) | ((first | ((with_reducible refine Gd ?_); first | refine Zh ?_ ?_ | refine Zk ?_ ?_) | ((with_reducible refine Ga ?_); first | refine Zg ?_ ?_ | refine Zp ?_ ?_)) <;> intro hg <;> simp only [hg] <;> (try simp at hg) <;> try omega)); all_goals try ((first | with_reducible refine Zn ?_ | refine Zm ?_); apply hK; clear hK K; try simp only [AThen, ABlock])) | refine Zz ?_ | refine Zb ?_)
          all_goals try exact rfl
          refine ⟨hil, trivial, ?_⟩
          rw [hnx]
          refine Sub.oEnd hOn.len [.bool false, .int .i64 w, .int .i64 e.From, bsP e.B] (specP (stepS s e).1) (by rw [hlg]) hsp hrs ?_ ?_ ?_ ?_ ?_
          · simp [go_sem]
          · simp [go_sem]
          · simp [go_sem]
            omega
          · simp [go_sem]
          · simp [go_sem]
        | true =>
          obtain ⟨w, hwc, hww, hac, hlg, _⟩ := o_deliver hOi hbe hst hdl
          obtain ⟨L, hL⟩ : ∃ L, (logsS s c)[w]? = some L := ⟨_, logsS_get hwc⟩
          have hLg : (logsS s c).getD w [] = L := by rw [List.getD_eq_getElem?_getD, hL]; rfl
          rw [hLg] at hlg
          have hLl : L.length ≤ 60 := by
            rw [logsS_get hwc] at hL
            have h1 := hOi.inv.seq
            rw [← Option.some.inj hL, List.length_take]; omega
          have hcell : (ownC 5 (logsS s c))[w]? = some (.own (w + 5) L.length) := by rw [ownC_get 5 hL, Nat.add_comm]
          have hcl : (ownC 5 (logsS s c)).length = c := by rw [ownC_len, logsS_len]
          have hrow : (rowsO s c)[w]? = some (.arr 44 2 0 (L.map delivP)) := by
            unfold rowsO
            rw [List.getElem?_append_left (by rw [rowsA_len, logsS_len]; exact hwc)]; exact rowsA_get hL
          have hrs : (rowsO s c).set w (.arr 44 2 0 (L.map delivP ++ [[.int .i64 e.From, bsP e.B]])) = rowsO (stepS s e).1 c := by
            unfold rowsO
            rw [List.set_append, if_pos (by rw [rowsA_len, logsS_len]; exact hwc), hlg, hac, ← rowsA_set]
            simp [delivP]
          have hsp : (ownC 5 (logsS s c)).take w ++ .own (w + 5) (L.length + 1) :: (ownC 5 (logsS s c)).drop (w + 1) = ownC 5 (logsS (stepS s e).1 c) := by
            rw [hlg, ← ownC_set]
            have h1 : (L ++ [(⟨e.From, e.B⟩ : Deliv)]).length = L.length + 1 := by simp
            rw [h1, Nat.add_comm 5 w]
            rw [List.set_eq_take_append_cons_drop, if_pos (by rw [hcl]; exact hwc)]
          obtain ⟨R, hR⟩ : ∃ R, R = rowsO s c := ⟨_, rfl⟩
          rw [← hR] at hrow hrs ⊢
          refine AW.seq (AW.seq ?_)
          (first | (refine AW.q false fun K hK => ?_) | (refine AW.seq ?_; refine AW.q false fun K hK => ?_) | (refine AW.seq (AW.seq ?_); refine AW.q false fun K hK => ?_) | (refine AW.block ?_; refine AW.q false fun K hK => ?_) | (refine AW.seq (AW.block ?_); refine AW.q false fun K hK => ?_) | (refine AW.ql false fun K hK => ?_)); repeat' (first | ((first | with_reducible refine Z0 ?_ | with_reducible refine Zd ?_ | refine Zs ?_ | refine Zl ?_); intro HK hk; simp [go_sem]; (repeat refine ⟨by omega, ?_⟩); apply hk; clear hk HK) | ((first | ((with_reducible refine Gd ?_); first | refine Zh ?_ ?_ | refine Zk ?_ ?_) | ((with_reducible refine Ga ?_); first | refine Zg ?_ ?_ | refine Zp ?_ ?_)) <;> intro hg <;> simp only [hg] <;> (try simp at hg) <;> try omega))
          all_goals try ((first | with_reducible refine Zn ?_ | refine Zm ?_); apply hK; clear hK K; try simp only [AThen, ABlock])
          (first | with_reducible refine Z0 ?_ | with_reducible refine Zd ?_ | refine Zs ?_); intro HK hk; simp [go_sem]; (repeat refine ⟨by omega, ?_⟩); (first | refine ACall.pur rfl (h12) ?_ | refine ACallD.mk rfl (h12) ?_); simp [go_sem]; (repeat refine ⟨by omega, ?_⟩); apply hk; clear hk HK; repeat' (first | ((first | with_reducible refine Z0 ?_ | with_reducible refine Zd ?_ | refine Zs ?_ | refine Zl ?_); intro HK hk; simp [go_sem]; (repeat refine ⟨by omega, ?_⟩); apply hk; clear hk HK) | ((first | ((with_reducible refine Gd ?_); first | refine Zh ?_ ?_ | refine Zk ?_ ?_) | ((with_reducible refine Ga ?_); first | refine Zg ?_ ?_ | refine Zp ?_ ?_)) <;> intro hg <;> simp only [hg] <;> (try simp at hg) <;> try omega))
          all_goals try ((first | with_reducible refine Zn ?_ | refine Zm ?_); apply hK; clear hK K; try simp only [AThen, ABlock])
          refine AW.cond rfl (fun h => absurd h (by simp)) (fun _ => AW.skip ?_)
          simp only [AThen]
          refine AW.seq (AW.seq ?_)
          (first | (refine AW.q false fun K hK => ?_) | (refine AW.seq ?_; refine AW.q false fun K hK => ?_) | (refine AW.seq (AW.seq ?_); refine AW.q false fun K hK => ?_) | (refine AW.block ?_; refine AW.q false fun K hK => ?_) | (refine AW.seq (AW.block ?_); refine AW.q false fun K hK => ?_) | (refine AW.ql false fun K hK => ?_)); repeat' (first | ((first | with_reducible refine Z0 ?_ | with_reducible refine Zd ?_ | refine Zs ?_ | refine Zl ?_); intro HK hk; simp [go_sem, hdl]; (repeat refine ⟨by omega, ?_⟩); apply hk; clear hk HK) | ((first | ((with_reducible refine Gd ?_); first | refine Zh ?_ ?_ | refine Zk ?_ ?_) | ((with_reducible refine Ga ?_); first | refine Zg ?_ ?_ | refine Zp ?_ ?_)) <;> intro hg <;> simp only [hg] <;> (try simp at hg) <;> try omega))
          all_goals try ((first | with_reducible refine Zn ?_ | refine Zm ?_); apply hK; clear hK K; try simp only [AThen, ABlock])
          refine AW.cond rfl (fun _ => ?_) (fun h => absurd h (by simp))
          refine AW.wl [(none, [w + 5]), (none, [w + 5]), (none, [w + 5]), (none, [w + 5]), (none, [w + 5]), (none, [w + 5]), (none, [w + 5]), (none, []), (none, [w + 5]), (none, [w + 5]), (none, [w + 5]), (none, [w + 5]), (none, [w + 5]), (none, []), (some (w + 5), []), (none, []), (some 1, [])] rfl
            (drawB_swp 1000 (w + 5) (tab := [(none, [1000]), (none, [1000]), (none, [1000]), (none, [1000]), (none, [1000]), (none, [1000]), (none, [1000]), (none, []), (none, [1000]), (none, [1000]), (none, [1000]), (none, [1000]), (none, [1000]), (none, []), (some 1000, []), (none, []), (some 1, [])]) (by decide +kernel) (by simp [mapRow, swp_a, swp_o])) (fun K hK => ?_)
          repeat' (first | ((first | with_reducible refine Z0 ?_ | with_reducible refine Zd ?_ | refine Zs ?_ | refine Zl ?_); intro HK hk; simp [go_sem, hww, hcell, hrow, hcl]; (repeat refine ⟨by omega, ?_⟩); apply hk; clear hk HK) | ((first | ((with_reducible refine Gd ?_); first | refine Zh ?_ ?_ | refine Zk ?_ ?_) | ((with_reducible refine Ga ?_); first | refine Zg ?_ ?_ | refine Zp ?_ ?_)) <;> intro hg <;> simp only [hg] <;> (try simp at hg) <;> try omega))
          all_goals try ((first | with_reducible refine Zn ?_ | refine Zm ?_); apply hK; clear hK K; try simp only [AThen, ABlock])
          all_goals repeat' (first | (refine Zc ?_ ?_ <;> intro h <;> (try simp [go_sem, hdl, hwi] at h) <;> try omega) | (refine Zi ?_; try simp only [AThen, ABlock]) | (refine Ze ?_; simp +decide only [AThen, ABlock, reduceIte]) | (refine Zt ?_; (try simp [go_sem, hdl, hwi]); all_goals (try simp [loR, lo]); all_goals try exact rfl) | ((first | refine Zq ?_ | refine Zr ?_ | refine Zw ?_ | refine Zx ?_); intro K hK; repeat' (first | ((first | with_reducible refine Z0 ?_ | with_reducible refine Zd ?_ | refine Zs ?_ | refine Zl ?_); intro HK hk; simp [go_sem, hdl, hwi]; (repeat refine ⟨by omega, ?_⟩); apply hk; clear hk HK) | ((first | ((with_reducible refine Gd ?_); first | refine Zh ?_ ?_ | refine Zk ?_ ?_) | ((with_reducible refine Ga ?_); first | refine Zg ?_ ?_ | refine Zp ?_ ?_)) <;> intro hg <;> simp only [hg] <;> (try simp at hg) <;> try omega)); all_goals try ((first | with_reducible refine Zn ?_ | refine Zm ?_); apply hK; clear hK K; try simp only [AThen, ABlock])) | refine Zz ?_ | refine Zb ?_)
          all_goals try exact rfl
          refine ⟨hil, trivial, ?_⟩
          rw [hnx]
          refine Sub.oEnd hOn.len [.bool true, .int .i64 w, .int .i64 e.From, bsP e.B] (specP (stepS s e).1) hsp (by rw [hac]) hrs ?_ ?_ ?_ ?_ ?_
          · simp [go_sem]
          · simp [go_sem]
          · simp [go_sem]
            omega
          · simp [go_sem]
          · simp [go_sem]
    · obtain rfl : i = l.length := by omega
      obtain ⟨s, hs⟩ : ∃ s, s = stS (newS c) l l.length := ⟨_, rfl⟩
      rw [← hs] at hOi ⊢
      obtain ⟨hbc, hbq⟩ := o_best hOi hc1
      obtain ⟨ls, hls⟩ : ∃ ls, ls = logsS s c := ⟨_, rfl⟩
      have hlc : ls.length = c := by rw [hls, logsS_len]
      have hlog : ∀ i, i < c → ∃ L, ls[i]? = some L ∧ (s.Seq.map delivP).take L.length = L.map delivP ∧ L.length ≤ s.Seq.length := fun i hi => by
        obtain ⟨a, ha, h1⟩ := o_log hOi hi
        refine ⟨_, by rw [hls]; exact h1, ?_, ?_⟩
        · rw [List.length_take, Nat.min_eq_left ha, List.map_take]
        · rw [List.length_take]; omega
      rw [← hls] at hbc hbq
      refine AW.seq (AW.seq ?_)
      (first | (refine AW.q false fun K hK => ?_) | (refine AW.seq ?_; refine AW.q false fun K hK => ?_) | (refine AW.seq (AW.seq ?_); refine AW.q false fun K hK => ?_) | (refine AW.block ?_; refine AW.q false fun K hK => ?_) | (refine AW.seq (AW.block ?_); refine AW.q false fun K hK => ?_) | (refine AW.ql false fun K hK => ?_)); repeat ((first | with_reducible refine Z0 ?_ | with_reducible refine Zd ?_ | refine Zs ?_ | refine Zl ?_); intro HK hk; simp [go_sem]; (repeat refine ⟨by omega, ?_⟩); apply hk; clear hk HK)
      try ((first | refine Zn ?_ | refine Zm ?_); apply hK; clear hK K; try simp only [AThen, ABlock])
      refine AW.cond rfl (fun h => absurd h (by simp)) (fun _ => AW.exit ?_)
      simp +decide only [AThen, ABlock, reduceIte]
      have hfz := fun sl hs hd => Sub.oFrz (n := 200) (sl := sl) (sl' := [(9, .c (.vs 2 c)), (8, .c (.vs 1 c)), (7, .c (.ptr 0 0)), (6, .c (.p (.int .i64 c))), (5, .c (.p (.bool true)))]) (s := s) (c := c) hOi.len hs hd
      rw [← hls] at hfz
      refine AW.weak (hfz _ ?_ (by simp [go_sem])) ?_
      · simp [go_sem]
      simp only [endO]
      all_goals repeat' (first | (refine Zc ?_ ?_ <;> intro h <;> (try simp [go_sem] at h) <;> try omega) | (refine Zi ?_; try simp only [AThen, ABlock]) | (refine Ze ?_; simp +decide only [AThen, ABlock, reduceIte]) | (refine Zt ?_; (try simp [go_sem]); all_goals (try simp [loR, lo]); all_goals try exact rfl) | ((first | refine Zq ?_ | refine Zr ?_ | refine Zw ?_ | refine Zx ?_); intro K hK; repeat' (first | ((first | with_reducible refine Z0 ?_ | with_reducible refine Zd ?_ | refine Zs ?_ | refine Zl ?_); intro HK hk; simp [go_sem]; (repeat refine ⟨by omega, ?_⟩); apply hk; clear hk HK) | ((first | ((with_reducible refine Gd ?_); first | refine Zh ?_ ?_ | refine Zk ?_ ?_) | ((with_reducible refine Ga ?_); first | refine Zg ?_ ?_ | refine Zp ?_ ?_)) <;> intro hg <;> simp only [hg] <;> (try simp at hg) <;> try omega)); all_goals try ((first | with_reducible refine Zn ?_ | refine Zm ?_); apply hK; clear hK K; try simp only [AThen, ABlock])) | refine Zz ?_ | refine Zb ?_)
      all_goals try exact rfl
      refine AW.upto c (fun _ => True) (fun i => [(15, .c (.p (.int .i64 i))), (14, .c (.p (.int .i64 (bestF ls i)))), (9, .c (.vs 2 c)), (8, .c (.vs 1 c)), (7, .c (.ptr 0 0)), (6, .c (.p (.int .i64 c))), (5, .c (.p (.bool true)))]) (fun _ => endO s ls) trivial ?_ fun i hi _ => ?_
      · refine Sub.of 3 (Nat.zero_le _) rfl (endO_ids _ _) ?_ (by simp [go_sem])
        simp [go_sem, bestF]
      have hwi := wrapS (show (i : Int) < 9223372036854775807 by omega)
      simp only [endO]
      by_cases hic : i < c
      · have hbi := (best_le ls i).2.1
        obtain ⟨A, hA, _⟩ := hlog i hic
        obtain ⟨D, hD, _⟩ := hlog (bestF ls i) (by omega)
        have hbs : bestF ls (i + 1) = if D.length < A.length then i else bestF ls i := by
          rw [bestF, List.getD_eq_getElem?_getD, List.getD_eq_getElem?_getD, hA, hD]; rfl
        all_goals repeat' (first | (refine Zc ?_ ?_ <;> intro h <;> (try simp [go_sem, hA, hD, hwi] at h) <;> try omega) | (refine Zi ?_; try simp only [AThen, ABlock]) | (refine Ze ?_; simp +decide only [AThen, ABlock, reduceIte]) | (refine Zt ?_; (try simp [go_sem, hA, hD, hwi]); all_goals (try simp [loR, lo]); all_goals try exact rfl) | ((first | refine Zq ?_ | refine Zr ?_ | refine Zw ?_ | refine Zx ?_); intro K hK; repeat' (first | ((first | with_reducible refine Z0 ?_ | with_reducible refine Zd ?_ | refine Zs ?_ | refine Zl ?_); intro HK hk; simp [go_sem, hA, hD, hwi]; (repeat refine ⟨by omega, ?_⟩); apply hk; clear hk HK) | ((first | ((with_reducible refine Gd ?_); first | refine Zh ?_ ?_ | refine Zk ?_ ?_) | ((with_reducible refine Ga ?_); first | refine Zg ?_ ?_ | refine Zp ?_ ?_)) <;> intro hg <;> simp only [hg] <;> (try simp at hg) <;> try omega)); all_goals try ((first | with_reducible refine Zn ?_ | refine Zm ?_); apply hK; clear hK K; try simp only [AThen, ABlock])) | refine Zz ?_ | refine Zb ?_)
        all_goals try exact rfl
        · rename_i hlt
          rw [if_pos (by omega)] at hbs
          refine ⟨hic, trivial, Sub.of 3 (Nat.zero_le _) rfl (endO_ids s ls) ?_ (by simp [go_sem])⟩
          simp [go_sem, hbs]
        · rename_i hge
          rw [if_neg (by omega)] at hbs
          refine ⟨hic, trivial, Sub.of 3 (Nat.zero_le _) rfl (endO_ids s ls) ?_ (by simp [go_sem])⟩
          simp [go_sem, hbs]
      · obtain rfl : i = c := by omega
        obtain ⟨bb, hbb⟩ : ∃ bb, bb = bestF ls i := ⟨_, rfl⟩
        obtain ⟨Q, hQ⟩ : ∃ Q, Q = s.Seq := ⟨_, rfl⟩
        rw [← hbb] at hbc hbq ⊢
        rw [← hQ] at hbq hlog
        have hbg : ls[bb]? = some Q := by
          rw [List.getD_eq_getElem?_getD, List.getElem?_eq_getElem (by omega)] at hbq
          rw [List.getElem?_eq_getElem (by omega)]; exact congrArg some hbq
        have hQl : Q.length ≤ 60 := by rw [hQ]; have := hOi.inv.seq; omega
        have hfin := pc_23 s.Seq Q
        rw [decide_eq_true hQ.symm] at hfin
        all_goals repeat' (first | (refine Zc ?_ ?_ <;> intro h <;> (try simp [go_sem] at h) <;> try omega) | (refine Zi ?_; try simp only [AThen, ABlock]) | (refine Ze ?_; simp +decide only [AThen, ABlock, reduceIte]) | (refine Zt ?_; (try simp [go_sem]); all_goals (try simp [loR, lo]); all_goals try exact rfl) | ((first | refine Zq ?_ | refine Zr ?_ | refine Zw ?_ | refine Zx ?_); intro K hK; repeat' (first | ((first | with_reducible refine Z0 ?_ | with_reducible refine Zd ?_ | refine Zs ?_ | refine Zl ?_); intro HK hk; simp [go_sem]; (repeat refine ⟨by omega, ?_⟩); apply hk; clear hk HK) | ((first | ((with_reducible refine Gd ?_); first | refine Zh ?_ ?_ | refine Zk ?_ ?_) | ((with_reducible refine Ga ?_); first | refine Zg ?_ ?_ | refine Zp ?_ ?_)) <;> intro hg <;> simp only [hg] <;> (try simp at hg) <;> try omega)); all_goals try ((first | with_reducible refine Zn ?_ | refine Zm ?_); apply hK; clear hK K; try simp only [AThen, ABlock])) | refine Zz ?_ | refine Zb ?_)
        all_goals try exact rfl
        refine AW.upto i (fun _ => True) (fun j => [(16, .c (.p (.int .i64 j))), (14, .c (.p (.int .i64 bb))), (9, .c (.vs 2 i)), (8, .c (.vs 1 i)), (7, .c (.ptr 0 0)), (6, .c (.p (.int .i64 i))), (5, .c (.p (.bool true)))]) (fun _ => endO s ls) trivial ?_ fun j hj _ => ?_
        · refine Sub.of 3 (Nat.zero_le _) rfl (endO_ids _ _) ?_ (by simp [go_sem])
          simp [go_sem]
        have hwj := wrapS (show (j : Int) < 9223372036854775807 by omega)
        simp only [endO]
        by_cases hjc : j < i
        · obtain ⟨L, hL, hLt, hLQ⟩ := hlog j hjc
          have h23 := pc_23 L L
          rw [decide_eq_true rfl] at h23
          all_goals repeat' (first | (refine Zc ?_ ?_ <;> intro h <;> (try simp [go_sem, hL, hbg, hLt] at h) <;> try omega) | (refine Zi ?_; try simp only [AThen, ABlock]) | (refine Ze ?_; simp +decide only [AThen, ABlock, reduceIte]) | (refine Zt ?_; (try simp [go_sem, hL, hbg, hLt]); all_goals (try simp [loR, lo]); all_goals try exact rfl) | ((first | refine Zq ?_ | refine Zr ?_ | refine Zw ?_ | refine Zx ?_); intro K hK; repeat' (first | ((first | with_reducible refine Z0 ?_ | with_reducible refine Zd ?_ | refine Zs ?_ | refine Zl ?_); intro HK hk; simp [go_sem, hL, hbg, hLt]; (repeat refine ⟨by omega, ?_⟩); apply hk; clear hk HK) | ((first | ((with_reducible refine Gd ?_); first | refine Zh ?_ ?_ | refine Zk ?_ ?_) | ((with_reducible refine Ga ?_); first | refine Zg ?_ ?_ | refine Zp ?_ ?_)) <;> intro hg <;> simp only [hg] <;> (try simp at hg) <;> try omega)); all_goals try ((first | with_reducible refine Zn ?_ | refine Zm ?_); apply hK; clear hK K; try simp only [AThen, ABlock])) | refine Zz ?_ | refine Zb ?_)
          all_goals try exact rfl
          (first | with_reducible refine Z0 ?_ | with_reducible refine Zd ?_ | refine Zs ?_); intro HK hk; simp [go_sem]; (repeat refine ⟨by omega, ?_⟩); (first | refine ACall.pur rfl (h23) ?_ | refine ACallD.mk rfl (h23) ?_); simp [go_sem]; (repeat refine ⟨by omega, ?_⟩); apply hk; clear hk HK; repeat' (first | ((first | with_reducible refine Z0 ?_ | with_reducible refine Zd ?_ | refine Zs ?_ | refine Zl ?_); intro HK hk; simp [go_sem]; (repeat refine ⟨by omega, ?_⟩); apply hk; clear hk HK) | ((first | ((with_reducible refine Gd ?_); first | refine Zh ?_ ?_ | refine Zk ?_ ?_) | ((with_reducible refine Ga ?_); first | refine Zg ?_ ?_ | refine Zp ?_ ?_)) <;> intro hg <;> simp only [hg] <;> (try simp at hg) <;> try omega))
          all_goals try ((first | with_reducible refine Zn ?_ | refine Zm ?_); apply hK; clear hK K; try simp only [AThen, ABlock])
          all_goals repeat' (first | (refine Zc ?_ ?_ <;> intro h <;> (try simp [go_sem] at h) <;> try omega) | (refine Zi ?_; try simp only [AThen, ABlock]) | (refine Ze ?_; simp +decide only [AThen, ABlock, reduceIte]) | (refine Zt ?_; (try simp [go_sem]); all_goals (try simp [loR, lo]); all_goals try exact rfl) | ((first | refine Zq ?_ | refine Zr ?_ | refine Zw ?_ | refine Zx ?_); intro K hK; repeat' (first | ((first | with_reducible refine Z0 ?_ | with_reducible refine Zd ?_ | refine Zs ?_ | refine Zl ?_); intro HK hk; simp [go_sem]; (repeat refine ⟨by omega, ?_⟩); apply hk; clear hk HK) | ((first | ((with_reducible refine Gd ?_); first | refine Zh ?_ ?_ | refine Zk ?_ ?_) | ((with_reducible refine Ga ?_); first | refine Zg ?_ ?_ | refine Zp ?_ ?_)) <;> intro hg <;> simp only [hg] <;> (try simp at hg) <;> try omega)); all_goals try ((first | with_reducible refine Zn ?_ | refine Zm ?_); apply hK; clear hK K; try simp only [AThen, ABlock])) | refine Zz ?_ | refine Zb ?_)
          all_goals try exact rfl
          refine AW.upto Q.length (fun _ => True) (fun t => [(18, .c (.p (.int .i64 t))), (17, .c (.p (.int .i64 (ofF (Q.take t) (j : Int)).length))), (16, .c (.p (.int .i64 j))), (14, .c (.p (.int .i64 bb))), (9, .c (.vs 2 i)), (8, .c (.vs 1 i)), (7, .c (.ptr 0 0)), (6, .c (.p (.int .i64 i))), (5, .c (.p (.bool true)))]) (fun _ => endO s ls) trivial ?_ fun t ht _ => ?_
          · refine Sub.of 3 (Nat.zero_le _) rfl (endO_ids s ls) ?_ (by simp [go_sem])
            simp [go_sem, ofF]
          have hwt := wrapS (show (t : Int) < 9223372036854775807 by omega)
          simp only [endO]
          by_cases htc : t < Q.length
          · obtain ⟨d, hd⟩ : ∃ d, Q[t]? = some d := ⟨_, List.getElem?_eq_getElem htc⟩
            have hof : ofF (Q.take (t + 1)) (j : Int) = ofF (Q.take t) (j : Int) ++ if d.From = (j : Int) then [d.B] else [] := by
              rw [List.take_add_one, hd, ofF_app, Option.toList_some, ofF_one]
            obtain ⟨a, ha⟩ : ∃ a, a = (ofF (Q.take t) (j : Int)).length := ⟨_, rfl⟩
            rw [← ha]
            by_cases hfj : d.From = (j : Int)
            · have hat := o_acc hOi hjc (by rw [← hQ]; exact hd) hfj
              rw [← hQ, ← ha] at hat
              obtain ⟨A, hA⟩ : ∃ A, s.Acc[j]? = some A := ⟨_, List.getElem?_eq_getElem (by rw [hOi.len]; exact hjc)⟩
              rw [List.getD_eq_getElem?_getD, hA, Option.getD_some] at hat
              have haA := (List.getElem?_eq_some_iff.1 hat).1
              rw [if_pos hfj] at hof
              have hln : (ofF (Q.take (t + 1)) (j : Int)).length = a + 1 := by rw [hof, List.length_append, ← ha]; rfl
              have hal : a ≤ 60 := by
                rw [ha]
                have h1 : (ofF (Q.take t) (j : Int)).length ≤ (Q.take t).length := by unfold ofF; rw [List.length_map]; exact List.length_filter_le _ _
                rw [List.length_take] at h1; omega
              have hwa := wrapS (show (a : Int) < 9223372036854775807 by omega)
              all_goals repeat' (first | (refine Zc ?_ ?_ <;> intro h <;> (try simp [go_sem, hbg, hd, hfj, hA, hat, hwt, hwa] at h) <;> try omega) | (refine Zi ?_; try simp only [AThen, ABlock]) | (refine Ze ?_; simp +decide only [AThen, ABlock, reduceIte]) | (refine Zt ?_; (try simp [go_sem, hbg, hd, hfj, hA, hat, hwt, hwa]); all_goals (try simp [loR, lo]); all_goals try exact rfl) | ((first | refine Zq ?_ | refine Zr ?_ | refine Zw ?_ | refine Zx ?_); intro K hK; repeat' (first | ((first | with_reducible refine Z0 ?_ | with_reducible refine Zd ?_ | refine Zs ?_ | refine Zl ?_); intro HK hk; simp [go_sem, hbg, hd, hfj, hA, hat, hwt, hwa]; (repeat refine ⟨by omega, ?_⟩); apply hk; clear hk HK) | ((first | ((with_reducible refine Gd ?_); first | refine Zh ?_ ?_ | refine Zk ?_ ?_) | ((with_reducible refine Ga ?_); first | refine Zg ?_ ?_ | refine Zp ?_ ?_)) <;> intro hg <;> simp only [hg] <;> (try simp at hg) <;> try omega)); all_goals try ((first | with_reducible refine Zn ?_ | refine Zm ?_); apply hK; clear hK K; try simp only [AThen, ABlock])) | refine Zz ?_ | refine Zb ?_)
              all_goals try exact rfl
              refine ⟨htc, trivial, Sub.of 3 (Nat.zero_le _) rfl (endO_ids s ls) ?_ (by simp [go_sem])⟩
              simp [go_sem, hln]
            · rw [if_neg hfj, List.append_nil] at hof
              have hln : (ofF (Q.take (t + 1)) (j : Int)).length = a := by rw [hof, ← ha]
              all_goals repeat' (first | (refine Zc ?_ ?_ <;> intro h <;> (try simp [go_sem, hbg, hd, hfj, hwt] at h) <;> try omega) | (refine Zi ?_; try simp only [AThen, ABlock]) | (refine Ze ?_; simp +decide only [AThen, ABlock, reduceIte]) | (refine Zt ?_; (try simp [go_sem, hbg, hd, hfj, hwt]); all_goals (try simp [loR, lo]); all_goals try exact rfl) | ((first | refine Zq ?_ | refine Zr ?_ | refine Zw ?_ | refine Zx ?_); intro K hK; repeat' (first | ((first | with_reducible refine Z0 ?_ | with_reducible refine Zd ?_ | refine Zs ?_ | refine Zl ?_); intro HK hk; simp [go_sem, hbg, hd, hfj, hwt]; (repeat refine ⟨by omega, ?_⟩); apply hk; clear hk HK) | ((first | ((with_reducible refine Gd ?_); first | refine Zh ?_ ?_ | refine Zk ?_ ?_) | ((with_reducible refine Ga ?_); first | refine Zg ?_ ?_ | refine Zp ?_ ?_)) <;> intro hg <;> simp only [hg] <;> (try simp at hg) <;> try omega)); all_goals try ((first | with_reducible refine Zn ?_ | refine Zm ?_); apply hK; clear hK K; try simp only [AThen, ABlock])) | refine Zz ?_ | refine Zb ?_)
              all_goals try exact rfl
              refine ⟨htc, trivial, Sub.of 3 (Nat.zero_le _) rfl (endO_ids s ls) ?_ (by simp [go_sem])⟩
              simp [go_sem, hln]
          · all_goals repeat' (first | (refine Zc ?_ ?_ <;> intro h <;> (try simp [go_sem, hbg, hwj] at h) <;> try omega) | (refine Zi ?_; try simp only [AThen, ABlock]) | (refine Ze ?_; simp +decide only [AThen, ABlock, reduceIte]) | (refine Zt ?_; (try simp [go_sem, hbg, hwj]); all_goals (try simp [loR, lo]); all_goals try exact rfl) | ((first | refine Zq ?_ | refine Zr ?_ | refine Zw ?_ | refine Zx ?_); intro K hK; repeat' (first | ((first | with_reducible refine Z0 ?_ | with_reducible refine Zd ?_ | refine Zs ?_ | refine Zl ?_); intro HK hk; simp [go_sem, hbg, hwj]; (repeat refine ⟨by omega, ?_⟩); apply hk; clear hk HK) | ((first | ((with_reducible refine Gd ?_); first | refine Zh ?_ ?_ | refine Zk ?_ ?_) | ((with_reducible refine Ga ?_); first | refine Zg ?_ ?_ | refine Zp ?_ ?_)) <;> intro hg <;> simp only [hg] <;> (try simp at hg) <;> try omega)); all_goals try ((first | with_reducible refine Zn ?_ | refine Zm ?_); apply hK; clear hK K; try simp only [AThen, ABlock])) | refine Zz ?_ | refine Zb ?_)
            all_goals try exact rfl
            refine ⟨hjc, trivial, Sub.of 3 (Nat.zero_le _) rfl (endO_ids s ls) ?_ (by simp [go_sem])⟩
            simp [go_sem]
        · obtain rfl : j = i := by omega
          all_goals repeat' (first | (refine Zc ?_ ?_ <;> intro h <;> (try simp [go_sem, hbg] at h) <;> try omega) | (refine Zi ?_; try simp only [AThen, ABlock]) | (refine Ze ?_; simp +decide only [AThen, ABlock, reduceIte]) | (refine Zt ?_; (try simp [go_sem, hbg]); all_goals (try simp [loR, lo]); all_goals try exact rfl) | ((first | refine Zq ?_ | refine Zr ?_ | refine Zw ?_ | refine Zx ?_); intro K hK; repeat' (first | ((first | with_reducible refine Z0 ?_ | with_reducible refine Zd ?_ | refine Zs ?_ | refine Zl ?_); intro HK hk; simp [go_sem, hbg]; (repeat refine ⟨by omega, ?_⟩); apply hk; clear hk HK) | ((first | ((with_reducible refine Gd ?_); first | refine Zh ?_ ?_ | refine Zk ?_ ?_) | ((with_reducible refine Ga ?_); first | refine Zg ?_ ?_ | refine Zp ?_ ?_)) <;> intro hg <;> simp only [hg] <;> (try simp at hg) <;> try omega)); all_goals try ((first | with_reducible refine Zn ?_ | refine Zm ?_); apply hK; clear hK K; try simp only [AThen, ABlock])) | refine Zz ?_ | refine Zb ?_)
          all_goals try exact rfl
          (first | with_reducible refine Z0 ?_ | with_reducible refine Zd ?_ | refine Zs ?_); intro HK hk; simp [go_sem]; (repeat refine ⟨by omega, ?_⟩); (first | refine ACall.pur rfl (hfin) ?_ | refine ACallD.mk rfl (hfin) ?_); simp [go_sem]; (repeat refine ⟨by omega, ?_⟩); apply hk; clear hk HK; repeat' (first | ((first | with_reducible refine Z0 ?_ | with_reducible refine Zd ?_ | refine Zs ?_ | refine Zl ?_); intro HK hk; simp [go_sem]; (repeat refine ⟨by omega, ?_⟩); apply hk; clear hk HK) | ((first | ((with_reducible refine Gd ?_); first | refine Zh ?_ ?_ | refine Zk ?_ ?_) | ((with_reducible refine Ga ?_); first | refine Zg ?_ ?_ | refine Zp ?_ ?_)) <;> intro hg <;> simp only [hg] <;> (try simp at hg) <;> try omega))
          all_goals try ((first | with_reducible refine Zn ?_ | refine Zm ?_); apply hK; clear hK K; try simp only [AThen, ABlock])
          all_goals repeat' (first | (refine Zc ?_ ?_ <;> intro h <;> (try simp [go_sem] at h) <;> try omega) | (refine Zi ?_; try simp only [AThen, ABlock]) | (refine Ze ?_; simp +decide only [AThen, ABlock, reduceIte]) | (refine Zt ?_; (try simp [go_sem]); all_goals (try simp [loR, lo]); all_goals try exact rfl) | ((first | refine Zq ?_ | refine Zr ?_ | refine Zw ?_ | refine Zx ?_); intro K hK; repeat' (first | ((first | with_reducible refine Z0 ?_ | with_reducible refine Zd ?_ | refine Zs ?_ | refine Zl ?_); intro HK hk; simp [go_sem]; (repeat refine ⟨by omega, ?_⟩); apply hk; clear hk HK) | ((first | ((with_reducible refine Gd ?_); first | refine Zh ?_ ?_ | refine Zk ?_ ?_) | ((with_reducible refine Ga ?_); first | refine Zg ?_ ?_ | refine Zp ?_ ?_)) <;> intro hg <;> simp only [hg] <;> (try simp at hg) <;> try omega)); all_goals try ((first | with_reducible refine Zn ?_ | refine Zm ?_); apply hK; clear hK K; try simp only [AThen, ABlock])) | refine Zz ?_ | refine Zb ?_)
          all_goals try exact rfl
end Go.Proofs.Ytnibihjlclelgaa
