import Derived.Test.YtcobhlghjddphaaA12
set_option linter.unusedVariables false
set_option linter.unusedSimpArgs false
set_option maxRecDepth 100000
namespace Go.Proofs.Ytcobhlghjddphaa
open Go.Aw

theorem AW.seqX {P : Program} {n k : Nat} {sl : Slots} {H : List AObj} {Q : Exit → Slots → List AObj → Prop} {x y : Code} {X : Type} (F : X → Slots) (G : X → List AObj)
    (h : AW P n k x (AThen (fun sl' H' => ∃ z, Sub n k sl' H' (F z) (G z)) Q) sl H) (g : ∀ z, AW P n k y Q (F z) (G z)) : AW P n k (.seq x y) Q sl H :=
  AW.seq (AW.mono h fun e sl' H' hq => by
    cases e
    case normal => obtain ⟨z, hz⟩ := hq; exact AW.weak hz (g z)
    all_goals exact hq)
abbrev boolsP (l : List Bool) : PV := .sl false (l.map fun b => [.bool b])
abbrev hs (g : Nat) : List AObj := List.replicate g .hole
theorem idsO_hs {j T s f : Nat} {es : List (List PV)} : ∀ g : Nat, idsO j (hs g ++ [.arr T s f es])
  | 0 => trivial
  | g + 1 => idsO_hs g
theorem noO_hs {j T s f T' s' f' : Nat} {es es' : List (List PV)} : ∀ g : Nat, noO j (hs g ++ [.arr T s f es, .arr T' s' f' es'])
  | 0 => trivial
  | g + 1 => noO_hs g
theorem hs_len (g : Nat) : (hs g).length = g := List.length_replicate
theorem hs_get {o : AObj} (g : Nat) : (hs g ++ [o])[g]? = some o := by simp
theorem hs_set {o o' : AObj} (g : Nat) : (hs g ++ [o]).set g o' = hs g ++ [o'] := by simp [List.set_append]
theorem hs_get2 {o o' : AObj} (g : Nat) : (hs g ++ [o, o'])[g + 1]? = some o' := by simp [List.getElem?_append_right]
theorem hs_get1 {o o' : AObj} (g : Nat) : (hs g ++ [o, o'])[g]? = some o := by simp [List.getElem?_append_right]
theorem hs_set2 {o o' o2 : AObj} (g : Nat) : (hs g ++ [o, o']).set (g + 1) o2 = hs g ++ [o, o2] := by simp [List.set_append]
theorem hs_set1 {o o' o2 : AObj} (g : Nat) : (hs g ++ [o, o']).set g o2 = hs g ++ [o2, o'] := by simp [List.set_append]
theorem hs_hole {o : AObj} (g : Nat) : hs g ++ [.hole, o] = hs (g + 1) ++ [o] := by simp [hs, List.replicate_succ']
theorem Sub.hs {n : Nat} {sl sl' : Slots} {g T s f : Nat} {es : List (List PV)} (h : SubS (g + 1) sl sl') (hd : keepD (g + 1) (getS sl DEF) (getS sl' DEF)) : Sub n 0 sl (hs g ++ [.arr T s f es]) sl' (hs g ++ [.arr T s f es]) :=
  Sub.of (g + 1) (Nat.zero_le _) (List.take_of_length_le (by simp)).symm (idsO_hs g) h hd
structure T4 (l : List (List UInt8)) (n : Nat) where
  k : Nat
  g : Nat
  dead : List (List PV)
  want : List (List UInt8)
  hk : k ≤ l.length
  hd : dead.length + want.length ≤ k
  hn : want.length ≤ n

theorem pc_4 (l : List (List UInt8)) (pops : List Bool) (room most : UInt8) : PC Try.prog 4 [(true, [rowP l, boolsP pops, .int .u8 room.toNat, .int .u8 most.toNat])] (.one (bB true)) := by
  have hr : IntKind.i64.wrap (room.toNat : Int) = (room.toNat : Int) := wrapI (by omega) (by have := room.toNat_lt; omega)
  have hm : IntKind.i64.wrap (most.toNat : Int) = (most.toNat : Int) := wrapI (by omega) (by have := most.toNat_lt; omega)
  obtain ⟨n, hn⟩ : ∃ n : Nat, (room.toNat : Int).tmod 20 = (n : Int) := ⟨room.toNat % 20, by rw [Int.tmod_eq_emod_of_nonneg (by omega)]; omega⟩
  obtain ⟨m, hmm⟩ : ∃ m : Nat, (most.toNat : Int).tmod 60 = (m : Int) := ⟨most.toNat % 60, by rw [Int.tmod_eq_emod_of_nonneg (by omega)]; omega⟩
  have hn20 : n ≤ 20 := by rw [Int.tmod_eq_emod_of_nonneg (by omega)] at hn; omega
  have hm60 : m ≤ 60 := by rw [Int.tmod_eq_emod_of_nonneg (by omega)] at hmm; omega
  by_cases hc : l.length ≤ 100 ∧ pops.length = l.length
  rotate_left
  · by_cases hc1 : l.length ≤ 100
    · have hc2 : ¬ pops.length = l.length := fun h => hc ⟨hc1, h⟩
      have hc3 : ((pops.length : Int) != (l.length : Int)) = true := by simp; omega
      refine PC.of_ACall (ACall.of_AW (fun args w => Try.call4 args w) Try.func4 rfl (by simp [Try.ntmps4]) ?_)
      simp only [Try.ntmps4, List.length_nil]
      all_goals repeat' (first | (refine Zc ?_ ?_ <;> intro h <;> (try simp [go_sem] at h) <;> try omega) | (refine Zi ?_; try simp only [AThen, ABlock]) | (refine Ze ?_; simp +decide only [AThen, ABlock, reduceIte]) | (refine Zt ?_; (try simp [go_sem]); all_goals (try simp [loR, lo]); all_goals try exact rfl) | ((first | refine Zq ?_ | refine Zr ?_ | refine Zw ?_ | refine Zx ?_); intro K hK; repeat' (first | ((first | with_reducible refine Z0 ?_ | with_reducible refine Zd ?_ | refine Zs ?_ | refine Zl ?_); intro HK hk; simp [go_sem]; (repeat refine ⟨by omega, ?_⟩); apply hk; clear hk HK) | ((first | ((with_reducible refine Gd ?_); first | refine Zh ?_ ?_ | refine Zk ?_ ?_) | ((with_reducible refine Ga ?_); first | refine Zg ?_ ?_ | refine Zp ?_ ?_)) <;> intro hg <;> simp only [hg] <;> (try simp at hg) <;> try omega)); all_goals try ((first | with_reducible refine Zn ?_ | refine Zm ?_); apply hK; clear hK K; try simp only [AThen, ABlock])) | refine Zz ?_ | refine Zb ?_)
      all_goals try exact rfl
      (first | with_reducible refine Z0 ?_ | with_reducible refine Zd ?_ | refine Zs ?_); intro HK hk; simp [go_sem]; (repeat refine ⟨by omega, ?_⟩); (first | refine ACall.pur rfl (pc_14) ?_ | refine ACallD.mk rfl (pc_14) ?_); simp [go_sem]; (repeat refine ⟨by omega, ?_⟩); apply hk; clear hk HK; repeat' (first | ((first | with_reducible refine Z0 ?_ | with_reducible refine Zd ?_ | refine Zs ?_ | refine Zl ?_); intro HK hk; simp [go_sem]; (repeat refine ⟨by omega, ?_⟩); apply hk; clear hk HK) | ((first | ((with_reducible refine Gd ?_); first | refine Zh ?_ ?_ | refine Zk ?_ ?_) | ((with_reducible refine Ga ?_); first | refine Zg ?_ ?_ | refine Zp ?_ ?_)) <;> intro hg <;> simp only [hg] <;> (try simp at hg) <;> try omega))
      all_goals try ((first | with_reducible refine Zn ?_ | refine Zm ?_); apply hK; clear hK K; try simp only [AThen, ABlock])
      all_goals repeat' (first | (refine Zc ?_ ?_ <;> intro h <;> (try simp [go_sem, hc3] at h) <;> try omega) | (refine Zi ?_; try simp only [AThen, ABlock]) | (refine Ze ?_; simp +decide only [AThen, ABlock, reduceIte]) | (refine Zt ?_; (try simp [go_sem, hc3]); all_goals (try simp [loR, lo]); all_goals try exact rfl) | ((first | refine Zq ?_ | refine Zr ?_ | refine Zw ?_ | refine Zx ?_); intro K hK; repeat' (first | ((first | with_reducible refine Z0 ?_ | with_reducible refine Zd ?_ | refine Zs ?_ | refine Zl ?_); intro HK hk; simp [go_sem, hc3]; (repeat refine ⟨by omega, ?_⟩); apply hk; clear hk HK) | ((first | ((with_reducible refine Gd ?_); first | refine Zh ?_ ?_ | refine Zk ?_ ?_) | ((with_reducible refine Ga ?_); first | refine Zg ?_ ?_ | refine Zp ?_ ?_)) <;> intro hg <;> simp only [hg] <;> (try simp at hg) <;> try omega)); all_goals try ((first | with_reducible refine Zn ?_ | refine Zm ?_); apply hK; clear hK K; try simp only [AThen, ABlock])) | refine Zz ?_ | refine Zb ?_)
      all_goals try exact rfl
    · have hc4 : ¬ (l.length : Int) ≤ 100 := by omega
      refine PC.of_ACall (ACall.of_AW (fun args w => Try.call4 args w) Try.func4 rfl (by simp [Try.ntmps4]) ?_)
      simp only [Try.ntmps4, List.length_nil]
      all_goals repeat' (first | (refine Zc ?_ ?_ <;> intro h <;> (try simp [go_sem] at h) <;> try omega) | (refine Zi ?_; try simp only [AThen, ABlock]) | (refine Ze ?_; simp +decide only [AThen, ABlock, reduceIte]) | (refine Zt ?_; (try simp [go_sem]); all_goals (try simp [loR, lo]); all_goals try exact rfl) | ((first | refine Zq ?_ | refine Zr ?_ | refine Zw ?_ | refine Zx ?_); intro K hK; repeat' (first | ((first | with_reducible refine Z0 ?_ | with_reducible refine Zd ?_ | refine Zs ?_ | refine Zl ?_); intro HK hk; simp [go_sem]; (repeat refine ⟨by omega, ?_⟩); apply hk; clear hk HK) | ((first | ((with_reducible refine Gd ?_); first | refine Zh ?_ ?_ | refine Zk ?_ ?_) | ((with_reducible refine Ga ?_); first | refine Zg ?_ ?_ | refine Zp ?_ ?_)) <;> intro hg <;> simp only [hg] <;> (try simp at hg) <;> try omega)); all_goals try ((first | with_reducible refine Zn ?_ | refine Zm ?_); apply hK; clear hK K; try simp only [AThen, ABlock])) | refine Zz ?_ | refine Zb ?_)
      all_goals try exact rfl
      (first | with_reducible refine Z0 ?_ | with_reducible refine Zd ?_ | refine Zs ?_); intro HK hk; simp [go_sem]; (repeat refine ⟨by omega, ?_⟩); (first | refine ACall.pur rfl (pc_14) ?_ | refine ACallD.mk rfl (pc_14) ?_); simp [go_sem]; (repeat refine ⟨by omega, ?_⟩); apply hk; clear hk HK; repeat' (first | ((first | with_reducible refine Z0 ?_ | with_reducible refine Zd ?_ | refine Zs ?_ | refine Zl ?_); intro HK hk; simp [go_sem]; (repeat refine ⟨by omega, ?_⟩); apply hk; clear hk HK) | ((first | ((with_reducible refine Gd ?_); first | refine Zh ?_ ?_ | refine Zk ?_ ?_) | ((with_reducible refine Ga ?_); first | refine Zg ?_ ?_ | refine Zp ?_ ?_)) <;> intro hg <;> simp only [hg] <;> (try simp at hg) <;> try omega))
      all_goals try ((first | with_reducible refine Zn ?_ | refine Zm ?_); apply hK; clear hK K; try simp only [AThen, ABlock])
      all_goals repeat' (first | (refine Zc ?_ ?_ <;> intro h <;> (try simp [go_sem, hc4] at h) <;> try omega) | (refine Zi ?_; try simp only [AThen, ABlock]) | (refine Ze ?_; simp +decide only [AThen, ABlock, reduceIte]) | (refine Zt ?_; (try simp [go_sem, hc4]); all_goals (try simp [loR, lo]); all_goals try exact rfl) | ((first | refine Zq ?_ | refine Zr ?_ | refine Zw ?_ | refine Zx ?_); intro K hK; repeat' (first | ((first | with_reducible refine Z0 ?_ | with_reducible refine Zd ?_ | refine Zs ?_ | refine Zl ?_); intro HK hk; simp [go_sem, hc4]; (repeat refine ⟨by omega, ?_⟩); apply hk; clear hk HK) | ((first | ((with_reducible refine Gd ?_); first | refine Zh ?_ ?_ | refine Zk ?_ ?_) | ((with_reducible refine Ga ?_); first | refine Zg ?_ ?_ | refine Zp ?_ ?_)) <;> intro hg <;> simp only [hg] <;> (try simp at hg) <;> try omega)); all_goals try ((first | with_reducible refine Zn ?_ | refine Zm ?_); apply hK; clear hK K; try simp only [AThen, ABlock])) | refine Zz ?_ | refine Zb ?_)
      all_goals try exact rfl
  obtain ⟨h1, h2⟩ := hc
  refine PC.of_ACall (ACall.of_AW (fun args w => Try.call4 args w) Try.func4 rfl (by simp [Try.ntmps4]) ?_)
  simp only [Try.ntmps4, List.length_nil]
  all_goals repeat' (first | (refine Zc ?_ ?_ <;> intro h <;> (try simp [go_sem] at h) <;> try omega) | (refine Zi ?_; try simp only [AThen, ABlock]) | (refine Ze ?_; simp +decide only [AThen, ABlock, reduceIte]) | (refine Zt ?_; (try simp [go_sem]); all_goals (try simp [loR, lo]); all_goals try exact rfl) | ((first | refine Zq ?_ | refine Zr ?_ | refine Zw ?_ | refine Zx ?_); intro K hK; repeat' (first | ((first | with_reducible refine Z0 ?_ | with_reducible refine Zd ?_ | refine Zs ?_ | refine Zl ?_); intro HK hk; simp [go_sem]; (repeat refine ⟨by omega, ?_⟩); apply hk; clear hk HK) | ((first | ((with_reducible refine Gd ?_); first | refine Zh ?_ ?_ | refine Zk ?_ ?_) | ((with_reducible refine Ga ?_); first | refine Zg ?_ ?_ | refine Zp ?_ ?_)) <;> intro hg <;> simp only [hg] <;> (try simp at hg) <;> try omega)); all_goals try ((first | with_reducible refine Zn ?_ | refine Zm ?_); apply hK; clear hK K; try simp only [AThen, ABlock])) | refine Zz ?_ | refine Zb ?_)
  all_goals try exact rfl
  (first | with_reducible refine Z0 ?_ | with_reducible refine Zd ?_ | refine Zs ?_); intro HK hk; simp [go_sem]; (repeat refine ⟨by omega, ?_⟩); (first | refine ACall.pur rfl (pc_14) ?_ | refine ACallD.mk rfl (pc_14) ?_); simp [go_sem]; (repeat refine ⟨by omega, ?_⟩); apply hk; clear hk HK; repeat' (first | ((first | with_reducible refine Z0 ?_ | with_reducible refine Zd ?_ | refine Zs ?_ | refine Zl ?_); intro HK hk; simp [go_sem]; (repeat refine ⟨by omega, ?_⟩); apply hk; clear hk HK) | ((first | ((with_reducible refine Gd ?_); first | refine Zh ?_ ?_ | refine Zk ?_ ?_) | ((with_reducible refine Ga ?_); first | refine Zg ?_ ?_ | refine Zp ?_ ?_)) <;> intro hg <;> simp only [hg] <;> (try simp at hg) <;> try omega))
  all_goals try ((first | with_reducible refine Zn ?_ | refine Zm ?_); apply hK; clear hK K; try simp only [AThen, ABlock])
  all_goals repeat' (first | (refine Zc ?_ ?_ <;> intro h <;> (try simp [go_sem, hr, hm, hn, hmm] at h) <;> try omega) | (refine Zi ?_; try simp only [AThen, ABlock]) | (refine Ze ?_; simp +decide only [AThen, ABlock, reduceIte]) | (refine Zt ?_; (try simp [go_sem, hr, hm, hn, hmm]); all_goals (try simp [loR, lo]); all_goals try exact rfl) | ((first | refine Zq ?_ | refine Zr ?_ | refine Zw ?_ | refine Zx ?_); intro K hK; repeat' (first | ((first | with_reducible refine Z0 ?_ | with_reducible refine Zd ?_ | refine Zs ?_ | refine Zl ?_); intro HK hk; simp [go_sem, hr, hm, hn, hmm]; (repeat refine ⟨by omega, ?_⟩); apply hk; clear hk HK) | ((first | ((with_reducible refine Gd ?_); first | refine Zh ?_ ?_ | refine Zk ?_ ?_) | ((with_reducible refine Ga ?_); first | refine Zg ?_ ?_ | refine Zp ?_ ?_)) <;> intro hg <;> simp only [hg] <;> (try simp at hg) <;> try omega)); all_goals try ((first | with_reducible refine Zn ?_ | refine Zm ?_); apply hK; clear hK K; try simp only [AThen, ABlock])) | refine Zz ?_ | refine Zb ?_)
  all_goals try exact rfl
  let F : T4 l n → Slots := fun x => [(12, .c (.p (.int .i64 x.k))), (11, .c (.tl x.g x.dead.length (x.dead.length + x.want.length) (x.want.map bytesP))), (10, .c (.p (rowP x.want))), (9, .c (.p (.int .i64 m))), (8, .c (.p (.int .i64 n))), (7, .c (.p (.bool true))), (4, .c (.p (boolsP pops))), (3, .c (.p (rowP l)))]
  let G : T4 l n → List AObj := fun x => hs x.g ++ [.arr 23 1 (x.dead.length + x.want.length) (x.dead ++ x.want.map bytesP)]
  refine AW.weak (Sub.trans (Sub.of 0 (H' := []) (sl' := [(12, .c (.p (.int .i64 (0 : Nat)))), (11, .c (.p (.sl true []))), (10, .c (.p (.sl true []))), (9, .c (.p (.int .i64 m))), (8, .c (.p (.int .i64 n))), (7, .c (.p (.bool true))), (4, .c (.p (boolsP pops))), (3, .c (.p (rowP l)))]) (by simp) (by simp) (by simp [go_sem]) (by simp [go_sem]) (by simp [go_sem]))
    (Sub.trans (Sub.lo 10 rfl) (Sub.trans (Sub.promote 11 23 1 (by omega) rfl) (Sub.tlOf 11 0 (T := 23) (size := 1) (frz := 0) (es := []) rfl rfl)))) ?_
  refine AW.loop F G (fun x => l.length - x.k) ⟨0, 0, [], [], Nat.zero_le _, Nat.le_refl _, Nat.zero_le _⟩ ?_ ?_
  · simp only [F, G]
    refine Sub.of 1 (by simp) (by first | (simp; done) | (simp [go_sem]; done)) (by simp [go_sem]) ?_ (by simp [go_sem])
    simp [go_sem]
  · rintro ⟨k, g, dead, want, hk, hd, hwn⟩
    simp only [F, G]
    all_goals repeat' (first | (refine Zc ?_ ?_ <;> intro h <;> (try simp [go_sem] at h) <;> try omega) | (refine Zi ?_; try simp only [AThen, ABlock]) | (refine Ze ?_; simp +decide only [AThen, ABlock, reduceIte]) | (refine Zt ?_; (try simp [go_sem]); all_goals (try simp [loR, lo]); all_goals try exact rfl) | ((first | refine Zq ?_ | refine Zr ?_ | refine Zw ?_ | refine Zx ?_); intro K hK; repeat' (first | ((first | with_reducible refine Z0 ?_ | with_reducible refine Zd ?_ | refine Zs ?_ | refine Zl ?_); intro HK hk; simp [go_sem]; (repeat refine ⟨by omega, ?_⟩); apply hk; clear hk HK) | ((first | ((with_reducible refine Gd ?_); first | refine Zh ?_ ?_ | refine Zk ?_ ?_) | ((with_reducible refine Ga ?_); first | refine Zg ?_ ?_ | refine Zp ?_ ?_)) <;> intro hg <;> simp only [hg] <;> (try simp at hg) <;> try omega)); all_goals try ((first | with_reducible refine Zn ?_ | refine Zm ?_); apply hK; clear hK K; try simp only [AThen, ABlock])) | refine Zz ?_ | refine Zb ?_)
    all_goals try exact rfl
    rotate_left
    · (first | with_reducible refine Z0 ?_ | with_reducible refine Zd ?_ | refine Zs ?_); intro HK hk; simp [go_sem]; (repeat refine ⟨by omega, ?_⟩); (first | refine ACall.pur rfl (pc_23 want want) ?_ | refine ACallD.mk rfl (pc_23 want want) ?_); simp [go_sem]; (repeat refine ⟨by omega, ?_⟩); apply hk; clear hk HK; repeat' (first | ((first | with_reducible refine Z0 ?_ | with_reducible refine Zd ?_ | refine Zs ?_ | refine Zl ?_); intro HK hk; simp [go_sem]; (repeat refine ⟨by omega, ?_⟩); apply hk; clear hk HK) | ((first | ((with_reducible refine Gd ?_); first | refine Zh ?_ ?_ | refine Zk ?_ ?_) | ((with_reducible refine Ga ?_); first | refine Zg ?_ ?_ | refine Zp ?_ ?_)) <;> intro hg <;> simp only [hg] <;> (try simp at hg) <;> try omega))
      all_goals try ((first | with_reducible refine Zn ?_ | refine Zm ?_); apply hK; clear hK K; try simp only [AThen, ABlock])
      all_goals repeat' (first | (refine Zc ?_ ?_ <;> intro h <;> (try simp [go_sem] at h) <;> try omega) | (refine Zi ?_; try simp only [AThen, ABlock]) | (refine Ze ?_; simp +decide only [AThen, ABlock, reduceIte]) | (refine Zt ?_; (try simp [go_sem]); all_goals (try simp [loR, lo]); all_goals try exact rfl) | ((first | refine Zq ?_ | refine Zr ?_ | refine Zw ?_ | refine Zx ?_); intro K hK; repeat' (first | ((first | with_reducible refine Z0 ?_ | with_reducible refine Zd ?_ | refine Zs ?_ | refine Zl ?_); intro HK hk; simp [go_sem]; (repeat refine ⟨by omega, ?_⟩); apply hk; clear hk HK) | ((first | ((with_reducible refine Gd ?_); first | refine Zh ?_ ?_ | refine Zk ?_ ?_) | ((with_reducible refine Ga ?_); first | refine Zg ?_ ?_ | refine Zp ?_ ?_)) <;> intro hg <;> simp only [hg] <;> (try simp at hg) <;> try omega)); all_goals try ((first | with_reducible refine Zn ?_ | refine Zm ?_); apply hK; clear hK K; try simp only [AThen, ABlock])) | refine Zz ?_ | refine Zb ?_)
      all_goals try exact rfl
    obtain ⟨b, hx⟩ : ∃ b, l[k]? = some b := ⟨_, List.getElem?_eq_getElem h⟩
    obtain ⟨pb, hp⟩ : ∃ pb, pops[k]? = some pb := ⟨_, List.getElem?_eq_getElem (by omega)⟩
    all_goals (repeat' (first | ((first | with_reducible refine Z0 ?_ | with_reducible refine Zd ?_ | refine Zs ?_ | refine Zl ?_); intro HK hk; simp [go_sem, hx]; (repeat refine ⟨by omega, ?_⟩); apply hk; clear hk HK) | ((first | ((with_reducible refine Gd ?_); first | refine Zh ?_ ?_ | refine Zk ?_ ?_) | ((with_reducible refine Ga ?_); first | refine Zg ?_ ?_ | refine Zp ?_ ?_)) <;> intro hg <;> simp only [hg] <;> (try simp at hg) <;> try omega)))
    all_goals try ((first | with_reducible refine Zn ?_ | refine Zm ?_); apply hK; clear hK K; try simp only [AThen, ABlock])
    all_goals repeat' (first | (refine Zc ?_ ?_ <;> intro h <;> (try simp [go_sem, hx] at h) <;> try omega) | (refine Zi ?_; try simp only [AThen, ABlock]) | (refine Ze ?_; simp +decide only [AThen, ABlock, reduceIte]) | (refine Zt ?_; (try simp [go_sem, hx]); all_goals (try simp [loR, lo]); all_goals try exact rfl) | ((first | refine Zq ?_ | refine Zr ?_ | refine Zw ?_ | refine Zx ?_); intro K hK; repeat' (first | ((first | with_reducible refine Z0 ?_ | with_reducible refine Zd ?_ | refine Zs ?_ | refine Zl ?_); intro HK hk; simp [go_sem, hx]; (repeat refine ⟨by omega, ?_⟩); apply hk; clear hk HK) | ((first | ((with_reducible refine Gd ?_); first | refine Zh ?_ ?_ | refine Zk ?_ ?_) | ((with_reducible refine Ga ?_); first | refine Zg ?_ ?_ | refine Zp ?_ ?_)) <;> intro hg <;> simp only [hg] <;> (try simp at hg) <;> try omega)); all_goals try ((first | with_reducible refine Zn ?_ | refine Zm ?_); apply hK; clear hK K; try simp only [AThen, ABlock])) | refine Zz ?_ | refine Zb ?_)
    all_goals try exact rfl
    have hle : (b.length : Int) ≤ 100 := by assumption
    have hks := wrapS (show (k : Int) < 9223372036854775807 by omega)
    (first | with_reducible refine Z0 ?_ | with_reducible refine Zd ?_ | refine Zs ?_); intro HK hk; simp [go_sem]; (repeat refine ⟨by omega, ?_⟩); (first | refine ACall.pur rfl (pc_16 want b n m (by omega) (by omega)) ?_ | refine ACallD.mk rfl (pc_16 want b n m (by omega) (by omega)) ?_); simp [go_sem, hx]; (repeat refine ⟨by omega, ?_⟩); apply hk; clear hk HK; repeat' (first | ((first | with_reducible refine Z0 ?_ | with_reducible refine Zd ?_ | refine Zs ?_ | refine Zl ?_); intro HK hk; simp [go_sem, hx]; (repeat refine ⟨by omega, ?_⟩); apply hk; clear hk HK) | ((first | ((with_reducible refine Gd ?_); first | refine Zh ?_ ?_ | refine Zk ?_ ?_) | ((with_reducible refine Ga ?_); first | refine Zg ?_ ?_ | refine Zp ?_ ?_)) <;> intro hg <;> simp only [hg] <;> (try simp at hg) <;> try omega))
    all_goals try ((first | with_reducible refine Zn ?_ | refine Zm ?_); apply hK; clear hK K; try simp only [AThen, ABlock])
    have hchk : ((offerF want b n m).2 == 5) = decide (m < b.length) ∧ ((offerF want b n m).2 == 0) = (decide (b.length ≤ m) && decide (want.length < n)) := by
      unfold offerF whyF
      by_cases c1 : m < b.length
      · have a1 : (m : Int) < (b.length : Int) := by omega
        have a2 : ¬ b.length ≤ m := by omega
        simp [c1, a1, a2]
      · have a1 : ¬ (m : Int) < (b.length : Int) := by omega
        have a2 : b.length ≤ m := by omega
        by_cases c2 : n ≤ want.length
        · have a3 : ¬ want.length < n := by omega
          simp [c1, a1, a2, c2, a3]
        · have a3 : want.length < n := by omega
          simp [c1, a1, a2, c2, a3]
    obtain ⟨hq5, hq0⟩ := hchk
    refine AW.seqX (X := Unit) (fun _ => [(14, .c (.p (.int .i64 (offerF want b n m).2))), (13, .c (.p (rowP (offerF want b n m).1))), (12, .c (.p (.int .i64 k))), (11, .c (.tl g dead.length (dead.length + want.length) (want.map bytesP))), (9, .c (.p (.int .i64 m))), (8, .c (.p (.int .i64 n))), (7, .c (.p (.bool true))), (4, .c (.p (boolsP pops))), (3, .c (.p (rowP l)))])
      (fun _ => hs g ++ [.arr 23 1 (dead.length + want.length) (dead ++ want.map bytesP)]) ?_ (fun _ => ?_)
    · refine AW.seq ?_
      (first | (refine AW.q false fun K hK => ?_) | (refine AW.seq ?_; refine AW.q false fun K hK => ?_) | (refine AW.seq (AW.seq ?_); refine AW.q false fun K hK => ?_) | (refine AW.block ?_; refine AW.q false fun K hK => ?_) | (refine AW.seq (AW.block ?_); refine AW.q false fun K hK => ?_) | (refine AW.ql false fun K hK => ?_)); repeat' (first | ((first | with_reducible refine Z0 ?_ | with_reducible refine Zd ?_ | refine Zs ?_ | refine Zl ?_); intro HK hk; simp [go_sem, hx, hq5, hq0]; (repeat refine ⟨by omega, ?_⟩); apply hk; clear hk HK) | ((first | ((with_reducible refine Gd ?_); first | refine Zh ?_ ?_ | refine Zk ?_ ?_) | ((with_reducible refine Ga ?_); first | refine Zg ?_ ?_ | refine Zp ?_ ?_)) <;> intro hg <;> simp only [hg] <;> (try simp at hg) <;> try omega))
      all_goals try ((first | with_reducible refine Zn ?_ | refine Zm ?_); apply hK; clear hK K; try simp only [AThen, ABlock])
      all_goals
        refine AW.cond rfl (fun hc => absurd hc (by simp)) (fun _ => AW.skip ?_)
        simp only [AThen]
        refine ⟨(), Sub.hs ?_ (by simp [go_sem])⟩
        simp [go_sem]
    refine AW.seqX (X := {z : T4 l n // z.k = k + 1}) (fun z => [(13, .c (.p (rowP z.1.want))), (12, .c (.p (.int .i64 k))), (11, .c (.tl z.1.g z.1.dead.length (z.1.dead.length + z.1.want.length) (z.1.want.map bytesP))), (9, .c (.p (.int .i64 m))), (8, .c (.p (.int .i64 n))), (7, .c (.p (.bool true))), (4, .c (.p (boolsP pops))), (3, .c (.p (rowP l)))])
      (fun z => G z.1) ?_ ?_
    · refine AW.seq ?_
      (first | (refine AW.q false fun K hK => ?_) | (refine AW.seq ?_; refine AW.q false fun K hK => ?_) | (refine AW.seq (AW.seq ?_); refine AW.q false fun K hK => ?_) | (refine AW.block ?_; refine AW.q false fun K hK => ?_) | (refine AW.seq (AW.block ?_); refine AW.q false fun K hK => ?_) | (refine AW.ql false fun K hK => ?_)); repeat ((first | with_reducible refine Z0 ?_ | with_reducible refine Zd ?_ | refine Zs ?_ | refine Zl ?_); intro HK hk; simp [go_sem]; (repeat refine ⟨by omega, ?_⟩); apply hk; clear hk HK)
      try ((first | refine Zn ?_ | refine Zm ?_); apply hK; clear hK K; try simp only [AThen, ABlock])
      refine AW.cond rfl (fun hc => ?_) (fun hc => AW.skip ?_)
      · have hof : offerF want b n m = (want ++ [b], 0) ∧ want.length < n := by
          simp only [beq_iff_eq] at hc
          rw [hc] at hq0
          simp at hq0
          unfold offerF at hc ⊢
          split at hc
          · rename_i hw; rw [if_pos hw]; exact ⟨rfl, hq0.2⟩
          · rename_i hw; exact absurd hc hw
        obtain ⟨hof, hlt⟩ := hof
        refine AW.tlI 6 _ rfl (fun K hK => ?_)
        simp only [List.take_succ_cons, List.take_zero, List.drop_succ_cons, List.drop_zero]
        repeat' (first | ((first | with_reducible refine Z0 ?_ | with_reducible refine Zd ?_ | refine Zs ?_ | refine Zl ?_); intro HK hk; simp [go_sem, hx]; (repeat refine ⟨by omega, ?_⟩); apply hk; clear hk HK) | ((first | ((with_reducible refine Gd ?_); first | refine Zh ?_ ?_ | refine Zk ?_ ?_) | ((with_reducible refine Ga ?_); first | refine Zg ?_ ?_ | refine Zp ?_ ?_)) <;> intro hg <;> simp only [hg] <;> (try simp at hg) <;> try omega))
        all_goals try ((first | with_reducible refine Zn ?_ | refine Zm ?_); apply hK; clear hK K; try simp only [AThen, ABlock])
        refine Zn ?_
        refine ⟨rfl, ?_⟩
        simp [go_sem]
        refine ⟨by omega, by omega, _, _, ⟨rfl, rfl⟩, by simp, by simp, ?_, ?_⟩
        · apply hK
          simp only [AThen]
          refine ⟨⟨⟨k + 1, g, dead, want ++ [b], by omega, by simp; omega, by simp; omega⟩, rfl⟩, ?_⟩
          have e : G ⟨k + 1, g, dead, want ++ [b], by omega, by simp; omega, by simp; omega⟩ = hs g ++ [.arr 23 1 (dead.length + want.length + 1) (dead ++ List.map bytesP want ++ [[.sl false (List.map encB b)]])] := by simp [G, Nat.add_assoc]; rfl
          rw [e]
          refine Sub.hs ?_ (by simp [go_sem])
          simp [go_sem, hof, Nat.add_assoc]
        · apply hK
          simp only [AThen]
          refine ⟨⟨⟨k + 1, g + 1, [], want ++ [b], by omega, by simp; omega, by simp; omega⟩, rfl⟩, ?_⟩
          have e : G ⟨k + 1, g + 1, [], want ++ [b], by omega, by simp; omega, by simp; omega⟩ = hs (g + 1) ++ [.arr 23 1 (want.length + 1) (List.map bytesP want ++ [[.sl false (List.map encB b)]])] := by simp [G]; rfl
          rw [e]
          refine Sub.trans (Sub.tlOf 11 (g + 1) (T := 23) (size := 1) (frz := 0) (es := List.map bytesP want ++ [[.sl false (List.map encB b)]]) (hs_get2 g) (by simp [go_sem])) ?_
          rw [hs_set2]
          have s2 := fun sl sl' hs' => Sub.drop (n := 164) (k := 0) (sl := sl) (sl' := sl') g (Nat.zero_le _) (hs_get1 (o := .arr 23 1 (dead.length + want.length) (dead ++ List.map bytesP want)) (o' := .arr 23 1 (List.map bytesP want ++ [[PV.sl false (List.map encB b)]]).length (List.map bytesP want ++ [[.sl false (List.map encB b)]])) g) (noO_hs g) hs'
          simp only [hs_set1, hs_hole] at s2
          have e2 : (List.map bytesP want ++ [[PV.sl false (List.map encB b)]]).length = want.length + 1 := by simp
          rw [e2] at s2 ⊢
          refine s2 _ _ ?_ (by simp [go_sem])
          simp [go_sem, hof]
      · simp only [AThen]
        have hof : (offerF want b n m).1 = want := by
          unfold offerF at hc ⊢
          split at hc
          · simp at hc
          · rename_i hw; rw [if_neg hw]
        refine ⟨⟨⟨k + 1, g, dead, want, by omega, by omega, hwn⟩, rfl⟩, ?_⟩
        simp only [G]
        refine Sub.hs ?_ (by simp [go_sem])
        simp [go_sem, hof]
    clear hq0 hq5
    rintro ⟨⟨k', g, dead, want, hk', hd, hwn⟩, hkk⟩
    obtain rfl : k' = k + 1 := hkk
    simp only [G]
    refine AW.seq ?_
    (first | (refine AW.q false fun K hK => ?_) | (refine AW.seq ?_; refine AW.q false fun K hK => ?_) | (refine AW.seq (AW.seq ?_); refine AW.q false fun K hK => ?_) | (refine AW.block ?_; refine AW.q false fun K hK => ?_) | (refine AW.seq (AW.block ?_); refine AW.q false fun K hK => ?_) | (refine AW.ql false fun K hK => ?_)); repeat ((first | with_reducible refine Z0 ?_ | with_reducible refine Zd ?_ | refine Zs ?_ | refine Zl ?_); intro HK hk; simp [go_sem]; (repeat refine ⟨by omega, ?_⟩); apply hk; clear hk HK)
    try ((first | refine Zn ?_ | refine Zm ?_); apply hK; clear hK K; try simp only [AThen, ABlock])
    refine AW.seqX (X := {z : T4 l n // z.k = k + 1}) (fun z => [(10, .c (.p (rowP z.1.want))), (12, .c (.p (.int .i64 k))), (11, .c (.tl z.1.g z.1.dead.length (z.1.dead.length + z.1.want.length) (z.1.want.map bytesP))), (9, .c (.p (.int .i64 m))), (8, .c (.p (.int .i64 n))), (7, .c (.p (.bool true))), (4, .c (.p (boolsP pops))), (3, .c (.p (rowP l)))])
      (fun z => G z.1) ?_ ?_
    · refine AW.seq ?_
      (first | (refine AW.q false fun K hK => ?_) | (refine AW.seq ?_; refine AW.q false fun K hK => ?_) | (refine AW.seq (AW.seq ?_); refine AW.q false fun K hK => ?_) | (refine AW.block ?_; refine AW.q false fun K hK => ?_) | (refine AW.seq (AW.block ?_); refine AW.q false fun K hK => ?_) | (refine AW.ql false fun K hK => ?_)); repeat ((first | with_reducible refine Z0 ?_ | with_reducible refine Zd ?_ | refine Zs ?_ | refine Zl ?_); intro HK hk; simp [go_sem, hp]; (repeat refine ⟨by omega, ?_⟩); apply hk; clear hk HK)
      try ((first | refine Zn ?_ | refine Zm ?_); apply hK; clear hK K; try simp only [AThen, ABlock])
      refine AW.cond rfl (fun hc => ?_) (fun hc => AW.skip ?_)
      · cases want with
        | nil =>
          all_goals repeat' (first | (refine Zc ?_ ?_ <;> intro h <;> (try simp [go_sem] at h) <;> try omega) | (refine Zi ?_; try simp only [AThen, ABlock]) | (refine Ze ?_; simp +decide only [AThen, ABlock, reduceIte]) | (refine Zt ?_; (try simp [go_sem]); all_goals (try simp [loR, lo]); all_goals try exact rfl) | ((first | refine Zq ?_ | refine Zr ?_ | refine Zw ?_ | refine Zx ?_); intro K hK; repeat' (first | ((first | with_reducible refine Z0 ?_ | with_reducible refine Zd ?_ | refine Zs ?_ | refine Zl ?_); intro HK hk; simp [go_sem]; (repeat refine ⟨by omega, ?_⟩); apply hk; clear hk HK) | ((first | ((with_reducible refine Gd ?_); first | refine Zh ?_ ?_ | refine Zk ?_ ?_) | ((with_reducible refine Ga ?_); first | refine Zg ?_ ?_ | refine Zp ?_ ?_)) <;> intro hg <;> simp only [hg] <;> (try simp at hg) <;> try omega)); all_goals try ((first | with_reducible refine Zn ?_ | refine Zm ?_); apply hK; clear hK K; try simp only [AThen, ABlock])) | refine Zz ?_ | refine Zb ?_)
          all_goals try exact rfl
          (first | with_reducible refine Z0 ?_ | with_reducible refine Zd ?_ | refine Zs ?_); intro HK hk; simp [go_sem]; (repeat refine ⟨by omega, ?_⟩); (first | refine ACall.pur rfl (pc_18 []) ?_ | refine ACallD.mk rfl (pc_18 []) ?_); simp [go_sem, headF]; (repeat refine ⟨by omega, ?_⟩); apply hk; clear hk HK; repeat' (first | ((first | with_reducible refine Z0 ?_ | with_reducible refine Zd ?_ | refine Zs ?_ | refine Zl ?_); intro HK hk; simp [go_sem, headF]; (repeat refine ⟨by omega, ?_⟩); apply hk; clear hk HK) | ((first | ((with_reducible refine Gd ?_); first | refine Zh ?_ ?_ | refine Zk ?_ ?_) | ((with_reducible refine Ga ?_); first | refine Zg ?_ ?_ | refine Zp ?_ ?_)) <;> intro hg <;> simp only [hg] <;> (try simp at hg) <;> try omega))
          all_goals try ((first | with_reducible refine Zn ?_ | refine Zm ?_); apply hK; clear hK K; try simp only [AThen, ABlock])
          all_goals repeat' (first | (refine Zc ?_ ?_ <;> intro h <;> (try simp [go_sem] at h) <;> try omega) | (refine Zi ?_; try simp only [AThen, ABlock]) | (refine Ze ?_; simp +decide only [AThen, ABlock, reduceIte]) | (refine Zt ?_; (try simp [go_sem]); all_goals (try simp [loR, lo]); all_goals try exact rfl) | ((first | refine Zq ?_ | refine Zr ?_ | refine Zw ?_ | refine Zx ?_); intro K hK; repeat' (first | ((first | with_reducible refine Z0 ?_ | with_reducible refine Zd ?_ | refine Zs ?_ | refine Zl ?_); intro HK hk; simp [go_sem]; (repeat refine ⟨by omega, ?_⟩); apply hk; clear hk HK) | ((first | ((with_reducible refine Gd ?_); first | refine Zh ?_ ?_ | refine Zk ?_ ?_) | ((with_reducible refine Ga ?_); first | refine Zg ?_ ?_ | refine Zp ?_ ?_)) <;> intro hg <;> simp only [hg] <;> (try simp at hg) <;> try omega)); all_goals try ((first | with_reducible refine Zn ?_ | refine Zm ?_); apply hK; clear hK K; try simp only [AThen, ABlock])) | refine Zz ?_ | refine Zb ?_)
          all_goals try exact rfl
          (first | with_reducible refine Z0 ?_ | with_reducible refine Zd ?_ | refine Zs ?_); intro HK hk; simp [go_sem]; (repeat refine ⟨by omega, ?_⟩); (first | refine ACall.pur rfl (pc_20 [] (by simp)) ?_ | refine ACallD.mk rfl (pc_20 [] (by simp)) ?_); simp [go_sem, popF]; (repeat refine ⟨by omega, ?_⟩); apply hk; clear hk HK; repeat' (first | ((first | with_reducible refine Z0 ?_ | with_reducible refine Zd ?_ | refine Zs ?_ | refine Zl ?_); intro HK hk; simp [go_sem, popF]; (repeat refine ⟨by omega, ?_⟩); apply hk; clear hk HK) | ((first | ((with_reducible refine Gd ?_); first | refine Zh ?_ ?_ | refine Zk ?_ ?_) | ((with_reducible refine Ga ?_); first | refine Zg ?_ ?_ | refine Zp ?_ ?_)) <;> intro hg <;> simp only [hg] <;> (try simp at hg) <;> try omega))
          all_goals try ((first | with_reducible refine Zn ?_ | refine Zm ?_); apply hK; clear hK K; try simp only [AThen, ABlock])
          all_goals repeat' (first | (refine Zc ?_ ?_ <;> intro h <;> (try simp [go_sem] at h) <;> try omega) | (refine Zi ?_; try simp only [AThen, ABlock]) | (refine Ze ?_; simp +decide only [AThen, ABlock, reduceIte]) | (refine Zt ?_; (try simp [go_sem]); all_goals (try simp [loR, lo]); all_goals try exact rfl) | ((first | refine Zq ?_ | refine Zr ?_ | refine Zw ?_ | refine Zx ?_); intro K hK; repeat' (first | ((first | with_reducible refine Z0 ?_ | with_reducible refine Zd ?_ | refine Zs ?_ | refine Zl ?_); intro HK hk; simp [go_sem]; (repeat refine ⟨by omega, ?_⟩); apply hk; clear hk HK) | ((first | ((with_reducible refine Gd ?_); first | refine Zh ?_ ?_ | refine Zk ?_ ?_) | ((with_reducible refine Ga ?_); first | refine Zg ?_ ?_ | refine Zp ?_ ?_)) <;> intro hg <;> simp only [hg] <;> (try simp at hg) <;> try omega)); all_goals try ((first | with_reducible refine Zn ?_ | refine Zm ?_); apply hK; clear hK K; try simp only [AThen, ABlock])) | refine Zz ?_ | refine Zb ?_)
          all_goals try exact rfl
          refine ⟨⟨⟨k + 1, g, dead, [], hk', by simpa using hd, Nat.zero_le _⟩, rfl⟩, ?_⟩
          have e : G ⟨k + 1, g, dead, [], hk', by simpa using hd, Nat.zero_le _⟩ = hs g ++ [.arr 23 1 dead.length dead] := by simp [G]
          rw [e]
          refine Sub.hs ?_ (by simp [go_sem])
          simp [go_sem]
        | cons b0 r =>
          refine AW.seq ?_
          (first | (refine AW.q false fun K hK => ?_) | (refine AW.seq ?_; refine AW.q false fun K hK => ?_) | (refine AW.seq (AW.seq ?_); refine AW.q false fun K hK => ?_) | (refine AW.block ?_; refine AW.q false fun K hK => ?_) | (refine AW.seq (AW.block ?_); refine AW.q false fun K hK => ?_) | (refine AW.ql false fun K hK => ?_)); repeat ((first | with_reducible refine Z0 ?_ | with_reducible refine Zd ?_ | refine Zs ?_ | refine Zl ?_); intro HK hk; simp [go_sem]; (repeat refine ⟨by omega, ?_⟩); apply hk; clear hk HK)
          try ((first | refine Zn ?_ | refine Zm ?_); apply hK; clear hK K; try simp only [AThen, ABlock])
          (first | with_reducible refine Z0 ?_ | with_reducible refine Zd ?_ | refine Zs ?_); intro HK hk; simp [go_sem]; (repeat refine ⟨by omega, ?_⟩); (first | refine ACall.pur rfl (pc_18 (b0 :: r)) ?_ | refine ACallD.mk rfl (pc_18 (b0 :: r)) ?_); simp [go_sem, headF]; (repeat refine ⟨by omega, ?_⟩); apply hk; clear hk HK; repeat' (first | ((first | with_reducible refine Z0 ?_ | with_reducible refine Zd ?_ | refine Zs ?_ | refine Zl ?_); intro HK hk; simp [go_sem, headF]; (repeat refine ⟨by omega, ?_⟩); apply hk; clear hk HK) | ((first | ((with_reducible refine Gd ?_); first | refine Zh ?_ ?_ | refine Zk ?_ ?_) | ((with_reducible refine Ga ?_); first | refine Zg ?_ ?_ | refine Zp ?_ ?_)) <;> intro hg <;> simp only [hg] <;> (try simp at hg) <;> try omega))
          all_goals try ((first | with_reducible refine Zn ?_ | refine Zm ?_); apply hK; clear hK K; try simp only [AThen, ABlock])
          refine AW.seq ?_
          (first | (refine AW.q false fun K hK => ?_) | (refine AW.seq ?_; refine AW.q false fun K hK => ?_) | (refine AW.seq (AW.seq ?_); refine AW.q false fun K hK => ?_) | (refine AW.block ?_; refine AW.q false fun K hK => ?_) | (refine AW.seq (AW.block ?_); refine AW.q false fun K hK => ?_) | (refine AW.ql false fun K hK => ?_)); repeat ((first | with_reducible refine Z0 ?_ | with_reducible refine Zd ?_ | refine Zs ?_ | refine Zl ?_); intro HK hk; simp [go_sem]; (repeat refine ⟨by omega, ?_⟩); apply hk; clear hk HK)
          try ((first | refine Zn ?_ | refine Zm ?_); apply hK; clear hK K; try simp only [AThen, ABlock])
          (first | with_reducible refine Z0 ?_ | with_reducible refine Zd ?_ | refine Zs ?_); intro HK hk; simp [go_sem]; (repeat refine ⟨by omega, ?_⟩); (first | refine ACall.pur rfl (pc_20 (b0 :: r) (by omega)) ?_ | refine ACallD.mk rfl (pc_20 (b0 :: r) (by omega)) ?_); simp [go_sem, popF]; (repeat refine ⟨by omega, ?_⟩); apply hk; clear hk HK; repeat' (first | ((first | with_reducible refine Z0 ?_ | with_reducible refine Zd ?_ | refine Zs ?_ | refine Zl ?_); intro HK hk; simp [go_sem, popF]; (repeat refine ⟨by omega, ?_⟩); apply hk; clear hk HK) | ((first | ((with_reducible refine Gd ?_); first | refine Zh ?_ ?_ | refine Zk ?_ ?_) | ((with_reducible refine Ga ?_); first | refine Zg ?_ ?_ | refine Zp ?_ ?_)) <;> intro hg <;> simp only [hg] <;> (try simp at hg) <;> try omega))
          all_goals try ((first | with_reducible refine Zn ?_ | refine Zm ?_); apply hK; clear hK K; try simp only [AThen, ABlock])
          refine AW.seq (AW.seq ?_)
          (first | (refine AW.w [] rfl (by decide +kernel) fun K hK => ?_) | (refine AW.seq ?_; refine AW.w [] rfl (by decide +kernel) fun K hK => ?_) | (refine AW.seq (AW.seq ?_); refine AW.w [] rfl (by decide +kernel) fun K hK => ?_) | (refine AW.block ?_; refine AW.w [] rfl (by decide +kernel) fun K hK => ?_) | (refine AW.seq (AW.block ?_); refine AW.w [] rfl (by decide +kernel) fun K hK => ?_) | (refine AW.wl [] rfl (by decide +kernel) fun K hK => ?_)); repeat' (first | ((first | with_reducible refine Z0 ?_ | with_reducible refine Zd ?_ | refine Zs ?_ | refine Zl ?_); intro HK hk; simp [go_sem]; (repeat refine ⟨by omega, ?_⟩); apply hk; clear hk HK) | ((first | ((with_reducible refine Gd ?_); first | refine Zh ?_ ?_ | refine Zk ?_ ?_) | ((with_reducible refine Ga ?_); first | refine Zg ?_ ?_ | refine Zp ?_ ?_)) <;> intro hg <;> simp only [hg] <;> (try simp at hg) <;> try omega))
          all_goals try ((first | with_reducible refine Zn ?_ | refine Zm ?_); apply hK; clear hK K; try simp only [AThen, ABlock])
          all_goals refine AW.cond rfl (fun hc => absurd hc (by simp)) (fun _ => AW.skip ?_)
          all_goals simp only [AThen]
          refine AW.seq (AW.seq ?_)
          (first | (refine AW.q false fun K hK => ?_) | (refine AW.seq ?_; refine AW.q false fun K hK => ?_) | (refine AW.seq (AW.seq ?_); refine AW.q false fun K hK => ?_) | (refine AW.block ?_; refine AW.q false fun K hK => ?_) | (refine AW.seq (AW.block ?_); refine AW.q false fun K hK => ?_) | (refine AW.ql false fun K hK => ?_)); repeat ((first | with_reducible refine Z0 ?_ | with_reducible refine Zd ?_ | refine Zs ?_ | refine Zl ?_); intro HK hk; simp [go_sem]; (repeat refine ⟨by omega, ?_⟩); apply hk; clear hk HK)
          try ((first | refine Zn ?_ | refine Zm ?_); apply hK; clear hK K; try simp only [AThen, ABlock])
          refine AW.cond rfl (fun _ => ?_) (fun hc => absurd hc (by simp))
          refine AW.tlI 1 _ rfl (fun K hK => ?_)
          simp only [List.take_succ_cons, List.take_zero, List.drop_succ_cons, List.drop_zero]
          repeat' (first | ((first | with_reducible refine Z0 ?_ | with_reducible refine Zd ?_ | refine Zs ?_ | refine Zl ?_); intro HK hk; simp [go_sem]; (repeat refine ⟨by omega, ?_⟩); apply hk; clear hk HK) | ((first | ((with_reducible refine Gd ?_); first | refine Zh ?_ ?_ | refine Zk ?_ ?_) | ((with_reducible refine Ga ?_); first | refine Zg ?_ ?_ | refine Zp ?_ ?_)) <;> intro hg <;> simp only [hg] <;> (try simp at hg) <;> try omega))
          all_goals try ((first | with_reducible refine Zn ?_ | refine Zm ?_); apply hK; clear hK K; try simp only [AThen, ABlock])
          refine Zn ?_
          refine ⟨rfl, ?_⟩
          simp [go_sem]
          refine ⟨by omega, ⟨_, _, _, ⟨rfl, rfl, rfl⟩, by simp⟩, ?_⟩
          apply hK
          simp only [AThen]
          all_goals repeat' (first | (refine Zc ?_ ?_ <;> intro h <;> (try simp [go_sem] at h) <;> try omega) | (refine Zi ?_; try simp only [AThen, ABlock]) | (refine Ze ?_; simp +decide only [AThen, ABlock, reduceIte]) | (refine Zt ?_; (try simp [go_sem]); all_goals (try simp [loR, lo]); all_goals try exact rfl) | ((first | refine Zq ?_ | refine Zr ?_ | refine Zw ?_ | refine Zx ?_); intro K hK; repeat' (first | ((first | with_reducible refine Z0 ?_ | with_reducible refine Zd ?_ | refine Zs ?_ | refine Zl ?_); intro HK hk; simp [go_sem]; (repeat refine ⟨by omega, ?_⟩); apply hk; clear hk HK) | ((first | ((with_reducible refine Gd ?_); first | refine Zh ?_ ?_ | refine Zk ?_ ?_) | ((with_reducible refine Ga ?_); first | refine Zg ?_ ?_ | refine Zp ?_ ?_)) <;> intro hg <;> simp only [hg] <;> (try simp at hg) <;> try omega)); all_goals try ((first | with_reducible refine Zn ?_ | refine Zm ?_); apply hK; clear hK K; try simp only [AThen, ABlock])) | refine Zz ?_ | refine Zb ?_)
          all_goals try exact rfl
          refine ⟨⟨⟨k + 1, g, dead ++ [[bsP b0]], r, hk', by simp at hd ⊢; omega, by simp at hwn; omega⟩, rfl⟩, ?_⟩
          have e : G ⟨k + 1, g, dead ++ [[bsP b0]], r, hk', by simp at hd ⊢; omega, by simp at hwn; omega⟩ = hs g ++ [.arr 23 1 (dead.length + (r.length + 1)) (dead ++ [bsP b0] :: List.map bytesP r)] := by simp [G]; omega
          rw [e]
          refine Sub.hs ?_ (by simp [go_sem])
          simp [go_sem]
          omega
      · simp only [AThen]
        refine ⟨⟨⟨k + 1, g, dead, want, hk', hd, hwn⟩, rfl⟩, ?_⟩
        simp only [G]
        refine Sub.hs ?_ (by simp [go_sem])
        simp [go_sem]
    rintro ⟨⟨k', g, dead, want, hk', hd, hwn⟩, hkk⟩
    obtain rfl : k' = k + 1 := hkk
    simp only [G]
    all_goals repeat' (first | (refine Zc ?_ ?_ <;> intro h <;> (try simp [go_sem, hks] at h) <;> try omega) | (refine Zi ?_; try simp only [AThen, ABlock]) | (refine Ze ?_; simp +decide only [AThen, ABlock, reduceIte]) | (refine Zt ?_; (try simp [go_sem, hks]); all_goals (try simp [loR, lo]); all_goals try exact rfl) | ((first | refine Zq ?_ | refine Zr ?_ | refine Zw ?_ | refine Zx ?_); intro K hK; repeat' (first | ((first | with_reducible refine Z0 ?_ | with_reducible refine Zd ?_ | refine Zs ?_ | refine Zl ?_); intro HK hk; simp [go_sem, hks]; (repeat refine ⟨by omega, ?_⟩); apply hk; clear hk HK) | ((first | ((with_reducible refine Gd ?_); first | refine Zh ?_ ?_ | refine Zk ?_ ?_) | ((with_reducible refine Ga ?_); first | refine Zg ?_ ?_ | refine Zp ?_ ?_)) <;> intro hg <;> simp only [hg] <;> (try simp at hg) <;> try omega)); all_goals try ((first | with_reducible refine Zn ?_ | refine Zm ?_); apply hK; clear hK K; try simp only [AThen, ABlock])) | refine Zz ?_ | refine Zb ?_)
    all_goals try exact rfl
    refine ⟨⟨k + 1, g, dead, want, hk', hd, hwn⟩, by simp; omega, ?_⟩
    refine Sub.hs ?_ (by simp [go_sem])
    simp [go_sem]
end Go.Proofs.Ytcobhlghjddphaa
