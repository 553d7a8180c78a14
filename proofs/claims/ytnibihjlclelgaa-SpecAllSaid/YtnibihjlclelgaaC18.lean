import Derived.Test.YtnibihjlclelgaaC17
import Derived.Test.YtnibihjlclelgaaAw32
set_option linter.unusedVariables false
set_option linter.unusedSimpArgs false
set_option maxRecDepth 100000
set_option maxHeartbeats 0
namespace Go.Proofs.Ytnibihjlclelgaa
open Go.Aw

theorem set_cast (l : List Nat) (w a : Nat) : (l.set w (a + 1)).map (fun (x : Nat) => (x : Int)) = (l.map fun (x : Nat) => (x : Int)).set w ((a : Int) + 1) := by rw [List.map_set]; rfl
theorem pc_5 (nu : UInt8) (fs ps : List UInt8) : PC Try.prog 5 [(false, [.int .u8 nu.toNat]), (false, [bsP fs]), (false, [bsP ps])] (.one (bB true)) := by
  have hwn : IntKind.i64.wrap (nu.toNat : Int) = (nu.toNat : Int) := wrapI (by omega) (by have := nu.toNat_lt; omega)
  obtain ⟨q0, hq, hq8⟩ : ∃ q0 : Nat, (nu.toNat : Int).tmod 6 = (q0 : Int) ∧ q0 ≤ 5 := ⟨nu.toNat % 6, by rw [Int.tmod_eq_emod_of_nonneg (by omega)]; omega, by omega⟩
  obtain ⟨K, hK⟩ : ∃ K : Nat, K = 1 + q0 := ⟨_, rfl⟩
  have hw1 : IntKind.i64.wrap (1 + (q0 : Int)) = (K : Int) := by rw [hK, wrapI (by omega) (by omega)]; omega
  have hK0 : ¬ K = 0 := by omega
  refine PC.of_ACall (ACall.of_AW (fun args w => Try.call5 args w) Try.func5 rfl (by simp [Try.ntmps5]) ?_)
  simp only [Try.ntmps5, List.length_nil]
  all_goals repeat' (first | (refine Zc ?_ ?_ <;> intro h <;> (try simp [go_sem] at h) <;> try omega) | (refine Zi ?_; try simp only [AThen, ABlock]) | (refine Ze ?_; simp +decide only [AThen, ABlock, reduceIte]) | (refine Zt ?_; (try simp [go_sem]); all_goals (try simp [loR, lo]); all_goals try exact rfl) | ((first | refine Zq ?_ | refine Zr ?_ | refine Zw ?_ | refine Zx ?_); intro K hK; repeat' (first | ((first | with_reducible refine Z0 ?_ | with_reducible refine Zd ?_ | refine Zs ?_ | refine Zl ?_); intro HK hk; simp [go_sem]; (repeat refine ⟨by omega, ?_⟩); apply hk; clear hk HK) | ((first | ((with_reducible refine Gd ?_); first | refine Zh ?_ ?_ | refine Zk ?_ ?_) | ((with_reducible refine Ga ?_); first | refine Zg ?_ ?_ | refine Zp ?_ ?_)) <;> intro hg <;> simp only [hg] <;> (try simp at hg) <;> try omega)); all_goals try ((first | with_reducible refine Zn ?_ | refine Zm ?_); apply hK; clear hK K; try simp only [AThen, ABlock])) | refine Zz ?_ | refine Zb ?_)
  all_goals try exact rfl
  (first | with_reducible refine Z0 ?_ | with_reducible refine Zd ?_ | refine Zs ?_); intro HK hk; simp [go_sem]; (repeat refine ⟨by omega, ?_⟩); (first | refine ACall.pur rfl (pc_8) ?_ | refine ACallD.mk rfl (pc_8) ?_); simp [go_sem]; (repeat refine ⟨by omega, ?_⟩); apply hk; clear hk HK; repeat' (first | ((first | with_reducible refine Z0 ?_ | with_reducible refine Zd ?_ | refine Zs ?_ | refine Zl ?_); intro HK hk; simp [go_sem]; (repeat refine ⟨by omega, ?_⟩); apply hk; clear hk HK) | ((first | ((with_reducible refine Gd ?_); first | refine Zh ?_ ?_ | refine Zk ?_ ?_) | ((with_reducible refine Ga ?_); first | refine Zg ?_ ?_ | refine Zp ?_ ?_)) <;> intro hg <;> simp only [hg] <;> (try simp at hg) <;> try omega))
  all_goals try ((first | with_reducible refine Zn ?_ | refine Zm ?_); apply hK; clear hK K; try simp only [AThen, ABlock])
  by_cases hlen : fs.length ≤ 20 ∧ ps.length ≤ 200
  · obtain ⟨hf20, hp200⟩ := hlen
    have hf' : ¬ 20 < fs.length := by omega
    have hp' : ¬ 200 < ps.length := by omega
    have h19 := pc_19 K (by omega)
    have hnew : newS K = ⟨accS K (orderS K fs 0), (orderS K fs fs.length).take 0, List.replicate K 0⟩ := by
      have : orderS K fs 0 = [] := rfl
      rw [this, accS_nil, List.take_zero]; rfl
    rw [hnew] at h19
    all_goals repeat' (first | (refine Zc ?_ ?_ <;> intro h <;> (try simp [go_sem, hf', hp', hwn, hq, hw1] at h) <;> try omega) | (refine Zi ?_; try simp only [AThen, ABlock]) | (refine Ze ?_; simp +decide only [AThen, ABlock, reduceIte]) | (refine Zt ?_; (try simp [go_sem, hf', hp', hwn, hq, hw1]); all_goals (try simp [loR, lo]); all_goals try exact rfl) | ((first | refine Zq ?_ | refine Zr ?_ | refine Zw ?_ | refine Zx ?_); intro K hK; repeat' (first | ((first | with_reducible refine Z0 ?_ | with_reducible refine Zd ?_ | refine Zs ?_ | refine Zl ?_); intro HK hk; simp [go_sem, hf', hp', hwn, hq, hw1]; (repeat refine ⟨by omega, ?_⟩); apply hk; clear hk HK) | ((first | ((with_reducible refine Gd ?_); first | refine Zh ?_ ?_ | refine Zk ?_ ?_) | ((with_reducible refine Ga ?_); first | refine Zg ?_ ?_ | refine Zp ?_ ?_)) <;> intro hg <;> simp only [hg] <;> (try simp at hg) <;> try omega)); all_goals try ((first | with_reducible refine Zn ?_ | refine Zm ?_); apply hK; clear hK K; try simp only [AThen, ABlock])) | refine Zz ?_ | refine Zb ?_)
    all_goals try exact rfl
    (first | with_reducible refine Z0 ?_ | with_reducible refine Zd ?_ | refine Zs ?_); intro HK hk; simp [go_sem]; (repeat refine ⟨by omega, ?_⟩); (first | refine ACall.pur rfl (h19) ?_ | refine ACallD.mk rfl (h19) ?_); simp [go_sem]; (repeat refine ⟨by omega, ?_⟩); apply hk; clear hk HK; repeat' (first | ((first | with_reducible refine Z0 ?_ | with_reducible refine Zd ?_ | refine Zs ?_ | refine Zl ?_); intro HK hk; simp [go_sem]; (repeat refine ⟨by omega, ?_⟩); apply hk; clear hk HK) | ((first | ((with_reducible refine Gd ?_); first | refine Zh ?_ ?_ | refine Zk ?_ ?_) | ((with_reducible refine Ga ?_); first | refine Zg ?_ ?_ | refine Zp ?_ ?_)) <;> intro hg <;> simp only [hg] <;> (try simp at hg) <;> try omega))
    all_goals try ((first | with_reducible refine Zn ?_ | refine Zm ?_); apply hK; clear hK K; try simp only [AThen, ABlock])
    all_goals repeat' (first | (refine Zc ?_ ?_ <;> intro h <;> (try simp [go_sem] at h) <;> try omega) | (refine Zi ?_; try simp only [AThen, ABlock]) | (refine Ze ?_; simp +decide only [AThen, ABlock, reduceIte]) | (refine Zt ?_; (try simp [go_sem]); all_goals (try simp [loR, lo]); all_goals try exact rfl) | ((first | refine Zq ?_ | refine Zr ?_ | refine Zw ?_ | refine Zx ?_); intro K hK; repeat' (first | ((first | with_reducible refine Z0 ?_ | with_reducible refine Zd ?_ | refine Zs ?_ | refine Zl ?_); intro HK hk; simp [go_sem]; (repeat refine ⟨by omega, ?_⟩); apply hk; clear hk HK) | ((first | ((with_reducible refine Gd ?_); first | refine Zh ?_ ?_ | refine Zk ?_ ?_) | ((with_reducible refine Ga ?_); first | refine Zg ?_ ?_ | refine Zp ?_ ?_)) <;> intro hg <;> simp only [hg] <;> (try simp at hg) <;> try omega)); all_goals try ((first | with_reducible refine Zn ?_ | refine Zm ?_); apply hK; clear hK K; try simp only [AThen, ABlock])) | refine Zz ?_ | refine Zb ?_)
    all_goals try exact rfl
    refine AW.weak (Sub.promote 10 44 2 (by decide) rfl) ?_
    refine AW.upto fs.length (fun _ => True) (fun i => [(11, .c (.p (.int .i64 i))), (10, .c (.own 1 i)), (9, .c (.ptr 0 0)), (8, .c (.p (.int .i64 K))), (7, .c (.p (.bool true))), (1, .c (.p (bsP fs))), (2, .c (.p (bsP ps)))])
      (fun i => [.var ((specP ⟨accS K (orderS K fs i), [], List.replicate K 0⟩).map .p), .arr 44 2 0 ((orderS K fs i).map delivP)]) trivial ?_ fun i hi _ => ?_
    · refine Sub.of 2 (by simp) (by first | (simp [orderS]; done) | (simp [go_sem, orderS]; done)) (by simp [go_sem]) ?_ (by simp [go_sem])
      simp [go_sem, orderS]
    · have hwi := wrapS (show (i : Int) < 9223372036854775807 by omega)
      by_cases hil : i < fs.length
      · obtain ⟨x, hx⟩ : ∃ x, fs[i]? = some x := ⟨_, List.getElem?_eq_getElem hil⟩
        have hwx : IntKind.i64.wrap (x.toNat : Int) = (x.toNat : Int) := wrapI (by omega) (by have := x.toNat_lt; omega)
        obtain ⟨w, hw, hwK⟩ : ∃ w : Nat, w = x.toNat % K ∧ w < K := ⟨_, rfl, Nat.mod_lt _ (by omega)⟩
        have hrem : (x.toNat : Int).tmod K = (w : Int) := by rw [Int.tmod_eq_emod_of_nonneg (by omega), hw, Int.natCast_emod]
        have hos : orderS K fs (i + 1) = orderS K fs i ++ [⟨(w : Int), [UInt8.ofNat i]⟩] := by
          rw [orderS_succ, List.getD_eq_getElem?_getD, hx, hw]; rfl
        have hol := orderS_len K fs i
        have hu1 : IntKind.u8.wrap (i : Int) = (i : Int) := by unfold IntKind.wrap; simp [IntKind.bits, IntKind.signed]; omega
        have hi2 : i % 256 = i := Nat.mod_eq_of_lt (by omega)
        have hof : ∀ d ∈ orderS K fs i, (0 ≤ d.From ∧ d.From < K) ∧ d.B.length ≤ 2000 := fun d hd => by
          obtain ⟨j, _, rfl⟩ := List.mem_map.1 hd
          have := Nat.mod_lt (fs.getD j 0).toNat (show 0 < K by omega)
          exact ⟨⟨by simp only; omega, by simp only; omega⟩, by simp⟩
        have hinv := inv_S (k := K) (o := orderS K fs i) (m := 0) (at_ := List.replicate K 0) (by omega) (by omega) (by omega) (by simp) (fun a ha => by rw [List.eq_of_mem_replicate ha]; simp) (fun d hd => (hof d hd).1) (fun d hd => (hof d hd).2)
        rw [List.take_zero] at hinv
        have h21 := pc_21 ⟨accS K (orderS K fs i), [], List.replicate K 0⟩ ⟨false, w, 0, [UInt8.ofNat i]⟩ 20 hinv (by omega)
        rw [step_push K (orderS K fs i) [] (List.replicate K 0) w 0 [UInt8.ofNat i] hwK, ← hos] at h21
        have h21b : PC Try.prog 21 [bSp ⟨accS K (orderS K fs i), [], List.replicate K 0⟩, (true, [.bool false, .int .i64 w, .int .i64 0, .sl false [[.int .u8 i]]])] (.tup [bSp ⟨accS K (orderS K fs (i + 1)), [], List.replicate K 0⟩, bB true]) := by
          have e2 : evP ⟨false, w, 0, [UInt8.ofNat i]⟩ = [.bool false, .int .i64 w, .int .i64 0, .sl false [[.int .u8 i]]] := by simp [evP, encB, hi2]
          rw [← e2]
          exact h21
        obtain ⟨A, hA⟩ : ∃ A, A = accS K (orderS K fs i) := ⟨_, rfl⟩
        rw [← hA] at h21b ⊢
        all_goals repeat' (first | (refine Zc ?_ ?_ <;> intro h <;> (try simp [go_sem, hx, hwx, hrem, hK0, hu1] at h) <;> try omega) | (refine Zi ?_; try simp only [AThen, ABlock]) | (refine Ze ?_; simp +decide only [AThen, ABlock, reduceIte]) | (refine Zt ?_; (try simp [go_sem, hx, hwx, hrem, hK0, hu1]); all_goals (try simp [loR, lo]); all_goals try exact rfl) | ((first | refine Zq ?_ | refine Zr ?_ | refine Zw ?_ | refine Zx ?_); intro K hK; repeat' (first | ((first | with_reducible refine Z0 ?_ | with_reducible refine Zd ?_ | refine Zs ?_ | refine Zl ?_); intro HK hk; simp [go_sem, hx, hwx, hrem, hK0, hu1]; (repeat refine ⟨by omega, ?_⟩); apply hk; clear hk HK) | ((first | ((with_reducible refine Gd ?_); first | refine Zh ?_ ?_ | refine Zk ?_ ?_) | ((with_reducible refine Ga ?_); first | refine Zg ?_ ?_ | refine Zp ?_ ?_)) <;> intro hg <;> simp only [hg] <;> (try simp at hg) <;> try omega)); all_goals try ((first | with_reducible refine Zn ?_ | refine Zm ?_); apply hK; clear hK K; try simp only [AThen, ABlock])) | refine Zz ?_ | refine Zb ?_)
        all_goals try exact rfl
        (first | with_reducible refine Z0 ?_ | with_reducible refine Zd ?_ | refine Zs ?_); intro HK hk; simp [go_sem]; (repeat refine ⟨by omega, ?_⟩); (first | refine ACall.pur rfl (h21b) ?_ | refine ACallD.mk rfl (h21b) ?_); simp [go_sem]; (repeat refine ⟨by omega, ?_⟩); apply hk; clear hk HK; repeat' (first | ((first | with_reducible refine Z0 ?_ | with_reducible refine Zd ?_ | refine Zs ?_ | refine Zl ?_); intro HK hk; simp [go_sem]; (repeat refine ⟨by omega, ?_⟩); apply hk; clear hk HK) | ((first | ((with_reducible refine Gd ?_); first | refine Zh ?_ ?_ | refine Zk ?_ ?_) | ((with_reducible refine Ga ?_); first | refine Zg ?_ ?_ | refine Zp ?_ ?_)) <;> intro hg <;> simp only [hg] <;> (try simp at hg) <;> try omega))
        all_goals try ((first | with_reducible refine Zn ?_ | refine Zm ?_); apply hK; clear hK K; try simp only [AThen, ABlock])
        all_goals repeat' (first | (refine Zc ?_ ?_ <;> intro h <;> (try simp [go_sem, hol, hwi] at h) <;> try omega) | (refine Zi ?_; try simp only [AThen, ABlock]) | (refine Ze ?_; simp +decide only [AThen, ABlock, reduceIte]) | (refine Zt ?_; (try simp [go_sem, hol, hwi]); all_goals (try simp [loR, lo]); all_goals try exact rfl) | ((first | refine Zq ?_ | refine Zr ?_ | refine Zw ?_ | refine Zx ?_); intro K hK; repeat' (first | ((first | with_reducible refine Z0 ?_ | with_reducible refine Zd ?_ | refine Zs ?_ | refine Zl ?_); intro HK hk; simp [go_sem, hol, hwi]; (repeat refine ⟨by omega, ?_⟩); apply hk; clear hk HK) | ((first | ((with_reducible refine Gd ?_); first | refine Zh ?_ ?_ | refine Zk ?_ ?_) | ((with_reducible refine Ga ?_); first | refine Zg ?_ ?_ | refine Zp ?_ ?_)) <;> intro hg <;> simp only [hg] <;> (try simp at hg) <;> try omega)); all_goals try ((first | with_reducible refine Zn ?_ | refine Zm ?_); apply hK; clear hK K; try simp only [AThen, ABlock])) | refine Zz ?_ | refine Zb ?_)
        all_goals try exact rfl
        refine ⟨hil, trivial, ?_⟩
        refine Sub.of 2 (by simp) (by first | (simp [hos, encB, hi2]; done) | (simp [go_sem, hos, encB, hi2]; done)) (by simp [go_sem]) ?_ (by simp [go_sem])
        simp [go_sem, hos, encB, hi2]
      · obtain rfl : i = fs.length := by omega
        obtain ⟨o, ho⟩ : ∃ o, o = orderS K fs fs.length := ⟨_, rfl⟩
        have hol : o.length = fs.length := by rw [ho, orderS_len]
        rw [← ho]
        refine AW.weak (Sub.frz 10 1 rfl (by simp [getS, hol])) ?_
        simp only [List.set_cons_zero, List.set_cons_succ, List.length_map]
        have hof : ∀ d ∈ o, (0 ≤ d.From ∧ d.From < K) ∧ d.B.length ≤ 2000 := fun d hd => by
          rw [ho] at hd
          obtain ⟨j, _, rfl⟩ := List.mem_map.1 hd
          have := Nat.mod_lt (fs.getD j 0).toNat (show 0 < K by omega)
          exact ⟨⟨by simp only; omega, by simp only; omega⟩, by simp⟩
        have hob : ∀ (j : Nat) d, o[j]? = some d → d.B ≠ [200] := fun j d hd => by
          rw [ho] at hd
          obtain ⟨rfl, hj⟩ := orderS_get hd
          intro hh
          have h1 : UInt8.ofNat j = 200 := by simpa using hh
          have h2 := congrArg UInt8.toNat h1
          simp at h2
          omega
        obtain ⟨n, hn⟩ : ∃ n, n = o.length := ⟨_, rfl⟩
        obtain ⟨P, hP⟩ : ∃ P, P = ps.length := ⟨_, rfl⟩
        have hn20 : n ≤ 20 := by omega
        have hKn : K * n ≤ 6 * 20 := Nat.mul_le_mul (by omega) hn20
        have hKn0 : (0 : Int) ≤ (K : Int) * n := Int.mul_nonneg (by omega) (by omega)
        have hKnc : ((K * n : Nat) : Int) = (K : Int) * n := by simp
        have hwm : IntKind.i64.wrap ((K : Int) * n) = (K : Int) * n := wrapI (by omega) (by omega)
        have hwt : IntKind.i64.wrap ((P : Int) + (K : Int) * n) = (P : Int) + (K : Int) * n := wrapI (by omega) (by omega)
        have e0 : atI (atA K n P ps 0) = List.replicate K 0 := by simp [atI, atA]
        have e1 : (atA K n P ps 0).2 = 0 := rfl
        have hsi := fun i => atA_inv K n P ps i
        have hinv : ∀ i, SInv 20 ⟨accS K o, o.take (atA K n P ps i).2, atI (atA K n P ps i)⟩ := fun i => by
          have h1 := hsi i
          refine inv_S (by omega) (by omega) (by have := h1.mx; omega) (by rw [atI_len]; exact h1.len) (fun a ha => ?_) (fun d hd => (hof d hd).1) (fun d hd => (hof d hd).2)
          unfold atI at ha
          obtain ⟨b, hb, rfl⟩ := List.mem_map.1 ha
          have := h1.le b hb
          omega
        all_goals repeat' (first | (refine Zc ?_ ?_ <;> intro h <;> (try simp [go_sem] at h) <;> try omega) | (refine Zi ?_; try simp only [AThen, ABlock]) | (refine Ze ?_; simp +decide only [AThen, ABlock, reduceIte]) | (refine Zt ?_; (try simp [go_sem]); all_goals (try simp [loR, lo]); all_goals try exact rfl) | ((first | refine Zq ?_ | refine Zr ?_ | refine Zw ?_ | refine Zx ?_); intro K hK; repeat' (first | ((first | with_reducible refine Z0 ?_ | with_reducible refine Zd ?_ | refine Zs ?_ | refine Zl ?_); intro HK hk; simp [go_sem]; (repeat refine ⟨by omega, ?_⟩); apply hk; clear hk HK) | ((first | ((with_reducible refine Gd ?_); first | refine Zh ?_ ?_ | refine Zk ?_ ?_) | ((with_reducible refine Ga ?_); first | refine Zg ?_ ?_ | refine Zp ?_ ?_)) <;> intro hg <;> simp only [hg] <;> (try simp at hg) <;> try omega)); all_goals try ((first | with_reducible refine Zn ?_ | refine Zm ?_); apply hK; clear hK K; try simp only [AThen, ABlock])) | refine Zz ?_ | refine Zb ?_)
        all_goals try exact rfl
        rw [← hn]
        refine AW.upto (P + K * n) (fun _ => True) (fun i => [(16, .c (.p (.int .i64 i))), (15, .c (.own 2 K)), (10, .c (.p (dvP o))), (9, .c (.ptr 0 0)), (8, .c (.p (.int .i64 K))), (7, .c (.p (.bool true))), (2, .c (.p (bsP ps)))])
          (fun i => [.var ((specP ⟨accS K o, o.take (atA K n P ps i).2, atI (atA K n P ps i)⟩).map .p), .arr 44 2 n (o.map delivP), .arr 3 1 0 ((atI (atA K n P ps i)).map encI)]) trivial ?_ fun i hi _ => ?_
        · refine Sub.of 3 (by simp) (by first | (simp [e0, e1, encI]; done) | (simp [go_sem, e0, e1, encI]; done)) (by simp [go_sem]) ?_ (by simp [go_sem])
          simp [go_sem, e0, e1, encI]
        · have hwi := wrapS (show (i : Int) < 9223372036854775807 by omega)
          have hin := hinv i
          have hr := hsi i
          have hal : (atI (atA K n P ps i)).length = K := by rw [atI_len]; exact hr.len
          by_cases hiT : i < P + K * n
          · have hiT' : (i : Int) < (P : Int) + (K : Int) * n := by omega
            have hwK := who_lt ps i (n := n) (P := P) (show 0 < K by omega)
            have hnx : atA K n P ps (i + 1) = if n ≤ (atA K n P ps i).1.getD (whoA K n P ps i) 0 then atA K n P ps i
              else ((atA K n P ps i).1.set (whoA K n P ps i) ((atA K n P ps i).1.getD (whoA K n P ps i) 0 + 1), max (atA K n P ps i).2 ((atA K n P ps i).1.getD (whoA K n P ps i) 0 + 1)) := rfl
            obtain ⟨w, hw⟩ : ∃ w, w = whoA K n P ps i := ⟨_, rfl⟩
            rw [← hw] at hwK hnx
            obtain ⟨r, hrr⟩ : ∃ r, r = atA K n P ps i := ⟨_, rfl⟩
            rw [← hrr] at hin hr hal hnx ⊢
            obtain ⟨a, ha⟩ : ∃ a, r.1[w]? = some a := ⟨_, List.getElem?_eq_getElem (by rw [hr.len]; exact hwK)⟩
            have hag : r.1.getD w 0 = a := by rw [List.getD_eq_getElem?_getD, ha]; rfl
            have har := hr.le a (List.mem_of_getElem? ha)
            have hrn := hr.mx
            have hat := atI_get ha
            have hwa1 := wrapS (show (a : Int) < 9223372036854775807 by omega)
            rw [hag] at hnx
            obtain ⟨w0, hw0⟩ : ∃ w0 : Nat, (i : Int).tmod K = (w0 : Int) := ⟨i % K, by rw [Int.tmod_eq_emod_of_nonneg (by omega), Int.natCast_emod]⟩
            -- behind who's turn it is
            by_cases hna : n ≤ a
            · rw [if_pos hna] at hnx
              have hae : a = o.length := by omega
              have hre : r.2 = o.length := by omega
              have hot : o.take r.2 = o := by rw [hre, List.take_length]
              have h21 := pc_21 ⟨accS K o, o.take r.2, atI r⟩ ⟨true, w, ((0 : Nat) : Int), [0]⟩ 20 hin (by omega)
              rw [hot] at h21 ⊢
              rw [step_more hal hwK (by rw [hat, hae]) (by omega)] at h21
              have hna' : (n : Int) ≤ a := by omega
              by_cases hiP : i < P
              · have hiP' : ¬ P ≤ i := by omega
                obtain ⟨x, hx⟩ : ∃ x, ps[i]? = some x := ⟨_, List.getElem?_eq_getElem (by omega)⟩
                have hx' := (List.getElem?_eq_some_iff.1 hx).2
                have hwx : IntKind.i64.wrap (x.toNat : Int) = (x.toNat : Int) := wrapI (by omega) (by have := x.toNat_lt; omega)
                have hrem : (x.toNat : Int).tmod K = (w : Int) := by
                  rw [Int.tmod_eq_emod_of_nonneg (by omega), hw]; unfold whoA; rw [if_pos hiP, List.getD_eq_getElem?_getD, hx, Int.natCast_emod]; rfl
                all_goals repeat' (first | (refine Zc ?_ ?_ <;> intro h <;> (try simp [go_sem, ← hn, ← hP, hwm, hwt, hiT', hw0, hK0, hiP, hiP', hx, hx', hwx, hrem, hat, hal, hna'] at h) <;> try omega) | (refine Zi ?_; try simp only [AThen, ABlock]) | (refine Ze ?_; simp +decide only [AThen, ABlock, reduceIte]) | (refine Zt ?_; (try simp [go_sem, ← hn, ← hP, hwm, hwt, hiT', hw0, hK0, hiP, hiP', hx, hx', hwx, hrem, hat, hal, hna']); all_goals (try simp [loR, lo]); all_goals try exact rfl) | ((first | refine Zq ?_ | refine Zr ?_ | refine Zw ?_ | refine Zx ?_); intro K hK; repeat' (first | ((first | with_reducible refine Z0 ?_ | with_reducible refine Zd ?_ | refine Zs ?_ | refine Zl ?_); intro HK hk; simp [go_sem, ← hn, ← hP, hwm, hwt, hiT', hw0, hK0, hiP, hiP', hx, hx', hwx, hrem, hat, hal, hna']; (repeat refine ⟨by omega, ?_⟩); apply hk; clear hk HK) | ((first | ((with_reducible refine Gd ?_); first | refine Zh ?_ ?_ | refine Zk ?_ ?_) | ((with_reducible refine Ga ?_); first | refine Zg ?_ ?_ | refine Zp ?_ ?_)) <;> intro hg <;> simp only [hg] <;> (try simp at hg) <;> try omega)); all_goals try ((first | with_reducible refine Zn ?_ | refine Zm ?_); apply hK; clear hK K; try simp only [AThen, ABlock])) | refine Zz ?_ | refine Zb ?_)
                all_goals try exact rfl
                (first | with_reducible refine Z0 ?_ | with_reducible refine Zd ?_ | refine Zs ?_); intro HK hk; simp [go_sem]; (repeat refine ⟨by omega, ?_⟩); (first | refine ACall.pur rfl (h21) ?_ | refine ACallD.mk rfl (h21) ?_); simp [go_sem]; (repeat refine ⟨by omega, ?_⟩); apply hk; clear hk HK; repeat' (first | ((first | with_reducible refine Z0 ?_ | with_reducible refine Zd ?_ | refine Zs ?_ | refine Zl ?_); intro HK hk; simp [go_sem]; (repeat refine ⟨by omega, ?_⟩); apply hk; clear hk HK) | ((first | ((with_reducible refine Gd ?_); first | refine Zh ?_ ?_ | refine Zk ?_ ?_) | ((with_reducible refine Ga ?_); first | refine Zg ?_ ?_ | refine Zp ?_ ?_)) <;> intro hg <;> simp only [hg] <;> (try simp at hg) <;> try omega))
                all_goals try ((first | with_reducible refine Zn ?_ | refine Zm ?_); apply hK; clear hK K; try simp only [AThen, ABlock])
                all_goals repeat' (first | (refine Zc ?_ ?_ <;> intro h <;> (try simp [go_sem, hwi] at h) <;> try omega) | (refine Zi ?_; try simp only [AThen, ABlock]) | (refine Ze ?_; simp +decide only [AThen, ABlock, reduceIte]) | (refine Zt ?_; (try simp [go_sem, hwi]); all_goals (try simp [loR, lo]); all_goals try exact rfl) | ((first | refine Zq ?_ | refine Zr ?_ | refine Zw ?_ | refine Zx ?_); intro K hK; repeat' (first | ((first | with_reducible refine Z0 ?_ | with_reducible refine Zd ?_ | refine Zs ?_ | refine Zl ?_); intro HK hk; simp [go_sem, hwi]; (repeat refine ⟨by omega, ?_⟩); apply hk; clear hk HK) | ((first | ((with_reducible refine Gd ?_); first | refine Zh ?_ ?_ | refine Zk ?_ ?_) | ((with_reducible refine Ga ?_); first | refine Zg ?_ ?_ | refine Zp ?_ ?_)) <;> intro hg <;> simp only [hg] <;> (try simp at hg) <;> try omega)); all_goals try ((first | with_reducible refine Zn ?_ | refine Zm ?_); apply hK; clear hK K; try simp only [AThen, ABlock])) | refine Zz ?_ | refine Zb ?_)
                all_goals try exact rfl
                refine ⟨hiT, trivial, ?_⟩
                refine Sub.of 3 (by simp) (by first | (simp [hnx, hot]; done) | (simp [go_sem, hnx, hot]; done)) (by simp [go_sem]) ?_ (by simp [go_sem])
                simp [go_sem, hnx, hot]
              · have hiP' : P ≤ i := by omega
                obtain ⟨j, hj⟩ : ∃ j, j = i - P := ⟨_, rfl⟩
                have hsub : IntKind.i64.wrap ((i : Int) - P) = (j : Int) := by rw [wrapI (by omega) (by omega)]; omega
                have hmx : (if (1 : Int) < n then (n : Int) else 1) = ((max 1 n : Nat) : Int) := by split <;> omega
                obtain ⟨mx, hmm⟩ : ∃ mx, mx = max 1 n := ⟨_, rfl⟩
                rw [← hmm] at hmx
                have hmx0 : ¬ mx = 0 := by omega
                obtain ⟨qq, hqq⟩ : ∃ qq, qq = j / mx := ⟨_, rfl⟩
                have hquo : (j : Int).tdiv mx = (qq : Int) := by rw [Int.tdiv_eq_ediv_of_nonneg (by omega), hqq, Int.natCast_ediv]
                have hqj : qq ≤ j := by rw [hqq]; exact Nat.div_le_self _ _
                have hwqq : IntKind.i64.wrap (qq : Int) = (qq : Int) := wrapI (by omega) (by omega)
                have hrem : (qq : Int).tmod K = (w : Int) := by
                  rw [Int.tmod_eq_emod_of_nonneg (by omega), hw]; unfold whoA; rw [if_neg hiP, ← hj, ← hmm, ← hqq, Int.natCast_emod]
                all_goals repeat' (first | (refine Zc ?_ ?_ <;> intro h <;> (try simp [go_sem, ← hn, ← hP, hwm, hwt, hiT', hw0, hK0, hiP, hiP', hsub, hmx, hmx0, hquo, hwqq, hrem, hat, hal, hna'] at h) <;> try omega) | (refine Zi ?_; try simp only [AThen, ABlock]) | (refine Ze ?_; simp +decide only [AThen, ABlock, reduceIte]) | (refine Zt ?_; (try simp [go_sem, ← hn, ← hP, hwm, hwt, hiT', hw0, hK0, hiP, hiP', hsub, hmx, hmx0, hquo, hwqq, hrem, hat, hal, hna']); all_goals (try simp [loR, lo]); all_goals try exact rfl) | ((first | refine Zq ?_ | refine Zr ?_ | refine Zw ?_ | refine Zx ?_); intro K hK; repeat' (first | ((first | with_reducible refine Z0 ?_ | with_reducible refine Zd ?_ | refine Zs ?_ | refine Zl ?_); intro HK hk; simp [go_sem, ← hn, ← hP, hwm, hwt, hiT', hw0, hK0, hiP, hiP', hsub, hmx, hmx0, hquo, hwqq, hrem, hat, hal, hna']; (repeat refine ⟨by omega, ?_⟩); apply hk; clear hk HK) | ((first | ((with_reducible refine Gd ?_); first | refine Zh ?_ ?_ | refine Zk ?_ ?_) | ((with_reducible refine Ga ?_); first | refine Zg ?_ ?_ | refine Zp ?_ ?_)) <;> intro hg <;> simp only [hg] <;> (try simp at hg) <;> try omega)); all_goals try ((first | with_reducible refine Zn ?_ | refine Zm ?_); apply hK; clear hK K; try simp only [AThen, ABlock])) | refine Zz ?_ | refine Zb ?_)
                all_goals try exact rfl
                (first | with_reducible refine Z0 ?_ | with_reducible refine Zd ?_ | refine Zs ?_); intro HK hk; simp [go_sem]; (repeat refine ⟨by omega, ?_⟩); (first | refine ACall.pur rfl (h21) ?_ | refine ACallD.mk rfl (h21) ?_); simp [go_sem]; (repeat refine ⟨by omega, ?_⟩); apply hk; clear hk HK; repeat' (first | ((first | with_reducible refine Z0 ?_ | with_reducible refine Zd ?_ | refine Zs ?_ | refine Zl ?_); intro HK hk; simp [go_sem]; (repeat refine ⟨by omega, ?_⟩); apply hk; clear hk HK) | ((first | ((with_reducible refine Gd ?_); first | refine Zh ?_ ?_ | refine Zk ?_ ?_) | ((with_reducible refine Ga ?_); first | refine Zg ?_ ?_ | refine Zp ?_ ?_)) <;> intro hg <;> simp only [hg] <;> (try simp at hg) <;> try omega))
                all_goals try ((first | with_reducible refine Zn ?_ | refine Zm ?_); apply hK; clear hK K; try simp only [AThen, ABlock])
                all_goals repeat' (first | (refine Zc ?_ ?_ <;> intro h <;> (try simp [go_sem, hwi] at h) <;> try omega) | (refine Zi ?_; try simp only [AThen, ABlock]) | (refine Ze ?_; simp +decide only [AThen, ABlock, reduceIte]) | (refine Zt ?_; (try simp [go_sem, hwi]); all_goals (try simp [loR, lo]); all_goals try exact rfl) | ((first | refine Zq ?_ | refine Zr ?_ | refine Zw ?_ | refine Zx ?_); intro K hK; repeat' (first | ((first | with_reducible refine Z0 ?_ | with_reducible refine Zd ?_ | refine Zs ?_ | refine Zl ?_); intro HK hk; simp [go_sem, hwi]; (repeat refine ⟨by omega, ?_⟩); apply hk; clear hk HK) | ((first | ((with_reducible refine Gd ?_); first | refine Zh ?_ ?_ | refine Zk ?_ ?_) | ((with_reducible refine Ga ?_); first | refine Zg ?_ ?_ | refine Zp ?_ ?_)) <;> intro hg <;> simp only [hg] <;> (try simp at hg) <;> try omega)); all_goals try ((first | with_reducible refine Zn ?_ | refine Zm ?_); apply hK; clear hK K; try simp only [AThen, ABlock])) | refine Zz ?_ | refine Zb ?_)
                all_goals try exact rfl
                refine ⟨hiT, trivial, ?_⟩
                refine Sub.of 3 (by simp) (by first | (simp [hnx, hot]; done) | (simp [go_sem, hnx, hot]; done)) (by simp [go_sem]) ?_ (by simp [go_sem])
                simp [go_sem, hnx, hot]
            · rw [if_neg hna] at hnx
              have hna' : ¬ (n : Int) ≤ a := by omega
              obtain ⟨d, hd⟩ : ∃ d, o[a]? = some d := ⟨_, List.getElem?_eq_getElem (by omega)⟩
              have hd' := (List.getElem?_eq_some_iff.1 hd).2
              have hdf := (hof d (List.mem_of_getElem? hd)).1
              have hset : atI (r.1.set w (a + 1), max r.2 (a + 1)) = (atI r).set w ((a : Int) + 1) := set_cast r.1 w a
              have hset2 : ((atI r).map encI).set w [.int .i64 ((a : Int) + 1)] = ((atI r).set w ((a : Int) + 1)).map encI := by rw [List.map_set]; rfl
              have h21a := pc_21 ⟨accS K o, o.take r.2, atI r⟩ ⟨true, w, d.From, [200]⟩ 20 hin (by omega)
              rw [step_other (b := [200]) hal hwK hat har (by omega) hd hdf (hob a d hd)] at h21a
              have h21b := pc_21 ⟨accS K o, o.take r.2, atI r⟩ ⟨true, w, d.From, d.B⟩ 20 hin (by omega)
              rw [step_deliver hal hwK hat har (by omega) hd hdf] at h21b
              obtain ⟨q, hqd⟩ : ∃ q, q = o.take r.2 := ⟨_, rfl⟩
              obtain ⟨q2, hqd2⟩ : ∃ q2, o.take (max r.2 (a + 1)) = q2 := ⟨_, rfl⟩
              rw [← hqd] at h21a h21b ⊢
              rw [hqd2] at h21b
              by_cases hiP : i < P
              · have hiP' : ¬ P ≤ i := by omega
                obtain ⟨x, hx⟩ : ∃ x, ps[i]? = some x := ⟨_, List.getElem?_eq_getElem (by omega)⟩
                have hx' := (List.getElem?_eq_some_iff.1 hx).2
                have hwx : IntKind.i64.wrap (x.toNat : Int) = (x.toNat : Int) := wrapI (by omega) (by have := x.toNat_lt; omega)
                have hrem : (x.toNat : Int).tmod K = (w : Int) := by
                  rw [Int.tmod_eq_emod_of_nonneg (by omega), hw]; unfold whoA; rw [if_pos hiP, List.getD_eq_getElem?_getD, hx, Int.natCast_emod]; rfl
                all_goals repeat' (first | (refine Zc ?_ ?_ <;> intro h <;> (try simp [go_sem, ← hn, ← hP, hwm, hwt, hiT', hw0, hK0, hiP, hiP', hx, hx', hwx, hrem, hat, hal, hna', hd, hd'] at h) <;> try omega) | (refine Zi ?_; try simp only [AThen, ABlock]) | (refine Ze ?_; simp +decide only [AThen, ABlock, reduceIte]) | (refine Zt ?_; (try simp [go_sem, ← hn, ← hP, hwm, hwt, hiT', hw0, hK0, hiP, hiP', hx, hx', hwx, hrem, hat, hal, hna', hd, hd']); all_goals (try simp [loR, lo]); all_goals try exact rfl) | ((first | refine Zq ?_ | refine Zr ?_ | refine Zw ?_ | refine Zx ?_); intro K hK; repeat' (first | ((first | with_reducible refine Z0 ?_ | with_reducible refine Zd ?_ | refine Zs ?_ | refine Zl ?_); intro HK hk; simp [go_sem, ← hn, ← hP, hwm, hwt, hiT', hw0, hK0, hiP, hiP', hx, hx', hwx, hrem, hat, hal, hna', hd, hd']; (repeat refine ⟨by omega, ?_⟩); apply hk; clear hk HK) | ((first | ((with_reducible refine Gd ?_); first | refine Zh ?_ ?_ | refine Zk ?_ ?_) | ((with_reducible refine Ga ?_); first | refine Zg ?_ ?_ | refine Zp ?_ ?_)) <;> intro hg <;> simp only [hg] <;> (try simp at hg) <;> try omega)); all_goals try ((first | with_reducible refine Zn ?_ | refine Zm ?_); apply hK; clear hK K; try simp only [AThen, ABlock])) | refine Zz ?_ | refine Zb ?_)
                all_goals try exact rfl
                (first | with_reducible refine Z0 ?_ | with_reducible refine Zd ?_ | refine Zs ?_); intro HK hk; simp [go_sem]; (repeat refine ⟨by omega, ?_⟩); (first | refine ACall.pur rfl (h21a) ?_ | refine ACallD.mk rfl (h21a) ?_); simp [go_sem]; (repeat refine ⟨by omega, ?_⟩); apply hk; clear hk HK; repeat' (first | ((first | with_reducible refine Z0 ?_ | with_reducible refine Zd ?_ | refine Zs ?_ | refine Zl ?_); intro HK hk; simp [go_sem]; (repeat refine ⟨by omega, ?_⟩); apply hk; clear hk HK) | ((first | ((with_reducible refine Gd ?_); first | refine Zh ?_ ?_ | refine Zk ?_ ?_) | ((with_reducible refine Ga ?_); first | refine Zg ?_ ?_ | refine Zp ?_ ?_)) <;> intro hg <;> simp only [hg] <;> (try simp at hg) <;> try omega))
                all_goals try ((first | with_reducible refine Zn ?_ | refine Zm ?_); apply hK; clear hK K; try simp only [AThen, ABlock])
                all_goals repeat' (first | (refine Zc ?_ ?_ <;> intro h <;> (try simp [go_sem] at h) <;> try omega) | (refine Zi ?_; try simp only [AThen, ABlock]) | (refine Ze ?_; simp +decide only [AThen, ABlock, reduceIte]) | (refine Zt ?_; (try simp [go_sem]); all_goals (try simp [loR, lo]); all_goals try exact rfl) | ((first | refine Zq ?_ | refine Zr ?_ | refine Zw ?_ | refine Zx ?_); intro K hK; repeat' (first | ((first | with_reducible refine Z0 ?_ | with_reducible refine Zd ?_ | refine Zs ?_ | refine Zl ?_); intro HK hk; simp [go_sem]; (repeat refine ⟨by omega, ?_⟩); apply hk; clear hk HK) | ((first | ((with_reducible refine Gd ?_); first | refine Zh ?_ ?_ | refine Zk ?_ ?_) | ((with_reducible refine Ga ?_); first | refine Zg ?_ ?_ | refine Zp ?_ ?_)) <;> intro hg <;> simp only [hg] <;> (try simp at hg) <;> try omega)); all_goals try ((first | with_reducible refine Zn ?_ | refine Zm ?_); apply hK; clear hK K; try simp only [AThen, ABlock])) | refine Zz ?_ | refine Zb ?_)
                all_goals try exact rfl
                (first | with_reducible refine Z0 ?_ | with_reducible refine Zd ?_ | refine Zs ?_); intro HK hk; simp [go_sem]; (repeat refine ⟨by omega, ?_⟩); (first | refine ACall.pur rfl (h21b) ?_ | refine ACallD.mk rfl (h21b) ?_); simp [go_sem]; (repeat refine ⟨by omega, ?_⟩); apply hk; clear hk HK; repeat' (first | ((first | with_reducible refine Z0 ?_ | with_reducible refine Zd ?_ | refine Zs ?_ | refine Zl ?_); intro HK hk; simp [go_sem]; (repeat refine ⟨by omega, ?_⟩); apply hk; clear hk HK) | ((first | ((with_reducible refine Gd ?_); first | refine Zh ?_ ?_ | refine Zk ?_ ?_) | ((with_reducible refine Ga ?_); first | refine Zg ?_ ?_ | refine Zp ?_ ?_)) <;> intro hg <;> simp only [hg] <;> (try simp at hg) <;> try omega))
                all_goals try ((first | with_reducible refine Zn ?_ | refine Zm ?_); apply hK; clear hK K; try simp only [AThen, ABlock])
                all_goals repeat' (first | (refine Zc ?_ ?_ <;> intro h <;> (try simp [go_sem, hwa1, hwi, hat, hal] at h) <;> try omega) | (refine Zi ?_; try simp only [AThen, ABlock]) | (refine Ze ?_; simp +decide only [AThen, ABlock, reduceIte]) | (refine Zt ?_; (try simp [go_sem, hwa1, hwi, hat, hal]); all_goals (try simp [loR, lo]); all_goals try exact rfl) | ((first | refine Zq ?_ | refine Zr ?_ | refine Zw ?_ | refine Zx ?_); intro K hK; repeat' (first | ((first | with_reducible refine Z0 ?_ | with_reducible refine Zd ?_ | refine Zs ?_ | refine Zl ?_); intro HK hk; simp [go_sem, hwa1, hwi, hat, hal]; (repeat refine ⟨by omega, ?_⟩); apply hk; clear hk HK) | ((first | ((with_reducible refine Gd ?_); first | refine Zh ?_ ?_ | refine Zk ?_ ?_) | ((with_reducible refine Ga ?_); first | refine Zg ?_ ?_ | refine Zp ?_ ?_)) <;> intro hg <;> simp only [hg] <;> (try simp at hg) <;> try omega)); all_goals try ((first | with_reducible refine Zn ?_ | refine Zm ?_); apply hK; clear hK K; try simp only [AThen, ABlock])) | refine Zz ?_ | refine Zb ?_)
                all_goals try exact rfl
                refine ⟨hiT, trivial, ?_⟩
                refine Sub.of 3 (by simp) (by first | (simp [hnx, hset, hqd2, List.map_set, encI]; done) | (simp [go_sem, hnx, hset, hqd2, List.map_set, encI]; done)) (by simp [go_sem]) ?_ (by simp [go_sem])
                simp [go_sem, hnx, hset, hqd2, List.map_set, encI]
              · have hiP' : P ≤ i := by omega
                obtain ⟨j, hj⟩ : ∃ j, j = i - P := ⟨_, rfl⟩
                have hsub : IntKind.i64.wrap ((i : Int) - P) = (j : Int) := by rw [wrapI (by omega) (by omega)]; omega
                have hmx : (if (1 : Int) < n then (n : Int) else 1) = ((max 1 n : Nat) : Int) := by split <;> omega
                obtain ⟨mx, hmm⟩ : ∃ mx, mx = max 1 n := ⟨_, rfl⟩
                rw [← hmm] at hmx
                have hmx0 : ¬ mx = 0 := by omega
                obtain ⟨qq, hqq⟩ : ∃ qq, qq = j / mx := ⟨_, rfl⟩
                have hquo : (j : Int).tdiv mx = (qq : Int) := by rw [Int.tdiv_eq_ediv_of_nonneg (by omega), hqq, Int.natCast_ediv]
                have hqj : qq ≤ j := by rw [hqq]; exact Nat.div_le_self _ _
                have hwqq : IntKind.i64.wrap (qq : Int) = (qq : Int) := wrapI (by omega) (by omega)
                have hrem : (qq : Int).tmod K = (w : Int) := by
                  rw [Int.tmod_eq_emod_of_nonneg (by omega), hw]; unfold whoA; rw [if_neg hiP, ← hj, ← hmm, ← hqq, Int.natCast_emod]
                all_goals repeat' (first | (refine Zc ?_ ?_ <;> intro h <;> (try simp [go_sem, ← hn, ← hP, hwm, hwt, hiT', hw0, hK0, hiP, hiP', hsub, hmx, hmx0, hquo, hwqq, hrem, hat, hal, hna', hd, hd'] at h) <;> try omega) | (refine Zi ?_; try simp only [AThen, ABlock]) | (refine Ze ?_; simp +decide only [AThen, ABlock, reduceIte]) | (refine Zt ?_; (try simp [go_sem, ← hn, ← hP, hwm, hwt, hiT', hw0, hK0, hiP, hiP', hsub, hmx, hmx0, hquo, hwqq, hrem, hat, hal, hna', hd, hd']); all_goals (try simp [loR, lo]); all_goals try exact rfl) | ((first | refine Zq ?_ | refine Zr ?_ | refine Zw ?_ | refine Zx ?_); intro K hK; repeat' (first | ((first | with_reducible refine Z0 ?_ | with_reducible refine Zd ?_ | refine Zs ?_ | refine Zl ?_); intro HK hk; simp [go_sem, ← hn, ← hP, hwm, hwt, hiT', hw0, hK0, hiP, hiP', hsub, hmx, hmx0, hquo, hwqq, hrem, hat, hal, hna', hd, hd']; (repeat refine ⟨by omega, ?_⟩); apply hk; clear hk HK) | ((first | ((with_reducible refine Gd ?_); first | refine Zh ?_ ?_ | refine Zk ?_ ?_) | ((with_reducible refine Ga ?_); first | refine Zg ?_ ?_ | refine Zp ?_ ?_)) <;> intro hg <;> simp only [hg] <;> (try simp at hg) <;> try omega)); all_goals try ((first | with_reducible refine Zn ?_ | refine Zm ?_); apply hK; clear hK K; try simp only [AThen, ABlock])) | refine Zz ?_ | refine Zb ?_)
                all_goals try exact rfl
                (first | with_reducible refine Z0 ?_ | with_reducible refine Zd ?_ | refine Zs ?_); intro HK hk; simp [go_sem]; (repeat refine ⟨by omega, ?_⟩); (first | refine ACall.pur rfl (h21a) ?_ | refine ACallD.mk rfl (h21a) ?_); simp [go_sem]; (repeat refine ⟨by omega, ?_⟩); apply hk; clear hk HK; repeat' (first | ((first | with_reducible refine Z0 ?_ | with_reducible refine Zd ?_ | refine Zs ?_ | refine Zl ?_); intro HK hk; simp [go_sem]; (repeat refine ⟨by omega, ?_⟩); apply hk; clear hk HK) | ((first | ((with_reducible refine Gd ?_); first | refine Zh ?_ ?_ | refine Zk ?_ ?_) | ((with_reducible refine Ga ?_); first | refine Zg ?_ ?_ | refine Zp ?_ ?_)) <;> intro hg <;> simp only [hg] <;> (try simp at hg) <;> try omega))
                all_goals try ((first | with_reducible refine Zn ?_ | refine Zm ?_); apply hK; clear hK K; try simp only [AThen, ABlock])
                all_goals repeat' (first | (refine Zc ?_ ?_ <;> intro h <;> (try simp [go_sem] at h) <;> try omega) | (refine Zi ?_; try simp only [AThen, ABlock]) | (refine Ze ?_; simp +decide only [AThen, ABlock, reduceIte]) | (refine Zt ?_; (try simp [go_sem]); all_goals (try simp [loR, lo]); all_goals try exact rfl) | ((first | refine Zq ?_ | refine Zr ?_ | refine Zw ?_ | refine Zx ?_); intro K hK; repeat' (first | ((first | with_reducible refine Z0 ?_ | with_reducible refine Zd ?_ | refine Zs ?_ | refine Zl ?_); intro HK hk; simp [go_sem]; (repeat refine ⟨by omega, ?_⟩); apply hk; clear hk HK) | ((first | ((with_reducible refine Gd ?_); first | refine Zh ?_ ?_ | refine Zk ?_ ?_) | ((with_reducible refine Ga ?_); first | refine Zg ?_ ?_ | refine Zp ?_ ?_)) <;> intro hg <;> simp only [hg] <;> (try simp at hg) <;> try omega)); all_goals try ((first | with_reducible refine Zn ?_ | refine Zm ?_); apply hK; clear hK K; try simp only [AThen, ABlock])) | refine Zz ?_ | refine Zb ?_)
                all_goals try exact rfl
                (first | with_reducible refine Z0 ?_ | with_reducible refine Zd ?_ | refine Zs ?_); intro HK hk; simp [go_sem]; (repeat refine ⟨by omega, ?_⟩); (first | refine ACall.pur rfl (h21b) ?_ | refine ACallD.mk rfl (h21b) ?_); simp [go_sem]; (repeat refine ⟨by omega, ?_⟩); apply hk; clear hk HK; repeat' (first | ((first | with_reducible refine Z0 ?_ | with_reducible refine Zd ?_ | refine Zs ?_ | refine Zl ?_); intro HK hk; simp [go_sem]; (repeat refine ⟨by omega, ?_⟩); apply hk; clear hk HK) | ((first | ((with_reducible refine Gd ?_); first | refine Zh ?_ ?_ | refine Zk ?_ ?_) | ((with_reducible refine Ga ?_); first | refine Zg ?_ ?_ | refine Zp ?_ ?_)) <;> intro hg <;> simp only [hg] <;> (try simp at hg) <;> try omega))
                all_goals try ((first | with_reducible refine Zn ?_ | refine Zm ?_); apply hK; clear hK K; try simp only [AThen, ABlock])
                all_goals repeat' (first | (refine Zc ?_ ?_ <;> intro h <;> (try simp [go_sem, hwa1, hwi, hat, hal] at h) <;> try omega) | (refine Zi ?_; try simp only [AThen, ABlock]) | (refine Ze ?_; simp +decide only [AThen, ABlock, reduceIte]) | (refine Zt ?_; (try simp [go_sem, hwa1, hwi, hat, hal]); all_goals (try simp [loR, lo]); all_goals try exact rfl) | ((first | refine Zq ?_ | refine Zr ?_ | refine Zw ?_ | refine Zx ?_); intro K hK; repeat' (first | ((first | with_reducible refine Z0 ?_ | with_reducible refine Zd ?_ | refine Zs ?_ | refine Zl ?_); intro HK hk; simp [go_sem, hwa1, hwi, hat, hal]; (repeat refine ⟨by omega, ?_⟩); apply hk; clear hk HK) | ((first | ((with_reducible refine Gd ?_); first | refine Zh ?_ ?_ | refine Zk ?_ ?_) | ((with_reducible refine Ga ?_); first | refine Zg ?_ ?_ | refine Zp ?_ ?_)) <;> intro hg <;> simp only [hg] <;> (try simp at hg) <;> try omega)); all_goals try ((first | with_reducible refine Zn ?_ | refine Zm ?_); apply hK; clear hK K; try simp only [AThen, ABlock])) | refine Zz ?_ | refine Zb ?_)
                all_goals try exact rfl
                refine ⟨hiT, trivial, ?_⟩
                refine Sub.of 3 (by simp) (by first | (simp [hnx, hset, hqd2, List.map_set, encI]; done) | (simp [go_sem, hnx, hset, hqd2, List.map_set, encI]; done)) (by simp [go_sem]) ?_ (by simp [go_sem])
                simp [go_sem, hnx, hset, hqd2, List.map_set, encI]
          · obtain rfl : i = P + K * n := by omega
            obtain ⟨h1, h2⟩ := atA_end (n := n) (P := P) ps (show 0 < K by omega)
            have hot : o.take (atA K n P ps (P + K * n)).2 = o := by rw [h2, hn, List.take_length]
            have hle := left_all (k := K) (o := o) (at_ := atI (atA K n P ps (P + K * n))) hal (fun w hw => by rw [← hn]; exact atI_get (h1 w hw)) (fun d hd => (hof d hd).1)
            have h17 := pc_17 _ 20 hin (by omega)
            rw [hot] at h17 ⊢
            rw [hle] at h17
            have hiT' : ¬ ((P + K * n : Nat) : Int) < (P : Int) + (K : Int) * n := by omega
            all_goals repeat' (first | (refine Zc ?_ ?_ <;> intro h <;> (try simp [go_sem, ← hn, ← hP, hwm, hwt, hiT'] at h) <;> try omega) | (refine Zi ?_; try simp only [AThen, ABlock]) | (refine Ze ?_; simp +decide only [AThen, ABlock, reduceIte]) | (refine Zt ?_; (try simp [go_sem, ← hn, ← hP, hwm, hwt, hiT']); all_goals (try simp [loR, lo]); all_goals try exact rfl) | ((first | refine Zq ?_ | refine Zr ?_ | refine Zw ?_ | refine Zx ?_); intro K hK; repeat' (first | ((first | with_reducible refine Z0 ?_ | with_reducible refine Zd ?_ | refine Zs ?_ | refine Zl ?_); intro HK hk; simp [go_sem, ← hn, ← hP, hwm, hwt, hiT']; (repeat refine ⟨by omega, ?_⟩); apply hk; clear hk HK) | ((first | ((with_reducible refine Gd ?_); first | refine Zh ?_ ?_ | refine Zk ?_ ?_) | ((with_reducible refine Ga ?_); first | refine Zg ?_ ?_ | refine Zp ?_ ?_)) <;> intro hg <;> simp only [hg] <;> (try simp at hg) <;> try omega)); all_goals try ((first | with_reducible refine Zn ?_ | refine Zm ?_); apply hK; clear hK K; try simp only [AThen, ABlock])) | refine Zz ?_ | refine Zb ?_)
            all_goals try exact rfl
            (first | with_reducible refine Z0 ?_ | with_reducible refine Zd ?_ | refine Zs ?_); intro HK hk; simp [go_sem]; (repeat refine ⟨by omega, ?_⟩); (first | refine ACall.pur rfl (h17) ?_ | refine ACallD.mk rfl (h17) ?_); simp [go_sem]; (repeat refine ⟨by omega, ?_⟩); apply hk; clear hk HK; repeat' (first | ((first | with_reducible refine Z0 ?_ | with_reducible refine Zd ?_ | refine Zs ?_ | refine Zl ?_); intro HK hk; simp [go_sem]; (repeat refine ⟨by omega, ?_⟩); apply hk; clear hk HK) | ((first | ((with_reducible refine Gd ?_); first | refine Zh ?_ ?_ | refine Zk ?_ ?_) | ((with_reducible refine Ga ?_); first | refine Zg ?_ ?_ | refine Zp ?_ ?_)) <;> intro hg <;> simp only [hg] <;> (try simp at hg) <;> try omega))
            all_goals try ((first | with_reducible refine Zn ?_ | refine Zm ?_); apply hK; clear hK K; try simp only [AThen, ABlock])
            all_goals repeat' (first | (refine Zc ?_ ?_ <;> intro h <;> (try simp [go_sem] at h) <;> try omega) | (refine Zi ?_; try simp only [AThen, ABlock]) | (refine Ze ?_; simp +decide only [AThen, ABlock, reduceIte]) | (refine Zt ?_; (try simp [go_sem]); all_goals (try simp [loR, lo]); all_goals try exact rfl) | ((first | refine Zq ?_ | refine Zr ?_ | refine Zw ?_ | refine Zx ?_); intro K hK; repeat' (first | ((first | with_reducible refine Z0 ?_ | with_reducible refine Zd ?_ | refine Zs ?_ | refine Zl ?_); intro HK hk; simp [go_sem]; (repeat refine ⟨by omega, ?_⟩); apply hk; clear hk HK) | ((first | ((with_reducible refine Gd ?_); first | refine Zh ?_ ?_ | refine Zk ?_ ?_) | ((with_reducible refine Ga ?_); first | refine Zg ?_ ?_ | refine Zp ?_ ?_)) <;> intro hg <;> simp only [hg] <;> (try simp at hg) <;> try omega)); all_goals try ((first | with_reducible refine Zn ?_ | refine Zm ?_); apply hK; clear hK K; try simp only [AThen, ABlock])) | refine Zz ?_ | refine Zb ?_)
            all_goals try exact rfl
            (first | with_reducible refine Z0 ?_ | with_reducible refine Zd ?_ | refine Zs ?_); intro HK hk; simp [go_sem]; (repeat refine ⟨by omega, ?_⟩); (first | refine ACall.pur rfl (pc_23 o o) ?_ | refine ACallD.mk rfl (pc_23 o o) ?_); simp [go_sem]; (repeat refine ⟨by omega, ?_⟩); apply hk; clear hk HK; repeat' (first | ((first | with_reducible refine Z0 ?_ | with_reducible refine Zd ?_ | refine Zs ?_ | refine Zl ?_); intro HK hk; simp [go_sem]; (repeat refine ⟨by omega, ?_⟩); apply hk; clear hk HK) | ((first | ((with_reducible refine Gd ?_); first | refine Zh ?_ ?_ | refine Zk ?_ ?_) | ((with_reducible refine Ga ?_); first | refine Zg ?_ ?_ | refine Zp ?_ ?_)) <;> intro hg <;> simp only [hg] <;> (try simp at hg) <;> try omega))
            all_goals try ((first | with_reducible refine Zn ?_ | refine Zm ?_); apply hK; clear hK K; try simp only [AThen, ABlock])
            all_goals repeat' (first | (refine Zc ?_ ?_ <;> intro h <;> (try simp [go_sem] at h) <;> try omega) | (refine Zi ?_; try simp only [AThen, ABlock]) | (refine Ze ?_; simp +decide only [AThen, ABlock, reduceIte]) | (refine Zt ?_; (try simp [go_sem]); all_goals (try simp [loR, lo]); all_goals try exact rfl) | ((first | refine Zq ?_ | refine Zr ?_ | refine Zw ?_ | refine Zx ?_); intro K hK; repeat' (first | ((first | with_reducible refine Z0 ?_ | with_reducible refine Zd ?_ | refine Zs ?_ | refine Zl ?_); intro HK hk; simp [go_sem]; (repeat refine ⟨by omega, ?_⟩); apply hk; clear hk HK) | ((first | ((with_reducible refine Gd ?_); first | refine Zh ?_ ?_ | refine Zk ?_ ?_) | ((with_reducible refine Ga ?_); first | refine Zg ?_ ?_ | refine Zp ?_ ?_)) <;> intro hg <;> simp only [hg] <;> (try simp at hg) <;> try omega)); all_goals try ((first | with_reducible refine Zn ?_ | refine Zm ?_); apply hK; clear hK K; try simp only [AThen, ABlock])) | refine Zz ?_ | refine Zb ?_)
            all_goals try exact rfl
  · by_cases hf' : 20 < fs.length
    · all_goals repeat' (first | (refine Zc ?_ ?_ <;> intro h <;> (try simp [go_sem, hf'] at h) <;> try omega) | (refine Zi ?_; try simp only [AThen, ABlock]) | (refine Ze ?_; simp +decide only [AThen, ABlock, reduceIte]) | (refine Zt ?_; (try simp [go_sem, hf']); all_goals (try simp [loR, lo]); all_goals try exact rfl) | ((first | refine Zq ?_ | refine Zr ?_ | refine Zw ?_ | refine Zx ?_); intro K hK; repeat' (first | ((first | with_reducible refine Z0 ?_ | with_reducible refine Zd ?_ | refine Zs ?_ | refine Zl ?_); intro HK hk; simp [go_sem, hf']; (repeat refine ⟨by omega, ?_⟩); apply hk; clear hk HK) | ((first | ((with_reducible refine Gd ?_); first | refine Zh ?_ ?_ | refine Zk ?_ ?_) | ((with_reducible refine Ga ?_); first | refine Zg ?_ ?_ | refine Zp ?_ ?_)) <;> intro hg <;> simp only [hg] <;> (try simp at hg) <;> try omega)); all_goals try ((first | with_reducible refine Zn ?_ | refine Zm ?_); apply hK; clear hK K; try simp only [AThen, ABlock])) | refine Zz ?_ | refine Zb ?_)
      all_goals try exact rfl
    · have hp' : 200 < ps.length := by omega
      all_goals repeat' (first | (refine Zc ?_ ?_ <;> intro h <;> (try simp [go_sem, hf', hp'] at h) <;> try omega) | (refine Zi ?_; try simp only [AThen, ABlock]) | (refine Ze ?_; simp +decide only [AThen, ABlock, reduceIte]) | (refine Zt ?_; (try simp [go_sem, hf', hp']); all_goals (try simp [loR, lo]); all_goals try exact rfl) | ((first | refine Zq ?_ | refine Zr ?_ | refine Zw ?_ | refine Zx ?_); intro K hK; repeat' (first | ((first | with_reducible refine Z0 ?_ | with_reducible refine Zd ?_ | refine Zs ?_ | refine Zl ?_); intro HK hk; simp [go_sem, hf', hp']; (repeat refine ⟨by omega, ?_⟩); apply hk; clear hk HK) | ((first | ((with_reducible refine Gd ?_); first | refine Zh ?_ ?_ | refine Zk ?_ ?_) | ((with_reducible refine Ga ?_); first | refine Zg ?_ ?_ | refine Zp ?_ ?_)) <;> intro hg <;> simp only [hg] <;> (try simp at hg) <;> try omega)); all_goals try ((first | with_reducible refine Zn ?_ | refine Zm ?_); apply hK; clear hK K; try simp only [AThen, ABlock])) | refine Zz ?_ | refine Zb ?_)
      all_goals try exact rfl
end Go.Proofs.Ytnibihjlclelgaa
