import Derived.Test.YtogappokeheilaaB49
set_option linter.unusedVariables false
set_option linter.unusedSimpArgs false
set_option maxRecDepth 100000
set_option maxHeartbeats 0
namespace Go.Proofs.Ytogappokeheilaa
open Go.Aw

def msgT (i k : Nat) : Entry := ⟨1, k + 1, [UInt8.ofNat i, UInt8.ofNat k], [], false⟩
def msgsT (i n : Nat) : List Entry := (List.range n).map (msgT i)
def tkT (n : Nat) : Entry := ⟨3, n + 1, [], [], false⟩
def laneT (i n : Nat) : Lane := ⟨msgsT i n ++ [tkT n], zP⟩
def cntT (cs : List UInt8) (i : Nat) : Nat := (cs.getD i 0).toNat % 7
def lanesT (cs : List UInt8) (m : Nat) : List Lane := (List.range m).map fun i => laneT i (cntT cs i)
def delT (i k : Nat) : List Deliv := (List.range k).map fun j => ⟨i, [UInt8.ofNat i, UInt8.ofNat j]⟩
def wantT (cs : List UInt8) : Nat → List Deliv
  | 0 => []
  | m + 1 => wantT cs m ++ delT m (cntT cs m)
theorem good_laneT : ∀ i < 8, ∀ n < 7, goodL (laneT i n) = true := by decide
theorem cnt_lt (cs : List UInt8) (i : Nat) : cntT cs i < 7 := Nat.mod_lt _ (by omega)
theorem may_lanesT (cs : List UInt8) (h2 : 2 ≤ cs.length) (h8 : cs.length ≤ 8) : mayT ⟨0, 0⟩ (lanesT cs cs.length) = true := by
  unfold mayT lanesF
  have hl : (lanesT cs cs.length).length = cs.length := by simp [lanesT]
  simp only [Bool.and_eq_true, decide_eq_true_eq, List.all_eq_true, hl]
  refine ⟨⟨by omega, fun x hx => ?_⟩, by omega, by omega, by omega, by omega, by omega⟩
  obtain ⟨i, hi, rfl⟩ := List.mem_map.1 hx
  exact good_laneT i (by have := List.mem_range.1 hi; omega) _ (cnt_lt cs i)
theorem walkS_add (s : WS) (a : Nat) : ∀ b, walkS s (a + b) = walkS (walkS s a) b
  | 0 => rfl
  | b + 1 => by rw [← Nat.add_assoc, walkS, walkS_add s a b]; rfl
/-- A member's messages, and its token. -/
theorem walkS_lane {m n : Nat} {p : Part} {tk : Entry} (htk : tk.Kind = 3) : ∀ (es : List Entry) (u : Int) (x : List Lane) (o : List Deliv), (∀ e ∈ es, e.Kind = 1) → x.length = n → x[m]? = some ⟨es ++ [tk], p⟩ →
    walkS ⟨⟨m, u⟩, x, o⟩ (es.length + 1) = ⟨⟨if m + 1 = n then 0 else m + 1, 0⟩, x.set m ⟨[], p⟩, o ++ es.map fun e => ⟨m, e.B⟩⟩
  | [], u, x, o, he, hn, hx => by
    refine walkS_step (k := 0) ?_
    show wNext ⟨⟨m, u⟩, x, o⟩ = _
    unfold wNext
    simp only [Int.toNat_natCast, hx, List.nil_append]
    unfold turnN outN
    rw [hn]
    have h1 : ¬ tk.Kind = 1 := by omega
    simp only [h1, htk, if_false, if_true, List.map_nil, List.append_nil]
    congr 2
    by_cases hmn : m + 1 = n
    · have h2 : (m : Int) + 1 = n := by omega
      simp [hmn, h2]
    · have h2 : ¬ (m : Int) + 1 = n := by omega
      simp [hmn, h2]
  | e :: es, u, x, o, he, hn, hx => by
    have hm := (List.getElem?_eq_some_iff.1 hx).1
    have hnext : wNext ⟨⟨m, u⟩, x, o⟩ = some ⟨⟨m, u + 1⟩, x.set m ⟨es ++ [tk], p⟩, o ++ [⟨m, e.B⟩]⟩ := by
      unfold wNext
      simp only [Int.toNat_natCast, hx, List.cons_append]
      unfold turnN outN
      simp only [he e (by simp), if_true]
    rw [List.length_cons, walkS_cons hnext, walkS_lane (n := n) htk es (u + 1) _ _ (fun e' h' => he e' (by simp [h'])) (by rw [List.length_set]; exact hn) (List.getElem?_set_self hm)]
    simp [List.set_set, hn]
/-- The first m members are done. -/
def doneT (cs : List UInt8) (m : Nat) : List Lane := (List.range cs.length).map fun i => if i < m then ⟨[], zP⟩ else laneT i (cntT cs i)
def stepsT (cs : List UInt8) : Nat → Nat
  | 0 => 0
  | m + 1 => stepsT cs m + (cntT cs m + 1)
theorem round_walk (cs : List UInt8) (h : 0 < cs.length) : ∀ m, m ≤ cs.length → walkS ⟨⟨0, 0⟩, lanesT cs cs.length, []⟩ (stepsT cs m) = ⟨⟨if m = cs.length then 0 else m, 0⟩, doneT cs m, wantT cs m⟩
  | 0, _ => by
    have hd : doneT cs 0 = lanesT cs cs.length := by unfold doneT lanesT; simp
    rw [hd]
    show (⟨⟨0, 0⟩, lanesT cs cs.length, []⟩ : WS) = _
    rw [if_neg (by omega)]; rfl
  | m + 1, hm => by
    have ih := round_walk cs h m (by omega)
    rw [if_neg (by omega)] at ih
    have hx : (doneT cs m)[m]? = some ⟨msgsT m (cntT cs m) ++ [tkT (cntT cs m)], zP⟩ := by
      unfold doneT
      rw [List.getElem?_map, List.getElem?_range (by omega)]
      simp [laneT]
    have hs := walkS_lane (m := m) (n := cs.length) (p := zP) (tk := tkT (cntT cs m)) rfl (msgsT m (cntT cs m)) 0 (doneT cs m) (wantT cs m) (fun e he => by obtain ⟨k, _, rfl⟩ := List.mem_map.1 he; rfl) (by simp [doneT]) hx
    have hlen : (msgsT m (cntT cs m)).length = cntT cs m := by simp [msgsT]
    rw [stepsT, walkS_add, ih]
    rw [hlen] at hs
    rw [hs]
    have hd : (doneT cs m).set m ⟨[], zP⟩ = doneT cs (m + 1) := by
      apply List.ext_getElem?
      intro i
      unfold doneT
      by_cases hi : m = i
      · subst hi
        rw [List.getElem?_set_self (by simp; omega), List.getElem?_map, List.getElem?_range (by omega)]
        simp
      · rw [List.getElem?_set_ne hi, List.getElem?_map, List.getElem?_map]
        cases hr : (List.range cs.length)[i]? with
        | none => rfl
        | some j =>
          have hj : j = i := by
            have := List.getElem?_eq_some_iff.1 hr
            obtain ⟨h1, h2⟩ := this
            simpa using h2.symm
          subst hj
          simp only [Option.map_some]
          by_cases hlt : j < m
          · rw [if_pos hlt, if_pos (by omega)]
          · rw [if_neg hlt, if_neg (by omega)]
    rw [hd]
    have hw : (msgsT m (cntT cs m)).map (fun e => (⟨(m : Int), e.B⟩ : Deliv)) = delT m (cntT cs m) := by
      unfold msgsT delT msgT; rw [List.map_map]; rfl
    rw [hw, wantT]
    split <;> first | rfl | simp
theorem tot_lanesT (cs : List UInt8) : ∀ m, tot (lanesT cs m) = stepsT cs m
  | 0 => rfl
  | m + 1 => by
    have ih := tot_lanesT cs m
    unfold tot lanesT at *
    rw [List.range_succ, List.map_append, List.map_append, List.sum_append, ih, stepsT]
    simp [laneT, msgsT]
theorem round_all (cs : List UInt8) (h : 0 < cs.length) : walkF ⟨0, 0⟩ (lanesT cs cs.length) = ⟨⟨0, 0⟩, List.replicate cs.length ⟨[], zP⟩, wantT cs cs.length⟩ := by
  unfold walkF
  rw [tot_lanesT, round_walk cs h _ (Nat.le_refl _), if_pos rfl]
  have hd : doneT cs cs.length = List.replicate cs.length ⟨[], zP⟩ := by
    apply List.ext_getElem?
    intro i
    unfold doneT
    rw [List.getElem?_map, List.getElem?_replicate]
    by_cases hi : i < cs.length
    · rw [List.getElem?_range hi]; simp [hi]
    · rw [List.getElem?_eq_none (by simp; omega)]; simp [hi]
  rw [hd]
end Go.Proofs.Ytogappokeheilaa
