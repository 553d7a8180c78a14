import Derived.Test.YtogappokeheilaaB52
set_option linter.unusedVariables false
set_option linter.unusedSimpArgs false
set_option maxRecDepth 100000
set_option maxHeartbeats 0
namespace Go.Proofs.Ytogappokeheilaa
open Go.Aw

/-! Deliveries counted member by member. -/
def cntD (o : List Deliv) (i j : Nat) : Nat := ((o.take j).filter (frmP i)).length
theorem cntD_zero (o : List Deliv) (i : Nat) : cntD o i 0 = 0 := rfl
theorem cntD_succ {o : List Deliv} {i j : Nat} {d : Deliv} (h : o[j]? = some d) : cntD o i (j + 1) = cntD o i j + if d.From = (i : Int) then 1 else 0 := by
  unfold cntD
  rw [filt_succ h]
  by_cases hd : d.From = (i : Int) <;> simp [frmP, hd]
theorem cntD_all (o : List Deliv) (i : Nat) : cntD o i o.length = (outB o i).length := by unfold cntD outB; rw [List.take_length, List.length_map]
theorem outD_at {o : List Deliv} {i j : Nat} {d : Deliv} (h : o[j]? = some d) (hd : d.From = (i : Int)) : (outB o i)[cntD o i j]? = some d.B := filt_get h (decide_eq_true hd)
theorem msgD_at {L : List Entry} {k : Nat} {e : Entry} (h : L[k]? = some e) (he : e.Kind = 1) : (msgB L)[manyK L k]? = some e.B := filt_get h (decide_eq_true he)
theorem outB_two (a b : List Deliv) (i : Nat) : outB (a ++ b) i = outB a i ++ outB b i := by
  unfold outB; rw [List.filter_append, List.map_append]
def sumN (f : Nat → Nat) : Nat → Nat
  | 0 => 0
  | m + 1 => sumN f m + f m
theorem sumN_one (f : Nat → Nat) (c : Nat) : ∀ n, sumN (fun i => (if c = i then 1 else 0) + f i) n = (if c < n then 1 else 0) + sumN f n
  | 0 => by rw [if_neg (by omega)]; rfl
  | n + 1 => by
    rw [sumN, sumN, sumN_one f c n]
    by_cases h1 : c = n
    · subst h1; rw [if_neg (by omega), if_pos rfl, if_pos (by omega)]; omega
    · rw [if_neg h1]
      by_cases h2 : c < n
      · rw [if_pos h2, if_pos (by omega)]; omega
      · rw [if_neg h2, if_neg (by omega)]; omega
theorem sumN_zero : ∀ n, sumN (fun _ => 0) n = 0
  | 0 => rfl
  | n + 1 => by rw [sumN, sumN_zero n]
theorem sumN_congr {f g : Nat → Nat} : ∀ n, (∀ i, i < n → f i = g i) → sumN f n = sumN g n
  | 0, _ => rfl
  | n + 1, h => by rw [sumN, sumN, sumN_congr n (fun i hi => h i (by omega)), h n (by omega)]
theorem len_sum (n : Nat) : ∀ o : List Deliv, (∀ d ∈ o, ∃ c : Nat, d.From = c ∧ c < n) → o.length = sumN (fun i => (outB o i).length) n
  | [], _ => by
    show 0 = sumN (fun _ => 0) n
    rw [sumN_zero]
  | d :: r, h => by
    obtain ⟨c, hc, hcn⟩ := h d (by simp)
    have ih := len_sum n r fun x hx => h x (by simp [hx])
    have e : ∀ i, i < n → (outB (d :: r) i).length = (if c = i then 1 else 0) + (outB r i).length := fun i _ => by
      unfold outB
      by_cases hi : c = i
      · have hp : frmP i d = true := decide_eq_true (by omega)
        rw [if_pos hi, List.filter_cons_of_pos hp, List.map_cons, List.length_cons]; omega
      · have hp : ¬ frmP i d = true := by simp only [frmP, decide_eq_true_eq]; omega
        rw [if_neg hi, List.filter_cons_of_neg hp]; omega
    rw [sumN_congr n e, sumN_one, if_pos hcn, ← ih, List.length_cons]; omega
end Go.Proofs.Ytogappokeheilaa
