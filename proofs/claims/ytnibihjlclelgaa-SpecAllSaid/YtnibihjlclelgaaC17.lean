import Derived.Test.YtnibihjlclelgaaC15
set_option linter.unusedVariables false
set_option linter.unusedSimpArgs false
set_option maxRecDepth 100000
set_option maxHeartbeats 0
namespace Go.Proofs.Ytnibihjlclelgaa
open Go.Aw

/-! All is delivered: the rounds. -/
theorem of_all {q : List Deliv} {f : Int} {b : List UInt8} (h : b ∈ ofF q f) : ∃ d ∈ q, d.B = b := by
  unfold ofF at h
  obtain ⟨d, hd, rfl⟩ := List.mem_map.1 h
  exact ⟨d, (List.mem_filter.1 hd).1, rfl⟩
theorem inv_S {k : Nat} {o : List Deliv} {m : Nat} {at_ : List Int} (hk : k ≤ 64) (ho : o.length ≤ 20) (hm : m ≤ o.length) (hl : at_.length = k) (ha : ∀ a ∈ at_, 0 ≤ a ∧ a ≤ m) (hf : ∀ d ∈ o, 0 ≤ d.From ∧ d.From < k) (hb : ∀ d ∈ o, d.B.length ≤ 2000) : SInv 20 ⟨accS k o, o.take m, at_⟩ where
  len := by rw [accS_len]; exact hl.symm
  n64 := by rw [accS_len]; exact hk
  at_ a h := by
    have := ha a h
    have hh : (o.take m).length = m := by rw [List.length_take]; omega
    simp only [hh]; exact this
  frm d h := by
    have := hf d (List.mem_of_mem_take h)
    unfold memF
    simp only [accS_len]
    exact decide_eq_true this
  seq := by simp only [List.length_take]; omega
  acc r h := by
    unfold accS at h
    obtain ⟨j, _, rfl⟩ := List.mem_map.1 h
    refine ⟨Nat.le_trans (of_le _ _) ho, fun b hb' => ?_⟩
    obtain ⟨d, hd, rfl⟩ := of_all hb'
    exact hb d hd
/-- How far each member is, behind i rounds; and the sequence's length. -/
def whoA (k n P : Nat) (ps : List UInt8) (i : Nat) : Nat := if i < P then (ps.getD i 0).toNat % k else (i - P) / (max 1 n) % k
def atA (k n P : Nat) (ps : List UInt8) : Nat → List Nat × Nat
  | 0 => (List.replicate k 0, 0)
  | i + 1 => if n ≤ (atA k n P ps i).1.getD (whoA k n P ps i) 0 then atA k n P ps i
    else ((atA k n P ps i).1.set (whoA k n P ps i) ((atA k n P ps i).1.getD (whoA k n P ps i) 0 + 1), max (atA k n P ps i).2 ((atA k n P ps i).1.getD (whoA k n P ps i) 0 + 1))
structure AInv (k n : Nat) (r : List Nat × Nat) : Prop where
  len : r.1.length = k
  le : ∀ a ∈ r.1, a ≤ r.2
  mx : r.2 ≤ n
theorem atA_inv (k n P : Nat) (ps : List UInt8) : ∀ i, AInv k n (atA k n P ps i)
  | 0 => ⟨by simp [atA], fun a ha => by simp [atA] at ha ⊢; exact ha.2, by simp [atA]⟩
  | i + 1 => by
    have ih := atA_inv k n P ps i
    rw [atA]
    split
    · exact ih
    · rename_i hn
      refine ⟨by simp only [List.length_set]; exact ih.len, fun a ha => ?_, by simp only; have := ih.mx; omega⟩
      rcases List.mem_or_eq_of_mem_set ha with h | rfl
      · have := ih.le a h; simp only; omega
      · simp only; omega
theorem who_lt {k n P : Nat} (ps : List UInt8) (i : Nat) (hk : 0 < k) : whoA k n P ps i < k := by
  unfold whoA; split <;> exact Nat.mod_lt _ hk
/-- Rounds of member w among the first j of the last part. -/
def cl (n j w : Nat) : Nat := min n (j - w * n)
theorem cl_step {n j w : Nat} (hn : 0 < n) : cl n (j + 1) w ≤ cl n j w + (if j / n = w then 1 else 0) := by
  unfold cl
  by_cases h : j / n = w
  · rw [if_pos h]; omega
  · rw [if_neg h]
    rcases Nat.lt_or_ge (j / n) w with h1 | h1
    · have h2 : j < w * n := by
        have := Nat.lt_mul_div_succ j hn
        have h3 : n * (j / n + 1) ≤ n * w := Nat.mul_le_mul_left _ (by omega)
        rw [Nat.mul_comm w]; omega
      omega
    · have h2 : (w + 1) * n ≤ j := by
        have h3 : (w + 1) * n ≤ j / n * n := Nat.mul_le_mul_right _ (by omega)
        exact Nat.le_trans h3 (Nat.div_mul_le_self _ _)
      rw [Nat.add_mul, Nat.one_mul] at h2
      omega
theorem atA_ge {k n P : Nat} (ps : List UInt8) (hn : 0 < n) (hk : 0 < k) : ∀ j, j ≤ k * n → ∀ w, w < k → cl n j w ≤ (atA k n P ps (P + j)).1.getD w 0
  | 0, _, w, _ => by unfold cl; omega
  | j + 1, hj, w, hw => by
    have ih := atA_ge ps hn hk (P := P) j (by omega) w hw
    have hi := atA_inv k n P ps (P + j)
    have hjn : j / n < k := by
      have : j < n * k := by rw [Nat.mul_comm]; omega
      exact Nat.div_lt_of_lt_mul this
    have hwho : whoA k n P ps (P + j) = j / n := by
      unfold whoA
      rw [if_neg (by omega), Nat.add_sub_cancel_left, show max 1 n = n by omega, Nat.mod_eq_of_lt hjn]
    have hs := cl_step (n := n) (j := j) (w := w) hn
    have hle : cl n (j + 1) w ≤ n := Nat.min_le_left _ _
    rw [show P + (j + 1) = P + j + 1 by omega, atA, hwho]
    split
    · rename_i h
      by_cases hjw : j / n = w
      · rw [hjw] at h; omega
      · rw [if_neg hjw] at hs; omega
    · rename_i h
      simp only [List.getD_eq_getElem?_getD] at *
      by_cases hjw : j / n = w
      · rw [if_pos hjw] at hs
        subst hjw
        rw [List.getElem?_set_self (by rw [hi.len]; exact hjn)]
        simp only [Option.getD_some]; omega
      · rw [if_neg hjw] at hs
        rw [List.getElem?_set_ne hjw]; omega
theorem atA_end {k n P : Nat} (ps : List UInt8) (hk : 0 < k) : (∀ w, w < k → (atA k n P ps (P + k * n)).1[w]? = some n) ∧ (atA k n P ps (P + k * n)).2 = n := by
  have hi := atA_inv k n P ps (P + k * n)
  have key : ∀ w, w < k → (atA k n P ps (P + k * n)).1[w]? = some n := fun w hw => by
    have hx : (atA k n P ps (P + k * n)).1[w]? = some ((atA k n P ps (P + k * n)).1[w]'(by rw [hi.len]; exact hw)) := List.getElem?_eq_getElem _
    rw [hx]
    have h1 := hi.le _ (List.mem_of_getElem? hx)
    have h2 := hi.mx
    congr 1
    rcases Nat.eq_zero_or_pos n with h0 | h0
    · omega
    · have h3 := atA_ge ps h0 hk (P := P) (k * n) (Nat.le_refl _) w hw
      have h4 : cl n (k * n) w = n := by
        unfold cl
        have : (w + 1) * n ≤ k * n := Nat.mul_le_mul_right _ (by omega)
        rw [Nat.add_mul, Nat.one_mul] at this
        omega
      rw [List.getD_eq_getElem?_getD, hx, h4] at h3
      simp only [Option.getD_some] at h3
      omega
  refine ⟨key, ?_⟩
  have h1 := hi.le n (List.mem_of_getElem? (key 0 hk))
  have h2 := hi.mx
  omega
def atI (r : List Nat × Nat) : List Int := r.1.map fun (x : Nat) => (x : Int)
theorem atI_len (r : List Nat × Nat) : (atI r).length = r.1.length := by simp [atI]
theorem atI_get {r : List Nat × Nat} {w a : Nat} (h : r.1[w]? = some a) : (atI r)[w]? = some (a : Int) := by unfold atI; rw [List.getElem?_map, h]; rfl
end Go.Proofs.Ytnibihjlclelgaa
