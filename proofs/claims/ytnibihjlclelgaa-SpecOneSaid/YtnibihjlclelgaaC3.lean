import Derived.Test.YtnibihjlclelgaaC2
set_option linter.unusedVariables false
set_option linter.unusedSimpArgs false
set_option maxRecDepth 100000
namespace Go.Aw

/-! What is few, and right; and what is left, by the document. -/
def fewR (r : List (List UInt8)) (m : Nat) : Bool := decide (r.length ≤ m) && r.all fun b => decide (b.length ≤ 2000)
def fewS (s : SpecS) : Bool := decide (s.Acc.length ≤ 80 ∧ s.Seq.length ≤ 200 ∧ s.At.length ≤ 80) && s.Acc.all fun r => fewR r 100
theorem few_all {s : SpecS} (h : fewS s = true) : s.Acc.length ≤ 80 ∧ s.Seq.length ≤ 200 ∧ s.At.length ≤ 80 ∧ ∀ r ∈ s.Acc, r.length ≤ 100 ∧ ∀ b ∈ r, b.length ≤ 2000 := by
  unfold fewS fewR at h
  simp only [Bool.and_eq_true, decide_eq_true_eq, List.all_eq_true] at h
  exact ⟨h.1.1, h.1.2.1, h.1.2.2, h.2⟩
theorem inv_of {s : SpecS} (hf : fewS s = true) (hr : rightS s = true) : SInv 200 s := by
  obtain ⟨f1, f2, f3, f4⟩ := few_all hf
  unfold rightS at hr
  simp only [Bool.and_eq_true, decide_eq_true_eq, List.all_eq_true] at hr
  obtain ⟨⟨⟨h1, h2⟩, h3⟩, h4⟩ := hr
  refine ⟨h1, h2, fun a ha => ?_, h3, f2, fun r hr => ⟨Nat.le_trans (f4 r hr).1 (by omega), (f4 r hr).2⟩⟩
  obtain ⟨i, hi, rfl⟩ := List.getElem_of_mem ha
  have := h4 i (List.mem_range.2 (by omega))
  unfold okAt at this
  rw [Bool.and_eq_true, decide_eq_true_eq, List.getD_eq_getElem?_getD, List.getElem?_eq_getElem hi] at this
  exact this.1
theorem new_inv {n : Nat} (hn : n ≤ 64) : SInv 0 (newS n) where
  len := by simp [newS]
  n64 := by simp [newS]; exact hn
  at_ a ha := by have := List.eq_of_mem_replicate ha; simp [newS, this]
  frm d hd := by cases hd
  seq := Nat.le_refl _
  acc r hr := by have := List.eq_of_mem_replicate hr; subst this; simp
/-- By the document: member by member. -/
def sumD (s : SpecS) : Nat → Int
  | 0 => 0
  | i + 1 => sumD s i + (s.Acc.getD i []).length - (ofF s.Seq i).length + s.Seq.length - s.At.getD i 0
theorem sumD_eq (s : SpecS) : ∀ n, sumD s n = sumA s n - (sumF (fun i => (ofF s.Seq i).length) n : Nat)
  | 0 => rfl
  | n + 1 => by rw [sumD, sumA, sumF, sumD_eq s n]; omega
theorem leftD_eq {M : Nat} {s : SpecS} (h : SInv M s) : sumD s s.Acc.length = leftS s := by
  rw [sumD_eq]
  have := of_sum s.Acc.length s.Seq fun d hd => by have := h.frm d hd; unfold memF at this; exact of_decide_eq_true this
  unfold leftS; rw [← this]
theorem sumA_bd {M : Nat} {s : SpecS} (h : SInv M s) : ∀ n, n ≤ s.Acc.length → 0 ≤ sumA s n ∧ sumA s n ≤ n * (2 * M)
  | 0, _ => by simp [sumA]
  | n + 1, hn => by
    have ih := sumA_bd h n (by omega)
    obtain ⟨a, h1, h2, h3, h4⟩ := at_inv h (w := n) (by omega)
    have h5 : (s.Acc.getD n []).length ≤ M := by
      rw [List.getD_eq_getElem?_getD, List.getElem?_eq_getElem (by omega)]
      exact (h.acc _ (List.getElem_mem (by omega))).1
    have h6 := h.seq
    have h7 := h.n64
    rw [sumA, h2]
    have e : ((n + 1 : Nat) : Int) * (2 * M) = n * (2 * M) + 2 * M := by rw [Int.natCast_add, Int.add_mul]; simp
    rw [e]
    omega
theorem of_le (q : List Deliv) (f : Int) : (ofF q f).length ≤ q.length := by unfold ofF; rw [List.length_map]; exact List.length_filter_le _ _
theorem sumF_bd {f : Nat → Nat} {B : Nat} (h : ∀ i, f i ≤ B) : ∀ n, sumF f n ≤ n * B
  | 0 => by simp [sumF]
  | n + 1 => by have := sumF_bd h n; have := h n; rw [sumF, Nat.add_mul, Nat.one_mul]; omega
theorem sumD_bd {M : Nat} {s : SpecS} (h : SInv M s) : ∀ n, n ≤ s.Acc.length → -((n : Int) * (2 * M)) ≤ sumD s n ∧ sumD s n ≤ n * (2 * M) := fun n hn => by
  have h1 := sumA_bd h n hn
  have h2 := sumF_bd (f := fun i => (ofF s.Seq i).length) (B := M) (fun i => Nat.le_trans (of_le _ _) h.seq) n
  rw [sumD_eq]
  have h3 : ((sumF (fun i => (ofF s.Seq i).length) n : Nat) : Int) ≤ (n : Int) * M := by rw [← Int.natCast_mul]; exact Int.ofNat_le.2 h2
  have h4 : (n : Int) * (2 * M) = (n : Int) * M + n * M := by rw [Int.two_mul, Int.mul_add]
  have h5 : 0 ≤ (n : Int) * M := Int.mul_nonneg (by omega) (by omega)
  omega
def ofK (q : List Deliv) (f : Int) (k : Nat) : List (List UInt8) := ofF (q.take k) f
theorem ofK_zero (q : List Deliv) (f : Int) : ofK q f 0 = [] := rfl
theorem ofK_all (q : List Deliv) (f : Int) : ofK q f q.length = ofF q f := by unfold ofK; rw [List.take_length]
theorem ofK_succ {q : List Deliv} {f : Int} {k : Nat} {d : Deliv} (h : q[k]? = some d) : ofK q f (k + 1) = ofK q f k ++ if d.From = f then [d.B] else [] := by
  unfold ofK
  rw [List.take_add_one, h, ofF_app, ← ofF_one]; rfl
theorem ofK_le (q : List Deliv) (f : Int) (k : Nat) : (ofK q f k).length ≤ k := by
  unfold ofK
  exact Nat.le_trans (of_le _ _) (by rw [List.length_take]; omega)
end Go.Aw
