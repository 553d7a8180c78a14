import Derived.Test.YtnibihjlclelgaaC1
set_option linter.unusedVariables false
set_option linter.unusedSimpArgs false
set_option maxRecDepth 100000
namespace Go.Aw

/-! All is delivered: plain laws. -/
def orderS (k : Nat) (fs : List UInt8) (m : Nat) : List Deliv := (List.range m).map fun i => ⟨((fs.getD i 0).toNat % k : Nat), [UInt8.ofNat i]⟩
def accS (k : Nat) (o : List Deliv) : List (List (List UInt8)) := (List.range k).map fun (j : Nat) => ofF o (j : Int)
theorem orderS_len (k : Nat) (fs : List UInt8) (m : Nat) : (orderS k fs m).length = m := by simp [orderS]
theorem orderS_succ (k : Nat) (fs : List UInt8) (m : Nat) : orderS k fs (m + 1) = orderS k fs m ++ [⟨((fs.getD m 0).toNat % k : Nat), [UInt8.ofNat m]⟩] := by unfold orderS; rw [List.range_succ, List.map_append]; rfl
theorem orderS_get {k : Nat} {fs : List UInt8} {m i : Nat} {d : Deliv} (h : (orderS k fs m)[i]? = some d) : d = ⟨((fs.getD i 0).toNat % k : Nat), [UInt8.ofNat i]⟩ ∧ i < m := by
  have hl := (List.getElem?_eq_some_iff.1 h).1
  rw [orderS_len] at hl
  unfold orderS at h
  rw [List.getElem?_map, List.getElem?_range hl] at h
  exact ⟨(Option.some.inj h).symm, hl⟩
theorem accS_len (k : Nat) (o : List Deliv) : (accS k o).length = k := by simp [accS]
theorem accS_get {k : Nat} {o : List Deliv} {j : Nat} (h : j < k) : (accS k o)[j]? = some (ofF o j) := by unfold accS; rw [List.getElem?_map, List.getElem?_range h]; rfl
theorem accS_getD {k : Nat} {o : List Deliv} {j : Nat} (h : j < k) : (accS k o).getD j [] = ofF o j := by rw [List.getD_eq_getElem?_getD, accS_get h]; rfl
theorem ofF_app (a b : List Deliv) (f : Int) : ofF (a ++ b) f = ofF a f ++ ofF b f := by unfold ofF; rw [List.filter_append, List.map_append]
theorem ofF_one (d : Deliv) (f : Int) : ofF [d] f = if d.From = f then [d.B] else [] := by
  unfold ofF
  by_cases h : d.From = f <;> simp [frmS, h]
theorem accS_push (k : Nat) (o : List Deliv) (w : Nat) (b : List UInt8) (hw : w < k) : (accS k o).set w ((accS k o).getD w [] ++ [b]) = accS k (o ++ [⟨w, b⟩]) := by
  apply List.ext_getElem?
  intro j
  by_cases hj : j < k
  · rw [accS_get hj, ofF_app, ofF_one]
    by_cases hwj : w = j
    · subst hwj
      rw [List.getElem?_set_self (by rw [accS_len]; exact hj), accS_getD hj, if_pos rfl]
    · rw [List.getElem?_set_ne hwj, accS_get hj, if_neg (by simp only; omega), List.append_nil]
  · rw [List.getElem?_eq_none (by rw [List.length_set, accS_len]; omega), List.getElem?_eq_none (by rw [accS_len]; omega)]
theorem accS_nil (k : Nat) : accS k [] = List.replicate k [] := by
  apply List.ext_getElem?
  intro j
  by_cases hj : j < k
  · rw [accS_get hj, List.getElem?_replicate, if_pos hj]; rfl
  · rw [List.getElem?_eq_none (by rw [accS_len]; omega), List.getElem?_replicate, if_neg hj]
theorem step_push (k : Nat) (o : List Deliv) (q : List Deliv) (at_ : List Int) (w : Nat) (f : Int) (b : List UInt8) (hw : w < k) : stepS ⟨accS k o, q, at_⟩ ⟨false, w, f, b⟩ = (⟨accS k (o ++ [⟨w, b⟩]), q, at_⟩, true) := by
  unfold stepS
  simp only [accS_len, Int.toNat_natCast]
  rw [if_neg (by omega), if_pos trivial, accS_push k o w b hw]
theorem ofF_get {o : List Deliv} {a : Nat} {d : Deliv} (h : o[a]? = some d) : (ofF o d.From)[(ofF (o.take a) d.From).length]? = some d.B := by
  have hlt := (List.getElem?_eq_some_iff.1 h).1
  have h1 := List.take_append_drop a o
  rw [List.drop_eq_getElem_cons hlt, (List.getElem?_eq_some_iff.1 h).2] at h1
  have key : ∀ pre post : List Deliv, (ofF (pre ++ d :: post) d.From)[(ofF pre d.From).length]? = some d.B := fun pre post => by
    rw [ofF_app, List.getElem?_append_right (Nat.le_refl _), Nat.sub_self]
    unfold ofF
    rw [List.filter_cons_of_pos (by simp [frmS])]; rfl
  have := key (o.take a) (o.drop (a + 1))
  rwa [h1] at this
section
variable {k : Nat} {o : List Deliv} {m : Nat} {at_ : List Int} {w a : Nat}
theorem step_deliver {d : Deliv} (hl : at_.length = k) (hw : w < k) (ha : at_[w]? = some (a : Int)) (ham : a ≤ m) (hm : m ≤ o.length) (hd : o[a]? = some d) (hf : 0 ≤ d.From ∧ d.From < k) :
    stepS ⟨accS k o, o.take m, at_⟩ ⟨true, w, d.From, d.B⟩ = (⟨accS k o, o.take (max m (a + 1)), at_.set w (a + 1)⟩, true) := by
  have hg : at_.getD w 0 = a := by rw [List.getD_eq_getElem?_getD, ha]; rfl
  have hal := (List.getElem?_eq_some_iff.1 hd).1
  unfold stepS
  simp only [accS_len, Int.toNat_natCast, hg, List.length_take]
  rw [if_neg (by omega), if_neg (by simp)]
  by_cases h : a < m
  · rw [if_pos (by omega), if_pos (by rw [List.getElem?_take, if_pos h]; exact hd), show max m (a + 1) = m by omega]
  · obtain rfl : a = m := by omega
    rw [if_neg (by omega), if_neg (by omega), accS_getD (by omega), if_pos]
    · rw [show max a (a + 1) = a + 1 by omega, List.take_add_one, hd]; rfl
    · have h1 := ofF_get hd
      have h2 : ((d.From.toNat : Nat) : Int) = d.From := by omega
      rw [h2]; exact h1
theorem step_other {d : Deliv} {b : List UInt8} (hl : at_.length = k) (hw : w < k) (ha : at_[w]? = some (a : Int)) (ham : a ≤ m) (hm : m ≤ o.length) (hd : o[a]? = some d) (hf : 0 ≤ d.From ∧ d.From < k) (hb : d.B ≠ b) :
    stepS ⟨accS k o, o.take m, at_⟩ ⟨true, w, d.From, b⟩ = (⟨accS k o, o.take m, at_⟩, false) := by
  have hg : at_.getD w 0 = a := by rw [List.getD_eq_getElem?_getD, ha]; rfl
  have hal := (List.getElem?_eq_some_iff.1 hd).1
  unfold stepS
  simp only [accS_len, Int.toNat_natCast, hg, List.length_take]
  rw [if_neg (by omega), if_neg (by simp)]
  by_cases h : a < m
  · rw [if_pos (by omega), if_neg]
    rw [List.getElem?_take, if_pos h, hd]
    intro hh
    have := Option.some.inj hh
    rw [this] at hb; exact hb rfl
  · obtain rfl : a = m := by omega
    rw [if_neg (by omega), if_neg (by omega), accS_getD (by omega), if_neg]
    have h1 := ofF_get hd
    have h2 : ((d.From.toNat : Nat) : Int) = d.From := by omega
    rw [h2, h1]
    exact fun hh => hb (Option.some.inj hh)
theorem step_more {b : List UInt8} {f : Nat} (hl : at_.length = k) (hw : w < k) (ha : at_[w]? = some (o.length : Int)) (hf : f < k) :
    stepS ⟨accS k o, o, at_⟩ ⟨true, w, f, b⟩ = (⟨accS k o, o, at_⟩, false) := by
  have hg : at_.getD w 0 = o.length := by rw [List.getD_eq_getElem?_getD, ha]; rfl
  unfold stepS
  simp only [accS_len, Int.toNat_natCast, hg]
  rw [if_neg (by omega), if_neg (by simp), if_neg (by omega), if_neg (by omega), accS_getD hf, if_neg]
  rw [List.getElem?_eq_none (Nat.le_refl _)]; simp
end
def sumF (f : Nat → Nat) : Nat → Nat
  | 0 => 0
  | m + 1 => sumF f m + f m
theorem sumF_one (f : Nat → Nat) (c : Nat) : ∀ n, sumF (fun i => (if c = i then 1 else 0) + f i) n = (if c < n then 1 else 0) + sumF f n
  | 0 => by rw [if_neg (by omega)]; rfl
  | n + 1 => by
    rw [sumF, sumF, sumF_one f c n]
    by_cases h1 : c = n
    · subst h1; rw [if_neg (by omega), if_pos rfl, if_pos (by omega)]; omega
    · rw [if_neg h1]
      by_cases h2 : c < n
      · rw [if_pos h2, if_pos (by omega)]; omega
      · rw [if_neg h2, if_neg (by omega)]; omega
theorem sumF_zero : ∀ n, sumF (fun _ => 0) n = 0
  | 0 => rfl
  | n + 1 => by rw [sumF, sumF_zero n]
theorem sumF_congr {f g : Nat → Nat} : ∀ n, (∀ i, i < n → f i = g i) → sumF f n = sumF g n
  | 0, _ => rfl
  | n + 1, h => by rw [sumF, sumF, sumF_congr n (fun i hi => h i (by omega)), h n (by omega)]
/-- A sequence is as long as its members' parts together. -/
theorem of_sum (n : Nat) : ∀ o : List Deliv, (∀ d ∈ o, 0 ≤ d.From ∧ d.From < n) → o.length = sumF (fun i => (ofF o i).length) n
  | [], _ => by
    show 0 = sumF (fun _ => 0) n
    rw [sumF_zero]
  | d :: r, h => by
    have hc := h d (by simp)
    have ih := of_sum n r fun x hx => h x (by simp [hx])
    have e : ∀ i, i < n → (ofF (d :: r) i).length = (if d.From.toNat = i then 1 else 0) + (ofF r i).length := fun i _ => by
      unfold ofF
      by_cases hi : d.From.toNat = i
      · have hp : frmS i d = true := decide_eq_true (by omega)
        rw [if_pos hi, List.filter_cons_of_pos hp, List.map_cons, List.length_cons]; omega
      · have hp : ¬ frmS i d = true := by simp only [frmS, decide_eq_true_eq]; omega
        rw [if_neg hi, List.filter_cons_of_neg hp]; omega
    rw [sumF_congr n e, sumF_one, if_pos (by omega), ← ih, List.length_cons]; omega
theorem left_all {k : Nat} {o : List Deliv} {at_ : List Int} (hl : at_.length = k) (h : ∀ w, w < k → at_[w]? = some (o.length : Int)) (hf : ∀ d ∈ o, 0 ≤ d.From ∧ d.From < k) : leftS ⟨accS k o, o, at_⟩ = 0 := by
  have hs : ∀ n, n ≤ k → sumA ⟨accS k o, o, at_⟩ n = (sumF (fun i => (ofF o i).length) n : Nat) := fun n => by
    induction n with
    | zero => intro _; rfl
    | succ n ih =>
      intro hn
      rw [sumA, ih (by omega), sumF]
      simp only
      rw [accS_getD (by omega), List.getD_eq_getElem?_getD, h n (by omega)]
      simp only [Option.getD_some]; omega
  unfold leftS
  simp only [accS_len]
  rw [hs k (Nat.le_refl _), ← of_sum k o hf]; omega
end Go.Aw
