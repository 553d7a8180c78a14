import Derived.Test.YtogappokeheilaaB16
set_option linter.unusedVariables false
set_option linter.unusedSimpArgs false
namespace Go.Proofs.Ytogappokeheilaa
open Go.Aw

/-! Plain laws of lanes. -/
theorem lowR_all : ∀ {l : List Entry} {low : Int}, lowR low l = true → (l.map (·.Seq)).Pairwise (· < ·) ∧ ∀ x ∈ l, low < x.Seq ∧ mayF x = true
  | [], _, _ => ⟨by simp, by simp⟩
  | e :: r, low, h => by
    simp only [lowR, Bool.and_eq_true, decide_eq_true_eq] at h
    obtain ⟨⟨h1, h2⟩, h3⟩ := h
    obtain ⟨h4, h5⟩ := lowR_all h3
    refine ⟨?_, fun x hx => ?_⟩
    · rw [List.map_cons, List.pairwise_cons]
      refine ⟨fun y hy => ?_, h4⟩
      obtain ⟨x, hx, rfl⟩ := List.mem_map.1 hy
      exact (h5 x hx).1
    · rcases List.mem_cons.1 hx with rfl | hx
      · exact ⟨h2, h1⟩
      · have := h5 x hx; exact ⟨by omega, this.2⟩
theorem lowR_of : ∀ {l : List Entry} {low : Int}, (l.map (·.Seq)).Pairwise (· < ·) → (∀ x ∈ l, low < x.Seq ∧ mayF x = true) → lowR low l = true
  | [], _, _, _ => rfl
  | e :: r, low, h, g => by
    rw [List.map_cons, List.pairwise_cons] at h
    have he := g e (by simp)
    simp only [lowR, Bool.and_eq_true, decide_eq_true_eq]
    exact ⟨⟨he.2, he.1⟩, lowR_of h.2 fun x hx => ⟨h.1 x.Seq (List.mem_map.2 ⟨x, hx, rfl⟩), (g x (by simp [hx])).2⟩⟩
def endFrom (low : Int) (l : List Entry) : Int := match l.getLast? with
  | some e => e.Seq
  | none => low
theorem end_map (low : Int) (l : List Entry) : endFrom low l = ((l.map (·.Seq)).getLast?).getD low := by
  unfold endFrom; rw [List.getLast?_map]; cases l.getLast? <;> rfl
theorem end_cons (low : Int) (x : Entry) (r : List Entry) : endFrom low (x :: r) = endFrom x.Seq r := by
  unfold endFrom
  cases r with
  | nil => rfl
  | cons y s => rw [List.getLast?_cons_cons]; cases h : (y :: s).getLast? with
    | none => simp at h
    | some z => rfl
theorem end_ge : ∀ {l : List Entry} {low : Int}, lowR low l = true → low ≤ endFrom low l ∧ ∀ x ∈ l, x.Seq ≤ endFrom low l
  | [], low, _ => ⟨Int.le_refl _, by simp⟩
  | e :: r, low, h => by
    simp only [lowR, Bool.and_eq_true, decide_eq_true_eq] at h
    obtain ⟨⟨h1, h2⟩, h3⟩ := h
    obtain ⟨h4, h5⟩ := end_ge h3
    rw [end_cons]
    refine ⟨by omega, fun x hx => ?_⟩
    rcases List.mem_cons.1 hx with rfl | hx
    · exact h4
    · exact h5 x hx
theorem end_mem (low : Int) : ∀ l : List Entry, endFrom low l = low ∨ ∃ x ∈ l, endFrom low l = x.Seq
  | [] => .inl rfl
  | e :: r => by
    rw [end_cons]
    rcases end_mem e.Seq r with h | ⟨x, hx, h⟩
    · exact .inr ⟨e, by simp, h⟩
    · exact .inr ⟨x, by simp [hx], h⟩
theorem lowR_snoc (e : Entry) : ∀ (l : List Entry) (low : Int), lowR low (l ++ [e]) = (lowR low l && mayF e && decide (endFrom low l < e.Seq))
  | [], low => by simp [lowR, endFrom]; rfl
  | x :: r, low => by
    rw [List.cons_append, lowR, lowR_snoc e r x.Seq, lowR, end_cons]
    simp only [Bool.and_assoc]
def partOk (l : Lane) : Prop := (l.Part = ⟨0, 0, 0, []⟩) ∨ (0 < l.Part.Got ∧ l.Part.Got < l.Part.Total ∧ l.Part.Total ≤ 32 ∧ endFrom 0 l.L < l.Part.Seq)
theorem right_iff (l : Lane) : rightF l = true ↔ lowR 0 l.L = true ∧ partOk l := by
  unfold rightF partOk endFrom
  rw [Bool.and_eq_true]
  refine and_congr_right fun _ => ?_
  by_cases h : l.Part.Got = 0
  · rw [if_pos h, decide_eq_true_eq]
    refine ⟨.inl, fun g => ?_⟩
    rcases g with g | g
    · exact g
    · omega
  · rw [if_neg h, decide_eq_true_eq]
    refine ⟨.inr, fun g => ?_⟩
    rcases g with g | g
    · rw [g] at h; exact absurd rfl h
    · exact g
theorem may_tok {t : Aw.Item} (h : mayI t = true) (hk : t.Kind = 3) : t.L = [] := by
  unfold mayI at h
  rw [decide_eq_true_eq] at h
  exact List.eq_nil_of_length_eq_zero (by omega)
theorem may_size {t : Aw.Item} (h : mayI t = true) : t.Body.length ≤ 100000 ∧ t.L.length ≤ 1000 := by
  unfold mayI at h
  rw [decide_eq_true_eq] at h
  omega
theorem may_order {t : Aw.Item} (h : mayI t = true) (hk : t.Kind = 2) : inR t.L = true := by
  unfold mayI at h
  rw [decide_eq_true_eq] at h
  obtain ⟨_, _, _, _, h⟩ := h
  rcases h with h | h | h | h | h | h
  · omega
  · have := h.2.1
    unfold inN at this
    unfold inR
    exact this
  all_goals omega
theorem may_seq {t : Aw.Item} (h : mayI t = true) : 1 ≤ t.Seq := by
  unfold mayI at h
  rw [decide_eq_true_eq] at h
  exact h.1
/-- What is set, is set at just one place. -/
theorem setN_all (e : Entry) (l : List Entry) : setN e l l.length = l.map (fun x => if seqP e.Seq x then e else x) := by
  unfold setN; rw [List.take_length]
theorem set_none {e : Entry} : ∀ {l : List Entry}, (∀ x ∈ l, seqP e.Seq x = false) → l.map (fun x => if seqP e.Seq x then e else x) = l
  | [], _ => rfl
  | x :: r, h => by
    rw [List.map_cons, set_none fun y hy => h y (by simp [hy]), h x (by simp)]; rfl
theorem set_one {e : Entry} : ∀ {l : List Entry}, (l.map (·.Seq)).Pairwise (· < ·) → l.map (fun x => if seqP e.Seq x then e else x) = match l.findIdx? (seqP e.Seq) with
    | some i => l.set i e
    | none => l
  | [], _ => rfl
  | x :: r, h => by
    rw [List.map_cons, List.pairwise_cons] at h
    have ih := set_one (e := e) h.2
    rw [List.map_cons, List.findIdx?_cons]
    cases hx : seqP e.Seq x with
    | true =>
      have hxe : x.Seq = e.Seq := by simpa [seqP] using hx
      have hn : ∀ y ∈ r, seqP e.Seq y = false := fun y hy => by
        have := h.1 y.Seq (List.mem_map.2 ⟨y, hy, rfl⟩)
        unfold seqP
        exact decide_eq_false (by omega)
      rw [set_none hn]; rfl
    | false =>
      rw [ih]
      cases hq : r.findIdx? (seqP e.Seq) <;> simp
theorem setG_eq {l : Lane} {e : Entry} (h : rightF l = true) : setG l e = setF l e := by
  have hp := (lowR_all ((right_iff l).1 h).1).1
  have hs := set_one (e := e) hp
  unfold setG setF
  rw [setN_all, hs]
  cases hq : l.L.findIdx? (seqP e.Seq) with
  | none => simp
  | some i => rfl
end Go.Proofs.Ytogappokeheilaa
