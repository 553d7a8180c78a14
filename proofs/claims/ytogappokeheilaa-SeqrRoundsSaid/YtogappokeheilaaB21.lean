import Derived.Test.YtogappokeheilaaB19
set_option linter.unusedVariables false
set_option linter.unusedSimpArgs false
set_option maxRecDepth 100000
set_option maxHeartbeats 0
namespace Go.Proofs.Ytogappokeheilaa
open Go.Aw

theorem popN_all (s : Int) (l : List Entry) : popN s l l.length = l.filter (fun e => !seqP s e) := by unfold popN; rw [List.take_length]
/-- F's first k entries are taken away, one by one. -/
def popAll (F l : List Entry) : Nat → List Entry
  | 0 => l
  | k + 1 => match F[k]? with
    | some e => popN e.Seq (popAll F l k) (popAll F l k).length
    | none => popAll F l k
theorem popAll_len (F l : List Entry) : ∀ k, (popAll F l k).length ≤ l.length
  | 0 => Nat.le_refl _
  | k + 1 => by
    have ih := popAll_len F l k
    simp only [popAll]
    split
    · exact Nat.le_trans (popN_le _ _ _) ih
    · exact ih
theorem popAll_facts {p : Entry → Bool} {l : List Entry} (inj : ∀ a ∈ l, ∀ b ∈ l, a.Seq = b.Seq → a = b) (hF : ((l.filter p).map (·.Seq)).Pairwise (· < ·)) : ∀ k, k ≤ (l.filter p).length →
    (popAll (l.filter p) l k).filter p = (l.filter p).drop k ∧ (popAll (l.filter p) l k).filter (fun e => !p e) = l.filter (fun e => !p e) ∧ ∀ e ∈ popAll (l.filter p) l k, e ∈ l
  | 0, _ => ⟨rfl, rfl, fun e h => h⟩
  | k + 1, hk => by
    obtain ⟨h1, h2, h3⟩ := popAll_facts inj hF k (by omega)
    have hlt : k < (l.filter p).length := by omega
    have he : (l.filter p)[k]? = some (l.filter p)[k] := List.getElem?_eq_getElem hlt
    generalize hx : (l.filter p)[k] = x at he
    have hmem : x ∈ l.filter p := List.mem_of_getElem? he
    obtain ⟨hxl, hpx⟩ := List.mem_filter.1 hmem
    simp only [popAll, he]
    rw [popN_all]
    refine ⟨?_, ?_, fun e h => h3 e (List.mem_filter.1 h).1⟩
    · have hc : ∀ L : List Entry, (L.filter (fun e => !seqP x.Seq e)).filter p = (L.filter p).filter (fun e => !seqP x.Seq e) := fun L => by
        rw [List.filter_filter, List.filter_filter]; congr 1; funext e; exact Bool.and_comm _ _
      rw [hc, h1, List.drop_eq_getElem_cons hlt, hx, List.filter_cons]
      have hxx : seqP x.Seq x = true := decide_eq_true rfl
      simp only [hxx, Bool.not_true, Bool.false_eq_true, if_false]
      rw [List.filter_eq_self]
      intro y hy
      have hpw : (((l.filter p).drop k).map (·.Seq)).Pairwise (· < ·) := List.Pairwise.sublist (List.Sublist.map _ (List.drop_sublist _ _)) hF
      rw [List.drop_eq_getElem_cons hlt, hx, List.map_cons, List.pairwise_cons] at hpw
      have := hpw.1 y.Seq (List.mem_map.2 ⟨y, hy, rfl⟩)
      simp [seqP]; omega
    · have hc : ∀ L : List Entry, (L.filter (fun e => !seqP x.Seq e)).filter (fun e => !p e) = (L.filter (fun e => !p e)).filter (fun e => !seqP x.Seq e) := fun L => by
        rw [List.filter_filter, List.filter_filter]; congr 1; funext e; exact Bool.and_comm _ _
      rw [hc, h2, List.filter_eq_self]
      intro y hy
      obtain ⟨hyl, hpy⟩ := List.mem_filter.1 hy
      have : y.Seq ≠ x.Seq := fun h => by
        have := inj y hyl x hxl h
        rw [this, hpx] at hpy; cases hpy
      simp [seqP, this]
theorem find_at {p : Entry → Bool} {l F : List Entry} {k : Nat} (h : l.filter p = F.drop k) : findF p l = match F[k]? with
    | some e => (e, true)
    | none => (zeroE, false) := by
  unfold findF
  rw [← List.head?_filter, h, List.head?_drop]
  cases F[k]? <;> rfl
theorem seq_inj : ∀ {l : List Entry}, (l.map (·.Seq)).Pairwise (· < ·) → ∀ a ∈ l, ∀ b ∈ l, a.Seq = b.Seq → a = b
  | [], _, a, ha, _, _, _ => by cases ha
  | x :: r, h, a, ha, b, hb, hab => by
    rw [List.map_cons, List.pairwise_cons] at h
    rcases List.mem_cons.1 ha with h1 | h1 <;> rcases List.mem_cons.1 hb with h2 | h2
    · rw [h1, h2]
    · have := h.1 b.Seq (List.mem_map.2 ⟨b, h2, rfl⟩); rw [h1] at hab; omega
    · have := h.1 a.Seq (List.mem_map.2 ⟨a, h1, rfl⟩); rw [h2] at hab; omega
    · exact seq_inj h.2 a h1 b h2 hab
theorem lowR_sub {l F : List Entry} {low : Int} (h : lowR low l = true) (hs : F.Sublist l) : lowR low F = true := by
  obtain ⟨h1, h2⟩ := lowR_all h
  exact lowR_of (List.Pairwise.sublist (List.Sublist.map _ hs) h1) fun x hx => h2 x (hs.subset hx)
theorem end_next {F : List Entry} {low : Int} {k : Nat} {x : Entry} (h : lowR low F = true) (hx : F[k]? = some x) : endFrom low (F.take k) < x.Seq ∧ endFrom low (F.take (k + 1)) = x.Seq := by
  have h1 := lowR_sub h (List.take_sublist (k + 1) F)
  rw [List.take_add_one, hx] at h1 ⊢
  simp only [Option.toList_some] at h1 ⊢
  rw [lowR_snoc] at h1
  simp only [Bool.and_eq_true, decide_eq_true_eq] at h1
  refine ⟨h1.2, ?_⟩
  unfold endFrom; simp
theorem filter_parts {p : Entry → Bool} : ∀ l : List Entry, (l.filter p).length + (l.filter (fun e => !p e)).length = l.length
  | [] => rfl
  | x :: r => by
    have ih := filter_parts (p := p) r
    rw [List.filter_cons, List.filter_cons]
    cases p x <;> simp <;> omega
theorem ctl_not (l : List Entry) : l.filter isCtl = l.filter (fun e => !isMsg e) := by
  congr 1; funext e
  by_cases h : e.Kind = 1 <;> simp [isCtl, isMsg, h]
theorem msg_not (l : List Entry) : l.filter isMsg = l.filter (fun e => !isCtl e) := by
  congr 1; funext e
  by_cases h : e.Kind = 1 <;> simp [isCtl, isMsg, h]
/-- What the law of counting needs of a right lane. -/
theorem count_facts {l : Lane} (hr : rightF l = true) :
    (∀ (k : Nat) (e : Entry), (l.L.filter isMsg)[k]? = some e → e.Kind = 1 ∧ endFrom 0 ((l.L.filter isMsg).take k) < e.Seq ∧ endFrom 0 ((l.L.filter isMsg).take (k + 1)) = e.Seq) ∧
    (∀ (k : Nat) (e : Entry), (l.L.filter isCtl)[k]? = some e → e.Kind ≠ 1) ∧
    (∀ k, k ≤ (l.L.filter isMsg).length → findF isMsg (popAll (l.L.filter isMsg) l.L k) = match (l.L.filter isMsg)[k]? with
      | some e => (e, true)
      | none => (zeroE, false)) ∧
    (∀ k, k ≤ (l.L.filter isCtl).length → findF isCtl (popAll (l.L.filter isCtl) (popAll (l.L.filter isMsg) l.L (l.L.filter isMsg).length) k) = match (l.L.filter isCtl)[k]? with
      | some e => (e, true)
      | none => (zeroE, false)) ∧
    popAll (l.L.filter isCtl) (popAll (l.L.filter isMsg) l.L (l.L.filter isMsg).length) (l.L.filter isCtl).length = [] := by
  obtain ⟨hlow, _⟩ := (right_iff l).1 hr
  have hpw := (lowR_all hlow).1
  have inj := seq_inj hpw
  have hM : ((l.L.filter isMsg).map (·.Seq)).Pairwise (· < ·) := List.Pairwise.sublist (List.Sublist.map _ List.filter_sublist) hpw
  have hC : ((l.L.filter isCtl).map (·.Seq)).Pairwise (· < ·) := List.Pairwise.sublist (List.Sublist.map _ List.filter_sublist) hpw
  have f1 := popAll_facts inj hM
  obtain ⟨a1, a2, a3⟩ := f1 _ (Nat.le_refl _)
  generalize hX : popAll (l.L.filter isMsg) l.L (l.L.filter isMsg).length = X at *
  have hXC : X.filter isCtl = l.L.filter isCtl := by rw [ctl_not, ctl_not]; exact a2
  have injX : ∀ a ∈ X, ∀ b ∈ X, a.Seq = b.Seq → a = b := fun a ha b hb => inj a (a3 a ha) b (a3 b hb)
  have f2 := popAll_facts (p := isCtl) injX (by rw [hXC]; exact hC)
  rw [hXC] at f2
  refine ⟨fun k e he => ⟨?_, end_next (lowR_sub hlow List.filter_sublist) he⟩, fun k e he => ?_, fun k hk => find_at (f1 k hk).1, fun k hk => find_at (f2 k hk).1, ?_⟩
  · have := (List.mem_filter.1 (List.mem_of_getElem? he)).2
    simpa [isMsg] using this
  · have := (List.mem_filter.1 (List.mem_of_getElem? he)).2
    simpa [isCtl] using this
  · obtain ⟨b1, b2, _⟩ := f2 _ (Nat.le_refl _)
    rw [← msg_not, ← msg_not, a1, List.drop_length] at b2
    rw [List.drop_length] at b1
    generalize popAll (l.L.filter isCtl) X (l.L.filter isCtl).length = Y at b1 b2
    cases Y with
    | nil => rfl
    | cons y r =>
      exfalso
      rw [List.filter_cons] at b1 b2
      by_cases h : y.Kind = 1
      · simp [isMsg, h] at b2
      · simp [isCtl, h] at b1
end Go.Proofs.Ytogappokeheilaa
