import Derived.Test.YtogappokeheilaaB18
set_option linter.unusedVariables false
set_option linter.unusedSimpArgs false
set_option maxRecDepth 100000
set_option maxHeartbeats 0
namespace Go.Proofs.Ytogappokeheilaa
open Go.Aw

theorem last_eq {l : Lane} (h : ¬ 0 < l.Part.Got) : lastF l = endFrom 0 l.L := by
  unfold lastF endFrom; rw [if_neg h]; rfl
theorem may_msg {s : Int} {b : List UInt8} (h : 1 ≤ s) : mayF ⟨1, s, b, [], false⟩ = true := by
  simp [mayF, inR, h]
theorem addF_ok {p : Part} {seq index total : Int} {piece : List UInt8} (hc : ¬ (total < 1 ∨ 32 < total ∨ index ≠ p.Got ∨ (p.Got ≠ 0 ∧ total ≠ p.Total))) :
    addF p seq index total piece = if (if p.Got = 0 then 1 else IntKind.i64.wrap (p.Got + 1)) = total then (⟨0, 0, 0, []⟩, if p.Got = 0 then piece else p.B ++ piece, true, 0)
      else (⟨if p.Got = 0 then seq else p.Seq, total, if p.Got = 0 then 1 else IntKind.i64.wrap (p.Got + 1), if p.Got = 0 then piece else p.B ++ piece⟩, [], false, 0) := by
  unfold addF; rw [if_neg hc]
theorem right_read {l : Lane} {t : Aw.Item} (hr : rightF l = true) (hm : mayI t = true) :
    rightF (readF l t).1 = true ∧ ((readF l t).2 ≠ 0 → (readF l t).1 = l) ∧ ((readF l t).1.L = l.L ∨ ∃ e, (readF l t).1.L = l.L ++ [e]) := by
  obtain ⟨hlow, hpart⟩ := (right_iff l).1 hr
  have hnn := (end_ge hlow).1
  have hs1 := may_seq hm
  have same : ∀ c, rightF (l, c).1 = true ∧ ((l, c).2 ≠ (0 : Int) → (l, c).1 = l) ∧ ((l, c).1.L = l.L ∨ ∃ e, (l, c).1.L = l.L ++ [e]) := fun c => ⟨hr, fun _ => rfl, .inl rfl⟩
  unfold readF
  by_cases hk0 : t.Kind < 1 ∨ 3 < t.Kind
  · rw [if_pos hk0]; exact same 1
  rw [if_neg hk0]
  by_cases hseq : t.Seq ≤ lastF l
  · rw [if_pos hseq]; exact same 2
  rw [if_neg hseq]
  by_cases hk1 : t.Kind = 1
  · rw [if_pos hk1]
    by_cases hc : t.Total < 1 ∨ 32 < t.Total ∨ t.Index ≠ l.Part.Got ∨ (l.Part.Got ≠ 0 ∧ t.Total ≠ l.Part.Total)
    · have hR : addF l.Part t.Seq t.Index t.Total t.Body = (l.Part, [], false, 2) := by unfold addF; rw [if_pos hc]
      rw [hR]; exact same 2
    · have hR := addF_ok (seq := t.Seq) (piece := t.Body) hc
      have hpg : (l.Part = ⟨0, 0, 0, []⟩ ∧ l.Part.Got = 0) ∨ (0 < l.Part.Got ∧ l.Part.Got < l.Part.Total ∧ l.Part.Total ≤ 32 ∧ endFrom 0 l.L < l.Part.Seq) := by
        rcases hpart with h | h
        · exact .inl ⟨h, by rw [h]⟩
        · exact .inr h
      have hsq : endFrom 0 l.L < (if 0 < l.Part.Got then l.Part.Seq else t.Seq) := by
        rcases hpg with ⟨_, h⟩ | h
        · rw [if_neg (by omega)]
          have := last_eq (l := l) (by omega)
          omega
        · rw [if_pos h.1]; exact h.2.2.2
      by_cases hne : (if l.Part.Got = 0 then 1 else IntKind.i64.wrap (l.Part.Got + 1)) = t.Total
      · rw [if_pos hne] at hR
        rw [hR]
        refine ⟨(right_iff _).2 ⟨?_, .inl rfl⟩, fun h => absurd rfl h, .inr ⟨_, rfl⟩⟩
        show lowR 0 (l.L ++ [_]) = true
        rw [lowR_snoc, hlow, may_msg (by omega), decide_eq_true hsq]; rfl
      · rw [if_neg hne] at hR
        rw [hR]
        refine ⟨(right_iff _).2 ⟨hlow, .inr ?_⟩, fun h => absurd rfl h, .inl rfl⟩
        rcases hpg with ⟨_, h⟩ | ⟨h1, h2, h3, h4⟩
        · rw [if_neg (by omega)] at hsq
          rw [if_pos h] at hne
          show 0 < (if l.Part.Got = 0 then 1 else IntKind.i64.wrap (l.Part.Got + 1)) ∧ (if l.Part.Got = 0 then 1 else IntKind.i64.wrap (l.Part.Got + 1)) < t.Total ∧ t.Total ≤ 32 ∧ endFrom 0 l.L < (if l.Part.Got = 0 then t.Seq else l.Part.Seq)
          rw [if_pos h, if_pos h]
          refine ⟨by omega, by omega, by omega, hsq⟩
        · rw [if_pos h1] at hsq
          have hg : l.Part.Got ≠ 0 := by omega
          have hw : IntKind.i64.wrap (l.Part.Got + 1) = l.Part.Got + 1 := wrapI (by omega) (by omega)
          rw [if_neg hg, hw] at hne
          show 0 < (if l.Part.Got = 0 then 1 else IntKind.i64.wrap (l.Part.Got + 1)) ∧ (if l.Part.Got = 0 then 1 else IntKind.i64.wrap (l.Part.Got + 1)) < t.Total ∧ t.Total ≤ 32 ∧ endFrom 0 l.L < (if l.Part.Got = 0 then t.Seq else l.Part.Seq)
          rw [if_neg hg, if_neg hg, hw]
          refine ⟨by omega, by omega, by omega, hsq⟩
  · rw [if_neg hk1]
    by_cases hgot : 0 < l.Part.Got
    · rw [if_pos hgot]; exact same 2
    · rw [if_neg hgot]
      have hle := last_eq hgot
      refine ⟨(right_iff _).2 ⟨?_, ?_⟩, fun h => absurd rfl h, .inr ⟨_, rfl⟩⟩
      · rw [lowR_snoc, hlow, decide_eq_true (show endFrom 0 l.L < t.Seq by omega)]
        by_cases hk2 : t.Kind = 2
        · have hio := may_order hm hk2
          simp [mayF, hk2, hio, hs1]
        · have hk3 : t.Kind = 3 := by omega
          simp [mayF, hk3, hs1, inR]
      · rcases hpart with h | h
        · exact .inl h
        · omega
theorem right_pop {l : Lane} {n : Int} (hr : rightF l = true) : rightF (popF l n) = true := by
  obtain ⟨hlow, hpart⟩ := (right_iff l).1 hr
  obtain ⟨h1, h2⟩ := lowR_all hlow
  obtain ⟨h3, h4⟩ := end_ge hlow
  have hpop : popN n l.L l.L.length = l.L.filter (fun e => !seqP n e) := by unfold popN; rw [List.take_length]
  refine (right_iff _).2 ⟨?_, ?_⟩
  · show lowR 0 (popN n l.L l.L.length) = true
    rw [hpop]
    exact lowR_of (List.Pairwise.sublist (List.Sublist.map _ List.filter_sublist) h1) fun x hx => h2 x ((List.mem_filter.1 hx).1)
  · rcases hpart with h | ⟨p1, p2, p3, p4⟩
    · exact .inl h
    · refine .inr ⟨p1, p2, p3, ?_⟩
      show endFrom 0 (popN n l.L l.L.length) < l.Part.Seq
      rw [hpop]
      rcases end_mem 0 (l.L.filter (fun e => !seqP n e)) with h | ⟨x, hx, h⟩
      · rw [h]; omega
      · rw [h]
        have := h4 x ((List.mem_filter.1 hx).1)
        omega
theorem set_seqs (e : Entry) (l : List Entry) : (l.map (fun x => if seqP e.Seq x then e else x)).map (·.Seq) = l.map (·.Seq) := by
  rw [List.map_map]
  apply List.map_congr_left
  intro x _
  by_cases h : seqP e.Seq x = true
  · have : x.Seq = e.Seq := by simpa [seqP] using h
    simp [h, this]
  · simp [h]
theorem right_set {l : Lane} {e : Entry} (hr : rightF l = true) : rightF (setF l e) = true := by
  obtain ⟨hlow, hpart⟩ := (right_iff l).1 hr
  obtain ⟨h1, h2⟩ := lowR_all hlow
  unfold setF
  cases hm : mayF e with
  | false => exact hr
  | true =>
    simp only [if_true]
    rw [setN_all]
    refine (right_iff _).2 ⟨?_, ?_⟩
    · refine lowR_of (by rw [set_seqs]; exact h1) fun x hx => ?_
      obtain ⟨y, hy, rfl⟩ := List.mem_map.1 hx
      have h := h2 y hy
      by_cases hq : seqP e.Seq y = true
      · have : y.Seq = e.Seq := by simpa [seqP] using hq
        rw [if_pos hq]; exact ⟨by omega, hm⟩
      · rw [if_neg hq]; exact h
    · rcases hpart with h | ⟨p1, p2, p3, p4⟩
      · exact .inl h
      · refine .inr ⟨p1, p2, p3, ?_⟩
        rw [end_map] at p4 ⊢
        rw [set_seqs]; exact p4
theorem set_len (l : Lane) (e : Entry) : (setF l e).L.length = l.L.length := by
  unfold setF
  split
  · rw [setN_all, List.length_map]
  · rfl
theorem set_get {l : Lane} {e x : Entry} {k : Nat} (hx : l.L[k]? = some x) (hs : x.Seq ≠ e.Seq) : (setF l e).L[k]? = some x := by
  unfold setF
  split
  · simp only
    rw [setN_all, List.getElem?_map, hx]
    have : seqP e.Seq x = false := decide_eq_false hs
    simp [this]
  · exact hx
theorem pop_get {seq : Int} {l : List Entry} {k : Nat} {x : Entry} (hx : l[k]? = some x) (hs : seqP seq x = false) : (popN seq l l.length)[(popN seq l k).length]? = some x := by
  have hk := (List.getElem?_eq_some_iff.1 hx).1
  have hx2 := (List.getElem?_eq_some_iff.1 hx).2
  have h : popN seq l l.length = popN seq l k ++ (l.drop k).filter (fun e => !seqP seq e) := by
    unfold popN
    rw [List.take_length, ← List.filter_append, List.take_append_drop]
  rw [h, List.getElem?_append_right (Nat.le_refl _), Nat.sub_self, List.drop_eq_getElem_cons hk, hx2, List.filter_cons, hs]
  rfl
theorem cut_one {l : List Entry} {k : Nat} {x : Entry} (hx : l[k]? = some x) : List.drop k (List.take (k + 1) (l.map entP)) = [entP x] := by
  have hk := (List.getElem?_eq_some_iff.1 hx).1
  have hx2 := (List.getElem?_eq_some_iff.1 hx).2
  rw [List.take_add_one, List.drop_append_of_le_length (by rw [List.length_take, List.length_map]; omega), List.drop_of_length_le (by rw [List.length_take, List.length_map]; omega), List.getElem?_map, hx]
  rfl
end Go.Proofs.Ytogappokeheilaa
