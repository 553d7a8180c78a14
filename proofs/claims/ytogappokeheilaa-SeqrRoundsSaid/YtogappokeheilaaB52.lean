import Derived.Test.YtogappokeheilaaB34
set_option linter.unusedVariables false
set_option linter.unusedSimpArgs false
set_option maxRecDepth 100000
set_option maxHeartbeats 0
namespace Go.Proofs.Ytogappokeheilaa
open Go.Aw

/-! What a walk keeps: each member's messages, in order. -/
def msgB (l : List Entry) : List (List UInt8) := (l.filter isMsg).map (·.B)
abbrev frmP (i : Nat) (d : Deliv) : Bool := decide (d.From = (i : Int))
def outB (o : List Deliv) (i : Nat) : List (List UInt8) := (o.filter (frmP i)).map (·.B)
theorem msgB_len (l : List Entry) : (msgB l).length = manyL l := by simp [msgB, manyL]
theorem ctl_nm {e : Entry} (h : isCtl e = true) : isMsg e = false := by
  have : e.Kind ≠ 1 := by simpa [isCtl] using h
  exact decide_eq_false this
theorem filt_get {α β : Type} {p : α → Bool} {f : α → β} {l : List α} {k : Nat} {e : α} (hk : l[k]? = some e) (hp : p e = true) : ((l.filter p).map f)[((l.take k).filter p).length]? = some (f e) := by
  have key : ∀ pre post : List α, (((pre ++ e :: post).filter p).map f)[(pre.filter p).length]? = some (f e) := fun pre post => by
    simp [List.filter_append, hp]
  have hlt := (List.getElem?_eq_some_iff.1 hk).1
  have hd : l = l.take k ++ e :: l.drop (k + 1) := by
    have h1 := List.take_append_drop k l
    rw [List.drop_eq_getElem_cons hlt] at h1
    have h2 := (List.getElem?_eq_some_iff.1 hk).2
    rw [h2] at h1
    exact h1.symm
  have := key (l.take k) (l.drop (k + 1))
  rwa [← hd] at this
theorem filt_succ {α : Type} {p : α → Bool} {l : List α} {k : Nat} {e : α} (hk : l[k]? = some e) : ((l.take (k + 1)).filter p).length = ((l.take k).filter p).length + if p e = true then 1 else 0 := by
  rw [List.take_add_one, hk, List.filter_append, List.length_append]
  by_cases h : p e = true <;> simp [h]
theorem msgB_popC {l : List Entry} {e : Entry} (hp : (l.map (·.Seq)).Pairwise (· < ·)) (he : e ∈ l) (hc : isCtl e = true) : msgB (popN e.Seq l l.length) = msgB l := by
  rw [popN_all]
  unfold msgB
  rw [List.filter_filter]
  congr 1
  refine List.filter_congr fun x hx => ?_
  by_cases hs : seqP e.Seq x = true
  · have := seq_inj hp x hx e he (of_decide_eq_true hs)
    rw [this, ctl_nm hc]; simp
  · simp [hs]
theorem msgB_popM : ∀ {l : List Entry} {m : Entry}, (l.map (·.Seq)).Pairwise (· < ·) → findF isMsg l = (m, true) → msgB l = m.B :: msgB (popN m.Seq l l.length)
  | [], m, _, h => by simp [findF] at h
  | e :: r, m, hp, h => by
    rw [popN_all]
    rw [List.map_cons, List.pairwise_cons] at hp
    have h1 := find_some h
    by_cases he : isMsg e = true
    · have hm : e = m := by simpa [List.find?_cons, he] using h1
      subst hm
      have hk : r.filter (fun x => !seqP e.Seq x) = r := List.filter_eq_self.2 fun x hx => by
        have := hp.1 x.Seq (List.mem_map.2 ⟨x, hx, rfl⟩)
        have hn : ¬ x.Seq = e.Seq := by omega
        simp [seqP, hn]
      have hn : (!seqP e.Seq e) = false := by simp [seqP]
      rw [List.filter_cons_of_neg (by rw [hn]; simp), hk]
      simp [msgB, he]
    · have h2 : r.find? isMsg = some m := by simpa [List.find?_cons, he] using h1
      have ih := msgB_popM hp.2 (show findF isMsg r = (m, true) by unfold findF; rw [h2])
      have hmr : m ∈ r := List.mem_of_find?_eq_some h2
      have hne : seqP m.Seq e = false := decide_eq_false (by have := hp.1 m.Seq (List.mem_map.2 ⟨m, hmr, rfl⟩); omega)
      rw [popN_all] at ih
      rw [List.filter_cons_of_pos (by simp [hne])]
      unfold msgB at *
      rw [List.filter_cons_of_neg he, List.filter_cons_of_neg he, ih]
theorem msgB_map {q : Entry → Bool} {e' : Entry} (hc : isMsg e' = false) : ∀ {l : List Entry}, (∀ x ∈ l, q x = true → isMsg x = false) → msgB (l.map fun x => if q x then e' else x) = msgB l
  | [], _ => rfl
  | y :: r, h => by
    have ih := msgB_map hc (q := q) (l := r) fun x hx => h x (by simp [hx])
    unfold msgB at *
    rw [List.map_cons]
    by_cases hy : q y = true
    · have := h y (by simp) hy
      rw [if_pos hy, List.filter_cons_of_neg (by rw [hc]; simp), List.filter_cons_of_neg (by rw [this]; simp), ih]
    · rw [if_neg hy]
      by_cases hm : isMsg y = true
      · rw [List.filter_cons_of_pos hm, List.filter_cons_of_pos hm, List.map_cons, List.map_cons, ih]
      · rw [List.filter_cons_of_neg hm, List.filter_cons_of_neg hm, ih]
theorem msgB_setF {ln : Lane} {e' : Entry} (hc : isMsg e' = false) (h : ∀ x ∈ ln.L, x.Seq = e'.Seq → isMsg x = false) : msgB (setF ln e').L = msgB ln.L := by
  unfold setF
  split
  · show msgB (setN e' ln.L ln.L.length) = _
    rw [setN_all]
    exact msgB_map hc fun x hx hq => h x hx (of_decide_eq_true hq)
  · rfl
theorem outB_app (o : List Deliv) (d : Deliv) (i : Nat) : outB (o ++ [d]) i = outB o i ++ if d.From = (i : Int) then [d.B] else [] := by
  unfold outB; rw [List.filter_append, List.map_append]
  congr 1
  by_cases h : d.From = (i : Int) <;> simp [h, frmP]
theorem few_sub {ln : Lane} {L : List Entry} (h : fewF ln = true) (hs : ∀ x ∈ L, x ∈ ln.L) (hl : L.length ≤ ln.L.length) : fewF ⟨L, ln.Part⟩ = true := by
  unfold fewF at *
  simp only [Bool.and_eq_true, decide_eq_true_eq, List.all_eq_true] at *
  exact ⟨⟨by omega, h.1.2⟩, fun x hx => h.2 x (hs x hx)⟩
theorem few_pop {ln : Lane} {n : Int} (h : fewF ln = true) : fewF (popF ln n) = true :=
  few_sub h (fun x hx => by rw [popN_all] at hx; exact (List.mem_filter.1 hx).1) (popN_le _ _ _)
theorem few_set {ln : Lane} {e' : Entry} (h : fewF ln = true) (h1 : e'.L.length ≤ 80) (h2 : e'.B.length ≤ 40000) : fewF (setF ln e') = true := by
  unfold setF
  split
  · unfold fewF at *
    simp only [Bool.and_eq_true, decide_eq_true_eq, List.all_eq_true] at *
    refine ⟨⟨by have := setN_len e' ln.L ln.L.length; omega, h.1.2⟩, fun x hx => ?_⟩
    rw [setN_all] at hx
    obtain ⟨y, hy, rfl⟩ := List.mem_map.1 hx
    split
    · exact ⟨h1, h2⟩
    · exact h.2 y hy
  · exact h
theorem set_part (ln : Lane) (e' : Entry) : (setF ln e').Part = ln.Part := by unfold setF; split <;> rfl
theorem setL_get {x : List Lane} {w i : Nat} {b ls : Lane} (h : (x.set w b)[i]? = some ls) : (i = w ∧ ls = b) ∨ (i ≠ w ∧ x[i]? = some ls) := by
  by_cases hi : w = i
  · subst hi
    have := (List.getElem?_eq_some_iff.1 h).1
    rw [List.length_set] at this
    rw [List.getElem?_set_self this] at h
    exact .inl ⟨rfl, (Option.some.inj h).symm⟩
  · rw [List.getElem?_set_ne hi] at h
    exact .inr ⟨fun hh => hi hh.symm, h⟩
/-- What stays true of a walk from lanes l on. -/
structure KInv (l : List Lane) (s : WS) : Prop where
  len : s.x.length = l.length
  get : ∀ (i : Nat) (ln ls : Lane), l[i]? = some ln → s.x[i]? = some ls → msgB ln.L = outB s.o i ++ msgB ls.L
  frm : ∀ d ∈ s.o, ∃ c : Nat, d.From = c ∧ c < l.length
  sub : ∀ (i : Nat) (ln ls : Lane), l[i]? = some ln → s.x[i]? = some ls → ls.L.length ≤ ln.L.length ∧ ls.Part = ln.Part
theorem kinv_start (t : Turn) (l : List Lane) : KInv l ⟨t, l, []⟩ where
  len := rfl
  get i ln ls h1 h2 := by
    simp only at h2
    rw [h1] at h2; cases h2; rfl
  frm d hd := by cases hd
  sub i ln ls h1 h2 := by
    simp only at h2
    rw [h1] at h2; cases h2; exact ⟨Nat.le_refl _, rfl⟩
theorem kinv_tok {l : List Lane} {s s' : WS} {n : Nat} (hi : WInv n s) (k : KInv l s) (hn : wNext s = some s') : KInv l s' := by
  obtain ⟨w, p, e, r, hw, hwn, hx, rfl, _⟩ := wnext_some hi hn
  have hl := k.len
  have hil := hi.len
  refine ⟨by simp only [List.length_set]; exact k.len, fun i ln ls h1 h2 => ?_, fun d hd => ?_, fun i ln ls h1 h2 => ?_⟩
  · simp only at h2 ⊢
    have hout : outB (outN s.t s.o e) i = outB s.o i ++ if isMsg e = true ∧ w = i then [e.B] else [] := by
      unfold outN
      by_cases he : e.Kind = 1
      · have hm : isMsg e = true := decide_eq_true he
        rw [if_pos he, outB_app]
        congr 1
        simp only [hw, hm, true_and]
        by_cases hwi : w = i
        · rw [if_pos (by omega), if_pos hwi]
        · rw [if_neg (by omega), if_neg hwi]
      · have hm : isMsg e = false := decide_eq_false he
        rw [if_neg he, hm]; simp
    rw [hout]
    rcases setL_get h2 with ⟨rfl, rfl⟩ | ⟨hne, h2⟩
    · rw [k.get i ln _ h1 hx]
      by_cases he : isMsg e = true
      · simp [msgB, he]
      · simp [msgB, he]
    · rw [k.get i ln ls h1 h2, if_neg (fun hh => hne hh.2.symm)]; simp
  · simp only [outN] at hd
    split at hd
    · rcases List.mem_append.1 hd with h | h
      · exact k.frm d h
      · simp at h; subst h; exact ⟨w, hw, by omega⟩
    · exact k.frm d hd
  · simp only at h2
    rcases setL_get h2 with ⟨rfl, rfl⟩ | ⟨hne, h2⟩
    · have := k.sub i ln _ h1 hx
      simp at this ⊢
      exact ⟨by omega, this.2⟩
    · exact k.sub i ln ls h1 h2
theorem kinv_seq {l : List Lane} {s s' : WS} {n : Nat} (hi : QInv n s) (k : KInv l s) (hs : QStep s s') : KInv l s' := by
  have hl := k.len
  have hil := hi.len
  cases hs with
  | pop w ln e hw hx hf hk =>
    obtain ⟨hr, _⟩ := hi.ok ln (List.mem_of_getElem? hx)
    obtain ⟨h1, h2, h3, h4⟩ := ctl_facts hr hf
    have hp := (lowR_all ((right_iff ln).1 hr).1).1
    have hc : isCtl e = true := List.find?_some (find_some hf)
    refine ⟨by show (s.x.set _ _).length = _; rw [List.length_set]; exact k.len, fun i a b ha hb => ?_, k.frm, fun i a b ha hb => ?_⟩
    · rcases setL_get hb with ⟨rfl, rfl⟩ | ⟨hne, hb⟩
      · show msgB a.L = outB s.o i ++ msgB (popN e.Seq ln.L ln.L.length)
        rw [msgB_popC hp h1 hc]
        exact k.get i a ln ha hx
      · exact k.get i a b ha hb
    · rcases setL_get hb with ⟨rfl, rfl⟩ | ⟨hne, hb⟩
      · have := k.sub i a ln ha hx
        exact ⟨Nat.le_trans (popN_le _ _ _) this.1, this.2⟩
      · exact k.sub i a b ha hb
  | skip w c ln e r hw hx hf hk hl hc =>
    obtain ⟨hr, _⟩ := hi.ok ln (List.mem_of_getElem? hx)
    obtain ⟨h1, h2, h3, h4⟩ := ctl_facts hr hf
    have hp := (lowR_all ((right_iff ln).1 hr).1).1
    have hct : isCtl e = true := List.find?_some (find_some hf)
    refine ⟨by show (s.x.set _ _).length = _; rw [List.length_set]; exact k.len, fun i a b ha hb => ?_, k.frm, fun i a b ha hb => ?_⟩
    · rcases setL_get hb with ⟨rfl, rfl⟩ | ⟨hne, hb⟩
      · show msgB a.L = outB s.o i ++ msgB (setF ln (tailE e)).L
        rw [msgB_setF rfl fun x hx' hq => by rw [seq_inj hp x hx' e h1 hq]; exact ctl_nm hct]
        exact k.get i a ln ha hx
      · exact k.get i a b ha hb
    · rcases setL_get hb with ⟨rfl, rfl⟩ | ⟨hne, hb⟩
      · have := k.sub i a ln ha hx
        rw [set_len, set_part]; exact this
      · exact k.sub i a b ha hb
  | tell w c ln lc lw m e r hw hx hf hk hl hc hm hw2 =>
    obtain ⟨hr, _⟩ := hi.ok ln (List.mem_of_getElem? hx)
    obtain ⟨hrc, _⟩ := hi.ok lc (List.mem_of_getElem? hc)
    obtain ⟨h1, h2, h3, h4⟩ := ctl_facts hr hf
    have hp := (lowR_all ((right_iff ln).1 hr).1).1
    have hpc := (lowR_all ((right_iff lc).1 hrc).1).1
    have hct : isCtl e = true := List.find?_some (find_some hf)
    have hsub : ∀ x ∈ lw.L, x ∈ ln.L := by
      rcases setL_get hw2 with ⟨rfl, rfl⟩ | ⟨hne, hw2⟩
      · rw [hx] at hc; cases hc
        intro x hx'
        have hx'' : x ∈ popN m.Seq ln.L ln.L.length := hx'
        rw [popN_all] at hx''
        exact (List.mem_filter.1 hx'').1
      · rw [hx] at hw2; cases hw2
        exact fun x h => h
    have hset : msgB (setF lw (tailE e)).L = msgB lw.L := msgB_setF rfl fun x hx' hq => by rw [seq_inj hp x (hsub x hx') e h1 hq]; exact ctl_nm hct
    have hcl := (List.getElem?_eq_some_iff.1 hc).1
    have hpm := msgB_popM hpc hm
    -- ahead of the set
    have mid : ∀ (i : Nat) (a b : Lane), l[i]? = some a → (s.x.set c (popF lc m.Seq))[i]? = some b → (msgB a.L = outB (s.o ++ [⟨c, m.B⟩]) i ++ msgB b.L) ∧ b.L.length ≤ a.L.length ∧ b.Part = a.Part := fun i a b ha hb => by
      rw [outB_app]
      rcases setL_get hb with ⟨rfl, rfl⟩ | ⟨hne, hb⟩
      · have hg := k.get i a lc ha hc
        have hsb := k.sub i a lc ha hc
        refine ⟨?_, Nat.le_trans (popN_le _ _ _) hsb.1, hsb.2⟩
        rw [if_pos rfl, hg, hpm, List.append_assoc]; rfl
      · refine ⟨?_, k.sub i a b ha hb⟩
        rw [if_neg (fun hh => hne (by simp only at hh; omega)), List.append_nil]
        exact k.get i a b ha hb
    refine ⟨by show ((s.x.set _ _).set _ _).length = _; rw [List.length_set, List.length_set]; exact k.len, fun i a b ha hb => ?_, fun d hd => ?_, fun i a b ha hb => ?_⟩
    · rcases setL_get hb with ⟨rfl, rfl⟩ | ⟨hne, hb⟩
      · rw [hset]; exact (mid i a lw ha hw2).1
      · exact (mid i a b ha hb).1
    · rcases List.mem_append.1 hd with h | h
      · exact k.frm d h
      · simp at h; subst h; exact ⟨c, rfl, by omega⟩
    · rcases setL_get hb with ⟨rfl, rfl⟩ | ⟨hne, hb⟩
      · rw [set_len, set_part]; exact (mid i a lw ha hw2).2
      · exact (mid i a b ha hb).2
theorem kinv_walkS {l : List Lane} {s : WS} {n : Nat} (hi : WInv n s) (k : KInv l s) : ∀ j, KInv l (walkS s j)
  | 0 => k
  | j + 1 => by
    have ih := kinv_walkS hi k j
    rw [walkS]
    cases hq : wNext (walkS s j) with
    | none => exact ih
    | some s' => exact kinv_tok (walkS_inv hi j) ih hq
theorem kinv_walkQ {l : List Lane} {s : WS} {n : Nat} (hi : QInv n s) (k : KInv l s) : ∀ j, KInv l (walkQ s j)
  | 0 => k
  | j + 1 => by
    have ih := kinv_walkQ hi k j
    rw [walkQ]
    rcases qnext_cases (walkQ_inv hi j) with ⟨s', h1, h2⟩ | ⟨h1, _⟩
    · rw [h1]; exact kinv_seq (walkQ_inv hi j) ih h2
    · rw [h1]; exact ih
theorem few_walkQ {s : WS} {n : Nat} (hi : QInv n s) (h : ∀ x ∈ s.x, fewF x = true) : ∀ j, ∀ x ∈ (walkQ s j).x, fewF x = true
  | 0 => h
  | j + 1 => by
    have ih := few_walkQ hi h j
    have hI := walkQ_inv hi j
    rw [walkQ]
    rcases qnext_cases hI with ⟨s', h1, h2⟩ | ⟨h1, _⟩
    · rw [h1]
      simp only [Option.getD_some]
      have ht : ∀ (ln : Lane) (e : Entry), ln ∈ (walkQ s j).x → findF isCtl ln.L = (e, true) → (tailE e).L.length ≤ 80 ∧ (tailE e).B.length ≤ 40000 := fun ln e hm hf => by
        have hfw := ih ln hm
        have hmem := List.mem_of_find?_eq_some (find_some hf)
        unfold fewF at hfw
        simp only [Bool.and_eq_true, decide_eq_true_eq, List.all_eq_true] at hfw
        have := (hfw.2 e hmem).1
        unfold tailE
        simp
        omega
      generalize hS : walkQ s j = u at *
      cases h2 with
      | pop w ln e hw hx hf hk => exact okset ih (few_pop (ih ln (List.mem_of_getElem? hx)))
      | skip w c ln e r hw hx hf hk hl hc =>
        have hm := List.mem_of_getElem? hx
        exact okset ih (few_set (ih ln hm) (ht ln e hm hf).1 (ht ln e hm hf).2)
      | tell w c ln lc lw m e r hw hx hf hk hl hc hm hw2 =>
        have hm' := List.mem_of_getElem? hx
        have ok1 := okset (i := c) ih (few_pop (n := m.Seq) (ih lc (List.mem_of_getElem? hc)))
        exact okset ok1 (few_set (ok1 lw (List.mem_of_getElem? hw2)) (ht ln e hm' hf).1 (ht ln e hm' hf).2)
    · rw [h1]; exact ih
/-- A walk stops. -/
theorem walkQ_done {s : WS} {n : Nat} (hi : QInv n s) : qNext (walkQ s (mu s.x)) = none := by
  have key : ∀ k, qNext (walkQ s k) = none ∨ mu (walkQ s k).x + k ≤ mu s.x := fun k => by
    induction k with
    | zero => exact .inr (Nat.le_refl _)
    | succ k ih =>
      rcases ih with ih | ih
      · left; rw [walkQ, ih]; exact ih
      · rcases qnext_cases (walkQ_inv hi k) with ⟨s', h1, h2⟩ | ⟨h1, _⟩
        · right
          have := (qstep_inv (walkQ_inv hi k) h2).2
          rw [walkQ, h1]; simp only [Option.getD_some]; omega
        · left; rw [walkQ, h1]; exact h1
  rcases key (mu s.x) with h | h
  · exact h
  · rcases qnext_cases (walkQ_inv hi (mu s.x)) with ⟨s', h1, h2⟩ | ⟨h1, _⟩
    · have := (qstep_inv (walkQ_inv hi (mu s.x)) h2).2; omega
    · exact h1
theorem qNext_out {t : Turn} {x : List Lane} {o o' : List Deliv} (h : qNext ⟨t, x, o⟩ = none) : qNext ⟨t, x, o'⟩ = none := by
  unfold qNext at *
  simp only at *
  split
  · rfl
  · rename_i ln hx
    rw [hx] at h
    simp only at h
    split
    · rfl
    · rename_i h1
      rw [if_neg h1] at h
      split
      · rename_i h2; rw [if_pos h2] at h; cases h
      · rename_i h2
        rw [if_neg h2] at h
        split
        · rename_i hc; rw [hc] at h; cases h
        · rename_i lc hc
          rw [hc] at h
          simp only at h
          split
          · rfl
          · rename_i h3
            rw [if_neg h3] at h
            split
            · rfl
            · rename_i lw hw; rw [hw] at h; cases h
theorem walkQ_none {s : WS} (h : qNext s = none) : ∀ k, walkQ s k = s
  | 0 => rfl
  | k + 1 => by rw [walkQ, walkQ_none h k, h]; rfl
theorem walkG_again {t : Turn} {l : List Lane} (hi : QInv l.length ⟨t, l, []⟩) : walkG (walkG t l).t (walkG t l).x = ⟨(walkG t l).t, (walkG t l).x, []⟩ := by
  have h := walkQ_done hi
  show walkQ ⟨(walkG t l).t, (walkG t l).x, []⟩ _ = _
  refine walkQ_none (qNext_out (o := (walkG t l).o) ?_) _
  exact h
theorem walkS_done {s : WS} {n : Nat} (hi : WInv n s) : wNext (walkS s (tot s.x)) = none := by
  have key : ∀ k, wNext (walkS s k) = none ∨ tot (walkS s k).x + k ≤ tot s.x := fun k => by
    induction k with
    | zero => exact .inr (Nat.le_refl _)
    | succ k ih =>
      rcases ih with ih | ih
      · left; rw [walkS, ih]; exact ih
      · cases h1 : wNext (walkS s k) with
        | none => left; rw [walkS, h1]; exact h1
        | some s' =>
          right
          obtain ⟨_, _, _, _, _, _, _, _, ht⟩ := wnext_some (walkS_inv hi k) h1
          rw [walkS, h1]; simp only [Option.getD_some]; omega
  rcases key (tot s.x) with h | h
  · exact h
  · cases h1 : wNext (walkS s (tot s.x)) with
    | none => rfl
    | some s' =>
      obtain ⟨_, _, _, _, _, _, _, _, ht⟩ := wnext_some (walkS_inv hi _) h1
      omega
/-- A turn and lanes behind a walk may be, but for how much was used. -/
theorem may_walk {t : Turn} {l : List Lane} (hm : mayT t l = true) : mayT (walkG t l).t (walkG t l).x = decide ((walkG t l).t.Used ≤ 1152921504606846976) := by
  have hi := qinv_start hm
  obtain ⟨_, hn2, hn64⟩ := winv_start hm
  have hI := walkQ_inv hi (mu l)
  have hfew : ∀ x ∈ l, fewF x = true := fun x hx => by
    unfold mayT lanesF at hm
    simp only [Bool.and_eq_true, List.all_eq_true] at hm
    have := hm.1.2 x hx
    unfold goodL at this
    rw [Bool.and_eq_true] at this
    exact this.1
  have hF := few_walkQ hi hfew (mu l)
  have e : walkQ ⟨t, l, []⟩ (mu l) = walkG t l := rfl
  rw [e] at hI hF
  have h1 := hI.len
  have h2 := hI.lo
  have h3 := hI.hi
  have h4 := hI.used
  unfold mayT lanesF
  have hall : (walkG t l).x.all goodL = true := List.all_eq_true.2 fun x hx => by
    unfold goodL; rw [hF x hx, (hI.ok x hx).1]; rfl
  rw [hall, decide_eq_true (show ((walkG t l).x.length : Int) ≤ 64 by omega), Bool.true_and, Bool.true_and]
  congr 1
  apply propext
  constructor
  · exact fun h => h.2.2.2.2
  · exact fun h => ⟨by omega, by omega, by omega, by omega, h⟩
end Go.Proofs.Ytogappokeheilaa
