import Derived.Test.YtnibihjlclelgaaT
import Derived.Test.YtnibihjlclelgaaAw31
set_option linter.unusedVariables false
set_option linter.unusedSimpArgs false
set_option maxRecDepth 100000
namespace Go.Aw

/-! The automaton, in plain Lean. -/
structure SpecS where
  Acc : List (List (List UInt8))
  Seq : List Deliv
  At : List Int
  deriving DecidableEq
structure Ev where
  Deliver : Bool
  Who : Int
  From : Int
  B : List UInt8
  deriving DecidableEq
def rowsP (r : List (List UInt8)) : List PV := [.sl false (r.map bytesP)]
def specP (s : SpecS) : List PV := [.sl false (s.Acc.map rowsP), .sl false (s.Seq.map delivP), isP s.At]
def evP (e : Ev) : List PV := [.bool e.Deliver, .int .i64 e.Who, .int .i64 e.From, bsP e.B]
attribute [go_sem] rowsP specP evP
@[go_sem] theorem allLen_rowsP (l : List (List (List UInt8))) : allLen 1 (l.map rowsP) = True := by simp only [eq_iff_iff, iff_true]; exact allLen_map fun _ => rfl
@[go_sem] theorem allLen_evP (l : List Ev) : allLen 4 (l.map evP) = True := by simp only [eq_iff_iff, iff_true]; exact allLen_map fun _ => rfl
def frmS (f : Int) (d : Deliv) : Bool := decide (d.From = f)
def ofF (q : List Deliv) (f : Int) : List (List UInt8) := (q.filter (frmS f)).map (·.B)
def okAt (s : SpecS) (i : Nat) : Bool := decide (0 ≤ s.At.getD i 0 ∧ s.At.getD i 0 ≤ s.Seq.length) && (ofF s.Seq i).isPrefixOf (s.Acc.getD i [])
def memF (s : SpecS) (d : Deliv) : Bool := decide (0 ≤ d.From ∧ d.From < s.Acc.length)
def rightS (s : SpecS) : Bool := decide (s.Acc.length = s.At.length ∧ s.Acc.length ≤ 64) && s.Seq.all (memF s) && (List.range s.Acc.length).all (okAt s)
def newS (n : Nat) : SpecS := ⟨List.replicate n [], [], List.replicate n 0⟩
def stepS (s : SpecS) (e : Ev) : SpecS × Bool :=
  if e.Who < 0 ∨ (s.Acc.length : Int) ≤ e.Who then (s, false)
  else if e.Deliver = false then (⟨s.Acc.set e.Who.toNat (s.Acc.getD e.Who.toNat [] ++ [e.B]), s.Seq, s.At⟩, true)
  else if s.At.getD e.Who.toNat 0 < s.Seq.length then
    if s.Seq[(s.At.getD e.Who.toNat 0).toNat]? = some ⟨e.From, e.B⟩ then (⟨s.Acc, s.Seq, s.At.set e.Who.toNat (s.At.getD e.Who.toNat 0 + 1)⟩, true) else (s, false)
  else if e.From < 0 ∨ (s.Acc.length : Int) ≤ e.From then (s, false)
  else if (s.Acc.getD e.From.toNat [])[(ofF s.Seq e.From).length]? = some e.B then (⟨s.Acc, s.Seq ++ [⟨e.From, e.B⟩], s.At.set e.Who.toNat (s.At.getD e.Who.toNat 0 + 1)⟩, true) else (s, false)
def goS (s : SpecS) : List Ev → SpecS × Nat × Bool
  | [] => (s, 0, true)
  | e :: r => if (stepS s e).2 = true then ((goS (stepS s e).1 r).1, (goS (stepS s e).1 r).2.1 + 1, (goS (stepS s e).1 r).2.2) else (s, 0, false)
/-- What the steps need, and keep. -/
structure SInv (M : Nat) (s : SpecS) : Prop where
  len : s.Acc.length = s.At.length
  n64 : s.Acc.length ≤ 64
  at_ : ∀ a ∈ s.At, 0 ≤ a ∧ a ≤ s.Seq.length
  frm : ∀ d ∈ s.Seq, memF s d = true
  seq : s.Seq.length ≤ M
  acc : ∀ r ∈ s.Acc, r.length ≤ M ∧ ∀ b ∈ r, b.length ≤ 2000
theorem SInv.mono {M K : Nat} {s : SpecS} (h : SInv M s) (hk : M ≤ K) : SInv K s := ⟨h.len, h.n64, h.at_, h.frm, by have := h.seq; omega, fun r hr => ⟨by have := (h.acc r hr).1; omega, (h.acc r hr).2⟩⟩
theorem mem_setC {α : Type} {P : α → Prop} {l : List α} {i : Nat} {b : α} (h : ∀ x ∈ l, P x) (hb : P b) : ∀ x ∈ l.set i b, P x := fun x hx => by
  rcases List.mem_or_eq_of_mem_set hx with h1 | rfl
  · exact h x h1
  · exact hb
theorem at_inv {M : Nat} {s : SpecS} (h : SInv M s) {w : Nat} (hw : w < s.Acc.length) : ∃ a, s.At[w]? = some a ∧ s.At.getD w 0 = a ∧ 0 ≤ a ∧ a ≤ s.Seq.length := by
  have hl := h.len
  refine ⟨s.At[w]'(by omega), List.getElem?_eq_getElem (by omega), ?_, h.at_ _ (List.getElem_mem _)⟩
  rw [List.getD_eq_getElem?_getD, List.getElem?_eq_getElem (by omega)]; rfl
theorem step_inv {M : Nat} {s : SpecS} {e : Ev} (h : SInv M s) (hb : e.B.length ≤ 2000) : SInv (M + 1) (stepS s e).1 ∧ (stepS s e).1.Acc.length = s.Acc.length := by
  have h1 := h.mono (Nat.le_succ M)
  unfold stepS
  by_cases c1 : e.Who < 0 ∨ (s.Acc.length : Int) ≤ e.Who
  · rw [if_pos c1]; exact ⟨h1, rfl⟩
  · rw [if_neg c1]
    by_cases c2 : e.Deliver = false
    · rw [if_pos c2]
      refine ⟨⟨by simp only [List.length_set]; exact h.len, by simp only [List.length_set]; exact h.n64, h.at_, fun d hd => ?_, h1.seq, ?_⟩, by simp⟩
      · have := h.frm d hd
        unfold memF at this ⊢
        simp only [List.length_set]; exact this
      · refine mem_setC h1.acc ⟨?_, fun b hb' => ?_⟩
        · rw [List.length_append]
          have : (s.Acc.getD e.Who.toNat []).length ≤ M := by
            rw [List.getD_eq_getElem?_getD]
            cases hq : s.Acc[e.Who.toNat]? with
            | none => simp
            | some r => exact (h.acc r (List.mem_of_getElem? hq)).1
          simp only [List.length_cons, List.length_nil]; omega
        · rcases List.mem_append.1 hb' with hb' | hb'
          · rw [List.getD_eq_getElem?_getD] at hb'
            cases hq : s.Acc[e.Who.toNat]? with
            | none => rw [hq] at hb'; cases hb'
            | some r => rw [hq] at hb'; exact (h.acc r (List.mem_of_getElem? hq)).2 b hb'
          · simp at hb'; rw [hb']; exact hb
    · rw [if_neg c2]
      obtain ⟨a, ha, hg, h0, hle⟩ := at_inv h (w := e.Who.toNat) (by omega)
      rw [hg]
      by_cases c3 : a < s.Seq.length
      · rw [if_pos c3]
        by_cases c4 : s.Seq[a.toNat]? = some ⟨e.From, e.B⟩
        · rw [if_pos c4]
          refine ⟨⟨by simp only [List.length_set]; exact h.len, h.n64, mem_setC h.at_ ⟨by omega, by show a + 1 ≤ (s.Seq.length : Int); omega⟩, h.frm, h1.seq, h1.acc⟩, rfl⟩
        · rw [if_neg c4]; exact ⟨h1, rfl⟩
      · rw [if_neg c3]
        by_cases c5 : e.From < 0 ∨ (s.Acc.length : Int) ≤ e.From
        · rw [if_pos c5]; exact ⟨h1, rfl⟩
        · rw [if_neg c5]
          split
          · refine ⟨⟨by simp only [List.length_set]; exact h.len, h.n64, ?_, fun d hd => ?_, ?_, h1.acc⟩, rfl⟩
            · have hl : ((s.Seq ++ [(⟨e.From, e.B⟩ : Deliv)]).length : Int) = s.Seq.length + 1 := by simp
              refine mem_setC (fun x hx => ?_) ?_
              · have := h.at_ x hx
                simp only [hl]; omega
              · simp only [hl]; omega
            · rcases List.mem_append.1 hd with h2 | h2
              · exact h.frm d h2
              · simp at h2; subst h2
                exact decide_eq_true ⟨by show 0 ≤ e.From; omega, by show e.From < (s.Acc.length : Int); omega⟩
            · simp only [List.length_append, List.length_cons, List.length_nil]; have := h.seq; omega
          · exact ⟨h1, rfl⟩
theorem go_take : ∀ (l : List Ev) (s : SpecS) (c : Nat), c ≤ (goS s l).2.1 → (goS s (l.take c)).2 = (c, true) ∧ goS (goS s (l.take c)).1 (l.drop c) = ((goS s l).1, (goS s l).2.1 - c, (goS s l).2.2)
  | [], s, c, h => by
    simp only [goS] at h
    obtain rfl : c = 0 := by omega
    simp [goS]
  | e :: r, s, 0, _ => by simp [goS]
  | e :: r, s, c + 1, h => by
    by_cases hq : (stepS s e).2 = true
    · rw [goS, if_pos hq] at h ⊢
      simp only at h
      obtain ⟨h1, h2⟩ := go_take r (stepS s e).1 c (by omega)
      rw [List.take_succ_cons, goS, if_pos hq, List.drop_succ_cons]
      refine ⟨by simp only [h1], ?_⟩
      simp only [h2]
      congr 2; omega
    · rw [goS, if_neg hq] at h
      simp only at h; omega
theorem go_le : ∀ (l : List Ev) (s : SpecS), (goS s l).2.1 ≤ l.length ∧ (goS s l).2.2 = decide ((goS s l).2.1 = l.length)
  | [], s => by simp [goS]
  | e :: r, s => by
    rw [goS]
    by_cases hq : (stepS s e).2 = true
    · rw [if_pos hq]
      obtain ⟨h1, h2⟩ := go_le r (stepS s e).1
      simp only [List.length_cons]
      exact ⟨by omega, by rw [h2]; simp⟩
    · rw [if_neg hq]; simp
/-- Behind k events that go well. -/
def stS (s : SpecS) (l : List Ev) : Nat → SpecS
  | 0 => s
  | k + 1 => match l[k]? with
    | some e => (stepS (stS s l k) e).1
    | none => stS s l k
theorem stS_succ {s : SpecS} {l : List Ev} {k : Nat} {e : Ev} (h : l[k]? = some e) : stS s l (k + 1) = (stepS (stS s l k) e).1 := by rw [stS, h]
def allK (s : SpecS) (l : List Ev) (k : Nat) : Prop := ∀ j e, j < k → l[j]? = some e → (stepS (stS s l j) e).2 = true
theorem st_cons {s : SpecS} {e : Ev} {r : List Ev} : ∀ k, stS s (e :: r) (k + 1) = stS (stepS s e).1 r k
  | 0 => by simp [stS]
  | k + 1 => by
    rw [stS, st_cons k]
    simp only [List.getElem?_cons_succ]
    rw [stS]
theorem go_stop : ∀ (l : List Ev) (s : SpecS) (k : Nat) (e : Ev), allK s l k → l[k]? = some e → (stepS (stS s l k) e).2 = false → goS s l = (stS s l k, k, false)
  | [], s, k, e, _, h, _ => by simp at h
  | x :: r, s, 0, e, _, h, h2 => by
    simp at h; subst h
    rw [goS, if_neg (by simp only [stS] at h2; rw [h2]; simp)]; rfl
  | x :: r, s, k + 1, e, ha, h, h2 => by
    have h0 := ha 0 x (by omega) rfl
    simp only [stS] at h0
    rw [st_cons] at h2 ⊢
    rw [goS, if_pos h0, go_stop r (stepS s x).1 k e (fun j e' hj he' => by have := ha (j + 1) e' (by omega) he'; rwa [st_cons] at this) h h2]
theorem go_all : ∀ (l : List Ev) (s : SpecS), allK s l l.length → goS s l = (stS s l l.length, l.length, true)
  | [], s, _ => rfl
  | x :: r, s, ha => by
    have h0 := ha 0 x (by simp) rfl
    simp only [stS] at h0
    rw [List.length_cons, st_cons, goS, if_pos h0, go_all r (stepS s x).1 (fun j e' hj he' => by have := ha (j + 1) e' (by simp; omega) he'; rwa [st_cons] at this)]
theorem st_inv {M : Nat} {s : SpecS} {l : List Ev} (h : SInv M s) (hb : ∀ e ∈ l, e.B.length ≤ 2000) : ∀ k, SInv (M + k) (stS s l k) ∧ (stS s l k).Acc.length = s.Acc.length
  | 0 => ⟨h, rfl⟩
  | k + 1 => by
    obtain ⟨h1, h2⟩ := st_inv h hb k
    rw [stS]
    cases hq : l[k]? with
    | none => exact ⟨h1.mono (by omega), h2⟩
    | some e =>
      obtain ⟨a, b⟩ := step_inv h1 (hb e (List.mem_of_getElem? hq))
      exact ⟨a, by rw [b, h2]⟩
/-- How much isn't delivered. -/
def sumA (s : SpecS) : Nat → Int
  | 0 => 0
  | i + 1 => sumA s i + ((s.Acc.getD i []).length + s.Seq.length - s.At.getD i 0)
def leftS (s : SpecS) : Int := sumA s s.Acc.length - s.Seq.length
theorem sumA_acc (s : SpecS) (w : Nat) (b : List UInt8) (hw : w < s.Acc.length) : ∀ n, sumA ⟨s.Acc.set w (s.Acc.getD w [] ++ [b]), s.Seq, s.At⟩ n = sumA s n + if w < n then 1 else 0
  | 0 => by simp [sumA]
  | n + 1 => by
    rw [sumA, sumA, sumA_acc s w b hw n]
    simp only [List.getD_eq_getElem?_getD]
    by_cases h : w = n
    · subst h
      rw [List.getElem?_set_self hw, if_neg (by omega), if_pos (by omega)]
      simp only [Option.getD_some, List.length_append, List.length_cons, List.length_nil]; omega
    · rw [List.getElem?_set_ne h]
      by_cases h2 : w < n
      · rw [if_pos h2, if_pos (by omega)]; omega
      · rw [if_neg h2, if_neg (by omega)]; omega
theorem sumA_at (s : SpecS) (w : Nat) (q : List Deliv) (hw : w < s.At.length) : ∀ n : Nat, sumA ⟨s.Acc, q, s.At.set w (s.At.getD w 0 + 1)⟩ n = sumA s n + (n : Int) * ((q.length : Int) - s.Seq.length) - if w < n then 1 else 0
  | 0 => by simp [sumA]
  | n + 1 => by
    rw [sumA, sumA, sumA_at s w q hw n]
    simp only [List.getD_eq_getElem?_getD]
    have e : ((n + 1 : Nat) : Int) * ((q.length : Int) - s.Seq.length) = (n : Int) * ((q.length : Int) - s.Seq.length) + ((q.length : Int) - s.Seq.length) := by rw [Int.natCast_add, Int.add_mul]; simp
    rw [e]
    by_cases h : w = n
    · subst h
      rw [List.getElem?_set_self hw, if_neg (by omega), if_pos (by omega)]
      simp only [Option.getD_some]; omega
    · rw [List.getElem?_set_ne h]
      by_cases h2 : w < n
      · rw [if_pos h2, if_pos (by omega)]; omega
      · rw [if_neg h2, if_neg (by omega)]; omega
theorem step_left {M : Nat} {s : SpecS} {e : Ev} (h : SInv M s) : (stepS s e).2 = false ∧ (stepS s e).1 = s ∨ (stepS s e).2 = true ∧ e.Deliver = false ∧ leftS (stepS s e).1 = leftS s + 1 ∧ (stepS s e).1.Seq.length = s.Seq.length
    ∨ (stepS s e).2 = true ∧ e.Deliver = true ∧ (stepS s e).1.Seq.length = s.Seq.length ∧ leftS (stepS s e).1 = leftS s - 1
    ∨ (stepS s e).2 = true ∧ e.Deliver = true ∧ (stepS s e).1.Seq.length = s.Seq.length + 1 ∧ leftS (stepS s e).1 = leftS s - 1 + s.Acc.length - 1 := by
  have hl := h.len
  unfold stepS
  by_cases c1 : e.Who < 0 ∨ (s.Acc.length : Int) ≤ e.Who
  · rw [if_pos c1]; exact .inl ⟨rfl, rfl⟩
  · rw [if_neg c1]
    by_cases c2 : e.Deliver = false
    · rw [if_pos c2]
      refine .inr (.inl ⟨rfl, c2, ?_, rfl⟩)
      unfold leftS
      simp only [List.length_set]
      rw [sumA_acc s _ _ (by omega), if_pos (by omega)]; omega
    · have c2' : e.Deliver = true := by simpa using c2
      rw [if_neg c2]
      by_cases c3 : s.At.getD e.Who.toNat 0 < s.Seq.length
      · rw [if_pos c3]
        split
        · refine .inr (.inr (.inl ⟨rfl, c2', rfl, ?_⟩))
          unfold leftS
          simp only
          rw [sumA_at s _ s.Seq (by omega), if_pos (by omega), Int.sub_self, Int.mul_zero]; omega
        · exact .inl ⟨rfl, rfl⟩
      · rw [if_neg c3]
        split
        · exact .inl ⟨rfl, rfl⟩
        · split
          · refine .inr (.inr (.inr ⟨rfl, c2', by simp, ?_⟩))
            unfold leftS
            simp only
            rw [sumA_at s _ (s.Seq ++ [(⟨e.From, e.B⟩ : Deliv)]) (by omega), if_pos (by omega)]
            have : (((s.Seq ++ [(⟨e.From, e.B⟩ : Deliv)]).length : Nat) : Int) = s.Seq.length + 1 := by simp
            rw [this, show ((s.Seq.length : Int) + 1 - s.Seq.length) = 1 by omega, Int.mul_one]; omega
          · exact .inl ⟨rfl, rfl⟩
end Go.Aw
