import Derived.Test.YtogappokeheilaaB24
set_option linter.unusedVariables false
set_option linter.unusedSimpArgs false
set_option maxRecDepth 100000
set_option maxHeartbeats 0
namespace Go.Proofs.Ytogappokeheilaa
open Go.Aw

/-! What the law of order builds: i messages, each in pieces, and a token behind some of them. -/
section
variable (ls : List (List UInt8)) (os : List Bool) (M : Nat)
def kA (i : Nat) : Nat := qOf M (ls.getD i []).length + 1
def oA (i : Nat) : Nat := if os.getD i false then 1 else 0
def seqA : Nat → Nat
  | 0 => 1
  | i + 1 => seqA i + kA ls M i + oA os i
def msgA (i : Nat) : Entry := ⟨1, seqA ls os M i, ls.getD i [], [], false⟩
def tokA (i : Nat) : Entry := ⟨3, ((seqA ls os M i + kA ls M i : Nat) : Int), [], [], false⟩
def blkA (i : Nat) : List Entry := msgA ls os M i :: (if os.getD i false then [tokA ls os M i] else [])
def entA : Nat → List Entry
  | 0 => []
  | i + 1 => entA i ++ blkA ls os M i
def restA : Nat → Nat → List Entry
  | _, 0 => []
  | i, d + 1 => blkA ls os M i ++ restA (i + 1) d
def firstA : Nat → List Int
  | 0 => []
  | i + 1 => firstA i ++ [(seqA ls os M i : Int)]
def laneK (i k : Nat) : Lane :=
  if k = 0 then ⟨entA ls os M i, ⟨0, 0, 0, []⟩⟩
  else if k < kA ls M i then ⟨entA ls os M i, ⟨seqA ls os M i, kA ls M i, k, catN (cutP (ls.getD i []) M) k⟩⟩
  else ⟨entA ls os M i ++ [msgA ls os M i], ⟨0, 0, 0, []⟩⟩
variable {ls os M}
theorem firstA_len : ∀ i, (firstA ls os M i).length = i
  | 0 => rfl
  | i + 1 => by rw [firstA, List.length_append, firstA_len i]; rfl
theorem firstA_get {n i : Nat} (h : i < n) : (firstA ls os M n)[i]? = some (seqA ls os M i : Int) := by
  induction n with
  | zero => omega
  | succ n ih =>
    rw [firstA]
    by_cases hi : i < n
    · rw [List.getElem?_append_left (by rw [firstA_len]; exact hi)]; exact ih hi
    · obtain rfl : i = n := by omega
      rw [List.getElem?_append_right (by rw [firstA_len]; omega), firstA_len, Nat.sub_self]; rfl
theorem seqA_pos : ∀ i, 1 ≤ seqA ls os M i
  | 0 => Nat.le_refl _
  | i + 1 => by have := seqA_pos i; rw [seqA]; omega
theorem seqA_le : ∀ i, (∀ j, j < i → kA ls M j ≤ 30) → seqA ls os M i ≤ 1 + 31 * i
  | 0, _ => Nat.le_refl _
  | i + 1, h => by
    have h1 := seqA_le i fun j hj => h j (by omega)
    have h2 := h i (by omega)
    have h3 : oA os i ≤ 1 := by unfold oA; split <;> omega
    rw [seqA]; omega
theorem blk_len (i : Nat) : (blkA ls os M i).length ≤ 2 := by unfold blkA; split <;> simp
theorem entA_len : ∀ i, (entA ls os M i).length ≤ 2 * i
  | 0 => Nat.le_refl _
  | i + 1 => by
    have h1 := entA_len i
    have h2 := blk_len (ls := ls) (os := os) (M := M) i
    rw [entA, List.length_append]; omega
theorem ent_rest : ∀ d i, entA ls os M i ++ restA ls os M i d = entA ls os M (i + d)
  | 0, i => by simp [restA]
  | d + 1, i => by
    rw [restA, ← List.append_assoc]
    have h := ent_rest d (i + 1)
    rw [entA] at h
    rw [h]; congr 1; omega
theorem end_snoc (low : Int) (l : List Entry) (e : Entry) : endFrom low (l ++ [e]) = e.Seq := by unfold endFrom; simp
theorem ent_end : ∀ i, endFrom 0 (entA ls os M i) < (seqA ls os M i : Int)
  | 0 => by show (0 : Int) < 1; omega
  | i + 1 => by
    have hk : kA ls M i = qOf M (ls.getD i []).length + 1 := rfl
    rw [entA, blkA]
    by_cases ho : os.getD i false = true
    · rw [if_pos ho, show entA ls os M i ++ [msgA ls os M i, tokA ls os M i] = (entA ls os M i ++ [msgA ls os M i]) ++ [tokA ls os M i] by simp, end_snoc, seqA]
      have : oA os i = 1 := by unfold oA; rw [if_pos ho]
      show ((seqA ls os M i + kA ls M i : Nat) : Int) < _
      omega
    · rw [if_neg ho, end_snoc, seqA]
      show (seqA ls os M i : Int) < _
      omega
theorem rest_low : ∀ d i, ∀ e ∈ restA ls os M i d, (seqA ls os M i : Int) ≤ e.Seq
  | 0, i, e, h => by cases h
  | d + 1, i, e, h => by
    rw [restA] at h
    rcases List.mem_append.1 h with h | h
    · unfold blkA at h
      rcases List.mem_cons.1 h with rfl | h
      · exact Int.le_refl _
      · split at h
        · rw [List.mem_singleton] at h; subst h
          show (seqA ls os M i : Int) ≤ ((seqA ls os M i + kA ls M i : Nat) : Int)
          omega
        · cases h
    · have := rest_low d (i + 1) e h
      rw [seqA] at this; omega
theorem many_app (a b : List Entry) : manyL (a ++ b) = manyL a + manyL b := by unfold manyL; rw [List.filter_append, List.length_append]
theorem ent_many : ∀ i, manyL (entA ls os M i) = i
  | 0 => rfl
  | i + 1 => by
    rw [entA, many_app, ent_many i]
    unfold blkA
    split <;> simp [manyL, isMsg, msgA, tokA]
/-- A piece is read. -/
theorem read_piece {i k : Nat} {x : List UInt8} (hM : 0 < M) (hk30 : kA ls M i ≤ 30) (hk : k < kA ls M i) (hx : (cutP (ls.getD i []) M)[k]? = some x) :
    readF (laneK ls os M i k) ⟨1, ((seqA ls os M i + k : Nat) : Int), 0, k, kA ls M i, 0, [], x⟩ = (laneK ls os M i (k + 1), 0) := by
  have hend := ent_end (ls := ls) (os := os) (M := M) i
  have hcs := catN_succ _ _ _ hx
  have hPl : (cutP (ls.getD i []) M).length = kA ls M i := cutP_len _ _
  have hfl : catN (cutP (ls.getD i []) M) (kA ls M i) = ls.getD i [] := by
    unfold catN; rw [← hPl, List.take_length, cutP_flat _ hM]
  unfold readF
  rw [if_neg (by simp)]
  by_cases h0 : k = 0
  · subst h0
    have hL : laneK ls os M i 0 = ⟨entA ls os M i, ⟨0, 0, 0, []⟩⟩ := by unfold laneK; rw [if_pos rfl]
    have hlast : lastF (laneK ls os M i 0) = endFrom 0 (entA ls os M i) := by rw [hL]; exact last_eq (by simp)
    rw [hlast, if_neg (by simp only; omega), if_pos rfl]
    have hc0 : catN (cutP (ls.getD i []) M) 0 = [] := rfl
    rw [hc0, List.nil_append] at hcs
    have hA := addF_ok (p := (laneK ls os M i 0).Part) (seq := ((seqA ls os M i + 0 : Nat) : Int)) (index := ((0 : Nat) : Int)) (total := (kA ls M i : Int)) (piece := x) (by rw [hL]; simp; omega)
    simp only [hA]
    rw [hL]
    by_cases h1 : kA ls M i = 1
    · have h2 : laneK ls os M i (0 + 1) = ⟨entA ls os M i ++ [msgA ls os M i], ⟨0, 0, 0, []⟩⟩ := by unfold laneK; rw [if_neg (by omega), if_neg (by omega)]
      rw [h2]
      rw [h1] at hfl
      simp [h1, msgA, ← hcs]
      simpa using hfl
    · have h2 : laneK ls os M i (0 + 1) = ⟨entA ls os M i, ⟨seqA ls os M i, kA ls M i, (0 + 1 : Nat), catN (cutP (ls.getD i []) M) (0 + 1)⟩⟩ := by unfold laneK; rw [if_neg (by omega), if_pos (by omega)]
      rw [h2]
      have h3 : ¬ (1 : Int) = kA ls M i := by omega
      simp [h3]
      simpa using hcs.symm
  · have hL : laneK ls os M i k = ⟨entA ls os M i, ⟨seqA ls os M i, kA ls M i, k, catN (cutP (ls.getD i []) M) k⟩⟩ := by unfold laneK; rw [if_neg h0, if_pos hk]
    have hlast : lastF (laneK ls os M i k) = seqA ls os M i := by rw [hL]; unfold lastF; rw [if_pos (by simp only; omega)]
    rw [hlast, if_neg (by simp only; omega), if_pos rfl]
    have hw : IntKind.i64.wrap ((k : Int) + 1) = ((k + 1 : Nat) : Int) := by rw [wrapI (by omega) (by omega)]; omega
    have hk0 : ¬ (k : Int) = 0 := by omega
    have hA := addF_ok (p := (laneK ls os M i k).Part) (seq := ((seqA ls os M i + k : Nat) : Int)) (index := (k : Int)) (total := (kA ls M i : Int)) (piece := x) (by rw [hL]; simp; omega)
    simp only [hA]
    rw [hL]
    simp only [hk0, if_false, hw]
    by_cases h1 : k + 1 = kA ls M i
    · have h2 : laneK ls os M i (k + 1) = ⟨entA ls os M i ++ [msgA ls os M i], ⟨0, 0, 0, []⟩⟩ := by unfold laneK; rw [if_neg (by omega), if_neg (by omega)]
      rw [h2]
      rw [h1, hfl] at hcs
      have hkp : (0 : Int) < k := by omega
      simp [h1, msgA, hkp]
      exact ⟨fun h => absurd h h0, by simpa using hcs.symm⟩
    · have h2 : laneK ls os M i (k + 1) = ⟨entA ls os M i, ⟨seqA ls os M i, kA ls M i, (k + 1 : Nat), catN (cutP (ls.getD i []) M) (k + 1)⟩⟩ := by unfold laneK; rw [if_neg (by omega), if_pos (by omega)]
      rw [h2]
      have h3 : ¬ ((k + 1 : Nat) : Int) = kA ls M i := by omega
      simp only [h3, if_false, hcs]
      simp
theorem laneK_end (i : Nat) : laneK ls os M i (kA ls M i) = ⟨entA ls os M i ++ [msgA ls os M i], ⟨0, 0, 0, []⟩⟩ := by
  have hk : kA ls M i = qOf M (ls.getD i []).length + 1 := rfl
  unfold laneK; rw [if_neg (by omega), if_neg (by omega)]
/-- A token is read. -/
theorem read_tok (i : Nat) : readF ⟨entA ls os M i ++ [msgA ls os M i], ⟨0, 0, 0, []⟩⟩ ⟨3, ((seqA ls os M i + kA ls M i : Nat) : Int), 0, 0, 0, 0, [], []⟩ = (⟨(entA ls os M i ++ [msgA ls os M i]) ++ [tokA ls os M i], ⟨0, 0, 0, []⟩⟩, 0) := by
  have hk : kA ls M i = qOf M (ls.getD i []).length + 1 := rfl
  unfold readF
  rw [if_neg (by simp), last_eq (by simp), end_snoc, if_neg (by show ¬ ((seqA ls os M i + kA ls M i : Nat) : Int) ≤ (seqA ls os M i : Int); omega), if_neg (by simp), if_neg (by simp)]
  rfl
theorem pop_head {e : Entry} {r : List Entry} (h : ∀ x ∈ r, e.Seq < x.Seq) : popN e.Seq (e :: r) (e :: r).length = r := by
  rw [popN_all, List.filter_cons]
  have : seqP e.Seq e = true := decide_eq_true rfl
  simp only [this, Bool.not_true, Bool.false_eq_true, if_false]
  rw [List.filter_eq_self]
  intro x hx
  have := h x hx
  simp [seqP]; omega
/-- What waits from message i on, and what waits behind it. -/
theorem rest_facts (i d : Nat) :
    findF isMsg (restA ls os M i (d + 1)) = (msgA ls os M i, true) ∧
    popN (seqA ls os M i) (restA ls os M i (d + 1)) (restA ls os M i (d + 1)).length = (if os.getD i false then [tokA ls os M i] else []) ++ restA ls os M (i + 1) d ∧
    (os.getD i false = true → findF isCtl (tokA ls os M i :: restA ls os M (i + 1) d) = (tokA ls os M i, true) ∧
      popN ((seqA ls os M i + kA ls M i : Nat) : Int) (tokA ls os M i :: restA ls os M (i + 1) d) (tokA ls os M i :: restA ls os M (i + 1) d).length = restA ls os M (i + 1) d) := by
  have hk : kA ls M i = qOf M (ls.getD i []).length + 1 := rfl
  have hl := rest_low (ls := ls) (os := os) (M := M) d (i + 1)
  refine ⟨?_, ?_, fun ho => ⟨?_, ?_⟩⟩
  · rw [restA, blkA]; rfl
  · rw [restA, blkA, List.cons_append]
    refine pop_head (e := msgA ls os M i) fun x hx => ?_
    show (seqA ls os M i : Int) < x.Seq
    rcases List.mem_append.1 hx with h | h
    · split at h
      · rw [List.mem_singleton] at h; subst h
        show (seqA ls os M i : Int) < ((seqA ls os M i + kA ls M i : Nat) : Int)
        omega
      · cases h
    · have := hl x h
      rw [seqA] at this; omega
  · rfl
  · refine pop_head (e := tokA ls os M i) fun x hx => ?_
    have := hl x hx
    have ho1 : oA os i = 1 := by unfold oA; rw [if_pos ho]
    rw [seqA, ho1] at this
    show ((seqA ls os M i + kA ls M i : Nat) : Int) < x.Seq
    omega
end
end Go.Proofs.Ytogappokeheilaa
