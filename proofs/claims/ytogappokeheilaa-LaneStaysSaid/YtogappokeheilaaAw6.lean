/-
  An abstract memory for walks, part 6: cuts; lengths; append; make; tests and sums.
-/
import Derived.Test.YtogappokeheilaaAw5
set_option linter.unusedVariables false
set_option linter.unusedSimpArgs false
namespace Go.Aw
open Go.RowKit
section
variable {P : Program} {B : Nat} {S : Mem} {m : List Loc} {H : List AObj} {w : World} {K : AV → List AObj → Prop}

/-- A cell as it is handed on. -/
def frzA (H : List AObj) (x : AV) : Option (PV × List AObj) :=
  match x with
  | .c c => frzC H c
  | _ => none
theorem frzA_ok (s : Sim S m H B w) {x : AV} {v : Value} (hv : VA S m H x v) {y : PV} {H' : List AObj} (h : frzA H x = some (y, H')) : ∃ S', Sim S' m H' B w ∧ Ext B S m H S' m H' ∧ VP S' y v := by
  unfold frzA at h
  split at h
  · exact frzC_ok s hv h
  · cases h

/-! ### Cuts -/
def cutL {α : Type} (lo hi : Option Int) (xs : List α) : List α :=
  match lo, hi with
  | none, none => xs
  | some l, none => xs.drop l.toNat
  | none, some h => xs.take h.toNat
  | some l, some h => (xs.take h.toNat).drop l.toNat
def optI : Option AV → Option (Option Int)
  | none => some none
  | some x => (intA x).map some
def OptV (S : Mem) (m : List Loc) (H : List AObj) : Option AV → Option Value → Prop
  | none, none => True
  | some x, some v => VA S m H x v
  | _, _ => False
theorem optI_ok {x : Option AV} {v : Option Value} {n : Option Int} (hx : OptV S m H x v) (h : optI x = some n) : (n = none ∧ v = none) ∨ ∃ k i, n = some i ∧ v = some (.int k i) := by
  cases x with
  | none =>
    cases v with
    | none => simp [optI] at h; exact .inl ⟨h.symm, rfl⟩
    | some v => exact hx.elim
  | some x =>
    cases v with
    | none => exact hx.elim
    | some v =>
      simp only [optI] at h
      cases hi : intA x with
      | none => simp [hi] at h
      | some i =>
        simp [hi] at h
        obtain ⟨k, rfl⟩ := intA_ok hx hi
        exact .inr ⟨k, i, h.symm, rfl⟩
def aSlice (P : Program) (t : TypeId) (x : AV) (lo hi mx : Option AV) (H : List AObj) (K : AV → List AObj → Prop) : Prop :=
  match P.underlying t, optI lo, optI hi, optI mx with
  | some (.slice e), some l, some h, some q => match frzA H x with
    | some (.sl full xs, H1) => 0 < P.cellsOf e ∧ allLen (P.cellsOf e) xs ∧ 0 ≤ l.getD 0 ∧ l.getD 0 ≤ h.getD xs.length ∧ h.getD xs.length ≤ xs.length ∧ (q = none ∨ q = h ∧ h ≠ none) ∧
        K (.c (.p (.sl (if q = none then (if h = none then full else full && xs.isEmpty) else true) (cutL l h xs)))) H1
    | none => match x, l, h, q with
      | .c (.room id n), none, some 0, none => (∃ T size frz, H[id]? = some (.arr T size frz [])) ∧ 0 < P.cellsOf e ∧ K (.c (.own id 0)) H
      | _, _, _, _ => False
    | _ => False
  | some .string, some l, some h, some none => match x with
    | .c (.p (.str s)) => 0 ≤ l.getD 0 ∧ l.getD 0 ≤ h.getD s.size ∧ h.getD s.size ≤ s.size ∧ K (.c (.p (.str (s.extract (l.getD 0).toNat (h.getD s.size).toNat)))) H
    | _ => False
  | _, _, _, _ => False
theorem run_bound {k : IntKind} {i : Int} {y : Nat} (h0 : 0 ≤ i) (h1 : i ≤ y) (code : BoundsCode) (w : World) : (Instr.sliceBound (.int k i) y code).run P w = .ok i.toNat w := by
  have : 0 ≤ i ∧ i ≤ (y : Int) := ⟨h0, h1⟩
  simp [Instr.sliceBound, asIntOf, this]
theorem flat_cut {size : Nat} {xs : List (List PV)} (hu : ∀ e, e ∈ xs → e.length = size) (l h : Nat) : (((xs.take h).drop l).flatten) = (xs.flatten.take (h * size)).drop (l * size) := by
  rw [flat_drop l (size := size) (fun e he => hu e (List.mem_of_mem_take he)), flat_take h hu]
theorem cutL_eq {α : Type} (l h : Option Int) (xs : List α) (h1 : h.getD xs.length ≤ xs.length) : cutL l h xs = (xs.take (h.getD xs.length).toNat).drop (l.getD 0).toNat := by
  cases l <;> cases h <;> simp [cutL]
/-- The cut of what is read. -/
theorem VP.cut {S : Mem} {full full' : Bool} {xs : List (List PV)} {a : Option Addr} {n cap size : Nat} (hx : VP S (.sl full xs) (.slice a n cap)) (hu : ∀ y, y ∈ xs → y.length = size) (hs : 0 < size) (l h q : Nat) (h1 : l ≤ h) (h2 : h ≤ n) (h3 : h ≤ q) (h4 : q ≤ cap) (hf : full' = true → q = h) :
    VP S (.sl full' ((xs.take h).drop l)) (.slice (if q = l then a else a.map (·.add (l * size))) (h - l) (q - l)) := by
  cases hx with
  | nil =>
    obtain rfl : h = 0 := by omega
    obtain rfl : l = 0 := by omega
    obtain rfl : q = 0 := by omega
    simp
    exact .nil full'
  | emp _ a =>
    obtain rfl : h = 0 := by omega
    obtain rfl : l = 0 := by omega
    obtain rfl : q = 0 := by omega
    simp
    exact .emp full' a
  | sl _ _ b off cap size' n u hn hc hm hfu hs' hu' hS hv =>
    by_cases hxs : xs = []
    · subst hxs
      simp at hn
      subst hn
      obtain rfl : h = 0 := by omega
      obtain rfl : l = 0 := by omega
      have e : (if q = 0 then some (⟨b, off, none⟩ : Addr) else (some (⟨b, off, none⟩ : Addr)).map (·.add (0 * size))) = some ⟨b, off, none⟩ := by
        split
        · rfl
        · simp [addr_add]
      rw [e]
      simp only [List.take_zero, List.drop_zero, Nat.sub_zero]
      exact .sl full' [] b off q 1 0 u rfl (Nat.zero_le _) (by omega) (fun h => hf h) (by omega) (by simp) (by simp) (by simp)
    · obtain ⟨y, ys, rfl⟩ : ∃ y ys, xs = y :: ys := by cases xs with
        | nil => exact absurd rfl hxs
        | cons y ys => exact ⟨y, ys, rfl⟩
      have hsz : size' = size := by rw [← hu y (by simp), ← hu' y (by simp)]
      subst hsz
      have hlen : (((y :: ys).take h).drop l).length = h - l := by rw [List.length_drop, List.length_take]; omega
      have hmem : ∀ e, e ∈ ((y :: ys).take h).drop l → e.length = size' := fun e he => hu e (List.mem_of_mem_take (List.mem_of_mem_drop he))
      have hidx : ∀ (k : Nat) (x : PV), (((y :: ys).take h).drop l).flatten[k]? = some x → (y :: ys).flatten[l * size' + k]? = some x := fun k x hk => by
        rw [flat_cut hu', List.getElem?_drop, List.getElem?_take] at hk
        split at hk
        · exact hk
        · cases hk
      by_cases hql : q = l
      · subst hql
        have hlh : h = q := by omega
        subst hlh
        rw [if_pos rfl]
        have e : ((y :: ys).take h).drop h = [] := by
          apply List.drop_eq_nil_of_le; rw [List.length_take]; omega
        rw [e, Nat.sub_self]
        exact .sl full' [] b off 0 1 0 u rfl (Nat.zero_le _) (Nat.zero_le _) (fun _ => rfl) (by omega) (by simp) (by simp) (by simp)
      · rw [if_neg hql]
        simp only [Option.map_some, addr_add]
        exact .sl full' _ b (off + l * size') (q - l) size' (h - l) (fun k => u (l * size' + k)) hlen (by omega) (by omega) (fun hh => by rw [hf hh]) hs' hmem
          (fun k x hk => by rw [Nat.add_assoc]; exact hS _ x (hidx k x hk)) (fun k x hk => hv _ x (hidx k x hk))
theorem VP.slice_form {S : Mem} {full : Bool} {xs : List (List PV)} {v : Value} (h : VP S (.sl full xs) v) : ∃ a cap, v = .slice a xs.length cap ∧ xs.length ≤ cap ∧ cap ≤ maxLen ∧ (full = true → cap = xs.length) := by
  cases h with
  | nil => exact ⟨none, 0, rfl, Nat.le_refl _, Nat.zero_le _, fun _ => rfl⟩
  | emp _ a => exact ⟨some a, 0, rfl, Nat.le_refl _, Nat.zero_le _, fun _ => rfl⟩
  | sl _ _ b off cap size n u hn hc hm hf hs hu hS hv => subst hn; exact ⟨_, cap, rfl, hc, hm, hf⟩
theorem good_slice (s : Sim S m H B w) {t : TypeId} {x : AV} {v : Value} {lo hi mx : Option AV} {vl vh vm : Option Value} (hx : VA S m H x v) (hl : OptV S m H lo vl) (hh : OptV S m H hi vh) (hm : OptV S m H mx vm)
    (h : aSlice P t x lo hi mx H K) : Good P B S m H w (Instr.sliceAt t v vl vh vm) K := by
  unfold aSlice at h
  split at h
  · rename_i e l hq q hu h1 h2 h3
    split at h
    · rename_i full xs H1 hf
      obtain ⟨hp, hul, c1, c2, c3, c4, hk⟩ := h
      obtain ⟨S1, s1, e1, p1⟩ := frzA_ok s hx hf
      obtain ⟨a, cap, rfl, hcap, hcm, hfull⟩ := VP.slice_form p1
      have hss := run_sizeOf' hp w
      have key : ∀ (L Hh Q : Nat), (Instr.sliceBounds true xs.length cap vl vh vm).run P w = .ok (L, Hh, Q) w → L ≤ Hh → Hh ≤ xs.length → Hh ≤ Q → Q ≤ cap →
          ((if q = none then (if hq = none then full else full && xs.isEmpty) else true) = true → Q = Hh) → cutL l hq xs = (xs.take Hh).drop L → Good P B S m H w (Instr.sliceAt t (.slice a xs.length cap) vl vh vm) K := by
        intro L Hh Q hr k1 k2 k3 k4 k5 k6
        refine ⟨.slice (if Q = L then a else a.map (·.add (L * P.cellsOf e))) (Hh - L) (Q - L), w, ?_, S1, m, H1, _, s1, e1, Bel.refl B w, ?_, hk⟩
        · simp [Instr.sliceAt, Instr.slice, run_underlying hu, hr, hss]
        · show VP S1 (.sl _ (cutL l hq xs)) _
          rw [k6]
          exact VP.cut p1 hul hp L Hh Q k1 k2 k3 k4 k5
      have hcut := cutL_eq l hq xs c3
      rcases optI_ok hl h1 with ⟨rfl, rfl⟩ | ⟨kl, il, rfl, rfl⟩ <;> rcases optI_ok hh h2 with ⟨rfl, rfl⟩ | ⟨kh, ih, rfl, rfl⟩ <;> rcases optI_ok hm h3 with ⟨rfl, rfl⟩ | ⟨km, im, rfl, rfl⟩
      all_goals simp only [Option.getD_none, Option.getD_some] at c1 c2 c3
      · exact key 0 xs.length cap (by simp [Instr.sliceBounds]) (Nat.zero_le _) (Nat.le_refl _) hcap (Nat.le_refl _) (fun h => hfull (by simpa using h)) (by simp [cutL])
      · simp at c4
      · refine key 0 ih.toNat cap ?_ (Nat.zero_le _) (by omega) (by omega) (Nat.le_refl _) (fun h => by
          simp only [if_true, reduceCtorEq, if_false, Bool.and_eq_true, List.isEmpty_iff] at h
          have h7 := hfull h.1
          rw [h.2] at h7 c3
          simp at h7 c3; omega) (by simp [cutL])
        simp [Instr.sliceBounds, run_bound (P := P) (k := kh) c2 (show ih ≤ (cap : Int) by omega)]
      · have him : im = ih := by simpa using c4
        subst him
        refine key 0 im.toNat im.toNat ?_ (Nat.zero_le _) (by omega) (Nat.le_refl _) (by omega) (fun _ => rfl) (by simp [cutL])
        simp [Instr.sliceBounds, run_bound (P := P) (k := km) c2 (show im ≤ (cap : Int) by omega), run_bound (P := P) (k := kh) c2 (show im ≤ (im.toNat : Int) by omega)]
      · refine key il.toNat xs.length cap ?_ (by omega) (Nat.le_refl _) hcap (Nat.le_refl _) (fun h => hfull (by simpa using h)) (by simp [cutL])
        simp [Instr.sliceBounds, run_bound (P := P) (k := kl) c1 c2]
      · simp at c4
      · refine key il.toNat ih.toNat cap ?_ (by omega) (by omega) (by omega) (Nat.le_refl _) (fun h => by
          simp only [if_true, reduceCtorEq, if_false, Bool.and_eq_true, List.isEmpty_iff] at h
          have h7 := hfull h.1
          rw [h.2] at h7 c3
          simp at h7 c3; omega) (by simp [cutL])
        simp [Instr.sliceBounds, run_bound (P := P) (k := kh) (show 0 ≤ ih by omega) (show ih ≤ (cap : Int) by omega), run_bound (P := P) (k := kl) c1 (show il ≤ (ih.toNat : Int) by omega)]
      · have him : im = ih := by simpa using c4
        subst him
        refine key il.toNat im.toNat im.toNat ?_ (by omega) (by omega) (Nat.le_refl _) (by omega) (fun _ => rfl) (by simp [cutL])
        simp [Instr.sliceBounds, run_bound (P := P) (k := km) (show 0 ≤ im by omega) (show im ≤ (cap : Int) by omega), run_bound (P := P) (k := kh) (show 0 ≤ im by omega) (show im ≤ (im.toNat : Int) by omega), run_bound (P := P) (k := kl) c1 (show il ≤ (im.toNat : Int) by omega)]
    · split at h
      · rename_i id n hfn
        obtain ⟨⟨T, size, frz, ho⟩, hp, hk⟩ := h
        obtain ⟨T', size', frz', es', l', g1, g2, g3, g4⟩ := hx
        rw [ho] at g1; cases g1
        obtain ⟨b, cap, rfl, rfl, hnc⟩ := g3 rfl
        rcases optI_ok hl h1 with ⟨_, rfl⟩ | ⟨_, _, hc, _⟩
        rotate_left
        · cases hc
        rcases optI_ok hm h3 with ⟨_, rfl⟩ | ⟨_, _, hc, _⟩
        rotate_left
        · cases hc
        rcases optI_ok hh h2 with ⟨hc, _⟩ | ⟨kh, ih, hc, rfl⟩
        · cases hc
        cases hc
        refine Good.same s (x := .c (.own id 0)) (v := .slice (some ⟨b, 0, none⟩) 0 cap) ?_ ⟨T, size, frz, [], .at_ b cap, ho, g2, fun _ => rfl, Nat.le_refl _, rfl, rfl⟩ hk
        have e1 : (if cap = 0 then some (⟨b, 0, none⟩ : Addr) else (some (⟨b, 0, none⟩ : Addr)).map (·.add (0 * P.cellsOf e))) = some ⟨b, 0, none⟩ := by
          split
          · rfl
          · simp [addr_add]
        have hr : (Instr.sliceBounds true n cap none (some (.int kh 0)) none).run P w = .ok (0, 0, cap) w := by
          simp [Instr.sliceBounds, run_bound (P := P) (k := kh) (Int.le_refl 0) (show (0 : Int) ≤ (cap : Int) by omega)]
        have hss := run_sizeOf' hp w
        have : (Instr.sliceAt t (.slice (some ⟨b, 0, none⟩) n cap) none (some (.int kh 0)) none).run P w = .ok (.slice (if cap = 0 then some ⟨b, 0, none⟩ else (some (⟨b, 0, none⟩ : Addr)).map (·.add (0 * P.cellsOf e))) (0 - 0) (cap - 0)) w := by
          simp [Instr.sliceAt, Instr.slice, run_underlying hu, hr, hss]
        rw [this, e1, Nat.sub_zero, Nat.sub_zero]
      · exact h.elim
    · exact h.elim
  · rename_i l hq hu h1 h2 h3
    split at h
    · rename_i st
      obtain ⟨c1, c2, c3, hk⟩ := h
      cases hx
      have hm' : vm = none := by
        rcases optI_ok hm h3 with ⟨_, h⟩ | ⟨_, _, h, _⟩
        · exact h
        · cases h
      subst hm'
      refine Good.same s (x := .c (.p (.str (st.extract (l.getD 0).toNat (hq.getD st.size).toNat)))) (v := .string (st.extract (l.getD 0).toNat (hq.getD st.size).toNat)) ?_ (.str _) hk
      rcases optI_ok hl h1 with ⟨rfl, rfl⟩ | ⟨kl, il, rfl, rfl⟩ <;> rcases optI_ok hh h2 with ⟨rfl, rfl⟩ | ⟨kh, ih, rfl, rfl⟩
      all_goals simp only [Option.getD_none, Option.getD_some] at c1 c2 c3 ⊢
      · simp [Instr.sliceAt, Instr.slice, run_underlying hu, Instr.sliceBounds]
      · simp [Instr.sliceAt, Instr.slice, run_underlying hu, Instr.sliceBounds, run_bound (P := P) (k := kh) c2 c3]
      · simp [Instr.sliceAt, Instr.slice, run_underlying hu, Instr.sliceBounds, run_bound (P := P) (k := kl) c1 c2]
      · simp [Instr.sliceAt, Instr.slice, run_underlying hu, Instr.sliceBounds, run_bound (P := P) (k := kh) (show 0 ≤ ih by omega) c3, run_bound (P := P) (k := kl) c1 (show il ≤ (ih.toNat : Int) by omega)]
    · exact h.elim
  · exact h.elim

/-! ### Lengths -/
theorem own_form (s : Sim S m H B w) {id n T size frz : Nat} {es : List (List PV)} {v : Value} (ho : H[id]? = some (.arr T size frz es)) (hn : es.length = n) (hx : VC S m H (.own id n) v) : ∃ a cap, v = .slice a n cap ∧ n ≤ cap ∧ cap ≤ maxLen := by
  obtain ⟨T', size', frz', es', l, h1, h2, h3, h4, h5⟩ := hx
  rw [ho] at h1; cases h1
  have g := h3 hn
  cases l with
  | nil A =>
    obtain ⟨_, he, _⟩ := s.obj id _ _ ho h2
    have hn0 : n = 0 := by rw [← hn, he]; rfl
    have g' : v = .slice A 0 0 := g
    exact ⟨_, 0, by rw [hn0]; exact g', by omega, Nat.zero_le _⟩
  | at_ b cap =>
    obtain ⟨_, _, _, _, hc, hm, _⟩ := s.obj id _ _ ho h2
    exact ⟨_, cap, g, by omega, hm⟩
def aLen (P : Program) (t : TypeId) (x : AV) (H : List AObj) (K : AV → List AObj → Prop) : Prop :=
  match P.underlying t, x with
  | some (.slice e), .c (.p (.sl full xs)) => K (.c (.p (.int .i64 xs.length))) H
  | some (.slice e), .c (.own id n) => (∃ T size frz es, H[id]? = some (.arr T size frz es) ∧ es.length = n) ∧ K (.c (.p (.int .i64 n))) H
  | some .string, .c (.p (.str s)) => K (.c (.p (.int .i64 s.size))) H
  | _, _ => False
theorem good_len (s : Sim S m H B w) {t ty : TypeId} {x : AV} {v : Value} (hx : VA S m H x v) (h : aLen P t x H K) : Good P B S m H w (Builtin.len_ #[t] ty #[v]) K := by
  unfold aLen at h
  split at h
  · rename_i e full xs hu
    obtain ⟨a, cap, rfl, _⟩ := VP.slice_form (show VP S (.sl full xs) v from hx)
    exact Good.same s (x := .c (.p (.int .i64 xs.length))) (v := .int .i64 xs.length) (by simp [Builtin.len_, run_underlying hu, goInt]) (.int _ _) h
  · rename_i e id n hu
    obtain ⟨⟨T, size, frz, es, ho, hn⟩, h⟩ := h
    obtain ⟨a, cap, rfl, _⟩ := own_form s ho hn hx
    exact Good.same s (x := .c (.p (.int .i64 n))) (v := .int .i64 n) (by simp [Builtin.len_, run_underlying hu, goInt]) (.int _ _) h
  · rename_i st hu
    cases hx
    exact Good.same s (x := .c (.p (.int .i64 st.size))) (v := .int .i64 st.size) (by simp [Builtin.len_, run_underlying hu, goInt]) (.int _ _) h
  · exact h.elim

def aCap (P : Program) (t : TypeId) (x : AV) (H : List AObj) (K : AV → List AObj → Prop) : Prop :=
  match P.underlying t, x with
  | some (.slice e), .c (.p (.sl true xs)) => K (.c (.p (.int .i64 xs.length))) H
  | some (.slice e), .c (.p (.sl false xs)) => ∀ c : Int, (xs.length : Int) ≤ c → c ≤ 9223372036854775807 → K (.c (.p (.int .i64 c))) H
  | some (.slice e), .c (.own id n) => (∃ T size frz es, H[id]? = some (.arr T size frz es) ∧ es.length = n) ∧ ∀ c : Int, (n : Int) ≤ c → c ≤ 9223372036854775807 → K (.c (.p (.int .i64 c))) H
  | _, _ => False
theorem good_cap (s : Sim S m H B w) {t ty : TypeId} {x : AV} {v : Value} (hx : VA S m H x v) (h : aCap P t x H K) : Good P B S m H w (Builtin.cap_ #[t] ty #[v]) K := by
  unfold aCap at h
  split at h
  · rename_i e xs hu
    obtain ⟨a, cap, rfl, _, _, hf⟩ := VP.slice_form (show VP S (.sl true xs) v from hx)
    rw [← hf rfl] at h
    exact Good.same s (x := .c (.p (.int .i64 cap))) (v := .int .i64 cap) (by simp [Builtin.cap_, run_underlying hu, goInt]) (.int _ _) h
  · rename_i e xs hu
    obtain ⟨a, cap, rfl, hc, hm, _⟩ := VP.slice_form (show VP S (.sl false xs) v from hx)
    simp only [maxLen] at hm
    exact Good.same s (x := .c (.p (.int .i64 cap))) (v := .int .i64 cap) (by simp [Builtin.cap_, run_underlying hu, goInt]) (.int _ _) (h _ (by omega) (by omega))
  · rename_i e id n hu
    obtain ⟨⟨T, size, frz, es, ho, hn⟩, h⟩ := h
    obtain ⟨a, cap, rfl, hc, hm⟩ := own_form s ho hn hx
    simp only [maxLen] at hm
    exact Good.same s (x := .c (.p (.int .i64 cap))) (v := .int .i64 cap) (by simp [Builtin.cap_, run_underlying hu, goInt]) (.int _ _) (h _ (by omega) (by omega))
  · exact h.elim

/-! ### Append -/
theorem run_append_zero {t u ty e : TypeId} (ht : P.underlying t = some (.slice e)) (hu : P.underlying u = some (.slice e)) (hp : 0 < P.cellsOf e) (w : World) (a x : Option Addr) (n cap c : Nat) (hn : n ≤ cap) :
    (Builtin.append_ #[t, u] ty #[.slice a n cap, .slice x 0 c]).run P w = .ok (.slice a n cap) w := by
  have hss := run_sizeOf' hp w
  cases x <;> cases a <;> simp [Builtin.append_, run_underlying ht, run_underlying hu, hss, Builtin.lenOf, Builtin.firstCells, hn, storeCells, loadCells, loadCellsFrom]
/-- The size of a type's zero value. -/
def zeroOk (P : Program) (e : TypeId) : Prop := ∃ z zc, zeroA P e = some z ∧ cellsA z = some zc ∧ zc.length = P.cellsOf e
theorem zeroOk.info {e : TypeId} (h : zeroOk P e) (hp : 0 < P.cellsOf e) : ∃ i z, P.info? e = some i ∧ i.zero = some z ∧ i.size = P.cellsOf e ∧ i.bytes = P.bytesOf e ∧ z.cells.size = P.cellsOf e := by
  obtain ⟨z, zc, h1, h2, h3⟩ := h
  obtain ⟨i, hi, hs, hb⟩ := info_of_cells hp
  unfold zeroA at h1
  cases hz : i.zero with
  | none => simp [hi, hz] at h1
  | some zv =>
    simp [hi, hz] at h1; subst h1
    have := (cellsA_ok (absA_ok (fun _ _ => none) [] [] zv) h2).1
    exact ⟨i, zv, hi, hz, hs, hb, by simp at this; omega⟩
/-- It grows: a new block. -/
theorem run_append_new {t ty e : TypeId} (ht : P.underlying t = some (.slice e)) (hp : 0 < P.cellsOf e) (hz : zeroOk P e) (w : World) (a : Option Addr) (n cap : Nat) (olds : List Value) (hlo : olds.length = n * P.cellsOf e)
    (ho : ∀ (j : Nat) v, olds[j]? = some v → ∃ b, a = some b ∧ w.cell? (b.add j) = some v) (x : Addr) (k c : Nat) (news : List Value) (hl : news.length = k * P.cellsOf e) (hnews : ∀ (j : Nat) v, news[j]? = some v → w.cell? (x.add j) = some v)
    (hnil : a = none → n = 0 ∧ cap = 0) (hg : cap < n + k) (hb : (n + k) * P.bytesOf e ≤ 140737488355328) (h63 : n + k ≤ maxLen) :
    ∃ cap' rest, (Builtin.append_ #[t, t] ty #[.slice a n cap, .slice (some x) k c]).run P w = .ok (.slice (some ⟨w.heap.size, 0, none⟩) (n + k) cap') (w.drew.alloc (.cells (olds ++ news ++ rest).toArray e)) ∧
      n + k ≤ cap' ∧ cap' ≤ maxLen ∧ rest.length = (cap' - (n + k)) * P.cellsOf e := by
  obtain ⟨i, z, hi, hzz, hsz, hby, hzs⟩ := hz.info hp
  have h63' : n + k ≤ 9223372036854775807 := by simp only [maxLen] at h63; omega
  cases a with
  | none =>
    obtain ⟨rfl, rfl⟩ := hnil rfl
    have he : olds = [] := List.eq_nil_of_length_eq_zero (by simpa using hlo)
    subst he
    refine ⟨grownCap w k 0 e, (Builtin.zeroCells z.cells (grownCap w k 0 e - k)).toList, ?_, by have := grownCap_ge w k 0 e; omega, grownCap_le_maxLen w k 0 e (by omega), ?_⟩
    · have := run_append_nil (P := P) w t ty e i z ht hi hzz x k c news (by rw [hl, hsz]) hnews (by omega) (by omega) (by rw [hby]; simp only [Nat.zero_add] at hb; omega)
      have e0 : ∀ Z : Array Value, ([] ++ news ++ Z.toList).toArray = news.toArray ++ Z := fun Z => by apply Array.ext'; simp
      rw [e0, Nat.zero_add, this]
    · rw [Array.length_toList, size_zeroCells, hzs, Nat.zero_add]
  | some b =>
    refine ⟨grownCap w (n + k) cap e, (Builtin.zeroCells z.cells (grownCap w (n + k) cap e - (n + k))).toList, ?_, grownCap_ge w (n + k) cap e, grownCap_le_maxLen w (n + k) cap e h63, ?_⟩
    · have := run_append_grow (P := P) w t ty e i z ht hi hzz b n cap olds (by rw [hlo, hsz]) (fun j v hj => by
        obtain ⟨b', hb', hc⟩ := ho j v hj
        cases hb'; exact hc) x k c news (by rw [hl, hsz]) hnews hg (by omega) (growslice_fits hg (by rw [hby]; exact hb))
      have e0 : ∀ Z : Array Value, (olds ++ news ++ Z.toList).toArray = olds.toArray ++ news.toArray ++ Z := fun Z => by apply Array.ext'; simp
      rw [e0, this]
    · rw [Array.length_toList, size_zeroCells, hzs]

/-- The append's result, its source being frozen. 'pure': in a region that draws its order the result is frozen, too. -/
def aAppend (P : Program) (pure : Bool) (t u : TypeId) (x y : AV) (H : List AObj) (K : AV → List AObj → Prop) : Prop :=
  match P.underlying t, frzA H y with
  | some (.slice e), some (.sl _ ys, H1) => u = t ∧ 0 < P.cellsOf e ∧ zeroOk P e ∧ allLen (P.cellsOf e) ys ∧
    match x with
    | .c (.own id n) => pure = false ∧ match H1[id]? with
      | some (.arr T size frz es) => es.length = n ∧ T = e ∧ size = P.cellsOf e ∧ (n + ys.length) * P.bytesOf e ≤ 140737488355328 ∧ n + ys.length ≤ 9223372036854775807 ∧ K (.c (.own id (n + ys.length))) (H1.set id (.arr T size frz (es ++ ys)))
      | _ => False
    | .c (.p (.sl true xs)) => allLen (P.cellsOf e) xs ∧ (xs.length + ys.length) * P.bytesOf e ≤ 140737488355328 ∧ xs.length + ys.length ≤ 9223372036854775807 ∧
      if pure then K (.c (.p (.sl false (xs ++ ys)))) H1 else (ys ≠ [] ∨ xs = []) ∧ K (.c (.own H1.length (xs.length + ys.length))) (H1 ++ [.arr e (P.cellsOf e) 0 (xs ++ ys)])
    | _ => False
  | _, _ => False

/-- What is read, as a list of values. -/
theorem VP.reads {S : Mem} {full : Bool} {xs : List (List PV)} {a : Option Addr} {n cap size : Nat} (hx : VP S (.sl full xs) (.slice a n cap)) (hu : ∀ y, y ∈ xs → y.length = size) :
    ∃ vs : List Value, VPs S xs.flatten vs ∧ vs.length = n * size ∧ ∀ (j : Nat) v, vs[j]? = some v → ∃ b o, a = some ⟨b, o, none⟩ ∧ S b (o + j) = some v := by
  cases hx with
  | nil => exact ⟨[], VPs.nil S, by simp, fun j v h => by simp at h⟩
  | emp => exact ⟨[], VPs.nil S, by simp, fun j v h => by simp at h⟩
  | sl _ _ b off cap size' n u hn hc hm hfu hs' hu' hS hv =>
    have hl : xs.flatten.length = n * size := by rw [flat_len hu, hn]
    refine ⟨(List.range (n * size)).map u, ⟨by simp [hl], fun i x v h1 h2 => ?_⟩, by simp, fun j v h => ⟨b, off, rfl, ?_⟩⟩
    · have hi : i < n * size := by rw [← hl]; exact (List.getElem?_eq_some_iff.1 h1).1
      rw [List.getElem?_map, List.getElem?_range hi] at h2
      simp at h2; subst h2
      exact hv i x h1
    · have hj : j < n * size := by have := (List.getElem?_eq_some_iff.1 h).1; simpa using this
      rw [List.getElem?_map, List.getElem?_range hj] at h
      simp at h; subst h
      exact hS j _ (List.getElem?_eq_getElem (by rw [hl]; exact hj))
theorem VPs.append {S : Mem} {xs ys : List PV} {us vs : List Value} (h : VPs S xs us) (k : VPs S ys vs) : VPs S (xs ++ ys) (us ++ vs) := by
  refine ⟨by simp [h.1, k.1], fun i x v hx hv => ?_⟩
  by_cases hi : i < xs.length
  · rw [List.getElem?_append_left hi] at hx
    rw [List.getElem?_append_left (by rw [← h.1]; exact hi)] at hv
    exact h.2 i x v hx hv
  · rw [List.getElem?_append_right (by omega)] at hx
    rw [List.getElem?_append_right (by rw [← h.1]; omega), ← h.1] at hv
    exact k.2 _ x v hx hv
theorem below_new {B : Nat} {w : World} (hB : B ≤ w.heap.size) (o : Obj) : Bel B w (w.drew.alloc o) := ((Bel.refl B w).drew).alloc hB o
end
end Go.Aw
