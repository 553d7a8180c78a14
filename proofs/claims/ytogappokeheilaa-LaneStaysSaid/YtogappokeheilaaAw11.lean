/-
  An abstract memory for walks, part 11: one state seen as another; functions and their contracts.
-/
import Derived.Test.YtogappokeheilaaAw10
set_option linter.unusedVariables false
set_option linter.unusedSimpArgs false
namespace Go.Aw
open Go.RowKit

/-! ### States -/
def idsC (k : Nat) : Cell → Prop
  | .p _ => True
  | .own id _ => id < k
  | .ptr id _ => id < k
  | .ep id _ _ _ => id < k
  | .pp _ => True
  | .clo _ _ caps => ∀ q, q ∈ caps → q.1 < k
  | .yld id => id < k
  | .room id _ => id < k
  | .mp id => id < k
def idsL (k : Nat) : List Cell → Prop
  | [] => True
  | c :: cs => idsC k c ∧ idsL k cs
def idsB (k : Nat) : List (Bool × List Cell) → Prop
  | [] => True
  | (_, cs) :: r => idsL k cs ∧ idsB k r
def idsA (k : Nat) : AV → Prop
  | .any => True
  | .c x => idsC k x
  | .agg cs => idsL k cs
  | .tup bs => idsB k bs
  | .mark none => True
  | .mark (some id) => id < k
def idsS (k : Nat) : Slots → Prop
  | [] => True
  | (_, x) :: r => idsA k x ∧ idsS k r
def idsO (k : Nat) : List AObj → Prop
  | [] => True
  | .var cs :: r => idsL k cs ∧ idsO k r
  | .arr _ _ _ _ :: r => idsO k r
  | .dfr :: r => idsO k r
  | .loop L :: r => idsS k L.sl ∧ idsO k r
  | .map es :: r => idsL k (es.map (·.2)) ∧ idsO k r
  | .hole :: r => idsO k r
def SubS (k : Nat) (sl : Slots) : Slots → Prop
  | [] => True
  | (d, x) :: r => getS sl d = x ∧ idsA k x ∧ SubS k sl r
section
variable {P : Program} {n k : Nat} {sl sl' : Slots} {H H' : List AObj} {S : Mem} {m : List Loc} {B : Nat} {w : World}
theorem idsL_mem {j : Nat} : ∀ {cs : List Cell}, idsL j cs → ∀ c, c ∈ cs → idsC j c
  | [], _, c, h => by simp at h
  | c' :: cs, hl, c, h => by
    rcases List.mem_cons.1 h with rfl | h
    · exact hl.1
    · exact idsL_mem hl.2 c h
theorem idsO_get {j : Nat} : ∀ {H : List AObj}, idsO j H → ∀ (i : Nat) cs, H[i]? = some (.var cs) → idsL j cs
  | [], _, i, cs, h => by simp at h
  | .var ds :: r, hl, i, cs, h => by
    cases i with
    | zero => simp at h; subst h; exact hl.1
    | succ i => exact idsO_get hl.2 i cs (by simpa using h)
  | .arr T size frz es :: r, hl, i, cs, h => by
    cases i with
    | zero => simp at h
    | succ i => exact idsO_get (H := r) hl i cs (by rwa [List.getElem?_cons_succ] at h)
  | .dfr :: r, hl, i, cs, h => by
    cases i with
    | zero => simp at h
    | succ i => exact idsO_get (H := r) hl i cs (by rwa [List.getElem?_cons_succ] at h)
  | .loop L :: r, hl, i, cs, h => by
    cases i with
    | zero => simp at h
    | succ i => exact idsO_get (H := r) hl.2 i cs (by rwa [List.getElem?_cons_succ] at h)
  | .map es :: r, hl, i, cs, h => by
    cases i with
    | zero => simp at h
    | succ i => exact idsO_get (H := r) hl.2 i cs (by rwa [List.getElem?_cons_succ] at h)
  | .hole :: r, hl, i, cs, h => by
    cases i with
    | zero => simp at h
    | succ i => exact idsO_get (H := r) hl i cs (by rwa [List.getElem?_cons_succ] at h)
theorem idsO_loop {j : Nat} : ∀ {H : List AObj}, idsO j H → ∀ (i : Nat) L, H[i]? = some (.loop L) → idsS j L.sl
  | [], _, i, cs, h => by simp at h
  | o :: r, hl, 0, L, h => by
    simp at h; subst h
    exact hl.1
  | .var _ :: r, hl, i + 1, L, h => idsO_loop (H := r) hl.2 i L (by rwa [List.getElem?_cons_succ] at h)
  | .arr _ _ _ _ :: r, hl, i + 1, L, h => idsO_loop (H := r) hl i L (by rwa [List.getElem?_cons_succ] at h)
  | .dfr :: r, hl, i + 1, L, h => idsO_loop (H := r) hl i L (by rwa [List.getElem?_cons_succ] at h)
  | .loop _ :: r, hl, i + 1, L, h => idsO_loop (H := r) hl.2 i L (by rwa [List.getElem?_cons_succ] at h)
  | .map _ :: r, hl, i + 1, L, h => idsO_loop (H := r) hl.2 i L (by rwa [List.getElem?_cons_succ] at h)
  | .hole :: r, hl, i + 1, L, h => idsO_loop (H := r) hl i L (by rwa [List.getElem?_cons_succ] at h)
theorem idsO_map {j : Nat} : ∀ {H : List AObj}, idsO j H → ∀ (i : Nat) es, H[i]? = some (.map es) → idsL j (es.map (·.2))
  | [], _, i, cs, h => by simp at h
  | o :: r, hl, 0, L, h => by
    simp at h; subst h
    exact hl.1
  | .var _ :: r, hl, i + 1, L, h => idsO_map (H := r) hl.2 i L (by rwa [List.getElem?_cons_succ] at h)
  | .arr _ _ _ _ :: r, hl, i + 1, L, h => idsO_map (H := r) hl i L (by rwa [List.getElem?_cons_succ] at h)
  | .dfr :: r, hl, i + 1, L, h => idsO_map (H := r) hl i L (by rwa [List.getElem?_cons_succ] at h)
  | .loop _ :: r, hl, i + 1, L, h => idsO_map (H := r) hl.2 i L (by rwa [List.getElem?_cons_succ] at h)
  | .map _ :: r, hl, i + 1, L, h => idsO_map (H := r) hl.2 i L (by rwa [List.getElem?_cons_succ] at h)
  | .hole :: r, hl, i + 1, L, h => idsO_map (H := r) hl i L (by rwa [List.getElem?_cons_succ] at h)
theorem idsS_get {j : Nat} : ∀ {sl : Slots}, idsS j sl → ∀ d, idsA j (getS sl d)
  | [], _, d => trivial
  | (d', x) :: r, h, d => by
    simp only [getS]
    split
    · exact h.1
    · exact idsS_get h.2 d
theorem take_get {α : Type} {l : List α} {j i : Nat} (h : i < j) : (l.take j)[i]? = l[i]? := by rw [List.getElem?_take, if_pos h]
theorem VC.cut {j : Nat} {c : Cell} {v : Value} (h : VC S m H c v) (hi : idsC j c) : VC S (m.take j) (H.take j) c v := by
  cases c with
  | p x => exact h
  | own id n =>
    obtain ⟨T, size, frz, es, l, h1, h2, h3⟩ := h
    exact ⟨T, size, frz, es, l, by rw [take_get hi]; exact h1, by rw [take_get hi]; exact h2, h3⟩
  | ptr id off =>
    obtain ⟨b, cap, cs, h1, h2, h3⟩ := h
    exact ⟨b, cap, cs, by rw [take_get hi]; exact h1, by rw [take_get hi]; exact h2, h3⟩
  | ep id n i off =>
    obtain ⟨T, size, frz, es, l, h1, h2, h3⟩ := h
    exact ⟨T, size, frz, es, l, by rw [take_get hi]; exact h1, by rw [take_get hi]; exact h2, h3⟩
  | pp cells => exact h
  | clo f first caps =>
    obtain ⟨fs, cs, h1, h2, h3, h4⟩ := h
    refine ⟨fs, cs, h1, h2, h3, fun i q u hq hu => ?_⟩
    obtain ⟨b, cap, ds, k1, k2, k3⟩ := h4 i q u hq hu
    have hlt := hi q (List.mem_of_getElem? hq)
    exact ⟨b, cap, ds, by rw [take_get hlt]; exact k1, by rw [take_get hlt]; exact k2, k3⟩
  | yld id =>
    obtain ⟨b, cap, L, h1, h2, h3⟩ := h
    exact ⟨b, cap, L, by rw [take_get hi]; exact h1, by rw [take_get hi]; exact h2, h3⟩
  | room id n =>
    obtain ⟨T, size, frz, es, l, h1, h2, h3⟩ := h
    exact ⟨T, size, frz, es, l, by rw [take_get hi]; exact h1, by rw [take_get hi]; exact h2, h3⟩
  | mp id =>
    obtain ⟨b, cap, L, h1, h2, h3⟩ := h
    exact ⟨b, cap, L, by rw [take_get hi]; exact h1, by rw [take_get hi]; exact h2, h3⟩
theorem VCs.cut {j : Nat} {cs : List Cell} {vs : List Value} (h : VCs S m H cs vs) (hi : idsL j cs) : VCs S (m.take j) (H.take j) cs vs :=
  ⟨h.1, fun i c v a b => (h.2 i c v a b).cut (idsL_mem hi c (List.mem_of_getElem? a))⟩
theorem idsB_mem {j : Nat} : ∀ {bs : List (Bool × List Cell)}, idsB j bs → ∀ b, b ∈ bs → idsL j b.2
  | [], _, b, hb => by simp at hb
  | (f, cs) :: r, h, b, hb => by
    rcases List.mem_cons.1 hb with rfl | hb
    · exact h.1
    · exact idsB_mem h.2 b hb
theorem VB.cut {j : Nat} {b : Bool × List Cell} {v : Value} (h : VB S m H b v) (hi : idsL j b.2) : VB S (m.take j) (H.take j) b v := by
  obtain ⟨a, cs⟩ := b
  cases a with
  | false => obtain ⟨c, h1, h2⟩ := h; subst h1; exact ⟨c, rfl, h2.cut hi.1⟩
  | true => obtain ⟨vs, h1, h2⟩ := h; exact ⟨vs, h1, h2.cut hi⟩
theorem VA.cut {j : Nat} {x : AV} {v : Value} (h : VA S m H x v) (hi : idsA j x) : VA S (m.take j) (H.take j) x v := by
  cases x with
  | any => trivial
  | c x => exact VC.cut h hi
  | agg cs => obtain ⟨vs, h1, h2⟩ := h; exact ⟨vs, h1, h2.cut hi⟩
  | tup bs =>
    obtain ⟨vs, h1, h2, h3⟩ := h
    exact ⟨vs, h1, h2, fun i b u hb hu => (h3 i b u hb hu).cut (idsB_mem hi b (List.mem_of_getElem? hb))⟩
  | mark o => trivial
theorem Sim.cut {j : Nat} (s : Sim S m H B w) (hi : idsO j (H.take j)) : Sim S (m.take j) (H.take j) B w := by
  refine ⟨by simp [s.len], s.mem, s.base, fun id o l ho hl => ?_, fun i i' b c d h1 h2 => ?_⟩
  · have hlt : id < j := by have := (List.getElem?_eq_some_iff.1 ho).1; simp at this; omega
    rw [take_get hlt] at hl
    have ho' := ho
    rw [take_get hlt] at ho
    have hO := s.obj id o l ho hl
    cases o with
    | var cs =>
      cases l with
      | nil A => exact hO
      | at_ b c =>
        obtain ⟨h1, h2, cur, T, h3, h4⟩ := hO
        exact ⟨h1, h2, cur, T, h3, h4.cut (idsO_get hi id cs ho')⟩
    | arr T size frz es => cases l <;> exact hO
    | dfr => cases l <;> exact hO
    | loop L =>
      cases l with
      | nil A => exact hO
      | at_ b c =>
        obtain ⟨h1, fn, tmps, bd, h2, h5, h6⟩ := hO
        exact ⟨h1, fn, tmps, bd, h2, h5, fun d => (h6 d).cut (idsS_get (idsO_loop hi id L ho') d)⟩
    | map es =>
      cases l with
      | nil A => exact hO
      | at_ b c =>
        obtain ⟨h1, ents, clock, h2, h3, h4⟩ := hO
        exact ⟨h1, ents, clock, h2, h3, fun i k c e' hi' he => ⟨(h4 i k c e' hi' he).1, (h4 i k c e' hi' he).2.cut (idsL_mem (idsO_map hi id es ho') c (List.mem_map.2 ⟨(k, c), List.mem_of_getElem? hi', rfl⟩))⟩⟩
    | hole => cases l <;> exact hO
  · have a1 : i < j := by have := (List.getElem?_eq_some_iff.1 h1).1; simp at this; omega
    have a2 : i' < j := by have := (List.getElem?_eq_some_iff.1 h2).1; simp at this; omega
    rw [take_get a1] at h1
    rw [take_get a2] at h2
    exact s.inj i i' b c d h1 h2
theorem Ext.cut {j : Nat} {S0 : Mem} {m0 : List Loc} {H0 : List AObj} (e : Ext B S0 m0 H0 S m H) (hj : H0.length ≤ j) : Ext B S0 m0 H0 S (m.take j) (H.take j) := by
  refine ⟨e.mem, e.old, fun id o h hf => ?_, fun id T size frz es l h h' => ?_⟩
  · have hlt : id < j := Nat.lt_of_lt_of_le (List.getElem?_eq_some_iff.1 h).1 hj
    obtain ⟨⟨o', a, a'⟩, b⟩ := e.fix id o h hf
    exact ⟨⟨o', by rw [take_get hlt]; exact a, a'⟩, fun l hl => by rw [take_get hlt]; exact b l hl⟩
  · have hlt : id < j := Nat.lt_of_lt_of_le (List.getElem?_eq_some_iff.1 h).1 hj
    obtain ⟨f', es', l', a, b, c, d⟩ := e.arr id T size frz es l h h'
    exact ⟨f', es', l', by rw [take_get hlt]; exact a, by rw [take_get hlt]; exact b, c, d⟩
theorem SubS_get {j : Nat} {sl : Slots} : ∀ {sl' : Slots}, SubS j sl sl' → ∀ d, getS sl' d = .any ∨ (getS sl' d = getS sl d ∧ idsA j (getS sl' d))
  | [], _, d => .inl rfl
  | (d', x) :: r, h, d => by
    simp only [getS]
    by_cases hd : d = d'
    · subst hd
      rw [if_pos rfl]
      exact .inr ⟨h.1.symm, h.2.1⟩
    · rw [if_neg hd]
      exact SubS_get h.2.2 d
/-- The pseudo-slot may be forgotten, unless a block of deferred calls is held. -/
def keepD (j : Nat) : AV → AV → Prop
  | .mark (some id), y => y = .mark (some id) ∧ id < j
  | .mark none, .mark none => True
  | _, .mark _ => False
  | _, _ => True
theorem DefOk.keep {ro : Option Nat} {ds : List Deferred} {j : Nat} {x y : AV} (h : DefOk ro m H ds x) (hk : keepD j x y) : DefOk ro (m.take j) (H.take j) ds y := by
  match x, y, hk with
  | .mark (some id), _, ⟨rfl, hj⟩ =>
    obtain ⟨h1, b, c, h2, h3, h4⟩ := h
    exact ⟨h1, b, c, by rw [take_get hj]; exact h2, by rw [take_get hj]; exact h3, h4⟩
  | .mark none, .mark none, _ => exact h
  | .mark none, .any, _ => exact h.2
  | .mark none, .c _, _ => exact h.2
  | .mark none, .agg _, _ => exact h.2
  | .mark none, .tup _, _ => exact h.2
  | .any, .any, _ => exact h
  | .any, .c _, _ => exact h
  | .any, .agg _, _ => exact h
  | .any, .tup _, _ => exact h
  | .c _, .any, _ => exact h
  | .c _, .c _, _ => exact h
  | .c _, .agg _, _ => exact h
  | .c _, .tup _, _ => exact h
  | .agg _, .any, _ => exact h
  | .agg _, .c _, _ => exact h
  | .agg _, .agg _, _ => exact h
  | .agg _, .tup _, _ => exact h
  | .tup _, .any, _ => exact h
  | .tup _, .c _, _ => exact h
  | .tup _, .agg _, _ => exact h
  | .tup _, .tup _, _ => exact h
/-- Slots that nobody asks for are forgotten, and the last objects, if nothing names them. -/
theorem Sub.of (j : Nat) (hj : k ≤ j) (hH : H' = H.take j) (ho : idsO j H') (hs : SubS j sl sl') (hd : keepD j (getS sl DEF) (getS sl' DEF)) : Sub n k sl H sl' H' := by
  subst hH
  rintro cx hk a w ⟨S, m, s, e, b, r⟩
  refine ⟨S, m.take j, s.cut ho, e.cut (by omega), b, r.defers.keep hd, r.big, r.size, fun d => ?_⟩
  rcases SubS_get hs d with h | ⟨h1, h2⟩
  · rw [h]; trivial
  · rw [h1] at h2 ⊢; exact (r.slot d).cut h2
theorem Sub.refl : Sub n k sl H sl H := fun cx _ a w h => h
theorem Sub.trans {sl1 : Slots} {H1 : List AObj} (h : Sub n k sl H sl1 H1) (g : Sub n k sl1 H1 sl' H') : Sub n k sl H sl' H' := fun cx hk a w hi => g cx hk a w (h cx hk a w hi)
/-- A nil slice in a slot becomes an array of ours that is empty. -/
theorem Sub.promote (d T size : Nat) (hs : 0 < size) (hd : getS sl d = .c (.p (.sl true []))) : Sub n k sl H ((d, .c (.own H.length 0)) :: sl) (H ++ [.arr T size 0 []]) := by
  rintro cx hk a w ⟨S, m, s, e, b, r⟩
  have hv := r.slot d
  rw [hd] at hv
  obtain ⟨A, hA⟩ := VP.empty_form (show VP S (.sl true []) _ from hv) rfl
  obtain ⟨s2, e2, hv2⟩ := s.newNil T size hs A
  refine ⟨S, _, s2, e.trans e2, b, ?_, r.big, r.size, fun d' => ?_⟩
  · have h0 := r.defers
    simp only [getS]
    by_cases hdd : DEF = d
    · subst hdd
      rw [hd] at h0
      rw [if_pos rfl]; exact h0
    · rw [if_neg hdd]; exact h0.ext e2
  simp only [getS]
  by_cases h : d' = d
  · subst h
    rw [if_pos rfl, hA]
    exact hv2
  · rw [if_neg h]; exact (r.slot d').ext e2
/-- The same in a variable's cell. -/
theorem Sub.promoteVar (id T size : Nat) (hs : 0 < size) (hd : H[id]? = some (.var [.p (.sl true [])])) : Sub n k sl H sl (H.set id (.var [.own H.length 0]) ++ [.arr T size 0 []]) := by
  rintro cx hk a w ⟨S, m, s, e, b, r⟩
  obtain ⟨l, hl, hO⟩ := s.loc hd
  cases l with
  | nil A => exact hO.elim
  | at_ bb cap =>
    obtain ⟨h1, h2, cur, T0, h3, h4⟩ := hO
    obtain ⟨v, rfl⟩ : ∃ v, cur = [v] := by
      have := h4.1
      match cur, this with
      | [v], _ => exact ⟨v, rfl⟩
    have hv := h4.2 0 _ v rfl rfl
    obtain ⟨A, hA⟩ := VP.empty_form (show VP S (.sl true []) _ from hv) rfl
    obtain ⟨s2, e2, hv2⟩ := s.newNil T size hs A
    have hid : id < H.length := (List.getElem?_eq_some_iff.1 hd).1
    have hd2 : (H ++ [.arr T size 0 []])[id]? = some (.var [.p (.sl true [])]) := by rw [List.getElem?_append_left hid]; exact hd
    have hl2 : (m ++ [.nil A])[id]? = some (.at_ bb cap) := by rw [List.getElem?_append_left (by rw [s.len]; exact hid)]; exact hl
    subst hA
    obtain ⟨s3, e3⟩ := s2.setVar (cs' := [.own H.length 0]) hd2 hl2 (w' := w) h3 (fun _ _ => rfl) rfl (VCs.cons hv2 (VCs.nil _ _ _))
    have hset : (H ++ [AObj.arr T size 0 []]).set id (.var [.own H.length 0]) = H.set id (.var [.own H.length 0]) ++ [.arr T size 0 []] := by
      rw [List.set_append, if_pos hid]
    rw [hset] at s3 e3
    have ee := e2.trans e3
    exact ⟨S, _, s3, e.trans ee, b, r.ext ee⟩

/-! ### Functions -/
def resB (K : Bool × List Cell → Prop) : AV → Prop
  | .c x => K (false, [x])
  | .agg cs => K (true, cs)
  | _ => False
def aRes (P : Program) (sl : Slots) (H : List AObj) : List ResultVar → (List (Bool × List Cell) → Prop) → Prop
  | [], K => K []
  | .tmp t :: r, K => resB (fun b => aRes P sl H r fun l => K (b :: l)) (getS sl t)
  | .cell a t :: r, K => aLoad P t (getS sl a) H fun x _ => resB (fun b => aRes P sl H r fun l => K (b :: l)) x
def oneB : Bool × List Cell → AV
  | (false, [x]) => .c x
  | (true, cs) => .agg cs
  | _ => .any
def isFree : AV → Bool
  | .mark (some _) => false
  | _ => true
def aRet (P : Program) (fn : Func) (sl : Slots) (H : List AObj) (K : AV → Prop) : Prop :=
  isFree (getS sl DEF) = true ∧ aRes P sl H fn.results.toList fun l => match l with
    | [b] => K (oneB b)
    | l => K (.tup l)
def aPost (P : Program) (fn : Func) (K : AV → List AObj → Prop) : Exit → Slots → List AObj → Prop
  | .normal, sl, H | .ret, sl, H => aRet P fn sl H fun x => K x H
  | _, _, _ => False
theorem VB_of {x : AV} {v : Value} {K : Bool × List Cell → Prop} (hv : VA S m H x v) (h : resB K x) : ∃ b, VB S m H b v ∧ K b := by
  cases x with
  | any => exact h.elim
  | tup _ => exact h.elim
  | mark _ => exact h.elim
  | c x => exact ⟨(false, [x]), ⟨x, rfl, hv⟩, h⟩
  | agg cs => exact ⟨(true, cs), hv, h⟩
def resOf (tmps : Array Value) : ResultVar → Sem Value
  | .tmp t => pure (tmps.getD t undef)
  | .cell a t => do loadVar t (← asAddr (tmps.getD a undef))
theorem aRes_ok {ro : Option Nat} {a : Act} (s : Sim S m H B w) (r : ARel ro S m H n sl a) : ∀ {rs : List ResultVar} {K : List (Bool × List Cell) → Prop}, aRes P sl H rs K →
    ∃ vs : List Value, (rs.mapM (resOf a.tmps)).run P w = .ok vs w ∧ ∃ l : List (Bool × List Cell), l.length = vs.length ∧ (∀ (i : Nat) b u, l[i]? = some b → vs[i]? = some u → VB S m H b u) ∧ K l
  | [], K, h => ⟨[], by simp, [], rfl, fun i b u h => by simp at h, h⟩
  | .tmp t :: rs, K, h => by
    have hv := r.slot t
    simp only [aRes] at h
    obtain ⟨b, hb, h⟩ := VB_of hv h
    obtain ⟨vs, h1, l, h2, h3, h4⟩ := aRes_ok s r h
    refine ⟨a.tmps.getD t undef :: vs, ?_, b :: l, by simp [h2], fun i b' u hb' hu => ?_, h4⟩
    · rw [List.mapM_cons, Sem.run_bind]
      show ((resOf a.tmps (.tmp t)).run P w).andThen _ = _
      simp only [resOf, Sem.run_pure, Result.andThen_ok, Sem.run_bind, h1]
    · cases i with
      | zero =>
        rw [List.getElem?_cons_zero] at hb' hu
        cases hb'; cases hu; exact hb
      | succ i => exact h3 i b' u (by simpa using hb') (by simpa using hu)
  | .cell q t :: rs, K, h => by
    have hv := r.slot q
    simp only [aRes] at h
    obtain ⟨v, x, hr, hx, h⟩ := same_load s hv h
    obtain ⟨b, hb, h⟩ := VB_of hx h
    obtain ⟨vs, h1, l, h2, h3, h4⟩ := aRes_ok s r h
    have hload : (resOf a.tmps (.cell q t)).run P w = .ok v w := by
      show (do loadVar t (← asAddr (a.tmps.getD q undef)) : Sem Value).run P w = .ok v w
      have gen : ∀ z : Value, (Instr.loadAt t z).run P w = .ok v w → (do loadVar t (← asAddr z) : Sem Value).run P w = .ok v w := by
        intro z hz
        unfold Instr.loadAt Instr.sureAddr at hz
        cases z with
        | pointer p => cases p with
          | none => simp at hz
          | some p => simpa [asAddr] using hz
        | _ => simp at hz
      exact gen _ hr
    refine ⟨v :: vs, ?_, b :: l, by simp [h2], fun i b' u hb' hu => ?_, h4⟩
    · rw [List.mapM_cons, Sem.run_bind, hload]
      simp only [Sem.run_pure, Result.andThen_ok, Sem.run_bind, h1]
    · cases i with
      | zero =>
        rw [List.getElem?_cons_zero] at hb' hu
        cases hb'; cases hu; exact hb
      | succ i => exact h3 i b' u (by simpa using hb') (by simpa using hu)
theorem aRet_ok {ro : Option Nat} {a : Act} (s : Sim S m H B w) (r : ARel ro S m H n sl a) {fn : Func} {K : AV → Prop} (h : aRet P fn sl H K) : a.defers = [] ∧ ∃ v x, (results fn a.tmps).run P w = .ok v w ∧ VA S m H x v ∧ K x := by
  have hdf : a.defers = [] := by
    have h0 := r.defers
    have h1 := h.1
    generalize getS sl DEF = y at h0 h1
    match y, h0, h1 with
    | .mark none, h0, _ => exact h0.2
    | .any, h0, _ => exact h0
    | .c _, h0, _ => exact h0
    | .agg _, h0, _ => exact h0
    | .tup _, h0, _ => exact h0
  refine ⟨hdf, ?_⟩
  obtain ⟨vs, h1, l, h2, h3, h4⟩ := aRes_ok s r h.2
  have hr : (results fn a.tmps).run P w = .ok (if h : vs.toArray.size = 1 then vs.toArray[0] else .tuple vs.toArray) w := by
    have hf : results fn a.tmps = (do let vs ← fn.results.mapM (resOf a.tmps); pure (if h : vs.size = 1 then vs[0] else .tuple vs)) := by
      unfold results
      congr 1
    rw [hf, Array.mapM_eq_mapM_toList]
    simp only [Sem.run_bind, Sem.run_map]
    rw [h1]
    simp
  refine ⟨_, ?_, hr, ?_⟩
  · exact match l with
      | [b] => oneB b
      | l => .tup l
  · match l, vs, h2, h3, h4 with
    | [], [], h2, h3, h4 => exact ⟨⟨[], rfl, rfl, fun i b u hb => by simp at hb⟩, h4⟩
    | [b], [v], h2, h3, h4 =>
      refine ⟨?_, h4⟩
      have hb := h3 0 b v rfl rfl
      obtain ⟨f, cs⟩ := b
      cases f with
      | true => exact hb
      | false => obtain ⟨c, rfl, hc⟩ := hb; exact hc
    | b1 :: b2 :: l, v1 :: v2 :: vs, h2, h3, h4 =>
      refine ⟨⟨v1 :: v2 :: vs, ?_, h2, h3⟩, h4⟩
      rw [dif_neg (by simp)]
def argSlots (xs : List AV) : Slots := xs.zipIdx.map fun q => (q.2, q.1)
theorem getS_args {xs : List AV} : ∀ (j d : Nat), getS ((xs.zipIdx j).map fun q => (q.2, q.1)) d = if j ≤ d then xs.getD (d - j) .any else .any := by
  induction xs with
  | nil => intro j d; simp [getS]
  | cons x xs ih =>
    intro j d
    simp only [List.zipIdx_cons, List.map_cons, getS]
    by_cases h : d = j
    · subst h; simp
    · rw [if_neg h, ih (j + 1) d]
      by_cases hj : j ≤ d
      · rw [if_pos hj, if_pos (by omega), show d - j = (d - (j + 1)) + 1 by omega]; rfl
      · rw [if_neg hj, if_neg (by omega)]
theorem ACall.of_AW {f : FuncId} {fn : Func} {c : Code} {args : List AV} {K : AV → List AObj → Prop} (he : Enters P f) (hf : P.funcs[f]? = some fn) (hb : fn.body = some c) (hn : args.length ≤ fn.ntmps ∧ fn.ntmps ≤ 1000000)
    (h : AW P fn.ntmps H.length c (aPost P fn K) (argSlots args) H) : ACall P f args H K := by
  refine ⟨he, fun S m B w vs s hv => calls_of_wp hf hb (wpIn_wide (n := 0).1 ?_)⟩
  let cx : Cx := ⟨B, S, m, H, w, none⟩
  have hin : InSt cx fn.ntmps (argSlots args) H { tmps := vs.toArray ++ Array.replicate (fn.ntmps - vs.toArray.size) undef, defers := [] } w := by
    refine ⟨S, m, s, Ext.refl B S m H, Bel.refl B w, ?_, hn.2, ?_, fun d => ?_⟩
    · unfold argSlots
      rw [getS_args 0 DEF, if_pos (Nat.zero_le _), Nat.sub_zero]
      have e1 : args.getD DEF .any = .any := by
        have := hn.1; have := hn.2
        simp [List.getD_eq_getElem?_getD, List.getElem?_eq_none (show args.length ≤ DEF from Nat.le_trans hn.1 hn.2)]
      rw [e1]; exact rfl
    · have := hv.1
      have := hn.1
      simp; omega
    · unfold argSlots
      rw [getS_args 0 d, if_pos (Nat.zero_le _), Nat.sub_zero]
      by_cases hd : d < args.length
      · have hdv : d < vs.length := by rw [← hv.1]; exact hd
        have e1 : args.getD d .any = args[d] := by simp [List.getD_eq_getElem?_getD, hd]
        have e2 : (vs.toArray ++ Array.replicate (fn.ntmps - vs.toArray.size) undef).getD d undef = vs[d] := by
          rw [Array.getD_eq_getD_getElem?, Array.getElem?_append_left (by simpa using hdv)]
          simp [hdv]
        rw [e1, e2]
        exact hv.2 d _ _ (List.getElem?_eq_getElem hd) (List.getElem?_eq_getElem hdv)
      · have e1 : args.getD d .any = .any := by simp [List.getD_eq_getElem?_getD, List.getElem?_eq_none (show args.length ≤ d by omega)]
        rw [e1]; trivial
  refine wpIn_mono (h cx rfl _ w hin) ?_
  rintro e a' w' ⟨sl', H', ⟨S', m', s', e', b', r'⟩, hq⟩
  have fin : aRet P fn sl' H' (fun x => K x H') → a'.defers = [] ∧ ∃ v, (results fn a'.tmps).run P w' = .ok v w' ∧ ∃ u, Ending.returned v = .returned u ∧ Post B S m H w K u w' := fun hq => by
    obtain ⟨hdf, v, x, h1, h2, h3⟩ := aRet_ok s' r' hq
    exact ⟨hdf, v, h1, v, rfl, S', m', H', x, s', e', b', h2, h3⟩
  cases e with
  | normal => exact fin hq
  | ret => exact fin hq
  | _ => exact hq.elim

/-! ### Contracts on what nobody changes -/
abbrev PB := Bool × List PV
inductive PR where
  | one (b : PB)
  | tup (bs : List PB)
def pbAV : PB → AV
  | (false, [x]) => .c (.p x)
  | (false, _) => .any
  | (true, xs) => .agg (xs.map .p)
def pbB (b : PB) : Bool × List Cell := (b.1, b.2.map .p)
def prAV : PR → AV
  | .one b => pbAV b
  | .tup bs => .tup (bs.map pbB)
def ValidM (S : Mem) (w : World) : Prop := ∀ b o v, S b o = some v → w.cell? ⟨b, o, none⟩ = some v
def VPB (S : Mem) (b : PB) (v : Value) : Prop := VB S [] [] (pbB b) v
def VPBs (S : Mem) (bs : List PB) (vs : List Value) : Prop := bs.length = vs.length ∧ ∀ (i : Nat) b v, bs[i]? = some b → vs[i]? = some v → VPB S b v
def VPR (S : Mem) : PR → Value → Prop
  | .one b, v => VPB S b v
  | .tup bs, v => ∃ vs : List Value, v = .tuple vs.toArray ∧ VPBs S bs vs
/-- The call computes r, and makes memory of its own alone. -/
def PC (P : Program) (f : FuncId) (args : List PB) (r : PR) : Prop :=
  Enters P f ∧ ∀ (S : Mem) (w : World) (vs : List Value), ValidM S w → VPBs S args vs →
    Calls P f vs.toArray w fun e w' => ∃ v S', e = .returned v ∧ S.le S' ∧ OldMem w.heap.size S S' ∧ ValidM S' w' ∧ Below w.heap.size w w' ∧ VPR S' r v

theorem VCs_p {xs : List PV} {vs : List Value} (m' : List Loc) (H' : List AObj) (h : VCs S m H (xs.map .p) vs) : VCs S m' H' (xs.map .p) vs := by
  refine ⟨h.1, fun i c v hc hv => ?_⟩
  have := h.2 i c v hc hv
  rw [List.getElem?_map] at hc
  cases hx : xs[i]? with
  | none => simp [hx] at hc
  | some x => simp [hx] at hc; subst hc; exact this
theorem VB_p {b : PB} {v : Value} (m' : List Loc) (H' : List AObj) (h : VB S m H (pbB b) v) : VB S m' H' (pbB b) v := by
  obtain ⟨f, xs⟩ := b
  cases f with
  | true => obtain ⟨vs, h1, h2⟩ := h; exact ⟨vs, h1, VCs_p m' H' h2⟩
  | false =>
    obtain ⟨c, h1, h2⟩ := h
    refine ⟨c, h1, ?_⟩
    have : c ∈ xs.map Cell.p := by rw [h1]; simp
    obtain ⟨x, _, rfl⟩ := List.mem_map.1 this
    exact h2
theorem VPR.av {r : PR} {v : Value} (h : VPR S r v) (m : List Loc) (H : List AObj) : VA S m H (prAV r) v := by
  cases r with
  | one b =>
    have hb := VB_p m H h
    obtain ⟨f, xs⟩ := b
    cases f with
    | true => exact hb
    | false =>
      obtain ⟨c, h1, h2⟩ := hb
      match xs, h1 with
      | [x], h1 => simp at h1; subst h1; exact h2
  | tup bs =>
    obtain ⟨vs, h1, h2, h3⟩ := h
    refine ⟨vs, h1, by simpa using h2, fun i b u hb hu => ?_⟩
    rw [List.getElem?_map] at hb
    cases hx : bs[i]? with
    | none => simp [hx] at hb
    | some x => simp [hx] at hb; subst hb; exact VB_p m H (h3 i x u hx hu)

def frzV (H : List AObj) : AV → Option (PB × List AObj)
  | .c x => match frzC H x with
    | some (y, H1) => some ((false, [lo y]), H1)
    | none => none
  | .agg cs => match frzs H cs with
    | some (ys, H1) => some ((true, ys.map lo), H1)
    | none => none
  | _ => none
def frzVs (H : List AObj) : List AV → Option (List PB × List AObj)
  | [] => some ([], H)
  | x :: xs => match frzV H x with
    | some (b, H1) => match frzVs H1 xs with
      | some (bs, H2) => some (b :: bs, H2)
      | none => none
    | none => none
theorem frzV_ok (s : Sim S m H B w) {x : AV} {v : Value} (hv : VA S m H x v) {b : PB} (h : frzV H x = some (b, H')) : ∃ S', Sim S' m H' B w ∧ Ext B S m H S' m H' ∧ VPB S' b v := by
  cases x with
  | any => simp [frzV] at h
  | tup _ => simp [frzV] at h
  | mark _ => simp [frzV] at h
  | c x =>
    simp only [frzV] at h
    cases hf : frzC H x with
    | none => simp [hf] at h
    | some q =>
      obtain ⟨y, H1⟩ := q
      simp only [hf, Option.some.injEq, Prod.mk.injEq] at h
      obtain ⟨rfl, rfl⟩ := h
      obtain ⟨S', h1, h2, h3⟩ := frzC_ok s hv hf
      exact ⟨S', h1, h2, _, rfl, VP.lo h3⟩
  | agg cs =>
    simp only [frzV] at h
    cases hf : frzs H cs with
    | none => simp [hf] at h
    | some q =>
      obtain ⟨ys, H1⟩ := q
      simp only [hf, Option.some.injEq, Prod.mk.injEq] at h
      obtain ⟨rfl, rfl⟩ := h
      obtain ⟨vs, rfl, hvs⟩ := hv
      obtain ⟨S', h1, h2, h3⟩ := frzs_ok s hvs hf
      exact ⟨S', h1, h2, vs, rfl, h3.lo.cells⟩
theorem VPB.mono {S S' : Mem} (hS : S.le S') {b : PB} {v : Value} (h : VPB S b v) : VPB S' b v :=
  VB.ext (B := 0) ⟨hS, fun b o hb => by omega, fun id o h => by simp at h, fun id T size frz es l h => by simp at h⟩ h
theorem frzVs_ok : ∀ {xs : List AV} {vs : List Value} {H H' : List AObj} {S : Mem} {bs : List PB}, Sim S m H B w → VAs S m H xs vs → frzVs H xs = some (bs, H') → ∃ S', Sim S' m H' B w ∧ Ext B S m H S' m H' ∧ VPBs S' bs vs
  | [], vs, H, H', S, bs, s, hv, h => by
    simp [frzVs] at h
    obtain ⟨rfl, rfl⟩ := h
    exact ⟨S, s, Ext.refl B S m H, hv.1, fun i b v hb => by simp at hb⟩
  | x :: xs, [], H, H', S, bs, s, hv, h => by simp [VAs] at hv
  | x :: xs, v :: vs, H, H', S, bs, s, hv, h => by
    have h0 := hv.2 0 x v rfl rfl
    have ht : VAs S m H xs vs := ⟨by simpa using hv.1, fun i x v a b => hv.2 (i + 1) x v (by simpa using a) (by simpa using b)⟩
    simp only [frzVs] at h
    cases h1 : frzV H x with
    | none => simp [h1] at h
    | some q =>
      obtain ⟨b, H1⟩ := q
      simp only [h1] at h
      cases h2 : frzVs H1 xs with
      | none => simp [h2] at h
      | some q =>
        obtain ⟨bs', H2⟩ := q
        simp only [h2, Option.some.injEq, Prod.mk.injEq] at h
        obtain ⟨rfl, rfl⟩ := h
        obtain ⟨S1, s1, e1, p1⟩ := frzV_ok s h0 h1
        obtain ⟨S2, s2, e2, l2, p2⟩ := frzVs_ok s1 (ht.ext e1) h2
        refine ⟨S2, s2, e1.trans e2, by simp [l2], fun i b' u hb hu => ?_⟩
        cases i with
        | zero => simp at hb hu; subst hb; subst hu; exact p1.mono e2.mem
        | succ i => exact p2 i b' u (by simpa using hb) (by simpa using hu)
/-- A contract serves at a call. -/
theorem ACall.pure {f : FuncId} {args : List AV} {pargs : List PB} {r : PR} {K : AV → List AObj → Prop} (hc : PC P f pargs r) (hf : frzVs H args = some (pargs, H')) (hk : K (prAV r) H') : ACall P f args H K := by
  refine ⟨hc.1, fun S m B w vs s hv => ?_⟩
  obtain ⟨S1, s1, e1, p1⟩ := frzVs_ok s hv hf
  refine (hc.2 S1 w vs s1.mem p1).mono fun e w' ⟨v, S2, he, hle, hold, hval, hb, hr⟩ => ?_
  obtain ⟨s2, e2⟩ := s1.grow (S' := S2) (w' := w') (fun k hk => hb.block k hk) hb.size hold (fun b o v _ h => hval b o v h)
  exact ⟨v, he, S2, m, H', prAV r, s2, e1.trans e2, Bel.of_old ⟨hb.os, hb.tape, hb.output, hb.size, fun k hk => hb.block k (Nat.lt_of_lt_of_le hk s.base)⟩ (fun k hk => hb.block k hk), hr.av m H', hk⟩
/-- The results, as they are handed on. -/
def frzR (H : List AObj) : AV → Option PR
  | .tup bs => match frzVs H (bs.map oneB) with
    | some (ps, _) => some (.tup ps)
    | none => none
  | .c x => match frzC H x with
    | some (y, _) => some (.one (false, [y]))
    | none => none
  | x => match frzV H x with
    | some (b, _) => some (.one b)
    | none => none
theorem Sim.start {w : World} {S : Mem} (h : ValidM S w) : Sim S [] [] w.heap.size w :=
  ⟨rfl, h, Nat.le_refl _, fun id o l h => by simp at h, fun i j b c d h => by simp at h⟩
theorem VPBs.VAs {bs : List PB} {vs : List Value} (h : VPBs S bs vs) (m : List Loc) (H : List AObj) : VAs S m H (bs.map pbAV) vs := by
  refine ⟨by simpa using h.1, fun i x v hx hv => ?_⟩
  rw [List.getElem?_map] at hx
  cases hb : bs[i]? with
  | none => simp [hb] at hx
  | some b => simp [hb] at hx; subst hx; exact VPR.av (r := .one b) (h.2 i b v hb hv) m H
theorem PC.of_ACall {f : FuncId} {pargs : List PB} {r : PR} (h : ACall P f (pargs.map pbAV) [] fun x H' => frzR H' x = some r) : PC P f pargs r := by
  refine ⟨h.1, fun S w vs hS hv => (h.2 S [] w.heap.size w vs (Sim.start hS) (hv.VAs [] [])).mono fun e w' ⟨v, he, S', m', H', x, s', e', b', hx, hk⟩ => ?_⟩
  subst he
  have conc : ∀ S2 H2, Sim S2 m' H2 w.heap.size w' → Ext w.heap.size S' m' H' S2 m' H2 → VPR S2 r v → ∃ u S', Ending.returned v = .returned u ∧ S.le S' ∧ OldMem w.heap.size S S' ∧ ValidM S' w' ∧ Below w.heap.size w w' ∧ VPR S' r u := fun S2 H2 s2 e2 hr =>
    ⟨v, S2, rfl, Mem.le_trans e'.mem e2.mem, fun b o hb => (e2.old b o hb).trans (e'.old b o hb), s2.mem, b'.below, hr⟩
  cases x with
  | any => simp [frzR, frzV] at hk
  | mark _ => simp [frzR, frzV] at hk
  | c x =>
    simp only [frzR] at hk
    cases hf : frzC H' x with
    | none => simp [hf] at hk
    | some q =>
      obtain ⟨b, H2⟩ := q
      simp [hf] at hk; subst hk
      obtain ⟨S2, s2, e2, p2⟩ := frzC_ok s' hx hf
      exact conc S2 H2 s2 e2 ⟨_, rfl, p2⟩
  | agg cs =>
    simp only [frzR] at hk
    cases hf : frzV H' (.agg cs) with
    | none => simp [hf] at hk
    | some q =>
      obtain ⟨b, H2⟩ := q
      simp [hf] at hk; subst hk
      obtain ⟨S2, s2, e2, p2⟩ := frzV_ok s' hx hf
      exact conc S2 H2 s2 e2 p2
  | tup bs =>
    simp only [frzR] at hk
    obtain ⟨us, rfl, hl, hu⟩ := hx
    cases hf : frzVs H' (bs.map oneB) with
    | none => simp [hf] at hk
    | some q =>
      obtain ⟨ps, H2⟩ := q
      simp [hf] at hk; subst hk
      obtain ⟨S2, s2, e2, p2⟩ := frzVs_ok s' (vs := us) ⟨by simpa using hl, fun i x u hx hui => by
        rw [List.getElem?_map] at hx
        cases hb : bs[i]? with
        | none => simp [hb] at hx
        | some b =>
          simp [hb] at hx; subst hx
          have := hu i b u hb hui
          obtain ⟨fl, cs⟩ := b
          cases fl with
          | true => exact this
          | false => obtain ⟨c, rfl, hc⟩ := this; exact hc⟩ hf
      exact conc S2 H2 s2 e2 ⟨us, rfl, p2⟩
end
end Go.Aw
