/-
  An abstract memory for walks, part 3: what single operations do: reading and writing places, making variables.
-/
import Derived.Test.YtogappokeheilaaAw2
import Derived.Deep.MidRow
import Derived.Great.BuildSlice
set_option linter.unusedVariables false
set_option linter.unusedSimpArgs false
namespace Go.Aw
open Go.RowKit

/-- Constants. -/
def absP : Value → Option PV
  | .int k n => some (.int k n)
  | .bool b => some (.bool b)
  | .string s => some (.str s)
  | .slice none 0 0 => some (.sl true [])
  | .pointer none => some .nilp
  | .nilFunc => some .nilfn
  | .nilIface => some .nilif
  | _ => none
def absL : List Value → Option (List PV)
  | [] => some []
  | v :: vs => match absP v, absL vs with
    | some x, some xs => some (x :: xs)
    | _, _ => none
def absA : Value → AV
  | .agg cs => match absL cs.toList with
    | some xs => .agg (xs.map .p)
    | none => .any
  | v => match absP v with
    | some x => .c (.p x)
    | none => .any
theorem absP_ok (S : Mem) {v : Value} {x : PV} (h : absP v = some x) : VP S x v := by
  unfold absP at h
  split at h <;> cases h
  · exact .int _ _
  · exact .bool _
  · exact .str _
  · exact .nil true
  · exact .nilp
  · exact .nilfn
  · exact .nilif
theorem VPs.nil (S : Mem) : VPs S [] [] := ⟨rfl, fun i x v h => by simp at h⟩
theorem VPs.cons {S : Mem} {x : PV} {v : Value} {xs : List PV} {vs : List Value} (h : VP S x v) (hs : VPs S xs vs) : VPs S (x :: xs) (v :: vs) := by
  refine ⟨by simp [hs.1], fun i y u hy hu => ?_⟩
  cases i with
  | zero => simp at hy hu; subst hy; subst hu; exact h
  | succ i => exact hs.2 i y u (by simpa using hy) (by simpa using hu)
theorem absL_ok (S : Mem) : ∀ {vs : List Value} {xs : List PV}, absL vs = some xs → VPs S xs vs
  | [], xs, h => by simp [absL] at h; subst h; exact .nil S
  | v :: vs, xs, h => by
    simp only [absL] at h
    split at h
    · rename_i x ys h1 h2
      cases h
      exact VPs.cons (absP_ok S h1) (absL_ok S h2)
    · cases h
theorem VCs.nil (S : Mem) (m : List Loc) (H : List AObj) : VCs S m H [] [] := ⟨rfl, fun i x v h => by simp at h⟩
theorem VCs.cons {S : Mem} {m : List Loc} {H : List AObj} {x : Cell} {v : Value} {xs : List Cell} {vs : List Value} (h : VC S m H x v) (hs : VCs S m H xs vs) : VCs S m H (x :: xs) (v :: vs) := by
  refine ⟨by simp [hs.1], fun i y u hy hu => ?_⟩
  cases i with
  | zero => simp at hy hu; subst hy; subst hu; exact h
  | succ i => exact hs.2 i y u (by simpa using hy) (by simpa using hu)
theorem VPs.cells {S : Mem} {m : List Loc} {H : List AObj} {xs : List PV} {vs : List Value} (h : VPs S xs vs) : VCs S m H (xs.map .p) vs := by
  refine ⟨by simp [h.1], fun i c v hc hv => ?_⟩
  rw [List.getElem?_map] at hc
  cases hx : xs[i]? with
  | none => simp [hx] at hc
  | some x => simp [hx] at hc; subst hc; exact h.2 i x v hx hv
theorem absA_ok (S : Mem) (m : List Loc) (H : List AObj) (v : Value) : VA S m H (absA v) v := by
  unfold absA
  split
  · rename_i cs
    split
    · rename_i xs h
      exact ⟨cs.toList, by simp, (absL_ok S h).cells⟩
    · trivial
  · split
    · rename_i x h; exact absP_ok S h
    · trivial

def ev (sl : List (Nat × AV)) : Operand → AV
  | .tmp t => getS sl t
  | .const v => absA v
  | .func f => .c (.p (.fn f))
  | .global _ => .any

/-- The pseudo-slot that tells of an activation's deferred calls. -/
def DEF : Nat := 1000000
/-- 'mark none': no round of a loop, and nothing deferred; 'mark (some id)': likewise, and a block of deferred calls is held, in which there is none. -/
def DefOk (ro : Option Nat) (m : List Loc) (H : List AObj) (ds : List Deferred) : AV → Prop
  | .mark none => ro = none ∧ ds = []
  | .mark (some id) => ro = none ∧ ∃ b c, m[id]? = some (.at_ b c) ∧ H[id]? = some .dfr ∧ ds = [{ target := .collected b, args := #[] }]
  | _ => ds = []
theorem DefOk.ext {B : Nat} {S S' : Mem} {m m' : List Loc} {H H' : List AObj} {ro : Option Nat} {ds : List Deferred} {x : AV} (h : DefOk ro m H ds x) (e : Ext B S m H S' m' H') : DefOk ro m' H' ds x := by
  match x, h with
  | .mark none, h => exact h
  | .mark (some id), ⟨h1, b, c, h2, h3, h4⟩ =>
    obtain ⟨⟨o', a1, a2⟩, a3⟩ := e.fix id _ h3 trivial
    have hd : o' = .dfr := by cases o' <;> first | rfl | exact a2.elim
    subst hd
    exact ⟨h1, b, c, a3 _ h2, a1, h4⟩
  | .any, h => exact h
  | .c _, h => exact h
  | .agg _, h => exact h
  | .tup _, h => exact h
structure ARel (ro : Option Nat) (S : Mem) (m : List Loc) (H : List AObj) (n : Nat) (sl : List (Nat × AV)) (a : Act) : Prop where
  defers : DefOk ro m H a.defers (getS sl DEF)
  big : n ≤ DEF
  size : a.tmps.size = n
  slot : ∀ d, VA S m H (getS sl d) (a.tmps.getD d undef)
theorem ARel.eval {ro : Option Nat} {S : Mem} {m : List Loc} {H : List AObj} {n : Nat} {sl : List (Nat × AV)} {a : Act} (h : ARel ro S m H n sl a) (x : Operand) : VA S m H (ev sl x) (a.eval x) := by
  cases x with
  | tmp t => exact h.slot t
  | const v => exact absA_ok S m H v
  | global g => trivial
  | func f => exact VP.fn f
theorem ARel.ext {ro : Option Nat} {B : Nat} {S S' : Mem} {m m' : List Loc} {H H' : List AObj} {n : Nat} {sl : List (Nat × AV)} {a : Act} (h : ARel ro S m H n sl a) (e : Ext B S m H S' m' H') : ARel ro S' m' H' n sl a :=
  ⟨h.defers.ext e, h.big, h.size, fun d => (h.slot d).ext e⟩
theorem ARel.put {ro : Option Nat} {S : Mem} {m : List Loc} {H : List AObj} {n : Nat} {sl : List (Nat × AV)} {a : Act} (h : ARel ro S m H n sl a) {d : Nat} (hd : d < n) {x : AV} {v : Value} (hv : VA S m H x v) : ARel ro S m H n ((d, x) :: sl) (a.put (some d) v) := by
  refine ⟨by
    simp only [getS]
    rw [if_neg (by have := h.big; omega)]
    exact h.defers, h.big, by simp [Act.put, h.size], fun t => ?_⟩
  simp only [getS, Act.put]
  by_cases ht : t = d
  · subst ht
    simp only [if_true]
    have : (a.tmps.setIfInBounds t v).getD t undef = v := by simp [Array.getD_eq_getD_getElem?, h.size, hd]
    rw [this]; exact hv
  · simp only [if_neg ht]
    have : (a.tmps.setIfInBounds d v).getD t undef = a.tmps.getD t undef := by
      simp only [Array.getD_eq_getD_getElem?]
      rw [Array.getElem?_setIfInBounds_ne (Ne.symm ht)]
    rw [this]; exact h.slot t

/-- As 'Below'. -/
structure Bel (B : Nat) (w w' : World) : Prop where
  below : Below B w w'
theorem Bel.refl (B : Nat) (w : World) : Bel B w w := ⟨Below.refl B w⟩
theorem Bel.trans {B : Nat} {a b c : World} (h : Bel B a b) (k : Bel B b c) : Bel B a c := ⟨h.below.trans k.below⟩
theorem Bel.drew {B : Nat} {a w : World} (h : Bel B a w) : Bel B a w.drew := ⟨h.below.drew⟩
theorem Bel.alloc {B : Nat} {a w : World} (h : Bel B a w) (hB : B ≤ w.heap.size) (o : Obj) : Bel B a (w.alloc o) :=
  ⟨h.below.alloc hB o⟩
/-- Only new blocks. -/
theorem Bel.of_old {B : Nat} {w w' : World} (h : Below B w w') (ho : ∀ k, k < w.heap.size → w'.heap[k]? = w.heap[k]?) : Bel B w w' :=
  ⟨h⟩
/-! ### What a step comes to -/
def Post (B : Nat) (S : Mem) (m : List Loc) (H : List AObj) (w : World) (K : AV → List AObj → Prop) (v : Value) (w' : World) : Prop :=
  ∃ S' m' H' x, Sim S' m' H' B w' ∧ Ext B S m H S' m' H' ∧ Bel B w w' ∧ VA S' m' H' x v ∧ K x H'
def Good (P : Program) (B : Nat) (S : Mem) (m : List Loc) (H : List AObj) (w : World) (s : Sem Value) (K : AV → List AObj → Prop) : Prop :=
  ∃ v w', s.run P w = .ok v w' ∧ Post B S m H w K v w'
def GoodU (P : Program) (B : Nat) (S : Mem) (m : List Loc) (H : List AObj) (w : World) (s : Sem Unit) (K : List AObj → Prop) : Prop :=
  ∃ w', s.run P w = .ok () w' ∧ ∃ S' m' H', Sim S' m' H' B w' ∧ Ext B S m H S' m' H' ∧ Bel B w w' ∧ K H'
section
variable {P : Program} {B : Nat} {S : Mem} {m : List Loc} {H : List AObj} {w : World} {K : AV → List AObj → Prop}
theorem Good.same (s : Sim S m H B w) {c : Sem Value} {v : Value} (hr : c.run P w = .ok v w) {x : AV} (hv : VA S m H x v) (hk : K x H) : Good P B S m H w c K :=
  ⟨v, w, hr, S, m, H, x, s, Ext.refl B S m H, Bel.refl B w, hv, hk⟩

/-- A value that is found without a change. -/
def Same (P : Program) (S : Mem) (m : List Loc) (H : List AObj) (w : World) (c : Sem Value) (K : AV → List AObj → Prop) : Prop := ∃ v x, c.run P w = .ok v w ∧ VA S m H x v ∧ K x H
theorem Same.mk {c : Sem Value} {v : Value} (hr : c.run P w = .ok v w) {x : AV} (hv : VA S m H x v) (hk : K x H) : Same P S m H w c K := ⟨v, x, hr, hv, hk⟩
theorem Same.good {c : Sem Value} (s : Sim S m H B w) (h : Same P S m H w c K) : Good P B S m H w c K := by
  obtain ⟨v, x, h1, h2, h3⟩ := h
  exact Good.same s h1 h2 h3

/-! ### Types -/
def aggT (P : Program) (t : TypeId) : Option Bool := (P.underlying t).map fun | .struct _ | .array _ _ => true | _ => false
theorem run_sizeOf' {t : TypeId} (h : 0 < P.cellsOf t) (w : World) : (sizeOf t).run P w = .ok (P.cellsOf t) w := by
  unfold Program.cellsOf at h ⊢
  cases hi : P.info? t with
  | none => simp [hi] at h
  | some i => simp [sizeOf, typeInfo, hi]
theorem info_of_cells {t : TypeId} (h : 0 < P.cellsOf t) : ∃ i, P.info? t = some i ∧ i.size = P.cellsOf t ∧ i.bytes = P.bytesOf t := by
  unfold Program.cellsOf at h ⊢
  cases hi : P.info? t with
  | none => simp [hi] at h
  | some i => exact ⟨i, rfl, by simp, by simp [Program.bytesOf, hi]⟩
theorem run_isAgg' {t : TypeId} {b : Bool} (h : aggT P t = some b) (w : World) : (isAgg t).run P w = .ok b w := by
  unfold aggT at h
  cases hu : P.underlying t with
  | none => simp [hu] at h
  | some d =>
    simp only [hu, Option.map_some, Option.some.injEq] at h
    unfold isAgg
    rw [Sem.run_bind, run_underlying hu w]
    subst h
    cases d <;> simp

/-! ### Reading -/
def aPart (P : Program) (t : TypeId) (cs : List Cell) (off : Nat) (H : List AObj) (K : AV → List AObj → Prop) : Prop :=
  match aggT P t with
  | some true => 0 < P.cellsOf t ∧ off + P.cellsOf t ≤ cs.length ∧ K (.agg ((cs.drop off).take (P.cellsOf t))) H
  | some false => match cs[off]? with
    | some c => K (.c c) H
    | none => False
  | none => False
def CellsAt (S : Mem) (m : List Loc) (H : List AObj) (w : World) (b o : Nat) (cs : List Cell) : Prop := ∀ (k : Nat) (c : Cell), cs[k]? = some c → ∃ v, w.cell? ⟨b, o + k, none⟩ = some v ∧ VC S m H c v
theorem CellsAt.list {b o : Nat} {cs : List Cell} (h : CellsAt S m H w b o cs) : ∃ vs : List Value, VCs S m H cs vs ∧ ∀ (k : Nat) (v : Value), vs[k]? = some v → w.cell? ⟨b, o + k, none⟩ = some v := by
  induction cs generalizing o with
  | nil => exact ⟨[], .nil S m H, fun k v h => by simp at h⟩
  | cons c cs ih =>
    obtain ⟨v, h1, h2⟩ := h 0 c (by simp)
    obtain ⟨vs, h3, h4⟩ := ih (o := o + 1) (fun k c' hk => by
      obtain ⟨u, a, b⟩ := h (k + 1) c' (by simpa using hk)
      exact ⟨u, by rwa [show o + 1 + k = o + (k + 1) by omega], b⟩)
    refine ⟨v :: vs, VCs.cons h2 h3, fun k u hk => ?_⟩
    cases k with
    | zero => simp at hk; subst hk; exact h1
    | succ k => rw [show o + (k + 1) = o + 1 + k by omega]; exact h4 k u (by simpa using hk)
theorem same_part {b o off : Nat} {cs : List Cell} {t : TypeId} (hc : CellsAt S m H w b o cs) (h : aPart P t cs off H K) : Same P S m H w (loadVar t ⟨b, o + off, none⟩) K := by
  unfold aPart at h
  cases ha : aggT P t with
  | none => simp [ha] at h
  | some a =>
    cases a with
    | false =>
      simp only [ha] at h
      cases hx : cs[off]? with
      | none => simp [hx] at h
      | some c =>
        simp only [hx] at h
        obtain ⟨v, h1, h2⟩ := hc off c hx
        exact Same.mk (x := .c c) (v := v) (by simp [loadVar, run_isAgg' ha, h1]) h2 h
    | true =>
      simp only [ha] at h
      obtain ⟨hp, hl, hk⟩ := h
      have hsub : CellsAt S m H w b (o + off) ((cs.drop off).take (P.cellsOf t)) := fun k c hk => by
        rw [List.getElem?_take] at hk
        split at hk
        · rw [List.getElem?_drop] at hk
          have := hc (off + k) c hk
          rwa [show o + (off + k) = o + off + k by omega] at this
        · cases hk
      obtain ⟨vs, h1, h2⟩ := hsub.list
      have hlen : vs.length = P.cellsOf t := by rw [← h1.1, List.length_take, List.length_drop]; omega
      have hlo : (loadCells ⟨b, o + off, none⟩ (P.cellsOf t)).run P w = .ok vs.toArray w := by
        rw [← hlen]
        exact run_loadCells_list (P := P) w _ vs (fun j v hv => by rw [addr_add]; exact h2 j v hv)
      refine Same.mk (x := .agg ((cs.drop off).take (P.cellsOf t))) (v := .agg vs.toArray) (by simp [loadVar, run_isAgg' ha, run_sizeOf' hp, hlo]) ⟨vs, rfl, h1⟩ hk

def aLoad (P : Program) (t : TypeId) (x : AV) (H : List AObj) (K : AV → List AObj → Prop) : Prop :=
  match x with
  | .c (.ptr id off) => match H[id]? with
    | some (.var cs) => aPart P t cs off H K
    | _ => False
  | .c (.ep id n i off) => match H[id]? with
    | some (.arr _ _ _ es) => es.length = n ∧ ∃ e, es[i]? = some e ∧ aPart P t (e.map .p) off H K
    | _ => False
  | .c (.pp cells) => aPart P t (cells.map .p) 0 H K
  | _ => False
theorem cellsAt_var (s : Sim S m H B w) {id b cap : Nat} {cs : List Cell} (ho : H[id]? = some (.var cs)) (hl : m[id]? = some (.at_ b cap)) : CellsAt S m H w b 0 cs := by
  obtain ⟨h1, h2, cur, T, h3, h4⟩ := s.obj id _ _ ho hl
  intro k c hk
  have hlt : k < cur.length := by rw [← h4.1]; exact (List.getElem?_eq_some_iff.1 hk).1
  exact ⟨cur[k], by rw [Nat.zero_add, cell_eq h3, List.getElem?_eq_getElem hlt], h4.2 k c _ hk (List.getElem?_eq_getElem hlt)⟩
theorem cellsAt_arr (s : Sim S m H B w) {id b cap T size frz : Nat} {es : List (List PV)} (ho : H[id]? = some (.arr T size frz es)) (hl : m[id]? = some (.at_ b cap)) {i : Nat} {e : List PV} (he : es[i]? = some e) :
    CellsAt S m H w b (i * size) (e.map .p) := by
  obtain ⟨hs, hu, hf, hB, hc, hm, hS, cur, hh, hl', hp⟩ := s.obj id _ _ ho hl
  have hi : i < es.length := (List.getElem?_eq_some_iff.1 he).1
  have hel : e.length = size := hu e (List.mem_of_getElem? he)
  intro k c hk
  rw [List.getElem?_map] at hk
  cases hx : e[k]? with
  | none => simp [hx] at hk
  | some x =>
    simp [hx] at hk
    subst hk
    have hks : k < size := by rw [← hel]; exact (List.getElem?_eq_some_iff.1 hx).1
    have hflat : es.flatten[i * size + k]? = some x := by rw [flat_get hu i k hks, he]; exact hx
    have hlt : i * size + k < (cur.take (es.length * size)).length := by rw [← hp.1]; exact (List.getElem?_eq_some_iff.1 hflat).1
    have hget := List.getElem?_eq_getElem hlt
    refine ⟨_, ?_, hp.2 _ x _ hflat hget⟩
    rw [cell_eq hh, ← hget, List.getElem?_take]
    rw [if_pos (by rw [List.length_take] at hlt; omega)]
theorem same_load (s : Sim S m H B w) {t : TypeId} {x : AV} {v : Value} (hx : VA S m H x v) (h : aLoad P t x H K) : Same P S m H w (Instr.loadAt t v) K := by
  cases x with
  | any => exact h.elim
  | agg cs => exact h.elim
  | tup vs => exact h.elim
  | mark o => exact h.elim
  | c x =>
    cases x with
    | p x => exact h.elim
    | own id n => exact h.elim
    | clo f a b => exact h.elim
    | yld id => exact h.elim
    | room id n => exact h.elim
    | mp id => exact h.elim
    | ptr id off =>
      obtain ⟨b, cap, cs, h1, h2, rfl⟩ := hx
      simp only [aLoad, h1] at h
      have := same_part (off := off) (cellsAt_var s h1 h2) h
      simpa [Same, Instr.loadAt, Instr.sureAddr] using this
    | ep id n i off =>
      obtain ⟨T, size, frz, es, l, h1, h2, h3, h4, h5⟩ := hx
      simp only [aLoad, h1] at h
      obtain ⟨hn, e, he, h⟩ := h
      obtain ⟨b, cap, rfl, rfl⟩ := h3 hn
      have := same_part (off := off) (cellsAt_arr s h1 h2 he) h
      simpa [Same, Instr.loadAt, Instr.sureAddr] using this
    | pp cells =>
      obtain ⟨b, off, u, rfl, h2⟩ := hx
      simp only [aLoad] at h
      have := same_part (S := S) (m := m) (H := H) (w := w) (b := b) (cs := cells.map .p) (o := off) (off := 0) (fun k c hk => by
        rw [List.getElem?_map] at hk
        cases hx : cells[k]? with
        | none => simp [hx] at hk
        | some x => simp [hx] at hk; subst hk; exact ⟨u k, s.mem _ _ _ (h2 k x hx).1, (h2 k x hx).2⟩) h
      simpa [Same, Instr.loadAt, Instr.sureAddr] using this

theorem good_load (s : Sim S m H B w) {t : TypeId} {x : AV} {v : Value} (hx : VA S m H x v) (h : aLoad P t x H K) : Good P B S m H w (Instr.loadAt t v) K := (same_load s hx h).good s

/-! ### A variable -/
def cellsA : AV → Option (List Cell)
  | .c x => some [x]
  | .agg cs => some cs
  | _ => none
theorem cellsA_ok {x : AV} {v : Value} {cs : List Cell} (hx : VA S m H x v) (h : cellsA x = some cs) : VCs S m H cs v.cells.toList := by
  cases x with
  | any => simp [cellsA] at h
  | tup vs => simp [cellsA] at h
  | mark o => simp [cellsA] at h
  | c x =>
    simp [cellsA] at h; subst h
    rw [(VC.one hx).2]
    exact VCs.cons hx (.nil S m H)
  | agg cs' =>
    simp [cellsA] at h; subst h
    obtain ⟨vs, rfl, h2⟩ := hx
    simpa [Value.cells] using h2
def aBox (x : AV) (H : List AObj) (K : AV → List AObj → Prop) : Prop :=
  match cellsA x with
  | some cs => K (.c (.ptr H.length 0)) (H ++ [.var cs])
  | none => False
theorem good_box (s : Sim S m H B w) {t : TypeId} {x : AV} {v : Value} (hx : VA S m H x v) (h : aBox x H K) : Good P B S m H w (Instr.box t v) K := by
  unfold aBox at h
  cases hc : cellsA x with
  | none => simp [hc] at h
  | some cs =>
    simp only [hc] at h
    obtain ⟨s', e, hp⟩ := s.newVar cs v.cells.toList t (cellsA_ok hx hc)
    refine ⟨_, w.alloc (.cells v.cells t), ?_, S, _, _, .c (.ptr H.length 0), by simpa using s', e, (Bel.refl B w).alloc s.base _, hp, h⟩
    simp [Instr.box, newVar, newRow]
/-- A type's zero value. -/
def zeroA (P : Program) (t : TypeId) : Option AV := ((P.info? t).bind (·.zero)).map absA
def aAlloc (P : Program) (t : TypeId) (H : List AObj) (K : AV → List AObj → Prop) : Prop :=
  match zeroA P t with
  | some z => aBox z H K
  | none => False
theorem run_zero {t : TypeId} {z : AV} (h : zeroA P t = some z) (S : Mem) (m : List Loc) (H : List AObj) (w : World) : ∃ v, (zeroValue t).run P w = .ok v w ∧ VA S m H z v := by
  unfold zeroA at h
  cases hi : P.info? t with
  | none => simp [hi] at h
  | some i =>
    cases hz : i.zero with
    | none => simp [hi, hz] at h
    | some v =>
      simp [hi, hz] at h; subst h
      exact ⟨v, by simp [zeroValue, typeInfo, hi, hz], absA_ok S m H v⟩
theorem good_alloc (s : Sim S m H B w) {t : TypeId} (h : aAlloc P t H K) : Good P B S m H w (Instr.alloc t true (.tuple #[])) K := by
  unfold aAlloc at h
  cases hz : zeroA P t with
  | none => simp [hz] at h
  | some z =>
    simp only [hz] at h
    obtain ⟨v, hr, hv⟩ := run_zero hz S m H w
    have := good_box (P := P) (t := t) s hv h
    obtain ⟨u, w', h1, h2⟩ := this
    refine ⟨u, w', ?_, h2⟩
    simpa [Instr.alloc, hr, Instr.box] using h1
end
end Go.Aw
