import Derived.WalkKit
import Derived.Laws.AppendOwn
import Derived.Laws.OwnMore
import Derived.Below
import Derived.Deep.MidRow
import Derived.Great.BuildSlice
/-
  An abstract memory for walks, part 1: values that are read and never change (PV), what a slot holds (Cell, AV), objects of the call's own (AObj), and what it means that a world fits them (Sim). No program's own text is named here.
-/
set_option linter.unusedVariables false
set_option linter.unusedSimpArgs false
namespace Go.Aw
open Go.RowKit

def isCellsB : Obj → Bool
  | .cells .. => true
  | _ => false
/-- What nobody changes any more: a cell's value, slices as the lists that they read as (element by element, cell by cell). 'full': nothing lies behind the last element. -/
inductive PV where
  | int (k : IntKind) (n : Int)
  | bool (b : Bool)
  | str (s : ByteArray)
  | sl (full : Bool) (xs : List (List PV))
  | fn (f : Nat)
  | nilp
  | nilfn
  | nilif
  | iface (t : Nat) (agg : Bool) (cs : List PV)

abbrev Mem := Nat → Nat → Option Value
def Mem.le (S S' : Mem) : Prop := ∀ b o v, S b o = some v → S' b o = some v
theorem Mem.le_refl (S : Mem) : S.le S := fun _ _ _ h => h
theorem Mem.le_trans {S S' S'' : Mem} (h : S.le S') (h' : S'.le S'') : S.le S'' := fun b o v x => h' b o v (h b o v x)

inductive VP (S : Mem) : PV → Value → Prop
  | int (k : IntKind) (n : Int) : VP S (.int k n) (.int k n)
  | bool (b : Bool) : VP S (.bool b) (.bool b)
  | str (s : ByteArray) : VP S (.str s) (.string s)
  | fn (f : Nat) : VP S (.fn f) (.func (.func f) #[] #[])
  | nilp : VP S .nilp (.pointer none)
  | nilfn : VP S .nilfn .nilFunc
  | nilif : VP S .nilif .nilIface
  | ifc (t : Nat) (x : PV) (v : Value) (h : VP S x v) : VP S (.iface t false [x]) (.iface t v)
  | ifa (t : Nat) (xs : List PV) (vs : List Value) (hl : xs.length = vs.length) (h : ∀ (i : Nat) (x : PV) (v : Value), xs[i]? = some x → vs[i]? = some v → VP S x v) : VP S (.iface t true xs) (.iface t (.agg vs.toArray))
  | nil (full : Bool) : VP S (.sl full []) (.slice none 0 0)
  | emp (full : Bool) (a : Addr) : VP S (.sl full []) (.slice (some a) 0 0)
  | sl (full : Bool) (xs : List (List PV)) (b off cap size n : Nat) (u : Nat → Value) (hn : xs.length = n) (hc : n ≤ cap) (hm : cap ≤ maxLen) (hf : full = true → cap = n) (hs : 0 < size)
      (hu : ∀ e, e ∈ xs → e.length = size) (hS : ∀ (k : Nat) (x : PV), xs.flatten[k]? = some x → S b (off + k) = some (u k)) (hv : ∀ (k : Nat) (x : PV), xs.flatten[k]? = some x → VP S x (u k)) :
      VP S (.sl full xs) (.slice (some ⟨b, off, none⟩) n cap)

/-- All elements have as many cells. -/
def allLen (k : Nat) (xs : List (List PV)) : Prop := ∀ y, y ∈ xs → y.length = k
theorem VP.mono {S S' : Mem} (h : S.le S') {x : PV} {v : Value} (hx : VP S x v) : VP S' x v := by
  induction hx with
  | int k n => exact .int k n
  | bool b => exact .bool b
  | str s => exact .str s
  | fn f => exact .fn f
  | nilp => exact .nilp
  | nilfn => exact .nilfn
  | nilif => exact .nilif
  | ifc t x v _ ih => exact .ifc t x v ih
  | ifa t xs vs hl _ ih => exact .ifa t xs vs hl ih
  | nil full => exact .nil full
  | emp full a => exact .emp full a
  | sl full xs b off cap size n u hn hc hm hf hs hu hS _ ih => exact .sl full xs b off cap size n u hn hc hm hf hs hu (fun k x hk => h _ _ _ (hS k x hk)) ih

theorem VP.one {S : Mem} {x : PV} {v : Value} (h : VP S x v) : v.oneCell' = true ∧ v.cells = #[v] := by cases h <;> exact ⟨rfl, rfl⟩

/-- What lies behind a slice's last element is forgotten. -/
def lo : PV → PV
  | .sl _ xs => .sl false xs
  | x => x
theorem VP.lo {S : Mem} {x : PV} {v : Value} (h : VP S x v) : VP S (lo x) v := by
  cases h with
  | nil full => exact .nil false
  | emp full a => exact .emp false a
  | sl full xs b off cap size n u hn hc hm hf hs hu hS hv => exact .sl false xs b off cap size n u hn hc hm (fun h => by cases h) hs hu hS hv
  | int k n => exact .int k n
  | bool b => exact .bool b
  | str s => exact .str s
  | fn f => exact .fn f
  | nilp => exact .nilp
  | nilfn => exact .nilfn
  | nilif => exact .nilif
  | ifc t x v h => exact .ifc t x v h
  | ifa t xs vs hl h => exact .ifa t xs vs hl h
/-- Cells one by one. -/
def VPs (S : Mem) (xs : List PV) (vs : List Value) : Prop := xs.length = vs.length ∧ ∀ (i : Nat) (x : PV) (v : Value), xs[i]? = some x → vs[i]? = some v → VP S x v
theorem VPs.mono {S S' : Mem} (h : S.le S') {xs : List PV} {vs : List Value} (hx : VPs S xs vs) : VPs S' xs vs := ⟨hx.1, fun i x v a b => (hx.2 i x v a b).mono h⟩

theorem VPs.lo {S : Mem} {xs : List PV} {vs : List Value} (h : VPs S xs vs) : VPs S (xs.map lo) vs := by
  refine ⟨by simp [h.1], fun i x v hx hv => ?_⟩
  rw [List.getElem?_map] at hx
  cases hq : xs[i]? with
  | none => simp [hq] at hx
  | some q => simp [hq] at hx; subst hx; exact (h.2 i q v hq hv).lo

/-! Lists whose elements are all of one length. -/
theorem flat_len {α : Type} {size : Nat} : ∀ {xs : List (List α)}, (∀ e, e ∈ xs → e.length = size) → xs.flatten.length = xs.length * size
  | [], _ => by simp
  | x :: xs, h => by
    have hx := h x (by simp)
    have ih := flat_len (xs := xs) (fun e he => h e (by simp [he]))
    simp only [List.flatten_cons, List.length_append, ih, hx, List.length_cons, Nat.add_mul, Nat.one_mul]
    omega
theorem flat_get {α : Type} {size : Nat} : ∀ {xs : List (List α)}, (∀ e, e ∈ xs → e.length = size) → ∀ (i j : Nat), j < size → xs.flatten[i * size + j]? = (xs[i]?).bind (·[j]?)
  | [], _, i, j, _ => by simp
  | x :: xs, h, i, j, hj => by
    have hx := h x (by simp)
    cases i with
    | zero =>
      simp only [Nat.zero_mul, Nat.zero_add, List.flatten_cons, List.getElem?_cons_zero, Option.bind_some]
      rw [List.getElem?_append_left (by omega)]
    | succ i =>
      have ih := flat_get (xs := xs) (fun e he => h e (by simp [he])) i j hj
      simp only [List.flatten_cons, List.getElem?_cons_succ]
      rw [List.getElem?_append_right (by rw [hx, Nat.add_mul]; omega), ← ih]
      congr 1
      rw [hx, Nat.add_mul]; omega
theorem flat_drop {α : Type} {size : Nat} : ∀ (l : Nat) {xs : List (List α)}, (∀ e, e ∈ xs → e.length = size) → (xs.drop l).flatten = xs.flatten.drop (l * size)
  | 0, xs, _ => by simp
  | l + 1, [], _ => by simp
  | l + 1, x :: xs, h => by
    have hx := h x (by simp)
    have ih := flat_drop l (xs := xs) (fun e he => h e (by simp [he]))
    have e : (l + 1) * size = x.length + l * size := by rw [hx, Nat.add_mul]; omega
    simp only [List.drop_succ_cons, ih, List.flatten_cons]
    rw [e, ← List.drop_drop, List.drop_left]
theorem flat_take {α : Type} {size : Nat} : ∀ (l : Nat) {xs : List (List α)}, (∀ e, e ∈ xs → e.length = size) → (xs.take l).flatten = xs.flatten.take (l * size)
  | 0, xs, _ => by simp
  | l + 1, [], _ => by simp
  | l + 1, x :: xs, h => by
    have hx := h x (by simp)
    have ih := flat_take l (xs := xs) (fun e he => h e (by simp [he]))
    have e : (l + 1) * size = x.length + l * size := by rw [hx, Nat.add_mul]; omega
    simp only [List.take_succ_cons, List.flatten_cons, ih]
    rw [e, List.take_length_add_append]

/-- What a slot, or a cell of an object of the call's own, holds. 'own id n': the slice over array object id, n elements long. 'ptr': a cell of a variable. 'ep': a cell of an array object's element. 'pp': a place that nobody changes any more, and what lies from there on. 'clo': a closure: bound arguments, captured variables. -/
inductive Cell where
  | p (v : PV)
  | own (id n : Nat)
  | ptr (id off : Nat)
  | ep (id n i off : Nat)
  | pp (cells : List PV)
  | clo (f : Nat) (first : List PV) (caps : List (Nat × Nat))
  | yld (id : Nat)
  | room (id n : Nat)
  | mp (id : Nat)
  | vs (id n : Nat)
  | tl (id k n : Nat) (xs : List (List PV))

/-- A value in a slot: nothing is known; one cell; a struct's cells; several results. -/
inductive AV where
  | any
  | c (x : Cell)
  | agg (cs : List Cell)
  | tup (vs : List (Bool × List Cell))
  | mark (o : Option (List Nat))
def getS : List (Nat × AV) → Nat → AV
  | [], _ => .any
  | (d, v) :: r, t => if t = d then v else getS r t
/-- The record of a range over a function: the slots as they were, what a round does, and how far the loop is. -/
structure LoopA where
  sl : List (Nat × AV)
  n : Nat
  ps : Array Tmp
  assign : Code
  body : Code
  st : LoopState
  pending : Option Code
/-- 'var': a variable of ours; 'arr': an array of ours; 'dfr': an activation's block of deferred calls, with none in it; 'loop': a record. -/
inductive AObj where
  | var (cs : List Cell)
  | arr (T size frz : Nat) (es : List (List PV))
  | dfr
  | loop (L : LoopA)
  | map (es : List (Int × Cell))
  | hole
def LoopA.same (L L' : LoopA) : Prop := ∃ st p, L' = { L with st := st, pending := p }
def Kin : AObj → AObj → Prop
  | .var _, .var _ => True
  | .dfr, .dfr => True
  | .loop L, .loop L' => L.same L'
  | .map _, .map _ => True
  | _, _ => False
def AObj.fixed : AObj → Prop
  | .arr _ _ _ _ => False
  | .hole => False
  | _ => True
theorem Kin.refl {o : AObj} (h : o.fixed) : Kin o o := by
  cases o with
  | var cs => trivial
  | arr T size frz es => exact h.elim
  | dfr => trivial
  | loop L => exact ⟨L.st, L.pending, rfl⟩
  | map es => trivial
  | hole => exact h.elim
theorem Kin.fixed {o o' : AObj} (h : Kin o o') : o'.fixed := by
  cases o <;> cases o' <;> first | trivial | exact h.elim
theorem Kin.trans {a b c : AObj} (h : Kin a b) (k : Kin b c) : Kin a c := by
  cases a <;> cases b <;> cases c <;> first | trivial | exact h.elim | exact k.elim | skip
  obtain ⟨s1, p1, rfl⟩ := h
  obtain ⟨s2, p2, rfl⟩ := k
  exact ⟨s2, p2, rfl⟩

inductive Loc where
  | nil (A : Option Addr)
  | at_ (b cap : Nat)

/-- A cell's value, given what is fixed (S), where the objects lie (m), and the objects (H). -/
def VC (S : Mem) (m : List Loc) (H : List AObj) : Cell → Value → Prop
  | .p x, v => VP S x v
  | .own id n, v => ∃ T size frz es l, H[id]? = some (.arr T size frz es) ∧ m[id]? = some l ∧ (es.length = n → match l with | .at_ b cap => v = .slice (some ⟨b, 0, none⟩) n cap | .nil A => v = .slice A 0 0) ∧ n ≤ es.length ∧ (v.oneCell' = true ∧ v.cells = #[v])
  | .ptr id off, v => ∃ b cap cs, H[id]? = some (.var cs) ∧ m[id]? = some (.at_ b cap) ∧ v = .pointer (some ⟨b, off, none⟩)
  | .ep id n i off, v => ∃ T size frz es l, H[id]? = some (.arr T size frz es) ∧ m[id]? = some l ∧ (es.length = n → ∃ b cap, l = .at_ b cap ∧ v = .pointer (some ⟨b, i * size + off, none⟩)) ∧ (n ≤ es.length ∧ i < n) ∧ (v.oneCell' = true ∧ v.cells = #[v])
  | .pp cells, v => ∃ (b off : Nat) (u : Nat → Value), v = .pointer (some ⟨b, off, none⟩) ∧ ∀ (k : Nat) (x : PV), cells[k]? = some x → S b (off + k) = some (u k) ∧ VP S x (u k)
  | .clo f first caps, v => ∃ fs cs : List Value, v = .func (.func f) fs.toArray cs.toArray ∧ VPs S first fs ∧ cs.length = caps.length ∧
      ∀ (i : Nat) (q : Nat × Nat) (u : Value), caps[i]? = some q → cs[i]? = some u → ∃ b cap ds, H[q.1]? = some (.var ds) ∧ m[q.1]? = some (.at_ b cap) ∧ u = .pointer (some ⟨b, q.2, none⟩)
  | .yld id, v => ∃ b cap L, H[id]? = some (.loop L) ∧ m[id]? = some (.at_ b cap) ∧ v = .func (.yield b) #[] #[]
  | .room id n, v => ∃ T size frz es l, H[id]? = some (.arr T size frz es) ∧ m[id]? = some l ∧ (es.length = 0 → ∃ b cap, l = .at_ b cap ∧ v = .slice (some ⟨b, 0, none⟩) n cap ∧ n ≤ cap) ∧ (v.oneCell' = true ∧ v.cells = #[v])
  | .mp id, v => ∃ b cap es, H[id]? = some (.map es) ∧ m[id]? = some (.at_ b cap) ∧ v = .map (some b)
  | .vs id n, v => ∃ b cap cs, H[id]? = some (.var cs) ∧ m[id]? = some (.at_ b cap) ∧ v = .slice (some ⟨b, 0, none⟩) n n
  | .tl id k n xs, v => ∃ T size frz es l, H[id]? = some (.arr T size frz es) ∧ m[id]? = some l ∧ (es.length = n → match l with | .at_ b cap => ∃ A, v = .slice A xs.length (cap - k) ∧ (cap ≤ k ∨ A = some ⟨b, k * size, none⟩) | .nil A => v = .slice A 0 0) ∧ (k + xs.length = n ∧ n ≤ es.length ∧ ∀ e, e ∈ xs → e.length = size) ∧ VP S (.sl false xs) v

theorem VC.one {S : Mem} {m : List Loc} {H : List AObj} {c : Cell} {v : Value} (h : VC S m H c v) : v.oneCell' = true ∧ v.cells = #[v] := by
  cases c with
  | p x => exact VP.one (S := S) (x := x) h
  | own id n => obtain ⟨_, _, _, _, _, _, _, _, _, h⟩ := h; exact h
  | ptr id off => obtain ⟨_, _, _, _, _, rfl⟩ := h; exact ⟨rfl, rfl⟩
  | ep id n i off => obtain ⟨_, _, _, _, _, _, _, _, _, h⟩ := h; exact h
  | pp cells => obtain ⟨_, _, _, rfl, _⟩ := h; exact ⟨rfl, rfl⟩
  | clo f first caps => obtain ⟨_, _, rfl, _⟩ := h; exact ⟨rfl, rfl⟩
  | yld id => obtain ⟨_, _, _, _, _, rfl⟩ := h; exact ⟨rfl, rfl⟩
  | room id n => obtain ⟨_, _, _, _, _, _, _, _, h⟩ := h; exact h
  | mp id => obtain ⟨_, _, _, _, _, rfl⟩ := h; exact ⟨rfl, rfl⟩
  | vs id n => obtain ⟨_, _, _, _, _, rfl⟩ := h; exact ⟨rfl, rfl⟩
  | tl id k n xs => obtain ⟨_, _, _, _, _, _, _, _, _, h⟩ := h; exact VP.one h

/-- From one view to a later one: what is fixed stays, variables stay where they are, arrays grow or stay. -/
structure Ext (B : Nat) (S : Mem) (m : List Loc) (H : List AObj) (S' : Mem) (m' : List Loc) (H' : List AObj) : Prop where
  mem : S.le S'
  old : ∀ b o, b < B → S' b o = S b o
  fix : ∀ (id : Nat) o, H[id]? = some o → o.fixed → (∃ o', H'[id]? = some o' ∧ Kin o o') ∧ (∀ l, m[id]? = some l → m'[id]? = some l)
  arr : ∀ (id T size frz : Nat) es l, H[id]? = some (AObj.arr T size frz es) → m[id]? = some l → ∃ frz' es' l', H'[id]? = some (AObj.arr T size frz' es') ∧ m'[id]? = some l' ∧ es.length ≤ es'.length ∧ (es'.length = es.length → l' = l)

theorem Ext.refl (B : Nat) (S : Mem) (m : List Loc) (H : List AObj) : Ext B S m H S m H :=
  ⟨Mem.le_refl S, fun _ _ _ => rfl, fun id o h hf => ⟨⟨o, h, Kin.refl hf⟩, fun _ h => h⟩, fun id T size frz es l h h' => ⟨frz, es, l, h, h', Nat.le_refl _, fun _ => rfl⟩⟩
theorem Ext.trans {B : Nat} {S S1 S2 : Mem} {m m1 m2 : List Loc} {H H1 H2 : List AObj} (h : Ext B S m H S1 m1 H1) (k : Ext B S1 m1 H1 S2 m2 H2) : Ext B S m H S2 m2 H2 := by
  refine ⟨Mem.le_trans h.mem k.mem, fun b o hb => (k.old b o hb).trans (h.old b o hb), fun id o ho hf => ?_, fun id T size frz es l ha hl => ?_⟩
  · obtain ⟨⟨o1, h1, h3⟩, h2⟩ := h.fix id o ho hf
    obtain ⟨⟨o2, k1, k3⟩, k2⟩ := k.fix id o1 h1 h3.fixed
    exact ⟨⟨o2, k1, h3.trans k3⟩, fun l hl => k2 l (h2 l hl)⟩
  · obtain ⟨f1, es1, l1, a1, b1, c1, d1⟩ := h.arr id T size frz es l ha hl
    obtain ⟨f2, es2, l2, a2, b2, c2, d2⟩ := k.arr id T size f1 es1 l1 a1 b1
    exact ⟨f2, es2, l2, a2, b2, Nat.le_trans c1 c2, fun e => (d2 (by omega)).trans (d1 (by omega))⟩
theorem Ext.var {B : Nat} {S S' : Mem} {m m' : List Loc} {H H' : List AObj} (e : Ext B S m H S' m' H') (id : Nat) (cs : List Cell) (h : H[id]? = some (AObj.var cs)) : (∃ cs', H'[id]? = some (AObj.var cs')) ∧ (∀ l, m[id]? = some l → m'[id]? = some l) := by
  obtain ⟨⟨o', h1, h2⟩, h3⟩ := e.fix id _ h trivial
  refine ⟨?_, h3⟩
  cases o' with
  | var cs' => exact ⟨cs', h1⟩
  | _ => exact h2.elim
theorem Ext.loop {B : Nat} {S S' : Mem} {m m' : List Loc} {H H' : List AObj} (e : Ext B S m H S' m' H') (id : Nat) (L : LoopA) (h : H[id]? = some (AObj.loop L)) : (∃ L', H'[id]? = some (AObj.loop L') ∧ L.same L') ∧ (∀ l, m[id]? = some l → m'[id]? = some l) := by
  obtain ⟨⟨o', h1, h2⟩, h3⟩ := e.fix id _ h trivial
  refine ⟨?_, h3⟩
  cases o' with
  | loop L' => exact ⟨L', h1, h2⟩
  | _ => exact h2.elim
theorem Ext.map {B : Nat} {S S' : Mem} {m m' : List Loc} {H H' : List AObj} (e : Ext B S m H S' m' H') (id : Nat) (es : List (Int × Cell)) (h : H[id]? = some (AObj.map es)) : (∃ es', H'[id]? = some (AObj.map es')) ∧ (∀ l, m[id]? = some l → m'[id]? = some l) := by
  obtain ⟨⟨o', h1, h2⟩, h3⟩ := e.fix id _ h trivial
  refine ⟨?_, h3⟩
  cases o' with
  | map es' => exact ⟨es', h1⟩
  | _ => exact h2.elim
theorem VC.ext {B : Nat} {S S' : Mem} {m m' : List Loc} {H H' : List AObj} (e : Ext B S m H S' m' H') {c : Cell} {v : Value} (h : VC S m H c v) : VC S' m' H' c v := by
  cases c with
  | p x => exact VP.mono (S := S) (x := x) e.mem h
  | own id n =>
    obtain ⟨T, size, frz, es, l, h1, h2, h3, h4, h5⟩ := h
    obtain ⟨frz', es', l', a, b, c, d⟩ := e.arr id T size frz es l h1 h2
    refine ⟨T, size, frz', es', l', a, b, fun hn => ?_, by omega, h5⟩
    rw [d (by omega)]
    exact h3 (by omega)
  | ptr id off =>
    obtain ⟨b, cap, cs, h1, h2, h3⟩ := h
    obtain ⟨⟨cs', a⟩, k⟩ := e.var id cs h1
    exact ⟨b, cap, cs', a, k _ h2, h3⟩
  | ep id n i off =>
    obtain ⟨T, size, frz, es, l, h1, h2, h3, h4, h5⟩ := h
    obtain ⟨frz', es', l', a, b, c, d⟩ := e.arr id T size frz es l h1 h2
    refine ⟨T, size, frz', es', l', a, b, fun hn => ?_, by omega, h5⟩
    rw [d (by omega)]
    exact h3 (by omega)
  | pp cells =>
    obtain ⟨b, off, u, h1, h2⟩ := h
    exact ⟨b, off, u, h1, fun k x hk => ⟨e.mem _ _ _ (h2 k x hk).1, (h2 k x hk).2.mono e.mem⟩⟩
  | clo f first caps =>
    obtain ⟨fs, cs, h1, h2, h3, h4⟩ := h
    refine ⟨fs, cs, h1, h2.mono e.mem, h3, fun i q u hq hu => ?_⟩
    obtain ⟨b, cap, ds, k1, k2, k3⟩ := h4 i q u hq hu
    obtain ⟨⟨ds', a⟩, k⟩ := e.var q.1 ds k1
    exact ⟨b, cap, ds', a, k _ k2, k3⟩
  | yld id =>
    obtain ⟨b, cap, L, h1, h2, h3⟩ := h
    obtain ⟨⟨L', a, _⟩, k⟩ := e.loop id L h1
    exact ⟨b, cap, L', a, k _ h2, h3⟩
  | room id n =>
    obtain ⟨T, size, frz, es, l, h1, h2, h3, h5⟩ := h
    obtain ⟨frz', es', l', a, b, c, d⟩ := e.arr id T size frz es l h1 h2
    refine ⟨T, size, frz', es', l', a, b, fun hn => ?_, h5⟩
    rw [d (by omega)]
    exact h3 (by omega)
  | mp id =>
    obtain ⟨b, cap, es, h1, h2, h3⟩ := h
    obtain ⟨⟨es', a⟩, k⟩ := e.map id es h1
    exact ⟨b, cap, es', a, k _ h2, h3⟩
  | vs id n =>
    obtain ⟨b, cap, cs, h1, h2, h3⟩ := h
    obtain ⟨⟨cs', a⟩, k⟩ := e.var id cs h1
    exact ⟨b, cap, cs', a, k _ h2, h3⟩
  | tl id k n xs =>
    obtain ⟨T, size, frz, es, l, h1, h2, h3, h4, h5⟩ := h
    obtain ⟨frz', es', l', a, b, c, d⟩ := e.arr id T size frz es l h1 h2
    refine ⟨T, size, frz', es', l', a, b, fun hn => ?_, ⟨h4.1, by omega, h4.2.2⟩, h5.mono e.mem⟩
    rw [d (by omega)]
    exact h3 (by omega)

def VCs (S : Mem) (m : List Loc) (H : List AObj) (cs : List Cell) (vs : List Value) : Prop := cs.length = vs.length ∧ ∀ (i : Nat) (c : Cell) (v : Value), cs[i]? = some c → vs[i]? = some v → VC S m H c v
theorem VCs.ext {B : Nat} {S S' : Mem} {m m' : List Loc} {H H' : List AObj} (e : Ext B S m H S' m' H') {cs : List Cell} {vs : List Value} (h : VCs S m H cs vs) : VCs S' m' H' cs vs := ⟨h.1, fun i c v a b => (h.2 i c v a b).ext e⟩

def VB (S : Mem) (m : List Loc) (H : List AObj) : Bool × List Cell → Value → Prop
  | (false, cs), v => ∃ c, cs = [c] ∧ VC S m H c v
  | (true, cs), v => ∃ vs : List Value, v = .agg vs.toArray ∧ VCs S m H cs vs
def VA (S : Mem) (m : List Loc) (H : List AObj) : AV → Value → Prop
  | .any, _ => True
  | .c x, v => VC S m H x v
  | .agg cs, v => ∃ vs : List Value, v = .agg vs.toArray ∧ VCs S m H cs vs
  | .tup bs, v => ∃ vs : List Value, v = .tuple vs.toArray ∧ bs.length = vs.length ∧ ∀ (i : Nat) b u, bs[i]? = some b → vs[i]? = some u → VB S m H b u
  | .mark _, _ => True
theorem VB.ext {B : Nat} {S S' : Mem} {m m' : List Loc} {H H' : List AObj} (e : Ext B S m H S' m' H') {b : Bool × List Cell} {v : Value} (h : VB S m H b v) : VB S' m' H' b v := by
  obtain ⟨a, cs⟩ := b
  cases a with
  | false => obtain ⟨c, h1, h2⟩ := h; exact ⟨c, h1, h2.ext e⟩
  | true => obtain ⟨vs, h1, h2⟩ := h; exact ⟨vs, h1, h2.ext e⟩
theorem VA.ext {B : Nat} {S S' : Mem} {m m' : List Loc} {H H' : List AObj} (e : Ext B S m H S' m' H') {a : AV} {v : Value} (h : VA S m H a v) : VA S' m' H' a v := by
  cases a with
  | any => trivial
  | c x => exact VC.ext e h
  | agg cs => obtain ⟨vs, h1, h2⟩ := h; exact ⟨vs, h1, h2.ext e⟩
  | tup bs => obtain ⟨vs, h1, h2, h3⟩ := h; exact ⟨vs, h1, h2, fun i b u hb hu => (h3 i b u hb hu).ext e⟩
  | mark o => trivial

/-- A block's marked cells lie behind its end (a literal that was converted), or there are none. -/
def okFz (N : Nat) (fz : Nat × Nat) : Prop := fz = (0, 0) ∨ N ≤ fz.1
def ArrAt (w : World) (b T : Nat) (cur : List Value) : Prop := ∃ fz, w.heap[b]? = some (.cells cur.toArray T fz) ∧ okFz cur.length fz
theorem ArrAt.of {w w' : World} {b T : Nat} {cur : List Value} (h : ArrAt w b T cur) (e : w'.heap[b]? = w.heap[b]?) : ArrAt w' b T cur := ⟨h.choose, e.trans h.choose_spec.1, h.choose_spec.2⟩
/-- An object as it lies in memory. -/
def ObjOk (S : Mem) (m : List Loc) (H : List AObj) (B : Nat) (w : World) : AObj → Loc → Prop
  | .var cs, .at_ b _ => B ≤ b ∧ (∀ o, S b o = none) ∧ ∃ (cur : List Value) (T : Nat), w.heap[b]? = some (.cells cur.toArray T (0, 0)) ∧ VCs S m H cs cur
  | .var _, .nil _ => False
  | .arr T size frz es, .nil A => 0 < size ∧ es = [] ∧ frz = 0
  | .arr T size frz es, .at_ b cap => 0 < size ∧ (∀ e, e ∈ es → e.length = size) ∧ frz ≤ es.length ∧ B ≤ b ∧ es.length ≤ cap ∧ cap ≤ maxLen ∧ (∀ o v, S b o = some v → o < frz * size) ∧
      ∃ cur : List Value, ArrAt w b T cur ∧ cur.length = cap * size ∧ VPs S es.flatten (cur.take (es.length * size))
  | .dfr, .at_ b _ => B ≤ b ∧ w.heap[b]? = some (.deferred (some []))
  | .dfr, .nil _ => False
  | .loop L, .at_ b _ => B ≤ b ∧ ∃ (fn : Nat) (tmps : Array Value) (bd : Nat), w.heap[b]? = some (.loop { state := L.st, pending := L.pending, fn := fn, tmps := tmps, params := L.ps, assign := L.assign, body := L.body, defers := bd }) ∧
      tmps.size = L.n ∧ ∀ d, VA S m H (getS L.sl d) (tmps.getD d undef)
  | .loop _, .nil _ => False
  | .map es, .at_ b _ => B ≤ b ∧ ∃ (ents : Array MapEntry) (clock : Nat), w.heap[b]? = some (.map ents clock) ∧ es.length = ents.size ∧ ∀ (i : Nat) k c (e : MapEntry), es[i]? = some (k, c) → ents[i]? = some e → e.key = .int .i64 k ∧ VC S m H c e.val
  | .map _, .nil _ => False
  | .hole, .nil _ => True
  | .hole, .at_ _ _ => False

structure Sim (S : Mem) (m : List Loc) (H : List AObj) (B : Nat) (w : World) : Prop where
  len : m.length = H.length
  mem : ∀ b o v, S b o = some v → w.cell? ⟨b, o, none⟩ = some v
  base : B ≤ w.heap.size
  obj : ∀ (id : Nat) o l, H[id]? = some o → m[id]? = some l → ObjOk S m H B w o l
  inj : ∀ (i j b c d : Nat), m[i]? = some (Loc.at_ b c) → m[j]? = some (Loc.at_ b d) → i = j

theorem Sim.loc {S : Mem} {m : List Loc} {H : List AObj} {B : Nat} {w : World} (s : Sim S m H B w) {id : Nat} {o : AObj} (h : H[id]? = some o) : ∃ l, m[id]? = some l ∧ ObjOk S m H B w o l := by
  have hlt : id < m.length := by rw [s.len]; exact (List.getElem?_eq_some_iff.1 h).1
  exact ⟨m[id], List.getElem?_eq_getElem hlt, s.obj id o _ h (List.getElem?_eq_getElem hlt)⟩

end Go.Aw

/-
  An abstract memory for walks, part 2: how the view of a world goes on when blocks are made, cells written, elements frozen.
-/
set_option linter.unusedVariables false
set_option linter.unusedSimpArgs false
namespace Go.Aw
open Go.RowKit

theorem addr_add (b o j : Nat) : (⟨b, o, none⟩ : Addr).add j = ⟨b, o + j, none⟩ := by unfold Addr.add; split <;> simp_all
theorem cell_eq {w : World} {b o : Nat} {cs : List Value} {T : Nat} {fr : Nat × Nat} (h : w.heap[b]? = some (.cells cs.toArray T fr)) : w.cell? ⟨b, o, none⟩ = cs[o]? := by simp [World.cell?, h]
theorem cell_keep {w w' : World} {b o : Nat} {v : Value} (h : ∀ k, k < w.heap.size → w'.heap[k]? = w.heap[k]?) (hc : w.cell? ⟨b, o, none⟩ = some v) : w'.cell? ⟨b, o, none⟩ = some v := by
  have hb : b < w.heap.size := World.block_lt_of_cell? w ⟨b, o, none⟩ hc
  simp only [World.cell?] at hc ⊢
  rw [h b hb]
  exact hc
theorem Sim.lt {S : Mem} {m : List Loc} {H : List AObj} {B : Nat} {w : World} (s : Sim S m H B w) {b o : Nat} {v : Value} (h : S b o = some v) : b < w.heap.size :=
  World.block_lt_of_cell? w ⟨b, o, none⟩ (s.mem b o v h)

/-- Mem on old blocks is as it was. -/
def OldMem (n : Nat) (S S' : Mem) : Prop := ∀ b o, b < n → S' b o = S b o

theorem ObjOk.lt {S : Mem} {m : List Loc} {H : List AObj} {B : Nat} {w : World} {o : AObj} {b c : Nat} (h : ObjOk S m H B w o (.at_ b c)) : b < w.heap.size := by
  cases o with
  | var cs => obtain ⟨_, _, cur, T, h, _⟩ := h; exact (Array.getElem?_eq_some_iff.1 h).1
  | arr T size frz es => obtain ⟨_, _, _, _, _, _, _, cur, ⟨_, h, _⟩, _⟩ := h; exact (Array.getElem?_eq_some_iff.1 h).1
  | dfr => exact (Array.getElem?_eq_some_iff.1 h.2).1
  | loop L => obtain ⟨_, _, _, _, h, _⟩ := h; exact (Array.getElem?_eq_some_iff.1 h).1
  | map es => obtain ⟨_, _, _, h, _⟩ := h; exact (Array.getElem?_eq_some_iff.1 h).1
  | hole => exact h.elim

theorem ObjOk.keep {S S' : Mem} {m m' : List Loc} {H H' : List AObj} {B : Nat} {w w' : World} (e : Ext B S m H S' m' H') {o : AObj} {l : Loc} (h : ObjOk S m H B w o l)
    (hw : ∀ b c, l = .at_ b c → w'.heap[b]? = w.heap[b]? ∧ ∀ k, S' b k = S b k) : ObjOk S' m' H' B w' o l := by
  cases o with
  | var cs =>
    cases l with
    | nil A => exact h
    | at_ b c =>
      obtain ⟨k1, k2⟩ := hw b c rfl
      obtain ⟨h1, h2, cur, T, h3, h4⟩ := h
      exact ⟨h1, fun k => by rw [k2 k, h2 k], cur, T, k1.trans h3, h4.ext e⟩
  | arr T size frz es =>
    cases l with
    | nil A => exact h
    | at_ b c =>
      obtain ⟨k1, k2⟩ := hw b c rfl
      obtain ⟨h1, h2, h3, h4, h5, h6, h7, cur, h8, h9, h10⟩ := h
      exact ⟨h1, h2, h3, h4, h5, h6, fun k v hk => h7 k v (by rw [← k2 k]; exact hk), cur, h8.of k1, h9, h10.mono e.mem⟩
  | dfr =>
    cases l with
    | nil A => exact h
    | at_ b c => exact ⟨h.1, (hw b c rfl).1.trans h.2⟩
  | loop L =>
    cases l with
    | nil A => exact h
    | at_ b c =>
      obtain ⟨h1, fn, tmps, bd, h2, h5, h6⟩ := h
      exact ⟨h1, fn, tmps, bd, (hw b c rfl).1.trans h2, h5, fun d => (h6 d).ext e⟩
  | map es =>
    cases l with
    | nil A => exact h
    | at_ b c =>
      obtain ⟨h1, ents, clock, h2, h3, h4⟩ := h
      exact ⟨h1, ents, clock, (hw b c rfl).1.trans h2, h3, fun i k c e' hi he => ⟨(h4 i k c e' hi he).1, (h4 i k c e' hi he).2.ext e⟩⟩
  | hole => cases l <;> exact h

/-- New blocks, nothing else; what is fixed has grown on new blocks alone. -/
theorem Sim.grow {S S' : Mem} {m : List Loc} {H : List AObj} {B : Nat} {w w' : World} (s : Sim S m H B w) (hw : ∀ k, k < w.heap.size → w'.heap[k]? = w.heap[k]?) (hsz : w.heap.size ≤ w'.heap.size)
    (hS : OldMem w.heap.size S S') (hv : ∀ b o v, w.heap.size ≤ b → S' b o = some v → w'.cell? ⟨b, o, none⟩ = some v) : Sim S' m H B w' ∧ Ext B S m H S' m H := by
  have hle : S.le S' := fun b o v h => by rw [hS b o (s.lt h)]; exact h
  have e : Ext B S m H S' m H := ⟨hle, fun b o hb => hS b o (Nat.lt_of_lt_of_le hb s.base), fun id o h hf => ⟨⟨o, h, Kin.refl hf⟩, fun _ h => h⟩, fun id T size frz es l h h' => ⟨frz, es, l, h, h', Nat.le_refl _, fun _ => rfl⟩⟩
  refine ⟨⟨s.len, fun b o v h => ?_, Nat.le_trans s.base hsz, fun id o l ho hl => ?_, s.inj⟩, e⟩
  · by_cases hb : b < w.heap.size
    · rw [hS b o hb] at h
      exact cell_keep hw (s.mem b o v h)
    · exact hv b o v (by omega) h
  · refine (s.obj id o l ho hl).keep e fun b c hbc => ?_
    subst hbc
    have hlt := (s.obj id o _ ho hl).lt
    exact ⟨hw b hlt, fun k => hS b k hlt⟩

theorem Ext.push (B : Nat) (S : Mem) (m : List Loc) (H : List AObj) (hl : m.length = H.length) (o : AObj) (l : Loc) : Ext B S m H S (m ++ [l]) (H ++ [o]) := by
  have ho : ∀ (id : Nat) x, H[id]? = some x → (H ++ [o])[id]? = some x := fun id x h => by rw [List.getElem?_append_left (List.getElem?_eq_some_iff.1 h).1]; exact h
  have hm : ∀ (id : Nat) x, m[id]? = some x → (m ++ [l])[id]? = some x := fun id x h => by rw [List.getElem?_append_left (List.getElem?_eq_some_iff.1 h).1]; exact h
  exact ⟨Mem.le_refl S, fun _ _ _ => rfl, fun id x h hf => ⟨⟨x, ho id _ h, Kin.refl hf⟩, fun l' h' => hm id l' h'⟩, fun id T size frz es l' h h' => ⟨frz, es, l', ho id _ h, hm id _ h', Nat.le_refl _, fun _ => rfl⟩⟩

/-- An object more. -/
theorem Sim.push {S : Mem} {m : List Loc} {H : List AObj} {B : Nat} {w : World} (s : Sim S m H B w) (o : AObj) (l : Loc) (ho : ObjOk S (m ++ [l]) (H ++ [o]) B w o l)
    (hnew : ∀ b c, l = .at_ b c → ∀ (i c' : Nat), m[i]? ≠ some (.at_ b c')) : Sim S (m ++ [l]) (H ++ [o]) B w := by
  have e := Ext.push B S m H s.len o l
  refine ⟨by simp [s.len], s.mem, s.base, fun id x y hx hy => ?_, fun i j b c d hi hj => ?_⟩
  · by_cases hlt : id < H.length
    · rw [List.getElem?_append_left hlt] at hx
      rw [List.getElem?_append_left (by rw [s.len]; exact hlt)] at hy
      exact (s.obj id x y hx hy).keep e fun b c _ => ⟨rfl, fun k => rfl⟩
    · have h1 := (List.getElem?_eq_some_iff.1 hx).1
      simp only [List.length_append, List.length_singleton] at h1
      obtain rfl : id = H.length := by omega
      have h2 : x = o := by simpa using hx.symm
      have h3 : y = l := by rw [← s.len] at hy; simpa using hy.symm
      subst h2; subst h3
      exact ho
  · rw [List.getElem?_append] at hi hj
    split at hi <;> split at hj
    · exact s.inj i j b c d hi hj
    · rename_i hj'
      have h0 : j - m.length = 0 := by
        have := (List.getElem?_eq_some_iff.1 hj).1
        simp at this; omega
      rw [h0] at hj
      have hl : l = .at_ b d := by simpa using hj
      exact absurd hi (hnew b d hl i c)
    · rename_i hi' _
      have h0 : i - m.length = 0 := by
        have := (List.getElem?_eq_some_iff.1 hi).1
        simp at this; omega
      rw [h0] at hi
      have hl : l = .at_ b c := by simpa using hi
      exact absurd hj (hnew b c hl j d)
    · have h0 : i - m.length = 0 := by
        have := (List.getElem?_eq_some_iff.1 hi).1
        simp at this; omega
      have h1 : j - m.length = 0 := by
        have := (List.getElem?_eq_some_iff.1 hj).1
        simp at this; omega
      omega

theorem Sim.noblock {S : Mem} {m : List Loc} {H : List AObj} {B : Nat} {w : World} (s : Sim S m H B w) {b : Nat} (hb : w.heap.size ≤ b) (i c : Nat) : m[i]? ≠ some (.at_ b c) := by
  intro h
  have hi : i < H.length := by rw [← s.len]; exact (List.getElem?_eq_some_iff.1 h).1
  have := (s.obj i H[i] _ (List.getElem?_eq_getElem hi) h).lt
  omega
theorem Sim.newmem {S : Mem} {m : List Loc} {H : List AObj} {B : Nat} {w : World} (s : Sim S m H B w) {b : Nat} (hb : w.heap.size ≤ b) (o : Nat) : S b o = none := by
  cases h : S b o with
  | none => rfl
  | some v => have := s.lt h; omega

/-- A new block is laid: a variable of ours. -/
theorem Sim.newVar {S : Mem} {m : List Loc} {H : List AObj} {B : Nat} {w : World} (s : Sim S m H B w) (cs : List Cell) (vs : List Value) (T : Nat) (h : VCs S m H cs vs) :
    Sim S (m ++ [.at_ w.heap.size 0]) (H ++ [.var cs]) B (w.alloc (.cells vs.toArray T)) ∧ Ext B S m H S (m ++ [.at_ w.heap.size 0]) (H ++ [.var cs]) ∧
      VC S (m ++ [.at_ w.heap.size 0]) (H ++ [.var cs]) (.ptr H.length 0) (.pointer (some ⟨w.heap.size, 0, none⟩)) := by
  have e := Ext.push B S m H s.len (.var cs) (.at_ w.heap.size 0)
  obtain ⟨s1, _⟩ := s.grow (S' := S) (w' := w.alloc (.cells vs.toArray T)) (fun k hk => heap_alloc_old w _ hk) (by simp) (fun _ _ _ => rfl) (fun b o v hb hv => by have := s.newmem hb o; rw [this] at hv; cases hv)
  refine ⟨s1.push _ _ ⟨s.base, fun o => s.newmem (Nat.le_refl _) o, vs, T, heap_alloc_new w _, h.ext e⟩ ?_, e, ?_⟩
  · intro b c hbc i c'
    cases hbc
    exact s.noblock (Nat.le_refl _) i c'
  · exact ⟨w.heap.size, 0, cs, by simp, by rw [← s.len]; simp, rfl⟩

/-- An array object's block is in hand: nobody else's. -/
theorem Sim.newArr {S : Mem} {m : List Loc} {H : List AObj} {B : Nat} {w : World} (s : Sim S m H B w) (T size cap : Nat) (es : List (List PV)) (cur : List Value) (hs : 0 < size) (hu : ∀ e, e ∈ es → e.length = size)
    (hc : es.length ≤ cap) (hm : cap ≤ maxLen) (hl : cur.length = cap * size) (hp : VPs S es.flatten (cur.take (es.length * size))) :
    Sim S (m ++ [.at_ w.heap.size cap]) (H ++ [.arr T size 0 es]) B (w.alloc (.cells cur.toArray T)) ∧ Ext B S m H S (m ++ [.at_ w.heap.size cap]) (H ++ [.arr T size 0 es]) ∧
      VC S (m ++ [.at_ w.heap.size cap]) (H ++ [.arr T size 0 es]) (.own H.length es.length) (.slice (some ⟨w.heap.size, 0, none⟩) es.length cap) := by
  have e := Ext.push B S m H s.len (.arr T size 0 es) (.at_ w.heap.size cap)
  obtain ⟨s1, _⟩ := s.grow (S' := S) (w' := w.alloc (.cells cur.toArray T)) (fun k hk => heap_alloc_old w _ hk) (by simp) (fun _ _ _ => rfl) (fun b o v hb hv => by have := s.newmem hb o; rw [this] at hv; cases hv)
  refine ⟨s1.push _ _ ⟨hs, hu, Nat.zero_le _, s.base, hc, hm, (fun o v (hv : S w.heap.size o = some v) => by rw [s.newmem (Nat.le_refl _) o] at hv; cases hv), cur, ⟨(0, 0), heap_alloc_new w _, .inl rfl⟩, hl, hp⟩ ?_, e, ?_⟩
  · intro b c hbc i c'
    cases hbc
    exact s.noblock (Nat.le_refl _) i c'
  · exact ⟨T, size, 0, es, .at_ w.heap.size cap, by simp, by rw [← s.len]; simp, fun _ => rfl, Nat.le_refl _, rfl, rfl⟩

/-- A draw turns nothing. -/
theorem Sim.drew {S : Mem} {m : List Loc} {H : List AObj} {B : Nat} {w : World} (s : Sim S m H B w) : Sim S m H B w.drew :=
  ⟨s.len, s.mem, s.base, s.obj, s.inj⟩

theorem getElem?_set_ne {α : Type} (l : List α) (i j : Nat) (x : α) (h : i ≠ j) : (l.set i x)[j]? = l[j]? := by simp [List.getElem?_set, h]

/-- A variable's cells are written anew. -/
theorem Sim.setVar {S : Mem} {m : List Loc} {H : List AObj} {B : Nat} {w : World} (s : Sim S m H B w) {id b cap : Nat} {cs cs' : List Cell} (ho : H[id]? = some (.var cs)) (hl : m[id]? = some (.at_ b cap))
    {w' : World} {T : Nat} {vs : List Value} (hb : w'.heap[b]? = some (.cells vs.toArray T (0, 0))) (hother : ∀ k, k ≠ b → w'.heap[k]? = w.heap[k]?) (hsz : w'.heap.size = w.heap.size) (hv : VCs S m H cs' vs) :
    Sim S m (H.set id (.var cs')) B w' ∧ Ext B S m H S m (H.set id (.var cs')) := by
  have hid : id < H.length := (List.getElem?_eq_some_iff.1 ho).1
  have e : Ext B S m H S m (H.set id (.var cs')) := by
    refine ⟨Mem.le_refl S, fun _ _ _ => rfl, fun i x h hf => ⟨?_, fun _ h => h⟩, fun i T' size frz es l h h' => ⟨frz, es, l, ?_, h', Nat.le_refl _, fun _ => rfl⟩⟩
    · by_cases hi : id = i
      · subst hi
        rw [ho] at h; cases h
        exact ⟨.var cs', by simp [hid], trivial⟩
      · exact ⟨x, by rw [getElem?_set_ne _ _ _ _ hi]; exact h, Kin.refl hf⟩
    · have hi : id ≠ i := fun hi => by subst hi; rw [ho] at h; cases h
      rw [getElem?_set_ne _ _ _ _ hi]; exact h
  have hO := s.obj id _ _ ho hl
  obtain ⟨h1, h2, cur, T0, h3, h4⟩ := hO
  refine ⟨⟨by simp [s.len], fun b' o v h => ?_, by rw [hsz]; exact s.base, fun i x y hx hy => ?_, s.inj⟩, e⟩
  · have hne : b' ≠ b := fun hh => by subst hh; rw [h2 o] at h; cases h
    have := s.mem b' o v h
    simp only [World.cell?] at this ⊢
    rw [hother b' hne]
    exact this
  · by_cases hi : id = i
    · subst hi
      rw [hl] at hy
      cases hy
      rw [List.getElem?_set_self hid] at hx
      cases hx
      exact ⟨h1, h2, vs, T, hb, hv.ext e⟩
    · rw [getElem?_set_ne _ _ _ _ hi] at hx
      refine (s.obj i x y hx hy).keep e fun b' c hbc => ?_
      subst hbc
      have hne : b' ≠ b := fun hh => by subst hh; exact hi (s.inj id i b' cap c hl hy)
      exact ⟨hother b' hne, fun k => rfl⟩

/-- An array object is written: its block holds other cells, or lies elsewhere. -/
theorem Sim.setArr {S : Mem} {m : List Loc} {H : List AObj} {B : Nat} {w : World} (s : Sim S m H B w) {id : Nat} {T size frz : Nat} {es es' : List (List PV)} {l l' : Loc} (ho : H[id]? = some (.arr T size frz es)) (hl : m[id]? = some l)
    {w' : World} (hmem : ∀ b o v, S b o = some v → w'.cell? ⟨b, o, none⟩ = some v) (hsz : w.heap.size ≤ w'.heap.size) (hother : ∀ k, k < w.heap.size → (∀ b c, l = .at_ b c → k ≠ b) → w'.heap[k]? = w.heap[k]?)
    (hlen : es.length ≤ es'.length) (hsame : es'.length = es.length → l' = l) (hnew : ∀ b c, l' = .at_ b c → (∃ c', l = .at_ b c') ∨ w.heap.size ≤ b)
    (hok : ObjOk S (m.set id l') (H.set id (.arr T size frz es')) B w' (.arr T size frz es') l') :
    Sim S (m.set id l') (H.set id (.arr T size frz es')) B w' ∧ Ext B S m H S (m.set id l') (H.set id (.arr T size frz es')) := by
  have hid : id < H.length := (List.getElem?_eq_some_iff.1 ho).1
  have hidm : id < m.length := by rw [s.len]; exact hid
  have e : Ext B S m H S (m.set id l') (H.set id (.arr T size frz es')) := by
    refine ⟨Mem.le_refl S, fun _ _ _ => rfl, fun i x h hf => ?_, fun i T' size' frz' es0 l0 h h' => ?_⟩
    · have hi : id ≠ i := fun hi => by subst hi; rw [ho] at h; cases h; exact hf.elim
      exact ⟨⟨x, by rw [getElem?_set_ne _ _ _ _ hi]; exact h, Kin.refl hf⟩, fun l0 h0 => by rw [getElem?_set_ne _ _ _ _ hi]; exact h0⟩
    · by_cases hi : id = i
      · subst hi
        rw [ho] at h; cases h
        rw [hl] at h'; cases h'
        exact ⟨frz, es', l', by simp [hid], by simp [hidm], hlen, hsame⟩
      · exact ⟨frz', es0, l0, by rw [getElem?_set_ne _ _ _ _ hi]; exact h, by rw [getElem?_set_ne _ _ _ _ hi]; exact h', Nat.le_refl _, fun _ => rfl⟩
  refine ⟨⟨by simp [s.len], hmem, Nat.le_trans s.base hsz, fun i x y hx hy => ?_, fun i j b c d hi hj => ?_⟩, e⟩
  · by_cases hi : id = i
    · subst hi
      rw [List.getElem?_set_self hid] at hx
      rw [List.getElem?_set_self hidm] at hy
      cases hx; cases hy
      exact hok
    · rw [getElem?_set_ne _ _ _ _ hi] at hx hy
      refine (s.obj i x y hx hy).keep e fun b' c hbc => ?_
      subst hbc
      exact ⟨hother b' (s.obj i x _ hx hy).lt fun b c' hbc hne => by subst hbc; subst hne; exact hi (s.inj id i b' c' c hl hy), fun k => rfl⟩
  · by_cases h1 : id = i
    · subst h1
      rw [List.getElem?_set_self hidm] at hi
      by_cases h2 : id = j
      · exact h2
      · rw [getElem?_set_ne _ _ _ _ h2] at hj
        have hl' : l' = .at_ b c := Option.some.inj hi
        rcases hnew b c hl' with ⟨c', hc'⟩ | hb
        · subst hc'; exact s.inj id j b c' d hl hj
        · exact absurd hj (s.noblock hb j d)
    · rw [getElem?_set_ne _ _ _ _ h1] at hi
      by_cases h2 : id = j
      · subst h2
        rw [List.getElem?_set_self hidm] at hj
        have hl' : l' = .at_ b d := Option.some.inj hj
        rcases hnew b d hl' with ⟨c', hc'⟩ | hb
        · subst hc'; exact s.inj i id b c c' hi hl
        · exact absurd hi (s.noblock hb i c)
      · rw [getElem?_set_ne _ _ _ _ h2] at hj
        exact s.inj i j b c d hi hj

/-- The elements of an array object are frozen: from now on it reads as a list that nobody changes. -/
theorem Sim.freeze {S : Mem} {m : List Loc} {H : List AObj} {B : Nat} {w : World} (s : Sim S m H B w) {id T size frz : Nat} {es : List (List PV)} (ho : H[id]? = some (.arr T size frz es)) {v : Value} (hv : VC S m H (.own id es.length) v) :
    ∃ S', Sim S' m (H.set id (.arr T size es.length es)) B w ∧ Ext B S m H S' m (H.set id (.arr T size es.length es)) ∧ VP S' (.sl false es) v := by
  obtain ⟨T1, size1, frz1, es1, l, h1, h2, h3, _, _⟩ := hv
  rw [ho] at h1
  cases h1
  have h3 := h3 rfl
  have hid : id < H.length := (List.getElem?_eq_some_iff.1 ho).1
  have hO := s.obj id _ _ ho h2
  cases l with
  | nil A =>
    obtain ⟨hs, rfl, rfl⟩ := hO
    have e : Ext B S m H S m (H.set id (.arr T size 0 [])) := by
      refine ⟨Mem.le_refl S, fun _ _ _ => rfl, fun i x h hf => ?_, fun i T' size' frz' es0 l0 h h' => ?_⟩
      · have hi : id ≠ i := fun hi => by subst hi; rw [ho] at h; cases h; exact hf.elim
        exact ⟨⟨x, by rw [getElem?_set_ne _ _ _ _ hi]; exact h, Kin.refl hf⟩, fun l0 h0 => h0⟩
      · by_cases hi : id = i
        · subst hi
          rw [ho] at h; cases h
          exact ⟨0, [], l0, by simp [hid], h', Nat.le_refl _, fun _ => rfl⟩
        · exact ⟨frz', es0, l0, by rw [getElem?_set_ne _ _ _ _ hi]; exact h, h', Nat.le_refl _, fun _ => rfl⟩
    refine ⟨S, ⟨by simp [s.len], s.mem, s.base, fun i x y hx hy => ?_, s.inj⟩, e, ?_⟩
    · by_cases hi : id = i
      · subst hi
        rw [h2] at hy; cases hy
        have hx' : x = .arr T size 0 [] := by simpa [hid] using hx.symm
        subst hx'
        exact ⟨hs, rfl, rfl⟩
      · rw [getElem?_set_ne _ _ _ _ hi] at hx
        exact (s.obj i x y hx hy).keep e fun b' c hbc => ⟨rfl, fun k => rfl⟩
    · cases A with
      | none => subst h3; exact .nil false
      | some q => subst h3; exact .emp false q
  | at_ b cap =>
    obtain ⟨hs, hu, hf, hB, hc, hm, hS, cur, ⟨fz, hh, hz⟩, hl, hp⟩ := hO
    have hlen : (cur.take (es.length * size)).length = es.length * size := by
      rw [List.length_take, hl]
      exact Nat.min_eq_left (Nat.mul_le_mul_right _ hc)
    let S' : Mem := fun b' o => if b' = b ∧ o < es.length * size then cur[o]? else S b' o
    have hle : S.le S' := fun b' o v hv => by
      show (if b' = b ∧ o < es.length * size then cur[o]? else S b' o) = some v
      split
      · rename_i hbo
        obtain ⟨rfl, _⟩ := hbo
        rw [← cell_eq hh]; exact s.mem b' o v hv
      · exact hv
    have hnew : ∀ b' k, b' ≠ b → S' b' k = S b' k := fun b' k hne => by
      show (if b' = b ∧ k < es.length * size then cur[k]? else S b' k) = S b' k
      rw [if_neg (fun h => hne h.1)]
    have hin : ∀ k, k < es.length * size → S' b k = cur[k]? := fun k hk => by
      show (if b = b ∧ k < es.length * size then cur[k]? else S b k) = cur[k]?
      rw [if_pos ⟨rfl, hk⟩]
    have e : Ext B S m H S' m (H.set id (.arr T size es.length es)) := by
      refine ⟨hle, fun b' k hb' => hnew b' k (by omega), fun i x h hf => ?_, fun i T' size' frz' es0 l0 h h' => ?_⟩
      · have hi : id ≠ i := fun hi => by subst hi; rw [ho] at h; cases h; exact hf.elim
        exact ⟨⟨x, by rw [getElem?_set_ne _ _ _ _ hi]; exact h, Kin.refl hf⟩, fun l0 h0 => h0⟩
      · by_cases hi : id = i
        · subst hi
          rw [ho] at h; cases h
          exact ⟨es.length, es, l0, by simp [hid], h', Nat.le_refl _, fun _ => rfl⟩
        · exact ⟨frz', es0, l0, by rw [getElem?_set_ne _ _ _ _ hi]; exact h, h', Nat.le_refl _, fun _ => rfl⟩
    refine ⟨S', ⟨by simp [s.len], fun b' o v h => ?_, s.base, fun i x y hx hy => ?_, s.inj⟩, e, ?_⟩
    · by_cases hbo : b' = b ∧ o < es.length * size
      · obtain ⟨rfl, ho'⟩ := hbo
        rw [hin o ho'] at h
        rw [cell_eq hh]; exact h
      · have : S' b' o = S b' o := if_neg hbo
        rw [this] at h
        exact s.mem b' o v h
    · by_cases hi : id = i
      · subst hi
        rw [h2] at hy; cases hy
        have hx' : x = .arr T size es.length es := by simpa [hid] using hx.symm
        subst hx'
        refine ⟨hs, hu, Nat.le_refl _, hB, hc, hm, fun o v hv => ?_, cur, ⟨fz, hh, hz⟩, hl, hp.mono hle⟩
        rcases Nat.lt_or_ge o (es.length * size) with h | h
        · exact h
        · have : S' b o = S b o := if_neg (fun hbo => by omega)
          rw [this] at hv
          have := hS o v hv
          have := Nat.mul_le_mul_right size hf
          omega
      · rw [getElem?_set_ne _ _ _ _ hi] at hx
        refine (s.obj i x y hx hy).keep e fun b' c hbc => ⟨rfl, fun k => ?_⟩
        subst hbc
        exact hnew b' k (fun hh => by subst hh; exact hi (s.inj id i b' cap c h2 hy))
    · subst h3
      refine .sl false es b 0 cap size es.length (fun k => cur.getD k undef) rfl hc hm (fun h => by cases h) hs hu (fun k x hk => ?_) (fun k x hk => ?_)
      all_goals
        have hk' : k < es.length * size := by rw [← flat_len hu]; exact (List.getElem?_eq_some_iff.1 hk).1
        have hkc : k < cur.length := by rw [hl]; have := Nat.mul_le_mul_right size hc; omega
      · rw [Nat.zero_add, hin k hk', List.getD_eq_getElem?_getD, List.getElem?_eq_getElem hkc]; rfl
      · refine (hp.2 k x _ hk ?_).mono hle
        rw [List.getElem?_take, if_pos hk', List.getD_eq_getElem?_getD, List.getElem?_eq_getElem hkc]; rfl

end Go.Aw

/-
  An abstract memory for walks, part 3: what single operations do: reading and writing places, making variables.
-/
set_option linter.unusedVariables false
set_option linter.unusedSimpArgs false
namespace Go.Aw
open Go.RowKit

/-- Constants. -/
def absP : Value → Option PV
  | .int k n => some (.int k n)
  | .bool b => some (.bool b)
  | .string s => some (.str s)
  | .slice none 0 0 => some (.sl true [])
  | .pointer none => some .nilp
  | .nilFunc => some .nilfn
  | .nilIface => some .nilif
  | _ => none
def absL : List Value → Option (List PV)
  | [] => some []
  | v :: vs => match absP v, absL vs with
    | some x, some xs => some (x :: xs)
    | _, _ => none
def absA : Value → AV
  | .agg cs => match absL cs.toList with
    | some xs => .agg (xs.map .p)
    | none => .any
  | v => match absP v with
    | some x => .c (.p x)
    | none => .any
theorem absP_ok (S : Mem) {v : Value} {x : PV} (h : absP v = some x) : VP S x v := by
  unfold absP at h
  split at h <;> cases h
  · exact .int _ _
  · exact .bool _
  · exact .str _
  · exact .nil true
  · exact .nilp
  · exact .nilfn
  · exact .nilif
theorem VPs.nil (S : Mem) : VPs S [] [] := ⟨rfl, fun i x v h => by simp at h⟩
theorem VPs.cons {S : Mem} {x : PV} {v : Value} {xs : List PV} {vs : List Value} (h : VP S x v) (hs : VPs S xs vs) : VPs S (x :: xs) (v :: vs) := by
  refine ⟨by simp [hs.1], fun i y u hy hu => ?_⟩
  cases i with
  | zero => simp at hy hu; subst hy; subst hu; exact h
  | succ i => exact hs.2 i y u (by simpa using hy) (by simpa using hu)
theorem absL_ok (S : Mem) : ∀ {vs : List Value} {xs : List PV}, absL vs = some xs → VPs S xs vs
  | [], xs, h => by simp [absL] at h; subst h; exact .nil S
  | v :: vs, xs, h => by
    simp only [absL] at h
    split at h
    · rename_i x ys h1 h2
      cases h
      exact VPs.cons (absP_ok S h1) (absL_ok S h2)
    · cases h
theorem VCs.nil (S : Mem) (m : List Loc) (H : List AObj) : VCs S m H [] [] := ⟨rfl, fun i x v h => by simp at h⟩
theorem VCs.cons {S : Mem} {m : List Loc} {H : List AObj} {x : Cell} {v : Value} {xs : List Cell} {vs : List Value} (h : VC S m H x v) (hs : VCs S m H xs vs) : VCs S m H (x :: xs) (v :: vs) := by
  refine ⟨by simp [hs.1], fun i y u hy hu => ?_⟩
  cases i with
  | zero => simp at hy hu; subst hy; subst hu; exact h
  | succ i => exact hs.2 i y u (by simpa using hy) (by simpa using hu)
theorem VPs.cells {S : Mem} {m : List Loc} {H : List AObj} {xs : List PV} {vs : List Value} (h : VPs S xs vs) : VCs S m H (xs.map .p) vs := by
  refine ⟨by simp [h.1], fun i c v hc hv => ?_⟩
  rw [List.getElem?_map] at hc
  cases hx : xs[i]? with
  | none => simp [hx] at hc
  | some x => simp [hx] at hc; subst hc; exact h.2 i x v hx hv
theorem absA_ok (S : Mem) (m : List Loc) (H : List AObj) (v : Value) : VA S m H (absA v) v := by
  unfold absA
  split
  · rename_i cs
    split
    · rename_i xs h
      exact ⟨cs.toList, by simp, (absL_ok S h).cells⟩
    · trivial
  · split
    · rename_i x h; exact absP_ok S h
    · trivial

def ev (sl : List (Nat × AV)) : Operand → AV
  | .tmp t => getS sl t
  | .const v => absA v
  | .func f => .c (.p (.fn f))
  | .global _ => .any

/-- The pseudo-slot that tells of an activation's deferred calls. -/
def DEF : Nat := 1000000
/-- Blocks of deferred calls that are held, in which there is none. -/
def MarksOk (m : List Loc) (H : List AObj) : List Nat → List Deferred → Prop
  | [], ds => ds = []
  | id :: r, ds => id ∉ r ∧ ∃ b c ds', m[id]? = some (.at_ b c) ∧ H[id]? = some .dfr ∧ ds = { target := .collected b, args := #[] } :: ds' ∧ MarksOk m H r ds'
/-- 'mark none': no round of a loop, and nothing deferred; 'mark (some ids)': likewise, and blocks of deferred calls are held, in which there is none. -/
def DefOk (ro : Option Nat) (m : List Loc) (H : List AObj) (ds : List Deferred) : AV → Prop
  | .mark none => ro = none ∧ ds = []
  | .mark (some ids) => ro = none ∧ MarksOk m H ids ds
  | _ => ds = []
theorem MarksOk.mono {m m' : List Loc} {H H' : List AObj} : ∀ {ids : List Nat} {ds : List Deferred}, MarksOk m H ids ds → (∀ id ∈ ids, H[id]? = some .dfr → H'[id]? = some .dfr ∧ ∀ b c, m[id]? = some (.at_ b c) → m'[id]? = some (.at_ b c)) → MarksOk m' H' ids ds
  | [], _, h, _ => h
  | id :: r, _, ⟨h0, b, c, ds', h1, h2, h3, h4⟩, g => by
    obtain ⟨g1, g2⟩ := g id (by simp) h2
    exact ⟨h0, b, c, ds', g2 b c h1, g1, h3, h4.mono fun i hi => g i (by simp [hi])⟩
theorem MarksOk.lt {m : List Loc} {H : List AObj} : ∀ {ids : List Nat} {ds : List Deferred}, MarksOk m H ids ds → ∀ i ∈ ids, i < H.length
  | [], _, _, i, hi => by simp at hi
  | id :: r, _, ⟨_, b, c, ds', _, h2, _, h4⟩, i, hi => by
    rcases List.mem_cons.1 hi with rfl | hi
    · exact (List.getElem?_eq_some_iff.1 h2).1
    · exact h4.lt i hi
theorem DefOk.ext {B : Nat} {S S' : Mem} {m m' : List Loc} {H H' : List AObj} {ro : Option Nat} {ds : List Deferred} {x : AV} (h : DefOk ro m H ds x) (e : Ext B S m H S' m' H') : DefOk ro m' H' ds x := by
  match x, h with
  | .mark none, h => exact h
  | .mark (some ids), ⟨h1, h2⟩ =>
    refine ⟨h1, h2.mono fun id _ h3 => ?_⟩
    obtain ⟨⟨o', a1, a2⟩, a3⟩ := e.fix id _ h3 trivial
    have hd : o' = .dfr := by cases o' <;> first | rfl | exact a2.elim
    subst hd
    exact ⟨a1, fun b c h => a3 _ h⟩
  | .any, h => exact h
  | .c _, h => exact h
  | .agg _, h => exact h
  | .tup _, h => exact h
structure ARel (ro : Option Nat) (S : Mem) (m : List Loc) (H : List AObj) (n : Nat) (sl : List (Nat × AV)) (a : Act) : Prop where
  defers : DefOk ro m H a.defers (getS sl DEF)
  big : n ≤ DEF
  size : a.tmps.size = n
  slot : ∀ d, VA S m H (getS sl d) (a.tmps.getD d undef)
theorem ARel.eval {ro : Option Nat} {S : Mem} {m : List Loc} {H : List AObj} {n : Nat} {sl : List (Nat × AV)} {a : Act} (h : ARel ro S m H n sl a) (x : Operand) : VA S m H (ev sl x) (a.eval x) := by
  cases x with
  | tmp t => exact h.slot t
  | const v => exact absA_ok S m H v
  | global g => trivial
  | func f => exact VP.fn f
theorem ARel.ext {ro : Option Nat} {B : Nat} {S S' : Mem} {m m' : List Loc} {H H' : List AObj} {n : Nat} {sl : List (Nat × AV)} {a : Act} (h : ARel ro S m H n sl a) (e : Ext B S m H S' m' H') : ARel ro S' m' H' n sl a :=
  ⟨h.defers.ext e, h.big, h.size, fun d => (h.slot d).ext e⟩
theorem ARel.put {ro : Option Nat} {S : Mem} {m : List Loc} {H : List AObj} {n : Nat} {sl : List (Nat × AV)} {a : Act} (h : ARel ro S m H n sl a) {d : Nat} (hd : d < n) {x : AV} {v : Value} (hv : VA S m H x v) : ARel ro S m H n ((d, x) :: sl) (a.put (some d) v) := by
  refine ⟨by
    simp only [getS]
    rw [if_neg (by have := h.big; omega)]
    exact h.defers, h.big, by simp [Act.put, h.size], fun t => ?_⟩
  simp only [getS, Act.put]
  by_cases ht : t = d
  · subst ht
    simp only [if_true]
    have : (a.tmps.setIfInBounds t v).getD t undef = v := by simp [Array.getD_eq_getD_getElem?, h.size, hd]
    rw [this]; exact hv
  · simp only [if_neg ht]
    have : (a.tmps.setIfInBounds d v).getD t undef = a.tmps.getD t undef := by
      simp only [Array.getD_eq_getD_getElem?]
      rw [Array.getElem?_setIfInBounds_ne (Ne.symm ht)]
    rw [this]; exact h.slot t

/-- As 'Below'. -/
structure Bel (B : Nat) (w w' : World) : Prop where
  below : Below B w w'
theorem Bel.refl (B : Nat) (w : World) : Bel B w w := ⟨Below.refl B w⟩
theorem Bel.trans {B : Nat} {a b c : World} (h : Bel B a b) (k : Bel B b c) : Bel B a c := ⟨h.below.trans k.below⟩
theorem Bel.drew {B : Nat} {a w : World} (h : Bel B a w) : Bel B a w.drew := ⟨h.below.drew⟩
theorem Bel.alloc {B : Nat} {a w : World} (h : Bel B a w) (hB : B ≤ w.heap.size) (o : Obj) : Bel B a (w.alloc o) :=
  ⟨h.below.alloc hB o⟩
/-- Only new blocks. -/
theorem Bel.of_old {B : Nat} {w w' : World} (h : Below B w w') (ho : ∀ k, k < w.heap.size → w'.heap[k]? = w.heap[k]?) : Bel B w w' :=
  ⟨h⟩
/-! ### What a step comes to -/
def Post (B : Nat) (S : Mem) (m : List Loc) (H : List AObj) (w : World) (K : AV → List AObj → Prop) (v : Value) (w' : World) : Prop :=
  ∃ S' m' H' x, Sim S' m' H' B w' ∧ Ext B S m H S' m' H' ∧ Bel B w w' ∧ VA S' m' H' x v ∧ K x H'
def Good (P : Program) (B : Nat) (S : Mem) (m : List Loc) (H : List AObj) (w : World) (s : Sem Value) (K : AV → List AObj → Prop) : Prop :=
  ∃ v w', s.run P w = .ok v w' ∧ Post B S m H w K v w'
def GoodU (P : Program) (B : Nat) (S : Mem) (m : List Loc) (H : List AObj) (w : World) (s : Sem Unit) (K : List AObj → Prop) : Prop :=
  ∃ w', s.run P w = .ok () w' ∧ ∃ S' m' H', Sim S' m' H' B w' ∧ Ext B S m H S' m' H' ∧ Bel B w w' ∧ K H'
section
variable {P : Program} {B : Nat} {S : Mem} {m : List Loc} {H : List AObj} {w : World} {K : AV → List AObj → Prop}
theorem Good.same (s : Sim S m H B w) {c : Sem Value} {v : Value} (hr : c.run P w = .ok v w) {x : AV} (hv : VA S m H x v) (hk : K x H) : Good P B S m H w c K :=
  ⟨v, w, hr, S, m, H, x, s, Ext.refl B S m H, Bel.refl B w, hv, hk⟩

/-- A value that is found without a change. -/
def Same (P : Program) (S : Mem) (m : List Loc) (H : List AObj) (w : World) (c : Sem Value) (K : AV → List AObj → Prop) : Prop := ∃ v x, c.run P w = .ok v w ∧ VA S m H x v ∧ K x H
theorem Same.mk {c : Sem Value} {v : Value} (hr : c.run P w = .ok v w) {x : AV} (hv : VA S m H x v) (hk : K x H) : Same P S m H w c K := ⟨v, x, hr, hv, hk⟩
theorem Same.good {c : Sem Value} (s : Sim S m H B w) (h : Same P S m H w c K) : Good P B S m H w c K := by
  obtain ⟨v, x, h1, h2, h3⟩ := h
  exact Good.same s h1 h2 h3

/-! ### Types -/
def aggT (P : Program) (t : TypeId) : Option Bool := (P.underlying t).map fun | .struct _ | .array _ _ => true | _ => false
theorem run_sizeOf' {t : TypeId} (h : 0 < P.cellsOf t) (w : World) : (sizeOf t).run P w = .ok (P.cellsOf t) w := by
  unfold Program.cellsOf at h ⊢
  cases hi : P.info? t with
  | none => simp [hi] at h
  | some i => simp [sizeOf, typeInfo, hi]
theorem info_of_cells {t : TypeId} (h : 0 < P.cellsOf t) : ∃ i, P.info? t = some i ∧ i.size = P.cellsOf t ∧ i.bytes = P.bytesOf t := by
  unfold Program.cellsOf at h ⊢
  cases hi : P.info? t with
  | none => simp [hi] at h
  | some i => exact ⟨i, rfl, by simp, by simp [Program.bytesOf, hi]⟩
theorem run_isAgg' {t : TypeId} {b : Bool} (h : aggT P t = some b) (w : World) : (isAgg t).run P w = .ok b w := by
  unfold aggT at h
  cases hu : P.underlying t with
  | none => simp [hu] at h
  | some d =>
    simp only [hu, Option.map_some, Option.some.injEq] at h
    unfold isAgg
    rw [Sem.run_bind, run_underlying hu w]
    subst h
    cases d <;> simp

/-! ### Reading -/
def aPart (P : Program) (t : TypeId) (cs : List Cell) (off : Nat) (H : List AObj) (K : AV → List AObj → Prop) : Prop :=
  match aggT P t with
  | some true => 0 < P.cellsOf t ∧ off + P.cellsOf t ≤ cs.length ∧ K (.agg ((cs.drop off).take (P.cellsOf t))) H
  | some false => match cs[off]? with
    | some c => K (.c c) H
    | none => False
  | none => False
def CellsAt (S : Mem) (m : List Loc) (H : List AObj) (w : World) (b o : Nat) (cs : List Cell) : Prop := ∀ (k : Nat) (c : Cell), cs[k]? = some c → ∃ v, w.cell? ⟨b, o + k, none⟩ = some v ∧ VC S m H c v
theorem CellsAt.list {b o : Nat} {cs : List Cell} (h : CellsAt S m H w b o cs) : ∃ vs : List Value, VCs S m H cs vs ∧ ∀ (k : Nat) (v : Value), vs[k]? = some v → w.cell? ⟨b, o + k, none⟩ = some v := by
  induction cs generalizing o with
  | nil => exact ⟨[], .nil S m H, fun k v h => by simp at h⟩
  | cons c cs ih =>
    obtain ⟨v, h1, h2⟩ := h 0 c (by simp)
    obtain ⟨vs, h3, h4⟩ := ih (o := o + 1) (fun k c' hk => by
      obtain ⟨u, a, b⟩ := h (k + 1) c' (by simpa using hk)
      exact ⟨u, by rwa [show o + 1 + k = o + (k + 1) by omega], b⟩)
    refine ⟨v :: vs, VCs.cons h2 h3, fun k u hk => ?_⟩
    cases k with
    | zero => simp at hk; subst hk; exact h1
    | succ k => rw [show o + (k + 1) = o + 1 + k by omega]; exact h4 k u (by simpa using hk)
theorem same_part {b o off : Nat} {cs : List Cell} {t : TypeId} (hc : CellsAt S m H w b o cs) (h : aPart P t cs off H K) : Same P S m H w (loadVar t ⟨b, o + off, none⟩) K := by
  unfold aPart at h
  cases ha : aggT P t with
  | none => simp [ha] at h
  | some a =>
    cases a with
    | false =>
      simp only [ha] at h
      cases hx : cs[off]? with
      | none => simp [hx] at h
      | some c =>
        simp only [hx] at h
        obtain ⟨v, h1, h2⟩ := hc off c hx
        exact Same.mk (x := .c c) (v := v) (by simp [loadVar, run_isAgg' ha, h1]) h2 h
    | true =>
      simp only [ha] at h
      obtain ⟨hp, hl, hk⟩ := h
      have hsub : CellsAt S m H w b (o + off) ((cs.drop off).take (P.cellsOf t)) := fun k c hk => by
        rw [List.getElem?_take] at hk
        split at hk
        · rw [List.getElem?_drop] at hk
          have := hc (off + k) c hk
          rwa [show o + (off + k) = o + off + k by omega] at this
        · cases hk
      obtain ⟨vs, h1, h2⟩ := hsub.list
      have hlen : vs.length = P.cellsOf t := by rw [← h1.1, List.length_take, List.length_drop]; omega
      have hlo : (loadCells ⟨b, o + off, none⟩ (P.cellsOf t)).run P w = .ok vs.toArray w := by
        rw [← hlen]
        exact run_loadCells_list (P := P) w _ vs (fun j v hv => by rw [addr_add]; exact h2 j v hv)
      refine Same.mk (x := .agg ((cs.drop off).take (P.cellsOf t))) (v := .agg vs.toArray) (by simp [loadVar, run_isAgg' ha, run_sizeOf' hp, hlo]) ⟨vs, rfl, h1⟩ hk

def aLoad (P : Program) (t : TypeId) (x : AV) (H : List AObj) (K : AV → List AObj → Prop) : Prop :=
  match x with
  | .c (.ptr id off) => match H[id]? with
    | some (.var cs) => aPart P t cs off H K
    | _ => False
  | .c (.ep id n i off) => match H[id]? with
    | some (.arr _ _ _ es) => es.length = n ∧ ∃ e, es[i]? = some e ∧ aPart P t (e.map .p) off H K
    | _ => False
  | .c (.pp cells) => aPart P t (cells.map .p) 0 H K
  | _ => False
theorem cellsAt_var (s : Sim S m H B w) {id b cap : Nat} {cs : List Cell} (ho : H[id]? = some (.var cs)) (hl : m[id]? = some (.at_ b cap)) : CellsAt S m H w b 0 cs := by
  obtain ⟨h1, h2, cur, T, h3, h4⟩ := s.obj id _ _ ho hl
  intro k c hk
  have hlt : k < cur.length := by rw [← h4.1]; exact (List.getElem?_eq_some_iff.1 hk).1
  exact ⟨cur[k], by rw [Nat.zero_add, cell_eq h3, List.getElem?_eq_getElem hlt], h4.2 k c _ hk (List.getElem?_eq_getElem hlt)⟩
theorem cellsAt_arr (s : Sim S m H B w) {id b cap T size frz : Nat} {es : List (List PV)} (ho : H[id]? = some (.arr T size frz es)) (hl : m[id]? = some (.at_ b cap)) {i : Nat} {e : List PV} (he : es[i]? = some e) :
    CellsAt S m H w b (i * size) (e.map .p) := by
  obtain ⟨hs, hu, hf, hB, hc, hm, hS, cur, ⟨fz, hh, hz⟩, hl', hp⟩ := s.obj id _ _ ho hl
  have hi : i < es.length := (List.getElem?_eq_some_iff.1 he).1
  have hel : e.length = size := hu e (List.mem_of_getElem? he)
  intro k c hk
  rw [List.getElem?_map] at hk
  cases hx : e[k]? with
  | none => simp [hx] at hk
  | some x =>
    simp [hx] at hk
    subst hk
    have hks : k < size := by rw [← hel]; exact (List.getElem?_eq_some_iff.1 hx).1
    have hflat : es.flatten[i * size + k]? = some x := by rw [flat_get hu i k hks, he]; exact hx
    have hlt : i * size + k < (cur.take (es.length * size)).length := by rw [← hp.1]; exact (List.getElem?_eq_some_iff.1 hflat).1
    have hget := List.getElem?_eq_getElem hlt
    refine ⟨_, ?_, hp.2 _ x _ hflat hget⟩
    rw [cell_eq hh, ← hget, List.getElem?_take]
    rw [if_pos (by rw [List.length_take] at hlt; omega)]
theorem same_load (s : Sim S m H B w) {t : TypeId} {x : AV} {v : Value} (hx : VA S m H x v) (h : aLoad P t x H K) : Same P S m H w (Instr.loadAt t v) K := by
  cases x with
  | any => exact h.elim
  | agg cs => exact h.elim
  | tup vs => exact h.elim
  | mark o => exact h.elim
  | c x =>
    cases x with
    | p x => exact h.elim
    | own id n => exact h.elim
    | clo f a b => exact h.elim
    | yld id => exact h.elim
    | room id n => exact h.elim
    | mp id => exact h.elim
    | vs id n => exact h.elim
    | tl id k n xs => exact h.elim
    | ptr id off =>
      obtain ⟨b, cap, cs, h1, h2, rfl⟩ := hx
      simp only [aLoad, h1] at h
      have := same_part (off := off) (cellsAt_var s h1 h2) h
      simpa [Same, Instr.loadAt, Instr.sureAddr] using this
    | ep id n i off =>
      obtain ⟨T, size, frz, es, l, h1, h2, h3, h4, h5⟩ := hx
      simp only [aLoad, h1] at h
      obtain ⟨hn, e, he, h⟩ := h
      obtain ⟨b, cap, rfl, rfl⟩ := h3 hn
      have := same_part (off := off) (cellsAt_arr s h1 h2 he) h
      simpa [Same, Instr.loadAt, Instr.sureAddr] using this
    | pp cells =>
      obtain ⟨b, off, u, rfl, h2⟩ := hx
      simp only [aLoad] at h
      have := same_part (S := S) (m := m) (H := H) (w := w) (b := b) (cs := cells.map .p) (o := off) (off := 0) (fun k c hk => by
        rw [List.getElem?_map] at hk
        cases hx : cells[k]? with
        | none => simp [hx] at hk
        | some x => simp [hx] at hk; subst hk; exact ⟨u k, s.mem _ _ _ (h2 k x hx).1, (h2 k x hx).2⟩) h
      simpa [Same, Instr.loadAt, Instr.sureAddr] using this

theorem good_load (s : Sim S m H B w) {t : TypeId} {x : AV} {v : Value} (hx : VA S m H x v) (h : aLoad P t x H K) : Good P B S m H w (Instr.loadAt t v) K := (same_load s hx h).good s

/-! ### A variable -/
def cellsA : AV → Option (List Cell)
  | .c x => some [x]
  | .agg cs => some cs
  | _ => none
theorem cellsA_ok {x : AV} {v : Value} {cs : List Cell} (hx : VA S m H x v) (h : cellsA x = some cs) : VCs S m H cs v.cells.toList := by
  cases x with
  | any => simp [cellsA] at h
  | tup vs => simp [cellsA] at h
  | mark o => simp [cellsA] at h
  | c x =>
    simp [cellsA] at h; subst h
    rw [(VC.one hx).2]
    exact VCs.cons hx (.nil S m H)
  | agg cs' =>
    simp [cellsA] at h; subst h
    obtain ⟨vs, rfl, h2⟩ := hx
    simpa [Value.cells] using h2
def aBox (x : AV) (H : List AObj) (K : AV → List AObj → Prop) : Prop :=
  match cellsA x with
  | some cs => K (.c (.ptr H.length 0)) (H ++ [.var cs])
  | none => False
theorem good_box (s : Sim S m H B w) {t : TypeId} {x : AV} {v : Value} (hx : VA S m H x v) (h : aBox x H K) : Good P B S m H w (Instr.box t v) K := by
  unfold aBox at h
  cases hc : cellsA x with
  | none => simp [hc] at h
  | some cs =>
    simp only [hc] at h
    obtain ⟨s', e, hp⟩ := s.newVar cs v.cells.toList t (cellsA_ok hx hc)
    refine ⟨_, w.alloc (.cells v.cells t), ?_, S, _, _, .c (.ptr H.length 0), by simpa using s', e, (Bel.refl B w).alloc s.base _, hp, h⟩
    simp [Instr.box, newVar, newRow]
/-- A type's zero value. -/
def zeroA (P : Program) (t : TypeId) : Option AV := ((P.info? t).bind (·.zero)).map absA
def aAlloc (P : Program) (t : TypeId) (H : List AObj) (K : AV → List AObj → Prop) : Prop :=
  match zeroA P t with
  | some z => aBox z H K
  | none => False
theorem run_zero {t : TypeId} {z : AV} (h : zeroA P t = some z) (S : Mem) (m : List Loc) (H : List AObj) (w : World) : ∃ v, (zeroValue t).run P w = .ok v w ∧ VA S m H z v := by
  unfold zeroA at h
  cases hi : P.info? t with
  | none => simp [hi] at h
  | some i =>
    cases hz : i.zero with
    | none => simp [hi, hz] at h
    | some v =>
      simp [hi, hz] at h; subst h
      exact ⟨v, by simp [zeroValue, typeInfo, hi, hz], absA_ok S m H v⟩
theorem good_alloc (s : Sim S m H B w) {t : TypeId} (h : aAlloc P t H K) : Good P B S m H w (Instr.alloc t true (.tuple #[])) K := by
  unfold aAlloc at h
  cases hz : zeroA P t with
  | none => simp [hz] at h
  | some z =>
    simp only [hz] at h
    obtain ⟨v, hr, hv⟩ := run_zero hz S m H w
    have := good_box (P := P) (t := t) s hv h
    obtain ⟨u, w', h1, h2⟩ := this
    refine ⟨u, w', ?_, h2⟩
    simpa [Instr.alloc, hr, Instr.box] using h1
end
end Go.Aw

/-
  An abstract memory for walks, part 4: what is handed on is frozen; writing; places of fields and elements; literals.
-/
set_option linter.unusedVariables false
set_option linter.unusedSimpArgs false
namespace Go.Aw
open Go.RowKit
section
variable {P : Program} {B : Nat} {S : Mem} {m : List Loc} {H : List AObj} {w : World} {K : AV → List AObj → Prop}

/-! ### Freezing -/
def frzC (H : List AObj) : Cell → Option (PV × List AObj)
  | .p x => some (x, H)
  | .own id n => match H[id]? with
    | some (.arr T size frz es) => if es.length = n then some (.sl false es, H.set id (.arr T size es.length es)) else none
    | _ => none
  | .clo f [] [] => some (.fn f, H)
  | .tl _ _ _ xs => some (.sl false xs, H)
  | _ => none
def frzs (H : List AObj) : List Cell → Option (List PV × List AObj)
  | [] => some ([], H)
  | c :: cs => match frzC H c with
    | some (x, H1) => match frzs H1 cs with
      | some (xs, H2) => some (x :: xs, H2)
      | none => none
    | none => none
theorem frzC_ok (s : Sim S m H B w) {c : Cell} {v : Value} (hv : VC S m H c v) {x : PV} {H' : List AObj} (h : frzC H c = some (x, H')) :
    ∃ S', Sim S' m H' B w ∧ Ext B S m H S' m H' ∧ VP S' x v := by
  cases c with
  | p y =>
    simp [frzC] at h
    obtain ⟨rfl, rfl⟩ := h
    exact ⟨S, s, Ext.refl B S m H, hv⟩
  | own id n =>
    simp only [frzC] at h
    split at h
    · rename_i T size frz es ho
      split at h
      · rename_i hn
        subst hn
        cases h
        exact s.freeze ho hv
      · cases h
    · cases h
  | ptr id off => simp [frzC] at h
  | ep id n i off => simp [frzC] at h
  | pp cells => simp [frzC] at h
  | yld id => simp [frzC] at h
  | room id n => simp [frzC] at h
  | mp id => simp [frzC] at h
  | vs id n => simp [frzC] at h
  | tl id k n xs =>
    simp [frzC] at h
    obtain ⟨rfl, rfl⟩ := h
    obtain ⟨_, _, _, _, _, _, _, _, _, h5⟩ := hv
    exact ⟨S, s, Ext.refl B S m H, h5⟩
  | clo f first caps =>
    cases first with
    | cons _ _ => simp [frzC] at h
    | nil =>
      cases caps with
      | cons _ _ => simp [frzC] at h
      | nil =>
        simp [frzC] at h
        obtain ⟨rfl, rfl⟩ := h
        obtain ⟨fs, cs, rfl, h2, h3, _⟩ := hv
        have hf : fs = [] := List.eq_nil_of_length_eq_zero h2.1.symm
        have hc : cs = [] := List.eq_nil_of_length_eq_zero h3
        subst hf; subst hc
        exact ⟨S, s, Ext.refl B S m H, .fn f⟩
theorem frzs_ok : ∀ {cs : List Cell} {vs : List Value} {H H' : List AObj} {S : Mem} (_ : Sim S m H B w) (_ : VCs S m H cs vs) {xs : List PV} (_ : frzs H cs = some (xs, H')),
    ∃ S', Sim S' m H' B w ∧ Ext B S m H S' m H' ∧ VPs S' xs vs
  | [], vs, H, H', S, s, hv, xs, h => by
    simp [frzs] at h
    obtain ⟨rfl, rfl⟩ := h
    have : vs = [] := List.eq_nil_of_length_eq_zero hv.1.symm
    subst this
    exact ⟨S, s, Ext.refl B S m H, .nil S⟩
  | c :: cs, [], H, H', S, s, hv, xs, h => by simp [VCs] at hv
  | c :: cs, v :: vs, H, H', S, s, hv, xs, h => by
    have h0 : VC S m H c v := hv.2 0 c v rfl rfl
    have ht : VCs S m H cs vs := ⟨by simpa using hv.1, fun i c' v' a b => hv.2 (i + 1) c' v' (by simpa using a) (by simpa using b)⟩
    simp only [frzs] at h
    cases h1 : frzC H c with
    | none => simp [h1] at h
    | some q =>
      obtain ⟨x, H1⟩ := q
      simp only [h1] at h
      cases h2 : frzs H1 cs with
      | none => simp [h2] at h
      | some q =>
        obtain ⟨ys, H2⟩ := q
        simp only [h2, Option.some.injEq, Prod.mk.injEq] at h
        obtain ⟨rfl, rfl⟩ := h
        obtain ⟨S1, s1, e1, p1⟩ := frzC_ok s h0 h1
        obtain ⟨S2, s2, e2, p2⟩ := frzs_ok s1 (ht.ext e1) h2
        exact ⟨S2, s2, e1.trans e2, VPs.cons (p1.mono e2.mem) p2⟩

/-! ### Writing -/
theorem run_storeCells_fz (g o : Nat) (t : TypeId) (fz : Nat × Nat) : ∀ (vs : List Value) (i : Nat) (cur : Array Value) (w : World), w.heap[g]? = some (.cells cur t fz) → okFz cur.size fz → o + i + vs.length ≤ cur.size → (∀ v ∈ vs, v.oneCell' = true) →
    (storeCells ⟨g, o, none⟩ vs i).run P w = .ok () (w.setRow g (cur.toList.take (o + i) ++ vs ++ cur.toList.drop (o + i + vs.length)).toArray)
  | [], i, cur, w, hg, _, _, _ => by
    simp only [storeCells, List.append_nil, List.length_nil, Nat.add_zero, List.take_append_drop, Array.toArray_toList]
    rw [setRow_self w g cur t fz hg]
    rfl
  | v :: rest, i, cur, w, hg, hfz, hl, h1 => by
    have hi : o + i < cur.size := by simp at hl; omega
    have hadd : (⟨g, o, none⟩ : Addr).add i = ⟨g, o + i, none⟩ := by unfold Addr.add; split <;> simp_all
    have hcell : w.cell? ⟨g, o + i, none⟩ = some cur[o + i] := by simp [World.cell?, hg, hi]
    have hfro : w.frozen? ⟨g, o + i, none⟩ = false := by
      obtain ⟨lo, hi'⟩ := fz
      simp only [World.frozen?, hg, Bool.and_eq_false_iff, decide_eq_false_iff_not]
      rcases hfz with h | h
      · cases h; right; omega
      · left; simp only at h; omega
    have hst : (store ((⟨g, o, none⟩ : Addr).add i) v).run P w = .ok () (w.setRow g (cur.setIfInBounds (o + i) v)) := by
      rw [hadd, run_store P w _ v _ (h1 v (by simp)), hcell]
      simp [hfro, setCell_eq_setRow w g (o + i) cur t fz v hg]
    have ih := run_storeCells_fz g o t fz rest (i + 1) (cur.setIfInBounds (o + i) v) (w.setRow g (cur.setIfInBounds (o + i) v)) (setRow_heap w g cur _ t _ hg) (by simpa using hfz) (by simp at hl ⊢; omega) (fun x hx => h1 x (by simp [hx]))
    simp only [storeCells, Sem.run_bind, hst, Result.andThen_ok, ih, setRow_setRow]
    congr 3
    have e := list_seg_step cur.toList (o + i) v rest (by simp at hl ⊢; omega)
    simpa [Array.toList_setIfInBounds, Nat.add_assoc] using e
theorem run_storeVar_at (w : World) (g o : Nat) (T t : TypeId) (v : Value) (cur : List Value) {fz : Nat × Nat} (hg : w.heap[g]? = some (.cells cur.toArray T fz)) (hfz : okFz cur.length fz) (hsz : v.cells.size = P.cellsOf t) (hp : 0 < P.cellsOf t)
    (hl : o + v.cells.size ≤ cur.length) (h1 : ∀ u ∈ v.cells.toList, u.oneCell' = true) :
    (storeVar t ⟨g, o, none⟩ v).run P w = .ok () (w.setRow g (cur.take o ++ v.cells.toList ++ cur.drop (o + v.cells.size)).toArray) := by
  have := run_storeCells_fz (P := P) g o T fz v.cells.toList 0 cur.toArray w hg (by simpa using hfz) (by simpa using hl) h1
  simp only [Nat.add_zero, Array.length_toList] at this
  have hss := run_sizeOf' hp w
  simp only [storeVar, Sem.run_bind, hss, Result.andThen_ok, hsz, ne_eq, not_true, if_false]
  rw [← hsz]
  exact this
def splice {α : Type} (cs : List α) (off : Nat) (vs : List α) : List α := cs.take off ++ vs ++ cs.drop (off + vs.length)
theorem VCs.splice {S : Mem} {m : List Loc} {H : List AObj} {cs : List Cell} {cur : List Value} (h : VCs S m H cs cur) (off : Nat) {xs : List Cell} {vs : List Value} (hx : VCs S m H xs vs) (hl : off + xs.length ≤ cs.length) :
    VCs S m H (splice cs off xs) (splice cur off vs) := by
  refine ⟨by simp [Aw.splice, h.1, hx.1], fun i c v hc hv => ?_⟩
  have e1 := h.1
  have e2 := hx.1
  simp only [Aw.splice] at hc hv
  by_cases h1 : i < off
  · rw [List.append_assoc, List.getElem?_append_left (by rw [List.length_take]; omega), List.getElem?_take, if_pos h1] at hc hv
    exact h.2 i c v hc hv
  · by_cases h2 : i < off + xs.length
    · rw [List.getElem?_append_left (by rw [List.length_append, List.length_take]; omega), List.getElem?_append_right (by rw [List.length_take]; omega), List.length_take, Nat.min_eq_left (by omega)] at hc hv
      exact hx.2 _ c v hc hv
    · rw [List.getElem?_append_right (by rw [List.length_append, List.length_take]; omega), List.length_append, List.length_take, Nat.min_eq_left (by omega), List.getElem?_drop] at hc hv
      rw [show off + xs.length + (i - (off + xs.length)) = i by omega] at hc
      rw [← e2, show off + xs.length + (i - (off + xs.length)) = i by omega] at hv
      exact h.2 i c v hc hv
def aStore (P : Program) (t : TypeId) (x v : AV) (H : List AObj) (K : List AObj → Prop) : Prop :=
  match cellsA v with
  | none => False
  | some vs => vs.length = P.cellsOf t ∧ 0 < P.cellsOf t ∧
    match x with
    | .c (.ptr id off) => match H[id]? with
      | some (.var cs) => off + vs.length ≤ cs.length ∧ K (H.set id (.var (splice cs off vs)))
      | _ => False
    | .c (.ep id n i off) => match frzs H vs with
      | some (ps, H1) => match H1[id]? with
        | some (.arr T size frz es) => es.length = n ∧ frz ≤ i ∧ ∃ e, es[i]? = some e ∧ off + ps.length ≤ e.length ∧ K (H1.set id (.arr T size frz (es.set i (splice e off (ps.map lo)))))
        | _ => False
      | none => False
    | _ => False
theorem flat_set {α : Type} {size : Nat} {xs : List (List α)} (hu : ∀ e, e ∈ xs → e.length = size) (i : Nat) (e : List α) (he : e.length = size) (hi : i < xs.length) :
    (xs.set i e).flatten = splice xs.flatten (i * size) e := by
  unfold splice
  rw [← flat_take i hu, List.set_eq_take_append_cons_drop, if_pos hi]
  simp only [List.flatten_append, List.flatten_cons, List.append_assoc]
  congr 2
  rw [flat_drop (i + 1) hu, he, Nat.add_mul, Nat.one_mul]
theorem splice_len {α : Type} (cs : List α) (off : Nat) (vs : List α) (h : off + vs.length ≤ cs.length) : (splice cs off vs).length = cs.length := by simp [splice]; omega
theorem splice_splice {α : Type} (cs e ps : List α) (o off : Nat) (he : ∀ k, k < e.length → cs[o + k]? = e[k]?) (hl : o + e.length ≤ cs.length) (hp : off + ps.length ≤ e.length) : splice cs o (splice e off ps) = splice cs (o + off) ps := by
  apply List.ext_getElem?
  intro k
  have h1 : (splice e off ps).length = e.length := splice_len e off ps hp
  have key : ∀ (l : List α) (q : Nat) (v : List α) (k : Nat), q + v.length ≤ l.length → (splice l q v)[k]? = if k < q then l[k]? else if k < q + v.length then v[k - q]? else l[k]? := by
    intro l q v k hq
    unfold splice
    by_cases a : k < q
    · rw [if_pos a, List.append_assoc, List.getElem?_append_left (by rw [List.length_take]; omega), List.getElem?_take, if_pos a]
    · rw [if_neg a]
      by_cases b : k < q + v.length
      · rw [if_pos b, List.getElem?_append_left (by rw [List.length_append, List.length_take]; omega), List.getElem?_append_right (by rw [List.length_take]; omega), List.length_take, Nat.min_eq_left (by omega)]
      · rw [if_neg b, List.getElem?_append_right (by rw [List.length_append, List.length_take]; omega), List.length_append, List.length_take, Nat.min_eq_left (by omega), List.getElem?_drop]
        congr 1; omega
  rw [key cs o _ k (by omega), key cs (o + off) ps k (by omega), h1]
  by_cases a : k < o
  · rw [if_pos a, if_pos (show k < o + off by omega)]
  · rw [if_neg a]
    by_cases b : k < o + e.length
    · rw [if_pos b, key e off ps _ hp]
      have := he (k - o) (by omega)
      rw [show o + (k - o) = k by omega] at this
      by_cases c : k - o < off
      · rw [if_pos c, if_pos (show k < o + off by omega), this]
      · rw [if_neg c, if_neg (show ¬ k < o + off by omega)]
        by_cases d : k - o < off + ps.length
        · rw [if_pos d, if_pos (show k < o + off + ps.length by omega)]; congr 1; omega
        · rw [if_neg d, if_neg (show ¬ k < o + off + ps.length by omega), this]
    · rw [if_neg b, if_neg (show ¬ k < o + off by omega), if_neg (show ¬ k < o + off + ps.length by omega)]
theorem VPs.splice {S : Mem} {cs : List PV} {cur : List Value} (h : VPs S cs cur) (off : Nat) {xs : List PV} {vs : List Value} (hx : VPs S xs vs) (hl : off + xs.length ≤ cs.length) :
    VPs S (splice cs off xs) (splice cur off vs) := by
  refine ⟨by simp [Aw.splice, h.1, hx.1], fun i c v hc hv => ?_⟩
  have e1 := h.1
  have e2 := hx.1
  simp only [Aw.splice] at hc hv
  by_cases h1 : i < off
  · rw [List.append_assoc, List.getElem?_append_left (by rw [List.length_take]; omega), List.getElem?_take, if_pos h1] at hc hv
    exact h.2 i c v hc hv
  · by_cases h2 : i < off + xs.length
    · rw [List.getElem?_append_left (by rw [List.length_append, List.length_take]; omega), List.getElem?_append_right (by rw [List.length_take]; omega), List.length_take, Nat.min_eq_left (by omega)] at hc hv
      exact hx.2 _ c v hc hv
    · rw [List.getElem?_append_right (by rw [List.length_append, List.length_take]; omega), List.length_append, List.length_take, Nat.min_eq_left (by omega), List.getElem?_drop] at hc hv
      rw [show off + xs.length + (i - (off + xs.length)) = i by omega] at hc
      rw [← e2, show off + xs.length + (i - (off + xs.length)) = i by omega] at hv
      exact h.2 i c v hc hv
theorem VPs.one {S : Mem} {xs : List PV} {vs : List Value} (h : VPs S xs vs) : ∀ u ∈ vs, u.oneCell' = true := by
  intro u hu
  obtain ⟨i, hi⟩ := List.getElem?_of_mem hu
  have hlt : i < xs.length := by rw [h.1]; exact (List.getElem?_eq_some_iff.1 hi).1
  exact (VP.one (h.2 i xs[i] u (List.getElem?_eq_getElem hlt) hi)).1
theorem VCs.one {S : Mem} {m : List Loc} {H : List AObj} {xs : List Cell} {vs : List Value} (h : VCs S m H xs vs) : ∀ u ∈ vs, u.oneCell' = true := by
  intro u hu
  obtain ⟨i, hi⟩ := List.getElem?_of_mem hu
  have hlt : i < xs.length := by rw [h.1]; exact (List.getElem?_eq_some_iff.1 hi).1
  exact (VC.one (h.2 i xs[i] u (List.getElem?_eq_getElem hlt) hi)).1
theorem setRow_keeps {w : World} {g k : Nat} (cs : Array Value) {o : Obj} (hk : w.heap[k]? = some o) (ho : isCellsB o = false) : (w.setRow g cs).heap[k]? = some o := by
  by_cases h : k = g
  · subst h
    simp only [World.setRow, Array.getElem?_modify, if_true, hk, Option.map_some]
    cases o <;> first | rfl | cases ho
  · rw [setRow_other w g k cs h]; exact hk
theorem below_setRow {B : Nat} {w : World} {g : Nat} (cs : Array Value) (hg : B ≤ g) : Bel B w (w.setRow g cs) :=
  ⟨⟨rfl, rfl, rfl, by simp [World.setRow], fun k hk => setRow_other w g k cs (by omega)⟩⟩
theorem good_store {K : List AObj → Prop} (s : Sim S m H B w) {t : TypeId} {x y : AV} {v u : Value} (hx : VA S m H x v) (hy : VA S m H y u) (h : aStore P t x y H K) : GoodU P B S m H w (Instr.storeAt t v u) K := by
  unfold aStore at h
  cases hc : cellsA y with
  | none => simp [hc] at h
  | some vs =>
    simp only [hc] at h
    obtain ⟨hlen, hp, h⟩ := h
    have hvs := cellsA_ok hy hc
    have husz : u.cells.size = vs.length := by have := hvs.1; simpa using this.symm
    cases x with
    | any => exact h.elim
    | agg cs => exact h.elim
    | tup vs => exact h.elim
    | mark o => exact h.elim
    | c x =>
      cases x with
      | p x => exact h.elim
      | own id n => exact h.elim
      | clo f a b => exact h.elim
      | yld id => exact h.elim
      | room id n => exact h.elim
      | mp id => exact h.elim
      | vs id n => exact h.elim
      | tl id k n xs => exact h.elim
      | pp cells => exact h.elim
      | ptr id off =>
        obtain ⟨b, cap, cs, h1, h2, rfl⟩ := hx
        simp only [h1] at h
        obtain ⟨hl, hk⟩ := h
        obtain ⟨g1, g2, cur, T, g3, g4⟩ := s.obj id _ _ h1 h2
        have hr := run_storeVar_at (P := P) w b off T t u cur g3 (.inl rfl) (by rw [husz, hlen]) hp (by rw [husz, ← g4.1]; exact hl) hvs.one
        have hn := VCs.splice g4 off hvs hl
        obtain ⟨s', e⟩ := s.setVar (w' := w.setRow b (splice cur off u.cells.toList).toArray) h1 h2 (setRow_heap w b cur.toArray _ T (0, 0) g3) (fun k hk => setRow_other w b k _ hk) (by simp [World.setRow]) hn
        refine ⟨w.setRow b (splice cur off u.cells.toList).toArray, ?_, S, m, _, s', e, below_setRow _ g1, hk⟩
        simp only [Instr.storeAt, Instr.sureAddr, Sem.run_bind, Sem.run_pure, Result.andThen_ok, hr, Aw.splice, Array.length_toList]
      | ep id n i off =>
        simp only at h
        cases hf : frzs H vs with
        | none => simp [hf] at h
        | some q =>
          obtain ⟨ps0, H1⟩ := q
          simp only [hf] at h
          obtain ⟨S1, s1, e1, p0⟩ := frzs_ok s hvs hf
          have p1 := p0.lo
          obtain ⟨ps, hps0⟩ : ∃ ps, ps = ps0.map lo := ⟨_, rfl⟩
          rw [← hps0] at p1 h
          have hlo : ps0.length = ps.length := by rw [hps0]; simp
          rw [hlo] at h
          obtain ⟨T, size, frz, es, l, h1, h2, h3, h4, h5⟩ := VC.ext (c := .ep id n i off) e1 hx
          simp only [h1] at h
          obtain ⟨hn, hfi, e, he, hle, hk⟩ := h
          obtain ⟨b, cap, rfl, rfl⟩ := h3 hn
          obtain ⟨hs, hu, hf', hB, hcap, hm, hS, cur, ⟨fz, hh, hz⟩, hl', hpp⟩ := s1.obj id _ _ h1 h2
          have hi : i < es.length := (List.getElem?_eq_some_iff.1 he).1
          have hes : e.length = size := hu e (List.mem_of_getElem? he)
          have hisz : i * size + size ≤ es.length * size := by rw [← Nat.succ_mul]; exact Nat.mul_le_mul_right size hi
          have hcsz : es.length * size ≤ cap * size := Nat.mul_le_mul_right size hcap
          have hps : ps.length = u.cells.size := by rw [p1.1]; simp
          have hr := run_storeVar_at (P := P) w b (i * size + off) T t u cur hh hz (by rw [husz, hlen]) hp (by omega) hvs.one
          have hflen := flat_len hu
          have hcurt : (cur.take (es.length * size)).length = es.length * size := by rw [List.length_take]; omega
          have hflat : (es.set i (Aw.splice e off ps)).flatten = Aw.splice es.flatten (i * size + off) ps := by
            rw [flat_set hu i _ (by rw [splice_len _ _ _ hle]; exact hes) hi]
            exact splice_splice _ _ _ _ _ (fun k hk => by rw [flat_get hu i k (by omega), he]; rfl) (by omega) hle
          have hnew : VPs S1 (es.set i (Aw.splice e off ps)).flatten ((Aw.splice cur (i * size + off) u.cells.toList).take ((es.set i (Aw.splice e off ps)).length * size)) := by
            have := VPs.splice hpp (i * size + off) p1 (by omega)
            rw [hflat]
            have e2 : (Aw.splice cur (i * size + off) u.cells.toList).take ((es.set i (Aw.splice e off ps)).length * size) = Aw.splice (cur.take (es.length * size)) (i * size + off) u.cells.toList := by
              simp only [Aw.splice, List.length_set, Array.length_toList]
              rw [List.take_append, List.take_append]
              simp only [List.length_append, List.length_take, Array.length_toList]
              rw [List.take_take, List.take_take, List.take_of_length_le (l := u.cells.toList) (by simp; omega), List.drop_take]
              congr 2
              · rw [Nat.min_eq_right (by omega), Nat.min_eq_left (by omega)]
              · congr 1; omega
            rw [e2]; exact this
          have hmem : ∀ b' o v, S1 b' o = some v → (w.setRow b (Aw.splice cur (i * size + off) u.cells.toList).toArray).cell? ⟨b', o, none⟩ = some v := by
            intro b' o v ho
            by_cases hb : b' = b
            · subst hb
              have hlt := hS o v ho
              have hold := s1.mem b' o v ho
              rw [cell_eq hh] at hold
              rw [cell_eq (setRow_heap w b' cur.toArray _ T fz hh)]
              have : o < i * size + off := by
                have := Nat.mul_le_mul_right size hfi
                omega
              unfold Aw.splice
              rw [List.append_assoc, List.getElem?_append_left (by rw [List.length_take]; omega), List.getElem?_take, if_pos this]
              exact hold
            · have := s1.mem b' o v ho
              simp only [World.cell?] at this ⊢
              rw [setRow_other w b b' _ hb]
              exact this
          obtain ⟨s', e'⟩ := s1.setArr (es' := es.set i (Aw.splice e off ps)) (l' := .at_ b cap) h1 h2 (w' := w.setRow b (Aw.splice cur (i * size + off) u.cells.toList).toArray) hmem (by simp [World.setRow])
            (fun k hk hne => setRow_other w b k _ (hne b cap rfl)) (by simp) (fun _ => rfl) (fun b' c hb => .inl ⟨cap, by cases hb; rfl⟩)
            ⟨hs, fun x hx => by
              rcases List.mem_or_eq_of_mem_set hx with hx | rfl
              · exact hu x hx
              · rw [splice_len _ _ _ hle]; exact hes, by simpa using hf', hB, by simpa using hcap, hm, hS, Aw.splice cur (i * size + off) u.cells.toList, ⟨fz, setRow_heap w b cur.toArray _ T fz hh, by rw [splice_len _ _ _ (by simp; omega)]; exact hz⟩, by
              rw [splice_len _ _ _ (by simp; omega)]; exact hl', hnew⟩
          have hmset : m.set id (.at_ b cap) = m := by
            apply List.ext_getElem?
            intro j
            by_cases hj : id = j
            · subst hj; rw [List.getElem?_set_self (List.getElem?_eq_some_iff.1 h2).1, h2]
            · rw [getElem?_set_ne _ _ _ _ hj]
          rw [hmset] at s' e'
          refine ⟨w.setRow b (Aw.splice cur (i * size + off) u.cells.toList).toArray, ?_, S1, m, _, s', e1.trans e', below_setRow _ hB, hk⟩
          simp only [Instr.storeAt, Instr.sureAddr, Sem.run_bind, Sem.run_pure, Result.andThen_ok, hr, Aw.splice, Array.length_toList]
end
end Go.Aw
