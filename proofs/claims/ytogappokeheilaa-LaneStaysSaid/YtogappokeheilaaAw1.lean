/-
  An abstract memory for walks, part 1: values that are read and never change (PV), what a slot holds (Cell, AV), objects of the call's own (AObj), and what it means that a world fits them (Sim). No program's own text is named here.
-/
import Derived.WalkKit
import Derived.Laws.AppendOwn
import Derived.Laws.OwnMore
import Derived.Below
set_option linter.unusedVariables false
set_option linter.unusedSimpArgs false
namespace Go.Aw
open Go.RowKit

def isCellsB : Obj → Bool
  | .cells .. => true
  | _ => false
/-- What nobody changes any more: a cell's value, slices as the lists that they read as (element by element, cell by cell). 'full': nothing lies behind the last element. -/
inductive PV where
  | int (k : IntKind) (n : Int)
  | bool (b : Bool)
  | str (s : ByteArray)
  | sl (full : Bool) (xs : List (List PV))
  | fn (f : Nat)
  | nilp
  | nilfn
  | nilif
  | iface (t : Nat) (agg : Bool) (cs : List PV)

abbrev Mem := Nat → Nat → Option Value
def Mem.le (S S' : Mem) : Prop := ∀ b o v, S b o = some v → S' b o = some v
theorem Mem.le_refl (S : Mem) : S.le S := fun _ _ _ h => h
theorem Mem.le_trans {S S' S'' : Mem} (h : S.le S') (h' : S'.le S'') : S.le S'' := fun b o v x => h' b o v (h b o v x)

inductive VP (S : Mem) : PV → Value → Prop
  | int (k : IntKind) (n : Int) : VP S (.int k n) (.int k n)
  | bool (b : Bool) : VP S (.bool b) (.bool b)
  | str (s : ByteArray) : VP S (.str s) (.string s)
  | fn (f : Nat) : VP S (.fn f) (.func (.func f) #[] #[])
  | nilp : VP S .nilp (.pointer none)
  | nilfn : VP S .nilfn .nilFunc
  | nilif : VP S .nilif .nilIface
  | ifc (t : Nat) (x : PV) (v : Value) (h : VP S x v) : VP S (.iface t false [x]) (.iface t v)
  | ifa (t : Nat) (xs : List PV) (vs : List Value) (hl : xs.length = vs.length) (h : ∀ (i : Nat) (x : PV) (v : Value), xs[i]? = some x → vs[i]? = some v → VP S x v) : VP S (.iface t true xs) (.iface t (.agg vs.toArray))
  | nil (full : Bool) : VP S (.sl full []) (.slice none 0 0)
  | emp (full : Bool) (a : Addr) : VP S (.sl full []) (.slice (some a) 0 0)
  | sl (full : Bool) (xs : List (List PV)) (b off cap size n : Nat) (u : Nat → Value) (hn : xs.length = n) (hc : n ≤ cap) (hm : cap ≤ maxLen) (hf : full = true → cap = n) (hs : 0 < size)
      (hu : ∀ e, e ∈ xs → e.length = size) (hS : ∀ (k : Nat) (x : PV), xs.flatten[k]? = some x → S b (off + k) = some (u k)) (hv : ∀ (k : Nat) (x : PV), xs.flatten[k]? = some x → VP S x (u k)) :
      VP S (.sl full xs) (.slice (some ⟨b, off, none⟩) n cap)

/-- All elements have as many cells. -/
def allLen (k : Nat) (xs : List (List PV)) : Prop := ∀ y, y ∈ xs → y.length = k
theorem VP.mono {S S' : Mem} (h : S.le S') {x : PV} {v : Value} (hx : VP S x v) : VP S' x v := by
  induction hx with
  | int k n => exact .int k n
  | bool b => exact .bool b
  | str s => exact .str s
  | fn f => exact .fn f
  | nilp => exact .nilp
  | nilfn => exact .nilfn
  | nilif => exact .nilif
  | ifc t x v _ ih => exact .ifc t x v ih
  | ifa t xs vs hl _ ih => exact .ifa t xs vs hl ih
  | nil full => exact .nil full
  | emp full a => exact .emp full a
  | sl full xs b off cap size n u hn hc hm hf hs hu hS _ ih => exact .sl full xs b off cap size n u hn hc hm hf hs hu (fun k x hk => h _ _ _ (hS k x hk)) ih

theorem VP.one {S : Mem} {x : PV} {v : Value} (h : VP S x v) : v.oneCell' = true ∧ v.cells = #[v] := by cases h <;> exact ⟨rfl, rfl⟩

/-- What lies behind a slice's last element is forgotten. -/
def lo : PV → PV
  | .sl _ xs => .sl false xs
  | x => x
theorem VP.lo {S : Mem} {x : PV} {v : Value} (h : VP S x v) : VP S (lo x) v := by
  cases h with
  | nil full => exact .nil false
  | emp full a => exact .emp false a
  | sl full xs b off cap size n u hn hc hm hf hs hu hS hv => exact .sl false xs b off cap size n u hn hc hm (fun h => by cases h) hs hu hS hv
  | int k n => exact .int k n
  | bool b => exact .bool b
  | str s => exact .str s
  | fn f => exact .fn f
  | nilp => exact .nilp
  | nilfn => exact .nilfn
  | nilif => exact .nilif
  | ifc t x v h => exact .ifc t x v h
  | ifa t xs vs hl h => exact .ifa t xs vs hl h
/-- Cells one by one. -/
def VPs (S : Mem) (xs : List PV) (vs : List Value) : Prop := xs.length = vs.length ∧ ∀ (i : Nat) (x : PV) (v : Value), xs[i]? = some x → vs[i]? = some v → VP S x v
theorem VPs.mono {S S' : Mem} (h : S.le S') {xs : List PV} {vs : List Value} (hx : VPs S xs vs) : VPs S' xs vs := ⟨hx.1, fun i x v a b => (hx.2 i x v a b).mono h⟩

theorem VPs.lo {S : Mem} {xs : List PV} {vs : List Value} (h : VPs S xs vs) : VPs S (xs.map lo) vs := by
  refine ⟨by simp [h.1], fun i x v hx hv => ?_⟩
  rw [List.getElem?_map] at hx
  cases hq : xs[i]? with
  | none => simp [hq] at hx
  | some q => simp [hq] at hx; subst hx; exact (h.2 i q v hq hv).lo

/-! Lists whose elements are all of one length. -/
theorem flat_len {α : Type} {size : Nat} : ∀ {xs : List (List α)}, (∀ e, e ∈ xs → e.length = size) → xs.flatten.length = xs.length * size
  | [], _ => by simp
  | x :: xs, h => by
    have hx := h x (by simp)
    have ih := flat_len (xs := xs) (fun e he => h e (by simp [he]))
    simp only [List.flatten_cons, List.length_append, ih, hx, List.length_cons, Nat.add_mul, Nat.one_mul]
    omega
theorem flat_get {α : Type} {size : Nat} : ∀ {xs : List (List α)}, (∀ e, e ∈ xs → e.length = size) → ∀ (i j : Nat), j < size → xs.flatten[i * size + j]? = (xs[i]?).bind (·[j]?)
  | [], _, i, j, _ => by simp
  | x :: xs, h, i, j, hj => by
    have hx := h x (by simp)
    cases i with
    | zero =>
      simp only [Nat.zero_mul, Nat.zero_add, List.flatten_cons, List.getElem?_cons_zero, Option.bind_some]
      rw [List.getElem?_append_left (by omega)]
    | succ i =>
      have ih := flat_get (xs := xs) (fun e he => h e (by simp [he])) i j hj
      simp only [List.flatten_cons, List.getElem?_cons_succ]
      rw [List.getElem?_append_right (by rw [hx, Nat.add_mul]; omega), ← ih]
      congr 1
      rw [hx, Nat.add_mul]; omega
theorem flat_drop {α : Type} {size : Nat} : ∀ (l : Nat) {xs : List (List α)}, (∀ e, e ∈ xs → e.length = size) → (xs.drop l).flatten = xs.flatten.drop (l * size)
  | 0, xs, _ => by simp
  | l + 1, [], _ => by simp
  | l + 1, x :: xs, h => by
    have hx := h x (by simp)
    have ih := flat_drop l (xs := xs) (fun e he => h e (by simp [he]))
    have e : (l + 1) * size = x.length + l * size := by rw [hx, Nat.add_mul]; omega
    simp only [List.drop_succ_cons, ih, List.flatten_cons]
    rw [e, ← List.drop_drop, List.drop_left]
theorem flat_take {α : Type} {size : Nat} : ∀ (l : Nat) {xs : List (List α)}, (∀ e, e ∈ xs → e.length = size) → (xs.take l).flatten = xs.flatten.take (l * size)
  | 0, xs, _ => by simp
  | l + 1, [], _ => by simp
  | l + 1, x :: xs, h => by
    have hx := h x (by simp)
    have ih := flat_take l (xs := xs) (fun e he => h e (by simp [he]))
    have e : (l + 1) * size = x.length + l * size := by rw [hx, Nat.add_mul]; omega
    simp only [List.take_succ_cons, List.flatten_cons, ih]
    rw [e, List.take_length_add_append]

/-- What a slot, or a cell of an object of the call's own, holds. 'own id n': the slice over array object id, n elements long. 'ptr': a cell of a variable. 'ep': a cell of an array object's element. 'pp': a place that nobody changes any more, and what lies from there on. 'clo': a closure: bound arguments, captured variables. -/
inductive Cell where
  | p (v : PV)
  | own (id n : Nat)
  | ptr (id off : Nat)
  | ep (id n i off : Nat)
  | pp (cells : List PV)
  | clo (f : Nat) (first : List PV) (caps : List (Nat × Nat))
  | yld (id : Nat)
  | room (id n : Nat)
  | mp (id : Nat)

/-- A value in a slot: nothing is known; one cell; a struct's cells; several results. -/
inductive AV where
  | any
  | c (x : Cell)
  | agg (cs : List Cell)
  | tup (vs : List (Bool × List Cell))
  | mark (o : Option Nat)
def getS : List (Nat × AV) → Nat → AV
  | [], _ => .any
  | (d, v) :: r, t => if t = d then v else getS r t
/-- The record of a range over a function: the slots as they were, what a round does, and how far the loop is. -/
structure LoopA where
  sl : List (Nat × AV)
  n : Nat
  ps : Array Tmp
  assign : Code
  body : Code
  st : LoopState
  pending : Option Code
/-- 'var': a variable of ours; 'arr': an array of ours; 'dfr': an activation's block of deferred calls, with none in it; 'loop': a record. -/
inductive AObj where
  | var (cs : List Cell)
  | arr (T size frz : Nat) (es : List (List PV))
  | dfr
  | loop (L : LoopA)
  | map (es : List (Int × Cell))
  | hole
def LoopA.same (L L' : LoopA) : Prop := ∃ st p, L' = { L with st := st, pending := p }
def Kin : AObj → AObj → Prop
  | .var _, .var _ => True
  | .dfr, .dfr => True
  | .loop L, .loop L' => L.same L'
  | .map _, .map _ => True
  | _, _ => False
def AObj.fixed : AObj → Prop
  | .arr _ _ _ _ => False
  | .hole => False
  | _ => True
theorem Kin.refl {o : AObj} (h : o.fixed) : Kin o o := by
  cases o with
  | var cs => trivial
  | arr T size frz es => exact h.elim
  | dfr => trivial
  | loop L => exact ⟨L.st, L.pending, rfl⟩
  | map es => trivial
  | hole => exact h.elim
theorem Kin.fixed {o o' : AObj} (h : Kin o o') : o'.fixed := by
  cases o <;> cases o' <;> first | trivial | exact h.elim
theorem Kin.trans {a b c : AObj} (h : Kin a b) (k : Kin b c) : Kin a c := by
  cases a <;> cases b <;> cases c <;> first | trivial | exact h.elim | exact k.elim | skip
  obtain ⟨s1, p1, rfl⟩ := h
  obtain ⟨s2, p2, rfl⟩ := k
  exact ⟨s2, p2, rfl⟩

inductive Loc where
  | nil (A : Option Addr)
  | at_ (b cap : Nat)

/-- A cell's value, given what is fixed (S), where the objects lie (m), and the objects (H). -/
def VC (S : Mem) (m : List Loc) (H : List AObj) : Cell → Value → Prop
  | .p x, v => VP S x v
  | .own id n, v => ∃ T size frz es l, H[id]? = some (.arr T size frz es) ∧ m[id]? = some l ∧ (es.length = n → match l with | .at_ b cap => v = .slice (some ⟨b, 0, none⟩) n cap | .nil A => v = .slice A 0 0) ∧ n ≤ es.length ∧ (v.oneCell' = true ∧ v.cells = #[v])
  | .ptr id off, v => ∃ b cap cs, H[id]? = some (.var cs) ∧ m[id]? = some (.at_ b cap) ∧ v = .pointer (some ⟨b, off, none⟩)
  | .ep id n i off, v => ∃ T size frz es l, H[id]? = some (.arr T size frz es) ∧ m[id]? = some l ∧ (es.length = n → ∃ b cap, l = .at_ b cap ∧ v = .pointer (some ⟨b, i * size + off, none⟩)) ∧ (n ≤ es.length ∧ i < n) ∧ (v.oneCell' = true ∧ v.cells = #[v])
  | .pp cells, v => ∃ (b off : Nat) (u : Nat → Value), v = .pointer (some ⟨b, off, none⟩) ∧ ∀ (k : Nat) (x : PV), cells[k]? = some x → S b (off + k) = some (u k) ∧ VP S x (u k)
  | .clo f first caps, v => ∃ fs cs : List Value, v = .func (.func f) fs.toArray cs.toArray ∧ VPs S first fs ∧ cs.length = caps.length ∧
      ∀ (i : Nat) (q : Nat × Nat) (u : Value), caps[i]? = some q → cs[i]? = some u → ∃ b cap ds, H[q.1]? = some (.var ds) ∧ m[q.1]? = some (.at_ b cap) ∧ u = .pointer (some ⟨b, q.2, none⟩)
  | .yld id, v => ∃ b cap L, H[id]? = some (.loop L) ∧ m[id]? = some (.at_ b cap) ∧ v = .func (.yield b) #[] #[]
  | .room id n, v => ∃ T size frz es l, H[id]? = some (.arr T size frz es) ∧ m[id]? = some l ∧ (es.length = 0 → ∃ b cap, l = .at_ b cap ∧ v = .slice (some ⟨b, 0, none⟩) n cap ∧ n ≤ cap) ∧ (v.oneCell' = true ∧ v.cells = #[v])
  | .mp id, v => ∃ b cap es, H[id]? = some (.map es) ∧ m[id]? = some (.at_ b cap) ∧ v = .map (some b)

theorem VC.one {S : Mem} {m : List Loc} {H : List AObj} {c : Cell} {v : Value} (h : VC S m H c v) : v.oneCell' = true ∧ v.cells = #[v] := by
  cases c with
  | p x => exact VP.one (S := S) (x := x) h
  | own id n => obtain ⟨_, _, _, _, _, _, _, _, _, h⟩ := h; exact h
  | ptr id off => obtain ⟨_, _, _, _, _, rfl⟩ := h; exact ⟨rfl, rfl⟩
  | ep id n i off => obtain ⟨_, _, _, _, _, _, _, _, _, h⟩ := h; exact h
  | pp cells => obtain ⟨_, _, _, rfl, _⟩ := h; exact ⟨rfl, rfl⟩
  | clo f first caps => obtain ⟨_, _, rfl, _⟩ := h; exact ⟨rfl, rfl⟩
  | yld id => obtain ⟨_, _, _, _, _, rfl⟩ := h; exact ⟨rfl, rfl⟩
  | room id n => obtain ⟨_, _, _, _, _, _, _, _, h⟩ := h; exact h
  | mp id => obtain ⟨_, _, _, _, _, rfl⟩ := h; exact ⟨rfl, rfl⟩

/-- From one view to a later one: what is fixed stays, variables stay where they are, arrays grow or stay. -/
structure Ext (B : Nat) (S : Mem) (m : List Loc) (H : List AObj) (S' : Mem) (m' : List Loc) (H' : List AObj) : Prop where
  mem : S.le S'
  old : ∀ b o, b < B → S' b o = S b o
  fix : ∀ (id : Nat) o, H[id]? = some o → o.fixed → (∃ o', H'[id]? = some o' ∧ Kin o o') ∧ (∀ l, m[id]? = some l → m'[id]? = some l)
  arr : ∀ (id T size frz : Nat) es l, H[id]? = some (AObj.arr T size frz es) → m[id]? = some l → ∃ frz' es' l', H'[id]? = some (AObj.arr T size frz' es') ∧ m'[id]? = some l' ∧ es.length ≤ es'.length ∧ (es'.length = es.length → l' = l)

theorem Ext.refl (B : Nat) (S : Mem) (m : List Loc) (H : List AObj) : Ext B S m H S m H :=
  ⟨Mem.le_refl S, fun _ _ _ => rfl, fun id o h hf => ⟨⟨o, h, Kin.refl hf⟩, fun _ h => h⟩, fun id T size frz es l h h' => ⟨frz, es, l, h, h', Nat.le_refl _, fun _ => rfl⟩⟩
theorem Ext.trans {B : Nat} {S S1 S2 : Mem} {m m1 m2 : List Loc} {H H1 H2 : List AObj} (h : Ext B S m H S1 m1 H1) (k : Ext B S1 m1 H1 S2 m2 H2) : Ext B S m H S2 m2 H2 := by
  refine ⟨Mem.le_trans h.mem k.mem, fun b o hb => (k.old b o hb).trans (h.old b o hb), fun id o ho hf => ?_, fun id T size frz es l ha hl => ?_⟩
  · obtain ⟨⟨o1, h1, h3⟩, h2⟩ := h.fix id o ho hf
    obtain ⟨⟨o2, k1, k3⟩, k2⟩ := k.fix id o1 h1 h3.fixed
    exact ⟨⟨o2, k1, h3.trans k3⟩, fun l hl => k2 l (h2 l hl)⟩
  · obtain ⟨f1, es1, l1, a1, b1, c1, d1⟩ := h.arr id T size frz es l ha hl
    obtain ⟨f2, es2, l2, a2, b2, c2, d2⟩ := k.arr id T size f1 es1 l1 a1 b1
    exact ⟨f2, es2, l2, a2, b2, Nat.le_trans c1 c2, fun e => (d2 (by omega)).trans (d1 (by omega))⟩
theorem Ext.var {B : Nat} {S S' : Mem} {m m' : List Loc} {H H' : List AObj} (e : Ext B S m H S' m' H') (id : Nat) (cs : List Cell) (h : H[id]? = some (AObj.var cs)) : (∃ cs', H'[id]? = some (AObj.var cs')) ∧ (∀ l, m[id]? = some l → m'[id]? = some l) := by
  obtain ⟨⟨o', h1, h2⟩, h3⟩ := e.fix id _ h trivial
  refine ⟨?_, h3⟩
  cases o' with
  | var cs' => exact ⟨cs', h1⟩
  | _ => exact h2.elim
theorem Ext.loop {B : Nat} {S S' : Mem} {m m' : List Loc} {H H' : List AObj} (e : Ext B S m H S' m' H') (id : Nat) (L : LoopA) (h : H[id]? = some (AObj.loop L)) : (∃ L', H'[id]? = some (AObj.loop L') ∧ L.same L') ∧ (∀ l, m[id]? = some l → m'[id]? = some l) := by
  obtain ⟨⟨o', h1, h2⟩, h3⟩ := e.fix id _ h trivial
  refine ⟨?_, h3⟩
  cases o' with
  | loop L' => exact ⟨L', h1, h2⟩
  | _ => exact h2.elim
theorem Ext.map {B : Nat} {S S' : Mem} {m m' : List Loc} {H H' : List AObj} (e : Ext B S m H S' m' H') (id : Nat) (es : List (Int × Cell)) (h : H[id]? = some (AObj.map es)) : (∃ es', H'[id]? = some (AObj.map es')) ∧ (∀ l, m[id]? = some l → m'[id]? = some l) := by
  obtain ⟨⟨o', h1, h2⟩, h3⟩ := e.fix id _ h trivial
  refine ⟨?_, h3⟩
  cases o' with
  | map es' => exact ⟨es', h1⟩
  | _ => exact h2.elim
theorem VC.ext {B : Nat} {S S' : Mem} {m m' : List Loc} {H H' : List AObj} (e : Ext B S m H S' m' H') {c : Cell} {v : Value} (h : VC S m H c v) : VC S' m' H' c v := by
  cases c with
  | p x => exact VP.mono (S := S) (x := x) e.mem h
  | own id n =>
    obtain ⟨T, size, frz, es, l, h1, h2, h3, h4, h5⟩ := h
    obtain ⟨frz', es', l', a, b, c, d⟩ := e.arr id T size frz es l h1 h2
    refine ⟨T, size, frz', es', l', a, b, fun hn => ?_, by omega, h5⟩
    rw [d (by omega)]
    exact h3 (by omega)
  | ptr id off =>
    obtain ⟨b, cap, cs, h1, h2, h3⟩ := h
    obtain ⟨⟨cs', a⟩, k⟩ := e.var id cs h1
    exact ⟨b, cap, cs', a, k _ h2, h3⟩
  | ep id n i off =>
    obtain ⟨T, size, frz, es, l, h1, h2, h3, h4, h5⟩ := h
    obtain ⟨frz', es', l', a, b, c, d⟩ := e.arr id T size frz es l h1 h2
    refine ⟨T, size, frz', es', l', a, b, fun hn => ?_, by omega, h5⟩
    rw [d (by omega)]
    exact h3 (by omega)
  | pp cells =>
    obtain ⟨b, off, u, h1, h2⟩ := h
    exact ⟨b, off, u, h1, fun k x hk => ⟨e.mem _ _ _ (h2 k x hk).1, (h2 k x hk).2.mono e.mem⟩⟩
  | clo f first caps =>
    obtain ⟨fs, cs, h1, h2, h3, h4⟩ := h
    refine ⟨fs, cs, h1, h2.mono e.mem, h3, fun i q u hq hu => ?_⟩
    obtain ⟨b, cap, ds, k1, k2, k3⟩ := h4 i q u hq hu
    obtain ⟨⟨ds', a⟩, k⟩ := e.var q.1 ds k1
    exact ⟨b, cap, ds', a, k _ k2, k3⟩
  | yld id =>
    obtain ⟨b, cap, L, h1, h2, h3⟩ := h
    obtain ⟨⟨L', a, _⟩, k⟩ := e.loop id L h1
    exact ⟨b, cap, L', a, k _ h2, h3⟩
  | room id n =>
    obtain ⟨T, size, frz, es, l, h1, h2, h3, h5⟩ := h
    obtain ⟨frz', es', l', a, b, c, d⟩ := e.arr id T size frz es l h1 h2
    refine ⟨T, size, frz', es', l', a, b, fun hn => ?_, h5⟩
    rw [d (by omega)]
    exact h3 (by omega)
  | mp id =>
    obtain ⟨b, cap, es, h1, h2, h3⟩ := h
    obtain ⟨⟨es', a⟩, k⟩ := e.map id es h1
    exact ⟨b, cap, es', a, k _ h2, h3⟩

def VCs (S : Mem) (m : List Loc) (H : List AObj) (cs : List Cell) (vs : List Value) : Prop := cs.length = vs.length ∧ ∀ (i : Nat) (c : Cell) (v : Value), cs[i]? = some c → vs[i]? = some v → VC S m H c v
theorem VCs.ext {B : Nat} {S S' : Mem} {m m' : List Loc} {H H' : List AObj} (e : Ext B S m H S' m' H') {cs : List Cell} {vs : List Value} (h : VCs S m H cs vs) : VCs S' m' H' cs vs := ⟨h.1, fun i c v a b => (h.2 i c v a b).ext e⟩

def VB (S : Mem) (m : List Loc) (H : List AObj) : Bool × List Cell → Value → Prop
  | (false, cs), v => ∃ c, cs = [c] ∧ VC S m H c v
  | (true, cs), v => ∃ vs : List Value, v = .agg vs.toArray ∧ VCs S m H cs vs
def VA (S : Mem) (m : List Loc) (H : List AObj) : AV → Value → Prop
  | .any, _ => True
  | .c x, v => VC S m H x v
  | .agg cs, v => ∃ vs : List Value, v = .agg vs.toArray ∧ VCs S m H cs vs
  | .tup bs, v => ∃ vs : List Value, v = .tuple vs.toArray ∧ bs.length = vs.length ∧ ∀ (i : Nat) b u, bs[i]? = some b → vs[i]? = some u → VB S m H b u
  | .mark _, _ => True
theorem VB.ext {B : Nat} {S S' : Mem} {m m' : List Loc} {H H' : List AObj} (e : Ext B S m H S' m' H') {b : Bool × List Cell} {v : Value} (h : VB S m H b v) : VB S' m' H' b v := by
  obtain ⟨a, cs⟩ := b
  cases a with
  | false => obtain ⟨c, h1, h2⟩ := h; exact ⟨c, h1, h2.ext e⟩
  | true => obtain ⟨vs, h1, h2⟩ := h; exact ⟨vs, h1, h2.ext e⟩
theorem VA.ext {B : Nat} {S S' : Mem} {m m' : List Loc} {H H' : List AObj} (e : Ext B S m H S' m' H') {a : AV} {v : Value} (h : VA S m H a v) : VA S' m' H' a v := by
  cases a with
  | any => trivial
  | c x => exact VC.ext e h
  | agg cs => obtain ⟨vs, h1, h2⟩ := h; exact ⟨vs, h1, h2.ext e⟩
  | tup bs => obtain ⟨vs, h1, h2, h3⟩ := h; exact ⟨vs, h1, h2, fun i b u hb hu => (h3 i b u hb hu).ext e⟩
  | mark o => trivial

/-- An object as it lies in memory. -/
def ObjOk (S : Mem) (m : List Loc) (H : List AObj) (B : Nat) (w : World) : AObj → Loc → Prop
  | .var cs, .at_ b _ => B ≤ b ∧ (∀ o, S b o = none) ∧ ∃ (cur : List Value) (T : Nat), w.heap[b]? = some (.cells cur.toArray T (0, 0)) ∧ VCs S m H cs cur
  | .var _, .nil _ => False
  | .arr T size frz es, .nil A => 0 < size ∧ es = [] ∧ frz = 0
  | .arr T size frz es, .at_ b cap => 0 < size ∧ (∀ e, e ∈ es → e.length = size) ∧ frz ≤ es.length ∧ B ≤ b ∧ es.length ≤ cap ∧ cap ≤ maxLen ∧ (∀ o v, S b o = some v → o < frz * size) ∧
      ∃ cur : List Value, w.heap[b]? = some (.cells cur.toArray T (0, 0)) ∧ cur.length = cap * size ∧ VPs S es.flatten (cur.take (es.length * size))
  | .dfr, .at_ b _ => B ≤ b ∧ w.heap[b]? = some (.deferred (some []))
  | .dfr, .nil _ => False
  | .loop L, .at_ b _ => B ≤ b ∧ ∃ (fn : Nat) (tmps : Array Value) (bd : Nat), w.heap[b]? = some (.loop { state := L.st, pending := L.pending, fn := fn, tmps := tmps, params := L.ps, assign := L.assign, body := L.body, defers := bd }) ∧
      tmps.size = L.n ∧ ∀ d, VA S m H (getS L.sl d) (tmps.getD d undef)
  | .loop _, .nil _ => False
  | .map es, .at_ b _ => B ≤ b ∧ ∃ (ents : Array MapEntry) (clock : Nat), w.heap[b]? = some (.map ents clock) ∧ es.length = ents.size ∧ ∀ (i : Nat) k c (e : MapEntry), es[i]? = some (k, c) → ents[i]? = some e → e.key = .int .i64 k ∧ VC S m H c e.val
  | .map _, .nil _ => False
  | .hole, .nil _ => True
  | .hole, .at_ _ _ => False

structure Sim (S : Mem) (m : List Loc) (H : List AObj) (B : Nat) (w : World) : Prop where
  len : m.length = H.length
  mem : ∀ b o v, S b o = some v → w.cell? ⟨b, o, none⟩ = some v
  base : B ≤ w.heap.size
  obj : ∀ (id : Nat) o l, H[id]? = some o → m[id]? = some l → ObjOk S m H B w o l
  inj : ∀ (i j b c d : Nat), m[i]? = some (Loc.at_ b c) → m[j]? = some (Loc.at_ b d) → i = j

theorem Sim.loc {S : Mem} {m : List Loc} {H : List AObj} {B : Nat} {w : World} (s : Sim S m H B w) {id : Nat} {o : AObj} (h : H[id]? = some o) : ∃ l, m[id]? = some l ∧ ObjOk S m H B w o l := by
  have hlt : id < m.length := by rw [s.len]; exact (List.getElem?_eq_some_iff.1 h).1
  exact ⟨m[id], List.getElem?_eq_getElem hlt, s.obj id o _ h (List.getElem?_eq_getElem hlt)⟩

end Go.Aw
