/-
  An abstract memory for walks, part 5: places of fields and elements; literals; cuts; lengths; append; make.
-/
import Derived.Test.YtogappokeheilaaAw4
set_option linter.unusedVariables false
set_option linter.unusedSimpArgs false
namespace Go.Aw
open Go.RowKit
section
variable {P : Program} {B : Nat} {S : Mem} {m : List Loc} {H : List AObj} {w : World} {K : AV → List AObj → Prop}

/-! ### Fields -/
def fieldOf (P : Program) (s : TypeId) (f : Nat) : Option (Nat × TypeId) :=
  match P.underlying s with
  | some (.struct fs) => (fs[f]?).map fun x => (x.offset, x.type)
  | _ => none
theorem fieldOf_ok {s : TypeId} {f off t : Nat} (h : fieldOf P s f = some (off, t)) : ∃ fs x, P.underlying s = some (.struct fs) ∧ fs[f]? = some x ∧ x.offset = off ∧ x.type = t := by
  unfold fieldOf at h
  split at h
  · rename_i fs hu
    cases hx : fs[f]? with
    | none => simp [hx] at h
    | some x => simp [hx] at h; exact ⟨fs, x, hu, hx, h.1, h.2⟩
  · cases h
def aFieldAddr (P : Program) (s : TypeId) (x : AV) (f : Nat) (H : List AObj) (K : AV → List AObj → Prop) : Prop :=
  match fieldOf P s f with
  | none => False
  | some (off, t) => 0 < P.cellsOf t ∧
    match x with
    | .c (.ptr id o) => K (.c (.ptr id (o + off))) H
    | .c (.ep id n i o) => (∃ T size frz es, H[id]? = some (.arr T size frz es) ∧ es.length = n) ∧ K (.c (.ep id n i (o + off))) H
    | .c (.pp cells) => K (.c (.pp (cells.drop off))) H
    | _ => False
theorem run_fieldAt {st : TypeId} {f off t : Nat} (h : fieldOf P st f = some (off, t)) (hp : 0 < P.cellsOf t) (w : World) (b o : Nat) :
    (Instr.fieldAt st (.pointer (some ⟨b, o, none⟩)) f).run P w = .ok (.pointer (some ⟨b, o + off, none⟩)) w := by
  obtain ⟨fs, x, hu, hx, rfl, rfl⟩ := fieldOf_ok h
  have hss := run_sizeOf' hp w
  simp [Instr.fieldAt, run_underlying hu, hx, Instr.sureAddr, fieldPlace, hss, Nat.ne_of_gt hp, addr_add]
theorem good_fieldAddr (s : Sim S m H B w) {st : TypeId} {f : Nat} {x : AV} {v : Value} (hx : VA S m H x v) (h : aFieldAddr P st x f H K) : Good P B S m H w (Instr.fieldAt st v f) K := by
  unfold aFieldAddr at h
  cases hf : fieldOf P st f with
  | none => simp [hf] at h
  | some q =>
    obtain ⟨off, t⟩ := q
    simp only [hf] at h
    obtain ⟨hp, h⟩ := h
    cases x with
    | any => exact h.elim
    | agg cs => exact h.elim
    | tup vs => exact h.elim
    | mark o => exact h.elim
    | c x =>
      cases x with
      | p x => exact h.elim
      | own id n => exact h.elim
      | clo f a b => exact h.elim
      | yld id => exact h.elim
      | room id n => exact h.elim
      | mp id => exact h.elim
      | ptr id o =>
        obtain ⟨b, cap, cs, h1, h2, rfl⟩ := hx
        exact Good.same s (x := .c (.ptr id (o + off))) (run_fieldAt hf hp w b o) ⟨b, cap, cs, h1, h2, rfl⟩ h
      | ep id n i o =>
        obtain ⟨T, size, frz, es, l, h1, h2, h3, h4, h5⟩ := hx
        obtain ⟨⟨T', size', frz', es', h1', hn⟩, h⟩ := h
        rw [h1] at h1'; cases h1'
        obtain ⟨b, cap, rfl, rfl⟩ := h3 hn
        exact Good.same s (x := .c (.ep id n i (o + off))) (run_fieldAt hf hp w b (i * size + o)) ⟨T, size, frz, es, _, h1, h2, fun _ => ⟨b, cap, rfl, by rw [Nat.add_assoc]⟩, h4, rfl, rfl⟩ h
      | pp cells =>
        obtain ⟨b, o, u, rfl, h2⟩ := hx
        refine Good.same s (x := .c (.pp (cells.drop off))) (run_fieldAt hf hp w b o) ⟨b, o + off, fun k => u (off + k), rfl, fun k x hk => ?_⟩ h
        rw [List.getElem?_drop] at hk
        have := h2 (off + k) x hk
        rwa [show o + (off + k) = o + off + k by omega] at this

def aField (P : Program) (s : TypeId) (x : AV) (f : Nat) (H : List AObj) (K : AV → List AObj → Prop) : Prop :=
  match fieldOf P s f, x with
  | some (off, t), .agg cs => aPart P t cs off H K
  | _, _ => False
theorem good_field (s : Sim S m H B w) {st : TypeId} {f : Nat} {x : AV} {v : Value} (hx : VA S m H x v) (h : aField P st x f H K) : Good P B S m H w (Instr.field st v f) K := by
  unfold aField at h
  split at h
  · rename_i off t cs hf
    obtain ⟨fs, fx, hu, hfx, rfl, rfl⟩ := fieldOf_ok hf
    obtain ⟨vs, rfl, hv⟩ := hx
    unfold aPart at h
    cases ha : aggT P fx.type with
    | none => simp [ha] at h
    | some a =>
      cases a with
      | false =>
        simp only [ha] at h
        cases hc : cs[fx.offset]? with
        | none => simp [hc] at h
        | some c =>
          simp only [hc] at h
          have hlt : fx.offset < vs.length := by rw [← hv.1]; exact (List.getElem?_eq_some_iff.1 hc).1
          have hg := List.getElem?_eq_getElem hlt
          exact Good.same s (x := .c c) (v := vs[fx.offset]) (by simp [Instr.field, run_underlying hu, hfx, part, run_isAgg' ha, asAgg, hg]) (hv.2 _ c _ hc hg) h
      | true =>
        simp only [ha] at h
        obtain ⟨hp, hl, hk⟩ := h
        have hss := run_sizeOf' hp w
        refine Good.same s (x := .agg ((cs.drop fx.offset).take (P.cellsOf fx.type))) (v := .agg ((vs.drop fx.offset).take (P.cellsOf fx.type)).toArray) ?_ ⟨_, rfl, ?_, fun i c v hc hv' => ?_⟩ hk
        · simp [Instr.field, run_underlying hu, hfx, part, run_isAgg' ha, asAgg, hss]
        · simp [hv.1]
        · rw [List.getElem?_take] at hc hv'
          split at hc
          · rename_i hi
            rw [if_pos hi] at hv'
            rw [List.getElem?_drop] at hc hv'
            exact hv.2 _ c v hc hv'
          · cases hc
  · exact h.elim

/-! ### Elements -/
def intA : AV → Option Int
  | .c (.p (.int _ n)) => some n
  | _ => none
theorem intA_ok {x : AV} {v : Value} {n : Int} (hx : VA S m H x v) (h : intA x = some n) : ∃ k, v = .int k n := by
  unfold intA at h
  split at h
  · cases h
    cases hx
    exact ⟨_, rfl⟩
  · cases h
def aIndexAddr (P : Program) (t : TypeId) (x ix : AV) (H : List AObj) (K : AV → List AObj → Prop) : Prop :=
  match P.underlying t, intA ix with
  | some (.slice e), some i => 0 < P.cellsOf e ∧ 0 ≤ i ∧
    match x with
    | .c (.own id n) => match H[id]? with
      | some (.arr T size frz es) => es.length = n ∧ size = P.cellsOf e ∧ i < n ∧ K (.c (.ep id n i.toNat 0)) H
      | _ => False
    | .c (.p (.sl full xs)) => ∃ el, xs[i.toNat]? = some el ∧ el.length = P.cellsOf e ∧ K (.c (.pp el)) H
    | _ => False
  | _, _ => False
theorem good_indexAddr (s : Sim S m H B w) {t : TypeId} {x ix : AV} {v vi : Value} (hx : VA S m H x v) (hi : VA S m H ix vi) (h : aIndexAddr P t x ix H K) : Good P B S m H w (Instr.indexAt t v vi) K := by
  unfold aIndexAddr at h
  split at h
  · rename_i e i hu hix
    obtain ⟨k, rfl⟩ := intA_ok hi hix
    obtain ⟨hp, h0, h⟩ := h
    have hss := run_sizeOf' hp w
    split at h
    · rename_i id n
      split at h
      · rename_i T size frz es ho
        obtain ⟨hn, rfl, hlt, hk⟩ := h
        obtain ⟨T', size', frz', es', l, h1, h2, h3, h4, h5⟩ := hx
        rw [ho] at h1; cases h1
        have h3 := h3 hn
        have hO := s.obj id _ _ ho h2
        cases l with
        | nil A =>
          obtain ⟨_, rfl, _⟩ := hO
          simp at hn; omega
        | at_ b cap =>
          subst h3
          refine Good.same s (x := .c (.ep id n i.toNat 0)) (v := .pointer (some ⟨b, i.toNat * P.cellsOf e, none⟩)) ?_ ⟨_, _, _, es, _, ho, h2, fun _ => ⟨b, cap, rfl, rfl⟩, ⟨by omega, by omega⟩, rfl, rfl⟩ hk
          have : 0 ≤ i ∧ i < (n : Int) := ⟨h0, hlt⟩
          simp [Instr.indexAt, asIntOf, run_underlying hu, this, hss, addr_add]
      · exact h.elim
    · rename_i full xs
      obtain ⟨el, hel, hlen, hk⟩ := h
      have hxl : i.toNat < xs.length := (List.getElem?_eq_some_iff.1 hel).1
      cases hx with
      | nil => simp at hel
      | emp => simp at hel
      | sl _ _ b off cap size n u hn hc hm hf hs hu' hS hv =>
        have hsz : size = P.cellsOf e := by rw [← hlen]; exact (hu' el (List.mem_of_getElem? hel)).symm
        subst hsz
        refine Good.same s (x := .c (.pp el)) (v := .pointer (some ⟨b, off + i.toNat * P.cellsOf e, none⟩)) ?_ ⟨b, _, fun k => u (i.toNat * P.cellsOf e + k), rfl, fun k x hk' => ?_⟩ hk
        · have : 0 ≤ i ∧ i < (n : Int) := ⟨h0, by omega⟩
          simp [Instr.indexAt, asIntOf, run_underlying hu, this, hss, addr_add]
        · have hks : k < P.cellsOf e := by rw [← hlen]; exact (List.getElem?_eq_some_iff.1 hk').1
          have : xs.flatten[i.toNat * P.cellsOf e + k]? = some x := by rw [flat_get hu' _ _ hks, hel]; exact hk'
          exact ⟨by rw [Nat.add_assoc]; exact hS _ x this, hv _ x this⟩
    · exact h.elim
  · exact h.elim

/-! ### Literals -/
def placesOf (P : Program) (t : TypeId) : Option (List (Nat × Nat)) :=
  match P.underlying t with
  | some (.struct fs) => fs.toList.mapM fun f => (P.info? f.type).map fun i => (f.offset, i.size)
  | _ => none
def aFill (pl : List (Nat × Nat)) : List Cell → List (Nat × AV) → Option (List Cell)
  | cells, [] => some cells
  | cells, (i, x) :: r => match pl[i]?, cellsA x with
    | some (off, size), some cs => if cs.length = size ∧ off + size ≤ cells.length then aFill pl (splice cells off cs) r else none
    | _, _ => none
def PartsOk (S : Mem) (m : List Loc) (H : List AObj) (ps : List (Nat × AV)) (vs : List (Nat × Value)) : Prop := ps.length = vs.length ∧ ∀ (i : Nat) p v, ps[i]? = some p → vs[i]? = some v → p.1 = v.1 ∧ VA S m H p.2 v.2
theorem fold_splice (off : Nat) (v : Array Value) (cells : List Value) (h : off + v.size ≤ cells.length) :
    v.zipIdx.foldl (fun cs (x : Value × Nat) => cs.setIfInBounds (off + x.2) x.1) cells.toArray = (splice cells off v.toList).toArray := by
  have h0 := Great.foldl_set off v.toList 0 cells.toArray
  have e : v.zipIdx.foldl (fun cs (x : Value × Nat) => cs.setIfInBounds (off + x.2) x.1) cells.toArray = (v.toList.zipIdx 0).foldl (fun cs (x : Value × Nat) => cs.setIfInBounds (off + x.2) x.1) cells.toArray := by
    rw [← Array.foldl_toList, Array.toList_zipIdx]
  rw [e]
  apply Array.ext_getElem?
  intro k
  rw [h0.2 k]
  have e1 : cells.toArray[k]? = cells[k]? := by simp
  have e2 : (splice cells off v.toList).toArray[k]? = (splice cells off v.toList)[k]? := by simp
  have e3 : cells.toArray.size = cells.length := by simp
  have e4 : v.toList.length = v.size := by simp
  rw [e1, e2, e3, e4]
  unfold splice
  rw [e4, Nat.add_zero]
  by_cases a : k < off
  · rw [if_neg (by omega), List.append_assoc, List.getElem?_append_left (by rw [List.length_take]; omega), List.getElem?_take, if_pos a]
  · by_cases b : k < off + v.size
    · rw [if_pos ⟨by omega, b, by omega⟩, List.getElem?_append_left (by rw [List.length_append, List.length_take, e4]; omega), List.getElem?_append_right (by rw [List.length_take]; omega), List.length_take, Nat.min_eq_left (by omega)]
    · rw [if_neg (by omega), List.getElem?_append_right (by rw [List.length_append, List.length_take, e4]; omega), List.length_append, List.length_take, Nat.min_eq_left (by omega), List.getElem?_drop, e4]
      congr 1; omega
theorem aFill_ok (pl : List (Nat × Nat)) : ∀ {ps : List (Nat × AV)} {vs : List (Nat × Value)} {cells cs : List Cell} {cur : List Value}, PartsOk S m H ps vs → VCs S m H cells cur → aFill pl cells ps = some cs →
    ∃ r : List Value, Instr.fill (pl.toArray[·]?) cur.toArray vs = some r.toArray ∧ VCs S m H cs r
  | [], [], cells, cs, cur, _, hc, h => by
    simp [aFill] at h; subst h
    exact ⟨cur, rfl, hc⟩
  | [], v :: vs, cells, cs, cur, hp, hc, h => by simp [PartsOk] at hp
  | p :: ps, [], cells, cs, cur, hp, hc, h => by simp [PartsOk] at hp
  | (i, x) :: ps, (j, v) :: vs, cells, cs, cur, hp, hc, h => by
    obtain ⟨h1, h2⟩ := hp.2 0 _ _ rfl rfl
    simp only at h1 h2
    subst h1
    have ht : PartsOk S m H ps vs := ⟨by simpa using hp.1, fun k p v a b => hp.2 (k + 1) p v (by simpa using a) (by simpa using b)⟩
    simp only [aFill] at h
    split at h
    · rename_i off size xs hpl hxs
      split at h
      · rename_i hsz
        have hv := cellsA_ok h2 hxs
        have hvl : v.cells.size = size := by have := hv.1; simp at this; omega
        have hcl := hc.1
        have hn := VCs.splice hc off hv (by omega)
        obtain ⟨r, hr, hrc⟩ := aFill_ok pl ht hn h
        refine ⟨r, ?_, hrc⟩
        have hpl' : pl.toArray[i]? = some (off, size) := by simpa using hpl
        simp only [Instr.fill, hpl']
        rw [if_neg (by simp; omega), fold_splice off v.cells cur (by omega)]
        exact hr
      · cases h
    · cases h
def aBuild (P : Program) (t : TypeId) (ps : List (Nat × AV)) (H : List AObj) (K : AV → List AObj → Prop) : Prop :=
  match zeroA P t, placesOf P t with
  | some z, some pl => match cellsA z with
    | some zc => match aFill pl zc ps with
      | some cs => K (.agg cs) H
      | none => False
    | none => False
  | _, _ => False
theorem good_build (s : Sim S m H B w) {t : TypeId} {ps : List (Nat × AV)} {vs : Array (Nat × Value)} (hp : PartsOk S m H ps vs.toList) (h : aBuild P t ps H K) : Good P B S m H w (Instr.build t vs) K := by
  unfold aBuild at h
  split at h
  · rename_i z pl hz hpl
    split at h
    · rename_i zc hzc
      split at h
      · rename_i cs hcs
        unfold placesOf at hpl
        split at hpl
        · rename_i fs hu
          unfold zeroA at hz
          cases hi : P.info? t with
          | none => simp [hi] at hz
          | some it =>
            cases hzz : it.zero with
            | none => simp [hi, hzz] at hz
            | some zv =>
              simp [hi, hzz] at hz; subst hz
              have hzv := cellsA_ok (absA_ok S m H zv) hzc
              obtain ⟨r, hr, hrc⟩ := aFill_ok pl hp hzv hcs
              refine Good.same s (x := .agg cs) (v := .agg r.toArray) (run_build (P := P) w t vs r.toArray ?_) ⟨r, rfl, hrc⟩ h
              simp only [Program.built, hi, hu, hzz, hpl]
              simpa using hr
        · cases hpl
      · exact h.elim
    · exact h.elim
  · exact h.elim

/-- A slice's literal: of each element its cells. -/
def aElems (H : List AObj) : List AV → Option (List (List PV) × List AObj)
  | [] => some ([], H)
  | x :: xs => match cellsA x with
    | some cs => match frzs H cs with
      | some (ps, H1) => match aElems H1 xs with
        | some (es, H2) => some (ps.map lo :: es, H2)
        | none => none
      | none => none
    | none => none
theorem aElems_ok : ∀ {xs : List AV} {vs : List Value} {H H' : List AObj} {S : Mem} (_ : Sim S m H B w) (_ : xs.length = vs.length ∧ ∀ (i : Nat) x v, xs[i]? = some x → vs[i]? = some v → VA S m H x v) {es : List (List PV)} (_ : aElems H xs = some (es, H')),
    ∃ S', Sim S' m H' B w ∧ Ext B S m H S' m H' ∧ es.length = vs.length ∧ ∀ (i : Nat) e v, es[i]? = some e → vs[i]? = some v → VPs S' e v.cells.toList
  | [], vs, H, H', S, s, hv, es, h => by
    simp [aElems] at h
    obtain ⟨rfl, rfl⟩ := h
    exact ⟨S, s, Ext.refl B S m H, by simpa using hv.1, fun i e v a => by simp at a⟩
  | x :: xs, [], H, H', S, s, hv, es, h => by simp at hv
  | x :: xs, v :: vs, H, H', S, s, hv, es, h => by
    have h0 := hv.2 0 x v rfl rfl
    simp only [aElems] at h
    cases h1 : cellsA x with
    | none => simp [h1] at h
    | some cs =>
      simp only [h1] at h
      cases h2 : frzs H cs with
      | none => simp [h2] at h
      | some q =>
        obtain ⟨ps, H1⟩ := q
        simp only [h2] at h
        cases h3 : aElems H1 xs with
        | none => simp [h3] at h
        | some q =>
          obtain ⟨es', H2⟩ := q
          simp only [h3, Option.some.injEq, Prod.mk.injEq] at h
          obtain ⟨rfl, rfl⟩ := h
          obtain ⟨S1, s1, e1, p1⟩ := frzs_ok s (cellsA_ok h0 h1) h2
          obtain ⟨S2, s2, e2, l2, p2⟩ := aElems_ok s1 (vs := vs) ⟨by simpa using hv.1, fun i x' v' a b => (hv.2 (i + 1) x' v' (by simpa using a) (by simpa using b)).ext e1⟩ h3
          refine ⟨S2, s2, e1.trans e2, by simp [l2], fun i e v' a b => ?_⟩
          cases i with
          | zero => simp at a b; subst a; subst b; exact p1.lo.mono e2.mem
          | succ i => exact p2 i e v' (by simpa using a) (by simpa using b)
theorem flat_VPs {S : Mem} : ∀ {es : List (List PV)} {vs : List Value}, es.length = vs.length → (∀ (i : Nat) e v, es[i]? = some e → vs[i]? = some v → VPs S e v.cells.toList) → VPs S es.flatten (vs.flatMap fun v => v.cells.toList)
  | [], [], _, _ => VPs.nil S
  | [], _ :: _, h, _ => by simp at h
  | _ :: _, [], h, _ => by simp at h
  | e :: es, v :: vs, h, hv => by
    have h0 := hv 0 e v rfl rfl
    have ih := flat_VPs (es := es) (vs := vs) (by simpa using h) (fun i e' v' a b => hv (i + 1) e' v' (by simpa using a) (by simpa using b))
    refine ⟨by simp only [List.flatten_cons, List.flatMap_cons, List.length_append, h0.1, ih.1], fun i c u hc hu => ?_⟩
    simp only [List.flatten_cons, List.flatMap_cons] at hc hu
    by_cases hi : i < e.length
    · rw [List.getElem?_append_left hi] at hc
      rw [List.getElem?_append_left (by rw [← h0.1]; exact hi)] at hu
      exact h0.2 i c u hc hu
    · rw [List.getElem?_append_right (by omega)] at hc
      rw [List.getElem?_append_right (by rw [← h0.1]; omega), ← h0.1] at hu
      exact ih.2 _ c u hc hu
/-- 'ow': the literal is ours to write on; else it is frozen as it is made. -/
def aBuildSlice (P : Program) (ow : Bool) (t : TypeId) (len : Nat) (ps : List (Nat × AV)) (H : List AObj) (K : AV → List AObj → Prop) : Prop :=
  match P.underlying t with
  | some (.slice e) => 0 < P.cellsOf e ∧ len * P.cellsOf e ≤ 16777216 ∧ ps.map (·.1) = List.range len ∧ (zeroA P e).isSome = true ∧
    match aElems H (ps.map (·.2)) with
    | some (es, H1) => allLen (P.cellsOf e) es ∧ if ow then K (.c (.own H1.length es.length)) (H1 ++ [.arr e (P.cellsOf e) 0 es]) else K (.c (.p (.sl true es))) H1
    | none => False
  | _ => False
theorem buildSlice_core (s : Sim S m H B w) {t : TypeId} {len : Nat} {ps : List (Nat × AV)} {vs : Array (Nat × Value)} (hp : PartsOk S m H ps vs.toList) {K : AV → List AObj → Prop} {ow : Bool} (h : aBuildSlice P ow t len ps H K) :
    ∃ e, P.underlying t = some (.slice e) ∧ ∃ es H1 S1, ∃ cells : List Value, Sim S1 m H1 B w ∧ Ext B S m H S1 m H1 ∧ (Instr.buildSlice t len vs).run P w = .ok (.slice (some ⟨w.heap.size, 0, none⟩) len len) (w.alloc (.cells cells.toArray e)) ∧
      VPs S1 es.flatten cells ∧ es.length = len ∧ (0 < P.cellsOf e ∧ ∀ x, x ∈ es → x.length = P.cellsOf e) ∧ len ≤ maxLen ∧ (if ow then K (.c (.own H1.length es.length)) (H1 ++ [.arr e (P.cellsOf e) 0 es]) else K (.c (.p (.sl true es))) H1) := by
  unfold aBuildSlice at h
  split at h
  · rename_i e hu
    obtain ⟨hp0, hbig, hidx, hz, h⟩ := h
    split at h
    · rename_i es H1 hes
      obtain ⟨hul, hk⟩ := h
      obtain ⟨it, hi, hsz, _⟩ := info_of_cells hp0
      have hlen : len = vs.size := by
        have := congrArg List.length hidx
        simp at this
        rw [← this, hp.1]; simp
      obtain ⟨zv, hzz⟩ : ∃ z, it.zero = some z := by
        unfold zeroA at hz
        cases h : it.zero with
        | none => simp [hi, h] at hz
        | some z => exact ⟨z, rfl⟩
      obtain ⟨S1, s1, e1, l1, p1⟩ := aElems_ok s (vs := vs.toList.map (·.2)) ⟨by simp [hp.1], fun i x v hx hv => by
        rw [List.getElem?_map] at hx hv
        cases hpi : ps[i]? with
        | none => simp [hpi] at hx
        | some p =>
          cases hvi : vs.toList[i]? with
          | none => rw [hvi] at hv; simp at hv
          | some q =>
            rw [hvi] at hv
            simp [hpi] at hx hv
            subst hx; subst hv
            exact (hp.2 i p q hpi hvi).2⟩ hes
      have hel : es.length = len := by rw [l1, hlen]; simp
      have hpairs : vs.toList = ((vs.toList.map (·.2)).zipIdx 0).map fun x => (x.2, x.1) := by
        apply List.ext_getElem?
        intro i
        simp only [List.getElem?_map, List.getElem?_zipIdx]
        cases hvi : vs.toList[i]? with
        | none => simp
        | some q =>
          have hlt : i < ps.length := by rw [hp.1]; exact (List.getElem?_eq_some_iff.1 hvi).1
          have h1 := (hp.2 i _ q (List.getElem?_eq_getElem hlt) hvi).1
          have h2 : (ps.map (·.1))[i]? = (List.range len)[i]? := by rw [hidx]
          rw [List.getElem?_map, List.getElem?_eq_getElem hlt, List.getElem?_range (by rw [hlen]; rw [hp.1] at hlt; simpa using hlt)] at h2
          simp only [Option.map_some, Option.some.injEq] at h2
          have : q.1 = i := by rw [← h1, h2]
          simp [← this]
      have hvsz : ∀ v ∈ vs.toList.map (·.2), v.cells.size = P.cellsOf e := fun v hv => by
        obtain ⟨i, hi⟩ := List.getElem?_of_mem hv
        have hlt : i < es.length := by rw [l1]; exact (List.getElem?_eq_some_iff.1 hi).1
        have := (p1 i es[i] v (List.getElem?_eq_getElem hlt) hi).1
        rw [hul _ (List.getElem_mem hlt)] at this
        simpa using this.symm
      have hflat := flat_VPs l1 p1
      have hcl : ((vs.toList.map (·.2)).flatMap fun v => v.cells.toList).length = len * P.cellsOf e := by rw [← hflat.1, flat_len hul, hel]
      have hrun : (Instr.buildSlice t len vs).run P w = .ok (.slice (some ⟨w.heap.size, 0, none⟩) len len) (w.alloc (.cells ((vs.toList.map (·.2)).flatMap fun v => v.cells.toList).toArray e)) := by
        by_cases h0 : len = 0
        · have : vs = #[] := by
            apply Array.eq_empty_of_size_eq_zero; omega
          subst this
          subst h0
          have : (Array.range 0 : Array Nat) = #[] := rfl
          simp [Instr.buildSlice, run_underlying hu, sizeOf, typeInfo, hi, Instr.fill, newRow, this]
        · refine run_buildSlice w t e len vs _ it zv hu hi hzz (by rw [hsz]; omega) (by rw [hsz]; exact Nat.ne_of_gt (Nat.mul_pos (by omega) hp0)) ?_
          rw [hsz]
          conv => lhs; rw [hpairs]
          refine Great.fill_whole hp0 _ _ hvsz ?_
          simp [hlen]
      have hcapm : len ≤ maxLen := by
        have : len * 1 ≤ len * P.cellsOf e := Nat.mul_le_mul_left _ hp0
        simp only [maxLen]; omega
      exact ⟨e, hu, es, H1, S1, _, s1, e1, hrun, hflat, hel, ⟨hp0, hul⟩, hcapm, hk⟩
    · exact h.elim
  · exact h.elim
theorem good_buildSlice (s : Sim S m H B w) {ow : Bool} {t : TypeId} {len : Nat} {ps : List (Nat × AV)} {vs : Array (Nat × Value)} (hp : PartsOk S m H ps vs.toList) (h : aBuildSlice P ow t len ps H K) : Good P B S m H w (Instr.buildSlice t len vs) K := by
      obtain ⟨e, hu, es, H1, S1, cells0, s1, e1, hrun, hflat, hel, ⟨hp0, hul⟩, hcapm, hk⟩ := buildSlice_core s hp h
      have hcl : cells0.length = len * P.cellsOf e := by rw [← hflat.1, flat_len hul, hel]
      cases ow with
      | true =>
        simp only [if_true] at hk
        obtain ⟨s2, e2, hv⟩ := s1.newArr e (P.cellsOf e) len es _ hp0 hul (by omega) hcapm hcl (by rw [hel, ← hcl, List.take_length]; exact hflat)
        rw [hel] at hv
        refine ⟨_, _, hrun, S1, _, _, .c (.own H1.length es.length), s2, e1.trans e2, (Bel.refl B w).alloc s.base _, ?_, hk⟩
        rw [hel]; exact hv
      | false =>
        simp only [Bool.false_eq_true, if_false] at hk
        let cells := cells0
        let S2 : Mem := fun b o => if b = w.heap.size then cells[o]? else S1 b o
        have hin : ∀ o, S2 w.heap.size o = cells[o]? := fun o => if_pos rfl
        have hout : OldMem w.heap.size S1 S2 := fun b o hb => if_neg (by omega)
        obtain ⟨s2, e2⟩ := s1.grow (S' := S2) (w' := w.alloc (.cells cells.toArray e)) (fun k hk => heap_alloc_old w _ hk) (by simp) hout (fun b o v hb hv => by
          by_cases hbb : b = w.heap.size
          · subst hbb
            rw [hin] at hv
            rw [cell_eq (heap_alloc_new w _)]; exact hv
          · have : S2 b o = S1 b o := if_neg hbb
            rw [this, s1.newmem hb o] at hv
            cases hv)
        refine ⟨_, _, hrun, S2, _, _, .c (.p (.sl true es)), s2, e1.trans e2, (Bel.refl B w).alloc s.base _, ?_, hk⟩
        refine .sl true es w.heap.size 0 len (P.cellsOf e) len (fun k => cells.getD k undef) hel (Nat.le_refl _) hcapm (fun _ => rfl) hp0 hul (fun k x hk => ?_) (fun k x hk => ?_)
        all_goals
          have hkc : k < cells.length := by rw [← hflat.1]; exact (List.getElem?_eq_some_iff.1 hk).1
          have hg : cells[k]? = some (cells.getD k undef) := by rw [List.getD_eq_getElem?_getD, List.getElem?_eq_getElem hkc]; rfl
        · rw [Nat.zero_add, hin, hg]
        · exact (hflat.2 k x _ hk hg).mono e2.mem
end
end Go.Aw
