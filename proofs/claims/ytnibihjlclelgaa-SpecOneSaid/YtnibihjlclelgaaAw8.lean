import Derived.Test.YtnibihjlclelgaaAw4
import Derived.Laws.StructEq
import Derived.Laws.BytesArg
/-
  An abstract memory for walks, part 5: places of fields and elements; literals; cuts; lengths; append; make.
-/
set_option linter.unusedVariables false
set_option linter.unusedSimpArgs false
namespace Go.Aw
open Go.RowKit
section
variable {P : Program} {B : Nat} {S : Mem} {m : List Loc} {H : List AObj} {w : World} {K : AV → List AObj → Prop}

/-! ### Fields -/
def fieldOf (P : Program) (s : TypeId) (f : Nat) : Option (Nat × TypeId) :=
  match P.underlying s with
  | some (.struct fs) => (fs[f]?).map fun x => (x.offset, x.type)
  | _ => none
theorem fieldOf_ok {s : TypeId} {f off t : Nat} (h : fieldOf P s f = some (off, t)) : ∃ fs x, P.underlying s = some (.struct fs) ∧ fs[f]? = some x ∧ x.offset = off ∧ x.type = t := by
  unfold fieldOf at h
  split at h
  · rename_i fs hu
    cases hx : fs[f]? with
    | none => simp [hx] at h
    | some x => simp [hx] at h; exact ⟨fs, x, hu, hx, h.1, h.2⟩
  · cases h
def aFieldAddr (P : Program) (s : TypeId) (x : AV) (f : Nat) (H : List AObj) (K : AV → List AObj → Prop) : Prop :=
  match fieldOf P s f with
  | none => False
  | some (off, t) => 0 < P.cellsOf t ∧
    match x with
    | .c (.ptr id o) => K (.c (.ptr id (o + off))) H
    | .c (.ep id n i o) => (∃ T size frz es, H[id]? = some (.arr T size frz es) ∧ es.length = n) ∧ K (.c (.ep id n i (o + off))) H
    | .c (.pp cells) => K (.c (.pp (cells.drop off))) H
    | _ => False
theorem run_fieldAt {st : TypeId} {f off t : Nat} (h : fieldOf P st f = some (off, t)) (hp : 0 < P.cellsOf t) (w : World) (b o : Nat) :
    (Instr.fieldAt st (.pointer (some ⟨b, o, none⟩)) f).run P w = .ok (.pointer (some ⟨b, o + off, none⟩)) w := by
  obtain ⟨fs, x, hu, hx, rfl, rfl⟩ := fieldOf_ok h
  have hss := run_sizeOf' hp w
  simp [Instr.fieldAt, run_underlying hu, hx, Instr.sureAddr, fieldPlace, hss, Nat.ne_of_gt hp, addr_add]
theorem good_fieldAddr (s : Sim S m H B w) {st : TypeId} {f : Nat} {x : AV} {v : Value} (hx : VA S m H x v) (h : aFieldAddr P st x f H K) : Good P B S m H w (Instr.fieldAt st v f) K := by
  unfold aFieldAddr at h
  cases hf : fieldOf P st f with
  | none => simp [hf] at h
  | some q =>
    obtain ⟨off, t⟩ := q
    simp only [hf] at h
    obtain ⟨hp, h⟩ := h
    cases x with
    | any => exact h.elim
    | agg cs => exact h.elim
    | tup vs => exact h.elim
    | mark o => exact h.elim
    | c x =>
      cases x with
      | p x => exact h.elim
      | own id n => exact h.elim
      | clo f a b => exact h.elim
      | yld id => exact h.elim
      | room id n => exact h.elim
      | mp id => exact h.elim
      | vs id n => exact h.elim
      | tl id k n xs => exact h.elim
      | ptr id o =>
        obtain ⟨b, cap, cs, h1, h2, rfl⟩ := hx
        exact Good.same s (x := .c (.ptr id (o + off))) (run_fieldAt hf hp w b o) ⟨b, cap, cs, h1, h2, rfl⟩ h
      | ep id n i o =>
        obtain ⟨T, size, frz, es, l, h1, h2, h3, h4, h5⟩ := hx
        obtain ⟨⟨T', size', frz', es', h1', hn⟩, h⟩ := h
        rw [h1] at h1'; cases h1'
        obtain ⟨b, cap, rfl, rfl⟩ := h3 hn
        exact Good.same s (x := .c (.ep id n i (o + off))) (run_fieldAt hf hp w b (i * size + o)) ⟨T, size, frz, es, _, h1, h2, fun _ => ⟨b, cap, rfl, by rw [Nat.add_assoc]⟩, h4, rfl, rfl⟩ h
      | pp cells =>
        obtain ⟨b, o, u, rfl, h2⟩ := hx
        refine Good.same s (x := .c (.pp (cells.drop off))) (run_fieldAt hf hp w b o) ⟨b, o + off, fun k => u (off + k), rfl, fun k x hk => ?_⟩ h
        rw [List.getElem?_drop] at hk
        have := h2 (off + k) x hk
        rwa [show o + (off + k) = o + off + k by omega] at this

def aField (P : Program) (s : TypeId) (x : AV) (f : Nat) (H : List AObj) (K : AV → List AObj → Prop) : Prop :=
  match fieldOf P s f, x with
  | some (off, t), .agg cs => aPart P t cs off H K
  | _, _ => False
theorem good_field (s : Sim S m H B w) {st : TypeId} {f : Nat} {x : AV} {v : Value} (hx : VA S m H x v) (h : aField P st x f H K) : Good P B S m H w (Instr.field st v f) K := by
  unfold aField at h
  split at h
  · rename_i off t cs hf
    obtain ⟨fs, fx, hu, hfx, rfl, rfl⟩ := fieldOf_ok hf
    obtain ⟨vs, rfl, hv⟩ := hx
    unfold aPart at h
    cases ha : aggT P fx.type with
    | none => simp [ha] at h
    | some a =>
      cases a with
      | false =>
        simp only [ha] at h
        cases hc : cs[fx.offset]? with
        | none => simp [hc] at h
        | some c =>
          simp only [hc] at h
          have hlt : fx.offset < vs.length := by rw [← hv.1]; exact (List.getElem?_eq_some_iff.1 hc).1
          have hg := List.getElem?_eq_getElem hlt
          exact Good.same s (x := .c c) (v := vs[fx.offset]) (by simp [Instr.field, run_underlying hu, hfx, part, run_isAgg' ha, asAgg, hg]) (hv.2 _ c _ hc hg) h
      | true =>
        simp only [ha] at h
        obtain ⟨hp, hl, hk⟩ := h
        have hss := run_sizeOf' hp w
        refine Good.same s (x := .agg ((cs.drop fx.offset).take (P.cellsOf fx.type))) (v := .agg ((vs.drop fx.offset).take (P.cellsOf fx.type)).toArray) ?_ ⟨_, rfl, ?_, fun i c v hc hv' => ?_⟩ hk
        · simp [Instr.field, run_underlying hu, hfx, part, run_isAgg' ha, asAgg, hss]
        · simp [hv.1]
        · rw [List.getElem?_take] at hc hv'
          split at hc
          · rename_i hi
            rw [if_pos hi] at hv'
            rw [List.getElem?_drop] at hc hv'
            exact hv.2 _ c v hc hv'
          · cases hc
  · exact h.elim

/-! ### Elements -/
def intA : AV → Option Int
  | .c (.p (.int _ n)) => some n
  | _ => none
theorem intA_ok {x : AV} {v : Value} {n : Int} (hx : VA S m H x v) (h : intA x = some n) : ∃ k, v = .int k n := by
  unfold intA at h
  split at h
  · cases h
    cases hx
    exact ⟨_, rfl⟩
  · cases h
def aIndexAddr (P : Program) (t : TypeId) (x ix : AV) (H : List AObj) (K : AV → List AObj → Prop) : Prop :=
  match P.underlying t, intA ix with
  | some (.slice e), some i => 0 < P.cellsOf e ∧ 0 ≤ i ∧
    match x with
    | .c (.own id n) => match H[id]? with
      | some (.arr T size frz es) => es.length = n ∧ size = P.cellsOf e ∧ i < n ∧ K (.c (.ep id n i.toNat 0)) H
      | _ => False
    | .c (.p (.sl full xs)) => ∃ el, xs[i.toNat]? = some el ∧ el.length = P.cellsOf e ∧ K (.c (.pp el)) H
    | .c (.tl id k n xs) => ∃ el, xs[i.toNat]? = some el ∧ el.length = P.cellsOf e ∧ K (.c (.pp el)) H
    | .c (.vs id n) => P.cellsOf e = 1 ∧ i < n ∧ K (.c (.ptr id i.toNat)) H
    | _ => False
  | _, _ => False
theorem good_indexAddr (s : Sim S m H B w) {t : TypeId} {x ix : AV} {v vi : Value} (hx : VA S m H x v) (hi : VA S m H ix vi) (h : aIndexAddr P t x ix H K) : Good P B S m H w (Instr.indexAt t v vi) K := by
  unfold aIndexAddr at h
  split at h
  · rename_i e i hu hix
    obtain ⟨k, rfl⟩ := intA_ok hi hix
    obtain ⟨hp, h0, h⟩ := h
    have hss := run_sizeOf' hp w
    split at h
    · rename_i id n
      split at h
      · rename_i T size frz es ho
        obtain ⟨hn, rfl, hlt, hk⟩ := h
        obtain ⟨T', size', frz', es', l, h1, h2, h3, h4, h5⟩ := hx
        rw [ho] at h1; cases h1
        have h3 := h3 hn
        have hO := s.obj id _ _ ho h2
        cases l with
        | nil A =>
          obtain ⟨_, rfl, _⟩ := hO
          simp at hn; omega
        | at_ b cap =>
          subst h3
          refine Good.same s (x := .c (.ep id n i.toNat 0)) (v := .pointer (some ⟨b, i.toNat * P.cellsOf e, none⟩)) ?_ ⟨_, _, _, es, _, ho, h2, fun _ => ⟨b, cap, rfl, rfl⟩, ⟨by omega, by omega⟩, rfl, rfl⟩ hk
          have : 0 ≤ i ∧ i < (n : Int) := ⟨h0, hlt⟩
          simp [Instr.indexAt, asIntOf, run_underlying hu, this, hss, addr_add]
      · exact h.elim
    · rename_i full xs
      obtain ⟨el, hel, hlen, hk⟩ := h
      have hxl : i.toNat < xs.length := (List.getElem?_eq_some_iff.1 hel).1
      cases hx with
      | nil => simp at hel
      | emp => simp at hel
      | sl _ _ b off cap size n u hn hc hm hf hs hu' hS hv =>
        have hsz : size = P.cellsOf e := by rw [← hlen]; exact (hu' el (List.mem_of_getElem? hel)).symm
        subst hsz
        refine Good.same s (x := .c (.pp el)) (v := .pointer (some ⟨b, off + i.toNat * P.cellsOf e, none⟩)) ?_ ⟨b, _, fun k => u (i.toNat * P.cellsOf e + k), rfl, fun k x hk' => ?_⟩ hk
        · have : 0 ≤ i ∧ i < (n : Int) := ⟨h0, by omega⟩
          simp [Instr.indexAt, asIntOf, run_underlying hu, this, hss, addr_add]
        · have hks : k < P.cellsOf e := by rw [← hlen]; exact (List.getElem?_eq_some_iff.1 hk').1
          have : xs.flatten[i.toNat * P.cellsOf e + k]? = some x := by rw [flat_get hu' _ _ hks, hel]; exact hk'
          exact ⟨by rw [Nat.add_assoc]; exact hS _ x this, hv _ x this⟩
    · rename_i id k' n' xs
      obtain ⟨el, hel, hlen, hk⟩ := h
      have hxl : i.toNat < xs.length := (List.getElem?_eq_some_iff.1 hel).1
      obtain ⟨_, _, _, _, _, _, _, _, _, hx⟩ := hx
      cases hx with
      | nil => simp at hel
      | emp => simp at hel
      | sl _ _ b off cap size n u hn hc hm hf hs hu' hS hv =>
        have hsz : size = P.cellsOf e := by rw [← hlen]; exact (hu' el (List.mem_of_getElem? hel)).symm
        subst hsz
        refine Good.same s (x := .c (.pp el)) (v := .pointer (some ⟨b, off + i.toNat * P.cellsOf e, none⟩)) ?_ ⟨b, _, fun k => u (i.toNat * P.cellsOf e + k), rfl, fun k x hk' => ?_⟩ hk
        · have : 0 ≤ i ∧ i < (n : Int) := ⟨h0, by omega⟩
          simp [Instr.indexAt, asIntOf, run_underlying hu, this, hss, addr_add]
        · have hks : k < P.cellsOf e := by rw [← hlen]; exact (List.getElem?_eq_some_iff.1 hk').1
          have : xs.flatten[i.toNat * P.cellsOf e + k]? = some x := by rw [flat_get hu' _ _ hks, hel]; exact hk'
          exact ⟨by rw [Nat.add_assoc]; exact hS _ x this, hv _ x this⟩
    · rename_i id n
      obtain ⟨h1, hlt, hk⟩ := h
      obtain ⟨b, cap, cs, q1, q2, rfl⟩ := hx
      refine Good.same s (x := .c (.ptr id i.toNat)) (v := .pointer (some ⟨b, i.toNat, none⟩)) ?_ ⟨b, cap, cs, q1, q2, rfl⟩ hk
      have : 0 ≤ i ∧ i < (n : Int) := ⟨h0, hlt⟩
      simp [Instr.indexAt, asIntOf, run_underlying hu, this, hss, addr_add, h1]
    · exact h.elim
  · exact h.elim

/-! ### Literals -/
def placesOf (P : Program) (t : TypeId) : Option (List (Nat × Nat)) :=
  match P.underlying t with
  | some (.struct fs) => fs.toList.mapM fun f => (P.info? f.type).map fun i => (f.offset, i.size)
  | _ => none
def aFill (pl : List (Nat × Nat)) : List Cell → List (Nat × AV) → Option (List Cell)
  | cells, [] => some cells
  | cells, (i, x) :: r => match pl[i]?, cellsA x with
    | some (off, size), some cs => if cs.length = size ∧ off + size ≤ cells.length then aFill pl (splice cells off cs) r else none
    | _, _ => none
def PartsOk (S : Mem) (m : List Loc) (H : List AObj) (ps : List (Nat × AV)) (vs : List (Nat × Value)) : Prop := ps.length = vs.length ∧ ∀ (i : Nat) p v, ps[i]? = some p → vs[i]? = some v → p.1 = v.1 ∧ VA S m H p.2 v.2
theorem fold_splice (off : Nat) (v : Array Value) (cells : List Value) (h : off + v.size ≤ cells.length) :
    v.zipIdx.foldl (fun cs (x : Value × Nat) => cs.setIfInBounds (off + x.2) x.1) cells.toArray = (splice cells off v.toList).toArray := by
  have h0 := Great.foldl_set off v.toList 0 cells.toArray
  have e : v.zipIdx.foldl (fun cs (x : Value × Nat) => cs.setIfInBounds (off + x.2) x.1) cells.toArray = (v.toList.zipIdx 0).foldl (fun cs (x : Value × Nat) => cs.setIfInBounds (off + x.2) x.1) cells.toArray := by
    rw [← Array.foldl_toList, Array.toList_zipIdx]
  rw [e]
  apply Array.ext_getElem?
  intro k
  rw [h0.2 k]
  have e1 : cells.toArray[k]? = cells[k]? := by simp
  have e2 : (splice cells off v.toList).toArray[k]? = (splice cells off v.toList)[k]? := by simp
  have e3 : cells.toArray.size = cells.length := by simp
  have e4 : v.toList.length = v.size := by simp
  rw [e1, e2, e3, e4]
  unfold splice
  rw [e4, Nat.add_zero]
  by_cases a : k < off
  · rw [if_neg (by omega), List.append_assoc, List.getElem?_append_left (by rw [List.length_take]; omega), List.getElem?_take, if_pos a]
  · by_cases b : k < off + v.size
    · rw [if_pos ⟨by omega, b, by omega⟩, List.getElem?_append_left (by rw [List.length_append, List.length_take, e4]; omega), List.getElem?_append_right (by rw [List.length_take]; omega), List.length_take, Nat.min_eq_left (by omega)]
    · rw [if_neg (by omega), List.getElem?_append_right (by rw [List.length_append, List.length_take, e4]; omega), List.length_append, List.length_take, Nat.min_eq_left (by omega), List.getElem?_drop, e4]
      congr 1; omega
theorem aFill_ok (pl : List (Nat × Nat)) : ∀ {ps : List (Nat × AV)} {vs : List (Nat × Value)} {cells cs : List Cell} {cur : List Value}, PartsOk S m H ps vs → VCs S m H cells cur → aFill pl cells ps = some cs →
    ∃ r : List Value, Instr.fill (pl.toArray[·]?) cur.toArray vs = some r.toArray ∧ VCs S m H cs r
  | [], [], cells, cs, cur, _, hc, h => by
    simp [aFill] at h; subst h
    exact ⟨cur, rfl, hc⟩
  | [], v :: vs, cells, cs, cur, hp, hc, h => by simp [PartsOk] at hp
  | p :: ps, [], cells, cs, cur, hp, hc, h => by simp [PartsOk] at hp
  | (i, x) :: ps, (j, v) :: vs, cells, cs, cur, hp, hc, h => by
    obtain ⟨h1, h2⟩ := hp.2 0 _ _ rfl rfl
    simp only at h1 h2
    subst h1
    have ht : PartsOk S m H ps vs := ⟨by simpa using hp.1, fun k p v a b => hp.2 (k + 1) p v (by simpa using a) (by simpa using b)⟩
    simp only [aFill] at h
    split at h
    · rename_i off size xs hpl hxs
      split at h
      · rename_i hsz
        have hv := cellsA_ok h2 hxs
        have hvl : v.cells.size = size := by have := hv.1; simp at this; omega
        have hcl := hc.1
        have hn := VCs.splice hc off hv (by omega)
        obtain ⟨r, hr, hrc⟩ := aFill_ok pl ht hn h
        refine ⟨r, ?_, hrc⟩
        have hpl' : pl.toArray[i]? = some (off, size) := by simpa using hpl
        simp only [Instr.fill, hpl']
        rw [if_neg (by simp; omega), fold_splice off v.cells cur (by omega)]
        exact hr
      · cases h
    · cases h
def aBuild (P : Program) (t : TypeId) (ps : List (Nat × AV)) (H : List AObj) (K : AV → List AObj → Prop) : Prop :=
  match zeroA P t, placesOf P t with
  | some z, some pl => match cellsA z with
    | some zc => match aFill pl zc ps with
      | some cs => K (.agg cs) H
      | none => False
    | none => False
  | _, _ => False
theorem good_build (s : Sim S m H B w) {t : TypeId} {ps : List (Nat × AV)} {vs : Array (Nat × Value)} (hp : PartsOk S m H ps vs.toList) (h : aBuild P t ps H K) : Good P B S m H w (Instr.build t vs) K := by
  unfold aBuild at h
  split at h
  · rename_i z pl hz hpl
    split at h
    · rename_i zc hzc
      split at h
      · rename_i cs hcs
        unfold placesOf at hpl
        split at hpl
        · rename_i fs hu
          unfold zeroA at hz
          cases hi : P.info? t with
          | none => simp [hi] at hz
          | some it =>
            cases hzz : it.zero with
            | none => simp [hi, hzz] at hz
            | some zv =>
              simp [hi, hzz] at hz; subst hz
              have hzv := cellsA_ok (absA_ok S m H zv) hzc
              obtain ⟨r, hr, hrc⟩ := aFill_ok pl hp hzv hcs
              refine Good.same s (x := .agg cs) (v := .agg r.toArray) (run_build (P := P) w t vs r.toArray ?_) ⟨r, rfl, hrc⟩ h
              simp only [Program.built, hi, hu, hzz, hpl]
              simpa using hr
        · cases hpl
      · exact h.elim
    · exact h.elim
  · exact h.elim

/-- A slice's literal: of each element its cells. -/
def aElems (H : List AObj) : List AV → Option (List (List PV) × List AObj)
  | [] => some ([], H)
  | x :: xs => match cellsA x with
    | some cs => match frzs H cs with
      | some (ps, H1) => match aElems H1 xs with
        | some (es, H2) => some (ps.map lo :: es, H2)
        | none => none
      | none => none
    | none => none
theorem aElems_ok : ∀ {xs : List AV} {vs : List Value} {H H' : List AObj} {S : Mem} (_ : Sim S m H B w) (_ : xs.length = vs.length ∧ ∀ (i : Nat) x v, xs[i]? = some x → vs[i]? = some v → VA S m H x v) {es : List (List PV)} (_ : aElems H xs = some (es, H')),
    ∃ S', Sim S' m H' B w ∧ Ext B S m H S' m H' ∧ es.length = vs.length ∧ ∀ (i : Nat) e v, es[i]? = some e → vs[i]? = some v → VPs S' e v.cells.toList
  | [], vs, H, H', S, s, hv, es, h => by
    simp [aElems] at h
    obtain ⟨rfl, rfl⟩ := h
    exact ⟨S, s, Ext.refl B S m H, by simpa using hv.1, fun i e v a => by simp at a⟩
  | x :: xs, [], H, H', S, s, hv, es, h => by simp at hv
  | x :: xs, v :: vs, H, H', S, s, hv, es, h => by
    have h0 := hv.2 0 x v rfl rfl
    simp only [aElems] at h
    cases h1 : cellsA x with
    | none => simp [h1] at h
    | some cs =>
      simp only [h1] at h
      cases h2 : frzs H cs with
      | none => simp [h2] at h
      | some q =>
        obtain ⟨ps, H1⟩ := q
        simp only [h2] at h
        cases h3 : aElems H1 xs with
        | none => simp [h3] at h
        | some q =>
          obtain ⟨es', H2⟩ := q
          simp only [h3, Option.some.injEq, Prod.mk.injEq] at h
          obtain ⟨rfl, rfl⟩ := h
          obtain ⟨S1, s1, e1, p1⟩ := frzs_ok s (cellsA_ok h0 h1) h2
          obtain ⟨S2, s2, e2, l2, p2⟩ := aElems_ok s1 (vs := vs) ⟨by simpa using hv.1, fun i x' v' a b => (hv.2 (i + 1) x' v' (by simpa using a) (by simpa using b)).ext e1⟩ h3
          refine ⟨S2, s2, e1.trans e2, by simp [l2], fun i e v' a b => ?_⟩
          cases i with
          | zero => simp at a b; subst a; subst b; exact p1.lo.mono e2.mem
          | succ i => exact p2 i e v' (by simpa using a) (by simpa using b)
theorem flat_VPs {S : Mem} : ∀ {es : List (List PV)} {vs : List Value}, es.length = vs.length → (∀ (i : Nat) e v, es[i]? = some e → vs[i]? = some v → VPs S e v.cells.toList) → VPs S es.flatten (vs.flatMap fun v => v.cells.toList)
  | [], [], _, _ => VPs.nil S
  | [], _ :: _, h, _ => by simp at h
  | _ :: _, [], h, _ => by simp at h
  | e :: es, v :: vs, h, hv => by
    have h0 := hv 0 e v rfl rfl
    have ih := flat_VPs (es := es) (vs := vs) (by simpa using h) (fun i e' v' a b => hv (i + 1) e' v' (by simpa using a) (by simpa using b))
    refine ⟨by simp only [List.flatten_cons, List.flatMap_cons, List.length_append, h0.1, ih.1], fun i c u hc hu => ?_⟩
    simp only [List.flatten_cons, List.flatMap_cons] at hc hu
    by_cases hi : i < e.length
    · rw [List.getElem?_append_left hi] at hc
      rw [List.getElem?_append_left (by rw [← h0.1]; exact hi)] at hu
      exact h0.2 i c u hc hu
    · rw [List.getElem?_append_right (by omega)] at hc
      rw [List.getElem?_append_right (by rw [← h0.1]; omega), ← h0.1] at hu
      exact ih.2 _ c u hc hu
/-- 'ow': the literal is ours to write on; else it is frozen as it is made. -/
def aBuildSlice (P : Program) (ow : Bool) (t : TypeId) (len : Nat) (ps : List (Nat × AV)) (H : List AObj) (K : AV → List AObj → Prop) : Prop :=
  match P.underlying t with
  | some (.slice e) => 0 < P.cellsOf e ∧ len * P.cellsOf e ≤ 16777216 ∧ ps.map (·.1) = List.range len ∧ (zeroA P e).isSome = true ∧
    match aElems H (ps.map (·.2)) with
    | some (es, H1) => allLen (P.cellsOf e) es ∧ if ow then K (.c (.own H1.length es.length)) (H1 ++ [.arr e (P.cellsOf e) 0 es]) else K (.c (.p (.sl true es))) H1
    | none => False
  | _ => False
theorem buildSlice_core (s : Sim S m H B w) {t : TypeId} {len : Nat} {ps : List (Nat × AV)} {vs : Array (Nat × Value)} (hp : PartsOk S m H ps vs.toList) {K : AV → List AObj → Prop} {ow : Bool} (h : aBuildSlice P ow t len ps H K) :
    ∃ e, P.underlying t = some (.slice e) ∧ ∃ es H1 S1, ∃ cells : List Value, Sim S1 m H1 B w ∧ Ext B S m H S1 m H1 ∧ (Instr.buildSlice t len vs).run P w = .ok (.slice (some ⟨w.heap.size, 0, none⟩) len len) (w.alloc (.cells cells.toArray e)) ∧
      VPs S1 es.flatten cells ∧ es.length = len ∧ (0 < P.cellsOf e ∧ ∀ x, x ∈ es → x.length = P.cellsOf e) ∧ len ≤ maxLen ∧ (if ow then K (.c (.own H1.length es.length)) (H1 ++ [.arr e (P.cellsOf e) 0 es]) else K (.c (.p (.sl true es))) H1) := by
  unfold aBuildSlice at h
  split at h
  · rename_i e hu
    obtain ⟨hp0, hbig, hidx, hz, h⟩ := h
    split at h
    · rename_i es H1 hes
      obtain ⟨hul, hk⟩ := h
      obtain ⟨it, hi, hsz, _⟩ := info_of_cells hp0
      have hlen : len = vs.size := by
        have := congrArg List.length hidx
        simp at this
        rw [← this, hp.1]; simp
      obtain ⟨zv, hzz⟩ : ∃ z, it.zero = some z := by
        unfold zeroA at hz
        cases h : it.zero with
        | none => simp [hi, h] at hz
        | some z => exact ⟨z, rfl⟩
      obtain ⟨S1, s1, e1, l1, p1⟩ := aElems_ok s (vs := vs.toList.map (·.2)) ⟨by simp [hp.1], fun i x v hx hv => by
        rw [List.getElem?_map] at hx hv
        cases hpi : ps[i]? with
        | none => simp [hpi] at hx
        | some p =>
          cases hvi : vs.toList[i]? with
          | none => rw [hvi] at hv; simp at hv
          | some q =>
            rw [hvi] at hv
            simp [hpi] at hx hv
            subst hx; subst hv
            exact (hp.2 i p q hpi hvi).2⟩ hes
      have hel : es.length = len := by rw [l1, hlen]; simp
      have hpairs : vs.toList = ((vs.toList.map (·.2)).zipIdx 0).map fun x => (x.2, x.1) := by
        apply List.ext_getElem?
        intro i
        simp only [List.getElem?_map, List.getElem?_zipIdx]
        cases hvi : vs.toList[i]? with
        | none => simp
        | some q =>
          have hlt : i < ps.length := by rw [hp.1]; exact (List.getElem?_eq_some_iff.1 hvi).1
          have h1 := (hp.2 i _ q (List.getElem?_eq_getElem hlt) hvi).1
          have h2 : (ps.map (·.1))[i]? = (List.range len)[i]? := by rw [hidx]
          rw [List.getElem?_map, List.getElem?_eq_getElem hlt, List.getElem?_range (by rw [hlen]; rw [hp.1] at hlt; simpa using hlt)] at h2
          simp only [Option.map_some, Option.some.injEq] at h2
          have : q.1 = i := by rw [← h1, h2]
          simp [← this]
      have hvsz : ∀ v ∈ vs.toList.map (·.2), v.cells.size = P.cellsOf e := fun v hv => by
        obtain ⟨i, hi⟩ := List.getElem?_of_mem hv
        have hlt : i < es.length := by rw [l1]; exact (List.getElem?_eq_some_iff.1 hi).1
        have := (p1 i es[i] v (List.getElem?_eq_getElem hlt) hi).1
        rw [hul _ (List.getElem_mem hlt)] at this
        simpa using this.symm
      have hflat := flat_VPs l1 p1
      have hcl : ((vs.toList.map (·.2)).flatMap fun v => v.cells.toList).length = len * P.cellsOf e := by rw [← hflat.1, flat_len hul, hel]
      have hrun : (Instr.buildSlice t len vs).run P w = .ok (.slice (some ⟨w.heap.size, 0, none⟩) len len) (w.alloc (.cells ((vs.toList.map (·.2)).flatMap fun v => v.cells.toList).toArray e)) := by
        by_cases h0 : len = 0
        · have : vs = #[] := by
            apply Array.eq_empty_of_size_eq_zero; omega
          subst this
          subst h0
          have : (Array.range 0 : Array Nat) = #[] := rfl
          simp [Instr.buildSlice, run_underlying hu, sizeOf, typeInfo, hi, Instr.fill, newRow, this]
        · refine run_buildSlice w t e len vs _ it zv hu hi hzz (by rw [hsz]; omega) (by rw [hsz]; exact Nat.ne_of_gt (Nat.mul_pos (by omega) hp0)) ?_
          rw [hsz]
          conv => lhs; rw [hpairs]
          refine Great.fill_whole hp0 _ _ hvsz ?_
          simp [hlen]
      have hcapm : len ≤ maxLen := by
        have : len * 1 ≤ len * P.cellsOf e := Nat.mul_le_mul_left _ hp0
        simp only [maxLen]; omega
      exact ⟨e, hu, es, H1, S1, _, s1, e1, hrun, hflat, hel, ⟨hp0, hul⟩, hcapm, hk⟩
    · exact h.elim
  · exact h.elim
theorem good_buildSlice (s : Sim S m H B w) {ow : Bool} {t : TypeId} {len : Nat} {ps : List (Nat × AV)} {vs : Array (Nat × Value)} (hp : PartsOk S m H ps vs.toList) (h : aBuildSlice P ow t len ps H K) : Good P B S m H w (Instr.buildSlice t len vs) K := by
      obtain ⟨e, hu, es, H1, S1, cells0, s1, e1, hrun, hflat, hel, ⟨hp0, hul⟩, hcapm, hk⟩ := buildSlice_core s hp h
      have hcl : cells0.length = len * P.cellsOf e := by rw [← hflat.1, flat_len hul, hel]
      cases ow with
      | true =>
        simp only [if_true] at hk
        obtain ⟨s2, e2, hv⟩ := s1.newArr e (P.cellsOf e) len es _ hp0 hul (by omega) hcapm hcl (by rw [hel, ← hcl, List.take_length]; exact hflat)
        rw [hel] at hv
        refine ⟨_, _, hrun, S1, _, _, .c (.own H1.length es.length), s2, e1.trans e2, (Bel.refl B w).alloc s.base _, ?_, hk⟩
        rw [hel]; exact hv
      | false =>
        simp only [Bool.false_eq_true, if_false] at hk
        let cells := cells0
        let S2 : Mem := fun b o => if b = w.heap.size then cells[o]? else S1 b o
        have hin : ∀ o, S2 w.heap.size o = cells[o]? := fun o => if_pos rfl
        have hout : OldMem w.heap.size S1 S2 := fun b o hb => if_neg (by omega)
        obtain ⟨s2, e2⟩ := s1.grow (S' := S2) (w' := w.alloc (.cells cells.toArray e)) (fun k hk => heap_alloc_old w _ hk) (by simp) hout (fun b o v hb hv => by
          by_cases hbb : b = w.heap.size
          · subst hbb
            rw [hin] at hv
            rw [cell_eq (heap_alloc_new w _)]; exact hv
          · have : S2 b o = S1 b o := if_neg hbb
            rw [this, s1.newmem hb o] at hv
            cases hv)
        refine ⟨_, _, hrun, S2, _, _, .c (.p (.sl true es)), s2, e1.trans e2, (Bel.refl B w).alloc s.base _, ?_, hk⟩
        refine .sl true es w.heap.size 0 len (P.cellsOf e) len (fun k => cells.getD k undef) hel (Nat.le_refl _) hcapm (fun _ => rfl) hp0 hul (fun k x hk => ?_) (fun k x hk => ?_)
        all_goals
          have hkc : k < cells.length := by rw [← hflat.1]; exact (List.getElem?_eq_some_iff.1 hk).1
          have hg : cells[k]? = some (cells.getD k undef) := by rw [List.getD_eq_getElem?_getD, List.getElem?_eq_getElem hkc]; rfl
        · rw [Nat.zero_add, hin, hg]
        · exact (hflat.2 k x _ hk hg).mono e2.mem
end
end Go.Aw

/-
  An abstract memory for walks, part 6: cuts; lengths; append; make; tests and sums.
-/
set_option linter.unusedVariables false
set_option linter.unusedSimpArgs false
namespace Go.Aw
open Go.RowKit
section
variable {P : Program} {B : Nat} {S : Mem} {m : List Loc} {H : List AObj} {w : World} {K : AV → List AObj → Prop}

/-- A cell as it is handed on. -/
def frzA (H : List AObj) (x : AV) : Option (PV × List AObj) :=
  match x with
  | .c c => frzC H c
  | _ => none
theorem frzA_ok (s : Sim S m H B w) {x : AV} {v : Value} (hv : VA S m H x v) {y : PV} {H' : List AObj} (h : frzA H x = some (y, H')) : ∃ S', Sim S' m H' B w ∧ Ext B S m H S' m H' ∧ VP S' y v := by
  unfold frzA at h
  split at h
  · exact frzC_ok s hv h
  · cases h

/-! ### Cuts -/
def cutL {α : Type} (lo hi : Option Int) (xs : List α) : List α :=
  match lo, hi with
  | none, none => xs
  | some l, none => xs.drop l.toNat
  | none, some h => xs.take h.toNat
  | some l, some h => (xs.take h.toNat).drop l.toNat
def optI : Option AV → Option (Option Int)
  | none => some none
  | some x => (intA x).map some
def OptV (S : Mem) (m : List Loc) (H : List AObj) : Option AV → Option Value → Prop
  | none, none => True
  | some x, some v => VA S m H x v
  | _, _ => False
theorem optI_ok {x : Option AV} {v : Option Value} {n : Option Int} (hx : OptV S m H x v) (h : optI x = some n) : (n = none ∧ v = none) ∨ ∃ k i, n = some i ∧ v = some (.int k i) := by
  cases x with
  | none =>
    cases v with
    | none => simp [optI] at h; exact .inl ⟨h.symm, rfl⟩
    | some v => exact hx.elim
  | some x =>
    cases v with
    | none => exact hx.elim
    | some v =>
      simp only [optI] at h
      cases hi : intA x with
      | none => simp [hi] at h
      | some i =>
        simp [hi] at h
        obtain ⟨k, rfl⟩ := intA_ok hx hi
        exact .inr ⟨k, i, h.symm, rfl⟩
def aSlice (P : Program) (t : TypeId) (x : AV) (lo hi mx : Option AV) (H : List AObj) (K : AV → List AObj → Prop) : Prop :=
  match P.underlying t, optI lo, optI hi, optI mx with
  | some (.slice e), some l, some h, some q => match frzA H x with
    | some (.sl full xs, H1) => 0 < P.cellsOf e ∧ allLen (P.cellsOf e) xs ∧ 0 ≤ l.getD 0 ∧ l.getD 0 ≤ h.getD xs.length ∧ h.getD xs.length ≤ xs.length ∧ (q = none ∨ q = h ∧ h ≠ none) ∧
        K (.c (.p (.sl (if q = none then (if h = none then full else full && xs.isEmpty) else true) (cutL l h xs)))) H1
    | none => match x, l, h, q with
      | .c (.room id n), none, some 0, none => (∃ T size frz, H[id]? = some (.arr T size frz [])) ∧ 0 < P.cellsOf e ∧ K (.c (.own id 0)) H
      | _, _, _, _ => False
    | _ => False
  | some .string, some l, some h, some none => match x with
    | .c (.p (.str s)) => 0 ≤ l.getD 0 ∧ l.getD 0 ≤ h.getD s.size ∧ h.getD s.size ≤ s.size ∧ K (.c (.p (.str (s.extract (l.getD 0).toNat (h.getD s.size).toNat)))) H
    | _ => False
  | _, _, _, _ => False
theorem run_bound {k : IntKind} {i : Int} {y : Nat} (h0 : 0 ≤ i) (h1 : i ≤ y) (code : BoundsCode) (w : World) : (Instr.sliceBound (.int k i) y code).run P w = .ok i.toNat w := by
  have : 0 ≤ i ∧ i ≤ (y : Int) := ⟨h0, h1⟩
  simp [Instr.sliceBound, asIntOf, this]
theorem flat_cut {size : Nat} {xs : List (List PV)} (hu : ∀ e, e ∈ xs → e.length = size) (l h : Nat) : (((xs.take h).drop l).flatten) = (xs.flatten.take (h * size)).drop (l * size) := by
  rw [flat_drop l (size := size) (fun e he => hu e (List.mem_of_mem_take he)), flat_take h hu]
theorem cutL_eq {α : Type} (l h : Option Int) (xs : List α) (h1 : h.getD xs.length ≤ xs.length) : cutL l h xs = (xs.take (h.getD xs.length).toNat).drop (l.getD 0).toNat := by
  cases l <;> cases h <;> simp [cutL]
/-- The cut of what is read. -/
theorem VP.cut {S : Mem} {full full' : Bool} {xs : List (List PV)} {a : Option Addr} {n cap size : Nat} (hx : VP S (.sl full xs) (.slice a n cap)) (hu : ∀ y, y ∈ xs → y.length = size) (hs : 0 < size) (l h q : Nat) (h1 : l ≤ h) (h2 : h ≤ n) (h3 : h ≤ q) (h4 : q ≤ cap) (hf : full' = true → q = h) :
    VP S (.sl full' ((xs.take h).drop l)) (.slice (if q = l then a else a.map (·.add (l * size))) (h - l) (q - l)) := by
  cases hx with
  | nil =>
    obtain rfl : h = 0 := by omega
    obtain rfl : l = 0 := by omega
    obtain rfl : q = 0 := by omega
    simp
    exact .nil full'
  | emp _ a =>
    obtain rfl : h = 0 := by omega
    obtain rfl : l = 0 := by omega
    obtain rfl : q = 0 := by omega
    simp
    exact .emp full' a
  | sl _ _ b off cap size' n u hn hc hm hfu hs' hu' hS hv =>
    by_cases hxs : xs = []
    · subst hxs
      simp at hn
      subst hn
      obtain rfl : h = 0 := by omega
      obtain rfl : l = 0 := by omega
      have e : (if q = 0 then some (⟨b, off, none⟩ : Addr) else (some (⟨b, off, none⟩ : Addr)).map (·.add (0 * size))) = some ⟨b, off, none⟩ := by
        split
        · rfl
        · simp [addr_add]
      rw [e]
      simp only [List.take_zero, List.drop_zero, Nat.sub_zero]
      exact .sl full' [] b off q 1 0 u rfl (Nat.zero_le _) (by omega) (fun h => hf h) (by omega) (by simp) (by simp) (by simp)
    · obtain ⟨y, ys, rfl⟩ : ∃ y ys, xs = y :: ys := by cases xs with
        | nil => exact absurd rfl hxs
        | cons y ys => exact ⟨y, ys, rfl⟩
      have hsz : size' = size := by rw [← hu y (by simp), ← hu' y (by simp)]
      subst hsz
      have hlen : (((y :: ys).take h).drop l).length = h - l := by rw [List.length_drop, List.length_take]; omega
      have hmem : ∀ e, e ∈ ((y :: ys).take h).drop l → e.length = size' := fun e he => hu e (List.mem_of_mem_take (List.mem_of_mem_drop he))
      have hidx : ∀ (k : Nat) (x : PV), (((y :: ys).take h).drop l).flatten[k]? = some x → (y :: ys).flatten[l * size' + k]? = some x := fun k x hk => by
        rw [flat_cut hu', List.getElem?_drop, List.getElem?_take] at hk
        split at hk
        · exact hk
        · cases hk
      by_cases hql : q = l
      · subst hql
        have hlh : h = q := by omega
        subst hlh
        rw [if_pos rfl]
        have e : ((y :: ys).take h).drop h = [] := by
          apply List.drop_eq_nil_of_le; rw [List.length_take]; omega
        rw [e, Nat.sub_self]
        exact .sl full' [] b off 0 1 0 u rfl (Nat.zero_le _) (Nat.zero_le _) (fun _ => rfl) (by omega) (by simp) (by simp) (by simp)
      · rw [if_neg hql]
        simp only [Option.map_some, addr_add]
        exact .sl full' _ b (off + l * size') (q - l) size' (h - l) (fun k => u (l * size' + k)) hlen (by omega) (by omega) (fun hh => by rw [hf hh]) hs' hmem
          (fun k x hk => by rw [Nat.add_assoc]; exact hS _ x (hidx k x hk)) (fun k x hk => hv _ x (hidx k x hk))
theorem VP.slice_form {S : Mem} {full : Bool} {xs : List (List PV)} {v : Value} (h : VP S (.sl full xs) v) : ∃ a cap, v = .slice a xs.length cap ∧ xs.length ≤ cap ∧ cap ≤ maxLen ∧ (full = true → cap = xs.length) := by
  cases h with
  | nil => exact ⟨none, 0, rfl, Nat.le_refl _, Nat.zero_le _, fun _ => rfl⟩
  | emp _ a => exact ⟨some a, 0, rfl, Nat.le_refl _, Nat.zero_le _, fun _ => rfl⟩
  | sl _ _ b off cap size n u hn hc hm hf hs hu hS hv => subst hn; exact ⟨_, cap, rfl, hc, hm, hf⟩
theorem good_slice (s : Sim S m H B w) {t : TypeId} {x : AV} {v : Value} {lo hi mx : Option AV} {vl vh vm : Option Value} (hx : VA S m H x v) (hl : OptV S m H lo vl) (hh : OptV S m H hi vh) (hm : OptV S m H mx vm)
    (h : aSlice P t x lo hi mx H K) : Good P B S m H w (Instr.sliceAt t v vl vh vm) K := by
  unfold aSlice at h
  split at h
  · rename_i e l hq q hu h1 h2 h3
    split at h
    · rename_i full xs H1 hf
      obtain ⟨hp, hul, c1, c2, c3, c4, hk⟩ := h
      obtain ⟨S1, s1, e1, p1⟩ := frzA_ok s hx hf
      obtain ⟨a, cap, rfl, hcap, hcm, hfull⟩ := VP.slice_form p1
      have hss := run_sizeOf' hp w
      have key : ∀ (L Hh Q : Nat), (Instr.sliceBounds true xs.length cap vl vh vm).run P w = .ok (L, Hh, Q) w → L ≤ Hh → Hh ≤ xs.length → Hh ≤ Q → Q ≤ cap →
          ((if q = none then (if hq = none then full else full && xs.isEmpty) else true) = true → Q = Hh) → cutL l hq xs = (xs.take Hh).drop L → Good P B S m H w (Instr.sliceAt t (.slice a xs.length cap) vl vh vm) K := by
        intro L Hh Q hr k1 k2 k3 k4 k5 k6
        refine ⟨.slice (if Q = L then a else a.map (·.add (L * P.cellsOf e))) (Hh - L) (Q - L), w, ?_, S1, m, H1, _, s1, e1, Bel.refl B w, ?_, hk⟩
        · simp [Instr.sliceAt, Instr.slice, run_underlying hu, hr, hss]
        · show VP S1 (.sl _ (cutL l hq xs)) _
          rw [k6]
          exact VP.cut p1 hul hp L Hh Q k1 k2 k3 k4 k5
      have hcut := cutL_eq l hq xs c3
      rcases optI_ok hl h1 with ⟨rfl, rfl⟩ | ⟨kl, il, rfl, rfl⟩ <;> rcases optI_ok hh h2 with ⟨rfl, rfl⟩ | ⟨kh, ih, rfl, rfl⟩ <;> rcases optI_ok hm h3 with ⟨rfl, rfl⟩ | ⟨km, im, rfl, rfl⟩
      all_goals simp only [Option.getD_none, Option.getD_some] at c1 c2 c3
      · exact key 0 xs.length cap (by simp [Instr.sliceBounds]) (Nat.zero_le _) (Nat.le_refl _) hcap (Nat.le_refl _) (fun h => hfull (by simpa using h)) (by simp [cutL])
      · simp at c4
      · refine key 0 ih.toNat cap ?_ (Nat.zero_le _) (by omega) (by omega) (Nat.le_refl _) (fun h => by
          simp only [if_true, reduceCtorEq, if_false, Bool.and_eq_true, List.isEmpty_iff] at h
          have h7 := hfull h.1
          rw [h.2] at h7 c3
          simp at h7 c3; omega) (by simp [cutL])
        simp [Instr.sliceBounds, run_bound (P := P) (k := kh) c2 (show ih ≤ (cap : Int) by omega)]
      · have him : im = ih := by simpa using c4
        subst him
        refine key 0 im.toNat im.toNat ?_ (Nat.zero_le _) (by omega) (Nat.le_refl _) (by omega) (fun _ => rfl) (by simp [cutL])
        simp [Instr.sliceBounds, run_bound (P := P) (k := km) c2 (show im ≤ (cap : Int) by omega), run_bound (P := P) (k := kh) c2 (show im ≤ (im.toNat : Int) by omega)]
      · refine key il.toNat xs.length cap ?_ (by omega) (Nat.le_refl _) hcap (Nat.le_refl _) (fun h => hfull (by simpa using h)) (by simp [cutL])
        simp [Instr.sliceBounds, run_bound (P := P) (k := kl) c1 c2]
      · simp at c4
      · refine key il.toNat ih.toNat cap ?_ (by omega) (by omega) (by omega) (Nat.le_refl _) (fun h => by
          simp only [if_true, reduceCtorEq, if_false, Bool.and_eq_true, List.isEmpty_iff] at h
          have h7 := hfull h.1
          rw [h.2] at h7 c3
          simp at h7 c3; omega) (by simp [cutL])
        simp [Instr.sliceBounds, run_bound (P := P) (k := kh) (show 0 ≤ ih by omega) (show ih ≤ (cap : Int) by omega), run_bound (P := P) (k := kl) c1 (show il ≤ (ih.toNat : Int) by omega)]
      · have him : im = ih := by simpa using c4
        subst him
        refine key il.toNat im.toNat im.toNat ?_ (by omega) (by omega) (Nat.le_refl _) (by omega) (fun _ => rfl) (by simp [cutL])
        simp [Instr.sliceBounds, run_bound (P := P) (k := km) (show 0 ≤ im by omega) (show im ≤ (cap : Int) by omega), run_bound (P := P) (k := kh) (show 0 ≤ im by omega) (show im ≤ (im.toNat : Int) by omega), run_bound (P := P) (k := kl) c1 (show il ≤ (im.toNat : Int) by omega)]
    · split at h
      · rename_i id n hfn
        obtain ⟨⟨T, size, frz, ho⟩, hp, hk⟩ := h
        obtain ⟨T', size', frz', es', l', g1, g2, g3, g4⟩ := hx
        rw [ho] at g1; cases g1
        obtain ⟨b, cap, rfl, rfl, hnc⟩ := g3 rfl
        rcases optI_ok hl h1 with ⟨_, rfl⟩ | ⟨_, _, hc, _⟩
        rotate_left
        · cases hc
        rcases optI_ok hm h3 with ⟨_, rfl⟩ | ⟨_, _, hc, _⟩
        rotate_left
        · cases hc
        rcases optI_ok hh h2 with ⟨hc, _⟩ | ⟨kh, ih, hc, rfl⟩
        · cases hc
        cases hc
        refine Good.same s (x := .c (.own id 0)) (v := .slice (some ⟨b, 0, none⟩) 0 cap) ?_ ⟨T, size, frz, [], .at_ b cap, ho, g2, fun _ => rfl, Nat.le_refl _, rfl, rfl⟩ hk
        have e1 : (if cap = 0 then some (⟨b, 0, none⟩ : Addr) else (some (⟨b, 0, none⟩ : Addr)).map (·.add (0 * P.cellsOf e))) = some ⟨b, 0, none⟩ := by
          split
          · rfl
          · simp [addr_add]
        have hr : (Instr.sliceBounds true n cap none (some (.int kh 0)) none).run P w = .ok (0, 0, cap) w := by
          simp [Instr.sliceBounds, run_bound (P := P) (k := kh) (Int.le_refl 0) (show (0 : Int) ≤ (cap : Int) by omega)]
        have hss := run_sizeOf' hp w
        have : (Instr.sliceAt t (.slice (some ⟨b, 0, none⟩) n cap) none (some (.int kh 0)) none).run P w = .ok (.slice (if cap = 0 then some ⟨b, 0, none⟩ else (some (⟨b, 0, none⟩ : Addr)).map (·.add (0 * P.cellsOf e))) (0 - 0) (cap - 0)) w := by
          simp [Instr.sliceAt, Instr.slice, run_underlying hu, hr, hss]
        rw [this, e1, Nat.sub_zero, Nat.sub_zero]
      · exact h.elim
    · exact h.elim
  · rename_i l hq hu h1 h2 h3
    split at h
    · rename_i st
      obtain ⟨c1, c2, c3, hk⟩ := h
      cases hx
      have hm' : vm = none := by
        rcases optI_ok hm h3 with ⟨_, h⟩ | ⟨_, _, h, _⟩
        · exact h
        · cases h
      subst hm'
      refine Good.same s (x := .c (.p (.str (st.extract (l.getD 0).toNat (hq.getD st.size).toNat)))) (v := .string (st.extract (l.getD 0).toNat (hq.getD st.size).toNat)) ?_ (.str _) hk
      rcases optI_ok hl h1 with ⟨rfl, rfl⟩ | ⟨kl, il, rfl, rfl⟩ <;> rcases optI_ok hh h2 with ⟨rfl, rfl⟩ | ⟨kh, ih, rfl, rfl⟩
      all_goals simp only [Option.getD_none, Option.getD_some] at c1 c2 c3 ⊢
      · simp [Instr.sliceAt, Instr.slice, run_underlying hu, Instr.sliceBounds]
      · simp [Instr.sliceAt, Instr.slice, run_underlying hu, Instr.sliceBounds, run_bound (P := P) (k := kh) c2 c3]
      · simp [Instr.sliceAt, Instr.slice, run_underlying hu, Instr.sliceBounds, run_bound (P := P) (k := kl) c1 c2]
      · simp [Instr.sliceAt, Instr.slice, run_underlying hu, Instr.sliceBounds, run_bound (P := P) (k := kh) (show 0 ≤ ih by omega) c3, run_bound (P := P) (k := kl) c1 (show il ≤ (ih.toNat : Int) by omega)]
    · exact h.elim
  · exact h.elim

/-! ### Lengths -/
theorem own_form (s : Sim S m H B w) {id n T size frz : Nat} {es : List (List PV)} {v : Value} (ho : H[id]? = some (.arr T size frz es)) (hn : es.length = n) (hx : VC S m H (.own id n) v) : ∃ a cap, v = .slice a n cap ∧ n ≤ cap ∧ cap ≤ maxLen := by
  obtain ⟨T', size', frz', es', l, h1, h2, h3, h4, h5⟩ := hx
  rw [ho] at h1; cases h1
  have g := h3 hn
  cases l with
  | nil A =>
    obtain ⟨_, he, _⟩ := s.obj id _ _ ho h2
    have hn0 : n = 0 := by rw [← hn, he]; rfl
    have g' : v = .slice A 0 0 := g
    exact ⟨_, 0, by rw [hn0]; exact g', by omega, Nat.zero_le _⟩
  | at_ b cap =>
    obtain ⟨_, _, _, _, hc, hm, _⟩ := s.obj id _ _ ho h2
    exact ⟨_, cap, g, by omega, hm⟩
def aLen (P : Program) (t : TypeId) (x : AV) (H : List AObj) (K : AV → List AObj → Prop) : Prop :=
  match P.underlying t, x with
  | some (.slice e), .c (.p (.sl full xs)) => K (.c (.p (.int .i64 xs.length))) H
  | some (.slice e), .c (.own id n) => (∃ T size frz es, H[id]? = some (.arr T size frz es) ∧ es.length = n) ∧ K (.c (.p (.int .i64 n))) H
  | some (.slice e), .c (.tl id k n xs) => K (.c (.p (.int .i64 xs.length))) H
  | some .string, .c (.p (.str s)) => K (.c (.p (.int .i64 s.size))) H
  | _, _ => False
theorem good_len (s : Sim S m H B w) {t ty : TypeId} {x : AV} {v : Value} (hx : VA S m H x v) (h : aLen P t x H K) : Good P B S m H w (Builtin.len_ #[t] ty #[v]) K := by
  unfold aLen at h
  split at h
  · rename_i e full xs hu
    obtain ⟨a, cap, rfl, _⟩ := VP.slice_form (show VP S (.sl full xs) v from hx)
    exact Good.same s (x := .c (.p (.int .i64 xs.length))) (v := .int .i64 xs.length) (by simp [Builtin.len_, run_underlying hu, goInt]) (.int _ _) h
  · rename_i e id n hu
    obtain ⟨⟨T, size, frz, es, ho, hn⟩, h⟩ := h
    obtain ⟨a, cap, rfl, _⟩ := own_form s ho hn hx
    exact Good.same s (x := .c (.p (.int .i64 n))) (v := .int .i64 n) (by simp [Builtin.len_, run_underlying hu, goInt]) (.int _ _) h
  · rename_i e id k n xs hu
    obtain ⟨_, _, _, _, _, _, _, _, _, hx⟩ := hx
    obtain ⟨a, cap, rfl, _⟩ := VP.slice_form (show VP S (.sl false xs) v from hx)
    exact Good.same s (x := .c (.p (.int .i64 xs.length))) (v := .int .i64 xs.length) (by simp [Builtin.len_, run_underlying hu, goInt]) (.int _ _) h
  · rename_i st hu
    cases hx
    exact Good.same s (x := .c (.p (.int .i64 st.size))) (v := .int .i64 st.size) (by simp [Builtin.len_, run_underlying hu, goInt]) (.int _ _) h
  · exact h.elim

def aCap (P : Program) (t : TypeId) (x : AV) (H : List AObj) (K : AV → List AObj → Prop) : Prop :=
  match P.underlying t, x with
  | some (.slice e), .c (.p (.sl true xs)) => K (.c (.p (.int .i64 xs.length))) H
  | some (.slice e), .c (.p (.sl false xs)) => ∀ c : Int, (xs.length : Int) ≤ c → c ≤ 9223372036854775807 → K (.c (.p (.int .i64 c))) H
  | some (.slice e), .c (.own id n) => (∃ T size frz es, H[id]? = some (.arr T size frz es) ∧ es.length = n) ∧ ∀ c : Int, (n : Int) ≤ c → c ≤ 9223372036854775807 → K (.c (.p (.int .i64 c))) H
  | _, _ => False
theorem good_cap (s : Sim S m H B w) {t ty : TypeId} {x : AV} {v : Value} (hx : VA S m H x v) (h : aCap P t x H K) : Good P B S m H w (Builtin.cap_ #[t] ty #[v]) K := by
  unfold aCap at h
  split at h
  · rename_i e xs hu
    obtain ⟨a, cap, rfl, _, _, hf⟩ := VP.slice_form (show VP S (.sl true xs) v from hx)
    rw [← hf rfl] at h
    exact Good.same s (x := .c (.p (.int .i64 cap))) (v := .int .i64 cap) (by simp [Builtin.cap_, run_underlying hu, goInt]) (.int _ _) h
  · rename_i e xs hu
    obtain ⟨a, cap, rfl, hc, hm, _⟩ := VP.slice_form (show VP S (.sl false xs) v from hx)
    simp only [maxLen] at hm
    exact Good.same s (x := .c (.p (.int .i64 cap))) (v := .int .i64 cap) (by simp [Builtin.cap_, run_underlying hu, goInt]) (.int _ _) (h _ (by omega) (by omega))
  · rename_i e id n hu
    obtain ⟨⟨T, size, frz, es, ho, hn⟩, h⟩ := h
    obtain ⟨a, cap, rfl, hc, hm⟩ := own_form s ho hn hx
    simp only [maxLen] at hm
    exact Good.same s (x := .c (.p (.int .i64 cap))) (v := .int .i64 cap) (by simp [Builtin.cap_, run_underlying hu, goInt]) (.int _ _) (h _ (by omega) (by omega))
  · exact h.elim

/-! ### Append -/
theorem run_append_zero {t u ty e : TypeId} (ht : P.underlying t = some (.slice e)) (hu : P.underlying u = some (.slice e)) (hp : 0 < P.cellsOf e) (w : World) (a x : Option Addr) (n cap c : Nat) (hn : n ≤ cap) :
    (Builtin.append_ #[t, u] ty #[.slice a n cap, .slice x 0 c]).run P w = .ok (.slice a n cap) w := by
  have hss := run_sizeOf' hp w
  cases x <;> cases a <;> simp [Builtin.append_, run_underlying ht, run_underlying hu, hss, Builtin.lenOf, Builtin.firstCells, hn, storeCells, loadCells, loadCellsFrom]
/-- The size of a type's zero value. -/
def zeroOk (P : Program) (e : TypeId) : Prop := ∃ z zc, zeroA P e = some z ∧ cellsA z = some zc ∧ zc.length = P.cellsOf e
theorem zeroOk.info {e : TypeId} (h : zeroOk P e) (hp : 0 < P.cellsOf e) : ∃ i z, P.info? e = some i ∧ i.zero = some z ∧ i.size = P.cellsOf e ∧ i.bytes = P.bytesOf e ∧ z.cells.size = P.cellsOf e := by
  obtain ⟨z, zc, h1, h2, h3⟩ := h
  obtain ⟨i, hi, hs, hb⟩ := info_of_cells hp
  unfold zeroA at h1
  cases hz : i.zero with
  | none => simp [hi, hz] at h1
  | some zv =>
    simp [hi, hz] at h1; subst h1
    have := (cellsA_ok (absA_ok (fun _ _ => none) [] [] zv) h2).1
    exact ⟨i, zv, hi, hz, hs, hb, by simp at this; omega⟩
/-- It grows: a new block. -/
theorem run_append_new {t ty e : TypeId} (ht : P.underlying t = some (.slice e)) (hp : 0 < P.cellsOf e) (hz : zeroOk P e) (w : World) (a : Option Addr) (n cap : Nat) (olds : List Value) (hlo : olds.length = n * P.cellsOf e)
    (ho : ∀ (j : Nat) v, olds[j]? = some v → ∃ b, a = some b ∧ w.cell? (b.add j) = some v) (x : Addr) (k c : Nat) (news : List Value) (hl : news.length = k * P.cellsOf e) (hnews : ∀ (j : Nat) v, news[j]? = some v → w.cell? (x.add j) = some v)
    (hnil : a = none → n = 0 ∧ cap = 0) (hg : cap < n + k) (hb : (n + k) * P.bytesOf e ≤ 140737488355328) (h63 : n + k ≤ maxLen) :
    ∃ cap' rest, (Builtin.append_ #[t, t] ty #[.slice a n cap, .slice (some x) k c]).run P w = .ok (.slice (some ⟨w.heap.size, 0, none⟩) (n + k) cap') (w.drew.alloc (.cells (olds ++ news ++ rest).toArray e)) ∧
      n + k ≤ cap' ∧ cap' ≤ maxLen ∧ rest.length = (cap' - (n + k)) * P.cellsOf e := by
  obtain ⟨i, z, hi, hzz, hsz, hby, hzs⟩ := hz.info hp
  have h63' : n + k ≤ 9223372036854775807 := by simp only [maxLen] at h63; omega
  cases a with
  | none =>
    obtain ⟨rfl, rfl⟩ := hnil rfl
    have he : olds = [] := List.eq_nil_of_length_eq_zero (by simpa using hlo)
    subst he
    refine ⟨grownCap w k 0 e, (Builtin.zeroCells z.cells (grownCap w k 0 e - k)).toList, ?_, by have := grownCap_ge w k 0 e; omega, grownCap_le_maxLen w k 0 e (by omega), ?_⟩
    · have := run_append_nil (P := P) w t ty e i z ht hi hzz x k c news (by rw [hl, hsz]) hnews (by omega) (by omega) (by rw [hby]; simp only [Nat.zero_add] at hb; omega)
      have e0 : ∀ Z : Array Value, ([] ++ news ++ Z.toList).toArray = news.toArray ++ Z := fun Z => by apply Array.ext'; simp
      rw [e0, Nat.zero_add, this]
    · rw [Array.length_toList, size_zeroCells, hzs, Nat.zero_add]
  | some b =>
    refine ⟨grownCap w (n + k) cap e, (Builtin.zeroCells z.cells (grownCap w (n + k) cap e - (n + k))).toList, ?_, grownCap_ge w (n + k) cap e, grownCap_le_maxLen w (n + k) cap e h63, ?_⟩
    · have := run_append_grow (P := P) w t ty e i z ht hi hzz b n cap olds (by rw [hlo, hsz]) (fun j v hj => by
        obtain ⟨b', hb', hc⟩ := ho j v hj
        cases hb'; exact hc) x k c news (by rw [hl, hsz]) hnews hg (by omega) (growslice_fits hg (by rw [hby]; exact hb))
      have e0 : ∀ Z : Array Value, (olds ++ news ++ Z.toList).toArray = olds.toArray ++ news.toArray ++ Z := fun Z => by apply Array.ext'; simp
      rw [e0, this]
    · rw [Array.length_toList, size_zeroCells, hzs]

/-- The append's result, its source being frozen. 'pure': in a region that draws its order the result is frozen, too. -/
def aAppend (P : Program) (pure : Bool) (t u : TypeId) (x y : AV) (H : List AObj) (K : AV → List AObj → Prop) : Prop :=
  match P.underlying t, frzA H y with
  | some (.slice e), some (.sl _ ys, H1) => u = t ∧ 0 < P.cellsOf e ∧ zeroOk P e ∧ allLen (P.cellsOf e) ys ∧
    match x with
    | .c (.own id n) => pure = false ∧ match H1[id]? with
      | some (.arr T size frz es) => es.length = n ∧ T = e ∧ size = P.cellsOf e ∧ (n + ys.length) * P.bytesOf e ≤ 140737488355328 ∧ n + ys.length ≤ 9223372036854775807 ∧ K (.c (.own id (n + ys.length))) (H1.set id (.arr T size frz (es ++ ys)))
      | _ => False
    | .c (.p (.sl true xs)) => allLen (P.cellsOf e) xs ∧ (xs.length + ys.length) * P.bytesOf e ≤ 140737488355328 ∧ xs.length + ys.length ≤ 9223372036854775807 ∧
      if pure then K (.c (.p (.sl false (xs ++ ys)))) H1 else (ys ≠ [] ∨ xs = []) ∧ K (.c (.own H1.length (xs.length + ys.length))) (H1 ++ [.arr e (P.cellsOf e) 0 (xs ++ ys)])
    | _ => False
  | _, _ => False

/-- What is read, as a list of values. -/
theorem VP.reads {S : Mem} {full : Bool} {xs : List (List PV)} {a : Option Addr} {n cap size : Nat} (hx : VP S (.sl full xs) (.slice a n cap)) (hu : ∀ y, y ∈ xs → y.length = size) :
    ∃ vs : List Value, VPs S xs.flatten vs ∧ vs.length = n * size ∧ ∀ (j : Nat) v, vs[j]? = some v → ∃ b o, a = some ⟨b, o, none⟩ ∧ S b (o + j) = some v := by
  cases hx with
  | nil => exact ⟨[], VPs.nil S, by simp, fun j v h => by simp at h⟩
  | emp => exact ⟨[], VPs.nil S, by simp, fun j v h => by simp at h⟩
  | sl _ _ b off cap size' n u hn hc hm hfu hs' hu' hS hv =>
    have hl : xs.flatten.length = n * size := by rw [flat_len hu, hn]
    refine ⟨(List.range (n * size)).map u, ⟨by simp [hl], fun i x v h1 h2 => ?_⟩, by simp, fun j v h => ⟨b, off, rfl, ?_⟩⟩
    · have hi : i < n * size := by rw [← hl]; exact (List.getElem?_eq_some_iff.1 h1).1
      rw [List.getElem?_map, List.getElem?_range hi] at h2
      simp at h2; subst h2
      exact hv i x h1
    · have hj : j < n * size := by have := (List.getElem?_eq_some_iff.1 h).1; simpa using this
      rw [List.getElem?_map, List.getElem?_range hj] at h
      simp at h; subst h
      exact hS j _ (List.getElem?_eq_getElem (by rw [hl]; exact hj))
theorem VPs.append {S : Mem} {xs ys : List PV} {us vs : List Value} (h : VPs S xs us) (k : VPs S ys vs) : VPs S (xs ++ ys) (us ++ vs) := by
  refine ⟨by simp [h.1, k.1], fun i x v hx hv => ?_⟩
  by_cases hi : i < xs.length
  · rw [List.getElem?_append_left hi] at hx
    rw [List.getElem?_append_left (by rw [← h.1]; exact hi)] at hv
    exact h.2 i x v hx hv
  · rw [List.getElem?_append_right (by omega)] at hx
    rw [List.getElem?_append_right (by rw [← h.1]; omega), ← h.1] at hv
    exact k.2 _ x v hx hv
theorem below_new {B : Nat} {w : World} (hB : B ≤ w.heap.size) (o : Obj) : Bel B w (w.drew.alloc o) := ((Bel.refl B w).drew).alloc hB o
end
end Go.Aw

/-
  An abstract memory for walks, part 7: append and make.
-/
set_option linter.unusedVariables false
set_option linter.unusedSimpArgs false
namespace Go.Aw
open Go.RowKit
section
variable {P : Program} {B : Nat} {S : Mem} {m : List Loc} {H : List AObj} {w : World} {K : AV → List AObj → Prop}

/-- Appending in a block's room, whatever is marked behind its end. -/
theorem run_append_fz (w : World) (t ty e : TypeId) (i : TypeInfo) (ht : P.underlying t = some (.slice e)) (hi : P.info? e = some i)
    (g sLen sCap : Nat) (cur : Array Value) (fz : Nat × Nat) (hg : w.heap[g]? = some (.cells cur e fz)) (hz : okFz cur.size fz)
    (a : Addr) (m c : Nat) (news : List Value) (hl : news.length = m * i.size) (hnews : ∀ j u, news[j]? = some u → w.cell? (a.add j) = some u) (h1 : ∀ u ∈ news, u.oneCell' = true)
    (hroom : sLen + m ≤ sCap) (hfit : sLen * i.size + news.length ≤ cur.size) :
    (Builtin.append_ #[t, t] ty #[.slice (some ⟨g, 0, none⟩) sLen sCap, .slice (some a) m c]).run P w =
      .ok (.slice (some ⟨g, 0, none⟩) (sLen + m) sCap) (w.setRow g (cur.toList.take (sLen * i.size) ++ news ++ cur.toList.drop (sLen * i.size + news.length)).toArray) := by
  have hf := run_firstCells_some (P := P) w i.size m a m c news hl hnews
  have hst := run_storeCells_fz (P := P) g (sLen * i.size) e fz news 0 cur w hg hz (by simpa using hfit) h1
  simp only [Nat.add_zero] at hst
  simp [Builtin.append_, run_underlying ht, sizeOf, typeInfo, hi, Builtin.lenOf, hroom, hf, Addr.add_lit, hst]
/-- An array object that lies nowhere yet: no element, no room. -/
theorem Sim.newNil (s : Sim S m H B w) (T size : Nat) (hs : 0 < size) (A : Option Addr) :
    Sim S (m ++ [.nil A]) (H ++ [.arr T size 0 []]) B w ∧ Ext B S m H S (m ++ [.nil A]) (H ++ [.arr T size 0 []]) ∧ VC S (m ++ [.nil A]) (H ++ [.arr T size 0 []]) (.own H.length 0) (.slice A 0 0) := by
  refine ⟨s.push _ _ ⟨hs, rfl, rfl⟩ (fun b c h => by cases h), Ext.push B S m H s.len _ _, T, size, 0, [], .nil A, by simp, by rw [← s.len]; simp, fun _ => rfl, Nat.le_refl _, rfl, rfl⟩
theorem VP.empty_form {S : Mem} {full : Bool} {v : Value} (h : VP S (.sl full []) v) (hf : full = true) : ∃ A : Option Addr, v = .slice A 0 0 := by
  cases h with
  | nil => exact ⟨none, rfl⟩
  | emp _ a => exact ⟨some a, rfl⟩
  | sl _ _ b off cap size n u hn hc hm hfu hs hu hS hv =>
    have h1 := hfu hf
    simp at hn
    subst hn
    rw [h1]
    exact ⟨some ⟨b, off, none⟩, rfl⟩

theorem good_append (s : Sim S m H B w) {pure : Bool} {t u ty : TypeId} {x y : AV} {vx vy : Value} (hx : VA S m H x vx) (hy : VA S m H y vy) (h : aAppend P pure t u x y H K) : Good P B S m H w (Builtin.append_ #[t, u] ty #[vx, vy]) K := by
  unfold aAppend at h
  split at h
  · rename_i e fy ys H1 hu hf
    obtain ⟨rfl, hp, hz, hyl, h⟩ := h
    obtain ⟨S1, s1, e1, p1⟩ := frzA_ok s hy hf
    obtain ⟨ay, cy, rfl, _⟩ := VP.slice_form p1
    obtain ⟨vys, q1, q2, q3⟩ := VP.reads p1 hyl
    have hnews : ∀ (a : Addr), ay = some a → ∀ (j : Nat) v, vys[j]? = some v → w.cell? (a.add j) = some v := fun a ha j v hj => by
      obtain ⟨b, o, hb, hS⟩ := q3 j v hj
      rw [ha] at hb; cases hb
      rw [addr_add]; exact s1.mem _ _ _ hS
    have hx1 := hx.ext e1
    split at h
    · -- an array of ours
      rename_i id n
      obtain ⟨rfl, h⟩ := h
      split at h
      · rename_i T size frz es ho
        obtain ⟨hn, rfl, rfl, hb, h63, hk⟩ := h
        obtain ⟨av, cav, hav, hcv, _⟩ := own_form s1 ho hn hx1
        obtain ⟨T', size', frz', es', l, h1, h2, h3, h4, h5⟩ := hx1
        rw [ho] at h1; cases h1
        have h3 := h3 hn
        have hO := s1.obj id _ _ ho h2
        have hmset : ∀ l0, m[id]? = some l0 → m.set id l0 = m := fun l0 hl0 => by
          apply List.ext_getElem?
          intro j
          by_cases hj : id = j
          · subst hj; rw [List.getElem?_set_self (List.getElem?_eq_some_iff.1 hl0).1, hl0]
          · rw [getElem?_set_ne _ _ _ _ hj]
        by_cases hys : ys = []
        · subst hys
          subst hav
          simp only [List.length_nil, Nat.add_zero, List.append_nil] at hk ⊢
          have hset : H1.set id (.arr T (P.cellsOf T) frz es) = H1 := by
            apply List.ext_getElem?
            intro j
            by_cases hj : id = j
            · subst hj; rw [List.getElem?_set_self (List.getElem?_eq_some_iff.1 ho).1, ho]
            · rw [getElem?_set_ne _ _ _ _ hj]
          rw [hset] at hk
          exact ⟨_, w, run_append_zero hu hu hp w av ay n cav cy hcv, S1, m, H1, .c (.own id n), s1, e1, Bel.refl B w, VA.ext e1 hx, hk⟩
        · have hypos : 0 < ys.length := by cases ys with
            | nil => exact absurd rfl hys
            | cons _ _ => simp
          obtain ⟨a, rfl⟩ : ∃ a, ay = some a := by
            cases ay with
            | some a => exact ⟨a, rfl⟩
            | none =>
              have hpos : 0 < vys.length := by rw [q2]; exact Nat.mul_pos hypos hp
              obtain ⟨b, o, hb, _⟩ := q3 0 _ (List.getElem?_eq_getElem hpos)
              cases hb
          have hnw := hnews a rfl
          have hmax : n + ys.length ≤ maxLen := by simp only [maxLen]; omega
          -- growing: to a new block
          have grow : ∀ (av : Option Addr) (cap : Nat) (olds : List Value), vx = .slice av n cap → olds.length = n * P.cellsOf T → (∀ (j : Nat) v, olds[j]? = some v → ∃ b, av = some b ∧ w.cell? (b.add j) = some v) → (av = none → n = 0 ∧ cap = 0) → cap < n + ys.length →
              VPs S1 es.flatten olds → (∀ q, q ∈ es → q.length = P.cellsOf T) → frz ≤ es.length → Good P B S m H w (Builtin.append_ #[u, u] ty #[vx, .slice (some a) ys.length cy]) K := by
            intro av cap olds hvx hlo hol hnil hcap hpo hul hfz
            subst hvx
            obtain ⟨cap', rest, hr, c1, c2, c3⟩ := run_append_new (ty := ty) hu hp hz w av n cap olds hlo hol a ys.length cy vys q2 hnw hnil hcap hb hmax
            have hcur : ((olds ++ vys ++ rest).take ((es ++ ys).length * P.cellsOf T)) = olds ++ vys := by
              apply List.take_left'
              rw [List.length_append, hlo, q2, List.length_append, hn, Nat.add_mul]
            have hul' : ∀ q, q ∈ es ++ ys → q.length = P.cellsOf T := fun q hq => by
              rcases List.mem_append.1 hq with h | h
              · exact hul q h
              · exact hyl q h
            obtain ⟨s2, e2⟩ := s1.setArr (es' := es ++ ys) (l' := .at_ w.heap.size cap') ho h2 (w' := w.drew.alloc (.cells (olds ++ vys ++ rest).toArray T)) (fun b o v hS => cell_keep (fun k hk => heap_alloc_old w.drew _ hk) (s1.mem b o v hS)) (by simp) (fun k hk _ => heap_alloc_old w.drew _ hk) (by simp)
              (fun h => by rw [List.length_append] at h; omega) (fun b c h => by cases h; exact .inr (Nat.le_refl _))
              ⟨hp, hul', by rw [List.length_append]; omega, s1.base, by rw [List.length_append, hn]; exact c1, c2, (fun o v (hS : S1 w.heap.size o = some v) => by rw [s1.newmem (Nat.le_refl _) o] at hS; cases hS), olds ++ vys ++ rest, ⟨(0, 0), heap_alloc_new w.drew _, .inl rfl⟩, by
                rw [List.length_append, List.length_append, hlo, q2, c3, ← Nat.add_mul, ← Nat.add_mul]; congr 1; omega, by
                rw [hcur, List.flatten_append]; exact VPs.append hpo q1⟩
            refine ⟨_, _, hr, S1, _, _, .c (.own id (n + ys.length)), s2, e1.trans e2, below_new s.base _, ?_, hk⟩
            refine ⟨T, P.cellsOf T, frz, es ++ ys, .at_ w.heap.size cap', by simp [(List.getElem?_eq_some_iff.1 ho).1], by simp [(List.getElem?_eq_some_iff.1 h2).1], fun _ => rfl, by rw [List.length_append, hn]; exact Nat.le_refl _, rfl, rfl⟩
          cases l with
          | nil A =>
            obtain ⟨_, he, hfz⟩ := hO
            have hn0 : n = 0 := by rw [← hn, he]; rfl
            have h3' : vx = .slice A 0 0 := h3
            exact grow _ 0 [] (by rw [hn0]; exact h3') (by simp [hn0]) (by simp) (fun _ => ⟨hn0, rfl⟩) (by omega) (by rw [he]; exact VPs.nil S1) (by rw [he]; simp) (by omega)
          | at_ b cap =>
            obtain ⟨_, hul, hfz, hB, hc, hm, hS, cur, ⟨fz, hh, hz2⟩, hl, hpp⟩ := hO
            subst h3
            have hcl : (cur.take (es.length * P.cellsOf T)).length = es.length * P.cellsOf T := by rw [← hpp.1, flat_len hul]
            by_cases hroom : n + ys.length ≤ cap
            · obtain ⟨it, zt, hit, _, hisz, _⟩ := hz.info hp
              have hle : (n + ys.length) * P.cellsOf T ≤ cap * P.cellsOf T := Nat.mul_le_mul_right _ hroom
              have hr := run_append_fz (P := P) w u ty T it hu hit b n cap cur.toArray fz hh (by simpa using hz2) a ys.length cy vys (by rw [q2, hisz]) hnw q1.one hroom (by rw [hisz, q2, ← Nat.add_mul]; simpa [hl] using hle)
              simp only [hisz] at hr
              let cur' := cur.take (n * P.cellsOf T) ++ vys ++ cur.drop (n * P.cellsOf T + vys.length)
              have hcur'l : cur'.length = cap * P.cellsOf T := by
                show (cur.take (n * P.cellsOf T) ++ vys ++ cur.drop (n * P.cellsOf T + vys.length)).length = _
                rw [List.length_append, List.length_append, List.length_take, List.length_drop, q2, hl]
                rw [Nat.add_mul] at hle
                omega
              have hn' : es.length * P.cellsOf T = n * P.cellsOf T := by rw [hn]
              have htake : cur'.take ((es ++ ys).length * P.cellsOf T) = cur.take (n * P.cellsOf T) ++ vys := by
                apply List.take_left'
                rw [List.length_append, ← hn', hcl, q2, List.length_append, Nat.add_mul]
              have hul' : ∀ q, q ∈ es ++ ys → q.length = P.cellsOf T := fun q hq => by
                rcases List.mem_append.1 hq with h | h
                · exact hul q h
                · exact hyl q h
              have hmem : ∀ b' o v, S1 b' o = some v → (w.setRow b cur'.toArray).cell? ⟨b', o, none⟩ = some v := by
                intro b' o v hS'
                by_cases hb' : b' = b
                · subst hb'
                  have hlt := hS o v hS'
                  have hold := s1.mem b' o v hS'
                  rw [cell_eq hh] at hold
                  rw [cell_eq (setRow_heap w b' cur.toArray _ T fz hh)]
                  have hfm := Nat.mul_le_mul_right (P.cellsOf T) hfz
                  show (cur.take (n * P.cellsOf T) ++ vys ++ cur.drop (n * P.cellsOf T + vys.length))[o]? = some v
                  rw [List.append_assoc, List.getElem?_append_left (by rw [← hn', hcl]; omega), List.getElem?_take, if_pos (by omega)]
                  exact hold
                · have := s1.mem b' o v hS'
                  simp only [World.cell?] at this ⊢
                  rw [setRow_other w b b' _ hb']
                  exact this
              obtain ⟨s2, e2⟩ := s1.setArr (es' := es ++ ys) (l' := .at_ b cap) ho h2 (w' := w.setRow b cur'.toArray) hmem (by simp [World.setRow]) (fun k hk hne => setRow_other w b k _ (hne b cap rfl)) (by simp) (fun _ => rfl) (fun b' c h => .inl ⟨cap, by cases h; rfl⟩)
                ⟨hp, hul', by rw [List.length_append]; omega, hB, by rw [List.length_append, hn]; exact hroom, hm, hS, cur', ⟨fz, setRow_heap w b cur.toArray _ T fz hh, by rw [hcur'l, ← hl]; exact hz2⟩, hcur'l, by
                  rw [htake, List.flatten_append, ← hn']; exact VPs.append hpp q1⟩
              rw [hmset _ h2] at s2 e2
              refine ⟨_, _, hr, S1, m, _, .c (.own id (n + ys.length)), s2, e1.trans e2, below_setRow _ hB, ?_, hk⟩
              exact ⟨T, P.cellsOf T, frz, es ++ ys, .at_ b cap, by simp [(List.getElem?_eq_some_iff.1 ho).1], h2, fun _ => rfl, by rw [List.length_append, hn]; exact Nat.le_refl _, rfl, rfl⟩
            · refine grow (some ⟨b, 0, none⟩) cap (cur.take (es.length * P.cellsOf T)) rfl (by rw [hcl, hn]) (fun j v hj => ⟨_, rfl, ?_⟩) (fun h => by cases h) (by omega) hpp hul hfz
              rw [addr_add, Nat.zero_add, cell_eq hh]
              rw [List.getElem?_take] at hj
              split at hj
              · exact hj
              · cases hj
      · exact h.elim
    · -- a list with nothing behind it
      rename_i xs
      obtain ⟨hxl, hb, h63, h⟩ := h
      have hx1' : VP S1 (.sl true xs) vx := hx1
      obtain ⟨ax, cx, rfl, hcx, hcm, hfull⟩ := VP.slice_form hx1'
      have hcx' := hfull rfl
      subst hcx'
      have hmax : xs.length + ys.length ≤ maxLen := by simp only [maxLen]; omega
      by_cases hys : ys = []
      · subst hys
        have hr := run_append_zero (ty := ty) hu hu hp w ax ay xs.length xs.length cy (Nat.le_refl _)
        cases pure with
        | true =>
          simp only [if_true, List.append_nil] at h
          refine ⟨_, w, hr, S1, m, H1, .c (.p (.sl false xs)), s1, e1, Bel.refl B w, ?_, h⟩
          show VP S1 (.sl false xs) _
          cases hx1' with
          | nil => exact .nil false
          | emp _ a => exact .emp false a
          | sl _ _ b off cap size n u' hn hc hm hfu hs hu' hS hv => exact .sl false xs b off _ size _ u' rfl (Nat.le_refl _) hm (fun h => by cases h) hs hu' hS hv
        | false =>
          simp only [Bool.false_eq_true, if_false] at h
          obtain ⟨hor, h⟩ := h
          have hx0 : xs = [] := by
            rcases hor with h | h
            · exact absurd rfl h
            · exact h
          subst hx0
          obtain ⟨A, hA⟩ := VP.empty_form hx1' rfl
          obtain ⟨s2, e2, hv⟩ := s1.newNil e (P.cellsOf e) hp A
          refine ⟨_, w, hr, S1, _, _, .c (.own H1.length 0), s2, e1.trans e2, Bel.refl B w, ?_, h⟩
          have hA' : (Value.slice ax 0 0) = .slice A 0 0 := hA
          rw [← hA'] at hv; exact hv
      · have hypos : 0 < ys.length := by cases ys with
          | nil => exact absurd rfl hys
          | cons _ _ => simp
        obtain ⟨a, rfl⟩ : ∃ a, ay = some a := by
          cases ay with
          | some a => exact ⟨a, rfl⟩
          | none =>
            have hpos : 0 < vys.length := by rw [q2]; exact Nat.mul_pos hypos hp
            obtain ⟨b, o, hb, _⟩ := q3 0 _ (List.getElem?_eq_getElem hpos)
            cases hb
        have hnw := hnews a rfl
        obtain ⟨olds, o1, o2, o3⟩ := VP.reads hx1' hxl
        obtain ⟨cap', rest, hr, c1, c2, c3⟩ := run_append_new (ty := ty) hu hp hz w ax xs.length xs.length olds o2 (fun j v hj => by
          obtain ⟨b, o, hb, hS⟩ := o3 j v hj
          exact ⟨_, hb, by rw [addr_add]; exact s1.mem _ _ _ hS⟩) a ys.length cy vys q2 hnw (fun h => by
          subst h
          cases hx1' with
          | nil => exact ⟨rfl, rfl⟩) (by omega) hb hmax
        have hul : ∀ q, q ∈ xs ++ ys → q.length = P.cellsOf e := fun q hq => by
          rcases List.mem_append.1 hq with h | h
          · exact hxl q h
          · exact hyl q h
        have hcl : (olds ++ vys ++ rest).length = cap' * P.cellsOf e := by
          rw [List.length_append, List.length_append, o2, q2, c3, ← Nat.add_mul, ← Nat.add_mul]; congr 1; omega
        have htk : (olds ++ vys ++ rest).take ((xs ++ ys).length * P.cellsOf e) = olds ++ vys := by
          apply List.take_left'
          rw [List.length_append, o2, q2, List.length_append, Nat.add_mul]
        have hpp : VPs S1 (xs ++ ys).flatten (olds ++ vys) := by rw [List.flatten_append]; exact VPs.append o1 q1
        have s1d : Sim S1 m H1 B w.drew := s1.drew
        cases pure with
        | false =>
          simp only [Bool.false_eq_true, if_false] at h
          obtain ⟨_, h⟩ := h
          obtain ⟨s2, e2, hv⟩ := s1d.newArr e (P.cellsOf e) cap' (xs ++ ys) (olds ++ vys ++ rest) hp hul (by rw [List.length_append]; exact c1) c2 hcl (by rw [htk]; exact hpp)
          refine ⟨_, _, hr, S1, _, _, .c (.own H1.length (xs.length + ys.length)), s2, e1.trans e2, below_new s.base _, ?_, h⟩
          rw [← List.length_append]; exact hv
        | true =>
          simp only [if_true] at h
          let cells := olds ++ vys ++ rest
          let S2 : Mem := fun b o => if b = w.heap.size then cells[o]? else S1 b o
          have hin : ∀ o, S2 w.heap.size o = cells[o]? := fun o => if_pos rfl
          have hout : OldMem w.heap.size S1 S2 := fun b o hb => if_neg (by omega)
          obtain ⟨s2, e2⟩ := s1d.grow (S' := S2) (w' := w.drew.alloc (.cells cells.toArray e)) (fun k hk => heap_alloc_old w.drew _ hk) (by simp) hout (fun b o v hb hv => by
            by_cases hbb : b = w.heap.size
            · subst hbb
              rw [hin] at hv
              rw [cell_eq (show (w.drew.alloc (.cells cells.toArray e)).heap[w.heap.size]? = _ from heap_alloc_new w.drew _)]; exact hv
            · have : S2 b o = S1 b o := if_neg hbb
              rw [this, s1d.newmem hb o] at hv
              cases hv)
          refine ⟨_, _, hr, S2, _, _, .c (.p (.sl false (xs ++ ys))), s2, e1.trans e2, below_new s.base _, ?_, h⟩
          refine .sl false (xs ++ ys) w.heap.size 0 cap' (P.cellsOf e) (xs.length + ys.length) (fun k => cells.getD k undef) (by simp) c1 c2 (fun h => by cases h) hp hul (fun k x hk => ?_) (fun k x hk => ?_)
          all_goals
            have hkc : k < (olds ++ vys).length := by rw [← hpp.1]; exact (List.getElem?_eq_some_iff.1 hk).1
            have hg0 : cells[k]? = (olds ++ vys)[k]? := by
              show (olds ++ vys ++ rest)[k]? = _
              rw [List.getElem?_append_left hkc]
            have hg : cells[k]? = some (cells.getD k undef) := by rw [List.getD_eq_getElem?_getD, hg0, List.getElem?_eq_getElem hkc]; rfl
          · rw [Nat.zero_add, hin, hg]
          · exact (hpp.2 k x _ hk (by rw [← hg0]; exact hg)).mono e2.mem
    · exact h.elim
  · exact h.elim
/-- 'append(nil, make(..)...)': room alone counts. -/
def aGrow (P : Program) (t : TypeId) (x y : AV) (H : List AObj) (K : AV → List AObj → Prop) : Prop :=
  match P.underlying t, x, y with
  | some (.slice e), .c (.p (.sl true [])), .c (.p (.int _ n)) => 0 < n ∧ n ≤ 9223372036854775807 ∧ n * P.bytesOf e ≤ 140737488355328 ∧ 0 < P.cellsOf e ∧ zeroOk P e ∧ K (.c (.room H.length n.toNat)) (H ++ [.arr e (P.cellsOf e) 0 []])
  | _, _, _ => False
theorem run_append_zeros {P : Program} (w : World) (t tn ty e : TypeId) (i : TypeInfo) (z : Value) (k kn : IntKind) (ht : P.underlying t = some (.slice e)) (htn : P.underlying tn = some (.int kn)) (hi : P.info? e = some i) (hz : i.zero = some z)
    (A : Option Addr) (n : Nat) (h0 : 0 < n) (hs : 0 < i.size) (h63 : (n : Int) ≤ 9223372036854775807) (h48 : n * i.bytes ≤ 281474976710656) :
    (Builtin.append_ #[t, tn] ty #[.slice A 0 0, .int k n]).run P w =
      .ok (.slice (some ⟨w.heap.size, 0, none⟩) n (grownCap w n 0 e)) (w.drew.alloc (.cells (Builtin.zeroCells z.cells n ++ Builtin.zeroCells z.cells (grownCap w n 0 e - n)) e)) := by
  have hn : n ≠ 0 := by omega
  have hw : IntKind.i64.wrap (n : Int) = n := by rw [IntKind.wrap_i64]; omega
  have h63' : ¬ (9223372036854775807 < (n : Int)) := by omega
  have h48' : ¬ (281474976710656 < Builtin.nextslicecap n 0 * i.bytes) := by rw [nextslicecap_zero h0]; omega
  have h48i : ¬ (281474976710656 < (n : Int) * (i.bytes : Int)) := by
    rw [← Int.natCast_mul]
    omega
  have hneg : ¬ ((n : Int) < 0) := by omega
  have hns : ¬ (n * i.size = 0) := Nat.mul_ne_zero hn (by omega)
  have hfc : ∀ W : World, (Builtin.firstCells i.size 0 (.slice A 0 0)).run P W = .ok #[] W := fun W => by
    cases A with
    | none => simp [Builtin.firstCells]
    | some a =>
      have := run_loadCells_list (P := P) W a [] (fun j v h => by simp at h)
      simpa [Builtin.firstCells] using this
  simp [Builtin.append_, run_underlying ht, run_underlying htn, sizeOf, typeInfo, zeroValue, hi, hz, asInt, asIntOf, hw, hn, hneg, hns, h63', h48', h48i, Question.forced, hfc, newRow, grownCap]
theorem good_grow (s : Sim S m H B w) {t u ty : TypeId} {kn : IntKind} (hn : P.underlying u = some (.int kn)) {x y : AV} {vx vy : Value} (hx : VA S m H x vx) (hy : VA S m H y vy) (h : aGrow P t x y H K) : Good P B S m H w (Builtin.append_ #[t, u] ty #[vx, vy]) K := by
  unfold aGrow at h
  split at h
  · rename_i e k n hu
    obtain ⟨h0, h63, hb, hp, hz, hk⟩ := h
    obtain ⟨A, rfl⟩ := VP.empty_form hx rfl
    cases hy
    obtain ⟨n, rfl⟩ : ∃ n' : Nat, n = n' := ⟨n.toNat, by omega⟩
    obtain ⟨i, z, hi, hzz, hsz, hby, hzs⟩ := hz.info hp
    have hr := run_append_zeros (P := P) w t u ty e i z k kn hu hn hi hzz A n (by omega) (by omega) h63 (by rw [hby]; rw [← Int.natCast_mul] at hb; omega)
    have s1 : Sim S m H B w.drew := s.drew
    have hcap : n ≤ grownCap w n 0 e := grownCap_ge w n 0 e
    have hmx : grownCap w n 0 e ≤ maxLen := grownCap_le_maxLen w n 0 e (by simp only [maxLen]; omega)
    let cells := (Builtin.zeroCells z.cells n ++ Builtin.zeroCells z.cells (grownCap w n 0 e - n)).toList
    have hcl : cells.length = grownCap w n 0 e * P.cellsOf e := by
      show (Array.toList _).length = _
      rw [Array.length_toList, Array.size_append, size_zeroCells, size_zeroCells, hzs, ← Nat.add_mul]; congr 1; omega
    obtain ⟨s2, e2, hv⟩ := s1.newArr e (P.cellsOf e) (grownCap w n 0 e) [] cells hp (by simp) (Nat.zero_le _) hmx hcl (by simp; exact VPs.nil S)
    refine ⟨_, _, hr, S, _, _, .c (.room H.length n), ?_, e2, below_new s.base _, ?_, by simpa using hk⟩
    · rw [show cells.toArray = Builtin.zeroCells z.cells n ++ Builtin.zeroCells z.cells (grownCap w n 0 e - n) from Array.toArray_toList] at s2; exact s2
    · exact ⟨e, P.cellsOf e, 0, [], .at_ w.heap.size (grownCap w n 0 e), by simp, by rw [← s.len]; simp, fun _ => ⟨w.heap.size, _, rfl, rfl, hcap⟩, rfl, rfl⟩
  · exact h.elim
end
end Go.Aw

/-
  An abstract memory for walks, part 8: make; sums, tests, conversions; parts of results; closures.
-/
set_option linter.unusedVariables false
set_option linter.unusedSimpArgs false
namespace Go.Aw
open Go.RowKit
section
variable {P : Program} {B : Nat} {S : Mem} {m : List Loc} {H : List AObj} {w : World} {K : AV → List AObj → Prop}

/-! ### Make -/
def zeroP (P : Program) (t : TypeId) : Option (List PV) := ((P.info? t).bind (·.zero)).bind fun v => absL v.cells.toList
def aMake (P : Program) (t : TypeId) (x y : AV) (H : List AObj) (K : AV → List AObj → Prop) : Prop :=
  match P.underlying t, intA x, intA y with
  | some (.slice e), some n, some n' => n' = n ∧ 0 ≤ n ∧ n ≤ 9223372036854775807 ∧ (P.bytesOf e : Int) * n ≤ 281474976710656 ∧ 0 < P.cellsOf e ∧
    match zeroP P e with
    | some zs => zs.length = P.cellsOf e ∧ K (.c (.own H.length n.toNat)) (H ++ [.arr e (P.cellsOf e) 0 (List.replicate n.toNat (zs.map lo))])
    | none => False
  | _, _, _ => False
theorem good_make (s : Sim S m H B w) {t : TypeId} {x y : AV} {v u : Value} (hx : VA S m H x v) (hy : VA S m H y u) (h : aMake P t x y H K) : Good P B S m H w (Instr.makeSlice t v u) K := by
  unfold aMake at h
  split at h
  · rename_i e n n' hu hn hn'
    obtain ⟨rfl, h0, h63, hb, hp, h⟩ := h
    split at h
    · rename_i zs0 hz
      obtain ⟨hzl0, hk⟩ := h
      obtain ⟨zs, hzs0⟩ : ∃ zs, zs = zs0.map lo := ⟨_, rfl⟩
      rw [← hzs0] at hk
      have hzl : zs.length = P.cellsOf e := by rw [hzs0]; simpa using hzl0
      obtain ⟨k1, rfl⟩ := intA_ok hx hn
      obtain ⟨k2, rfl⟩ := intA_ok hy hn'
      obtain ⟨i, hi, hsz, hby⟩ := info_of_cells hp
      unfold zeroP at hz
      cases hzz : i.zero with
      | none => simp [hi, hzz] at hz
      | some z =>
        simp [hi, hzz] at hz
        have hzs : VPs S zs z.cells.toList := by rw [hzs0]; exact (absL_ok S hz).lo
        have hzsz : z.cells.size = P.cellsOf e := by have := hzs.1; simp at this; omega
        have hr := run_make (P := P) w t e i z hu hi hzz k1 k2 n' n' h0 (Int.le_refl _) (by rw [hby]; exact hb) h63
        have hN : n'.toNat ≤ maxLen := by simp only [maxLen]; omega
        have hnz : ∀ x, x ∈ List.replicate n'.toNat zs → x.length = P.cellsOf e := fun x hx => by rw [List.eq_of_mem_replicate hx]; exact hzl
        have hlen : (madeCells z.cells (n'.toNat * i.size)).toList.length = n'.toNat * P.cellsOf e := by rw [Array.length_toList, size_madeCells, hsz]
        obtain ⟨s2, e2, hv⟩ := s.newArr e (P.cellsOf e) n'.toNat (List.replicate n'.toNat zs) (madeCells z.cells (n'.toNat * i.size)).toList hp hnz (by simp) hN hlen (by
          rw [List.length_replicate, ← hlen, List.take_length]
          refine ⟨by rw [flat_len hnz, hlen, List.length_replicate], fun j x u hx hu' => ?_⟩
          have hj : j < n'.toNat * P.cellsOf e := by rw [← hlen]; exact (List.getElem?_eq_some_iff.1 hu').1
          have hjd : j = (j / P.cellsOf e) * P.cellsOf e + j % P.cellsOf e := by rw [Nat.mul_comm]; exact (Nat.div_add_mod j _).symm
          have hjm : j % P.cellsOf e < P.cellsOf e := Nat.mod_lt _ hp
          rw [hjd, flat_get hnz _ _ hjm] at hx
          have hq : j / P.cellsOf e < n'.toNat := by rw [Nat.div_lt_iff_lt_mul hp]; exact hj
          rw [List.getElem?_replicate, if_pos hq] at hx
          simp only [Option.bind_some] at hx
          have hu2 : z.cells.toList[j % P.cellsOf e]? = some u := by
            rw [Array.getElem?_toList] at hu'
            simp only [madeCells, Array.getElem?_map] at hu'
            rw [hsz, Array.getElem?_range] at hu'
            rw [if_pos hj] at hu'
            simp only [Option.map_some, Option.some.injEq] at hu'
            rw [hzsz] at hu'
            rw [← hu', Array.getElem?_toList, getElem!_pos z.cells _ (by rw [hzsz]; exact hjm)]
            exact Array.getElem?_eq_getElem (by rw [hzsz]; exact hjm)
          exact hzs.2 _ x u hx hu2)
        rw [List.length_replicate] at hv
        refine ⟨_, _, hr, S, _, _, .c (.own H.length n'.toNat), by simpa using s2, e2, (Bel.refl B w).alloc s.base _, hv, hk⟩
    · exact h.elim
  · exact h.elim

/-! ### Two operands -/
def aInt (op : BinOp) (k : IntKind) (a b : Int) (K : PV → Prop) : Prop :=
  match op with
  | .add => K (.int k (k.wrap (a + b)))
  | .sub => K (.int k (k.wrap (a - b)))
  | .mul => K (.int k (k.wrap (a * b)))
  | .quo => b ≠ 0 ∧ K (.int k (k.wrap (a.tdiv b)))
  | .rem => b ≠ 0 ∧ K (.int k (a.tmod b))
  | .eql => K (.bool (a == b))
  | .neq => K (.bool (a != b))
  | .lss => K (.bool (decide (a < b)))
  | .leq => K (.bool (decide (a ≤ b)))
  | .gtr => K (.bool (decide (b < a)))
  | .geq => K (.bool (decide (b ≤ a)))
  | _ => False
def aStr (op : BinOp) (a b : ByteArray) (K : PV → Prop) : Prop :=
  match op with
  | .add => a.size + b.size ≤ 9223372036854775807 ∧ K (.str (a ++ b))
  | .eql => K (.bool (a.toList == b.toList))
  | .neq => K (.bool !(a.toList == b.toList))
  | _ => False
/-- '==' on structs, as the closed facts on a type give it. -/
def AggEq (P : Program) (t : TypeId) (xs ys : List PV) (r : Bool) : Prop :=
  ∀ (S : Mem) (us vs : List Value) (w : World), VPs S xs us → VPs S ys vs → (Op.equalIn Op.maxDepth t (.agg us.toArray) (.agg vs.toArray)).run P w = .ok r w
def aBin (P : Program) (op : BinOp) (t : TypeId) (x y : AV) (H : List AObj) (K : AV → List AObj → Prop) : Prop :=
  match x, y with
  | .c (.p (.int k a)), .c (.p (.int k' b)) => k' = k ∧ aInt op k a b fun r => K (.c (.p r)) H
  | .c (.p (.bool a)), .c (.p (.bool b)) => P.underlying t = some .bool ∧ match op with
    | .eql => K (.c (.p (.bool (a == b)))) H
    | .neq => K (.c (.p (.bool !(a == b)))) H
    | _ => False
  | .c (.p (.str a)), .c (.p (.str b)) => aStr op a b fun r => K (.c (.p r)) H
  | .agg cs, .agg ds => match frzs H cs, frzs H ds with
    | some (xs, H1), some (ys, H2) => H1 = H ∧ H2 = H ∧ P.eqGuardType P.depth t = false ∧ ∃ r, AggEq P t xs ys r ∧ match op with
      | .eql => K (.c (.p (.bool r))) H
      | .neq => K (.c (.p (.bool !r))) H
      | _ => False
    | _, _ => False
  | _, _ => False
theorem good_aInt {op : BinOp} {k : IntKind} {a b : Int} {Q : PV → Prop} (h : aInt op k a b Q) (t : TypeId) (w : World) : ∃ r v, (binOp op t (.int k a) (.int k b)).run P w = .ok v w ∧ VP (fun _ _ => none) r v ∧ Q r := by
  cases op <;> simp only [aInt] at h
  case add => exact ⟨_, _, by simp [binOp, Op.intArith], .int _ _, h⟩
  case sub => exact ⟨_, _, by simp [binOp, Op.intArith], .int _ _, h⟩
  case mul => exact ⟨_, _, by simp [binOp, Op.intArith], .int _ _, h⟩
  case quo => exact ⟨_, _, by simp [binOp, Op.intDiv, h.1], .int _ _, h.2⟩
  case rem => exact ⟨_, _, by simp [binOp, Op.intDiv, h.1], .int _ _, h.2⟩
  case eql => exact ⟨_, _, by simp [binOp, Op.intCmp], .bool _, h⟩
  case neq => exact ⟨_, _, by simp [binOp, Op.intCmp], .bool _, h⟩
  case lss => exact ⟨_, _, by simp [binOp, Op.intCmp], .bool _, h⟩
  case leq => exact ⟨_, _, by simp [binOp, Op.intCmp], .bool _, h⟩
  case gtr => exact ⟨_, _, by simp [binOp, Op.intCmp], .bool _, h⟩
  case geq => exact ⟨_, _, by simp [binOp, Op.intCmp], .bool _, h⟩
theorem good_aStr {op : BinOp} {a b : ByteArray} {Q : PV → Prop} (h : aStr op a b Q) (t : TypeId) (w : World) : ∃ r v, (binOp op t (.string a) (.string b)).run P w = .ok v w ∧ VP (fun _ _ => none) r v ∧ Q r := by
  cases op <;> simp only [aStr] at h
  case add =>
    refine ⟨_, _, ?_, .str _, h.2⟩
    have : ¬ ((a.size + b.size : Nat) : Int) > IntKind.i64.max := by
      have h1 := h.1
      have : IntKind.i64.max = 9223372036854775807 := by decide
      rw [this]; omega
    simp only [binOp, Op.stringOp, if_neg this, Sem.run_pure]
  case eql => exact ⟨_, _, by simp [binOp, Op.stringOp], .bool _, h⟩
  case neq => exact ⟨_, _, by simp [binOp, Op.stringOp], .bool _, h⟩
theorem good_bin (s : Sim S m H B w) {op : BinOp} {t : TypeId} {ox oy : Operand} {x y : AV} {v u : Value} (hx : VA S m H x v) (hy : VA S m H y u) (h : aBin P op t x y H K) :
    Good P B S m H w (do eqGuard op t ox oy v u; binOp op t v u) K := by
  unfold aBin at h
  split at h
  · rename_i k a k' b
    obtain ⟨rfl, h⟩ := h
    cases hx; cases hy
    obtain ⟨r, rv, h1, h2, h3⟩ := good_aInt (P := P) h t w
    refine Good.same s (x := .c (.p r)) (v := rv) ?_ (h2.mono (S' := S) (fun _ _ _ h => by cases h)) h3
    have : (eqGuard op t ox oy (.int k' a) (.int k' b)).run P w = .ok () w := by unfold eqGuard; split <;> rfl
    simp only [Sem.run_bind, this, Result.andThen_ok, h1]
  · rename_i a b
    obtain ⟨hu, h⟩ := h
    cases hx; cases hy
    have hg : (eqGuard op t ox oy (.bool a) (.bool b)).run P w = .ok () w := by unfold eqGuard; split <;> rfl
    have hq : ∀ w : World, (Op.equal t (.bool a) (.bool b)).run P w = .ok (a == b) w := fun w => run_equalIn_bool' w 9999 t a b hu
    cases op <;> simp only at h
    case eql => exact Good.same s (x := .c (.p (.bool (a == b)))) (v := .bool (a == b)) (by simp only [Sem.run_bind, hg, Result.andThen_ok, binOp, hq, Sem.run_pure]) (.bool _) h
    case neq => exact Good.same s (x := .c (.p (.bool !(a == b)))) (v := .bool !(a == b)) (by simp only [Sem.run_bind, hg, Result.andThen_ok, binOp, hq, Sem.run_pure]) (.bool _) h
  · rename_i a b
    cases hx; cases hy
    obtain ⟨r, rv, h1, h2, h3⟩ := good_aStr (P := P) h t w
    refine Good.same s (x := .c (.p r)) (v := rv) ?_ (h2.mono (S' := S) (fun _ _ _ h => by cases h)) h3
    have : (eqGuard op t ox oy (.string a) (.string b)).run P w = .ok () w := by unfold eqGuard; split <;> rfl
    simp only [Sem.run_bind, this, Result.andThen_ok, h1]
  · rename_i cs ds
    split at h
    · rename_i xs H1 ys H2 hc hd
      obtain ⟨rfl, rfl, hgt, r, hr, h⟩ := h
      obtain ⟨us, rfl, hus⟩ := hx
      obtain ⟨vs, rfl, hvs⟩ := hy
      obtain ⟨S1, s1, e1, p1⟩ := frzs_ok s hus hc
      obtain ⟨S2, s2, e2, p2⟩ := frzs_ok s1 (hvs.ext e1) hd
      have hg : ∀ o : BinOp, o = .eql ∨ o = .neq → (eqGuard o t ox oy (.agg us.toArray) (.agg vs.toArray)).run P w = .ok () w := by
        rintro o (rfl | rfl) <;> simp [eqGuard, hgt]
      have hq : (Op.equal t (.agg us.toArray) (.agg vs.toArray)).run P w = .ok r w := hr S2 us vs w (p1.mono e2.mem) p2
      cases op <;> simp only at h
      case eql => exact ⟨_, w, by simp only [Sem.run_bind, hg _ (.inl rfl), Result.andThen_ok, binOp, hq, Sem.run_pure], S2, m, _, .c (.p (.bool r)), s2, e1.trans e2, Bel.refl B w, .bool _, h⟩
      case neq => exact ⟨_, w, by simp only [Sem.run_bind, hg _ (.inr rfl), Result.andThen_ok, binOp, hq, Sem.run_pure], S2, m, _, .c (.p (.bool !r)), s2, e1.trans e2, Bel.refl B w, .bool _, h⟩
    · exact h.elim
  · exact h.elim

theorem eqIn_nil_nil {t e : TypeId} (hu : P.underlying t = some (.slice e)) (d n c n' c' : Nat) (w : World) : (Op.equalIn (d + 1) t (.slice none n c) (.slice none n' c')).run P w = .ok true w := by simp [Op.equalIn, run_underlying hu]
theorem eqIn_some_nil {t e : TypeId} (hu : P.underlying t = some (.slice e)) (d : Nat) (a : Addr) (n c n' c' : Nat) (w : World) : (Op.equalIn (d + 1) t (.slice (some a) n c) (.slice none n' c')).run P w = .ok false w := by simp [Op.equalIn, run_underlying hu]
/-- Against the literal nil. -/
def aNil (P : Program) (op : BinOp) (t : TypeId) (x : AV) (H : List AObj) (K : AV → List AObj → Prop) : Prop :=
  match P.underlying t, x with
  | some (.slice e), .c (.p (.sl full xs)) => match op with
    | .eql => (xs ≠ [] → K (.c (.p (.bool false))) H) ∧ (xs = [] → ∀ b, K (.c (.p (.bool b))) H)
    | .neq => (xs ≠ [] → K (.c (.p (.bool true))) H) ∧ (xs = [] → ∀ b, K (.c (.p (.bool b))) H)
    | _ => False
  | _, _ => False
theorem good_nil (s : Sim S m H B w) {op : BinOp} {t : TypeId} {ox oy : Operand} {x : AV} {v : Value} (hx : VA S m H x v) (h : aNil P op t x H K) :
    Good P B S m H w (do eqGuard op t ox oy v (.slice none 0 0); binOp op t v (.slice none 0 0)) K := by
  unfold aNil at h
  split at h
  · rename_i e full xs hu
    have hx' : VP S (.sl full xs) v := hx
    have key : ∃ r : Bool, (∀ w : World, (Op.equal t v (.slice none 0 0)).run P w = .ok r w) ∧ (xs ≠ [] → r = false) ∧ ∃ a n c, v = .slice a n c := by
      cases hx' with
      | nil => exact ⟨true, fun w => eqIn_nil_nil hu 9999 _ _ _ _ w, fun h => absurd rfl h, _, _, _, rfl⟩
      | emp => exact ⟨false, fun w => eqIn_some_nil hu 9999 _ _ _ _ _ w, fun _ => rfl, _, _, _, rfl⟩
      | sl _ _ b off cap size n u hn hc hm hf hs hu' hS hv => exact ⟨false, fun w => eqIn_some_nil hu 9999 _ _ _ _ _ w, fun _ => rfl, _, _, _, rfl⟩
    obtain ⟨r, hr, hr2, a, n, c, rfl⟩ := key
    have hg : (eqGuard op t ox oy (.slice a n c) (.slice none 0 0)).run P w = .ok () w := by unfold eqGuard; split <;> rfl
    cases op <;> simp only at h
    case eql =>
      refine Good.same s (x := .c (.p (.bool r))) (v := .bool r) (by simp only [Sem.run_bind, hg, Result.andThen_ok, binOp, hr, Sem.run_pure]) (.bool _) ?_
      by_cases hxs : xs = []
      · exact h.2 hxs r
      · rw [hr2 hxs]; exact h.1 hxs
    case neq =>
      refine Good.same s (x := .c (.p (.bool !r))) (v := .bool !r) (by simp only [Sem.run_bind, hg, Result.andThen_ok, binOp, hr, Sem.run_pure]) (.bool _) ?_
      by_cases hxs : xs = []
      · exact h.2 hxs _
      · rw [hr2 hxs]; exact h.1 hxs
  · exact h.elim

/-! ### One operand -/
def aUn (op : UnOp) (x : AV) (H : List AObj) (K : AV → List AObj → Prop) : Prop :=
  match op, x with
  | .not, .c (.p (.bool b)) => K (.c (.p (.bool !b))) H
  | .neg, .c (.p (.int k n)) => K (.c (.p (.int k (k.wrap (0 - n))))) H
  | _, _ => False
theorem good_un (s : Sim S m H B w) {op : UnOp} {x : AV} {v : Value} (hx : VA S m H x v) (h : aUn op x H K) : Good P B S m H w (Op.unary op v) K := by
  unfold aUn at h
  split at h
  · rename_i b; cases hx; exact Good.same s (x := .c (.p (.bool !b))) (v := .bool !b) (by simp [Op.unary]) (.bool _) h
  · rename_i k n; cases hx; exact Good.same s (x := .c (.p (.int k (k.wrap (0 - n))))) (v := .int k (k.wrap (0 - n))) (by simp [Op.unary, Op.intArith]) (.int _ _) h
  · exact h.elim
/-- A byte as an element. -/
def encB (b : UInt8) : List PV := [.int .u8 b.toNat]
def aConv (P : Program) (src dst : TypeId) (x : AV) (H : List AObj) (K : AV → List AObj → Prop) : Prop :=
  match P.underlying src, P.underlying dst with
  | some _, some (.int k) => match x with
    | .c (.p (.int _ n)) => K (.c (.p (.int k (k.wrap n)))) H
    | _ => False
  | some (.slice e), some .string => P.underlying e = some (.int .u8) ∧ match frzA H x with
    | some (.sl _ xs, H1) => ∃ bs : List UInt8, xs = bs.map encB ∧ K (.c (.p (.str ⟨bs.toArray⟩))) H1
    | _ => False
  | some .string, some (.slice e) => P.underlying e = some (.int .u8) ∧ P.cellsOf e = 1 ∧ match x with
    | .c (.p (.str st)) => st.size ≤ 140737488355328 ∧ K (.c (.p (.sl false (st.data.toList.map encB)))) H
    | _ => False
  | some .string, some .string => match x with
    | .c (.p (.str st)) => K (.c (.p (.str st))) H
    | _ => False
  | _, _ => False
theorem flat_encB (bs : List UInt8) : (bs.map encB).flatten = bs.map fun b => PV.int .u8 b.toNat := by
  induction bs with
  | nil => rfl
  | cons b bs ih => simp only [List.map_cons, List.flatten_cons, ih]; rfl
theorem strOfNums_bytes (bs : List UInt8) : strOfNums (bs.map fun b => (b.toNat : Int)) = ⟨bs.toArray⟩ := by
  simp only [strOfNums, List.map_map]
  congr 2
  rw [show ((fun n : Int => UInt8.ofNat n.toNat) ∘ fun b : UInt8 => (b.toNat : Int)) = id from by funext b; simp, List.map_id]
theorem run_convert_empty {P : Program} (w : World) (src e : TypeId) (hs : P.underlying src = some (.slice e)) (he : P.underlying e = some (.int .u8)) (a : Addr) (dst : TypeId) (hd : P.underlying dst = some .string) :
    (convert src dst (.slice (some a) 0 0)).run P w = .ok (.string ⟨([] : List UInt8).toArray⟩) w := by
  have hl : (loadCells a 0).run P w = .ok (([] : List Value)).toArray w := run_loadCells_list (P := P) w a [] (fun j v hj => by simp at hj)
  rw [run_convert_bytes_string w src dst e _ 0 0 hs he hd]
  simp only [Conv.bytesToString, Sem.run_bind, hl, Result.andThen_ok]
  rfl
theorem good_conv (s : Sim S m H B w) {src dst : TypeId} {x : AV} {v : Value} (hx : VA S m H x v) (h : aConv P src dst x H K) : Good P B S m H w (convert src dst v) K := by
  unfold aConv at h
  split at h
  · rename_i ds k hs hd
    split at h
    · rename_i k' n
      cases hx
      exact Good.same s (x := .c (.p (.int k (k.wrap n)))) (v := .int k (k.wrap n)) (by simp [convert, run_underlying hs, run_underlying hd, Conv.intToInt]) (.int _ _) h
    · exact h.elim
  · rename_i e hs hd
    obtain ⟨he, h⟩ := h
    split at h
    · rename_i full xs H1 hf
      obtain ⟨bs, rfl, hk⟩ := h
      obtain ⟨S1, s1, e1, p1⟩ := frzA_ok s hx hf
      refine ⟨.string ⟨bs.toArray⟩, w, ?_, S1, m, H1, .c (.p (.str ⟨bs.toArray⟩)), s1, e1, Bel.refl B w, .str _, hk⟩
      cases hbs : bs with
      | nil =>
        subst hbs
        simp only [List.map_nil] at p1
        cases p1 with
        | nil => exact run_convert_bytes_nil w src e hs he 0 0 dst hd
        | emp _ a => exact run_convert_empty w src e hs he a dst hd
        | sl _ _ b off cap size n u hn hc hm hf hs' hu' hS hv =>
          simp at hn; subst hn
          exact run_convert_bytes_arg w src e hs he b off 0 cap [] rfl (fun i hi => absurd hi (by omega)) dst hd
      | cons b0 bs0 =>
        rw [← hbs]
        obtain ⟨a, cap, rfl, _⟩ := VP.slice_form p1
        generalize hN : (bs.map encB).length = N at p1 ⊢
        have hNl : bs.length = N := by simpa using hN
        generalize hX : bs.map encB = X at p1
        cases p1 with
        | nil => simp [hbs] at hX
        | emp => simp [hbs] at hX
        | sl _ _ b off cap size n u hn hc hm hf hs' hu' hS hv =>
          have := run_convert_bytes_arg (P := P) w src e hs he b off N cap (bs.map fun b => (b.toNat : Int)) (by simpa using hNl) (fun i hi => by
            have hi' : i < bs.length := by omega
            have hg : X.flatten[i]? = some (.int .u8 (bs[i]).toNat) := by rw [← hX, flat_encB]; simp [hi']
            have h1 := s1.mem _ _ _ (hS i _ hg)
            have h2 := hv i _ hg
            rw [h1]
            generalize u i = q at h2
            cases h2
            simp [List.getD_eq_getElem?_getD, hi']) dst hd
          rw [this, strOfNums_bytes]
    · exact h.elim
  · rename_i e hs hd
    obtain ⟨he, hsz, h⟩ := h
    split at h
    · rename_i st
      obtain ⟨hle, hk⟩ := h
      cases hx
      let cap := (Question.appendCap st.size 0 e).cut (w.tape w.drawn (.appendCap st.size 0 e))
      have hcap : st.size ≤ cap ∧ cap ≤ maxLen := by
        have hlt := Nat.mod_lt (w.tape w.drawn (.appendCap st.size 0 e)) (show 0 < 2 ^ 63 - st.size by omega)
        show st.size ≤ st.size + _ % (2 ^ 63 - st.size) ∧ st.size + _ % (2 ^ 63 - st.size) ≤ maxLen
        simp only [maxLen]; omega
      let cells : List Value := st.data.toList.map (fun b => Value.int .u8 b.toNat) ++ List.replicate (cap - st.size) (.int .u8 0)
      let w' : World := (w.drew.alloc (.cells cells.toArray e)).freeze ⟨w.heap.size, cells.length, none⟩ 1
      have hh0 : w'.heap = (w.heap.push (.cells cells.toArray e)).modify w.heap.size (fun
          | .cells c elem (lo, hi) => .cells c elem (if lo == hi then (cells.length, cells.length + 1) else (min lo cells.length, max hi (cells.length + 1)))
          | o => o) := rfl
      have hheap : w'.heap[w.heap.size]? = some (.cells cells.toArray e (cells.length, cells.length + 1)) := by
        rw [hh0, Array.getElem?_modify, if_pos rfl, Array.getElem?_push_size]
        rfl
      have hold : ∀ k, k < w.heap.size → w'.heap[k]? = w.heap[k]? := fun k hk => by
        rw [hh0, Array.getElem?_modify, if_neg (by omega)]
        exact heap_alloc_old w.drew _ hk
      have hsz' : w'.heap.size = w.heap.size + 1 := by rw [hh0]; simp
      have hrun : (convert src dst (.string st)).run P w = .ok (.slice (some ⟨w.heap.size, 0, none⟩) st.size cap) w' := by
        have e1 : (st.data.map fun b => Value.int .u8 b.toNat) ++ Array.replicate (cap - st.size) (Value.int .u8 0) = cells.toArray := by
          apply Array.ext'; simp [cells]
        have hshape : (w.drew.alloc (.cells cells.toArray e)).shape? w.heap.size = some (e, cells.length) := by
          show (match (w.heap.push (.cells cells.toArray e))[w.heap.size]? with | some (.cells c elem _) => some (elem, c.size) | _ => none) = _
          rw [Array.getElem?_push_size]
          simp
        simp only [convert, Sem.run_bind, run_underlying hs, run_underlying hd, Result.andThen_ok, run_underlying he, Conv.stringToBytes]
        rw [run_choose_drew]
        simp only [Question.forced, Bool.false_eq_true, if_false, Result.andThen_ok, newRow, Sem.run_bind, Sem.run_pure]
        rw [e1]
        simp only [run_newObj_alloc, Result.andThen_ok, Sem.run_pure, markStringish, Sem.run_bind, run_shape]
        have hds : w.drew.heap.size = w.heap.size := rfl
        simp only [hds, hshape, run_freeze, Result.andThen_ok, Sem.run_pure]
        rfl
      let S2 : Mem := fun b o => if b = w.heap.size then cells[o]? else S b o
      have hin : ∀ o, S2 w.heap.size o = cells[o]? := fun o => if_pos rfl
      have hout : OldMem w.heap.size S S2 := fun b o hb => if_neg (by omega)
      obtain ⟨s2, e2⟩ := s.grow (S' := S2) (w' := w') hold (by omega) hout (fun b o v hb hv => by
        by_cases hbb : b = w.heap.size
        · subst hbb
          rw [hin] at hv
          rw [cell_eq hheap]; exact hv
        · have : S2 b o = S b o := if_neg hbb
          rw [this, s.newmem hb o] at hv
          cases hv)
      have hbel : Bel B w w' := Bel.of_old ⟨rfl, rfl, rfl, by omega, fun k hk => hold k (Nat.lt_of_lt_of_le hk s.base)⟩ hold
      refine ⟨_, w', hrun, S2, m, H, .c (.p (.sl false (st.data.toList.map encB))), s2, e2, hbel, ?_, hk⟩
      refine .sl false _ w.heap.size 0 cap 1 st.size (fun k => cells.getD k undef) (by rw [List.length_map, Array.length_toList]; rfl) hcap.1 hcap.2 (fun h => by cases h) (by omega) (by simp [encB]) (fun k x hk => ?_) (fun k x hk => ?_)
      all_goals
        rw [flat_encB, List.getElem?_map] at hk
        cases hbk : st.data.toList[k]? with
        | none => rw [hbk] at hk; simp at hk
        | some b =>
          rw [hbk] at hk
          simp only [Option.map_some, Option.some.injEq] at hk
          have hlt : k < st.data.toList.length := (List.getElem?_eq_some_iff.1 hbk).1
          have hg : cells[k]? = some (.int .u8 b.toNat) := by
            show (st.data.toList.map _ ++ _)[k]? = _
            rw [List.getElem?_append_left (by simpa using hlt), List.getElem?_map, hbk]; rfl
          have hgd : cells.getD k undef = .int .u8 b.toNat := by rw [List.getD_eq_getElem?_getD, hg]; rfl
          subst hk
          first
          | (rw [Nat.zero_add, hin, hg, hgd])
          | (simp only [hgd]; exact .int _ _)
    · exact h.elim
  · rename_i hs hd
    split at h
    · rename_i st
      cases hx
      exact Good.same s (x := .c (.p (.str st))) (v := .string st) (by simp [convert, run_underlying hs, run_underlying hd]) (.str _) h
    · exact h.elim
  · exact h.elim
/-! ### Maps with numbers as keys -/
def mapFind (k : Int) : List (Int × Cell) → Option Cell
  | [] => none
  | (k', c) :: r => if k' = k then some c else mapFind k r
def aInsert (P : Program) (t : TypeId) (x k v : AV) (H : List AObj) (K : List AObj → Prop) : Prop :=
  match P.underlying t, x, k, v with
  | some (.map kt _), .c (.mp id), .c (.p (.int .i64 n)), .c c => P.underlying kt = some (.int .i64) ∧ match H[id]? with
    | some (.map es) => mapFind n es = none ∧ K (H.set id (.map (es ++ [(n, c)])))
    | _ => False
  | _, _, _, _ => False
def aLookup (P : Program) (t : TypeId) (x k : AV) (ok : Bool) (H : List AObj) (K : AV → List AObj → Prop) : Prop :=
  match P.underlying t, x, k with
  | some (.map kt e), .c (.mp id), .c (.p (.int .i64 n)) => P.underlying kt = some (.int .i64) ∧ ok = true ∧ match H[id]? with
    | some (.map es) => match mapFind n es with
      | some c => K (.tup [(false, [c]), (false, [.p (.bool true)])]) H
      | none => ∃ z, zeroA P e = some (.c z) ∧ K (.tup [(false, [z]), (false, [.p (.bool false)])]) H
    | _ => False
  | _, _, _ => False
def EntsOk (S : Mem) (m : List Loc) (H : List AObj) (es : List (Int × Cell)) (ents : List MapEntry) : Prop :=
  es.length = ents.length ∧ ∀ (i : Nat) k c (e : MapEntry), es[i]? = some (k, c) → ents[i]? = some e → e.key = .int .i64 k ∧ VC S m H c e.val
theorem findNow_ok {k : Int} : ∀ {es : List (Int × Cell)} {ents : List MapEntry} (i : Nat), EntsOk S m H es ents →
    (mapFind k es = none ∧ Instr.findNow (.int .i64) (.int .i64 k) ents i = some none) ∨ ∃ c j v, mapFind k es = some c ∧ Instr.findNow (.int .i64) (.int .i64 k) ents i = some (some (j, v)) ∧ VC S m H c v
  | [], [], i, _ => .inl ⟨rfl, rfl⟩
  | [], e :: ents, i, h => by have := h.1; simp at this
  | (k', c) :: es, [], i, h => by have := h.1; simp at this
  | (k', c) :: es, e :: ents, i, h => by
    obtain ⟨h1, h2⟩ := h.2 0 k' c e rfl rfl
    have h' : EntsOk S m H es ents := ⟨by have := h.1; simpa using this, fun j q d f hq hf => h.2 (j + 1) q d f (by simpa using hq) (by simpa using hf)⟩
    by_cases hk : k' = k
    · subst hk
      exact .inr ⟨c, i, e.val, by simp [mapFind], by simp [Instr.findNow, h1, Instr.sameNow], h2⟩
    · have hs : Instr.sameNow (.int .i64) (.int .i64 k) e.key = some false := by
        rw [h1]; simp [Instr.sameNow]; intro hh; exact hk hh.symm
      rcases findNow_ok (k := k) (i + 1) h' with ⟨a, b⟩ | ⟨c', j, v, a, b, d⟩
      · exact .inl ⟨by simp [mapFind, hk, a], by simp [Instr.findNow, hs, b]⟩
      · exact .inr ⟨c', j, v, by simp [mapFind, hk, a], by simp [Instr.findNow, hs, b], d⟩
theorem mp_form (s : Sim S m H B w) {id : Nat} {es : List (Int × Cell)} {v : Value} (ho : H[id]? = some (.map es)) (hx : VC S m H (.mp id) v) :
    ∃ b cap ents clock, m[id]? = some (.at_ b cap) ∧ v = .map (some b) ∧ B ≤ b ∧ w.heap[b]? = some (.map ents clock) ∧ EntsOk S m H es ents.toList := by
  obtain ⟨b, cap, es', h1, h2, rfl⟩ := hx
  rw [ho] at h1; cases h1
  obtain ⟨g1, ents, clock, g2, g3, g4⟩ := s.obj id _ _ ho h2
  exact ⟨b, cap, ents, clock, h2, rfl, g1, g2, by simpa using g3, fun i k c e hi he => g4 i k c e hi (by simpa using he)⟩
theorem run_getObj_map {r : Nat} {ents : Array MapEntry} {clock : Nat} (h : w.heap[r]? = some (.map ents clock)) : (getObj r).run P w = .ok (.map ents clock) w := by simp [getObj, Sem.run, h]
theorem run_checkKey_int' {kt : TypeId} (h : P.underlying kt = some (.int .i64)) (e : Bool) (k : Int) (n : Nat) : (Instr.checkKey e (n + 1) kt (.int .i64 k)).run P w = .ok () w := by
  simp [Instr.checkKey, run_underlying h]
theorem run_checkKey_int {kt : TypeId} (h : P.underlying kt = some (.int .i64)) (e : Bool) (k : Int) : (Instr.checkKey e 10000 kt (.int .i64 k)).run P w = .ok () w := by
  exact run_checkKey_int' h e k 9999
theorem good_lookup (s : Sim S m H B w) {t : TypeId} {ok : Bool} {x k : AV} {vx vk : Value} (hx : VA S m H x vx) (hk : VA S m H k vk) (h : aLookup P t x k ok H K) : Good P B S m H w (Instr.lookup t vx vk ok) K := by
  unfold aLookup at h
  split at h
  · rename_i kt e id n hu
    obtain ⟨hkt, rfl, h⟩ := h
    split at h
    · rename_i es ho
      obtain ⟨b, cap, ents, clock, h1, rfl, h3, h4, h5⟩ := mp_form s ho hx
      cases hk
      rcases findNow_ok (k := n) 0 h5 with ⟨a, c⟩ | ⟨c', j, v, a, c, d⟩
      · simp only [a] at h
        obtain ⟨z, hz, h⟩ := h
        obtain ⟨u, hr, hv⟩ := run_zero hz S m H w
        refine Good.same s (x := .tup [(false, [z]), (false, [.p (.bool false)])]) (v := .tuple #[u, .bool false]) ?_ ⟨[u, .bool false], rfl, rfl, fun i b' u' hb hu' => ?_⟩ h
        · simp [Instr.lookup, run_underlying hu, run_getObj_map h4, run_checkKey_int hkt, Instr.findKey, run_underlying hkt, c, hr]
        · match i with
          | 0 => simp at hb hu'; subst hb; subst hu'; exact ⟨z, rfl, hv⟩
          | 1 => simp at hb hu'; subst hb; subst hu'; exact ⟨_, rfl, VP.bool _⟩
          | i + 2 => simp at hb
      · simp only [a] at h
        refine Good.same s (x := .tup [(false, [c']), (false, [.p (.bool true)])]) (v := .tuple #[v, .bool true]) ?_ ⟨[v, .bool true], rfl, rfl, fun i b' u' hb hu' => ?_⟩ h
        · simp [Instr.lookup, run_underlying hu, run_getObj_map h4, run_checkKey_int hkt, Instr.findKey, run_underlying hkt, c]
        · match i with
          | 0 => simp at hb hu'; subst hb; subst hu'; exact ⟨c', rfl, d⟩
          | 1 => simp at hb hu'; subst hb; subst hu'; exact ⟨_, rfl, VP.bool _⟩
          | i + 2 => simp at hb
    · exact h.elim
  · exact h.elim
theorem heap_putMap {b : Nat} (o : Obj) (hb : b < w.heap.size) : ({ w with heap := w.heap.setIfInBounds b o } : World).heap[b]? = some o := by simp [hb]
theorem heap_putMap_ne {b k : Nat} (o : Obj) (h : k ≠ b) : ({ w with heap := w.heap.setIfInBounds b o } : World).heap[k]? = w.heap[k]? := by simp [Array.getElem?_setIfInBounds_ne (Ne.symm h)]
theorem good_insert {K : List AObj → Prop} (s : Sim S m H B w) {t : TypeId} {x k y : AV} {vx vk vy : Value} (hx : VA S m H x vx) (hk : VA S m H k vk) (hy : VA S m H y vy) (h : aInsert P t x k y H K) : GoodU P B S m H w (Instr.mapUpdate t vx vk vy) K := by
  unfold aInsert at h
  split at h
  · rename_i kt e id n c hu
    obtain ⟨hkt, h⟩ := h
    split at h
    · rename_i es ho
      obtain ⟨hnone, h⟩ := h
      obtain ⟨b, cap, ents, clock, h1, rfl, h3, h4, h5⟩ := mp_form s ho hx
      cases hk
      rcases findNow_ok (k := n) 0 h5 with ⟨a, c1⟩ | ⟨c', j, v, a, _, _⟩
      rotate_left
      · rw [hnone] at a; cases a
      have hbs : b < w.heap.size := (Array.getElem?_eq_some_iff.1 h4).1
      have hid : id < H.length := (List.getElem?_eq_some_iff.1 ho).1
      let o' : Obj := .map (ents.push { key := .int .i64 n, val := vy, born := clock }) (clock + 1)
      let w' : World := { w with heap := w.heap.setIfInBounds b o' }
      have hrun : (Instr.mapUpdate t (.map (some b)) (.int .i64 n) vy).run P w = .ok () w' := by
        simp [Instr.mapUpdate, run_underlying hu, run_getObj_map h4, run_checkKey_int hkt, Instr.findKey, run_underlying hkt, c1, setObj, Sem.run, w', o', h4]
      have e : Ext B S m H S m (H.set id (.map (es ++ [(n, c)]))) := by
        refine ⟨Mem.le_refl S, fun _ _ _ => rfl, fun i x h hf => ⟨?_, fun _ h => h⟩, fun i T' size frz es l h h' => ⟨frz, es, l, ?_, h', Nat.le_refl _, fun _ => rfl⟩⟩
        · by_cases hi : id = i
          · subst hi
            rw [ho] at h; cases h
            exact ⟨.map (es ++ [(n, c)]), by simp [hid], trivial⟩
          · exact ⟨x, by rw [getElem?_set_ne _ _ _ _ hi]; exact h, Kin.refl hf⟩
        · have hi : id ≠ i := fun hi => by subst hi; rw [ho] at h; cases h
          rw [getElem?_set_ne _ _ _ _ hi]; exact h
      refine ⟨w', hrun, S, m, _, ⟨by simp [s.len], fun b' o v hv => ?_, by simpa [w'] using s.base, fun i x y hx' hy' => ?_, s.inj⟩, e, ⟨⟨rfl, rfl, rfl, by simp [w'], fun k hk => heap_putMap_ne _ (by omega)⟩⟩, h⟩
      · have hne : b' ≠ b := fun hh => by
          subst hh
          have := s.mem b' o v hv
          simp [World.cell?, h4] at this
        have := s.mem b' o v hv
        simp only [World.cell?] at this ⊢
        rw [heap_putMap_ne _ hne]
        exact this
      · by_cases hi : id = i
        · subst hi
          rw [h1] at hy'
          cases hy'
          rw [List.getElem?_set_self hid] at hx'
          cases hx'
          refine ⟨h3, _, _, heap_putMap _ hbs, by simp [h5.1], fun j k' c' e' hj he => ?_⟩
          have hlen : es.length = ents.size := by simpa using h5.1
          by_cases hjl : j < es.length
          · rw [List.getElem?_append_left hjl] at hj
            rw [Array.getElem?_push_lt (by omega)] at he
            obtain ⟨q1, q2⟩ := h5.2 j k' c' e' hj (by rw [Array.getElem?_toList, Array.getElem?_eq_getElem (by omega)]; exact he)
            exact ⟨q1, q2.ext e⟩
          · have hjj : j = es.length := by
              have := (List.getElem?_eq_some_iff.1 hj).1
              simp at this; omega
            subst hjj
            rw [hlen] at he
            rw [Array.getElem?_push_size] at he
            simp at hj
            obtain ⟨rfl, rfl⟩ := hj
            cases he
            exact ⟨rfl, VC.ext e hy⟩
        · rw [getElem?_set_ne _ _ _ _ hi] at hx'
          refine (s.obj i x y hx' hy').keep e fun b' c' hbc => ?_
          subst hbc
          have hne : b' ≠ b := fun hh => by subst hh; exact hi (s.inj id i b' cap c' h1 hy')
          exact ⟨heap_putMap_ne _ hne, fun k => rfl⟩
    · exact h.elim
  · exact h.elim
theorem good_makeMap (s : Sim S m H B w) {t : TypeId} (h : K (.c (.mp H.length)) (H ++ [.map []])) : Good P B S m H w (Instr.makeMap t none) K := by
  have e := Ext.push B S m H s.len (.map []) (.at_ w.heap.size 0)
  obtain ⟨s1, _⟩ := s.grow (S' := S) (w' := w.alloc (.map #[] 0)) (fun k hk => heap_alloc_old w _ hk) (by simp) (fun _ _ _ => rfl) (fun b o v hb hv => by have := s.newmem hb o; rw [this] at hv; cases hv)
  refine ⟨.map (some w.heap.size), w.alloc (.map #[] 0), rfl, S, _, _, .c (.mp H.length), s1.push (.map []) (.at_ w.heap.size 0) ⟨s.base, #[], 0, heap_alloc_new w _, rfl, fun i k c e hi => by simp at hi⟩ ?_, e, (Bel.refl B w).alloc s.base _, ⟨w.heap.size, 0, [], by simp, by rw [← s.len]; simp, rfl⟩, h⟩
  intro b c hbc i c'
  cases hbc
  exact s.noblock (Nat.le_refl _) i c'
end
end Go.Aw
