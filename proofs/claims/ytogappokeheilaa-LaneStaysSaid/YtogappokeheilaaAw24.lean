/-
  An abstract memory for walks, part 24: a guard that is not known: both ways.
-/
import Derived.Test.YtogappokeheilaaAw23
set_option linter.unusedVariables false
set_option linter.unusedSimpArgs false
namespace Go.Aw
section
variable {P : Program} {n k : Nat} {sl : Slots} {H : List AObj} {ow : Bool} {ops : Array Oper} {o : Oper} {l : List Oper} {K : Slots → List AObj → Prop} {j d : Nat} {want b : Bool}
theorem aops_g (hg : o.guard = some (j, want)) (hd : (ops[j]?).bind (·.dst) = some d) (hb : getS sl d = .c (.p (.bool b))) (h1 : b = true → aops P ow n ops (o :: l) sl H K) (h2 : b = false → aops P ow n ops (o :: l) sl H K) : aops P ow n ops (o :: l) sl H K := by
  cases b with
  | true => exact h1 rfl
  | false => exact h2 rfl
theorem dOps_g {tab : List Row} (hg : o.guard = some (j, want)) (hd : (ops[j]?).bind (·.dst) = some d) (hb : getS sl d = .c (.p (.bool b))) (h1 : b = true → dOps P ops (o :: l) tab sl H K) (h2 : b = false → dOps P ops (o :: l) tab sl H K) : dOps P ops (o :: l) tab sl H K := by
  cases b with
  | true => exact h1 rfl
  | false => exact h2 rfl
/-- A pick that is not known. -/
theorem aops_p {t : Operand} {x y : Operand} (hp : o.op = .pick t x y) (hb : ev sl t = .c (.p (.bool b))) (h1 : b = true → aops P ow n ops (o :: l) sl H K) (h2 : b = false → aops P ow n ops (o :: l) sl H K) : aops P ow n ops (o :: l) sl H K := by
  cases b with
  | true => exact h1 rfl
  | false => exact h2 rfl
theorem dOps_p {tab : List Row} {t : Operand} {x y : Operand} (hp : o.op = .pick t x y) (hb : ev sl t = .c (.p (.bool b))) (h1 : b = true → dOps P ops (o :: l) tab sl H K) (h2 : b = false → dOps P ops (o :: l) tab sl H K) : dOps P ops (o :: l) tab sl H K := by
  cases b with
  | true => exact h1 rfl
  | false => exact h2 rfl
end
theorem ACall.pocF {P : Program} {f : FuncId} {args : List AV} {pargs : List PB} {T size : Nat} {es : List (List PV)} {H H1 : List AObj} {K : AV → List AObj → Prop} (hf : frzVs H args = some (pargs, H1)) (hc : POC P f pargs T size es)
    (hk : K (.c (.own H1.length es.length)) (H1 ++ [.arr T size 0 es])) : ACall P f args H K := by
  refine ⟨hc.1, fun S m B w vs s hv => ?_⟩
  obtain ⟨S1, s1, e1, p1⟩ := frzVs_ok s hv hf
  refine ((hc.2 H1 K hk).2 S1 m B w vs s1 (p1.VAs m H1)).mono fun e w' ⟨v, he, S2, m', H', x, a, b, c, d, g⟩ => ?_
  exact ⟨v, he, S2, m', H', x, a, e1.trans b, c, d, g⟩
theorem POCD.mk {P : Program} {g : FuncId} {args : List AV} {look : Look} {id : Nat} {K : AV → Ef → Prop} {pargs : List PB} {T size : Nat} {es : List (List PV)} (hf : frzVs [] args = some (pargs, [])) (hc : POC P g pargs T size es) (hl : look id = some .hole)
    (hk : K (.c (.own id es.length)) (.set id (.arr T size 0 es))) : ∃ pargs T size es, POC P g pargs T size es ∧ frzVs [] args = some (pargs, []) ∧ look id = some .hole ∧ K (.c (.own id es.length)) (.set id (.arr T size 0 es)) :=
  ⟨pargs, T, size, es, hc, hf, hl, hk⟩
theorem POC.mk {P : Program} {f : FuncId} {pargs : List PB} {T size : Nat} {es : List (List PV)} (he : Enters P f) (h : ∀ (H : List AObj) (K : AV → List AObj → Prop), K (.c (.own H.length es.length)) (H ++ [.arr T size 0 es]) → ACall P f (pargs.map pbAV) H K) : POC P f pargs T size es := ⟨he, h⟩
theorem ACall.promote {P : Program} {f : FuncId} {args : List AV} {H : List AObj} {K : AV → List AObj → Prop} (T size : Nat) (hs : 0 < size)
    (h : ACall P f args H fun x H' => (x = .c (.p (.sl true [])) ∧ K (.c (.own H'.length 0)) (H' ++ [.arr T size 0 []])) ∨ K x H') : ACall P f args H K := by
  refine ⟨h.1, fun S m B w vs s hv => (h.2 S m B w vs s hv).mono ?_⟩
  rintro e w' ⟨v, he, S', m', H', x, s', e', b', hx, hk | hk⟩
  · obtain ⟨rfl, hk⟩ := hk
    obtain ⟨A, rfl⟩ := VP.empty_form hx rfl
    obtain ⟨s2, e2, hv2⟩ := s'.newNil T size hs A
    exact ⟨_, he, S', _, _, .c (.own H'.length 0), s2, e'.trans e2, b', hv2, hk⟩
  · exact ⟨v, he, S', m', H', x, s', e', b', hx, hk⟩
@[go_sem] theorem ex_arr' (T0 s0 f0 : Nat) (e0 : List (List PV)) (n : Nat) : (∃ T size frz es, (T0 = T ∧ s0 = size ∧ f0 = frz ∧ e0 = es) ∧ es.length = n) = (e0.length = n) :=
  propext ⟨fun ⟨_, _, _, _, ⟨_, _, _, h⟩, h2⟩ => by rw [h]; exact h2, fun h => ⟨_, _, _, _, ⟨rfl, rfl, rfl, rfl⟩, h⟩⟩
@[go_sem] theorem wrap_zero : IntKind.i64.wrap 0 = 0 := by decide
@[go_sem] theorem wrap_one : IntKind.i64.wrap 1 = 1 := by decide
/-- Places for what a region makes whose order is drawn. -/
theorem Sub.holes {n k : Nat} {sl : Slots} {H : List AObj} : ∀ j : Nat, Sub n k sl H sl (H ++ List.replicate j .hole)
  | 0 => by simpa using Sub.refl
  | j + 1 => by
    have h := Sub.holes (n := n) (k := k) (sl := sl) (H := H) j
    refine Sub.trans h ?_
    rintro cx hk a w ⟨S, m, s, e, b, r⟩
    have e1 := Ext.push cx.B S m _ s.len .hole (.nil none)
    have s1 := s.push .hole (.nil none) trivial (fun b c h => by cases h)
    have hr : H ++ List.replicate j AObj.hole ++ [AObj.hole] = H ++ List.replicate (j + 1) AObj.hole := by rw [List.append_assoc, List.replicate_succ']
    rw [hr] at s1 e1
    exact ⟨S, m ++ [.nil none], s1, e.trans e1, b, r.ext e1⟩
/-- Likewise, of a struct's cell. -/
theorem AW.lenA {P : Program} {n k : Nat} {sl : Slots} {H : List AObj} {Q : Exit → Slots → List AObj → Prop} {c : Code} {full : Bool} {xs : List (List PV)} {cs : List Cell} (d i : Nat) (hd : getS sl d = .agg cs) (hc : cs[i]? = some (.p (.sl full xs))) (h : (xs.length : Int) ≤ 9223372036854775807 → AW P n k c Q sl H) : AW P n k c Q sl H := fun cx hk a w hin => by
  obtain ⟨S, m, s, e, b, r⟩ := hin
  have hv := r.slot d
  rw [hd] at hv
  obtain ⟨vs, _, h2⟩ := hv
  have hlt : i < vs.length := by rw [← h2.1]; exact (List.getElem?_eq_some_iff.1 hc).1
  have h3 : VP S (.sl full xs) vs[i] := h2.2 i _ _ hc (List.getElem?_eq_getElem hlt)
  obtain ⟨q, cap, _, h4, h5, _⟩ := h3.slice_form
  exact h (by simp only [maxLen] at h5; omega) cx hk a w ⟨S, m, s, e, b, r⟩
/-- A variable's cells, their room forgotten. -/
def loC : Cell → Cell
  | .p x => .p (lo x)
  | c => c
theorem VC.loC {S : Mem} {m : List Loc} {H : List AObj} {c : Cell} {v : Value} (h : VC S m H c v) : VC S m H (loC c) v := by
  cases c <;> first | exact h | exact VP.lo (S := S) h
theorem VCs.loC {S : Mem} {m : List Loc} {H : List AObj} {cs : List Cell} {vs : List Value} (h : VCs S m H cs vs) : VCs S m H (cs.map Aw.loC) vs := by
  refine ⟨by simp [h.1], fun i c v hc hv => ?_⟩
  rw [List.getElem?_map] at hc
  cases hx : cs[i]? with
  | none => simp [hx] at hc
  | some x => simp [hx] at hc; subst hc; exact (h.2 i x v hx hv).loC
theorem Sub.loVar {n k : Nat} {sl : Slots} {H : List AObj} (id : Nat) {cs : List Cell} (hd : H[id]? = some (.var cs)) : Sub n k sl H sl (H.set id (.var (cs.map loC))) := by
  rintro cx hk a w ⟨S, m, s, e, b, r⟩
  obtain ⟨l, hl, hO⟩ := s.loc hd
  cases l with
  | nil A => exact hO.elim
  | at_ bb c =>
    obtain ⟨h1, h2, cur, T, h3, h4⟩ := hO
    obtain ⟨s2, e2⟩ := s.setVar hd hl (w' := w) (cs' := cs.map loC) h3 (fun _ _ => rfl) rfl h4.loC
    exact ⟨S, m, s2, e.trans e2, b, r.ext e2⟩
attribute [go_sem] loC
/-! ### An array that nobody names makes way -/
def noC (id : Nat) : Cell → Prop
  | .p _ => True
  | .pp _ => True
  | .own i _ => i ≠ id
  | .ep i _ _ _ => i ≠ id
  | .room i _ => i ≠ id
  | .ptr i _ => i ≠ id
  | .clo _ _ caps => ∀ q, q ∈ caps → q.1 ≠ id
  | .yld i => i ≠ id
  | .mp i => i ≠ id
def noL (id : Nat) : List Cell → Prop
  | [] => True
  | c :: cs => noC id c ∧ noL id cs
def noB (id : Nat) : List (Bool × List Cell) → Prop
  | [] => True
  | (_, cs) :: r => noL id cs ∧ noB id r
def noA (id : Nat) : AV → Prop
  | .any => True
  | .c x => noC id x
  | .agg cs => noL id cs
  | .tup bs => noB id bs
  | .mark none => True
  | .mark (some i) => i ≠ id
def noS (id : Nat) : Slots → Prop
  | [] => True
  | (_, x) :: r => noA id x ∧ noS id r
def noO (id : Nat) : List AObj → Prop
  | [] => True
  | .var cs :: r => noL id cs ∧ noO id r
  | .arr _ _ _ _ :: r => noO id r
  | .dfr :: r => noO id r
  | .loop L :: r => noS id L.sl ∧ noO id r
  | .map es :: r => noL id (es.map (·.2)) ∧ noO id r
  | .hole :: r => noO id r
def SubN (id : Nat) (sl : Slots) : Slots → Prop
  | [] => True
  | (d, x) :: r => getS sl d = x ∧ noA id x ∧ SubN id sl r
attribute [go_sem] noC noL noB noA noS noO SubN
section
variable {n k : Nat} {sl sl' : Slots} {H : List AObj} {S : Mem} {m : List Loc} {B : Nat} {w : World} {id : Nat}
theorem noL_mem : ∀ {cs : List Cell}, noL id cs → ∀ c, c ∈ cs → noC id c
  | [], _, c, hc => by simp at hc
  | d :: cs, h, c, hc => by
    rcases List.mem_cons.1 hc with rfl | hc
    · exact h.1
    · exact noL_mem h.2 c hc
theorem noB_mem : ∀ {bs : List (Bool × List Cell)}, noB id bs → ∀ b, b ∈ bs → noL id b.2
  | [], _, b, hb => by simp at hb
  | (f, cs) :: r, h, b, hb => by
    rcases List.mem_cons.1 hb with rfl | hb
    · exact h.1
    · exact noB_mem h.2 b hb
theorem noS_get : ∀ {sl : Slots}, noS id sl → ∀ d, noA id (getS sl d)
  | [], _, d => trivial
  | (d', x) :: r, h, d => by
    simp only [getS]
    split
    · exact h.1
    · exact noS_get h.2 d
theorem noO_get : ∀ {H : List AObj}, noO id H → ∀ (i : Nat) o, H[i]? = some o → match o with
    | .var cs => noL id cs
    | .loop L => noS id L.sl
    | .map es => noL id (es.map (·.2))
    | _ => True
  | [], _, i, o, h => by simp at h
  | o :: r, h, 0, o', ho => by
    simp at ho; subst ho
    cases o <;> first | exact h.1 | trivial
  | o :: r, h, i + 1, o', ho => by
    have h' : noO id r := by cases o <;> first | exact h.2 | exact h
    exact noO_get h' i o' (by rwa [List.getElem?_cons_succ] at ho)
theorem VC.drop {c : Cell} {v : Value} (h : VC S m H c v) (hn : noC id c) : VC S (m.set id (.nil none)) (H.set id .hole) c v := by
  cases c with
  | p x => exact h
  | pp x => exact h
  | own i n =>
    obtain ⟨T, size, frz, es, l, h1, h2, h3⟩ := h
    exact ⟨T, size, frz, es, l, by rw [getElem?_set_ne _ _ _ _ (Ne.symm hn)]; exact h1, by rw [getElem?_set_ne _ _ _ _ (Ne.symm hn)]; exact h2, h3⟩
  | ep i n j off =>
    obtain ⟨T, size, frz, es, l, h1, h2, h3⟩ := h
    exact ⟨T, size, frz, es, l, by rw [getElem?_set_ne _ _ _ _ (Ne.symm hn)]; exact h1, by rw [getElem?_set_ne _ _ _ _ (Ne.symm hn)]; exact h2, h3⟩
  | room i n =>
    obtain ⟨T, size, frz, es, l, h1, h2, h3⟩ := h
    exact ⟨T, size, frz, es, l, by rw [getElem?_set_ne _ _ _ _ (Ne.symm hn)]; exact h1, by rw [getElem?_set_ne _ _ _ _ (Ne.symm hn)]; exact h2, h3⟩
  | ptr i off =>
    obtain ⟨b, cap, cs, h1, h2, h3⟩ := h
    exact ⟨b, cap, cs, by rw [getElem?_set_ne _ _ _ _ (Ne.symm hn)]; exact h1, by rw [getElem?_set_ne _ _ _ _ (Ne.symm hn)]; exact h2, h3⟩
  | clo f first caps =>
    obtain ⟨fs, cs, h1, h2, h3, h4⟩ := h
    refine ⟨fs, cs, h1, h2, h3, fun i q u hq hu => ?_⟩
    obtain ⟨b, cap, ds, k1, k2, k3⟩ := h4 i q u hq hu
    have := hn q (List.mem_of_getElem? hq)
    exact ⟨b, cap, ds, by rw [getElem?_set_ne _ _ _ _ (Ne.symm this)]; exact k1, by rw [getElem?_set_ne _ _ _ _ (Ne.symm this)]; exact k2, k3⟩
  | yld i =>
    obtain ⟨b, cap, L, h1, h2, h3⟩ := h
    exact ⟨b, cap, L, by rw [getElem?_set_ne _ _ _ _ (Ne.symm hn)]; exact h1, by rw [getElem?_set_ne _ _ _ _ (Ne.symm hn)]; exact h2, h3⟩
  | mp i =>
    obtain ⟨b, cap, L, h1, h2, h3⟩ := h
    exact ⟨b, cap, L, by rw [getElem?_set_ne _ _ _ _ (Ne.symm hn)]; exact h1, by rw [getElem?_set_ne _ _ _ _ (Ne.symm hn)]; exact h2, h3⟩
theorem VCs.drop {cs : List Cell} {vs : List Value} (h : VCs S m H cs vs) (hn : noL id cs) : VCs S (m.set id (.nil none)) (H.set id .hole) cs vs :=
  ⟨h.1, fun i c v a b => (h.2 i c v a b).drop (noL_mem hn c (List.mem_of_getElem? a))⟩
theorem VA.drop {x : AV} {v : Value} (h : VA S m H x v) (hn : noA id x) : VA S (m.set id (.nil none)) (H.set id .hole) x v := by
  cases x with
  | any => trivial
  | c x => exact VC.drop h hn
  | agg cs => obtain ⟨vs, h1, h2⟩ := h; exact ⟨vs, h1, h2.drop hn⟩
  | tup bs =>
    obtain ⟨vs, h1, h2, h3⟩ := h
    refine ⟨vs, h1, h2, fun i b u hb hu => ?_⟩
    have g := noB_mem hn b (List.mem_of_getElem? hb)
    have g' := h3 i b u hb hu
    obtain ⟨f, cs⟩ := b
    cases f with
    | false => obtain ⟨c, e1, e2⟩ := g'; subst e1; exact ⟨c, rfl, e2.drop g.1⟩
    | true => obtain ⟨q, e1, e2⟩ := g'; exact ⟨q, e1, e2.drop g⟩
  | mark o => trivial
theorem Sim.drop (s : Sim S m H B w) {T size frz : Nat} {es : List (List PV)} (ho : H[id]? = some (.arr T size frz es)) (hn : noO id H) : Sim S (m.set id (.nil none)) (H.set id .hole) B w := by
  have hid : id < H.length := (List.getElem?_eq_some_iff.1 ho).1
  have hidm : id < m.length := by rw [s.len]; exact hid
  refine ⟨by simp [s.len], s.mem, s.base, fun i x y hx hy => ?_, fun i j b' c' d' hi hj => ?_⟩
  · by_cases hi : id = i
    · subst hi
      rw [List.getElem?_set_self hid] at hx
      rw [List.getElem?_set_self hidm] at hy
      cases hx; cases hy
      trivial
    · rw [getElem?_set_ne _ _ _ _ hi] at hx hy
      have hx' := s.obj i x y hx hy
      have hno := noO_get hn i x hx
      cases x with
      | var cs =>
        cases y with
        | nil A => exact hx'
        | at_ b' c' =>
          obtain ⟨h1, h2, cur, T, h3, h4⟩ := hx'
          exact ⟨h1, h2, cur, T, h3, h4.drop hno⟩
      | arr T size frz es => cases y <;> exact hx'
      | dfr => cases y <;> exact hx'
      | hole => cases y <;> exact hx'
      | loop L =>
        cases y with
        | nil A => exact hx'
        | at_ b' c' =>
          obtain ⟨h1, fn, tmps, bd, h2, h5, h6⟩ := hx'
          exact ⟨h1, fn, tmps, bd, h2, h5, fun d => (h6 d).drop (noS_get hno d)⟩
      | map es =>
        cases y with
        | nil A => exact hx'
        | at_ b' c' =>
          obtain ⟨h1, ents, clock, h2, h3, h4⟩ := hx'
          exact ⟨h1, ents, clock, h2, h3, fun i k c e' hi' he => ⟨(h4 i k c e' hi' he).1, (h4 i k c e' hi' he).2.drop (noL_mem hno c (List.mem_map.2 ⟨(k, c), List.mem_of_getElem? hi', rfl⟩))⟩⟩
  · by_cases h1 : id = i
    · subst h1
      rw [List.getElem?_set_self hidm] at hi
      cases hi
    · rw [getElem?_set_ne _ _ _ _ h1] at hi
      by_cases h2 : id = j
      · subst h2
        rw [List.getElem?_set_self hidm] at hj
        cases hj
      · rw [getElem?_set_ne _ _ _ _ h2] at hj
        exact s.inj i j b' c' d' hi hj
theorem SubN_get {sl : Slots} : ∀ {sl' : Slots}, SubN id sl sl' → ∀ d, getS sl' d = .any ∨ (getS sl' d = getS sl d ∧ noA id (getS sl' d))
  | [], _, d => .inl rfl
  | (d', x) :: r, h, d => by
    simp only [getS]
    by_cases hd : d = d'
    · subst hd
      rw [if_pos rfl]
      exact .inr ⟨h.1.symm, h.2.1⟩
    · rw [if_neg hd]
      exact SubN_get h.2.2 d
theorem Sub.drop (id : Nat) {T size frz : Nat} {es : List (List PV)} (hk : k ≤ id) (ho : H[id]? = some (.arr T size frz es)) (hn : noO id H) (hs : SubN id sl sl') (hd : keepD H.length (getS sl DEF) (getS sl' DEF)) : Sub n k sl H sl' (H.set id .hole) := by
  rintro cx rfl a w ⟨S, m, s, e, b, r⟩
  refine ⟨S, m.set id (.nil none), s.drop ho hn, ?_, b, ?_, r.big, r.size, fun d => ?_⟩
  · refine ⟨e.mem, e.old, fun i o h hf => ?_, fun i T size frz es l h h' => ?_⟩
    · have hlt : i < cx.H0.length := (List.getElem?_eq_some_iff.1 h).1
      obtain ⟨⟨o', a, a'⟩, b⟩ := e.fix i o h hf
      exact ⟨⟨o', by rw [getElem?_set_ne _ _ _ _ (by omega)]; exact a, a'⟩, fun l hl => by rw [getElem?_set_ne _ _ _ _ (by omega)]; exact b l hl⟩
    · have hlt : i < cx.H0.length := (List.getElem?_eq_some_iff.1 h).1
      obtain ⟨f', es', l', a, b, c, d⟩ := e.arr i T size frz es l h h'
      exact ⟨f', es', l', by rw [getElem?_set_ne _ _ _ _ (by omega)]; exact a, by rw [getElem?_set_ne _ _ _ _ (by omega)]; exact b, c, d⟩
  · have h1 := r.defers.keep hd
    rw [show m.take H.length = m by rw [← s.len, List.take_length], List.take_length] at h1
    have h2 := SubN_get hs DEF
    generalize getS sl' DEF = y at h1 h2
    match y, h1 with
    | .mark none, h1 => exact h1
    | .mark (some i), ⟨g1, bb, c, g2, g3, g4⟩ =>
      have hne : i ≠ id := by
        rcases h2 with h2 | ⟨_, h2⟩
        · cases h2
        · exact h2
      exact ⟨g1, bb, c, by rw [getElem?_set_ne _ _ _ _ (Ne.symm hne)]; exact g2, by rw [getElem?_set_ne _ _ _ _ (Ne.symm hne)]; exact g3, g4⟩
    | .any, h1 => exact h1
    | .c _, h1 => exact h1
    | .agg _, h1 => exact h1
    | .tup _, h1 => exact h1
  · rcases SubN_get hs d with h | ⟨h1, h2⟩
    · rw [h]; trivial
    · rw [h1] at h2 ⊢; exact (r.slot d).drop h2
end
/-! ### A region in the text's order, by a table -/
section
variable {P : Program} {ops : Array Oper} {tab : List Row} {n : Nat} {cx : Cx}
theorem runE_sound {Q : Sig → List AObj → Prop} {Q' : Exit → Act → World → Prop} (hn : ∀ (j : Nat) (o : Oper), ops[j]? = some o → ∀ d, o.dst = some d → d < n) (hq : ∀ σ H a w, InF cx n σ H a w → Q σ H → Q' .normal a w) :
    ∀ (c k : Nat) (σ : Sig) (H : List AObj) (a : Act) (w : World), InF cx n σ H a w → runE P ops tab Q c k σ H → wpOpsIn (FR cx.ro) 0 P ops Q' (List.range' k c) a w
  | 0, _, σ, H, a, w, hin, h => hq σ H a w hin h
  | c + 1, k, σ, H, a, w, hin, h => by
    rw [List.range'_succ, wpOpsIn_cons]
    exact stE_wp hn hin h fun σ' H' a' w' hin' h' => runE_sound hn hq c (k + 1) σ' H' a' w' hin' h'
def dstB (n : Nat) (ops : Array Oper) : Bool := ops.all fun o => match o.dst with | some d => decide (d < n) | none => true
theorem AW.text {k : Nat} {sl : Slots} {H : List AObj} {Q : Exit → Slots → List AObj → Prop} {id : Nat} (tab : List Row) (hB : dstB n ops = true) (h : dOps P ops ops.toList tab sl H (Q .normal)) : AW P n k (.region id ops false) Q sl H := fun cx hk a w hin => by
  have hn : ∀ (j : Nat) (o : Oper), ops[j]? = some o → ∀ d, o.dst = some d → d < n := fun j o hj d hd => by
    have := Array.all_eq_true_iff_forall_mem.1 hB o (Array.mem_of_getElem? hj)
    simpa [hd] using this
  obtain ⟨S, m, s, e, b, r⟩ := hin
  have hd : InF cx n (getS sl) H a w := ⟨S, m, s, e, b, ⟨r.defers, r.big, r.size, r.slot⟩⟩
  have h1 := runE_of_dOps (tab := tab) (ops := ops) ops.toList 0 tab sl H (fun j => by simp) (fun j => by simp) h
  refine wpIn_region ?_
  have := runE_sound (tab := tab) (P := P) (ops := ops) (n := n) (cx := cx) (Q := fun σ H => ∃ sl', getS sl' = σ ∧ Q .normal sl' H) (Q' := fun e a' w' => ∃ sl' H', InSt cx n sl' H' a' w' ∧ Q e sl' H') hn (by
    rintro σ H a w ⟨S, m, s, e, b, r⟩ ⟨sl', rfl, hq⟩
    exact ⟨sl', H, ⟨S, m, s, e, b, ⟨r.defers, r.big, r.size, r.slot⟩⟩, hq⟩) ops.toList.length 0 (getS sl) H a w hd h1
  rw [List.range_eq_range', ← Array.length_toList]
  exact this
variable {k : Nat} {sl : Slots} {H : List AObj} {Q : Exit → Slots → List AObj → Prop} {y : Code} {id : Nat} {l : List Oper}
theorem AW.v (tab : List Row) (hB : dstB n l.toArray = true) (h : ∀ K : Slots → List AObj → Prop, (∀ sl' H', AW P n k y Q sl' H' → K sl' H') → dOps P l.toArray l tab sl H K) : AW P n k (.seq (.region id l.toArray false) y) Q sl H :=
  AW.seq (AW.text tab hB (h _ fun _ _ h => h))
theorem AW.vl (tab : List Row) (hB : dstB n l.toArray = true) (h : ∀ K : Slots → List AObj → Prop, (∀ sl' H', Q .normal sl' H' → K sl' H') → dOps P l.toArray l tab sl H K) : AW P n k (.region id l.toArray false) Q sl H :=
  AW.text tab hB (h _ fun _ _ h => h)
end
end Go.Aw
