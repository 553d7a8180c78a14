import Derived.Test.YtnibihjlclelgaaAw24
import Derived.Test.YtnibihjlclelgaaAw25
import Derived.ScopeJumps
/-
  An abstract memory for walks, part 27: a nil slice in a variable's cell, wherever it stands, becomes an array of ours.
-/
set_option linter.unusedVariables false
set_option linter.unusedSimpArgs false
namespace Go.Aw
variable {n k : Nat} {sl : Slots} {H : List AObj}
theorem VCs.set {S : Mem} {m : List Loc} {H : List AObj} {cs : List Cell} {vs : List Value} (h : VCs S m H cs vs) {j : Nat} {c : Cell} {v : Value} (hv : vs[j]? = some v) (hc : VC S m H c v) : VCs S m H (cs.set j c) vs := by
  refine ⟨by rw [List.length_set]; exact h.1, fun i x u hx hu => ?_⟩
  by_cases hij : j = i
  · subst hij
    rw [hv] at hu; cases hu
    have hl : j < cs.length := by rw [h.1]; exact (List.getElem?_eq_some_iff.1 hv).1
    rw [List.getElem?_set_self hl] at hx
    cases hx; exact hc
  · rw [getElem?_set_ne _ _ _ _ hij] at hx
    exact h.2 i x u hx hu
theorem Sub.promoteAt (id j T size : Nat) {cs : List Cell} (hs : 0 < size) (hd : H[id]? = some (.var cs)) (hj : cs[j]? = some (.p (.sl true []))) : Sub n k sl H sl (H.set id (.var (cs.set j (.own H.length 0))) ++ [.arr T size 0 []]) := by
  rintro cx hk a w ⟨S, m, s, e, b, r⟩
  obtain ⟨l, hl, hO⟩ := s.loc hd
  cases l with
  | nil A => exact hO.elim
  | at_ bb cap =>
    obtain ⟨h1, h2, cur, T0, h3, h4⟩ := hO
    have hjl : j < cur.length := by rw [← h4.1]; exact (List.getElem?_eq_some_iff.1 hj).1
    have hcj : cur[j]? = some cur[j] := List.getElem?_eq_getElem hjl
    have hv := h4.2 j _ _ hj hcj
    obtain ⟨A, hA⟩ := VP.empty_form (show VP S (.sl true []) _ from hv) rfl
    obtain ⟨s2, e2, hv2⟩ := s.newNil T size hs A
    have hid : id < H.length := (List.getElem?_eq_some_iff.1 hd).1
    have hd2 : (H ++ [.arr T size 0 []])[id]? = some (.var cs) := by rw [List.getElem?_append_left hid]; exact hd
    have hl2 : (m ++ [.nil A])[id]? = some (.at_ bb cap) := by rw [List.getElem?_append_left (by rw [s.len]; exact hid)]; exact hl
    rw [hA] at hcj
    obtain ⟨s3, e3⟩ := s2.setVar (cs' := cs.set j (.own H.length 0)) hd2 hl2 (w' := w) h3 (fun _ _ => rfl) rfl ((h4.ext e2).set hcj hv2)
    have hset : (H ++ [AObj.arr T size 0 []]).set id (.var (cs.set j (.own H.length 0))) = H.set id (.var (cs.set j (.own H.length 0))) ++ [.arr T size 0 []] := by
      rw [List.set_append, if_pos hid]
    rw [hset] at s3 e3
    have ee := e2.trans e3
    exact ⟨S, _, s3, e.trans ee, b, r.ext ee⟩
end Go.Aw

/-
  An abstract memory for walks, part 28: a variable that is made and written at once, whatever its type's zero is: two operations, one behind the other, at a region's end.
-/
set_option linter.unusedVariables false
set_option linter.unusedSimpArgs false
namespace Go.Aw
open Go.RowKit
theorem Sim.newVarAt {S : Mem} {m : List Loc} {H : List AObj} {B : Nat} {w w' : World} (s : Sim S m H B w) (cs : List Cell) (vs : List Value) (T : Nat) (h : VCs S m H cs vs)
    (hold : ∀ k, k < w.heap.size → w'.heap[k]? = w.heap[k]?) (hsz : w'.heap.size = w.heap.size + 1) (hnew : w'.heap[w.heap.size]? = some (.cells vs.toArray T (0, 0))) :
    Sim S (m ++ [.at_ w.heap.size 0]) (H ++ [.var cs]) B w' ∧ Ext B S m H S (m ++ [.at_ w.heap.size 0]) (H ++ [.var cs]) ∧
      VC S (m ++ [.at_ w.heap.size 0]) (H ++ [.var cs]) (.ptr H.length 0) (.pointer (some ⟨w.heap.size, 0, none⟩)) := by
  have e := Ext.push B S m H s.len (.var cs) (.at_ w.heap.size 0)
  obtain ⟨s1, _⟩ := s.grow (S' := S) (w' := w') hold (by omega) (fun _ _ _ => rfl) (fun b o v hb hv => by have := s.newmem hb o; rw [this] at hv; cases hv)
  refine ⟨s1.push _ _ ⟨s.base, fun o => s.newmem (Nat.le_refl _) o, vs, T, hnew, h.ext e⟩ ?_, e, ?_⟩
  · intro b c hbc i c'
    cases hbc
    exact s.noblock (Nat.le_refl _) i c'
  · exact ⟨w.heap.size, 0, cs, by simp, by rw [← s.len]; simp, rfl⟩
section
variable {P : Program} {n k : Nat} {cx : Cx} {sl : Slots} {H : List AObj} {a : Act} {w : World}
def aNew (P : Program) (n : Nat) (sl : Slots) (H : List AObj) (o o2 : Oper) (K : Slots → List AObj → Prop) : Prop :=
  ∃ (t : TypeId) (d : Nat) (y : Operand) (z : Value) (cs : List Cell),
    o.op = .alloc t ∧ o2.op = .store t (.tmp d) y ∧ o.dst = some d ∧ d < n ∧ y ≠ .tmp d ∧ o.guard = none ∧ o2.guard = none ∧ o2.dst = none ∧
    (P.info? t).bind (·.zero) = some z ∧ z.cells.size = P.cellsOf t ∧ 0 < P.cellsOf t ∧ cellsA (ev sl y) = some cs ∧ cs.length = P.cellsOf t ∧
    K ((d, .c (.ptr H.length 0)) :: sl) (H ++ [.var cs])
theorem new_ok {ops : Array Oper} {o o2 : Oper} {rest : List Oper} {Q : Exit → Act → World → Prop} {K : Slots → List AObj → Prop} (hin : InSt cx n sl H a w) (h : aNew P n sl H o o2 K)
    (hrest : ∀ sl' H' a' w', InSt cx n sl' H' a' w' → K sl' H' → wpListIn (FR cx.ro) 0 P ops Q rest a' w') : wpListIn (FR cx.ro) 0 P ops Q (o :: o2 :: rest) a w := by
  obtain ⟨t, d, y, z, cs, h1, h2, h3, hd, hy, h4, h5, h6, hz, hzs, hp, hcs, hcl, hk⟩ := h
  obtain ⟨S, m, s, e0, bl, r⟩ := hin
  have hvs := cellsA_ok (r.eval y) hcs
  have hzr : ∀ w : World, (zeroValue t).run P w = .ok z w := fun w => by
    cases hi : P.info? t with
    | none => simp [hi] at hz
    | some i =>
      cases hzz : i.zero with
      | none => simp [hi, hzz] at hz
      | some v => simp [hi, hzz] at hz; subst hz; simp [zeroValue, typeInfo, hi, hzz]
  have hal : (Instr.alloc t true (.tuple #[])).run P w = .ok (.pointer (some ⟨w.heap.size, 0, none⟩)) (w.alloc (.cells z.cells t)) := by
    simp [Instr.alloc, hzr, newVar, newRow]
  have hev1 : (a.put o.dst (.pointer (some ⟨w.heap.size, 0, none⟩))).eval (.tmp d) = .pointer (some ⟨w.heap.size, 0, none⟩) := by
    rw [h3]
    simp [Act.eval, Act.put, Array.getD_eq_getD_getElem?, r.size, hd]
  have hev2 : (a.put o.dst (.pointer (some ⟨w.heap.size, 0, none⟩))).eval y = a.eval y := by
    rw [h3]
    cases y with
    | tmp x =>
      have : d ≠ x := fun h => hy (by rw [h])
      simp [Act.eval, Act.put, Array.getD_eq_getD_getElem?, Array.getElem?_setIfInBounds_ne this]
    | _ => rfl
  have husz : (a.eval y).cells.size = P.cellsOf t := by have := hvs.1; simp at this; omega
  have hg1 : (w.alloc (.cells z.cells t)).heap[w.heap.size]? = some (.cells z.cells.toList.toArray t (0, 0)) := by
    rw [Array.toArray_toList]; exact heap_alloc_new w _
  have hst := run_storeVar_at (P := P) (w.alloc (.cells z.cells t)) w.heap.size 0 t t (a.eval y) z.cells.toList hg1 (.inl rfl) husz hp (by simp; omega) hvs.one
  have hcells : (List.take 0 z.cells.toList ++ (a.eval y).cells.toList ++ List.drop (0 + (a.eval y).cells.size) z.cells.toList).toArray = (a.eval y).cells.toList.toArray := by
    rw [List.take_zero, List.nil_append, List.drop_of_length_le (by simp; omega), List.append_nil]
  rw [hcells] at hst
  generalize hw2 : (w.alloc (.cells z.cells t)).setRow w.heap.size (a.eval y).cells.toList.toArray = w2 at hst
  have hold : ∀ k, k < w.heap.size → w2.heap[k]? = w.heap[k]? := fun k hk => by
    rw [← hw2, setRow_other _ _ k _ (by omega)]; exact heap_alloc_old w _ hk
  have hsz2 : w2.heap.size = w.heap.size + 1 := by rw [← hw2]; simp [World.setRow]
  have hnew : w2.heap[w.heap.size]? = some (.cells (a.eval y).cells.toList.toArray t (0, 0)) := by
    rw [← hw2]; exact setRow_heap _ _ _ _ t (0, 0) hg1
  obtain ⟨s', e', hv'⟩ := s.newVarAt cs (a.eval y).cells.toList t hvs hold hsz2 hnew
  have hbel : Bel cx.B w w2 := by
    have b1 : Bel cx.B w (w.alloc (.cells z.cells t)) := (Bel.refl cx.B w).alloc s.base _
    rw [← hw2]; exact b1.trans (below_setRow _ s.base)
  obtain ⟨sl1, r1, hk1⟩ := aput_ok (x := .c (.ptr H.length 0)) (v := .pointer (some ⟨w.heap.size, 0, none⟩)) (dst := o.dst) (K := fun sl' => sl' = (d, .c (.ptr H.length 0)) :: sl) (r.ext e') hv' (by rw [h3]; exact ⟨hd, rfl⟩)
  subst hk1
  unfold wpListIn
  rw [if_pos (by simp [Region.wanted, h4])]
  refine Oper.wpIn_of_wp (by rw [h1]; intro c hc; cases hc) ?_
  unfold Oper.wp execOp
  rw [h1]
  simp only [Sem.run_bind, hal, Result.andThen_ok, Sem.run_pure, Oper.upon]
  unfold wpListIn
  rw [if_pos (by simp [Region.wanted, h5])]
  refine Oper.wpIn_of_wp (by rw [h2]; intro c hc; cases hc) ?_
  have hput : ((a.put o.dst (.pointer (some ⟨w.heap.size, 0, none⟩))).put o2.dst undef) = a.put o.dst (.pointer (some ⟨w.heap.size, 0, none⟩)) := by rw [h6]; rfl
  unfold Oper.wp execOp
  rw [h2]
  simp only [hev1, hev2, Instr.storeAt, Instr.sureAddr, Sem.run_bind, Sem.run_pure, Result.andThen_ok, hst, Oper.upon]
  rw [hput]
  exact hrest _ _ _ w2 ⟨S, _, s', e0.trans e', bl.trans hbel, r1⟩ hk
/-- Operations one by one. -/
def aSteps (P : Program) (n : Nat) (ops : Array Oper) : List Oper → Slots → List AObj → (Slots → List AObj → Prop) → Prop
  | [], sl, H, K => K sl H
  | o :: r, sl, H, K => aStep P false n ops o sl H fun sl' H' => aSteps P n ops r sl' H' K
theorem aSteps_ok {ops : Array Oper} {rest : List Oper} {Q : Exit → Act → World → Prop} : ∀ {l : List Oper} {sl : Slots} {H : List AObj} {a : Act} {w : World} {K : Slots → List AObj → Prop}, InSt cx n sl H a w → aSteps P n ops l sl H K →
    (∀ sl' H' a' w', InSt cx n sl' H' a' w' → K sl' H' → wpListIn (FR cx.ro) 0 P ops Q rest a' w') → wpListIn (FR cx.ro) 0 P ops Q (l ++ rest) a w
  | [], sl, H, a, w, K, hin, h, hq => hq sl H a w hin h
  | o :: r, sl, H, a, w, K, hin, h, hq => aStep_ok hin h fun sl' H' a' w' hi hk => aSteps_ok hi hk hq
theorem AW.new {Q : Exit → Slots → List AObj → Prop} {id : Nat} {ops : Array Oper} {l : List Oper} {o o2 : Oper} (hops : ops.toList = l ++ [o, o2])
    (h : aSteps P n ops l sl H fun sl2 H2 => aNew P n sl2 H2 o o2 (Q .normal)) : AW P n k (.region id ops false) Q sl H := fun cx hk a w hin => by
  refine wpIn_region_list ?_
  rw [hops]
  exact aSteps_ok hin h fun sl' H' a' w' hi hk => new_ok hi hk fun sl' H' a' w' hi hk => ⟨sl', H', hi, hk⟩
end
end Go.Aw

/-
  An abstract memory for walks, part 29: a scope in which the run jumps back to one label.
-/
set_option linter.unusedVariables false
set_option linter.unusedSimpArgs false
namespace Go.Aw
open Go.RowKit
section
variable {P : Program} {b : Frame} {a : Act} {cs : List Frame} {w : World} {kk : List Go.Item}
theorem stepR_scope {c : Code} : step P (lone (b.atR a (.code (.scope c) :: kk)) cs w) = .next (lone (b.atR a (.code c :: .inScope c :: kk)) cs w) :=
  step_lone_go (by simp [stepG, stepG.exec, Frame.atR])
theorem stepR_inScope {c : Code} : step P (lone (b.atR a (.inScope c :: kk)) cs w) = .next (lone (b.atR a kk) cs w) :=
  step_lone_go (by simp [stepG, stepG.exec, Frame.atR])
end
section
variable {P : Program} {n k : Nat} {sl : Slots} {H : List AObj} {Q : Exit → Slots → List AObj → Prop}
/-- As Q; by a goto to label l: J. -/
def AJump (l : Nat) (J : Slots → List AObj → Prop) (Q : Exit → Slots → List AObj → Prop) : Exit → Slots → List AObj → Prop
  | .goto l', sl, H => l' = l ∧ J sl H
  | e, sl, H => Q e sl H
theorem AW.scope {c rest : Code} (l : Nat) (hf : findLabel c l = some rest) {X : Type} (F : X → Slots) (G : X → List AObj) (μ : X → Nat)
    (first : AW P n k c (AJump l (fun sl' H' => ∃ y, Sub n k sl' H' (F y) (G y)) Q) sl H)
    (round : ∀ x, AW P n k rest (AJump l (fun sl' H' => ∃ y, μ y < μ x ∧ Sub n k sl' H' (F y) (G y)) Q) (F x) (G x)) : AW P n k (.scope c) Q sl H := fun cx hk a w hin => by
  intro b kk cs hro hb hr
  have hg : gotoIn l (.inScope c :: kk) = some (.code rest :: .inScope c :: kk) := by simp [gotoIn, hf]
  have key : ∀ N x a w, μ x = N → InSt cx n (F x) (G x) a w →
      ∃ e a' w', (∃ sl' H', InSt cx n sl' H' a' w' ∧ Q e sl' H') ∧ ArrivesIn (Machine.fenced P (FR cx.ro)) P (lone (b.atR a (.code rest :: .inScope c :: kk)) cs w) b kk cs e a' w' := by
    intro N
    induction N using Nat.strongRecOn with
    | _ N ih =>
      intro x a w hN hI
      obtain ⟨e, a₁, w₁, ⟨sl1, H1, hi, hq⟩, harr⟩ := round x cx hk a w hI b (.inScope c :: kk) cs hro hb hr
      cases e with
      | normal => exact ⟨.normal, a₁, w₁, ⟨sl1, H1, hi, hq⟩, StepsIn.trans harr (.one (fenced_calm hb hr rfl) stepR_inScope)⟩
      | exit id => exact ⟨.exit id, a₁, w₁, ⟨sl1, H1, hi, hq⟩, fun k' hk => harr.1 k' (by simp [exitTo, hk]), fun hr hk => harr.2 hr (by simp [exitTo, hk])⟩
      | goto l' =>
        obtain ⟨rfl, y, hlt, hsub⟩ := hq
        obtain ⟨e₂, a₂, w₂, hq₂, harr₂⟩ := ih (μ y) (hN ▸ hlt) y a₁ w₁ rfl (hsub cx hk a₁ w₁ hi)
        exact ⟨e₂, a₂, w₂, hq₂, .of_steps (harr.1 _ hg) harr₂⟩
      | ret => exact ⟨_, a₁, w₁, ⟨sl1, H1, hi, hq⟩, harr⟩
      | panic ch => exact ⟨_, a₁, w₁, ⟨sl1, H1, hi, hq⟩, harr⟩
      | outgrown => exact ⟨_, a₁, w₁, ⟨sl1, H1, hi, hq⟩, harr⟩
  obtain ⟨e, a₁, w₁, ⟨sl1, H1, hi, hq⟩, harr⟩ := first cx hk a w hin b (.inScope c :: kk) cs hro hb hr
  have hs : StepsIn (Machine.fenced P (FR cx.ro)) P (lone (b.atR a (.code (.scope c) :: kk)) cs w) (lone (b.atR a (.code c :: .inScope c :: kk)) cs w) := .one (fenced_calm hb hr rfl) stepR_scope
  cases e with
  | normal => exact ⟨.normal, a₁, w₁, ⟨sl1, H1, hi, hq⟩, .of_steps hs (StepsIn.trans harr (.one (fenced_calm hb hr rfl) stepR_inScope))⟩
  | exit id => exact ⟨.exit id, a₁, w₁, ⟨sl1, H1, hi, hq⟩, .of_steps hs ⟨fun k' hk => harr.1 k' (by simp [exitTo, hk]), fun hr hk => harr.2 hr (by simp [exitTo, hk])⟩⟩
  | goto l' =>
    obtain ⟨rfl, y, hsub⟩ := hq
    obtain ⟨e₂, a₂, w₂, hq₂, harr₂⟩ := key _ y a₁ w₁ rfl (hsub cx hk a₁ w₁ hi)
    exact ⟨e₂, a₂, w₂, hq₂, .of_steps hs (.of_steps (harr.1 _ hg) harr₂)⟩
  | ret => exact ⟨_, a₁, w₁, ⟨sl1, H1, hi, hq⟩, .of_steps hs harr⟩
  | panic ch => exact ⟨_, a₁, w₁, ⟨sl1, H1, hi, hq⟩, .of_steps hs harr⟩
  | outgrown => exact ⟨_, a₁, w₁, ⟨sl1, H1, hi, hq⟩, .of_steps hs harr⟩
end
end Go.Aw

/-
  An abstract memory for walks, part 30: a slice literal of ours whose elements keep what is known of their room; a variable at the end of memory that nobody writes any more becomes a place that nobody changes.
-/
set_option linter.unusedVariables false
set_option linter.unusedSimpArgs false
namespace Go.Aw
open Go.RowKit
section
variable {P : Program} {n k : Nat} {cx : Cx} {sl sl' : Slots} {H : List AObj} {S : Mem} {m : List Loc} {B : Nat} {w : World}

/-! ### A literal that keeps its elements' room -/
def pureCs : List Cell → Option (List PV)
  | [] => some []
  | .p x :: cs => match pureCs cs with
    | some xs => some (x :: xs)
    | none => none
  | _ => none
theorem pureCs_ok : ∀ {cs : List Cell} {vs : List Value} {ps : List PV}, VCs S m H cs vs → pureCs cs = some ps → VPs S ps vs
  | [], vs, ps, h, hp => by
    simp [pureCs] at hp; subst hp
    have : vs = [] := List.eq_nil_of_length_eq_zero (by simpa using h.1.symm)
    subst this; exact VPs.nil S
  | .p x :: cs, [], ps, h, hp => by have := h.1; simp at this
  | .p x :: cs, v :: vs, ps, h, hp => by
    simp only [pureCs] at hp
    split at hp
    · rename_i xs hx
      cases hp
      exact VPs.cons (h.2 0 _ v rfl rfl) (pureCs_ok ⟨by simpa using h.1, fun i c u a b => h.2 (i + 1) c u (by simpa using a) (by simpa using b)⟩ hx)
    · cases hp
  | .own _ _ :: cs, vs, ps, h, hp => by simp [pureCs] at hp
  | .ptr _ _ :: cs, vs, ps, h, hp => by simp [pureCs] at hp
  | .ep _ _ _ _ :: cs, vs, ps, h, hp => by simp [pureCs] at hp
  | .pp _ :: cs, vs, ps, h, hp => by simp [pureCs] at hp
  | .clo _ _ _ :: cs, vs, ps, h, hp => by simp [pureCs] at hp
  | .yld _ :: cs, vs, ps, h, hp => by simp [pureCs] at hp
  | .room _ _ :: cs, vs, ps, h, hp => by simp [pureCs] at hp
  | .mp _ :: cs, vs, ps, h, hp => by simp [pureCs] at hp
  | .vs _ _ :: cs, vs, ps, h, hp => by simp [pureCs] at hp
  | .tl _ _ _ _ :: cs, vs, ps, h, hp => by simp [pureCs] at hp
def aElemsF : List AV → Option (List (List PV))
  | [] => some []
  | x :: xs => match cellsA x with
    | some cs => match pureCs cs, aElemsF xs with
      | some ps, some es => some (ps :: es)
      | _, _ => none
    | none => none
theorem aElemsF_ok : ∀ {xs : List AV} {vs : List Value} {es : List (List PV)}, (xs.length = vs.length ∧ ∀ (i : Nat) x v, xs[i]? = some x → vs[i]? = some v → VA S m H x v) → aElemsF xs = some es →
    es.length = vs.length ∧ ∀ (i : Nat) e v, es[i]? = some e → vs[i]? = some v → VPs S e v.cells.toList
  | [], vs, es, hv, h => by
    simp [aElemsF] at h
    subst h
    exact ⟨by simpa using hv.1, fun i e v a => by simp at a⟩
  | x :: xs, [], es, hv, h => by simp at hv
  | x :: xs, v :: vs, es, hv, h => by
    have h0 := hv.2 0 x v rfl rfl
    simp only [aElemsF] at h
    split at h
    · rename_i cs hc
      split at h
      · rename_i ps es' h1 h2
        cases h
        obtain ⟨l2, p2⟩ := aElemsF_ok (vs := vs) ⟨by simpa using hv.1, fun i x' v' a b => hv.2 (i + 1) x' v' (by simpa using a) (by simpa using b)⟩ h2
        refine ⟨by simp [l2], fun i e v' a b => ?_⟩
        cases i with
        | zero => simp at a b; subst a; subst b; exact pureCs_ok (cellsA_ok h0 hc) h1
        | succ i => exact p2 i e v' (by simpa using a) (by simpa using b)
      · cases h
    · cases h
def aFull (P : Program) (n : Nat) (sl : Slots) (H : List AObj) (o : Oper) (K : Slots → List AObj → Prop) : Prop :=
  o.guard = none ∧ match o.op with
  | .buildSlice t len ps => match P.underlying t with
    | some (.slice e) => 0 < P.cellsOf e ∧ len * P.cellsOf e ≤ 16777216 ∧ (ps.toList.map fun q => (q.1, ev sl q.2)).map (·.1) = List.range len ∧ 0 < len ∧ (zeroA P e).isSome = true ∧
      match aElemsF ((ps.toList.map fun q => (q.1, ev sl q.2)).map (·.2)) with
      | some es => allLen (P.cellsOf e) es ∧ aput n o.dst (.c (.own H.length es.length)) sl fun sl' => K sl' (H ++ [.arr e (P.cellsOf e) 0 es])
      | none => False
    | _ => False
  | _ => False
theorem aFull_ok {ops : Array Oper} {o : Oper} {rest : List Oper} {Q : Exit → Act → World → Prop} {K : Slots → List AObj → Prop} {a : Act} (hin : InSt cx n sl H a w) (h : aFull P n sl H o K)
    (hrest : ∀ sl' H' a' w', InSt cx n sl' H' a' w' → K sl' H' → wpListIn (FR cx.ro) 0 P ops Q rest a' w') : wpListIn (FR cx.ro) 0 P ops Q (o :: rest) a w := by
  obtain ⟨S, m, s, e0, bl, r⟩ := hin
  unfold aFull at h
  obtain ⟨hg, h⟩ := h
  split at h
  · rename_i t len ps0 hop
    split at h
    · rename_i e hu
      have hp := evs_Parts r.eval ps0
      generalize hps : (ps0.toList.map fun q => (q.1, ev sl q.2)) = ps at h hp
      generalize hvs : (ps0.map fun (i, x) => (i, a.eval x)) = vs at hp
      obtain ⟨hp0, hbig, hidx, hlpos, hz, h⟩ := h
      split at h
      · rename_i es hes
        obtain ⟨hul, hk⟩ := h
        obtain ⟨it, hi, hsz, _⟩ := info_of_cells hp0
        have hlen : len = vs.size := by
          have := congrArg List.length hidx
          simp at this
          rw [← this, hp.1]; simp
        obtain ⟨zv, hzz⟩ : ∃ z, it.zero = some z := by
          unfold zeroA at hz
          cases h : it.zero with
          | none => simp [hi, h] at hz
          | some z => exact ⟨z, rfl⟩
        obtain ⟨l1, p1⟩ := aElemsF_ok (S := S) (m := m) (H := H) (vs := vs.toList.map (·.2)) ⟨by simp [hp.1], fun i x v hx hv => by
          rw [List.getElem?_map] at hx hv
          cases hpi : ps[i]? with
          | none => simp [hpi] at hx
          | some p =>
            cases hvi : vs.toList[i]? with
            | none => rw [hvi] at hv; simp at hv
            | some q =>
              rw [hvi] at hv
              simp [hpi] at hx hv
              subst hx; subst hv
              exact (hp.2 i p q hpi hvi).2⟩ hes
        have hel : es.length = len := by rw [l1, hlen]; simp
        have hpairs : vs.toList = ((vs.toList.map (·.2)).zipIdx 0).map fun x => (x.2, x.1) := by
          apply List.ext_getElem?
          intro i
          simp only [List.getElem?_map, List.getElem?_zipIdx]
          cases hvi : vs.toList[i]? with
          | none => simp
          | some q =>
            have hlt : i < ps.length := by rw [hp.1]; exact (List.getElem?_eq_some_iff.1 hvi).1
            have h1 := (hp.2 i _ q (List.getElem?_eq_getElem hlt) hvi).1
            have h2 : (ps.map (·.1))[i]? = (List.range len)[i]? := by rw [hidx]
            rw [List.getElem?_map, List.getElem?_eq_getElem hlt, List.getElem?_range (by rw [hlen]; rw [hp.1] at hlt; simpa using hlt)] at h2
            simp only [Option.map_some, Option.some.injEq] at h2
            have : q.1 = i := by rw [← h1, h2]
            simp [← this]
        have hvsz : ∀ v ∈ vs.toList.map (·.2), v.cells.size = P.cellsOf e := fun v hv => by
          obtain ⟨i, hi⟩ := List.getElem?_of_mem hv
          have hlt : i < es.length := by rw [l1]; exact (List.getElem?_eq_some_iff.1 hi).1
          have := (p1 i es[i] v (List.getElem?_eq_getElem hlt) hi).1
          rw [hul _ (List.getElem_mem hlt)] at this
          simpa using this.symm
        have hflat := flat_VPs l1 p1
        have hcl : ((vs.toList.map (·.2)).flatMap fun v => v.cells.toList).length = len * P.cellsOf e := by rw [← hflat.1, flat_len hul, hel]
        have hrun : (Instr.buildSlice t len vs).run P w = .ok (.slice (some ⟨w.heap.size, 0, none⟩) len len) (w.alloc (.cells ((vs.toList.map (·.2)).flatMap fun v => v.cells.toList).toArray e)) := by
          refine run_buildSlice w t e len vs _ it zv hu hi hzz (by rw [hsz]; omega) (by rw [hsz]; exact Nat.ne_of_gt (Nat.mul_pos (by omega) hp0)) ?_
          rw [hsz]
          conv => lhs; rw [hpairs]
          refine Great.fill_whole hp0 _ _ hvsz ?_
          simp [hlen]
        have hcapm : len ≤ maxLen := by
          have : len * 1 ≤ len * P.cellsOf e := Nat.mul_le_mul_left _ hp0
          simp only [maxLen]; omega
        obtain ⟨s2, e2, hv⟩ := s.newArr e (P.cellsOf e) len es _ hp0 hul (by omega) hcapm hcl (by rw [hel, ← hcl, List.take_length]; exact hflat)
        rw [hel] at hv
        obtain ⟨sl2, r2, hk2⟩ := aput_ok (x := .c (.own H.length es.length)) (r.ext e2) (by rw [hel]; exact hv) hk
        unfold wpListIn
        rw [if_pos (by simp [Region.wanted, hg])]
        refine Oper.wpIn_of_wp (by rw [hop]; intro c hc; cases hc) ?_
        unfold Oper.wp execOp
        rw [hop]
        simp only [Sem.run_bind, hvs, hrun, Result.andThen_ok, Sem.run_pure, Oper.upon]
        exact hrest sl2 _ _ _ ⟨S, _, s2, e0.trans e2, bl.trans ((Bel.refl cx.B w).alloc s.base _), r2⟩ hk2
      · exact h.elim
    · exact h.elim
  · exact h.elim
theorem aops_okK {ow : Bool} {ops : Array Oper} {Q : Exit → Act → World → Prop} {rest : List Oper} : ∀ {l : List Oper} {sl : Slots} {H : List AObj} {a : Act} {w : World} {K : Slots → List AObj → Prop}, InSt cx n sl H a w → aops P ow n ops l sl H K →
    (∀ sl' H' a' w', InSt cx n sl' H' a' w' → K sl' H' → wpListIn (FR cx.ro) 0 P ops Q rest a' w') → wpListIn (FR cx.ro) 0 P ops Q (l ++ rest) a w
  | [], sl, H, a, w, K, hin, h, hq => hq sl H a w hin h
  | [o], sl, H, a, w, K, hin, h, hq => aStep_ok hin h fun sl' H' a' w' hi hk => hq sl' H' a' w' hi hk
  | o :: o2 :: rest', sl, H, a, w, K, hin, h, hq => by
    simp only [aops] at h
    split at h
    · rename_i hl
      exact aLit_ok hl hin h fun sl' H' a' w' hi hk => aops_okK hi hk hq
    · exact aStep_ok hin h fun sl' H' a' w' hi hk => aops_okK hi hk hq
theorem AW.full {Q : Exit → Slots → List AObj → Prop} {id : Nat} {l : List Oper} (pre : List Oper) (o : Oper) (post : List Oper) (hops : l = pre ++ o :: post)
    (h : aops P false n l.toArray pre sl H fun sl' H' => aFull P n sl' H' o fun sl2 H2 => aops P false n l.toArray post sl2 H2 (Q .normal)) : AW P n k (.region id l.toArray false) Q sl H := fun cx hk a w hin => by
  refine wpIn_region_list ?_
  rw [show l.toArray.toList = pre ++ o :: post by simpa using hops]
  exact aops_okK hin h fun sl' H' a' w' hi hk => aFull_ok hi hk fun sl' H' a' w' hi hk => aops_ok hi hk fun sl' H' a' w' hi hk => ⟨sl', H', hi, hk⟩

theorem AW.fullI {Q : Exit → Slots → List AObj → Prop} {id : Nat} {l : List Oper} {y : Code} (i : Nat) (o : Oper) (hi : l[i]? = some o)
    (h : ∀ K : Slots → List AObj → Prop, (∀ sl' H', AW P n k y Q sl' H' → K sl' H') → aops P false n l.toArray (l.take i) sl H fun sl' H' => aFull P n sl' H' o fun sl2 H2 => aops P false n l.toArray (l.drop (i + 1)) sl2 H2 K) : AW P n k (.seq (.region id l.toArray false) y) Q sl H :=
  AW.seq (AW.full (l.take i) o (l.drop (i + 1)) (by
    have hlt := (List.getElem?_eq_some_iff.1 hi).1
    have he : l[i] = o := (List.getElem?_eq_some_iff.1 hi).2
    rw [← he, ← List.drop_eq_getElem_cons hlt, List.take_append_drop]) (h _ fun _ _ h => h))

/-! ### A variable at the end of memory is written no more -/
theorem VC.pop {S' : Mem} {m1 : List Loc} {l : Loc} {x : AObj} (hle : S.le S') (hl : m1.length = H.length) {c : Cell} {v : Value} (hn : noC H.length c) (h : VC S (m1 ++ [l]) (H ++ [x]) c v) : VC S' m1 H c v := by
  have key : ∀ {i : Nat} {o : AObj} {q : Loc}, i ≠ H.length → (H ++ [x])[i]? = some o → (m1 ++ [l])[i]? = some q → H[i]? = some o ∧ m1[i]? = some q := fun {i o q} hne hi hq => by
    have hlt : i < H.length := by
      have := (List.getElem?_eq_some_iff.1 hi).1
      simp at this; omega
    rw [List.getElem?_append_left hlt] at hi
    rw [List.getElem?_append_left (by omega)] at hq
    exact ⟨hi, hq⟩
  cases c with
  | p y => exact VP.mono (S := S) (x := y) hle h
  | pp cells =>
    obtain ⟨b, off, u, h1, h2⟩ := h
    exact ⟨b, off, u, h1, fun k x hk => ⟨hle _ _ _ (h2 k x hk).1, (h2 k x hk).2.mono hle⟩⟩
  | own i q =>
    obtain ⟨T, size, frz, es, l', h1, h2, h3⟩ := h
    obtain ⟨a, b⟩ := key hn h1 h2
    exact ⟨T, size, frz, es, l', a, b, h3⟩
  | ep i q j off =>
    obtain ⟨T, size, frz, es, l', h1, h2, h3⟩ := h
    obtain ⟨a, b⟩ := key hn h1 h2
    exact ⟨T, size, frz, es, l', a, b, h3⟩
  | room i q =>
    obtain ⟨T, size, frz, es, l', h1, h2, h3⟩ := h
    obtain ⟨a, b⟩ := key hn h1 h2
    exact ⟨T, size, frz, es, l', a, b, h3⟩
  | ptr i off =>
    obtain ⟨b', cap, cs, h1, h2, h3⟩ := h
    obtain ⟨a, b⟩ := key hn h1 h2
    exact ⟨b', cap, cs, a, b, h3⟩
  | clo f first caps =>
    obtain ⟨fs, cs, h1, h2, h3, h4⟩ := h
    refine ⟨fs, cs, h1, ⟨h2.1, fun i x v a b => (h2.2 i x v a b).mono hle⟩, h3, fun i q u hq hu => ?_⟩
    obtain ⟨b', cap, ds, k1, k2, k3⟩ := h4 i q u hq hu
    obtain ⟨a, b⟩ := key (hn q (List.mem_of_getElem? hq)) k1 k2
    exact ⟨b', cap, ds, a, b, k3⟩
  | yld i =>
    obtain ⟨b', cap, L, h1, h2, h3⟩ := h
    obtain ⟨a, b⟩ := key hn h1 h2
    exact ⟨b', cap, L, a, b, h3⟩
  | mp i =>
    obtain ⟨b', cap, es, h1, h2, h3⟩ := h
    obtain ⟨a, b⟩ := key hn h1 h2
    exact ⟨b', cap, es, a, b, h3⟩
  | vs i q =>
    obtain ⟨b', cap, es, h1, h2, h3⟩ := h
    obtain ⟨a, b⟩ := key hn h1 h2
    exact ⟨b', cap, es, a, b, h3⟩
  | tl i q j xs =>
    obtain ⟨T, size, frz, es, l', h1, h2, h3, h4, h5⟩ := h
    obtain ⟨a, b⟩ := key hn h1 h2
    exact ⟨T, size, frz, es, l', a, b, h3, h4, h5.mono hle⟩
theorem VCs.pop {S' : Mem} {m1 : List Loc} {l : Loc} {x : AObj} (hle : S.le S') (hl : m1.length = H.length) {cs : List Cell} {vs : List Value} (hn : noL H.length cs) (h : VCs S (m1 ++ [l]) (H ++ [x]) cs vs) : VCs S' m1 H cs vs :=
  ⟨h.1, fun i c v a b => (h.2 i c v a b).pop hle hl (noL_mem hn c (List.mem_of_getElem? a))⟩
theorem VA.pop {S' : Mem} {m1 : List Loc} {l : Loc} {o : AObj} (hle : S.le S') (hl : m1.length = H.length) {x : AV} {v : Value} (hn : noA H.length x) (h : VA S (m1 ++ [l]) (H ++ [o]) x v) : VA S' m1 H x v := by
  cases x with
  | any => trivial
  | c x => exact VC.pop hle hl hn h
  | agg cs =>
    obtain ⟨vs, h1, h2⟩ := h
    exact ⟨vs, h1, h2.pop hle hl hn⟩
  | tup bs =>
    obtain ⟨vs, h1, h2, h3⟩ := h
    refine ⟨vs, h1, h2, fun i b u hb hu => ?_⟩
    have g := noB_mem hn b (List.mem_of_getElem? hb)
    have g' := h3 i b u hb hu
    obtain ⟨f, cs⟩ := b
    cases f with
    | false => obtain ⟨c, e1, e2⟩ := g'; subst e1; exact ⟨c, rfl, e2.pop hle hl g.1⟩
    | true => obtain ⟨q, e1, e2⟩ := g'; exact ⟨q, e1, e2.pop hle hl g⟩
  | mark o => trivial
theorem Sub.fixVar (p : Nat) {cs : List PV} (hk : k ≤ H.length) (hH : noO H.length H) (hp : getS sl p = .c (.ptr H.length 0)) (hpn : p < n) (hs : SubN H.length sl sl') (hd : getS sl DEF = .any) (hd' : getS sl' DEF = .any) :
    Sub n k sl (H ++ [.var (cs.map .p)]) ((p, .c (.pp cs)) :: sl') H := by
  rintro cx rfl a w ⟨S, m, s, e, b, r⟩
  have hlen : m.length = H.length + 1 := by have := s.len; simpa using this
  obtain ⟨m1, l, rfl⟩ : ∃ m1 l, m = m1 ++ [l] := by
    have hne : m ≠ [] := fun e => by subst e; simp at hlen
    exact ⟨m.dropLast, m.getLast hne, (List.dropLast_concat_getLast hne).symm⟩
  have hl : m1.length = H.length := by simpa using hlen
  have gH : (H ++ [AObj.var (cs.map .p)])[H.length]? = some (.var (cs.map .p)) := by simp
  have gm : (m1 ++ [l])[H.length]? = some l := by rw [← hl]; simp
  have hO := s.obj _ _ _ gH gm
  cases l with
  | nil A => exact hO.elim
  | at_ bb cap =>
  obtain ⟨q1, q2, cur, T, q3, q4⟩ := hO
  let S' : Mem := fun b' o => if b' = bb then cur[o]? else S b' o
  have hin : ∀ o, S' bb o = cur[o]? := fun o => if_pos rfl
  have hout : ∀ b' o, b' ≠ bb → S' b' o = S b' o := fun b' o h => if_neg h
  have hle : S.le S' := fun b' o v hv => by
    have hne : b' ≠ bb := fun h => by subst h; rw [q2 o] at hv; cases hv
    rw [hout b' o hne]; exact hv
  have hlook : ∀ {i : Nat} {o : AObj} {q : Loc}, H[i]? = some o → m1[i]? = some q → (H ++ [AObj.var (cs.map .p)])[i]? = some o ∧ (m1 ++ [Loc.at_ bb cap])[i]? = some q ∧ i ≠ H.length := fun {i o q} hi hq => by
    have hlt := (List.getElem?_eq_some_iff.1 hi).1
    exact ⟨by rw [List.getElem?_append_left hlt]; exact hi, by rw [List.getElem?_append_left (by omega)]; exact hq, by omega⟩
  have s' : Sim S' m1 H cx.B w := by
    refine ⟨hl, fun b' o v hv => ?_, s.base, fun i o q ho hq => ?_, fun i j b' c d hi hj => ?_⟩
    · by_cases hb : b' = bb
      · subst hb; rw [hin] at hv; rw [cell_eq q3]; exact hv
      · rw [hout b' o hb] at hv; exact s.mem b' o v hv
    · obtain ⟨h1, h2, h3⟩ := hlook ho hq
      have hO := s.obj i o q h1 h2
      have hno := noO_get hH i o ho
      have hne : ∀ b' c', q = .at_ b' c' → b' ≠ bb := fun b' c' hq h => by subst hq; subst h; exact h3 (s.inj _ _ _ _ _ h2 gm)
      cases o with
      | arr T' size frz es =>
        cases q with
        | nil A => exact hO
        | at_ b' c' =>
          obtain ⟨g1, g2, g3, g4, g5, g6, g7, cur', g8, g9, g10⟩ := hO
          exact ⟨g1, g2, g3, g4, g5, g6, fun o v hv => g7 o v (by rw [← hout b' o (hne _ _ rfl)]; exact hv), cur', g8, g9, g10.mono hle⟩
      | hole => cases q <;> exact hO
      | var cs =>
        cases q with
        | nil A => exact hO
        | at_ b' c' =>
          obtain ⟨h1, h2, cur, T, h3, h4⟩ := hO
          exact ⟨h1, fun o => by rw [hout b' o (hne _ _ rfl)]; exact h2 o, cur, T, h3, h4.pop hle hl hno⟩
      | dfr =>
        cases q with
        | nil A => exact hO
        | at_ b' c' => exact hO
      | loop L =>
        cases q with
        | nil A => exact hO
        | at_ b' c' =>
          obtain ⟨h1, fn, tmps, bd, h2, h5, h6⟩ := hO
          exact ⟨h1, fn, tmps, bd, h2, h5, fun d => (h6 d).pop hle hl (noS_get hno d)⟩
      | map es =>
        cases q with
        | nil A => exact hO
        | at_ b' c' =>
          obtain ⟨h1, ents, clock, h2, h3, h4⟩ := hO
          exact ⟨h1, ents, clock, h2, h3, fun i k c e' hi' he => ⟨(h4 i k c e' hi' he).1, (h4 i k c e' hi' he).2.pop hle hl (noL_mem hno c (List.mem_map.2 ⟨(k, c), List.mem_of_getElem? hi', rfl⟩))⟩⟩
    · have hi' := (List.getElem?_eq_some_iff.1 hi).1
      have hj' := (List.getElem?_eq_some_iff.1 hj).1
      exact s.inj i j b' c d (by rw [List.getElem?_append_left hi']; exact hi) (by rw [List.getElem?_append_left hj']; exact hj)
  refine ⟨S', m1, s', ⟨Mem.le_trans e.mem hle, fun b' o hb => by rw [hout b' o (by omega)]; exact e.old b' o hb, fun i o h hf => ?_, fun i T size frz es l' h h' => ?_⟩, b, ?_, r.big, r.size, fun d => ?_⟩
  · have hlt : i < cx.H0.length := (List.getElem?_eq_some_iff.1 h).1
    obtain ⟨⟨o', a1, a2⟩, a3⟩ := e.fix i o h hf
    rw [List.getElem?_append_left (by omega)] at a1
    exact ⟨⟨o', a1, a2⟩, fun l' hl' => by have := a3 l' hl'; rwa [List.getElem?_append_left (by omega)] at this⟩
  · have hlt : i < cx.H0.length := (List.getElem?_eq_some_iff.1 h).1
    obtain ⟨f', es', l2, a1, a2, a3, a4⟩ := e.arr i T size frz es l' h h'
    rw [List.getElem?_append_left (by omega)] at a1 a2
    exact ⟨f', es', l2, a1, a2, a3, a4⟩
  · have h1 := r.defers
    rw [hd] at h1
    simp only [getS]
    rw [if_neg (by have := r.big; omega), hd']
    exact h1
  · simp only [getS]
    by_cases hdp : d = p
    · subst hdp
      rw [if_pos rfl]
      have hv := r.slot d
      rw [hp] at hv
      obtain ⟨b', cap', ds, k1, k2, k3⟩ := (show VC S _ _ (.ptr H.length 0) _ from hv)
      rw [gm] at k2
      cases k2
      refine ⟨bb, 0, fun k => cur.getD k undef, k3, fun k x hk => ?_⟩
      have hkl : k < cur.length := by have := q4.1; simp at this; rw [← this]; exact (List.getElem?_eq_some_iff.1 hk).1
      have hg : cur[k]? = some (cur.getD k undef) := by rw [List.getD_eq_getElem?_getD, List.getElem?_eq_getElem hkl]; rfl
      refine ⟨by rw [Nat.zero_add, hin]; exact hg, ?_⟩
      have h5 : VC S _ _ (.p x) (cur.getD k undef) := q4.2 k (.p x) _ (by rw [List.getElem?_map, hk]; rfl) hg
      exact VP.mono (S := S) (x := x) hle h5
    · rw [if_neg hdp]
      rcases SubN_get hs d with h | ⟨h1, h2⟩
      · rw [h]; trivial
      · rw [h1] at h2 ⊢; exact (r.slot d).pop hle hl h2
theorem Sub.fixLast (p : Nat) {cs : List PV} (hH : H.getLast? = some (.var (cs.map .p))) (hk : k ≤ H.dropLast.length) (hn : noO H.dropLast.length H.dropLast) (hp : getS sl p = .c (.ptr H.dropLast.length 0)) (hpn : p < n) (hs : SubN H.dropLast.length sl sl') (hd : getS sl DEF = .any) (hd' : getS sl' DEF = .any) :
    Sub n k sl H ((p, .c (.pp cs)) :: sl') H.dropLast := by
  have hne : H ≠ [] := fun h => by rw [h] at hH; simp at hH
  have he : H = H.dropLast ++ [.var (cs.map .p)] := by
    rw [List.getLast?_eq_some_getLast hne] at hH
    rw [← Option.some.inj hH, List.dropLast_concat_getLast hne]
  generalize H.dropLast = q at *
  subst he
  exact Sub.fixVar p hk hn hp hpn hs hd hd'
/-- What is known of the room of an array's inner slices is forgotten. -/
theorem Sub.loArr (id : Nat) {T size frz : Nat} {es : List (List PV)} (ho : H[id]? = some (.arr T size frz es)) : Sub n k sl H sl (H.set id (.arr T size frz (es.map (·.map Aw.lo)))) := by
  rintro cx hk a w ⟨S, m, s, e, b, r⟩
  obtain ⟨l, hl, hO⟩ := s.loc ho
  have hfl : (es.map (·.map Aw.lo)).flatten = es.flatten.map Aw.lo := by rw [List.map_flatten]
  have hmset : m.set id l = m := by
    apply List.ext_getElem?
    intro j
    by_cases hj : id = j
    · subst hj; rw [List.getElem?_set_self (List.getElem?_eq_some_iff.1 hl).1, hl]
    · rw [getElem?_set_ne _ _ _ _ hj]
  have hok : ObjOk S (m.set id l) (H.set id (.arr T size frz (es.map (·.map Aw.lo)))) cx.B w (.arr T size frz (es.map (·.map Aw.lo))) l := by
    cases l with
    | nil A => obtain ⟨h1, h2, h3⟩ := hO; exact ⟨h1, by rw [h2]; rfl, h3⟩
    | at_ bb cap =>
      obtain ⟨q1, q2, q3, q4, q5, q6, q7, cur, q8, q9, q10⟩ := hO
      refine ⟨q1, fun y hy => ?_, by simpa using q3, q4, by simpa using q5, q6, q7, cur, q8, q9, ?_⟩
      · obtain ⟨x, hx, rfl⟩ := List.mem_map.1 hy
        rw [List.length_map]; exact q2 x hx
      · rw [hfl, List.length_map]; exact q10.lo
  obtain ⟨s2, e2⟩ := s.setArr (es' := es.map (·.map Aw.lo)) (l' := l) ho hl (w' := w) s.mem (Nat.le_refl _) (fun _ _ _ => rfl) (by simp) (fun _ => rfl) (fun b' c hb => .inl ⟨c, hb⟩) hok
  rw [hmset] at s2 e2
  exact ⟨S, m, s2, e.trans e2, b, r.ext e2⟩
attribute [go_sem] pureCs aElemsF aFull
end
end Go.Aw
