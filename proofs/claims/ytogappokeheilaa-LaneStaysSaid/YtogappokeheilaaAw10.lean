/-
  An abstract memory for walks, part 10: regions in the text's order; code; functions.
-/
import Derived.Test.YtogappokeheilaaAw9
set_option linter.unusedVariables false
set_option linter.unusedSimpArgs false
namespace Go.Aw
open Go.RowKit

abbrev Slots := List (Nat × AV)
def aput (n : Nat) (dst : Option Tmp) (x : AV) (sl : Slots) (K : Slots → Prop) : Prop :=
  match dst with
  | none => K sl
  | some d => d < n ∧ K ((d, x) :: sl)
/-- A slice literal of bytes, and its conversion to its own type. -/
def isLit (o o2 : Oper) : Bool :=
  match o.op, o2.op with
  | .buildSlice t _ _, .convert s d (.tmp x) => s == d && t == s && o.dst == some x && o.guard.isNone && o2.guard.isNone
  | _, _ => false
def aLit (P : Program) (n : Nat) (sl : Slots) (H : List AObj) (o o2 : Oper) (K : Slots → List AObj → Prop) : Prop :=
  match o.op with
  | .buildSlice t len ps => (∃ e, P.underlying t = some (.slice e) ∧ P.underlying e = some (.int .u8)) ∧ 0 < len ∧ aBuildSlice P false t len (ps.toList.map fun q => (q.1, ev sl q.2)) H fun x H' => H' = H ∧ aput n o.dst .any sl fun sl' => aput n o2.dst x sl' fun sl'' => K sl'' H
  | _ => False
def aStep (P : Program) (ow : Bool) (n : Nat) (ops : Array Oper) (o : Oper) (sl : Slots) (H : List AObj) (K : Slots → List AObj → Prop) : Prop :=
  match o.guard with
  | none => aopY P ow (ev sl) H o.op fun x H' => aput n o.dst x sl fun sl' => K sl' H'
  | some (j, want) => match (ops[j]?).bind (·.dst) with
    | some d => match getS sl d with
      | .c (.p (.bool b)) => (b = want → aopY P ow (ev sl) H o.op fun x H' => aput n o.dst x sl fun sl' => K sl' H') ∧ (b = (!want) → aput n o.dst (.tup []) sl fun sl' => K sl' H)
      | .tup [] => aput n o.dst (.tup []) sl fun sl' => K sl' H
      | _ => False
    | none => False
def aops (P : Program) (ow : Bool) (n : Nat) (ops : Array Oper) : List Oper → Slots → List AObj → (Slots → List AObj → Prop) → Prop
  | [], sl, H, K => K sl H
  | [o], sl, H, K => aStep P ow n ops o sl H K
  | o :: o2 :: rest, sl, H, K => if isLit o o2 = true then aLit P n sl H o o2 fun sl' H' => aops P ow n ops rest sl' H' K else aStep P ow n ops o sl H fun sl' H' => aops P ow n ops (o2 :: rest) sl' H' K

/-- The entry's view, and where the call's own blocks begin. -/
structure Cx where
  B : Nat
  S0 : Mem
  m0 : List Loc
  H0 : List AObj
  w0 : World
  ro : Option Nat
/-- A state of the walk. -/
def InSt (cx : Cx) (n : Nat) (sl : Slots) (H : List AObj) (a : Act) (w : World) : Prop :=
  ∃ S m, Sim S m H cx.B w ∧ Ext cx.B cx.S0 cx.m0 cx.H0 S m H ∧ Bel cx.B cx.w0 w ∧ ARel cx.ro S m H n sl a
section
variable {P : Program} {n k : Nat} {cx : Cx} {sl : Slots} {H : List AObj} {a : Act} {w : World}

theorem aput_ok {ro : Option Nat} {S : Mem} {m : List Loc} {K : Slots → Prop} {dst : Option Tmp} {x : AV} {v : Value} (r : ARel ro S m H n sl a) (hv : VA S m H x v) (h : aput n dst x sl K) : ∃ sl', ARel ro S m H n sl' (a.put dst v) ∧ K sl' := by
  cases dst with
  | none => exact ⟨sl, r, h⟩
  | some d => exact ⟨_, r.put h.1 hv, h.2⟩
theorem und_ok {S : Mem} {m : List Loc} {H : List AObj} : VA S m H (.tup []) undef := ⟨[], rfl, rfl, fun i b u h => by simp at h⟩
theorem aStep_ok {ow : Bool} {ops : Array Oper} {o : Oper} {rest : List Oper} {Q : Exit → Act → World → Prop} {K : Slots → List AObj → Prop} (hin : InSt cx n sl H a w) (h : aStep P ow n ops o sl H K)
    (hrest : ∀ sl' H' a' w', InSt cx n sl' H' a' w' → K sl' H' → wpListIn (FR cx.ro) 0 P ops Q rest a' w') : wpListIn (FR cx.ro) 0 P ops Q (o :: rest) a w := by
  obtain ⟨S, m, s, e, b, r⟩ := hin
  have run : (aopY P ow (ev sl) H o.op fun x H' => aput n o.dst x sl fun sl' => K sl' H') → o.wpIn (FR cx.ro) 0 P a w (wpListIn (FR cx.ro) 0 P ops Q rest) Q := fun h => by
    refine Oper.wpIn_mono ?_ (aopY_ok (ro := cx.ro) (Q := Q) (n := n) s r.eval h)
    rintro a' w' ⟨v, S', m', H', x, rfl, h1, h2, h3, h4, h5⟩
    obtain ⟨sl', r', hk⟩ := aput_ok (r.ext h2) h4 h5
    exact hrest sl' H' _ w' ⟨S', m', h1, e.trans h2, b.trans h3, r'⟩ hk
  unfold aStep at h
  unfold wpListIn
  cases hg : o.guard with
  | none =>
    simp only [hg] at h
    rw [if_pos (by simp [Region.wanted, hg])]
    exact run h
  | some q =>
    obtain ⟨j, want⟩ := q
    simp only [hg] at h
    cases hd : (ops[j]?).bind (·.dst) with
    | none => simp [hd] at h
    | some d =>
      simp only [hd] at h
      have hs := r.slot d
      split at h
      · rename_i bb heq
        rw [heq] at hs
        have hb : a.tmps.getD d undef = .bool bb := by
          generalize a.tmps.getD d undef = z at hs
          cases hs; rfl
        have hy : yielded ops a.tmps j = some bb := by
          unfold yielded
          rw [hd]
          have : a.tmps[d]? = some (.bool bb) := by
            rw [Array.getD_eq_getD_getElem?] at hb
            cases ht : a.tmps[d]? with
            | none => rw [ht] at hb; cases hb
            | some z => rw [ht] at hb; simp at hb; rw [hb]
          simp [this]
        by_cases hw : bb = want
        · rw [if_pos (by simp [Region.wanted, hg, hy, hw])]
          exact run (h.1 hw)
        · rw [if_neg (by simp [Region.wanted, hg, hy, hw])]
          have hw' : bb = !want := by cases bb <;> cases want <;> simp_all
          obtain ⟨sl', r', hk⟩ := aput_ok (x := .tup []) (v := undef) r und_ok (h.2 hw')
          exact ⟨fun _ _ => trivial, hrest sl' H _ w ⟨S, m, s, e, b, r'⟩ hk⟩
      · rename_i heq
        rw [heq] at hs
        obtain ⟨vs, hv, hl, _⟩ := hs
        have hvs : vs = [] := List.eq_nil_of_length_eq_zero (by simpa using hl.symm)
        subst hvs
        have hy : yielded ops a.tmps j = none := by
          unfold yielded
          rw [hd]
          rw [Array.getD_eq_getD_getElem?] at hv
          cases ht : a.tmps[d]? with
          | none => simp [ht]
          | some z => rw [ht] at hv; simp at hv; subst hv; simp [ht]
        rw [if_neg (by simp [Region.wanted, hg, hy])]
        obtain ⟨sl', r', hk⟩ := aput_ok (x := .tup []) (v := undef) r und_ok h
        exact ⟨fun _ _ => trivial, hrest sl' H _ w ⟨S, m, s, e, b, r'⟩ hk⟩
      · exact h.elim
theorem isLit_ok {o o2 : Oper} (h : isLit o o2 = true) : ∃ t len ps x, o.op = .buildSlice t len ps ∧ o2.op = .convert t t (.tmp x) ∧ o.dst = some x ∧ o.guard = none ∧ o2.guard = none := by
  unfold isLit at h
  split at h
  · rename_i t len ps s d x h1 h2
    simp only [Bool.and_eq_true, beq_iff_eq] at h
    obtain ⟨⟨⟨⟨rfl, rfl⟩, h3⟩, h4⟩, h5⟩ := h
    exact ⟨_, len, ps, x, h1, h2, h3, by simpa using h4, by simpa using h5⟩
  · cases h
theorem run_lit {t e : TypeId} (hu : P.underlying t = some (.slice e)) (he : P.underlying e = some (.int .u8)) (w : World) (cells : List Value) (len : Nat) :
    ∃ w', (convert t t (.slice (some ⟨w.heap.size, 0, none⟩) len len)).run P (w.alloc (.cells cells.toArray e)) = .ok (.slice (some ⟨w.heap.size, 0, none⟩) len len) w' ∧ (∃ fr, w'.heap[w.heap.size]? = some (.cells cells.toArray e fr)) ∧
      (∀ k, k < w.heap.size → w'.heap[k]? = w.heap[k]?) ∧ w'.heap.size = w.heap.size + 1 ∧ w'.os = w.os ∧ w'.tape = w.tape ∧ w'.output = w.output := by
  let w' : World := (w.alloc (.cells cells.toArray e)).freeze ⟨w.heap.size, cells.length, none⟩ 1
  have hh0 : w'.heap = (w.heap.push (.cells cells.toArray e)).modify w.heap.size (fun
      | .cells c elem (lo, hi) => .cells c elem (if lo == hi then (cells.length, cells.length + 1) else (min lo cells.length, max hi (cells.length + 1)))
      | o => o) := rfl
  refine ⟨w', ?_, ⟨(cells.length, cells.length + 1), ?_⟩, fun k hk => ?_, ?_, rfl, rfl, rfl⟩
  · have hshape : (w.alloc (.cells cells.toArray e)).shape? w.heap.size = some (e, cells.length) := by
      show (match (w.heap.push (.cells cells.toArray e))[w.heap.size]? with | some (.cells c elem _) => some (elem, c.size) | _ => none) = _
      rw [Array.getElem?_push_size]
      simp
    simp only [convert, Sem.run_bind, run_underlying hu, Result.andThen_ok, beq_self_eq_true, run_underlying he, markStringish, run_shape, hshape, run_freeze, Sem.run_pure]
    rfl
  · rw [hh0, Array.getElem?_modify, if_pos rfl, Array.getElem?_push_size]
    rfl
  · rw [hh0, Array.getElem?_modify, if_neg (by omega)]
    exact heap_alloc_old w _ hk
  · rw [hh0]; simp
theorem aLit_ok {ops : Array Oper} {o o2 : Oper} {rest : List Oper} {Q : Exit → Act → World → Prop} {K : Slots → List AObj → Prop} (hl : isLit o o2 = true) (hin : InSt cx n sl H a w) (h : aLit P n sl H o o2 K)
    (hrest : ∀ sl' H' a' w', InSt cx n sl' H' a' w' → K sl' H' → wpListIn (FR cx.ro) 0 P ops Q rest a' w') : wpListIn (FR cx.ro) 0 P ops Q (o :: o2 :: rest) a w := by
  obtain ⟨t, len, ps, x, h1, h2, h3, h4, h5⟩ := isLit_ok hl
  obtain ⟨S, m, s, e, b, r⟩ := hin
  unfold aLit at h
  rw [h1] at h
  simp only at h
  obtain ⟨⟨el, hu, he⟩, hlen, h⟩ := h
  obtain ⟨e', hu', es, H1, S1, cells, s1, e1, hrun, hp, hel, hul, hmax, rfl, hk⟩ := buildSlice_core s (evs_Parts r.eval ps) h
  rw [hu] at hu'; cases hu'
  obtain ⟨w', hc, ⟨fr, hh⟩, hold, hsz, ho1, ho2, ho3⟩ := run_lit (P := P) hu he w cells len
  let S2 : Mem := fun b o => if b = w.heap.size then cells[o]? else S1 b o
  have hi : ∀ o, S2 w.heap.size o = cells[o]? := fun o => if_pos rfl
  have hout : OldMem w.heap.size S1 S2 := fun b o hb => if_neg (by omega)
  obtain ⟨s2, e2⟩ := s1.grow (S' := S2) (w' := w') hold (by omega) hout (fun b o v hb hv => by
    by_cases hbb : b = w.heap.size
    · subst hbb
      rw [hi] at hv
      rw [cell_eq hh]; exact hv
    · have : S2 b o = S1 b o := if_neg hbb
      rw [this, s1.newmem hb o] at hv
      cases hv)
  have hbel : Bel cx.B w w' := Bel.of_old ⟨ho1, ho2, ho3, by omega, fun k hk => hold k (Nat.lt_of_lt_of_le hk s.base)⟩ hold
  have hval : VP S2 (.sl true es) (.slice (some ⟨w.heap.size, 0, none⟩) len len) := by
    refine .sl true es w.heap.size 0 len (P.cellsOf el) len (fun k => cells.getD k undef) hel (Nat.le_refl _) hmax (fun _ => rfl) hul.1 hul.2 (fun k x hk => ?_) (fun k x hk => ?_)
    all_goals
      have hkc : k < cells.length := by rw [← hp.1]; exact (List.getElem?_eq_some_iff.1 hk).1
      have hg : cells[k]? = some (cells.getD k undef) := by rw [List.getD_eq_getElem?_getD, List.getElem?_eq_getElem hkc]; rfl
    · rw [Nat.zero_add, hi, hg]
    · exact (hp.2 k x _ hk hg).mono e2.mem
  have ee := e1.trans e2
  obtain ⟨sl1, r1, hk1⟩ := aput_ok (x := .any) (v := .slice (some ⟨w.heap.size, 0, none⟩) len len) (r.ext ee) trivial hk
  obtain ⟨sl2, r2, hk2⟩ := aput_ok (x := .c (.p (.sl true es))) r1 hval hk1
  have hxs : x < n := by
    rw [h3] at hk
    exact hk.1
  have hev : (a.put o.dst (.slice (some ⟨w.heap.size, 0, none⟩) len len)).eval (.tmp x) = .slice (some ⟨w.heap.size, 0, none⟩) len len := by
    rw [h3]
    simp [Act.eval, Act.put, Array.getD_eq_getD_getElem?, r.size, hxs]
  unfold wpListIn
  rw [if_pos (by simp [Region.wanted, h4])]
  refine Oper.wpIn_of_wp (by rw [h1]; intro c hc; cases hc) ?_
  unfold Oper.wp execOp
  rw [h1]
  simp only [Sem.run_bind, hrun, Result.andThen_ok, Sem.run_pure, Oper.upon]
  unfold wpListIn
  rw [if_pos (by simp [Region.wanted, h5])]
  refine Oper.wpIn_of_wp (by rw [h2]; intro c hc; cases hc) ?_
  unfold Oper.wp execOp
  rw [h2]
  simp only [Sem.run_bind, hev, hc, Result.andThen_ok, Sem.run_pure, Oper.upon]
  exact hrest sl2 _ _ w' ⟨S2, m, s2, e.trans ee, b.trans hbel, r2⟩ hk2
theorem aops_ok {ow : Bool} {ops : Array Oper} {Q : Exit → Act → World → Prop} : ∀ {l : List Oper} {sl : Slots} {H : List AObj} {a : Act} {w : World} {K : Slots → List AObj → Prop}, InSt cx n sl H a w → aops P ow n ops l sl H K →
    (∀ sl' H' a' w', InSt cx n sl' H' a' w' → K sl' H' → Q .normal a' w') → wpListIn (FR cx.ro) 0 P ops Q l a w
  | [], sl, H, a, w, K, hin, h, hq => hq sl H a w hin h
  | [o], sl, H, a, w, K, hin, h, hq => aStep_ok hin h fun sl' H' a' w' hi hk => hq sl' H' a' w' hi hk
  | o :: o2 :: rest, sl, H, a, w, K, hin, h, hq => by
    simp only [aops] at h
    split at h
    · rename_i hl
      exact aLit_ok hl hin h fun sl' H' a' w' hi hk => aops_ok hi hk hq
    · exact aStep_ok hin h fun sl' H' a' w' hi hk => aops_ok hi hk hq

/-! ### Code -/
def AW (P : Program) (n k : Nat) (c : Code) (Q : Exit → Slots → List AObj → Prop) (sl : Slots) (H : List AObj) : Prop :=
  ∀ cx : Cx, cx.H0.length = k → ∀ a w, InSt cx n sl H a w → c.wpIn (FR cx.ro) 0 P (fun e a' w' => ∃ sl' H', InSt cx n sl' H' a' w' ∧ Q e sl' H') a w
def AThen (next : Slots → List AObj → Prop) (Q : Exit → Slots → List AObj → Prop) : Exit → Slots → List AObj → Prop
  | .normal, sl, H => next sl H
  | e, sl, H => Q e sl H
def ABlock (id : Nat) (Q : Exit → Slots → List AObj → Prop) : Exit → Slots → List AObj → Prop
  | .exit id', sl, H => if id' = id then Q .normal sl H else Q (.exit id') sl H
  | e, sl, H => Q e sl H
variable {Q : Exit → Slots → List AObj → Prop}
theorem AW.seq {x y : Code} (h : AW P n k x (AThen (AW P n k y Q) Q) sl H) : AW P n k (.seq x y) Q sl H := fun cx hk a w hin => by
  refine wpIn_seq (wpIn_mono (h cx hk a w hin) ?_)
  rintro e a' w' ⟨sl', H', hi, hq⟩
  cases e with
  | normal => exact hq cx hk a' w' hi
  | _ => exact ⟨sl', H', hi, hq⟩
theorem AW.region (ow : Bool) {id : Nat} {ops : Array Oper} (h : aops P ow n ops ops.toList sl H (Q .normal)) : AW P n k (.region id ops false) Q sl H := fun cx hk a w hin =>
  wpIn_region_list (aops_ok hin h fun sl' H' a' w' hi hq => ⟨sl', H', hi, hq⟩)
theorem AW.cond {c : Operand} {x y : Code} {b : Bool} (hc : ev sl c = .c (.p (.bool b))) (ht : b = true → AW P n k x Q sl H) (hf : b = false → AW P n k y Q sl H) : AW P n k (.cond c x y) Q sl H := fun cx hk a w hin => by
  obtain ⟨S, m, s, e, bl, r⟩ := hin
  have hv := r.eval c
  rw [hc] at hv
  have hb : a.eval c = .bool b := by
    generalize a.eval c = z at hv
    cases hv; rfl
  exact wpIn_cond_split hb (fun h => ht h cx hk a w ⟨S, m, s, e, bl, r⟩) (fun h => hf h cx hk a w ⟨S, m, s, e, bl, r⟩)
theorem AW.skip (h : Q .normal sl H) : AW P n k .skip Q sl H := fun cx hk a w hin => wpIn_skip ⟨sl, H, hin, h⟩
theorem AW.label {l : Nat} (h : Q .normal sl H) : AW P n k (.label l) Q sl H := fun cx hk a w hin => wpIn_label ⟨sl, H, hin, h⟩
theorem AW.goto {l : Nat} (h : Q (.goto l) sl H) : AW P n k (.goto l) Q sl H := fun cx hk a w hin => wpIn_goto ⟨sl, H, hin, h⟩
theorem AW.exit {id : Nat} (h : Q (.exit id) sl H) : AW P n k (.exit id) Q sl H := fun cx hk a w hin => wpIn_exit ⟨sl, H, hin, h⟩
theorem AW.ret (h : Q .ret sl H) : AW P n k .ret Q sl H := fun cx hk a w hin => wpIn_ret ⟨sl, H, hin, h⟩
theorem AW.block {id : Nat} {c : Code} (h : AW P n k c (ABlock id Q) sl H) : AW P n k (.block id c) Q sl H := fun cx hk a w hin => by
  refine wpIn_block (wpIn_mono (h cx hk a w hin) ?_)
  rintro e a' w' ⟨sl', H', hi, hq⟩
  cases e with
  | exit id' =>
    simp only [ABlock] at hq
    simp only [Exit.inBlock]
    split
    · rename_i h; rw [if_pos h] at hq; exact ⟨sl', H', hi, hq⟩
    · rename_i h; rw [if_neg h] at hq; exact ⟨sl', H', hi, hq⟩
  | _ => exact ⟨sl', H', hi, hq⟩
theorem AW.mono {c : Code} {Q' : Exit → Slots → List AObj → Prop} (h : AW P n k c Q' sl H) (hq : ∀ e sl' H', Q' e sl' H' → Q e sl' H') : AW P n k c Q sl H := fun cx hk a w hin =>
  wpIn_mono (h cx hk a w hin) fun e a' w' ⟨sl', H', hi, q⟩ => ⟨sl', H', hi, hq _ _ _ q⟩

/-- The one state may be seen as the other. -/
def Sub (n k : Nat) (sl : Slots) (H : List AObj) (sl' : Slots) (H' : List AObj) : Prop := ∀ cx : Cx, cx.H0.length = k → ∀ a w, InSt cx n sl H a w → InSt cx n sl' H' a w
theorem AW.weak {c : Code} {sl' : Slots} {H' : List AObj} (hs : Sub n k sl H sl' H') (h : AW P n k c Q sl' H') : AW P n k c Q sl H := fun cx hk a w hin => h cx hk a w (hs cx hk a w hin)
theorem AW.loop {c : Code} {X : Type} (F : X → Slots) (G : X → List AObj) (μ : X → Nat) (x0 : X) (h0 : Sub n k sl H (F x0) (G x0))
    (round : ∀ x, AW P n k c (AThen (fun sl' H' => ∃ y, μ y < μ x ∧ Sub n k sl' H' (F y) (G y)) Q) (F x) (G x)) : AW P n k (.loop c) Q sl H := fun cx hk a w hin => by
  intro b kk cs hro hb hr
  have key : ∀ N x a w, μ x = N → InSt cx n (F x) (G x) a w →
      ∃ e a' w', (∃ sl' H', InSt cx n sl' H' a' w' ∧ Q e sl' H') ∧ ArrivesIn (Machine.fenced P (FR cx.ro)) P (lone (b.atR a (.code c :: .inLoop c :: kk)) cs w) b kk cs e a' w' := by
    intro N
    induction N using Nat.strongRecOn with
    | _ N ih =>
      intro x a w hN hI
      obtain ⟨e, a₁, w₁, ⟨sl1, H1, hi, hq⟩, harr⟩ := round x cx hk a w hI b (.inLoop c :: kk) cs hro hb hr
      cases e with
      | normal =>
        obtain ⟨y, hlt, hsub⟩ := hq
        obtain ⟨e₂, a₂, w₂, hq₂, harr₂⟩ := ih (μ y) (hN ▸ hlt) y a₁ w₁ rfl (hsub cx hk a₁ w₁ hi)
        exact ⟨e₂, a₂, w₂, hq₂, .of_steps (StepsIn.trans harr (.one (fenced_calm hb hr rfl) stepR_inLoop)) harr₂⟩
      | exit id => exact ⟨_, a₁, w₁, ⟨sl1, H1, hi, hq⟩, .pass (x := .inLoop c) rfl (fun _ _ => .inl (by simp)) harr⟩
      | goto l => exact ⟨_, a₁, w₁, ⟨sl1, H1, hi, hq⟩, .pass (x := .inLoop c) rfl (fun _ _ => .inl (by simp)) harr⟩
      | ret => exact ⟨_, a₁, w₁, ⟨sl1, H1, hi, hq⟩, .pass (x := .inLoop c) rfl (fun _ _ => .inl (by simp)) harr⟩
      | panic ch => exact ⟨_, a₁, w₁, ⟨sl1, H1, hi, hq⟩, .pass (x := .inLoop c) rfl (fun _ _ => .inl (by simp)) harr⟩
      | outgrown => exact ⟨_, a₁, w₁, ⟨sl1, H1, hi, hq⟩, .pass (x := .inLoop c) rfl (fun _ _ => .inl (by simp)) harr⟩
  obtain ⟨e, a', w', hq, harr⟩ := key _ x0 a w rfl (h0 cx hk a w hin)
  exact ⟨e, a', w', hq, .of_steps (.one (fenced_calm hb hr rfl) stepR_loop) harr⟩
end
end Go.Aw
