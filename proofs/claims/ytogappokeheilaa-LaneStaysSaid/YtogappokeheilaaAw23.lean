/-
  An abstract memory for walks, part 23: the return of a function that held a range over a function.
-/
import Derived.Test.YtogappokeheilaaAw22
set_option linter.unusedVariables false
set_option linter.unusedSimpArgs false
namespace Go.Aw
open Go.RowKit
section
variable {P : Program} {n k : Nat} {S : Mem} {m : List Loc} {H : List AObj} {B : Nat} {w : World} {id : Nat}
/-- What stands for a block that is shut. -/
abbrev deadO : AObj := .arr 0 1 0 []
theorem VC.kill (hd : H[id]? = some .dfr) {c : Cell} {v : Value} (h : VC S m H c v) : VC S (m.set id (.nil none)) (H.set id deadO) c v := by
  have ne : ∀ {i : Nat} {o : AObj}, H[i]? = some o → o ≠ .dfr → id ≠ i := fun {i o} hi ho e => by subst e; rw [hd] at hi; cases hi; exact ho rfl
  cases c with
  | p x => exact h
  | own i n =>
    obtain ⟨T, size, frz, es, l, h1, h2, h3⟩ := h
    have := ne h1 (fun e => by cases e)
    exact ⟨T, size, frz, es, l, by rw [getElem?_set_ne _ _ _ _ this]; exact h1, by rw [getElem?_set_ne _ _ _ _ this]; exact h2, h3⟩
  | ptr i off =>
    obtain ⟨b, cap, cs, h1, h2, h3⟩ := h
    have := ne h1 (fun e => by cases e)
    exact ⟨b, cap, cs, by rw [getElem?_set_ne _ _ _ _ this]; exact h1, by rw [getElem?_set_ne _ _ _ _ this]; exact h2, h3⟩
  | ep i n j off =>
    obtain ⟨T, size, frz, es, l, h1, h2, h3⟩ := h
    have := ne h1 (fun e => by cases e)
    exact ⟨T, size, frz, es, l, by rw [getElem?_set_ne _ _ _ _ this]; exact h1, by rw [getElem?_set_ne _ _ _ _ this]; exact h2, h3⟩
  | pp cells => exact h
  | clo f first caps =>
    obtain ⟨fs, cs, h1, h2, h3, h4⟩ := h
    refine ⟨fs, cs, h1, h2, h3, fun i q u hq hu => ?_⟩
    obtain ⟨b, cap, ds, k1, k2, k3⟩ := h4 i q u hq hu
    have := ne k1 (fun e => by cases e)
    exact ⟨b, cap, ds, by rw [getElem?_set_ne _ _ _ _ this]; exact k1, by rw [getElem?_set_ne _ _ _ _ this]; exact k2, k3⟩
  | yld i =>
    obtain ⟨b, cap, L, h1, h2, h3⟩ := h
    have := ne h1 (fun e => by cases e)
    exact ⟨b, cap, L, by rw [getElem?_set_ne _ _ _ _ this]; exact h1, by rw [getElem?_set_ne _ _ _ _ this]; exact h2, h3⟩
  | room i n =>
    obtain ⟨T, size, frz, es, l, h1, h2, h3⟩ := h
    have := ne h1 (fun e => by cases e)
    exact ⟨T, size, frz, es, l, by rw [getElem?_set_ne _ _ _ _ this]; exact h1, by rw [getElem?_set_ne _ _ _ _ this]; exact h2, h3⟩
  | mp i =>
    obtain ⟨b, cap, es, h1, h2, h3⟩ := h
    have := ne h1 (fun e => by cases e)
    exact ⟨b, cap, es, by rw [getElem?_set_ne _ _ _ _ this]; exact h1, by rw [getElem?_set_ne _ _ _ _ this]; exact h2, h3⟩
theorem VCs.kill (hd : H[id]? = some .dfr) {cs : List Cell} {vs : List Value} (h : VCs S m H cs vs) : VCs S (m.set id (.nil none)) (H.set id deadO) cs vs :=
  ⟨h.1, fun i c v a b => (h.2 i c v a b).kill hd⟩
theorem VB.kill (hd : H[id]? = some .dfr) {b : Bool × List Cell} {v : Value} (h : VB S m H b v) : VB S (m.set id (.nil none)) (H.set id deadO) b v := by
  obtain ⟨a, cs⟩ := b
  cases a with
  | false => obtain ⟨c, h1, h2⟩ := h; exact ⟨c, h1, h2.kill hd⟩
  | true => obtain ⟨vs, h1, h2⟩ := h; exact ⟨vs, h1, h2.kill hd⟩
theorem VA.kill (hd : H[id]? = some .dfr) {x : AV} {v : Value} (h : VA S m H x v) : VA S (m.set id (.nil none)) (H.set id deadO) x v := by
  cases x with
  | any => trivial
  | c x => exact VC.kill hd h
  | agg cs => obtain ⟨vs, h1, h2⟩ := h; exact ⟨vs, h1, h2.kill hd⟩
  | tup bs => obtain ⟨vs, h1, h2, h3⟩ := h; exact ⟨vs, h1, h2, fun i b u hb hu => (h3 i b u hb hu).kill hd⟩
  | mark o => trivial
theorem Sim.kill (s : Sim S m H B w) (hd : H[id]? = some .dfr) {b c : Nat} (hm : m[id]? = some (.at_ b c)) {w' : World} (hsz : w'.heap.size = w.heap.size) (hother : ∀ k, k ≠ b → w'.heap[k]? = w.heap[k]?) :
    Sim S (m.set id (.nil none)) (H.set id deadO) B w' := by
  have hid : id < H.length := (List.getElem?_eq_some_iff.1 hd).1
  have hidm : id < m.length := (List.getElem?_eq_some_iff.1 hm).1
  have hO := s.obj id _ _ hd hm
  refine ⟨by simp [s.len], fun b' o v h => ?_, by rw [hsz]; exact s.base, fun i x y hx hy => ?_, fun i j b' c' d' hi hj => ?_⟩
  · have hne : b' ≠ b := fun hh => by subst hh; rw [s.memNot hO.2 rfl o] at h; cases h
    have := s.mem b' o v h
    simp only [World.cell?] at this ⊢
    rw [hother b' hne]
    exact this
  · by_cases hi : id = i
    · subst hi
      rw [List.getElem?_set_self hid] at hx
      rw [List.getElem?_set_self hidm] at hy
      cases hx; cases hy
      exact ⟨by omega, rfl, rfl⟩
    · rw [getElem?_set_ne _ _ _ _ hi] at hx hy
      have hx' := s.obj i x y hx hy
      have hb : ∀ b' c', y = .at_ b' c' → b' ≠ b := fun b' c' e hh => by subst e; subst hh; exact hi (s.inj id i b' c c' hm hy)
      cases x with
      | var cs =>
        cases y with
        | nil A => exact hx'
        | at_ b' c' =>
          obtain ⟨h1, h2, cur, T, h3, h4⟩ := hx'
          exact ⟨h1, h2, cur, T, by rw [hother b' (hb _ _ rfl)]; exact h3, h4.kill hd⟩
      | arr T size frz es =>
        cases y with
        | nil A => exact hx'
        | at_ b' c' =>
          obtain ⟨h1, h2, h3, h4, h5, h6, h7, cur, h8, h9⟩ := hx'
          exact ⟨h1, h2, h3, h4, h5, h6, h7, cur, by rw [hother b' (hb _ _ rfl)]; exact h8, h9⟩
      | dfr =>
        cases y with
        | nil A => exact hx'
        | at_ b' c' => exact ⟨hx'.1, by rw [hother b' (hb _ _ rfl)]; exact hx'.2⟩
      | loop L =>
        cases y with
        | nil A => exact hx'
        | at_ b' c' =>
          obtain ⟨h1, fn, tmps, bd, h2, h5, h6⟩ := hx'
          exact ⟨h1, fn, tmps, bd, by rw [hother b' (hb _ _ rfl)]; exact h2, h5, fun d => (h6 d).kill hd⟩
      | map es =>
        cases y with
        | nil A => exact hx'
        | at_ b' c' =>
          obtain ⟨h1, ents, clock, h2, h3, h4⟩ := hx'
          exact ⟨h1, ents, clock, by rw [hother b' (hb _ _ rfl)]; exact h2, h3, fun i k c e' hi' he => ⟨(h4 i k c e' hi' he).1, (h4 i k c e' hi' he).2.kill hd⟩⟩
      | hole => cases y <;> exact hx'
  · by_cases h1 : id = i
    · subst h1
      rw [List.getElem?_set_self hidm] at hi
      cases hi
    · rw [getElem?_set_ne _ _ _ _ h1] at hi
      by_cases h2 : id = j
      · subst h2
        rw [List.getElem?_set_self hidm] at hj
        cases hj
      · rw [getElem?_set_ne _ _ _ _ h2] at hj
        exact s.inj i j b' c' d' hi hj
theorem Ext.kill {S0 : Mem} {m0 : List Loc} {H0 : List AObj} (e : Ext B S0 m0 H0 S m H) (hl : m0.length = H0.length) (hk : H0.length ≤ id) : Ext B S0 m0 H0 S (m.set id (.nil none)) (H.set id deadO) := by
  refine ⟨e.mem, e.old, fun i o h hf => ?_, fun i T size frz es l h h' => ?_⟩
  · have hlt : i < H0.length := (List.getElem?_eq_some_iff.1 h).1
    obtain ⟨⟨o', a, a'⟩, b⟩ := e.fix i o h hf
    exact ⟨⟨o', by rw [getElem?_set_ne _ _ _ _ (by omega)]; exact a, a'⟩, fun l hl => by rw [getElem?_set_ne _ _ _ _ (by omega)]; exact b l hl⟩
  · have hlt : i < H0.length := (List.getElem?_eq_some_iff.1 h).1
    obtain ⟨f', es', l', a, b, c, d⟩ := e.arr i T size frz es l h h'
    exact ⟨f', es', l', by rw [getElem?_set_ne _ _ _ _ (by omega)]; exact a, by rw [getElem?_set_ne _ _ _ _ (by omega)]; exact b, c, d⟩
/-- The return, where a block of deferred calls may be held. -/
def aPostM (P : Program) (fn : Func) (k : Nat) (K : AV → List AObj → Prop) : Exit → Slots → List AObj → Prop
  | .normal, sl, H | .ret, sl, H => match getS sl DEF with
    | .mark (some id) => k ≤ id ∧ aRet P fn ((DEF, .mark none) :: sl) (H.set id deadO) fun x => K x (H.set id deadO)
    | _ => aRet P fn sl H fun x => K x H
  | _, _, _ => False
theorem ACall.of_AWm {f : FuncId} {fn : Func} {c : Code} {args : List AV} {K : AV → List AObj → Prop} (he : Enters P f) (hf : P.funcs[f]? = some fn) (hb : fn.body = some c) (hn : args.length ≤ fn.ntmps ∧ fn.ntmps ≤ 1000000)
    (h : AW P fn.ntmps H.length c (aPostM P fn H.length K) ((DEF, .mark none) :: argSlots args) H) : ACall P f args H K := by
  refine ⟨he, fun S m B w vs s hv => callsIn_wide.1 (callsIn_of_wp_marks (F := Fence.wide) (n := 0) hf hb trivial ?_ rfl)⟩
  let cx : Cx := ⟨B, S, m, H, w, none⟩
  have hin : InSt cx fn.ntmps ((DEF, .mark none) :: argSlots args) H { tmps := vs.toArray ++ Array.replicate (fn.ntmps - vs.toArray.size) undef, defers := [] } w := by
    refine ⟨S, m, s, Ext.refl B S m H, Bel.refl B w, ?_, hn.2, ?_, fun d => ?_⟩
    · show DefOk _ _ _ _ (if DEF = DEF then _ else _)
      rw [if_pos rfl]; exact ⟨rfl, rfl⟩
    · have := hv.1
      have := hn.1
      simp; omega
    · show VA _ _ _ (if d = DEF then _ else _) _
      split
      · trivial
      unfold argSlots
      rw [getS_args 0 d, if_pos (Nat.zero_le _), Nat.sub_zero]
      by_cases hd : d < args.length
      · have hdv : d < vs.length := by rw [← hv.1]; exact hd
        have e1 : args.getD d .any = args[d] := by simp [List.getD_eq_getElem?_getD, hd]
        have e2 : (vs.toArray ++ Array.replicate (fn.ntmps - vs.toArray.size) undef).getD d undef = vs[d] := by
          rw [Array.getD_eq_getD_getElem?, Array.getElem?_append_left (by simpa using hdv)]
          simp [hdv]
        rw [e1, e2]
        exact hv.2 d _ _ (List.getElem?_eq_getElem hd) (List.getElem?_eq_getElem hdv)
      · have e1 : args.getD d .any = .any := by simp [List.getD_eq_getElem?_getD, List.getElem?_eq_none (show args.length ≤ d by omega)]
        rw [e1]; trivial
  refine wpIn_mono (h cx rfl _ w hin) ?_
  rintro e a' w' ⟨sl', H', ⟨S', m', s', e', b', r'⟩, hq⟩
  have fin : (match getS sl' DEF with
      | .mark (some id) => H.length ≤ id ∧ aRet P fn ((DEF, .mark none) :: sl') (H'.set id deadO) fun x => K x (H'.set id deadO)
      | _ => aRet P fn sl' H' fun x => K x H') → LeavesInM Fence.wide 0 P fn a'.tmps (fun e w' => ∃ v, e = .returned v ∧ Post B S m H w K v w') a'.defers .returning w' := fun hq => by
    have hdf := r'.defers
    split at hq
    · rename_i id hde
      rw [hde] at hdf
      obtain ⟨_, b, c, hm, hD, hds⟩ := hdf
      obtain ⟨hk, hq⟩ := hq
      have hO := s'.obj id _ _ hD hm
      have hbk : b < w'.heap.size := (Array.getElem?_eq_some_iff.1 hO.2).1
      rw [hds]
      have s2 := s'.kill hD hm (w' := w'.putObj b (.deferred none)) (by simp) (fun k hk => World.putObj_heap_other hk)
      have r2 : ARel none S' (m'.set id (.nil none)) (H'.set id deadO) fn.ntmps ((DEF, .mark none) :: sl') { a' with defers := [] } := by
        refine ⟨?_, r'.big, r'.size, fun d => ?_⟩
        · show DefOk _ _ _ _ (if DEF = DEF then _ else _)
          rw [if_pos rfl]; exact ⟨rfl, rfl⟩
        · show VA _ _ _ (if d = DEF then _ else _) _
          split
          · trivial
          · exact (r'.slot d).kill hD
      obtain ⟨_, v, x, h1, h2, h3⟩ := aRet_ok s2 r2 hq
      exact ⟨(by intro h; cases h), .inl ⟨b, _, rfl, run_takeDeferred hO.2, v, h1, v, rfl, S', _, _, x, s2, e'.kill s.len hk, b'.trans (below_putObj _ hO.1), h2, h3⟩⟩
    · obtain ⟨hd, v, x, h1, h2, h3⟩ := aRet_ok s' r' hq
      rw [hd]
      exact ⟨v, h1, v, rfl, S', m', H', x, s', e', b', h2, h3⟩
  cases e with
  | normal => exact fin hq
  | ret => exact fin hq
  | _ => exact hq.elim
end
attribute [go_sem] aRet aPostM rangeThen putPs cloOf RoundQ noMark
end Go.Aw
