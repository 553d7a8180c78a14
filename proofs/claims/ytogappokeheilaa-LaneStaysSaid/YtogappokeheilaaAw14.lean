/-
  An abstract memory for walks, part 14: a region whose order is drawn comes to what the text's order comes to.
-/
import Derived.Test.YtogappokeheilaaAw13
import Derived.Still
set_option linter.unusedVariables false
set_option linter.unusedSimpArgs false
namespace Go.Aw
open Go.RowKit

/-! ### A new object takes the place of a hole -/
section
variable {P : Program} {S S0 : Mem} {m m1 : List Loc} {H : List AObj} {B : Nat} {w w0 : World} {id : Nat} {o : AObj} {l : Loc}
def namesOk (H : List AObj) : Cell → Prop
  | .p _ => True
  | .pp _ => True
  | .own i _ => ∃ T size frz es, H[i]? = some (.arr T size frz es)
  | .ep i _ _ _ => ∃ T size frz es, H[i]? = some (.arr T size frz es)
  | .room i _ => ∃ T size frz es, H[i]? = some (.arr T size frz es)
  | .ptr i _ => ∃ cs, H[i]? = some (.var cs)
  | .clo _ _ caps => ∀ q, q ∈ caps → ∃ cs, H[q.1]? = some (.var cs)
  | .yld i => ∃ L, H[i]? = some (.loop L)
  | .mp i => ∃ es, H[i]? = some (.map es)
theorem VC.okIds {c : Cell} {v : Value} (h : VC S m H c v) : namesOk H c := by
  cases c with
  | p x => trivial
  | pp x => trivial
  | own i n => obtain ⟨T, size, frz, es, l, h1, _⟩ := h; exact ⟨T, size, frz, es, h1⟩
  | ep i n j off => obtain ⟨T, size, frz, es, l, h1, _⟩ := h; exact ⟨T, size, frz, es, h1⟩
  | room i n => obtain ⟨T, size, frz, es, l, h1, _⟩ := h; exact ⟨T, size, frz, es, h1⟩
  | ptr i off => obtain ⟨b, cap, cs, h1, _⟩ := h; exact ⟨cs, h1⟩
  | clo f first caps =>
    obtain ⟨fs, cs, h1, h2, h3, h4⟩ := h
    intro q hq
    obtain ⟨i, hi⟩ := List.getElem?_of_mem hq
    have hlt : i < cs.length := by rw [h3]; exact (List.getElem?_eq_some_iff.1 hi).1
    obtain ⟨b, cap, ds, k1, _⟩ := h4 i q _ hi (List.getElem?_eq_getElem hlt)
    exact ⟨ds, k1⟩
  | yld i => obtain ⟨b, cap, L, h1, _⟩ := h; exact ⟨L, h1⟩
  | mp i => obtain ⟨b, cap, L, h1, _⟩ := h; exact ⟨L, h1⟩
theorem VCs.okIds {cs : List Cell} {vs : List Value} (h : VCs S m H cs vs) : ∀ c, c ∈ cs → namesOk H c := fun c hc => by
  obtain ⟨i, hi⟩ := List.getElem?_of_mem hc
  have hlt : i < vs.length := by rw [← h.1]; exact (List.getElem?_eq_some_iff.1 hi).1
  exact (h.2 i c _ hi (List.getElem?_eq_getElem hlt)).okIds
/-- A cell that names what was there says the same. -/
theorem VC.move (hl : m1.length = H.length) (hh : H[id]? = some .hole) {c : Cell} {v : Value} (hk : namesOk H c) (h : VC S (m1 ++ [l]) (H ++ [o]) c v) : VC S (m1.set id l) (H.set id o) c v := by
  have key : ∀ {i : Nat} {x : AObj}, H[i]? = some x → x ≠ .hole → (H ++ [o])[i]? = (H.set id o)[i]? ∧ (m1 ++ [l])[i]? = (m1.set id l)[i]? := fun {i x} hi hx => by
    have hlt := (List.getElem?_eq_some_iff.1 hi).1
    have hne : id ≠ i := fun e => by subst e; rw [hh] at hi; cases hi; exact hx rfl
    rw [List.getElem?_append_left hlt, List.getElem?_append_left (by omega), getElem?_set_ne _ _ _ _ hne, getElem?_set_ne _ _ _ _ hne]
    exact ⟨rfl, rfl⟩
  cases c with
  | p x => exact h
  | pp x => exact h
  | own i n =>
    obtain ⟨_, _, _, _, hk⟩ := hk
    obtain ⟨a, b⟩ := key hk (fun e => by cases e)
    obtain ⟨T, size, frz, es, l', h1, h2, h3⟩ := h
    exact ⟨T, size, frz, es, l', a ▸ h1, b ▸ h2, h3⟩
  | ep i n j off =>
    obtain ⟨_, _, _, _, hk⟩ := hk
    obtain ⟨a, b⟩ := key hk (fun e => by cases e)
    obtain ⟨T, size, frz, es, l', h1, h2, h3⟩ := h
    exact ⟨T, size, frz, es, l', a ▸ h1, b ▸ h2, h3⟩
  | room i n =>
    obtain ⟨_, _, _, _, hk⟩ := hk
    obtain ⟨a, b⟩ := key hk (fun e => by cases e)
    obtain ⟨T, size, frz, es, l', h1, h2, h3⟩ := h
    exact ⟨T, size, frz, es, l', a ▸ h1, b ▸ h2, h3⟩
  | ptr i off =>
    obtain ⟨_, hk⟩ := hk
    obtain ⟨a, b⟩ := key hk (fun e => by cases e)
    obtain ⟨b', cap, cs, h1, h2, h3⟩ := h
    exact ⟨b', cap, cs, a ▸ h1, b ▸ h2, h3⟩
  | clo f first caps =>
    obtain ⟨fs, cs, h1, h2, h3, h4⟩ := h
    refine ⟨fs, cs, h1, h2, h3, fun i q u hq hu => ?_⟩
    obtain ⟨b', cap, ds, k1, k2, k3⟩ := h4 i q u hq hu
    obtain ⟨_, hk⟩ := hk q (List.mem_of_getElem? hq)
    obtain ⟨a, b⟩ := key hk (fun e => by cases e)
    exact ⟨b', cap, ds, a ▸ k1, b ▸ k2, k3⟩
  | yld i =>
    obtain ⟨_, hk⟩ := hk
    obtain ⟨a, b⟩ := key hk (fun e => by cases e)
    obtain ⟨b', cap, L, h1, h2, h3⟩ := h
    exact ⟨b', cap, L, a ▸ h1, b ▸ h2, h3⟩
  | mp i =>
    obtain ⟨_, hk⟩ := hk
    obtain ⟨a, b⟩ := key hk (fun e => by cases e)
    obtain ⟨b', cap, L, h1, h2, h3⟩ := h
    exact ⟨b', cap, L, a ▸ h1, b ▸ h2, h3⟩
theorem VCs.move (hl : m1.length = H.length) (hh : H[id]? = some .hole) {cs : List Cell} {vs : List Value} (hk : ∀ c, c ∈ cs → namesOk H c) (h : VCs S (m1 ++ [l]) (H ++ [o]) cs vs) : VCs S (m1.set id l) (H.set id o) cs vs :=
  ⟨h.1, fun i c v a b => (h.2 i c v a b).move hl hh (hk c (List.mem_of_getElem? a))⟩
theorem VA.move (hl : m1.length = H.length) (hh : H[id]? = some .hole) {x : AV} {v v0 : Value} {mm : List Loc} (h0 : VA S0 mm H x v0) (h : VA S (m1 ++ [l]) (H ++ [o]) x v) : VA S (m1.set id l) (H.set id o) x v := by
  cases x with
  | any => trivial
  | c x => exact VC.move hl hh (VC.okIds h0) h
  | agg cs =>
    obtain ⟨us, _, k⟩ := h0
    obtain ⟨vs, h1, h2⟩ := h
    exact ⟨vs, h1, h2.move hl hh k.okIds⟩
  | tup bs =>
    obtain ⟨us, _, k1, k2⟩ := h0
    obtain ⟨vs, h1, h2, h3⟩ := h
    refine ⟨vs, h1, h2, fun i b u hb hu => ?_⟩
    have hlt : i < us.length := by rw [← k1]; exact (List.getElem?_eq_some_iff.1 hb).1
    have g := k2 i b _ hb (List.getElem?_eq_getElem hlt)
    have g' := h3 i b u hb hu
    obtain ⟨f, cs⟩ := b
    cases f with
    | false =>
      obtain ⟨c, e1, e2⟩ := g
      obtain ⟨c', e3, e4⟩ := g'
      subst e1; cases e3
      exact ⟨c, rfl, e4.move hl hh e2.okIds⟩
    | true =>
      obtain ⟨q, e1, e2⟩ := g
      obtain ⟨q', e3, e4⟩ := g'
      exact ⟨q', e3, e4.move hl hh e2.okIds⟩
  | mark o => trivial
/-- What is made is a variable, or an array. -/
def isNew (H : List AObj) : AObj → Prop
  | .var cs => ∀ c, c ∈ cs → namesOk H c
  | .arr _ _ _ _ => True
  | _ => False
theorem Sim.move (s0 : Sim S0 m H B w0) (s : Sim S (m1 ++ [l]) (H ++ [o]) B w) (hl : m1.length = H.length) (hh : H[id]? = some .hole) (hn : isNew H o) : Sim S (m1.set id l) (H.set id o) B w := by
  have hid := (List.getElem?_eq_some_iff.1 hh).1
  refine ⟨by simp [hl], s.mem, s.base, fun i x y hx hy => ?_, fun i j b c d hi hj => ?_⟩
  · by_cases hi : id = i
    · subst hi
      rw [List.getElem?_set_self hid] at hx
      rw [List.getElem?_set_self (by omega)] at hy
      cases hx; cases hy
      have hO := s.obj H.length o l (by simp) (by rw [← hl]; simp)
      cases o with
      | var cs =>
        cases l with
        | nil A => exact hO
        | at_ b c =>
          obtain ⟨h1, h2, cur, T, h3, h4⟩ := hO
          exact ⟨h1, h2, cur, T, h3, h4.move hl hh hn⟩
      | arr T size frz es => cases l <;> exact hO
      | _ => exact hn.elim
    · rw [getElem?_set_ne _ _ _ _ hi] at hx hy
      have hlt := (List.getElem?_eq_some_iff.1 hx).1
      have hO := s.obj i x y (by rw [List.getElem?_append_left hlt]; exact hx) (by rw [List.getElem?_append_left (by omega)]; exact hy)
      obtain ⟨y0, hy0, hO0⟩ := s0.loc hx
      cases x with
      | var cs =>
        cases y with
        | nil A => exact hO
        | at_ b c =>
          obtain ⟨h1, h2, cur, T, h3, h4⟩ := hO
          cases y0 with
          | nil A => exact hO0.elim
          | at_ b0 c0 =>
            obtain ⟨_, _, cur0, T0, _, g4⟩ := hO0
            exact ⟨h1, h2, cur, T, h3, h4.move hl hh g4.okIds⟩
      | arr T size frz es => cases y <;> exact hO
      | dfr => cases y <;> exact hO
      | hole => cases y <;> exact hO
      | loop L =>
        cases y with
        | nil A => exact hO
        | at_ b c =>
          obtain ⟨h1, fn, tmps, bd, h2, h5, h6⟩ := hO
          cases y0 with
          | nil A => exact hO0.elim
          | at_ b0 c0 =>
            obtain ⟨_, _, tmps0, _, _, _, g6⟩ := hO0
            exact ⟨h1, fn, tmps, bd, h2, h5, fun d => VA.move hl hh (g6 d) (h6 d)⟩
      | map es =>
        cases y with
        | nil A => exact hO
        | at_ b c =>
          obtain ⟨h1, ents, clock, h2, h3, h4⟩ := hO
          cases y0 with
          | nil A => exact hO0.elim
          | at_ b0 c0 =>
            obtain ⟨_, ents0, _, _, g3, g4⟩ := hO0
            refine ⟨h1, ents, clock, h2, h3, fun i k c e hi he => ⟨(h4 i k c e hi he).1, ?_⟩⟩
            have hlt0 : i < ents0.size := by rw [← g3]; exact (List.getElem?_eq_some_iff.1 hi).1
            exact VC.move hl hh (g4 i k c _ hi (Array.getElem?_eq_getElem hlt0)).2.okIds (h4 i k c e hi he).2
  · have hh1 : ∀ {i : Nat} {b c : Nat}, (m1.set id l)[i]? = some (Loc.at_ b c) → (m1 ++ [l])[if i = id then m1.length else i]? = some (Loc.at_ b c) := fun {i b c} hi => by
      by_cases h1 : i = id
      · subst h1
        rw [List.getElem?_set_self (by omega)] at hi
        rw [if_pos rfl]; simpa using hi
      · rw [getElem?_set_ne _ _ _ _ (Ne.symm h1)] at hi
        rw [if_neg h1, List.getElem?_append_left (List.getElem?_eq_some_iff.1 hi).1]; exact hi
    have hlti : i < m1.length := by have := (List.getElem?_eq_some_iff.1 hi).1; simpa using this
    have hltj : j < m1.length := by have := (List.getElem?_eq_some_iff.1 hj).1; simpa using this
    have := s.inj _ _ b c d (hh1 hi) (hh1 hj)
    split at this <;> split at this <;> omega
theorem Ext.move (s0 : Sim S0 m H B w0) (e : Ext B S0 m H S (m1 ++ [l]) (H ++ [o])) (hl : m1.length = H.length) (hh : H[id]? = some .hole) : Ext B S0 m H S (m1.set id l) (H.set id o) := by
  have key : ∀ {i : Nat} {x : AObj}, H[i]? = some x → x ≠ .hole → (H ++ [o])[i]? = H[i]? ∧ (H.set id o)[i]? = H[i]? ∧ (m1 ++ [l])[i]? = (m1.set id l)[i]? := fun {i x} hi hx => by
    have hlt := (List.getElem?_eq_some_iff.1 hi).1
    have hne : id ≠ i := fun e => by subst e; rw [hh] at hi; cases hi; exact hx rfl
    rw [List.getElem?_append_left hlt, List.getElem?_append_left (by omega), getElem?_set_ne _ _ _ _ hne, getElem?_set_ne _ _ _ _ hne]
    exact ⟨rfl, rfl, rfl⟩
  refine ⟨e.mem, e.old, fun i x hx hf => ?_, fun i T size frz es l' hx hl' => ?_⟩
  · obtain ⟨a, b, c⟩ := key hx (fun h => by subst h; exact hf.elim)
    refine ⟨⟨x, by rw [b]; exact hx, Kin.refl hf⟩, fun l' hl' => ?_⟩
    rw [← c]; exact (e.fix i x hx hf).2 l' hl'
  · obtain ⟨a, b, c⟩ := key hx (fun h => by cases h)
    obtain ⟨frz', es', l2, g1, g2, g3, g4⟩ := e.arr i T size frz es l' hx hl'
    rw [a, hx] at g1
    cases g1
    exact ⟨frz, es, l', by rw [b]; exact hx, by rw [← c, g2, g4 rfl], Nat.le_refl _, fun _ => rfl⟩
/-- What is made lies in the hole, and its name is the hole's. -/
theorem Behind.move {n : Nat} {a a' : Act} {dst : Option Tmp} {w' : World} (s0 : Sim S0 m H B w) {K : AV → List AObj → Prop} (hh : H[id]? = some .hole)
    (h : Behind B n S0 m H w a dst (fun x H' => ∃ o, H' = H ++ [o] ∧ isNew H o ∧ ((x = .c (.ptr H.length 0) ∧ (∃ cs, o = .var cs) ∧ K (.c (.ptr id 0)) (H.set id o)) ∨ ∃ k, x = .c (.own H.length k) ∧ (∃ T size frz es, o = .arr T size frz es) ∧ K (.c (.own id k)) (H.set id o))) a' w') :
    Behind B n S0 m H w a dst K a' w' := by
  obtain ⟨v, S', m', H', x, h1, h2, h3, h4, h5, o, rfl, hn, h6⟩ := h
  have hid := (List.getElem?_eq_some_iff.1 hh).1
  have hlen : m'.length = H.length + 1 := by have := h2.len; simpa using this
  obtain ⟨m1, l, rfl⟩ : ∃ m1 l, m' = m1 ++ [l] := by
    have hne : m' ≠ [] := fun e => by subst e; simp at hlen
    exact ⟨m'.dropLast, m'.getLast hne, (List.dropLast_concat_getLast hne).symm⟩
  have hl : m1.length = H.length := by simpa using hlen
  have s2 := Sim.move (id := id) s0 h2 hl hh hn
  have e2 := Ext.move (id := id) s0 h3 hl hh
  have gH : (H.set id o)[id]? = some o := by simp [hid]
  have gm : (m1.set id l)[id]? = some l := by rw [List.getElem?_set_self (by omega)]
  have fH : (H ++ [o])[H.length]? = some o := by simp
  have fm : (m1 ++ [l])[H.length]? = some l := by rw [← hl]; simp
  rcases h6 with ⟨rfl, ⟨cs, rfl⟩, hk⟩ | ⟨k, rfl, ⟨T, size, frz, es, rfl⟩, hk⟩
  · obtain ⟨b, cap, ds, g1, g2, g3⟩ := h5
    rw [fH] at g1; rw [fm] at g2
    cases g1; cases g2
    exact ⟨v, S', _, _, .c (.ptr id 0), h1, s2, e2, h4, ⟨b, cap, _, gH, gm, g3⟩, hk⟩
  · obtain ⟨T', size', frz', es', l', g1, g2, g3⟩ := h5
    rw [fH] at g1; rw [fm] at g2
    cases g1; cases g2
    exact ⟨v, S', _, _, .c (.own id k), h1, s2, e2, h4, ⟨_, _, _, _, _, gH, gm, g3⟩, hk⟩
end

inductive Ef where
  | none
  | set (id : Nat) (o : AObj)
def Ef.on : Ef → List AObj → List AObj
  | .none, H => H
  | .set id o, H => H.set id o
/-- What an operation writes, and which objects are not shown to it. -/
abbrev Row := Option Nat × List Nat
def lookF (hid : List Nat) (H : List AObj) : Look := fun id => if hid.contains id = true then none else H[id]?
/-- The call makes a new array. -/
def POC (P : Program) (f : FuncId) (pargs : List PB) (T size : Nat) (es : List (List PV)) : Prop :=
  Enters P f ∧ ∀ (H : List AObj) (K : AV → List AObj → Prop), K (.c (.own H.length es.length)) (H ++ [.arr T size 0 es]) → ACall P f (pargs.map pbAV) H K
def freshK (look : Look) (id : Nat) (K : AV → Ef → Prop) : AV → List AObj → Prop := fun x H1 => look id = some .hole ∧
  match x, H1 with
  | .c (.own 0 n), [.arr T size frz es] => K (.c (.own id n)) (.set id (.arr T size frz es))
  | _, _ => False
def aAppOwn (P : Program) (t u : TypeId) (id n : Nat) (y : AV) (look : Look) (K : AV → Ef → Prop) : Prop :=
  match P.underlying t, frzA [] y with
  | some (.slice e), some (.sl _ ys, _) => u = t ∧ 0 < P.cellsOf e ∧ zeroOk P e ∧ allLen (P.cellsOf e) ys ∧ match look id with
    | some (.arr T size frz es) => es.length = n ∧ T = e ∧ size = P.cellsOf e ∧ (n + ys.length) * P.bytesOf e ≤ 140737488355328 ∧ n + ys.length ≤ 9223372036854775807 ∧ K (.c (.own id (n + ys.length))) (.set id (.arr T size frz (es ++ ys)))
    | _ => False
  | _, _ => False
/-- What an operation does that writes object id. -/
def aopF (P : Program) (ρ : Operand → AV) (look : Look) (id : Nat) (o : Op) (K : AV → Ef → Prop) : Prop :=
  match o with
  | .store t x v => match cellsA (ρ v) with
    | none => False
    | some vs => vs.length = P.cellsOf t ∧ 0 < P.cellsOf t ∧ match ρ x with
      | .c (.ptr i off) => i = id ∧ match look id with
        | some (.var cs) => off + vs.length ≤ cs.length ∧ K .any (.set id (.var (splice cs off vs)))
        | _ => False
      | .c (.ep i n j off) => match frzs [] vs with
        | some (ps, _) => i = id ∧ match look id with
          | some (.arr T size frz es) => es.length = n ∧ frz ≤ j ∧ ∃ e, es[j]? = some e ∧ off + ps.length ≤ e.length ∧ K .any (.set id (.arr T size frz (es.set j (splice e off (ps.map lo)))))
          | _ => False
        | none => False
      | _ => False
  | .alloc t => match zeroA P t with
    | some z => match cellsA z with
      | some cs => look id = some .hole ∧ K (.c (.ptr id 0)) (.set id (.var cs))
      | none => False
    | none => False
  | .box _ x => match cellsA (ρ x) with
    | some cs => look id = some .hole ∧ K (.c (.ptr id 0)) (.set id (.var cs))
    | none => False
  | .buildSlice t len ps => aBuildSlice P true t len (ps.toList.map fun q => (q.1, ρ q.2)) [] (freshK look id K)
  | .makeSlice t l c => aMake P t (ρ l) (ρ c) [] (freshK look id K)
  | .call c => match c.callee with
    | .value f => match ρ f with
      | .c (.p (.fn g)) => ∃ pargs T size es, POC P g pargs T size es ∧ frzVs [] (c.args.toList.map ρ) = some (pargs, []) ∧ look id = some .hole ∧ K (.c (.own id es.length)) (.set id (.arr T size 0 es))
      | _ => False
    | .builtin .append => match c.argTypes.toList, c.args.toList.map ρ with
      | [t, u], [x, y] => (∀ k, P.underlying u ≠ some (.int k)) ∧ match x with
        | .c (.own i n) => i = id ∧ aAppOwn P t u id n y look K
        | x => aAppend P false t u x y [] (freshK look id K)
      | _, _ => False
    | _ => False
  | _ => False
def aopE (P : Program) (ρ : Operand → AV) (look : Look) (w : Option Nat) (o : Op) (K : AV → Ef → Prop) : Prop :=
  match w with
  | some id => aopF P ρ look id o K
  | none => match o with
    | .makeFunc fn first caps => match fn, pureL (first.toList.map ρ), capsL (caps.toList.map ρ) with
      | .func g, some fs, some cs => K (.c (.clo g fs cs)) .none
      | _, _, _ => False
    | o => aopD P ρ look o fun x => K x .none
def EfOk (w : Option Nat) (H : List AObj) : Ef → Prop
  | .none => True
  | .set id _ => w = some id ∧ id < H.length
section
variable {P : Program} {n : Nat} {S : Mem} {m : List Loc} {H : List AObj} {B : Nat} {w : World}
theorem lookF_some {hid : List Nat} {id : Nat} {x : AObj} (h : lookF hid H id = some x) : H[id]? = some x := by
  unfold lookF at h
  split at h
  · cases h
  · exact h
/-! ### One value, one effect -/
theorem freshK_lin {look : Look} {id : Nat} {K : AV → Ef → Prop} {x : AV} {H1 : List AObj} (h : freshK look id K x H1) : ∃ y e, K y e ∧ look id = some .hole ∧ (∃ ob, e = .set id ob) ∧ ∀ K', K' y e → freshK look id K' x H1 := by
  unfold freshK at h
  obtain ⟨h1, h⟩ := h
  split at h
  · exact ⟨_, _, h, h1, ⟨_, rfl⟩, fun K' k => ⟨h1, k⟩⟩
  · exact h.elim
theorem buildSlice_lin {ow : Bool} {t : TypeId} {len : Nat} {ps : List (Nat × AV)} {K : AV → List AObj → Prop} (h : aBuildSlice P ow t len ps H K) : ∃ x H1, K x H1 ∧ ∀ K', K' x H1 → aBuildSlice P ow t len ps H K' := by
  unfold aBuildSlice at h ⊢
  generalize P.underlying t = vu at h ⊢
  split at h
  · obtain ⟨a, b, c, d, h⟩ := h
    generalize aElems H (ps.map (·.2)) = ve at h ⊢
    split at h
    · obtain ⟨e, h⟩ := h
      cases ow with
      | true => exact ⟨_, _, h, fun K' k => ⟨a, b, c, d, e, k⟩⟩
      | false => exact ⟨_, _, h, fun K' k => ⟨a, b, c, d, e, k⟩⟩
    · exact h.elim
  · exact h.elim
theorem make_lin {t : TypeId} {x y : AV} {K : AV → List AObj → Prop} (h : aMake P t x y H K) : ∃ x' H1, K x' H1 ∧ ∀ K', K' x' H1 → aMake P t x y H K' := by
  unfold aMake at h ⊢
  generalize P.underlying t = vu at h ⊢
  generalize intA x = v1 at h ⊢
  generalize intA y = v2 at h ⊢
  split at h
  · obtain ⟨a, b, c, d, e, h⟩ := h
    rename_i ee _ _
    generalize zeroP P ee = vz at h ⊢
    split at h
    · exact ⟨_, _, h.2, fun K' k => ⟨a, b, c, d, e, h.1, k⟩⟩
    · exact h.elim
  · exact h.elim
theorem append_lin {t u : TypeId} {x y : AV} {K : AV → List AObj → Prop} (h : aAppend P false t u x y H K) : ∃ x' H1, K x' H1 ∧ ∀ K', K' x' H1 → aAppend P false t u x y H K' := by
  unfold aAppend at h ⊢
  generalize P.underlying t = vu at h ⊢
  generalize frzA H y = vf at h ⊢
  split at h
  · obtain ⟨a, b, c, d, h⟩ := h
    split at h
    · obtain ⟨e, h⟩ := h
      split at h
      · rename_i hl
        try simp only [hl]
        obtain ⟨f, g, i, j, k, h⟩ := h
        exact ⟨_, _, h, fun K' k' => ⟨a, b, c, d, trivial, f, g, i, j, k, k'⟩⟩
      · exact h.elim
    · simp only [Bool.false_eq_true, if_false] at h
      obtain ⟨e, f, g, i, h⟩ := h
      exact ⟨_, _, h, fun K' k' => ⟨a, b, c, d, e, f, g, by simp only [Bool.false_eq_true, if_false]; exact ⟨i, k'⟩⟩⟩
    · exact h.elim
  · exact h.elim
theorem appOwn_lin {t u : TypeId} {id nn : Nat} {y : AV} {look : Look} {K : AV → Ef → Prop} (h : aAppOwn P t u id nn y look K) : ∃ x e ob ob', K x e ∧ look id = some ob' ∧ e = .set id ob ∧ ∀ K', K' x e → aAppOwn P t u id nn y look K' := by
  unfold aAppOwn at h ⊢
  generalize P.underlying t = vu at h ⊢
  generalize frzA [] y = vf at h ⊢
  split at h
  · obtain ⟨a, b, c, d, h⟩ := h
    split at h
    · rename_i hl
      try simp only [hl]
      obtain ⟨f, g, i, j, k, h⟩ := h
      exact ⟨_, _, _, _, h, rfl, rfl, fun K' k' => ⟨a, b, c, d, f, g, i, j, k, k'⟩⟩
    · exact h.elim
  · exact h.elim
theorem aopF_lin {ρ : Operand → AV} {o : Op} {K : AV → Ef → Prop} {hid : List Nat} {id : Nat} (h : aopF P ρ (lookF hid H) id o K) :
    ∃ x e, K x e ∧ EfOk (some id) H e ∧ ∀ K', K' x e → aopF P ρ (lookF hid H) id o K' := by
  have ok : ∀ {ob ob' : AObj}, lookF hid H id = some ob → EfOk (some id) H (.set id ob') := fun h => ⟨rfl, (List.getElem?_eq_some_iff.1 (lookF_some h)).1⟩
  have fresh : ∀ {F : (AV → List AObj → Prop) → Prop} {K0 : AV → Ef → Prop}, (∃ x H1, freshK (lookF hid H) id K0 x H1 ∧ ∀ K', K' x H1 → F K') → ∃ x e, K0 x e ∧ EfOk (some id) H e ∧ ∀ K', K' x e → F (freshK (lookF hid H) id K') := by
    rintro F K0 ⟨x, H1, h, g⟩
    obtain ⟨y, e, k, hl, ⟨ob, rfl⟩, g'⟩ := freshK_lin h
    exact ⟨y, _, k, ok hl, fun K' k' => g _ (g' K' k')⟩
  cases o <;> simp only [aopF] at h ⊢ <;> try exact h.elim
  case store t x v =>
    generalize ρ x = vx at h ⊢
    generalize cellsA (ρ v) = vv at h ⊢
    split at h
    · exact h.elim
    · rename_i vs
      obtain ⟨h1, h2, h⟩ := h
      split at h
      · rename_i i off
        obtain ⟨h3, h⟩ := h
        split at h
        · rename_i cs hl
          try simp only [hl]
          exact ⟨_, _, h.2, ok hl, fun K' k => ⟨h1, h2, h3, h.1, k⟩⟩
        · exact h.elim
      · rename_i i nn j off
        split at h
        · rename_i ps Hx hf
          try simp only [hf]
          obtain ⟨h3, h⟩ := h
          split at h
          · rename_i T size frz es hl
            try simp only [hl]
            obtain ⟨a, b, e, c, d, k⟩ := h
            exact ⟨_, _, k, ok hl, fun K' k => ⟨h1, h2, h3, a, b, e, c, d, k⟩⟩
          · exact h.elim
        · exact h.elim
      · exact h.elim
  case alloc t =>
    cases hz : zeroA P t with
    | none => simp [hz] at h
    | some z =>
      simp only [hz] at h ⊢
      cases hc : cellsA z with
      | none => simp [hc] at h
      | some cs =>
        simp only [hc] at h ⊢
        exact ⟨_, _, h.2, ok h.1, fun K' k => ⟨h.1, k⟩⟩
  case box t x =>
    cases hc : cellsA (ρ x) with
    | none => simp [hc] at h
    | some cs =>
      simp only [hc] at h ⊢
      exact ⟨_, _, h.2, ok h.1, fun K' k => ⟨h.1, k⟩⟩
  case buildSlice t len ps => exact fresh (buildSlice_lin h)
  case makeSlice t l c => exact fresh (make_lin h)
  case call c =>
    obtain ⟨callee, args, ats⟩ := c
    simp only at h ⊢
    cases callee with
    | value f =>
      simp only at h ⊢
      generalize ρ f = vf at h ⊢
      split at h
      · obtain ⟨pargs, T, size, es, h1, h2, h3, h4⟩ := h
        exact ⟨_, _, h4, ok h3, fun K' k => ⟨pargs, T, size, es, h1, h2, h3, k⟩⟩
      · exact h.elim
    | invoke recv name => exact h.elim
    | builtin b =>
      cases b <;> simp only at h ⊢ <;> try exact h.elim
      generalize args.toList.map ρ = vs at h ⊢
      generalize ats.toList = ats at h ⊢
      split at h
      · obtain ⟨h1, h⟩ := h
        split at h
        · obtain ⟨h2, h⟩ := h
          obtain ⟨x, e, ob, ob', k, hl, rfl, g⟩ := appOwn_lin h
          exact ⟨_, _, k, ok hl, fun K' k' => ⟨h1, h2, g _ k'⟩⟩
        · obtain ⟨x, e, k, ok', g⟩ := fresh (append_lin h)
          exact ⟨x, e, k, ok', fun K' k' => ⟨h1, g _ k'⟩⟩
      · exact h.elim
theorem aopE_lin {ρ : Operand → AV} {o : Op} {K : AV → Ef → Prop} {hid : List Nat} {wr : Option Nat} (h : aopE P ρ (lookF hid H) wr o K) :
    ∃ x e, K x e ∧ EfOk wr H e ∧ ∀ K', K' x e → aopE P ρ (lookF hid H) wr o K' := by
  cases wr with
  | some id => exact aopF_lin h
  | none =>
    cases o
    case makeFunc fn first caps =>
      simp only [aopE] at h ⊢
      generalize pureL (first.toList.map ρ) = v1 at h ⊢
      generalize capsL (caps.toList.map ρ) = v2 at h ⊢
      split at h
      · exact ⟨_, _, h, trivial, fun K' k => k⟩
      · exact h.elim
    all_goals
      simp only [aopE] at h ⊢
      obtain ⟨x, k, g⟩ := aopD_lin h
      exact ⟨x, .none, k, trivial, fun K' k => g _ k⟩
/-! ### The world -/
theorem buildSlice_here {t : TypeId} {len : Nat} {ps : List (Nat × AV)} {K : AV → List AObj → Prop} (h : aBuildSlice P true t len ps [] K) :
    aBuildSlice P true t len ps H fun x H' => ∃ k T size frz es, x = .c (.own H.length k) ∧ H' = H ++ [.arr T size frz es] ∧ K (.c (.own 0 k)) [.arr T size frz es] := by
  unfold aBuildSlice at h ⊢
  generalize P.underlying t = vu at h ⊢
  split at h
  · obtain ⟨a, b, c, d, h⟩ := h
    split at h
    · rename_i hf
      obtain ⟨rfl, kf⟩ := aElems_empty hf
      simp only [kf H]
      simp only [if_true] at h ⊢
      exact ⟨a, b, c, d, h.1, _, _, _, _, _, rfl, rfl, h.2⟩
    · exact h.elim
  · exact h.elim
theorem make_here {t : TypeId} {x y : AV} {K : AV → List AObj → Prop} (h : aMake P t x y [] K) :
    aMake P t x y H fun x H' => ∃ k T size frz es, x = .c (.own H.length k) ∧ H' = H ++ [.arr T size frz es] ∧ K (.c (.own 0 k)) [.arr T size frz es] := by
  unfold aMake at h ⊢
  generalize P.underlying t = vu at h ⊢
  generalize intA x = v1 at h ⊢
  generalize intA y = v2 at h ⊢
  split at h
  · obtain ⟨a, b, c, d, e, h⟩ := h
    refine ⟨a, b, c, d, e, ?_⟩
    split at h
    · rename_i hz
      exact ⟨h.1, _, _, _, _, _, rfl, rfl, h.2⟩
    · exact h.elim
  · exact h.elim
theorem append_here {t u : TypeId} {x y : AV} (hx : ∀ i n, x ≠ .c (.own i n)) {K : AV → List AObj → Prop} (h : aAppend P false t u x y [] K) :
    aAppend P false t u x y H fun x H' => ∃ k T size frz es, x = .c (.own H.length k) ∧ H' = H ++ [.arr T size frz es] ∧ K (.c (.own 0 k)) [.arr T size frz es] := by
  unfold aAppend at h ⊢
  generalize P.underlying t = vu at h ⊢
  split at h
  · rename_i hf
    obtain ⟨rfl, kf⟩ := frzA_empty hf
    simp only [kf H]
    obtain ⟨a, b, c, d, h⟩ := h
    split at h
    · exact absurd rfl (hx _ _)
    · simp only [Bool.false_eq_true, if_false] at h ⊢
      obtain ⟨e, f, g, i, h⟩ := h
      exact ⟨a, b, c, d, e, f, g, i, _, _, _, _, _, rfl, rfl, h⟩
    · exact h.elim
  · exact h.elim
theorem freshK_here {look : Look} {id : Nat} {K : AV → Ef → Prop} {k T size frz : Nat} {es : List (List PV)} (h : freshK look id K (.c (.own 0 k)) [.arr T size frz es]) : K (.c (.own id k)) (.set id (.arr T size frz es)) := h.2
theorem freshK_hole {look : Look} {id : Nat} {K : AV → Ef → Prop} {x : AV} {H1 : List AObj} (h : freshK look id K x H1) : look id = some .hole := h.1
theorem ACall.poc {f : FuncId} {args : List AV} {pargs : List PB} {T size : Nat} {es : List (List PV)} (hc : POC P f pargs T size es) (hf : frzVs H args = some (pargs, H)) :
    ACall P f args H fun x H' => x = .c (.own H.length es.length) ∧ H' = H ++ [.arr T size 0 es] := by
  refine ⟨hc.1, fun S m B w vs s hv => ?_⟩
  obtain ⟨S1, s1, e1, p1⟩ := frzVs_ok s hv hf
  refine ((hc.2 H (fun x H' => x = .c (.own H.length es.length) ∧ H' = H ++ [.arr T size 0 es]) ⟨rfl, rfl⟩).2 S1 m B w vs s1 (p1.VAs m H)).mono fun e w' ⟨v, he, S2, m', H', x, a, b, c, d, g⟩ => ?_
  exact ⟨v, he, S2, m', H', x, a, e1.trans b, c, d, g⟩
theorem aopE_wp {ρ : Operand → AV} {a : Act} {o : Oper} {Q : Exit → Act → World → Prop} {K : AV → Ef → Prop} {hid : List Nat} {wr : Option Nat} (s : Sim S m H B w) (r : ∀ y, VA S m H (ρ y) (a.eval y))
    (h : aopE P ρ (lookF hid H) wr o.op K) : o.wp P a w (Behind B n S m H w a o.dst fun x H' => ∃ e : Ef, H' = e.on H ∧ K x e) Q := by
  have viaD : aopD P ρ (lookF hid H) o.op (fun x => K x .none) → o.wp P a w (Behind B n S m H w a o.dst fun x H' => ∃ e : Ef, H' = e.on H ∧ K x e) Q := fun h => by
    by_cases hq : ∃ c, o.op = .call c ∧ c.callee = .builtin .append
    rotate_left
    · have hp : ∀ c, o.op = .call c → c.callee ≠ .builtin .append := fun c h1 h2 => hq ⟨c, h1, h2⟩
      refine Oper.wp_mono ?_ (aop_ok (n := n) s r (aopD_aop (fun id x => lookF_some) h hp))
      rintro a' w' ⟨v, S', m', H', x, e1, e2, e3, e4, e5, rfl, e6⟩
      exact ⟨v, S', m', H', x, e1, e2, e3, e4, e5, .none, rfl, e6⟩
    · obtain ⟨c, hc, hb⟩ := hq
      obtain ⟨dst, op, ty, pos, aft, gd⟩ := o
      obtain ⟨callee, args, ats⟩ := c
      simp only at hc hb
      subst hc; subst hb
      simp only [aopD] at h
      split at h
      · rename_i hx _ _; exact absurd hx (by simp)
      · rename_i t u x y hb hts hxs
        obtain ⟨x0, y0, rfl⟩ : ∃ x0 y0, args = #[x0, y0] := by
          have := congrArg List.length hxs
          simp at this
          exact size_two this
        obtain rfl : ats = #[t, u] := by apply Array.ext'; simpa using hts
        simp at hxs
        obtain ⟨rfl, rfl⟩ := hxs
        obtain ⟨vv, k, g⟩ : ∃ vv, K vv .none ∧ aAppend P true t u (ρ x0) (ρ y0) H (KH H (· = vv)) := by
          unfold aAppend at h ⊢
          generalize P.underlying t = vu at h ⊢
          split at h
          · rename_i hf
            obtain ⟨rfl, kf⟩ := frzA_empty hf
            simp only [kf H]
            obtain ⟨a, b, c, d, h⟩ := h
            generalize ρ x0 = vx at h ⊢
            split at h
            · exact absurd h.1 (by simp)
            · obtain ⟨e, f, g, h⟩ := h
              exact ⟨_, h, a, b, c, d, e, f, g, rfl, rfl⟩
            · exact h.elim
          · exact h.elim
        refine Oper.wp_mono ?_ (op_good (n := n) (c := Builtin.append_ #[t, u] ty #[a.eval x0, a.eval y0]) (o := ⟨dst, .call ⟨.builtin .append, #[x0, y0], #[t, u]⟩, ty, pos, aft, gd⟩) (by simp [execOp, resolve, invoke, builtin]) (good_append s (r x0) (r y0) g))
        rintro a' w' ⟨v, S', m', H', x, e1, e2, e3, e4, e5, rfl, rfl⟩
        exact ⟨v, S', m', _, _, e1, e2, e3, e4, e5, .none, rfl, k⟩
      · exact h.elim
  obtain ⟨dst, op, ty, pos, aft, gd⟩ := o
  have viaA : ∀ {K' : AV → List AObj → Prop}, aop P true ρ H op K' → (∀ x H', K' x H' → ∃ e : Ef, H' = e.on H ∧ K x e) →
      Oper.wp P ⟨dst, op, ty, pos, aft, gd⟩ a w (Behind B n S m H w a dst fun x H' => ∃ e : Ef, H' = e.on H ∧ K x e) Q := fun h hk => by
    refine Oper.wp_mono ?_ (aop_ok (n := n) (o := ⟨dst, op, ty, pos, aft, gd⟩) s r h)
    rintro a' w' ⟨v, S', m', H', x, e1, e2, e3, e4, e5, e6⟩
    exact ⟨v, S', m', H', x, e1, e2, e3, e4, e5, hk _ _ e6⟩
  cases wr with
  | none =>
    cases op
    case makeFunc fn first caps =>
      refine viaA (K' := fun x H' => ∃ e : Ef, H' = e.on H ∧ K x e) ?_ fun x H' h => h
      simp only [aopE] at h
      simp only [aop]
      unfold aMakeFunc
      generalize pureL (first.toList.map ρ) = v1 at h ⊢
      generalize capsL (caps.toList.map ρ) = v2 at h ⊢
      split at h
      · exact ⟨.none, rfl, h⟩
      · exact h.elim
    all_goals exact viaD (by simpa only [aopE] using h)
  | some id =>
    have new : ∀ (hl : lookF hid H id = some .hole), aop P true ρ H op (fun x H' => ∃ o, H' = H ++ [o] ∧ isNew H o ∧ ((x = .c (.ptr H.length 0) ∧ (∃ cs, o = .var cs) ∧ K (.c (.ptr id 0)) (.set id o)) ∨ ∃ k, x = .c (.own H.length k) ∧ (∃ T size frz es, o = .arr T size frz es) ∧ K (.c (.own id k)) (.set id o))) →
        Oper.wp P ⟨dst, op, ty, pos, aft, gd⟩ a w (Behind B n S m H w a dst fun x H' => ∃ e : Ef, H' = e.on H ∧ K x e) Q := fun hl h => by
      refine Oper.wp_mono ?_ (aop_ok (n := n) (o := ⟨dst, op, ty, pos, aft, gd⟩) s r h)
      intro a' w' hb
      refine Behind.move s (lookF_some hl) ?_
      obtain ⟨v, S', m', H', x, e1, e2, e3, e4, e5, o, rfl, hn, hx⟩ := hb
      refine ⟨v, S', m', _, x, e1, e2, e3, e4, e5, o, rfl, hn, ?_⟩
      rcases hx with ⟨rfl, hv, hk⟩ | ⟨k, rfl, hv, hk⟩
      · exact .inl ⟨rfl, hv, .set id o, rfl, hk⟩
      · exact .inr ⟨k, rfl, hv, .set id o, rfl, hk⟩
    have arr : ∀ {x : AV} {H' : List AObj}, (∃ k T size frz es, x = .c (.own H.length k) ∧ H' = H ++ [.arr T size frz es] ∧ freshK (lookF hid H) id K (.c (.own 0 k)) [.arr T size frz es]) →
        ∃ o, H' = H ++ [o] ∧ isNew H o ∧ ((x = .c (.ptr H.length 0) ∧ (∃ cs, o = .var cs) ∧ K (.c (.ptr id 0)) (.set id o)) ∨ ∃ k, x = .c (.own H.length k) ∧ (∃ T size frz es, o = .arr T size frz es) ∧ K (.c (.own id k)) (.set id o)) := by
      rintro x H' ⟨k, T, size, frz, es, rfl, rfl, hk⟩
      exact ⟨_, rfl, trivial, .inr ⟨k, rfl, ⟨T, size, frz, es, rfl⟩, freshK_here hk⟩⟩
    simp only [aopE] at h
    cases op <;> simp only [aopF] at h <;> try exact h.elim
    case store t x v =>
      refine viaA (K' := fun x H' => ∃ e : Ef, H' = e.on H ∧ K x e) ?_ fun x H' h => h
      simp only [aop]
      unfold aStore
      generalize ρ x = vx at h ⊢
      generalize cellsA (ρ v) = vv at h ⊢
      split at h
      · exact h.elim
      · rename_i vs
        obtain ⟨h1, h2, h⟩ := h
        refine ⟨h1, h2, ?_⟩
        split at h
        · rename_i id off
          obtain ⟨rfl, h⟩ := h
          split at h
          · rename_i cs hl
            simp only [lookF_some hl]
            exact ⟨h.1, .set _ _, rfl, h.2⟩
          · exact h.elim
        · rename_i id nn i off
          split at h
          · rename_i ps Hx hf
            obtain ⟨rfl, kf⟩ := frzs_empty hf
            simp only [kf H]
            obtain ⟨rfl, h⟩ := h
            split at h
            · rename_i T size frz es hl
              simp only [lookF_some hl]
              obtain ⟨a, b, e, c, d, k⟩ := h
              exact ⟨a, b, e, c, d, .set _ _, rfl, k⟩
            · exact h.elim
          · exact h.elim
        · exact h.elim
    case alloc t =>
      cases hz : zeroA P t with
      | none => simp [hz] at h
      | some z =>
        simp only [hz] at h
        cases hc : cellsA z with
        | none => simp [hc] at h
        | some cs =>
          simp only [hc] at h
          obtain ⟨u, _, hu⟩ := run_zero hz S m H w
          refine new h.1 ?_
          simp only [aop, aAlloc, aBox, hz, hc]
          exact ⟨_, rfl, (cellsA_ok hu hc).okIds, .inl ⟨by trivial, ⟨cs, by trivial⟩, h.2⟩⟩
    case box t x =>
      cases hc : cellsA (ρ x) with
      | none => simp [hc] at h
      | some cs =>
        simp only [hc] at h
        refine new h.1 ?_
        simp only [aop, aBox, hc]
        exact ⟨_, rfl, (cellsA_ok (r x) hc).okIds, .inl ⟨by trivial, ⟨cs, by trivial⟩, h.2⟩⟩
    case buildSlice t len ps =>
      obtain ⟨_, _, hf, _⟩ := buildSlice_lin h
      refine new (freshK_hole hf) ?_
      simp only [aop]
      obtain ⟨x, H1, hk, g⟩ := buildSlice_lin (buildSlice_here (H := H) h)
      exact g _ (arr hk)
    case makeSlice t l c =>
      obtain ⟨_, _, hf, _⟩ := make_lin h
      refine new (freshK_hole hf) ?_
      simp only [aop]
      obtain ⟨x, H1, hk, g⟩ := make_lin (make_here (H := H) h)
      exact g _ (arr hk)
    case call c =>
      obtain ⟨callee, args, ats⟩ := c
      simp only at h
      cases callee with
      | value f =>
        simp only at h
        split at h
        · rename_i g hg
          obtain ⟨pargs, T, size, es, h1, h2, h3, h4⟩ := h
          refine new h3 ?_
          simp only [aop, aCallee, hg]
          refine (ACall.poc h1 ((frzVs_empty h2).2 H)).mono fun x H' hx => ?_
          obtain ⟨rfl, rfl⟩ := hx
          exact ⟨_, rfl, trivial, .inr ⟨_, rfl, ⟨_, _, _, _, rfl⟩, h4⟩⟩
        · exact h.elim
      | invoke recv name => exact h.elim
      | builtin b =>
        cases b <;> simp only at h <;> try exact h.elim
        split at h
        · rename_i t u x y hts hxs
          obtain ⟨hnk, h⟩ := h
          have hbi : ∀ K', aAppend P false t u x y H K' → aop P true ρ H (.call ⟨.builtin .append, args, ats⟩) K' := fun K' hk => by
            simp only [aop, hts, hxs, aBuiltin]
            first | exact hk | (split <;> first | exact hk | (rename_i k hk'; exact absurd hk' (hnk k)))
          split at h
          · rename_i i nn
            obtain ⟨rfl, h⟩ := h
            refine viaA (K' := fun x H' => ∃ e : Ef, H' = e.on H ∧ K x e) (hbi _ ?_) fun x H' h => h
            unfold aAppOwn at h
            unfold aAppend
            generalize P.underlying t = vu at h ⊢
            split at h
            · rename_i hf
              obtain ⟨rfl, kf⟩ := frzA_empty hf
              simp only [kf H]
              obtain ⟨a, b, c, d, h⟩ := h
              split at h
              · rename_i T size frz es hl
                simp only [lookF_some hl]
                obtain ⟨f, g, i, j, k, h⟩ := h
                exact ⟨a, b, c, d, by trivial, f, g, i, j, k, .set _ _, rfl, h⟩
              · exact h.elim
            · exact h.elim
          · rename_i hx
            obtain ⟨_, _, hf, _⟩ := append_lin h
            refine new (freshK_hole hf) (hbi _ ?_)
            obtain ⟨x, H1, hk, g⟩ := append_lin (append_here (H := H) (fun i n e => hx i n e) h)
            exact g _ (arr hk)
        · exact h.elim
theorem aopE_congr {ρ ρ' : Operand → AV} {o : Op} {K : AV → Ef → Prop} {look : Look} {wr : Option Nat} (h : ∀ x ∈ o.operands, ρ x = ρ' x) : aopE P ρ look wr o K = aopE P ρ' look wr o K := by
  have args : ∀ xs : Array Operand, (∀ x ∈ xs, ρ x = ρ' x) → xs.toList.map ρ = xs.toList.map ρ' := fun xs hx => List.map_congr_left fun x hm => hx x (by simpa using hm)
  have pairs : ∀ ps : Array (Nat × Operand), (∀ x ∈ ps.map (·.2), ρ x = ρ' x) → (ps.toList.map fun q => (q.1, ρ q.2)) = (ps.toList.map fun q => (q.1, ρ' q.2)) := fun ps hp =>
    List.map_congr_left fun p hm => by
      obtain ⟨i, x⟩ := p
      simp only [hp x (Array.mem_map.2 ⟨(i, x), by simpa using hm, rfl⟩)]
  cases wr <;> cases o <;> simp only [Op.operands] at h <;> simp only [aopE, aopF, aopD]
  case none.build t ps => rw [pairs ps fun x hx => h x (by simpa using hx)]
  case none.buildSlice t n ps => rw [pairs ps fun x hx => h x (by simpa using hx)]
  case some.buildSlice iid t n ps => rw [pairs ps fun x hx => h x (by simpa using hx)]
  case none.makeFunc fn first captured => rw [args first fun x hx => h x (by simp [hx]), args captured fun x hx => h x (by simp [hx])]
  case none.call c =>
    obtain ⟨callee, as, ats⟩ := c
    have ha : as.toList.map ρ = as.toList.map ρ' := args as fun x hx => h x (by simp [Call.operands, hx])
    cases callee with
    | value f => simp only [ha, h f (by simp [Call.operands])]
    | invoke r nm => simp only [ha, h r (by simp [Call.operands])]
    | builtin b => simp only [ha]
  case some.call iid c =>
    obtain ⟨callee, as, ats⟩ := c
    have ha : as.toList.map ρ = as.toList.map ρ' := args as fun x hx => h x (by simp [Call.operands, hx])
    cases callee with
    | value f => simp only [ha, h f (by simp [Call.operands])]
    | invoke r nm => simp only [ha, h r (by simp [Call.operands])]
    | builtin b => simp only [ha]; try (cases b <;> rfl)
  case none.slice t x lo hi mx => cases lo <;> cases hi <;> cases mx <;> simp_all
  all_goals (first | rfl | (simp_all; done))
end
end Go.Aw
