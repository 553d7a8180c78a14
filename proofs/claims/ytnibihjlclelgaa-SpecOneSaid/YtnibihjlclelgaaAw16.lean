import Derived.Test.YtnibihjlclelgaaAw12
import Derived.Orders
import Derived.Still
/-
  An abstract memory for walks, part 13: a region that draws its order, whatever the order.
-/
set_option linter.unusedVariables false
set_option linter.unusedSimpArgs false
namespace Go.Aw
open Go.RowKit
section
variable {P : Program} {n : Nat} {S : Mem} {m : List Loc} {H : List AObj} {B : Nat} {w : World}

/-! ### Operations that read alone -/
def pureC : Cell → Option PV
  | .p x => some x
  | .clo f [] [] => some (.fn f)
  | _ => none
theorem frzC_empty {c : Cell} {x : PV} {H1 : List AObj} (h : frzC [] c = some (x, H1)) : H1 = [] ∧ ∀ H, frzC H c = some (x, H) := by
  cases c with
  | p y => simp [frzC] at h; obtain ⟨rfl, rfl⟩ := h; exact ⟨rfl, fun H => rfl⟩
  | own id n => simp [frzC] at h
  | ptr id off => simp [frzC] at h
  | ep id n i off => simp [frzC] at h
  | pp cs => simp [frzC] at h
  | yld id => simp [frzC] at h
  | room id n => simp [frzC] at h
  | mp id => simp [frzC] at h
  | vs id n => simp [frzC] at h
  | tl id k n xs => simp [frzC] at h; obtain ⟨rfl, rfl⟩ := h; exact ⟨rfl, fun H => rfl⟩
  | clo f fs cs =>
    cases fs with
    | cons _ _ => simp [frzC] at h
    | nil => cases cs with
      | cons _ _ => simp [frzC] at h
      | nil => simp [frzC] at h; obtain ⟨rfl, rfl⟩ := h; exact ⟨rfl, fun H => rfl⟩
theorem frzs_empty : ∀ {cs : List Cell} {xs : List PV} {H1 : List AObj}, frzs [] cs = some (xs, H1) → H1 = [] ∧ ∀ H, frzs H cs = some (xs, H)
  | [], xs, H1, h => by simp [frzs] at h; obtain ⟨rfl, rfl⟩ := h; exact ⟨rfl, fun H => rfl⟩
  | c :: cs, xs, H1, h => by
    simp only [frzs] at h
    cases h1 : frzC [] c with
    | none => simp [h1] at h
    | some q =>
      obtain ⟨x, H2⟩ := q
      obtain ⟨rfl, k1⟩ := frzC_empty h1
      simp only [h1] at h
      cases h2 : frzs [] cs with
      | none => simp [h2] at h
      | some q =>
        obtain ⟨ys, H3⟩ := q
        obtain ⟨rfl, k2⟩ := frzs_empty h2
        simp only [h2, Option.some.injEq, Prod.mk.injEq] at h
        obtain ⟨rfl, rfl⟩ := h
        exact ⟨rfl, fun H => by simp only [frzs, k1 H, k2 H]⟩
theorem frzA_empty {x : AV} {y : PV} {H1 : List AObj} (h : frzA [] x = some (y, H1)) : H1 = [] ∧ ∀ H, frzA H x = some (y, H) := by
  cases x with
  | c c => exact frzC_empty h
  | _ => simp [frzA] at h
theorem frzV_empty {x : AV} {y : PB} {H1 : List AObj} (h : frzV [] x = some (y, H1)) : H1 = [] ∧ ∀ H, frzV H x = some (y, H) := by
  cases x with
  | any => simp [frzV] at h
  | tup _ => simp [frzV] at h
  | mark _ => simp [frzV] at h
  | c c =>
    simp only [frzV] at h
    cases h1 : frzC [] c with
    | none => simp [h1] at h
    | some q =>
      obtain ⟨x, H2⟩ := q
      obtain ⟨rfl, k1⟩ := frzC_empty h1
      simp only [h1, Option.some.injEq, Prod.mk.injEq] at h
      obtain ⟨rfl, rfl⟩ := h
      exact ⟨rfl, fun H => by simp only [frzV, k1 H]⟩
  | agg cs =>
    simp only [frzV] at h
    cases h1 : frzs [] cs with
    | none => simp [h1] at h
    | some q =>
      obtain ⟨x, H2⟩ := q
      obtain ⟨rfl, k1⟩ := frzs_empty h1
      simp only [h1, Option.some.injEq, Prod.mk.injEq] at h
      obtain ⟨rfl, rfl⟩ := h
      exact ⟨rfl, fun H => by simp only [frzV, k1 H]⟩
theorem frzVs_empty : ∀ {xs : List AV} {ys : List PB} {H1 : List AObj}, frzVs [] xs = some (ys, H1) → H1 = [] ∧ ∀ H, frzVs H xs = some (ys, H)
  | [], xs, H1, h => by simp [frzVs] at h; obtain ⟨rfl, rfl⟩ := h; exact ⟨rfl, fun H => rfl⟩
  | c :: cs, xs, H1, h => by
    simp only [frzVs] at h
    cases h1 : frzV [] c with
    | none => simp [h1] at h
    | some q =>
      obtain ⟨x, H2⟩ := q
      obtain ⟨rfl, k1⟩ := frzV_empty h1
      simp only [h1] at h
      cases h2 : frzVs [] cs with
      | none => simp [h2] at h
      | some q =>
        obtain ⟨ys, H3⟩ := q
        obtain ⟨rfl, k2⟩ := frzVs_empty h2
        simp only [h2, Option.some.injEq, Prod.mk.injEq] at h
        obtain ⟨rfl, rfl⟩ := h
        exact ⟨rfl, fun H => by simp only [frzVs, k1 H, k2 H]⟩
theorem aElems_empty : ∀ {xs : List AV} {ys : List (List PV)} {H1 : List AObj}, aElems [] xs = some (ys, H1) → H1 = [] ∧ ∀ H, aElems H xs = some (ys, H)
  | [], xs, H1, h => by simp [aElems] at h; obtain ⟨rfl, rfl⟩ := h; exact ⟨rfl, fun H => rfl⟩
  | c :: cs, xs, H1, h => by
    simp only [aElems] at h
    cases h0 : cellsA c with
    | none => simp [h0] at h
    | some cc =>
      simp only [h0] at h
      cases h1 : frzs [] cc with
      | none => simp [h1] at h
      | some q =>
        obtain ⟨x, H2⟩ := q
        obtain ⟨rfl, k1⟩ := frzs_empty h1
        simp only [h1] at h
        cases h2 : aElems [] cs with
        | none => simp [h2] at h
        | some q =>
          obtain ⟨ys, H3⟩ := q
          obtain ⟨rfl, k2⟩ := aElems_empty h2
          simp only [h2, Option.some.injEq, Prod.mk.injEq] at h
          obtain ⟨rfl, rfl⟩ := h
          exact ⟨rfl, fun H => by simp only [aElems, h0, k1 H, k2 H]⟩

abbrev Look := Nat → Option AObj
def aPartD (P : Program) (t : TypeId) (cs : List Cell) (off : Nat) (K : AV → Prop) : Prop :=
  match aggT P t with
  | some true => 0 < P.cellsOf t ∧ off + P.cellsOf t ≤ cs.length ∧ K (.agg ((cs.drop off).take (P.cellsOf t)))
  | some false => match cs[off]? with
    | some c => K (.c c)
    | none => False
  | none => False
def aLoadD (P : Program) (t : TypeId) (x : AV) (look : Look) (K : AV → Prop) : Prop :=
  match x with
  | .c (.ptr id off) => match look id with
    | some (.var cs) => aPartD P t cs off K
    | _ => False
  | .c (.ep id n i off) => match look id with
    | some (.arr _ _ _ es) => es.length = n ∧ ∃ e, es[i]? = some e ∧ aPartD P t (e.map .p) off K
    | _ => False
  | .c (.pp cells) => aPartD P t (cells.map .p) 0 K
  | _ => False
def aFieldAddrD (P : Program) (s : TypeId) (x : AV) (f : Nat) (look : Look) (K : AV → Prop) : Prop :=
  match fieldOf P s f with
  | none => False
  | some (off, t) => 0 < P.cellsOf t ∧
    match x with
    | .c (.ptr id o) => K (.c (.ptr id (o + off)))
    | .c (.ep id n i o) => (∃ T size frz es, look id = some (.arr T size frz es) ∧ es.length = n) ∧ K (.c (.ep id n i (o + off)))
    | .c (.pp cells) => K (.c (.pp (cells.drop off)))
    | _ => False
def aIndexAddrD (P : Program) (t : TypeId) (x ix : AV) (look : Look) (K : AV → Prop) : Prop :=
  match P.underlying t, intA ix with
  | some (.slice e), some i => 0 < P.cellsOf e ∧ 0 ≤ i ∧
    match x with
    | .c (.own id n) => match look id with
      | some (.arr T size frz es) => es.length = n ∧ size = P.cellsOf e ∧ i < n ∧ K (.c (.ep id n i.toNat 0))
      | _ => False
    | .c (.p (.sl full xs)) => ∃ el, xs[i.toNat]? = some el ∧ el.length = P.cellsOf e ∧ K (.c (.pp el))
    | .c (.tl id k n xs) => ∃ el, xs[i.toNat]? = some el ∧ el.length = P.cellsOf e ∧ K (.c (.pp el))
    | .c (.vs id n) => P.cellsOf e = 1 ∧ i < n ∧ K (.c (.ptr id i.toNat))
    | _ => False
  | _, _ => False
def aLenD (P : Program) (t : TypeId) (x : AV) (look : Look) (K : AV → Prop) : Prop :=
  match P.underlying t, x with
  | some (.slice e), .c (.p (.sl full xs)) => K (.c (.p (.int .i64 xs.length)))
  | some (.slice e), .c (.own id n) => (∃ T size frz es, look id = some (.arr T size frz es) ∧ es.length = n) ∧ K (.c (.p (.int .i64 n)))
  | some (.slice e), .c (.tl id k n xs) => K (.c (.p (.int .i64 xs.length)))
  | some .string, .c (.p (.str s)) => K (.c (.p (.int .i64 s.size)))
  | _, _ => False
abbrev ACallD (P : Program) (g : FuncId) (args : List AV) (K : AV → Prop) : Prop := ∃ pargs r, PC P g pargs r ∧ frzVs [] args = some (pargs, []) ∧ K (prAV r)
/-- What an operation reads, from the objects that 'look' shows. -/
def aopD (P : Program) (ρ : Operand → AV) (look : Look) (o : Op) (K : AV → Prop) : Prop :=
  match o with
  | .move x | .assign x => K (ρ x)
  | .pick c a b => match ρ c with
    | .c (.p (.bool t)) => (t = true → K (ρ a)) ∧ (t = false → K (ρ b))
    | _ => False
  | .build t ps => aBuild P t (ps.toList.map fun q => (q.1, ρ q.2)) [] fun x _ => K x
  | .buildSlice t len ps => aBuildSlice P false t len (ps.toList.map fun q => (q.1, ρ q.2)) [] fun x _ => K x
  | .load t x => aLoadD P t (ρ x) look K
  | .nilCheck x => match ρ x with
    | .c (.ptr id off) => K (.c (.ptr id off))
    | .c (.pp cs) => K (.c (.pp cs))
    | _ => False
  | .binOp op t x y _ => if isNilC y = true then False else aBin P op t (ρ x) (ρ y) [] fun x _ => K x
  | .unOp op _ x => aUn op (ρ x) [] fun x _ => K x
  | .convert s d x => aConv P s d (ρ x) [] fun x _ => K x
  | .slice t x lo hi mx => aSlice P t (ρ x) (lo.map ρ) (hi.map ρ) (mx.map ρ) [] fun x _ => K x
  | .fieldAddr s x f => aFieldAddrD P s (ρ x) f look K
  | .indexAddr t x ix => aIndexAddrD P t (ρ x) (ρ ix) look K
  | .index t x ix => aIndex P t (ρ x) (ρ ix) [] fun x _ => K x
  | .extract x i => aExtract (ρ x) i [] fun x _ => K x
  | .call c => match c.callee with
    | .value f => match ρ f with
      | .c (.p (.fn g)) => ACallD P g (c.args.toList.map ρ) K
      | _ => False
    | .invoke recv name => match ρ recv with
      | .c (.p x) => ∃ g q pargs r, MethTo P x name g q ∧ PC P g pargs r ∧ frzVs [] (q :: c.args.toList.map ρ) = some (pargs, []) ∧ K (prAV r)
      | _ => False
    | .builtin b => match b, c.argTypes.toList, c.args.toList.map ρ with
      | .len, [t], [x] => aLenD P t x look K
      | .append, [t, u], [x, y] => aAppend P true t u x y [] fun x _ => K x
      | _, _, _ => False
  | _ => False
abbrev KH (H : List AObj) (K : AV → Prop) : AV → List AObj → Prop := fun x H1 => H1 = H ∧ K x
theorem aPartD_iff {t : TypeId} {cs : List Cell} {off : Nat} {K : AV → Prop} : aPartD P t cs off K → aPart P t cs off H (KH H K) := by
  intro h
  unfold aPartD at h
  unfold aPart
  cases ha : aggT P t with
  | none => simp [ha] at h
  | some b =>
    simp only [ha] at h ⊢
    cases b with
    | true => exact ⟨h.1, h.2.1, rfl, h.2.2⟩
    | false =>
      simp only at h ⊢
      cases hc : cs[off]? with
      | none => simp [hc] at h
      | some c => simp only [hc] at h; exact ⟨rfl, h⟩
theorem aopD_aop {ρ : Operand → AV} {o : Op} {K : AV → Prop} {look : Look} (hlook : ∀ id x, look id = some x → H[id]? = some x) (h : aopD P ρ look o K) (hpure : ∀ c, o = .call c → c.callee ≠ .builtin .append) :
    aop P false ρ H o (KH H K) := by
  cases o <;> simp only [aopD] at h <;> simp only [aop] <;> try exact h.elim
  case move x => exact ⟨rfl, h⟩
  case assign x => exact ⟨rfl, h⟩
  case pick c a b =>
    generalize ρ c = vc at h ⊢
    split at h
    · exact ⟨fun t => ⟨rfl, h.1 t⟩, fun t => ⟨rfl, h.2 t⟩⟩
    · exact h.elim
  case build t ps =>
    generalize ps.toList.map (fun q => (q.1, ρ q.2)) = vps at h ⊢
    unfold aBuild at h ⊢
    split at h
    · split at h
      · split at h
        · exact ⟨rfl, h⟩
        · exact h.elim
      · exact h.elim
    · exact h.elim
  case buildSlice t len ps =>
    generalize ps.toList.map (fun q => (q.1, ρ q.2)) = vps at h ⊢
    unfold aBuildSlice at h ⊢
    split at h
    · obtain ⟨h1, h2, h3, h4, h⟩ := h
      split at h
      · rename_i es H1 hes
        obtain ⟨rfl, k⟩ := aElems_empty hes
        refine ⟨h1, h2, h3, h4, ?_⟩
        rw [k H]
        exact ⟨h.1, rfl, h.2⟩
      · exact h.elim
    · exact h.elim
  case load t x =>
    generalize ρ x = vx at h ⊢
    unfold aLoadD at h
    unfold aLoad
    split at h
    · split at h
      · rename_i hl
        simp only [hlook _ _ hl]
        exact aPartD_iff h
      · exact h.elim
    · split at h
      · rename_i hl
        simp only [hlook _ _ hl]
        obtain ⟨h1, e, h2, h⟩ := h
        exact ⟨h1, e, h2, aPartD_iff h⟩
      · exact h.elim
    · exact aPartD_iff h
    · exact h.elim
  case nilCheck x =>
    generalize ρ x = vx at h ⊢
    split at h
    · exact ⟨rfl, h⟩
    · exact ⟨rfl, h⟩
    · exact h.elim
  case binOp op t x y yt =>
    generalize ρ x = vx at h ⊢
    generalize ρ y = vy at h ⊢
    split at h
    · rename_i hn
      exact h.elim
    · rename_i hn
      rw [if_neg hn]
      unfold aBin at h ⊢
      split at h
      · refine ⟨h.1, ?_⟩
        have h2 := h.2
        unfold aInt at h2 ⊢
        cases op <;> simp only at h2 ⊢ <;> first | exact ⟨rfl, h2⟩ | exact ⟨h2.1, rfl, h2.2⟩ | exact h2.elim
      · refine ⟨h.1, ?_⟩
        have h2 := h.2
        cases op <;> simp only at h2 ⊢ <;> first | exact ⟨rfl, h2⟩ | exact h2.elim
      · unfold aStr at h ⊢
        cases op <;> simp only at h ⊢ <;> first | exact ⟨rfl, h⟩ | exact ⟨h.1, rfl, h.2⟩ | exact h.elim
      · split at h
        · rename_i xs H1 ys H2 hc hd
          obtain ⟨rfl, k1⟩ := frzs_empty hc
          obtain ⟨rfl, k2⟩ := frzs_empty hd
          rw [k1 H, k2 H]
          obtain ⟨_, _, h3, r, h4, h5⟩ := h
          refine ⟨rfl, rfl, h3, r, h4, ?_⟩
          cases op <;> simp only at h5 ⊢ <;> first | exact ⟨rfl, h5⟩ | exact h5.elim
        · exact h.elim
      · exact h.elim
  case unOp op t x =>
    generalize ρ x = vx at h ⊢
    unfold aUn at h ⊢
    split at h
    · exact ⟨rfl, h⟩
    · exact ⟨rfl, h⟩
    · exact h.elim
  case convert s d x =>
    generalize ρ x = vx at h ⊢
    unfold aConv at h ⊢
    split at h
    · split at h
      · exact ⟨rfl, h⟩
      · exact h.elim
    · refine ⟨h.1, ?_⟩
      have h2 := h.2
      split at h2
      · rename_i hf
        obtain ⟨rfl, k⟩ := frzA_empty hf
        rw [k H]
        obtain ⟨bs, h3, h4⟩ := h2
        exact ⟨bs, h3, rfl, h4⟩
      · exact h2.elim
    · refine ⟨h.1, h.2.1, ?_⟩
      have h2 := h.2.2
      split at h2
      · exact ⟨h2.1, rfl, h2.2⟩
      · exact h2.elim
    · split at h
      · exact ⟨rfl, h⟩
      · exact h.elim
    · exact h.elim
  case slice t x lo hi mx =>
    generalize ρ x = vx at h ⊢
    generalize lo.map ρ = vlo at h ⊢
    generalize hi.map ρ = vhi at h ⊢
    generalize mx.map ρ = vmx at h ⊢
    unfold aSlice at h ⊢
    split at h
    · split at h
      · rename_i hf
        obtain ⟨rfl, k⟩ := frzA_empty hf
        rw [k H]
        obtain ⟨a, b, c, d, e, f, h⟩ := h
        exact ⟨a, b, c, d, e, f, rfl, h⟩
      · split at h
        · obtain ⟨⟨_, _, _, h⟩, _⟩ := h
          simp at h
        · exact h.elim
      · exact h.elim
    · split at h
      · obtain ⟨a, b, c, h⟩ := h
        exact ⟨a, b, c, rfl, h⟩
      · exact h.elim
    · exact h.elim
  case fieldAddr s x f =>
    generalize ρ x = vx at h ⊢
    unfold aFieldAddrD at h
    unfold aFieldAddr
    generalize fieldOf P s f = vf at h ⊢
    split at h
    · exact h.elim
    · refine ⟨h.1, ?_⟩
      have h2 := h.2
      split at h2
      · exact ⟨rfl, h2⟩
      · obtain ⟨⟨T, size, frz, es, a, b⟩, h2⟩ := h2
        exact ⟨⟨T, size, frz, es, hlook _ _ a, b⟩, rfl, h2⟩
      · exact ⟨rfl, h2⟩
      · exact h2.elim
  case indexAddr t x ix =>
    generalize ρ x = vx at h ⊢
    generalize ρ ix = vi at h ⊢
    unfold aIndexAddrD at h
    unfold aIndexAddr
    generalize P.underlying t = vu at h ⊢
    generalize intA vi = vj at h ⊢
    split at h
    · refine ⟨h.1, h.2.1, ?_⟩
      have h2 := h.2.2
      split at h2
      · split at h2
        · rename_i hl
          simp only [hlook _ _ hl]
          exact ⟨h2.1, h2.2.1, h2.2.2.1, rfl, h2.2.2.2⟩
        · exact h2.elim
      · obtain ⟨el, a, b, h2⟩ := h2
        exact ⟨el, a, b, rfl, h2⟩
      · obtain ⟨el, a, b, h2⟩ := h2
        exact ⟨el, a, b, rfl, h2⟩
      · exact ⟨h2.1, h2.2.1, rfl, h2.2.2⟩
      · exact h2.elim
    · exact h.elim
  case index t x ix =>
    generalize ρ x = vx at h ⊢
    generalize ρ ix = vi at h ⊢
    unfold aIndex at h ⊢
    split at h
    · obtain ⟨a, b, h⟩ := h
      exact ⟨a, b, rfl, h⟩
    · exact h.elim
  case extract x i =>
    generalize ρ x = vx at h ⊢
    unfold aExtract at h ⊢
    split at h
    · split at h
      · exact ⟨rfl, h⟩
      · exact ⟨rfl, h⟩
      · exact h.elim
    · exact h.elim
  case call c =>
    obtain ⟨callee, args, ats⟩ := c
    cases callee with
    | value f =>
      simp only at h ⊢
      generalize ρ f = vf at h ⊢
      unfold aCallee
      split at h
      · obtain ⟨pargs, r, h1, h2, h3⟩ := h
        exact ACall.pure h1 ((frzVs_empty h2).2 H) ⟨rfl, h3⟩
      · exact h.elim
    | invoke recv name =>
      simp only at h ⊢
      generalize ρ recv = vf at h ⊢
      unfold aInvoke
      split at h
      · obtain ⟨g, q, pargs, r, h0, h1, h2, h3⟩ := h
        exact ⟨g, q, h0, ACall.pure h1 ((frzVs_empty h2).2 H) ⟨rfl, h3⟩⟩
      · exact h.elim
    | builtin b =>
      simp only at h ⊢
      unfold aBuiltin
      generalize args.toList.map ρ = vs at h ⊢
      generalize ats.toList = ats at h ⊢
      split at h
      · unfold aLenD at h
        show aLen _ _ _ _ _
        unfold aLen
        rename_i t x
        generalize P.underlying t = vu at h ⊢
        split at h
        · exact ⟨rfl, h⟩
        · obtain ⟨⟨T, size, frz, es, a, b⟩, h⟩ := h
          exact ⟨⟨T, size, frz, es, hlook _ _ a, b⟩, rfl, h⟩
        · exact ⟨rfl, h⟩
        · exact ⟨rfl, h⟩
        · exact h.elim
      · exact absurd rfl (hpure _ rfl)
      · exact h.elim
theorem aPartD_lin {t : TypeId} {cs : List Cell} {off : Nat} {K : AV → Prop} (h : aPartD P t cs off K) : ∃ x, K x ∧ ∀ K', K' x → aPartD P t cs off K' := by
  unfold aPartD at h ⊢
  cases ha : aggT P t with
  | none => simp [ha] at h
  | some b =>
    simp only [ha] at h ⊢
    cases b with
    | true => exact ⟨_, h.2.2, fun K' k => ⟨h.1, h.2.1, k⟩⟩
    | false =>
      simp only at h ⊢
      cases hc : cs[off]? with
      | none => simp [hc] at h
      | some c => simp only [hc] at h ⊢; exact ⟨_, h, fun K' k => k⟩
/-- What is read is one value. -/
theorem aopD_lin {ρ : Operand → AV} {o : Op} {K : AV → Prop} {look : Look} (h : aopD P ρ look o K) : ∃ x, K x ∧ ∀ K', K' x → aopD P ρ look o K' := by
  cases o <;> simp only [aopD] at h ⊢ <;> try exact h.elim
  case move x => exact ⟨_, h, fun K' k => k⟩
  case assign x => exact ⟨_, h, fun K' k => k⟩
  case pick c a b =>
    generalize ρ c = vc at h ⊢
    split at h
    · rename_i t
      cases t with
      | true => exact ⟨_, h.1 rfl, fun K' k => ⟨fun _ => k, fun h => (by cases h)⟩⟩
      | false => exact ⟨_, h.2 rfl, fun K' k => ⟨fun h => (by cases h), fun _ => k⟩⟩
    · exact h.elim
  case build t ps =>
    generalize ps.toList.map (fun q => (q.1, ρ q.2)) = vps at h ⊢
    unfold aBuild at h ⊢
    generalize zeroA P t = v1 at h ⊢
    generalize placesOf P t = v2 at h ⊢
    split at h
    · split at h
      · rename_i hc
        simp only [hc]
        split at h
        · rename_i hd
          try simp only [hd]
          exact ⟨_, h, fun K' k => k⟩
        · exact h.elim
      · exact h.elim
    · exact h.elim
  case buildSlice t len ps =>
    generalize ps.toList.map (fun q => (q.1, ρ q.2)) = vps at h ⊢
    unfold aBuildSlice at h ⊢
    generalize P.underlying t = v1 at h ⊢
    split at h
    · obtain ⟨h1, h2, h3, h4, h⟩ := h
      split at h
      · rename_i es H1 hes
        simp only [hes]
        exact ⟨_, h.2, fun K' k => ⟨h1, h2, h3, h4, h.1, k⟩⟩
      · exact h.elim
    · exact h.elim
  case load t x =>
    generalize ρ x = vx at h ⊢
    unfold aLoadD at h ⊢
    split at h
    · split at h
      · rename_i hl
        try simp only [hl]
        exact aPartD_lin h
      · exact h.elim
    · split at h
      · rename_i hl
        try simp only [hl]
        obtain ⟨h1, e, h2, h⟩ := h
        obtain ⟨x, k, g⟩ := aPartD_lin h
        exact ⟨x, k, fun K' k' => ⟨h1, e, h2, g K' k'⟩⟩
      · exact h.elim
    · exact aPartD_lin h
    · exact h.elim
  case nilCheck x =>
    generalize ρ x = vx at h ⊢
    split at h
    · exact ⟨_, h, fun K' k => k⟩
    · exact ⟨_, h, fun K' k => k⟩
    · exact h.elim
  case binOp op t x y yt =>
    generalize ρ x = vx at h ⊢
    generalize ρ y = vy at h ⊢
    split at h
    · exact h.elim
    · rename_i hn
      simp only [if_neg hn]
      unfold aBin at h ⊢
      split at h
      · have h1 := h.1
        have h2 := h.2
        unfold aInt at h2 ⊢
        cases op <;> simp only at h2 ⊢ <;> first | exact ⟨_, h2, fun K' k => ⟨h1, k⟩⟩ | exact ⟨_, h2.2, fun K' k => ⟨h1, h2.1, k⟩⟩ | exact h2.elim
      · have h1 := h.1
        have h2 := h.2
        cases op <;> simp only at h2 ⊢ <;> first | exact ⟨_, h2, fun K' k => ⟨h1, k⟩⟩ | exact h2.elim
      · unfold aStr at h ⊢
        cases op <;> simp only at h ⊢ <;> first | exact ⟨_, h, fun K' k => k⟩ | exact ⟨_, h.2, fun K' k => ⟨h.1, k⟩⟩ | exact h.elim
      · split at h
        · rename_i xs H1 ys H2 hc hd
          simp only [hc, hd]
          obtain ⟨h1, h2, h3, r, h4, h5⟩ := h
          cases op <;> simp only at h5 ⊢ <;> first | exact ⟨_, h5, fun K' k => ⟨h1, h2, h3, r, h4, k⟩⟩ | exact h5.elim
        · exact h.elim
      · exact h.elim
  case unOp op t x =>
    generalize ρ x = vx at h ⊢
    unfold aUn at h ⊢
    split at h
    · exact ⟨_, h, fun K' k => k⟩
    · exact ⟨_, h, fun K' k => k⟩
    · exact h.elim
  case convert s d x =>
    generalize ρ x = vx at h ⊢
    unfold aConv at h ⊢
    generalize P.underlying s = v1 at h ⊢
    generalize P.underlying d = v2 at h ⊢
    split at h
    · split at h
      · exact ⟨_, h, fun K' k => k⟩
      · exact h.elim
    · have h1 := h.1
      have h2 := h.2
      split at h2
      · rename_i hf
        try simp only [hf]
        obtain ⟨bs, h3, h4⟩ := h2
        exact ⟨_, h4, fun K' k => ⟨h1, bs, h3, k⟩⟩
      · exact h2.elim
    · have h1 := h.1
      have h2 := h.2.2
      have h3 := h.2.1
      split at h2
      · exact ⟨_, h2.2, fun K' k => ⟨h1, h3, h2.1, k⟩⟩
      · exact h2.elim
    · split at h
      · exact ⟨_, h, fun K' k => k⟩
      · exact h.elim
    · exact h.elim
  case slice t x lo hi mx =>
    generalize ρ x = vx at h ⊢
    generalize lo.map ρ = vlo at h ⊢
    generalize hi.map ρ = vhi at h ⊢
    generalize mx.map ρ = vmx at h ⊢
    unfold aSlice at h ⊢
    generalize P.underlying t = v1 at h ⊢
    generalize optI vlo = v2 at h ⊢
    generalize optI vhi = v3 at h ⊢
    generalize optI vmx = v4 at h ⊢
    split at h
    · split at h
      · rename_i hf
        try simp only [hf]
        obtain ⟨a, b, c, d, e, f, h⟩ := h
        exact ⟨_, h, fun K' k => ⟨a, b, c, d, e, f, k⟩⟩
      · split at h
        · obtain ⟨⟨_, _, _, h⟩, _⟩ := h
          simp at h
        · exact h.elim
      · exact h.elim
    · split at h
      · obtain ⟨a, b, c, h⟩ := h
        exact ⟨_, h, fun K' k => ⟨a, b, c, k⟩⟩
      · exact h.elim
    · exact h.elim
  case fieldAddr s x f =>
    generalize ρ x = vx at h ⊢
    unfold aFieldAddrD at h ⊢
    generalize fieldOf P s f = vf at h ⊢
    split at h
    · exact h.elim
    · have h1 := h.1
      have h2 := h.2
      split at h2
      · exact ⟨_, h2, fun K' k => ⟨h1, k⟩⟩
      · exact ⟨_, h2.2, fun K' k => ⟨h1, h2.1, k⟩⟩
      · exact ⟨_, h2, fun K' k => ⟨h1, k⟩⟩
      · exact h2.elim
  case indexAddr t x ix =>
    generalize ρ x = vx at h ⊢
    generalize ρ ix = vi at h ⊢
    unfold aIndexAddrD at h ⊢
    generalize P.underlying t = vu at h ⊢
    generalize intA vi = vj at h ⊢
    split at h
    · have h1 := h.1
      have h3 := h.2.1
      have h2 := h.2.2
      split at h2
      · split at h2
        · rename_i hl
          try simp only [hl]
          exact ⟨_, h2.2.2.2, fun K' k => ⟨h1, h3, h2.1, h2.2.1, h2.2.2.1, k⟩⟩
        · exact h2.elim
      · obtain ⟨el, a, b, h2⟩ := h2
        exact ⟨_, h2, fun K' k => ⟨h1, h3, el, a, b, k⟩⟩
      · obtain ⟨el, a, b, h2⟩ := h2
        exact ⟨_, h2, fun K' k => ⟨h1, h3, el, a, b, k⟩⟩
      · exact ⟨_, h2.2.2, fun K' k => ⟨h1, h3, h2.1, h2.2.1, k⟩⟩
      · exact h2.elim
    · exact h.elim
  case index t x ix =>
    generalize ρ x = vx at h ⊢
    generalize ρ ix = vi at h ⊢
    unfold aIndex at h ⊢
    generalize P.underlying t = vu at h ⊢
    generalize intA vi = vj at h ⊢
    split at h
    · obtain ⟨a, b, h⟩ := h
      exact ⟨_, h, fun K' k => ⟨a, b, k⟩⟩
    · exact h.elim
  case extract x i =>
    generalize ρ x = vx at h ⊢
    unfold aExtract at h ⊢
    split at h
    · split at h
      · rename_i hb
        try simp only [hb]
        exact ⟨_, h, fun K' k => k⟩
      · rename_i hb
        try simp only [hb]
        exact ⟨_, h, fun K' k => k⟩
      · exact h.elim
    · exact h.elim
  case call c =>
    obtain ⟨callee, args, ats⟩ := c
    cases callee with
    | value f =>
      simp only at h ⊢
      generalize ρ f = vf at h ⊢
      split at h
      · obtain ⟨pargs, r, h1, h2, h3⟩ := h
        exact ⟨_, h3, fun K' k => ⟨pargs, r, h1, h2, k⟩⟩
      · exact h.elim
    | invoke recv name =>
      simp only at h ⊢
      generalize ρ recv = vf at h ⊢
      split at h
      · obtain ⟨g, q, pargs, r, h0, h1, h2, h3⟩ := h
        exact ⟨_, h3, fun K' k => ⟨g, q, pargs, r, h0, h1, h2, k⟩⟩
      · exact h.elim
    | builtin b =>
      simp only at h ⊢
      generalize args.toList.map ρ = vs at h ⊢
      generalize ats.toList = ats at h ⊢
      split at h
      · unfold aLenD at h ⊢
        rename_i t x
        generalize P.underlying t = vu at h ⊢
        split at h
        · exact ⟨_, h, fun K' k => k⟩
        · exact ⟨_, h.2, fun K' k => ⟨h.1, k⟩⟩
        · exact ⟨_, h, fun K' k => k⟩
        · exact ⟨_, h, fun K' k => k⟩
        · exact h.elim
      · rename_i t u x y
        unfold aAppend at h ⊢
        generalize P.underlying t = vu at h ⊢
        split at h
        · rename_i hf
          try simp only [hf]
          obtain ⟨a, b, c, d, h⟩ := h
          split at h
          · exact absurd h.1 (by simp)
          · obtain ⟨e, f, g, h⟩ := h
            exact ⟨_, h, fun K' k => ⟨a, b, c, d, e, f, g, k⟩⟩
          · exact h.elim
        · exact h.elim
      · exact h.elim
end
end Go.Aw

/-
  An abstract memory for walks, part 14: a region whose order is drawn comes to what the text's order comes to.
-/
set_option linter.unusedVariables false
set_option linter.unusedSimpArgs false
namespace Go.Aw
open Go.RowKit

/-! ### A new object takes the place of a hole -/
section
variable {P : Program} {S S0 : Mem} {m m1 : List Loc} {H : List AObj} {B : Nat} {w w0 : World} {id : Nat} {o : AObj} {l : Loc}
def namesOk (H : List AObj) : Cell → Prop
  | .p _ => True
  | .pp _ => True
  | .own i _ => ∃ T size frz es, H[i]? = some (.arr T size frz es)
  | .ep i _ _ _ => ∃ T size frz es, H[i]? = some (.arr T size frz es)
  | .room i _ => ∃ T size frz es, H[i]? = some (.arr T size frz es)
  | .ptr i _ => ∃ cs, H[i]? = some (.var cs)
  | .clo _ _ caps => ∀ q, q ∈ caps → ∃ cs, H[q.1]? = some (.var cs)
  | .yld i => ∃ L, H[i]? = some (.loop L)
  | .mp i => ∃ es, H[i]? = some (.map es)
  | .vs i _ => ∃ cs, H[i]? = some (.var cs)
  | .tl i _ _ _ => ∃ T size frz es, H[i]? = some (.arr T size frz es)
theorem VC.okIds {c : Cell} {v : Value} (h : VC S m H c v) : namesOk H c := by
  cases c with
  | p x => trivial
  | pp x => trivial
  | own i n => obtain ⟨T, size, frz, es, l, h1, _⟩ := h; exact ⟨T, size, frz, es, h1⟩
  | ep i n j off => obtain ⟨T, size, frz, es, l, h1, _⟩ := h; exact ⟨T, size, frz, es, h1⟩
  | room i n => obtain ⟨T, size, frz, es, l, h1, _⟩ := h; exact ⟨T, size, frz, es, h1⟩
  | ptr i off => obtain ⟨b, cap, cs, h1, _⟩ := h; exact ⟨cs, h1⟩
  | clo f first caps =>
    obtain ⟨fs, cs, h1, h2, h3, h4⟩ := h
    intro q hq
    obtain ⟨i, hi⟩ := List.getElem?_of_mem hq
    have hlt : i < cs.length := by rw [h3]; exact (List.getElem?_eq_some_iff.1 hi).1
    obtain ⟨b, cap, ds, k1, _⟩ := h4 i q _ hi (List.getElem?_eq_getElem hlt)
    exact ⟨ds, k1⟩
  | yld i => obtain ⟨b, cap, L, h1, _⟩ := h; exact ⟨L, h1⟩
  | mp i => obtain ⟨b, cap, L, h1, _⟩ := h; exact ⟨L, h1⟩
  | vs i n => obtain ⟨b, cap, L, h1, _⟩ := h; exact ⟨L, h1⟩
  | tl i k n xs => obtain ⟨T, size, frz, es, l, h1, _⟩ := h; exact ⟨T, size, frz, es, h1⟩
theorem VCs.okIds {cs : List Cell} {vs : List Value} (h : VCs S m H cs vs) : ∀ c, c ∈ cs → namesOk H c := fun c hc => by
  obtain ⟨i, hi⟩ := List.getElem?_of_mem hc
  have hlt : i < vs.length := by rw [← h.1]; exact (List.getElem?_eq_some_iff.1 hi).1
  exact (h.2 i c _ hi (List.getElem?_eq_getElem hlt)).okIds
/-- A cell that names what was there says the same. -/
theorem VC.move (hl : m1.length = H.length) (hh : H[id]? = some .hole) {c : Cell} {v : Value} (hk : namesOk H c) (h : VC S (m1 ++ [l]) (H ++ [o]) c v) : VC S (m1.set id l) (H.set id o) c v := by
  have key : ∀ {i : Nat} {x : AObj}, H[i]? = some x → x ≠ .hole → (H ++ [o])[i]? = (H.set id o)[i]? ∧ (m1 ++ [l])[i]? = (m1.set id l)[i]? := fun {i x} hi hx => by
    have hlt := (List.getElem?_eq_some_iff.1 hi).1
    have hne : id ≠ i := fun e => by subst e; rw [hh] at hi; cases hi; exact hx rfl
    rw [List.getElem?_append_left hlt, List.getElem?_append_left (by omega), getElem?_set_ne _ _ _ _ hne, getElem?_set_ne _ _ _ _ hne]
    exact ⟨rfl, rfl⟩
  cases c with
  | p x => exact h
  | pp x => exact h
  | own i n =>
    obtain ⟨_, _, _, _, hk⟩ := hk
    obtain ⟨a, b⟩ := key hk (fun e => by cases e)
    obtain ⟨T, size, frz, es, l', h1, h2, h3⟩ := h
    exact ⟨T, size, frz, es, l', a ▸ h1, b ▸ h2, h3⟩
  | ep i n j off =>
    obtain ⟨_, _, _, _, hk⟩ := hk
    obtain ⟨a, b⟩ := key hk (fun e => by cases e)
    obtain ⟨T, size, frz, es, l', h1, h2, h3⟩ := h
    exact ⟨T, size, frz, es, l', a ▸ h1, b ▸ h2, h3⟩
  | room i n =>
    obtain ⟨_, _, _, _, hk⟩ := hk
    obtain ⟨a, b⟩ := key hk (fun e => by cases e)
    obtain ⟨T, size, frz, es, l', h1, h2, h3⟩ := h
    exact ⟨T, size, frz, es, l', a ▸ h1, b ▸ h2, h3⟩
  | ptr i off =>
    obtain ⟨_, hk⟩ := hk
    obtain ⟨a, b⟩ := key hk (fun e => by cases e)
    obtain ⟨b', cap, cs, h1, h2, h3⟩ := h
    exact ⟨b', cap, cs, a ▸ h1, b ▸ h2, h3⟩
  | clo f first caps =>
    obtain ⟨fs, cs, h1, h2, h3, h4⟩ := h
    refine ⟨fs, cs, h1, h2, h3, fun i q u hq hu => ?_⟩
    obtain ⟨b', cap, ds, k1, k2, k3⟩ := h4 i q u hq hu
    obtain ⟨_, hk⟩ := hk q (List.mem_of_getElem? hq)
    obtain ⟨a, b⟩ := key hk (fun e => by cases e)
    exact ⟨b', cap, ds, a ▸ k1, b ▸ k2, k3⟩
  | yld i =>
    obtain ⟨_, hk⟩ := hk
    obtain ⟨a, b⟩ := key hk (fun e => by cases e)
    obtain ⟨b', cap, L, h1, h2, h3⟩ := h
    exact ⟨b', cap, L, a ▸ h1, b ▸ h2, h3⟩
  | mp i =>
    obtain ⟨_, hk⟩ := hk
    obtain ⟨a, b⟩ := key hk (fun e => by cases e)
    obtain ⟨b', cap, L, h1, h2, h3⟩ := h
    exact ⟨b', cap, L, a ▸ h1, b ▸ h2, h3⟩
  | vs i n =>
    obtain ⟨_, hk⟩ := hk
    obtain ⟨a, b⟩ := key hk (fun e => by cases e)
    obtain ⟨b', cap, L, h1, h2, h3⟩ := h
    exact ⟨b', cap, L, a ▸ h1, b ▸ h2, h3⟩
  | tl i k n xs =>
    obtain ⟨_, _, _, _, hk⟩ := hk
    obtain ⟨a, b⟩ := key hk (fun e => by cases e)
    obtain ⟨T, size, frz, es, l', h1, h2, h3⟩ := h
    exact ⟨T, size, frz, es, l', a ▸ h1, b ▸ h2, h3⟩
theorem VCs.move (hl : m1.length = H.length) (hh : H[id]? = some .hole) {cs : List Cell} {vs : List Value} (hk : ∀ c, c ∈ cs → namesOk H c) (h : VCs S (m1 ++ [l]) (H ++ [o]) cs vs) : VCs S (m1.set id l) (H.set id o) cs vs :=
  ⟨h.1, fun i c v a b => (h.2 i c v a b).move hl hh (hk c (List.mem_of_getElem? a))⟩
theorem VA.move (hl : m1.length = H.length) (hh : H[id]? = some .hole) {x : AV} {v v0 : Value} {mm : List Loc} (h0 : VA S0 mm H x v0) (h : VA S (m1 ++ [l]) (H ++ [o]) x v) : VA S (m1.set id l) (H.set id o) x v := by
  cases x with
  | any => trivial
  | c x => exact VC.move hl hh (VC.okIds h0) h
  | agg cs =>
    obtain ⟨us, _, k⟩ := h0
    obtain ⟨vs, h1, h2⟩ := h
    exact ⟨vs, h1, h2.move hl hh k.okIds⟩
  | tup bs =>
    obtain ⟨us, _, k1, k2⟩ := h0
    obtain ⟨vs, h1, h2, h3⟩ := h
    refine ⟨vs, h1, h2, fun i b u hb hu => ?_⟩
    have hlt : i < us.length := by rw [← k1]; exact (List.getElem?_eq_some_iff.1 hb).1
    have g := k2 i b _ hb (List.getElem?_eq_getElem hlt)
    have g' := h3 i b u hb hu
    obtain ⟨f, cs⟩ := b
    cases f with
    | false =>
      obtain ⟨c, e1, e2⟩ := g
      obtain ⟨c', e3, e4⟩ := g'
      subst e1; cases e3
      exact ⟨c, rfl, e4.move hl hh e2.okIds⟩
    | true =>
      obtain ⟨q, e1, e2⟩ := g
      obtain ⟨q', e3, e4⟩ := g'
      exact ⟨q', e3, e4.move hl hh e2.okIds⟩
  | mark o => trivial
/-- What is made is a variable, or an array. -/
def isNew (H : List AObj) : AObj → Prop
  | .var cs => ∀ c, c ∈ cs → namesOk H c
  | .arr _ _ _ _ => True
  | _ => False
theorem Sim.move (s0 : Sim S0 m H B w0) (s : Sim S (m1 ++ [l]) (H ++ [o]) B w) (hl : m1.length = H.length) (hh : H[id]? = some .hole) (hn : isNew H o) : Sim S (m1.set id l) (H.set id o) B w := by
  have hid := (List.getElem?_eq_some_iff.1 hh).1
  refine ⟨by simp [hl], s.mem, s.base, fun i x y hx hy => ?_, fun i j b c d hi hj => ?_⟩
  · by_cases hi : id = i
    · subst hi
      rw [List.getElem?_set_self hid] at hx
      rw [List.getElem?_set_self (by omega)] at hy
      cases hx; cases hy
      have hO := s.obj H.length o l (by simp) (by rw [← hl]; simp)
      cases o with
      | var cs =>
        cases l with
        | nil A => exact hO
        | at_ b c =>
          obtain ⟨h1, h2, cur, T, h3, h4⟩ := hO
          exact ⟨h1, h2, cur, T, h3, h4.move hl hh hn⟩
      | arr T size frz es => cases l <;> exact hO
      | _ => exact hn.elim
    · rw [getElem?_set_ne _ _ _ _ hi] at hx hy
      have hlt := (List.getElem?_eq_some_iff.1 hx).1
      have hO := s.obj i x y (by rw [List.getElem?_append_left hlt]; exact hx) (by rw [List.getElem?_append_left (by omega)]; exact hy)
      obtain ⟨y0, hy0, hO0⟩ := s0.loc hx
      cases x with
      | var cs =>
        cases y with
        | nil A => exact hO
        | at_ b c =>
          obtain ⟨h1, h2, cur, T, h3, h4⟩ := hO
          cases y0 with
          | nil A => exact hO0.elim
          | at_ b0 c0 =>
            obtain ⟨_, _, cur0, T0, _, g4⟩ := hO0
            exact ⟨h1, h2, cur, T, h3, h4.move hl hh g4.okIds⟩
      | arr T size frz es => cases y <;> exact hO
      | dfr => cases y <;> exact hO
      | hole => cases y <;> exact hO
      | loop L =>
        cases y with
        | nil A => exact hO
        | at_ b c =>
          obtain ⟨h1, fn, tmps, bd, h2, h5, h6⟩ := hO
          cases y0 with
          | nil A => exact hO0.elim
          | at_ b0 c0 =>
            obtain ⟨_, _, tmps0, _, _, _, g6⟩ := hO0
            exact ⟨h1, fn, tmps, bd, h2, h5, fun d => VA.move hl hh (g6 d) (h6 d)⟩
      | map es =>
        cases y with
        | nil A => exact hO
        | at_ b c =>
          obtain ⟨h1, ents, clock, h2, h3, h4⟩ := hO
          cases y0 with
          | nil A => exact hO0.elim
          | at_ b0 c0 =>
            obtain ⟨_, ents0, _, _, g3, g4⟩ := hO0
            refine ⟨h1, ents, clock, h2, h3, fun i k c e hi he => ⟨(h4 i k c e hi he).1, ?_⟩⟩
            have hlt0 : i < ents0.size := by rw [← g3]; exact (List.getElem?_eq_some_iff.1 hi).1
            exact VC.move hl hh (g4 i k c _ hi (Array.getElem?_eq_getElem hlt0)).2.okIds (h4 i k c e hi he).2
  · have hh1 : ∀ {i : Nat} {b c : Nat}, (m1.set id l)[i]? = some (Loc.at_ b c) → (m1 ++ [l])[if i = id then m1.length else i]? = some (Loc.at_ b c) := fun {i b c} hi => by
      by_cases h1 : i = id
      · subst h1
        rw [List.getElem?_set_self (by omega)] at hi
        rw [if_pos rfl]; simpa using hi
      · rw [getElem?_set_ne _ _ _ _ (Ne.symm h1)] at hi
        rw [if_neg h1, List.getElem?_append_left (List.getElem?_eq_some_iff.1 hi).1]; exact hi
    have hlti : i < m1.length := by have := (List.getElem?_eq_some_iff.1 hi).1; simpa using this
    have hltj : j < m1.length := by have := (List.getElem?_eq_some_iff.1 hj).1; simpa using this
    have := s.inj _ _ b c d (hh1 hi) (hh1 hj)
    split at this <;> split at this <;> omega
theorem Ext.move (s0 : Sim S0 m H B w0) (e : Ext B S0 m H S (m1 ++ [l]) (H ++ [o])) (hl : m1.length = H.length) (hh : H[id]? = some .hole) : Ext B S0 m H S (m1.set id l) (H.set id o) := by
  have key : ∀ {i : Nat} {x : AObj}, H[i]? = some x → x ≠ .hole → (H ++ [o])[i]? = H[i]? ∧ (H.set id o)[i]? = H[i]? ∧ (m1 ++ [l])[i]? = (m1.set id l)[i]? := fun {i x} hi hx => by
    have hlt := (List.getElem?_eq_some_iff.1 hi).1
    have hne : id ≠ i := fun e => by subst e; rw [hh] at hi; cases hi; exact hx rfl
    rw [List.getElem?_append_left hlt, List.getElem?_append_left (by omega), getElem?_set_ne _ _ _ _ hne, getElem?_set_ne _ _ _ _ hne]
    exact ⟨rfl, rfl, rfl⟩
  refine ⟨e.mem, e.old, fun i x hx hf => ?_, fun i T size frz es l' hx hl' => ?_⟩
  · obtain ⟨a, b, c⟩ := key hx (fun h => by subst h; exact hf.elim)
    refine ⟨⟨x, by rw [b]; exact hx, Kin.refl hf⟩, fun l' hl' => ?_⟩
    rw [← c]; exact (e.fix i x hx hf).2 l' hl'
  · obtain ⟨a, b, c⟩ := key hx (fun h => by cases h)
    obtain ⟨frz', es', l2, g1, g2, g3, g4⟩ := e.arr i T size frz es l' hx hl'
    rw [a, hx] at g1
    cases g1
    exact ⟨frz, es, l', by rw [b]; exact hx, by rw [← c, g2, g4 rfl], Nat.le_refl _, fun _ => rfl⟩
/-- What is made lies in the hole, and its name is the hole's. -/
theorem Behind.move {n : Nat} {a a' : Act} {dst : Option Tmp} {w' : World} (s0 : Sim S0 m H B w) {K : AV → List AObj → Prop} (hh : H[id]? = some .hole)
    (h : Behind B n S0 m H w a dst (fun x H' => ∃ o, H' = H ++ [o] ∧ isNew H o ∧ ((x = .c (.ptr H.length 0) ∧ (∃ cs, o = .var cs) ∧ K (.c (.ptr id 0)) (H.set id o)) ∨ ∃ k, x = .c (.own H.length k) ∧ (∃ T size frz es, o = .arr T size frz es) ∧ K (.c (.own id k)) (H.set id o))) a' w') :
    Behind B n S0 m H w a dst K a' w' := by
  obtain ⟨v, S', m', H', x, h1, h2, h3, h4, h5, o, rfl, hn, h6⟩ := h
  have hid := (List.getElem?_eq_some_iff.1 hh).1
  have hlen : m'.length = H.length + 1 := by have := h2.len; simpa using this
  obtain ⟨m1, l, rfl⟩ : ∃ m1 l, m' = m1 ++ [l] := by
    have hne : m' ≠ [] := fun e => by subst e; simp at hlen
    exact ⟨m'.dropLast, m'.getLast hne, (List.dropLast_concat_getLast hne).symm⟩
  have hl : m1.length = H.length := by simpa using hlen
  have s2 := Sim.move (id := id) s0 h2 hl hh hn
  have e2 := Ext.move (id := id) s0 h3 hl hh
  have gH : (H.set id o)[id]? = some o := by simp [hid]
  have gm : (m1.set id l)[id]? = some l := by rw [List.getElem?_set_self (by omega)]
  have fH : (H ++ [o])[H.length]? = some o := by simp
  have fm : (m1 ++ [l])[H.length]? = some l := by rw [← hl]; simp
  rcases h6 with ⟨rfl, ⟨cs, rfl⟩, hk⟩ | ⟨k, rfl, ⟨T, size, frz, es, rfl⟩, hk⟩
  · obtain ⟨b, cap, ds, g1, g2, g3⟩ := h5
    rw [fH] at g1; rw [fm] at g2
    cases g1; cases g2
    exact ⟨v, S', _, _, .c (.ptr id 0), h1, s2, e2, h4, ⟨b, cap, _, gH, gm, g3⟩, hk⟩
  · obtain ⟨T', size', frz', es', l', g1, g2, g3⟩ := h5
    rw [fH] at g1; rw [fm] at g2
    cases g1; cases g2
    exact ⟨v, S', _, _, .c (.own id k), h1, s2, e2, h4, ⟨_, _, _, _, _, gH, gm, g3⟩, hk⟩
end

inductive Ef where
  | none
  | set (id : Nat) (o : AObj)
def Ef.on : Ef → List AObj → List AObj
  | .none, H => H
  | .set id o, H => H.set id o
/-- What an operation writes, and which objects are not shown to it. -/
abbrev Row := Option Nat × List Nat
def lookF (hid : List Nat) (H : List AObj) : Look := fun id => if hid.contains id = true then none else H[id]?
/-- The call makes a new array. -/
def POC (P : Program) (f : FuncId) (pargs : List PB) (T size : Nat) (es : List (List PV)) : Prop :=
  Enters P f ∧ ∀ (H : List AObj) (K : AV → List AObj → Prop), K (.c (.own H.length es.length)) (H ++ [.arr T size 0 es]) → ACall P f (pargs.map pbAV) H K
def freshK (look : Look) (id : Nat) (K : AV → Ef → Prop) : AV → List AObj → Prop := fun x H1 => look id = some .hole ∧
  match x, H1 with
  | .c (.own 0 n), [.arr T size frz es] => K (.c (.own id n)) (.set id (.arr T size frz es))
  | _, _ => False
def aAppOwn (P : Program) (t u : TypeId) (id n : Nat) (y : AV) (look : Look) (K : AV → Ef → Prop) : Prop :=
  match P.underlying t, frzA [] y with
  | some (.slice e), some (.sl _ ys, _) => u = t ∧ 0 < P.cellsOf e ∧ zeroOk P e ∧ allLen (P.cellsOf e) ys ∧ match look id with
    | some (.arr T size frz es) => es.length = n ∧ T = e ∧ size = P.cellsOf e ∧ (n + ys.length) * P.bytesOf e ≤ 140737488355328 ∧ n + ys.length ≤ 9223372036854775807 ∧ K (.c (.own id (n + ys.length))) (.set id (.arr T size frz (es ++ ys)))
    | _ => False
  | _, _ => False
/-- A literal of bytes that is converted to its own type: from now on it is a list that nobody changes. -/
def aMark (P : Program) (s d : TypeId) (x : AV) (id : Nat) (look : Look) (K : AV → Ef → Prop) : Prop :=
  match x with
  | .c (.own i n) => i = id ∧ s = d ∧ (∃ e, P.underlying s = some (.slice e) ∧ P.underlying e = some (.int .u8)) ∧ 0 < n ∧ match look id with
    | some (.arr T size frz es) => es.length = n ∧ K (.c (.p (.sl false es))) (.set id (.arr T size es.length es))
    | _ => False
  | _ => False
/-- What an operation does that writes object id. -/
def aopF (P : Program) (ρ : Operand → AV) (look : Look) (id : Nat) (o : Op) (K : AV → Ef → Prop) : Prop :=
  match o with
  | .store t x v => match cellsA (ρ v) with
    | none => False
    | some vs => vs.length = P.cellsOf t ∧ 0 < P.cellsOf t ∧ match ρ x with
      | .c (.ptr i off) => i = id ∧ match look id with
        | some (.var cs) => off + vs.length ≤ cs.length ∧ K .any (.set id (.var (splice cs off vs)))
        | _ => False
      | .c (.ep i n j off) => match frzs [] vs with
        | some (ps, _) => i = id ∧ match look id with
          | some (.arr T size frz es) => es.length = n ∧ frz ≤ j ∧ ∃ e, es[j]? = some e ∧ off + ps.length ≤ e.length ∧ K .any (.set id (.arr T size frz (es.set j (splice e off (ps.map lo)))))
          | _ => False
        | none => False
      | _ => False
  | .alloc t => match zeroA P t with
    | some z => match cellsA z with
      | some cs => look id = some .hole ∧ K (.c (.ptr id 0)) (.set id (.var cs))
      | none => False
    | none => False
  | .box _ x => match cellsA (ρ x) with
    | some cs => look id = some .hole ∧ K (.c (.ptr id 0)) (.set id (.var cs))
    | none => False
  | .buildSlice t len ps => aBuildSlice P true t len (ps.toList.map fun q => (q.1, ρ q.2)) [] (freshK look id K)
  | .makeSlice t l c => aMake P t (ρ l) (ρ c) [] (freshK look id K)
  | .convert s d x => aMark P s d (ρ x) id look K
  | .call c => match c.callee with
    | .value f => match ρ f with
      | .c (.p (.fn g)) => ∃ pargs T size es, POC P g pargs T size es ∧ frzVs [] (c.args.toList.map ρ) = some (pargs, []) ∧ look id = some .hole ∧ K (.c (.own id es.length)) (.set id (.arr T size 0 es))
      | _ => False
    | .builtin .append => match c.argTypes.toList, c.args.toList.map ρ with
      | [t, u], [x, y] => (∀ k, P.underlying u ≠ some (.int k)) ∧ match x with
        | .c (.own i n) => i = id ∧ aAppOwn P t u id n y look K
        | x => aAppend P false t u x y [] (freshK look id K)
      | _, _ => False
    | _ => False
  | _ => False
def aopE (P : Program) (ρ : Operand → AV) (look : Look) (w : Option Nat) (o : Op) (K : AV → Ef → Prop) : Prop :=
  match w with
  | some id => aopF P ρ look id o K
  | none => match o with
    | .makeFunc fn first caps => match fn, pureL (first.toList.map ρ), capsL (caps.toList.map ρ) with
      | .func g, some fs, some cs => K (.c (.clo g fs cs)) .none
      | _, _, _ => False
    | o => aopD P ρ look o fun x => K x .none
def EfOk (w : Option Nat) (H : List AObj) : Ef → Prop
  | .none => True
  | .set id _ => w = some id ∧ id < H.length
section
variable {P : Program} {n : Nat} {S : Mem} {m : List Loc} {H : List AObj} {B : Nat} {w : World}
theorem lookF_some {hid : List Nat} {id : Nat} {x : AObj} (h : lookF hid H id = some x) : H[id]? = some x := by
  unfold lookF at h
  split at h
  · cases h
  · exact h
/-! ### One value, one effect -/
theorem freshK_lin {look : Look} {id : Nat} {K : AV → Ef → Prop} {x : AV} {H1 : List AObj} (h : freshK look id K x H1) : ∃ y e, K y e ∧ look id = some .hole ∧ (∃ ob, e = .set id ob) ∧ ∀ K', K' y e → freshK look id K' x H1 := by
  unfold freshK at h
  obtain ⟨h1, h⟩ := h
  split at h
  · exact ⟨_, _, h, h1, ⟨_, rfl⟩, fun K' k => ⟨h1, k⟩⟩
  · exact h.elim
theorem buildSlice_lin {ow : Bool} {t : TypeId} {len : Nat} {ps : List (Nat × AV)} {K : AV → List AObj → Prop} (h : aBuildSlice P ow t len ps H K) : ∃ x H1, K x H1 ∧ ∀ K', K' x H1 → aBuildSlice P ow t len ps H K' := by
  unfold aBuildSlice at h ⊢
  generalize P.underlying t = vu at h ⊢
  split at h
  · obtain ⟨a, b, c, d, h⟩ := h
    generalize aElems H (ps.map (·.2)) = ve at h ⊢
    split at h
    · obtain ⟨e, h⟩ := h
      cases ow with
      | true => exact ⟨_, _, h, fun K' k => ⟨a, b, c, d, e, k⟩⟩
      | false => exact ⟨_, _, h, fun K' k => ⟨a, b, c, d, e, k⟩⟩
    · exact h.elim
  · exact h.elim
theorem make_lin {t : TypeId} {x y : AV} {K : AV → List AObj → Prop} (h : aMake P t x y H K) : ∃ x' H1, K x' H1 ∧ ∀ K', K' x' H1 → aMake P t x y H K' := by
  unfold aMake at h ⊢
  generalize P.underlying t = vu at h ⊢
  generalize intA x = v1 at h ⊢
  generalize intA y = v2 at h ⊢
  split at h
  · obtain ⟨a, b, c, d, e, h⟩ := h
    rename_i ee _ _
    generalize zeroP P ee = vz at h ⊢
    split at h
    · exact ⟨_, _, h.2, fun K' k => ⟨a, b, c, d, e, h.1, k⟩⟩
    · exact h.elim
  · exact h.elim
theorem append_lin {t u : TypeId} {x y : AV} {K : AV → List AObj → Prop} (h : aAppend P false t u x y H K) : ∃ x' H1, K x' H1 ∧ ∀ K', K' x' H1 → aAppend P false t u x y H K' := by
  unfold aAppend at h ⊢
  generalize P.underlying t = vu at h ⊢
  generalize frzA H y = vf at h ⊢
  split at h
  · obtain ⟨a, b, c, d, h⟩ := h
    split at h
    · obtain ⟨e, h⟩ := h
      split at h
      · rename_i hl
        try simp only [hl]
        obtain ⟨f, g, i, j, k, h⟩ := h
        exact ⟨_, _, h, fun K' k' => ⟨a, b, c, d, trivial, f, g, i, j, k, k'⟩⟩
      · exact h.elim
    · simp only [Bool.false_eq_true, if_false] at h
      obtain ⟨e, f, g, i, h⟩ := h
      exact ⟨_, _, h, fun K' k' => ⟨a, b, c, d, e, f, g, by simp only [Bool.false_eq_true, if_false]; exact ⟨i, k'⟩⟩⟩
    · exact h.elim
  · exact h.elim
theorem appOwn_lin {t u : TypeId} {id nn : Nat} {y : AV} {look : Look} {K : AV → Ef → Prop} (h : aAppOwn P t u id nn y look K) : ∃ x e ob ob', K x e ∧ look id = some ob' ∧ e = .set id ob ∧ ∀ K', K' x e → aAppOwn P t u id nn y look K' := by
  unfold aAppOwn at h ⊢
  generalize P.underlying t = vu at h ⊢
  generalize frzA [] y = vf at h ⊢
  split at h
  · obtain ⟨a, b, c, d, h⟩ := h
    split at h
    · rename_i hl
      try simp only [hl]
      obtain ⟨f, g, i, j, k, h⟩ := h
      exact ⟨_, _, _, _, h, rfl, rfl, fun K' k' => ⟨a, b, c, d, f, g, i, j, k, k'⟩⟩
    · exact h.elim
  · exact h.elim
theorem mark_lin {s d : TypeId} {x : AV} {id : Nat} {look : Look} {K : AV → Ef → Prop} (h : aMark P s d x id look K) : ∃ x' e ob ob', K x' e ∧ look id = some ob' ∧ e = .set id ob ∧ ∀ K', K' x' e → aMark P s d x id look K' := by
  unfold aMark at h ⊢
  split at h
  · obtain ⟨a, b, c, d, h⟩ := h
    split at h
    · rename_i hl
      try simp only [hl]
      exact ⟨_, _, _, _, h.2, rfl, rfl, fun K' k' => ⟨a, b, c, d, h.1, k'⟩⟩
    · exact h.elim
  · exact h.elim
theorem aopF_lin {ρ : Operand → AV} {o : Op} {K : AV → Ef → Prop} {hid : List Nat} {id : Nat} (h : aopF P ρ (lookF hid H) id o K) :
    ∃ x e, K x e ∧ EfOk (some id) H e ∧ ∀ K', K' x e → aopF P ρ (lookF hid H) id o K' := by
  have ok : ∀ {ob ob' : AObj}, lookF hid H id = some ob → EfOk (some id) H (.set id ob') := fun h => ⟨rfl, (List.getElem?_eq_some_iff.1 (lookF_some h)).1⟩
  have fresh : ∀ {F : (AV → List AObj → Prop) → Prop} {K0 : AV → Ef → Prop}, (∃ x H1, freshK (lookF hid H) id K0 x H1 ∧ ∀ K', K' x H1 → F K') → ∃ x e, K0 x e ∧ EfOk (some id) H e ∧ ∀ K', K' x e → F (freshK (lookF hid H) id K') := by
    rintro F K0 ⟨x, H1, h, g⟩
    obtain ⟨y, e, k, hl, ⟨ob, rfl⟩, g'⟩ := freshK_lin h
    exact ⟨y, _, k, ok hl, fun K' k' => g _ (g' K' k')⟩
  cases o <;> simp only [aopF] at h ⊢ <;> try exact h.elim
  case store t x v =>
    generalize ρ x = vx at h ⊢
    generalize cellsA (ρ v) = vv at h ⊢
    split at h
    · exact h.elim
    · rename_i vs
      obtain ⟨h1, h2, h⟩ := h
      split at h
      · rename_i i off
        obtain ⟨h3, h⟩ := h
        split at h
        · rename_i cs hl
          try simp only [hl]
          exact ⟨_, _, h.2, ok hl, fun K' k => ⟨h1, h2, h3, h.1, k⟩⟩
        · exact h.elim
      · rename_i i nn j off
        split at h
        · rename_i ps Hx hf
          try simp only [hf]
          obtain ⟨h3, h⟩ := h
          split at h
          · rename_i T size frz es hl
            try simp only [hl]
            obtain ⟨a, b, e, c, d, k⟩ := h
            exact ⟨_, _, k, ok hl, fun K' k => ⟨h1, h2, h3, a, b, e, c, d, k⟩⟩
          · exact h.elim
        · exact h.elim
      · exact h.elim
  case alloc t =>
    cases hz : zeroA P t with
    | none => simp [hz] at h
    | some z =>
      simp only [hz] at h ⊢
      cases hc : cellsA z with
      | none => simp [hc] at h
      | some cs =>
        simp only [hc] at h ⊢
        exact ⟨_, _, h.2, ok h.1, fun K' k => ⟨h.1, k⟩⟩
  case box t x =>
    cases hc : cellsA (ρ x) with
    | none => simp [hc] at h
    | some cs =>
      simp only [hc] at h ⊢
      exact ⟨_, _, h.2, ok h.1, fun K' k => ⟨h.1, k⟩⟩
  case buildSlice t len ps => exact fresh (buildSlice_lin h)
  case makeSlice t l c => exact fresh (make_lin h)
  case convert s d x =>
    obtain ⟨x, e, ob, ob', k, hl, rfl, g⟩ := mark_lin h
    exact ⟨_, _, k, ok hl, fun K' k' => g _ k'⟩
  case call c =>
    obtain ⟨callee, args, ats⟩ := c
    simp only at h ⊢
    cases callee with
    | value f =>
      simp only at h ⊢
      generalize ρ f = vf at h ⊢
      split at h
      · obtain ⟨pargs, T, size, es, h1, h2, h3, h4⟩ := h
        exact ⟨_, _, h4, ok h3, fun K' k => ⟨pargs, T, size, es, h1, h2, h3, k⟩⟩
      · exact h.elim
    | invoke recv name => exact h.elim
    | builtin b =>
      cases b <;> simp only at h ⊢ <;> try exact h.elim
      generalize args.toList.map ρ = vs at h ⊢
      generalize ats.toList = ats at h ⊢
      split at h
      · obtain ⟨h1, h⟩ := h
        split at h
        · obtain ⟨h2, h⟩ := h
          obtain ⟨x, e, ob, ob', k, hl, rfl, g⟩ := appOwn_lin h
          exact ⟨_, _, k, ok hl, fun K' k' => ⟨h1, h2, g _ k'⟩⟩
        · obtain ⟨x, e, k, ok', g⟩ := fresh (append_lin h)
          exact ⟨x, e, k, ok', fun K' k' => ⟨h1, g _ k'⟩⟩
      · exact h.elim
theorem aopE_lin {ρ : Operand → AV} {o : Op} {K : AV → Ef → Prop} {hid : List Nat} {wr : Option Nat} (h : aopE P ρ (lookF hid H) wr o K) :
    ∃ x e, K x e ∧ EfOk wr H e ∧ ∀ K', K' x e → aopE P ρ (lookF hid H) wr o K' := by
  cases wr with
  | some id => exact aopF_lin h
  | none =>
    cases o
    case makeFunc fn first caps =>
      simp only [aopE] at h ⊢
      generalize pureL (first.toList.map ρ) = v1 at h ⊢
      generalize capsL (caps.toList.map ρ) = v2 at h ⊢
      split at h
      · exact ⟨_, _, h, trivial, fun K' k => k⟩
      · exact h.elim
    all_goals
      simp only [aopE] at h ⊢
      obtain ⟨x, k, g⟩ := aopD_lin h
      exact ⟨x, .none, k, trivial, fun K' k => g _ k⟩
/-! ### The world -/
theorem buildSlice_here {t : TypeId} {len : Nat} {ps : List (Nat × AV)} {K : AV → List AObj → Prop} (h : aBuildSlice P true t len ps [] K) :
    aBuildSlice P true t len ps H fun x H' => ∃ k T size frz es, x = .c (.own H.length k) ∧ H' = H ++ [.arr T size frz es] ∧ K (.c (.own 0 k)) [.arr T size frz es] := by
  unfold aBuildSlice at h ⊢
  generalize P.underlying t = vu at h ⊢
  split at h
  · obtain ⟨a, b, c, d, h⟩ := h
    split at h
    · rename_i hf
      obtain ⟨rfl, kf⟩ := aElems_empty hf
      simp only [kf H]
      simp only [if_true] at h ⊢
      exact ⟨a, b, c, d, h.1, _, _, _, _, _, rfl, rfl, h.2⟩
    · exact h.elim
  · exact h.elim
theorem make_here {t : TypeId} {x y : AV} {K : AV → List AObj → Prop} (h : aMake P t x y [] K) :
    aMake P t x y H fun x H' => ∃ k T size frz es, x = .c (.own H.length k) ∧ H' = H ++ [.arr T size frz es] ∧ K (.c (.own 0 k)) [.arr T size frz es] := by
  unfold aMake at h ⊢
  generalize P.underlying t = vu at h ⊢
  generalize intA x = v1 at h ⊢
  generalize intA y = v2 at h ⊢
  split at h
  · obtain ⟨a, b, c, d, e, h⟩ := h
    refine ⟨a, b, c, d, e, ?_⟩
    split at h
    · rename_i hz
      exact ⟨h.1, _, _, _, _, _, rfl, rfl, h.2⟩
    · exact h.elim
  · exact h.elim
theorem append_here {t u : TypeId} {x y : AV} (hx : ∀ i n, x ≠ .c (.own i n)) {K : AV → List AObj → Prop} (h : aAppend P false t u x y [] K) :
    aAppend P false t u x y H fun x H' => ∃ k T size frz es, x = .c (.own H.length k) ∧ H' = H ++ [.arr T size frz es] ∧ K (.c (.own 0 k)) [.arr T size frz es] := by
  unfold aAppend at h ⊢
  generalize P.underlying t = vu at h ⊢
  split at h
  · rename_i hf
    obtain ⟨rfl, kf⟩ := frzA_empty hf
    simp only [kf H]
    obtain ⟨a, b, c, d, h⟩ := h
    split at h
    · exact absurd rfl (hx _ _)
    · simp only [Bool.false_eq_true, if_false] at h ⊢
      obtain ⟨e, f, g, i, h⟩ := h
      exact ⟨a, b, c, d, e, f, g, i, _, _, _, _, _, rfl, rfl, h⟩
    · exact h.elim
  · exact h.elim
theorem freshK_here {look : Look} {id : Nat} {K : AV → Ef → Prop} {k T size frz : Nat} {es : List (List PV)} (h : freshK look id K (.c (.own 0 k)) [.arr T size frz es]) : K (.c (.own id k)) (.set id (.arr T size frz es)) := h.2
theorem freshK_hole {look : Look} {id : Nat} {K : AV → Ef → Prop} {x : AV} {H1 : List AObj} (h : freshK look id K x H1) : look id = some .hole := h.1
theorem run_mark {t e : TypeId} (hu : P.underlying t = some (.slice e)) (he : P.underlying e = some (.int .u8)) {b T : Nat} {cur : List Value} (h : ArrAt w b T cur) (len cap : Nat) :
    ∃ w', (convert t t (.slice (some ⟨b, 0, none⟩) len cap)).run P w = .ok (.slice (some ⟨b, 0, none⟩) len cap) w' ∧ ArrAt w' b T cur ∧ (∀ k, k ≠ b → w'.heap[k]? = w.heap[k]?) ∧ w'.heap.size = w.heap.size ∧ w'.os = w.os ∧ w'.tape = w.tape ∧ w'.output = w.output ∧
      (∀ o, w'.cell? ⟨b, o, none⟩ = w.cell? ⟨b, o, none⟩) := by
  obtain ⟨⟨lo, hi⟩, hh, hz⟩ := h
  have hshape : w.shape? b = some (T, cur.length) := by simp [World.shape?, hh]
  let w' : World := w.freeze ⟨b, cur.length, none⟩ 1
  have hh0 : w'.heap = w.heap.modify b (fun
      | .cells c elem (lo, hi) => .cells c elem (if lo == hi then (cur.length, cur.length + 1) else (min lo cur.length, max hi (cur.length + 1)))
      | o => o) := rfl
  have hb : w'.heap[b]? = some (.cells cur.toArray T (if lo == hi then (cur.length, cur.length + 1) else (min lo cur.length, max hi (cur.length + 1)))) := by
    rw [hh0, Array.getElem?_modify, if_pos rfl, hh]; rfl
  refine ⟨w', ?_, ⟨_, hb, ?_⟩, fun k hk => by rw [hh0, Array.getElem?_modify, if_neg (fun h => hk h.symm)], by rw [hh0]; simp, rfl, rfl, rfl, fun o => by rw [cell_eq hb, cell_eq hh]⟩
  · simp only [convert, Sem.run_bind, run_underlying hu, Result.andThen_ok, beq_self_eq_true, run_underlying he, markStringish, run_shape, hshape, run_freeze, Sem.run_pure]
    rfl
  · right
    split
    · simp
    · rcases hz with h | h
      · cases h; simp at *
      · simp only at h ⊢; omega
theorem mark_ok {ρ : Operand → AV} {a : Act} {o : Oper} {Q : Exit → Act → World → Prop} {K : AV → Ef → Prop} {hid : List Nat} {id : Nat} {t d : TypeId} {x : Operand} (s : Sim S m H B w) (r : ∀ y, VA S m H (ρ y) (a.eval y)) (ho : o.op = .convert t d x)
    (h : aMark P t d (ρ x) id (lookF hid H) K) : o.wp P a w (Behind B n S m H w a o.dst fun x H' => ∃ e : Ef, H' = e.on H ∧ K x e) Q := by
  have hx := r x
  unfold aMark at h
  split at h
  · rename_i i nn heq
    rw [heq] at hx
    obtain ⟨rfl, rfl, ⟨e, hu, he⟩, hpos, h⟩ := h
    split at h
    · rename_i T size frz es hl
      obtain ⟨hn, hk⟩ := h
      subst hn
      have hH := lookF_some hl
      obtain ⟨T', size', frz', es', l, h1, h2, h3, _⟩ := (show VC S m H (.own i es.length) (a.eval x) from hx)
      rw [hH] at h1; cases h1
      have h3 := h3 rfl
      have hO := s.obj i _ _ hH h2
      cases l with
      | nil A => obtain ⟨_, he0, _⟩ := hO; rw [he0] at hpos; simp at hpos
      | at_ b cap =>
        obtain ⟨q1, q2, q3, q4, q5, q6, q7, cur, q8, q9, q10⟩ := hO
        simp only at h3
        obtain ⟨w', hr, hA, hother, hsz, o1, o2, o3, hcell⟩ := run_mark hu he q8 es.length cap
        have hb : b < w.heap.size := by obtain ⟨_, hh, _⟩ := q8; exact (Array.getElem?_eq_some_iff.1 hh).1
        obtain ⟨s1, e1⟩ := s.setArr (es' := es) (l' := .at_ b cap) hH h2 (w' := w') (fun b' oo v hv => by
            have hm := s.mem b' oo v hv
            by_cases hbb : b' = b
            · subst hbb; rw [hcell]; exact hm
            · simp only [World.cell?] at hm ⊢; rw [hother b' hbb]; exact hm) (by omega) (fun k hk hne => hother k (hne b cap rfl)) (Nat.le_refl _) (fun _ => rfl) (fun b' c hb => .inl ⟨cap, by cases hb; rfl⟩)
          ⟨q1, q2, q3, q4, q5, q6, q7, cur, hA, q9, q10⟩
        have hmset : m.set i (.at_ b cap) = m := by
          apply List.ext_getElem?
          intro j
          by_cases hj : i = j
          · subst hj; rw [List.getElem?_set_self (List.getElem?_eq_some_iff.1 h2).1, h2]
          · rw [getElem?_set_ne _ _ _ _ hj]
        have hHset : H.set i (.arr T size frz es) = H := by
          apply List.ext_getElem?
          intro j
          by_cases hj : i = j
          · subst hj; rw [List.getElem?_set_self (List.getElem?_eq_some_iff.1 hH).1, hH]
          · rw [getElem?_set_ne _ _ _ _ hj]
        rw [hmset, hHset] at s1 e1
        obtain ⟨S2, s2, e2, p2⟩ := s1.freeze hH (v := a.eval x) (VC.ext (c := .own i es.length) e1 hx)
        have hbel : Bel B w w' := ⟨⟨o1, o2, o3, by omega, fun k hk => hother k (by omega)⟩⟩
        unfold Oper.wp execOp
        rw [ho]
        simp only [Sem.run_bind, h3, hr, Result.andThen_ok, Sem.run_pure, Oper.upon]
        rw [← h3]
        exact ⟨a.eval x, S2, m, _, .c (.p (.sl false es)), rfl, s2, e1.trans e2, hbel, p2, .set i _, rfl, hk⟩
    · exact h.elim
  · exact h.elim
theorem ACall.poc {f : FuncId} {args : List AV} {pargs : List PB} {T size : Nat} {es : List (List PV)} (hc : POC P f pargs T size es) (hf : frzVs H args = some (pargs, H)) :
    ACall P f args H fun x H' => x = .c (.own H.length es.length) ∧ H' = H ++ [.arr T size 0 es] := by
  refine ⟨hc.1, fun S m B w vs s hv => ?_⟩
  obtain ⟨S1, s1, e1, p1⟩ := frzVs_ok s hv hf
  refine ((hc.2 H (fun x H' => x = .c (.own H.length es.length) ∧ H' = H ++ [.arr T size 0 es]) ⟨rfl, rfl⟩).2 S1 m B w vs s1 (p1.VAs m H)).mono fun e w' ⟨v, he, S2, m', H', x, a, b, c, d, g⟩ => ?_
  exact ⟨v, he, S2, m', H', x, a, e1.trans b, c, d, g⟩
theorem aopE_wp {ρ : Operand → AV} {a : Act} {o : Oper} {Q : Exit → Act → World → Prop} {K : AV → Ef → Prop} {hid : List Nat} {wr : Option Nat} (s : Sim S m H B w) (r : ∀ y, VA S m H (ρ y) (a.eval y))
    (h : aopE P ρ (lookF hid H) wr o.op K) : o.wp P a w (Behind B n S m H w a o.dst fun x H' => ∃ e : Ef, H' = e.on H ∧ K x e) Q := by
  have viaD : aopD P ρ (lookF hid H) o.op (fun x => K x .none) → o.wp P a w (Behind B n S m H w a o.dst fun x H' => ∃ e : Ef, H' = e.on H ∧ K x e) Q := fun h => by
    by_cases hq : ∃ c, o.op = .call c ∧ c.callee = .builtin .append
    rotate_left
    · have hp : ∀ c, o.op = .call c → c.callee ≠ .builtin .append := fun c h1 h2 => hq ⟨c, h1, h2⟩
      refine Oper.wp_mono ?_ (aop_ok (n := n) s r (aopD_aop (fun id x => lookF_some) h hp))
      rintro a' w' ⟨v, S', m', H', x, e1, e2, e3, e4, e5, rfl, e6⟩
      exact ⟨v, S', m', H', x, e1, e2, e3, e4, e5, .none, rfl, e6⟩
    · obtain ⟨c, hc, hb⟩ := hq
      obtain ⟨dst, op, ty, pos, aft, gd⟩ := o
      obtain ⟨callee, args, ats⟩ := c
      simp only at hc hb
      subst hc; subst hb
      simp only [aopD] at h
      split at h
      · rename_i hx _ _; exact absurd hx (by simp)
      · rename_i t u x y hb hts hxs
        obtain ⟨x0, y0, rfl⟩ : ∃ x0 y0, args = #[x0, y0] := by
          have := congrArg List.length hxs
          simp at this
          exact size_two this
        obtain rfl : ats = #[t, u] := by apply Array.ext'; simpa using hts
        simp at hxs
        obtain ⟨rfl, rfl⟩ := hxs
        obtain ⟨vv, k, g⟩ : ∃ vv, K vv .none ∧ aAppend P true t u (ρ x0) (ρ y0) H (KH H (· = vv)) := by
          unfold aAppend at h ⊢
          generalize P.underlying t = vu at h ⊢
          split at h
          · rename_i hf
            obtain ⟨rfl, kf⟩ := frzA_empty hf
            simp only [kf H]
            obtain ⟨a, b, c, d, h⟩ := h
            generalize ρ x0 = vx at h ⊢
            split at h
            · exact absurd h.1 (by simp)
            · obtain ⟨e, f, g, h⟩ := h
              exact ⟨_, h, a, b, c, d, e, f, g, rfl, rfl⟩
            · exact h.elim
          · exact h.elim
        refine Oper.wp_mono ?_ (op_good (n := n) (c := Builtin.append_ #[t, u] ty #[a.eval x0, a.eval y0]) (o := ⟨dst, .call ⟨.builtin .append, #[x0, y0], #[t, u]⟩, ty, pos, aft, gd⟩) (by simp [execOp, resolve, invoke, builtin]) (good_append s (r x0) (r y0) g))
        rintro a' w' ⟨v, S', m', H', x, e1, e2, e3, e4, e5, rfl, rfl⟩
        exact ⟨v, S', m', _, _, e1, e2, e3, e4, e5, .none, rfl, k⟩
      · exact h.elim
  obtain ⟨dst, op, ty, pos, aft, gd⟩ := o
  have viaA : ∀ {K' : AV → List AObj → Prop}, aop P true ρ H op K' → (∀ x H', K' x H' → ∃ e : Ef, H' = e.on H ∧ K x e) →
      Oper.wp P ⟨dst, op, ty, pos, aft, gd⟩ a w (Behind B n S m H w a dst fun x H' => ∃ e : Ef, H' = e.on H ∧ K x e) Q := fun h hk => by
    refine Oper.wp_mono ?_ (aop_ok (n := n) (o := ⟨dst, op, ty, pos, aft, gd⟩) s r h)
    rintro a' w' ⟨v, S', m', H', x, e1, e2, e3, e4, e5, e6⟩
    exact ⟨v, S', m', H', x, e1, e2, e3, e4, e5, hk _ _ e6⟩
  cases wr with
  | none =>
    cases op
    case makeFunc fn first caps =>
      refine viaA (K' := fun x H' => ∃ e : Ef, H' = e.on H ∧ K x e) ?_ fun x H' h => h
      simp only [aopE] at h
      simp only [aop]
      unfold aMakeFunc
      generalize pureL (first.toList.map ρ) = v1 at h ⊢
      generalize capsL (caps.toList.map ρ) = v2 at h ⊢
      split at h
      · exact ⟨.none, rfl, h⟩
      · exact h.elim
    all_goals exact viaD (by simpa only [aopE] using h)
  | some id =>
    have new : ∀ (hl : lookF hid H id = some .hole), aop P true ρ H op (fun x H' => ∃ o, H' = H ++ [o] ∧ isNew H o ∧ ((x = .c (.ptr H.length 0) ∧ (∃ cs, o = .var cs) ∧ K (.c (.ptr id 0)) (.set id o)) ∨ ∃ k, x = .c (.own H.length k) ∧ (∃ T size frz es, o = .arr T size frz es) ∧ K (.c (.own id k)) (.set id o))) →
        Oper.wp P ⟨dst, op, ty, pos, aft, gd⟩ a w (Behind B n S m H w a dst fun x H' => ∃ e : Ef, H' = e.on H ∧ K x e) Q := fun hl h => by
      refine Oper.wp_mono ?_ (aop_ok (n := n) (o := ⟨dst, op, ty, pos, aft, gd⟩) s r h)
      intro a' w' hb
      refine Behind.move s (lookF_some hl) ?_
      obtain ⟨v, S', m', H', x, e1, e2, e3, e4, e5, o, rfl, hn, hx⟩ := hb
      refine ⟨v, S', m', _, x, e1, e2, e3, e4, e5, o, rfl, hn, ?_⟩
      rcases hx with ⟨rfl, hv, hk⟩ | ⟨k, rfl, hv, hk⟩
      · exact .inl ⟨rfl, hv, .set id o, rfl, hk⟩
      · exact .inr ⟨k, rfl, hv, .set id o, rfl, hk⟩
    have arr : ∀ {x : AV} {H' : List AObj}, (∃ k T size frz es, x = .c (.own H.length k) ∧ H' = H ++ [.arr T size frz es] ∧ freshK (lookF hid H) id K (.c (.own 0 k)) [.arr T size frz es]) →
        ∃ o, H' = H ++ [o] ∧ isNew H o ∧ ((x = .c (.ptr H.length 0) ∧ (∃ cs, o = .var cs) ∧ K (.c (.ptr id 0)) (.set id o)) ∨ ∃ k, x = .c (.own H.length k) ∧ (∃ T size frz es, o = .arr T size frz es) ∧ K (.c (.own id k)) (.set id o)) := by
      rintro x H' ⟨k, T, size, frz, es, rfl, rfl, hk⟩
      exact ⟨_, rfl, trivial, .inr ⟨k, rfl, ⟨T, size, frz, es, rfl⟩, freshK_here hk⟩⟩
    simp only [aopE] at h
    cases op <;> simp only [aopF] at h <;> try exact h.elim
    case store t x v =>
      refine viaA (K' := fun x H' => ∃ e : Ef, H' = e.on H ∧ K x e) ?_ fun x H' h => h
      simp only [aop]
      unfold aStore
      generalize ρ x = vx at h ⊢
      generalize cellsA (ρ v) = vv at h ⊢
      split at h
      · exact h.elim
      · rename_i vs
        obtain ⟨h1, h2, h⟩ := h
        refine ⟨h1, h2, ?_⟩
        split at h
        · rename_i id off
          obtain ⟨rfl, h⟩ := h
          split at h
          · rename_i cs hl
            simp only [lookF_some hl]
            exact ⟨h.1, .set _ _, rfl, h.2⟩
          · exact h.elim
        · rename_i id nn i off
          split at h
          · rename_i ps Hx hf
            obtain ⟨rfl, kf⟩ := frzs_empty hf
            simp only [kf H]
            obtain ⟨rfl, h⟩ := h
            split at h
            · rename_i T size frz es hl
              simp only [lookF_some hl]
              obtain ⟨a, b, e, c, d, k⟩ := h
              exact ⟨a, b, e, c, d, .set _ _, rfl, k⟩
            · exact h.elim
          · exact h.elim
        · exact h.elim
    case alloc t =>
      cases hz : zeroA P t with
      | none => simp [hz] at h
      | some z =>
        simp only [hz] at h
        cases hc : cellsA z with
        | none => simp [hc] at h
        | some cs =>
          simp only [hc] at h
          obtain ⟨u, _, hu⟩ := run_zero hz S m H w
          refine new h.1 ?_
          simp only [aop, aAlloc, aBox, hz, hc]
          exact ⟨_, rfl, (cellsA_ok hu hc).okIds, .inl ⟨by trivial, ⟨cs, by trivial⟩, h.2⟩⟩
    case box t x =>
      cases hc : cellsA (ρ x) with
      | none => simp [hc] at h
      | some cs =>
        simp only [hc] at h
        refine new h.1 ?_
        simp only [aop, aBox, hc]
        exact ⟨_, rfl, (cellsA_ok (r x) hc).okIds, .inl ⟨by trivial, ⟨cs, by trivial⟩, h.2⟩⟩
    case buildSlice t len ps =>
      obtain ⟨_, _, hf, _⟩ := buildSlice_lin h
      refine new (freshK_hole hf) ?_
      simp only [aop]
      obtain ⟨x, H1, hk, g⟩ := buildSlice_lin (buildSlice_here (H := H) h)
      exact g _ (arr hk)
    case makeSlice t l c =>
      obtain ⟨_, _, hf, _⟩ := make_lin h
      refine new (freshK_hole hf) ?_
      simp only [aop]
      obtain ⟨x, H1, hk, g⟩ := make_lin (make_here (H := H) h)
      exact g _ (arr hk)
    case convert t d x => exact mark_ok s r rfl h
    case call c =>
      obtain ⟨callee, args, ats⟩ := c
      simp only at h
      cases callee with
      | value f =>
        simp only at h
        split at h
        · rename_i g hg
          obtain ⟨pargs, T, size, es, h1, h2, h3, h4⟩ := h
          refine new h3 ?_
          simp only [aop, aCallee, hg]
          refine (ACall.poc h1 ((frzVs_empty h2).2 H)).mono fun x H' hx => ?_
          obtain ⟨rfl, rfl⟩ := hx
          exact ⟨_, rfl, trivial, .inr ⟨_, rfl, ⟨_, _, _, _, rfl⟩, h4⟩⟩
        · exact h.elim
      | invoke recv name => exact h.elim
      | builtin b =>
        cases b <;> simp only at h <;> try exact h.elim
        split at h
        · rename_i t u x y hts hxs
          obtain ⟨hnk, h⟩ := h
          have hbi : ∀ K', aAppend P false t u x y H K' → aop P true ρ H (.call ⟨.builtin .append, args, ats⟩) K' := fun K' hk => by
            simp only [aop, hts, hxs, aBuiltin]
            first | exact hk | (split <;> first | exact hk | (rename_i k hk'; exact absurd hk' (hnk k)))
          split at h
          · rename_i i nn
            obtain ⟨rfl, h⟩ := h
            refine viaA (K' := fun x H' => ∃ e : Ef, H' = e.on H ∧ K x e) (hbi _ ?_) fun x H' h => h
            unfold aAppOwn at h
            unfold aAppend
            generalize P.underlying t = vu at h ⊢
            split at h
            · rename_i hf
              obtain ⟨rfl, kf⟩ := frzA_empty hf
              simp only [kf H]
              obtain ⟨a, b, c, d, h⟩ := h
              split at h
              · rename_i T size frz es hl
                simp only [lookF_some hl]
                obtain ⟨f, g, i, j, k, h⟩ := h
                exact ⟨a, b, c, d, by trivial, f, g, i, j, k, .set _ _, rfl, h⟩
              · exact h.elim
            · exact h.elim
          · rename_i hx
            obtain ⟨_, _, hf, _⟩ := append_lin h
            refine new (freshK_hole hf) (hbi _ ?_)
            obtain ⟨x, H1, hk, g⟩ := append_lin (append_here (H := H) (fun i n e => hx i n e) h)
            exact g _ (arr hk)
        · exact h.elim
theorem aopE_congr {ρ ρ' : Operand → AV} {o : Op} {K : AV → Ef → Prop} {look : Look} {wr : Option Nat} (h : ∀ x ∈ o.operands, ρ x = ρ' x) : aopE P ρ look wr o K = aopE P ρ' look wr o K := by
  have args : ∀ xs : Array Operand, (∀ x ∈ xs, ρ x = ρ' x) → xs.toList.map ρ = xs.toList.map ρ' := fun xs hx => List.map_congr_left fun x hm => hx x (by simpa using hm)
  have pairs : ∀ ps : Array (Nat × Operand), (∀ x ∈ ps.map (·.2), ρ x = ρ' x) → (ps.toList.map fun q => (q.1, ρ q.2)) = (ps.toList.map fun q => (q.1, ρ' q.2)) := fun ps hp =>
    List.map_congr_left fun p hm => by
      obtain ⟨i, x⟩ := p
      simp only [hp x (Array.mem_map.2 ⟨(i, x), by simpa using hm, rfl⟩)]
  cases wr <;> cases o <;> simp only [Op.operands] at h <;> simp only [aopE, aopF, aopD]
  case none.build t ps => rw [pairs ps fun x hx => h x (by simpa using hx)]
  case none.buildSlice t n ps => rw [pairs ps fun x hx => h x (by simpa using hx)]
  case some.buildSlice iid t n ps => rw [pairs ps fun x hx => h x (by simpa using hx)]
  case none.makeFunc fn first captured => rw [args first fun x hx => h x (by simp [hx]), args captured fun x hx => h x (by simp [hx])]
  case none.call c =>
    obtain ⟨callee, as, ats⟩ := c
    have ha : as.toList.map ρ = as.toList.map ρ' := args as fun x hx => h x (by simp [Call.operands, hx])
    cases callee with
    | value f => simp only [ha, h f (by simp [Call.operands])]
    | invoke r nm => simp only [ha, h r (by simp [Call.operands])]
    | builtin b => simp only [ha]
  case some.call iid c =>
    obtain ⟨callee, as, ats⟩ := c
    have ha : as.toList.map ρ = as.toList.map ρ' := args as fun x hx => h x (by simp [Call.operands, hx])
    cases callee with
    | value f => simp only [ha, h f (by simp [Call.operands])]
    | invoke r nm => simp only [ha, h r (by simp [Call.operands])]
    | builtin b => simp only [ha]; try (cases b <;> rfl)
  case none.slice t x lo hi mx => cases lo <;> cases hi <;> cases mx <;> simp_all
  all_goals (first | rfl | (simp_all; done))
end
end Go.Aw

/-
  An abstract memory for walks, part 15: the order that is drawn.
-/
set_option linter.unusedVariables false
set_option linter.unusedSimpArgs false
namespace Go.Aw
open Go.RowKit

abbrev Sig := Nat → AV
def updS (σ : Sig) (dst : Option Tmp) (x : AV) : Sig := match dst with
  | none => σ
  | some d => fun t => if t = d then x else σ t
def evF (σ : Sig) : Operand → AV
  | .tmp t => σ t
  | x => ev [] x
def rowAt (tab : List Row) (i : Nat) : Row := tab.getD i (none, [])
def stE (P : Program) (ops : Array Oper) (tab : List Row) (i : Nat) (K : Sig → List AObj → Prop) (σ : Sig) (H : List AObj) : Prop :=
  match ops[i]? with
  | none => K σ H
  | some o => match o.guard with
    | none => aopE P (evF σ) (lookF (rowAt tab i).2 H) (rowAt tab i).1 o.op fun x e => K (updS σ o.dst x) (e.on H)
    | some (g, want) => match (ops[g]?).bind (·.dst) with
      | some d => match σ d with
        | .c (.p (.bool b)) => (b = want → aopE P (evF σ) (lookF (rowAt tab i).2 H) (rowAt tab i).1 o.op fun x e => K (updS σ o.dst x) (e.on H)) ∧ (b = (!want) → K (updS σ o.dst (.tup [])) H)
        | .tup [] => K (updS σ o.dst (.tup [])) H
        | _ => False
      | none => False
/-- What the operation gives here. -/
def YE (P : Program) (ops : Array Oper) (r : Row) (o : Oper) (x : AV) (e : Ef) (σ : Sig) (H : List AObj) : Prop :=
  match o.guard with
  | none => aopE P (evF σ) (lookF r.2 H) r.1 o.op fun y f => y = x ∧ f = e
  | some (g, want) => match (ops[g]?).bind (·.dst) with
    | some d => match σ d with
      | .c (.p (.bool b)) => (b = want → aopE P (evF σ) (lookF r.2 H) r.1 o.op fun y f => y = x ∧ f = e) ∧ (b = (!want) → x = .tup [] ∧ e = .none)
      | .tup [] => x = .tup [] ∧ e = .none
      | _ => False
    | none => False
section
variable {P : Program} {ops : Array Oper} {tab : List Row} {n : Nat} {σ : Sig} {H : List AObj} {cx : Cx}
theorem aopE_mono {ρ : Operand → AV} {o : Op} {K K' : AV → Ef → Prop} {hid : List Nat} {wr : Option Nat} (h : aopE P ρ (lookF hid H) wr o K) (hk : ∀ x e, K x e → K' x e) : aopE P ρ (lookF hid H) wr o K' := by
  obtain ⟨x, e, k, _, g⟩ := aopE_lin h
  exact g _ (hk _ _ k)
theorem stE_lin {i : Nat} {o : Oper} {K : Sig → List AObj → Prop} (hi : ops[i]? = some o) (h : stE P ops tab i K σ H) :
    ∃ x e, YE P ops (rowAt tab i) o x e σ H ∧ EfOk (rowAt tab i).1 H e ∧ K (updS σ o.dst x) (e.on H) := by
  unfold stE at h
  simp only [hi] at h
  unfold YE
  split at h
  · obtain ⟨x, e, k, ok, g⟩ := aopE_lin h
    exact ⟨x, e, g _ ⟨rfl, rfl⟩, ok, k⟩
  · split at h
    · split at h
      · rename_i want hgd _ d hd _ b hs
        try simp only [hd, hs]
        by_cases hb : b = want
        · obtain ⟨x, e, k, ok, g⟩ := aopE_lin (h.1 hb)
          exact ⟨x, e, ⟨fun _ => g _ ⟨rfl, rfl⟩, fun h => by subst hb; cases b <;> cases h⟩, ok, k⟩
        · exact ⟨.tup [], .none, ⟨fun h => absurd h hb, fun _ => ⟨rfl, rfl⟩⟩, trivial, h.2 (by cases b <;> cases want <;> simp_all)⟩
      · rename_i hs
        try simp only [hs]
        exact ⟨.tup [], .none, ⟨rfl, rfl⟩, trivial, h⟩
      · exact h.elim
    · exact h.elim
theorem YE.stE {i : Nat} {o : Oper} {x : AV} {e : Ef} {K : Sig → List AObj → Prop} (hi : ops[i]? = some o) (hy : YE P ops (rowAt tab i) o x e σ H) (hk : K (updS σ o.dst x) (e.on H)) : stE P ops tab i K σ H := by
  unfold Aw.stE
  simp only [hi]
  unfold YE at hy
  split at hy
  · exact aopE_mono hy fun y f h => by obtain ⟨rfl, rfl⟩ := h; exact hk
  · split at hy
    · split at hy
      · rename_i want hgd _ d hd _ b hs
        try simp only [hd, hs]
        refine ⟨fun hb => aopE_mono (hy.1 hb) fun y f h => by obtain ⟨rfl, rfl⟩ := h; exact hk, fun hb => ?_⟩
        obtain ⟨rfl, rfl⟩ := hy.2 hb
        exact hk
      · rename_i hs
        try simp only [hs]
        obtain ⟨rfl, rfl⟩ := hy
        exact hk
      · exact hy.elim
    · exact hy.elim
theorem stE_mono {i : Nat} {K K' : Sig → List AObj → Prop} (h : stE P ops tab i K σ H) (hk : ∀ σ H, K σ H → K' σ H) : stE P ops tab i K' σ H := by
  cases hi : ops[i]? with
  | none => unfold stE at h ⊢; simp only [hi] at h ⊢; exact hk _ _ h
  | some o =>
    obtain ⟨x, e, hy, _, k⟩ := stE_lin hi h
    exact hy.stE hi (hk _ _ k)
theorem YE.ok {o : Oper} {r : Row} {x : AV} {e : Ef} (h : YE P ops r o x e σ H) : EfOk r.1 H e ∨ False := by
  unfold YE at h
  split at h
  · obtain ⟨_, _, ⟨rfl, rfl⟩, ok, _⟩ := aopE_lin h; exact .inl ok
  · split at h
    · split at h
      · rename_i want hgd _ d hd _ b hs
        by_cases hb : b = want
        · obtain ⟨_, _, ⟨rfl, rfl⟩, ok, _⟩ := aopE_lin (h.1 hb); exact .inl ok
        · obtain ⟨rfl, rfl⟩ := h.2 (by cases b <;> cases want <;> simp_all)
          exact .inl trivial
      · obtain ⟨rfl, rfl⟩ := h
        exact .inl trivial
      · exact h.elim
    · exact h.elim
theorem YE.same {o : Oper} {r : Row} {x y : AV} {e f : Ef} {dst : Option Tmp} (hd : ∀ d, dst = some d → d ∉ o.looksAt ops) (hl : lookF r.2 (f.on H) = lookF r.2 H) :
    YE P ops r o x e (updS σ dst y) (f.on H) = YE P ops r o x e σ H := by
  have hev : ∀ z ∈ o.op.operands, evF (updS σ dst y) z = evF σ z := fun z hz => by
    cases dst with
    | none => rfl
    | some d =>
      cases z with
      | tmp t =>
        have : t ≠ d := fun h => hd d rfl (by subst h; exact List.mem_append_left _ (List.mem_filterMap.2 ⟨.tmp t, by simpa using hz, rfl⟩))
        simp [evF, updS, this]
      | _ => rfl
  have hop : ∀ K, aopE P (evF (updS σ dst y)) (lookF r.2 (f.on H)) r.1 o.op K = aopE P (evF σ) (lookF r.2 H) r.1 o.op K := fun K => by
    rw [aopE_congr hev, hl]
  unfold YE
  cases hg : o.guard with
  | none => simp only [hop]
  | some q =>
    obtain ⟨g, want⟩ := q
    simp only
    cases ht : (ops[g]?).bind (·.dst) with
    | none => rfl
    | some t =>
      have hs : updS σ dst y t = σ t := by
        cases dst with
        | none => rfl
        | some d =>
          have : t ≠ d := fun h => hd d rfl (by subst h; simp [Oper.looksAt, hg, ht])
          simp [updS, this]
      simp only [hs, hop]
/-- Two operations that may change places. -/
def compat (r s : Row) : Bool :=
  (match r.1 with | some id => s.2.contains id | none => true) && (match s.1 with | some id => r.2.contains id | none => true) &&
  (match r.1, s.1 with | some i, some j => i != j | _, _ => true)
theorem compat_symm {r s : Row} (h : compat r s = true) : compat s r = true := by
  unfold compat at h ⊢
  simp only [Bool.and_eq_true] at h ⊢
  obtain ⟨⟨h1, h2⟩, h3⟩ := h
  refine ⟨⟨h2, h1⟩, ?_⟩
  generalize r.1 = a at *
  generalize s.1 = b at *
  cases a <;> cases b <;> simp_all
  exact fun h => h3 h.symm
theorem lookF_on {r s : Row} {e : Ef} (h : compat r s = true) (ok : EfOk r.1 H e) : lookF s.2 (e.on H) = lookF s.2 H := by
  have hc : ∀ id, r.1 = some id → s.2.contains id = true := fun id hid => by
    unfold compat at h
    simp only [hid, Bool.and_eq_true] at h
    exact h.1.1
  funext id'
  unfold lookF
  split
  · rfl
  · rename_i hn
    cases e with
    | none => rfl
    | set id ob =>
      have : id ≠ id' := fun hh => hn (by rw [← hh]; exact hc id ok.1)
      simp only [Ef.on]
      rw [List.getElem?_set_ne this]
theorem on_comm {e f : Ef} {r s : Row} (h : compat r s = true) (oke : EfOk r.1 H e) (okf : EfOk s.1 H f) : f.on (e.on H) = e.on (f.on H) := by
  unfold compat at h
  simp only [Bool.and_eq_true] at h
  obtain ⟨⟨h1, h2⟩, h3⟩ := h
  cases e with
  | none => rfl
  | set id ob =>
    cases f with
    | none => rfl
    | set id' ob' =>
      simp only [Ef.on]
      rw [oke.1, okf.1] at h3
      simp only [bne_iff_ne, ne_eq] at h3
      exact List.set_comm _ _ h3
theorem updS_comm {x y : Option Tmp} (u v : AV) (h : ∀ d, x = some d → y ≠ some d) : updS (updS σ x u) y v = updS (updS σ y v) x u := by
  cases x with
  | none => rfl
  | some d =>
    cases y with
    | none => rfl
    | some e =>
      have hne : d ≠ e := fun he => h d rfl (he ▸ rfl)
      funext t
      simp only [updS]
      by_cases h1 : t = d
      · by_cases h2 : t = e
        · exact absurd (h1.symm.trans h2) hne
        · simp [h1, h2]
          intro h3; exact absurd h3 hne
      · by_cases h2 : t = e
        · simp [h1, h2]
          intro h3; exact absurd h3.symm hne
        · simp [h1, h2]
theorem stE_put {i j : Nat} {oi oj : Oper} {x : AV} {e : Ef} (hj : ops[j]? = some oj) (hap : oi.apart ops oj = true) (hc : compat (rowAt tab i) (rowAt tab j) = true)
    {K : Sig → List AObj → Prop} (hy : YE P ops (rowAt tab i) oi x e σ H) (h : stE P ops tab j K (updS σ oi.dst x) (e.on H)) :
    stE P ops tab j (fun σ' H' => YE P ops (rowAt tab i) oi x e σ' H' ∧ K (updS σ' oi.dst x) (e.on H')) σ H := by
  obtain ⟨h1, h2, h3⟩ := Oper.apart_spec hap
  have oke : EfOk (rowAt tab i).1 H e := hy.ok.resolve_right id
  obtain ⟨y, f, hyj, okf', k⟩ := stE_lin hj h
  have hyj' : YE P ops (rowAt tab j) oj y f σ H := by
    rw [YE.same h1 (lookF_on hc oke)] at hyj
    exact hyj
  have okf : EfOk (rowAt tab j).1 H f := hyj'.ok.resolve_right id
  refine hyj'.stE hj ⟨?_, ?_⟩
  · rw [YE.same h3 (lookF_on (compat_symm hc) okf)]
    exact hy
  · rw [← updS_comm _ _ h2, ← on_comm hc oke okf]
    exact k

def wpAnyE (P : Program) (md : Region.Mode) (ops : Array Oper) (tab : List Row) (Q : Sig → List AObj → Prop) : Nat → Array Bool → Sig → List AObj → Prop
  | 0, listed, σ, H => Region.ready md ops listed = [] ∧ Q σ H
  | fuel + 1, listed, σ, H => (Region.ready md ops listed = [] → Q σ H) ∧ ∀ i ∈ Region.ready md ops listed, stE P ops tab i (wpAnyE P md ops tab Q fuel (listed.setIfInBounds i true)) σ H
theorem wpAnyE_first {md : Region.Mode} {Q : Sig → List AObj → Prop} {i : Nat} {oi : Oper} {x : AV} {e : Ef} (hi : ops[i]? = some oi) :
    ∀ (fuel : Nat) (listed : Array Bool) (σ : Sig) (H : List AObj),
      (∀ j oj, ops[j]? = some oj → j ≠ i → listed.getD j true = false → (∀ e ∈ oj.after, Region.binds md e = true → e.on ≠ i) → oi.apart ops oj = true ∧ compat (rowAt tab i) (rowAt tab j) = true) →
      i ∈ Region.ready md ops listed → YE P ops (rowAt tab i) oi x e σ H →
      wpAnyE P md ops tab Q fuel (listed.setIfInBounds i true) (updS σ oi.dst x) (e.on H) → wpAnyE P md ops tab Q (fuel + 1) listed σ H := by
  intro fuel
  induction fuel with
  | zero =>
    intro listed σ H _ hr hy h
    refine ⟨fun h => (by rw [h] at hr; cases hr), fun j hj => ?_⟩
    by_cases hji : j = i
    · subst hji; exact hy.stE hi h
    · have := ready_mono hj hji
      rw [h.1] at this
      cases this
  | succ fuel ih =>
    intro listed σ H hfree hr hy h
    refine ⟨fun h => (by rw [h] at hr; cases hr), fun j hj => ?_⟩
    by_cases hji : j = i
    · subst hji; exact hy.stE hi h
    · have h1 := h.2 j (ready_mono hj hji)
      obtain ⟨hjun, oj, hoj, hall⟩ := mem_ready.1 hj
      have hnot : ∀ e ∈ oj.after, Region.binds md e = true → e.on ≠ i := fun e he hb heq => by
        have h1 := hall e he hb
        have h0 := (mem_ready.1 hr).1
        rw [heq] at h1
        rcases Nat.lt_or_ge i listed.size with h' | h'
        · simp [h'] at h0 h1; rw [h0] at h1; cases h1
        · simp [Array.getElem?_eq_none h'] at h1
      obtain ⟨hap, hcp⟩ := hfree j oj hoj hji hjun hnot
      have h2 := stE_put hoj hap hcp hy h1
      have hfree' : ∀ k ok, ops[k]? = some ok → k ≠ i → (listed.setIfInBounds j true).getD k true = false →
          (∀ e ∈ ok.after, Region.binds md e = true → e.on ≠ i) → oi.apart ops ok = true ∧ compat (rowAt tab i) (rowAt tab k) = true := fun k ok hk hki hun hno => by
        refine hfree k ok hk hki ?_ hno
        by_cases hjk : j = k
        · subst hjk; exact hjun
        · rw [getD_set_ne true hjk] at hun; exact hun
      refine stE_mono h2 fun σ' H' h3 => ih (listed.setIfInBounds j true) σ' H' hfree' (ready_mono hr (Ne.symm hji)) h3.1 ?_
      rw [Array.setIfInBounds_comm _ _ hji]
      exact h3.2

def freeE (md : Region.Mode) (ops : Array Oper) (tab : List Row) (listed : Array Bool) (i : Nat) : Bool :=
  match ops[i]? with
  | none => false
  | some oi => (List.range ops.size).all fun j => j == i || listed.getD j true || match ops[j]? with
      | some oj => oj.after.any (fun e => Region.binds md e && e.on == i) || (oi.apart ops oj && compat (rowAt tab i) (rowAt tab j))
      | none => true
theorem freeE_spec {md : Region.Mode} {i : Nat} {oi : Oper} {listed : Array Bool} (hi : ops[i]? = some oi) (h : freeE md ops tab listed i = true) (j : Nat) (oj : Oper)
    (hj : ops[j]? = some oj) (hne : j ≠ i) (hun : listed.getD j true = false) (hno : ∀ e ∈ oj.after, Region.binds md e = true → e.on ≠ i) :
    oi.apart ops oj = true ∧ compat (rowAt tab i) (rowAt tab j) = true := by
  simp only [freeE, hi, List.all_eq_true, List.mem_range] at h
  have h1 := h j (Array.getElem?_eq_some_iff.1 hj).1
  simp only [hj, Bool.or_eq_true, beq_iff_eq, hne, false_or, hun, Bool.false_eq_true] at h1
  rcases h1 with h1 | h1
  · obtain ⟨e, he, hb⟩ := Array.any_eq_true'.1 h1
    simp only [Bool.and_eq_true, beq_iff_eq] at hb
    exact absurd hb.2 (hno e he hb.1)
  · simpa using h1
def lexE (md : Region.Mode) (ops : Array Oper) (tab : List Row) : Nat → Nat → Array Bool → Bool
  | 0, _, listed => (Region.ready md ops listed).isEmpty
  | fuel + 1, k, listed => (Region.ready md ops listed).contains k && freeE md ops tab listed k && lexE md ops tab fuel (k + 1) (listed.setIfInBounds k true)
/-- The closed check on a region: whatever order is drawn, it comes to the text's. -/
def drawB (n : Nat) (ops : Array Oper) (tab : List Row) : Bool :=
  (ops.all fun o => match o.dst with | some d => decide (d < n) | none => true) && lexE .any ops tab ops.size 0 (Array.replicate ops.size false)
def runE (P : Program) (ops : Array Oper) (tab : List Row) (Q : Sig → List AObj → Prop) : Nat → Nat → Sig → List AObj → Prop
  | 0, _, σ, H => Q σ H
  | c + 1, k, σ, H => stE P ops tab k (runE P ops tab Q c (k + 1)) σ H
theorem wpAnyE_lex {md : Region.Mode} {Q : Sig → List AObj → Prop} : ∀ (c k : Nat) (listed : Array Bool) (σ : Sig) (H : List AObj), k + c = ops.size →
    lexE md ops tab c k listed = true → runE P ops tab Q c k σ H → wpAnyE P md ops tab Q c listed σ H
  | 0, _, _, _, _, _, hB, h => ⟨by simpa [lexE] using hB, h⟩
  | c + 1, k, listed, σ, H, hk, hB, h => by
    have hlt : k < ops.size := by omega
    have h0 : ops[k]? = some ops[k] := Array.getElem?_eq_getElem hlt
    simp only [lexE, Bool.and_eq_true] at hB
    obtain ⟨⟨hr, hf⟩, hB'⟩ := hB
    obtain ⟨x, e, hy, _, hK⟩ := stE_lin h0 h
    exact wpAnyE_first h0 c listed σ H (freeE_spec h0 hf) (by simpa using hr) hy (wpAnyE_lex c (k + 1) _ _ _ (by omega) hB' hK)

/-! ### The world -/
structure FRel (ro : Option Nat) (S : Mem) (m : List Loc) (H : List AObj) (n : Nat) (σ : Sig) (a : Act) : Prop where
  defers : DefOk ro m H a.defers (σ DEF)
  big : n ≤ DEF
  size : a.tmps.size = n
  slot : ∀ d, VA S m H (σ d) (a.tmps.getD d undef)
def InF (cx : Cx) (n : Nat) (σ : Sig) (H : List AObj) (a : Act) (w : World) : Prop :=
  ∃ S m, Sim S m H cx.B w ∧ Ext cx.B cx.S0 cx.m0 cx.H0 S m H ∧ Bel cx.B cx.w0 w ∧ FRel cx.ro S m H n σ a
theorem FRel.eval {ro : Option Nat} {S : Mem} {m : List Loc} {a : Act} (h : FRel ro S m H n σ a) (x : Operand) : VA S m H (evF σ x) (a.eval x) := by
  cases x with
  | tmp t => exact h.slot t
  | const v => exact absA_ok S m H v
  | global g => trivial
  | func f => exact VP.fn f
theorem FRel.ext {ro : Option Nat} {B : Nat} {S S' : Mem} {m m' : List Loc} {H H' : List AObj} {a : Act} (h : FRel ro S m H n σ a) (e : Ext B S m H S' m' H') : FRel ro S' m' H' n σ a :=
  ⟨h.defers.ext e, h.big, h.size, fun d => (h.slot d).ext e⟩
theorem FRel.put {ro : Option Nat} {S : Mem} {m : List Loc} {a : Act} (h : FRel ro S m H n σ a) {dst : Option Tmp} (hd : ∀ d, dst = some d → d < n) {x : AV} {v : Value} (hv : VA S m H x v) : FRel ro S m H n (updS σ dst x) (a.put dst v) := by
  cases dst with
  | none => exact h
  | some d =>
    have hd := hd d rfl
    refine ⟨by
      simp only [updS]
      rw [if_neg (fun h2 : DEF = d => absurd (Nat.lt_of_lt_of_le hd h.big) (by rw [h2]; exact Nat.lt_irrefl _))]
      exact h.defers, h.big, by simp [Act.put, h.size], fun t => ?_⟩
    simp only [updS, Act.put]
    by_cases ht : t = d
    · subst ht
      simp only [if_true]
      have : (a.tmps.setIfInBounds t v).getD t undef = v := by simp [Array.getD_eq_getD_getElem?, h.size, hd]
      rw [this]; exact hv
    · simp only [if_neg ht]
      have : (a.tmps.setIfInBounds d v).getD t undef = a.tmps.getD t undef := by
        simp only [Array.getD_eq_getD_getElem?]
        rw [Array.getElem?_setIfInBounds_ne (Ne.symm ht)]
      rw [this]; exact h.slot t
theorem aopE_nodefer {ρ : Operand → AV} {look : Look} {wr : Option Nat} {o : Op} {K : AV → Ef → Prop} (h : aopE P ρ look wr o K) : ∀ c, o ≠ .defer c := fun c hc => by subst hc; cases wr <;> exact h
theorem stE_wp {i : Nat} {K : Sig → List AObj → Prop} {K' : Act → World → Prop} {Q : Exit → Act → World → Prop} {a : Act} {w : World} (hn : ∀ (j : Nat) (o : Oper), ops[j]? = some o → ∀ d, o.dst = some d → d < n)
    (hin : InF cx n σ H a w) (h : stE P ops tab i K σ H) (hk : ∀ σ' H' a' w', InF cx n σ' H' a' w' → K σ' H' → K' a' w') : wpOpIn (FR cx.ro) 0 P ops Q i K' a w := by
  obtain ⟨S, m, s, e, b, r⟩ := hin
  unfold wpOpIn
  unfold stE at h
  cases hi : ops[i]? with
  | none => simp only [hi] at h ⊢; exact hk _ _ _ _ ⟨S, m, s, e, b, r⟩ h
  | some o =>
    simp only [hi] at h ⊢
    have run : (aopE P (evF σ) (lookF (rowAt tab i).2 H) (rowAt tab i).1 o.op fun x e => K (updS σ o.dst x) (e.on H)) → o.wpIn (FR cx.ro) 0 P a w K' Q := fun h => by
      refine Oper.wpIn_mono ?_ (Oper.wpIn_of_wp (aopE_nodefer h) (aopE_wp (n := n) s r.eval h))
      rintro a' w' ⟨v, S', m', H', x, rfl, h1, h2, h3, h4, e', rfl, h5⟩
      exact hk _ _ _ _ ⟨S', m', h1, e.trans h2, b.trans h3, (r.ext h2).put (hn i o hi) h4⟩ h5
    cases hg : o.guard with
    | none =>
      simp only [hg] at h
      rw [if_pos (by simp [Region.wanted, hg])]
      exact run h
    | some q =>
      obtain ⟨j, want⟩ := q
      simp only [hg] at h
      cases hd : (ops[j]?).bind (·.dst) with
      | none => simp [hd] at h
      | some d =>
        simp only [hd] at h
        have hs := r.slot d
        split at h
        · rename_i bb heq
          rw [heq] at hs
          have hb : a.tmps.getD d undef = .bool bb := by
            generalize a.tmps.getD d undef = z at hs
            cases hs; rfl
          have hy : yielded ops a.tmps j = some bb := by
            unfold yielded
            rw [hd]
            have : a.tmps[d]? = some (.bool bb) := by
              rw [Array.getD_eq_getD_getElem?] at hb
              cases ht : a.tmps[d]? with
              | none => rw [ht] at hb; cases hb
              | some z => rw [ht] at hb; simp at hb; rw [hb]
            simp [this]
          by_cases hw : bb = want
          · rw [if_pos (by simp [Region.wanted, hg, hy, hw])]
            exact run (h.1 hw)
          · rw [if_neg (by simp [Region.wanted, hg, hy, hw])]
            have hw' : bb = !want := by cases bb <;> cases want <;> simp_all
            exact ⟨fun _ _ => trivial, hk _ _ _ _ ⟨S, m, s, e, b, r.put (hn i o hi) (x := .tup []) (v := undef) und_ok⟩ (h.2 hw')⟩
        · rename_i heq
          rw [heq] at hs
          obtain ⟨vs, hv, hl, _⟩ := hs
          have hvs : vs = [] := List.eq_nil_of_length_eq_zero (by simpa using hl.symm)
          subst hvs
          have hy : yielded ops a.tmps j = none := by
            unfold yielded
            rw [hd]
            rw [Array.getD_eq_getD_getElem?] at hv
            cases ht : a.tmps[d]? with
            | none => simp [ht]
            | some z => rw [ht] at hv; simp at hv; subst hv; simp [ht]
          rw [if_neg (by simp [Region.wanted, hg, hy])]
          exact ⟨fun _ _ => trivial, hk _ _ _ _ ⟨S, m, s, e, b, r.put (hn i o hi) (x := .tup []) (v := undef) und_ok⟩ h⟩
        · exact h.elim
theorem wpAnyE_sound {md : Region.Mode} {Q : Sig → List AObj → Prop} {Q' : Exit → Act → World → Prop} (hn : ∀ (j : Nat) (o : Oper), ops[j]? = some o → ∀ d, o.dst = some d → d < n)
    (hq : ∀ σ H a w, InF cx n σ H a w → Q σ H → Q' .normal a w) : ∀ (fuel : Nat) (listed : Array Bool) (σ : Sig) (H : List AObj) (a : Act) (w : World),
    InF cx n σ H a w → wpAnyE P md ops tab Q fuel listed σ H → wpAnyIn (FR cx.ro) 0 P md ops Q' fuel listed a w
  | 0, _, _, _, _, _, hin, h => ⟨h.1, hq _ _ _ _ hin h.2⟩
  | fuel + 1, _, _, _, _, _, hin, h => ⟨fun h0 => hq _ _ _ _ hin (h.1 h0), fun i hi => stE_wp hn hin (h.2 i hi) fun σ' H' a' w' hin' k => wpAnyE_sound hn hq fuel _ σ' H' a' w' hin' k⟩

/-! ### The text's order -/
def putL (dst : Option Tmp) (x : AV) (sl : Slots) : Slots := match dst with
  | none => sl
  | some d => (d, x) :: sl
def dStep (P : Program) (ops : Array Oper) (r : Row) (o : Oper) (sl : Slots) (H : List AObj) (K : Slots → List AObj → Prop) : Prop :=
  match o.guard with
  | none => aopE P (ev sl) (lookF r.2 H) r.1 o.op fun x e => K (putL o.dst x sl) (e.on H)
  | some (g, want) => match (ops[g]?).bind (·.dst) with
    | some d => match getS sl d with
      | .c (.p (.bool b)) => (b = want → aopE P (ev sl) (lookF r.2 H) r.1 o.op fun x e => K (putL o.dst x sl) (e.on H)) ∧ (b = (!want) → K (putL o.dst (.tup []) sl) H)
      | .tup [] => K (putL o.dst (.tup []) sl) H
      | _ => False
    | none => False
def dOps (P : Program) (ops : Array Oper) : List Oper → List Row → Slots → List AObj → (Slots → List AObj → Prop) → Prop
  | [], _, sl, H, K => K sl H
  | o :: l, [], sl, H, K => dStep P ops (none, []) o sl H fun sl' H' => dOps P ops l [] sl' H' K
  | o :: l, r :: tab, sl, H, K => dStep P ops r o sl H fun sl' H' => dOps P ops l tab sl' H' K
theorem getS_put (dst : Option Tmp) (x : AV) (sl : Slots) : getS (putL dst x sl) = updS (getS sl) dst x := by
  cases dst with
  | none => rfl
  | some d => funext t; rfl
theorem evF_getS (sl : Slots) : evF (getS sl) = ev sl := by
  funext x
  cases x <;> rfl
theorem runE_of_dOps {K : Slots → List AObj → Prop} : ∀ (l : List Oper) (k : Nat) (rs : List Row) (sl : Slots) (H : List AObj), (∀ j, l[j]? = ops[k + j]?) → (∀ j, rowAt rs j = rowAt tab (k + j)) →
    dOps P ops l rs sl H K → runE P ops tab (fun σ H => ∃ sl', getS sl' = σ ∧ K sl' H) l.length k (getS sl) H
  | [], k, rs, sl, H, _, _, h => ⟨sl, rfl, h⟩
  | o :: l, k, rs, sl, H, hl, hr, h => by
    have h0 : ops[k]? = some o := by simpa using (hl 0).symm
    have ih : ∀ sl' H', dOps P ops l rs.tail sl' H' K → runE P ops tab (fun σ H => ∃ sl', getS sl' = σ ∧ K sl' H) l.length (k + 1) (getS sl') H' := fun sl' H' h' =>
      runE_of_dOps l (k + 1) rs.tail sl' H' (fun j => by have := hl (j + 1); simpa [Nat.add_assoc, Nat.add_comm 1 j] using this) (fun j => by
        have := hr (j + 1)
        rw [show k + 1 + j = k + (j + 1) by omega, ← this]
        cases rs <;> rfl) h'
    have h' : dStep P ops (rowAt rs 0) o sl H fun sl' H' => dOps P ops l rs.tail sl' H' K := by
      cases rs <;> exact h
    rw [hr 0] at h'
    simp only [List.length_cons, runE]
    unfold stE
    simp only [h0]
    unfold dStep at h'
    have key : ∀ sl' H', (fun sl' H' => dOps P ops l rs.tail sl' H' K) sl' H' → runE P ops tab (fun σ H => ∃ sl', getS sl' = σ ∧ K sl' H) l.length (k + 1) (getS sl') H' := ih
    split at h'
    · rw [evF_getS]
      exact aopE_mono h' fun x e hk => by rw [← getS_put]; exact ih _ _ hk
    · split at h'
      · split at h'
        · rename_i want hgd _ d hd _ b hs
          try simp only [hd, hs]
          rw [evF_getS]
          exact ⟨fun hb => aopE_mono (h'.1 hb) fun x e hk => by rw [← getS_put]; exact ih _ _ hk, fun hb => by rw [← getS_put]; exact ih _ _ (h'.2 hb)⟩
        · rename_i hs
          try simp only [hs]
          rw [← getS_put]; exact ih _ _ h'
        · exact h'.elim
      · exact h'.elim
theorem AW.draw {k : Nat} {sl : Slots} {Q : Exit → Slots → List AObj → Prop} {id : Nat} (tab : List Row) (hm : P.follows .mixedOrders = true) (hB : drawB n ops tab = true)
    (h : dOps P ops ops.toList tab sl H (Q .normal)) : AW P n k (.region id ops true) Q sl H := fun cx hk a w hin => by
  simp only [drawB, Bool.and_eq_true] at hB
  have hn : ∀ (j : Nat) (o : Oper), ops[j]? = some o → ∀ d, o.dst = some d → d < n := fun j o hj d hd => by
    have := Array.all_eq_true_iff_forall_mem.1 hB.1 o (Array.mem_of_getElem? hj)
    simpa [hd] using this
  obtain ⟨S, m, s, e, b, r⟩ := hin
  have hd : InF cx n (getS sl) H a { w with drawn := w.drawn + 1 } := ⟨S, m, s.drew, e, b.drew, ⟨r.defers, r.big, r.size, r.slot⟩⟩
  refine wpIn_region_any hm (wpAnyE_sound (tab := tab) (cx := cx) hn (Q := fun σ H => ∃ sl', getS sl' = σ ∧ Q .normal sl' H) ?_ _ _ (getS sl) H a _ hd ?_)
  · rintro σ H a w ⟨S, m, s, e, b, r⟩ ⟨sl', rfl, hq⟩
    exact ⟨sl', H, ⟨S, m, s, e, b, ⟨r.defers, r.big, r.size, r.slot⟩⟩, hq⟩
  · have h1 := runE_of_dOps (tab := tab) (ops := ops) ops.toList 0 tab sl H (fun j => by simp) (fun j => by simp) h
    have := wpAnyE_lex (md := .any) ops.size 0 (Array.replicate ops.size false) (getS sl) H (by simp) hB.2 (by simpa using h1)
    exact this
end
end Go.Aw

/-
  An abstract memory for walks, part 16: rules for use.
-/
set_option linter.unusedVariables false
set_option linter.unusedSimpArgs false
namespace Go.Aw
open Go.RowKit
attribute [go_sem] dOps dStep aopE aopF aMark aAppOwn freshK aopD aPartD aLoadD aFieldAddrD aIndexAddrD aLenD lookF putL Ef.on
section
variable {P : Program} {n k : Nat} {sl : Slots} {H : List AObj} {Q : Exit → Slots → List AObj → Prop} {x y : Code}
/-- What follows, hidden. -/
theorem AW.seqK (h : ∀ K : Slots → List AObj → Prop, (∀ sl' H', AW P n k y Q sl' H' → K sl' H') → AW P n k x (AThen K Q) sl H) : AW P n k (.seq x y) Q sl H :=
  AW.seq (h _ fun _ _ h => h)
/-- A region at the head, and what follows. -/
theorem AW.r {id : Nat} {ops : Array Oper} (ow : Bool) (h : ∀ K : Slots → List AObj → Prop, (∀ sl' H', AW P n k y Q sl' H' → K sl' H') → aops P ow n ops ops.toList sl H K) : AW P n k (.seq (.region id ops false) y) Q sl H :=
  AW.seq (AW.region ow (h _ fun _ _ h => h))
theorem AW.d {id : Nat} {ops : Array Oper} (tab : List Row) (hm : P.follows .mixedOrders = true) (hB : drawB n ops tab = true)
    (h : ∀ K : Slots → List AObj → Prop, (∀ sl' H', AW P n k y Q sl' H' → K sl' H') → dOps P ops ops.toList tab sl H K) : AW P n k (.seq (.region id ops true) y) Q sl H :=
  AW.seq (AW.draw tab hm hB (h _ fun _ _ h => h))
/-- The last region of a piece of code. -/
theorem AW.rl {id : Nat} {ops : Array Oper} (ow : Bool) (h : ∀ K : Slots → List AObj → Prop, (∀ sl' H', Q .normal sl' H' → K sl' H') → aops P ow n ops ops.toList sl H K) : AW P n k (.region id ops false) Q sl H :=
  AW.region ow (h _ fun _ _ h => h)
theorem AW.dl {id : Nat} {ops : Array Oper} (tab : List Row) (hm : P.follows .mixedOrders = true) (hB : drawB n ops tab = true)
    (h : ∀ K : Slots → List AObj → Prop, (∀ sl' H', Q .normal sl' H' → K sl' H') → dOps P ops ops.toList tab sl H K) : AW P n k (.region id ops true) Q sl H :=
  AW.draw tab hm hB (h _ fun _ _ h => h)
/-- A slice is no longer than slices are. -/
theorem AW.len {c : Code} {full : Bool} {xs : List (List PV)} (d : Nat) (hd : getS sl d = .c (.p (.sl full xs))) (h : (xs.length : Int) ≤ 9223372036854775807 → AW P n k c Q sl H) : AW P n k c Q sl H := fun cx hk a w hin => by
  obtain ⟨S, m, s, e, b, r⟩ := hin
  have hv := r.slot d
  rw [hd] at hv
  have hl : xs.length ≤ maxLen := by
    have hv' : VP S (.sl full xs) (a.tmps.getD d undef) := hv
    generalize a.tmps.getD d undef = v at hv'
    cases hv' with
    | nil => simp
    | emp => simp
    | sl _ _ b off cap size n u hn hc hm => omega
  exact h (by have := hl; unfold maxLen at this; omega) cx hk a w ⟨S, m, s, e, b, r⟩
end
/-- Results that may have room behind them. -/
def loR : PR → PR
  | .one (f, xs) => .one (f, xs.map lo)
  | .tup bs => .tup (bs.map fun b => (b.1, b.2.map lo))
section
variable {P : Program} {S : Mem}
theorem VPB.lo {b : PB} {v : Value} (h : VPB S b v) : VPB S (b.1, b.2.map lo) v := by
  obtain ⟨f, xs⟩ := b
  cases f with
  | true =>
    obtain ⟨vs, h1, h2⟩ := h
    refine ⟨vs, h1, ?_⟩
    have hp : VPs S xs vs := ⟨by simpa using h2.1, fun i x v a b => h2.2 i (.p x) v (by simp only [List.getElem?_map, a]; rfl) b⟩
    exact hp.lo.cells
  | false =>
    obtain ⟨c, h1, h2⟩ := h
    match xs, h1 with
    | [x], h1 =>
      simp at h1; subst h1
      exact ⟨_, rfl, VP.lo h2⟩
theorem VPR.lo {r : PR} {v : Value} (h : VPR S r v) : VPR S (loR r) v := by
  cases r with
  | one b => obtain ⟨f, xs⟩ := b; exact VPB.lo h
  | tup bs =>
    obtain ⟨vs, h1, h2, h3⟩ := h
    refine ⟨vs, h1, by simpa using h2, fun i b u hb hu => ?_⟩
    rw [List.getElem?_map] at hb
    cases hx : bs[i]? with
    | none => simp [hx] at hb
    | some x => simp [hx] at hb; subst hb; exact (h3 i x u hx hu).lo
theorem PC.loose {f : FuncId} {args : List PB} {r : PR} (h : PC P f args r) : PC P f args (loR r) :=
  ⟨h.1, fun S w vs hS hv => (h.2 S w vs hS hv).mono fun e w' ⟨v, S', a, b, c, d, e, f⟩ => ⟨v, S', a, b, c, d, e, f.lo⟩⟩
theorem frzR_ok {S S' : Mem} {m' : List Loc} {H' : List AObj} {x : AV} {r : PR} {v : Value} {w w' : World} (s' : Sim S' m' H' w.heap.size w') (e' : Ext w.heap.size S [] [] S' m' H') (b' : Below w.heap.size w w')
    (hx : VA S' m' H' x v) (hk : frzR H' x = some r) : ∃ u S2, Ending.returned v = .returned u ∧ S.le S2 ∧ OldMem w.heap.size S S2 ∧ ValidM S2 w' ∧ Below w.heap.size w w' ∧ VPR S2 r u := by
  have conc : ∀ S2 H2, Sim S2 m' H2 w.heap.size w' → Ext w.heap.size S' m' H' S2 m' H2 → VPR S2 r v → ∃ u S', Ending.returned v = .returned u ∧ S.le S' ∧ OldMem w.heap.size S S' ∧ ValidM S' w' ∧ Below w.heap.size w w' ∧ VPR S' r u := fun S2 H2 s2 e2 hr =>
    ⟨v, S2, rfl, Mem.le_trans e'.mem e2.mem, fun b o hb => (e2.old b o hb).trans (e'.old b o hb), s2.mem, b', hr⟩
  cases x with
  | any => simp [frzR, frzV] at hk
  | mark _ => simp [frzR, frzV] at hk
  | c x =>
    simp only [frzR] at hk
    cases hf : frzC H' x with
    | none => simp [hf] at hk
    | some q =>
      obtain ⟨b, H2⟩ := q
      simp [hf] at hk; subst hk
      obtain ⟨S2, s2, e2, p2⟩ := frzC_ok s' hx hf
      exact conc S2 H2 s2 e2 ⟨_, rfl, p2⟩
  | agg cs =>
    simp only [frzR] at hk
    cases hf : frzV H' (.agg cs) with
    | none => simp [hf] at hk
    | some q =>
      obtain ⟨b, H2⟩ := q
      simp [hf] at hk; subst hk
      obtain ⟨S2, s2, e2, p2⟩ := frzV_ok s' hx hf
      exact conc S2 H2 s2 e2 p2
  | tup bs =>
    simp only [frzR] at hk
    obtain ⟨us, rfl, hl, hu⟩ := hx
    cases hf : frzVs H' (bs.map oneB) with
    | none => simp [hf] at hk
    | some q =>
      obtain ⟨ps, H2⟩ := q
      simp [hf] at hk; subst hk
      obtain ⟨S2, s2, e2, p2⟩ := frzVs_ok s' (vs := us) ⟨by simpa using hl, fun i x u hx hui => by
        rw [List.getElem?_map] at hx
        cases hb : bs[i]? with
        | none => simp [hb] at hx
        | some b =>
          simp [hb] at hx; subst hx
          have := hu i b u hb hui
          obtain ⟨fl, cs⟩ := b
          cases fl with
          | true => exact this
          | false => obtain ⟨c, rfl, hc⟩ := this; exact hc⟩ hf
      exact conc S2 H2 s2 e2 ⟨us, rfl, p2⟩
/-- A contract whose results are told without their room. -/
theorem PC.of_loose {f : FuncId} {pargs : List PB} {r : PR} (h : ACall P f (pargs.map pbAV) [] fun x H' => (frzR H' x).map loR = some r) : PC P f pargs r := by
  refine ⟨h.1, fun S w vs hS hv => ?_⟩
  have h2 : ∀ x H', (frzR H' x).map loR = some r → ∃ r', frzR H' x = some r' ∧ loR r' = r := fun x H' hh => by
    cases hq : frzR H' x with
    | none => simp [hq] at hh
    | some r' => exact ⟨r', rfl, by simpa [hq] using hh⟩
  have key := (h.2 S [] w.heap.size w vs (Sim.start hS) (hv.VAs [] []))
  refine key.mono fun e w' ⟨v, he, S', m', H', x, s', e', b', hx, hk⟩ => ?_
  obtain ⟨r', hr, rfl⟩ := h2 x H' hk
  subst he
  obtain ⟨u, S2, q1, q2, q3, q4, q5, q6⟩ := frzR_ok s' e' b'.below hx hr
  exact ⟨u, S2, q1, q2, q3, q4, q5, q6.lo⟩
end
end Go.Aw
