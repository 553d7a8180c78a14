/-
  An abstract memory for walks, part 13: a region that draws its order, whatever the order.
-/
import Derived.Test.YtogappokeheilaaAw12
import Derived.Orders
set_option linter.unusedVariables false
set_option linter.unusedSimpArgs false
namespace Go.Aw
open Go.RowKit
section
variable {P : Program} {n : Nat} {S : Mem} {m : List Loc} {H : List AObj} {B : Nat} {w : World}

/-! ### Operations that read alone -/
def pureC : Cell → Option PV
  | .p x => some x
  | .clo f [] [] => some (.fn f)
  | _ => none
theorem frzC_empty {c : Cell} {x : PV} {H1 : List AObj} (h : frzC [] c = some (x, H1)) : H1 = [] ∧ ∀ H, frzC H c = some (x, H) := by
  cases c with
  | p y => simp [frzC] at h; obtain ⟨rfl, rfl⟩ := h; exact ⟨rfl, fun H => rfl⟩
  | own id n => simp [frzC] at h
  | ptr id off => simp [frzC] at h
  | ep id n i off => simp [frzC] at h
  | pp cs => simp [frzC] at h
  | yld id => simp [frzC] at h
  | room id n => simp [frzC] at h
  | mp id => simp [frzC] at h
  | clo f fs cs =>
    cases fs with
    | cons _ _ => simp [frzC] at h
    | nil => cases cs with
      | cons _ _ => simp [frzC] at h
      | nil => simp [frzC] at h; obtain ⟨rfl, rfl⟩ := h; exact ⟨rfl, fun H => rfl⟩
theorem frzs_empty : ∀ {cs : List Cell} {xs : List PV} {H1 : List AObj}, frzs [] cs = some (xs, H1) → H1 = [] ∧ ∀ H, frzs H cs = some (xs, H)
  | [], xs, H1, h => by simp [frzs] at h; obtain ⟨rfl, rfl⟩ := h; exact ⟨rfl, fun H => rfl⟩
  | c :: cs, xs, H1, h => by
    simp only [frzs] at h
    cases h1 : frzC [] c with
    | none => simp [h1] at h
    | some q =>
      obtain ⟨x, H2⟩ := q
      obtain ⟨rfl, k1⟩ := frzC_empty h1
      simp only [h1] at h
      cases h2 : frzs [] cs with
      | none => simp [h2] at h
      | some q =>
        obtain ⟨ys, H3⟩ := q
        obtain ⟨rfl, k2⟩ := frzs_empty h2
        simp only [h2, Option.some.injEq, Prod.mk.injEq] at h
        obtain ⟨rfl, rfl⟩ := h
        exact ⟨rfl, fun H => by simp only [frzs, k1 H, k2 H]⟩
theorem frzA_empty {x : AV} {y : PV} {H1 : List AObj} (h : frzA [] x = some (y, H1)) : H1 = [] ∧ ∀ H, frzA H x = some (y, H) := by
  cases x with
  | c c => exact frzC_empty h
  | _ => simp [frzA] at h
theorem frzV_empty {x : AV} {y : PB} {H1 : List AObj} (h : frzV [] x = some (y, H1)) : H1 = [] ∧ ∀ H, frzV H x = some (y, H) := by
  cases x with
  | any => simp [frzV] at h
  | tup _ => simp [frzV] at h
  | mark _ => simp [frzV] at h
  | c c =>
    simp only [frzV] at h
    cases h1 : frzC [] c with
    | none => simp [h1] at h
    | some q =>
      obtain ⟨x, H2⟩ := q
      obtain ⟨rfl, k1⟩ := frzC_empty h1
      simp only [h1, Option.some.injEq, Prod.mk.injEq] at h
      obtain ⟨rfl, rfl⟩ := h
      exact ⟨rfl, fun H => by simp only [frzV, k1 H]⟩
  | agg cs =>
    simp only [frzV] at h
    cases h1 : frzs [] cs with
    | none => simp [h1] at h
    | some q =>
      obtain ⟨x, H2⟩ := q
      obtain ⟨rfl, k1⟩ := frzs_empty h1
      simp only [h1, Option.some.injEq, Prod.mk.injEq] at h
      obtain ⟨rfl, rfl⟩ := h
      exact ⟨rfl, fun H => by simp only [frzV, k1 H]⟩
theorem frzVs_empty : ∀ {xs : List AV} {ys : List PB} {H1 : List AObj}, frzVs [] xs = some (ys, H1) → H1 = [] ∧ ∀ H, frzVs H xs = some (ys, H)
  | [], xs, H1, h => by simp [frzVs] at h; obtain ⟨rfl, rfl⟩ := h; exact ⟨rfl, fun H => rfl⟩
  | c :: cs, xs, H1, h => by
    simp only [frzVs] at h
    cases h1 : frzV [] c with
    | none => simp [h1] at h
    | some q =>
      obtain ⟨x, H2⟩ := q
      obtain ⟨rfl, k1⟩ := frzV_empty h1
      simp only [h1] at h
      cases h2 : frzVs [] cs with
      | none => simp [h2] at h
      | some q =>
        obtain ⟨ys, H3⟩ := q
        obtain ⟨rfl, k2⟩ := frzVs_empty h2
        simp only [h2, Option.some.injEq, Prod.mk.injEq] at h
        obtain ⟨rfl, rfl⟩ := h
        exact ⟨rfl, fun H => by simp only [frzVs, k1 H, k2 H]⟩
theorem aElems_empty : ∀ {xs : List AV} {ys : List (List PV)} {H1 : List AObj}, aElems [] xs = some (ys, H1) → H1 = [] ∧ ∀ H, aElems H xs = some (ys, H)
  | [], xs, H1, h => by simp [aElems] at h; obtain ⟨rfl, rfl⟩ := h; exact ⟨rfl, fun H => rfl⟩
  | c :: cs, xs, H1, h => by
    simp only [aElems] at h
    cases h0 : cellsA c with
    | none => simp [h0] at h
    | some cc =>
      simp only [h0] at h
      cases h1 : frzs [] cc with
      | none => simp [h1] at h
      | some q =>
        obtain ⟨x, H2⟩ := q
        obtain ⟨rfl, k1⟩ := frzs_empty h1
        simp only [h1] at h
        cases h2 : aElems [] cs with
        | none => simp [h2] at h
        | some q =>
          obtain ⟨ys, H3⟩ := q
          obtain ⟨rfl, k2⟩ := aElems_empty h2
          simp only [h2, Option.some.injEq, Prod.mk.injEq] at h
          obtain ⟨rfl, rfl⟩ := h
          exact ⟨rfl, fun H => by simp only [aElems, h0, k1 H, k2 H]⟩

abbrev Look := Nat → Option AObj
def aPartD (P : Program) (t : TypeId) (cs : List Cell) (off : Nat) (K : AV → Prop) : Prop :=
  match aggT P t with
  | some true => 0 < P.cellsOf t ∧ off + P.cellsOf t ≤ cs.length ∧ K (.agg ((cs.drop off).take (P.cellsOf t)))
  | some false => match cs[off]? with
    | some c => K (.c c)
    | none => False
  | none => False
def aLoadD (P : Program) (t : TypeId) (x : AV) (look : Look) (K : AV → Prop) : Prop :=
  match x with
  | .c (.ptr id off) => match look id with
    | some (.var cs) => aPartD P t cs off K
    | _ => False
  | .c (.ep id n i off) => match look id with
    | some (.arr _ _ _ es) => es.length = n ∧ ∃ e, es[i]? = some e ∧ aPartD P t (e.map .p) off K
    | _ => False
  | .c (.pp cells) => aPartD P t (cells.map .p) 0 K
  | _ => False
def aFieldAddrD (P : Program) (s : TypeId) (x : AV) (f : Nat) (look : Look) (K : AV → Prop) : Prop :=
  match fieldOf P s f with
  | none => False
  | some (off, t) => 0 < P.cellsOf t ∧
    match x with
    | .c (.ptr id o) => K (.c (.ptr id (o + off)))
    | .c (.ep id n i o) => (∃ T size frz es, look id = some (.arr T size frz es) ∧ es.length = n) ∧ K (.c (.ep id n i (o + off)))
    | .c (.pp cells) => K (.c (.pp (cells.drop off)))
    | _ => False
def aIndexAddrD (P : Program) (t : TypeId) (x ix : AV) (look : Look) (K : AV → Prop) : Prop :=
  match P.underlying t, intA ix with
  | some (.slice e), some i => 0 < P.cellsOf e ∧ 0 ≤ i ∧
    match x with
    | .c (.own id n) => match look id with
      | some (.arr T size frz es) => es.length = n ∧ size = P.cellsOf e ∧ i < n ∧ K (.c (.ep id n i.toNat 0))
      | _ => False
    | .c (.p (.sl full xs)) => ∃ el, xs[i.toNat]? = some el ∧ el.length = P.cellsOf e ∧ K (.c (.pp el))
    | _ => False
  | _, _ => False
def aLenD (P : Program) (t : TypeId) (x : AV) (look : Look) (K : AV → Prop) : Prop :=
  match P.underlying t, x with
  | some (.slice e), .c (.p (.sl full xs)) => K (.c (.p (.int .i64 xs.length)))
  | some (.slice e), .c (.own id n) => (∃ T size frz es, look id = some (.arr T size frz es) ∧ es.length = n) ∧ K (.c (.p (.int .i64 n)))
  | some .string, .c (.p (.str s)) => K (.c (.p (.int .i64 s.size)))
  | _, _ => False
abbrev ACallD (P : Program) (g : FuncId) (args : List AV) (K : AV → Prop) : Prop := ∃ pargs r, PC P g pargs r ∧ frzVs [] args = some (pargs, []) ∧ K (prAV r)
/-- What an operation reads, from the objects that 'look' shows. -/
def aopD (P : Program) (ρ : Operand → AV) (look : Look) (o : Op) (K : AV → Prop) : Prop :=
  match o with
  | .move x | .assign x => K (ρ x)
  | .pick c a b => match ρ c with
    | .c (.p (.bool t)) => (t = true → K (ρ a)) ∧ (t = false → K (ρ b))
    | _ => False
  | .build t ps => aBuild P t (ps.toList.map fun q => (q.1, ρ q.2)) [] fun x _ => K x
  | .buildSlice t len ps => aBuildSlice P false t len (ps.toList.map fun q => (q.1, ρ q.2)) [] fun x _ => K x
  | .load t x => aLoadD P t (ρ x) look K
  | .nilCheck x => match ρ x with
    | .c (.ptr id off) => K (.c (.ptr id off))
    | .c (.pp cs) => K (.c (.pp cs))
    | _ => False
  | .binOp op t x y _ => if isNilC y = true then False else aBin P op t (ρ x) (ρ y) [] fun x _ => K x
  | .unOp op _ x => aUn op (ρ x) [] fun x _ => K x
  | .convert s d x => aConv P s d (ρ x) [] fun x _ => K x
  | .slice t x lo hi mx => aSlice P t (ρ x) (lo.map ρ) (hi.map ρ) (mx.map ρ) [] fun x _ => K x
  | .fieldAddr s x f => aFieldAddrD P s (ρ x) f look K
  | .indexAddr t x ix => aIndexAddrD P t (ρ x) (ρ ix) look K
  | .index t x ix => aIndex P t (ρ x) (ρ ix) [] fun x _ => K x
  | .extract x i => aExtract (ρ x) i [] fun x _ => K x
  | .call c => match c.callee with
    | .value f => match ρ f with
      | .c (.p (.fn g)) => ACallD P g (c.args.toList.map ρ) K
      | _ => False
    | .invoke recv name => match ρ recv with
      | .c (.p x) => ∃ g q pargs r, MethTo P x name g q ∧ PC P g pargs r ∧ frzVs [] (q :: c.args.toList.map ρ) = some (pargs, []) ∧ K (prAV r)
      | _ => False
    | .builtin b => match b, c.argTypes.toList, c.args.toList.map ρ with
      | .len, [t], [x] => aLenD P t x look K
      | .append, [t, u], [x, y] => aAppend P true t u x y [] fun x _ => K x
      | _, _, _ => False
  | _ => False
abbrev KH (H : List AObj) (K : AV → Prop) : AV → List AObj → Prop := fun x H1 => H1 = H ∧ K x
theorem aPartD_iff {t : TypeId} {cs : List Cell} {off : Nat} {K : AV → Prop} : aPartD P t cs off K → aPart P t cs off H (KH H K) := by
  intro h
  unfold aPartD at h
  unfold aPart
  cases ha : aggT P t with
  | none => simp [ha] at h
  | some b =>
    simp only [ha] at h ⊢
    cases b with
    | true => exact ⟨h.1, h.2.1, rfl, h.2.2⟩
    | false =>
      simp only at h ⊢
      cases hc : cs[off]? with
      | none => simp [hc] at h
      | some c => simp only [hc] at h; exact ⟨rfl, h⟩
theorem aopD_aop {ρ : Operand → AV} {o : Op} {K : AV → Prop} {look : Look} (hlook : ∀ id x, look id = some x → H[id]? = some x) (h : aopD P ρ look o K) (hpure : ∀ c, o = .call c → c.callee ≠ .builtin .append) :
    aop P false ρ H o (KH H K) := by
  cases o <;> simp only [aopD] at h <;> simp only [aop] <;> try exact h.elim
  case move x => exact ⟨rfl, h⟩
  case assign x => exact ⟨rfl, h⟩
  case pick c a b =>
    generalize ρ c = vc at h ⊢
    split at h
    · exact ⟨fun t => ⟨rfl, h.1 t⟩, fun t => ⟨rfl, h.2 t⟩⟩
    · exact h.elim
  case build t ps =>
    generalize ps.toList.map (fun q => (q.1, ρ q.2)) = vps at h ⊢
    unfold aBuild at h ⊢
    split at h
    · split at h
      · split at h
        · exact ⟨rfl, h⟩
        · exact h.elim
      · exact h.elim
    · exact h.elim
  case buildSlice t len ps =>
    generalize ps.toList.map (fun q => (q.1, ρ q.2)) = vps at h ⊢
    unfold aBuildSlice at h ⊢
    split at h
    · obtain ⟨h1, h2, h3, h4, h⟩ := h
      split at h
      · rename_i es H1 hes
        obtain ⟨rfl, k⟩ := aElems_empty hes
        refine ⟨h1, h2, h3, h4, ?_⟩
        rw [k H]
        exact ⟨h.1, rfl, h.2⟩
      · exact h.elim
    · exact h.elim
  case load t x =>
    generalize ρ x = vx at h ⊢
    unfold aLoadD at h
    unfold aLoad
    split at h
    · split at h
      · rename_i hl
        simp only [hlook _ _ hl]
        exact aPartD_iff h
      · exact h.elim
    · split at h
      · rename_i hl
        simp only [hlook _ _ hl]
        obtain ⟨h1, e, h2, h⟩ := h
        exact ⟨h1, e, h2, aPartD_iff h⟩
      · exact h.elim
    · exact aPartD_iff h
    · exact h.elim
  case nilCheck x =>
    generalize ρ x = vx at h ⊢
    split at h
    · exact ⟨rfl, h⟩
    · exact ⟨rfl, h⟩
    · exact h.elim
  case binOp op t x y yt =>
    generalize ρ x = vx at h ⊢
    generalize ρ y = vy at h ⊢
    split at h
    · rename_i hn
      exact h.elim
    · rename_i hn
      rw [if_neg hn]
      unfold aBin at h ⊢
      split at h
      · refine ⟨h.1, ?_⟩
        have h2 := h.2
        unfold aInt at h2 ⊢
        cases op <;> simp only at h2 ⊢ <;> first | exact ⟨rfl, h2⟩ | exact ⟨h2.1, rfl, h2.2⟩ | exact h2.elim
      · refine ⟨h.1, ?_⟩
        have h2 := h.2
        cases op <;> simp only at h2 ⊢ <;> first | exact ⟨rfl, h2⟩ | exact h2.elim
      · unfold aStr at h ⊢
        cases op <;> simp only at h ⊢ <;> first | exact ⟨rfl, h⟩ | exact ⟨h.1, rfl, h.2⟩ | exact h.elim
      · split at h
        · rename_i xs H1 ys H2 hc hd
          obtain ⟨rfl, k1⟩ := frzs_empty hc
          obtain ⟨rfl, k2⟩ := frzs_empty hd
          rw [k1 H, k2 H]
          obtain ⟨_, _, h3, r, h4, h5⟩ := h
          refine ⟨rfl, rfl, h3, r, h4, ?_⟩
          cases op <;> simp only at h5 ⊢ <;> first | exact ⟨rfl, h5⟩ | exact h5.elim
        · exact h.elim
      · exact h.elim
  case unOp op t x =>
    generalize ρ x = vx at h ⊢
    unfold aUn at h ⊢
    split at h
    · exact ⟨rfl, h⟩
    · exact ⟨rfl, h⟩
    · exact h.elim
  case convert s d x =>
    generalize ρ x = vx at h ⊢
    unfold aConv at h ⊢
    split at h
    · split at h
      · exact ⟨rfl, h⟩
      · exact h.elim
    · refine ⟨h.1, ?_⟩
      have h2 := h.2
      split at h2
      · rename_i hf
        obtain ⟨rfl, k⟩ := frzA_empty hf
        rw [k H]
        obtain ⟨bs, h3, h4⟩ := h2
        exact ⟨bs, h3, rfl, h4⟩
      · exact h2.elim
    · refine ⟨h.1, h.2.1, ?_⟩
      have h2 := h.2.2
      split at h2
      · exact ⟨h2.1, rfl, h2.2⟩
      · exact h2.elim
    · split at h
      · exact ⟨rfl, h⟩
      · exact h.elim
    · exact h.elim
  case slice t x lo hi mx =>
    generalize ρ x = vx at h ⊢
    generalize lo.map ρ = vlo at h ⊢
    generalize hi.map ρ = vhi at h ⊢
    generalize mx.map ρ = vmx at h ⊢
    unfold aSlice at h ⊢
    split at h
    · split at h
      · rename_i hf
        obtain ⟨rfl, k⟩ := frzA_empty hf
        rw [k H]
        obtain ⟨a, b, c, d, e, f, h⟩ := h
        exact ⟨a, b, c, d, e, f, rfl, h⟩
      · split at h
        · obtain ⟨⟨_, _, _, h⟩, _⟩ := h
          simp at h
        · exact h.elim
      · exact h.elim
    · split at h
      · obtain ⟨a, b, c, h⟩ := h
        exact ⟨a, b, c, rfl, h⟩
      · exact h.elim
    · exact h.elim
  case fieldAddr s x f =>
    generalize ρ x = vx at h ⊢
    unfold aFieldAddrD at h
    unfold aFieldAddr
    generalize fieldOf P s f = vf at h ⊢
    split at h
    · exact h.elim
    · refine ⟨h.1, ?_⟩
      have h2 := h.2
      split at h2
      · exact ⟨rfl, h2⟩
      · obtain ⟨⟨T, size, frz, es, a, b⟩, h2⟩ := h2
        exact ⟨⟨T, size, frz, es, hlook _ _ a, b⟩, rfl, h2⟩
      · exact ⟨rfl, h2⟩
      · exact h2.elim
  case indexAddr t x ix =>
    generalize ρ x = vx at h ⊢
    generalize ρ ix = vi at h ⊢
    unfold aIndexAddrD at h
    unfold aIndexAddr
    generalize P.underlying t = vu at h ⊢
    generalize intA vi = vj at h ⊢
    split at h
    · refine ⟨h.1, h.2.1, ?_⟩
      have h2 := h.2.2
      split at h2
      · split at h2
        · rename_i hl
          simp only [hlook _ _ hl]
          exact ⟨h2.1, h2.2.1, h2.2.2.1, rfl, h2.2.2.2⟩
        · exact h2.elim
      · obtain ⟨el, a, b, h2⟩ := h2
        exact ⟨el, a, b, rfl, h2⟩
      · exact h2.elim
    · exact h.elim
  case index t x ix =>
    generalize ρ x = vx at h ⊢
    generalize ρ ix = vi at h ⊢
    unfold aIndex at h ⊢
    split at h
    · obtain ⟨a, b, h⟩ := h
      exact ⟨a, b, rfl, h⟩
    · exact h.elim
  case extract x i =>
    generalize ρ x = vx at h ⊢
    unfold aExtract at h ⊢
    split at h
    · split at h
      · exact ⟨rfl, h⟩
      · exact ⟨rfl, h⟩
      · exact h.elim
    · exact h.elim
  case call c =>
    obtain ⟨callee, args, ats⟩ := c
    cases callee with
    | value f =>
      simp only at h ⊢
      generalize ρ f = vf at h ⊢
      unfold aCallee
      split at h
      · obtain ⟨pargs, r, h1, h2, h3⟩ := h
        exact ACall.pure h1 ((frzVs_empty h2).2 H) ⟨rfl, h3⟩
      · exact h.elim
    | invoke recv name =>
      simp only at h ⊢
      generalize ρ recv = vf at h ⊢
      unfold aInvoke
      split at h
      · obtain ⟨g, q, pargs, r, h0, h1, h2, h3⟩ := h
        exact ⟨g, q, h0, ACall.pure h1 ((frzVs_empty h2).2 H) ⟨rfl, h3⟩⟩
      · exact h.elim
    | builtin b =>
      simp only at h ⊢
      unfold aBuiltin
      generalize args.toList.map ρ = vs at h ⊢
      generalize ats.toList = ats at h ⊢
      split at h
      · unfold aLenD at h
        show aLen _ _ _ _ _
        unfold aLen
        rename_i t x
        generalize P.underlying t = vu at h ⊢
        split at h
        · exact ⟨rfl, h⟩
        · obtain ⟨⟨T, size, frz, es, a, b⟩, h⟩ := h
          exact ⟨⟨T, size, frz, es, hlook _ _ a, b⟩, rfl, h⟩
        · exact ⟨rfl, h⟩
        · exact h.elim
      · exact absurd rfl (hpure _ rfl)
      · exact h.elim
theorem aPartD_lin {t : TypeId} {cs : List Cell} {off : Nat} {K : AV → Prop} (h : aPartD P t cs off K) : ∃ x, K x ∧ ∀ K', K' x → aPartD P t cs off K' := by
  unfold aPartD at h ⊢
  cases ha : aggT P t with
  | none => simp [ha] at h
  | some b =>
    simp only [ha] at h ⊢
    cases b with
    | true => exact ⟨_, h.2.2, fun K' k => ⟨h.1, h.2.1, k⟩⟩
    | false =>
      simp only at h ⊢
      cases hc : cs[off]? with
      | none => simp [hc] at h
      | some c => simp only [hc] at h ⊢; exact ⟨_, h, fun K' k => k⟩
/-- What is read is one value. -/
theorem aopD_lin {ρ : Operand → AV} {o : Op} {K : AV → Prop} {look : Look} (h : aopD P ρ look o K) : ∃ x, K x ∧ ∀ K', K' x → aopD P ρ look o K' := by
  cases o <;> simp only [aopD] at h ⊢ <;> try exact h.elim
  case move x => exact ⟨_, h, fun K' k => k⟩
  case assign x => exact ⟨_, h, fun K' k => k⟩
  case pick c a b =>
    generalize ρ c = vc at h ⊢
    split at h
    · rename_i t
      cases t with
      | true => exact ⟨_, h.1 rfl, fun K' k => ⟨fun _ => k, fun h => (by cases h)⟩⟩
      | false => exact ⟨_, h.2 rfl, fun K' k => ⟨fun h => (by cases h), fun _ => k⟩⟩
    · exact h.elim
  case build t ps =>
    generalize ps.toList.map (fun q => (q.1, ρ q.2)) = vps at h ⊢
    unfold aBuild at h ⊢
    generalize zeroA P t = v1 at h ⊢
    generalize placesOf P t = v2 at h ⊢
    split at h
    · split at h
      · rename_i hc
        simp only [hc]
        split at h
        · rename_i hd
          try simp only [hd]
          exact ⟨_, h, fun K' k => k⟩
        · exact h.elim
      · exact h.elim
    · exact h.elim
  case buildSlice t len ps =>
    generalize ps.toList.map (fun q => (q.1, ρ q.2)) = vps at h ⊢
    unfold aBuildSlice at h ⊢
    generalize P.underlying t = v1 at h ⊢
    split at h
    · obtain ⟨h1, h2, h3, h4, h⟩ := h
      split at h
      · rename_i es H1 hes
        simp only [hes]
        exact ⟨_, h.2, fun K' k => ⟨h1, h2, h3, h4, h.1, k⟩⟩
      · exact h.elim
    · exact h.elim
  case load t x =>
    generalize ρ x = vx at h ⊢
    unfold aLoadD at h ⊢
    split at h
    · split at h
      · rename_i hl
        try simp only [hl]
        exact aPartD_lin h
      · exact h.elim
    · split at h
      · rename_i hl
        try simp only [hl]
        obtain ⟨h1, e, h2, h⟩ := h
        obtain ⟨x, k, g⟩ := aPartD_lin h
        exact ⟨x, k, fun K' k' => ⟨h1, e, h2, g K' k'⟩⟩
      · exact h.elim
    · exact aPartD_lin h
    · exact h.elim
  case nilCheck x =>
    generalize ρ x = vx at h ⊢
    split at h
    · exact ⟨_, h, fun K' k => k⟩
    · exact ⟨_, h, fun K' k => k⟩
    · exact h.elim
  case binOp op t x y yt =>
    generalize ρ x = vx at h ⊢
    generalize ρ y = vy at h ⊢
    split at h
    · exact h.elim
    · rename_i hn
      simp only [if_neg hn]
      unfold aBin at h ⊢
      split at h
      · have h1 := h.1
        have h2 := h.2
        unfold aInt at h2 ⊢
        cases op <;> simp only at h2 ⊢ <;> first | exact ⟨_, h2, fun K' k => ⟨h1, k⟩⟩ | exact ⟨_, h2.2, fun K' k => ⟨h1, h2.1, k⟩⟩ | exact h2.elim
      · have h1 := h.1
        have h2 := h.2
        cases op <;> simp only at h2 ⊢ <;> first | exact ⟨_, h2, fun K' k => ⟨h1, k⟩⟩ | exact h2.elim
      · unfold aStr at h ⊢
        cases op <;> simp only at h ⊢ <;> first | exact ⟨_, h, fun K' k => k⟩ | exact ⟨_, h.2, fun K' k => ⟨h.1, k⟩⟩ | exact h.elim
      · split at h
        · rename_i xs H1 ys H2 hc hd
          simp only [hc, hd]
          obtain ⟨h1, h2, h3, r, h4, h5⟩ := h
          cases op <;> simp only at h5 ⊢ <;> first | exact ⟨_, h5, fun K' k => ⟨h1, h2, h3, r, h4, k⟩⟩ | exact h5.elim
        · exact h.elim
      · exact h.elim
  case unOp op t x =>
    generalize ρ x = vx at h ⊢
    unfold aUn at h ⊢
    split at h
    · exact ⟨_, h, fun K' k => k⟩
    · exact ⟨_, h, fun K' k => k⟩
    · exact h.elim
  case convert s d x =>
    generalize ρ x = vx at h ⊢
    unfold aConv at h ⊢
    generalize P.underlying s = v1 at h ⊢
    generalize P.underlying d = v2 at h ⊢
    split at h
    · split at h
      · exact ⟨_, h, fun K' k => k⟩
      · exact h.elim
    · have h1 := h.1
      have h2 := h.2
      split at h2
      · rename_i hf
        try simp only [hf]
        obtain ⟨bs, h3, h4⟩ := h2
        exact ⟨_, h4, fun K' k => ⟨h1, bs, h3, k⟩⟩
      · exact h2.elim
    · have h1 := h.1
      have h2 := h.2.2
      have h3 := h.2.1
      split at h2
      · exact ⟨_, h2.2, fun K' k => ⟨h1, h3, h2.1, k⟩⟩
      · exact h2.elim
    · split at h
      · exact ⟨_, h, fun K' k => k⟩
      · exact h.elim
    · exact h.elim
  case slice t x lo hi mx =>
    generalize ρ x = vx at h ⊢
    generalize lo.map ρ = vlo at h ⊢
    generalize hi.map ρ = vhi at h ⊢
    generalize mx.map ρ = vmx at h ⊢
    unfold aSlice at h ⊢
    generalize P.underlying t = v1 at h ⊢
    generalize optI vlo = v2 at h ⊢
    generalize optI vhi = v3 at h ⊢
    generalize optI vmx = v4 at h ⊢
    split at h
    · split at h
      · rename_i hf
        try simp only [hf]
        obtain ⟨a, b, c, d, e, f, h⟩ := h
        exact ⟨_, h, fun K' k => ⟨a, b, c, d, e, f, k⟩⟩
      · split at h
        · obtain ⟨⟨_, _, _, h⟩, _⟩ := h
          simp at h
        · exact h.elim
      · exact h.elim
    · split at h
      · obtain ⟨a, b, c, h⟩ := h
        exact ⟨_, h, fun K' k => ⟨a, b, c, k⟩⟩
      · exact h.elim
    · exact h.elim
  case fieldAddr s x f =>
    generalize ρ x = vx at h ⊢
    unfold aFieldAddrD at h ⊢
    generalize fieldOf P s f = vf at h ⊢
    split at h
    · exact h.elim
    · have h1 := h.1
      have h2 := h.2
      split at h2
      · exact ⟨_, h2, fun K' k => ⟨h1, k⟩⟩
      · exact ⟨_, h2.2, fun K' k => ⟨h1, h2.1, k⟩⟩
      · exact ⟨_, h2, fun K' k => ⟨h1, k⟩⟩
      · exact h2.elim
  case indexAddr t x ix =>
    generalize ρ x = vx at h ⊢
    generalize ρ ix = vi at h ⊢
    unfold aIndexAddrD at h ⊢
    generalize P.underlying t = vu at h ⊢
    generalize intA vi = vj at h ⊢
    split at h
    · have h1 := h.1
      have h3 := h.2.1
      have h2 := h.2.2
      split at h2
      · split at h2
        · rename_i hl
          try simp only [hl]
          exact ⟨_, h2.2.2.2, fun K' k => ⟨h1, h3, h2.1, h2.2.1, h2.2.2.1, k⟩⟩
        · exact h2.elim
      · obtain ⟨el, a, b, h2⟩ := h2
        exact ⟨_, h2, fun K' k => ⟨h1, h3, el, a, b, k⟩⟩
      · exact h2.elim
    · exact h.elim
  case index t x ix =>
    generalize ρ x = vx at h ⊢
    generalize ρ ix = vi at h ⊢
    unfold aIndex at h ⊢
    generalize P.underlying t = vu at h ⊢
    generalize intA vi = vj at h ⊢
    split at h
    · obtain ⟨a, b, h⟩ := h
      exact ⟨_, h, fun K' k => ⟨a, b, k⟩⟩
    · exact h.elim
  case extract x i =>
    generalize ρ x = vx at h ⊢
    unfold aExtract at h ⊢
    split at h
    · split at h
      · rename_i hb
        try simp only [hb]
        exact ⟨_, h, fun K' k => k⟩
      · rename_i hb
        try simp only [hb]
        exact ⟨_, h, fun K' k => k⟩
      · exact h.elim
    · exact h.elim
  case call c =>
    obtain ⟨callee, args, ats⟩ := c
    cases callee with
    | value f =>
      simp only at h ⊢
      generalize ρ f = vf at h ⊢
      split at h
      · obtain ⟨pargs, r, h1, h2, h3⟩ := h
        exact ⟨_, h3, fun K' k => ⟨pargs, r, h1, h2, k⟩⟩
      · exact h.elim
    | invoke recv name =>
      simp only at h ⊢
      generalize ρ recv = vf at h ⊢
      split at h
      · obtain ⟨g, q, pargs, r, h0, h1, h2, h3⟩ := h
        exact ⟨_, h3, fun K' k => ⟨g, q, pargs, r, h0, h1, h2, k⟩⟩
      · exact h.elim
    | builtin b =>
      simp only at h ⊢
      generalize args.toList.map ρ = vs at h ⊢
      generalize ats.toList = ats at h ⊢
      split at h
      · unfold aLenD at h ⊢
        rename_i t x
        generalize P.underlying t = vu at h ⊢
        split at h
        · exact ⟨_, h, fun K' k => k⟩
        · exact ⟨_, h.2, fun K' k => ⟨h.1, k⟩⟩
        · exact ⟨_, h, fun K' k => k⟩
        · exact h.elim
      · rename_i t u x y
        unfold aAppend at h ⊢
        generalize P.underlying t = vu at h ⊢
        split at h
        · rename_i hf
          try simp only [hf]
          obtain ⟨a, b, c, d, h⟩ := h
          split at h
          · exact absurd h.1 (by simp)
          · obtain ⟨e, f, g, h⟩ := h
            exact ⟨_, h, fun K' k => ⟨a, b, c, d, e, f, g, k⟩⟩
          · exact h.elim
        · exact h.elim
      · exact h.elim
end
end Go.Aw
