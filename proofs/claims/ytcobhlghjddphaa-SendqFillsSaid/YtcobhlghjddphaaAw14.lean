/-
  An abstract memory for walks, part 14: a region whose order is drawn comes to what the text's order comes to.
-/
import Derived.Test.YtcobhlghjddphaaAw13
import Derived.Still
set_option linter.unusedVariables false
set_option linter.unusedSimpArgs false
namespace Go.Aw
open Go.RowKit

inductive Ef where
  | none
  | set (id : Nat) (o : AObj)
  | push (o : AObj)
def Ef.on : Ef → List AObj → List AObj
  | .none, H => H
  | .set id o, H => H.set id o
  | .push o, H => H ++ [o]
/-- What an operation writes, and which objects are not shown to it. -/
abbrev Row := Option Nat × List Nat
def lookF (hid : List Nat) (H : List AObj) : Look := fun id => if hid.contains id = true then none else H[id]?
def isPush : Op → Bool
  | .alloc _ | .box _ _ => true
  | _ => false
def aopE (P : Program) (ρ : Operand → AV) (look : Look) (w : Option Nat) (len : Nat) (o : Op) (K : AV → Ef → Prop) : Prop :=
  match o with
  | .store t x v => match cellsA (ρ v) with
    | none => False
    | some vs => vs.length = P.cellsOf t ∧ 0 < P.cellsOf t ∧ match ρ x with
      | .c (.ptr id off) => w = some id ∧ match look id with
        | some (.var cs) => off + vs.length ≤ cs.length ∧ K .any (.set id (.var (splice cs off vs)))
        | _ => False
      | .c (.ep id n i off) => match frzs [] vs with
        | some (ps, _) => w = some id ∧ match look id with
          | some (.arr T size frz es) => es.length = n ∧ frz ≤ i ∧ ∃ e, es[i]? = some e ∧ off + ps.length ≤ e.length ∧ K .any (.set id (.arr T size frz (es.set i (splice e off (ps.map lo)))))
          | _ => False
        | none => False
      | _ => False
  | .alloc t => match zeroA P t with
    | some z => match cellsA z with
      | some cs => w = some len ∧ K (.c (.ptr len 0)) (.push (.var cs))
      | none => False
    | none => False
  | .box _ x => match cellsA (ρ x) with
    | some cs => w = some len ∧ K (.c (.ptr len 0)) (.push (.var cs))
    | none => False
  | .makeFunc fn first caps => match fn, pureL (first.toList.map ρ), capsL (caps.toList.map ρ) with
    | .func g, some fs, some cs => K (.c (.clo g fs cs)) .none
    | _, _, _ => False
  | o => aopD P ρ look o fun x => K x .none
def EfOk (o : Op) (w : Option Nat) (H : List AObj) : Ef → Prop
  | .none => True
  | .set id _ => w = some id ∧ id < H.length
  | .push _ => w = some H.length ∧ isPush o = true
section
variable {P : Program} {n : Nat} {S : Mem} {m : List Loc} {H : List AObj} {B : Nat} {w : World}
theorem lookF_some {hid : List Nat} {id : Nat} {x : AObj} (h : lookF hid H id = some x) : H[id]? = some x := by
  unfold lookF at h
  split at h
  · cases h
  · exact h
theorem aopE_lin {ρ : Operand → AV} {o : Op} {K : AV → Ef → Prop} {hid : List Nat} {wr : Option Nat} (h : aopE P ρ (lookF hid H) wr H.length o K) :
    ∃ x e, K x e ∧ EfOk o wr H e ∧ ∀ K', K' x e → aopE P ρ (lookF hid H) wr H.length o K' := by
  cases o
  case store t x v =>
    simp only [aopE] at h ⊢
    generalize ρ x = vx at h ⊢
    generalize cellsA (ρ v) = vv at h ⊢
    split at h
    · exact h.elim
    · rename_i vs
      obtain ⟨h1, h2, h⟩ := h
      split at h
      · rename_i id off
        obtain ⟨h3, h⟩ := h
        split at h
        · rename_i cs hl
          try simp only [hl]
          exact ⟨_, _, h.2, ⟨h3, (List.getElem?_eq_some_iff.1 (lookF_some hl)).1⟩, fun K' k => ⟨h1, h2, h3, h.1, k⟩⟩
        · exact h.elim
      · rename_i id nn i off
        split at h
        · rename_i ps Hx hf
          try simp only [hf]
          obtain ⟨h3, h⟩ := h
          split at h
          · rename_i T size frz es hl
            try simp only [hl]
            obtain ⟨a, b, e, c, d, k⟩ := h
            exact ⟨_, _, k, ⟨h3, (List.getElem?_eq_some_iff.1 (lookF_some hl)).1⟩, fun K' k => ⟨h1, h2, h3, a, b, e, c, d, k⟩⟩
          · exact h.elim
        · exact h.elim
      · exact h.elim
  case alloc t =>
    simp only [aopE] at h ⊢
    cases hz : zeroA P t with
    | none => simp [hz] at h
    | some z =>
      simp only [hz] at h ⊢
      cases hc : cellsA z with
      | none => simp [hc] at h
      | some cs =>
        simp only [hc] at h ⊢
        exact ⟨_, _, h.2, ⟨h.1, rfl⟩, fun K' k => ⟨h.1, k⟩⟩
  case box t x =>
    simp only [aopE] at h ⊢
    cases hc : cellsA (ρ x) with
    | none => simp [hc] at h
    | some cs =>
      simp only [hc] at h ⊢
      exact ⟨_, _, h.2, ⟨h.1, rfl⟩, fun K' k => ⟨h.1, k⟩⟩
  case makeFunc fn first caps =>
    simp only [aopE] at h ⊢
    generalize pureL (first.toList.map ρ) = v1 at h ⊢
    generalize capsL (caps.toList.map ρ) = v2 at h ⊢
    split at h
    · exact ⟨_, _, h, trivial, fun K' k => k⟩
    · exact h.elim
  all_goals
    simp only [aopE] at h ⊢
    obtain ⟨x, k, g⟩ := aopD_lin h
    exact ⟨x, .none, k, trivial, fun K' k => g _ k⟩
theorem aopE_wp {ρ : Operand → AV} {a : Act} {o : Oper} {Q : Exit → Act → World → Prop} {K : AV → Ef → Prop} {hid : List Nat} {wr : Option Nat} (s : Sim S m H B w) (r : ∀ y, VA S m H (ρ y) (a.eval y))
    (h : aopE P ρ (lookF hid H) wr H.length o.op K) : o.wp P a w (Behind B n S m H w a o.dst fun x H' => ∃ e : Ef, H' = e.on H ∧ K x e) Q := by
  have viaD : aopD P ρ (lookF hid H) o.op (fun x => K x .none) → o.wp P a w (Behind B n S m H w a o.dst fun x H' => ∃ e : Ef, H' = e.on H ∧ K x e) Q := fun h => by
    by_cases hq : ∃ c, o.op = .call c ∧ c.callee = .builtin .append
    rotate_left
    · have hp : ∀ c, o.op = .call c → c.callee ≠ .builtin .append := fun c h1 h2 => hq ⟨c, h1, h2⟩
      refine Oper.wp_mono ?_ (aop_ok (n := n) s r (aopD_aop (fun id x => lookF_some) h hp))
      rintro a' w' ⟨v, S', m', H', x, e1, e2, e3, e4, e5, rfl, e6⟩
      exact ⟨v, S', m', H', x, e1, e2, e3, e4, e5, .none, rfl, e6⟩
    · obtain ⟨c, hc, hb⟩ := hq
      obtain ⟨dst, op, ty, pos, aft, gd⟩ := o
      obtain ⟨callee, args, ats⟩ := c
      simp only at hc hb
      subst hc; subst hb
      simp only [aopD] at h
      split at h
      · rename_i hx _ _; exact absurd hx (by simp)
      · rename_i t u x y hb hts hxs
        obtain ⟨x0, y0, rfl⟩ : ∃ x0 y0, args = #[x0, y0] := by
          have := congrArg List.length hxs
          simp at this
          exact size_two this
        obtain rfl : ats = #[t, u] := by apply Array.ext'; simpa using hts
        simp at hxs
        obtain ⟨rfl, rfl⟩ := hxs
        obtain ⟨vv, k, g⟩ : ∃ vv, K vv .none ∧ aAppend P true t u (ρ x0) (ρ y0) H (KH H (· = vv)) := by
          unfold aAppend at h ⊢
          generalize P.underlying t = vu at h ⊢
          split at h
          · rename_i hf
            obtain ⟨rfl, kf⟩ := frzA_empty hf
            simp only [kf H]
            obtain ⟨a, b, c, d, h⟩ := h
            generalize ρ x0 = vx at h ⊢
            split at h
            · exact absurd h.1 (by simp)
            · obtain ⟨e, f, g, h⟩ := h
              exact ⟨_, h, a, b, c, d, e, f, g, rfl, rfl⟩
            · exact h.elim
          · exact h.elim
        refine Oper.wp_mono ?_ (op_good (n := n) (c := Builtin.append_ #[t, u] ty #[a.eval x0, a.eval y0]) (o := ⟨dst, .call ⟨.builtin .append, #[x0, y0], #[t, u]⟩, ty, pos, aft, gd⟩) (by simp [execOp, resolve, invoke, builtin]) (good_append s (r x0) (r y0) g))
        rintro a' w' ⟨v, S', m', H', x, e1, e2, e3, e4, e5, rfl, rfl⟩
        exact ⟨v, S', m', _, _, e1, e2, e3, e4, e5, .none, rfl, k⟩
      · exact h.elim
  obtain ⟨dst, op, ty, pos, aft, gd⟩ := o
  have viaA : ∀ {K' : AV → List AObj → Prop}, aop P false ρ H op K' → (∀ x H', K' x H' → ∃ e : Ef, H' = e.on H ∧ K x e) →
      Oper.wp P ⟨dst, op, ty, pos, aft, gd⟩ a w (Behind B n S m H w a dst fun x H' => ∃ e : Ef, H' = e.on H ∧ K x e) Q := fun h hk => by
    refine Oper.wp_mono ?_ (aop_ok (n := n) (o := ⟨dst, op, ty, pos, aft, gd⟩) s r h)
    rintro a' w' ⟨v, S', m', H', x, e1, e2, e3, e4, e5, e6⟩
    exact ⟨v, S', m', H', x, e1, e2, e3, e4, e5, hk _ _ e6⟩
  cases op
  case store t x v =>
    refine viaA (K' := fun x H' => ∃ e : Ef, H' = e.on H ∧ K x e) ?_ fun x H' h => h
    simp only [aopE] at h
    simp only [aop]
    unfold aStore
    generalize ρ x = vx at h ⊢
    generalize cellsA (ρ v) = vv at h ⊢
    split at h
    · exact h.elim
    · rename_i vs
      obtain ⟨h1, h2, h⟩ := h
      refine ⟨h1, h2, ?_⟩
      split at h
      · rename_i id off
        obtain ⟨h3, h⟩ := h
        split at h
        · rename_i cs hl
          simp only [lookF_some hl]
          exact ⟨h.1, .set id _, rfl, h.2⟩
        · exact h.elim
      · rename_i id nn i off
        split at h
        · rename_i ps Hx hf
          obtain ⟨rfl, kf⟩ := frzs_empty hf
          simp only [kf H]
          obtain ⟨h3, h⟩ := h
          split at h
          · rename_i T size frz es hl
            simp only [lookF_some hl]
            obtain ⟨a, b, e, c, d, k⟩ := h
            exact ⟨a, b, e, c, d, .set id _, rfl, k⟩
          · exact h.elim
        · exact h.elim
      · exact h.elim
  case alloc t =>
    refine viaA (K' := fun x H' => ∃ e : Ef, H' = e.on H ∧ K x e) ?_ fun x H' h => h
    simp only [aopE] at h
    simp only [aop, aAlloc, aBox]
    cases hz : zeroA P t with
    | none => simp [hz] at h
    | some z =>
      simp only [hz] at h ⊢
      cases hc : cellsA z with
      | none => simp [hc] at h
      | some cs =>
        simp only [hc] at h ⊢
        exact ⟨.push _, rfl, h.2⟩
  case box t x =>
    refine viaA (K' := fun x H' => ∃ e : Ef, H' = e.on H ∧ K x e) ?_ fun x H' h => h
    simp only [aopE] at h
    simp only [aop, aBox]
    cases hc : cellsA (ρ x) with
    | none => simp [hc] at h
    | some cs =>
      simp only [hc] at h ⊢
      exact ⟨.push _, rfl, h.2⟩
  case makeFunc fn first caps =>
    refine viaA (K' := fun x H' => ∃ e : Ef, H' = e.on H ∧ K x e) ?_ fun x H' h => h
    simp only [aopE] at h
    simp only [aop]
    unfold aMakeFunc
    generalize pureL (first.toList.map ρ) = v1 at h ⊢
    generalize capsL (caps.toList.map ρ) = v2 at h ⊢
    split at h
    · exact ⟨.none, rfl, h⟩
    · exact h.elim
  all_goals exact viaD (by simpa only [aopE] using h)
theorem aopE_congr {ρ ρ' : Operand → AV} {o : Op} {K : AV → Ef → Prop} {look : Look} {wr : Option Nat} {len : Nat} (h : ∀ x ∈ o.operands, ρ x = ρ' x) : aopE P ρ look wr len o K = aopE P ρ' look wr len o K := by
  have args : ∀ xs : Array Operand, (∀ x ∈ xs, ρ x = ρ' x) → xs.toList.map ρ = xs.toList.map ρ' := fun xs hx => List.map_congr_left fun x hm => hx x (by simpa using hm)
  have pairs : ∀ ps : Array (Nat × Operand), (∀ x ∈ ps.map (·.2), ρ x = ρ' x) → (ps.toList.map fun q => (q.1, ρ q.2)) = (ps.toList.map fun q => (q.1, ρ' q.2)) := fun ps hp =>
    List.map_congr_left fun p hm => by
      obtain ⟨i, x⟩ := p
      simp only [hp x (Array.mem_map.2 ⟨(i, x), by simpa using hm, rfl⟩)]
  cases o <;> simp only [Op.operands] at h <;> simp only [aopE, aopD]
  case build t ps => rw [pairs ps fun x hx => h x (by simpa using hx)]
  case buildSlice t n ps => rw [pairs ps fun x hx => h x (by simpa using hx)]
  case makeFunc fn first captured => rw [args first fun x hx => h x (by simp [hx]), args captured fun x hx => h x (by simp [hx])]
  case call c =>
    obtain ⟨callee, as, ats⟩ := c
    have ha : as.toList.map ρ = as.toList.map ρ' := args as fun x hx => h x (by simp [Call.operands, hx])
    cases callee with
    | value f => simp only [ha, h f (by simp [Call.operands])]
    | invoke r nm => simp only [ha, h r (by simp [Call.operands])]
    | builtin b => simp only [ha]
  case slice t x lo hi mx => cases lo <;> cases hi <;> cases mx <;> simp_all
  all_goals (first | rfl | (simp_all; done))
theorem aopE_len {ρ : Operand → AV} {o : Op} {K : AV → Ef → Prop} {look : Look} {wr : Option Nat} {len len' : Nat} (h : isPush o = false) : aopE P ρ look wr len o K = aopE P ρ look wr len' o K := by
  cases o <;> first | rfl | (cases h; done)
end
end Go.Aw
