import Derived.Test.YtnibihjlclelgaaAw8
import Derived.TacticsIn
import Derived.OrdersIn
import Derived.RangeFuncIn
import Derived.RangeFuncRecord
/-
  An abstract memory for walks, part 9: one operation, a region's operations in the text's order, and code.
-/
set_option linter.unusedVariables false
set_option linter.unusedSimpArgs false
namespace Go.Aw
open Go.RowKit
section
variable {P : Program} {B : Nat} {S : Mem} {m : List Loc} {H : List AObj} {w : World} {K : AV → List AObj → Prop}

def VAs (S : Mem) (m : List Loc) (H : List AObj) (xs : List AV) (vs : List Value) : Prop := xs.length = vs.length ∧ ∀ (i : Nat) x v, xs[i]? = some x → vs[i]? = some v → VA S m H x v
theorem VAs.ext {S' : Mem} {m' : List Loc} {H' : List AObj} (e : Ext B S m H S' m' H') {xs : List AV} {vs : List Value} (h : VAs S m H xs vs) : VAs S' m' H' xs vs := ⟨h.1, fun i x v a b => (h.2 i x v a b).ext e⟩
theorem VAs.append {xs ys : List AV} {us vs : List Value} (h : VAs S m H xs us) (k : VAs S m H ys vs) : VAs S m H (xs ++ ys) (us ++ vs) := by
  refine ⟨by simp [h.1, k.1], fun i x v hx hv => ?_⟩
  by_cases hi : i < xs.length
  · rw [List.getElem?_append_left hi] at hx
    rw [List.getElem?_append_left (by rw [← h.1]; exact hi)] at hv
    exact h.2 i x v hx hv
  · rw [List.getElem?_append_right (by omega)] at hx
    rw [List.getElem?_append_right (by rw [← h.1]; omega), ← h.1] at hv
    exact k.2 _ x v hx hv

/-! ### Calls -/
/-- The call of a function with a body enters it. -/
def Enters (P : Program) (f : FuncId) : Prop := ∀ args w, (callFunc f args).run P w = .ok (.enter f args) w
/-- A call, with the call's whole view of memory. -/
def ACall (P : Program) (f : FuncId) (args : List AV) (H : List AObj) (K : AV → List AObj → Prop) : Prop :=
  Enters P f ∧ ∀ (S : Mem) (m : List Loc) (B : Nat) (w : World) (vs : List Value), Sim S m H B w → VAs S m H args vs → Calls P f vs.toArray w fun e w' => ∃ v, e = .returned v ∧ Post B S m H w K v w'
theorem ACall.mono {f : FuncId} {args : List AV} {K' : AV → List AObj → Prop} (h : ACall P f args H K) (hk : ∀ x H', K x H' → K' x H') : ACall P f args H K' :=
  ⟨h.1, fun S m B w vs s hv => (h.2 S m B w vs s hv).mono fun e w' ⟨v, he, S', m', H', x, a, b, c, d, k⟩ => ⟨v, he, S', m', H', x, a, b, c, d, hk x H' k⟩⟩
def capAV (q : Nat × Nat) : AV := .c (.ptr q.1 q.2)
def aCallee (P : Program) (f : AV) (args : List AV) (H : List AObj) (K : AV → List AObj → Prop) : Prop :=
  match f with
  | .c (.p (.fn g)) => ACall P g args H K
  | .c (.clo g first caps) => ACall P g (first.map (fun x => .c (.p x)) ++ args ++ caps.map capAV) H K
  | _ => False
/-- Which function a method's name means at an interface value, and on what. -/
def MethTo (P : Program) (x : PV) (name : String) (g : FuncId) (r : AV) : Prop :=
  ∀ (S : Mem) (m : List Loc) (H : List AObj) (v : Value) (w : World), VP S x v → ∃ t u q, v = .iface t u ∧ (method (P.types.size + Made.depth) t u name).run P w = .ok (g, q) w ∧ VA S m H r q
def aInvoke (P : Program) (recv : AV) (name : String) (args : List AV) (H : List AObj) (K : AV → List AObj → Prop) : Prop :=
  match recv with
  | .c (.p x) => ∃ g r, MethTo P x name g r ∧ ACall P g (r :: args) H K
  | _ => False
/-- What an operation on one value comes to, where it is closed. -/
def Sem1 (P : Program) (f : Value → Sem Value) (x r : AV) : Prop := ∀ (S : Mem) (m : List Loc) (H : List AObj) (v : Value) (w : World), VA S m H x v → ∃ u, (f v).run P w = .ok u w ∧ VA S m H r u

def aExtract (x : AV) (i : Nat) (H : List AObj) (K : AV → List AObj → Prop) : Prop :=
  match x with
  | .tup bs => match bs[i]? with
    | some (false, [c]) => K (.c c) H
    | some (true, cs) => K (.agg cs) H
    | _ => False
  | _ => False
theorem good_extract (s : Sim S m H B w) {x : AV} {i : Nat} {v : Value} (hx : VA S m H x v) (h : aExtract x i H K) : Good P B S m H w (Instr.extract v i) K := by
  unfold aExtract at h
  split at h
  · rename_i bs
    obtain ⟨vs, rfl, hl, hv⟩ := hx
    have get : ∀ b, bs[i]? = some b → ∃ u, vs[i]? = some u ∧ VB S m H b u ∧ (Instr.extract (.tuple vs.toArray) i).run P w = .ok u w := fun b hb => by
      have hlt : i < vs.length := by rw [← hl]; exact (List.getElem?_eq_some_iff.1 hb).1
      have hg := List.getElem?_eq_getElem hlt
      exact ⟨_, hg, hv i b _ hb hg, by simp [Instr.extract, hg]⟩
    split at h
    · rename_i c hb
      obtain ⟨u, h1, ⟨c', hc, h2⟩, h3⟩ := get _ hb
      cases hc
      exact Good.same s (x := .c c) h3 h2 h
    · rename_i cs hb
      obtain ⟨u, h1, h2, h3⟩ := get _ hb
      exact Good.same s (x := .agg cs) h3 h2 h
    · exact h.elim
  · exact h.elim

def aIndex (P : Program) (t : TypeId) (x ix : AV) (H : List AObj) (K : AV → List AObj → Prop) : Prop :=
  match P.underlying t, x, intA ix with
  | some .string, .c (.p (.str s)), some i => 0 ≤ i ∧ ∃ h : i.toNat < s.size, K (.c (.p (.int .u8 (s[i.toNat]'h).toNat))) H
  | _, _, _ => False
theorem good_index (s : Sim S m H B w) {t : TypeId} {x ix : AV} {v vi : Value} (hx : VA S m H x v) (hi : VA S m H ix vi) (h : aIndex P t x ix H K) : Good P B S m H w (Instr.index t v vi) K := by
  unfold aIndex at h
  split at h
  · rename_i st i hu hix
    obtain ⟨k, rfl⟩ := intA_ok hi hix
    obtain ⟨h0, hlt, hk⟩ := h
    cases hx
    refine Good.same s (x := .c (.p (.int .u8 (st[i.toNat]'hlt).toNat))) (v := .int .u8 (st[i.toNat]'hlt).toNat) ?_ (.int _ _) hk
    have : st[i.toNat]? = some (st[i.toNat]'hlt) := by simp [hlt]
    simp [Instr.index, asIntOf, run_underlying hu, h0, this]
  · exact h.elim

def aBuiltin (P : Program) (b : Builtin) (ts : List TypeId) (xs : List AV) (H : List AObj) (K : AV → List AObj → Prop) : Prop :=
  match b, ts, xs with
  | .len, [t], [x] => aLen P t x H K
  | .cap, [t], [x] => aCap P t x H K
  | .append, [t, u], [x, y] => match P.underlying u with
    | some (.int _) => aGrow P t x y H K
    | _ => aAppend P false t u x y H K
  | .min, _, [x, y] => match x, y with
    | .c (.p (.int k a)), .c (.p (.int k' b)) => k' = k ∧ K (.c (.p (.int k (if b < a then b else a)))) H
    | _, _ => False
  | .max, _, [x, y] => match x, y with
    | .c (.p (.int k a)), .c (.p (.int k' b)) => k' = k ∧ K (.c (.p (.int k (if a < b then b else a)))) H
    | _, _ => False
  | _, _, _ => False

def pureL : List AV → Option (List PV)
  | [] => some []
  | .c (.p x) :: r => (pureL r).map (x :: ·)
  | _ => none
def capsL : List AV → Option (List (Nat × Nat))
  | [] => some []
  | .c (.ptr id off) :: r => (capsL r).map ((id, off) :: ·)
  | _ => none
def aMakeFunc (fn : Fn) (first caps : List AV) (H : List AObj) (K : AV → List AObj → Prop) : Prop :=
  match fn, pureL first, capsL caps with
  | .func g, some fs, some cs => K (.c (.clo g fs cs)) H
  | _, _, _ => False
theorem pureL_ok : ∀ {xs : List AV} {vs : List Value} {ps : List PV}, VAs S m H xs vs → pureL xs = some ps → VPs S ps vs
  | [], vs, ps, h, hp => by
    simp [pureL] at hp; subst hp
    have : vs = [] := List.eq_nil_of_length_eq_zero h.1.symm
    subst this; exact VPs.nil S
  | x :: xs, [], ps, h, hp => by simp [VAs] at h
  | x :: xs, v :: vs, ps, h, hp => by
    have h0 := h.2 0 x v rfl rfl
    have ht : VAs S m H xs vs := ⟨by simpa using h.1, fun i x v a b => h.2 (i + 1) x v (by simpa using a) (by simpa using b)⟩
    unfold pureL at hp
    split at hp
    · simp at *
    · rename_i y r heq
      cases heq
      cases hr : pureL xs with
      | none => simp [hr] at hp
      | some qs =>
        simp [hr] at hp; subst hp
        exact VPs.cons h0 (pureL_ok ht hr)
    · cases hp
def CapsOk (m : List Loc) (H : List AObj) (caps : List (Nat × Nat)) (cs : List Value) : Prop :=
  cs.length = caps.length ∧ ∀ (i : Nat) (q : Nat × Nat) (u : Value), caps[i]? = some q → cs[i]? = some u → ∃ b cap ds, H[q.1]? = some (.var ds) ∧ m[q.1]? = some (.at_ b cap) ∧ u = .pointer (some ⟨b, q.2, none⟩)
theorem capsL_ok : ∀ {xs : List AV} {vs : List Value} {cs : List (Nat × Nat)}, VAs S m H xs vs → capsL xs = some cs → CapsOk m H cs vs
  | [], vs, ps, h, hp => by
    simp [capsL] at hp; subst hp
    exact ⟨h.1.symm, fun i q u hq => by simp at hq⟩
  | x :: xs, [], ps, h, hp => by simp [VAs] at h
  | x :: xs, v :: vs, ps, h, hp => by
    have h0 := h.2 0 x v rfl rfl
    have ht : VAs S m H xs vs := ⟨by simpa using h.1, fun i x v a b => h.2 (i + 1) x v (by simpa using a) (by simpa using b)⟩
    unfold capsL at hp
    split at hp
    · simp at *
    · rename_i id off r heq
      cases heq
      cases hr : capsL xs with
      | none => simp [hr] at hp
      | some qs =>
        simp [hr] at hp; subst hp
        obtain ⟨c1, c2⟩ := capsL_ok ht hr
        refine ⟨by simp [c1], fun i q u hq hu => ?_⟩
        cases i with
        | zero => simp at hq hu; subst hq; subst hu; exact h0
        | succ i => exact c2 i q u (by simpa using hq) (by simpa using hu)
    · cases hp
theorem caps_VAs {caps : List (Nat × Nat)} {cs : List Value} (h : CapsOk m H caps cs) : VAs S m H (caps.map capAV) cs := by
  refine ⟨by simp [h.1], fun i x v hx hv => ?_⟩
  rw [List.getElem?_map] at hx
  cases hq : caps[i]? with
  | none => simp [hq] at hx
  | some q => simp [hq] at hx; subst hx; exact h.2 i q v hq hv
theorem VPs.VAs {xs : List PV} {vs : List Value} (h : VPs S xs vs) : VAs S m H (xs.map fun x => .c (.p x)) vs := by
  refine ⟨by simp [h.1], fun i x v hx hv => ?_⟩
  rw [List.getElem?_map] at hx
  cases hq : xs[i]? with
  | none => simp [hq] at hx
  | some q => simp [hq] at hx; subst hx; exact h.2 i q v hq hv

theorem size_two {α : Type} {a : Array α} (h : a.size = 2) : ∃ x y, a = #[x, y] := by
  obtain ⟨l⟩ := a
  match l, h with
  | [x, y], _ => exact ⟨x, y, rfl⟩
/-- The literal nil of a slice's type. -/
def isNilC : Operand → Bool
  | .const (.slice none 0 0) => true
  | _ => false
theorem isNilC_eq {y : Operand} (h : isNilC y = true) : y = .const (.slice none 0 0) := by
  unfold isNilC at h
  split at h
  · rfl
  · cases h
/-- The one operation. 'ow': slice literals are ours to write on. -/
def aop (P : Program) (ow : Bool) (ρ : Operand → AV) (H : List AObj) (o : Op) (K : AV → List AObj → Prop) : Prop :=
  match o with
  | .move x | .assign x => K (ρ x) H
  | .pick c a b => match ρ c with
    | .c (.p (.bool t)) => (t = true → K (ρ a) H) ∧ (t = false → K (ρ b) H)
    | _ => False
  | .alloc e => aAlloc P e H K
  | .box e x => aBox (ρ x) H K
  | .build t ps => aBuild P t (ps.toList.map fun q => (q.1, ρ q.2)) H K
  | .buildSlice t len ps => aBuildSlice P ow t len (ps.toList.map fun q => (q.1, ρ q.2)) H K
  | .load t x => aLoad P t (ρ x) H K
  | .store t x y => aStore P t (ρ x) (ρ y) H (K .any)
  | .nilCheck x => match ρ x with
    | .c (.ptr id off) => K (.c (.ptr id off)) H
    | .c (.pp cs) => K (.c (.pp cs)) H
    | .c (.clo f first caps) => K (.c (.clo f first caps)) H
    | .c (.p (.fn f)) => K (.c (.p (.fn f))) H
    | .c (.yld id) => K (.c (.yld id)) H
    | _ => False
  | .makeMap t r => r = none ∧ K (.c (.mp H.length)) (H ++ [.map []])
  | .insert t x k v => aInsert P t (ρ x) (ρ k) (ρ v) H (K .any)
  | .lookup t x k ok => aLookup P t (ρ x) (ρ k) ok H K
  | .binOp op t x y _ => if isNilC y = true then aNil P op t (ρ x) H K else aBin P op t (ρ x) (ρ y) H K
  | .unOp op _ x => aUn op (ρ x) H K
  | .convert s d x => aConv P s d (ρ x) H K
  | .makeInterface t x => ∃ r, Sem1 P (Instr.makeInterface t) (ρ x) r ∧ K r H
  | .typeAssert x t a ok => ∃ r, Sem1 P (fun v => Instr.typeAssert v t a ok) (ρ x) r ∧ K r H
  | .makeFunc fn first caps => aMakeFunc fn (first.toList.map ρ) (caps.toList.map ρ) H K
  | .makeSlice t l c => aMake P t (ρ l) (ρ c) H K
  | .slice t x lo hi mx => aSlice P t (ρ x) (lo.map ρ) (hi.map ρ) (mx.map ρ) H K
  | .fieldAddr s x f => aFieldAddr P s (ρ x) f H K
  | .field t x f => aField P t (ρ x) f H K
  | .indexAddr t x ix => aIndexAddr P t (ρ x) (ρ ix) H K
  | .index t x ix => aIndex P t (ρ x) (ρ ix) H K
  | .extract x i => aExtract (ρ x) i H K
  | .call c => match c.callee with
    | .value f => aCallee P (ρ f) (c.args.toList.map ρ) H K
    | .invoke r name => aInvoke P (ρ r) name (c.args.toList.map ρ) H K
    | .builtin b => aBuiltin P b c.argTypes.toList (c.args.toList.map ρ) H K
  | _ => False

/-- What holds behind an operation. -/
def Behind (B n : Nat) (S : Mem) (m : List Loc) (H : List AObj) (w : World) (a : Act) (dst : Option Tmp) (K : AV → List AObj → Prop) (a' : Act) (w' : World) : Prop :=
  ∃ v S' m' H' x, a' = a.put dst v ∧ Sim S' m' H' B w' ∧ Ext B S m H S' m' H' ∧ Bel B w w' ∧ VA S' m' H' x v ∧ K x H'
theorem op_good {n : Nat} {a : Act} {o : Oper} {Q : Exit → Act → World → Prop} {c : Sem Value} (he : execOp a.eval o = (do pure (.value (← c)))) (h : Good P B S m H w c K) : o.wp P a w (Behind B n S m H w a o.dst K) Q := by
  obtain ⟨v, w', hr, S', m', H', x, h1, h2, h3, h4, h5⟩ := h
  unfold Oper.wp
  rw [he]
  simp only [Sem.run_bind, hr, Result.andThen_ok, Sem.run_pure, Oper.upon]
  exact ⟨v, S', m', H', x, rfl, h1, h2, h3, h4, h5⟩
theorem evs_VAs {ρ : Operand → AV} {a : Act} (r : ∀ y, VA S m H (ρ y) (a.eval y)) (xs : Array Operand) : VAs S m H (xs.toList.map ρ) (xs.map a.eval).toList := by
  refine ⟨by simp, fun i x v hx hv => ?_⟩
  rw [List.getElem?_map] at hx
  rw [Array.toList_map, List.getElem?_map] at hv
  cases hq : xs.toList[i]? with
  | none => rw [hq] at hx; simp at hx
  | some q => rw [hq] at hx hv; simp at hx hv; subst hx; subst hv; exact r q
theorem evs_Parts {ρ : Operand → AV} {a : Act} (r : ∀ y, VA S m H (ρ y) (a.eval y)) (ps : Array (Nat × Operand)) : PartsOk S m H (ps.toList.map fun q => (q.1, ρ q.2)) (ps.map fun (i, x) => (i, a.eval x)).toList := by
  refine ⟨by simp, fun i x v hx hv => ?_⟩
  rw [List.getElem?_map] at hx
  rw [Array.toList_map, List.getElem?_map] at hv
  cases hq : ps.toList[i]? with
  | none => rw [hq] at hx; simp at hx
  | some q => rw [hq] at hx hv; simp at hx hv; subst hx; subst hv; exact ⟨rfl, r q.2⟩
theorem ev_Opt {ρ : Operand → AV} {a : Act} (r : ∀ y, VA S m H (ρ y) (a.eval y)) (x : Option Operand) : OptV S m H (x.map ρ) (x.map a.eval) := by
  cases x with
  | none => trivial
  | some x => exact r x
theorem call_ok {n : Nat} {a : Act} {o : Oper} {Q : Exit → Act → World → Prop} (s : Sim S m H B w) {f : FuncId} {args : List AV} {vs : List Value} (hv : VAs S m H args vs) (h : ACall P f args H K)
    (hr : (execOp a.eval o).run P w = .ok (.enter f vs.toArray) w) : o.wp P a w (Behind B n S m H w a o.dst K) Q := by
  unfold Oper.wp
  rw [hr]
  refine (h.2 S m B w vs s hv).mono fun e w' ⟨v, he, S', m', H', x, h1, h2, h3, h4, h5⟩ => ?_
  subst he
  exact ⟨v, S', m', H', x, rfl, h1, h2, h3, h4, h5⟩
theorem aop_ok {n : Nat} {ow : Bool} {ρ : Operand → AV} {a : Act} {o : Oper} {Q : Exit → Act → World → Prop} (s : Sim S m H B w) (r : ∀ y, VA S m H (ρ y) (a.eval y)) (h : aop P ow ρ H o.op K) : o.wp P a w (Behind B n S m H w a o.dst K) Q := by
  obtain ⟨dst, op, ty, pos, aft, gd⟩ := o
  cases op <;> simp only [aop] at h <;> try exact h.elim
  case move x => exact op_good (c := pure (a.eval x)) rfl (Good.same s rfl (r x) h)
  case assign x => exact op_good (c := pure (a.eval x)) rfl (Good.same s rfl (r x) h)
  case pick c x y =>
    have hc := r c
    split at h
    · rename_i t heq
      rw [heq] at hc
      have hc' : a.eval c = .bool t := by
        generalize a.eval c = q at hc
        cases hc; rfl
      cases t with
      | true => exact op_good (c := (do pure (if ← asBool (a.eval c) then a.eval x else a.eval y))) (by simp [execOp]) (Good.same s (by simp [hc', asBool]) (r x) (h.1 rfl))
      | false => exact op_good (c := (do pure (if ← asBool (a.eval c) then a.eval x else a.eval y))) (by simp [execOp]) (Good.same s (by simp [hc', asBool]) (r y) (h.2 rfl))
    · exact h.elim
  case alloc e => exact op_good rfl (good_alloc s h)
  case box e x => exact op_good rfl (good_box s (r x) h)
  case build t ps => exact op_good rfl (good_build s (evs_Parts r ps) h)
  case buildSlice t len ps => exact op_good rfl (good_buildSlice s (evs_Parts r ps) h)
  case load t x => exact op_good rfl (good_load s (r x) h)
  case store t x y =>
    obtain ⟨w', hr, S', m', H', h1, h2, h3, h4⟩ := good_store (P := P) s (r x) (r y) h
    unfold Oper.wp
    simp only [execOp, Sem.run_bind, hr, Result.andThen_ok, Sem.run_pure, Oper.upon]
    exact ⟨undef, S', m', H', .any, rfl, h1, h2, h3, trivial, h4⟩
  case nilCheck x =>
    have hx := r x
    split at h
    · rename_i id off heq
      rw [heq] at hx
      obtain ⟨b, cap, cs, h1, h2, h3⟩ := hx
      refine op_good (c := pure (a.eval x)) ?_ (Good.same s (x := .c (.ptr id off)) rfl ⟨b, cap, cs, h1, h2, h3⟩ h)
      simp only [execOp, h3]; rfl
    · rename_i cs heq
      rw [heq] at hx
      obtain ⟨b, off, u, h1, h2⟩ := hx
      refine op_good (c := pure (a.eval x)) ?_ (Good.same s (x := .c (.pp cs)) rfl ⟨b, off, u, h1, h2⟩ h)
      simp only [execOp, h1]; rfl
    · rename_i f first caps heq
      rw [heq] at hx
      obtain ⟨fs, cs, h1, h2⟩ := hx
      refine op_good (c := pure (a.eval x)) ?_ (Good.same s (x := .c (.clo f first caps)) rfl ⟨fs, cs, h1, h2⟩ h)
      simp only [execOp, h1]; rfl
    · rename_i f heq
      rw [heq] at hx
      have h1 : a.eval x = .func (.func f) #[] #[] := by
        generalize a.eval x = q at hx
        cases hx; rfl
      refine op_good (c := pure (a.eval x)) ?_ (Good.same s (x := .c (.p (.fn f))) rfl (by rw [h1]; exact VP.fn f) h)
      simp only [execOp, h1]; rfl
    · rename_i id heq
      rw [heq] at hx
      obtain ⟨b, cap, L, h1, h2, h3⟩ := hx
      refine op_good (c := pure (a.eval x)) ?_ (Good.same s (x := .c (.yld id)) rfl ⟨b, cap, L, h1, h2, h3⟩ h)
      simp only [execOp, h3]; rfl
    · exact h.elim
  case makeMap t rr =>
    obtain ⟨rfl, h⟩ := h
    exact op_good (c := Instr.makeMap t none) rfl (good_makeMap s h)
  case insert t x k v =>
    obtain ⟨w', hr, S', m', H', h1, h2, h3, h4⟩ := good_insert (P := P) s (r x) (r k) (r v) h
    unfold Oper.wp
    simp only [execOp, Sem.run_bind, hr, Result.andThen_ok, Sem.run_pure, Oper.upon]
    exact ⟨undef, S', m', H', .any, rfl, h1, h2, h3, trivial, h4⟩
  case lookup t x k ok => exact op_good rfl (good_lookup s (r x) (r k) h)
  case binOp op t x y yt =>
    split at h
    · rename_i heq
      rw [isNilC_eq heq]
      exact op_good rfl (good_nil s (r x) h)
    · exact op_good rfl (good_bin s (r x) (r y) h)
  case unOp op t x => exact op_good rfl (good_un s (r x) h)
  case convert src d x => exact op_good rfl (good_conv s (r x) h)
  case makeInterface t x =>
    obtain ⟨q, hq, hk⟩ := h
    obtain ⟨u, h1, h2⟩ := hq S m H _ w (r x)
    exact op_good rfl (Good.same s h1 h2 hk)
  case typeAssert x t as ok =>
    obtain ⟨q, hq, hk⟩ := h
    obtain ⟨u, h1, h2⟩ := hq S m H _ w (r x)
    exact op_good rfl (Good.same s h1 h2 hk)
  case makeFunc fn first caps =>
    have h1 := evs_VAs r first
    have h2 := evs_VAs r caps
    unfold aMakeFunc at h
    split at h
    · rename_i g fs cs hf hc
      obtain ⟨c1, c2⟩ := capsL_ok h2 hc
      refine op_good (c := pure (.func (.func g) (first.map a.eval) (caps.map a.eval))) rfl (Good.same s (x := .c (.clo g fs cs)) rfl ⟨(first.map a.eval).toList, (caps.map a.eval).toList, by rw [Array.toArray_toList, Array.toArray_toList], pureL_ok h1 hf, c1, c2⟩ h)
    · exact h.elim
  case makeSlice t l c => exact op_good rfl (good_make s (r l) (r c) h)
  case slice t x lo hi mx => exact op_good rfl (good_slice s (r x) (ev_Opt r lo) (ev_Opt r hi) (ev_Opt r mx) h)
  case fieldAddr st x f => exact op_good rfl (good_fieldAddr s (r x) h)
  case field t x f => exact op_good rfl (good_field s (r x) h)
  case indexAddr t x ix => exact op_good rfl (good_indexAddr s (r x) (r ix) h)
  case index t x ix => exact op_good rfl (good_index s (r x) (r ix) h)
  case extract x i => exact op_good rfl (good_extract s (r x) h)
  case call c =>
    obtain ⟨callee, args, ats⟩ := c
    have ha := evs_VAs r args
    cases callee with
    | value f =>
      simp only at h
      have hf := r f
      unfold aCallee at h
      split at h
      · rename_i g heq
        rw [heq] at hf
        have hf' : a.eval f = .func (.func g) #[] #[] := by
          generalize a.eval f = q at hf
          cases hf; rfl
        refine call_ok s ha h ?_
        have := h.1 (args.map a.eval) w
        rw [Array.toArray_toList]
        simp [execOp, resolve, hf', Deferred.ofValue, invoke, this]
      · rename_i g first caps heq
        rw [heq] at hf
        obtain ⟨fs, cs, hf', hfs, hcl, hcs⟩ := hf
        refine call_ok s (VAs.append (VAs.append hfs.VAs ha) (caps_VAs ⟨hcl, hcs⟩)) h ?_
        have := h.1 (fs.toArray ++ args.map a.eval ++ cs.toArray) w
        have e1 : (fs ++ (args.map a.eval).toList ++ cs).toArray = fs.toArray ++ args.map a.eval ++ cs.toArray := by apply Array.ext'; simp
        rw [e1]
        simpa [execOp, resolve, hf', Deferred.ofValue, invoke] using this
      · exact h.elim
    | invoke recv name =>
      simp only at h
      have hx := r recv
      unfold aInvoke at h
      split at h
      · rename_i x heq
        rw [heq] at hx
        obtain ⟨g, q, hm, hc⟩ := h
        obtain ⟨t, u, rv, h1, h2, h3⟩ := hm S m H _ w hx
        refine call_ok s (args := q :: args.toList.map ρ) (vs := rv :: (args.map a.eval).toList) ⟨by simp, fun i x v hx hv => ?_⟩ hc ?_
        · cases i with
          | zero => simp at hx hv; subst hx; subst hv; exact h3
          | succ i => exact ha.2 i x v (by simpa using hx) (by simpa using hv)
        · have := hc.1 (#[rv] ++ args.map a.eval) w
          have e1 : (rv :: (args.map a.eval).toList).toArray = #[rv] ++ args.map a.eval := by apply Array.ext'; simp
          rw [e1]
          have e2 : (#[a.eval recv] ++ args.map a.eval).extract 1 (#[a.eval recv] ++ args.map a.eval).size = args.map a.eval := by apply Array.ext'; simp; exact List.take_of_length_le (by simp)
          have e3 : (#[a.eval recv] ++ args.map a.eval)[0]? = some (a.eval recv) := by rw [Array.getElem?_append_left (by simp)]; rfl
          have e4 : ∀ A : Array Value, A[0]? = some (.iface t u) → A.extract 1 A.size = args.map a.eval → (invoke (.fn (.method name) #[]) A).run P w = .ok (.enter g (#[rv] ++ args.map a.eval)) w := by
            intro A hA hE
            simp only [invoke, hA, hE, callMethod, Sem.run_bind, run_program, Result.andThen_ok, h2]
            exact this
          rw [h1] at e2 e3
          have := e4 _ e3 e2
          simp only [execOp, resolve, Sem.run_bind, Sem.run_pure, Result.andThen_ok, h1]
          exact this
      · exact h.elim
    | builtin b =>
      simp only at h
      unfold aBuiltin at h
      split at h
      · rename_i t x hts hxs
        obtain ⟨x0, rfl⟩ : ∃ x0, args = #[x0] := by
          have := congrArg List.length hxs
          simp at this
          exact Array.size_eq_one_iff.1 this
        obtain rfl : ats = #[t] := by apply Array.ext'; simpa using hts
        simp at hxs; subst hxs
        refine op_good (c := Builtin.len_ #[t] ty #[a.eval x0]) ?_ (good_len s (r x0) h)
        simp [execOp, resolve, invoke, builtin]
      · rename_i t x hts hxs
        obtain ⟨x0, rfl⟩ : ∃ x0, args = #[x0] := by
          have := congrArg List.length hxs
          simp at this
          exact Array.size_eq_one_iff.1 this
        obtain rfl : ats = #[t] := by apply Array.ext'; simpa using hts
        simp at hxs; subst hxs
        refine op_good (c := Builtin.cap_ #[t] ty #[a.eval x0]) ?_ (good_cap s (r x0) h)
        simp [execOp, resolve, invoke, builtin]
      · rename_i t u x y hts hxs
        obtain ⟨x0, y0, rfl⟩ : ∃ x0 y0, args = #[x0, y0] := by
          have := congrArg List.length hxs
          simp at this
          exact size_two this
        obtain rfl : ats = #[t, u] := by apply Array.ext'; simpa using hts
        simp at hxs
        obtain ⟨rfl, rfl⟩ := hxs
        split at h
        · rename_i kn hn
          refine op_good (c := Builtin.append_ #[t, u] ty #[a.eval x0, a.eval y0]) ?_ (good_grow s hn (r x0) (r y0) h)
          simp [execOp, resolve, invoke, builtin]
        · refine op_good (c := Builtin.append_ #[t, u] ty #[a.eval x0, a.eval y0]) ?_ (good_append s (r x0) (r y0) h)
          simp [execOp, resolve, invoke, builtin]
      · rename_i x y hxs
        obtain ⟨x0, y0, rfl⟩ : ∃ x0 y0, args = #[x0, y0] := by
          have := congrArg List.length hxs
          simp at this
          exact size_two this
        simp at hxs
        obtain ⟨rfl, rfl⟩ := hxs
        have h1 := r x0
        have h2 := r y0
        split at h
        · rename_i k p k' q hx hy
          obtain ⟨rfl, hk⟩ := h
          rw [hx] at h1; rw [hy] at h2
          have e1 : a.eval x0 = .int k' p := by
            generalize a.eval x0 = z at h1
            cases h1; rfl
          have e2 : a.eval y0 = .int k' q := by
            generalize a.eval y0 = z at h2
            cases h2; rfl
          refine op_good (c := pure (.int k' (if q < p then q else p))) ?_ (Good.same s (x := .c (.p (.int k' (if q < p then q else p)))) rfl (VP.int _ _) hk)
          simp [execOp, resolve, invoke, builtin, Builtin.min_, Builtin.min2, e1, e2]
        · exact h.elim
      · rename_i x y hxs
        obtain ⟨x0, y0, rfl⟩ : ∃ x0 y0, args = #[x0, y0] := by
          have := congrArg List.length hxs
          simp at this
          exact size_two this
        simp at hxs
        obtain ⟨rfl, rfl⟩ := hxs
        have h1 := r x0
        have h2 := r y0
        split at h
        · rename_i k p k' q hx hy
          obtain ⟨rfl, hk⟩ := h
          rw [hx] at h1; rw [hy] at h2
          have e1 : a.eval x0 = .int k' p := by
            generalize a.eval x0 = z at h1
            cases h1; rfl
          have e2 : a.eval y0 = .int k' q := by
            generalize a.eval y0 = z at h2
            cases h2; rfl
          refine op_good (c := pure (.int k' (if p < q then q else p))) ?_ (Good.same s (x := .c (.p (.int k' (if p < q then q else p)))) rfl (VP.int _ _) hk)
          simp [execOp, resolve, invoke, builtin, Builtin.max_, Builtin.max2, e1, e2]
        · exact h.elim
      · exact h.elim

/-! ### Within a fence that lets all in -/
abbrev FR (ro : Option Nat) : Fence := { fn := fun _ => True, depth := none, alive := false, round := ro }
theorem CallsIn.ofCalls {ro : Option Nat} {j : Nat} {f : FuncId} {args : Array Value} {R : Ending → World → Prop} (h : Calls P f args w R) : CallsIn (FR ro) j P f args w R := by
  have h1 : CallsIn Fence.wide j P f args w R := callsIn_wide.2 h
  exact h1
theorem RowsIn.ofRows {ro : Option Nat} {j : Nat} {row : String} {args : Array Value} {R : Value → World → Prop} (h : Rows P row args w R) : RowsIn (FR ro) j P row args w R := fun c cs _ => by
  obtain ⟨v, w', hr, hs⟩ := h c cs
  exact ⟨v, w', hr, stepsIn_wide.2 hs⟩
theorem Oper.wpIn_of_wp {ro : Option Nat} {o : Oper} {a : Act} {K : Act → World → Prop} {Q : Exit → Act → World → Prop} (hd : ∀ c, o.op ≠ .defer c) (h : o.wp P a w K Q) : o.wpIn (FR ro) 0 P a w K Q := by
  refine ⟨fun _ _ => trivial, ?_⟩
  rw [Oper.semAt_eq _ _ _ hd]
  unfold Oper.wp at h
  generalize (execOp a.eval o).run P w = q at h ⊢
  cases q with
  | halt x w' => cases x <;> first | exact h | exact h.elim
  | ok nx w' =>
    cases nx with
    | enter f args => exact ⟨fun h => (by cases h), CallsIn.mono (CallsIn.ofCalls h) fun e w'' hh => by cases e <;> exact hh⟩
    | row rw_ args => exact ⟨fun h => (by cases h), RowsIn.mono (RowsIn.ofRows h) fun v w'' hh => hh⟩
    | _ => first | exact h | exact h.elim
/-- What a call of 'yield' comes to, for the record that object id is. -/
def YCall (P : Program) (id : Nat) (args : List AV) (H : List AObj) (K : AV → List AObj → Prop) : Prop :=
  (∃ L, H[id]? = some (.loop L) ∧ L.ps.size = args.length) ∧
  ∀ (S : Mem) (m : List Loc) (B : Nat) (w : World) (vs : List Value) (ro : Option Nat) (b cap : Nat) (R : Loop), Sim S m H B w → VAs S m H args vs → m[id]? = some (.at_ b cap) → w.heap[b]? = some (.loop R) →
    RoundIn (FR ro) 0 P b R.fn ((R.params.zip vs.toArray).foldl (fun tmps (t, x) => tmps.setIfInBounds t x) R.tmps) R.assign R.body w fun e w' => ∃ v, e = .returned v ∧ Post B S m H w K v w'
def yldOf (ρ : Operand → AV) : Op → Option (Nat × List AV)
  | .call c => match c.callee with
    | .value f => match ρ f with
      | .c (.yld id) => some (id, c.args.toList.map ρ)
      | _ => none
    | _ => none
  | _ => none
def aopY (P : Program) (ow : Bool) (ρ : Operand → AV) (H : List AObj) (o : Op) (K : AV → List AObj → Prop) : Prop :=
  match yldOf ρ o with
  | some (id, xs) => YCall P id xs H K
  | none => aop P ow ρ H o K
theorem aop_nodefer {ow : Bool} {ρ : Operand → AV} {o : Op} (h : aop P ow ρ H o K) : ∀ c, o ≠ .defer c := fun c hc => by subst hc; exact h
theorem aopY_ok {n : Nat} {ow : Bool} {ro : Option Nat} {ρ : Operand → AV} {a : Act} {o : Oper} {Q : Exit → Act → World → Prop} (s : Sim S m H B w) (r : ∀ y, VA S m H (ρ y) (a.eval y)) (h : aopY P ow ρ H o.op K) :
    o.wpIn (FR ro) 0 P a w (Behind B n S m H w a o.dst K) Q := by
  unfold aopY at h
  cases hy : yldOf ρ o.op with
  | none =>
    simp only [hy] at h
    exact Oper.wpIn_of_wp (aop_nodefer h) (aop_ok s r h)
  | some q =>
    obtain ⟨id, xs⟩ := q
    simp only [hy] at h
    obtain ⟨dst, op, ty, pos, aft, gd⟩ := o
    simp only at h hy
    unfold yldOf at hy
    split at hy
    · rename_i c
      obtain ⟨callee, args, ats⟩ := c
      simp only at hy
      cases callee with
      | value f =>
        simp only at hy
        split at hy
        · rename_i id' hf
          cases hy
          have hv := r f
          rw [hf] at hv
          obtain ⟨b, cap, L, h1, h2, h3⟩ := hv
          obtain ⟨⟨L', k1, k2⟩, hall⟩ := h
          rw [h1] at k1; cases k1
          have hO := s.obj id _ _ h1 h2
          obtain ⟨g1, fnn, tmps, bd, g2, _⟩ := hO
          have ha := evs_VAs r args
          refine ⟨fun _ _ => trivial, ?_⟩
          rw [Oper.semAt_eq _ _ _ (by intro c hc; cases hc)]
          have hrun : (execOp a.eval ⟨dst, .call ⟨.value f, args, ats⟩, ty, pos, aft, gd⟩).run P w = .ok (.round b fnn ((L.ps.zip (args.map a.eval)).foldl (fun tmps (t, x) => tmps.setIfInBounds t x) tmps) L.assign L.body) w := by
            have hsz : (args.map a.eval).size = L.ps.size := by rw [k2]; simp
            have hy := run_yield (P := P) g2 hsz
            simp only [execOp, resolve, h3, Deferred.ofValue, Sem.run_bind, Sem.run_pure, Result.andThen_ok]
            have e1 : (#[] : Array Value) ++ args.map a.eval = args.map a.eval := by simp
            first | (simpa [invoke] using hy) | (simp [invoke]; exact hy)
          rw [hrun, Oper.uponIn_round]
          refine ⟨fun h => (by cases h), ?_⟩
          have := hall S m B w (args.map a.eval).toList ro b cap _ s ha h2 g2
          rw [Array.toArray_toList] at this
          refine RoundIn.mono this fun e w' ⟨v, he, S', m', H', x, p1, p2, p3, p4, p5⟩ => ?_
          subst he
          exact ⟨v, S', m', H', x, rfl, p1, p2, p3, p4, p5⟩
        · cases hy
      | _ => cases hy
    · cases hy
end
end Go.Aw

/-
  An abstract memory for walks, part 10: regions in the text's order; code; functions.
-/
set_option linter.unusedVariables false
set_option linter.unusedSimpArgs false
namespace Go.Aw
open Go.RowKit

abbrev Slots := List (Nat × AV)
def aput (n : Nat) (dst : Option Tmp) (x : AV) (sl : Slots) (K : Slots → Prop) : Prop :=
  match dst with
  | none => K sl
  | some d => d < n ∧ K ((d, x) :: sl)
/-- A slice literal of bytes, and its conversion to its own type. -/
def isLit (o o2 : Oper) : Bool :=
  match o.op, o2.op with
  | .buildSlice t _ _, .convert s d (.tmp x) => s == d && t == s && o.dst == some x && o.guard.isNone && o2.guard.isNone
  | _, _ => false
def aLit (P : Program) (n : Nat) (sl : Slots) (H : List AObj) (o o2 : Oper) (K : Slots → List AObj → Prop) : Prop :=
  match o.op with
  | .buildSlice t len ps => (∃ e, P.underlying t = some (.slice e) ∧ P.underlying e = some (.int .u8)) ∧ 0 < len ∧ aBuildSlice P false t len (ps.toList.map fun q => (q.1, ev sl q.2)) H fun x H' => H' = H ∧ aput n o.dst .any sl fun sl' => aput n o2.dst x sl' fun sl'' => K sl'' H
  | _ => False
def aStep (P : Program) (ow : Bool) (n : Nat) (ops : Array Oper) (o : Oper) (sl : Slots) (H : List AObj) (K : Slots → List AObj → Prop) : Prop :=
  match o.guard with
  | none => aopY P ow (ev sl) H o.op fun x H' => aput n o.dst x sl fun sl' => K sl' H'
  | some (j, want) => match (ops[j]?).bind (·.dst) with
    | some d => match getS sl d with
      | .c (.p (.bool b)) => (b = want → aopY P ow (ev sl) H o.op fun x H' => aput n o.dst x sl fun sl' => K sl' H') ∧ (b = (!want) → aput n o.dst (.tup []) sl fun sl' => K sl' H)
      | .tup [] => aput n o.dst (.tup []) sl fun sl' => K sl' H
      | _ => False
    | none => False
def aops (P : Program) (ow : Bool) (n : Nat) (ops : Array Oper) : List Oper → Slots → List AObj → (Slots → List AObj → Prop) → Prop
  | [], sl, H, K => K sl H
  | [o], sl, H, K => aStep P ow n ops o sl H K
  | o :: o2 :: rest, sl, H, K => if isLit o o2 = true then aLit P n sl H o o2 fun sl' H' => aops P ow n ops rest sl' H' K else aStep P ow n ops o sl H fun sl' H' => aops P ow n ops (o2 :: rest) sl' H' K

/-- The entry's view, and where the call's own blocks begin. -/
structure Cx where
  B : Nat
  S0 : Mem
  m0 : List Loc
  H0 : List AObj
  w0 : World
  ro : Option Nat
/-- A state of the walk. -/
def InSt (cx : Cx) (n : Nat) (sl : Slots) (H : List AObj) (a : Act) (w : World) : Prop :=
  ∃ S m, Sim S m H cx.B w ∧ Ext cx.B cx.S0 cx.m0 cx.H0 S m H ∧ Bel cx.B cx.w0 w ∧ ARel cx.ro S m H n sl a
section
variable {P : Program} {n k : Nat} {cx : Cx} {sl : Slots} {H : List AObj} {a : Act} {w : World}

theorem aput_ok {ro : Option Nat} {S : Mem} {m : List Loc} {K : Slots → Prop} {dst : Option Tmp} {x : AV} {v : Value} (r : ARel ro S m H n sl a) (hv : VA S m H x v) (h : aput n dst x sl K) : ∃ sl', ARel ro S m H n sl' (a.put dst v) ∧ K sl' := by
  cases dst with
  | none => exact ⟨sl, r, h⟩
  | some d => exact ⟨_, r.put h.1 hv, h.2⟩
theorem und_ok {S : Mem} {m : List Loc} {H : List AObj} : VA S m H (.tup []) undef := ⟨[], rfl, rfl, fun i b u h => by simp at h⟩
theorem aStep_ok {ow : Bool} {ops : Array Oper} {o : Oper} {rest : List Oper} {Q : Exit → Act → World → Prop} {K : Slots → List AObj → Prop} (hin : InSt cx n sl H a w) (h : aStep P ow n ops o sl H K)
    (hrest : ∀ sl' H' a' w', InSt cx n sl' H' a' w' → K sl' H' → wpListIn (FR cx.ro) 0 P ops Q rest a' w') : wpListIn (FR cx.ro) 0 P ops Q (o :: rest) a w := by
  obtain ⟨S, m, s, e, b, r⟩ := hin
  have run : (aopY P ow (ev sl) H o.op fun x H' => aput n o.dst x sl fun sl' => K sl' H') → o.wpIn (FR cx.ro) 0 P a w (wpListIn (FR cx.ro) 0 P ops Q rest) Q := fun h => by
    refine Oper.wpIn_mono ?_ (aopY_ok (ro := cx.ro) (Q := Q) (n := n) s r.eval h)
    rintro a' w' ⟨v, S', m', H', x, rfl, h1, h2, h3, h4, h5⟩
    obtain ⟨sl', r', hk⟩ := aput_ok (r.ext h2) h4 h5
    exact hrest sl' H' _ w' ⟨S', m', h1, e.trans h2, b.trans h3, r'⟩ hk
  unfold aStep at h
  unfold wpListIn
  cases hg : o.guard with
  | none =>
    simp only [hg] at h
    rw [if_pos (by simp [Region.wanted, hg])]
    exact run h
  | some q =>
    obtain ⟨j, want⟩ := q
    simp only [hg] at h
    cases hd : (ops[j]?).bind (·.dst) with
    | none => simp [hd] at h
    | some d =>
      simp only [hd] at h
      have hs := r.slot d
      split at h
      · rename_i bb heq
        rw [heq] at hs
        have hb : a.tmps.getD d undef = .bool bb := by
          generalize a.tmps.getD d undef = z at hs
          cases hs; rfl
        have hy : yielded ops a.tmps j = some bb := by
          unfold yielded
          rw [hd]
          have : a.tmps[d]? = some (.bool bb) := by
            rw [Array.getD_eq_getD_getElem?] at hb
            cases ht : a.tmps[d]? with
            | none => rw [ht] at hb; cases hb
            | some z => rw [ht] at hb; simp at hb; rw [hb]
          simp [this]
        by_cases hw : bb = want
        · rw [if_pos (by simp [Region.wanted, hg, hy, hw])]
          exact run (h.1 hw)
        · rw [if_neg (by simp [Region.wanted, hg, hy, hw])]
          have hw' : bb = !want := by cases bb <;> cases want <;> simp_all
          obtain ⟨sl', r', hk⟩ := aput_ok (x := .tup []) (v := undef) r und_ok (h.2 hw')
          exact ⟨fun _ _ => trivial, hrest sl' H _ w ⟨S, m, s, e, b, r'⟩ hk⟩
      · rename_i heq
        rw [heq] at hs
        obtain ⟨vs, hv, hl, _⟩ := hs
        have hvs : vs = [] := List.eq_nil_of_length_eq_zero (by simpa using hl.symm)
        subst hvs
        have hy : yielded ops a.tmps j = none := by
          unfold yielded
          rw [hd]
          rw [Array.getD_eq_getD_getElem?] at hv
          cases ht : a.tmps[d]? with
          | none => simp [ht]
          | some z => rw [ht] at hv; simp at hv; subst hv; simp [ht]
        rw [if_neg (by simp [Region.wanted, hg, hy])]
        obtain ⟨sl', r', hk⟩ := aput_ok (x := .tup []) (v := undef) r und_ok h
        exact ⟨fun _ _ => trivial, hrest sl' H _ w ⟨S, m, s, e, b, r'⟩ hk⟩
      · exact h.elim
theorem isLit_ok {o o2 : Oper} (h : isLit o o2 = true) : ∃ t len ps x, o.op = .buildSlice t len ps ∧ o2.op = .convert t t (.tmp x) ∧ o.dst = some x ∧ o.guard = none ∧ o2.guard = none := by
  unfold isLit at h
  split at h
  · rename_i t len ps s d x h1 h2
    simp only [Bool.and_eq_true, beq_iff_eq] at h
    obtain ⟨⟨⟨⟨rfl, rfl⟩, h3⟩, h4⟩, h5⟩ := h
    exact ⟨_, len, ps, x, h1, h2, h3, by simpa using h4, by simpa using h5⟩
  · cases h
theorem run_lit {t e : TypeId} (hu : P.underlying t = some (.slice e)) (he : P.underlying e = some (.int .u8)) (w : World) (cells : List Value) (len : Nat) :
    ∃ w', (convert t t (.slice (some ⟨w.heap.size, 0, none⟩) len len)).run P (w.alloc (.cells cells.toArray e)) = .ok (.slice (some ⟨w.heap.size, 0, none⟩) len len) w' ∧ (∃ fr, w'.heap[w.heap.size]? = some (.cells cells.toArray e fr)) ∧
      (∀ k, k < w.heap.size → w'.heap[k]? = w.heap[k]?) ∧ w'.heap.size = w.heap.size + 1 ∧ w'.os = w.os ∧ w'.tape = w.tape ∧ w'.output = w.output := by
  let w' : World := (w.alloc (.cells cells.toArray e)).freeze ⟨w.heap.size, cells.length, none⟩ 1
  have hh0 : w'.heap = (w.heap.push (.cells cells.toArray e)).modify w.heap.size (fun
      | .cells c elem (lo, hi) => .cells c elem (if lo == hi then (cells.length, cells.length + 1) else (min lo cells.length, max hi (cells.length + 1)))
      | o => o) := rfl
  refine ⟨w', ?_, ⟨(cells.length, cells.length + 1), ?_⟩, fun k hk => ?_, ?_, rfl, rfl, rfl⟩
  · have hshape : (w.alloc (.cells cells.toArray e)).shape? w.heap.size = some (e, cells.length) := by
      show (match (w.heap.push (.cells cells.toArray e))[w.heap.size]? with | some (.cells c elem _) => some (elem, c.size) | _ => none) = _
      rw [Array.getElem?_push_size]
      simp
    simp only [convert, Sem.run_bind, run_underlying hu, Result.andThen_ok, beq_self_eq_true, run_underlying he, markStringish, run_shape, hshape, run_freeze, Sem.run_pure]
    rfl
  · rw [hh0, Array.getElem?_modify, if_pos rfl, Array.getElem?_push_size]
    rfl
  · rw [hh0, Array.getElem?_modify, if_neg (by omega)]
    exact heap_alloc_old w _ hk
  · rw [hh0]; simp
theorem aLit_ok {ops : Array Oper} {o o2 : Oper} {rest : List Oper} {Q : Exit → Act → World → Prop} {K : Slots → List AObj → Prop} (hl : isLit o o2 = true) (hin : InSt cx n sl H a w) (h : aLit P n sl H o o2 K)
    (hrest : ∀ sl' H' a' w', InSt cx n sl' H' a' w' → K sl' H' → wpListIn (FR cx.ro) 0 P ops Q rest a' w') : wpListIn (FR cx.ro) 0 P ops Q (o :: o2 :: rest) a w := by
  obtain ⟨t, len, ps, x, h1, h2, h3, h4, h5⟩ := isLit_ok hl
  obtain ⟨S, m, s, e, b, r⟩ := hin
  unfold aLit at h
  rw [h1] at h
  simp only at h
  obtain ⟨⟨el, hu, he⟩, hlen, h⟩ := h
  obtain ⟨e', hu', es, H1, S1, cells, s1, e1, hrun, hp, hel, hul, hmax, rfl, hk⟩ := buildSlice_core s (evs_Parts r.eval ps) h
  rw [hu] at hu'; cases hu'
  obtain ⟨w', hc, ⟨fr, hh⟩, hold, hsz, ho1, ho2, ho3⟩ := run_lit (P := P) hu he w cells len
  let S2 : Mem := fun b o => if b = w.heap.size then cells[o]? else S1 b o
  have hi : ∀ o, S2 w.heap.size o = cells[o]? := fun o => if_pos rfl
  have hout : OldMem w.heap.size S1 S2 := fun b o hb => if_neg (by omega)
  obtain ⟨s2, e2⟩ := s1.grow (S' := S2) (w' := w') hold (by omega) hout (fun b o v hb hv => by
    by_cases hbb : b = w.heap.size
    · subst hbb
      rw [hi] at hv
      rw [cell_eq hh]; exact hv
    · have : S2 b o = S1 b o := if_neg hbb
      rw [this, s1.newmem hb o] at hv
      cases hv)
  have hbel : Bel cx.B w w' := Bel.of_old ⟨ho1, ho2, ho3, by omega, fun k hk => hold k (Nat.lt_of_lt_of_le hk s.base)⟩ hold
  have hval : VP S2 (.sl true es) (.slice (some ⟨w.heap.size, 0, none⟩) len len) := by
    refine .sl true es w.heap.size 0 len (P.cellsOf el) len (fun k => cells.getD k undef) hel (Nat.le_refl _) hmax (fun _ => rfl) hul.1 hul.2 (fun k x hk => ?_) (fun k x hk => ?_)
    all_goals
      have hkc : k < cells.length := by rw [← hp.1]; exact (List.getElem?_eq_some_iff.1 hk).1
      have hg : cells[k]? = some (cells.getD k undef) := by rw [List.getD_eq_getElem?_getD, List.getElem?_eq_getElem hkc]; rfl
    · rw [Nat.zero_add, hi, hg]
    · exact (hp.2 k x _ hk hg).mono e2.mem
  have ee := e1.trans e2
  obtain ⟨sl1, r1, hk1⟩ := aput_ok (x := .any) (v := .slice (some ⟨w.heap.size, 0, none⟩) len len) (r.ext ee) trivial hk
  obtain ⟨sl2, r2, hk2⟩ := aput_ok (x := .c (.p (.sl true es))) r1 hval hk1
  have hxs : x < n := by
    rw [h3] at hk
    exact hk.1
  have hev : (a.put o.dst (.slice (some ⟨w.heap.size, 0, none⟩) len len)).eval (.tmp x) = .slice (some ⟨w.heap.size, 0, none⟩) len len := by
    rw [h3]
    simp [Act.eval, Act.put, Array.getD_eq_getD_getElem?, r.size, hxs]
  unfold wpListIn
  rw [if_pos (by simp [Region.wanted, h4])]
  refine Oper.wpIn_of_wp (by rw [h1]; intro c hc; cases hc) ?_
  unfold Oper.wp execOp
  rw [h1]
  simp only [Sem.run_bind, hrun, Result.andThen_ok, Sem.run_pure, Oper.upon]
  unfold wpListIn
  rw [if_pos (by simp [Region.wanted, h5])]
  refine Oper.wpIn_of_wp (by rw [h2]; intro c hc; cases hc) ?_
  unfold Oper.wp execOp
  rw [h2]
  simp only [Sem.run_bind, hev, hc, Result.andThen_ok, Sem.run_pure, Oper.upon]
  exact hrest sl2 _ _ w' ⟨S2, m, s2, e.trans ee, b.trans hbel, r2⟩ hk2
theorem aops_ok {ow : Bool} {ops : Array Oper} {Q : Exit → Act → World → Prop} : ∀ {l : List Oper} {sl : Slots} {H : List AObj} {a : Act} {w : World} {K : Slots → List AObj → Prop}, InSt cx n sl H a w → aops P ow n ops l sl H K →
    (∀ sl' H' a' w', InSt cx n sl' H' a' w' → K sl' H' → Q .normal a' w') → wpListIn (FR cx.ro) 0 P ops Q l a w
  | [], sl, H, a, w, K, hin, h, hq => hq sl H a w hin h
  | [o], sl, H, a, w, K, hin, h, hq => aStep_ok hin h fun sl' H' a' w' hi hk => hq sl' H' a' w' hi hk
  | o :: o2 :: rest, sl, H, a, w, K, hin, h, hq => by
    simp only [aops] at h
    split at h
    · rename_i hl
      exact aLit_ok hl hin h fun sl' H' a' w' hi hk => aops_ok hi hk hq
    · exact aStep_ok hin h fun sl' H' a' w' hi hk => aops_ok hi hk hq

/-! ### Code -/
def AW (P : Program) (n k : Nat) (c : Code) (Q : Exit → Slots → List AObj → Prop) (sl : Slots) (H : List AObj) : Prop :=
  ∀ cx : Cx, cx.H0.length = k → ∀ a w, InSt cx n sl H a w → c.wpIn (FR cx.ro) 0 P (fun e a' w' => ∃ sl' H', InSt cx n sl' H' a' w' ∧ Q e sl' H') a w
def AThen (next : Slots → List AObj → Prop) (Q : Exit → Slots → List AObj → Prop) : Exit → Slots → List AObj → Prop
  | .normal, sl, H => next sl H
  | e, sl, H => Q e sl H
def ABlock (id : Nat) (Q : Exit → Slots → List AObj → Prop) : Exit → Slots → List AObj → Prop
  | .exit id', sl, H => if id' = id then Q .normal sl H else Q (.exit id') sl H
  | e, sl, H => Q e sl H
variable {Q : Exit → Slots → List AObj → Prop}
theorem AW.seq {x y : Code} (h : AW P n k x (AThen (AW P n k y Q) Q) sl H) : AW P n k (.seq x y) Q sl H := fun cx hk a w hin => by
  refine wpIn_seq (wpIn_mono (h cx hk a w hin) ?_)
  rintro e a' w' ⟨sl', H', hi, hq⟩
  cases e with
  | normal => exact hq cx hk a' w' hi
  | _ => exact ⟨sl', H', hi, hq⟩
theorem AW.region (ow : Bool) {id : Nat} {ops : Array Oper} (h : aops P ow n ops ops.toList sl H (Q .normal)) : AW P n k (.region id ops false) Q sl H := fun cx hk a w hin =>
  wpIn_region_list (aops_ok hin h fun sl' H' a' w' hi hq => ⟨sl', H', hi, hq⟩)
theorem AW.cond {c : Operand} {x y : Code} {b : Bool} (hc : ev sl c = .c (.p (.bool b))) (ht : b = true → AW P n k x Q sl H) (hf : b = false → AW P n k y Q sl H) : AW P n k (.cond c x y) Q sl H := fun cx hk a w hin => by
  obtain ⟨S, m, s, e, bl, r⟩ := hin
  have hv := r.eval c
  rw [hc] at hv
  have hb : a.eval c = .bool b := by
    generalize a.eval c = z at hv
    cases hv; rfl
  exact wpIn_cond_split hb (fun h => ht h cx hk a w ⟨S, m, s, e, bl, r⟩) (fun h => hf h cx hk a w ⟨S, m, s, e, bl, r⟩)
theorem AW.skip (h : Q .normal sl H) : AW P n k .skip Q sl H := fun cx hk a w hin => wpIn_skip ⟨sl, H, hin, h⟩
theorem AW.label {l : Nat} (h : Q .normal sl H) : AW P n k (.label l) Q sl H := fun cx hk a w hin => wpIn_label ⟨sl, H, hin, h⟩
theorem AW.goto {l : Nat} (h : Q (.goto l) sl H) : AW P n k (.goto l) Q sl H := fun cx hk a w hin => wpIn_goto ⟨sl, H, hin, h⟩
theorem AW.exit {id : Nat} (h : Q (.exit id) sl H) : AW P n k (.exit id) Q sl H := fun cx hk a w hin => wpIn_exit ⟨sl, H, hin, h⟩
theorem AW.ret (h : Q .ret sl H) : AW P n k .ret Q sl H := fun cx hk a w hin => wpIn_ret ⟨sl, H, hin, h⟩
theorem AW.block {id : Nat} {c : Code} (h : AW P n k c (ABlock id Q) sl H) : AW P n k (.block id c) Q sl H := fun cx hk a w hin => by
  refine wpIn_block (wpIn_mono (h cx hk a w hin) ?_)
  rintro e a' w' ⟨sl', H', hi, hq⟩
  cases e with
  | exit id' =>
    simp only [ABlock] at hq
    simp only [Exit.inBlock]
    split
    · rename_i h; rw [if_pos h] at hq; exact ⟨sl', H', hi, hq⟩
    · rename_i h; rw [if_neg h] at hq; exact ⟨sl', H', hi, hq⟩
  | _ => exact ⟨sl', H', hi, hq⟩
theorem AW.mono {c : Code} {Q' : Exit → Slots → List AObj → Prop} (h : AW P n k c Q' sl H) (hq : ∀ e sl' H', Q' e sl' H' → Q e sl' H') : AW P n k c Q sl H := fun cx hk a w hin =>
  wpIn_mono (h cx hk a w hin) fun e a' w' ⟨sl', H', hi, q⟩ => ⟨sl', H', hi, hq _ _ _ q⟩

/-- The one state may be seen as the other. -/
def Sub (n k : Nat) (sl : Slots) (H : List AObj) (sl' : Slots) (H' : List AObj) : Prop := ∀ cx : Cx, cx.H0.length = k → ∀ a w, InSt cx n sl H a w → InSt cx n sl' H' a w
theorem AW.weak {c : Code} {sl' : Slots} {H' : List AObj} (hs : Sub n k sl H sl' H') (h : AW P n k c Q sl' H') : AW P n k c Q sl H := fun cx hk a w hin => h cx hk a w (hs cx hk a w hin)
theorem AW.loop {c : Code} {X : Type} (F : X → Slots) (G : X → List AObj) (μ : X → Nat) (x0 : X) (h0 : Sub n k sl H (F x0) (G x0))
    (round : ∀ x, AW P n k c (AThen (fun sl' H' => ∃ y, μ y < μ x ∧ Sub n k sl' H' (F y) (G y)) Q) (F x) (G x)) : AW P n k (.loop c) Q sl H := fun cx hk a w hin => by
  intro b kk cs hro hb hr
  have key : ∀ N x a w, μ x = N → InSt cx n (F x) (G x) a w →
      ∃ e a' w', (∃ sl' H', InSt cx n sl' H' a' w' ∧ Q e sl' H') ∧ ArrivesIn (Machine.fenced P (FR cx.ro)) P (lone (b.atR a (.code c :: .inLoop c :: kk)) cs w) b kk cs e a' w' := by
    intro N
    induction N using Nat.strongRecOn with
    | _ N ih =>
      intro x a w hN hI
      obtain ⟨e, a₁, w₁, ⟨sl1, H1, hi, hq⟩, harr⟩ := round x cx hk a w hI b (.inLoop c :: kk) cs hro hb hr
      cases e with
      | normal =>
        obtain ⟨y, hlt, hsub⟩ := hq
        obtain ⟨e₂, a₂, w₂, hq₂, harr₂⟩ := ih (μ y) (hN ▸ hlt) y a₁ w₁ rfl (hsub cx hk a₁ w₁ hi)
        exact ⟨e₂, a₂, w₂, hq₂, .of_steps (StepsIn.trans harr (.one (fenced_calm hb hr rfl) stepR_inLoop)) harr₂⟩
      | exit id => exact ⟨_, a₁, w₁, ⟨sl1, H1, hi, hq⟩, .pass (x := .inLoop c) rfl (fun _ _ => .inl (by simp)) harr⟩
      | goto l => exact ⟨_, a₁, w₁, ⟨sl1, H1, hi, hq⟩, .pass (x := .inLoop c) rfl (fun _ _ => .inl (by simp)) harr⟩
      | ret => exact ⟨_, a₁, w₁, ⟨sl1, H1, hi, hq⟩, .pass (x := .inLoop c) rfl (fun _ _ => .inl (by simp)) harr⟩
      | panic ch => exact ⟨_, a₁, w₁, ⟨sl1, H1, hi, hq⟩, .pass (x := .inLoop c) rfl (fun _ _ => .inl (by simp)) harr⟩
      | outgrown => exact ⟨_, a₁, w₁, ⟨sl1, H1, hi, hq⟩, .pass (x := .inLoop c) rfl (fun _ _ => .inl (by simp)) harr⟩
  obtain ⟨e, a', w', hq, harr⟩ := key _ x0 a w rfl (h0 cx hk a w hin)
  exact ⟨e, a', w', hq, .of_steps (.one (fenced_calm hb hr rfl) stepR_loop) harr⟩
end
end Go.Aw

/-
  An abstract memory for walks, part 11: one state seen as another; functions and their contracts.
-/
set_option linter.unusedVariables false
set_option linter.unusedSimpArgs false
namespace Go.Aw
open Go.RowKit

/-! ### States -/
def idsC (k : Nat) : Cell → Prop
  | .p _ => True
  | .own id _ => id < k
  | .ptr id _ => id < k
  | .ep id _ _ _ => id < k
  | .pp _ => True
  | .clo _ _ caps => ∀ q, q ∈ caps → q.1 < k
  | .yld id => id < k
  | .room id _ => id < k
  | .mp id => id < k
  | .vs id _ => id < k
  | .tl id _ _ _ => id < k
def idsL (k : Nat) : List Cell → Prop
  | [] => True
  | c :: cs => idsC k c ∧ idsL k cs
def idsB (k : Nat) : List (Bool × List Cell) → Prop
  | [] => True
  | (_, cs) :: r => idsL k cs ∧ idsB k r
def idsA (k : Nat) : AV → Prop
  | .any => True
  | .c x => idsC k x
  | .agg cs => idsL k cs
  | .tup bs => idsB k bs
  | .mark none => True
  | .mark (some ids) => ∀ id ∈ ids, id < k
def idsS (k : Nat) : Slots → Prop
  | [] => True
  | (_, x) :: r => idsA k x ∧ idsS k r
def idsO (k : Nat) : List AObj → Prop
  | [] => True
  | .var cs :: r => idsL k cs ∧ idsO k r
  | .arr _ _ _ _ :: r => idsO k r
  | .dfr :: r => idsO k r
  | .loop L :: r => idsS k L.sl ∧ idsO k r
  | .map es :: r => idsL k (es.map (·.2)) ∧ idsO k r
  | .hole :: r => idsO k r
def SubS (k : Nat) (sl : Slots) : Slots → Prop
  | [] => True
  | (d, x) :: r => getS sl d = x ∧ idsA k x ∧ SubS k sl r
section
variable {P : Program} {n k : Nat} {sl sl' : Slots} {H H' : List AObj} {S : Mem} {m : List Loc} {B : Nat} {w : World}
theorem idsL_mem {j : Nat} : ∀ {cs : List Cell}, idsL j cs → ∀ c, c ∈ cs → idsC j c
  | [], _, c, h => by simp at h
  | c' :: cs, hl, c, h => by
    rcases List.mem_cons.1 h with rfl | h
    · exact hl.1
    · exact idsL_mem hl.2 c h
theorem idsO_get {j : Nat} : ∀ {H : List AObj}, idsO j H → ∀ (i : Nat) cs, H[i]? = some (.var cs) → idsL j cs
  | [], _, i, cs, h => by simp at h
  | .var ds :: r, hl, i, cs, h => by
    cases i with
    | zero => simp at h; subst h; exact hl.1
    | succ i => exact idsO_get hl.2 i cs (by simpa using h)
  | .arr T size frz es :: r, hl, i, cs, h => by
    cases i with
    | zero => simp at h
    | succ i => exact idsO_get (H := r) hl i cs (by rwa [List.getElem?_cons_succ] at h)
  | .dfr :: r, hl, i, cs, h => by
    cases i with
    | zero => simp at h
    | succ i => exact idsO_get (H := r) hl i cs (by rwa [List.getElem?_cons_succ] at h)
  | .loop L :: r, hl, i, cs, h => by
    cases i with
    | zero => simp at h
    | succ i => exact idsO_get (H := r) hl.2 i cs (by rwa [List.getElem?_cons_succ] at h)
  | .map es :: r, hl, i, cs, h => by
    cases i with
    | zero => simp at h
    | succ i => exact idsO_get (H := r) hl.2 i cs (by rwa [List.getElem?_cons_succ] at h)
  | .hole :: r, hl, i, cs, h => by
    cases i with
    | zero => simp at h
    | succ i => exact idsO_get (H := r) hl i cs (by rwa [List.getElem?_cons_succ] at h)
theorem idsO_loop {j : Nat} : ∀ {H : List AObj}, idsO j H → ∀ (i : Nat) L, H[i]? = some (.loop L) → idsS j L.sl
  | [], _, i, cs, h => by simp at h
  | o :: r, hl, 0, L, h => by
    simp at h; subst h
    exact hl.1
  | .var _ :: r, hl, i + 1, L, h => idsO_loop (H := r) hl.2 i L (by rwa [List.getElem?_cons_succ] at h)
  | .arr _ _ _ _ :: r, hl, i + 1, L, h => idsO_loop (H := r) hl i L (by rwa [List.getElem?_cons_succ] at h)
  | .dfr :: r, hl, i + 1, L, h => idsO_loop (H := r) hl i L (by rwa [List.getElem?_cons_succ] at h)
  | .loop _ :: r, hl, i + 1, L, h => idsO_loop (H := r) hl.2 i L (by rwa [List.getElem?_cons_succ] at h)
  | .map _ :: r, hl, i + 1, L, h => idsO_loop (H := r) hl.2 i L (by rwa [List.getElem?_cons_succ] at h)
  | .hole :: r, hl, i + 1, L, h => idsO_loop (H := r) hl i L (by rwa [List.getElem?_cons_succ] at h)
theorem idsO_map {j : Nat} : ∀ {H : List AObj}, idsO j H → ∀ (i : Nat) es, H[i]? = some (.map es) → idsL j (es.map (·.2))
  | [], _, i, cs, h => by simp at h
  | o :: r, hl, 0, L, h => by
    simp at h; subst h
    exact hl.1
  | .var _ :: r, hl, i + 1, L, h => idsO_map (H := r) hl.2 i L (by rwa [List.getElem?_cons_succ] at h)
  | .arr _ _ _ _ :: r, hl, i + 1, L, h => idsO_map (H := r) hl i L (by rwa [List.getElem?_cons_succ] at h)
  | .dfr :: r, hl, i + 1, L, h => idsO_map (H := r) hl i L (by rwa [List.getElem?_cons_succ] at h)
  | .loop _ :: r, hl, i + 1, L, h => idsO_map (H := r) hl.2 i L (by rwa [List.getElem?_cons_succ] at h)
  | .map _ :: r, hl, i + 1, L, h => idsO_map (H := r) hl.2 i L (by rwa [List.getElem?_cons_succ] at h)
  | .hole :: r, hl, i + 1, L, h => idsO_map (H := r) hl i L (by rwa [List.getElem?_cons_succ] at h)
theorem idsS_get {j : Nat} : ∀ {sl : Slots}, idsS j sl → ∀ d, idsA j (getS sl d)
  | [], _, d => trivial
  | (d', x) :: r, h, d => by
    simp only [getS]
    split
    · exact h.1
    · exact idsS_get h.2 d
theorem take_get {α : Type} {l : List α} {j i : Nat} (h : i < j) : (l.take j)[i]? = l[i]? := by rw [List.getElem?_take, if_pos h]
theorem VC.cut {j : Nat} {c : Cell} {v : Value} (h : VC S m H c v) (hi : idsC j c) : VC S (m.take j) (H.take j) c v := by
  cases c with
  | p x => exact h
  | own id n =>
    obtain ⟨T, size, frz, es, l, h1, h2, h3⟩ := h
    exact ⟨T, size, frz, es, l, by rw [take_get hi]; exact h1, by rw [take_get hi]; exact h2, h3⟩
  | ptr id off =>
    obtain ⟨b, cap, cs, h1, h2, h3⟩ := h
    exact ⟨b, cap, cs, by rw [take_get hi]; exact h1, by rw [take_get hi]; exact h2, h3⟩
  | ep id n i off =>
    obtain ⟨T, size, frz, es, l, h1, h2, h3⟩ := h
    exact ⟨T, size, frz, es, l, by rw [take_get hi]; exact h1, by rw [take_get hi]; exact h2, h3⟩
  | pp cells => exact h
  | clo f first caps =>
    obtain ⟨fs, cs, h1, h2, h3, h4⟩ := h
    refine ⟨fs, cs, h1, h2, h3, fun i q u hq hu => ?_⟩
    obtain ⟨b, cap, ds, k1, k2, k3⟩ := h4 i q u hq hu
    have hlt := hi q (List.mem_of_getElem? hq)
    exact ⟨b, cap, ds, by rw [take_get hlt]; exact k1, by rw [take_get hlt]; exact k2, k3⟩
  | yld id =>
    obtain ⟨b, cap, L, h1, h2, h3⟩ := h
    exact ⟨b, cap, L, by rw [take_get hi]; exact h1, by rw [take_get hi]; exact h2, h3⟩
  | room id n =>
    obtain ⟨T, size, frz, es, l, h1, h2, h3⟩ := h
    exact ⟨T, size, frz, es, l, by rw [take_get hi]; exact h1, by rw [take_get hi]; exact h2, h3⟩
  | mp id =>
    obtain ⟨b, cap, L, h1, h2, h3⟩ := h
    exact ⟨b, cap, L, by rw [take_get hi]; exact h1, by rw [take_get hi]; exact h2, h3⟩
  | vs id n =>
    obtain ⟨b, cap, L, h1, h2, h3⟩ := h
    exact ⟨b, cap, L, by rw [take_get hi]; exact h1, by rw [take_get hi]; exact h2, h3⟩
  | tl id k n xs =>
    obtain ⟨T, size, frz, es, l, h1, h2, h3⟩ := h
    exact ⟨T, size, frz, es, l, by rw [take_get hi]; exact h1, by rw [take_get hi]; exact h2, h3⟩
theorem VCs.cut {j : Nat} {cs : List Cell} {vs : List Value} (h : VCs S m H cs vs) (hi : idsL j cs) : VCs S (m.take j) (H.take j) cs vs :=
  ⟨h.1, fun i c v a b => (h.2 i c v a b).cut (idsL_mem hi c (List.mem_of_getElem? a))⟩
theorem idsB_mem {j : Nat} : ∀ {bs : List (Bool × List Cell)}, idsB j bs → ∀ b, b ∈ bs → idsL j b.2
  | [], _, b, hb => by simp at hb
  | (f, cs) :: r, h, b, hb => by
    rcases List.mem_cons.1 hb with rfl | hb
    · exact h.1
    · exact idsB_mem h.2 b hb
theorem VB.cut {j : Nat} {b : Bool × List Cell} {v : Value} (h : VB S m H b v) (hi : idsL j b.2) : VB S (m.take j) (H.take j) b v := by
  obtain ⟨a, cs⟩ := b
  cases a with
  | false => obtain ⟨c, h1, h2⟩ := h; subst h1; exact ⟨c, rfl, h2.cut hi.1⟩
  | true => obtain ⟨vs, h1, h2⟩ := h; exact ⟨vs, h1, h2.cut hi⟩
theorem VA.cut {j : Nat} {x : AV} {v : Value} (h : VA S m H x v) (hi : idsA j x) : VA S (m.take j) (H.take j) x v := by
  cases x with
  | any => trivial
  | c x => exact VC.cut h hi
  | agg cs => obtain ⟨vs, h1, h2⟩ := h; exact ⟨vs, h1, h2.cut hi⟩
  | tup bs =>
    obtain ⟨vs, h1, h2, h3⟩ := h
    exact ⟨vs, h1, h2, fun i b u hb hu => (h3 i b u hb hu).cut (idsB_mem hi b (List.mem_of_getElem? hb))⟩
  | mark o => trivial
theorem Sim.cut {j : Nat} (s : Sim S m H B w) (hi : idsO j (H.take j)) : Sim S (m.take j) (H.take j) B w := by
  refine ⟨by simp [s.len], s.mem, s.base, fun id o l ho hl => ?_, fun i i' b c d h1 h2 => ?_⟩
  · have hlt : id < j := by have := (List.getElem?_eq_some_iff.1 ho).1; simp at this; omega
    rw [take_get hlt] at hl
    have ho' := ho
    rw [take_get hlt] at ho
    have hO := s.obj id o l ho hl
    cases o with
    | var cs =>
      cases l with
      | nil A => exact hO
      | at_ b c =>
        obtain ⟨h1, h2, cur, T, h3, h4⟩ := hO
        exact ⟨h1, h2, cur, T, h3, h4.cut (idsO_get hi id cs ho')⟩
    | arr T size frz es => cases l <;> exact hO
    | dfr => cases l <;> exact hO
    | loop L =>
      cases l with
      | nil A => exact hO
      | at_ b c =>
        obtain ⟨h1, fn, tmps, bd, h2, h5, h6⟩ := hO
        exact ⟨h1, fn, tmps, bd, h2, h5, fun d => (h6 d).cut (idsS_get (idsO_loop hi id L ho') d)⟩
    | map es =>
      cases l with
      | nil A => exact hO
      | at_ b c =>
        obtain ⟨h1, ents, clock, h2, h3, h4⟩ := hO
        exact ⟨h1, ents, clock, h2, h3, fun i k c e' hi' he => ⟨(h4 i k c e' hi' he).1, (h4 i k c e' hi' he).2.cut (idsL_mem (idsO_map hi id es ho') c (List.mem_map.2 ⟨(k, c), List.mem_of_getElem? hi', rfl⟩))⟩⟩
    | hole => cases l <;> exact hO
  · have a1 : i < j := by have := (List.getElem?_eq_some_iff.1 h1).1; simp at this; omega
    have a2 : i' < j := by have := (List.getElem?_eq_some_iff.1 h2).1; simp at this; omega
    rw [take_get a1] at h1
    rw [take_get a2] at h2
    exact s.inj i i' b c d h1 h2
theorem Ext.cut {j : Nat} {S0 : Mem} {m0 : List Loc} {H0 : List AObj} (e : Ext B S0 m0 H0 S m H) (hj : H0.length ≤ j) : Ext B S0 m0 H0 S (m.take j) (H.take j) := by
  refine ⟨e.mem, e.old, fun id o h hf => ?_, fun id T size frz es l h h' => ?_⟩
  · have hlt : id < j := Nat.lt_of_lt_of_le (List.getElem?_eq_some_iff.1 h).1 hj
    obtain ⟨⟨o', a, a'⟩, b⟩ := e.fix id o h hf
    exact ⟨⟨o', by rw [take_get hlt]; exact a, a'⟩, fun l hl => by rw [take_get hlt]; exact b l hl⟩
  · have hlt : id < j := Nat.lt_of_lt_of_le (List.getElem?_eq_some_iff.1 h).1 hj
    obtain ⟨f', es', l', a, b, c, d⟩ := e.arr id T size frz es l h h'
    exact ⟨f', es', l', by rw [take_get hlt]; exact a, by rw [take_get hlt]; exact b, c, d⟩
theorem SubS_get {j : Nat} {sl : Slots} : ∀ {sl' : Slots}, SubS j sl sl' → ∀ d, getS sl' d = .any ∨ (getS sl' d = getS sl d ∧ idsA j (getS sl' d))
  | [], _, d => .inl rfl
  | (d', x) :: r, h, d => by
    simp only [getS]
    by_cases hd : d = d'
    · subst hd
      rw [if_pos rfl]
      exact .inr ⟨h.1.symm, h.2.1⟩
    · rw [if_neg hd]
      exact SubS_get h.2.2 d
/-- The pseudo-slot may be forgotten, unless a block of deferred calls is held. -/
def keepD (j : Nat) : AV → AV → Prop
  | .mark (some ids), y => y = .mark (some ids) ∧ ∀ id ∈ ids, id < j
  | .mark none, .mark none => True
  | _, .mark _ => False
  | _, _ => True
theorem DefOk.keep {ro : Option Nat} {ds : List Deferred} {j : Nat} {x y : AV} (h : DefOk ro m H ds x) (hk : keepD j x y) : DefOk ro (m.take j) (H.take j) ds y := by
  match x, y, hk with
  | .mark (some ids), _, ⟨rfl, hj⟩ =>
    obtain ⟨h1, h2⟩ := h
    exact ⟨h1, h2.mono fun id hi h3 => ⟨by rw [take_get (hj id hi)]; exact h3, fun b c h => by rw [take_get (hj id hi)]; exact h⟩⟩
  | .mark none, .mark none, _ => exact h
  | .mark none, .any, _ => exact h.2
  | .mark none, .c _, _ => exact h.2
  | .mark none, .agg _, _ => exact h.2
  | .mark none, .tup _, _ => exact h.2
  | .any, .any, _ => exact h
  | .any, .c _, _ => exact h
  | .any, .agg _, _ => exact h
  | .any, .tup _, _ => exact h
  | .c _, .any, _ => exact h
  | .c _, .c _, _ => exact h
  | .c _, .agg _, _ => exact h
  | .c _, .tup _, _ => exact h
  | .agg _, .any, _ => exact h
  | .agg _, .c _, _ => exact h
  | .agg _, .agg _, _ => exact h
  | .agg _, .tup _, _ => exact h
  | .tup _, .any, _ => exact h
  | .tup _, .c _, _ => exact h
  | .tup _, .agg _, _ => exact h
  | .tup _, .tup _, _ => exact h
/-- Slots that nobody asks for are forgotten, and the last objects, if nothing names them. -/
theorem Sub.of (j : Nat) (hj : k ≤ j) (hH : H' = H.take j) (ho : idsO j H') (hs : SubS j sl sl') (hd : keepD j (getS sl DEF) (getS sl' DEF)) : Sub n k sl H sl' H' := by
  subst hH
  rintro cx hk a w ⟨S, m, s, e, b, r⟩
  refine ⟨S, m.take j, s.cut ho, e.cut (by omega), b, r.defers.keep hd, r.big, r.size, fun d => ?_⟩
  rcases SubS_get hs d with h | ⟨h1, h2⟩
  · rw [h]; trivial
  · rw [h1] at h2 ⊢; exact (r.slot d).cut h2
theorem Sub.refl : Sub n k sl H sl H := fun cx _ a w h => h
theorem Sub.trans {sl1 : Slots} {H1 : List AObj} (h : Sub n k sl H sl1 H1) (g : Sub n k sl1 H1 sl' H') : Sub n k sl H sl' H' := fun cx hk a w hi => g cx hk a w (h cx hk a w hi)
/-- A nil slice in a slot becomes an array of ours that is empty. -/
theorem Sub.promote (d T size : Nat) (hs : 0 < size) (hd : getS sl d = .c (.p (.sl true []))) : Sub n k sl H ((d, .c (.own H.length 0)) :: sl) (H ++ [.arr T size 0 []]) := by
  rintro cx hk a w ⟨S, m, s, e, b, r⟩
  have hv := r.slot d
  rw [hd] at hv
  obtain ⟨A, hA⟩ := VP.empty_form (show VP S (.sl true []) _ from hv) rfl
  obtain ⟨s2, e2, hv2⟩ := s.newNil T size hs A
  refine ⟨S, _, s2, e.trans e2, b, ?_, r.big, r.size, fun d' => ?_⟩
  · have h0 := r.defers
    simp only [getS]
    by_cases hdd : DEF = d
    · subst hdd
      rw [hd] at h0
      rw [if_pos rfl]; exact h0
    · rw [if_neg hdd]; exact h0.ext e2
  simp only [getS]
  by_cases h : d' = d
  · subst h
    rw [if_pos rfl, hA]
    exact hv2
  · rw [if_neg h]; exact (r.slot d').ext e2
/-- The same in a variable's cell. -/
theorem Sub.promoteVar (id T size : Nat) (hs : 0 < size) (hd : H[id]? = some (.var [.p (.sl true [])])) : Sub n k sl H sl (H.set id (.var [.own H.length 0]) ++ [.arr T size 0 []]) := by
  rintro cx hk a w ⟨S, m, s, e, b, r⟩
  obtain ⟨l, hl, hO⟩ := s.loc hd
  cases l with
  | nil A => exact hO.elim
  | at_ bb cap =>
    obtain ⟨h1, h2, cur, T0, h3, h4⟩ := hO
    obtain ⟨v, rfl⟩ : ∃ v, cur = [v] := by
      have := h4.1
      match cur, this with
      | [v], _ => exact ⟨v, rfl⟩
    have hv := h4.2 0 _ v rfl rfl
    obtain ⟨A, hA⟩ := VP.empty_form (show VP S (.sl true []) _ from hv) rfl
    obtain ⟨s2, e2, hv2⟩ := s.newNil T size hs A
    have hid : id < H.length := (List.getElem?_eq_some_iff.1 hd).1
    have hd2 : (H ++ [.arr T size 0 []])[id]? = some (.var [.p (.sl true [])]) := by rw [List.getElem?_append_left hid]; exact hd
    have hl2 : (m ++ [.nil A])[id]? = some (.at_ bb cap) := by rw [List.getElem?_append_left (by rw [s.len]; exact hid)]; exact hl
    subst hA
    obtain ⟨s3, e3⟩ := s2.setVar (cs' := [.own H.length 0]) hd2 hl2 (w' := w) h3 (fun _ _ => rfl) rfl (VCs.cons hv2 (VCs.nil _ _ _))
    have hset : (H ++ [AObj.arr T size 0 []]).set id (.var [.own H.length 0]) = H.set id (.var [.own H.length 0]) ++ [.arr T size 0 []] := by
      rw [List.set_append, if_pos hid]
    rw [hset] at s3 e3
    have ee := e2.trans e3
    exact ⟨S, _, s3, e.trans ee, b, r.ext ee⟩

/-! ### Functions -/
def resB (K : Bool × List Cell → Prop) : AV → Prop
  | .c x => K (false, [x])
  | .agg cs => K (true, cs)
  | _ => False
def aRes (P : Program) (sl : Slots) (H : List AObj) : List ResultVar → (List (Bool × List Cell) → Prop) → Prop
  | [], K => K []
  | .tmp t :: r, K => resB (fun b => aRes P sl H r fun l => K (b :: l)) (getS sl t)
  | .cell a t :: r, K => aLoad P t (getS sl a) H fun x _ => resB (fun b => aRes P sl H r fun l => K (b :: l)) x
def oneB : Bool × List Cell → AV
  | (false, [x]) => .c x
  | (true, cs) => .agg cs
  | _ => .any
def isFree : AV → Bool
  | .mark (some _) => false
  | _ => true
def aRet (P : Program) (fn : Func) (sl : Slots) (H : List AObj) (K : AV → Prop) : Prop :=
  isFree (getS sl DEF) = true ∧ aRes P sl H fn.results.toList fun l => match l with
    | [b] => K (oneB b)
    | l => K (.tup l)
def aPost (P : Program) (fn : Func) (K : AV → List AObj → Prop) : Exit → Slots → List AObj → Prop
  | .normal, sl, H | .ret, sl, H => aRet P fn sl H fun x => K x H
  | _, _, _ => False
theorem VB_of {x : AV} {v : Value} {K : Bool × List Cell → Prop} (hv : VA S m H x v) (h : resB K x) : ∃ b, VB S m H b v ∧ K b := by
  cases x with
  | any => exact h.elim
  | tup _ => exact h.elim
  | mark _ => exact h.elim
  | c x => exact ⟨(false, [x]), ⟨x, rfl, hv⟩, h⟩
  | agg cs => exact ⟨(true, cs), hv, h⟩
def resOf (tmps : Array Value) : ResultVar → Sem Value
  | .tmp t => pure (tmps.getD t undef)
  | .cell a t => do loadVar t (← asAddr (tmps.getD a undef))
theorem aRes_ok {ro : Option Nat} {a : Act} (s : Sim S m H B w) (r : ARel ro S m H n sl a) : ∀ {rs : List ResultVar} {K : List (Bool × List Cell) → Prop}, aRes P sl H rs K →
    ∃ vs : List Value, (rs.mapM (resOf a.tmps)).run P w = .ok vs w ∧ ∃ l : List (Bool × List Cell), l.length = vs.length ∧ (∀ (i : Nat) b u, l[i]? = some b → vs[i]? = some u → VB S m H b u) ∧ K l
  | [], K, h => ⟨[], by simp, [], rfl, fun i b u h => by simp at h, h⟩
  | .tmp t :: rs, K, h => by
    have hv := r.slot t
    simp only [aRes] at h
    obtain ⟨b, hb, h⟩ := VB_of hv h
    obtain ⟨vs, h1, l, h2, h3, h4⟩ := aRes_ok s r h
    refine ⟨a.tmps.getD t undef :: vs, ?_, b :: l, by simp [h2], fun i b' u hb' hu => ?_, h4⟩
    · rw [List.mapM_cons, Sem.run_bind]
      show ((resOf a.tmps (.tmp t)).run P w).andThen _ = _
      simp only [resOf, Sem.run_pure, Result.andThen_ok, Sem.run_bind, h1]
    · cases i with
      | zero =>
        rw [List.getElem?_cons_zero] at hb' hu
        cases hb'; cases hu; exact hb
      | succ i => exact h3 i b' u (by simpa using hb') (by simpa using hu)
  | .cell q t :: rs, K, h => by
    have hv := r.slot q
    simp only [aRes] at h
    obtain ⟨v, x, hr, hx, h⟩ := same_load s hv h
    obtain ⟨b, hb, h⟩ := VB_of hx h
    obtain ⟨vs, h1, l, h2, h3, h4⟩ := aRes_ok s r h
    have hload : (resOf a.tmps (.cell q t)).run P w = .ok v w := by
      show (do loadVar t (← asAddr (a.tmps.getD q undef)) : Sem Value).run P w = .ok v w
      have gen : ∀ z : Value, (Instr.loadAt t z).run P w = .ok v w → (do loadVar t (← asAddr z) : Sem Value).run P w = .ok v w := by
        intro z hz
        unfold Instr.loadAt Instr.sureAddr at hz
        cases z with
        | pointer p => cases p with
          | none => simp at hz
          | some p => simpa [asAddr] using hz
        | _ => simp at hz
      exact gen _ hr
    refine ⟨v :: vs, ?_, b :: l, by simp [h2], fun i b' u hb' hu => ?_, h4⟩
    · rw [List.mapM_cons, Sem.run_bind, hload]
      simp only [Sem.run_pure, Result.andThen_ok, Sem.run_bind, h1]
    · cases i with
      | zero =>
        rw [List.getElem?_cons_zero] at hb' hu
        cases hb'; cases hu; exact hb
      | succ i => exact h3 i b' u (by simpa using hb') (by simpa using hu)
theorem aRet_ok {ro : Option Nat} {a : Act} (s : Sim S m H B w) (r : ARel ro S m H n sl a) {fn : Func} {K : AV → Prop} (h : aRet P fn sl H K) : a.defers = [] ∧ ∃ v x, (results fn a.tmps).run P w = .ok v w ∧ VA S m H x v ∧ K x := by
  have hdf : a.defers = [] := by
    have h0 := r.defers
    have h1 := h.1
    generalize getS sl DEF = y at h0 h1
    match y, h0, h1 with
    | .mark none, h0, _ => exact h0.2
    | .any, h0, _ => exact h0
    | .c _, h0, _ => exact h0
    | .agg _, h0, _ => exact h0
    | .tup _, h0, _ => exact h0
  refine ⟨hdf, ?_⟩
  obtain ⟨vs, h1, l, h2, h3, h4⟩ := aRes_ok s r h.2
  have hr : (results fn a.tmps).run P w = .ok (if h : vs.toArray.size = 1 then vs.toArray[0] else .tuple vs.toArray) w := by
    have hf : results fn a.tmps = (do let vs ← fn.results.mapM (resOf a.tmps); pure (if h : vs.size = 1 then vs[0] else .tuple vs)) := by
      unfold results
      congr 1
    rw [hf, Array.mapM_eq_mapM_toList]
    simp only [Sem.run_bind, Sem.run_map]
    rw [h1]
    simp
  refine ⟨_, ?_, hr, ?_⟩
  · exact match l with
      | [b] => oneB b
      | l => .tup l
  · match l, vs, h2, h3, h4 with
    | [], [], h2, h3, h4 => exact ⟨⟨[], rfl, rfl, fun i b u hb => by simp at hb⟩, h4⟩
    | [b], [v], h2, h3, h4 =>
      refine ⟨?_, h4⟩
      have hb := h3 0 b v rfl rfl
      obtain ⟨f, cs⟩ := b
      cases f with
      | true => exact hb
      | false => obtain ⟨c, rfl, hc⟩ := hb; exact hc
    | b1 :: b2 :: l, v1 :: v2 :: vs, h2, h3, h4 =>
      refine ⟨⟨v1 :: v2 :: vs, ?_, h2, h3⟩, h4⟩
      rw [dif_neg (by simp)]
def argSlots (xs : List AV) : Slots := xs.zipIdx.map fun q => (q.2, q.1)
theorem getS_args {xs : List AV} : ∀ (j d : Nat), getS ((xs.zipIdx j).map fun q => (q.2, q.1)) d = if j ≤ d then xs.getD (d - j) .any else .any := by
  induction xs with
  | nil => intro j d; simp [getS]
  | cons x xs ih =>
    intro j d
    simp only [List.zipIdx_cons, List.map_cons, getS]
    by_cases h : d = j
    · subst h; simp
    · rw [if_neg h, ih (j + 1) d]
      by_cases hj : j ≤ d
      · rw [if_pos hj, if_pos (by omega), show d - j = (d - (j + 1)) + 1 by omega]; rfl
      · rw [if_neg hj, if_neg (by omega)]
theorem ACall.of_AW {f : FuncId} {fn : Func} {c : Code} {args : List AV} {K : AV → List AObj → Prop} (he : Enters P f) (hf : P.funcs[f]? = some fn) (hb : fn.body = some c) (hn : args.length ≤ fn.ntmps ∧ fn.ntmps ≤ 1000000)
    (h : AW P fn.ntmps H.length c (aPost P fn K) (argSlots args) H) : ACall P f args H K := by
  refine ⟨he, fun S m B w vs s hv => calls_of_wp hf hb (wpIn_wide (n := 0).1 ?_)⟩
  let cx : Cx := ⟨B, S, m, H, w, none⟩
  have hin : InSt cx fn.ntmps (argSlots args) H { tmps := vs.toArray ++ Array.replicate (fn.ntmps - vs.toArray.size) undef, defers := [] } w := by
    refine ⟨S, m, s, Ext.refl B S m H, Bel.refl B w, ?_, hn.2, ?_, fun d => ?_⟩
    · unfold argSlots
      rw [getS_args 0 DEF, if_pos (Nat.zero_le _), Nat.sub_zero]
      have e1 : args.getD DEF .any = .any := by
        have := hn.1; have := hn.2
        simp [List.getD_eq_getElem?_getD, List.getElem?_eq_none (show args.length ≤ DEF from Nat.le_trans hn.1 hn.2)]
      rw [e1]; exact rfl
    · have := hv.1
      have := hn.1
      simp; omega
    · unfold argSlots
      rw [getS_args 0 d, if_pos (Nat.zero_le _), Nat.sub_zero]
      by_cases hd : d < args.length
      · have hdv : d < vs.length := by rw [← hv.1]; exact hd
        have e1 : args.getD d .any = args[d] := by simp [List.getD_eq_getElem?_getD, hd]
        have e2 : (vs.toArray ++ Array.replicate (fn.ntmps - vs.toArray.size) undef).getD d undef = vs[d] := by
          rw [Array.getD_eq_getD_getElem?, Array.getElem?_append_left (by simpa using hdv)]
          simp [hdv]
        rw [e1, e2]
        exact hv.2 d _ _ (List.getElem?_eq_getElem hd) (List.getElem?_eq_getElem hdv)
      · have e1 : args.getD d .any = .any := by simp [List.getD_eq_getElem?_getD, List.getElem?_eq_none (show args.length ≤ d by omega)]
        rw [e1]; trivial
  refine wpIn_mono (h cx rfl _ w hin) ?_
  rintro e a' w' ⟨sl', H', ⟨S', m', s', e', b', r'⟩, hq⟩
  have fin : aRet P fn sl' H' (fun x => K x H') → a'.defers = [] ∧ ∃ v, (results fn a'.tmps).run P w' = .ok v w' ∧ ∃ u, Ending.returned v = .returned u ∧ Post B S m H w K u w' := fun hq => by
    obtain ⟨hdf, v, x, h1, h2, h3⟩ := aRet_ok s' r' hq
    exact ⟨hdf, v, h1, v, rfl, S', m', H', x, s', e', b', h2, h3⟩
  cases e with
  | normal => exact fin hq
  | ret => exact fin hq
  | _ => exact hq.elim

/-! ### Contracts on what nobody changes -/
abbrev PB := Bool × List PV
inductive PR where
  | one (b : PB)
  | tup (bs : List PB)
def pbAV : PB → AV
  | (false, [x]) => .c (.p x)
  | (false, _) => .any
  | (true, xs) => .agg (xs.map .p)
def pbB (b : PB) : Bool × List Cell := (b.1, b.2.map .p)
def prAV : PR → AV
  | .one b => pbAV b
  | .tup bs => .tup (bs.map pbB)
def ValidM (S : Mem) (w : World) : Prop := ∀ b o v, S b o = some v → w.cell? ⟨b, o, none⟩ = some v
def VPB (S : Mem) (b : PB) (v : Value) : Prop := VB S [] [] (pbB b) v
def VPBs (S : Mem) (bs : List PB) (vs : List Value) : Prop := bs.length = vs.length ∧ ∀ (i : Nat) b v, bs[i]? = some b → vs[i]? = some v → VPB S b v
def VPR (S : Mem) : PR → Value → Prop
  | .one b, v => VPB S b v
  | .tup bs, v => ∃ vs : List Value, v = .tuple vs.toArray ∧ VPBs S bs vs
/-- The call computes r, and makes memory of its own alone. -/
def PC (P : Program) (f : FuncId) (args : List PB) (r : PR) : Prop :=
  Enters P f ∧ ∀ (S : Mem) (w : World) (vs : List Value), ValidM S w → VPBs S args vs →
    Calls P f vs.toArray w fun e w' => ∃ v S', e = .returned v ∧ S.le S' ∧ OldMem w.heap.size S S' ∧ ValidM S' w' ∧ Below w.heap.size w w' ∧ VPR S' r v

theorem VCs_p {xs : List PV} {vs : List Value} (m' : List Loc) (H' : List AObj) (h : VCs S m H (xs.map .p) vs) : VCs S m' H' (xs.map .p) vs := by
  refine ⟨h.1, fun i c v hc hv => ?_⟩
  have := h.2 i c v hc hv
  rw [List.getElem?_map] at hc
  cases hx : xs[i]? with
  | none => simp [hx] at hc
  | some x => simp [hx] at hc; subst hc; exact this
theorem VB_p {b : PB} {v : Value} (m' : List Loc) (H' : List AObj) (h : VB S m H (pbB b) v) : VB S m' H' (pbB b) v := by
  obtain ⟨f, xs⟩ := b
  cases f with
  | true => obtain ⟨vs, h1, h2⟩ := h; exact ⟨vs, h1, VCs_p m' H' h2⟩
  | false =>
    obtain ⟨c, h1, h2⟩ := h
    refine ⟨c, h1, ?_⟩
    have : c ∈ xs.map Cell.p := by rw [h1]; simp
    obtain ⟨x, _, rfl⟩ := List.mem_map.1 this
    exact h2
theorem VPR.av {r : PR} {v : Value} (h : VPR S r v) (m : List Loc) (H : List AObj) : VA S m H (prAV r) v := by
  cases r with
  | one b =>
    have hb := VB_p m H h
    obtain ⟨f, xs⟩ := b
    cases f with
    | true => exact hb
    | false =>
      obtain ⟨c, h1, h2⟩ := hb
      match xs, h1 with
      | [x], h1 => simp at h1; subst h1; exact h2
  | tup bs =>
    obtain ⟨vs, h1, h2, h3⟩ := h
    refine ⟨vs, h1, by simpa using h2, fun i b u hb hu => ?_⟩
    rw [List.getElem?_map] at hb
    cases hx : bs[i]? with
    | none => simp [hx] at hb
    | some x => simp [hx] at hb; subst hb; exact VB_p m H (h3 i x u hx hu)

def frzV (H : List AObj) : AV → Option (PB × List AObj)
  | .c x => match frzC H x with
    | some (y, H1) => some ((false, [lo y]), H1)
    | none => none
  | .agg cs => match frzs H cs with
    | some (ys, H1) => some ((true, ys.map lo), H1)
    | none => none
  | _ => none
def frzVs (H : List AObj) : List AV → Option (List PB × List AObj)
  | [] => some ([], H)
  | x :: xs => match frzV H x with
    | some (b, H1) => match frzVs H1 xs with
      | some (bs, H2) => some (b :: bs, H2)
      | none => none
    | none => none
theorem frzV_ok (s : Sim S m H B w) {x : AV} {v : Value} (hv : VA S m H x v) {b : PB} (h : frzV H x = some (b, H')) : ∃ S', Sim S' m H' B w ∧ Ext B S m H S' m H' ∧ VPB S' b v := by
  cases x with
  | any => simp [frzV] at h
  | tup _ => simp [frzV] at h
  | mark _ => simp [frzV] at h
  | c x =>
    simp only [frzV] at h
    cases hf : frzC H x with
    | none => simp [hf] at h
    | some q =>
      obtain ⟨y, H1⟩ := q
      simp only [hf, Option.some.injEq, Prod.mk.injEq] at h
      obtain ⟨rfl, rfl⟩ := h
      obtain ⟨S', h1, h2, h3⟩ := frzC_ok s hv hf
      exact ⟨S', h1, h2, _, rfl, VP.lo h3⟩
  | agg cs =>
    simp only [frzV] at h
    cases hf : frzs H cs with
    | none => simp [hf] at h
    | some q =>
      obtain ⟨ys, H1⟩ := q
      simp only [hf, Option.some.injEq, Prod.mk.injEq] at h
      obtain ⟨rfl, rfl⟩ := h
      obtain ⟨vs, rfl, hvs⟩ := hv
      obtain ⟨S', h1, h2, h3⟩ := frzs_ok s hvs hf
      exact ⟨S', h1, h2, vs, rfl, h3.lo.cells⟩
theorem VPB.mono {S S' : Mem} (hS : S.le S') {b : PB} {v : Value} (h : VPB S b v) : VPB S' b v :=
  VB.ext (B := 0) ⟨hS, fun b o hb => by omega, fun id o h => by simp at h, fun id T size frz es l h => by simp at h⟩ h
theorem frzVs_ok : ∀ {xs : List AV} {vs : List Value} {H H' : List AObj} {S : Mem} {bs : List PB}, Sim S m H B w → VAs S m H xs vs → frzVs H xs = some (bs, H') → ∃ S', Sim S' m H' B w ∧ Ext B S m H S' m H' ∧ VPBs S' bs vs
  | [], vs, H, H', S, bs, s, hv, h => by
    simp [frzVs] at h
    obtain ⟨rfl, rfl⟩ := h
    exact ⟨S, s, Ext.refl B S m H, hv.1, fun i b v hb => by simp at hb⟩
  | x :: xs, [], H, H', S, bs, s, hv, h => by simp [VAs] at hv
  | x :: xs, v :: vs, H, H', S, bs, s, hv, h => by
    have h0 := hv.2 0 x v rfl rfl
    have ht : VAs S m H xs vs := ⟨by simpa using hv.1, fun i x v a b => hv.2 (i + 1) x v (by simpa using a) (by simpa using b)⟩
    simp only [frzVs] at h
    cases h1 : frzV H x with
    | none => simp [h1] at h
    | some q =>
      obtain ⟨b, H1⟩ := q
      simp only [h1] at h
      cases h2 : frzVs H1 xs with
      | none => simp [h2] at h
      | some q =>
        obtain ⟨bs', H2⟩ := q
        simp only [h2, Option.some.injEq, Prod.mk.injEq] at h
        obtain ⟨rfl, rfl⟩ := h
        obtain ⟨S1, s1, e1, p1⟩ := frzV_ok s h0 h1
        obtain ⟨S2, s2, e2, l2, p2⟩ := frzVs_ok s1 (ht.ext e1) h2
        refine ⟨S2, s2, e1.trans e2, by simp [l2], fun i b' u hb hu => ?_⟩
        cases i with
        | zero => simp at hb hu; subst hb; subst hu; exact p1.mono e2.mem
        | succ i => exact p2 i b' u (by simpa using hb) (by simpa using hu)
/-- A contract serves at a call. -/
theorem ACall.pure {f : FuncId} {args : List AV} {pargs : List PB} {r : PR} {K : AV → List AObj → Prop} (hc : PC P f pargs r) (hf : frzVs H args = some (pargs, H')) (hk : K (prAV r) H') : ACall P f args H K := by
  refine ⟨hc.1, fun S m B w vs s hv => ?_⟩
  obtain ⟨S1, s1, e1, p1⟩ := frzVs_ok s hv hf
  refine (hc.2 S1 w vs s1.mem p1).mono fun e w' ⟨v, S2, he, hle, hold, hval, hb, hr⟩ => ?_
  obtain ⟨s2, e2⟩ := s1.grow (S' := S2) (w' := w') (fun k hk => hb.block k hk) hb.size hold (fun b o v _ h => hval b o v h)
  exact ⟨v, he, S2, m, H', prAV r, s2, e1.trans e2, Bel.of_old ⟨hb.os, hb.tape, hb.output, hb.size, fun k hk => hb.block k (Nat.lt_of_lt_of_le hk s.base)⟩ (fun k hk => hb.block k hk), hr.av m H', hk⟩
/-- The results, as they are handed on. -/
def frzR (H : List AObj) : AV → Option PR
  | .tup bs => match frzVs H (bs.map oneB) with
    | some (ps, _) => some (.tup ps)
    | none => none
  | .c x => match frzC H x with
    | some (y, _) => some (.one (false, [y]))
    | none => none
  | x => match frzV H x with
    | some (b, _) => some (.one b)
    | none => none
theorem Sim.start {w : World} {S : Mem} (h : ValidM S w) : Sim S [] [] w.heap.size w :=
  ⟨rfl, h, Nat.le_refl _, fun id o l h => by simp at h, fun i j b c d h => by simp at h⟩
theorem VPBs.VAs {bs : List PB} {vs : List Value} (h : VPBs S bs vs) (m : List Loc) (H : List AObj) : VAs S m H (bs.map pbAV) vs := by
  refine ⟨by simpa using h.1, fun i x v hx hv => ?_⟩
  rw [List.getElem?_map] at hx
  cases hb : bs[i]? with
  | none => simp [hb] at hx
  | some b => simp [hb] at hx; subst hx; exact VPR.av (r := .one b) (h.2 i b v hb hv) m H
theorem PC.of_ACall {f : FuncId} {pargs : List PB} {r : PR} (h : ACall P f (pargs.map pbAV) [] fun x H' => frzR H' x = some r) : PC P f pargs r := by
  refine ⟨h.1, fun S w vs hS hv => (h.2 S [] w.heap.size w vs (Sim.start hS) (hv.VAs [] [])).mono fun e w' ⟨v, he, S', m', H', x, s', e', b', hx, hk⟩ => ?_⟩
  subst he
  have conc : ∀ S2 H2, Sim S2 m' H2 w.heap.size w' → Ext w.heap.size S' m' H' S2 m' H2 → VPR S2 r v → ∃ u S', Ending.returned v = .returned u ∧ S.le S' ∧ OldMem w.heap.size S S' ∧ ValidM S' w' ∧ Below w.heap.size w w' ∧ VPR S' r u := fun S2 H2 s2 e2 hr =>
    ⟨v, S2, rfl, Mem.le_trans e'.mem e2.mem, fun b o hb => (e2.old b o hb).trans (e'.old b o hb), s2.mem, b'.below, hr⟩
  cases x with
  | any => simp [frzR, frzV] at hk
  | mark _ => simp [frzR, frzV] at hk
  | c x =>
    simp only [frzR] at hk
    cases hf : frzC H' x with
    | none => simp [hf] at hk
    | some q =>
      obtain ⟨b, H2⟩ := q
      simp [hf] at hk; subst hk
      obtain ⟨S2, s2, e2, p2⟩ := frzC_ok s' hx hf
      exact conc S2 H2 s2 e2 ⟨_, rfl, p2⟩
  | agg cs =>
    simp only [frzR] at hk
    cases hf : frzV H' (.agg cs) with
    | none => simp [hf] at hk
    | some q =>
      obtain ⟨b, H2⟩ := q
      simp [hf] at hk; subst hk
      obtain ⟨S2, s2, e2, p2⟩ := frzV_ok s' hx hf
      exact conc S2 H2 s2 e2 p2
  | tup bs =>
    simp only [frzR] at hk
    obtain ⟨us, rfl, hl, hu⟩ := hx
    cases hf : frzVs H' (bs.map oneB) with
    | none => simp [hf] at hk
    | some q =>
      obtain ⟨ps, H2⟩ := q
      simp [hf] at hk; subst hk
      obtain ⟨S2, s2, e2, p2⟩ := frzVs_ok s' (vs := us) ⟨by simpa using hl, fun i x u hx hui => by
        rw [List.getElem?_map] at hx
        cases hb : bs[i]? with
        | none => simp [hb] at hx
        | some b =>
          simp [hb] at hx; subst hx
          have := hu i b u hb hui
          obtain ⟨fl, cs⟩ := b
          cases fl with
          | true => exact this
          | false => obtain ⟨c, rfl, hc⟩ := this; exact hc⟩ hf
      exact conc S2 H2 s2 e2 ⟨us, rfl, p2⟩
end
end Go.Aw

/-
  An abstract memory for walks, part 12: the rules by which simp works out what a region does.
-/
set_option linter.unusedVariables false
set_option linter.unusedSimpArgs false
namespace Go.Aw
attribute [go_sem] lo aops aStep aopY yldOf aop ev getS aput isLit absA absP absL aLoad aPart aStore aBox aAlloc aBuild aFill aFieldAddr aField aIndexAddr intA aLen aCap aBin aInt aUn aConv aCallee aExtract aBuiltin cellsA splice AThen ABlock isNilC aRes resB oneB argSlots pbAV prAV pbB aMake aGrow aInsert aLookup mapFind aSlice optI cutL aNil aBuildSlice aElems aAppend aMakeFunc pureL capsL capAV aIndex aStr aLit aInvoke idsA idsB idsC idsL idsO idsS SubS isFree keepD DEF

section
variable {H H1 : List AObj}
@[go_sem] theorem frzC_p (x : PV) : frzC H (.p x) = some (x, H) := rfl
@[go_sem] theorem frzC_own (id n : Nat) : frzC H (.own id n) = match H[id]? with
    | some (.arr T size frz es) => if es.length = n then some (PV.sl false es, H.set id (.arr T size es.length es)) else none
    | _ => none := rfl
@[go_sem] theorem frzC_clo (f : Nat) : frzC H (.clo f [] []) = some (.fn f, H) := rfl
@[go_sem] theorem frzs_nil : frzs H [] = some ([], H) := rfl
@[go_sem] theorem frzs_cons (c : Cell) (cs : List Cell) : frzs H (c :: cs) = match frzC H c with
    | some (x, H1) => match frzs H1 cs with
      | some (xs, H2) => some (x :: xs, H2)
      | none => none
    | none => none := rfl
@[go_sem] theorem allLen_nil (k : Nat) : allLen k [] = True := by simp [allLen]
@[go_sem] theorem allLen_cons (k : Nat) (x : List PV) (xs : List (List PV)) : allLen k (x :: xs) = (x.length = k ∧ allLen k xs) := by simp [allLen]
@[go_sem] theorem allLen_append (k : Nat) (xs ys : List (List PV)) : allLen k (xs ++ ys) = (allLen k xs ∧ allLen k ys) := by
  simp [allLen, or_imp, forall_and]
theorem allLen_map {α : Type} {k : Nat} {f : α → List PV} {l : List α} (h : ∀ a, (f a).length = k) : allLen k (l.map f) := by
  intro y hy
  obtain ⟨a, _, rfl⟩ := List.mem_map.1 hy
  exact h a
theorem allLen_sub {k : Nat} {xs ys : List (List PV)} (h : allLen k ys) (hs : ∀ y, y ∈ xs → y ∈ ys) : allLen k xs := fun y hy => h y (hs y hy)
theorem frzs_map (xs : List PV) : frzs H (xs.map Cell.p) = some (xs, H) := by
  induction xs with
  | nil => rfl
  | cons x xs ih => simp only [List.map_cons, frzs, frzC, ih]
@[go_sem] theorem frzs_map' (xs : List PV) : frzs H (xs.map Cell.p) = some (xs, H) := frzs_map xs
@[go_sem] theorem frzA_c (c : Cell) : frzA H (.c c) = frzC H c := rfl
@[go_sem] theorem frzV_c (c : Cell) : frzV H (.c c) = match frzC H c with
    | some (y, H1) => some ((false, [lo y]), H1)
    | none => none := rfl
@[go_sem] theorem frzV_agg (cs : List Cell) : frzV H (.agg cs) = match frzs H cs with
    | some (ys, H1) => some ((true, ys.map lo), H1)
    | none => none := rfl
@[go_sem] theorem frzVs_nil : frzVs H [] = some ([], H) := rfl
@[go_sem] theorem frzVs_cons (x : AV) (xs : List AV) : frzVs H (x :: xs) = match frzV H x with
    | some (b, H1) => match frzVs H1 xs with
      | some (bs, H2) => some (b :: bs, H2)
      | none => none
    | none => none := rfl
@[go_sem] theorem frzR_c (c : Cell) : frzR H (.c c) = match frzC H c with
    | some (y, _) => some (.one (false, [y]))
    | none => none := rfl
@[go_sem] theorem frzR_agg (cs : List Cell) : frzR H (.agg cs) = match frzV H (.agg cs) with
    | some (b, _) => some (.one b)
    | none => none := rfl
@[go_sem] theorem frzR_tup (bs : List (Bool × List Cell)) : frzR H (.tup bs) = match frzVs H (bs.map oneB) with
    | some (ps, _) => some (.tup ps)
    | none => none := rfl
@[go_sem] theorem aPost_ret (P : Program) (fn : Func) (K : AV → List AObj → Prop) (sl : Slots) (H : List AObj) : aPost P fn K .ret sl H = (isFree (getS sl DEF) = true ∧ aRes P sl H fn.results.toList fun l => match l with
    | [b] => K (oneB b) H
    | l => K (.tup l) H) := rfl
@[go_sem] theorem aPost_normal (P : Program) (fn : Func) (K : AV → List AObj → Prop) (sl : Slots) (H : List AObj) : aPost P fn K .normal sl H = (isFree (getS sl DEF) = true ∧ aRes P sl H fn.results.toList fun l => match l with
    | [b] => K (oneB b) H
    | l => K (.tup l) H) := rfl
end
end Go.Aw
