/-
  An abstract memory for walks, part 9: one operation, a region's operations in the text's order, and code.
-/
import Derived.Test.YtogappokeheilaaAw8
import Derived.TacticsIn
import Derived.OrdersIn
import Derived.RangeFuncIn
import Derived.RangeFuncRecord
set_option linter.unusedVariables false
set_option linter.unusedSimpArgs false
namespace Go.Aw
open Go.RowKit
section
variable {P : Program} {B : Nat} {S : Mem} {m : List Loc} {H : List AObj} {w : World} {K : AV → List AObj → Prop}

def VAs (S : Mem) (m : List Loc) (H : List AObj) (xs : List AV) (vs : List Value) : Prop := xs.length = vs.length ∧ ∀ (i : Nat) x v, xs[i]? = some x → vs[i]? = some v → VA S m H x v
theorem VAs.ext {S' : Mem} {m' : List Loc} {H' : List AObj} (e : Ext B S m H S' m' H') {xs : List AV} {vs : List Value} (h : VAs S m H xs vs) : VAs S' m' H' xs vs := ⟨h.1, fun i x v a b => (h.2 i x v a b).ext e⟩
theorem VAs.append {xs ys : List AV} {us vs : List Value} (h : VAs S m H xs us) (k : VAs S m H ys vs) : VAs S m H (xs ++ ys) (us ++ vs) := by
  refine ⟨by simp [h.1, k.1], fun i x v hx hv => ?_⟩
  by_cases hi : i < xs.length
  · rw [List.getElem?_append_left hi] at hx
    rw [List.getElem?_append_left (by rw [← h.1]; exact hi)] at hv
    exact h.2 i x v hx hv
  · rw [List.getElem?_append_right (by omega)] at hx
    rw [List.getElem?_append_right (by rw [← h.1]; omega), ← h.1] at hv
    exact k.2 _ x v hx hv

/-! ### Calls -/
/-- The call of a function with a body enters it. -/
def Enters (P : Program) (f : FuncId) : Prop := ∀ args w, (callFunc f args).run P w = .ok (.enter f args) w
/-- A call, with the call's whole view of memory. -/
def ACall (P : Program) (f : FuncId) (args : List AV) (H : List AObj) (K : AV → List AObj → Prop) : Prop :=
  Enters P f ∧ ∀ (S : Mem) (m : List Loc) (B : Nat) (w : World) (vs : List Value), Sim S m H B w → VAs S m H args vs → Calls P f vs.toArray w fun e w' => ∃ v, e = .returned v ∧ Post B S m H w K v w'
theorem ACall.mono {f : FuncId} {args : List AV} {K' : AV → List AObj → Prop} (h : ACall P f args H K) (hk : ∀ x H', K x H' → K' x H') : ACall P f args H K' :=
  ⟨h.1, fun S m B w vs s hv => (h.2 S m B w vs s hv).mono fun e w' ⟨v, he, S', m', H', x, a, b, c, d, k⟩ => ⟨v, he, S', m', H', x, a, b, c, d, hk x H' k⟩⟩
def capAV (q : Nat × Nat) : AV := .c (.ptr q.1 q.2)
def aCallee (P : Program) (f : AV) (args : List AV) (H : List AObj) (K : AV → List AObj → Prop) : Prop :=
  match f with
  | .c (.p (.fn g)) => ACall P g args H K
  | .c (.clo g first caps) => ACall P g (first.map (fun x => .c (.p x)) ++ args ++ caps.map capAV) H K
  | _ => False
/-- Which function a method's name means at an interface value, and on what. -/
def MethTo (P : Program) (x : PV) (name : String) (g : FuncId) (r : AV) : Prop :=
  ∀ (S : Mem) (m : List Loc) (H : List AObj) (v : Value) (w : World), VP S x v → ∃ t u q, v = .iface t u ∧ (method (P.types.size + Made.depth) t u name).run P w = .ok (g, q) w ∧ VA S m H r q
def aInvoke (P : Program) (recv : AV) (name : String) (args : List AV) (H : List AObj) (K : AV → List AObj → Prop) : Prop :=
  match recv with
  | .c (.p x) => ∃ g r, MethTo P x name g r ∧ ACall P g (r :: args) H K
  | _ => False
/-- What an operation on one value comes to, where it is closed. -/
def Sem1 (P : Program) (f : Value → Sem Value) (x r : AV) : Prop := ∀ (S : Mem) (m : List Loc) (H : List AObj) (v : Value) (w : World), VA S m H x v → ∃ u, (f v).run P w = .ok u w ∧ VA S m H r u

def aExtract (x : AV) (i : Nat) (H : List AObj) (K : AV → List AObj → Prop) : Prop :=
  match x with
  | .tup bs => match bs[i]? with
    | some (false, [c]) => K (.c c) H
    | some (true, cs) => K (.agg cs) H
    | _ => False
  | _ => False
theorem good_extract (s : Sim S m H B w) {x : AV} {i : Nat} {v : Value} (hx : VA S m H x v) (h : aExtract x i H K) : Good P B S m H w (Instr.extract v i) K := by
  unfold aExtract at h
  split at h
  · rename_i bs
    obtain ⟨vs, rfl, hl, hv⟩ := hx
    have get : ∀ b, bs[i]? = some b → ∃ u, vs[i]? = some u ∧ VB S m H b u ∧ (Instr.extract (.tuple vs.toArray) i).run P w = .ok u w := fun b hb => by
      have hlt : i < vs.length := by rw [← hl]; exact (List.getElem?_eq_some_iff.1 hb).1
      have hg := List.getElem?_eq_getElem hlt
      exact ⟨_, hg, hv i b _ hb hg, by simp [Instr.extract, hg]⟩
    split at h
    · rename_i c hb
      obtain ⟨u, h1, ⟨c', hc, h2⟩, h3⟩ := get _ hb
      cases hc
      exact Good.same s (x := .c c) h3 h2 h
    · rename_i cs hb
      obtain ⟨u, h1, h2, h3⟩ := get _ hb
      exact Good.same s (x := .agg cs) h3 h2 h
    · exact h.elim
  · exact h.elim

def aIndex (P : Program) (t : TypeId) (x ix : AV) (H : List AObj) (K : AV → List AObj → Prop) : Prop :=
  match P.underlying t, x, intA ix with
  | some .string, .c (.p (.str s)), some i => 0 ≤ i ∧ ∃ h : i.toNat < s.size, K (.c (.p (.int .u8 (s[i.toNat]'h).toNat))) H
  | _, _, _ => False
theorem good_index (s : Sim S m H B w) {t : TypeId} {x ix : AV} {v vi : Value} (hx : VA S m H x v) (hi : VA S m H ix vi) (h : aIndex P t x ix H K) : Good P B S m H w (Instr.index t v vi) K := by
  unfold aIndex at h
  split at h
  · rename_i st i hu hix
    obtain ⟨k, rfl⟩ := intA_ok hi hix
    obtain ⟨h0, hlt, hk⟩ := h
    cases hx
    refine Good.same s (x := .c (.p (.int .u8 (st[i.toNat]'hlt).toNat))) (v := .int .u8 (st[i.toNat]'hlt).toNat) ?_ (.int _ _) hk
    have : st[i.toNat]? = some (st[i.toNat]'hlt) := by simp [hlt]
    simp [Instr.index, asIntOf, run_underlying hu, h0, this]
  · exact h.elim

def aBuiltin (P : Program) (b : Builtin) (ts : List TypeId) (xs : List AV) (H : List AObj) (K : AV → List AObj → Prop) : Prop :=
  match b, ts, xs with
  | .len, [t], [x] => aLen P t x H K
  | .cap, [t], [x] => aCap P t x H K
  | .append, [t, u], [x, y] => match P.underlying u with
    | some (.int _) => aGrow P t x y H K
    | _ => aAppend P false t u x y H K
  | .min, _, [x, y] => match x, y with
    | .c (.p (.int k a)), .c (.p (.int k' b)) => k' = k ∧ K (.c (.p (.int k (if b < a then b else a)))) H
    | _, _ => False
  | .max, _, [x, y] => match x, y with
    | .c (.p (.int k a)), .c (.p (.int k' b)) => k' = k ∧ K (.c (.p (.int k (if a < b then b else a)))) H
    | _, _ => False
  | _, _, _ => False

def pureL : List AV → Option (List PV)
  | [] => some []
  | .c (.p x) :: r => (pureL r).map (x :: ·)
  | _ => none
def capsL : List AV → Option (List (Nat × Nat))
  | [] => some []
  | .c (.ptr id off) :: r => (capsL r).map ((id, off) :: ·)
  | _ => none
def aMakeFunc (fn : Fn) (first caps : List AV) (H : List AObj) (K : AV → List AObj → Prop) : Prop :=
  match fn, pureL first, capsL caps with
  | .func g, some fs, some cs => K (.c (.clo g fs cs)) H
  | _, _, _ => False
theorem pureL_ok : ∀ {xs : List AV} {vs : List Value} {ps : List PV}, VAs S m H xs vs → pureL xs = some ps → VPs S ps vs
  | [], vs, ps, h, hp => by
    simp [pureL] at hp; subst hp
    have : vs = [] := List.eq_nil_of_length_eq_zero h.1.symm
    subst this; exact VPs.nil S
  | x :: xs, [], ps, h, hp => by simp [VAs] at h
  | x :: xs, v :: vs, ps, h, hp => by
    have h0 := h.2 0 x v rfl rfl
    have ht : VAs S m H xs vs := ⟨by simpa using h.1, fun i x v a b => h.2 (i + 1) x v (by simpa using a) (by simpa using b)⟩
    unfold pureL at hp
    split at hp
    · simp at *
    · rename_i y r heq
      cases heq
      cases hr : pureL xs with
      | none => simp [hr] at hp
      | some qs =>
        simp [hr] at hp; subst hp
        exact VPs.cons h0 (pureL_ok ht hr)
    · cases hp
def CapsOk (m : List Loc) (H : List AObj) (caps : List (Nat × Nat)) (cs : List Value) : Prop :=
  cs.length = caps.length ∧ ∀ (i : Nat) (q : Nat × Nat) (u : Value), caps[i]? = some q → cs[i]? = some u → ∃ b cap ds, H[q.1]? = some (.var ds) ∧ m[q.1]? = some (.at_ b cap) ∧ u = .pointer (some ⟨b, q.2, none⟩)
theorem capsL_ok : ∀ {xs : List AV} {vs : List Value} {cs : List (Nat × Nat)}, VAs S m H xs vs → capsL xs = some cs → CapsOk m H cs vs
  | [], vs, ps, h, hp => by
    simp [capsL] at hp; subst hp
    exact ⟨h.1.symm, fun i q u hq => by simp at hq⟩
  | x :: xs, [], ps, h, hp => by simp [VAs] at h
  | x :: xs, v :: vs, ps, h, hp => by
    have h0 := h.2 0 x v rfl rfl
    have ht : VAs S m H xs vs := ⟨by simpa using h.1, fun i x v a b => h.2 (i + 1) x v (by simpa using a) (by simpa using b)⟩
    unfold capsL at hp
    split at hp
    · simp at *
    · rename_i id off r heq
      cases heq
      cases hr : capsL xs with
      | none => simp [hr] at hp
      | some qs =>
        simp [hr] at hp; subst hp
        obtain ⟨c1, c2⟩ := capsL_ok ht hr
        refine ⟨by simp [c1], fun i q u hq hu => ?_⟩
        cases i with
        | zero => simp at hq hu; subst hq; subst hu; exact h0
        | succ i => exact c2 i q u (by simpa using hq) (by simpa using hu)
    · cases hp
theorem caps_VAs {caps : List (Nat × Nat)} {cs : List Value} (h : CapsOk m H caps cs) : VAs S m H (caps.map capAV) cs := by
  refine ⟨by simp [h.1], fun i x v hx hv => ?_⟩
  rw [List.getElem?_map] at hx
  cases hq : caps[i]? with
  | none => simp [hq] at hx
  | some q => simp [hq] at hx; subst hx; exact h.2 i q v hq hv
theorem VPs.VAs {xs : List PV} {vs : List Value} (h : VPs S xs vs) : VAs S m H (xs.map fun x => .c (.p x)) vs := by
  refine ⟨by simp [h.1], fun i x v hx hv => ?_⟩
  rw [List.getElem?_map] at hx
  cases hq : xs[i]? with
  | none => simp [hq] at hx
  | some q => simp [hq] at hx; subst hx; exact h.2 i q v hq hv

theorem size_two {α : Type} {a : Array α} (h : a.size = 2) : ∃ x y, a = #[x, y] := by
  obtain ⟨l⟩ := a
  match l, h with
  | [x, y], _ => exact ⟨x, y, rfl⟩
/-- The literal nil of a slice's type. -/
def isNilC : Operand → Bool
  | .const (.slice none 0 0) => true
  | _ => false
theorem isNilC_eq {y : Operand} (h : isNilC y = true) : y = .const (.slice none 0 0) := by
  unfold isNilC at h
  split at h
  · rfl
  · cases h
/-- The one operation. 'ow': slice literals are ours to write on. -/
def aop (P : Program) (ow : Bool) (ρ : Operand → AV) (H : List AObj) (o : Op) (K : AV → List AObj → Prop) : Prop :=
  match o with
  | .move x | .assign x => K (ρ x) H
  | .pick c a b => match ρ c with
    | .c (.p (.bool t)) => (t = true → K (ρ a) H) ∧ (t = false → K (ρ b) H)
    | _ => False
  | .alloc e => aAlloc P e H K
  | .box e x => aBox (ρ x) H K
  | .build t ps => aBuild P t (ps.toList.map fun q => (q.1, ρ q.2)) H K
  | .buildSlice t len ps => aBuildSlice P ow t len (ps.toList.map fun q => (q.1, ρ q.2)) H K
  | .load t x => aLoad P t (ρ x) H K
  | .store t x y => aStore P t (ρ x) (ρ y) H (K .any)
  | .nilCheck x => match ρ x with
    | .c (.ptr id off) => K (.c (.ptr id off)) H
    | .c (.pp cs) => K (.c (.pp cs)) H
    | .c (.clo f first caps) => K (.c (.clo f first caps)) H
    | .c (.p (.fn f)) => K (.c (.p (.fn f))) H
    | .c (.yld id) => K (.c (.yld id)) H
    | _ => False
  | .makeMap t r => r = none ∧ K (.c (.mp H.length)) (H ++ [.map []])
  | .insert t x k v => aInsert P t (ρ x) (ρ k) (ρ v) H (K .any)
  | .lookup t x k ok => aLookup P t (ρ x) (ρ k) ok H K
  | .binOp op t x y _ => if isNilC y = true then aNil P op t (ρ x) H K else aBin P op t (ρ x) (ρ y) H K
  | .unOp op _ x => aUn op (ρ x) H K
  | .convert s d x => aConv P s d (ρ x) H K
  | .makeInterface t x => ∃ r, Sem1 P (Instr.makeInterface t) (ρ x) r ∧ K r H
  | .typeAssert x t a ok => ∃ r, Sem1 P (fun v => Instr.typeAssert v t a ok) (ρ x) r ∧ K r H
  | .makeFunc fn first caps => aMakeFunc fn (first.toList.map ρ) (caps.toList.map ρ) H K
  | .makeSlice t l c => aMake P t (ρ l) (ρ c) H K
  | .slice t x lo hi mx => aSlice P t (ρ x) (lo.map ρ) (hi.map ρ) (mx.map ρ) H K
  | .fieldAddr s x f => aFieldAddr P s (ρ x) f H K
  | .field t x f => aField P t (ρ x) f H K
  | .indexAddr t x ix => aIndexAddr P t (ρ x) (ρ ix) H K
  | .index t x ix => aIndex P t (ρ x) (ρ ix) H K
  | .extract x i => aExtract (ρ x) i H K
  | .call c => match c.callee with
    | .value f => aCallee P (ρ f) (c.args.toList.map ρ) H K
    | .invoke r name => aInvoke P (ρ r) name (c.args.toList.map ρ) H K
    | .builtin b => aBuiltin P b c.argTypes.toList (c.args.toList.map ρ) H K
  | _ => False

/-- What holds behind an operation. -/
def Behind (B n : Nat) (S : Mem) (m : List Loc) (H : List AObj) (w : World) (a : Act) (dst : Option Tmp) (K : AV → List AObj → Prop) (a' : Act) (w' : World) : Prop :=
  ∃ v S' m' H' x, a' = a.put dst v ∧ Sim S' m' H' B w' ∧ Ext B S m H S' m' H' ∧ Bel B w w' ∧ VA S' m' H' x v ∧ K x H'
theorem op_good {n : Nat} {a : Act} {o : Oper} {Q : Exit → Act → World → Prop} {c : Sem Value} (he : execOp a.eval o = (do pure (.value (← c)))) (h : Good P B S m H w c K) : o.wp P a w (Behind B n S m H w a o.dst K) Q := by
  obtain ⟨v, w', hr, S', m', H', x, h1, h2, h3, h4, h5⟩ := h
  unfold Oper.wp
  rw [he]
  simp only [Sem.run_bind, hr, Result.andThen_ok, Sem.run_pure, Oper.upon]
  exact ⟨v, S', m', H', x, rfl, h1, h2, h3, h4, h5⟩
theorem evs_VAs {ρ : Operand → AV} {a : Act} (r : ∀ y, VA S m H (ρ y) (a.eval y)) (xs : Array Operand) : VAs S m H (xs.toList.map ρ) (xs.map a.eval).toList := by
  refine ⟨by simp, fun i x v hx hv => ?_⟩
  rw [List.getElem?_map] at hx
  rw [Array.toList_map, List.getElem?_map] at hv
  cases hq : xs.toList[i]? with
  | none => rw [hq] at hx; simp at hx
  | some q => rw [hq] at hx hv; simp at hx hv; subst hx; subst hv; exact r q
theorem evs_Parts {ρ : Operand → AV} {a : Act} (r : ∀ y, VA S m H (ρ y) (a.eval y)) (ps : Array (Nat × Operand)) : PartsOk S m H (ps.toList.map fun q => (q.1, ρ q.2)) (ps.map fun (i, x) => (i, a.eval x)).toList := by
  refine ⟨by simp, fun i x v hx hv => ?_⟩
  rw [List.getElem?_map] at hx
  rw [Array.toList_map, List.getElem?_map] at hv
  cases hq : ps.toList[i]? with
  | none => rw [hq] at hx; simp at hx
  | some q => rw [hq] at hx hv; simp at hx hv; subst hx; subst hv; exact ⟨rfl, r q.2⟩
theorem ev_Opt {ρ : Operand → AV} {a : Act} (r : ∀ y, VA S m H (ρ y) (a.eval y)) (x : Option Operand) : OptV S m H (x.map ρ) (x.map a.eval) := by
  cases x with
  | none => trivial
  | some x => exact r x
theorem call_ok {n : Nat} {a : Act} {o : Oper} {Q : Exit → Act → World → Prop} (s : Sim S m H B w) {f : FuncId} {args : List AV} {vs : List Value} (hv : VAs S m H args vs) (h : ACall P f args H K)
    (hr : (execOp a.eval o).run P w = .ok (.enter f vs.toArray) w) : o.wp P a w (Behind B n S m H w a o.dst K) Q := by
  unfold Oper.wp
  rw [hr]
  refine (h.2 S m B w vs s hv).mono fun e w' ⟨v, he, S', m', H', x, h1, h2, h3, h4, h5⟩ => ?_
  subst he
  exact ⟨v, S', m', H', x, rfl, h1, h2, h3, h4, h5⟩
theorem aop_ok {n : Nat} {ow : Bool} {ρ : Operand → AV} {a : Act} {o : Oper} {Q : Exit → Act → World → Prop} (s : Sim S m H B w) (r : ∀ y, VA S m H (ρ y) (a.eval y)) (h : aop P ow ρ H o.op K) : o.wp P a w (Behind B n S m H w a o.dst K) Q := by
  obtain ⟨dst, op, ty, pos, aft, gd⟩ := o
  cases op <;> simp only [aop] at h <;> try exact h.elim
  case move x => exact op_good (c := pure (a.eval x)) rfl (Good.same s rfl (r x) h)
  case assign x => exact op_good (c := pure (a.eval x)) rfl (Good.same s rfl (r x) h)
  case pick c x y =>
    have hc := r c
    split at h
    · rename_i t heq
      rw [heq] at hc
      have hc' : a.eval c = .bool t := by
        generalize a.eval c = q at hc
        cases hc; rfl
      cases t with
      | true => exact op_good (c := (do pure (if ← asBool (a.eval c) then a.eval x else a.eval y))) (by simp [execOp]) (Good.same s (by simp [hc', asBool]) (r x) (h.1 rfl))
      | false => exact op_good (c := (do pure (if ← asBool (a.eval c) then a.eval x else a.eval y))) (by simp [execOp]) (Good.same s (by simp [hc', asBool]) (r y) (h.2 rfl))
    · exact h.elim
  case alloc e => exact op_good rfl (good_alloc s h)
  case box e x => exact op_good rfl (good_box s (r x) h)
  case build t ps => exact op_good rfl (good_build s (evs_Parts r ps) h)
  case buildSlice t len ps => exact op_good rfl (good_buildSlice s (evs_Parts r ps) h)
  case load t x => exact op_good rfl (good_load s (r x) h)
  case store t x y =>
    obtain ⟨w', hr, S', m', H', h1, h2, h3, h4⟩ := good_store (P := P) s (r x) (r y) h
    unfold Oper.wp
    simp only [execOp, Sem.run_bind, hr, Result.andThen_ok, Sem.run_pure, Oper.upon]
    exact ⟨undef, S', m', H', .any, rfl, h1, h2, h3, trivial, h4⟩
  case nilCheck x =>
    have hx := r x
    split at h
    · rename_i id off heq
      rw [heq] at hx
      obtain ⟨b, cap, cs, h1, h2, h3⟩ := hx
      refine op_good (c := pure (a.eval x)) ?_ (Good.same s (x := .c (.ptr id off)) rfl ⟨b, cap, cs, h1, h2, h3⟩ h)
      simp only [execOp, h3]; rfl
    · rename_i cs heq
      rw [heq] at hx
      obtain ⟨b, off, u, h1, h2⟩ := hx
      refine op_good (c := pure (a.eval x)) ?_ (Good.same s (x := .c (.pp cs)) rfl ⟨b, off, u, h1, h2⟩ h)
      simp only [execOp, h1]; rfl
    · rename_i f first caps heq
      rw [heq] at hx
      obtain ⟨fs, cs, h1, h2⟩ := hx
      refine op_good (c := pure (a.eval x)) ?_ (Good.same s (x := .c (.clo f first caps)) rfl ⟨fs, cs, h1, h2⟩ h)
      simp only [execOp, h1]; rfl
    · rename_i f heq
      rw [heq] at hx
      have h1 : a.eval x = .func (.func f) #[] #[] := by
        generalize a.eval x = q at hx
        cases hx; rfl
      refine op_good (c := pure (a.eval x)) ?_ (Good.same s (x := .c (.p (.fn f))) rfl (by rw [h1]; exact VP.fn f) h)
      simp only [execOp, h1]; rfl
    · rename_i id heq
      rw [heq] at hx
      obtain ⟨b, cap, L, h1, h2, h3⟩ := hx
      refine op_good (c := pure (a.eval x)) ?_ (Good.same s (x := .c (.yld id)) rfl ⟨b, cap, L, h1, h2, h3⟩ h)
      simp only [execOp, h3]; rfl
    · exact h.elim
  case makeMap t rr =>
    obtain ⟨rfl, h⟩ := h
    exact op_good (c := Instr.makeMap t none) rfl (good_makeMap s h)
  case insert t x k v =>
    obtain ⟨w', hr, S', m', H', h1, h2, h3, h4⟩ := good_insert (P := P) s (r x) (r k) (r v) h
    unfold Oper.wp
    simp only [execOp, Sem.run_bind, hr, Result.andThen_ok, Sem.run_pure, Oper.upon]
    exact ⟨undef, S', m', H', .any, rfl, h1, h2, h3, trivial, h4⟩
  case lookup t x k ok => exact op_good rfl (good_lookup s (r x) (r k) h)
  case binOp op t x y yt =>
    split at h
    · rename_i heq
      rw [isNilC_eq heq]
      exact op_good rfl (good_nil s (r x) h)
    · exact op_good rfl (good_bin s (r x) (r y) h)
  case unOp op t x => exact op_good rfl (good_un s (r x) h)
  case convert src d x => exact op_good rfl (good_conv s (r x) h)
  case makeInterface t x =>
    obtain ⟨q, hq, hk⟩ := h
    obtain ⟨u, h1, h2⟩ := hq S m H _ w (r x)
    exact op_good rfl (Good.same s h1 h2 hk)
  case typeAssert x t as ok =>
    obtain ⟨q, hq, hk⟩ := h
    obtain ⟨u, h1, h2⟩ := hq S m H _ w (r x)
    exact op_good rfl (Good.same s h1 h2 hk)
  case makeFunc fn first caps =>
    have h1 := evs_VAs r first
    have h2 := evs_VAs r caps
    unfold aMakeFunc at h
    split at h
    · rename_i g fs cs hf hc
      obtain ⟨c1, c2⟩ := capsL_ok h2 hc
      refine op_good (c := pure (.func (.func g) (first.map a.eval) (caps.map a.eval))) rfl (Good.same s (x := .c (.clo g fs cs)) rfl ⟨(first.map a.eval).toList, (caps.map a.eval).toList, by rw [Array.toArray_toList, Array.toArray_toList], pureL_ok h1 hf, c1, c2⟩ h)
    · exact h.elim
  case makeSlice t l c => exact op_good rfl (good_make s (r l) (r c) h)
  case slice t x lo hi mx => exact op_good rfl (good_slice s (r x) (ev_Opt r lo) (ev_Opt r hi) (ev_Opt r mx) h)
  case fieldAddr st x f => exact op_good rfl (good_fieldAddr s (r x) h)
  case field t x f => exact op_good rfl (good_field s (r x) h)
  case indexAddr t x ix => exact op_good rfl (good_indexAddr s (r x) (r ix) h)
  case index t x ix => exact op_good rfl (good_index s (r x) (r ix) h)
  case extract x i => exact op_good rfl (good_extract s (r x) h)
  case call c =>
    obtain ⟨callee, args, ats⟩ := c
    have ha := evs_VAs r args
    cases callee with
    | value f =>
      simp only at h
      have hf := r f
      unfold aCallee at h
      split at h
      · rename_i g heq
        rw [heq] at hf
        have hf' : a.eval f = .func (.func g) #[] #[] := by
          generalize a.eval f = q at hf
          cases hf; rfl
        refine call_ok s ha h ?_
        have := h.1 (args.map a.eval) w
        rw [Array.toArray_toList]
        simp [execOp, resolve, hf', Deferred.ofValue, invoke, this]
      · rename_i g first caps heq
        rw [heq] at hf
        obtain ⟨fs, cs, hf', hfs, hcl, hcs⟩ := hf
        refine call_ok s (VAs.append (VAs.append hfs.VAs ha) (caps_VAs ⟨hcl, hcs⟩)) h ?_
        have := h.1 (fs.toArray ++ args.map a.eval ++ cs.toArray) w
        have e1 : (fs ++ (args.map a.eval).toList ++ cs).toArray = fs.toArray ++ args.map a.eval ++ cs.toArray := by apply Array.ext'; simp
        rw [e1]
        simpa [execOp, resolve, hf', Deferred.ofValue, invoke] using this
      · exact h.elim
    | invoke recv name =>
      simp only at h
      have hx := r recv
      unfold aInvoke at h
      split at h
      · rename_i x heq
        rw [heq] at hx
        obtain ⟨g, q, hm, hc⟩ := h
        obtain ⟨t, u, rv, h1, h2, h3⟩ := hm S m H _ w hx
        refine call_ok s (args := q :: args.toList.map ρ) (vs := rv :: (args.map a.eval).toList) ⟨by simp, fun i x v hx hv => ?_⟩ hc ?_
        · cases i with
          | zero => simp at hx hv; subst hx; subst hv; exact h3
          | succ i => exact ha.2 i x v (by simpa using hx) (by simpa using hv)
        · have := hc.1 (#[rv] ++ args.map a.eval) w
          have e1 : (rv :: (args.map a.eval).toList).toArray = #[rv] ++ args.map a.eval := by apply Array.ext'; simp
          rw [e1]
          have e2 : (#[a.eval recv] ++ args.map a.eval).extract 1 (#[a.eval recv] ++ args.map a.eval).size = args.map a.eval := by apply Array.ext'; simp; exact List.take_of_length_le (by simp)
          have e3 : (#[a.eval recv] ++ args.map a.eval)[0]? = some (a.eval recv) := by rw [Array.getElem?_append_left (by simp)]; rfl
          have e4 : ∀ A : Array Value, A[0]? = some (.iface t u) → A.extract 1 A.size = args.map a.eval → (invoke (.fn (.method name) #[]) A).run P w = .ok (.enter g (#[rv] ++ args.map a.eval)) w := by
            intro A hA hE
            simp only [invoke, hA, hE, callMethod, Sem.run_bind, run_program, Result.andThen_ok, h2]
            exact this
          rw [h1] at e2 e3
          have := e4 _ e3 e2
          simp only [execOp, resolve, Sem.run_bind, Sem.run_pure, Result.andThen_ok, h1]
          exact this
      · exact h.elim
    | builtin b =>
      simp only at h
      unfold aBuiltin at h
      split at h
      · rename_i t x hts hxs
        obtain ⟨x0, rfl⟩ : ∃ x0, args = #[x0] := by
          have := congrArg List.length hxs
          simp at this
          exact Array.size_eq_one_iff.1 this
        obtain rfl : ats = #[t] := by apply Array.ext'; simpa using hts
        simp at hxs; subst hxs
        refine op_good (c := Builtin.len_ #[t] ty #[a.eval x0]) ?_ (good_len s (r x0) h)
        simp [execOp, resolve, invoke, builtin]
      · rename_i t x hts hxs
        obtain ⟨x0, rfl⟩ : ∃ x0, args = #[x0] := by
          have := congrArg List.length hxs
          simp at this
          exact Array.size_eq_one_iff.1 this
        obtain rfl : ats = #[t] := by apply Array.ext'; simpa using hts
        simp at hxs; subst hxs
        refine op_good (c := Builtin.cap_ #[t] ty #[a.eval x0]) ?_ (good_cap s (r x0) h)
        simp [execOp, resolve, invoke, builtin]
      · rename_i t u x y hts hxs
        obtain ⟨x0, y0, rfl⟩ : ∃ x0 y0, args = #[x0, y0] := by
          have := congrArg List.length hxs
          simp at this
          exact size_two this
        obtain rfl : ats = #[t, u] := by apply Array.ext'; simpa using hts
        simp at hxs
        obtain ⟨rfl, rfl⟩ := hxs
        split at h
        · rename_i kn hn
          refine op_good (c := Builtin.append_ #[t, u] ty #[a.eval x0, a.eval y0]) ?_ (good_grow s hn (r x0) (r y0) h)
          simp [execOp, resolve, invoke, builtin]
        · refine op_good (c := Builtin.append_ #[t, u] ty #[a.eval x0, a.eval y0]) ?_ (good_append s (r x0) (r y0) h)
          simp [execOp, resolve, invoke, builtin]
      · rename_i x y hxs
        obtain ⟨x0, y0, rfl⟩ : ∃ x0 y0, args = #[x0, y0] := by
          have := congrArg List.length hxs
          simp at this
          exact size_two this
        simp at hxs
        obtain ⟨rfl, rfl⟩ := hxs
        have h1 := r x0
        have h2 := r y0
        split at h
        · rename_i k p k' q hx hy
          obtain ⟨rfl, hk⟩ := h
          rw [hx] at h1; rw [hy] at h2
          have e1 : a.eval x0 = .int k' p := by
            generalize a.eval x0 = z at h1
            cases h1; rfl
          have e2 : a.eval y0 = .int k' q := by
            generalize a.eval y0 = z at h2
            cases h2; rfl
          refine op_good (c := pure (.int k' (if q < p then q else p))) ?_ (Good.same s (x := .c (.p (.int k' (if q < p then q else p)))) rfl (VP.int _ _) hk)
          simp [execOp, resolve, invoke, builtin, Builtin.min_, Builtin.min2, e1, e2]
        · exact h.elim
      · rename_i x y hxs
        obtain ⟨x0, y0, rfl⟩ : ∃ x0 y0, args = #[x0, y0] := by
          have := congrArg List.length hxs
          simp at this
          exact size_two this
        simp at hxs
        obtain ⟨rfl, rfl⟩ := hxs
        have h1 := r x0
        have h2 := r y0
        split at h
        · rename_i k p k' q hx hy
          obtain ⟨rfl, hk⟩ := h
          rw [hx] at h1; rw [hy] at h2
          have e1 : a.eval x0 = .int k' p := by
            generalize a.eval x0 = z at h1
            cases h1; rfl
          have e2 : a.eval y0 = .int k' q := by
            generalize a.eval y0 = z at h2
            cases h2; rfl
          refine op_good (c := pure (.int k' (if p < q then q else p))) ?_ (Good.same s (x := .c (.p (.int k' (if p < q then q else p)))) rfl (VP.int _ _) hk)
          simp [execOp, resolve, invoke, builtin, Builtin.max_, Builtin.max2, e1, e2]
        · exact h.elim
      · exact h.elim

/-! ### Within a fence that lets all in -/
abbrev FR (ro : Option Nat) : Fence := { fn := fun _ => True, depth := none, alive := false, round := ro }
theorem CallsIn.ofCalls {ro : Option Nat} {j : Nat} {f : FuncId} {args : Array Value} {R : Ending → World → Prop} (h : Calls P f args w R) : CallsIn (FR ro) j P f args w R := by
  have h1 : CallsIn Fence.wide j P f args w R := callsIn_wide.2 h
  exact h1
theorem RowsIn.ofRows {ro : Option Nat} {j : Nat} {row : String} {args : Array Value} {R : Value → World → Prop} (h : Rows P row args w R) : RowsIn (FR ro) j P row args w R := fun c cs _ => by
  obtain ⟨v, w', hr, hs⟩ := h c cs
  exact ⟨v, w', hr, stepsIn_wide.2 hs⟩
theorem Oper.wpIn_of_wp {ro : Option Nat} {o : Oper} {a : Act} {K : Act → World → Prop} {Q : Exit → Act → World → Prop} (hd : ∀ c, o.op ≠ .defer c) (h : o.wp P a w K Q) : o.wpIn (FR ro) 0 P a w K Q := by
  refine ⟨fun _ _ => trivial, ?_⟩
  rw [Oper.semAt_eq _ _ _ hd]
  unfold Oper.wp at h
  generalize (execOp a.eval o).run P w = q at h ⊢
  cases q with
  | halt x w' => cases x <;> first | exact h | exact h.elim
  | ok nx w' =>
    cases nx with
    | enter f args => exact ⟨fun h => (by cases h), CallsIn.mono (CallsIn.ofCalls h) fun e w'' hh => by cases e <;> exact hh⟩
    | row rw_ args => exact ⟨fun h => (by cases h), RowsIn.mono (RowsIn.ofRows h) fun v w'' hh => hh⟩
    | _ => first | exact h | exact h.elim
/-- What a call of 'yield' comes to, for the record that object id is. -/
def YCall (P : Program) (id : Nat) (args : List AV) (H : List AObj) (K : AV → List AObj → Prop) : Prop :=
  (∃ L, H[id]? = some (.loop L) ∧ L.ps.size = args.length) ∧
  ∀ (S : Mem) (m : List Loc) (B : Nat) (w : World) (vs : List Value) (ro : Option Nat) (b cap : Nat) (R : Loop), Sim S m H B w → VAs S m H args vs → m[id]? = some (.at_ b cap) → w.heap[b]? = some (.loop R) →
    RoundIn (FR ro) 0 P b R.fn ((R.params.zip vs.toArray).foldl (fun tmps (t, x) => tmps.setIfInBounds t x) R.tmps) R.assign R.body w fun e w' => ∃ v, e = .returned v ∧ Post B S m H w K v w'
def yldOf (ρ : Operand → AV) : Op → Option (Nat × List AV)
  | .call c => match c.callee with
    | .value f => match ρ f with
      | .c (.yld id) => some (id, c.args.toList.map ρ)
      | _ => none
    | _ => none
  | _ => none
def aopY (P : Program) (ow : Bool) (ρ : Operand → AV) (H : List AObj) (o : Op) (K : AV → List AObj → Prop) : Prop :=
  match yldOf ρ o with
  | some (id, xs) => YCall P id xs H K
  | none => aop P ow ρ H o K
theorem aop_nodefer {ow : Bool} {ρ : Operand → AV} {o : Op} (h : aop P ow ρ H o K) : ∀ c, o ≠ .defer c := fun c hc => by subst hc; exact h
theorem aopY_ok {n : Nat} {ow : Bool} {ro : Option Nat} {ρ : Operand → AV} {a : Act} {o : Oper} {Q : Exit → Act → World → Prop} (s : Sim S m H B w) (r : ∀ y, VA S m H (ρ y) (a.eval y)) (h : aopY P ow ρ H o.op K) :
    o.wpIn (FR ro) 0 P a w (Behind B n S m H w a o.dst K) Q := by
  unfold aopY at h
  cases hy : yldOf ρ o.op with
  | none =>
    simp only [hy] at h
    exact Oper.wpIn_of_wp (aop_nodefer h) (aop_ok s r h)
  | some q =>
    obtain ⟨id, xs⟩ := q
    simp only [hy] at h
    obtain ⟨dst, op, ty, pos, aft, gd⟩ := o
    simp only at h hy
    unfold yldOf at hy
    split at hy
    · rename_i c
      obtain ⟨callee, args, ats⟩ := c
      simp only at hy
      cases callee with
      | value f =>
        simp only at hy
        split at hy
        · rename_i id' hf
          cases hy
          have hv := r f
          rw [hf] at hv
          obtain ⟨b, cap, L, h1, h2, h3⟩ := hv
          obtain ⟨⟨L', k1, k2⟩, hall⟩ := h
          rw [h1] at k1; cases k1
          have hO := s.obj id _ _ h1 h2
          obtain ⟨g1, fnn, tmps, bd, g2, _⟩ := hO
          have ha := evs_VAs r args
          refine ⟨fun _ _ => trivial, ?_⟩
          rw [Oper.semAt_eq _ _ _ (by intro c hc; cases hc)]
          have hrun : (execOp a.eval ⟨dst, .call ⟨.value f, args, ats⟩, ty, pos, aft, gd⟩).run P w = .ok (.round b fnn ((L.ps.zip (args.map a.eval)).foldl (fun tmps (t, x) => tmps.setIfInBounds t x) tmps) L.assign L.body) w := by
            have hsz : (args.map a.eval).size = L.ps.size := by rw [k2]; simp
            have hy := run_yield (P := P) g2 hsz
            simp only [execOp, resolve, h3, Deferred.ofValue, Sem.run_bind, Sem.run_pure, Result.andThen_ok]
            have e1 : (#[] : Array Value) ++ args.map a.eval = args.map a.eval := by simp
            first | (simpa [invoke] using hy) | (simp [invoke]; exact hy)
          rw [hrun, Oper.uponIn_round]
          refine ⟨fun h => (by cases h), ?_⟩
          have := hall S m B w (args.map a.eval).toList ro b cap _ s ha h2 g2
          rw [Array.toArray_toList] at this
          refine RoundIn.mono this fun e w' ⟨v, he, S', m', H', x, p1, p2, p3, p4, p5⟩ => ?_
          subst he
          exact ⟨v, S', m', H', x, rfl, p1, p2, p3, p4, p5⟩
        · cases hy
      | _ => cases hy
    · cases hy
end
end Go.Aw
