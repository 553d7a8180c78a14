/-
  An abstract memory for walks, part 15: the order that is drawn.
-/
import Derived.Test.YtogappokeheilaaAw14
set_option linter.unusedVariables false
set_option linter.unusedSimpArgs false
namespace Go.Aw
open Go.RowKit

abbrev Sig := Nat → AV
def updS (σ : Sig) (dst : Option Tmp) (x : AV) : Sig := match dst with
  | none => σ
  | some d => fun t => if t = d then x else σ t
def evF (σ : Sig) : Operand → AV
  | .tmp t => σ t
  | x => ev [] x
def rowAt (tab : List Row) (i : Nat) : Row := tab.getD i (none, [])
def stE (P : Program) (ops : Array Oper) (tab : List Row) (i : Nat) (K : Sig → List AObj → Prop) (σ : Sig) (H : List AObj) : Prop :=
  match ops[i]? with
  | none => K σ H
  | some o => match o.guard with
    | none => aopE P (evF σ) (lookF (rowAt tab i).2 H) (rowAt tab i).1 o.op fun x e => K (updS σ o.dst x) (e.on H)
    | some (g, want) => match (ops[g]?).bind (·.dst) with
      | some d => match σ d with
        | .c (.p (.bool b)) => (b = want → aopE P (evF σ) (lookF (rowAt tab i).2 H) (rowAt tab i).1 o.op fun x e => K (updS σ o.dst x) (e.on H)) ∧ (b = (!want) → K (updS σ o.dst (.tup [])) H)
        | .tup [] => K (updS σ o.dst (.tup [])) H
        | _ => False
      | none => False
/-- What the operation gives here. -/
def YE (P : Program) (ops : Array Oper) (r : Row) (o : Oper) (x : AV) (e : Ef) (σ : Sig) (H : List AObj) : Prop :=
  match o.guard with
  | none => aopE P (evF σ) (lookF r.2 H) r.1 o.op fun y f => y = x ∧ f = e
  | some (g, want) => match (ops[g]?).bind (·.dst) with
    | some d => match σ d with
      | .c (.p (.bool b)) => (b = want → aopE P (evF σ) (lookF r.2 H) r.1 o.op fun y f => y = x ∧ f = e) ∧ (b = (!want) → x = .tup [] ∧ e = .none)
      | .tup [] => x = .tup [] ∧ e = .none
      | _ => False
    | none => False
section
variable {P : Program} {ops : Array Oper} {tab : List Row} {n : Nat} {σ : Sig} {H : List AObj} {cx : Cx}
theorem aopE_mono {ρ : Operand → AV} {o : Op} {K K' : AV → Ef → Prop} {hid : List Nat} {wr : Option Nat} (h : aopE P ρ (lookF hid H) wr o K) (hk : ∀ x e, K x e → K' x e) : aopE P ρ (lookF hid H) wr o K' := by
  obtain ⟨x, e, k, _, g⟩ := aopE_lin h
  exact g _ (hk _ _ k)
theorem stE_lin {i : Nat} {o : Oper} {K : Sig → List AObj → Prop} (hi : ops[i]? = some o) (h : stE P ops tab i K σ H) :
    ∃ x e, YE P ops (rowAt tab i) o x e σ H ∧ EfOk (rowAt tab i).1 H e ∧ K (updS σ o.dst x) (e.on H) := by
  unfold stE at h
  simp only [hi] at h
  unfold YE
  split at h
  · obtain ⟨x, e, k, ok, g⟩ := aopE_lin h
    exact ⟨x, e, g _ ⟨rfl, rfl⟩, ok, k⟩
  · split at h
    · split at h
      · rename_i want hgd _ d hd _ b hs
        try simp only [hd, hs]
        by_cases hb : b = want
        · obtain ⟨x, e, k, ok, g⟩ := aopE_lin (h.1 hb)
          exact ⟨x, e, ⟨fun _ => g _ ⟨rfl, rfl⟩, fun h => by subst hb; cases b <;> cases h⟩, ok, k⟩
        · exact ⟨.tup [], .none, ⟨fun h => absurd h hb, fun _ => ⟨rfl, rfl⟩⟩, trivial, h.2 (by cases b <;> cases want <;> simp_all)⟩
      · rename_i hs
        try simp only [hs]
        exact ⟨.tup [], .none, ⟨rfl, rfl⟩, trivial, h⟩
      · exact h.elim
    · exact h.elim
theorem YE.stE {i : Nat} {o : Oper} {x : AV} {e : Ef} {K : Sig → List AObj → Prop} (hi : ops[i]? = some o) (hy : YE P ops (rowAt tab i) o x e σ H) (hk : K (updS σ o.dst x) (e.on H)) : stE P ops tab i K σ H := by
  unfold Aw.stE
  simp only [hi]
  unfold YE at hy
  split at hy
  · exact aopE_mono hy fun y f h => by obtain ⟨rfl, rfl⟩ := h; exact hk
  · split at hy
    · split at hy
      · rename_i want hgd _ d hd _ b hs
        try simp only [hd, hs]
        refine ⟨fun hb => aopE_mono (hy.1 hb) fun y f h => by obtain ⟨rfl, rfl⟩ := h; exact hk, fun hb => ?_⟩
        obtain ⟨rfl, rfl⟩ := hy.2 hb
        exact hk
      · rename_i hs
        try simp only [hs]
        obtain ⟨rfl, rfl⟩ := hy
        exact hk
      · exact hy.elim
    · exact hy.elim
theorem stE_mono {i : Nat} {K K' : Sig → List AObj → Prop} (h : stE P ops tab i K σ H) (hk : ∀ σ H, K σ H → K' σ H) : stE P ops tab i K' σ H := by
  cases hi : ops[i]? with
  | none => unfold stE at h ⊢; simp only [hi] at h ⊢; exact hk _ _ h
  | some o =>
    obtain ⟨x, e, hy, _, k⟩ := stE_lin hi h
    exact hy.stE hi (hk _ _ k)
theorem YE.ok {o : Oper} {r : Row} {x : AV} {e : Ef} (h : YE P ops r o x e σ H) : EfOk r.1 H e ∨ False := by
  unfold YE at h
  split at h
  · obtain ⟨_, _, ⟨rfl, rfl⟩, ok, _⟩ := aopE_lin h; exact .inl ok
  · split at h
    · split at h
      · rename_i want hgd _ d hd _ b hs
        by_cases hb : b = want
        · obtain ⟨_, _, ⟨rfl, rfl⟩, ok, _⟩ := aopE_lin (h.1 hb); exact .inl ok
        · obtain ⟨rfl, rfl⟩ := h.2 (by cases b <;> cases want <;> simp_all)
          exact .inl trivial
      · obtain ⟨rfl, rfl⟩ := h
        exact .inl trivial
      · exact h.elim
    · exact h.elim
theorem YE.same {o : Oper} {r : Row} {x y : AV} {e f : Ef} {dst : Option Tmp} (hd : ∀ d, dst = some d → d ∉ o.looksAt ops) (hl : lookF r.2 (f.on H) = lookF r.2 H) :
    YE P ops r o x e (updS σ dst y) (f.on H) = YE P ops r o x e σ H := by
  have hev : ∀ z ∈ o.op.operands, evF (updS σ dst y) z = evF σ z := fun z hz => by
    cases dst with
    | none => rfl
    | some d =>
      cases z with
      | tmp t =>
        have : t ≠ d := fun h => hd d rfl (by subst h; exact List.mem_append_left _ (List.mem_filterMap.2 ⟨.tmp t, by simpa using hz, rfl⟩))
        simp [evF, updS, this]
      | _ => rfl
  have hop : ∀ K, aopE P (evF (updS σ dst y)) (lookF r.2 (f.on H)) r.1 o.op K = aopE P (evF σ) (lookF r.2 H) r.1 o.op K := fun K => by
    rw [aopE_congr hev, hl]
  unfold YE
  cases hg : o.guard with
  | none => simp only [hop]
  | some q =>
    obtain ⟨g, want⟩ := q
    simp only
    cases ht : (ops[g]?).bind (·.dst) with
    | none => rfl
    | some t =>
      have hs : updS σ dst y t = σ t := by
        cases dst with
        | none => rfl
        | some d =>
          have : t ≠ d := fun h => hd d rfl (by subst h; simp [Oper.looksAt, hg, ht])
          simp [updS, this]
      simp only [hs, hop]
/-- Two operations that may change places. -/
def compat (r s : Row) : Bool :=
  (match r.1 with | some id => s.2.contains id | none => true) && (match s.1 with | some id => r.2.contains id | none => true) &&
  (match r.1, s.1 with | some i, some j => i != j | _, _ => true)
theorem compat_symm {r s : Row} (h : compat r s = true) : compat s r = true := by
  unfold compat at h ⊢
  simp only [Bool.and_eq_true] at h ⊢
  obtain ⟨⟨h1, h2⟩, h3⟩ := h
  refine ⟨⟨h2, h1⟩, ?_⟩
  generalize r.1 = a at *
  generalize s.1 = b at *
  cases a <;> cases b <;> simp_all
  exact fun h => h3 h.symm
theorem lookF_on {r s : Row} {e : Ef} (h : compat r s = true) (ok : EfOk r.1 H e) : lookF s.2 (e.on H) = lookF s.2 H := by
  have hc : ∀ id, r.1 = some id → s.2.contains id = true := fun id hid => by
    unfold compat at h
    simp only [hid, Bool.and_eq_true] at h
    exact h.1.1
  funext id'
  unfold lookF
  split
  · rfl
  · rename_i hn
    cases e with
    | none => rfl
    | set id ob =>
      have : id ≠ id' := fun hh => hn (by rw [← hh]; exact hc id ok.1)
      simp only [Ef.on]
      rw [List.getElem?_set_ne this]
theorem on_comm {e f : Ef} {r s : Row} (h : compat r s = true) (oke : EfOk r.1 H e) (okf : EfOk s.1 H f) : f.on (e.on H) = e.on (f.on H) := by
  unfold compat at h
  simp only [Bool.and_eq_true] at h
  obtain ⟨⟨h1, h2⟩, h3⟩ := h
  cases e with
  | none => rfl
  | set id ob =>
    cases f with
    | none => rfl
    | set id' ob' =>
      simp only [Ef.on]
      rw [oke.1, okf.1] at h3
      simp only [bne_iff_ne, ne_eq] at h3
      exact List.set_comm _ _ h3
theorem updS_comm {x y : Option Tmp} (u v : AV) (h : ∀ d, x = some d → y ≠ some d) : updS (updS σ x u) y v = updS (updS σ y v) x u := by
  cases x with
  | none => rfl
  | some d =>
    cases y with
    | none => rfl
    | some e =>
      have hne : d ≠ e := fun he => h d rfl (he ▸ rfl)
      funext t
      simp only [updS]
      by_cases h1 : t = d
      · by_cases h2 : t = e
        · exact absurd (h1.symm.trans h2) hne
        · simp [h1, h2]
          intro h3; exact absurd h3 hne
      · by_cases h2 : t = e
        · simp [h1, h2]
          intro h3; exact absurd h3.symm hne
        · simp [h1, h2]
theorem stE_put {i j : Nat} {oi oj : Oper} {x : AV} {e : Ef} (hj : ops[j]? = some oj) (hap : oi.apart ops oj = true) (hc : compat (rowAt tab i) (rowAt tab j) = true)
    {K : Sig → List AObj → Prop} (hy : YE P ops (rowAt tab i) oi x e σ H) (h : stE P ops tab j K (updS σ oi.dst x) (e.on H)) :
    stE P ops tab j (fun σ' H' => YE P ops (rowAt tab i) oi x e σ' H' ∧ K (updS σ' oi.dst x) (e.on H')) σ H := by
  obtain ⟨h1, h2, h3⟩ := Oper.apart_spec hap
  have oke : EfOk (rowAt tab i).1 H e := hy.ok.resolve_right id
  obtain ⟨y, f, hyj, okf', k⟩ := stE_lin hj h
  have hyj' : YE P ops (rowAt tab j) oj y f σ H := by
    rw [YE.same h1 (lookF_on hc oke)] at hyj
    exact hyj
  have okf : EfOk (rowAt tab j).1 H f := hyj'.ok.resolve_right id
  refine hyj'.stE hj ⟨?_, ?_⟩
  · rw [YE.same h3 (lookF_on (compat_symm hc) okf)]
    exact hy
  · rw [← updS_comm _ _ h2, ← on_comm hc oke okf]
    exact k

def wpAnyE (P : Program) (md : Region.Mode) (ops : Array Oper) (tab : List Row) (Q : Sig → List AObj → Prop) : Nat → Array Bool → Sig → List AObj → Prop
  | 0, listed, σ, H => Region.ready md ops listed = [] ∧ Q σ H
  | fuel + 1, listed, σ, H => (Region.ready md ops listed = [] → Q σ H) ∧ ∀ i ∈ Region.ready md ops listed, stE P ops tab i (wpAnyE P md ops tab Q fuel (listed.setIfInBounds i true)) σ H
theorem wpAnyE_first {md : Region.Mode} {Q : Sig → List AObj → Prop} {i : Nat} {oi : Oper} {x : AV} {e : Ef} (hi : ops[i]? = some oi) :
    ∀ (fuel : Nat) (listed : Array Bool) (σ : Sig) (H : List AObj),
      (∀ j oj, ops[j]? = some oj → j ≠ i → listed.getD j true = false → (∀ e ∈ oj.after, Region.binds md e = true → e.on ≠ i) → oi.apart ops oj = true ∧ compat (rowAt tab i) (rowAt tab j) = true) →
      i ∈ Region.ready md ops listed → YE P ops (rowAt tab i) oi x e σ H →
      wpAnyE P md ops tab Q fuel (listed.setIfInBounds i true) (updS σ oi.dst x) (e.on H) → wpAnyE P md ops tab Q (fuel + 1) listed σ H := by
  intro fuel
  induction fuel with
  | zero =>
    intro listed σ H _ hr hy h
    refine ⟨fun h => (by rw [h] at hr; cases hr), fun j hj => ?_⟩
    by_cases hji : j = i
    · subst hji; exact hy.stE hi h
    · have := ready_mono hj hji
      rw [h.1] at this
      cases this
  | succ fuel ih =>
    intro listed σ H hfree hr hy h
    refine ⟨fun h => (by rw [h] at hr; cases hr), fun j hj => ?_⟩
    by_cases hji : j = i
    · subst hji; exact hy.stE hi h
    · have h1 := h.2 j (ready_mono hj hji)
      obtain ⟨hjun, oj, hoj, hall⟩ := mem_ready.1 hj
      have hnot : ∀ e ∈ oj.after, Region.binds md e = true → e.on ≠ i := fun e he hb heq => by
        have h1 := hall e he hb
        have h0 := (mem_ready.1 hr).1
        rw [heq] at h1
        rcases Nat.lt_or_ge i listed.size with h' | h'
        · simp [h'] at h0 h1; rw [h0] at h1; cases h1
        · simp [Array.getElem?_eq_none h'] at h1
      obtain ⟨hap, hcp⟩ := hfree j oj hoj hji hjun hnot
      have h2 := stE_put hoj hap hcp hy h1
      have hfree' : ∀ k ok, ops[k]? = some ok → k ≠ i → (listed.setIfInBounds j true).getD k true = false →
          (∀ e ∈ ok.after, Region.binds md e = true → e.on ≠ i) → oi.apart ops ok = true ∧ compat (rowAt tab i) (rowAt tab k) = true := fun k ok hk hki hun hno => by
        refine hfree k ok hk hki ?_ hno
        by_cases hjk : j = k
        · subst hjk; exact hjun
        · rw [getD_set_ne true hjk] at hun; exact hun
      refine stE_mono h2 fun σ' H' h3 => ih (listed.setIfInBounds j true) σ' H' hfree' (ready_mono hr (Ne.symm hji)) h3.1 ?_
      rw [Array.setIfInBounds_comm _ _ hji]
      exact h3.2

def freeE (md : Region.Mode) (ops : Array Oper) (tab : List Row) (listed : Array Bool) (i : Nat) : Bool :=
  match ops[i]? with
  | none => false
  | some oi => (List.range ops.size).all fun j => j == i || listed.getD j true || match ops[j]? with
      | some oj => oj.after.any (fun e => Region.binds md e && e.on == i) || (oi.apart ops oj && compat (rowAt tab i) (rowAt tab j))
      | none => true
theorem freeE_spec {md : Region.Mode} {i : Nat} {oi : Oper} {listed : Array Bool} (hi : ops[i]? = some oi) (h : freeE md ops tab listed i = true) (j : Nat) (oj : Oper)
    (hj : ops[j]? = some oj) (hne : j ≠ i) (hun : listed.getD j true = false) (hno : ∀ e ∈ oj.after, Region.binds md e = true → e.on ≠ i) :
    oi.apart ops oj = true ∧ compat (rowAt tab i) (rowAt tab j) = true := by
  simp only [freeE, hi, List.all_eq_true, List.mem_range] at h
  have h1 := h j (Array.getElem?_eq_some_iff.1 hj).1
  simp only [hj, Bool.or_eq_true, beq_iff_eq, hne, false_or, hun, Bool.false_eq_true] at h1
  rcases h1 with h1 | h1
  · obtain ⟨e, he, hb⟩ := Array.any_eq_true'.1 h1
    simp only [Bool.and_eq_true, beq_iff_eq] at hb
    exact absurd hb.2 (hno e he hb.1)
  · simpa using h1
def lexE (md : Region.Mode) (ops : Array Oper) (tab : List Row) : Nat → Nat → Array Bool → Bool
  | 0, _, listed => (Region.ready md ops listed).isEmpty
  | fuel + 1, k, listed => (Region.ready md ops listed).contains k && freeE md ops tab listed k && lexE md ops tab fuel (k + 1) (listed.setIfInBounds k true)
/-- The closed check on a region: whatever order is drawn, it comes to the text's. -/
def drawB (n : Nat) (ops : Array Oper) (tab : List Row) : Bool :=
  (ops.all fun o => match o.dst with | some d => decide (d < n) | none => true) && lexE .any ops tab ops.size 0 (Array.replicate ops.size false)
def runE (P : Program) (ops : Array Oper) (tab : List Row) (Q : Sig → List AObj → Prop) : Nat → Nat → Sig → List AObj → Prop
  | 0, _, σ, H => Q σ H
  | c + 1, k, σ, H => stE P ops tab k (runE P ops tab Q c (k + 1)) σ H
theorem wpAnyE_lex {md : Region.Mode} {Q : Sig → List AObj → Prop} : ∀ (c k : Nat) (listed : Array Bool) (σ : Sig) (H : List AObj), k + c = ops.size →
    lexE md ops tab c k listed = true → runE P ops tab Q c k σ H → wpAnyE P md ops tab Q c listed σ H
  | 0, _, _, _, _, _, hB, h => ⟨by simpa [lexE] using hB, h⟩
  | c + 1, k, listed, σ, H, hk, hB, h => by
    have hlt : k < ops.size := by omega
    have h0 : ops[k]? = some ops[k] := Array.getElem?_eq_getElem hlt
    simp only [lexE, Bool.and_eq_true] at hB
    obtain ⟨⟨hr, hf⟩, hB'⟩ := hB
    obtain ⟨x, e, hy, _, hK⟩ := stE_lin h0 h
    exact wpAnyE_first h0 c listed σ H (freeE_spec h0 hf) (by simpa using hr) hy (wpAnyE_lex c (k + 1) _ _ _ (by omega) hB' hK)

/-! ### The world -/
structure FRel (ro : Option Nat) (S : Mem) (m : List Loc) (H : List AObj) (n : Nat) (σ : Sig) (a : Act) : Prop where
  defers : DefOk ro m H a.defers (σ DEF)
  big : n ≤ DEF
  size : a.tmps.size = n
  slot : ∀ d, VA S m H (σ d) (a.tmps.getD d undef)
def InF (cx : Cx) (n : Nat) (σ : Sig) (H : List AObj) (a : Act) (w : World) : Prop :=
  ∃ S m, Sim S m H cx.B w ∧ Ext cx.B cx.S0 cx.m0 cx.H0 S m H ∧ Bel cx.B cx.w0 w ∧ FRel cx.ro S m H n σ a
theorem FRel.eval {ro : Option Nat} {S : Mem} {m : List Loc} {a : Act} (h : FRel ro S m H n σ a) (x : Operand) : VA S m H (evF σ x) (a.eval x) := by
  cases x with
  | tmp t => exact h.slot t
  | const v => exact absA_ok S m H v
  | global g => trivial
  | func f => exact VP.fn f
theorem FRel.ext {ro : Option Nat} {B : Nat} {S S' : Mem} {m m' : List Loc} {H H' : List AObj} {a : Act} (h : FRel ro S m H n σ a) (e : Ext B S m H S' m' H') : FRel ro S' m' H' n σ a :=
  ⟨h.defers.ext e, h.big, h.size, fun d => (h.slot d).ext e⟩
theorem FRel.put {ro : Option Nat} {S : Mem} {m : List Loc} {a : Act} (h : FRel ro S m H n σ a) {dst : Option Tmp} (hd : ∀ d, dst = some d → d < n) {x : AV} {v : Value} (hv : VA S m H x v) : FRel ro S m H n (updS σ dst x) (a.put dst v) := by
  cases dst with
  | none => exact h
  | some d =>
    have hd := hd d rfl
    refine ⟨by
      simp only [updS]
      rw [if_neg (fun h2 : DEF = d => absurd (Nat.lt_of_lt_of_le hd h.big) (by rw [h2]; exact Nat.lt_irrefl _))]
      exact h.defers, h.big, by simp [Act.put, h.size], fun t => ?_⟩
    simp only [updS, Act.put]
    by_cases ht : t = d
    · subst ht
      simp only [if_true]
      have : (a.tmps.setIfInBounds t v).getD t undef = v := by simp [Array.getD_eq_getD_getElem?, h.size, hd]
      rw [this]; exact hv
    · simp only [if_neg ht]
      have : (a.tmps.setIfInBounds d v).getD t undef = a.tmps.getD t undef := by
        simp only [Array.getD_eq_getD_getElem?]
        rw [Array.getElem?_setIfInBounds_ne (Ne.symm ht)]
      rw [this]; exact h.slot t
theorem aopE_nodefer {ρ : Operand → AV} {look : Look} {wr : Option Nat} {o : Op} {K : AV → Ef → Prop} (h : aopE P ρ look wr o K) : ∀ c, o ≠ .defer c := fun c hc => by subst hc; cases wr <;> exact h
theorem stE_wp {i : Nat} {K : Sig → List AObj → Prop} {K' : Act → World → Prop} {Q : Exit → Act → World → Prop} {a : Act} {w : World} (hn : ∀ (j : Nat) (o : Oper), ops[j]? = some o → ∀ d, o.dst = some d → d < n)
    (hin : InF cx n σ H a w) (h : stE P ops tab i K σ H) (hk : ∀ σ' H' a' w', InF cx n σ' H' a' w' → K σ' H' → K' a' w') : wpOpIn (FR cx.ro) 0 P ops Q i K' a w := by
  obtain ⟨S, m, s, e, b, r⟩ := hin
  unfold wpOpIn
  unfold stE at h
  cases hi : ops[i]? with
  | none => simp only [hi] at h ⊢; exact hk _ _ _ _ ⟨S, m, s, e, b, r⟩ h
  | some o =>
    simp only [hi] at h ⊢
    have run : (aopE P (evF σ) (lookF (rowAt tab i).2 H) (rowAt tab i).1 o.op fun x e => K (updS σ o.dst x) (e.on H)) → o.wpIn (FR cx.ro) 0 P a w K' Q := fun h => by
      refine Oper.wpIn_mono ?_ (Oper.wpIn_of_wp (aopE_nodefer h) (aopE_wp (n := n) s r.eval h))
      rintro a' w' ⟨v, S', m', H', x, rfl, h1, h2, h3, h4, e', rfl, h5⟩
      exact hk _ _ _ _ ⟨S', m', h1, e.trans h2, b.trans h3, (r.ext h2).put (hn i o hi) h4⟩ h5
    cases hg : o.guard with
    | none =>
      simp only [hg] at h
      rw [if_pos (by simp [Region.wanted, hg])]
      exact run h
    | some q =>
      obtain ⟨j, want⟩ := q
      simp only [hg] at h
      cases hd : (ops[j]?).bind (·.dst) with
      | none => simp [hd] at h
      | some d =>
        simp only [hd] at h
        have hs := r.slot d
        split at h
        · rename_i bb heq
          rw [heq] at hs
          have hb : a.tmps.getD d undef = .bool bb := by
            generalize a.tmps.getD d undef = z at hs
            cases hs; rfl
          have hy : yielded ops a.tmps j = some bb := by
            unfold yielded
            rw [hd]
            have : a.tmps[d]? = some (.bool bb) := by
              rw [Array.getD_eq_getD_getElem?] at hb
              cases ht : a.tmps[d]? with
              | none => rw [ht] at hb; cases hb
              | some z => rw [ht] at hb; simp at hb; rw [hb]
            simp [this]
          by_cases hw : bb = want
          · rw [if_pos (by simp [Region.wanted, hg, hy, hw])]
            exact run (h.1 hw)
          · rw [if_neg (by simp [Region.wanted, hg, hy, hw])]
            have hw' : bb = !want := by cases bb <;> cases want <;> simp_all
            exact ⟨fun _ _ => trivial, hk _ _ _ _ ⟨S, m, s, e, b, r.put (hn i o hi) (x := .tup []) (v := undef) und_ok⟩ (h.2 hw')⟩
        · rename_i heq
          rw [heq] at hs
          obtain ⟨vs, hv, hl, _⟩ := hs
          have hvs : vs = [] := List.eq_nil_of_length_eq_zero (by simpa using hl.symm)
          subst hvs
          have hy : yielded ops a.tmps j = none := by
            unfold yielded
            rw [hd]
            rw [Array.getD_eq_getD_getElem?] at hv
            cases ht : a.tmps[d]? with
            | none => simp [ht]
            | some z => rw [ht] at hv; simp at hv; subst hv; simp [ht]
          rw [if_neg (by simp [Region.wanted, hg, hy])]
          exact ⟨fun _ _ => trivial, hk _ _ _ _ ⟨S, m, s, e, b, r.put (hn i o hi) (x := .tup []) (v := undef) und_ok⟩ h⟩
        · exact h.elim
theorem wpAnyE_sound {md : Region.Mode} {Q : Sig → List AObj → Prop} {Q' : Exit → Act → World → Prop} (hn : ∀ (j : Nat) (o : Oper), ops[j]? = some o → ∀ d, o.dst = some d → d < n)
    (hq : ∀ σ H a w, InF cx n σ H a w → Q σ H → Q' .normal a w) : ∀ (fuel : Nat) (listed : Array Bool) (σ : Sig) (H : List AObj) (a : Act) (w : World),
    InF cx n σ H a w → wpAnyE P md ops tab Q fuel listed σ H → wpAnyIn (FR cx.ro) 0 P md ops Q' fuel listed a w
  | 0, _, _, _, _, _, hin, h => ⟨h.1, hq _ _ _ _ hin h.2⟩
  | fuel + 1, _, _, _, _, _, hin, h => ⟨fun h0 => hq _ _ _ _ hin (h.1 h0), fun i hi => stE_wp hn hin (h.2 i hi) fun σ' H' a' w' hin' k => wpAnyE_sound hn hq fuel _ σ' H' a' w' hin' k⟩

/-! ### The text's order -/
def putL (dst : Option Tmp) (x : AV) (sl : Slots) : Slots := match dst with
  | none => sl
  | some d => (d, x) :: sl
def dStep (P : Program) (ops : Array Oper) (r : Row) (o : Oper) (sl : Slots) (H : List AObj) (K : Slots → List AObj → Prop) : Prop :=
  match o.guard with
  | none => aopE P (ev sl) (lookF r.2 H) r.1 o.op fun x e => K (putL o.dst x sl) (e.on H)
  | some (g, want) => match (ops[g]?).bind (·.dst) with
    | some d => match getS sl d with
      | .c (.p (.bool b)) => (b = want → aopE P (ev sl) (lookF r.2 H) r.1 o.op fun x e => K (putL o.dst x sl) (e.on H)) ∧ (b = (!want) → K (putL o.dst (.tup []) sl) H)
      | .tup [] => K (putL o.dst (.tup []) sl) H
      | _ => False
    | none => False
def dOps (P : Program) (ops : Array Oper) : List Oper → List Row → Slots → List AObj → (Slots → List AObj → Prop) → Prop
  | [], _, sl, H, K => K sl H
  | o :: l, [], sl, H, K => dStep P ops (none, []) o sl H fun sl' H' => dOps P ops l [] sl' H' K
  | o :: l, r :: tab, sl, H, K => dStep P ops r o sl H fun sl' H' => dOps P ops l tab sl' H' K
theorem getS_put (dst : Option Tmp) (x : AV) (sl : Slots) : getS (putL dst x sl) = updS (getS sl) dst x := by
  cases dst with
  | none => rfl
  | some d => funext t; rfl
theorem evF_getS (sl : Slots) : evF (getS sl) = ev sl := by
  funext x
  cases x <;> rfl
theorem runE_of_dOps {K : Slots → List AObj → Prop} : ∀ (l : List Oper) (k : Nat) (rs : List Row) (sl : Slots) (H : List AObj), (∀ j, l[j]? = ops[k + j]?) → (∀ j, rowAt rs j = rowAt tab (k + j)) →
    dOps P ops l rs sl H K → runE P ops tab (fun σ H => ∃ sl', getS sl' = σ ∧ K sl' H) l.length k (getS sl) H
  | [], k, rs, sl, H, _, _, h => ⟨sl, rfl, h⟩
  | o :: l, k, rs, sl, H, hl, hr, h => by
    have h0 : ops[k]? = some o := by simpa using (hl 0).symm
    have ih : ∀ sl' H', dOps P ops l rs.tail sl' H' K → runE P ops tab (fun σ H => ∃ sl', getS sl' = σ ∧ K sl' H) l.length (k + 1) (getS sl') H' := fun sl' H' h' =>
      runE_of_dOps l (k + 1) rs.tail sl' H' (fun j => by have := hl (j + 1); simpa [Nat.add_assoc, Nat.add_comm 1 j] using this) (fun j => by
        have := hr (j + 1)
        rw [show k + 1 + j = k + (j + 1) by omega, ← this]
        cases rs <;> rfl) h'
    have h' : dStep P ops (rowAt rs 0) o sl H fun sl' H' => dOps P ops l rs.tail sl' H' K := by
      cases rs <;> exact h
    rw [hr 0] at h'
    simp only [List.length_cons, runE]
    unfold stE
    simp only [h0]
    unfold dStep at h'
    have key : ∀ sl' H', (fun sl' H' => dOps P ops l rs.tail sl' H' K) sl' H' → runE P ops tab (fun σ H => ∃ sl', getS sl' = σ ∧ K sl' H) l.length (k + 1) (getS sl') H' := ih
    split at h'
    · rw [evF_getS]
      exact aopE_mono h' fun x e hk => by rw [← getS_put]; exact ih _ _ hk
    · split at h'
      · split at h'
        · rename_i want hgd _ d hd _ b hs
          try simp only [hd, hs]
          rw [evF_getS]
          exact ⟨fun hb => aopE_mono (h'.1 hb) fun x e hk => by rw [← getS_put]; exact ih _ _ hk, fun hb => by rw [← getS_put]; exact ih _ _ (h'.2 hb)⟩
        · rename_i hs
          try simp only [hs]
          rw [← getS_put]; exact ih _ _ h'
        · exact h'.elim
      · exact h'.elim
theorem AW.draw {k : Nat} {sl : Slots} {Q : Exit → Slots → List AObj → Prop} {id : Nat} (tab : List Row) (hm : P.follows .mixedOrders = true) (hB : drawB n ops tab = true)
    (h : dOps P ops ops.toList tab sl H (Q .normal)) : AW P n k (.region id ops true) Q sl H := fun cx hk a w hin => by
  simp only [drawB, Bool.and_eq_true] at hB
  have hn : ∀ (j : Nat) (o : Oper), ops[j]? = some o → ∀ d, o.dst = some d → d < n := fun j o hj d hd => by
    have := Array.all_eq_true_iff_forall_mem.1 hB.1 o (Array.mem_of_getElem? hj)
    simpa [hd] using this
  obtain ⟨S, m, s, e, b, r⟩ := hin
  have hd : InF cx n (getS sl) H a { w with drawn := w.drawn + 1 } := ⟨S, m, s.drew, e, b.drew, ⟨r.defers, r.big, r.size, r.slot⟩⟩
  refine wpIn_region_any hm (wpAnyE_sound (tab := tab) (cx := cx) hn (Q := fun σ H => ∃ sl', getS sl' = σ ∧ Q .normal sl' H) ?_ _ _ (getS sl) H a _ hd ?_)
  · rintro σ H a w ⟨S, m, s, e, b, r⟩ ⟨sl', rfl, hq⟩
    exact ⟨sl', H, ⟨S, m, s, e, b, ⟨r.defers, r.big, r.size, r.slot⟩⟩, hq⟩
  · have h1 := runE_of_dOps (tab := tab) (ops := ops) ops.toList 0 tab sl H (fun j => by simp) (fun j => by simp) h
    have := wpAnyE_lex (md := .any) ops.size 0 (Array.replicate ops.size false) (getS sl) H (by simp) hB.2 (by simpa using h1)
    exact this
end
end Go.Aw
