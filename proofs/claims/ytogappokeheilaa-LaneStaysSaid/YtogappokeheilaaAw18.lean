/-
  An abstract memory for walks, part 18: the row of a law that is true whatever the input.
-/
import Derived.Test.YtogappokeheilaaAw17
set_option linter.unusedVariables false
set_option linter.unusedSimpArgs false
namespace Go.Aw
open Go.RowKit Go.ChangeShapes Go.WideShapes Go.ChangeAt
def aggB (P : Program) (t : TypeId) : Bool := match P.underlying t with
  | some (.struct _) => true
  | _ => false
def isStr : TypeDesc → Bool
  | .struct _ => true
  | _ => false
theorem aggB_eq {P : Program} {t : TypeId} {u : TypeDesc} (hu : P.underlying t = some u) : aggB P t = isStr u := by
  unfold aggB; rw [hu]; cases u <;> rfl
def HasTs (P : Program) (f : Nat) : List TypeId → List PB → Prop
  | [], [] => True
  | t :: ts, b :: bs => b.1 = aggB P t ∧ HasT P f t b.2 ∧ HasTs P f ts bs
  | _, _ => False
section
variable {H : Type} {enc : TypeId × Value → H} {P : Program} {w w' : World}
theorem read_arg {f : Nat} {t : TypeId} {v : Value} {d : DataW H} {p : List MemPlace} {base : Nat} (hv : Value.okWide P w .any base t v) (ht : DataW.Trod enc P w 0 (fun _ => true) true t v d p) (hok : okT P f t = true)
    (hw : ∀ n ∈ d.weights P t, n ≤ reachBytes) : ∃ b : PB, VPB (memW w) b v ∧ b.1 = aggB P t ∧ HasT P f t b.2 := by
  obtain ⟨fuel, hf⟩ := ht
  obtain ⟨xs, hx, hT⟩ := trod_read f fuel t v.cells.toList d p hok hf hw
  cases f with
  | zero => simp [okT] at hok
  | succ f =>
    unfold Value.okWide at hv
    have single : (∃ x, xs = [x]) → v.cells = #[v] → ∃ b : PB, VPB (memW w) b v ∧ b.1 = false ∧ HasT P (f + 1) t b.2 := fun ⟨x, hxs⟩ hc => by
      subst hxs
      refine ⟨(false, [x]), ⟨.p x, rfl, ?_⟩, rfl, hT⟩
      rw [hc] at hx
      exact hx.2 0 x v rfl rfl
    have notagg : Cell.okWide P w .any base t v → (∀ fs, P.underlying t ≠ some (.struct fs)) → v.cells = #[v] := fun hc hn => by
      cases v <;> first | rfl | skip
      exfalso
      unfold Cell.okWide at hc
      split at hc <;> first | (rename_i h; cases h; done) | (rename_i h1 h2; cases h2; done) | skip
      unfold Cell.ok at hc
      split at hc <;> first | (rename_i h; cases h; done) | (rename_i h1 h2; cases h2; done) | exact hc
    cases hu : P.underlying t with
    | none => simp [okT, hu] at hok
    | some u =>
      simp only [okT, hu] at hok
      rw [aggB_eq hu]
      have hT0 := hT
      simp only [HasT, hu] at hT
      cases u <;> try (simp at hok; done)
      case struct fs =>
        rw [hu] at hv
        obtain ⟨cs, rfl, _, _⟩ := hv
        exact ⟨(true, xs), ⟨cs.toList, by simp, hx.cells⟩, rfl, hT0⟩
      all_goals
        rw [hu] at hv
        refine single ?_ (notagg hv fun fs h => by rw [hu] at h; cases h)
        first | (obtain ⟨b, rfl⟩ := hT; exact ⟨_, rfl⟩) | (obtain ⟨b, rfl, _⟩ := hT; exact ⟨_, rfl⟩)
theorem read_args {f : Nat} {base : Nat} : ∀ {ts : List TypeId} {vs : List Value} {ds : List (DataW H)} {p : List MemPlace}, DataW.TrodAll enc P w 0 (fun _ => true) true ts vs ds p →
    (∀ (j : Nat) t v, ts[j]? = some t → vs[j]? = some v → Value.okWide P w .any base t v) → (∀ t ∈ ts, okT P f t = true) → (∀ n ∈ DataW.weightsEach P ts ds, n ≤ reachBytes) →
    ∃ bs : List PB, VPBs (memW w) bs vs ∧ HasTs P f ts bs
  | [], vs, ds, p, h, hv, hok, hw => by
    obtain ⟨rfl, rfl, rfl⟩ := trodAll_nil h
    exact ⟨[], ⟨rfl, fun i b v h => by simp at h⟩, trivial⟩
  | t :: ts, vs, ds, p, h, hv, hok, hw => by
    obtain ⟨v, vs', d, ds', p1, q, rfl, rfl, rfl, h1, h2⟩ := trodAll_cons h
    simp only [DataW.weightsEach, List.mem_append] at hw
    obtain ⟨b, b1, b2, b3⟩ := read_arg (hv 0 t v rfl rfl) h1 (hok t (by simp)) fun n hn => hw n (.inl hn)
    obtain ⟨bs, c1, c2⟩ := read_args h2 (fun j t v a b => hv (j + 1) t v (by simpa using a) (by simpa using b)) (fun t ht => hok t (by simp [ht])) fun n hn => hw n (.inr hn)
    refine ⟨b :: bs, ⟨by simp [c1.1], fun i x u hx hu => ?_⟩, b2, b3, c2⟩
    cases i with
    | zero => simp at hx hu; subst hx; subst hu; exact b1
    | succ i => exact c1.2 i x u (by simpa using hx) (by simpa using hu)
theorem trods_back (hl : laidOutB P = true) (hb : Below w.heap.size w w') : ∀ {ts : List TypeId} {vs : List Value} {ds : List (DataW H)} {p : List MemPlace}, DataW.TrodAll enc P w 0 (fun _ => true) true ts vs ds p →
    (∀ t ∈ ts, P.readableRec t = true ∧ t < P.types.size) → DataW.TrodAll enc P w' 0 (fun b => decide (b < w.heap.size)) true ts vs ds p
  | [], vs, ds, p, h, hr => by
    obtain ⟨rfl, rfl, rfl⟩ := trodAll_nil h
    exact trodAll_mk0
  | t :: ts, vs, ds, p, h, hr => by
    obtain ⟨v, vs', d, ds', p1, q, rfl, rfl, rfl, h1, h2⟩ := trodAll_cons h
    refine trodAll_cons_mk (Below.trod hl (hr t (by simp)).1 (hr t (by simp)).2 h1 hb ?_) (trods_back hl hb h2 fun t ht => hr t (by simp [ht]))
    obtain ⟨m, hm⟩ := h1
    exact DataW.trod_lt m _ _ _ hm
theorem trodAll_len : ∀ {ts : List TypeId} {vs : List Value} {ds : List (DataW H)} {p : List MemPlace}, DataW.TrodAll enc P w 0 (fun _ => true) true ts vs ds p → ds.length = ts.length
  | [], vs, ds, p, h => by obtain ⟨rfl, rfl, rfl⟩ := trodAll_nil h; rfl
  | t :: ts, vs, ds, p, h => by
    obtain ⟨v, vs', d, ds', p1, q, rfl, rfl, rfl, h1, h2⟩ := trodAll_cons h
    simp [trodAll_len h2]
end
/-- A law whose walk says 'true' on all plain values of its arguments' types. -/
theorem lift_true {C : Checked} {os : Os} {f : FuncId} {fn : Func} {s : ChangeSpec} {dom : List PathCond} {H : Type} {enc : TypeId × Value → H} {r : TypeId} (n : Nat)
    (own : ownKnob C.prog.godebug = none) (hl : laidOutB C.prog = true) (started : os.Started) (noInit : C.prog.inits.idxOf? f = none) (hfn : C.prog.funcs[f]? = some fn)
    (witness : ∃ (w : World) (tape : Tape) (i : Input), w.os = os ∧ (w.forCall tape i).Shaped C.prog ∧ i.vars = [] ∧ Input.okWide C.prog (w.forCall tape i) .any w.heap.size f i ∧
      s.pre6 enc C.prog fn dom false (w.forCall tape i).memory i.args ∧ ({} : Assume).holds C.prog (lone (Frame.enter C.prog f i.args .normal) [] (w.forCall tape i)))
    (hvars : s.vars = []) (hfnS : ∀ ds : List (DataW H), ds.length = fn.params.size → s.fn H ds = { results := [.lit (.bool true)], args := ds })
    (hres : fn.resultTypes = #[r]) (hr : C.prog.underlying r = some .bool)
    (hok : ∀ t ∈ fn.params.toList, okT C.prog n t = true) (hrd : ∀ t ∈ fn.params.toList, C.prog.readableRec t = true ∧ t < C.prog.types.size)
    (hpc : ∀ bs, HasTs C.prog n fn.params.toList bs → PC C.prog f bs (.one (false, [.bool true]))) :
    ReturnsInHanded {} C os f .any (s.pre6 enc C.prog fn dom false) (s.post enc C.prog fn false true false false) := by
  refine returnsInHanded_of_change_sized own started noInit hfn witness ?_
  intro W base args ds gs before hval hW _ hsz _
  have hW' := hW
  obtain ⟨p, q, hA, hV, rfl, hfz, hnd⟩ := hW
  rw [hvars] at hV
  obtain ⟨rfl, rfl⟩ := trodVars_none hV
  have hsz' : ∀ n ∈ DataW.weightsEach C.prog fn.params.toList ds, n ≤ reachBytes := by
    have hv0 : s.plain.varTypes C.prog = [] := by
      unfold DataSpec.varTypes ChangeSpec.plain
      simp [hvars]
    rw [hv0, List.append_nil, List.append_nil] at hsz
    intro n hn
    simpa using List.all_eq_true.1 hsz n hn
  obtain ⟨bs, h1, h2⟩ := read_args (f := n) hA (fun j t v a b => hval j t v (by simpa using a) (by simpa using b)) hok hsz'
  have hc := (hpc bs h2).2 (memW W) W args.toList (fun b o v h => h) h1
  rw [Array.toArray_toList] at hc
  refine hc.mono fun e W' ⟨v, S', he, _, _, _, bel, hv⟩ => ?_
  subst he
  obtain ⟨c, hc1, hc2⟩ := hv
  have hc1' : [Cell.p (.bool true)] = [c] := hc1
  simp at hc1'
  subst hc1'
  have hvt : v = .bool true := by cases (show VP S' (.bool true) v from hc2); rfl
  subst hvt
  have hlen := trodAll_len hA
  have hS : s.fn H (ds ++ []) = { results := [.lit (.bool true)], args := ds } := by rw [List.append_nil]; exact hfnS ds (by simpa using hlen)
  refine ⟨_, rfl, ds, [], p ++ [], [], p, [], hW', ?_, ?_, ?_, bel.frame _, fun h => by cases h⟩
  · rw [hS, hres]
    exact trodAll_mk1 (shut_bool hr true)
  · rw [hS]
    exact trods_back hl bel hA hrd
  · rw [hS, hvars]
    exact rfl
end Go.Aw
