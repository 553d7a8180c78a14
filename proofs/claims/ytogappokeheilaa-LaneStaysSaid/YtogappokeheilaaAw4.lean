/-
  An abstract memory for walks, part 4: what is handed on is frozen; writing; places of fields and elements; literals.
-/
import Derived.Test.YtogappokeheilaaAw3
set_option linter.unusedVariables false
set_option linter.unusedSimpArgs false
namespace Go.Aw
open Go.RowKit
section
variable {P : Program} {B : Nat} {S : Mem} {m : List Loc} {H : List AObj} {w : World} {K : AV → List AObj → Prop}

/-! ### Freezing -/
def frzC (H : List AObj) : Cell → Option (PV × List AObj)
  | .p x => some (x, H)
  | .own id n => match H[id]? with
    | some (.arr T size frz es) => if es.length = n then some (.sl false es, H.set id (.arr T size es.length es)) else none
    | _ => none
  | .clo f [] [] => some (.fn f, H)
  | _ => none
def frzs (H : List AObj) : List Cell → Option (List PV × List AObj)
  | [] => some ([], H)
  | c :: cs => match frzC H c with
    | some (x, H1) => match frzs H1 cs with
      | some (xs, H2) => some (x :: xs, H2)
      | none => none
    | none => none
theorem frzC_ok (s : Sim S m H B w) {c : Cell} {v : Value} (hv : VC S m H c v) {x : PV} {H' : List AObj} (h : frzC H c = some (x, H')) :
    ∃ S', Sim S' m H' B w ∧ Ext B S m H S' m H' ∧ VP S' x v := by
  cases c with
  | p y =>
    simp [frzC] at h
    obtain ⟨rfl, rfl⟩ := h
    exact ⟨S, s, Ext.refl B S m H, hv⟩
  | own id n =>
    simp only [frzC] at h
    split at h
    · rename_i T size frz es ho
      split at h
      · rename_i hn
        subst hn
        cases h
        exact s.freeze ho hv
      · cases h
    · cases h
  | ptr id off => simp [frzC] at h
  | ep id n i off => simp [frzC] at h
  | pp cells => simp [frzC] at h
  | yld id => simp [frzC] at h
  | room id n => simp [frzC] at h
  | mp id => simp [frzC] at h
  | clo f first caps =>
    cases first with
    | cons _ _ => simp [frzC] at h
    | nil =>
      cases caps with
      | cons _ _ => simp [frzC] at h
      | nil =>
        simp [frzC] at h
        obtain ⟨rfl, rfl⟩ := h
        obtain ⟨fs, cs, rfl, h2, h3, _⟩ := hv
        have hf : fs = [] := List.eq_nil_of_length_eq_zero h2.1.symm
        have hc : cs = [] := List.eq_nil_of_length_eq_zero h3
        subst hf; subst hc
        exact ⟨S, s, Ext.refl B S m H, .fn f⟩
theorem frzs_ok : ∀ {cs : List Cell} {vs : List Value} {H H' : List AObj} {S : Mem} (_ : Sim S m H B w) (_ : VCs S m H cs vs) {xs : List PV} (_ : frzs H cs = some (xs, H')),
    ∃ S', Sim S' m H' B w ∧ Ext B S m H S' m H' ∧ VPs S' xs vs
  | [], vs, H, H', S, s, hv, xs, h => by
    simp [frzs] at h
    obtain ⟨rfl, rfl⟩ := h
    have : vs = [] := List.eq_nil_of_length_eq_zero hv.1.symm
    subst this
    exact ⟨S, s, Ext.refl B S m H, .nil S⟩
  | c :: cs, [], H, H', S, s, hv, xs, h => by simp [VCs] at hv
  | c :: cs, v :: vs, H, H', S, s, hv, xs, h => by
    have h0 : VC S m H c v := hv.2 0 c v rfl rfl
    have ht : VCs S m H cs vs := ⟨by simpa using hv.1, fun i c' v' a b => hv.2 (i + 1) c' v' (by simpa using a) (by simpa using b)⟩
    simp only [frzs] at h
    cases h1 : frzC H c with
    | none => simp [h1] at h
    | some q =>
      obtain ⟨x, H1⟩ := q
      simp only [h1] at h
      cases h2 : frzs H1 cs with
      | none => simp [h2] at h
      | some q =>
        obtain ⟨ys, H2⟩ := q
        simp only [h2, Option.some.injEq, Prod.mk.injEq] at h
        obtain ⟨rfl, rfl⟩ := h
        obtain ⟨S1, s1, e1, p1⟩ := frzC_ok s h0 h1
        obtain ⟨S2, s2, e2, p2⟩ := frzs_ok s1 (ht.ext e1) h2
        exact ⟨S2, s2, e1.trans e2, VPs.cons (p1.mono e2.mem) p2⟩

/-! ### Writing -/
theorem run_storeVar_at (w : World) (g o : Nat) (T t : TypeId) (v : Value) (cur : List Value) (hg : w.heap[g]? = some (.cells cur.toArray T (0, 0))) (hsz : v.cells.size = P.cellsOf t) (hp : 0 < P.cellsOf t)
    (hl : o + v.cells.size ≤ cur.length) (h1 : ∀ u ∈ v.cells.toList, u.oneCell' = true) :
    (storeVar t ⟨g, o, none⟩ v).run P w = .ok () (w.setRow g (cur.take o ++ v.cells.toList ++ cur.drop (o + v.cells.size)).toArray) := by
  have := run_storeCells_at P g o T v.cells.toList 0 cur.toArray w hg (by simpa using hl) h1
  simp only [Nat.add_zero, Array.length_toList] at this
  have hss := run_sizeOf' hp w
  simp only [storeVar, Sem.run_bind, hss, Result.andThen_ok, hsz, ne_eq, not_true, if_false]
  rw [← hsz]
  exact this
def splice {α : Type} (cs : List α) (off : Nat) (vs : List α) : List α := cs.take off ++ vs ++ cs.drop (off + vs.length)
theorem VCs.splice {S : Mem} {m : List Loc} {H : List AObj} {cs : List Cell} {cur : List Value} (h : VCs S m H cs cur) (off : Nat) {xs : List Cell} {vs : List Value} (hx : VCs S m H xs vs) (hl : off + xs.length ≤ cs.length) :
    VCs S m H (splice cs off xs) (splice cur off vs) := by
  refine ⟨by simp [Aw.splice, h.1, hx.1], fun i c v hc hv => ?_⟩
  have e1 := h.1
  have e2 := hx.1
  simp only [Aw.splice] at hc hv
  by_cases h1 : i < off
  · rw [List.append_assoc, List.getElem?_append_left (by rw [List.length_take]; omega), List.getElem?_take, if_pos h1] at hc hv
    exact h.2 i c v hc hv
  · by_cases h2 : i < off + xs.length
    · rw [List.getElem?_append_left (by rw [List.length_append, List.length_take]; omega), List.getElem?_append_right (by rw [List.length_take]; omega), List.length_take, Nat.min_eq_left (by omega)] at hc hv
      exact hx.2 _ c v hc hv
    · rw [List.getElem?_append_right (by rw [List.length_append, List.length_take]; omega), List.length_append, List.length_take, Nat.min_eq_left (by omega), List.getElem?_drop] at hc hv
      rw [show off + xs.length + (i - (off + xs.length)) = i by omega] at hc
      rw [← e2, show off + xs.length + (i - (off + xs.length)) = i by omega] at hv
      exact h.2 i c v hc hv
def aStore (P : Program) (t : TypeId) (x v : AV) (H : List AObj) (K : List AObj → Prop) : Prop :=
  match cellsA v with
  | none => False
  | some vs => vs.length = P.cellsOf t ∧ 0 < P.cellsOf t ∧
    match x with
    | .c (.ptr id off) => match H[id]? with
      | some (.var cs) => off + vs.length ≤ cs.length ∧ K (H.set id (.var (splice cs off vs)))
      | _ => False
    | .c (.ep id n i off) => match frzs H vs with
      | some (ps, H1) => match H1[id]? with
        | some (.arr T size frz es) => es.length = n ∧ frz ≤ i ∧ ∃ e, es[i]? = some e ∧ off + ps.length ≤ e.length ∧ K (H1.set id (.arr T size frz (es.set i (splice e off (ps.map lo)))))
        | _ => False
      | none => False
    | _ => False
theorem flat_set {α : Type} {size : Nat} {xs : List (List α)} (hu : ∀ e, e ∈ xs → e.length = size) (i : Nat) (e : List α) (he : e.length = size) (hi : i < xs.length) :
    (xs.set i e).flatten = splice xs.flatten (i * size) e := by
  unfold splice
  rw [← flat_take i hu, List.set_eq_take_append_cons_drop, if_pos hi]
  simp only [List.flatten_append, List.flatten_cons, List.append_assoc]
  congr 2
  rw [flat_drop (i + 1) hu, he, Nat.add_mul, Nat.one_mul]
theorem splice_len {α : Type} (cs : List α) (off : Nat) (vs : List α) (h : off + vs.length ≤ cs.length) : (splice cs off vs).length = cs.length := by simp [splice]; omega
theorem splice_splice {α : Type} (cs e ps : List α) (o off : Nat) (he : ∀ k, k < e.length → cs[o + k]? = e[k]?) (hl : o + e.length ≤ cs.length) (hp : off + ps.length ≤ e.length) : splice cs o (splice e off ps) = splice cs (o + off) ps := by
  apply List.ext_getElem?
  intro k
  have h1 : (splice e off ps).length = e.length := splice_len e off ps hp
  have key : ∀ (l : List α) (q : Nat) (v : List α) (k : Nat), q + v.length ≤ l.length → (splice l q v)[k]? = if k < q then l[k]? else if k < q + v.length then v[k - q]? else l[k]? := by
    intro l q v k hq
    unfold splice
    by_cases a : k < q
    · rw [if_pos a, List.append_assoc, List.getElem?_append_left (by rw [List.length_take]; omega), List.getElem?_take, if_pos a]
    · rw [if_neg a]
      by_cases b : k < q + v.length
      · rw [if_pos b, List.getElem?_append_left (by rw [List.length_append, List.length_take]; omega), List.getElem?_append_right (by rw [List.length_take]; omega), List.length_take, Nat.min_eq_left (by omega)]
      · rw [if_neg b, List.getElem?_append_right (by rw [List.length_append, List.length_take]; omega), List.length_append, List.length_take, Nat.min_eq_left (by omega), List.getElem?_drop]
        congr 1; omega
  rw [key cs o _ k (by omega), key cs (o + off) ps k (by omega), h1]
  by_cases a : k < o
  · rw [if_pos a, if_pos (show k < o + off by omega)]
  · rw [if_neg a]
    by_cases b : k < o + e.length
    · rw [if_pos b, key e off ps _ hp]
      have := he (k - o) (by omega)
      rw [show o + (k - o) = k by omega] at this
      by_cases c : k - o < off
      · rw [if_pos c, if_pos (show k < o + off by omega), this]
      · rw [if_neg c, if_neg (show ¬ k < o + off by omega)]
        by_cases d : k - o < off + ps.length
        · rw [if_pos d, if_pos (show k < o + off + ps.length by omega)]; congr 1; omega
        · rw [if_neg d, if_neg (show ¬ k < o + off + ps.length by omega), this]
    · rw [if_neg b, if_neg (show ¬ k < o + off by omega), if_neg (show ¬ k < o + off + ps.length by omega)]
theorem VPs.splice {S : Mem} {cs : List PV} {cur : List Value} (h : VPs S cs cur) (off : Nat) {xs : List PV} {vs : List Value} (hx : VPs S xs vs) (hl : off + xs.length ≤ cs.length) :
    VPs S (splice cs off xs) (splice cur off vs) := by
  refine ⟨by simp [Aw.splice, h.1, hx.1], fun i c v hc hv => ?_⟩
  have e1 := h.1
  have e2 := hx.1
  simp only [Aw.splice] at hc hv
  by_cases h1 : i < off
  · rw [List.append_assoc, List.getElem?_append_left (by rw [List.length_take]; omega), List.getElem?_take, if_pos h1] at hc hv
    exact h.2 i c v hc hv
  · by_cases h2 : i < off + xs.length
    · rw [List.getElem?_append_left (by rw [List.length_append, List.length_take]; omega), List.getElem?_append_right (by rw [List.length_take]; omega), List.length_take, Nat.min_eq_left (by omega)] at hc hv
      exact hx.2 _ c v hc hv
    · rw [List.getElem?_append_right (by rw [List.length_append, List.length_take]; omega), List.length_append, List.length_take, Nat.min_eq_left (by omega), List.getElem?_drop] at hc hv
      rw [show off + xs.length + (i - (off + xs.length)) = i by omega] at hc
      rw [← e2, show off + xs.length + (i - (off + xs.length)) = i by omega] at hv
      exact h.2 i c v hc hv
theorem VPs.one {S : Mem} {xs : List PV} {vs : List Value} (h : VPs S xs vs) : ∀ u ∈ vs, u.oneCell' = true := by
  intro u hu
  obtain ⟨i, hi⟩ := List.getElem?_of_mem hu
  have hlt : i < xs.length := by rw [h.1]; exact (List.getElem?_eq_some_iff.1 hi).1
  exact (VP.one (h.2 i xs[i] u (List.getElem?_eq_getElem hlt) hi)).1
theorem VCs.one {S : Mem} {m : List Loc} {H : List AObj} {xs : List Cell} {vs : List Value} (h : VCs S m H xs vs) : ∀ u ∈ vs, u.oneCell' = true := by
  intro u hu
  obtain ⟨i, hi⟩ := List.getElem?_of_mem hu
  have hlt : i < xs.length := by rw [h.1]; exact (List.getElem?_eq_some_iff.1 hi).1
  exact (VC.one (h.2 i xs[i] u (List.getElem?_eq_getElem hlt) hi)).1
theorem setRow_keeps {w : World} {g k : Nat} (cs : Array Value) {o : Obj} (hk : w.heap[k]? = some o) (ho : isCellsB o = false) : (w.setRow g cs).heap[k]? = some o := by
  by_cases h : k = g
  · subst h
    simp only [World.setRow, Array.getElem?_modify, if_true, hk, Option.map_some]
    cases o <;> first | rfl | cases ho
  · rw [setRow_other w g k cs h]; exact hk
theorem below_setRow {B : Nat} {w : World} {g : Nat} (cs : Array Value) (hg : B ≤ g) : Bel B w (w.setRow g cs) :=
  ⟨⟨rfl, rfl, rfl, by simp [World.setRow], fun k hk => setRow_other w g k cs (by omega)⟩⟩
theorem good_store {K : List AObj → Prop} (s : Sim S m H B w) {t : TypeId} {x y : AV} {v u : Value} (hx : VA S m H x v) (hy : VA S m H y u) (h : aStore P t x y H K) : GoodU P B S m H w (Instr.storeAt t v u) K := by
  unfold aStore at h
  cases hc : cellsA y with
  | none => simp [hc] at h
  | some vs =>
    simp only [hc] at h
    obtain ⟨hlen, hp, h⟩ := h
    have hvs := cellsA_ok hy hc
    have husz : u.cells.size = vs.length := by have := hvs.1; simpa using this.symm
    cases x with
    | any => exact h.elim
    | agg cs => exact h.elim
    | tup vs => exact h.elim
    | mark o => exact h.elim
    | c x =>
      cases x with
      | p x => exact h.elim
      | own id n => exact h.elim
      | clo f a b => exact h.elim
      | yld id => exact h.elim
      | room id n => exact h.elim
      | mp id => exact h.elim
      | pp cells => exact h.elim
      | ptr id off =>
        obtain ⟨b, cap, cs, h1, h2, rfl⟩ := hx
        simp only [h1] at h
        obtain ⟨hl, hk⟩ := h
        obtain ⟨g1, g2, cur, T, g3, g4⟩ := s.obj id _ _ h1 h2
        have hr := run_storeVar_at (P := P) w b off T t u cur g3 (by rw [husz, hlen]) hp (by rw [husz, ← g4.1]; exact hl) hvs.one
        have hn := VCs.splice g4 off hvs hl
        obtain ⟨s', e⟩ := s.setVar (w' := w.setRow b (splice cur off u.cells.toList).toArray) h1 h2 (setRow_heap w b cur.toArray _ T (0, 0) g3) (fun k hk => setRow_other w b k _ hk) (by simp [World.setRow]) hn
        refine ⟨w.setRow b (splice cur off u.cells.toList).toArray, ?_, S, m, _, s', e, below_setRow _ g1, hk⟩
        simp only [Instr.storeAt, Instr.sureAddr, Sem.run_bind, Sem.run_pure, Result.andThen_ok, hr, Aw.splice, Array.length_toList]
      | ep id n i off =>
        simp only at h
        cases hf : frzs H vs with
        | none => simp [hf] at h
        | some q =>
          obtain ⟨ps0, H1⟩ := q
          simp only [hf] at h
          obtain ⟨S1, s1, e1, p0⟩ := frzs_ok s hvs hf
          have p1 := p0.lo
          obtain ⟨ps, hps0⟩ : ∃ ps, ps = ps0.map lo := ⟨_, rfl⟩
          rw [← hps0] at p1 h
          have hlo : ps0.length = ps.length := by rw [hps0]; simp
          rw [hlo] at h
          obtain ⟨T, size, frz, es, l, h1, h2, h3, h4, h5⟩ := VC.ext (c := .ep id n i off) e1 hx
          simp only [h1] at h
          obtain ⟨hn, hfi, e, he, hle, hk⟩ := h
          obtain ⟨b, cap, rfl, rfl⟩ := h3 hn
          obtain ⟨hs, hu, hf', hB, hcap, hm, hS, cur, hh, hl', hpp⟩ := s1.obj id _ _ h1 h2
          have hi : i < es.length := (List.getElem?_eq_some_iff.1 he).1
          have hes : e.length = size := hu e (List.mem_of_getElem? he)
          have hisz : i * size + size ≤ es.length * size := by rw [← Nat.succ_mul]; exact Nat.mul_le_mul_right size hi
          have hcsz : es.length * size ≤ cap * size := Nat.mul_le_mul_right size hcap
          have hps : ps.length = u.cells.size := by rw [p1.1]; simp
          have hr := run_storeVar_at (P := P) w b (i * size + off) T t u cur hh (by rw [husz, hlen]) hp (by omega) hvs.one
          have hflen := flat_len hu
          have hcurt : (cur.take (es.length * size)).length = es.length * size := by rw [List.length_take]; omega
          have hflat : (es.set i (Aw.splice e off ps)).flatten = Aw.splice es.flatten (i * size + off) ps := by
            rw [flat_set hu i _ (by rw [splice_len _ _ _ hle]; exact hes) hi]
            exact splice_splice _ _ _ _ _ (fun k hk => by rw [flat_get hu i k (by omega), he]; rfl) (by omega) hle
          have hnew : VPs S1 (es.set i (Aw.splice e off ps)).flatten ((Aw.splice cur (i * size + off) u.cells.toList).take ((es.set i (Aw.splice e off ps)).length * size)) := by
            have := VPs.splice hpp (i * size + off) p1 (by omega)
            rw [hflat]
            have e2 : (Aw.splice cur (i * size + off) u.cells.toList).take ((es.set i (Aw.splice e off ps)).length * size) = Aw.splice (cur.take (es.length * size)) (i * size + off) u.cells.toList := by
              simp only [Aw.splice, List.length_set, Array.length_toList]
              rw [List.take_append, List.take_append]
              simp only [List.length_append, List.length_take, Array.length_toList]
              rw [List.take_take, List.take_take, List.take_of_length_le (l := u.cells.toList) (by simp; omega), List.drop_take]
              congr 2
              · rw [Nat.min_eq_right (by omega), Nat.min_eq_left (by omega)]
              · congr 1; omega
            rw [e2]; exact this
          have hmem : ∀ b' o v, S1 b' o = some v → (w.setRow b (Aw.splice cur (i * size + off) u.cells.toList).toArray).cell? ⟨b', o, none⟩ = some v := by
            intro b' o v ho
            by_cases hb : b' = b
            · subst hb
              have hlt := hS o v ho
              have hold := s1.mem b' o v ho
              rw [cell_eq hh] at hold
              rw [cell_eq (setRow_heap w b' cur.toArray _ T (0, 0) hh)]
              have : o < i * size + off := by
                have := Nat.mul_le_mul_right size hfi
                omega
              unfold Aw.splice
              rw [List.append_assoc, List.getElem?_append_left (by rw [List.length_take]; omega), List.getElem?_take, if_pos this]
              exact hold
            · have := s1.mem b' o v ho
              simp only [World.cell?] at this ⊢
              rw [setRow_other w b b' _ hb]
              exact this
          obtain ⟨s', e'⟩ := s1.setArr (es' := es.set i (Aw.splice e off ps)) (l' := .at_ b cap) h1 h2 (w' := w.setRow b (Aw.splice cur (i * size + off) u.cells.toList).toArray) hmem (by simp [World.setRow])
            (fun k hk hne => setRow_other w b k _ (hne b cap rfl)) (by simp) (fun _ => rfl) (fun b' c hb => .inl ⟨cap, by cases hb; rfl⟩)
            ⟨hs, fun x hx => by
              rcases List.mem_or_eq_of_mem_set hx with hx | rfl
              · exact hu x hx
              · rw [splice_len _ _ _ hle]; exact hes, by simpa using hf', hB, by simpa using hcap, hm, hS, Aw.splice cur (i * size + off) u.cells.toList, setRow_heap w b cur.toArray _ T (0, 0) hh, by
              rw [splice_len _ _ _ (by simp; omega)]; exact hl', hnew⟩
          have hmset : m.set id (.at_ b cap) = m := by
            apply List.ext_getElem?
            intro j
            by_cases hj : id = j
            · subst hj; rw [List.getElem?_set_self (List.getElem?_eq_some_iff.1 h2).1, h2]
            · rw [getElem?_set_ne _ _ _ _ hj]
          rw [hmset] at s' e'
          refine ⟨w.setRow b (Aw.splice cur (i * size + off) u.cells.toList).toArray, ?_, S1, m, _, s', e1.trans e', below_setRow _ hB, hk⟩
          simp only [Instr.storeAt, Instr.sureAddr, Sem.run_bind, Sem.run_pure, Result.andThen_ok, hr, Aw.splice, Array.length_toList]
end
end Go.Aw
