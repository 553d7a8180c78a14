/-
  An abstract memory for walks, part 7: append and make.
-/
import Derived.Test.YtogappokeheilaaAw6
set_option linter.unusedVariables false
set_option linter.unusedSimpArgs false
namespace Go.Aw
open Go.RowKit
section
variable {P : Program} {B : Nat} {S : Mem} {m : List Loc} {H : List AObj} {w : World} {K : AV → List AObj → Prop}

/-- An array object that lies nowhere yet: no element, no room. -/
theorem Sim.newNil (s : Sim S m H B w) (T size : Nat) (hs : 0 < size) (A : Option Addr) :
    Sim S (m ++ [.nil A]) (H ++ [.arr T size 0 []]) B w ∧ Ext B S m H S (m ++ [.nil A]) (H ++ [.arr T size 0 []]) ∧ VC S (m ++ [.nil A]) (H ++ [.arr T size 0 []]) (.own H.length 0) (.slice A 0 0) := by
  refine ⟨s.push _ _ ⟨hs, rfl, rfl⟩ (fun b c h => by cases h), Ext.push B S m H s.len _ _, T, size, 0, [], .nil A, by simp, by rw [← s.len]; simp, fun _ => rfl, Nat.le_refl _, rfl, rfl⟩
theorem VP.empty_form {S : Mem} {full : Bool} {v : Value} (h : VP S (.sl full []) v) (hf : full = true) : ∃ A : Option Addr, v = .slice A 0 0 := by
  cases h with
  | nil => exact ⟨none, rfl⟩
  | emp _ a => exact ⟨some a, rfl⟩
  | sl _ _ b off cap size n u hn hc hm hfu hs hu hS hv =>
    have h1 := hfu hf
    simp at hn
    subst hn
    rw [h1]
    exact ⟨some ⟨b, off, none⟩, rfl⟩

theorem good_append (s : Sim S m H B w) {pure : Bool} {t u ty : TypeId} {x y : AV} {vx vy : Value} (hx : VA S m H x vx) (hy : VA S m H y vy) (h : aAppend P pure t u x y H K) : Good P B S m H w (Builtin.append_ #[t, u] ty #[vx, vy]) K := by
  unfold aAppend at h
  split at h
  · rename_i e fy ys H1 hu hf
    obtain ⟨rfl, hp, hz, hyl, h⟩ := h
    obtain ⟨S1, s1, e1, p1⟩ := frzA_ok s hy hf
    obtain ⟨ay, cy, rfl, _⟩ := VP.slice_form p1
    obtain ⟨vys, q1, q2, q3⟩ := VP.reads p1 hyl
    have hnews : ∀ (a : Addr), ay = some a → ∀ (j : Nat) v, vys[j]? = some v → w.cell? (a.add j) = some v := fun a ha j v hj => by
      obtain ⟨b, o, hb, hS⟩ := q3 j v hj
      rw [ha] at hb; cases hb
      rw [addr_add]; exact s1.mem _ _ _ hS
    have hx1 := hx.ext e1
    split at h
    · -- an array of ours
      rename_i id n
      obtain ⟨rfl, h⟩ := h
      split at h
      · rename_i T size frz es ho
        obtain ⟨hn, rfl, rfl, hb, h63, hk⟩ := h
        obtain ⟨av, cav, hav, hcv, _⟩ := own_form s1 ho hn hx1
        obtain ⟨T', size', frz', es', l, h1, h2, h3, h4, h5⟩ := hx1
        rw [ho] at h1; cases h1
        have h3 := h3 hn
        have hO := s1.obj id _ _ ho h2
        have hmset : ∀ l0, m[id]? = some l0 → m.set id l0 = m := fun l0 hl0 => by
          apply List.ext_getElem?
          intro j
          by_cases hj : id = j
          · subst hj; rw [List.getElem?_set_self (List.getElem?_eq_some_iff.1 hl0).1, hl0]
          · rw [getElem?_set_ne _ _ _ _ hj]
        by_cases hys : ys = []
        · subst hys
          subst hav
          simp only [List.length_nil, Nat.add_zero, List.append_nil] at hk ⊢
          have hset : H1.set id (.arr T (P.cellsOf T) frz es) = H1 := by
            apply List.ext_getElem?
            intro j
            by_cases hj : id = j
            · subst hj; rw [List.getElem?_set_self (List.getElem?_eq_some_iff.1 ho).1, ho]
            · rw [getElem?_set_ne _ _ _ _ hj]
          rw [hset] at hk
          exact ⟨_, w, run_append_zero hu hu hp w av ay n cav cy hcv, S1, m, H1, .c (.own id n), s1, e1, Bel.refl B w, VA.ext e1 hx, hk⟩
        · have hypos : 0 < ys.length := by cases ys with
            | nil => exact absurd rfl hys
            | cons _ _ => simp
          obtain ⟨a, rfl⟩ : ∃ a, ay = some a := by
            cases ay with
            | some a => exact ⟨a, rfl⟩
            | none =>
              have hpos : 0 < vys.length := by rw [q2]; exact Nat.mul_pos hypos hp
              obtain ⟨b, o, hb, _⟩ := q3 0 _ (List.getElem?_eq_getElem hpos)
              cases hb
          have hnw := hnews a rfl
          have hmax : n + ys.length ≤ maxLen := by simp only [maxLen]; omega
          -- growing: to a new block
          have grow : ∀ (av : Option Addr) (cap : Nat) (olds : List Value), vx = .slice av n cap → olds.length = n * P.cellsOf T → (∀ (j : Nat) v, olds[j]? = some v → ∃ b, av = some b ∧ w.cell? (b.add j) = some v) → (av = none → n = 0 ∧ cap = 0) → cap < n + ys.length →
              VPs S1 es.flatten olds → (∀ q, q ∈ es → q.length = P.cellsOf T) → frz ≤ es.length → Good P B S m H w (Builtin.append_ #[u, u] ty #[vx, .slice (some a) ys.length cy]) K := by
            intro av cap olds hvx hlo hol hnil hcap hpo hul hfz
            subst hvx
            obtain ⟨cap', rest, hr, c1, c2, c3⟩ := run_append_new (ty := ty) hu hp hz w av n cap olds hlo hol a ys.length cy vys q2 hnw hnil hcap hb hmax
            have hcur : ((olds ++ vys ++ rest).take ((es ++ ys).length * P.cellsOf T)) = olds ++ vys := by
              apply List.take_left'
              rw [List.length_append, hlo, q2, List.length_append, hn, Nat.add_mul]
            have hul' : ∀ q, q ∈ es ++ ys → q.length = P.cellsOf T := fun q hq => by
              rcases List.mem_append.1 hq with h | h
              · exact hul q h
              · exact hyl q h
            obtain ⟨s2, e2⟩ := s1.setArr (es' := es ++ ys) (l' := .at_ w.heap.size cap') ho h2 (w' := w.drew.alloc (.cells (olds ++ vys ++ rest).toArray T)) (fun b o v hS => cell_keep (fun k hk => heap_alloc_old w.drew _ hk) (s1.mem b o v hS)) (by simp) (fun k hk _ => heap_alloc_old w.drew _ hk) (by simp)
              (fun h => by rw [List.length_append] at h; omega) (fun b c h => by cases h; exact .inr (Nat.le_refl _))
              ⟨hp, hul', by rw [List.length_append]; omega, s1.base, by rw [List.length_append, hn]; exact c1, c2, (fun o v (hS : S1 w.heap.size o = some v) => by rw [s1.newmem (Nat.le_refl _) o] at hS; cases hS), olds ++ vys ++ rest, heap_alloc_new w.drew _, by
                rw [List.length_append, List.length_append, hlo, q2, c3, ← Nat.add_mul, ← Nat.add_mul]; congr 1; omega, by
                rw [hcur, List.flatten_append]; exact VPs.append hpo q1⟩
            refine ⟨_, _, hr, S1, _, _, .c (.own id (n + ys.length)), s2, e1.trans e2, below_new s.base _, ?_, hk⟩
            refine ⟨T, P.cellsOf T, frz, es ++ ys, .at_ w.heap.size cap', by simp [(List.getElem?_eq_some_iff.1 ho).1], by simp [(List.getElem?_eq_some_iff.1 h2).1], fun _ => rfl, by rw [List.length_append, hn]; exact Nat.le_refl _, rfl, rfl⟩
          cases l with
          | nil A =>
            obtain ⟨_, he, hfz⟩ := hO
            have hn0 : n = 0 := by rw [← hn, he]; rfl
            have h3' : vx = .slice A 0 0 := h3
            exact grow _ 0 [] (by rw [hn0]; exact h3') (by simp [hn0]) (by simp) (fun _ => ⟨hn0, rfl⟩) (by omega) (by rw [he]; exact VPs.nil S1) (by rw [he]; simp) (by omega)
          | at_ b cap =>
            obtain ⟨_, hul, hfz, hB, hc, hm, hS, cur, hh, hl, hpp⟩ := hO
            subst h3
            have hcl : (cur.take (es.length * P.cellsOf T)).length = es.length * P.cellsOf T := by rw [← hpp.1, flat_len hul]
            by_cases hroom : n + ys.length ≤ cap
            · obtain ⟨it, zt, hit, _, hisz, _⟩ := hz.info hp
              have hle : (n + ys.length) * P.cellsOf T ≤ cap * P.cellsOf T := Nat.mul_le_mul_right _ hroom
              have hr := run_append_room (P := P) w u ty T it hu hit b n cap cur.toArray hh a ys.length cy vys (by rw [q2, hisz]) hnw q1.one hroom (by rw [hisz, q2, ← Nat.add_mul]; simpa [hl] using hle)
              simp only [hisz] at hr
              let cur' := cur.take (n * P.cellsOf T) ++ vys ++ cur.drop (n * P.cellsOf T + vys.length)
              have hcur'l : cur'.length = cap * P.cellsOf T := by
                show (cur.take (n * P.cellsOf T) ++ vys ++ cur.drop (n * P.cellsOf T + vys.length)).length = _
                rw [List.length_append, List.length_append, List.length_take, List.length_drop, q2, hl]
                rw [Nat.add_mul] at hle
                omega
              have hn' : es.length * P.cellsOf T = n * P.cellsOf T := by rw [hn]
              have htake : cur'.take ((es ++ ys).length * P.cellsOf T) = cur.take (n * P.cellsOf T) ++ vys := by
                apply List.take_left'
                rw [List.length_append, ← hn', hcl, q2, List.length_append, Nat.add_mul]
              have hul' : ∀ q, q ∈ es ++ ys → q.length = P.cellsOf T := fun q hq => by
                rcases List.mem_append.1 hq with h | h
                · exact hul q h
                · exact hyl q h
              have hmem : ∀ b' o v, S1 b' o = some v → (w.setRow b cur'.toArray).cell? ⟨b', o, none⟩ = some v := by
                intro b' o v hS'
                by_cases hb' : b' = b
                · subst hb'
                  have hlt := hS o v hS'
                  have hold := s1.mem b' o v hS'
                  rw [cell_eq hh] at hold
                  rw [cell_eq (setRow_heap w b' cur.toArray _ T (0, 0) hh)]
                  have hfm := Nat.mul_le_mul_right (P.cellsOf T) hfz
                  show (cur.take (n * P.cellsOf T) ++ vys ++ cur.drop (n * P.cellsOf T + vys.length))[o]? = some v
                  rw [List.append_assoc, List.getElem?_append_left (by rw [← hn', hcl]; omega), List.getElem?_take, if_pos (by omega)]
                  exact hold
                · have := s1.mem b' o v hS'
                  simp only [World.cell?] at this ⊢
                  rw [setRow_other w b b' _ hb']
                  exact this
              obtain ⟨s2, e2⟩ := s1.setArr (es' := es ++ ys) (l' := .at_ b cap) ho h2 (w' := w.setRow b cur'.toArray) hmem (by simp [World.setRow]) (fun k hk hne => setRow_other w b k _ (hne b cap rfl)) (by simp) (fun _ => rfl) (fun b' c h => .inl ⟨cap, by cases h; rfl⟩)
                ⟨hp, hul', by rw [List.length_append]; omega, hB, by rw [List.length_append, hn]; exact hroom, hm, hS, cur', setRow_heap w b cur.toArray _ T (0, 0) hh, hcur'l, by
                  rw [htake, List.flatten_append, ← hn']; exact VPs.append hpp q1⟩
              rw [hmset _ h2] at s2 e2
              refine ⟨_, _, hr, S1, m, _, .c (.own id (n + ys.length)), s2, e1.trans e2, below_setRow _ hB, ?_, hk⟩
              exact ⟨T, P.cellsOf T, frz, es ++ ys, .at_ b cap, by simp [(List.getElem?_eq_some_iff.1 ho).1], h2, fun _ => rfl, by rw [List.length_append, hn]; exact Nat.le_refl _, rfl, rfl⟩
            · refine grow (some ⟨b, 0, none⟩) cap (cur.take (es.length * P.cellsOf T)) rfl (by rw [hcl, hn]) (fun j v hj => ⟨_, rfl, ?_⟩) (fun h => by cases h) (by omega) hpp hul hfz
              rw [addr_add, Nat.zero_add, cell_eq hh]
              rw [List.getElem?_take] at hj
              split at hj
              · exact hj
              · cases hj
      · exact h.elim
    · -- a list with nothing behind it
      rename_i xs
      obtain ⟨hxl, hb, h63, h⟩ := h
      have hx1' : VP S1 (.sl true xs) vx := hx1
      obtain ⟨ax, cx, rfl, hcx, hcm, hfull⟩ := VP.slice_form hx1'
      have hcx' := hfull rfl
      subst hcx'
      have hmax : xs.length + ys.length ≤ maxLen := by simp only [maxLen]; omega
      by_cases hys : ys = []
      · subst hys
        have hr := run_append_zero (ty := ty) hu hu hp w ax ay xs.length xs.length cy (Nat.le_refl _)
        cases pure with
        | true =>
          simp only [if_true, List.append_nil] at h
          refine ⟨_, w, hr, S1, m, H1, .c (.p (.sl false xs)), s1, e1, Bel.refl B w, ?_, h⟩
          show VP S1 (.sl false xs) _
          cases hx1' with
          | nil => exact .nil false
          | emp _ a => exact .emp false a
          | sl _ _ b off cap size n u' hn hc hm hfu hs hu' hS hv => exact .sl false xs b off _ size _ u' rfl (Nat.le_refl _) hm (fun h => by cases h) hs hu' hS hv
        | false =>
          simp only [Bool.false_eq_true, if_false] at h
          obtain ⟨hor, h⟩ := h
          have hx0 : xs = [] := by
            rcases hor with h | h
            · exact absurd rfl h
            · exact h
          subst hx0
          obtain ⟨A, hA⟩ := VP.empty_form hx1' rfl
          obtain ⟨s2, e2, hv⟩ := s1.newNil e (P.cellsOf e) hp A
          refine ⟨_, w, hr, S1, _, _, .c (.own H1.length 0), s2, e1.trans e2, Bel.refl B w, ?_, h⟩
          have hA' : (Value.slice ax 0 0) = .slice A 0 0 := hA
          rw [← hA'] at hv; exact hv
      · have hypos : 0 < ys.length := by cases ys with
          | nil => exact absurd rfl hys
          | cons _ _ => simp
        obtain ⟨a, rfl⟩ : ∃ a, ay = some a := by
          cases ay with
          | some a => exact ⟨a, rfl⟩
          | none =>
            have hpos : 0 < vys.length := by rw [q2]; exact Nat.mul_pos hypos hp
            obtain ⟨b, o, hb, _⟩ := q3 0 _ (List.getElem?_eq_getElem hpos)
            cases hb
        have hnw := hnews a rfl
        obtain ⟨olds, o1, o2, o3⟩ := VP.reads hx1' hxl
        obtain ⟨cap', rest, hr, c1, c2, c3⟩ := run_append_new (ty := ty) hu hp hz w ax xs.length xs.length olds o2 (fun j v hj => by
          obtain ⟨b, o, hb, hS⟩ := o3 j v hj
          exact ⟨_, hb, by rw [addr_add]; exact s1.mem _ _ _ hS⟩) a ys.length cy vys q2 hnw (fun h => by
          subst h
          cases hx1' with
          | nil => exact ⟨rfl, rfl⟩) (by omega) hb hmax
        have hul : ∀ q, q ∈ xs ++ ys → q.length = P.cellsOf e := fun q hq => by
          rcases List.mem_append.1 hq with h | h
          · exact hxl q h
          · exact hyl q h
        have hcl : (olds ++ vys ++ rest).length = cap' * P.cellsOf e := by
          rw [List.length_append, List.length_append, o2, q2, c3, ← Nat.add_mul, ← Nat.add_mul]; congr 1; omega
        have htk : (olds ++ vys ++ rest).take ((xs ++ ys).length * P.cellsOf e) = olds ++ vys := by
          apply List.take_left'
          rw [List.length_append, o2, q2, List.length_append, Nat.add_mul]
        have hpp : VPs S1 (xs ++ ys).flatten (olds ++ vys) := by rw [List.flatten_append]; exact VPs.append o1 q1
        have s1d : Sim S1 m H1 B w.drew := s1.drew
        cases pure with
        | false =>
          simp only [Bool.false_eq_true, if_false] at h
          obtain ⟨_, h⟩ := h
          obtain ⟨s2, e2, hv⟩ := s1d.newArr e (P.cellsOf e) cap' (xs ++ ys) (olds ++ vys ++ rest) hp hul (by rw [List.length_append]; exact c1) c2 hcl (by rw [htk]; exact hpp)
          refine ⟨_, _, hr, S1, _, _, .c (.own H1.length (xs.length + ys.length)), s2, e1.trans e2, below_new s.base _, ?_, h⟩
          rw [← List.length_append]; exact hv
        | true =>
          simp only [if_true] at h
          let cells := olds ++ vys ++ rest
          let S2 : Mem := fun b o => if b = w.heap.size then cells[o]? else S1 b o
          have hin : ∀ o, S2 w.heap.size o = cells[o]? := fun o => if_pos rfl
          have hout : OldMem w.heap.size S1 S2 := fun b o hb => if_neg (by omega)
          obtain ⟨s2, e2⟩ := s1d.grow (S' := S2) (w' := w.drew.alloc (.cells cells.toArray e)) (fun k hk => heap_alloc_old w.drew _ hk) (by simp) hout (fun b o v hb hv => by
            by_cases hbb : b = w.heap.size
            · subst hbb
              rw [hin] at hv
              rw [cell_eq (show (w.drew.alloc (.cells cells.toArray e)).heap[w.heap.size]? = _ from heap_alloc_new w.drew _)]; exact hv
            · have : S2 b o = S1 b o := if_neg hbb
              rw [this, s1d.newmem hb o] at hv
              cases hv)
          refine ⟨_, _, hr, S2, _, _, .c (.p (.sl false (xs ++ ys))), s2, e1.trans e2, below_new s.base _, ?_, h⟩
          refine .sl false (xs ++ ys) w.heap.size 0 cap' (P.cellsOf e) (xs.length + ys.length) (fun k => cells.getD k undef) (by simp) c1 c2 (fun h => by cases h) hp hul (fun k x hk => ?_) (fun k x hk => ?_)
          all_goals
            have hkc : k < (olds ++ vys).length := by rw [← hpp.1]; exact (List.getElem?_eq_some_iff.1 hk).1
            have hg0 : cells[k]? = (olds ++ vys)[k]? := by
              show (olds ++ vys ++ rest)[k]? = _
              rw [List.getElem?_append_left hkc]
            have hg : cells[k]? = some (cells.getD k undef) := by rw [List.getD_eq_getElem?_getD, hg0, List.getElem?_eq_getElem hkc]; rfl
          · rw [Nat.zero_add, hin, hg]
          · exact (hpp.2 k x _ hk (by rw [← hg0]; exact hg)).mono e2.mem
    · exact h.elim
  · exact h.elim
/-- 'append(nil, make(..)...)': room alone counts. -/
def aGrow (P : Program) (t : TypeId) (x y : AV) (H : List AObj) (K : AV → List AObj → Prop) : Prop :=
  match P.underlying t, x, y with
  | some (.slice e), .c (.p (.sl true [])), .c (.p (.int _ n)) => 0 < n ∧ n ≤ 9223372036854775807 ∧ n * P.bytesOf e ≤ 140737488355328 ∧ 0 < P.cellsOf e ∧ zeroOk P e ∧ K (.c (.room H.length n.toNat)) (H ++ [.arr e (P.cellsOf e) 0 []])
  | _, _, _ => False
theorem run_append_zeros {P : Program} (w : World) (t tn ty e : TypeId) (i : TypeInfo) (z : Value) (k kn : IntKind) (ht : P.underlying t = some (.slice e)) (htn : P.underlying tn = some (.int kn)) (hi : P.info? e = some i) (hz : i.zero = some z)
    (A : Option Addr) (n : Nat) (h0 : 0 < n) (hs : 0 < i.size) (h63 : (n : Int) ≤ 9223372036854775807) (h48 : n * i.bytes ≤ 281474976710656) :
    (Builtin.append_ #[t, tn] ty #[.slice A 0 0, .int k n]).run P w =
      .ok (.slice (some ⟨w.heap.size, 0, none⟩) n (grownCap w n 0 e)) (w.drew.alloc (.cells (Builtin.zeroCells z.cells n ++ Builtin.zeroCells z.cells (grownCap w n 0 e - n)) e)) := by
  have hn : n ≠ 0 := by omega
  have hw : IntKind.i64.wrap (n : Int) = n := by rw [IntKind.wrap_i64]; omega
  have h63' : ¬ (9223372036854775807 < (n : Int)) := by omega
  have h48' : ¬ (281474976710656 < Builtin.nextslicecap n 0 * i.bytes) := by rw [nextslicecap_zero h0]; omega
  have h48i : ¬ (281474976710656 < (n : Int) * (i.bytes : Int)) := by
    rw [← Int.natCast_mul]
    omega
  have hneg : ¬ ((n : Int) < 0) := by omega
  have hns : ¬ (n * i.size = 0) := Nat.mul_ne_zero hn (by omega)
  have hfc : ∀ W : World, (Builtin.firstCells i.size 0 (.slice A 0 0)).run P W = .ok #[] W := fun W => by
    cases A with
    | none => simp [Builtin.firstCells]
    | some a =>
      have := run_loadCells_list (P := P) W a [] (fun j v h => by simp at h)
      simpa [Builtin.firstCells] using this
  simp [Builtin.append_, run_underlying ht, run_underlying htn, sizeOf, typeInfo, zeroValue, hi, hz, asInt, asIntOf, hw, hn, hneg, hns, h63', h48', h48i, Question.forced, hfc, newRow, grownCap]
theorem good_grow (s : Sim S m H B w) {t u ty : TypeId} {kn : IntKind} (hn : P.underlying u = some (.int kn)) {x y : AV} {vx vy : Value} (hx : VA S m H x vx) (hy : VA S m H y vy) (h : aGrow P t x y H K) : Good P B S m H w (Builtin.append_ #[t, u] ty #[vx, vy]) K := by
  unfold aGrow at h
  split at h
  · rename_i e k n hu
    obtain ⟨h0, h63, hb, hp, hz, hk⟩ := h
    obtain ⟨A, rfl⟩ := VP.empty_form hx rfl
    cases hy
    obtain ⟨n, rfl⟩ : ∃ n' : Nat, n = n' := ⟨n.toNat, by omega⟩
    obtain ⟨i, z, hi, hzz, hsz, hby, hzs⟩ := hz.info hp
    have hr := run_append_zeros (P := P) w t u ty e i z k kn hu hn hi hzz A n (by omega) (by omega) h63 (by rw [hby]; rw [← Int.natCast_mul] at hb; omega)
    have s1 : Sim S m H B w.drew := s.drew
    have hcap : n ≤ grownCap w n 0 e := grownCap_ge w n 0 e
    have hmx : grownCap w n 0 e ≤ maxLen := grownCap_le_maxLen w n 0 e (by simp only [maxLen]; omega)
    let cells := (Builtin.zeroCells z.cells n ++ Builtin.zeroCells z.cells (grownCap w n 0 e - n)).toList
    have hcl : cells.length = grownCap w n 0 e * P.cellsOf e := by
      show (Array.toList _).length = _
      rw [Array.length_toList, Array.size_append, size_zeroCells, size_zeroCells, hzs, ← Nat.add_mul]; congr 1; omega
    obtain ⟨s2, e2, hv⟩ := s1.newArr e (P.cellsOf e) (grownCap w n 0 e) [] cells hp (by simp) (Nat.zero_le _) hmx hcl (by simp; exact VPs.nil S)
    refine ⟨_, _, hr, S, _, _, .c (.room H.length n), ?_, e2, below_new s.base _, ?_, by simpa using hk⟩
    · rw [show cells.toArray = Builtin.zeroCells z.cells n ++ Builtin.zeroCells z.cells (grownCap w n 0 e - n) from Array.toArray_toList] at s2; exact s2
    · exact ⟨e, P.cellsOf e, 0, [], .at_ w.heap.size (grownCap w n 0 e), by simp, by rw [← s.len]; simp, fun _ => ⟨w.heap.size, _, rfl, rfl, hcap⟩, rfl, rfl⟩
  · exact h.elim
end
end Go.Aw
