/-
  An abstract memory for walks, part 2: how the view of a world goes on when blocks are made, cells written, elements frozen.
-/
import Derived.Test.YtogappokeheilaaAw1
set_option linter.unusedVariables false
set_option linter.unusedSimpArgs false
namespace Go.Aw
open Go.RowKit

theorem addr_add (b o j : Nat) : (⟨b, o, none⟩ : Addr).add j = ⟨b, o + j, none⟩ := by unfold Addr.add; split <;> simp_all
theorem cell_eq {w : World} {b o : Nat} {cs : List Value} {T : Nat} {fr : Nat × Nat} (h : w.heap[b]? = some (.cells cs.toArray T fr)) : w.cell? ⟨b, o, none⟩ = cs[o]? := by simp [World.cell?, h]
theorem cell_keep {w w' : World} {b o : Nat} {v : Value} (h : ∀ k, k < w.heap.size → w'.heap[k]? = w.heap[k]?) (hc : w.cell? ⟨b, o, none⟩ = some v) : w'.cell? ⟨b, o, none⟩ = some v := by
  have hb : b < w.heap.size := World.block_lt_of_cell? w ⟨b, o, none⟩ hc
  simp only [World.cell?] at hc ⊢
  rw [h b hb]
  exact hc
theorem Sim.lt {S : Mem} {m : List Loc} {H : List AObj} {B : Nat} {w : World} (s : Sim S m H B w) {b o : Nat} {v : Value} (h : S b o = some v) : b < w.heap.size :=
  World.block_lt_of_cell? w ⟨b, o, none⟩ (s.mem b o v h)

/-- Mem on old blocks is as it was. -/
def OldMem (n : Nat) (S S' : Mem) : Prop := ∀ b o, b < n → S' b o = S b o

theorem ObjOk.lt {S : Mem} {m : List Loc} {H : List AObj} {B : Nat} {w : World} {o : AObj} {b c : Nat} (h : ObjOk S m H B w o (.at_ b c)) : b < w.heap.size := by
  cases o with
  | var cs => obtain ⟨_, _, cur, T, h, _⟩ := h; exact (Array.getElem?_eq_some_iff.1 h).1
  | arr T size frz es => obtain ⟨_, _, _, _, _, _, _, cur, h, _⟩ := h; exact (Array.getElem?_eq_some_iff.1 h).1
  | dfr => exact (Array.getElem?_eq_some_iff.1 h.2).1
  | loop L => obtain ⟨_, _, _, _, h, _⟩ := h; exact (Array.getElem?_eq_some_iff.1 h).1
  | map es => obtain ⟨_, _, _, h, _⟩ := h; exact (Array.getElem?_eq_some_iff.1 h).1
  | hole => exact h.elim

theorem ObjOk.keep {S S' : Mem} {m m' : List Loc} {H H' : List AObj} {B : Nat} {w w' : World} (e : Ext B S m H S' m' H') {o : AObj} {l : Loc} (h : ObjOk S m H B w o l)
    (hw : ∀ b c, l = .at_ b c → w'.heap[b]? = w.heap[b]? ∧ ∀ k, S' b k = S b k) : ObjOk S' m' H' B w' o l := by
  cases o with
  | var cs =>
    cases l with
    | nil A => exact h
    | at_ b c =>
      obtain ⟨k1, k2⟩ := hw b c rfl
      obtain ⟨h1, h2, cur, T, h3, h4⟩ := h
      exact ⟨h1, fun k => by rw [k2 k, h2 k], cur, T, k1.trans h3, h4.ext e⟩
  | arr T size frz es =>
    cases l with
    | nil A => exact h
    | at_ b c =>
      obtain ⟨k1, k2⟩ := hw b c rfl
      obtain ⟨h1, h2, h3, h4, h5, h6, h7, cur, h8, h9, h10⟩ := h
      exact ⟨h1, h2, h3, h4, h5, h6, fun k v hk => h7 k v (by rw [← k2 k]; exact hk), cur, k1.trans h8, h9, h10.mono e.mem⟩
  | dfr =>
    cases l with
    | nil A => exact h
    | at_ b c => exact ⟨h.1, (hw b c rfl).1.trans h.2⟩
  | loop L =>
    cases l with
    | nil A => exact h
    | at_ b c =>
      obtain ⟨h1, fn, tmps, bd, h2, h5, h6⟩ := h
      exact ⟨h1, fn, tmps, bd, (hw b c rfl).1.trans h2, h5, fun d => (h6 d).ext e⟩
  | map es =>
    cases l with
    | nil A => exact h
    | at_ b c =>
      obtain ⟨h1, ents, clock, h2, h3, h4⟩ := h
      exact ⟨h1, ents, clock, (hw b c rfl).1.trans h2, h3, fun i k c e' hi he => ⟨(h4 i k c e' hi he).1, (h4 i k c e' hi he).2.ext e⟩⟩
  | hole => cases l <;> exact h

/-- New blocks, nothing else; what is fixed has grown on new blocks alone. -/
theorem Sim.grow {S S' : Mem} {m : List Loc} {H : List AObj} {B : Nat} {w w' : World} (s : Sim S m H B w) (hw : ∀ k, k < w.heap.size → w'.heap[k]? = w.heap[k]?) (hsz : w.heap.size ≤ w'.heap.size)
    (hS : OldMem w.heap.size S S') (hv : ∀ b o v, w.heap.size ≤ b → S' b o = some v → w'.cell? ⟨b, o, none⟩ = some v) : Sim S' m H B w' ∧ Ext B S m H S' m H := by
  have hle : S.le S' := fun b o v h => by rw [hS b o (s.lt h)]; exact h
  have e : Ext B S m H S' m H := ⟨hle, fun b o hb => hS b o (Nat.lt_of_lt_of_le hb s.base), fun id o h hf => ⟨⟨o, h, Kin.refl hf⟩, fun _ h => h⟩, fun id T size frz es l h h' => ⟨frz, es, l, h, h', Nat.le_refl _, fun _ => rfl⟩⟩
  refine ⟨⟨s.len, fun b o v h => ?_, Nat.le_trans s.base hsz, fun id o l ho hl => ?_, s.inj⟩, e⟩
  · by_cases hb : b < w.heap.size
    · rw [hS b o hb] at h
      exact cell_keep hw (s.mem b o v h)
    · exact hv b o v (by omega) h
  · refine (s.obj id o l ho hl).keep e fun b c hbc => ?_
    subst hbc
    have hlt := (s.obj id o _ ho hl).lt
    exact ⟨hw b hlt, fun k => hS b k hlt⟩

theorem Ext.push (B : Nat) (S : Mem) (m : List Loc) (H : List AObj) (hl : m.length = H.length) (o : AObj) (l : Loc) : Ext B S m H S (m ++ [l]) (H ++ [o]) := by
  have ho : ∀ (id : Nat) x, H[id]? = some x → (H ++ [o])[id]? = some x := fun id x h => by rw [List.getElem?_append_left (List.getElem?_eq_some_iff.1 h).1]; exact h
  have hm : ∀ (id : Nat) x, m[id]? = some x → (m ++ [l])[id]? = some x := fun id x h => by rw [List.getElem?_append_left (List.getElem?_eq_some_iff.1 h).1]; exact h
  exact ⟨Mem.le_refl S, fun _ _ _ => rfl, fun id x h hf => ⟨⟨x, ho id _ h, Kin.refl hf⟩, fun l' h' => hm id l' h'⟩, fun id T size frz es l' h h' => ⟨frz, es, l', ho id _ h, hm id _ h', Nat.le_refl _, fun _ => rfl⟩⟩

/-- An object more. -/
theorem Sim.push {S : Mem} {m : List Loc} {H : List AObj} {B : Nat} {w : World} (s : Sim S m H B w) (o : AObj) (l : Loc) (ho : ObjOk S (m ++ [l]) (H ++ [o]) B w o l)
    (hnew : ∀ b c, l = .at_ b c → ∀ (i c' : Nat), m[i]? ≠ some (.at_ b c')) : Sim S (m ++ [l]) (H ++ [o]) B w := by
  have e := Ext.push B S m H s.len o l
  refine ⟨by simp [s.len], s.mem, s.base, fun id x y hx hy => ?_, fun i j b c d hi hj => ?_⟩
  · by_cases hlt : id < H.length
    · rw [List.getElem?_append_left hlt] at hx
      rw [List.getElem?_append_left (by rw [s.len]; exact hlt)] at hy
      exact (s.obj id x y hx hy).keep e fun b c _ => ⟨rfl, fun k => rfl⟩
    · have h1 := (List.getElem?_eq_some_iff.1 hx).1
      simp only [List.length_append, List.length_singleton] at h1
      obtain rfl : id = H.length := by omega
      have h2 : x = o := by simpa using hx.symm
      have h3 : y = l := by rw [← s.len] at hy; simpa using hy.symm
      subst h2; subst h3
      exact ho
  · rw [List.getElem?_append] at hi hj
    split at hi <;> split at hj
    · exact s.inj i j b c d hi hj
    · rename_i hj'
      have h0 : j - m.length = 0 := by
        have := (List.getElem?_eq_some_iff.1 hj).1
        simp at this; omega
      rw [h0] at hj
      have hl : l = .at_ b d := by simpa using hj
      exact absurd hi (hnew b d hl i c)
    · rename_i hi' _
      have h0 : i - m.length = 0 := by
        have := (List.getElem?_eq_some_iff.1 hi).1
        simp at this; omega
      rw [h0] at hi
      have hl : l = .at_ b c := by simpa using hi
      exact absurd hj (hnew b c hl j d)
    · have h0 : i - m.length = 0 := by
        have := (List.getElem?_eq_some_iff.1 hi).1
        simp at this; omega
      have h1 : j - m.length = 0 := by
        have := (List.getElem?_eq_some_iff.1 hj).1
        simp at this; omega
      omega

theorem Sim.noblock {S : Mem} {m : List Loc} {H : List AObj} {B : Nat} {w : World} (s : Sim S m H B w) {b : Nat} (hb : w.heap.size ≤ b) (i c : Nat) : m[i]? ≠ some (.at_ b c) := by
  intro h
  have hi : i < H.length := by rw [← s.len]; exact (List.getElem?_eq_some_iff.1 h).1
  have := (s.obj i H[i] _ (List.getElem?_eq_getElem hi) h).lt
  omega
theorem Sim.newmem {S : Mem} {m : List Loc} {H : List AObj} {B : Nat} {w : World} (s : Sim S m H B w) {b : Nat} (hb : w.heap.size ≤ b) (o : Nat) : S b o = none := by
  cases h : S b o with
  | none => rfl
  | some v => have := s.lt h; omega

/-- A new block is laid: a variable of ours. -/
theorem Sim.newVar {S : Mem} {m : List Loc} {H : List AObj} {B : Nat} {w : World} (s : Sim S m H B w) (cs : List Cell) (vs : List Value) (T : Nat) (h : VCs S m H cs vs) :
    Sim S (m ++ [.at_ w.heap.size 0]) (H ++ [.var cs]) B (w.alloc (.cells vs.toArray T)) ∧ Ext B S m H S (m ++ [.at_ w.heap.size 0]) (H ++ [.var cs]) ∧
      VC S (m ++ [.at_ w.heap.size 0]) (H ++ [.var cs]) (.ptr H.length 0) (.pointer (some ⟨w.heap.size, 0, none⟩)) := by
  have e := Ext.push B S m H s.len (.var cs) (.at_ w.heap.size 0)
  obtain ⟨s1, _⟩ := s.grow (S' := S) (w' := w.alloc (.cells vs.toArray T)) (fun k hk => heap_alloc_old w _ hk) (by simp) (fun _ _ _ => rfl) (fun b o v hb hv => by have := s.newmem hb o; rw [this] at hv; cases hv)
  refine ⟨s1.push _ _ ⟨s.base, fun o => s.newmem (Nat.le_refl _) o, vs, T, heap_alloc_new w _, h.ext e⟩ ?_, e, ?_⟩
  · intro b c hbc i c'
    cases hbc
    exact s.noblock (Nat.le_refl _) i c'
  · exact ⟨w.heap.size, 0, cs, by simp, by rw [← s.len]; simp, rfl⟩

/-- An array object's block is in hand: nobody else's. -/
theorem Sim.newArr {S : Mem} {m : List Loc} {H : List AObj} {B : Nat} {w : World} (s : Sim S m H B w) (T size cap : Nat) (es : List (List PV)) (cur : List Value) (hs : 0 < size) (hu : ∀ e, e ∈ es → e.length = size)
    (hc : es.length ≤ cap) (hm : cap ≤ maxLen) (hl : cur.length = cap * size) (hp : VPs S es.flatten (cur.take (es.length * size))) :
    Sim S (m ++ [.at_ w.heap.size cap]) (H ++ [.arr T size 0 es]) B (w.alloc (.cells cur.toArray T)) ∧ Ext B S m H S (m ++ [.at_ w.heap.size cap]) (H ++ [.arr T size 0 es]) ∧
      VC S (m ++ [.at_ w.heap.size cap]) (H ++ [.arr T size 0 es]) (.own H.length es.length) (.slice (some ⟨w.heap.size, 0, none⟩) es.length cap) := by
  have e := Ext.push B S m H s.len (.arr T size 0 es) (.at_ w.heap.size cap)
  obtain ⟨s1, _⟩ := s.grow (S' := S) (w' := w.alloc (.cells cur.toArray T)) (fun k hk => heap_alloc_old w _ hk) (by simp) (fun _ _ _ => rfl) (fun b o v hb hv => by have := s.newmem hb o; rw [this] at hv; cases hv)
  refine ⟨s1.push _ _ ⟨hs, hu, Nat.zero_le _, s.base, hc, hm, (fun o v (hv : S w.heap.size o = some v) => by rw [s.newmem (Nat.le_refl _) o] at hv; cases hv), cur, heap_alloc_new w _, hl, hp⟩ ?_, e, ?_⟩
  · intro b c hbc i c'
    cases hbc
    exact s.noblock (Nat.le_refl _) i c'
  · exact ⟨T, size, 0, es, .at_ w.heap.size cap, by simp, by rw [← s.len]; simp, fun _ => rfl, Nat.le_refl _, rfl, rfl⟩

/-- A draw turns nothing. -/
theorem Sim.drew {S : Mem} {m : List Loc} {H : List AObj} {B : Nat} {w : World} (s : Sim S m H B w) : Sim S m H B w.drew :=
  ⟨s.len, s.mem, s.base, s.obj, s.inj⟩

theorem getElem?_set_ne {α : Type} (l : List α) (i j : Nat) (x : α) (h : i ≠ j) : (l.set i x)[j]? = l[j]? := by simp [List.getElem?_set, h]

/-- A variable's cells are written anew. -/
theorem Sim.setVar {S : Mem} {m : List Loc} {H : List AObj} {B : Nat} {w : World} (s : Sim S m H B w) {id b cap : Nat} {cs cs' : List Cell} (ho : H[id]? = some (.var cs)) (hl : m[id]? = some (.at_ b cap))
    {w' : World} {T : Nat} {vs : List Value} (hb : w'.heap[b]? = some (.cells vs.toArray T (0, 0))) (hother : ∀ k, k ≠ b → w'.heap[k]? = w.heap[k]?) (hsz : w'.heap.size = w.heap.size) (hv : VCs S m H cs' vs) :
    Sim S m (H.set id (.var cs')) B w' ∧ Ext B S m H S m (H.set id (.var cs')) := by
  have hid : id < H.length := (List.getElem?_eq_some_iff.1 ho).1
  have e : Ext B S m H S m (H.set id (.var cs')) := by
    refine ⟨Mem.le_refl S, fun _ _ _ => rfl, fun i x h hf => ⟨?_, fun _ h => h⟩, fun i T' size frz es l h h' => ⟨frz, es, l, ?_, h', Nat.le_refl _, fun _ => rfl⟩⟩
    · by_cases hi : id = i
      · subst hi
        rw [ho] at h; cases h
        exact ⟨.var cs', by simp [hid], trivial⟩
      · exact ⟨x, by rw [getElem?_set_ne _ _ _ _ hi]; exact h, Kin.refl hf⟩
    · have hi : id ≠ i := fun hi => by subst hi; rw [ho] at h; cases h
      rw [getElem?_set_ne _ _ _ _ hi]; exact h
  have hO := s.obj id _ _ ho hl
  obtain ⟨h1, h2, cur, T0, h3, h4⟩ := hO
  refine ⟨⟨by simp [s.len], fun b' o v h => ?_, by rw [hsz]; exact s.base, fun i x y hx hy => ?_, s.inj⟩, e⟩
  · have hne : b' ≠ b := fun hh => by subst hh; rw [h2 o] at h; cases h
    have := s.mem b' o v h
    simp only [World.cell?] at this ⊢
    rw [hother b' hne]
    exact this
  · by_cases hi : id = i
    · subst hi
      rw [hl] at hy
      cases hy
      rw [List.getElem?_set_self hid] at hx
      cases hx
      exact ⟨h1, h2, vs, T, hb, hv.ext e⟩
    · rw [getElem?_set_ne _ _ _ _ hi] at hx
      refine (s.obj i x y hx hy).keep e fun b' c hbc => ?_
      subst hbc
      have hne : b' ≠ b := fun hh => by subst hh; exact hi (s.inj id i b' cap c hl hy)
      exact ⟨hother b' hne, fun k => rfl⟩

/-- An array object is written: its block holds other cells, or lies elsewhere. -/
theorem Sim.setArr {S : Mem} {m : List Loc} {H : List AObj} {B : Nat} {w : World} (s : Sim S m H B w) {id : Nat} {T size frz : Nat} {es es' : List (List PV)} {l l' : Loc} (ho : H[id]? = some (.arr T size frz es)) (hl : m[id]? = some l)
    {w' : World} (hmem : ∀ b o v, S b o = some v → w'.cell? ⟨b, o, none⟩ = some v) (hsz : w.heap.size ≤ w'.heap.size) (hother : ∀ k, k < w.heap.size → (∀ b c, l = .at_ b c → k ≠ b) → w'.heap[k]? = w.heap[k]?)
    (hlen : es.length ≤ es'.length) (hsame : es'.length = es.length → l' = l) (hnew : ∀ b c, l' = .at_ b c → (∃ c', l = .at_ b c') ∨ w.heap.size ≤ b)
    (hok : ObjOk S (m.set id l') (H.set id (.arr T size frz es')) B w' (.arr T size frz es') l') :
    Sim S (m.set id l') (H.set id (.arr T size frz es')) B w' ∧ Ext B S m H S (m.set id l') (H.set id (.arr T size frz es')) := by
  have hid : id < H.length := (List.getElem?_eq_some_iff.1 ho).1
  have hidm : id < m.length := by rw [s.len]; exact hid
  have e : Ext B S m H S (m.set id l') (H.set id (.arr T size frz es')) := by
    refine ⟨Mem.le_refl S, fun _ _ _ => rfl, fun i x h hf => ?_, fun i T' size' frz' es0 l0 h h' => ?_⟩
    · have hi : id ≠ i := fun hi => by subst hi; rw [ho] at h; cases h; exact hf.elim
      exact ⟨⟨x, by rw [getElem?_set_ne _ _ _ _ hi]; exact h, Kin.refl hf⟩, fun l0 h0 => by rw [getElem?_set_ne _ _ _ _ hi]; exact h0⟩
    · by_cases hi : id = i
      · subst hi
        rw [ho] at h; cases h
        rw [hl] at h'; cases h'
        exact ⟨frz, es', l', by simp [hid], by simp [hidm], hlen, hsame⟩
      · exact ⟨frz', es0, l0, by rw [getElem?_set_ne _ _ _ _ hi]; exact h, by rw [getElem?_set_ne _ _ _ _ hi]; exact h', Nat.le_refl _, fun _ => rfl⟩
  refine ⟨⟨by simp [s.len], hmem, Nat.le_trans s.base hsz, fun i x y hx hy => ?_, fun i j b c d hi hj => ?_⟩, e⟩
  · by_cases hi : id = i
    · subst hi
      rw [List.getElem?_set_self hid] at hx
      rw [List.getElem?_set_self hidm] at hy
      cases hx; cases hy
      exact hok
    · rw [getElem?_set_ne _ _ _ _ hi] at hx hy
      refine (s.obj i x y hx hy).keep e fun b' c hbc => ?_
      subst hbc
      exact ⟨hother b' (s.obj i x _ hx hy).lt fun b c' hbc hne => by subst hbc; subst hne; exact hi (s.inj id i b' c' c hl hy), fun k => rfl⟩
  · by_cases h1 : id = i
    · subst h1
      rw [List.getElem?_set_self hidm] at hi
      by_cases h2 : id = j
      · exact h2
      · rw [getElem?_set_ne _ _ _ _ h2] at hj
        have hl' : l' = .at_ b c := Option.some.inj hi
        rcases hnew b c hl' with ⟨c', hc'⟩ | hb
        · subst hc'; exact s.inj id j b c' d hl hj
        · exact absurd hj (s.noblock hb j d)
    · rw [getElem?_set_ne _ _ _ _ h1] at hi
      by_cases h2 : id = j
      · subst h2
        rw [List.getElem?_set_self hidm] at hj
        have hl' : l' = .at_ b d := Option.some.inj hj
        rcases hnew b d hl' with ⟨c', hc'⟩ | hb
        · subst hc'; exact s.inj i id b c c' hi hl
        · exact absurd hi (s.noblock hb i c)
      · rw [getElem?_set_ne _ _ _ _ h2] at hj
        exact s.inj i j b c d hi hj

/-- The elements of an array object are frozen: from now on it reads as a list that nobody changes. -/
theorem Sim.freeze {S : Mem} {m : List Loc} {H : List AObj} {B : Nat} {w : World} (s : Sim S m H B w) {id T size frz : Nat} {es : List (List PV)} (ho : H[id]? = some (.arr T size frz es)) {v : Value} (hv : VC S m H (.own id es.length) v) :
    ∃ S', Sim S' m (H.set id (.arr T size es.length es)) B w ∧ Ext B S m H S' m (H.set id (.arr T size es.length es)) ∧ VP S' (.sl false es) v := by
  obtain ⟨T1, size1, frz1, es1, l, h1, h2, h3, _, _⟩ := hv
  rw [ho] at h1
  cases h1
  have h3 := h3 rfl
  have hid : id < H.length := (List.getElem?_eq_some_iff.1 ho).1
  have hO := s.obj id _ _ ho h2
  cases l with
  | nil A =>
    obtain ⟨hs, rfl, rfl⟩ := hO
    have e : Ext B S m H S m (H.set id (.arr T size 0 [])) := by
      refine ⟨Mem.le_refl S, fun _ _ _ => rfl, fun i x h hf => ?_, fun i T' size' frz' es0 l0 h h' => ?_⟩
      · have hi : id ≠ i := fun hi => by subst hi; rw [ho] at h; cases h; exact hf.elim
        exact ⟨⟨x, by rw [getElem?_set_ne _ _ _ _ hi]; exact h, Kin.refl hf⟩, fun l0 h0 => h0⟩
      · by_cases hi : id = i
        · subst hi
          rw [ho] at h; cases h
          exact ⟨0, [], l0, by simp [hid], h', Nat.le_refl _, fun _ => rfl⟩
        · exact ⟨frz', es0, l0, by rw [getElem?_set_ne _ _ _ _ hi]; exact h, h', Nat.le_refl _, fun _ => rfl⟩
    refine ⟨S, ⟨by simp [s.len], s.mem, s.base, fun i x y hx hy => ?_, s.inj⟩, e, ?_⟩
    · by_cases hi : id = i
      · subst hi
        rw [h2] at hy; cases hy
        have hx' : x = .arr T size 0 [] := by simpa [hid] using hx.symm
        subst hx'
        exact ⟨hs, rfl, rfl⟩
      · rw [getElem?_set_ne _ _ _ _ hi] at hx
        exact (s.obj i x y hx hy).keep e fun b' c hbc => ⟨rfl, fun k => rfl⟩
    · cases A with
      | none => subst h3; exact .nil false
      | some q => subst h3; exact .emp false q
  | at_ b cap =>
    obtain ⟨hs, hu, hf, hB, hc, hm, hS, cur, hh, hl, hp⟩ := hO
    have hlen : (cur.take (es.length * size)).length = es.length * size := by
      rw [List.length_take, hl]
      exact Nat.min_eq_left (Nat.mul_le_mul_right _ hc)
    let S' : Mem := fun b' o => if b' = b ∧ o < es.length * size then cur[o]? else S b' o
    have hle : S.le S' := fun b' o v hv => by
      show (if b' = b ∧ o < es.length * size then cur[o]? else S b' o) = some v
      split
      · rename_i hbo
        obtain ⟨rfl, _⟩ := hbo
        rw [← cell_eq hh]; exact s.mem b' o v hv
      · exact hv
    have hnew : ∀ b' k, b' ≠ b → S' b' k = S b' k := fun b' k hne => by
      show (if b' = b ∧ k < es.length * size then cur[k]? else S b' k) = S b' k
      rw [if_neg (fun h => hne h.1)]
    have hin : ∀ k, k < es.length * size → S' b k = cur[k]? := fun k hk => by
      show (if b = b ∧ k < es.length * size then cur[k]? else S b k) = cur[k]?
      rw [if_pos ⟨rfl, hk⟩]
    have e : Ext B S m H S' m (H.set id (.arr T size es.length es)) := by
      refine ⟨hle, fun b' k hb' => hnew b' k (by omega), fun i x h hf => ?_, fun i T' size' frz' es0 l0 h h' => ?_⟩
      · have hi : id ≠ i := fun hi => by subst hi; rw [ho] at h; cases h; exact hf.elim
        exact ⟨⟨x, by rw [getElem?_set_ne _ _ _ _ hi]; exact h, Kin.refl hf⟩, fun l0 h0 => h0⟩
      · by_cases hi : id = i
        · subst hi
          rw [ho] at h; cases h
          exact ⟨es.length, es, l0, by simp [hid], h', Nat.le_refl _, fun _ => rfl⟩
        · exact ⟨frz', es0, l0, by rw [getElem?_set_ne _ _ _ _ hi]; exact h, h', Nat.le_refl _, fun _ => rfl⟩
    refine ⟨S', ⟨by simp [s.len], fun b' o v h => ?_, s.base, fun i x y hx hy => ?_, s.inj⟩, e, ?_⟩
    · by_cases hbo : b' = b ∧ o < es.length * size
      · obtain ⟨rfl, ho'⟩ := hbo
        rw [hin o ho'] at h
        rw [cell_eq hh]; exact h
      · have : S' b' o = S b' o := if_neg hbo
        rw [this] at h
        exact s.mem b' o v h
    · by_cases hi : id = i
      · subst hi
        rw [h2] at hy; cases hy
        have hx' : x = .arr T size es.length es := by simpa [hid] using hx.symm
        subst hx'
        refine ⟨hs, hu, Nat.le_refl _, hB, hc, hm, fun o v hv => ?_, cur, hh, hl, hp.mono hle⟩
        rcases Nat.lt_or_ge o (es.length * size) with h | h
        · exact h
        · have : S' b o = S b o := if_neg (fun hbo => by omega)
          rw [this] at hv
          have := hS o v hv
          have := Nat.mul_le_mul_right size hf
          omega
      · rw [getElem?_set_ne _ _ _ _ hi] at hx
        refine (s.obj i x y hx hy).keep e fun b' c hbc => ⟨rfl, fun k => ?_⟩
        subst hbc
        exact hnew b' k (fun hh => by subst hh; exact hi (s.inj id i b' cap c h2 hy))
    · subst h3
      refine .sl false es b 0 cap size es.length (fun k => cur.getD k undef) rfl hc hm (fun h => by cases h) hs hu (fun k x hk => ?_) (fun k x hk => ?_)
      all_goals
        have hk' : k < es.length * size := by rw [← flat_len hu]; exact (List.getElem?_eq_some_iff.1 hk).1
        have hkc : k < cur.length := by rw [hl]; have := Nat.mul_le_mul_right size hc; omega
      · rw [Nat.zero_add, hin k hk', List.getD_eq_getElem?_getD, List.getElem?_eq_getElem hkc]; rfl
      · refine (hp.2 k x _ hk ?_).mono hle
        rw [List.getElem?_take, if_pos hk', List.getD_eq_getElem?_getD, List.getElem?_eq_getElem hkc]; rfl

end Go.Aw
