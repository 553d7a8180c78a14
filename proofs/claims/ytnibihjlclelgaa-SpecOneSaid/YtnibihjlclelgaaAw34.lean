import Derived.Test.YtnibihjlclelgaaAw33
/-
  A slice of slices whose elements are cells of ours; rows of our own that are frozen where they lie; a drawn region's table with other names.
-/
set_option linter.unusedVariables false
set_option linter.unusedSimpArgs false
namespace Go.Aw
open Go.RowKit
section
variable {P : Program} {n k : Nat} {cx : Cx} {sl sl' : Slots} {H : List AObj} {S : Mem} {m : List Loc} {B : Nat} {w : World}

def aVs (P : Program) (n : Nat) (sl : Slots) (H : List AObj) (o : Oper) (K : Slots → List AObj → Prop) : Prop :=
  o.guard = none ∧ match o.op with
  | .makeSlice t x y => match P.underlying t, intA (ev sl x), intA (ev sl y) with
    | some (.slice e), some i, some i' => i' = i ∧ 0 ≤ i ∧ i ≤ 9223372036854775807 ∧ (P.bytesOf e : Int) * i ≤ 281474976710656 ∧ P.cellsOf e = 1 ∧
      match zeroP P e with
      | some [z] => aput n o.dst (.c (.vs H.length i.toNat)) sl fun sl' => K sl' (H ++ [.var (List.replicate i.toNat (.p z))])
      | _ => False
    | _, _, _ => False
  | _ => False
theorem good_vs (s : Sim S m H B w) {t e : TypeId} {x y : AV} {v u : Value} {i : Int} {z : PV} {K : AV → List AObj → Prop} (hx : VA S m H x v) (hy : VA S m H y u) (hu : P.underlying t = some (.slice e)) (hn : intA x = some i) (hn' : intA y = some i)
    (h0 : 0 ≤ i) (h63 : i ≤ 9223372036854775807) (hb : (P.bytesOf e : Int) * i ≤ 281474976710656) (hc : P.cellsOf e = 1) (hz : zeroP P e = some [z]) (hk : K (.c (.vs H.length i.toNat)) (H ++ [.var (List.replicate i.toNat (.p z))])) :
    Good P B S m H w (Instr.makeSlice t v u) K := by
  obtain ⟨k1, rfl⟩ := intA_ok hx hn
  obtain ⟨k2, rfl⟩ := intA_ok hy hn'
  obtain ⟨it, hi, hsz, hby⟩ := info_of_cells (P := P) (t := e) (by omega)
  unfold zeroP at hz
  cases hzz : it.zero with
  | none => simp [hi, hzz] at hz
  | some zv =>
    simp [hi, hzz] at hz
    have hzs : VPs S [z] zv.cells.toList := absL_ok S hz
    have hr := run_make (P := P) w t e it zv hu hi hzz k1 k2 i i h0 (Int.le_refl _) (by rw [hby]; exact hb) h63
    have hlen : (madeCells zv.cells (i.toNat * it.size)).toList.length = i.toNat := by rw [Array.length_toList, size_madeCells, hsz, hc, Nat.mul_one]
    have hcs : VCs S m H (List.replicate i.toNat (.p z)) (madeCells zv.cells (i.toNat * it.size)).toList := by
      refine ⟨by rw [hlen, List.length_replicate], fun j c v hj hv => ?_⟩
      have hjl : j < i.toNat := by have := (List.getElem?_eq_some_iff.1 hj).1; simpa using this
      rw [List.getElem?_replicate, if_pos hjl] at hj
      cases hj
      have hz1 : zv.cells.size = 1 := by have := hzs.1; simpa using this.symm
      have hv2 : zv.cells.toList[0]? = some v := by
        rw [Array.getElem?_toList] at hv
        simp only [madeCells, Array.getElem?_map] at hv
        rw [hsz, hc, Nat.mul_one, Array.getElem?_range, if_pos hjl] at hv
        simp only [Option.map_some, Option.some.injEq, hz1, Nat.mod_one] at hv
        rw [← hv, Array.getElem?_toList, getElem!_pos zv.cells 0 (by omega)]
        exact Array.getElem?_eq_getElem (by omega)
      exact hzs.2 0 z v rfl hv2
    obtain ⟨s2, e2, _⟩ := s.newVar _ _ e hcs
    refine ⟨_, _, hr, S, _, _, .c (.vs H.length i.toNat), by simpa using s2, e2, (Bel.refl B w).alloc s.base _, ?_, hk⟩
    exact ⟨w.heap.size, 0, List.replicate i.toNat (.p z), by simp, by rw [← s.len]; simp, rfl⟩
theorem aVs_ok {ops : Array Oper} {o : Oper} {rest : List Oper} {Q : Exit → Act → World → Prop} {K : Slots → List AObj → Prop} {a : Act} (hin : InSt cx n sl H a w) (h : aVs P n sl H o K)
    (hrest : ∀ sl' H' a' w', InSt cx n sl' H' a' w' → K sl' H' → wpListIn (FR cx.ro) 0 P ops Q rest a' w') : wpListIn (FR cx.ro) 0 P ops Q (o :: rest) a w := by
  obtain ⟨S, m, s, e0, bl, r⟩ := hin
  unfold aVs at h
  obtain ⟨hg, h⟩ := h
  obtain ⟨dst, op, ty, pos, aft, gd⟩ := o
  simp only at hg
  subst hg
  simp only at h
  split at h
  · rename_i t x y
    have hx := r.eval x
    have hy := r.eval y
    split at h
    · rename_i e i i' hu hxe hye
      obtain ⟨rfl, h0, h63, hb, hc, h⟩ := h
      split at h
      · rename_i z hz
        unfold wpListIn
        rw [if_pos (by simp [Region.wanted])]
        refine Oper.wpIn_of_wp (by intro c hc; cases hc) ?_
        refine Oper.wp_mono ?_ (op_good (n := n) (o := ⟨dst, .makeSlice t x y, ty, pos, aft, none⟩) (c := Instr.makeSlice t (a.eval x) (a.eval y)) rfl
          (good_vs (K := fun x' H' => x' = .c (.vs H.length i'.toNat) ∧ H' = H ++ [.var (List.replicate i'.toNat (.p z))]) s hx hy hu hxe hye h0 h63 hb hc hz ⟨rfl, rfl⟩))
        rintro a' w' ⟨v, S', m', H', x, rfl, h1, h2, h3, h4, rfl, rfl⟩
        obtain ⟨sl', r', hk'⟩ := aput_ok (r.ext h2) h4 h
        exact hrest sl' _ _ w' ⟨S', m', h1, e0.trans h2, bl.trans h3, r'⟩ hk'
      · exact h.elim
    · exact h.elim
  · exact h.elim
theorem AW.vs {Q : Exit → Slots → List AObj → Prop} {id : Nat} {l : List Oper} (pre : List Oper) (o : Oper) (post : List Oper) (hops : l = pre ++ o :: post)
    (h : aops P false n l.toArray pre sl H fun sl' H' => aVs P n sl' H' o fun sl2 H2 => aops P false n l.toArray post sl2 H2 (Q .normal)) : AW P n k (.region id l.toArray false) Q sl H := fun cx hk a w hin => by
  refine wpIn_region_list ?_
  rw [show l.toArray.toList = pre ++ o :: post by simpa using hops]
  exact aops_okK hin h fun sl' H' a' w' hi hk => aVs_ok hi hk fun sl' H' a' w' hi hk => aops_ok hi hk fun sl' H' a' w' hi hk => ⟨sl', H', hi, hk⟩
theorem AW.vsI {Q : Exit → Slots → List AObj → Prop} {id : Nat} {l : List Oper} {y : Code} (i : Nat) (o : Oper) (hi : l[i]? = some o)
    (h : ∀ K : Slots → List AObj → Prop, (∀ sl' H', AW P n k y Q sl' H' → K sl' H') → aops P false n l.toArray (l.take i) sl H fun sl' H' => aVs P n sl' H' o fun sl2 H2 => aops P false n l.toArray (l.drop (i + 1)) sl2 H2 K) : AW P n k (.seq (.region id l.toArray false) y) Q sl H :=
  AW.seq (AW.vs (l.take i) o (l.drop (i + 1)) (by
    have hlt := (List.getElem?_eq_some_iff.1 hi).1
    have he : l[i] = o := (List.getElem?_eq_some_iff.1 hi).2
    rw [← he, ← List.drop_eq_getElem_cons hlt, List.take_append_drop]) (h _ fun _ _ h => h))

/-- A variable's cell that holds all of an array of ours: from now on it reads as a plain list. -/
theorem Sub.frzAt (id j id' : Nat) {T size frz : Nat} {es : List (List PV)} {cs : List Cell} (hd : H[id]? = some (.var cs)) (hj : cs[j]? = some (.own id' es.length)) (ho : H[id']? = some (.arr T size frz es)) :
    Sub n k sl H sl ((H.set id' (.arr T size es.length es)).set id (.var (cs.set j (.p (.sl false es))))) := by
  rintro cx hk a w ⟨S, m, s, e, b, r⟩
  obtain ⟨l, hl, hO⟩ := s.loc hd
  cases l with
  | nil A => exact hO.elim
  | at_ bb cap =>
    obtain ⟨h1, h2, cur, T0, h3, h4⟩ := hO
    have hjl : j < cur.length := by rw [← h4.1]; exact (List.getElem?_eq_some_iff.1 hj).1
    have hcj : cur[j]? = some cur[j] := List.getElem?_eq_getElem hjl
    have hv := h4.2 j _ _ hj hcj
    obtain ⟨S2, s2, e2, hv2⟩ := s.freeze ho hv
    have hne : id' ≠ id := fun h => by subst h; rw [hd] at ho; cases ho
    have hd2 : (H.set id' (.arr T size es.length es))[id]? = some (.var cs) := by rw [getElem?_set_ne _ _ _ _ hne]; exact hd
    obtain ⟨s3, e3⟩ := s2.setVar (cs' := cs.set j (.p (.sl false es))) hd2 hl (w' := w) h3 (fun _ _ => rfl) rfl ((h4.ext e2).set hcj hv2)
    have ee := e2.trans e3
    exact ⟨S2, _, s3, e.trans ee, b, r.ext ee⟩
end

/-! ### Rows of ours in a variable's cells -/
def ownC {α : Type} (b : Nat) : List (List α) → List Cell
  | [] => []
  | l :: r => .own b l.length :: ownC (b + 1) r
theorem ownC_len {α : Type} : ∀ (ls : List (List α)) (b : Nat), (ownC b ls).length = ls.length
  | [], _ => rfl
  | _ :: r, b => by simp [ownC, ownC_len r]
theorem ownC_get {α : Type} : ∀ {ls : List (List α)} (b : Nat) {i : Nat} {l : List α}, ls[i]? = some l → (ownC b ls)[i]? = some (.own (b + i) l.length)
  | [], _, i, l, h => by simp at h
  | x :: r, b, 0, l, h => by simp at h; subst h; rfl
  | x :: r, b, i + 1, l, h => by
    rw [List.getElem?_cons_succ] at h
    rw [ownC, List.getElem?_cons_succ, ownC_get (b + 1) h, Nat.add_right_comm, Nat.add_assoc]
theorem ownC_set {α : Type} : ∀ (ls : List (List α)) (b i : Nat) (l : List α), (ownC b ls).set i (.own (b + i) l.length) = ownC b (ls.set i l)
  | [], _, i, l => by simp [ownC]
  | x :: r, b, 0, l => rfl
  | x :: r, b, i + 1, l => by
    simp only [ownC, List.set_cons_succ]
    rw [← ownC_set r (b + 1) i l, Nat.add_right_comm, Nat.add_assoc]
theorem ownC_app {α : Type} : ∀ (ls ks : List (List α)) (b : Nat), ownC b (ls ++ ks) = ownC b ls ++ ownC (b + ls.length) ks
  | [], ks, b => by simp [ownC]
  | x :: r, ks, b => by simp only [List.cons_append, ownC, ownC_app r ks (b + 1), List.length_cons]; rw [Nat.add_right_comm, Nat.add_assoc]
theorem ownC_ids {α : Type} {j : Nat} : ∀ (ls : List (List α)) (b : Nat), b + ls.length ≤ j → idsL j (ownC b ls)
  | [], _, _ => trivial
  | x :: r, b, h => by
    rw [List.length_cons] at h
    exact ⟨by show b < j; omega, ownC_ids r (b + 1) (by omega)⟩
theorem ownC_no {α : Type} {j : Nat} : ∀ (ls : List (List α)) (b : Nat), j < b → noL j (ownC b ls)
  | [], _, _ => trivial
  | x :: r, b, h => ⟨by show b ≠ j; omega, ownC_no r (b + 1) (by omega)⟩
def rowsA {α : Type} (T size : Nat) (f : α → List PV) (ls : List (List α)) : List AObj := ls.map fun l => .arr T size 0 (l.map f)
theorem rowsA_len {α : Type} (T size : Nat) (f : α → List PV) (ls : List (List α)) : (rowsA T size f ls).length = ls.length := by simp [rowsA]
theorem rowsA_get {α : Type} {T size : Nat} {f : α → List PV} {ls : List (List α)} {i : Nat} {l : List α} (h : ls[i]? = some l) : (rowsA T size f ls)[i]? = some (.arr T size 0 (l.map f)) := by simp [rowsA, h]
theorem rowsA_set {α : Type} (T size : Nat) (f : α → List PV) (ls : List (List α)) (i : Nat) (l : List α) : (rowsA T size f ls).set i (.arr T size 0 (l.map f)) = rowsA T size f (ls.set i l) := by simp [rowsA, List.map_set]
theorem idsO_arrs {j : Nat} : ∀ {H : List AObj}, (∀ o ∈ H, ∃ T size frz es, o = .arr T size frz es) → idsO j H
  | [], _ => trivial
  | o :: r, h => by
    obtain ⟨T, size, frz, es, rfl⟩ := h o (by simp)
    exact idsO_arrs (H := r) fun o ho => h o (by simp [ho])
theorem noO_arrs {j : Nat} : ∀ {H : List AObj}, (∀ o ∈ H, ∃ T size frz es, o = .arr T size frz es) → noO j H
  | [], _ => trivial
  | o :: r, h => by
    obtain ⟨T, size, frz, es, rfl⟩ := h o (by simp)
    exact noO_arrs (H := r) fun o ho => h o (by simp [ho])
theorem rowsA_arrs {α β : Type} {T size T' size' : Nat} {f : α → List PV} {g : β → List PV} {ls : List (List α)} {ks : List (List β)} : ∀ o ∈ rowsA T size f ls ++ rowsA T' size' g ks, ∃ T size frz es, o = .arr T size frz es := fun o ho => by
  rcases List.mem_append.1 ho with h | h
  · obtain ⟨l, _, rfl⟩ := List.mem_map.1 h; exact ⟨_, _, _, _, rfl⟩
  · obtain ⟨l, _, rfl⟩ := List.mem_map.1 h; exact ⟨_, _, _, _, rfl⟩
section
variable {n k : Nat} {sl sl' : Slots} {H : List AObj}
/-- All of a variable's empty slices become rows of ours. -/
theorem Sub.promoteAll {α : Type} (id T size c : Nat) (f : α → List PV) (hs : 0 < size) (hd : H[id]? = some (.var (List.replicate c (.p (.sl true []))))) :
    Sub n k sl H sl (H.set id (.var (ownC H.length (List.replicate c ([] : List α)))) ++ rowsA T size f (List.replicate c ([] : List α))) := by
  have hid := (List.getElem?_eq_some_iff.1 hd).1
  have key : ∀ i, i ≤ c → Sub n k sl H sl (H.set id (.var (ownC H.length (List.replicate i ([] : List α)) ++ List.replicate (c - i) (.p (.sl true [])))) ++ rowsA T size f (List.replicate i ([] : List α))) := fun i => by
    induction i with
    | zero =>
      intro _
      have e : H.set id (.var (ownC H.length (List.replicate 0 ([] : List α)) ++ List.replicate (c - 0) (.p (.sl true [])))) ++ rowsA T size f (List.replicate 0 ([] : List α)) = H := by
        simp only [List.replicate_zero, ownC, List.nil_append, rowsA, List.map_nil, List.append_nil, Nat.sub_zero]
        apply List.ext_getElem?
        intro j
        by_cases hj : id = j
        · subst hj; rw [List.getElem?_set_self hid, hd]
        · rw [List.getElem?_set_ne hj]
      rw [e]
      exact Sub.refl
    | succ i ih =>
      intro hi
      refine Sub.trans (ih (by omega)) ?_
      have hlen : (H.set id (.var (ownC H.length (List.replicate i ([] : List α)) ++ List.replicate (c - i) (.p (.sl true [])))) ++ rowsA T size f (List.replicate i ([] : List α))).length = H.length + i := by simp [rowsA_len]
      have h1 : (H.set id (.var (ownC H.length (List.replicate i ([] : List α)) ++ List.replicate (c - i) (.p (.sl true [])))) ++ rowsA T size f (List.replicate i ([] : List α)))[id]? = some (.var (ownC H.length (List.replicate i ([] : List α)) ++ List.replicate (c - i) (.p (.sl true [])))) := by
        rw [List.getElem?_append_left (by rw [List.length_set]; exact hid), List.getElem?_set_self hid]
      have h2 : (ownC H.length (List.replicate i ([] : List α)) ++ List.replicate (c - i) (.p (.sl true [])))[i]? = some (Cell.p (.sl true [])) := by
        rw [List.getElem?_append_right (by rw [ownC_len, List.length_replicate]; exact Nat.le_refl _), ownC_len, List.length_replicate, Nat.sub_self, List.getElem?_replicate, if_pos (by omega)]
      have h3 := Sub.promoteAt (n := n) (k := k) (sl := sl) id i T size hs h1 h2
      have e1 : (ownC H.length (List.replicate i ([] : List α)) ++ List.replicate (c - i) (Cell.p (.sl true []))).set i (.own (H.length + i) 0) = ownC H.length (List.replicate (i + 1) ([] : List α)) ++ List.replicate (c - (i + 1)) (Cell.p (.sl true [])) := by
        rw [List.replicate_succ', ownC_app, List.append_assoc, List.set_append, if_neg (by rw [ownC_len, List.length_replicate]; omega), ownC_len, List.length_replicate, Nat.sub_self, show c - i = (c - (i + 1)) + 1 by omega, List.replicate_succ]
        simp only [List.set_cons_zero, ownC, List.length_nil]; rfl
      have e2 : rowsA T size f (List.replicate (i + 1) ([] : List α)) = rowsA T size f (List.replicate i ([] : List α)) ++ [.arr T size 0 []] := by
        rw [List.replicate_succ']; simp [rowsA]
      rw [hlen, e1, List.set_append, if_pos (by rw [List.length_set]; exact hid), List.set_set, List.append_assoc, ← e2] at h3
      exact h3
  have h := key c (Nat.le_refl _)
  rw [Nat.sub_self, List.replicate_zero, List.append_nil] at h
  exact h
/-- All rows of ours in a variable's cells read as plain lists from now on. -/
theorem Sub.frzAll {α : Type} (id b T size : Nat) (f : α → List PV) (ls : List (List α)) (hb : id < b) (hd : H[id]? = some (.var (ownC b ls))) (ho : ∀ (i : Nat) l, ls[i]? = some l → H[b + i]? = some (.arr T size 0 (l.map f))) :
    ∃ H', Sub n k sl H sl H' ∧ H'.length = H.length ∧ H'[id]? = some (.var (ls.map fun l => .p (.sl false (l.map f)))) ∧ ∀ j, j ≠ id → (j < b ∨ b + ls.length ≤ j) → H'[j]? = H[j]? := by
  have hid := (List.getElem?_eq_some_iff.1 hd).1
  have key : ∀ i, i ≤ ls.length → ∃ H', Sub n k sl H sl H' ∧ H'.length = H.length ∧ H'[id]? = some (.var ((ls.take i).map (fun l => Cell.p (.sl false (l.map f))) ++ ownC (b + i) (ls.drop i))) ∧ ∀ j, j ≠ id → (j < b ∨ b + i ≤ j) → H'[j]? = H[j]? := fun i => by
    induction i with
    | zero =>
      intro _
      exact ⟨H, Sub.refl, rfl, by simpa using hd, fun _ _ _ => rfl⟩
    | succ i ih =>
      intro hi
      obtain ⟨H', h1, h2, h3, h4⟩ := ih (by omega)
      obtain ⟨l, hl⟩ : ∃ l, ls[i]? = some l := ⟨_, List.getElem?_eq_getElem (by omega)⟩
      have hdrop : ls.drop i = l :: ls.drop (i + 1) := by rw [List.drop_eq_getElem_cons (by omega), (List.getElem?_eq_some_iff.1 hl).2]
      rw [hdrop] at h3
      have hlt : ((ls.take i).map (fun l => Cell.p (.sl false (l.map f)))).length = i := by rw [List.length_map, List.length_take]; omega
      have hj : ((ls.take i).map (fun l => Cell.p (.sl false (l.map f))) ++ ownC (b + i) (l :: ls.drop (i + 1)))[i]? = some (.own (b + i) (l.map f).length) := by
        rw [List.getElem?_append_right (by omega), hlt, Nat.sub_self, List.length_map]; rfl
      have hob : H'[b + i]? = some (.arr T size 0 (l.map f)) := by rw [h4 _ (by omega) (.inr (Nat.le_refl _))]; exact ho i l hl
      have h5 := Sub.frzAt (n := n) (k := k) (sl := sl) id i (b + i) h3 hj hob
      refine ⟨_, Sub.trans h1 h5, by simp [h2], ?_, fun j hji hjb => ?_⟩
      · rw [List.getElem?_set_self (by rw [List.length_set, h2]; exact hid)]
        congr 2
        rw [List.set_append, if_neg (by omega), hlt, Nat.sub_self, List.take_add_one, hl]
        simp [ownC, Nat.add_assoc]
      · rw [List.getElem?_set_ne (Ne.symm hji), List.getElem?_set_ne (by omega)]
        exact h4 j hji (by omega)
  obtain ⟨H', h1, h2, h3, h4⟩ := key ls.length (Nat.le_refl _)
  refine ⟨H', h1, h2, ?_, h4⟩
  rw [h3]
  simp [ownC]
end
/-! ### A table with other names -/
def mapRow (f : Nat → Nat) (r : Row) : Row := (r.1.map f, r.2.map f)
theorem compat_map {f : Nat → Nat} (hf : ∀ a b, f a = f b → a = b) (r s : Row) : compat (mapRow f r) (mapRow f s) = compat r s := by
  obtain ⟨a, l⟩ := r
  obtain ⟨b, q⟩ := s
  have hc : ∀ (x : Nat) (l : List Nat), (l.map f).contains (f x) = l.contains x := fun x l => by
    rw [Bool.eq_iff_iff]
    simp only [List.contains_iff_mem, List.mem_map]
    exact ⟨fun ⟨y, hy, h⟩ => by rw [← hf _ _ h]; exact hy, fun h => ⟨x, h, rfl⟩⟩
  have hn : ∀ x y : Nat, (f x != f y) = (x != y) := fun x y => by
    rw [Bool.eq_iff_iff]
    simp only [bne_iff_ne, ne_eq]
    exact ⟨fun h h' => h (by rw [h']), fun h h' => h (hf _ _ h')⟩
  cases a <;> cases b <;> simp only [compat, mapRow, Option.map_some, Option.map_none, hc, hn]
theorem rowAt_map (f : Nat → Nat) (tab : List Row) (i : Nat) : rowAt (tab.map (mapRow f)) i = mapRow f (rowAt tab i) := by
  unfold rowAt
  rw [List.getD_eq_getElem?_getD, List.getD_eq_getElem?_getD, List.getElem?_map]
  cases tab[i]? <;> rfl
theorem drawB_map {f : Nat → Nat} (hf : ∀ a b, f a = f b → a = b) (n : Nat) (ops : Array Oper) (tab : List Row) : drawB n ops (tab.map (mapRow f)) = drawB n ops tab := by
  have hfree : ∀ listed i, freeE .any ops (tab.map (mapRow f)) listed i = freeE .any ops tab listed i := fun listed i => by
    unfold freeE
    simp only [rowAt_map, compat_map hf]
  have hlex : ∀ fuel k listed, lexE .any ops (tab.map (mapRow f)) fuel k listed = lexE .any ops tab fuel k listed := fun fuel => by
    induction fuel with
    | zero => intro k listed; rfl
    | succ fuel ih => intro k listed; simp only [lexE, hfree, ih]
  unfold drawB
  rw [hlex]
/-- The name a is told as b, and back. -/
def swp (a b x : Nat) : Nat := if x = a then b else if x = b then a else x
theorem swp_inj (a b : Nat) (x y : Nat) (h : swp a b x = swp a b y) : x = y := by
  unfold swp at h
  split at h <;> split at h <;> (try split at h) <;> (try split at h) <;> omega
theorem drawB_swp (a b : Nat) {n : Nat} {ops : Array Oper} {tab tab' : List Row} (h : drawB n ops tab = true) (ht : tab.map (mapRow (swp a b)) = tab') : drawB n ops tab' = true := by
  rw [← ht, drawB_map (swp_inj a b)]; exact h
end Go.Aw
