/-
  An abstract memory for walks, part 25: the end of an array of ours is cleared: a slice from one place on, and 'clear' of it, one behind the other.
-/
import Derived.Test.YtnibihjlclelgaaAw24
import Derived.Laws.CopyRow
set_option linter.unusedVariables false
set_option linter.unusedSimpArgs false
namespace Go.Aw
open Go.RowKit
section
variable {P : Program} {n k : Nat} {cx : Cx} {sl : Slots} {H : List AObj} {a : Act} {w : World}

theorem zeroCells_made (z : Array Value) (n : Nat) : Builtin.zeroCells z n = madeCells z (n * z.size) := rfl
/-- Zero cells, element by element. -/
theorem made_VPs {S : Mem} {zs : List PV} {z : Array Value} (n : Nat) (hz : VPs S zs z.toList) (hp : 0 < zs.length) : VPs S (List.replicate n zs).flatten (madeCells z (n * z.size)).toList := by
  have hzl : zs.length = z.size := by have := hz.1; simpa using this
  have hnz : ∀ x, x ∈ List.replicate n zs → x.length = zs.length := fun x hx => by rw [List.eq_of_mem_replicate hx]
  have hlen : (madeCells z (n * z.size)).toList.length = n * zs.length := by rw [Array.length_toList, size_madeCells, hzl]
  refine ⟨by rw [flat_len hnz, hlen, List.length_replicate], fun j x u hx hu' => ?_⟩
  have hj : j < n * zs.length := by rw [← hlen]; exact (List.getElem?_eq_some_iff.1 hu').1
  have hjd : j = (j / zs.length) * zs.length + j % zs.length := by rw [Nat.mul_comm]; exact (Nat.div_add_mod j _).symm
  have hjm : j % zs.length < zs.length := Nat.mod_lt _ hp
  rw [hjd, flat_get hnz _ _ hjm] at hx
  have hq : j / zs.length < n := by rw [Nat.div_lt_iff_lt_mul hp]; exact hj
  rw [List.getElem?_replicate, if_pos hq] at hx
  simp only [Option.bind_some] at hx
  have hu2 : z.toList[j % zs.length]? = some u := by
    rw [Array.getElem?_toList] at hu'
    simp only [madeCells, Array.getElem?_map] at hu'
    rw [Array.getElem?_range, if_pos (by rw [← hzl]; exact hj)] at hu'
    simp only [Option.map_some, Option.some.injEq] at hu'
    rw [← hu', Array.getElem?_toList, hzl, getElem!_pos z _ (by rw [← hzl]; exact hjm)]
    exact Array.getElem?_eq_getElem (by rw [← hzl]; exact hjm)
  exact hz.2 _ x u hx hu2
theorem set_self {α : Type} {l : List α} {i : Nat} {x : α} (h : l[i]? = some x) : l.set i x = l := by
  apply List.ext_getElem?
  intro j
  by_cases hj : i = j
  · subst hj; rw [List.getElem?_set_self (List.getElem?_eq_some_iff.1 h).1, h]
  · rw [getElem?_set_ne _ _ _ _ hj]
/-- What the clearing comes to. -/
def aClr (P : Program) (n : Nat) (sl : Slots) (H : List AObj) (o o2 : Oper) (K : Slots → List AObj → Prop) : Prop :=
  ∃ (t e : TypeId) (d : Nat) (x li : Operand) (id T frz nn : Nat) (kk : IntKind) (l : Nat) (es : List (List PV)) (zs : List PV),
    o.op = .slice t x (some li) none none ∧ o2.op = .call ⟨.builtin .clear, #[.tmp d], #[t]⟩ ∧ o.dst = some d ∧ d < n ∧ o.guard = none ∧ o2.guard = none ∧ o2.dst = none ∧
    P.underlying t = some (.slice e) ∧ zeroP P e = some zs ∧ zs.length = P.cellsOf e ∧ 0 < P.cellsOf e ∧ ev sl x = .c (.own id nn) ∧ ev sl li = .c (.p (.int kk l)) ∧ l ≤ nn ∧ es.length = nn ∧
    H[id]? = some (.arr T (P.cellsOf e) frz es) ∧ frz ≤ l ∧ K ((d, .any) :: sl) (H.set id (.arr T (P.cellsOf e) frz (es.take l ++ List.replicate (nn - l) (zs.map Aw.lo))))
theorem clr_ok {ops : Array Oper} {o o2 : Oper} {rest : List Oper} {Q : Exit → Act → World → Prop} {K : Slots → List AObj → Prop} (hin : InSt cx n sl H a w) (h : aClr P n sl H o o2 K)
    (hrest : ∀ sl' H' a' w', InSt cx n sl' H' a' w' → K sl' H' → wpListIn (FR cx.ro) 0 P ops Q rest a' w') : wpListIn (FR cx.ro) 0 P ops Q (o :: o2 :: rest) a w := by
  obtain ⟨t, e, d, x, li, id, T, frz, nn, kk, l, es, zs, h1, h2, h3, hd, h4, h5, h6, hu, hz, hzl, hp, hx, hlo, hln, hes, ho, hf, hk⟩ := h
  obtain ⟨S, m, s, e0, bl, r⟩ := hin
  have vx := r.eval x
  rw [hx] at vx
  have vl := r.eval li
  rw [hlo] at vl
  have vl' : a.eval li = .int kk l := by
    generalize a.eval li = q at vl
    cases vl; rfl
  obtain ⟨T1, size1, frz1, es1, lc, g1, g2, g3, g4, g5⟩ := vx
  rw [ho] at g1; cases g1
  have g3 := g3 hes
  have hO := s.obj id _ _ ho g2
  obtain ⟨i, hi, hsz, hby⟩ := info_of_cells hp
  -- the zero
  unfold zeroP at hz
  cases hzz : i.zero with
  | none => simp [hi, hzz] at hz
  | some z =>
  simp [hi, hzz] at hz
  have hzs : VPs S (zs.map Aw.lo) z.cells.toList := (absL_ok S hz).lo
  have hzsz : z.cells.size = P.cellsOf e := by have := (absL_ok S hz).1; simp at this; omega
  have hzr : ∀ w : World, (zeroValue e).run P w = .ok z w := fun w => by simp [zeroValue, typeInfo, hi, hzz]
  have hss := run_sizeOf' hp w
  -- the slice, whatever it is
  have main : ∀ (A : Option Addr) (cap : Nat), a.eval x = .slice A nn cap → nn ≤ cap →
      (∃ w', ((Builtin.clear_ #[t] o2.type #[.slice (if cap = l then A else A.map (·.add (l * P.cellsOf e))) (nn - l) (cap - l)]).run P w = .ok (.tuple #[]) w') ∧ ∃ m', Sim S m' (H.set id (.arr T (P.cellsOf e) frz (es.take l ++ List.replicate (nn - l) (zs.map Aw.lo)))) cx.B w' ∧
        Ext cx.B S m H S m' (H.set id (.arr T (P.cellsOf e) frz (es.take l ++ List.replicate (nn - l) (zs.map Aw.lo)))) ∧ Bel cx.B w w') → wpListIn (FR cx.ro) 0 P ops Q (o :: o2 :: rest) a w := by
    intro A cap hv hcap ⟨w', hr, m', s', e', b'⟩
    have hsb : (Instr.sliceBounds true nn cap (some (a.eval li)) none none).run P w = .ok (l, nn, cap) w := by
      have hb := run_bound (P := P) (k := kk) (i := (l : Int)) (y := nn) (by omega) (by omega)
      simp [Instr.sliceBounds, vl', hb]
    have hsl : (Instr.sliceAt t (a.eval x) (some (a.eval li)) none none).run P w = .ok (.slice (if cap = l then A else A.map (·.add (l * P.cellsOf e))) (nn - l) (cap - l)) w := by
      rw [hv]
      simp [Instr.sliceAt, Instr.slice, run_underlying hu, hsb, hss]
    generalize hV : (Value.slice (if cap = l then A else A.map (·.add (l * P.cellsOf e))) (nn - l) (cap - l)) = V at *
    obtain ⟨sl1, r1, hk1⟩ := aput_ok (x := .any) (v := V) (dst := o.dst) (K := fun sl' => sl' = (d, .any) :: sl) r trivial (by rw [h3]; exact ⟨hd, rfl⟩)
    subst hk1
    have hev : (a.put o.dst V).eval (.tmp d) = V := by
      rw [h3]
      simp [Act.eval, Act.put, Array.getD_eq_getD_getElem?, r.size, hd]
    unfold wpListIn
    rw [if_pos (by simp [Region.wanted, h4])]
    refine Oper.wpIn_of_wp (by rw [h1]; intro c hc; cases hc) ?_
    unfold Oper.wp execOp
    rw [h1]
    simp only [Sem.run_bind, Option.map_some, Option.map_none, hsl, Result.andThen_ok, Sem.run_pure, Oper.upon]
    unfold wpListIn
    rw [if_pos (by simp [Region.wanted, h5])]
    refine Oper.wpIn_of_wp (by rw [h2]; intro c hc; cases hc) ?_
    have hrun : (execOp (a.put o.dst V).eval o2).run P w = .ok (.value (.tuple #[])) w' := by
      unfold execOp
      rw [h2]
      have : (Builtin.clear_ #[t] o2.type #[(a.put o.dst V).eval (.tmp d)]).run P w = .ok (.tuple #[]) w' := by rw [hev]; exact hr
      simp [resolve, invoke, builtin, this]
    unfold Oper.wp
    rw [hrun]
    simp only [Oper.upon]
    have hput : ((a.put o.dst V).put o2.dst (.tuple #[])) = a.put o.dst V := by rw [h6]; rfl
    rw [hput]
    exact hrest _ _ _ w' ⟨S, m', s', e0.trans e', bl.trans b', r1.ext e'⟩ hk
  cases lc with
  | nil A =>
    obtain ⟨q1, rfl, rfl⟩ := hO
    simp at hes
    subst hes
    obtain rfl : l = 0 := by omega
    have hset : H.set id (.arr T (P.cellsOf e) 0 (List.take 0 [] ++ List.replicate (0 - 0) (zs.map Aw.lo))) = H := set_self ho
    refine main A 0 (g3 rfl) (Nat.le_refl _) ⟨w, ?_, m, ?_, ?_, Bel.refl _ _⟩
    · cases A <;> simp [Builtin.clear_, run_underlying hu]
    · rw [hset]; exact s
    · rw [hset]; exact Ext.refl _ _ _ _
  | at_ b cap =>
    obtain ⟨q1, q2, q3, q4, q5, q6, q7, cur, ⟨fz, q8, qz⟩, q9, q10⟩ := hO
    have hidm : m.set id (.at_ b cap) = m := set_self g2
    have hcn : nn ≤ cap := by omega
    rcases Nat.lt_or_ge l nn with hl | hl
    · -- something to clear
      have hne : cap ≠ l := by omega
      have hsz2 : (madeCells z.cells ((nn - l) * z.cells.size)).toList.length = (nn - l) * P.cellsOf e := by rw [Array.length_toList, size_madeCells, hzsz]
      have hm1 : l * P.cellsOf e + (nn - l) * P.cellsOf e = nn * P.cellsOf e := by rw [← Nat.add_mul]; congr 1; omega
      have hm2 : nn * P.cellsOf e ≤ cap * P.cellsOf e := Nat.mul_le_mul_right _ hcn
      have hz1 := made_VPs (nn - l) hzs (by rw [List.length_map, hzl]; exact hp)
      have hst := run_storeCells_fz (P := P) b (l * P.cellsOf e) T fz (madeCells z.cells ((nn - l) * z.cells.size)).toList 0 cur.toArray w q8 (by simpa using qz) (by simp only [Nat.add_zero]; rw [hsz2]; simp; omega) (VPs.one hz1)
      generalize hZ : (madeCells z.cells ((nn - l) * z.cells.size)).toList = Z at *
      simp only [Nat.add_zero] at hst
      rw [hsz2, hm1] at hst
      have hcurt : (cur.take (es.length * P.cellsOf e)).length = nn * P.cellsOf e := by rw [List.length_take, hes]; omega
      have hlen2 : (es.take l ++ List.replicate (nn - l) (zs.map Aw.lo)).length = es.length := by simp; omega
      have hmem2 : ∀ y, y ∈ es.take l ++ List.replicate (nn - l) (zs.map Aw.lo) → y.length = P.cellsOf e := fun y hy => by
        rcases List.mem_append.1 hy with h | h
        · exact q2 y (List.mem_of_mem_take h)
        · rw [List.eq_of_mem_replicate h, List.length_map, hzl]
      have hnew : VPs S (es.take l ++ List.replicate (nn - l) (zs.map Aw.lo)).flatten ((cur.toArray.toList.take (l * P.cellsOf e) ++ Z ++ cur.toArray.toList.drop (nn * P.cellsOf e)).take ((es.take l ++ List.replicate (nn - l) (zs.map Aw.lo)).length * P.cellsOf e)) := by
        rw [hlen2, hes]
        have e1 : (cur.toArray.toList.take (l * P.cellsOf e) ++ Z ++ cur.toArray.toList.drop (nn * P.cellsOf e)).take (nn * P.cellsOf e) = cur.take (l * P.cellsOf e) ++ Z := by
          have hl2 : (cur.take (l * P.cellsOf e) ++ Z).length = nn * P.cellsOf e := by rw [List.length_append, List.length_take, hsz2]; omega
          rw [← hl2, List.take_left]
        rw [e1]
        have hta : VPs S (es.take l).flatten (cur.take (l * P.cellsOf e)) := by
          rw [flat_take l q2]
          refine ⟨by rw [List.length_take, List.length_take, flat_len q2, hes]; omega, fun j x u hx hu' => ?_⟩
          rw [List.getElem?_take] at hx hu'
          split at hx
          · rename_i hj
            rw [if_pos hj] at hu'
            refine q10.2 j x u hx ?_
            rw [List.getElem?_take, if_pos (by rw [hes]; omega)]
            exact hu'
          · cases hx
        rw [List.flatten_append]
        refine ⟨by rw [List.length_append, List.length_append, hta.1, hz1.1], fun j x u hx hu' => ?_⟩
        by_cases hj : j < (es.take l).flatten.length
        · rw [List.getElem?_append_left hj] at hx
          rw [List.getElem?_append_left (by rw [← hta.1]; exact hj)] at hu'
          exact hta.2 j x u hx hu'
        · rw [List.getElem?_append_right (by omega)] at hx
          rw [List.getElem?_append_right (by rw [← hta.1]; omega), ← hta.1] at hu'
          exact hz1.2 _ x u hx hu'
      have hmem : ∀ b' o v, S b' o = some v → (w.setRow b (cur.toArray.toList.take (l * P.cellsOf e) ++ Z ++ cur.toArray.toList.drop (nn * P.cellsOf e)).toArray).cell? ⟨b', o, none⟩ = some v := by
        intro b' o v ho'
        by_cases hb : b' = b
        · subst hb
          have hlt := q7 o v ho'
          have hold := s.mem b' o v ho'
          rw [cell_eq q8] at hold
          rw [cell_eq (setRow_heap w b' cur.toArray _ T fz q8)]
          have hlt2 : o < l * P.cellsOf e := Nat.lt_of_lt_of_le hlt (Nat.mul_le_mul_right _ hf)
          rw [List.append_assoc, List.getElem?_append_left (by rw [List.length_take]; simp; omega), List.getElem?_take, if_pos hlt2]
          exact hold
        · have := s.mem b' o v ho'
          simp only [World.cell?] at this ⊢
          rw [setRow_other w b b' _ hb]
          exact this
      obtain ⟨s', e'⟩ := s.setArr (es' := es.take l ++ List.replicate (nn - l) (zs.map Aw.lo)) (l' := .at_ b cap) ho g2 (w' := w.setRow b (cur.toArray.toList.take (l * P.cellsOf e) ++ Z ++ cur.toArray.toList.drop (nn * P.cellsOf e)).toArray) hmem (by simp [World.setRow])
        (fun k hk hne => setRow_other w b k _ (hne b cap rfl)) (by rw [hlen2]; exact Nat.le_refl _) (fun _ => rfl) (fun b' c hb => .inl ⟨cap, by cases hb; rfl⟩)
        ⟨q1, hmem2, by rw [hlen2]; exact q3, q4, by rw [hlen2]; exact q5, q6, q7, _, ⟨fz, setRow_heap w b cur.toArray _ T fz q8, by
          have hcl : cur.toArray.toList.length = cap * P.cellsOf e := q9
          have hcl2 : cur.length = cap * P.cellsOf e := q9
          rw [List.length_append, List.length_append, List.length_take, List.length_drop, hsz2, show min (l * P.cellsOf e) cur.toArray.toList.length + (nn - l) * P.cellsOf e + (cur.toArray.toList.length - nn * P.cellsOf e) = cur.length by omega]; exact qz⟩, by
          rw [List.length_append, List.length_append, List.length_take, List.length_drop, hsz2]; have hcl : cur.toArray.toList.length = cap * P.cellsOf e := q9; omega, hnew⟩
      rw [hidm] at s' e'
      refine main (some ⟨b, 0, none⟩) cap g3 hcn ⟨_, ?_, m, s', e', below_setRow _ q4⟩
      rw [if_neg hne]
      have hnn : nn - l = (nn - l - 1) + 1 := by omega
      have hzc : (Builtin.zeroCells z.cells (nn - l)).toList = Z := by rw [zeroCells_made, hZ]
      simp only [Option.map_some, addr_add, Nat.zero_add]
      rw [hnn] at hzc ⊢
      simp [Builtin.clear_, run_underlying hu, hzr, hzc, hst]
    · -- nothing
      obtain rfl : l = nn := by omega
      have hset : H.set id (.arr T (P.cellsOf e) frz (es.take l ++ List.replicate (l - l) (zs.map Aw.lo))) = H := by
        rw [Nat.sub_self, List.replicate_zero, List.append_nil, List.take_of_length_le (by omega)]
        exact set_self ho
      refine main (some ⟨b, 0, none⟩) cap g3 hcn ⟨w, ?_, m, ?_, ?_, Bel.refl _ _⟩
      · rw [Nat.sub_self]
        by_cases hcl : cap = l
        · simp [Builtin.clear_, run_underlying hu, hcl]
        · simp [Builtin.clear_, run_underlying hu, hcl]
      · rw [hset]; exact s
      · rw [hset]; exact Ext.refl _ _ _ _
/-- A region that ends so, behind two operations. -/
theorem AW.clr {Q : Exit → Slots → List AObj → Prop} {id : Nat} {ops : Array Oper} {o1 o2 o3 o4 : Oper} (hops : ops.toList = [o1, o2, o3, o4])
    (h : aStep P false n ops o1 sl H fun sl' H' => aStep P false n ops o2 sl' H' fun sl2 H2 => aClr P n sl2 H2 o3 o4 (Q .normal)) : AW P n k (.region id ops false) Q sl H := fun cx hk a w hin => by
  refine wpIn_region_list ?_
  rw [hops]
  exact aStep_ok hin h fun sl' H' a' w' hi hk => aStep_ok hi hk fun sl' H' a' w' hi hk => clr_ok hi hk fun sl' H' a' w' hi hk => ⟨sl', H', hi, hk⟩
end
end Go.Aw
