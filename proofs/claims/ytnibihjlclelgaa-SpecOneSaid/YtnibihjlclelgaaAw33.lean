import Derived.Test.YtnibihjlclelgaaAw32
/-
  The tail of an array of our own: cut further, and appended to (in its room, or to a new block).
-/
set_option linter.unusedVariables false
set_option linter.unusedSimpArgs false
namespace Go.Aw
open Go.RowKit
section
variable {P : Program} {n k : Nat} {cx : Cx} {sl sl' : Slots} {H : List AObj} {S : Mem} {m : List Loc} {B : Nat} {w : World}

theorem run_append_off (w : World) (t ty e : TypeId) (i : TypeInfo) (ht : P.underlying t = some (.slice e)) (hi : P.info? e = some i)
    (g off sLen sCap : Nat) (cur : Array Value) (fz : Nat × Nat) (hg : w.heap[g]? = some (.cells cur e fz)) (hz : okFz cur.size fz)
    (a : Addr) (m c : Nat) (news : List Value) (hl : news.length = m * i.size) (hnews : ∀ j u, news[j]? = some u → w.cell? (a.add j) = some u) (h1 : ∀ u ∈ news, u.oneCell' = true)
    (hroom : sLen + m ≤ sCap) (hfit : off + sLen * i.size + news.length ≤ cur.size) :
    (Builtin.append_ #[t, t] ty #[.slice (some ⟨g, off, none⟩) sLen sCap, .slice (some a) m c]).run P w =
      .ok (.slice (some ⟨g, off, none⟩) (sLen + m) sCap) (w.setRow g (cur.toList.take (off + sLen * i.size) ++ news ++ cur.toList.drop (off + sLen * i.size + news.length)).toArray) := by
  have hf := run_firstCells_some (P := P) w i.size m a m c news hl hnews
  have hst := run_storeCells_fz (P := P) g (off + sLen * i.size) e fz news 0 cur w hg hz (by simpa using hfit) h1
  simp only [Nat.add_zero] at hst
  simp [Builtin.append_, run_underlying ht, sizeOf, typeInfo, hi, Builtin.lenOf, hroom, hf, addr_add, hst]

/-- A slot that holds all of an array of ours holds its tail from its first element on. -/
theorem Sub.tlOf (d id : Nat) {T size frz : Nat} {es : List (List PV)} (ho : H[id]? = some (.arr T size frz es)) (hd : getS sl d = .c (.own id es.length)) : Sub n k sl H ((d, .c (.tl id 0 es.length es)) :: sl) (H.set id (.arr T size es.length es)) := by
  rintro cx hk a w ⟨S, m, s, e, b, r⟩
  have hv := r.slot d
  rw [hd] at hv
  have hid := (List.getElem?_eq_some_iff.1 ho).1
  obtain ⟨l, hl, hO⟩ := s.loc ho
  have hu : ∀ q, q ∈ es → q.length = size := by
    cases l with
    | nil A => obtain ⟨_, h, _⟩ := hO; rw [h]; simp
    | at_ b cap => exact hO.2.1
  obtain ⟨S2, s2, e2, hv2⟩ := s.freeze ho hv
  have hv3 : VC S2 m (H.set id (.arr T size es.length es)) (.tl id 0 es.length es) (a.tmps.getD d undef) := by
    obtain ⟨T', size', frz', es', l', h1, h2, h3, h4, h5⟩ := hv
    rw [ho] at h1; cases h1
    rw [hl] at h2; cases h2
    have h3 := h3 rfl
    refine ⟨T, size, es.length, es, l, by simp [hid], hl, fun _ => ?_, ⟨by simp, Nat.le_refl _, hu⟩, hv2⟩
    cases l with
    | nil A => exact h3
    | at_ b cap => exact ⟨_, h3, .inr (by simp)⟩
  refine ⟨S2, m, s2, e.trans e2, b, ?_, r.big, r.size, fun d' => ?_⟩
  · have h0 := r.defers
    simp only [getS]
    by_cases hdd : DEF = d
    · subst hdd
      rw [hd] at h0
      rw [if_pos rfl]; exact h0
    · rw [if_neg hdd]; exact h0.ext e2
  simp only [getS]
  by_cases h : d' = d
  · subst h
    rw [if_pos rfl]
    exact hv3
  · rw [if_neg h]; exact (r.slot d').ext e2

/-- An operation on the tail of an array of ours. -/
def aTl (P : Program) (n : Nat) (sl : Slots) (H : List AObj) (o : Oper) (K : Slots → List AObj → Prop) : Prop :=
  o.guard = none ∧ match o.op with
  | .slice t x (some lo) none none => match P.underlying t, ev sl x, intA (ev sl lo) with
    | some (.slice e), .c (.tl id k nn xs), some i => 0 < P.cellsOf e ∧ 0 ≤ i ∧ i ≤ xs.length ∧ (∃ T frz es, H[id]? = some (.arr T (P.cellsOf e) frz es) ∧ es.length = nn) ∧
      aput n o.dst (.c (.tl id (k + i.toNat) nn (xs.drop i.toNat))) sl fun sl' => K sl' H
    | _, _, _ => False
  | .call c => match c.callee, c.args.toList, c.argTypes.toList with
    | .builtin .append, [x, y], [t, u] => match P.underlying t, ev sl x, frzA H (ev sl y) with
     | some (.slice e), .c (.tl id k nn xs), some (.sl _ ys, H1) => u = t ∧ 0 < P.cellsOf e ∧ zeroOk P e ∧ allLen (P.cellsOf e) ys ∧ ys ≠ [] ∧ (nn + ys.length) * P.bytesOf e ≤ 140737488355328 ∧ nn + ys.length ≤ 9223372036854775807 ∧
      ∃ frz es, H1[id]? = some (.arr e (P.cellsOf e) frz es) ∧ es.length = nn ∧ es.drop k = xs ∧ k ≤ nn ∧
      (aput n o.dst (.c (.tl id k (nn + ys.length) (xs ++ ys))) sl fun sl' => K sl' (H1.set id (.arr e (P.cellsOf e) (nn + ys.length) (es ++ ys)))) ∧
      (aput n o.dst (.c (.own H1.length (xs.length + ys.length))) sl fun sl' => K sl' (H1 ++ [.arr e (P.cellsOf e) 0 (xs ++ ys)]))
     | _, _, _ => False
    | _, _, _ => False
  | _ => False
theorem good_tl_slice (s : Sim S m H B w) {t e id kk nn : Nat} {xs : List (List PV)} {v vi : Value} {x : AV} {i : Int} {K : AV → List AObj → Prop} (hu : P.underlying t = some (.slice e)) (hx : VC S m H (.tl id kk nn xs) v) (hi : VA S m H x vi) (hix : intA x = some i)
    (hp : 0 < P.cellsOf e) (h0 : 0 ≤ i) (hl : i ≤ xs.length) (ho : ∃ T frz es, H[id]? = some (.arr T (P.cellsOf e) frz es) ∧ es.length = nn) (hk : K (.c (.tl id (kk + i.toNat) nn (xs.drop i.toNat))) H) :
    Good P B S m H w (Instr.sliceAt t v (some vi) none none) K := by
  obtain ⟨T, frz, es, ho, hn⟩ := ho
  obtain ⟨T', size', frz', es', l, h1, h2, h3, ⟨h4, h5, h6⟩, hv⟩ := hx
  rw [ho] at h1; cases h1
  have h3 := h3 hn
  obtain ⟨kd, rfl⟩ := intA_ok hi hix
  obtain ⟨A, cap, rfl, c1, c2, _⟩ := VP.slice_form hv
  have hss := run_sizeOf' hp w
  have hr : (Instr.sliceBounds true xs.length cap (some (.int kd i)) none none).run P w = .ok (i.toNat, xs.length, cap) w := by
    simp [Instr.sliceBounds, run_bound (P := P) (k := kd) h0 hl]
  have hc := VP.cut (full' := false) hv h6 hp i.toNat xs.length cap (by omega) (Nat.le_refl _) c1 (Nat.le_refl _) (fun h => by cases h)
  rw [List.take_length] at hc
  refine Good.same s (x := .c (.tl id (kk + i.toNat) nn (xs.drop i.toNat))) (v := .slice (if cap = i.toNat then A else A.map (·.add (i.toNat * P.cellsOf e))) (xs.length - i.toNat) (cap - i.toNat)) ?_ ?_ hk
  · simp [Instr.sliceAt, Instr.slice, run_underlying hu, hr, hss]
  · refine ⟨T, P.cellsOf e, frz, es, l, ho, h2, fun _ => ?_, ⟨by rw [List.length_drop]; omega, h5, fun q hq => h6 q (List.mem_of_mem_drop hq)⟩, hc⟩
    cases l with
    | nil A' =>
      obtain ⟨_, he, _⟩ := s.obj id _ _ ho h2
      have hx0 : xs.length = 0 := by rw [he] at hn; simp at hn; omega
      have hi0 : i.toNat = 0 := by omega
      obtain ⟨rfl, _, rfl⟩ : A = A' ∧ xs.length = 0 ∧ cap = 0 := by simpa using h3
      rw [hi0, hx0]
      simp
    | at_ b cap0 =>
      obtain ⟨A', q1, q2⟩ := h3
      cases q1
      refine ⟨_, by rw [List.length_drop, Nat.sub_sub], ?_⟩
      rcases q2 with q2 | rfl
      · exact .inl (by omega)
      · by_cases hz : cap0 - kk = i.toNat
        · exact .inl (by omega)
        · right
          rw [if_neg hz]
          simp [addr_add, Nat.add_mul]
theorem good_tl_append (s : Sim S m H B w) {t ty e id kk nn : Nat} {xs ys : List (List PV)} {fy : Bool} {vx vy : Value} {y : AV} {H1 : List AObj} {K : AV → List AObj → Prop} (hu : P.underlying t = some (.slice e)) (hx : VC S m H (.tl id kk nn xs) vx) (hy : VA S m H y vy) (hf : frzA H y = some (.sl fy ys, H1))
    (hp : 0 < P.cellsOf e) (hz : zeroOk P e) (hyl : allLen (P.cellsOf e) ys) (hys : ys ≠ []) (hb : (nn + ys.length) * P.bytesOf e ≤ 140737488355328) (h63 : nn + ys.length ≤ 9223372036854775807) {frz : Nat} {es : List (List PV)}
    (ho : H1[id]? = some (.arr e (P.cellsOf e) frz es)) (hn : es.length = nn) (hd : es.drop kk = xs) (hkn : kk ≤ nn) (hk1 : K (.c (.tl id kk (nn + ys.length) (xs ++ ys))) (H1.set id (.arr e (P.cellsOf e) (nn + ys.length) (es ++ ys))))
    (hk2 : K (.c (.own H1.length (xs.length + ys.length))) (H1 ++ [.arr e (P.cellsOf e) 0 (xs ++ ys)])) :
    Good P B S m H w (Builtin.append_ #[t, t] ty #[vx, vy]) K := by
  obtain ⟨S1, s1, e1, p1⟩ := frzA_ok s hy hf
  obtain ⟨ay, cy, rfl, _⟩ := VP.slice_form p1
  obtain ⟨vys, q1, q2, q3⟩ := VP.reads p1 hyl
  have hypos : 0 < ys.length := by cases ys with
    | nil => exact absurd rfl hys
    | cons _ _ => simp
  obtain ⟨a, rfl⟩ : ∃ a, ay = some a := by
    cases ay with
    | some a => exact ⟨a, rfl⟩
    | none =>
      have hpos : 0 < vys.length := by rw [q2]; exact Nat.mul_pos hypos hp
      obtain ⟨b, o, hb, _⟩ := q3 0 _ (List.getElem?_eq_getElem hpos)
      cases hb
  have hnw : ∀ (j : Nat) v, vys[j]? = some v → w.cell? (a.add j) = some v := fun j v hj => by
    obtain ⟨b, o, hb, hS⟩ := q3 j v hj
    cases hb
    rw [addr_add]; exact s1.mem _ _ _ hS
  obtain ⟨T', size', frz', es', l, h1, h2, h3, ⟨h4, h5, h6⟩, hv⟩ := hx.ext e1
  rw [ho] at h1; cases h1
  have h3 := h3 hn
  obtain ⟨A, cap, rfl, c1, c2, _⟩ := VP.slice_form hv
  have hxn : xs.length ≤ nn := by omega
  have hmax : xs.length + ys.length ≤ maxLen := by simp only [maxLen]; omega
  have hid := (List.getElem?_eq_some_iff.1 ho).1
  by_cases hroom : xs.length + ys.length ≤ cap
  · cases l with
    | nil A' =>
      obtain ⟨_, h3a, h3b⟩ : A = A' ∧ xs.length = 0 ∧ cap = 0 := by simpa using h3
      omega
    | at_ b cap0 =>
      obtain ⟨A', w1, w2⟩ := h3
      cases w1
      rcases w2 with w2 | rfl
      · omega
      obtain ⟨_, hul, hfz, hB, hc, hm, hS, cur, ⟨fz, hh, hz2⟩, hl, hpp⟩ := s1.obj id _ _ ho h2
      obtain ⟨it, zt, hit, _, hisz, _⟩ := hz.info hp
      have hle : (nn + ys.length) * P.cellsOf e ≤ cap0 * P.cellsOf e := Nat.mul_le_mul_right _ (by omega)
      have hoff : kk * P.cellsOf e + xs.length * P.cellsOf e = nn * P.cellsOf e := by rw [← Nat.add_mul, h4]
      have hr := run_append_off (P := P) w t ty e it hu hit b (kk * P.cellsOf e) xs.length (cap0 - kk) cur.toArray fz hh (by simpa using hz2) a ys.length cy vys (by rw [q2, hisz]) hnw q1.one hroom (by rw [hisz, q2, hoff, ← Nat.add_mul]; simpa [hl] using hle)
      simp only [hisz, hoff] at hr
      let cur' := cur.take (nn * P.cellsOf e) ++ vys ++ cur.drop (nn * P.cellsOf e + vys.length)
      have hcl : (cur.take (es.length * P.cellsOf e)).length = es.length * P.cellsOf e := by rw [← hpp.1, flat_len hul]
      have hcur'l : cur'.length = cap0 * P.cellsOf e := by
        show (cur.take (nn * P.cellsOf e) ++ vys ++ cur.drop (nn * P.cellsOf e + vys.length)).length = _
        rw [List.length_append, List.length_append, List.length_take, List.length_drop, q2, hl]
        rw [Nat.add_mul] at hle
        omega
      have hn' : es.length * P.cellsOf e = nn * P.cellsOf e := by rw [hn]
      have htake : cur'.take ((es ++ ys).length * P.cellsOf e) = cur.take (nn * P.cellsOf e) ++ vys := by
        apply List.take_left'
        rw [List.length_append, ← hn', hcl, q2, List.length_append, Nat.add_mul]
      have hul' : ∀ q, q ∈ es ++ ys → q.length = P.cellsOf e := fun q hq => by
        rcases List.mem_append.1 hq with h | h
        · exact hul q h
        · exact hyl q h
      have hmem : ∀ b' o v, S1 b' o = some v → (w.setRow b cur'.toArray).cell? ⟨b', o, none⟩ = some v := by
        intro b' o v hS'
        by_cases hb' : b' = b
        · subst hb'
          have hlt := hS o v hS'
          have hold := s1.mem b' o v hS'
          rw [cell_eq hh] at hold
          rw [cell_eq (setRow_heap w b' cur.toArray _ e fz hh)]
          have hfm := Nat.mul_le_mul_right (P.cellsOf e) hfz
          show (cur.take (nn * P.cellsOf e) ++ vys ++ cur.drop (nn * P.cellsOf e + vys.length))[o]? = some v
          rw [List.append_assoc, List.getElem?_append_left (by rw [← hn', hcl]; omega), List.getElem?_take, if_pos (by omega)]
          exact hold
        · have := s1.mem b' o v hS'
          simp only [World.cell?] at this ⊢
          rw [setRow_other w b b' _ hb']
          exact this
      have hmset : m.set id (.at_ b cap0) = m := by
        apply List.ext_getElem?
        intro j
        by_cases hj : id = j
        · subst hj; rw [List.getElem?_set_self (List.getElem?_eq_some_iff.1 h2).1, h2]
        · rw [getElem?_set_ne _ _ _ _ hj]
      obtain ⟨s2, e2⟩ := s1.setArr (es' := es ++ ys) (l' := .at_ b cap0) ho h2 (w' := w.setRow b cur'.toArray) hmem (by simp [World.setRow]) (fun k hk hne => setRow_other w b k _ (hne b cap0 rfl)) (by simp) (fun _ => rfl) (fun b' c h => .inl ⟨cap0, by cases h; rfl⟩)
        ⟨hp, hul', by rw [List.length_append]; omega, hB, by rw [List.length_append, hn]; omega, hm, hS, cur', ⟨fz, setRow_heap w b cur.toArray _ e fz hh, by rw [hcur'l, ← hl]; exact hz2⟩, hcur'l, by
          rw [htake, List.flatten_append, ← hn']; exact VPs.append hpp q1⟩
      rw [hmset] at s2 e2
      have hlen : (es ++ ys).length = nn + ys.length := by rw [List.length_append, hn]
      have ho2 : (H1.set id (.arr e (P.cellsOf e) frz (es ++ ys)))[id]? = some (.arr e (P.cellsOf e) frz (es ++ ys)) := by simp [hid]
      obtain ⟨S3, s3, e3, p3⟩ := s2.freeze ho2 (v := .slice (some ⟨b, 0, none⟩) (es ++ ys).length cap0) ⟨e, P.cellsOf e, frz, es ++ ys, .at_ b cap0, ho2, h2, fun _ => rfl, Nat.le_refl _, rfl, rfl⟩
      have hcut := VP.cut (full' := false) p3 hul' hp kk (es ++ ys).length cap0 (by omega) (Nat.le_refl _) (by omega) (Nat.le_refl _) (fun h => by cases h)
      rw [List.take_length, List.drop_append_of_le_length (by omega), hd, if_neg (by omega)] at hcut
      simp only [Option.map_some, addr_add, Nat.zero_add] at hcut
      have hlen2 : (es ++ ys).length - kk = xs.length + ys.length := by omega
      rw [hlen2] at hcut
      have hset2 : (H1.set id (.arr e (P.cellsOf e) frz (es ++ ys))).set id (.arr e (P.cellsOf e) (es ++ ys).length (es ++ ys)) = H1.set id (.arr e (P.cellsOf e) (nn + ys.length) (es ++ ys)) := by
        rw [List.set_set, hlen]
      rw [hset2] at s3 e3
      refine ⟨_, _, hr, S3, m, _, .c (.tl id kk (nn + ys.length) (xs ++ ys)), s3, (e1.trans e2).trans e3, below_setRow _ hB, ?_, hk1⟩
      refine ⟨e, P.cellsOf e, nn + ys.length, es ++ ys, .at_ b cap0, by simp [hid], h2, fun _ => ?_, ⟨by rw [List.length_append]; omega, by omega, fun q hq => ?_⟩, hcut⟩
      · exact ⟨_, by rw [List.length_append], .inr rfl⟩
      · rcases List.mem_append.1 hq with h | h
        · exact h6 q h
        · exact hyl q h
  · obtain ⟨olds, o1, o2, o3⟩ := VP.reads hv h6
    have hle : (xs.length + ys.length) * P.bytesOf e ≤ 140737488355328 := Nat.le_trans (Nat.mul_le_mul_right _ (by omega)) hb
    obtain ⟨cap', rest, hr, c1', c2', c3'⟩ := run_append_new (ty := ty) hu hp hz w A xs.length cap olds o2 (fun j v hj => by
      obtain ⟨b, o, hb, hS⟩ := o3 j v hj
      exact ⟨_, hb, by rw [addr_add]; exact s1.mem _ _ _ hS⟩) a ys.length cy vys q2 hnw (fun h => by
        subst h
        cases hv with
        | nil => exact ⟨rfl, rfl⟩) (by omega) hle hmax
    have hul : ∀ q, q ∈ xs ++ ys → q.length = P.cellsOf e := fun q hq => by
      rcases List.mem_append.1 hq with h | h
      · exact h6 q h
      · exact hyl q h
    have hcl : (olds ++ vys ++ rest).length = cap' * P.cellsOf e := by
      rw [List.length_append, List.length_append, o2, q2, c3', ← Nat.add_mul, ← Nat.add_mul]; congr 1; omega
    have htk : (olds ++ vys ++ rest).take ((xs ++ ys).length * P.cellsOf e) = olds ++ vys := by
      apply List.take_left'
      rw [List.length_append, o2, q2, List.length_append, Nat.add_mul]
    have hpp : VPs S1 (xs ++ ys).flatten (olds ++ vys) := by rw [List.flatten_append]; exact VPs.append o1 q1
    have s1d : Sim S1 m H1 B w.drew := s1.drew
    obtain ⟨s2, e2, hv⟩ := s1d.newArr e (P.cellsOf e) cap' (xs ++ ys) (olds ++ vys ++ rest) hp hul (by rw [List.length_append]; exact c1') c2' hcl (by rw [htk]; exact hpp)
    refine ⟨_, _, hr, S1, _, _, .c (.own H1.length (xs.length + ys.length)), s2, e1.trans e2, below_new s.base _, ?_, hk2⟩
    rw [← List.length_append]; exact hv

theorem aTl_ok {ops : Array Oper} {o : Oper} {rest : List Oper} {Q : Exit → Act → World → Prop} {K : Slots → List AObj → Prop} {a : Act} (hin : InSt cx n sl H a w) (h : aTl P n sl H o K)
    (hrest : ∀ sl' H' a' w', InSt cx n sl' H' a' w' → K sl' H' → wpListIn (FR cx.ro) 0 P ops Q rest a' w') : wpListIn (FR cx.ro) 0 P ops Q (o :: rest) a w := by
  obtain ⟨S, m, s, e0, bl, r⟩ := hin
  unfold aTl at h
  obtain ⟨hg, h⟩ := h
  obtain ⟨dst, op, ty, pos, aft, gd⟩ := o
  simp only at hg
  subst hg
  have fin : ∀ {c : Sem Value} {K' : AV → List AObj → Prop}, execOp a.eval ⟨dst, op, ty, pos, aft, none⟩ = (do pure (.value (← c))) → Good P cx.B S m H w c K' → (∀ x H', K' x H' → aput n dst x sl fun sl' => K sl' H') → (∀ c, op ≠ .defer c) →
      wpListIn (FR cx.ro) 0 P ops Q (⟨dst, op, ty, pos, aft, none⟩ :: rest) a w := fun {c K'} he hgood hk hnd => by
    unfold wpListIn
    rw [if_pos (by simp [Region.wanted])]
    refine Oper.wpIn_of_wp (by intro c hc; exact hnd c hc) ?_
    refine Oper.wp_mono ?_ (op_good (n := n) (o := ⟨dst, op, ty, pos, aft, none⟩) he hgood)
    rintro a' w' ⟨v, S', m', H', x, rfl, h1, h2, h3, h4, h5⟩
    obtain ⟨sl', r', hk'⟩ := aput_ok (r.ext h2) h4 (hk _ _ h5)
    exact hrest sl' H' _ w' ⟨S', m', h1, e0.trans h2, bl.trans h3, r'⟩ hk'
  simp only at h
  split at h
  · rename_i t x lo
    have hx := r.eval x
    have hlo := r.eval lo
    split at h
    · rename_i e id k nn xs i hu hxe hie
      obtain ⟨hp, h0, hl, ho, hk⟩ := h
      rw [hxe] at hx
      exact fin (K' := fun x' H' => x' = .c (.tl id (k + i.toNat) nn (xs.drop i.toNat)) ∧ H' = H) rfl (good_tl_slice s hu hx hlo hie hp h0 hl ho ⟨rfl, rfl⟩) (fun x' H' hx' => by obtain ⟨rfl, rfl⟩ := hx'; exact hk) (fun c hc => by cases hc)
    · exact h.elim
  · rename_i c
    obtain ⟨callee, args, ats⟩ := c
    simp only at h
    split at h
    rotate_left
    · exact h.elim
    rename_i x y t u hargs hats
    obtain rfl : args = #[x, y] := by apply Array.ext'; simpa using hargs
    obtain rfl : ats = #[t, u] := by apply Array.ext'; simpa using hats
    have hx := r.eval x
    have hy := r.eval y
    split at h
    · rename_i e id k nn xs fy ys H1 hu hxe hf
      obtain ⟨rfl, hp, hz, hyl, hys, hb, h63, frz, es, ho, hn, hd, hkn, hk1, hk2⟩ := h
      rw [hxe] at hx
      refine fin (c := Builtin.append_ #[u, u] ty #[a.eval x, a.eval y]) (K' := fun x' H' => (x' = .c (.tl id k (nn + ys.length) (xs ++ ys)) ∧ H' = H1.set id (.arr e (P.cellsOf e) (nn + ys.length) (es ++ ys))) ∨ (x' = .c (.own H1.length (xs.length + ys.length)) ∧ H' = H1 ++ [.arr e (P.cellsOf e) 0 (xs ++ ys)]))
        (by simp [execOp, resolve, invoke, builtin]) (good_tl_append s hu hx hy hf hp hz hyl hys hb h63 ho hn hd hkn (.inl ⟨rfl, rfl⟩) (.inr ⟨rfl, rfl⟩)) (fun x' H' hx' => ?_) (fun c hc => by cases hc)
      rcases hx' with ⟨rfl, rfl⟩ | ⟨rfl, rfl⟩
      · exact hk1
      · exact hk2
    · exact h.elim
  · exact h.elim
theorem AW.tl {Q : Exit → Slots → List AObj → Prop} {id : Nat} {l : List Oper} (pre : List Oper) (o : Oper) (post : List Oper) (hops : l = pre ++ o :: post)
    (h : aops P false n l.toArray pre sl H fun sl' H' => aTl P n sl' H' o fun sl2 H2 => aops P false n l.toArray post sl2 H2 (Q .normal)) : AW P n k (.region id l.toArray false) Q sl H := fun cx hk a w hin => by
  refine wpIn_region_list ?_
  rw [show l.toArray.toList = pre ++ o :: post by simpa using hops]
  exact aops_okK hin h fun sl' H' a' w' hi hk => aTl_ok hi hk fun sl' H' a' w' hi hk => aops_ok hi hk fun sl' H' a' w' hi hk => ⟨sl', H', hi, hk⟩
/-- A region that is an operation on a tail, with others about it. -/
theorem AW.tlI {Q : Exit → Slots → List AObj → Prop} {id : Nat} {l : List Oper} (i : Nat) (o : Oper) (hi : l[i]? = some o)
    (h : ∀ K : Slots → List AObj → Prop, (∀ sl' H', Q .normal sl' H' → K sl' H') → aops P false n l.toArray (l.take i) sl H fun sl' H' => aTl P n sl' H' o fun sl2 H2 => aops P false n l.toArray (l.drop (i + 1)) sl2 H2 K) : AW P n k (.region id l.toArray false) Q sl H :=
  AW.tl (l.take i) o (l.drop (i + 1)) (by
    have hlt := (List.getElem?_eq_some_iff.1 hi).1
    have he : l[i] = o := (List.getElem?_eq_some_iff.1 hi).2
    rw [← he, ← List.drop_eq_getElem_cons hlt, List.take_append_drop]) (h _ fun _ _ h => h)
end
end Go.Aw
