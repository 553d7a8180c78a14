/-
  An abstract memory for walks, part 8: make; sums, tests, conversions; parts of results; closures.
-/
import Derived.Test.YtogappokeheilaaAw7
import Derived.Laws.StructEq
import Derived.Laws.BytesArg
set_option linter.unusedVariables false
set_option linter.unusedSimpArgs false
namespace Go.Aw
open Go.RowKit
section
variable {P : Program} {B : Nat} {S : Mem} {m : List Loc} {H : List AObj} {w : World} {K : AV → List AObj → Prop}

/-! ### Make -/
def zeroP (P : Program) (t : TypeId) : Option (List PV) := ((P.info? t).bind (·.zero)).bind fun v => absL v.cells.toList
def aMake (P : Program) (t : TypeId) (x y : AV) (H : List AObj) (K : AV → List AObj → Prop) : Prop :=
  match P.underlying t, intA x, intA y with
  | some (.slice e), some n, some n' => n' = n ∧ 0 ≤ n ∧ n ≤ 9223372036854775807 ∧ (P.bytesOf e : Int) * n ≤ 281474976710656 ∧ 0 < P.cellsOf e ∧
    match zeroP P e with
    | some zs => zs.length = P.cellsOf e ∧ K (.c (.own H.length n.toNat)) (H ++ [.arr e (P.cellsOf e) 0 (List.replicate n.toNat (zs.map lo))])
    | none => False
  | _, _, _ => False
theorem good_make (s : Sim S m H B w) {t : TypeId} {x y : AV} {v u : Value} (hx : VA S m H x v) (hy : VA S m H y u) (h : aMake P t x y H K) : Good P B S m H w (Instr.makeSlice t v u) K := by
  unfold aMake at h
  split at h
  · rename_i e n n' hu hn hn'
    obtain ⟨rfl, h0, h63, hb, hp, h⟩ := h
    split at h
    · rename_i zs0 hz
      obtain ⟨hzl0, hk⟩ := h
      obtain ⟨zs, hzs0⟩ : ∃ zs, zs = zs0.map lo := ⟨_, rfl⟩
      rw [← hzs0] at hk
      have hzl : zs.length = P.cellsOf e := by rw [hzs0]; simpa using hzl0
      obtain ⟨k1, rfl⟩ := intA_ok hx hn
      obtain ⟨k2, rfl⟩ := intA_ok hy hn'
      obtain ⟨i, hi, hsz, hby⟩ := info_of_cells hp
      unfold zeroP at hz
      cases hzz : i.zero with
      | none => simp [hi, hzz] at hz
      | some z =>
        simp [hi, hzz] at hz
        have hzs : VPs S zs z.cells.toList := by rw [hzs0]; exact (absL_ok S hz).lo
        have hzsz : z.cells.size = P.cellsOf e := by have := hzs.1; simp at this; omega
        have hr := run_make (P := P) w t e i z hu hi hzz k1 k2 n' n' h0 (Int.le_refl _) (by rw [hby]; exact hb) h63
        have hN : n'.toNat ≤ maxLen := by simp only [maxLen]; omega
        have hnz : ∀ x, x ∈ List.replicate n'.toNat zs → x.length = P.cellsOf e := fun x hx => by rw [List.eq_of_mem_replicate hx]; exact hzl
        have hlen : (madeCells z.cells (n'.toNat * i.size)).toList.length = n'.toNat * P.cellsOf e := by rw [Array.length_toList, size_madeCells, hsz]
        obtain ⟨s2, e2, hv⟩ := s.newArr e (P.cellsOf e) n'.toNat (List.replicate n'.toNat zs) (madeCells z.cells (n'.toNat * i.size)).toList hp hnz (by simp) hN hlen (by
          rw [List.length_replicate, ← hlen, List.take_length]
          refine ⟨by rw [flat_len hnz, hlen, List.length_replicate], fun j x u hx hu' => ?_⟩
          have hj : j < n'.toNat * P.cellsOf e := by rw [← hlen]; exact (List.getElem?_eq_some_iff.1 hu').1
          have hjd : j = (j / P.cellsOf e) * P.cellsOf e + j % P.cellsOf e := by rw [Nat.mul_comm]; exact (Nat.div_add_mod j _).symm
          have hjm : j % P.cellsOf e < P.cellsOf e := Nat.mod_lt _ hp
          rw [hjd, flat_get hnz _ _ hjm] at hx
          have hq : j / P.cellsOf e < n'.toNat := by rw [Nat.div_lt_iff_lt_mul hp]; exact hj
          rw [List.getElem?_replicate, if_pos hq] at hx
          simp only [Option.bind_some] at hx
          have hu2 : z.cells.toList[j % P.cellsOf e]? = some u := by
            rw [Array.getElem?_toList] at hu'
            simp only [madeCells, Array.getElem?_map] at hu'
            rw [hsz, Array.getElem?_range] at hu'
            rw [if_pos hj] at hu'
            simp only [Option.map_some, Option.some.injEq] at hu'
            rw [hzsz] at hu'
            rw [← hu', Array.getElem?_toList, getElem!_pos z.cells _ (by rw [hzsz]; exact hjm)]
            exact Array.getElem?_eq_getElem (by rw [hzsz]; exact hjm)
          exact hzs.2 _ x u hx hu2)
        rw [List.length_replicate] at hv
        refine ⟨_, _, hr, S, _, _, .c (.own H.length n'.toNat), by simpa using s2, e2, (Bel.refl B w).alloc s.base _, hv, hk⟩
    · exact h.elim
  · exact h.elim

/-! ### Two operands -/
def aInt (op : BinOp) (k : IntKind) (a b : Int) (K : PV → Prop) : Prop :=
  match op with
  | .add => K (.int k (k.wrap (a + b)))
  | .sub => K (.int k (k.wrap (a - b)))
  | .mul => K (.int k (k.wrap (a * b)))
  | .quo => b ≠ 0 ∧ K (.int k (k.wrap (a.tdiv b)))
  | .rem => b ≠ 0 ∧ K (.int k (a.tmod b))
  | .eql => K (.bool (a == b))
  | .neq => K (.bool (a != b))
  | .lss => K (.bool (decide (a < b)))
  | .leq => K (.bool (decide (a ≤ b)))
  | .gtr => K (.bool (decide (b < a)))
  | .geq => K (.bool (decide (b ≤ a)))
  | _ => False
def aStr (op : BinOp) (a b : ByteArray) (K : PV → Prop) : Prop :=
  match op with
  | .add => a.size + b.size ≤ 9223372036854775807 ∧ K (.str (a ++ b))
  | .eql => K (.bool (a.toList == b.toList))
  | .neq => K (.bool !(a.toList == b.toList))
  | _ => False
/-- '==' on structs, as the closed facts on a type give it. -/
def AggEq (P : Program) (t : TypeId) (xs ys : List PV) (r : Bool) : Prop :=
  ∀ (S : Mem) (us vs : List Value) (w : World), VPs S xs us → VPs S ys vs → (Op.equalIn Op.maxDepth t (.agg us.toArray) (.agg vs.toArray)).run P w = .ok r w
def aBin (P : Program) (op : BinOp) (t : TypeId) (x y : AV) (H : List AObj) (K : AV → List AObj → Prop) : Prop :=
  match x, y with
  | .c (.p (.int k a)), .c (.p (.int k' b)) => k' = k ∧ aInt op k a b fun r => K (.c (.p r)) H
  | .c (.p (.bool a)), .c (.p (.bool b)) => P.underlying t = some .bool ∧ match op with
    | .eql => K (.c (.p (.bool (a == b)))) H
    | .neq => K (.c (.p (.bool !(a == b)))) H
    | _ => False
  | .c (.p (.str a)), .c (.p (.str b)) => aStr op a b fun r => K (.c (.p r)) H
  | .agg cs, .agg ds => match frzs H cs, frzs H ds with
    | some (xs, H1), some (ys, H2) => H1 = H ∧ H2 = H ∧ P.eqGuardType P.depth t = false ∧ ∃ r, AggEq P t xs ys r ∧ match op with
      | .eql => K (.c (.p (.bool r))) H
      | .neq => K (.c (.p (.bool !r))) H
      | _ => False
    | _, _ => False
  | _, _ => False
theorem good_aInt {op : BinOp} {k : IntKind} {a b : Int} {Q : PV → Prop} (h : aInt op k a b Q) (t : TypeId) (w : World) : ∃ r v, (binOp op t (.int k a) (.int k b)).run P w = .ok v w ∧ VP (fun _ _ => none) r v ∧ Q r := by
  cases op <;> simp only [aInt] at h
  case add => exact ⟨_, _, by simp [binOp, Op.intArith], .int _ _, h⟩
  case sub => exact ⟨_, _, by simp [binOp, Op.intArith], .int _ _, h⟩
  case mul => exact ⟨_, _, by simp [binOp, Op.intArith], .int _ _, h⟩
  case quo => exact ⟨_, _, by simp [binOp, Op.intDiv, h.1], .int _ _, h.2⟩
  case rem => exact ⟨_, _, by simp [binOp, Op.intDiv, h.1], .int _ _, h.2⟩
  case eql => exact ⟨_, _, by simp [binOp, Op.intCmp], .bool _, h⟩
  case neq => exact ⟨_, _, by simp [binOp, Op.intCmp], .bool _, h⟩
  case lss => exact ⟨_, _, by simp [binOp, Op.intCmp], .bool _, h⟩
  case leq => exact ⟨_, _, by simp [binOp, Op.intCmp], .bool _, h⟩
  case gtr => exact ⟨_, _, by simp [binOp, Op.intCmp], .bool _, h⟩
  case geq => exact ⟨_, _, by simp [binOp, Op.intCmp], .bool _, h⟩
theorem good_aStr {op : BinOp} {a b : ByteArray} {Q : PV → Prop} (h : aStr op a b Q) (t : TypeId) (w : World) : ∃ r v, (binOp op t (.string a) (.string b)).run P w = .ok v w ∧ VP (fun _ _ => none) r v ∧ Q r := by
  cases op <;> simp only [aStr] at h
  case add =>
    refine ⟨_, _, ?_, .str _, h.2⟩
    have : ¬ ((a.size + b.size : Nat) : Int) > IntKind.i64.max := by
      have h1 := h.1
      have : IntKind.i64.max = 9223372036854775807 := by decide
      rw [this]; omega
    simp only [binOp, Op.stringOp, if_neg this, Sem.run_pure]
  case eql => exact ⟨_, _, by simp [binOp, Op.stringOp], .bool _, h⟩
  case neq => exact ⟨_, _, by simp [binOp, Op.stringOp], .bool _, h⟩
theorem good_bin (s : Sim S m H B w) {op : BinOp} {t : TypeId} {ox oy : Operand} {x y : AV} {v u : Value} (hx : VA S m H x v) (hy : VA S m H y u) (h : aBin P op t x y H K) :
    Good P B S m H w (do eqGuard op t ox oy v u; binOp op t v u) K := by
  unfold aBin at h
  split at h
  · rename_i k a k' b
    obtain ⟨rfl, h⟩ := h
    cases hx; cases hy
    obtain ⟨r, rv, h1, h2, h3⟩ := good_aInt (P := P) h t w
    refine Good.same s (x := .c (.p r)) (v := rv) ?_ (h2.mono (S' := S) (fun _ _ _ h => by cases h)) h3
    have : (eqGuard op t ox oy (.int k' a) (.int k' b)).run P w = .ok () w := by unfold eqGuard; split <;> rfl
    simp only [Sem.run_bind, this, Result.andThen_ok, h1]
  · rename_i a b
    obtain ⟨hu, h⟩ := h
    cases hx; cases hy
    have hg : (eqGuard op t ox oy (.bool a) (.bool b)).run P w = .ok () w := by unfold eqGuard; split <;> rfl
    have hq : ∀ w : World, (Op.equal t (.bool a) (.bool b)).run P w = .ok (a == b) w := fun w => run_equalIn_bool' w 9999 t a b hu
    cases op <;> simp only at h
    case eql => exact Good.same s (x := .c (.p (.bool (a == b)))) (v := .bool (a == b)) (by simp only [Sem.run_bind, hg, Result.andThen_ok, binOp, hq, Sem.run_pure]) (.bool _) h
    case neq => exact Good.same s (x := .c (.p (.bool !(a == b)))) (v := .bool !(a == b)) (by simp only [Sem.run_bind, hg, Result.andThen_ok, binOp, hq, Sem.run_pure]) (.bool _) h
  · rename_i a b
    cases hx; cases hy
    obtain ⟨r, rv, h1, h2, h3⟩ := good_aStr (P := P) h t w
    refine Good.same s (x := .c (.p r)) (v := rv) ?_ (h2.mono (S' := S) (fun _ _ _ h => by cases h)) h3
    have : (eqGuard op t ox oy (.string a) (.string b)).run P w = .ok () w := by unfold eqGuard; split <;> rfl
    simp only [Sem.run_bind, this, Result.andThen_ok, h1]
  · rename_i cs ds
    split at h
    · rename_i xs H1 ys H2 hc hd
      obtain ⟨rfl, rfl, hgt, r, hr, h⟩ := h
      obtain ⟨us, rfl, hus⟩ := hx
      obtain ⟨vs, rfl, hvs⟩ := hy
      obtain ⟨S1, s1, e1, p1⟩ := frzs_ok s hus hc
      obtain ⟨S2, s2, e2, p2⟩ := frzs_ok s1 (hvs.ext e1) hd
      have hg : ∀ o : BinOp, o = .eql ∨ o = .neq → (eqGuard o t ox oy (.agg us.toArray) (.agg vs.toArray)).run P w = .ok () w := by
        rintro o (rfl | rfl) <;> simp [eqGuard, hgt]
      have hq : (Op.equal t (.agg us.toArray) (.agg vs.toArray)).run P w = .ok r w := hr S2 us vs w (p1.mono e2.mem) p2
      cases op <;> simp only at h
      case eql => exact ⟨_, w, by simp only [Sem.run_bind, hg _ (.inl rfl), Result.andThen_ok, binOp, hq, Sem.run_pure], S2, m, _, .c (.p (.bool r)), s2, e1.trans e2, Bel.refl B w, .bool _, h⟩
      case neq => exact ⟨_, w, by simp only [Sem.run_bind, hg _ (.inr rfl), Result.andThen_ok, binOp, hq, Sem.run_pure], S2, m, _, .c (.p (.bool !r)), s2, e1.trans e2, Bel.refl B w, .bool _, h⟩
    · exact h.elim
  · exact h.elim

theorem eqIn_nil_nil {t e : TypeId} (hu : P.underlying t = some (.slice e)) (d n c n' c' : Nat) (w : World) : (Op.equalIn (d + 1) t (.slice none n c) (.slice none n' c')).run P w = .ok true w := by simp [Op.equalIn, run_underlying hu]
theorem eqIn_some_nil {t e : TypeId} (hu : P.underlying t = some (.slice e)) (d : Nat) (a : Addr) (n c n' c' : Nat) (w : World) : (Op.equalIn (d + 1) t (.slice (some a) n c) (.slice none n' c')).run P w = .ok false w := by simp [Op.equalIn, run_underlying hu]
/-- Against the literal nil. -/
def aNil (P : Program) (op : BinOp) (t : TypeId) (x : AV) (H : List AObj) (K : AV → List AObj → Prop) : Prop :=
  match P.underlying t, x with
  | some (.slice e), .c (.p (.sl full xs)) => match op with
    | .eql => (xs ≠ [] → K (.c (.p (.bool false))) H) ∧ (xs = [] → ∀ b, K (.c (.p (.bool b))) H)
    | .neq => (xs ≠ [] → K (.c (.p (.bool true))) H) ∧ (xs = [] → ∀ b, K (.c (.p (.bool b))) H)
    | _ => False
  | _, _ => False
theorem good_nil (s : Sim S m H B w) {op : BinOp} {t : TypeId} {ox oy : Operand} {x : AV} {v : Value} (hx : VA S m H x v) (h : aNil P op t x H K) :
    Good P B S m H w (do eqGuard op t ox oy v (.slice none 0 0); binOp op t v (.slice none 0 0)) K := by
  unfold aNil at h
  split at h
  · rename_i e full xs hu
    have hx' : VP S (.sl full xs) v := hx
    have key : ∃ r : Bool, (∀ w : World, (Op.equal t v (.slice none 0 0)).run P w = .ok r w) ∧ (xs ≠ [] → r = false) ∧ ∃ a n c, v = .slice a n c := by
      cases hx' with
      | nil => exact ⟨true, fun w => eqIn_nil_nil hu 9999 _ _ _ _ w, fun h => absurd rfl h, _, _, _, rfl⟩
      | emp => exact ⟨false, fun w => eqIn_some_nil hu 9999 _ _ _ _ _ w, fun _ => rfl, _, _, _, rfl⟩
      | sl _ _ b off cap size n u hn hc hm hf hs hu' hS hv => exact ⟨false, fun w => eqIn_some_nil hu 9999 _ _ _ _ _ w, fun _ => rfl, _, _, _, rfl⟩
    obtain ⟨r, hr, hr2, a, n, c, rfl⟩ := key
    have hg : (eqGuard op t ox oy (.slice a n c) (.slice none 0 0)).run P w = .ok () w := by unfold eqGuard; split <;> rfl
    cases op <;> simp only at h
    case eql =>
      refine Good.same s (x := .c (.p (.bool r))) (v := .bool r) (by simp only [Sem.run_bind, hg, Result.andThen_ok, binOp, hr, Sem.run_pure]) (.bool _) ?_
      by_cases hxs : xs = []
      · exact h.2 hxs r
      · rw [hr2 hxs]; exact h.1 hxs
    case neq =>
      refine Good.same s (x := .c (.p (.bool !r))) (v := .bool !r) (by simp only [Sem.run_bind, hg, Result.andThen_ok, binOp, hr, Sem.run_pure]) (.bool _) ?_
      by_cases hxs : xs = []
      · exact h.2 hxs _
      · rw [hr2 hxs]; exact h.1 hxs
  · exact h.elim

/-! ### One operand -/
def aUn (op : UnOp) (x : AV) (H : List AObj) (K : AV → List AObj → Prop) : Prop :=
  match op, x with
  | .not, .c (.p (.bool b)) => K (.c (.p (.bool !b))) H
  | .neg, .c (.p (.int k n)) => K (.c (.p (.int k (k.wrap (0 - n))))) H
  | _, _ => False
theorem good_un (s : Sim S m H B w) {op : UnOp} {x : AV} {v : Value} (hx : VA S m H x v) (h : aUn op x H K) : Good P B S m H w (Op.unary op v) K := by
  unfold aUn at h
  split at h
  · rename_i b; cases hx; exact Good.same s (x := .c (.p (.bool !b))) (v := .bool !b) (by simp [Op.unary]) (.bool _) h
  · rename_i k n; cases hx; exact Good.same s (x := .c (.p (.int k (k.wrap (0 - n))))) (v := .int k (k.wrap (0 - n))) (by simp [Op.unary, Op.intArith]) (.int _ _) h
  · exact h.elim
/-- A byte as an element. -/
def encB (b : UInt8) : List PV := [.int .u8 b.toNat]
def aConv (P : Program) (src dst : TypeId) (x : AV) (H : List AObj) (K : AV → List AObj → Prop) : Prop :=
  match P.underlying src, P.underlying dst with
  | some _, some (.int k) => match x with
    | .c (.p (.int _ n)) => K (.c (.p (.int k (k.wrap n)))) H
    | _ => False
  | some (.slice e), some .string => P.underlying e = some (.int .u8) ∧ match frzA H x with
    | some (.sl _ xs, H1) => ∃ bs : List UInt8, xs = bs.map encB ∧ K (.c (.p (.str ⟨bs.toArray⟩))) H1
    | _ => False
  | some .string, some (.slice e) => P.underlying e = some (.int .u8) ∧ P.cellsOf e = 1 ∧ match x with
    | .c (.p (.str st)) => st.size ≤ 140737488355328 ∧ K (.c (.p (.sl false (st.data.toList.map encB)))) H
    | _ => False
  | some .string, some .string => match x with
    | .c (.p (.str st)) => K (.c (.p (.str st))) H
    | _ => False
  | _, _ => False
theorem flat_encB (bs : List UInt8) : (bs.map encB).flatten = bs.map fun b => PV.int .u8 b.toNat := by
  induction bs with
  | nil => rfl
  | cons b bs ih => simp only [List.map_cons, List.flatten_cons, ih]; rfl
theorem strOfNums_bytes (bs : List UInt8) : strOfNums (bs.map fun b => (b.toNat : Int)) = ⟨bs.toArray⟩ := by
  simp only [strOfNums, List.map_map]
  congr 2
  rw [show ((fun n : Int => UInt8.ofNat n.toNat) ∘ fun b : UInt8 => (b.toNat : Int)) = id from by funext b; simp, List.map_id]
theorem run_convert_empty {P : Program} (w : World) (src e : TypeId) (hs : P.underlying src = some (.slice e)) (he : P.underlying e = some (.int .u8)) (a : Addr) (dst : TypeId) (hd : P.underlying dst = some .string) :
    (convert src dst (.slice (some a) 0 0)).run P w = .ok (.string ⟨([] : List UInt8).toArray⟩) w := by
  have hl : (loadCells a 0).run P w = .ok (([] : List Value)).toArray w := run_loadCells_list (P := P) w a [] (fun j v hj => by simp at hj)
  rw [run_convert_bytes_string w src dst e _ 0 0 hs he hd]
  simp only [Conv.bytesToString, Sem.run_bind, hl, Result.andThen_ok]
  rfl
theorem good_conv (s : Sim S m H B w) {src dst : TypeId} {x : AV} {v : Value} (hx : VA S m H x v) (h : aConv P src dst x H K) : Good P B S m H w (convert src dst v) K := by
  unfold aConv at h
  split at h
  · rename_i ds k hs hd
    split at h
    · rename_i k' n
      cases hx
      exact Good.same s (x := .c (.p (.int k (k.wrap n)))) (v := .int k (k.wrap n)) (by simp [convert, run_underlying hs, run_underlying hd, Conv.intToInt]) (.int _ _) h
    · exact h.elim
  · rename_i e hs hd
    obtain ⟨he, h⟩ := h
    split at h
    · rename_i full xs H1 hf
      obtain ⟨bs, rfl, hk⟩ := h
      obtain ⟨S1, s1, e1, p1⟩ := frzA_ok s hx hf
      refine ⟨.string ⟨bs.toArray⟩, w, ?_, S1, m, H1, .c (.p (.str ⟨bs.toArray⟩)), s1, e1, Bel.refl B w, .str _, hk⟩
      cases hbs : bs with
      | nil =>
        subst hbs
        simp only [List.map_nil] at p1
        cases p1 with
        | nil => exact run_convert_bytes_nil w src e hs he 0 0 dst hd
        | emp _ a => exact run_convert_empty w src e hs he a dst hd
        | sl _ _ b off cap size n u hn hc hm hf hs' hu' hS hv =>
          simp at hn; subst hn
          exact run_convert_bytes_arg w src e hs he b off 0 cap [] rfl (fun i hi => absurd hi (by omega)) dst hd
      | cons b0 bs0 =>
        rw [← hbs]
        obtain ⟨a, cap, rfl, _⟩ := VP.slice_form p1
        generalize hN : (bs.map encB).length = N at p1 ⊢
        have hNl : bs.length = N := by simpa using hN
        generalize hX : bs.map encB = X at p1
        cases p1 with
        | nil => simp [hbs] at hX
        | emp => simp [hbs] at hX
        | sl _ _ b off cap size n u hn hc hm hf hs' hu' hS hv =>
          have := run_convert_bytes_arg (P := P) w src e hs he b off N cap (bs.map fun b => (b.toNat : Int)) (by simpa using hNl) (fun i hi => by
            have hi' : i < bs.length := by omega
            have hg : X.flatten[i]? = some (.int .u8 (bs[i]).toNat) := by rw [← hX, flat_encB]; simp [hi']
            have h1 := s1.mem _ _ _ (hS i _ hg)
            have h2 := hv i _ hg
            rw [h1]
            generalize u i = q at h2
            cases h2
            simp [List.getD_eq_getElem?_getD, hi']) dst hd
          rw [this, strOfNums_bytes]
    · exact h.elim
  · rename_i e hs hd
    obtain ⟨he, hsz, h⟩ := h
    split at h
    · rename_i st
      obtain ⟨hle, hk⟩ := h
      cases hx
      let cap := (Question.appendCap st.size 0 e).cut (w.tape w.drawn (.appendCap st.size 0 e))
      have hcap : st.size ≤ cap ∧ cap ≤ maxLen := by
        have hlt := Nat.mod_lt (w.tape w.drawn (.appendCap st.size 0 e)) (show 0 < 2 ^ 63 - st.size by omega)
        show st.size ≤ st.size + _ % (2 ^ 63 - st.size) ∧ st.size + _ % (2 ^ 63 - st.size) ≤ maxLen
        simp only [maxLen]; omega
      let cells : List Value := st.data.toList.map (fun b => Value.int .u8 b.toNat) ++ List.replicate (cap - st.size) (.int .u8 0)
      let w' : World := (w.drew.alloc (.cells cells.toArray e)).freeze ⟨w.heap.size, cells.length, none⟩ 1
      have hh0 : w'.heap = (w.heap.push (.cells cells.toArray e)).modify w.heap.size (fun
          | .cells c elem (lo, hi) => .cells c elem (if lo == hi then (cells.length, cells.length + 1) else (min lo cells.length, max hi (cells.length + 1)))
          | o => o) := rfl
      have hheap : w'.heap[w.heap.size]? = some (.cells cells.toArray e (cells.length, cells.length + 1)) := by
        rw [hh0, Array.getElem?_modify, if_pos rfl, Array.getElem?_push_size]
        rfl
      have hold : ∀ k, k < w.heap.size → w'.heap[k]? = w.heap[k]? := fun k hk => by
        rw [hh0, Array.getElem?_modify, if_neg (by omega)]
        exact heap_alloc_old w.drew _ hk
      have hsz' : w'.heap.size = w.heap.size + 1 := by rw [hh0]; simp
      have hrun : (convert src dst (.string st)).run P w = .ok (.slice (some ⟨w.heap.size, 0, none⟩) st.size cap) w' := by
        have e1 : (st.data.map fun b => Value.int .u8 b.toNat) ++ Array.replicate (cap - st.size) (Value.int .u8 0) = cells.toArray := by
          apply Array.ext'; simp [cells]
        have hshape : (w.drew.alloc (.cells cells.toArray e)).shape? w.heap.size = some (e, cells.length) := by
          show (match (w.heap.push (.cells cells.toArray e))[w.heap.size]? with | some (.cells c elem _) => some (elem, c.size) | _ => none) = _
          rw [Array.getElem?_push_size]
          simp
        simp only [convert, Sem.run_bind, run_underlying hs, run_underlying hd, Result.andThen_ok, run_underlying he, Conv.stringToBytes]
        rw [run_choose_drew]
        simp only [Question.forced, Bool.false_eq_true, if_false, Result.andThen_ok, newRow, Sem.run_bind, Sem.run_pure]
        rw [e1]
        simp only [run_newObj_alloc, Result.andThen_ok, Sem.run_pure, markStringish, Sem.run_bind, run_shape]
        have hds : w.drew.heap.size = w.heap.size := rfl
        simp only [hds, hshape, run_freeze, Result.andThen_ok, Sem.run_pure]
        rfl
      let S2 : Mem := fun b o => if b = w.heap.size then cells[o]? else S b o
      have hin : ∀ o, S2 w.heap.size o = cells[o]? := fun o => if_pos rfl
      have hout : OldMem w.heap.size S S2 := fun b o hb => if_neg (by omega)
      obtain ⟨s2, e2⟩ := s.grow (S' := S2) (w' := w') hold (by omega) hout (fun b o v hb hv => by
        by_cases hbb : b = w.heap.size
        · subst hbb
          rw [hin] at hv
          rw [cell_eq hheap]; exact hv
        · have : S2 b o = S b o := if_neg hbb
          rw [this, s.newmem hb o] at hv
          cases hv)
      have hbel : Bel B w w' := Bel.of_old ⟨rfl, rfl, rfl, by omega, fun k hk => hold k (Nat.lt_of_lt_of_le hk s.base)⟩ hold
      refine ⟨_, w', hrun, S2, m, H, .c (.p (.sl false (st.data.toList.map encB))), s2, e2, hbel, ?_, hk⟩
      refine .sl false _ w.heap.size 0 cap 1 st.size (fun k => cells.getD k undef) (by rw [List.length_map, Array.length_toList]; rfl) hcap.1 hcap.2 (fun h => by cases h) (by omega) (by simp [encB]) (fun k x hk => ?_) (fun k x hk => ?_)
      all_goals
        rw [flat_encB, List.getElem?_map] at hk
        cases hbk : st.data.toList[k]? with
        | none => rw [hbk] at hk; simp at hk
        | some b =>
          rw [hbk] at hk
          simp only [Option.map_some, Option.some.injEq] at hk
          have hlt : k < st.data.toList.length := (List.getElem?_eq_some_iff.1 hbk).1
          have hg : cells[k]? = some (.int .u8 b.toNat) := by
            show (st.data.toList.map _ ++ _)[k]? = _
            rw [List.getElem?_append_left (by simpa using hlt), List.getElem?_map, hbk]; rfl
          have hgd : cells.getD k undef = .int .u8 b.toNat := by rw [List.getD_eq_getElem?_getD, hg]; rfl
          subst hk
          first
          | (rw [Nat.zero_add, hin, hg, hgd])
          | (simp only [hgd]; exact .int _ _)
    · exact h.elim
  · rename_i hs hd
    split at h
    · rename_i st
      cases hx
      exact Good.same s (x := .c (.p (.str st))) (v := .string st) (by simp [convert, run_underlying hs, run_underlying hd]) (.str _) h
    · exact h.elim
  · exact h.elim
/-! ### Maps with numbers as keys -/
def mapFind (k : Int) : List (Int × Cell) → Option Cell
  | [] => none
  | (k', c) :: r => if k' = k then some c else mapFind k r
def aInsert (P : Program) (t : TypeId) (x k v : AV) (H : List AObj) (K : List AObj → Prop) : Prop :=
  match P.underlying t, x, k, v with
  | some (.map kt _), .c (.mp id), .c (.p (.int .i64 n)), .c c => P.underlying kt = some (.int .i64) ∧ match H[id]? with
    | some (.map es) => mapFind n es = none ∧ K (H.set id (.map (es ++ [(n, c)])))
    | _ => False
  | _, _, _, _ => False
def aLookup (P : Program) (t : TypeId) (x k : AV) (ok : Bool) (H : List AObj) (K : AV → List AObj → Prop) : Prop :=
  match P.underlying t, x, k with
  | some (.map kt e), .c (.mp id), .c (.p (.int .i64 n)) => P.underlying kt = some (.int .i64) ∧ ok = true ∧ match H[id]? with
    | some (.map es) => match mapFind n es with
      | some c => K (.tup [(false, [c]), (false, [.p (.bool true)])]) H
      | none => ∃ z, zeroA P e = some (.c z) ∧ K (.tup [(false, [z]), (false, [.p (.bool false)])]) H
    | _ => False
  | _, _, _ => False
def EntsOk (S : Mem) (m : List Loc) (H : List AObj) (es : List (Int × Cell)) (ents : List MapEntry) : Prop :=
  es.length = ents.length ∧ ∀ (i : Nat) k c (e : MapEntry), es[i]? = some (k, c) → ents[i]? = some e → e.key = .int .i64 k ∧ VC S m H c e.val
theorem findNow_ok {k : Int} : ∀ {es : List (Int × Cell)} {ents : List MapEntry} (i : Nat), EntsOk S m H es ents →
    (mapFind k es = none ∧ Instr.findNow (.int .i64) (.int .i64 k) ents i = some none) ∨ ∃ c j v, mapFind k es = some c ∧ Instr.findNow (.int .i64) (.int .i64 k) ents i = some (some (j, v)) ∧ VC S m H c v
  | [], [], i, _ => .inl ⟨rfl, rfl⟩
  | [], e :: ents, i, h => by have := h.1; simp at this
  | (k', c) :: es, [], i, h => by have := h.1; simp at this
  | (k', c) :: es, e :: ents, i, h => by
    obtain ⟨h1, h2⟩ := h.2 0 k' c e rfl rfl
    have h' : EntsOk S m H es ents := ⟨by have := h.1; simpa using this, fun j q d f hq hf => h.2 (j + 1) q d f (by simpa using hq) (by simpa using hf)⟩
    by_cases hk : k' = k
    · subst hk
      exact .inr ⟨c, i, e.val, by simp [mapFind], by simp [Instr.findNow, h1, Instr.sameNow], h2⟩
    · have hs : Instr.sameNow (.int .i64) (.int .i64 k) e.key = some false := by
        rw [h1]; simp [Instr.sameNow]; intro hh; exact hk hh.symm
      rcases findNow_ok (k := k) (i + 1) h' with ⟨a, b⟩ | ⟨c', j, v, a, b, d⟩
      · exact .inl ⟨by simp [mapFind, hk, a], by simp [Instr.findNow, hs, b]⟩
      · exact .inr ⟨c', j, v, by simp [mapFind, hk, a], by simp [Instr.findNow, hs, b], d⟩
theorem mp_form (s : Sim S m H B w) {id : Nat} {es : List (Int × Cell)} {v : Value} (ho : H[id]? = some (.map es)) (hx : VC S m H (.mp id) v) :
    ∃ b cap ents clock, m[id]? = some (.at_ b cap) ∧ v = .map (some b) ∧ B ≤ b ∧ w.heap[b]? = some (.map ents clock) ∧ EntsOk S m H es ents.toList := by
  obtain ⟨b, cap, es', h1, h2, rfl⟩ := hx
  rw [ho] at h1; cases h1
  obtain ⟨g1, ents, clock, g2, g3, g4⟩ := s.obj id _ _ ho h2
  exact ⟨b, cap, ents, clock, h2, rfl, g1, g2, by simpa using g3, fun i k c e hi he => g4 i k c e hi (by simpa using he)⟩
theorem run_getObj_map {r : Nat} {ents : Array MapEntry} {clock : Nat} (h : w.heap[r]? = some (.map ents clock)) : (getObj r).run P w = .ok (.map ents clock) w := by simp [getObj, Sem.run, h]
theorem run_checkKey_int' {kt : TypeId} (h : P.underlying kt = some (.int .i64)) (e : Bool) (k : Int) (n : Nat) : (Instr.checkKey e (n + 1) kt (.int .i64 k)).run P w = .ok () w := by
  simp [Instr.checkKey, run_underlying h]
theorem run_checkKey_int {kt : TypeId} (h : P.underlying kt = some (.int .i64)) (e : Bool) (k : Int) : (Instr.checkKey e 10000 kt (.int .i64 k)).run P w = .ok () w := by
  exact run_checkKey_int' h e k 9999
theorem good_lookup (s : Sim S m H B w) {t : TypeId} {ok : Bool} {x k : AV} {vx vk : Value} (hx : VA S m H x vx) (hk : VA S m H k vk) (h : aLookup P t x k ok H K) : Good P B S m H w (Instr.lookup t vx vk ok) K := by
  unfold aLookup at h
  split at h
  · rename_i kt e id n hu
    obtain ⟨hkt, rfl, h⟩ := h
    split at h
    · rename_i es ho
      obtain ⟨b, cap, ents, clock, h1, rfl, h3, h4, h5⟩ := mp_form s ho hx
      cases hk
      rcases findNow_ok (k := n) 0 h5 with ⟨a, c⟩ | ⟨c', j, v, a, c, d⟩
      · simp only [a] at h
        obtain ⟨z, hz, h⟩ := h
        obtain ⟨u, hr, hv⟩ := run_zero hz S m H w
        refine Good.same s (x := .tup [(false, [z]), (false, [.p (.bool false)])]) (v := .tuple #[u, .bool false]) ?_ ⟨[u, .bool false], rfl, rfl, fun i b' u' hb hu' => ?_⟩ h
        · simp [Instr.lookup, run_underlying hu, run_getObj_map h4, run_checkKey_int hkt, Instr.findKey, run_underlying hkt, c, hr]
        · match i with
          | 0 => simp at hb hu'; subst hb; subst hu'; exact ⟨z, rfl, hv⟩
          | 1 => simp at hb hu'; subst hb; subst hu'; exact ⟨_, rfl, VP.bool _⟩
          | i + 2 => simp at hb
      · simp only [a] at h
        refine Good.same s (x := .tup [(false, [c']), (false, [.p (.bool true)])]) (v := .tuple #[v, .bool true]) ?_ ⟨[v, .bool true], rfl, rfl, fun i b' u' hb hu' => ?_⟩ h
        · simp [Instr.lookup, run_underlying hu, run_getObj_map h4, run_checkKey_int hkt, Instr.findKey, run_underlying hkt, c]
        · match i with
          | 0 => simp at hb hu'; subst hb; subst hu'; exact ⟨c', rfl, d⟩
          | 1 => simp at hb hu'; subst hb; subst hu'; exact ⟨_, rfl, VP.bool _⟩
          | i + 2 => simp at hb
    · exact h.elim
  · exact h.elim
theorem heap_putMap {b : Nat} (o : Obj) (hb : b < w.heap.size) : ({ w with heap := w.heap.setIfInBounds b o } : World).heap[b]? = some o := by simp [hb]
theorem heap_putMap_ne {b k : Nat} (o : Obj) (h : k ≠ b) : ({ w with heap := w.heap.setIfInBounds b o } : World).heap[k]? = w.heap[k]? := by simp [Array.getElem?_setIfInBounds_ne (Ne.symm h)]
theorem good_insert {K : List AObj → Prop} (s : Sim S m H B w) {t : TypeId} {x k y : AV} {vx vk vy : Value} (hx : VA S m H x vx) (hk : VA S m H k vk) (hy : VA S m H y vy) (h : aInsert P t x k y H K) : GoodU P B S m H w (Instr.mapUpdate t vx vk vy) K := by
  unfold aInsert at h
  split at h
  · rename_i kt e id n c hu
    obtain ⟨hkt, h⟩ := h
    split at h
    · rename_i es ho
      obtain ⟨hnone, h⟩ := h
      obtain ⟨b, cap, ents, clock, h1, rfl, h3, h4, h5⟩ := mp_form s ho hx
      cases hk
      rcases findNow_ok (k := n) 0 h5 with ⟨a, c1⟩ | ⟨c', j, v, a, _, _⟩
      rotate_left
      · rw [hnone] at a; cases a
      have hbs : b < w.heap.size := (Array.getElem?_eq_some_iff.1 h4).1
      have hid : id < H.length := (List.getElem?_eq_some_iff.1 ho).1
      let o' : Obj := .map (ents.push { key := .int .i64 n, val := vy, born := clock }) (clock + 1)
      let w' : World := { w with heap := w.heap.setIfInBounds b o' }
      have hrun : (Instr.mapUpdate t (.map (some b)) (.int .i64 n) vy).run P w = .ok () w' := by
        simp [Instr.mapUpdate, run_underlying hu, run_getObj_map h4, run_checkKey_int hkt, Instr.findKey, run_underlying hkt, c1, setObj, Sem.run, w', o', h4]
      have e : Ext B S m H S m (H.set id (.map (es ++ [(n, c)]))) := by
        refine ⟨Mem.le_refl S, fun _ _ _ => rfl, fun i x h hf => ⟨?_, fun _ h => h⟩, fun i T' size frz es l h h' => ⟨frz, es, l, ?_, h', Nat.le_refl _, fun _ => rfl⟩⟩
        · by_cases hi : id = i
          · subst hi
            rw [ho] at h; cases h
            exact ⟨.map (es ++ [(n, c)]), by simp [hid], trivial⟩
          · exact ⟨x, by rw [getElem?_set_ne _ _ _ _ hi]; exact h, Kin.refl hf⟩
        · have hi : id ≠ i := fun hi => by subst hi; rw [ho] at h; cases h
          rw [getElem?_set_ne _ _ _ _ hi]; exact h
      refine ⟨w', hrun, S, m, _, ⟨by simp [s.len], fun b' o v hv => ?_, by simpa [w'] using s.base, fun i x y hx' hy' => ?_, s.inj⟩, e, ⟨⟨rfl, rfl, rfl, by simp [w'], fun k hk => heap_putMap_ne _ (by omega)⟩⟩, h⟩
      · have hne : b' ≠ b := fun hh => by
          subst hh
          have := s.mem b' o v hv
          simp [World.cell?, h4] at this
        have := s.mem b' o v hv
        simp only [World.cell?] at this ⊢
        rw [heap_putMap_ne _ hne]
        exact this
      · by_cases hi : id = i
        · subst hi
          rw [h1] at hy'
          cases hy'
          rw [List.getElem?_set_self hid] at hx'
          cases hx'
          refine ⟨h3, _, _, heap_putMap _ hbs, by simp [h5.1], fun j k' c' e' hj he => ?_⟩
          have hlen : es.length = ents.size := by simpa using h5.1
          by_cases hjl : j < es.length
          · rw [List.getElem?_append_left hjl] at hj
            rw [Array.getElem?_push_lt (by omega)] at he
            obtain ⟨q1, q2⟩ := h5.2 j k' c' e' hj (by rw [Array.getElem?_toList, Array.getElem?_eq_getElem (by omega)]; exact he)
            exact ⟨q1, q2.ext e⟩
          · have hjj : j = es.length := by
              have := (List.getElem?_eq_some_iff.1 hj).1
              simp at this; omega
            subst hjj
            rw [hlen] at he
            rw [Array.getElem?_push_size] at he
            simp at hj
            obtain ⟨rfl, rfl⟩ := hj
            cases he
            exact ⟨rfl, VC.ext e hy⟩
        · rw [getElem?_set_ne _ _ _ _ hi] at hx'
          refine (s.obj i x y hx' hy').keep e fun b' c' hbc => ?_
          subst hbc
          have hne : b' ≠ b := fun hh => by subst hh; exact hi (s.inj id i b' cap c' h1 hy')
          exact ⟨heap_putMap_ne _ hne, fun k => rfl⟩
    · exact h.elim
  · exact h.elim
theorem good_makeMap (s : Sim S m H B w) {t : TypeId} (h : K (.c (.mp H.length)) (H ++ [.map []])) : Good P B S m H w (Instr.makeMap t none) K := by
  have e := Ext.push B S m H s.len (.map []) (.at_ w.heap.size 0)
  obtain ⟨s1, _⟩ := s.grow (S' := S) (w' := w.alloc (.map #[] 0)) (fun k hk => heap_alloc_old w _ hk) (by simp) (fun _ _ _ => rfl) (fun b o v hb hv => by have := s.newmem hb o; rw [this] at hv; cases hv)
  refine ⟨.map (some w.heap.size), w.alloc (.map #[] 0), rfl, S, _, _, .c (.mp H.length), s1.push (.map []) (.at_ w.heap.size 0) ⟨s.base, #[], 0, heap_alloc_new w _, rfl, fun i k c e hi => by simp at hi⟩ ?_, e, (Bel.refl B w).alloc s.base _, ⟨w.heap.size, 0, [], by simp, by rw [← s.len]; simp, rfl⟩, h⟩
  intro b c hbc i c'
  cases hbc
  exact s.noblock (Nat.le_refl _) i c'
end
end Go.Aw
