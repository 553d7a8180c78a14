import Derived.Test.YtnibihjlclelgaaAw21
import Derived.RangeFuncRecord
/-
  An abstract memory for walks, part 22: a range over a function: rounds, the statement, the function that holds it.
-/
set_option linter.unusedVariables false
set_option linter.unusedSimpArgs false
namespace Go.Aw
open Go.RowKit
section
variable {P : Program} {n k : Nat} {S : Mem} {m : List Loc} {H : List AObj} {B : Nat} {w : World}
/-! ### The record is turned -/
theorem Sim.memNot (s : Sim S m H B w) {b : Nat} {r : Obj} (hb : w.heap[b]? = some r) (hr : isCellsB r = false) (o : Nat) : S b o = none := by
  cases h : S b o with
  | none => rfl
  | some v =>
    have := s.mem b o v h
    simp only [World.cell?, hb] at this
    cases r <;> first | (cases hr; done) | exact absurd this (by simp)
theorem ObjOk.base {o : AObj} {b c : Nat} (h : ObjOk S m H B w o (.at_ b c)) : B ≤ b := by
  cases o with
  | var cs => exact h.1
  | arr T size frz es => exact h.2.2.2.1
  | dfr => exact h.1
  | loop L => exact h.1
  | map es => exact h.1
  | hole => exact h.elim
theorem below_putObj {b : Nat} (o : Obj) (hb : B ≤ b) : Bel B w (w.putObj b o) :=
  ⟨⟨rfl, rfl, rfl, by simp, fun k hk => World.putObj_heap_other (by omega)⟩⟩
theorem Sim.setLoop (s : Sim S m H B w) {id b c : Nat} {L : LoopA} (ho : H[id]? = some (.loop L)) (hl : m[id]? = some (.at_ b c)) {r : Loop} (hr : w.heap[b]? = some (.loop r)) (st : LoopState) (p : Option Code) :
    Sim S m (H.set id (.loop { L with st := st, pending := p })) B (w.putObj b (.loop { r with state := st, pending := p })) ∧ Ext B S m H S m (H.set id (.loop { L with st := st, pending := p })) := by
  have hid : id < H.length := (List.getElem?_eq_some_iff.1 ho).1
  have hb : b < w.heap.size := (Array.getElem?_eq_some_iff.1 hr).1
  have e : Ext B S m H S m (H.set id (.loop { L with st := st, pending := p })) := by
    refine ⟨Mem.le_refl S, fun _ _ _ => rfl, fun i x h hf => ⟨?_, fun _ h => h⟩, fun i T' size frz es l h h' => ⟨frz, es, l, ?_, h', Nat.le_refl _, fun _ => rfl⟩⟩
    · by_cases hi : id = i
      · subst hi
        rw [ho] at h; cases h
        exact ⟨.loop { L with st := st, pending := p }, by simp [hid], show LoopA.same _ _ from ⟨st, p, rfl⟩⟩
      · exact ⟨x, by rw [getElem?_set_ne _ _ _ _ hi]; exact h, Kin.refl hf⟩
    · have hi : id ≠ i := fun hi => by subst hi; rw [ho] at h; cases h
      rw [getElem?_set_ne _ _ _ _ hi]; exact h
  refine ⟨⟨by simp [s.len], fun b' o v h => ?_, by simpa using s.base, fun i x y hx hy => ?_, s.inj⟩, e⟩
  · have hne : b' ≠ b := fun hh => by subst hh; rw [s.memNot hr rfl o] at h; cases h
    have := s.mem b' o v h
    simp only [World.cell?] at this ⊢
    rw [World.putObj_heap_other hne]
    exact this
  · by_cases hi : id = i
    · subst hi
      rw [hl] at hy
      cases hy
      rw [List.getElem?_set_self hid] at hx
      cases hx
      obtain ⟨h1, fn, tmps, bd, h2, h5, h6⟩ := s.obj id _ _ ho hl
      rw [hr] at h2
      cases h2
      exact ⟨h1, fn, tmps, bd, World.putObj_heap_same hb, h5, fun d => (h6 d).ext e⟩
    · rw [getElem?_set_ne _ _ _ _ hi] at hx
      refine (s.obj i x y hx hy).keep e fun b' c' hbc => ?_
      subst hbc
      have hne : b' ≠ b := fun hh => by subst hh; exact hi (s.inj id i b' c c' hl hy)
      exact ⟨World.putObj_heap_other hne, fun k => rfl⟩
/-! ### A round -/
def putPs : List Nat → List AV → Slots → Slots
  | p :: ps, x :: xs, sl => putPs ps xs ((p, x) :: sl)
  | _, _, sl => sl
def noMark : AV → Prop
  | .mark _ => False
  | _ => True
theorem DefOk.none {ro : Option Nat} {x : AV} (h : noMark x) : DefOk ro m H [] x := by
  cases x <;> first | rfl | exact h.elim
theorem putPs_ok : ∀ {ps : List Nat} {xs : List AV} {vs : List Value} {sl : Slots} {tmps : Array Value}, VAs S m H xs vs → (∀ p ∈ ps, p < n) → tmps.size = n → (∀ d, VA S m H (getS sl d) (tmps.getD d undef)) →
    ((ps.zip vs).foldl (fun t (q : Tmp × Value) => t.setIfInBounds q.1 q.2) tmps).size = n ∧ ∀ d, VA S m H (getS (putPs ps xs sl) d) (((ps.zip vs).foldl (fun t (q : Tmp × Value) => t.setIfInBounds q.1 q.2) tmps).getD d undef)
  | [], _, _, _, _, _, _, hs, h => by simp only [putPs, List.zip_nil_left, List.foldl_nil]; exact ⟨hs, h⟩
  | p :: ps, [], [], _, _, _, _, hs, h => by simp only [putPs, List.zip_nil_right, List.foldl_nil]; exact ⟨hs, h⟩
  | p :: ps, [], v :: vs, _, _, hv, _, _, _ => by have := hv.1; simp at this
  | p :: ps, x :: xs, [], _, _, hv, _, _, _ => by have := hv.1; simp at this
  | p :: ps, x :: xs, v :: vs, sl, tmps, hv, hp, hs, h => by
    have hx : VA S m H x v := hv.2 0 x v rfl rfl
    have hv' : VAs S m H xs vs := ⟨by have := hv.1; simpa using this, fun i y u hy hu => hv.2 (i + 1) y u (by simpa using hy) (by simpa using hu)⟩
    have hpn := hp p (by simp)
    have := putPs_ok (ps := ps) (sl := (p, x) :: sl) (tmps := tmps.setIfInBounds p v) hv' (fun q hq => hp q (by simp [hq])) (by simp [hs]) (fun d => by
      simp only [getS]
      by_cases hd : d = p
      · subst hd
        rw [if_pos rfl]
        have e : (tmps.setIfInBounds d v).getD d undef = v := by simp [Array.getD_eq_getD_getElem?, hs, hpn]
        rw [e]; exact hx
      · rw [if_neg hd]
        have e : (tmps.setIfInBounds p v).getD d undef = tmps.getD d undef := by
          simp only [Array.getD_eq_getD_getElem?]
          rw [Array.getElem?_setIfInBounds_ne (Ne.symm hd)]
        rw [e]; exact h d)
    simp only [putPs, List.zip_cons_cons, List.foldl_cons]
    exact this
theorem putPs_def : ∀ {ps : List Nat} {xs : List AV} {sl : Slots}, (∀ p ∈ ps, p < n) → n ≤ DEF → getS (putPs ps xs sl) DEF = getS sl DEF
  | [], _, _, _, _ => by simp [putPs]
  | p :: ps, [], _, _, _ => by simp [putPs]
  | p :: ps, x :: xs, sl, hp, hn => by
    have hpn := hp p (by simp)
    have := putPs_def (ps := ps) (xs := xs) (sl := (p, x) :: sl) (fun q hq => hp q (by simp [hq])) hn
    simp only [putPs, this, getS]
    rw [if_neg (by omega)]
/-- How the body of a round is left. -/
def RoundQ (id : Nat) (K : AV → List AObj → Prop) : Exit → Slots → List AObj → Prop
  | .normal, _, H => ∃ L, H[id]? = some (.loop L) ∧ K (.c (.p (.bool true))) (H.set id (.loop { L with st := .ready, pending := none }))
  | .ret, _, H => ∃ L, H[id]? = some (.loop L) ∧ K (.c (.p (.bool false))) (H.set id (.loop { L with st := .done, pending := some .ret }))
  | .exit e, _, H => ∃ L, H[id]? = some (.loop L) ∧ K (.c (.p (.bool false))) (H.set id (.loop { L with st := .done, pending := some (.exit e) }))
  | .goto t, _, H => ∃ L, H[id]? = some (.loop L) ∧ K (.c (.p (.bool false))) (H.set id (.loop { L with st := .done, pending := some (.goto t) }))
  | _, _, _ => False
theorem YCall.of_AW {id : Nat} {args : List AV} {K : AV → List AObj → Prop} {L : LoopA} (hL : H[id]? = some (.loop L)) (hs : L.ps.size = args.length) (hn : L.n ≤ 1000000) (hp : ∀ p ∈ L.ps.toList, p < L.n) (hd : noMark (getS L.sl DEF))
    (h : AW P L.n H.length L.assign (AThen (fun sl1 H1 => ∃ L1, H1[id]? = some (.loop L1) ∧ L1.st = .ready ∧ AW P L.n H.length L.body (RoundQ id K) sl1 (H1.set id (.loop { L1 with st := .busy }))) (fun _ _ _ => False)) (putPs L.ps.toList args L.sl) H) :
    YCall P id args H K := by
  refine ⟨⟨L, hL, hs⟩, fun S m B w vs ro b cap R s hv hm hR => roundIn_of_wpIn trivial ?_⟩
  obtain ⟨g1, fn, tmps, bd, g2, g3, g4⟩ := s.obj id _ _ hL hm
  rw [hR] at g2
  cases g2
  let cx : Cx := ⟨B, S, m, H, w, some b⟩
  have hz : (L.ps.zip vs.toArray).foldl (fun tmps (t, x) => tmps.setIfInBounds t x) tmps = (L.ps.toList.zip vs).foldl (fun t (q : Tmp × Value) => t.setIfInBounds q.1 q.2) tmps := by
    rw [← Array.foldl_toList]; simp
  obtain ⟨q1, q2⟩ := putPs_ok (S := S) (m := m) (H := H) (ps := L.ps.toList) (sl := L.sl) hv hp g3 g4
  have hin : InSt cx L.n (putPs L.ps.toList args L.sl) H { tmps := (L.ps.zip vs.toArray).foldl (fun tmps (t, x) => tmps.setIfInBounds t x) tmps, defers := [] } w := by
    refine ⟨S, m, s, Ext.refl B S m H, Bel.refl B w, ?_, hn, ?_, fun d => ?_⟩
    · exact DefOk.none (by rw [putPs_def hp hn]; exact hd)
    · show Array.size _ = _
      rw [hz]; exact q1
    · show VA _ _ _ _ (Array.getD _ _ _)
      rw [hz]; exact q2 d
  refine wpIn_mono (h cx rfl _ w hin) ?_
  rintro e a1 w1 ⟨sl1, H1, ⟨S1, m1, s1, e1, b1, r1⟩, hq⟩
  cases e with
  | normal =>
    obtain ⟨L1, hL1, hst, hbody⟩ := hq
    obtain ⟨⟨L', k1, _⟩, k3⟩ := e1.loop id L hL
    rw [hL1] at k1; cases k1
    have hm1 := k3 _ hm
    obtain ⟨f1, fn1, tmps1, bd1, f2, f3, f4⟩ := s1.obj id _ _ hL1 hm1
    refine ⟨_, run_beginRound f2 hst, ?_⟩
    obtain ⟨s2, e2⟩ := s1.setLoop hL1 hm1 f2 .busy L1.pending
    have hin2 : InSt cx L.n sl1 (H1.set id (.loop { L1 with st := .busy })) a1 (w1.putObj b (.loop { ({ state := L1.st, pending := L1.pending, fn := fn1, tmps := tmps1, params := L1.ps, assign := L1.assign, body := L1.body, defers := bd1 } : Loop) with state := .busy })) :=
      ⟨S1, m1, s2, e1.trans e2, b1.trans (below_putObj _ f1), r1.ext e2⟩
    refine wpIn_mono (hbody cx rfl a1 _ hin2) ?_
    rintro e a2 w2 ⟨sl2, H2, ⟨S2, m2, s3, e3, b3, r3⟩, hq⟩
    have fin : ∀ (jump : Option Code), (∃ L, H2[id]? = some (.loop L) ∧ K (.c (.p (.bool jump.isNone))) (H2.set id (.loop { L with st := if jump.isNone then .ready else .done, pending := jump }))) →
        ∃ v w', (Instr.endRound b jump).run P w2 = .ok v w' ∧ ∃ v', Ending.returned v = .returned v' ∧ Post B S m H w K v' w' := by
      rintro jump ⟨L2, hL2, hk⟩
      obtain ⟨_, k4⟩ := e3.loop id L hL
      have hm2 := k4 _ hm
      obtain ⟨p1, fn2, tmps2, bd2, p2, p3, p4⟩ := s3.obj id _ _ hL2 hm2
      obtain ⟨s4, e4⟩ := s3.setLoop hL2 hm2 p2 (if jump.isNone then .ready else .done) jump
      exact ⟨_, _, run_endRound jump p2, _, rfl, S2, m2, _, .c (.p (.bool jump.isNone)), s4, e3.trans e4, b3.trans (below_putObj _ p1), .bool _, hk⟩
    cases e with
    | normal => exact fin none hq
    | ret => exact fin (some .ret) hq
    | exit i => exact fin (some (.exit i)) hq
    | goto t => exact fin (some (.goto t)) hq
    | panic c => exact hq.elim
    | outgrown => exact hq.elim
  | _ => exact hq.elim
/-! ### The statement -/
/-- On behind the loop. -/
def rangeThen (P : Program) (n k : Nat) (Q : Exit → Slots → List AObj → Prop) (sl : Slots) (id : Nat) (H : List AObj) : Prop :=
  ∃ L, H[id]? = some (.loop L) ∧ L.st ≠ .busy ∧ match L.pending with
    | none => Q .normal sl (H.set id (.loop { L with st := .exhausted }))
    | some c => AW P n k c Q sl (H.set id (.loop { L with st := .exhausted }))
theorem Sim.pushDfr (s : Sim S m H B w) : Sim S (m ++ [.at_ w.heap.size 0]) (H ++ [.dfr]) B (w.alloc (.deferred (some []))) ∧ Ext B S m H S (m ++ [.at_ w.heap.size 0]) (H ++ [.dfr]) := by
  have e := Ext.push B S m H s.len .dfr (.at_ w.heap.size 0)
  obtain ⟨s1, _⟩ := s.grow (S' := S) (w' := w.alloc (.deferred (some []))) (fun k hk => heap_alloc_old w _ hk) (by simp) (fun _ _ _ => rfl) (fun b o v hb hv => by have := s.newmem hb o; rw [this] at hv; cases hv)
  refine ⟨s1.push _ _ ⟨s.base, heap_alloc_new w _⟩ ?_, e⟩
  intro b c hbc i c'
  cases hbc
  exact s.noblock (Nat.le_refl _) i c'
theorem Sim.pushLoop (s : Sim S m H B w) {L : LoopA} {fn : Nat} {tmps : Array Value} {bd : Nat} (hz : tmps.size = L.n) (hsl : ∀ d, VA S m H (getS L.sl d) (tmps.getD d undef)) :
    Sim S (m ++ [.at_ w.heap.size 0]) (H ++ [.loop L]) B (w.alloc (.loop { state := L.st, pending := L.pending, fn := fn, tmps := tmps, params := L.ps, assign := L.assign, body := L.body, defers := bd })) ∧
      Ext B S m H S (m ++ [.at_ w.heap.size 0]) (H ++ [.loop L]) := by
  have e := Ext.push B S m H s.len (.loop L) (.at_ w.heap.size 0)
  obtain ⟨s1, _⟩ := s.grow (S' := S) (w' := w.alloc (.loop { state := L.st, pending := L.pending, fn := fn, tmps := tmps, params := L.ps, assign := L.assign, body := L.body, defers := bd })) (fun k hk => heap_alloc_old w _ hk) (by simp) (fun _ _ _ => rfl)
    (fun b o v hb hv => by have := s.newmem hb o; rw [this] at hv; cases hv)
  refine ⟨s1.push _ _ ⟨s.base, fn, tmps, bd, heap_alloc_new w _, hz, fun d => (hsl d).ext e⟩ ?_, e⟩
  intro b c hbc i c'
  cases hbc
  exact s.noblock (Nat.le_refl _) i c'
/-- What a function value leads to: which function, behind and ahead of the arguments what. -/
def cloOf : AV → Option (Nat × List AV × List AV)
  | .c (.p (.fn f)) => some (f, [], [])
  | .c (.clo f first caps) => some (f, first.map (fun x => .c (.p x)), caps.map capAV)
  | _ => none
theorem cloOf_ok {x : AV} {v : Value} {f : Nat} {xs ys : List AV} (h : cloOf x = some (f, xs, ys)) (hv : VA S m H x v) : ∃ us vs : List Value, v = .func (.func f) us.toArray vs.toArray ∧ VAs S m H xs us ∧ VAs S m H ys vs := by
  unfold cloOf at h
  split at h
  · cases h
    refine ⟨[], [], ?_, ⟨rfl, fun i x v h => by simp at h⟩, ⟨rfl, fun i x v h => by simp at h⟩⟩
    cases hv; rfl
  · cases h
    obtain ⟨fs, cs, hf', hfs, hcl, hcs⟩ := hv
    exact ⟨fs, cs, hf', hfs.VAs, caps_VAs ⟨hcl, hcs⟩⟩
  · cases h
variable {sl : Slots} {Q : Exit → Slots → List AObj → Prop}
/-- The blocks of deferred calls, with one more. -/
def moreM : AV → Nat → AV
  | .mark none, id => .mark (some [id])
  | .mark (some ids), id => .mark (some (id :: ids))
  | _, _ => .any
def isM : AV → Prop
  | .mark _ => True
  | _ => False
theorem AW.rangeFunc {g : Operand} {ps : Array Tmp} {assign body : Code} {f : Nat} {xs ys : List AV} (hd : isM (getS sl DEF)) (hg : cloOf (ev sl g) = some (f, xs, ys))
    (h : ACall P f (xs ++ [.c (.yld (H.length + 1))] ++ ys) (H ++ [.dfr, .loop { sl := (DEF, .any) :: sl, n := n, ps := ps, assign := assign, body := body, st := .ready, pending := none }])
      (fun _ H3 => rangeThen P n k Q ((DEF, moreM (getS sl DEF) H.length) :: sl) (H.length + 1) H3)) :
    AW P n k (.rangeFunc g ps assign body) Q sl H := by
  rintro cx hk a w ⟨S, m, s, e, b, r⟩
  have hdef := r.defers
  obtain ⟨hro, ids, hmo, hids, hds⟩ : cx.ro = none ∧ ∃ ids, moreM (getS sl DEF) H.length = .mark (some (H.length :: ids)) ∧ (∀ i ∈ ids, i < H.length) ∧ MarksOk m H ids a.defers := by
    generalize getS sl DEF = y at hd hdef
    match y, hd, hdef with
    | .mark none, _, ⟨h1, h2⟩ => exact ⟨h1, [], rfl, fun i hi => by simp at hi, h2⟩
    | .mark (some ids), _, ⟨h1, h2⟩ => exact ⟨h1, ids, rfl, h2.lt, h2⟩
  refine wpIn_rangeFunc fun fn _ => ?_
  have hrun := run_enterLoop_outer (P := P) (w := w) fn a.tmps ps assign body
  rw [show (FR cx.ro).round = none from hro]
  have hg0 := r.eval g
  obtain ⟨s1, e1⟩ := s.pushDfr
  obtain ⟨s2, e2⟩ := s1.pushLoop (L := { sl := (DEF, .any) :: sl, n := n, ps := ps, assign := assign, body := body, st := .ready, pending := none }) (fn := fn) (tmps := a.tmps) (bd := w.heap.size) r.size (fun d => by
    show VA _ _ _ (if d = DEF then .any else getS sl d) _
    split
    · trivial
    · exact (r.slot d).ext e1)
  have hH : H ++ [AObj.dfr] ++ [AObj.loop { sl := (DEF, .any) :: sl, n := n, ps := ps, assign := assign, body := body, st := .ready, pending := none }] = H ++ [AObj.dfr, .loop { sl := (DEF, .any) :: sl, n := n, ps := ps, assign := assign, body := body, st := .ready, pending := none }] := by simp
  rw [hH] at s2 e2
  obtain ⟨us, vs, hfv, hus, hvs⟩ := cloOf_ok hg hg0
  have e12 := e1.trans e2
  have hlen : (m ++ [Loc.at_ w.heap.size 0]).length = H.length + 1 := by simp [s.len]
  have hyv : VA S (m ++ [Loc.at_ w.heap.size 0] ++ [Loc.at_ (w.alloc (.deferred (some []))).heap.size 0]) (H ++ [AObj.dfr, .loop { sl := (DEF, .any) :: sl, n := n, ps := ps, assign := assign, body := body, st := .ready, pending := none }]) (.c (.yld (H.length + 1))) (.func (.yield (w.heap.size + 1)) #[] #[]) :=
    ⟨w.heap.size + 1, 0, _, by rw [List.getElem?_append_right (by omega)]; simp; rfl, by rw [List.getElem?_append_right (by omega), hlen]; simp, rfl⟩
  have hargs := VAs.append (VAs.append (hus.ext e12) (show VAs _ _ _ [AV.c (.yld (H.length + 1))] [Value.func (.yield (w.heap.size + 1)) #[] #[]] from ⟨rfl, fun i x v hx hv => by
    cases i with
    | zero => simp at hx hv; subst hx; subst hv; exact hyv
    | succ i => simp at hx⟩)) (hvs.ext e12)
  have hres : ∀ w' : World, (resolve a.eval (rangeCall g (w.heap.size + 1)) 0).run P w' = .ok { target := .fn (.func f) vs.toArray, args := us.toArray ++ #[Value.func (.yield (w.heap.size + 1)) #[] #[]] } w' := by
    intro w'
    unfold resolve rangeCall
    simp only [List.map_toArray, List.map_cons, List.map_nil]
    rw [hfv]; rfl
  have hinv := h.1 (us.toArray ++ #[Value.func (.yield (w.heap.size + 1)) #[] #[]] ++ vs.toArray)
  have ha : (us ++ [Value.func (.yield (w.heap.size + 1)) #[] #[]] ++ vs).toArray = us.toArray ++ #[Value.func (.yield (w.heap.size + 1)) #[] #[]] ++ vs.toArray := by apply Array.ext'; simp
  refine ⟨w.heap.size + 1, _, _, { target := .fn (.func f) vs.toArray, args := us.toArray ++ #[Value.func (.yield (w.heap.size + 1)) #[] #[]] }, _, f, (us ++ [Value.func (.yield (w.heap.size + 1)) #[] #[]] ++ vs).toArray,
    (w.alloc (.deferred (some []))).alloc (.loop { state := .ready, pending := none, fn, tmps := a.tmps, params := ps, assign, body, defers := w.heap.size }), hrun, hres _, fun _ _ => trivial, by rw [ha]; exact hinv _, fun h => (by cases h), ?_⟩
  · refine CallsIn.mono (CallsIn.ofCalls (h.2 _ _ cx.B _ _ s2 hargs)) ?_
    rintro en w3 ⟨v, rfl, S3, m3, H3, x, s3, e3, b3, hx, L, hL, hst, hq⟩
    have eL := (e3.trans (Ext.refl cx.B S3 m3 H3)).loop (H.length + 1) _ (by rw [List.getElem?_append_right (by omega)]; simp; rfl)
    have hm3 := eL.2 (.at_ (w.alloc (.deferred (some []))).heap.size 0) (by rw [List.getElem?_append_right (by omega), hlen]; simp)
    obtain ⟨⟨o', hD, hK⟩, hmD⟩ := e3.fix H.length .dfr (by rw [List.getElem?_append_right (by omega)]; simp) trivial
    have hmD := hmD (.at_ w.heap.size 0) (by rw [List.getElem?_append_left (by omega), List.getElem?_append_right (by rw [s.len]; omega), s.len]; simp)
    have hdd : o' = .dfr := by cases o' <;> first | rfl | exact hK.elim
    subst hdd
    obtain ⟨f1, fn1, tmps1, bd1, f2, f3, f4⟩ := s3.obj _ _ _ hL hm3
    have hsz : (w.alloc (.deferred (some []))).heap.size = w.heap.size + 1 := by simp
    rw [hsz] at f2 f1 hm3
    refine ⟨L.pending, _, run_endLoop f2 hst, ?_⟩
    obtain ⟨s4, e4⟩ := s3.setLoop hL hm3 f2 .exhausted L.pending
    have eAll := e12.trans (e3.trans e4)
    have hbel : Bel cx.B cx.w0 (w3.putObj (w.heap.size + 1) (.loop { ({ state := L.st, pending := L.pending, fn := fn1, tmps := tmps1, params := L.ps, assign := L.assign, body := L.body, defers := bd1 } : Loop) with state := .exhausted })) :=
      (((b.alloc s.base _).alloc (Nat.le_trans s.base (by simp)) _).trans b3).trans (below_putObj _ f1)
    have hin : InSt cx n ((DEF, moreM (getS sl DEF) H.length) :: sl) (H3.set (H.length + 1) (.loop { L with st := .exhausted })) { a with defers := [{ target := .collected w.heap.size, args := #[] }] ++ a.defers }
        (w3.putObj (w.heap.size + 1) (.loop { ({ state := L.st, pending := L.pending, fn := fn1, tmps := tmps1, params := L.ps, assign := L.assign, body := L.body, defers := bd1 } : Loop) with state := .exhausted })) := by
      refine ⟨S3, m3, s4, e.trans eAll, hbel, ?_, r.big, r.size, fun d => ?_⟩
      · show DefOk _ _ _ _ (if DEF = DEF then _ else _)
        rw [if_pos rfl]
        rw [hmo]
        have hnot : H.length ∉ ids := fun hh => by have := hids _ hh; omega
        refine ⟨hro, hnot, w.heap.size, 0, a.defers, hmD, ?_, rfl, ?_⟩
        · rw [getElem?_set_ne _ _ _ _ (by omega)]; exact hD
        · have hM : DefOk cx.ro m H a.defers (.mark (some ids)) := ⟨hro, hds⟩
          exact (hM.ext eAll).2
      · show VA _ _ _ (if d = DEF then _ else _) _
        split
        · rw [hmo]; trivial
        · exact (r.slot d).ext eAll
    cases hp : L.pending with
    | none =>
      rw [hp] at hq
      rw [hp] at hin
      exact ⟨_, _, hin, hq⟩
    | some c =>
      rw [hp] at hq
      rw [hp] at hin
      exact hq cx hk _ _ hin
theorem AW.rangeFuncL {g : Operand} {ps : Array Tmp} {assign body : Code} {f : Nat} {xs ys : List AV} (hd : isM (getS sl DEF)) (hg : cloOf (ev sl g) = some (f, xs, ys))
    (h : ∀ L : LoopA, L = { sl := (DEF, .any) :: sl, n := n, ps := ps, assign := assign, body := body, st := .ready, pending := none } → ACall P f (xs ++ [.c (.yld (H.length + 1))] ++ ys) (H ++ [.dfr, .loop L])
      (fun _ H3 => rangeThen P n k Q ((DEF, moreM (getS sl DEF) H.length) :: sl) (H.length + 1) H3)) :
    AW P n k (.rangeFunc g ps assign body) Q sl H := AW.rangeFunc hd hg (h _ rfl)
end
end Go.Aw

/-
  An abstract memory for walks, part 23: the return of a function that held a range over a function.
-/
set_option linter.unusedVariables false
set_option linter.unusedSimpArgs false
namespace Go.Aw
open Go.RowKit
section
variable {P : Program} {n k : Nat} {S : Mem} {m : List Loc} {H : List AObj} {B : Nat} {w : World} {id : Nat}
/-- What stands for a block that is shut. -/
abbrev deadO : AObj := .arr 0 1 0 []
theorem VC.kill (hd : H[id]? = some .dfr) {c : Cell} {v : Value} (h : VC S m H c v) : VC S (m.set id (.nil none)) (H.set id deadO) c v := by
  have ne : ∀ {i : Nat} {o : AObj}, H[i]? = some o → o ≠ .dfr → id ≠ i := fun {i o} hi ho e => by subst e; rw [hd] at hi; cases hi; exact ho rfl
  cases c with
  | p x => exact h
  | own i n =>
    obtain ⟨T, size, frz, es, l, h1, h2, h3⟩ := h
    have := ne h1 (fun e => by cases e)
    exact ⟨T, size, frz, es, l, by rw [getElem?_set_ne _ _ _ _ this]; exact h1, by rw [getElem?_set_ne _ _ _ _ this]; exact h2, h3⟩
  | ptr i off =>
    obtain ⟨b, cap, cs, h1, h2, h3⟩ := h
    have := ne h1 (fun e => by cases e)
    exact ⟨b, cap, cs, by rw [getElem?_set_ne _ _ _ _ this]; exact h1, by rw [getElem?_set_ne _ _ _ _ this]; exact h2, h3⟩
  | ep i n j off =>
    obtain ⟨T, size, frz, es, l, h1, h2, h3⟩ := h
    have := ne h1 (fun e => by cases e)
    exact ⟨T, size, frz, es, l, by rw [getElem?_set_ne _ _ _ _ this]; exact h1, by rw [getElem?_set_ne _ _ _ _ this]; exact h2, h3⟩
  | pp cells => exact h
  | clo f first caps =>
    obtain ⟨fs, cs, h1, h2, h3, h4⟩ := h
    refine ⟨fs, cs, h1, h2, h3, fun i q u hq hu => ?_⟩
    obtain ⟨b, cap, ds, k1, k2, k3⟩ := h4 i q u hq hu
    have := ne k1 (fun e => by cases e)
    exact ⟨b, cap, ds, by rw [getElem?_set_ne _ _ _ _ this]; exact k1, by rw [getElem?_set_ne _ _ _ _ this]; exact k2, k3⟩
  | yld i =>
    obtain ⟨b, cap, L, h1, h2, h3⟩ := h
    have := ne h1 (fun e => by cases e)
    exact ⟨b, cap, L, by rw [getElem?_set_ne _ _ _ _ this]; exact h1, by rw [getElem?_set_ne _ _ _ _ this]; exact h2, h3⟩
  | room i n =>
    obtain ⟨T, size, frz, es, l, h1, h2, h3⟩ := h
    have := ne h1 (fun e => by cases e)
    exact ⟨T, size, frz, es, l, by rw [getElem?_set_ne _ _ _ _ this]; exact h1, by rw [getElem?_set_ne _ _ _ _ this]; exact h2, h3⟩
  | mp i =>
    obtain ⟨b, cap, es, h1, h2, h3⟩ := h
    have := ne h1 (fun e => by cases e)
    exact ⟨b, cap, es, by rw [getElem?_set_ne _ _ _ _ this]; exact h1, by rw [getElem?_set_ne _ _ _ _ this]; exact h2, h3⟩
  | vs i n =>
    obtain ⟨b, cap, es, h1, h2, h3⟩ := h
    have := ne h1 (fun e => by cases e)
    exact ⟨b, cap, es, by rw [getElem?_set_ne _ _ _ _ this]; exact h1, by rw [getElem?_set_ne _ _ _ _ this]; exact h2, h3⟩
  | tl i k n xs =>
    obtain ⟨T, size, frz, es, l, h1, h2, h3⟩ := h
    have := ne h1 (fun e => by cases e)
    exact ⟨T, size, frz, es, l, by rw [getElem?_set_ne _ _ _ _ this]; exact h1, by rw [getElem?_set_ne _ _ _ _ this]; exact h2, h3⟩
theorem VCs.kill (hd : H[id]? = some .dfr) {cs : List Cell} {vs : List Value} (h : VCs S m H cs vs) : VCs S (m.set id (.nil none)) (H.set id deadO) cs vs :=
  ⟨h.1, fun i c v a b => (h.2 i c v a b).kill hd⟩
theorem VB.kill (hd : H[id]? = some .dfr) {b : Bool × List Cell} {v : Value} (h : VB S m H b v) : VB S (m.set id (.nil none)) (H.set id deadO) b v := by
  obtain ⟨a, cs⟩ := b
  cases a with
  | false => obtain ⟨c, h1, h2⟩ := h; exact ⟨c, h1, h2.kill hd⟩
  | true => obtain ⟨vs, h1, h2⟩ := h; exact ⟨vs, h1, h2.kill hd⟩
theorem VA.kill (hd : H[id]? = some .dfr) {x : AV} {v : Value} (h : VA S m H x v) : VA S (m.set id (.nil none)) (H.set id deadO) x v := by
  cases x with
  | any => trivial
  | c x => exact VC.kill hd h
  | agg cs => obtain ⟨vs, h1, h2⟩ := h; exact ⟨vs, h1, h2.kill hd⟩
  | tup bs => obtain ⟨vs, h1, h2, h3⟩ := h; exact ⟨vs, h1, h2, fun i b u hb hu => (h3 i b u hb hu).kill hd⟩
  | mark o => trivial
theorem Sim.kill (s : Sim S m H B w) (hd : H[id]? = some .dfr) {b c : Nat} (hm : m[id]? = some (.at_ b c)) {w' : World} (hsz : w'.heap.size = w.heap.size) (hother : ∀ k, k ≠ b → w'.heap[k]? = w.heap[k]?) :
    Sim S (m.set id (.nil none)) (H.set id deadO) B w' := by
  have hid : id < H.length := (List.getElem?_eq_some_iff.1 hd).1
  have hidm : id < m.length := (List.getElem?_eq_some_iff.1 hm).1
  have hO := s.obj id _ _ hd hm
  refine ⟨by simp [s.len], fun b' o v h => ?_, by rw [hsz]; exact s.base, fun i x y hx hy => ?_, fun i j b' c' d' hi hj => ?_⟩
  · have hne : b' ≠ b := fun hh => by subst hh; rw [s.memNot hO.2 rfl o] at h; cases h
    have := s.mem b' o v h
    simp only [World.cell?] at this ⊢
    rw [hother b' hne]
    exact this
  · by_cases hi : id = i
    · subst hi
      rw [List.getElem?_set_self hid] at hx
      rw [List.getElem?_set_self hidm] at hy
      cases hx; cases hy
      exact ⟨by omega, rfl, rfl⟩
    · rw [getElem?_set_ne _ _ _ _ hi] at hx hy
      have hx' := s.obj i x y hx hy
      have hb : ∀ b' c', y = .at_ b' c' → b' ≠ b := fun b' c' e hh => by subst e; subst hh; exact hi (s.inj id i b' c c' hm hy)
      cases x with
      | var cs =>
        cases y with
        | nil A => exact hx'
        | at_ b' c' =>
          obtain ⟨h1, h2, cur, T, h3, h4⟩ := hx'
          exact ⟨h1, h2, cur, T, by rw [hother b' (hb _ _ rfl)]; exact h3, h4.kill hd⟩
      | arr T size frz es =>
        cases y with
        | nil A => exact hx'
        | at_ b' c' =>
          obtain ⟨h1, h2, h3, h4, h5, h6, h7, cur, h8, h9⟩ := hx'
          exact ⟨h1, h2, h3, h4, h5, h6, h7, cur, h8.of (hother b' (hb _ _ rfl)), h9⟩
      | dfr =>
        cases y with
        | nil A => exact hx'
        | at_ b' c' => exact ⟨hx'.1, by rw [hother b' (hb _ _ rfl)]; exact hx'.2⟩
      | loop L =>
        cases y with
        | nil A => exact hx'
        | at_ b' c' =>
          obtain ⟨h1, fn, tmps, bd, h2, h5, h6⟩ := hx'
          exact ⟨h1, fn, tmps, bd, by rw [hother b' (hb _ _ rfl)]; exact h2, h5, fun d => (h6 d).kill hd⟩
      | map es =>
        cases y with
        | nil A => exact hx'
        | at_ b' c' =>
          obtain ⟨h1, ents, clock, h2, h3, h4⟩ := hx'
          exact ⟨h1, ents, clock, by rw [hother b' (hb _ _ rfl)]; exact h2, h3, fun i k c e' hi' he => ⟨(h4 i k c e' hi' he).1, (h4 i k c e' hi' he).2.kill hd⟩⟩
      | hole => cases y <;> exact hx'
  · by_cases h1 : id = i
    · subst h1
      rw [List.getElem?_set_self hidm] at hi
      cases hi
    · rw [getElem?_set_ne _ _ _ _ h1] at hi
      by_cases h2 : id = j
      · subst h2
        rw [List.getElem?_set_self hidm] at hj
        cases hj
      · rw [getElem?_set_ne _ _ _ _ h2] at hj
        exact s.inj i j b' c' d' hi hj
theorem Ext.kill {S0 : Mem} {m0 : List Loc} {H0 : List AObj} (e : Ext B S0 m0 H0 S m H) (hl : m0.length = H0.length) (hk : H0.length ≤ id) : Ext B S0 m0 H0 S (m.set id (.nil none)) (H.set id deadO) := by
  refine ⟨e.mem, e.old, fun i o h hf => ?_, fun i T size frz es l h h' => ?_⟩
  · have hlt : i < H0.length := (List.getElem?_eq_some_iff.1 h).1
    obtain ⟨⟨o', a, a'⟩, b⟩ := e.fix i o h hf
    exact ⟨⟨o', by rw [getElem?_set_ne _ _ _ _ (by omega)]; exact a, a'⟩, fun l hl => by rw [getElem?_set_ne _ _ _ _ (by omega)]; exact b l hl⟩
  · have hlt : i < H0.length := (List.getElem?_eq_some_iff.1 h).1
    obtain ⟨f', es', l', a, b, c, d⟩ := e.arr i T size frz es l h h'
    exact ⟨f', es', l', by rw [getElem?_set_ne _ _ _ _ (by omega)]; exact a, by rw [getElem?_set_ne _ _ _ _ (by omega)]; exact b, c, d⟩
def killAll : List Nat → List AObj → List AObj
  | [], H => H
  | id :: r, H => killAll r (H.set id deadO)
/-- The return, where blocks of deferred calls may be held. -/
def aPostM (P : Program) (fn : Func) (k : Nat) (K : AV → List AObj → Prop) : Exit → Slots → List AObj → Prop
  | .normal, sl, H | .ret, sl, H => match getS sl DEF with
    | .mark (some ids) => (∀ id ∈ ids, k ≤ id) ∧ aRet P fn ((DEF, .mark none) :: sl) (killAll ids H) fun x => K x (killAll ids H)
    | _ => aRet P fn sl H fun x => K x H
  | _, _, _ => False
theorem ACall.of_AWm {f : FuncId} {fn : Func} {c : Code} {args : List AV} {K : AV → List AObj → Prop} (he : Enters P f) (hf : P.funcs[f]? = some fn) (hb : fn.body = some c) (hn : args.length ≤ fn.ntmps ∧ fn.ntmps ≤ 1000000)
    (h : AW P fn.ntmps H.length c (aPostM P fn H.length K) ((DEF, .mark none) :: argSlots args) H) : ACall P f args H K := by
  refine ⟨he, fun S m B w vs s hv => callsIn_wide.1 (callsIn_of_wp_marks (F := Fence.wide) (n := 0) hf hb trivial ?_ rfl)⟩
  let cx : Cx := ⟨B, S, m, H, w, none⟩
  have hin : InSt cx fn.ntmps ((DEF, .mark none) :: argSlots args) H { tmps := vs.toArray ++ Array.replicate (fn.ntmps - vs.toArray.size) undef, defers := [] } w := by
    refine ⟨S, m, s, Ext.refl B S m H, Bel.refl B w, ?_, hn.2, ?_, fun d => ?_⟩
    · show DefOk _ _ _ _ (if DEF = DEF then _ else _)
      rw [if_pos rfl]; exact ⟨rfl, rfl⟩
    · have := hv.1
      have := hn.1
      simp; omega
    · show VA _ _ _ (if d = DEF then _ else _) _
      split
      · trivial
      unfold argSlots
      rw [getS_args 0 d, if_pos (Nat.zero_le _), Nat.sub_zero]
      by_cases hd : d < args.length
      · have hdv : d < vs.length := by rw [← hv.1]; exact hd
        have e1 : args.getD d .any = args[d] := by simp [List.getD_eq_getElem?_getD, hd]
        have e2 : (vs.toArray ++ Array.replicate (fn.ntmps - vs.toArray.size) undef).getD d undef = vs[d] := by
          rw [Array.getD_eq_getD_getElem?, Array.getElem?_append_left (by simpa using hdv)]
          simp [hdv]
        rw [e1, e2]
        exact hv.2 d _ _ (List.getElem?_eq_getElem hd) (List.getElem?_eq_getElem hdv)
      · have e1 : args.getD d .any = .any := by simp [List.getD_eq_getElem?_getD, List.getElem?_eq_none (show args.length ≤ d by omega)]
        rw [e1]; trivial
  refine wpIn_mono (h cx rfl _ w hin) ?_
  rintro e a' w' ⟨sl', H', ⟨S', m', s', e', b', r'⟩, hq⟩
  have key : ∀ (ids : List Nat) (m1 : List Loc) (H1 : List AObj) (w1 : World) (ds : List Deferred), Sim S' m1 H1 B w1 → Ext B S m H S' m1 H1 → Bel B w w1 → (∀ d, VA S' m1 H1 (getS ((DEF, .mark none) :: sl') d) (a'.tmps.getD d undef)) → MarksOk m1 H1 ids ds →
      (∀ id ∈ ids, H.length ≤ id) → aRet P fn ((DEF, .mark none) :: sl') (killAll ids H1) (fun x => K x (killAll ids H1)) → LeavesInM Fence.wide 0 P fn a'.tmps (fun e w' => ∃ v, e = .returned v ∧ Post B S m H w K v w') ds .returning w1 := by
    intro ids
    induction ids with
    | nil =>
      intro m1 H1 w1 ds s1 e1 b1 hv hm hk hq
      obtain rfl : ds = [] := hm
      have r2 : ARel none S' m1 H1 fn.ntmps ((DEF, .mark none) :: sl') { a' with defers := [] } := by
        refine ⟨?_, r'.big, r'.size, hv⟩
        show DefOk _ _ _ _ (if DEF = DEF then _ else _)
        rw [if_pos rfl]; exact ⟨rfl, rfl⟩
      obtain ⟨_, v, x, h1, h2, h3⟩ := aRet_ok s1 r2 hq
      exact ⟨v, h1, v, rfl, S', m1, H1, x, s1, e1, b1, h2, h3⟩
    | cons id r ih =>
      intro m1 H1 w1 ds s1 e1 b1 hv hm hk hq
      obtain ⟨hn, b, c, ds', hm1, hD, rfl, hr⟩ := hm
      have hO := s1.obj id _ _ hD hm1
      have hbk : b < w1.heap.size := (Array.getElem?_eq_some_iff.1 hO.2).1
      have s2 := s1.kill hD hm1 (w' := w1.putObj b (.deferred none)) (by simp) (fun k hk => World.putObj_heap_other hk)
      have hr2 : MarksOk (m1.set id (.nil none)) (H1.set id deadO) r ds' := hr.mono fun i hi h3 => by
        have hne : id ≠ i := fun hh => by subst hh; exact hn hi
        exact ⟨by rw [getElem?_set_ne _ _ _ _ hne]; exact h3, fun b c h => by rw [getElem?_set_ne _ _ _ _ hne]; exact h⟩
      have := ih (m1.set id (.nil none)) (H1.set id deadO) (w1.putObj b (.deferred none)) ds' s2 (e1.kill s.len (hk id (by simp))) (b1.trans (below_putObj _ hO.1)) (fun d => (hv d).kill hD) hr2 (fun i hi => hk i (by simp [hi])) hq
      exact ⟨(by intro h; cases h), .inl ⟨b, _, rfl, run_takeDeferred hO.2, this⟩⟩
  have fin : (match getS sl' DEF with
      | .mark (some ids) => (∀ id ∈ ids, H.length ≤ id) ∧ aRet P fn ((DEF, .mark none) :: sl') (killAll ids H') fun x => K x (killAll ids H')
      | _ => aRet P fn sl' H' fun x => K x H') → LeavesInM Fence.wide 0 P fn a'.tmps (fun e w' => ∃ v, e = .returned v ∧ Post B S m H w K v w') a'.defers .returning w' := fun hq => by
    have hdf := r'.defers
    split at hq
    · rename_i ids hde
      rw [hde] at hdf
      obtain ⟨_, hds⟩ := hdf
      obtain ⟨hk, hq⟩ := hq
      refine key ids m' H' w' _ s' e' b' (fun d => ?_) hds hk hq
      show VA _ _ _ (if d = DEF then _ else _) _
      split
      · trivial
      · exact r'.slot d
    · obtain ⟨hd, v, x, h1, h2, h3⟩ := aRet_ok s' r' hq
      rw [hd]
      exact ⟨v, h1, v, rfl, S', m', H', x, s', e', b', h2, h3⟩
  cases e with
  | normal => exact fin hq
  | ret => exact fin hq
  | _ => exact hq.elim
end
attribute [go_sem] aRet aPostM rangeThen putPs cloOf RoundQ noMark moreM isM killAll
end Go.Aw

/-
  An abstract memory for walks, part 24: a guard that is not known: both ways.
-/
set_option linter.unusedVariables false
set_option linter.unusedSimpArgs false
namespace Go.Aw
section
variable {P : Program} {n k : Nat} {sl : Slots} {H : List AObj} {ow : Bool} {ops : Array Oper} {o : Oper} {l : List Oper} {K : Slots → List AObj → Prop} {j d : Nat} {want b : Bool}
theorem aops_g (hg : o.guard = some (j, want)) (hd : (ops[j]?).bind (·.dst) = some d) (hb : getS sl d = .c (.p (.bool b))) (h1 : b = true → aops P ow n ops (o :: l) sl H K) (h2 : b = false → aops P ow n ops (o :: l) sl H K) : aops P ow n ops (o :: l) sl H K := by
  cases b with
  | true => exact h1 rfl
  | false => exact h2 rfl
theorem dOps_g {tab : List Row} (hg : o.guard = some (j, want)) (hd : (ops[j]?).bind (·.dst) = some d) (hb : getS sl d = .c (.p (.bool b))) (h1 : b = true → dOps P ops (o :: l) tab sl H K) (h2 : b = false → dOps P ops (o :: l) tab sl H K) : dOps P ops (o :: l) tab sl H K := by
  cases b with
  | true => exact h1 rfl
  | false => exact h2 rfl
/-- A pick that is not known. -/
theorem aops_p {t : Operand} {x y : Operand} (hp : o.op = .pick t x y) (hb : ev sl t = .c (.p (.bool b))) (h1 : b = true → aops P ow n ops (o :: l) sl H K) (h2 : b = false → aops P ow n ops (o :: l) sl H K) : aops P ow n ops (o :: l) sl H K := by
  cases b with
  | true => exact h1 rfl
  | false => exact h2 rfl
theorem dOps_p {tab : List Row} {t : Operand} {x y : Operand} (hp : o.op = .pick t x y) (hb : ev sl t = .c (.p (.bool b))) (h1 : b = true → dOps P ops (o :: l) tab sl H K) (h2 : b = false → dOps P ops (o :: l) tab sl H K) : dOps P ops (o :: l) tab sl H K := by
  cases b with
  | true => exact h1 rfl
  | false => exact h2 rfl
end
theorem ACall.pocF {P : Program} {f : FuncId} {args : List AV} {pargs : List PB} {T size : Nat} {es : List (List PV)} {H H1 : List AObj} {K : AV → List AObj → Prop} (hf : frzVs H args = some (pargs, H1)) (hc : POC P f pargs T size es)
    (hk : K (.c (.own H1.length es.length)) (H1 ++ [.arr T size 0 es])) : ACall P f args H K := by
  refine ⟨hc.1, fun S m B w vs s hv => ?_⟩
  obtain ⟨S1, s1, e1, p1⟩ := frzVs_ok s hv hf
  refine ((hc.2 H1 K hk).2 S1 m B w vs s1 (p1.VAs m H1)).mono fun e w' ⟨v, he, S2, m', H', x, a, b, c, d, g⟩ => ?_
  exact ⟨v, he, S2, m', H', x, a, e1.trans b, c, d, g⟩
theorem POCD.mk {P : Program} {g : FuncId} {args : List AV} {look : Look} {id : Nat} {K : AV → Ef → Prop} {pargs : List PB} {T size : Nat} {es : List (List PV)} (hf : frzVs [] args = some (pargs, [])) (hc : POC P g pargs T size es) (hl : look id = some .hole)
    (hk : K (.c (.own id es.length)) (.set id (.arr T size 0 es))) : ∃ pargs T size es, POC P g pargs T size es ∧ frzVs [] args = some (pargs, []) ∧ look id = some .hole ∧ K (.c (.own id es.length)) (.set id (.arr T size 0 es)) :=
  ⟨pargs, T, size, es, hc, hf, hl, hk⟩
theorem POC.mk {P : Program} {f : FuncId} {pargs : List PB} {T size : Nat} {es : List (List PV)} (he : Enters P f) (h : ∀ (H : List AObj) (K : AV → List AObj → Prop), K (.c (.own H.length es.length)) (H ++ [.arr T size 0 es]) → ACall P f (pargs.map pbAV) H K) : POC P f pargs T size es := ⟨he, h⟩
theorem ACall.promote {P : Program} {f : FuncId} {args : List AV} {H : List AObj} {K : AV → List AObj → Prop} (T size : Nat) (hs : 0 < size)
    (h : ACall P f args H fun x H' => (x = .c (.p (.sl true [])) ∧ K (.c (.own H'.length 0)) (H' ++ [.arr T size 0 []])) ∨ K x H') : ACall P f args H K := by
  refine ⟨h.1, fun S m B w vs s hv => (h.2 S m B w vs s hv).mono ?_⟩
  rintro e w' ⟨v, he, S', m', H', x, s', e', b', hx, hk | hk⟩
  · obtain ⟨rfl, hk⟩ := hk
    obtain ⟨A, rfl⟩ := VP.empty_form hx rfl
    obtain ⟨s2, e2, hv2⟩ := s'.newNil T size hs A
    exact ⟨_, he, S', _, _, .c (.own H'.length 0), s2, e'.trans e2, b', hv2, hk⟩
  · exact ⟨v, he, S', m', H', x, s', e', b', hx, hk⟩
@[go_sem] theorem ex_arr' (T0 s0 f0 : Nat) (e0 : List (List PV)) (n : Nat) : (∃ T size frz es, (T0 = T ∧ s0 = size ∧ f0 = frz ∧ e0 = es) ∧ es.length = n) = (e0.length = n) :=
  propext ⟨fun ⟨_, _, _, _, ⟨_, _, _, h⟩, h2⟩ => by rw [h]; exact h2, fun h => ⟨_, _, _, _, ⟨rfl, rfl, rfl, rfl⟩, h⟩⟩
@[go_sem] theorem wrap_zero : IntKind.i64.wrap 0 = 0 := by decide
@[go_sem] theorem wrap_one : IntKind.i64.wrap 1 = 1 := by decide
/-- Places for what a region makes whose order is drawn. -/
theorem Sub.holes {n k : Nat} {sl : Slots} {H : List AObj} : ∀ j : Nat, Sub n k sl H sl (H ++ List.replicate j .hole)
  | 0 => by simpa using Sub.refl
  | j + 1 => by
    have h := Sub.holes (n := n) (k := k) (sl := sl) (H := H) j
    refine Sub.trans h ?_
    rintro cx hk a w ⟨S, m, s, e, b, r⟩
    have e1 := Ext.push cx.B S m _ s.len .hole (.nil none)
    have s1 := s.push .hole (.nil none) trivial (fun b c h => by cases h)
    have hr : H ++ List.replicate j AObj.hole ++ [AObj.hole] = H ++ List.replicate (j + 1) AObj.hole := by rw [List.append_assoc, List.replicate_succ']
    rw [hr] at s1 e1
    exact ⟨S, m ++ [.nil none], s1, e.trans e1, b, r.ext e1⟩
/-- Likewise, of a struct's cell. -/
theorem AW.lenA {P : Program} {n k : Nat} {sl : Slots} {H : List AObj} {Q : Exit → Slots → List AObj → Prop} {c : Code} {full : Bool} {xs : List (List PV)} {cs : List Cell} (d i : Nat) (hd : getS sl d = .agg cs) (hc : cs[i]? = some (.p (.sl full xs))) (h : (xs.length : Int) ≤ 9223372036854775807 → AW P n k c Q sl H) : AW P n k c Q sl H := fun cx hk a w hin => by
  obtain ⟨S, m, s, e, b, r⟩ := hin
  have hv := r.slot d
  rw [hd] at hv
  obtain ⟨vs, _, h2⟩ := hv
  have hlt : i < vs.length := by rw [← h2.1]; exact (List.getElem?_eq_some_iff.1 hc).1
  have h3 : VP S (.sl full xs) vs[i] := h2.2 i _ _ hc (List.getElem?_eq_getElem hlt)
  obtain ⟨q, cap, _, h4, h5, _⟩ := h3.slice_form
  exact h (by simp only [maxLen] at h5; omega) cx hk a w ⟨S, m, s, e, b, r⟩
/-- A variable's cells, their room forgotten. -/
def loC : Cell → Cell
  | .p x => .p (lo x)
  | c => c
theorem VC.loC {S : Mem} {m : List Loc} {H : List AObj} {c : Cell} {v : Value} (h : VC S m H c v) : VC S m H (loC c) v := by
  cases c <;> first | exact h | exact VP.lo (S := S) h
theorem VCs.loC {S : Mem} {m : List Loc} {H : List AObj} {cs : List Cell} {vs : List Value} (h : VCs S m H cs vs) : VCs S m H (cs.map Aw.loC) vs := by
  refine ⟨by simp [h.1], fun i c v hc hv => ?_⟩
  rw [List.getElem?_map] at hc
  cases hx : cs[i]? with
  | none => simp [hx] at hc
  | some x => simp [hx] at hc; subst hc; exact (h.2 i x v hx hv).loC
theorem Sub.loVar {n k : Nat} {sl : Slots} {H : List AObj} (id : Nat) {cs : List Cell} (hd : H[id]? = some (.var cs)) : Sub n k sl H sl (H.set id (.var (cs.map loC))) := by
  rintro cx hk a w ⟨S, m, s, e, b, r⟩
  obtain ⟨l, hl, hO⟩ := s.loc hd
  cases l with
  | nil A => exact hO.elim
  | at_ bb c =>
    obtain ⟨h1, h2, cur, T, h3, h4⟩ := hO
    obtain ⟨s2, e2⟩ := s.setVar hd hl (w' := w) (cs' := cs.map loC) h3 (fun _ _ => rfl) rfl h4.loC
    exact ⟨S, m, s2, e.trans e2, b, r.ext e2⟩
attribute [go_sem] loC
/-! ### An array that nobody names makes way -/
def noC (id : Nat) : Cell → Prop
  | .p _ => True
  | .pp _ => True
  | .own i _ => i ≠ id
  | .ep i _ _ _ => i ≠ id
  | .room i _ => i ≠ id
  | .ptr i _ => i ≠ id
  | .clo _ _ caps => ∀ q, q ∈ caps → q.1 ≠ id
  | .yld i => i ≠ id
  | .mp i => i ≠ id
  | .vs i _ => i ≠ id
  | .tl i _ _ _ => i ≠ id
def noL (id : Nat) : List Cell → Prop
  | [] => True
  | c :: cs => noC id c ∧ noL id cs
def noB (id : Nat) : List (Bool × List Cell) → Prop
  | [] => True
  | (_, cs) :: r => noL id cs ∧ noB id r
def noA (id : Nat) : AV → Prop
  | .any => True
  | .c x => noC id x
  | .agg cs => noL id cs
  | .tup bs => noB id bs
  | .mark none => True
  | .mark (some ids) => ∀ i ∈ ids, i ≠ id
def noS (id : Nat) : Slots → Prop
  | [] => True
  | (_, x) :: r => noA id x ∧ noS id r
def noO (id : Nat) : List AObj → Prop
  | [] => True
  | .var cs :: r => noL id cs ∧ noO id r
  | .arr _ _ _ _ :: r => noO id r
  | .dfr :: r => noO id r
  | .loop L :: r => noS id L.sl ∧ noO id r
  | .map es :: r => noL id (es.map (·.2)) ∧ noO id r
  | .hole :: r => noO id r
def SubN (id : Nat) (sl : Slots) : Slots → Prop
  | [] => True
  | (d, x) :: r => getS sl d = x ∧ noA id x ∧ SubN id sl r
attribute [go_sem] noC noL noB noA noS noO SubN
section
variable {n k : Nat} {sl sl' : Slots} {H : List AObj} {S : Mem} {m : List Loc} {B : Nat} {w : World} {id : Nat}
theorem noL_mem : ∀ {cs : List Cell}, noL id cs → ∀ c, c ∈ cs → noC id c
  | [], _, c, hc => by simp at hc
  | d :: cs, h, c, hc => by
    rcases List.mem_cons.1 hc with rfl | hc
    · exact h.1
    · exact noL_mem h.2 c hc
theorem noB_mem : ∀ {bs : List (Bool × List Cell)}, noB id bs → ∀ b, b ∈ bs → noL id b.2
  | [], _, b, hb => by simp at hb
  | (f, cs) :: r, h, b, hb => by
    rcases List.mem_cons.1 hb with rfl | hb
    · exact h.1
    · exact noB_mem h.2 b hb
theorem noS_get : ∀ {sl : Slots}, noS id sl → ∀ d, noA id (getS sl d)
  | [], _, d => trivial
  | (d', x) :: r, h, d => by
    simp only [getS]
    split
    · exact h.1
    · exact noS_get h.2 d
theorem noO_get : ∀ {H : List AObj}, noO id H → ∀ (i : Nat) o, H[i]? = some o → match o with
    | .var cs => noL id cs
    | .loop L => noS id L.sl
    | .map es => noL id (es.map (·.2))
    | _ => True
  | [], _, i, o, h => by simp at h
  | o :: r, h, 0, o', ho => by
    simp at ho; subst ho
    cases o <;> first | exact h.1 | trivial
  | o :: r, h, i + 1, o', ho => by
    have h' : noO id r := by cases o <;> first | exact h.2 | exact h
    exact noO_get h' i o' (by rwa [List.getElem?_cons_succ] at ho)
theorem VC.drop {c : Cell} {v : Value} (h : VC S m H c v) (hn : noC id c) : VC S (m.set id (.nil none)) (H.set id .hole) c v := by
  cases c with
  | p x => exact h
  | pp x => exact h
  | own i n =>
    obtain ⟨T, size, frz, es, l, h1, h2, h3⟩ := h
    exact ⟨T, size, frz, es, l, by rw [getElem?_set_ne _ _ _ _ (Ne.symm hn)]; exact h1, by rw [getElem?_set_ne _ _ _ _ (Ne.symm hn)]; exact h2, h3⟩
  | ep i n j off =>
    obtain ⟨T, size, frz, es, l, h1, h2, h3⟩ := h
    exact ⟨T, size, frz, es, l, by rw [getElem?_set_ne _ _ _ _ (Ne.symm hn)]; exact h1, by rw [getElem?_set_ne _ _ _ _ (Ne.symm hn)]; exact h2, h3⟩
  | room i n =>
    obtain ⟨T, size, frz, es, l, h1, h2, h3⟩ := h
    exact ⟨T, size, frz, es, l, by rw [getElem?_set_ne _ _ _ _ (Ne.symm hn)]; exact h1, by rw [getElem?_set_ne _ _ _ _ (Ne.symm hn)]; exact h2, h3⟩
  | ptr i off =>
    obtain ⟨b, cap, cs, h1, h2, h3⟩ := h
    exact ⟨b, cap, cs, by rw [getElem?_set_ne _ _ _ _ (Ne.symm hn)]; exact h1, by rw [getElem?_set_ne _ _ _ _ (Ne.symm hn)]; exact h2, h3⟩
  | clo f first caps =>
    obtain ⟨fs, cs, h1, h2, h3, h4⟩ := h
    refine ⟨fs, cs, h1, h2, h3, fun i q u hq hu => ?_⟩
    obtain ⟨b, cap, ds, k1, k2, k3⟩ := h4 i q u hq hu
    have := hn q (List.mem_of_getElem? hq)
    exact ⟨b, cap, ds, by rw [getElem?_set_ne _ _ _ _ (Ne.symm this)]; exact k1, by rw [getElem?_set_ne _ _ _ _ (Ne.symm this)]; exact k2, k3⟩
  | yld i =>
    obtain ⟨b, cap, L, h1, h2, h3⟩ := h
    exact ⟨b, cap, L, by rw [getElem?_set_ne _ _ _ _ (Ne.symm hn)]; exact h1, by rw [getElem?_set_ne _ _ _ _ (Ne.symm hn)]; exact h2, h3⟩
  | mp i =>
    obtain ⟨b, cap, L, h1, h2, h3⟩ := h
    exact ⟨b, cap, L, by rw [getElem?_set_ne _ _ _ _ (Ne.symm hn)]; exact h1, by rw [getElem?_set_ne _ _ _ _ (Ne.symm hn)]; exact h2, h3⟩
  | vs i n =>
    obtain ⟨b, cap, L, h1, h2, h3⟩ := h
    exact ⟨b, cap, L, by rw [getElem?_set_ne _ _ _ _ (Ne.symm hn)]; exact h1, by rw [getElem?_set_ne _ _ _ _ (Ne.symm hn)]; exact h2, h3⟩
  | tl i k n xs =>
    obtain ⟨T, size, frz, es, l, h1, h2, h3⟩ := h
    exact ⟨T, size, frz, es, l, by rw [getElem?_set_ne _ _ _ _ (Ne.symm hn)]; exact h1, by rw [getElem?_set_ne _ _ _ _ (Ne.symm hn)]; exact h2, h3⟩
theorem VCs.drop {cs : List Cell} {vs : List Value} (h : VCs S m H cs vs) (hn : noL id cs) : VCs S (m.set id (.nil none)) (H.set id .hole) cs vs :=
  ⟨h.1, fun i c v a b => (h.2 i c v a b).drop (noL_mem hn c (List.mem_of_getElem? a))⟩
theorem VA.drop {x : AV} {v : Value} (h : VA S m H x v) (hn : noA id x) : VA S (m.set id (.nil none)) (H.set id .hole) x v := by
  cases x with
  | any => trivial
  | c x => exact VC.drop h hn
  | agg cs => obtain ⟨vs, h1, h2⟩ := h; exact ⟨vs, h1, h2.drop hn⟩
  | tup bs =>
    obtain ⟨vs, h1, h2, h3⟩ := h
    refine ⟨vs, h1, h2, fun i b u hb hu => ?_⟩
    have g := noB_mem hn b (List.mem_of_getElem? hb)
    have g' := h3 i b u hb hu
    obtain ⟨f, cs⟩ := b
    cases f with
    | false => obtain ⟨c, e1, e2⟩ := g'; subst e1; exact ⟨c, rfl, e2.drop g.1⟩
    | true => obtain ⟨q, e1, e2⟩ := g'; exact ⟨q, e1, e2.drop g⟩
  | mark o => trivial
theorem Sim.drop (s : Sim S m H B w) (hid : id < H.length) (hn : noO id H) : Sim S (m.set id (.nil none)) (H.set id .hole) B w := by
  have hidm : id < m.length := by rw [s.len]; exact hid
  refine ⟨by simp [s.len], s.mem, s.base, fun i x y hx hy => ?_, fun i j b' c' d' hi hj => ?_⟩
  · by_cases hi : id = i
    · subst hi
      rw [List.getElem?_set_self hid] at hx
      rw [List.getElem?_set_self hidm] at hy
      cases hx; cases hy
      trivial
    · rw [getElem?_set_ne _ _ _ _ hi] at hx hy
      have hx' := s.obj i x y hx hy
      have hno := noO_get hn i x hx
      cases x with
      | var cs =>
        cases y with
        | nil A => exact hx'
        | at_ b' c' =>
          obtain ⟨h1, h2, cur, T, h3, h4⟩ := hx'
          exact ⟨h1, h2, cur, T, h3, h4.drop hno⟩
      | arr T size frz es => cases y <;> exact hx'
      | dfr => cases y <;> exact hx'
      | hole => cases y <;> exact hx'
      | loop L =>
        cases y with
        | nil A => exact hx'
        | at_ b' c' =>
          obtain ⟨h1, fn, tmps, bd, h2, h5, h6⟩ := hx'
          exact ⟨h1, fn, tmps, bd, h2, h5, fun d => (h6 d).drop (noS_get hno d)⟩
      | map es =>
        cases y with
        | nil A => exact hx'
        | at_ b' c' =>
          obtain ⟨h1, ents, clock, h2, h3, h4⟩ := hx'
          exact ⟨h1, ents, clock, h2, h3, fun i k c e' hi' he => ⟨(h4 i k c e' hi' he).1, (h4 i k c e' hi' he).2.drop (noL_mem hno c (List.mem_map.2 ⟨(k, c), List.mem_of_getElem? hi', rfl⟩))⟩⟩
  · by_cases h1 : id = i
    · subst h1
      rw [List.getElem?_set_self hidm] at hi
      cases hi
    · rw [getElem?_set_ne _ _ _ _ h1] at hi
      by_cases h2 : id = j
      · subst h2
        rw [List.getElem?_set_self hidm] at hj
        cases hj
      · rw [getElem?_set_ne _ _ _ _ h2] at hj
        exact s.inj i j b' c' d' hi hj
theorem SubN_get {sl : Slots} : ∀ {sl' : Slots}, SubN id sl sl' → ∀ d, getS sl' d = .any ∨ (getS sl' d = getS sl d ∧ noA id (getS sl' d))
  | [], _, d => .inl rfl
  | (d', x) :: r, h, d => by
    simp only [getS]
    by_cases hd : d = d'
    · subst hd
      rw [if_pos rfl]
      exact .inr ⟨h.1.symm, h.2.1⟩
    · rw [if_neg hd]
      exact SubN_get h.2.2 d
theorem Sub.forget (id : Nat) (hk : k ≤ id) (hid : id < H.length) (hn : noO id H) (hs : SubN id sl sl') (hd : keepD H.length (getS sl DEF) (getS sl' DEF)) : Sub n k sl H sl' (H.set id .hole) := by
  rintro cx rfl a w ⟨S, m, s, e, b, r⟩
  refine ⟨S, m.set id (.nil none), s.drop hid hn, ?_, b, ?_, r.big, r.size, fun d => ?_⟩
  · refine ⟨e.mem, e.old, fun i o h hf => ?_, fun i T size frz es l h h' => ?_⟩
    · have hlt : i < cx.H0.length := (List.getElem?_eq_some_iff.1 h).1
      obtain ⟨⟨o', a, a'⟩, b⟩ := e.fix i o h hf
      exact ⟨⟨o', by rw [getElem?_set_ne _ _ _ _ (by omega)]; exact a, a'⟩, fun l hl => by rw [getElem?_set_ne _ _ _ _ (by omega)]; exact b l hl⟩
    · have hlt : i < cx.H0.length := (List.getElem?_eq_some_iff.1 h).1
      obtain ⟨f', es', l', a, b, c, d⟩ := e.arr i T size frz es l h h'
      exact ⟨f', es', l', by rw [getElem?_set_ne _ _ _ _ (by omega)]; exact a, by rw [getElem?_set_ne _ _ _ _ (by omega)]; exact b, c, d⟩
  · have h1 := r.defers.keep hd
    rw [show m.take H.length = m by rw [← s.len, List.take_length], List.take_length] at h1
    have h2 := SubN_get hs DEF
    generalize getS sl' DEF = y at h1 h2
    match y, h1 with
    | .mark none, h1 => exact h1
    | .mark (some ids), ⟨g1, g2⟩ =>
      have hne : ∀ i ∈ ids, i ≠ id := by
        rcases h2 with h2 | ⟨_, h2⟩
        · cases h2
        · exact h2
      exact ⟨g1, g2.mono fun i hi h3 => ⟨by rw [getElem?_set_ne _ _ _ _ (Ne.symm (hne i hi))]; exact h3, fun b c h => by rw [getElem?_set_ne _ _ _ _ (Ne.symm (hne i hi))]; exact h⟩⟩
    | .any, h1 => exact h1
    | .c _, h1 => exact h1
    | .agg _, h1 => exact h1
    | .tup _, h1 => exact h1
  · rcases SubN_get hs d with h | ⟨h1, h2⟩
    · rw [h]; trivial
    · rw [h1] at h2 ⊢; exact (r.slot d).drop h2
theorem Sub.drop (id : Nat) {T size frz : Nat} {es : List (List PV)} (hk : k ≤ id) (ho : H[id]? = some (.arr T size frz es)) (hn : noO id H) (hs : SubN id sl sl') (hd : keepD H.length (getS sl DEF) (getS sl' DEF)) : Sub n k sl H sl' (H.set id .hole) :=
  Sub.forget id hk (List.getElem?_eq_some_iff.1 ho).1 hn hs hd
end
/-! ### A region in the text's order, by a table -/
section
variable {P : Program} {ops : Array Oper} {tab : List Row} {n : Nat} {cx : Cx}
theorem runE_sound {Q : Sig → List AObj → Prop} {Q' : Exit → Act → World → Prop} (hn : ∀ (j : Nat) (o : Oper), ops[j]? = some o → ∀ d, o.dst = some d → d < n) (hq : ∀ σ H a w, InF cx n σ H a w → Q σ H → Q' .normal a w) :
    ∀ (c k : Nat) (σ : Sig) (H : List AObj) (a : Act) (w : World), InF cx n σ H a w → runE P ops tab Q c k σ H → wpOpsIn (FR cx.ro) 0 P ops Q' (List.range' k c) a w
  | 0, _, σ, H, a, w, hin, h => hq σ H a w hin h
  | c + 1, k, σ, H, a, w, hin, h => by
    rw [List.range'_succ, wpOpsIn_cons]
    exact stE_wp hn hin h fun σ' H' a' w' hin' h' => runE_sound hn hq c (k + 1) σ' H' a' w' hin' h'
def dstB (n : Nat) (ops : Array Oper) : Bool := ops.all fun o => match o.dst with | some d => decide (d < n) | none => true
theorem AW.text {k : Nat} {sl : Slots} {H : List AObj} {Q : Exit → Slots → List AObj → Prop} {id : Nat} (tab : List Row) (hB : dstB n ops = true) (h : dOps P ops ops.toList tab sl H (Q .normal)) : AW P n k (.region id ops false) Q sl H := fun cx hk a w hin => by
  have hn : ∀ (j : Nat) (o : Oper), ops[j]? = some o → ∀ d, o.dst = some d → d < n := fun j o hj d hd => by
    have := Array.all_eq_true_iff_forall_mem.1 hB o (Array.mem_of_getElem? hj)
    simpa [hd] using this
  obtain ⟨S, m, s, e, b, r⟩ := hin
  have hd : InF cx n (getS sl) H a w := ⟨S, m, s, e, b, ⟨r.defers, r.big, r.size, r.slot⟩⟩
  have h1 := runE_of_dOps (tab := tab) (ops := ops) ops.toList 0 tab sl H (fun j => by simp) (fun j => by simp) h
  refine wpIn_region ?_
  have := runE_sound (tab := tab) (P := P) (ops := ops) (n := n) (cx := cx) (Q := fun σ H => ∃ sl', getS sl' = σ ∧ Q .normal sl' H) (Q' := fun e a' w' => ∃ sl' H', InSt cx n sl' H' a' w' ∧ Q e sl' H') hn (by
    rintro σ H a w ⟨S, m, s, e, b, r⟩ ⟨sl', rfl, hq⟩
    exact ⟨sl', H, ⟨S, m, s, e, b, ⟨r.defers, r.big, r.size, r.slot⟩⟩, hq⟩) ops.toList.length 0 (getS sl) H a w hd h1
  rw [List.range_eq_range', ← Array.length_toList]
  exact this
variable {k : Nat} {sl : Slots} {H : List AObj} {Q : Exit → Slots → List AObj → Prop} {y : Code} {id : Nat} {l : List Oper}
theorem AW.v (tab : List Row) (hB : dstB n l.toArray = true) (h : ∀ K : Slots → List AObj → Prop, (∀ sl' H', AW P n k y Q sl' H' → K sl' H') → dOps P l.toArray l tab sl H K) : AW P n k (.seq (.region id l.toArray false) y) Q sl H :=
  AW.seq (AW.text tab hB (h _ fun _ _ h => h))
theorem AW.vl (tab : List Row) (hB : dstB n l.toArray = true) (h : ∀ K : Slots → List AObj → Prop, (∀ sl' H', Q .normal sl' H' → K sl' H') → dOps P l.toArray l tab sl H K) : AW P n k (.region id l.toArray false) Q sl H :=
  AW.text tab hB (h _ fun _ _ h => h)
end
/-! Short names (a claim's bytes are few). -/
section
variable {P : Program} {n k : Nat} {sl : Slots} {H : List AObj} {ow : Bool} {ops : Array Oper} {o o2 : Oper} {l : List Oper} {K : Slots → List AObj → Prop} {j d : Nat} {want b : Bool} {tab : List Row} {r : Row}
variable {Q : Exit → Slots → List AObj → Prop} {x y : Code} {id : Nat}
theorem Zs (h : ∀ HK : Slots → List AObj → Prop, (∀ sl' H', aops P ow n ops l sl' H' K → HK sl' H') → aStep P ow n ops o sl H HK) (hn : notLit o l = true := by exact rfl) : aops P ow n ops (o :: l) sl H K := aops_s h hn
theorem Zl (h : ∀ HK : Slots → List AObj → Prop, (∀ sl' H', aops P ow n ops l sl' H' K → HK sl' H') → aLit P n sl H o o2 HK) (hn : isLit o o2 = true := by exact rfl) : aops P ow n ops (o :: o2 :: l) sl H K := aops_l hn h
theorem Z0 (h : ∀ HK : Slots → List AObj → Prop, (∀ sl' H', dOps P ops l [] sl' H' K → HK sl' H') → dStep P ops (none, []) o sl H HK) : dOps P ops (o :: l) [] sl H K := dOps_0 h
theorem Zd (h : ∀ HK : Slots → List AObj → Prop, (∀ sl' H', dOps P ops l tab sl' H' K → HK sl' H') → dStep P ops r o sl H HK) : dOps P ops (o :: l) (r :: tab) sl H K := dOps_s h
theorem Zn (h : K sl H) : aops P ow n ops [] sl H K := h
theorem Zm (h : K sl H) : dOps P ops [] tab sl H K := dOps_n h
theorem Zg (h1 : b = true → aops P ow n ops (o :: l) sl H K) (h2 : b = false → aops P ow n ops (o :: l) sl H K) (hg : o.guard = some (j, want) := by exact rfl) (hd : (ops[j]?).bind (·.dst) = some d := by exact rfl) (hb : getS sl d = .c (.p (.bool b)) := by exact rfl) : aops P ow n ops (o :: l) sl H K := aops_g hg hd hb h1 h2
theorem Zh (h1 : b = true → dOps P ops (o :: l) tab sl H K) (h2 : b = false → dOps P ops (o :: l) tab sl H K) (hg : o.guard = some (j, want) := by exact rfl) (hd : (ops[j]?).bind (·.dst) = some d := by exact rfl) (hb : getS sl d = .c (.p (.bool b)) := by exact rfl) : dOps P ops (o :: l) tab sl H K := dOps_g hg hd hb h1 h2
theorem Zp {t u v : Operand} (h1 : b = true → aops P ow n ops (o :: l) sl H K) (h2 : b = false → aops P ow n ops (o :: l) sl H K) (hp : o.op = .pick t u v := by exact rfl) (hb : ev sl t = .c (.p (.bool b)) := by exact rfl) : aops P ow n ops (o :: l) sl H K := aops_p hp hb h1 h2
theorem Zk {t u v : Operand} (h1 : b = true → dOps P ops (o :: l) tab sl H K) (h2 : b = false → dOps P ops (o :: l) tab sl H K) (hp : o.op = .pick t u v := by exact rfl) (hb : ev sl t = .c (.p (.bool b)) := by exact rfl) : dOps P ops (o :: l) tab sl H K := dOps_p hp hb h1 h2
theorem Zq (h : ∀ K : Slots → List AObj → Prop, (∀ sl' H', AW P n k y Q sl' H' → K sl' H') → aops P false n l.toArray l sl H K) : AW P n k (.seq (.region id l.toArray false) y) Q sl H := AW.q false h
theorem Zr (h : ∀ K : Slots → List AObj → Prop, (∀ sl' H', Q .normal sl' H' → K sl' H') → aops P false n l.toArray l sl H K) : AW P n k (.region id l.toArray false) Q sl H := AW.ql false h
theorem Zw (h : ∀ K : Slots → List AObj → Prop, (∀ sl' H', AW P n k y Q sl' H' → K sl' H') → dOps P l.toArray l [] sl H K) (hm : P.follows .mixedOrders = true := by exact rfl) (hB : drawB n l.toArray [] = true := by decide +kernel) : AW P n k (.seq (.region id l.toArray true) y) Q sl H := AW.w [] hm hB h
theorem Zx (h : ∀ K : Slots → List AObj → Prop, (∀ sl' H', Q .normal sl' H' → K sl' H') → dOps P l.toArray l [] sl H K) (hm : P.follows .mixedOrders = true := by exact rfl) (hB : drawB n l.toArray [] = true := by decide +kernel) : AW P n k (.region id l.toArray true) Q sl H := AW.wl [] hm hB h
theorem Zc {c : Operand} (ht : b = true → AW P n k x Q sl H) (hf : b = false → AW P n k y Q sl H) (hc : ev sl c = .c (.p (.bool b)) := by exact rfl) : AW P n k (.cond c x y) Q sl H := AW.cond hc ht hf
theorem Zi (h : Q .normal sl H) : AW P n k .skip Q sl H := AW.skip h
theorem Ze (h : Q (.exit id) sl H) : AW P n k (.exit id) Q sl H := AW.exit h
theorem Zt (h : Q .ret sl H) : AW P n k .ret Q sl H := AW.ret h
theorem Zz (h : AW P n k x (AThen (AW P n k y Q) Q) sl H) : AW P n k (.seq x y) Q sl H := AW.seq h
theorem Zb (h : AW P n k x (ABlock id Q) sl H) : AW P n k (.block id x) Q sl H := AW.block h
end
end Go.Aw
