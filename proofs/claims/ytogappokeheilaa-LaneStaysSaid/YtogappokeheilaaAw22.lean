/-
  An abstract memory for walks, part 22: a range over a function: rounds, the statement, the function that holds it.
-/
import Derived.Test.YtogappokeheilaaAw21
import Derived.RangeFuncRecord
set_option linter.unusedVariables false
set_option linter.unusedSimpArgs false
namespace Go.Aw
open Go.RowKit
section
variable {P : Program} {n k : Nat} {S : Mem} {m : List Loc} {H : List AObj} {B : Nat} {w : World}
/-! ### The record is turned -/
theorem Sim.memNot (s : Sim S m H B w) {b : Nat} {r : Obj} (hb : w.heap[b]? = some r) (hr : isCellsB r = false) (o : Nat) : S b o = none := by
  cases h : S b o with
  | none => rfl
  | some v =>
    have := s.mem b o v h
    simp only [World.cell?, hb] at this
    cases r <;> first | (cases hr; done) | exact absurd this (by simp)
theorem ObjOk.base {o : AObj} {b c : Nat} (h : ObjOk S m H B w o (.at_ b c)) : B ≤ b := by
  cases o with
  | var cs => exact h.1
  | arr T size frz es => exact h.2.2.2.1
  | dfr => exact h.1
  | loop L => exact h.1
  | map es => exact h.1
  | hole => exact h.elim
theorem below_putObj {b : Nat} (o : Obj) (hb : B ≤ b) : Bel B w (w.putObj b o) :=
  ⟨⟨rfl, rfl, rfl, by simp, fun k hk => World.putObj_heap_other (by omega)⟩⟩
theorem Sim.setLoop (s : Sim S m H B w) {id b c : Nat} {L : LoopA} (ho : H[id]? = some (.loop L)) (hl : m[id]? = some (.at_ b c)) {r : Loop} (hr : w.heap[b]? = some (.loop r)) (st : LoopState) (p : Option Code) :
    Sim S m (H.set id (.loop { L with st := st, pending := p })) B (w.putObj b (.loop { r with state := st, pending := p })) ∧ Ext B S m H S m (H.set id (.loop { L with st := st, pending := p })) := by
  have hid : id < H.length := (List.getElem?_eq_some_iff.1 ho).1
  have hb : b < w.heap.size := (Array.getElem?_eq_some_iff.1 hr).1
  have e : Ext B S m H S m (H.set id (.loop { L with st := st, pending := p })) := by
    refine ⟨Mem.le_refl S, fun _ _ _ => rfl, fun i x h hf => ⟨?_, fun _ h => h⟩, fun i T' size frz es l h h' => ⟨frz, es, l, ?_, h', Nat.le_refl _, fun _ => rfl⟩⟩
    · by_cases hi : id = i
      · subst hi
        rw [ho] at h; cases h
        exact ⟨.loop { L with st := st, pending := p }, by simp [hid], show LoopA.same _ _ from ⟨st, p, rfl⟩⟩
      · exact ⟨x, by rw [getElem?_set_ne _ _ _ _ hi]; exact h, Kin.refl hf⟩
    · have hi : id ≠ i := fun hi => by subst hi; rw [ho] at h; cases h
      rw [getElem?_set_ne _ _ _ _ hi]; exact h
  refine ⟨⟨by simp [s.len], fun b' o v h => ?_, by simpa using s.base, fun i x y hx hy => ?_, s.inj⟩, e⟩
  · have hne : b' ≠ b := fun hh => by subst hh; rw [s.memNot hr rfl o] at h; cases h
    have := s.mem b' o v h
    simp only [World.cell?] at this ⊢
    rw [World.putObj_heap_other hne]
    exact this
  · by_cases hi : id = i
    · subst hi
      rw [hl] at hy
      cases hy
      rw [List.getElem?_set_self hid] at hx
      cases hx
      obtain ⟨h1, fn, tmps, bd, h2, h5, h6⟩ := s.obj id _ _ ho hl
      rw [hr] at h2
      cases h2
      exact ⟨h1, fn, tmps, bd, World.putObj_heap_same hb, h5, fun d => (h6 d).ext e⟩
    · rw [getElem?_set_ne _ _ _ _ hi] at hx
      refine (s.obj i x y hx hy).keep e fun b' c' hbc => ?_
      subst hbc
      have hne : b' ≠ b := fun hh => by subst hh; exact hi (s.inj id i b' c c' hl hy)
      exact ⟨World.putObj_heap_other hne, fun k => rfl⟩
/-! ### A round -/
def putPs : List Nat → List AV → Slots → Slots
  | p :: ps, x :: xs, sl => putPs ps xs ((p, x) :: sl)
  | _, _, sl => sl
def noMark : AV → Prop
  | .mark _ => False
  | _ => True
theorem DefOk.none {ro : Option Nat} {x : AV} (h : noMark x) : DefOk ro m H [] x := by
  cases x <;> first | rfl | exact h.elim
theorem putPs_ok : ∀ {ps : List Nat} {xs : List AV} {vs : List Value} {sl : Slots} {tmps : Array Value}, VAs S m H xs vs → (∀ p ∈ ps, p < n) → tmps.size = n → (∀ d, VA S m H (getS sl d) (tmps.getD d undef)) →
    ((ps.zip vs).foldl (fun t (q : Tmp × Value) => t.setIfInBounds q.1 q.2) tmps).size = n ∧ ∀ d, VA S m H (getS (putPs ps xs sl) d) (((ps.zip vs).foldl (fun t (q : Tmp × Value) => t.setIfInBounds q.1 q.2) tmps).getD d undef)
  | [], _, _, _, _, _, _, hs, h => by simp only [putPs, List.zip_nil_left, List.foldl_nil]; exact ⟨hs, h⟩
  | p :: ps, [], [], _, _, _, _, hs, h => by simp only [putPs, List.zip_nil_right, List.foldl_nil]; exact ⟨hs, h⟩
  | p :: ps, [], v :: vs, _, _, hv, _, _, _ => by have := hv.1; simp at this
  | p :: ps, x :: xs, [], _, _, hv, _, _, _ => by have := hv.1; simp at this
  | p :: ps, x :: xs, v :: vs, sl, tmps, hv, hp, hs, h => by
    have hx : VA S m H x v := hv.2 0 x v rfl rfl
    have hv' : VAs S m H xs vs := ⟨by have := hv.1; simpa using this, fun i y u hy hu => hv.2 (i + 1) y u (by simpa using hy) (by simpa using hu)⟩
    have hpn := hp p (by simp)
    have := putPs_ok (ps := ps) (sl := (p, x) :: sl) (tmps := tmps.setIfInBounds p v) hv' (fun q hq => hp q (by simp [hq])) (by simp [hs]) (fun d => by
      simp only [getS]
      by_cases hd : d = p
      · subst hd
        rw [if_pos rfl]
        have e : (tmps.setIfInBounds d v).getD d undef = v := by simp [Array.getD_eq_getD_getElem?, hs, hpn]
        rw [e]; exact hx
      · rw [if_neg hd]
        have e : (tmps.setIfInBounds p v).getD d undef = tmps.getD d undef := by
          simp only [Array.getD_eq_getD_getElem?]
          rw [Array.getElem?_setIfInBounds_ne (Ne.symm hd)]
        rw [e]; exact h d)
    simp only [putPs, List.zip_cons_cons, List.foldl_cons]
    exact this
theorem putPs_def : ∀ {ps : List Nat} {xs : List AV} {sl : Slots}, (∀ p ∈ ps, p < n) → n ≤ DEF → getS (putPs ps xs sl) DEF = getS sl DEF
  | [], _, _, _, _ => by simp [putPs]
  | p :: ps, [], _, _, _ => by simp [putPs]
  | p :: ps, x :: xs, sl, hp, hn => by
    have hpn := hp p (by simp)
    have := putPs_def (ps := ps) (xs := xs) (sl := (p, x) :: sl) (fun q hq => hp q (by simp [hq])) hn
    simp only [putPs, this, getS]
    rw [if_neg (by omega)]
/-- How the body of a round is left. -/
def RoundQ (id : Nat) (K : AV → List AObj → Prop) : Exit → Slots → List AObj → Prop
  | .normal, _, H => ∃ L, H[id]? = some (.loop L) ∧ K (.c (.p (.bool true))) (H.set id (.loop { L with st := .ready, pending := none }))
  | .ret, _, H => ∃ L, H[id]? = some (.loop L) ∧ K (.c (.p (.bool false))) (H.set id (.loop { L with st := .done, pending := some .ret }))
  | .exit e, _, H => ∃ L, H[id]? = some (.loop L) ∧ K (.c (.p (.bool false))) (H.set id (.loop { L with st := .done, pending := some (.exit e) }))
  | .goto t, _, H => ∃ L, H[id]? = some (.loop L) ∧ K (.c (.p (.bool false))) (H.set id (.loop { L with st := .done, pending := some (.goto t) }))
  | _, _, _ => False
theorem YCall.of_AW {id : Nat} {args : List AV} {K : AV → List AObj → Prop} {L : LoopA} (hL : H[id]? = some (.loop L)) (hs : L.ps.size = args.length) (hn : L.n ≤ 1000000) (hp : ∀ p ∈ L.ps.toList, p < L.n) (hd : noMark (getS L.sl DEF))
    (h : AW P L.n H.length L.assign (AThen (fun sl1 H1 => ∃ L1, H1[id]? = some (.loop L1) ∧ L1.st = .ready ∧ AW P L.n H.length L.body (RoundQ id K) sl1 (H1.set id (.loop { L1 with st := .busy }))) (fun _ _ _ => False)) (putPs L.ps.toList args L.sl) H) :
    YCall P id args H K := by
  refine ⟨⟨L, hL, hs⟩, fun S m B w vs ro b cap R s hv hm hR => roundIn_of_wpIn trivial ?_⟩
  obtain ⟨g1, fn, tmps, bd, g2, g3, g4⟩ := s.obj id _ _ hL hm
  rw [hR] at g2
  cases g2
  let cx : Cx := ⟨B, S, m, H, w, some b⟩
  have hz : (L.ps.zip vs.toArray).foldl (fun tmps (t, x) => tmps.setIfInBounds t x) tmps = (L.ps.toList.zip vs).foldl (fun t (q : Tmp × Value) => t.setIfInBounds q.1 q.2) tmps := by
    rw [← Array.foldl_toList]; simp
  obtain ⟨q1, q2⟩ := putPs_ok (S := S) (m := m) (H := H) (ps := L.ps.toList) (sl := L.sl) hv hp g3 g4
  have hin : InSt cx L.n (putPs L.ps.toList args L.sl) H { tmps := (L.ps.zip vs.toArray).foldl (fun tmps (t, x) => tmps.setIfInBounds t x) tmps, defers := [] } w := by
    refine ⟨S, m, s, Ext.refl B S m H, Bel.refl B w, ?_, hn, ?_, fun d => ?_⟩
    · exact DefOk.none (by rw [putPs_def hp hn]; exact hd)
    · show Array.size _ = _
      rw [hz]; exact q1
    · show VA _ _ _ _ (Array.getD _ _ _)
      rw [hz]; exact q2 d
  refine wpIn_mono (h cx rfl _ w hin) ?_
  rintro e a1 w1 ⟨sl1, H1, ⟨S1, m1, s1, e1, b1, r1⟩, hq⟩
  cases e with
  | normal =>
    obtain ⟨L1, hL1, hst, hbody⟩ := hq
    obtain ⟨⟨L', k1, _⟩, k3⟩ := e1.loop id L hL
    rw [hL1] at k1; cases k1
    have hm1 := k3 _ hm
    obtain ⟨f1, fn1, tmps1, bd1, f2, f3, f4⟩ := s1.obj id _ _ hL1 hm1
    refine ⟨_, run_beginRound f2 hst, ?_⟩
    obtain ⟨s2, e2⟩ := s1.setLoop hL1 hm1 f2 .busy L1.pending
    have hin2 : InSt cx L.n sl1 (H1.set id (.loop { L1 with st := .busy })) a1 (w1.putObj b (.loop { ({ state := L1.st, pending := L1.pending, fn := fn1, tmps := tmps1, params := L1.ps, assign := L1.assign, body := L1.body, defers := bd1 } : Loop) with state := .busy })) :=
      ⟨S1, m1, s2, e1.trans e2, b1.trans (below_putObj _ f1), r1.ext e2⟩
    refine wpIn_mono (hbody cx rfl a1 _ hin2) ?_
    rintro e a2 w2 ⟨sl2, H2, ⟨S2, m2, s3, e3, b3, r3⟩, hq⟩
    have fin : ∀ (jump : Option Code), (∃ L, H2[id]? = some (.loop L) ∧ K (.c (.p (.bool jump.isNone))) (H2.set id (.loop { L with st := if jump.isNone then .ready else .done, pending := jump }))) →
        ∃ v w', (Instr.endRound b jump).run P w2 = .ok v w' ∧ ∃ v', Ending.returned v = .returned v' ∧ Post B S m H w K v' w' := by
      rintro jump ⟨L2, hL2, hk⟩
      obtain ⟨_, k4⟩ := e3.loop id L hL
      have hm2 := k4 _ hm
      obtain ⟨p1, fn2, tmps2, bd2, p2, p3, p4⟩ := s3.obj id _ _ hL2 hm2
      obtain ⟨s4, e4⟩ := s3.setLoop hL2 hm2 p2 (if jump.isNone then .ready else .done) jump
      exact ⟨_, _, run_endRound jump p2, _, rfl, S2, m2, _, .c (.p (.bool jump.isNone)), s4, e3.trans e4, b3.trans (below_putObj _ p1), .bool _, hk⟩
    cases e with
    | normal => exact fin none hq
    | ret => exact fin (some .ret) hq
    | exit i => exact fin (some (.exit i)) hq
    | goto t => exact fin (some (.goto t)) hq
    | panic c => exact hq.elim
    | outgrown => exact hq.elim
  | _ => exact hq.elim
/-! ### The statement -/
/-- On behind the loop. -/
def rangeThen (P : Program) (n k : Nat) (Q : Exit → Slots → List AObj → Prop) (sl : Slots) (id : Nat) (H : List AObj) : Prop :=
  ∃ L, H[id]? = some (.loop L) ∧ L.st ≠ .busy ∧ match L.pending with
    | none => Q .normal sl (H.set id (.loop { L with st := .exhausted }))
    | some c => AW P n k c Q sl (H.set id (.loop { L with st := .exhausted }))
theorem Sim.pushDfr (s : Sim S m H B w) : Sim S (m ++ [.at_ w.heap.size 0]) (H ++ [.dfr]) B (w.alloc (.deferred (some []))) ∧ Ext B S m H S (m ++ [.at_ w.heap.size 0]) (H ++ [.dfr]) := by
  have e := Ext.push B S m H s.len .dfr (.at_ w.heap.size 0)
  obtain ⟨s1, _⟩ := s.grow (S' := S) (w' := w.alloc (.deferred (some []))) (fun k hk => heap_alloc_old w _ hk) (by simp) (fun _ _ _ => rfl) (fun b o v hb hv => by have := s.newmem hb o; rw [this] at hv; cases hv)
  refine ⟨s1.push _ _ ⟨s.base, heap_alloc_new w _⟩ ?_, e⟩
  intro b c hbc i c'
  cases hbc
  exact s.noblock (Nat.le_refl _) i c'
theorem Sim.pushLoop (s : Sim S m H B w) {L : LoopA} {fn : Nat} {tmps : Array Value} {bd : Nat} (hz : tmps.size = L.n) (hsl : ∀ d, VA S m H (getS L.sl d) (tmps.getD d undef)) :
    Sim S (m ++ [.at_ w.heap.size 0]) (H ++ [.loop L]) B (w.alloc (.loop { state := L.st, pending := L.pending, fn := fn, tmps := tmps, params := L.ps, assign := L.assign, body := L.body, defers := bd })) ∧
      Ext B S m H S (m ++ [.at_ w.heap.size 0]) (H ++ [.loop L]) := by
  have e := Ext.push B S m H s.len (.loop L) (.at_ w.heap.size 0)
  obtain ⟨s1, _⟩ := s.grow (S' := S) (w' := w.alloc (.loop { state := L.st, pending := L.pending, fn := fn, tmps := tmps, params := L.ps, assign := L.assign, body := L.body, defers := bd })) (fun k hk => heap_alloc_old w _ hk) (by simp) (fun _ _ _ => rfl)
    (fun b o v hb hv => by have := s.newmem hb o; rw [this] at hv; cases hv)
  refine ⟨s1.push _ _ ⟨s.base, fn, tmps, bd, heap_alloc_new w _, hz, fun d => (hsl d).ext e⟩ ?_, e⟩
  intro b c hbc i c'
  cases hbc
  exact s.noblock (Nat.le_refl _) i c'
/-- What a function value leads to: which function, behind and ahead of the arguments what. -/
def cloOf : AV → Option (Nat × List AV × List AV)
  | .c (.p (.fn f)) => some (f, [], [])
  | .c (.clo f first caps) => some (f, first.map (fun x => .c (.p x)), caps.map capAV)
  | _ => none
theorem cloOf_ok {x : AV} {v : Value} {f : Nat} {xs ys : List AV} (h : cloOf x = some (f, xs, ys)) (hv : VA S m H x v) : ∃ us vs : List Value, v = .func (.func f) us.toArray vs.toArray ∧ VAs S m H xs us ∧ VAs S m H ys vs := by
  unfold cloOf at h
  split at h
  · cases h
    refine ⟨[], [], ?_, ⟨rfl, fun i x v h => by simp at h⟩, ⟨rfl, fun i x v h => by simp at h⟩⟩
    cases hv; rfl
  · cases h
    obtain ⟨fs, cs, hf', hfs, hcl, hcs⟩ := hv
    exact ⟨fs, cs, hf', hfs.VAs, caps_VAs ⟨hcl, hcs⟩⟩
  · cases h
variable {sl : Slots} {Q : Exit → Slots → List AObj → Prop}
theorem AW.rangeFunc {g : Operand} {ps : Array Tmp} {assign body : Code} {f : Nat} {xs ys : List AV} (hd : getS sl DEF = .mark none) (hg : cloOf (ev sl g) = some (f, xs, ys))
    (h : ACall P f (xs ++ [.c (.yld (H.length + 1))] ++ ys) (H ++ [.dfr, .loop { sl := (DEF, .any) :: sl, n := n, ps := ps, assign := assign, body := body, st := .ready, pending := none }])
      (fun _ H3 => rangeThen P n k Q ((DEF, .mark (some H.length)) :: sl) (H.length + 1) H3)) :
    AW P n k (.rangeFunc g ps assign body) Q sl H := by
  rintro cx hk a w ⟨S, m, s, e, b, r⟩
  have hdef := r.defers
  rw [hd] at hdef
  obtain ⟨hro, hds⟩ := hdef
  refine wpIn_rangeFunc fun fn _ => ?_
  have hrun := run_enterLoop_outer (P := P) (w := w) fn a.tmps ps assign body
  rw [show (FR cx.ro).round = none from hro]
  have hg0 := r.eval g
  obtain ⟨s1, e1⟩ := s.pushDfr
  obtain ⟨s2, e2⟩ := s1.pushLoop (L := { sl := (DEF, .any) :: sl, n := n, ps := ps, assign := assign, body := body, st := .ready, pending := none }) (fn := fn) (tmps := a.tmps) (bd := w.heap.size) r.size (fun d => by
    show VA _ _ _ (if d = DEF then .any else getS sl d) _
    split
    · trivial
    · exact (r.slot d).ext e1)
  have hH : H ++ [AObj.dfr] ++ [AObj.loop { sl := (DEF, .any) :: sl, n := n, ps := ps, assign := assign, body := body, st := .ready, pending := none }] = H ++ [AObj.dfr, .loop { sl := (DEF, .any) :: sl, n := n, ps := ps, assign := assign, body := body, st := .ready, pending := none }] := by simp
  rw [hH] at s2 e2
  obtain ⟨us, vs, hfv, hus, hvs⟩ := cloOf_ok hg hg0
  have e12 := e1.trans e2
  have hlen : (m ++ [Loc.at_ w.heap.size 0]).length = H.length + 1 := by simp [s.len]
  have hyv : VA S (m ++ [Loc.at_ w.heap.size 0] ++ [Loc.at_ (w.alloc (.deferred (some []))).heap.size 0]) (H ++ [AObj.dfr, .loop { sl := (DEF, .any) :: sl, n := n, ps := ps, assign := assign, body := body, st := .ready, pending := none }]) (.c (.yld (H.length + 1))) (.func (.yield (w.heap.size + 1)) #[] #[]) :=
    ⟨w.heap.size + 1, 0, _, by rw [List.getElem?_append_right (by omega)]; simp; rfl, by rw [List.getElem?_append_right (by omega), hlen]; simp, rfl⟩
  have hargs := VAs.append (VAs.append (hus.ext e12) (show VAs _ _ _ [AV.c (.yld (H.length + 1))] [Value.func (.yield (w.heap.size + 1)) #[] #[]] from ⟨rfl, fun i x v hx hv => by
    cases i with
    | zero => simp at hx hv; subst hx; subst hv; exact hyv
    | succ i => simp at hx⟩)) (hvs.ext e12)
  have hres : ∀ w' : World, (resolve a.eval (rangeCall g (w.heap.size + 1)) 0).run P w' = .ok { target := .fn (.func f) vs.toArray, args := us.toArray ++ #[Value.func (.yield (w.heap.size + 1)) #[] #[]] } w' := by
    intro w'
    unfold resolve rangeCall
    simp only [List.map_toArray, List.map_cons, List.map_nil]
    rw [hfv]; rfl
  have hinv := h.1 (us.toArray ++ #[Value.func (.yield (w.heap.size + 1)) #[] #[]] ++ vs.toArray)
  have ha : (us ++ [Value.func (.yield (w.heap.size + 1)) #[] #[]] ++ vs).toArray = us.toArray ++ #[Value.func (.yield (w.heap.size + 1)) #[] #[]] ++ vs.toArray := by apply Array.ext'; simp
  refine ⟨w.heap.size + 1, _, _, { target := .fn (.func f) vs.toArray, args := us.toArray ++ #[Value.func (.yield (w.heap.size + 1)) #[] #[]] }, _, f, (us ++ [Value.func (.yield (w.heap.size + 1)) #[] #[]] ++ vs).toArray,
    (w.alloc (.deferred (some []))).alloc (.loop { state := .ready, pending := none, fn, tmps := a.tmps, params := ps, assign, body, defers := w.heap.size }), hrun, hres _, fun _ _ => trivial, by rw [ha]; exact hinv _, fun h => (by cases h), ?_⟩
  · refine CallsIn.mono (CallsIn.ofCalls (h.2 _ _ cx.B _ _ s2 hargs)) ?_
    rintro en w3 ⟨v, rfl, S3, m3, H3, x, s3, e3, b3, hx, L, hL, hst, hq⟩
    have eL := (e3.trans (Ext.refl cx.B S3 m3 H3)).loop (H.length + 1) _ (by rw [List.getElem?_append_right (by omega)]; simp; rfl)
    have hm3 := eL.2 (.at_ (w.alloc (.deferred (some []))).heap.size 0) (by rw [List.getElem?_append_right (by omega), hlen]; simp)
    obtain ⟨⟨o', hD, hK⟩, hmD⟩ := e3.fix H.length .dfr (by rw [List.getElem?_append_right (by omega)]; simp) trivial
    have hmD := hmD (.at_ w.heap.size 0) (by rw [List.getElem?_append_left (by omega), List.getElem?_append_right (by rw [s.len]; omega), s.len]; simp)
    have hdd : o' = .dfr := by cases o' <;> first | rfl | exact hK.elim
    subst hdd
    obtain ⟨f1, fn1, tmps1, bd1, f2, f3, f4⟩ := s3.obj _ _ _ hL hm3
    have hsz : (w.alloc (.deferred (some []))).heap.size = w.heap.size + 1 := by simp
    rw [hsz] at f2 f1 hm3
    refine ⟨L.pending, _, run_endLoop f2 hst, ?_⟩
    obtain ⟨s4, e4⟩ := s3.setLoop hL hm3 f2 .exhausted L.pending
    have eAll := e12.trans (e3.trans e4)
    have hbel : Bel cx.B cx.w0 (w3.putObj (w.heap.size + 1) (.loop { ({ state := L.st, pending := L.pending, fn := fn1, tmps := tmps1, params := L.ps, assign := L.assign, body := L.body, defers := bd1 } : Loop) with state := .exhausted })) :=
      (((b.alloc s.base _).alloc (Nat.le_trans s.base (by simp)) _).trans b3).trans (below_putObj _ f1)
    have hin : InSt cx n ((DEF, .mark (some H.length)) :: sl) (H3.set (H.length + 1) (.loop { L with st := .exhausted })) { a with defers := [{ target := .collected w.heap.size, args := #[] }] ++ a.defers }
        (w3.putObj (w.heap.size + 1) (.loop { ({ state := L.st, pending := L.pending, fn := fn1, tmps := tmps1, params := L.ps, assign := L.assign, body := L.body, defers := bd1 } : Loop) with state := .exhausted })) := by
      refine ⟨S3, m3, s4, e.trans eAll, hbel, ?_, r.big, r.size, fun d => ?_⟩
      · show DefOk _ _ _ _ (if DEF = DEF then _ else _)
        rw [if_pos rfl]
        refine ⟨hro, w.heap.size, 0, hmD, ?_, by rw [hds]; rfl⟩
        rw [getElem?_set_ne _ _ _ _ (by omega)]; exact hD
      · show VA _ _ _ (if d = DEF then _ else _) _
        split
        · trivial
        · exact (r.slot d).ext eAll
    cases hp : L.pending with
    | none =>
      rw [hp] at hq
      rw [hp] at hin
      exact ⟨_, _, hin, hq⟩
    | some c =>
      rw [hp] at hq
      rw [hp] at hin
      exact hq cx hk _ _ hin
theorem AW.rangeFuncL {g : Operand} {ps : Array Tmp} {assign body : Code} {f : Nat} {xs ys : List AV} (hd : getS sl DEF = .mark none) (hg : cloOf (ev sl g) = some (f, xs, ys))
    (h : ∀ L : LoopA, L = { sl := (DEF, .any) :: sl, n := n, ps := ps, assign := assign, body := body, st := .ready, pending := none } → ACall P f (xs ++ [.c (.yld (H.length + 1))] ++ ys) (H ++ [.dfr, .loop L])
      (fun _ H3 => rangeThen P n k Q ((DEF, .mark (some H.length)) :: sl) (H.length + 1) H3)) :
    AW P n k (.rangeFunc g ps assign body) Q sl H := AW.rangeFunc hd hg (h _ rfl)
end
end Go.Aw
