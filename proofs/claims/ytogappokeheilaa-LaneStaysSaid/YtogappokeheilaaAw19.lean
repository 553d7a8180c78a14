/-
  An abstract memory for walks, part 19: counting loops, small numbers.
-/
import Derived.Test.YtogappokeheilaaAw18
import Derived.IntWalk
set_option linter.unusedVariables false
set_option linter.unusedSimpArgs false
namespace Go.Aw
section
variable {P : Program} {n kk : Nat} {sl : Slots} {H : List AObj} {Q : Exit → Slots → List AObj → Prop}
theorem AW.upto {c : Code} (N : Nat) (Inv : Nat → Prop) (F : Nat → Slots) (G : Nat → List AObj) (h0 : Inv 0) (hs : Sub n kk sl H (F 0) (G 0))
    (round : ∀ k, k ≤ N → Inv k → AW P n kk c (AThen (fun sl' H' => k < N ∧ Inv (k + 1) ∧ Sub n kk sl' H' (F (k + 1)) (G (k + 1))) Q) (F k) (G k)) : AW P n kk (.loop c) Q sl H :=
  AW.loop (X := {k : Nat // k ≤ N ∧ Inv k}) (fun k => F k.1) (fun k => G k.1) (fun k => N - k.1) ⟨0, Nat.zero_le _, h0⟩ hs fun ⟨k, hk, hi⟩ => AW.mono (round k hk hi) fun e sl' H' hq => by
    cases e with
    | normal =>
      obtain ⟨h1, h2, h3⟩ := hq
      exact ⟨⟨k + 1, h1, h2⟩, by simp; omega, h3⟩
    | _ => exact hq
end
/-- A slice's room is forgotten. -/
theorem Sub.lo {n k : Nat} {sl : Slots} {H : List AObj} (d : Nat) {f : Bool} {xs : List (List PV)} (hd : getS sl d = .c (.p (.sl f xs))) : Sub n k sl H ((d, .c (.p (.sl false xs))) :: sl) H := by
  rintro cx hk a w ⟨S, m, s, e, b, r⟩
  refine ⟨S, m, s, e, b, ?_, r.big, r.size, fun d' => ?_⟩
  · have h0 := r.defers
    simp only [getS]
    by_cases hdd : DEF = d
    · subst hdd
      rw [hd] at h0
      rw [if_pos rfl]; exact h0
    · rw [if_neg hdd]; exact h0
  simp only [getS]
  by_cases h : d' = d
  · subst h
    rw [if_pos rfl]
    have hv := r.slot d'
    rw [hd] at hv
    exact VP.lo (x := .sl f xs) hv
  · rw [if_neg h]; exact r.slot d'
def ExPC (P : Program) (f : FuncId) (pargs : List PB) (K : AV → Prop) : Prop := ∃ r, PC P f pargs r ∧ K (prAV r)
theorem ExPC.mk {P : Program} {f : FuncId} {pargs : List PB} {r : PR} {K : AV → Prop} (hc : PC P f pargs r) (hk : K (prAV r)) : ExPC P f pargs K := ⟨r, hc, hk⟩
theorem ACall.via {P : Program} {f : FuncId} {args : List AV} {H : List AObj} {K : AV → List AObj → Prop} (h : match frzVs H args with
    | some (pargs, H') => ExPC P f pargs fun x => K x H'
    | none => False) : ACall P f args H K := by
  split at h
  · rename_i pargs H' hf
    obtain ⟨r, hc, hk⟩ := h
    exact ACall.pure hc hf hk
  · exact h.elim
theorem ACall.pur {P : Program} {f : FuncId} {args : List AV} {pargs : List PB} {r : PR} {H H' : List AObj} {K : AV → List AObj → Prop} (hf : frzVs H args = some (pargs, H')) (hc : PC P f pargs r) (hk : K (prAV r) H') : ACall P f args H K := ACall.pure hc hf hk
theorem ACallD.mk {P : Program} {f : FuncId} {args : List AV} {pargs : List PB} {r : PR} {K : AV → Prop} (hf : frzVs [] args = some (pargs, [])) (hc : PC P f pargs r) (hk : K (prAV r)) : ACallD P f args K := ⟨pargs, r, hc, hf, hk⟩
theorem wrapI {n : Int} (h1 : -9223372036854775808 ≤ n) (h2 : n ≤ 9223372036854775807) : IntKind.i64.wrap n = n := IntWalk.i64_in n ⟨h1, h2⟩
theorem wrapS {k : Nat} (h : (k : Int) < 9223372036854775807) : IntKind.i64.wrap ((k : Int) + 1) = (k : Int) + 1 := wrapI (by omega) (by omega)
theorem encB_inj {a b : UInt8} (h : encB a = encB b) : a = b := by
  simp only [encB, List.cons.injEq, PV.int.injEq, true_and, and_true] at h
  exact UInt8.toNat_inj.1 (by omega)
theorem mapB_inj : ∀ {a b : List UInt8}, a.map encB = b.map encB → a = b
  | [], [], _ => rfl
  | [], _ :: _, h => by simp at h
  | _ :: _, [], h => by simp at h
  | x :: a, y :: b, h => by
    simp only [List.map_cons, List.cons.injEq] at h
    rw [encB_inj h.1, mapB_inj h.2]
@[go_sem] theorem ex_bytes (a : List UInt8) (p : List UInt8 → Prop) : (∃ bs, a.map encB = bs.map encB ∧ p bs) = p a := by
  apply propext
  constructor
  · rintro ⟨bs, h, hp⟩; rw [mapB_inj h]; exact hp
  · intro h; exact ⟨a, rfl, h⟩
@[go_sem] theorem ex_bytes0 (p : List UInt8 → Prop) : (∃ bs : List UInt8, ([] : List (List PV)) = bs.map encB ∧ p bs) = p [] := ex_bytes [] p
end Go.Aw
