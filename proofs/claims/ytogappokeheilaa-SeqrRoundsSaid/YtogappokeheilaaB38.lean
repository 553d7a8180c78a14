import Derived.Test.YtogappokeheilaaB27
set_option linter.unusedVariables false
set_option linter.unusedSimpArgs false
set_option maxRecDepth 100000
set_option maxHeartbeats 0
namespace Go.Proofs.Ytogappokeheilaa
open Go.Aw

theorem vps_int2 {S : Mem} {a b : Int} {us : List Value} (h : VPs S [.int .i64 a, .int .i64 b] us) : us = [.int .i64 a, .int .i64 b] := by
  obtain ⟨hl, hv⟩ := h
  match us, hl with
  | [u1, u2], _ =>
    have h1 := hv 0 _ _ rfl rfl
    have h2 := hv 1 _ _ rfl rfl
    cases h1; cases h2; rfl
theorem aggEq_turn (a b : Turn) : AggEq Try.prog 23 (turnP a) (turnP b) (decide (a = b)) := by
  intro S us vs w hu hv
  have hu' := vps_int2 hu
  have hv' := vps_int2 hv
  subst hu' hv'
  have ht : Try.prog.underlying 23 = some (.struct (Try.prog.fieldsOf 23)) := by kernel_rfl
  have hp : Try.prog.stoodInHeld 23 = false := by kernel_rfl
  rw [show Op.maxDepth = 9999 + 1 from rfl, run_equalIn_agg w 9999 23 _ _ ht hp]
  have hf := ht
  rw [Try.underlying23] at hf
  simp at hf
  rw [← hf]
  simp [Op.eqFields, go_sem, part, isAgg, Try.underlying3]
  obtain ⟨a1, a2⟩ := a
  obtain ⟨b1, b2⟩ := b
  by_cases h1 : a1 = b1 <;> by_cases h2 : a2 = b2 <;> simp [h1, h2]
theorem aggEq_self (a : Turn) : AggEq Try.prog 23 [.int .i64 a.Who, .int .i64 a.Used] [.int .i64 a.Who, .int .i64 a.Used] true := by
  have h := aggEq_turn a a
  rwa [decide_eq_true rfl] at h
theorem eqGuard_turn : Try.prog.eqGuardType Try.prog.depth 23 = false := by kernel_rfl
end Go.Proofs.Ytogappokeheilaa
