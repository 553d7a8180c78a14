/-
  No cell of these rows narrows 'for every input' (looked for: loops, veiled, ifaces, maps, wideKeys, modest, calm, conditions, laid).
  DERIVED. THE GIVEN ROWS OF THIS SEAT. 18 by the template 'for every input the law returns true; each argument reads behind the call as it read before'; 0 by the template 'total and deterministic' (their statements: YtogappokeheilaaTotals.lean).
  GIVEN WITH THE SEED: the statements are not yours to turn. If you find one false, say at which input.
  Laid BY PROGRAM, IN A SANDBOX (cutbox-rows.mjs): the forced cells as the released guide's own fill.sh prints them over the translation 07961690a88f7dd0… (all of the seat's roots in one cut). By AI agents, Wed Nov 11 2026. No macro, syntax, notation, axiom, sorry.
-/
import Derived.Test.YtogappokeheilaaChecked
import GoSem.Claim
import GoSem.ClaimJoined
import GoSem.ClaimMapViews
import Derived.JoinedTies
import Derived.KernelRfl
namespace Go.Proofs.Ytogappokeheilaa
/- THE CELL 'sum', in the pinned program and in every row, IS THE sha256 OF THE DUMP (.gsa) THAT YtogappokeheilaaProg.lean LOADS. Nothing in Lean hashes anything: it is a label: what it is worth is what the hold of that sum in a sandbox is worth. -/
noncomputable def Try.pinned : Pinned := { name := "ytogappokeheilaa", sum := "07961690a88f7dd095a833a2611c27bc97b05540169ebdbd2067fd86aad2835b", checked := Try.checked }
namespace Rows
def none {H : Type} : Left H := { results := [], args := [] }

/-- 'precentorlaw17.TokTells': WHATEVER THE INPUT: true; the input reads as it did. -/
def tokTellsSpec : ChangeSpec := { name := "tokTells", fn := fun _ => fun
  | [d] => { results := [.lit (.bool true)], args := [d] }
  | _ => none }
def tokTellsRow : OpenClaim := { program := "ytogappokeheilaa", sum := "07961690a88f7dd095a833a2611c27bc97b05540169ebdbd2067fd86aad2835b", func := "precentor/precentorlaw17.TokTells", spec := "tokTells", unfollowed := true, recurses := true, apart := false }
def TokTellsSaid : Prop := tokTellsRow.holds Try.pinned (OpenSpec.ofChange tokTellsSpec)

/-- ITS FALSE NEIGHBOUR: 'it returns false'. Refute it at one input. -/
def tokTellsWrong : ChangeSpec := { name := "tokTells", fn := fun _ => fun
  | [d] => { results := [.lit (.bool false)], args := [d] }
  | _ => none }
def TokTellsWrongFalsely : Prop := tokTellsRow.holds Try.pinned (OpenSpec.ofChange tokTellsWrong)

/-- 'precentorlaw17.TokRound': WHATEVER THE INPUT: true; the input reads as it did. -/
def tokRoundSpec : ChangeSpec := { name := "tokRound", fn := fun _ => fun
  | [d] => { results := [.lit (.bool true)], args := [d] }
  | _ => none }
def tokRoundRow : OpenClaim := { program := "ytogappokeheilaa", sum := "07961690a88f7dd095a833a2611c27bc97b05540169ebdbd2067fd86aad2835b", func := "precentor/precentorlaw17.TokRound", spec := "tokRound", unfollowed := true, recurses := true, apart := false }
def TokRoundSaid : Prop := tokRoundRow.holds Try.pinned (OpenSpec.ofChange tokRoundSpec)

/-- ITS FALSE NEIGHBOUR: 'it returns false'. Refute it at one input. -/
def tokRoundWrong : ChangeSpec := { name := "tokRound", fn := fun _ => fun
  | [d] => { results := [.lit (.bool false)], args := [d] }
  | _ => none }
def TokRoundWrongFalsely : Prop := tokRoundRow.holds Try.pinned (OpenSpec.ofChange tokRoundWrong)

/-- 'precentorlaw17.TokTurns': WHATEVER THE INPUT: true; the input reads as it did. -/
def tokTurnsSpec : ChangeSpec := { name := "tokTurns", fn := fun _ => fun
  | [d1, d2, d3] => { results := [.lit (.bool true)], args := [d1, d2, d3] }
  | _ => none }
def tokTurnsRow : OpenClaim := { program := "ytogappokeheilaa", sum := "07961690a88f7dd095a833a2611c27bc97b05540169ebdbd2067fd86aad2835b", func := "precentor/precentorlaw17.TokTurns", spec := "tokTurns", unfollowed := true, recurses := true, apart := false }
def TokTurnsSaid : Prop := tokTurnsRow.holds Try.pinned (OpenSpec.ofChange tokTurnsSpec)

/-- ITS FALSE NEIGHBOUR: 'it returns false'. Refute it at one input. -/
def tokTurnsWrong : ChangeSpec := { name := "tokTurns", fn := fun _ => fun
  | [d1, d2, d3] => { results := [.lit (.bool false)], args := [d1, d2, d3] }
  | _ => none }
def TokTurnsWrongFalsely : Prop := tokTurnsRow.holds Try.pinned (OpenSpec.ofChange tokTurnsWrong)

/-- 'precentorlaw16.SeqrTells': WHATEVER THE INPUT: true; the input reads as it did. -/
def seqrTellsSpec : ChangeSpec := { name := "seqrTells", fn := fun _ => fun
  | [d] => { results := [.lit (.bool true)], args := [d] }
  | _ => none }
def seqrTellsRow : OpenClaim := { program := "ytogappokeheilaa", sum := "07961690a88f7dd095a833a2611c27bc97b05540169ebdbd2067fd86aad2835b", func := "precentor/precentorlaw16.SeqrTells", spec := "seqrTells", unfollowed := true, recurses := true, apart := false }
def SeqrTellsSaid : Prop := seqrTellsRow.holds Try.pinned (OpenSpec.ofChange seqrTellsSpec)

/-- ITS FALSE NEIGHBOUR: 'it returns false'. Refute it at one input. -/
def seqrTellsWrong : ChangeSpec := { name := "seqrTells", fn := fun _ => fun
  | [d] => { results := [.lit (.bool false)], args := [d] }
  | _ => none }
def SeqrTellsWrongFalsely : Prop := seqrTellsRow.holds Try.pinned (OpenSpec.ofChange seqrTellsWrong)

/-- 'precentorlaw16.SeqrSaid': WHATEVER THE INPUT: true; the input reads as it did. -/
def seqrSaidSpec : ChangeSpec := { name := "seqrSaid", fn := fun _ => fun
  | [d1, d2, d3] => { results := [.lit (.bool true)], args := [d1, d2, d3] }
  | _ => none }
def seqrSaidRow : OpenClaim := { program := "ytogappokeheilaa", sum := "07961690a88f7dd095a833a2611c27bc97b05540169ebdbd2067fd86aad2835b", func := "precentor/precentorlaw16.SeqrSaid", spec := "seqrSaid", unfollowed := true, recurses := true, apart := false }
def SeqrSaidSaid : Prop := seqrSaidRow.holds Try.pinned (OpenSpec.ofChange seqrSaidSpec)

/-- ITS FALSE NEIGHBOUR: 'it returns false'. Refute it at one input. -/
def seqrSaidWrong : ChangeSpec := { name := "seqrSaid", fn := fun _ => fun
  | [d1, d2, d3] => { results := [.lit (.bool false)], args := [d1, d2, d3] }
  | _ => none }
def SeqrSaidWrongFalsely : Prop := seqrSaidRow.holds Try.pinned (OpenSpec.ofChange seqrSaidWrong)

/-- 'precentorlaw16.SeqrStays': WHATEVER THE INPUT: true; the input reads as it did. -/
def seqrStaysSpec : ChangeSpec := { name := "seqrStays", fn := fun _ => fun
  | [d1, d2] => { results := [.lit (.bool true)], args := [d1, d2] }
  | _ => none }
def seqrStaysRow : OpenClaim := { program := "ytogappokeheilaa", sum := "07961690a88f7dd095a833a2611c27bc97b05540169ebdbd2067fd86aad2835b", func := "precentor/precentorlaw16.SeqrStays", spec := "seqrStays", unfollowed := true, recurses := true, apart := false }
def SeqrStaysSaid : Prop := seqrStaysRow.holds Try.pinned (OpenSpec.ofChange seqrStaysSpec)

/-- ITS FALSE NEIGHBOUR: 'it returns false'. Refute it at one input. -/
def seqrStaysWrong : ChangeSpec := { name := "seqrStays", fn := fun _ => fun
  | [d1, d2] => { results := [.lit (.bool false)], args := [d1, d2] }
  | _ => none }
def SeqrStaysWrongFalsely : Prop := seqrStaysRow.holds Try.pinned (OpenSpec.ofChange seqrStaysWrong)

/-- 'precentorlaw16.SeqrRounds': WHATEVER THE INPUT: true; the input reads as it did. -/
def seqrRoundsSpec : ChangeSpec := { name := "seqrRounds", fn := fun _ => fun
  | [d1, d2] => { results := [.lit (.bool true)], args := [d1, d2] }
  | _ => none }
def seqrRoundsRow : OpenClaim := { program := "ytogappokeheilaa", sum := "07961690a88f7dd095a833a2611c27bc97b05540169ebdbd2067fd86aad2835b", func := "precentor/precentorlaw16.SeqrRounds", spec := "seqrRounds", unfollowed := true, recurses := true, apart := false }
def SeqrRoundsSaid : Prop := seqrRoundsRow.holds Try.pinned (OpenSpec.ofChange seqrRoundsSpec)

/-- ITS FALSE NEIGHBOUR: 'it returns false'. Refute it at one input. -/
def seqrRoundsWrong : ChangeSpec := { name := "seqrRounds", fn := fun _ => fun
  | [d1, d2] => { results := [.lit (.bool false)], args := [d1, d2] }
  | _ => none }
def SeqrRoundsWrongFalsely : Prop := seqrRoundsRow.holds Try.pinned (OpenSpec.ofChange seqrRoundsWrong)

/-- 'precentorlaw16.SeqrSilent': WHATEVER THE INPUT: true; the input reads as it did. -/
def seqrSilentSpec : ChangeSpec := { name := "seqrSilent", fn := fun _ => fun
  | [d1, d2, d3] => { results := [.lit (.bool true)], args := [d1, d2, d3] }
  | _ => none }
def seqrSilentRow : OpenClaim := { program := "ytogappokeheilaa", sum := "07961690a88f7dd095a833a2611c27bc97b05540169ebdbd2067fd86aad2835b", func := "precentor/precentorlaw16.SeqrSilent", spec := "seqrSilent", unfollowed := true, recurses := true, apart := false }
def SeqrSilentSaid : Prop := seqrSilentRow.holds Try.pinned (OpenSpec.ofChange seqrSilentSpec)

/-- ITS FALSE NEIGHBOUR: 'it returns false'. Refute it at one input. -/
def seqrSilentWrong : ChangeSpec := { name := "seqrSilent", fn := fun _ => fun
  | [d1, d2, d3] => { results := [.lit (.bool false)], args := [d1, d2, d3] }
  | _ => none }
def SeqrSilentWrongFalsely : Prop := seqrSilentRow.holds Try.pinned (OpenSpec.ofChange seqrSilentWrong)

/-- 'precentorlaw15.LaneTells': WHATEVER THE INPUT: true; the input reads as it did. -/
def laneTellsSpec : ChangeSpec := { name := "laneTells", fn := fun _ => fun
  | [d1, d2, d3] => { results := [.lit (.bool true)], args := [d1, d2, d3] }
  | _ => none }
def laneTellsRow : OpenClaim := { program := "ytogappokeheilaa", sum := "07961690a88f7dd095a833a2611c27bc97b05540169ebdbd2067fd86aad2835b", func := "precentor/precentorlaw15.LaneTells", spec := "laneTells", unfollowed := true, recurses := true, apart := false }
def LaneTellsSaid : Prop := laneTellsRow.holds Try.pinned (OpenSpec.ofChange laneTellsSpec)

/-- ITS FALSE NEIGHBOUR: 'it returns false'. Refute it at one input. -/
def laneTellsWrong : ChangeSpec := { name := "laneTells", fn := fun _ => fun
  | [d1, d2, d3] => { results := [.lit (.bool false)], args := [d1, d2, d3] }
  | _ => none }
def LaneTellsWrongFalsely : Prop := laneTellsRow.holds Try.pinned (OpenSpec.ofChange laneTellsWrong)

/-- 'precentorlaw15.LaneDoes': WHATEVER THE INPUT: true; the input reads as it did. -/
def laneDoesSpec : ChangeSpec := { name := "laneDoes", fn := fun _ => fun
  | [d] => { results := [.lit (.bool true)], args := [d] }
  | _ => none }
def laneDoesRow : OpenClaim := { program := "ytogappokeheilaa", sum := "07961690a88f7dd095a833a2611c27bc97b05540169ebdbd2067fd86aad2835b", func := "precentor/precentorlaw15.LaneDoes", spec := "laneDoes", unfollowed := true, recurses := true, apart := false }
def LaneDoesSaid : Prop := laneDoesRow.holds Try.pinned (OpenSpec.ofChange laneDoesSpec)

/-- ITS FALSE NEIGHBOUR: 'it returns false'. Refute it at one input. -/
def laneDoesWrong : ChangeSpec := { name := "laneDoes", fn := fun _ => fun
  | [d] => { results := [.lit (.bool false)], args := [d] }
  | _ => none }
def LaneDoesWrongFalsely : Prop := laneDoesRow.holds Try.pinned (OpenSpec.ofChange laneDoesWrong)

/-- 'precentorlaw15.LaneStays': WHATEVER THE INPUT: true; the input reads as it did. -/
def laneStaysSpec : ChangeSpec := { name := "laneStays", fn := fun _ => fun
  | [d] => { results := [.lit (.bool true)], args := [d] }
  | _ => none }
def laneStaysRow : OpenClaim := { program := "ytogappokeheilaa", sum := "07961690a88f7dd095a833a2611c27bc97b05540169ebdbd2067fd86aad2835b", func := "precentor/precentorlaw15.LaneStays", spec := "laneStays", unfollowed := true, recurses := true, apart := false }
def LaneStaysSaid : Prop := laneStaysRow.holds Try.pinned (OpenSpec.ofChange laneStaysSpec)

/-- ITS FALSE NEIGHBOUR: 'it returns false'. Refute it at one input. -/
def laneStaysWrong : ChangeSpec := { name := "laneStays", fn := fun _ => fun
  | [d] => { results := [.lit (.bool false)], args := [d] }
  | _ => none }
def LaneStaysWrongFalsely : Prop := laneStaysRow.holds Try.pinned (OpenSpec.ofChange laneStaysWrong)

/-- 'precentorlaw15.LaneOrder': WHATEVER THE INPUT: true; the input reads as it did. -/
def laneOrderSpec : ChangeSpec := { name := "laneOrder", fn := fun _ => fun
  | [d1, d2, d3] => { results := [.lit (.bool true)], args := [d1, d2, d3] }
  | _ => none }
def laneOrderRow : OpenClaim := { program := "ytogappokeheilaa", sum := "07961690a88f7dd095a833a2611c27bc97b05540169ebdbd2067fd86aad2835b", func := "precentor/precentorlaw15.LaneOrder", spec := "laneOrder", unfollowed := true, recurses := true, apart := false }
def LaneOrderSaid : Prop := laneOrderRow.holds Try.pinned (OpenSpec.ofChange laneOrderSpec)

/-- ITS FALSE NEIGHBOUR: 'it returns false'. Refute it at one input. -/
def laneOrderWrong : ChangeSpec := { name := "laneOrder", fn := fun _ => fun
  | [d1, d2, d3] => { results := [.lit (.bool false)], args := [d1, d2, d3] }
  | _ => none }
def LaneOrderWrongFalsely : Prop := laneOrderRow.holds Try.pinned (OpenSpec.ofChange laneOrderWrong)

/-- 'precentorlaw15.LaneSets': WHATEVER THE INPUT: true; the input reads as it did. -/
def laneSetsSpec : ChangeSpec := { name := "laneSets", fn := fun _ => fun
  | [d1, d2] => { results := [.lit (.bool true)], args := [d1, d2] }
  | _ => none }
def laneSetsRow : OpenClaim := { program := "ytogappokeheilaa", sum := "07961690a88f7dd095a833a2611c27bc97b05540169ebdbd2067fd86aad2835b", func := "precentor/precentorlaw15.LaneSets", spec := "laneSets", unfollowed := true, recurses := true, apart := false }
def LaneSetsSaid : Prop := laneSetsRow.holds Try.pinned (OpenSpec.ofChange laneSetsSpec)

/-- ITS FALSE NEIGHBOUR: 'it returns false'. Refute it at one input. -/
def laneSetsWrong : ChangeSpec := { name := "laneSets", fn := fun _ => fun
  | [d1, d2] => { results := [.lit (.bool false)], args := [d1, d2] }
  | _ => none }
def LaneSetsWrongFalsely : Prop := laneSetsRow.holds Try.pinned (OpenSpec.ofChange laneSetsWrong)

/-- 'precentorlaw15.LaneCounts': WHATEVER THE INPUT: true; the input reads as it did. -/
def laneCountsSpec : ChangeSpec := { name := "laneCounts", fn := fun _ => fun
  | [d] => { results := [.lit (.bool true)], args := [d] }
  | _ => none }
def laneCountsRow : OpenClaim := { program := "ytogappokeheilaa", sum := "07961690a88f7dd095a833a2611c27bc97b05540169ebdbd2067fd86aad2835b", func := "precentor/precentorlaw15.LaneCounts", spec := "laneCounts", unfollowed := true, recurses := true, apart := false }
def LaneCountsSaid : Prop := laneCountsRow.holds Try.pinned (OpenSpec.ofChange laneCountsSpec)

/-- ITS FALSE NEIGHBOUR: 'it returns false'. Refute it at one input. -/
def laneCountsWrong : ChangeSpec := { name := "laneCounts", fn := fun _ => fun
  | [d] => { results := [.lit (.bool false)], args := [d] }
  | _ => none }
def LaneCountsWrongFalsely : Prop := laneCountsRow.holds Try.pinned (OpenSpec.ofChange laneCountsWrong)

/-- 'precentorlaw18.OrderTells': WHATEVER THE INPUT: true; the input reads as it did. -/
def orderTellsSpec : ChangeSpec := { name := "orderTells", fn := fun _ => fun
  | [d] => { results := [.lit (.bool true)], args := [d] }
  | _ => none }
def orderTellsRow : OpenClaim := { program := "ytogappokeheilaa", sum := "07961690a88f7dd095a833a2611c27bc97b05540169ebdbd2067fd86aad2835b", func := "precentor/precentorlaw18.OrderTells", spec := "orderTells", unfollowed := true, recurses := true, apart := false }
def OrderTellsSaid : Prop := orderTellsRow.holds Try.pinned (OpenSpec.ofChange orderTellsSpec)

/-- ITS FALSE NEIGHBOUR: 'it returns false'. Refute it at one input. -/
def orderTellsWrong : ChangeSpec := { name := "orderTells", fn := fun _ => fun
  | [d] => { results := [.lit (.bool false)], args := [d] }
  | _ => none }
def OrderTellsWrongFalsely : Prop := orderTellsRow.holds Try.pinned (OpenSpec.ofChange orderTellsWrong)

/-- 'precentorlaw18.OrderAll': WHATEVER THE INPUT: true; the input reads as it did. -/
def orderAllSpec : ChangeSpec := { name := "orderAll", fn := fun _ => fun
  | [d1, d2, d3] => { results := [.lit (.bool true)], args := [d1, d2, d3] }
  | _ => none }
def orderAllRow : OpenClaim := { program := "ytogappokeheilaa", sum := "07961690a88f7dd095a833a2611c27bc97b05540169ebdbd2067fd86aad2835b", func := "precentor/precentorlaw18.OrderAll", spec := "orderAll", unfollowed := true, recurses := true, apart := false }
def OrderAllSaid : Prop := orderAllRow.holds Try.pinned (OpenSpec.ofChange orderAllSpec)

/-- ITS FALSE NEIGHBOUR: 'it returns false'. Refute it at one input. -/
def orderAllWrong : ChangeSpec := { name := "orderAll", fn := fun _ => fun
  | [d1, d2, d3] => { results := [.lit (.bool false)], args := [d1, d2, d3] }
  | _ => none }
def OrderAllWrongFalsely : Prop := orderAllRow.holds Try.pinned (OpenSpec.ofChange orderAllWrong)

/-- 'precentorlaw18.OrderNone': WHATEVER THE INPUT: true; the input reads as it did. -/
def orderNoneSpec : ChangeSpec := { name := "orderNone", fn := fun _ => fun
  | [d] => { results := [.lit (.bool true)], args := [d] }
  | _ => none }
def orderNoneRow : OpenClaim := { program := "ytogappokeheilaa", sum := "07961690a88f7dd095a833a2611c27bc97b05540169ebdbd2067fd86aad2835b", func := "precentor/precentorlaw18.OrderNone", spec := "orderNone", unfollowed := true, recurses := true, apart := false }
def OrderNoneSaid : Prop := orderNoneRow.holds Try.pinned (OpenSpec.ofChange orderNoneSpec)

/-- ITS FALSE NEIGHBOUR: 'it returns false'. Refute it at one input. -/
def orderNoneWrong : ChangeSpec := { name := "orderNone", fn := fun _ => fun
  | [d] => { results := [.lit (.bool false)], args := [d] }
  | _ => none }
def OrderNoneWrongFalsely : Prop := orderNoneRow.holds Try.pinned (OpenSpec.ofChange orderNoneWrong)

/-- 'precentorlaw18.OrderRests': WHATEVER THE INPUT: true; the input reads as it did. -/
def orderRestsSpec : ChangeSpec := { name := "orderRests", fn := fun _ => fun
  | [d] => { results := [.lit (.bool true)], args := [d] }
  | _ => none }
def orderRestsRow : OpenClaim := { program := "ytogappokeheilaa", sum := "07961690a88f7dd095a833a2611c27bc97b05540169ebdbd2067fd86aad2835b", func := "precentor/precentorlaw18.OrderRests", spec := "orderRests", unfollowed := true, recurses := true, apart := false }
def OrderRestsSaid : Prop := orderRestsRow.holds Try.pinned (OpenSpec.ofChange orderRestsSpec)

/-- ITS FALSE NEIGHBOUR: 'it returns false'. Refute it at one input. -/
def orderRestsWrong : ChangeSpec := { name := "orderRests", fn := fun _ => fun
  | [d] => { results := [.lit (.bool false)], args := [d] }
  | _ => none }
def OrderRestsWrongFalsely : Prop := orderRestsRow.holds Try.pinned (OpenSpec.ofChange orderRestsWrong)

/- THE SECOND FORM. 'bulk': how many values and letters a reading holds, each counted each time it is reached (what is shared counts as often as it is met; a slice's spare places count too). A statement '..UptoSaid' is the law's where the arguments, and the package variables that the reading takes, are together of bulk at most 1048576: NARROWER than '..Said'. Prove '..Said' where nothing that the law and all that it calls make is longer than what came in: it says more and counts as full. Else prove '..UptoSaid'. A law counts once. -/
mutual
def uptoBulk {H : Type} : DataW H → Nat
  | .lit (.string bytes) => bytes.length + 1
  | .lit _ => 1
  | .nil => 1
  | .ptr d => uptoBulk d + 1
  | .slice elems spare => uptoBulkAll elems + uptoBulkAll spare + 1
  | .agg parts => uptoBulkAll parts + 1
  | .iface _ d => uptoBulk d + 1
  | .map entries => uptoBulkEntries entries + 1
  | .held _ => 1
def uptoBulkAll {H : Type} : List (DataW H) → Nat
  | [] => 0
  | d :: r => uptoBulk d + uptoBulkAll r
def uptoBulkEntries {H : Type} : List (Lit × DataW H) → Nat
  | [] => 0
  | x :: r => uptoBulkEntry x + uptoBulkEntries r
def uptoBulkEntry {H : Type} : Lit × DataW H → Nat
  | (.string bytes, d) => bytes.length + uptoBulk d + 1
  | (_, d) => uptoBulk d + 1
 end
def uptoSmall : (H : Type) → List (DataW H) → Bool := fun _ ds => decide (uptoBulkAll ds ≤ 1048576)
def OpenSpec.upto (s : _root_.Go.ChangeSpec) : _root_.Go.OpenSpec := { _root_.Go.OpenSpec.ofChange s with cond := some uptoSmall }

/-- 'precentorlaw17.TokTells', WHERE WHAT IT READS IS OF BULK AT MOST 1048576: true; the input reads as it did. -/
def tokTellsUptoRow : OpenClaim := { program := "ytogappokeheilaa", sum := "07961690a88f7dd095a833a2611c27bc97b05540169ebdbd2067fd86aad2835b", func := "precentor/precentorlaw17.TokTells", spec := "tokTells", unfollowed := true, recurses := true, apart := false, narrowed := true }
def TokTellsUptoSaid : Prop := tokTellsUptoRow.holds Try.pinned (OpenSpec.upto tokTellsSpec)

/-- 'precentorlaw17.TokRound', WHERE WHAT IT READS IS OF BULK AT MOST 1048576: true; the input reads as it did. -/
def tokRoundUptoRow : OpenClaim := { program := "ytogappokeheilaa", sum := "07961690a88f7dd095a833a2611c27bc97b05540169ebdbd2067fd86aad2835b", func := "precentor/precentorlaw17.TokRound", spec := "tokRound", unfollowed := true, recurses := true, apart := false, narrowed := true }
def TokRoundUptoSaid : Prop := tokRoundUptoRow.holds Try.pinned (OpenSpec.upto tokRoundSpec)

/-- 'precentorlaw17.TokTurns', WHERE WHAT IT READS IS OF BULK AT MOST 1048576: true; the input reads as it did. -/
def tokTurnsUptoRow : OpenClaim := { program := "ytogappokeheilaa", sum := "07961690a88f7dd095a833a2611c27bc97b05540169ebdbd2067fd86aad2835b", func := "precentor/precentorlaw17.TokTurns", spec := "tokTurns", unfollowed := true, recurses := true, apart := false, narrowed := true }
def TokTurnsUptoSaid : Prop := tokTurnsUptoRow.holds Try.pinned (OpenSpec.upto tokTurnsSpec)

/-- 'precentorlaw16.SeqrTells', WHERE WHAT IT READS IS OF BULK AT MOST 1048576: true; the input reads as it did. -/
def seqrTellsUptoRow : OpenClaim := { program := "ytogappokeheilaa", sum := "07961690a88f7dd095a833a2611c27bc97b05540169ebdbd2067fd86aad2835b", func := "precentor/precentorlaw16.SeqrTells", spec := "seqrTells", unfollowed := true, recurses := true, apart := false, narrowed := true }
def SeqrTellsUptoSaid : Prop := seqrTellsUptoRow.holds Try.pinned (OpenSpec.upto seqrTellsSpec)

/-- 'precentorlaw16.SeqrSaid', WHERE WHAT IT READS IS OF BULK AT MOST 1048576: true; the input reads as it did. -/
def seqrSaidUptoRow : OpenClaim := { program := "ytogappokeheilaa", sum := "07961690a88f7dd095a833a2611c27bc97b05540169ebdbd2067fd86aad2835b", func := "precentor/precentorlaw16.SeqrSaid", spec := "seqrSaid", unfollowed := true, recurses := true, apart := false, narrowed := true }
def SeqrSaidUptoSaid : Prop := seqrSaidUptoRow.holds Try.pinned (OpenSpec.upto seqrSaidSpec)

/-- 'precentorlaw16.SeqrStays', WHERE WHAT IT READS IS OF BULK AT MOST 1048576: true; the input reads as it did. -/
def seqrStaysUptoRow : OpenClaim := { program := "ytogappokeheilaa", sum := "07961690a88f7dd095a833a2611c27bc97b05540169ebdbd2067fd86aad2835b", func := "precentor/precentorlaw16.SeqrStays", spec := "seqrStays", unfollowed := true, recurses := true, apart := false, narrowed := true }
def SeqrStaysUptoSaid : Prop := seqrStaysUptoRow.holds Try.pinned (OpenSpec.upto seqrStaysSpec)

/-- 'precentorlaw16.SeqrRounds', WHERE WHAT IT READS IS OF BULK AT MOST 1048576: true; the input reads as it did. -/
def seqrRoundsUptoRow : OpenClaim := { program := "ytogappokeheilaa", sum := "07961690a88f7dd095a833a2611c27bc97b05540169ebdbd2067fd86aad2835b", func := "precentor/precentorlaw16.SeqrRounds", spec := "seqrRounds", unfollowed := true, recurses := true, apart := false, narrowed := true }
def SeqrRoundsUptoSaid : Prop := seqrRoundsUptoRow.holds Try.pinned (OpenSpec.upto seqrRoundsSpec)

/-- 'precentorlaw16.SeqrSilent', WHERE WHAT IT READS IS OF BULK AT MOST 1048576: true; the input reads as it did. -/
def seqrSilentUptoRow : OpenClaim := { program := "ytogappokeheilaa", sum := "07961690a88f7dd095a833a2611c27bc97b05540169ebdbd2067fd86aad2835b", func := "precentor/precentorlaw16.SeqrSilent", spec := "seqrSilent", unfollowed := true, recurses := true, apart := false, narrowed := true }
def SeqrSilentUptoSaid : Prop := seqrSilentUptoRow.holds Try.pinned (OpenSpec.upto seqrSilentSpec)

/-- 'precentorlaw15.LaneTells', WHERE WHAT IT READS IS OF BULK AT MOST 1048576: true; the input reads as it did. -/
def laneTellsUptoRow : OpenClaim := { program := "ytogappokeheilaa", sum := "07961690a88f7dd095a833a2611c27bc97b05540169ebdbd2067fd86aad2835b", func := "precentor/precentorlaw15.LaneTells", spec := "laneTells", unfollowed := true, recurses := true, apart := false, narrowed := true }
def LaneTellsUptoSaid : Prop := laneTellsUptoRow.holds Try.pinned (OpenSpec.upto laneTellsSpec)

/-- 'precentorlaw15.LaneDoes', WHERE WHAT IT READS IS OF BULK AT MOST 1048576: true; the input reads as it did. -/
def laneDoesUptoRow : OpenClaim := { program := "ytogappokeheilaa", sum := "07961690a88f7dd095a833a2611c27bc97b05540169ebdbd2067fd86aad2835b", func := "precentor/precentorlaw15.LaneDoes", spec := "laneDoes", unfollowed := true, recurses := true, apart := false, narrowed := true }
def LaneDoesUptoSaid : Prop := laneDoesUptoRow.holds Try.pinned (OpenSpec.upto laneDoesSpec)

/-- 'precentorlaw15.LaneStays', WHERE WHAT IT READS IS OF BULK AT MOST 1048576: true; the input reads as it did. -/
def laneStaysUptoRow : OpenClaim := { program := "ytogappokeheilaa", sum := "07961690a88f7dd095a833a2611c27bc97b05540169ebdbd2067fd86aad2835b", func := "precentor/precentorlaw15.LaneStays", spec := "laneStays", unfollowed := true, recurses := true, apart := false, narrowed := true }
def LaneStaysUptoSaid : Prop := laneStaysUptoRow.holds Try.pinned (OpenSpec.upto laneStaysSpec)

/-- 'precentorlaw15.LaneOrder', WHERE WHAT IT READS IS OF BULK AT MOST 1048576: true; the input reads as it did. -/
def laneOrderUptoRow : OpenClaim := { program := "ytogappokeheilaa", sum := "07961690a88f7dd095a833a2611c27bc97b05540169ebdbd2067fd86aad2835b", func := "precentor/precentorlaw15.LaneOrder", spec := "laneOrder", unfollowed := true, recurses := true, apart := false, narrowed := true }
def LaneOrderUptoSaid : Prop := laneOrderUptoRow.holds Try.pinned (OpenSpec.upto laneOrderSpec)

/-- 'precentorlaw15.LaneSets', WHERE WHAT IT READS IS OF BULK AT MOST 1048576: true; the input reads as it did. -/
def laneSetsUptoRow : OpenClaim := { program := "ytogappokeheilaa", sum := "07961690a88f7dd095a833a2611c27bc97b05540169ebdbd2067fd86aad2835b", func := "precentor/precentorlaw15.LaneSets", spec := "laneSets", unfollowed := true, recurses := true, apart := false, narrowed := true }
def LaneSetsUptoSaid : Prop := laneSetsUptoRow.holds Try.pinned (OpenSpec.upto laneSetsSpec)

/-- 'precentorlaw15.LaneCounts', WHERE WHAT IT READS IS OF BULK AT MOST 1048576: true; the input reads as it did. -/
def laneCountsUptoRow : OpenClaim := { program := "ytogappokeheilaa", sum := "07961690a88f7dd095a833a2611c27bc97b05540169ebdbd2067fd86aad2835b", func := "precentor/precentorlaw15.LaneCounts", spec := "laneCounts", unfollowed := true, recurses := true, apart := false, narrowed := true }
def LaneCountsUptoSaid : Prop := laneCountsUptoRow.holds Try.pinned (OpenSpec.upto laneCountsSpec)

/-- 'precentorlaw18.OrderTells', WHERE WHAT IT READS IS OF BULK AT MOST 1048576: true; the input reads as it did. -/
def orderTellsUptoRow : OpenClaim := { program := "ytogappokeheilaa", sum := "07961690a88f7dd095a833a2611c27bc97b05540169ebdbd2067fd86aad2835b", func := "precentor/precentorlaw18.OrderTells", spec := "orderTells", unfollowed := true, recurses := true, apart := false, narrowed := true }
def OrderTellsUptoSaid : Prop := orderTellsUptoRow.holds Try.pinned (OpenSpec.upto orderTellsSpec)

/-- 'precentorlaw18.OrderAll', WHERE WHAT IT READS IS OF BULK AT MOST 1048576: true; the input reads as it did. -/
def orderAllUptoRow : OpenClaim := { program := "ytogappokeheilaa", sum := "07961690a88f7dd095a833a2611c27bc97b05540169ebdbd2067fd86aad2835b", func := "precentor/precentorlaw18.OrderAll", spec := "orderAll", unfollowed := true, recurses := true, apart := false, narrowed := true }
def OrderAllUptoSaid : Prop := orderAllUptoRow.holds Try.pinned (OpenSpec.upto orderAllSpec)

/-- 'precentorlaw18.OrderNone', WHERE WHAT IT READS IS OF BULK AT MOST 1048576: true; the input reads as it did. -/
def orderNoneUptoRow : OpenClaim := { program := "ytogappokeheilaa", sum := "07961690a88f7dd095a833a2611c27bc97b05540169ebdbd2067fd86aad2835b", func := "precentor/precentorlaw18.OrderNone", spec := "orderNone", unfollowed := true, recurses := true, apart := false, narrowed := true }
def OrderNoneUptoSaid : Prop := orderNoneUptoRow.holds Try.pinned (OpenSpec.upto orderNoneSpec)

/-- 'precentorlaw18.OrderRests', WHERE WHAT IT READS IS OF BULK AT MOST 1048576: true; the input reads as it did. -/
def orderRestsUptoRow : OpenClaim := { program := "ytogappokeheilaa", sum := "07961690a88f7dd095a833a2611c27bc97b05540169ebdbd2067fd86aad2835b", func := "precentor/precentorlaw18.OrderRests", spec := "orderRests", unfollowed := true, recurses := true, apart := false, narrowed := true }
def OrderRestsUptoSaid : Prop := orderRestsUptoRow.holds Try.pinned (OpenSpec.upto orderRestsSpec)

end Rows
end Go.Proofs.Ytogappokeheilaa
