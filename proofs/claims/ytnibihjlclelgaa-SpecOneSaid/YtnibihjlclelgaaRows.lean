/-
  No cell of these rows narrows 'for every input' (looked for: loops, veiled, ifaces, maps, wideKeys, modest, calm, conditions, laid).
  DERIVED. THE GIVEN ROWS OF THIS SEAT. 5 by the template 'for every input the law returns true; each argument reads behind the call as it read before'; 0 by the template 'total and deterministic' (their statements: YtnibihjlclelgaaTotals.lean).
  GIVEN WITH THE SEED: the statements are not yours to turn. If you find one false, say at which input.
  Laid BY PROGRAM, IN A SANDBOX (cutbox-rows.mjs): the forced cells as the released guide's own fill.sh prints them over the translation 3dcb38d7ceb5f030… (all of the seat's roots in one cut). By AI agents, Wed Nov 11 2026. No macro, syntax, notation, axiom, sorry.
-/
import Derived.Test.YtnibihjlclelgaaChecked
import GoSem.Claim
import GoSem.ClaimJoined
import GoSem.ClaimMapViews
import Derived.JoinedTies
import Derived.KernelRfl
namespace Go.Proofs.Ytnibihjlclelgaa
/- THE CELL 'sum', in the pinned program and in every row, IS THE sha256 OF THE DUMP (.gsa) THAT YtnibihjlclelgaaProg.lean LOADS. Nothing in Lean hashes anything: it is a label: what it is worth is what the hold of that sum in a sandbox is worth. -/
noncomputable def Try.pinned : Pinned := { name := "ytnibihjlclelgaa", sum := "3dcb38d7ceb5f0303a86a23b8c1d28a0f524c9205995732c367eadb508bb5731", checked := Try.checked }
namespace Rows
def none {H : Type} : Left H := { results := [], args := [] }

/-- 'precentorlaw22.SpecTells': WHATEVER THE INPUT: true; the input reads as it did. -/
def specTellsSpec : ChangeSpec := { name := "specTells", fn := fun _ => fun
  | [d1, d2, d3] => { results := [.lit (.bool true)], args := [d1, d2, d3] }
  | _ => none }
def specTellsRow : OpenClaim := { program := "ytnibihjlclelgaa", sum := "3dcb38d7ceb5f0303a86a23b8c1d28a0f524c9205995732c367eadb508bb5731", func := "precentor/precentorlaw22.SpecTells", spec := "specTells", unfollowed := true, recurses := true, apart := false }
def SpecTellsSaid : Prop := specTellsRow.holds Try.pinned (OpenSpec.ofChange specTellsSpec)

/-- ITS FALSE NEIGHBOUR: 'it returns false'. Refute it at one input. -/
def specTellsWrong : ChangeSpec := { name := "specTells", fn := fun _ => fun
  | [d1, d2, d3] => { results := [.lit (.bool false)], args := [d1, d2, d3] }
  | _ => none }
def SpecTellsWrongFalsely : Prop := specTellsRow.holds Try.pinned (OpenSpec.ofChange specTellsWrong)

/-- 'precentorlaw22.SpecOne': WHATEVER THE INPUT: true; the input reads as it did. -/
def specOneSpec : ChangeSpec := { name := "specOne", fn := fun _ => fun
  | [d1, d2] => { results := [.lit (.bool true)], args := [d1, d2] }
  | _ => none }
def specOneRow : OpenClaim := { program := "ytnibihjlclelgaa", sum := "3dcb38d7ceb5f0303a86a23b8c1d28a0f524c9205995732c367eadb508bb5731", func := "precentor/precentorlaw22.SpecOne", spec := "specOne", unfollowed := true, recurses := true, apart := false }
def SpecOneSaid : Prop := specOneRow.holds Try.pinned (OpenSpec.ofChange specOneSpec)

/-- ITS FALSE NEIGHBOUR: 'it returns false'. Refute it at one input. -/
def specOneWrong : ChangeSpec := { name := "specOne", fn := fun _ => fun
  | [d1, d2] => { results := [.lit (.bool false)], args := [d1, d2] }
  | _ => none }
def SpecOneWrongFalsely : Prop := specOneRow.holds Try.pinned (OpenSpec.ofChange specOneWrong)

/-- 'precentorlaw22.SpecAll': WHATEVER THE INPUT: true; the input reads as it did. -/
def specAllSpec : ChangeSpec := { name := "specAll", fn := fun _ => fun
  | [d1, d2, d3] => { results := [.lit (.bool true)], args := [d1, d2, d3] }
  | _ => none }
def specAllRow : OpenClaim := { program := "ytnibihjlclelgaa", sum := "3dcb38d7ceb5f0303a86a23b8c1d28a0f524c9205995732c367eadb508bb5731", func := "precentor/precentorlaw22.SpecAll", spec := "specAll", unfollowed := true, recurses := true, apart := false }
def SpecAllSaid : Prop := specAllRow.holds Try.pinned (OpenSpec.ofChange specAllSpec)

/-- ITS FALSE NEIGHBOUR: 'it returns false'. Refute it at one input. -/
def specAllWrong : ChangeSpec := { name := "specAll", fn := fun _ => fun
  | [d1, d2, d3] => { results := [.lit (.bool false)], args := [d1, d2, d3] }
  | _ => none }
def SpecAllWrongFalsely : Prop := specAllRow.holds Try.pinned (OpenSpec.ofChange specAllWrong)

/-- 'precentorlaw22.SpecLeft': WHATEVER THE INPUT: true; the input reads as it did. -/
def specLeftSpec : ChangeSpec := { name := "specLeft", fn := fun _ => fun
  | [d1, d2] => { results := [.lit (.bool true)], args := [d1, d2] }
  | _ => none }
def specLeftRow : OpenClaim := { program := "ytnibihjlclelgaa", sum := "3dcb38d7ceb5f0303a86a23b8c1d28a0f524c9205995732c367eadb508bb5731", func := "precentor/precentorlaw22.SpecLeft", spec := "specLeft", unfollowed := true, recurses := true, apart := false }
def SpecLeftSaid : Prop := specLeftRow.holds Try.pinned (OpenSpec.ofChange specLeftSpec)

/-- ITS FALSE NEIGHBOUR: 'it returns false'. Refute it at one input. -/
def specLeftWrong : ChangeSpec := { name := "specLeft", fn := fun _ => fun
  | [d1, d2] => { results := [.lit (.bool false)], args := [d1, d2] }
  | _ => none }
def SpecLeftWrongFalsely : Prop := specLeftRow.holds Try.pinned (OpenSpec.ofChange specLeftWrong)

/-- 'precentorlaw22.SpecCuts': WHATEVER THE INPUT: true; the input reads as it did. -/
def specCutsSpec : ChangeSpec := { name := "specCuts", fn := fun _ => fun
  | [d1, d2, d3] => { results := [.lit (.bool true)], args := [d1, d2, d3] }
  | _ => none }
def specCutsRow : OpenClaim := { program := "ytnibihjlclelgaa", sum := "3dcb38d7ceb5f0303a86a23b8c1d28a0f524c9205995732c367eadb508bb5731", func := "precentor/precentorlaw22.SpecCuts", spec := "specCuts", unfollowed := true, recurses := true, apart := false }
def SpecCutsSaid : Prop := specCutsRow.holds Try.pinned (OpenSpec.ofChange specCutsSpec)

/-- ITS FALSE NEIGHBOUR: 'it returns false'. Refute it at one input. -/
def specCutsWrong : ChangeSpec := { name := "specCuts", fn := fun _ => fun
  | [d1, d2, d3] => { results := [.lit (.bool false)], args := [d1, d2, d3] }
  | _ => none }
def SpecCutsWrongFalsely : Prop := specCutsRow.holds Try.pinned (OpenSpec.ofChange specCutsWrong)

/- THE SECOND FORM. 'bulk': how many values and letters a reading holds, each counted each time it is reached (what is shared counts as often as it is met; a slice's spare places count too). A statement '..UptoSaid' is the law's where the arguments, and the package variables that the reading takes, are together of bulk at most 1048576: NARROWER than '..Said'. Prove '..Said' where nothing that the law and all that it calls make is longer than what came in: it says more and counts as full. Else prove '..UptoSaid'. A law counts once. -/
mutual
def uptoBulk {H : Type} : DataW H → Nat
  | .lit (.string bytes) => bytes.length + 1
  | .lit _ => 1
  | .nil => 1
  | .ptr d => uptoBulk d + 1
  | .slice elems spare => uptoBulkAll elems + uptoBulkAll spare + 1
  | .agg parts => uptoBulkAll parts + 1
  | .iface _ d => uptoBulk d + 1
  | .map entries => uptoBulkEntries entries + 1
  | .held _ => 1
def uptoBulkAll {H : Type} : List (DataW H) → Nat
  | [] => 0
  | d :: r => uptoBulk d + uptoBulkAll r
def uptoBulkEntries {H : Type} : List (Lit × DataW H) → Nat
  | [] => 0
  | x :: r => uptoBulkEntry x + uptoBulkEntries r
def uptoBulkEntry {H : Type} : Lit × DataW H → Nat
  | (.string bytes, d) => bytes.length + uptoBulk d + 1
  | (_, d) => uptoBulk d + 1
 end
def uptoSmall : (H : Type) → List (DataW H) → Bool := fun _ ds => decide (uptoBulkAll ds ≤ 1048576)
def OpenSpec.upto (s : _root_.Go.ChangeSpec) : _root_.Go.OpenSpec := { _root_.Go.OpenSpec.ofChange s with cond := some uptoSmall }

/-- 'precentorlaw22.SpecTells', WHERE WHAT IT READS IS OF BULK AT MOST 1048576: true; the input reads as it did. -/
def specTellsUptoRow : OpenClaim := { program := "ytnibihjlclelgaa", sum := "3dcb38d7ceb5f0303a86a23b8c1d28a0f524c9205995732c367eadb508bb5731", func := "precentor/precentorlaw22.SpecTells", spec := "specTells", unfollowed := true, recurses := true, apart := false, narrowed := true }
def SpecTellsUptoSaid : Prop := specTellsUptoRow.holds Try.pinned (OpenSpec.upto specTellsSpec)

/-- 'precentorlaw22.SpecOne', WHERE WHAT IT READS IS OF BULK AT MOST 1048576: true; the input reads as it did. -/
def specOneUptoRow : OpenClaim := { program := "ytnibihjlclelgaa", sum := "3dcb38d7ceb5f0303a86a23b8c1d28a0f524c9205995732c367eadb508bb5731", func := "precentor/precentorlaw22.SpecOne", spec := "specOne", unfollowed := true, recurses := true, apart := false, narrowed := true }
def SpecOneUptoSaid : Prop := specOneUptoRow.holds Try.pinned (OpenSpec.upto specOneSpec)

/-- 'precentorlaw22.SpecAll', WHERE WHAT IT READS IS OF BULK AT MOST 1048576: true; the input reads as it did. -/
def specAllUptoRow : OpenClaim := { program := "ytnibihjlclelgaa", sum := "3dcb38d7ceb5f0303a86a23b8c1d28a0f524c9205995732c367eadb508bb5731", func := "precentor/precentorlaw22.SpecAll", spec := "specAll", unfollowed := true, recurses := true, apart := false, narrowed := true }
def SpecAllUptoSaid : Prop := specAllUptoRow.holds Try.pinned (OpenSpec.upto specAllSpec)

/-- 'precentorlaw22.SpecLeft', WHERE WHAT IT READS IS OF BULK AT MOST 1048576: true; the input reads as it did. -/
def specLeftUptoRow : OpenClaim := { program := "ytnibihjlclelgaa", sum := "3dcb38d7ceb5f0303a86a23b8c1d28a0f524c9205995732c367eadb508bb5731", func := "precentor/precentorlaw22.SpecLeft", spec := "specLeft", unfollowed := true, recurses := true, apart := false, narrowed := true }
def SpecLeftUptoSaid : Prop := specLeftUptoRow.holds Try.pinned (OpenSpec.upto specLeftSpec)

/-- 'precentorlaw22.SpecCuts', WHERE WHAT IT READS IS OF BULK AT MOST 1048576: true; the input reads as it did. -/
def specCutsUptoRow : OpenClaim := { program := "ytnibihjlclelgaa", sum := "3dcb38d7ceb5f0303a86a23b8c1d28a0f524c9205995732c367eadb508bb5731", func := "precentor/precentorlaw22.SpecCuts", spec := "specCuts", unfollowed := true, recurses := true, apart := false, narrowed := true }
def SpecCutsUptoSaid : Prop := specCutsUptoRow.holds Try.pinned (OpenSpec.upto specCutsSpec)

end Rows
end Go.Proofs.Ytnibihjlclelgaa
