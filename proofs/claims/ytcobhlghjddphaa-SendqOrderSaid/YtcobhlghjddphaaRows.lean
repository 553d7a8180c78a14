/-
  No cell of these rows narrows 'for every input' (looked for: loops, veiled, ifaces, maps, wideKeys, modest, calm, conditions, laid).
  DERIVED. THE GIVEN ROWS OF THIS SEAT. 11 by the template 'for every input the law returns true; each argument reads behind the call as it read before'; 0 by the template 'total and deterministic' (their statements: YtcobhlghjddphaaTotals.lean).
  GIVEN WITH THE SEED: the statements are not yours to turn. If you find one false, say at which input.
  Laid BY PROGRAM, IN A SANDBOX (cutbox-rows.mjs): the forced cells as the released guide's own fill.sh prints them over the translation fed0ed4ebc91e827… (all of the seat's roots in one cut). By AI agents, Wed Nov 11 2026. No macro, syntax, notation, axiom, sorry.
-/
import Derived.Test.YtcobhlghjddphaaChecked
import GoSem.Claim
import GoSem.ClaimJoined
import GoSem.ClaimMapViews
import Derived.JoinedTies
import Derived.KernelRfl
namespace Go.Proofs.Ytcobhlghjddphaa
/- THE CELL 'sum', in the pinned program and in every row, IS THE sha256 OF THE DUMP (.gsa) THAT YtcobhlghjddphaaProg.lean LOADS. Nothing in Lean hashes anything: it is a label: what it is worth is what the hold of that sum in a sandbox is worth. -/
noncomputable def Try.pinned : Pinned := { name := "ytcobhlghjddphaa", sum := "fed0ed4ebc91e827e17b772bf25415ccad5c2068ed1aac116514dc819622b479", checked := Try.checked }
namespace Rows
def none {H : Type} : Left H := { results := [], args := [] }

/-- 'precentorlaw12.SendqTells': WHATEVER THE INPUT: true; the input reads as it did. -/
def sendqTellsSpec : ChangeSpec := { name := "sendqTells", fn := fun _ => fun
  | [d] => { results := [.lit (.bool true)], args := [d] }
  | _ => none }
def sendqTellsRow : OpenClaim := { program := "ytcobhlghjddphaa", sum := "fed0ed4ebc91e827e17b772bf25415ccad5c2068ed1aac116514dc819622b479", func := "precentor/precentorlaw12.SendqTells", spec := "sendqTells", unfollowed := true, recurses := true, apart := false }
def SendqTellsSaid : Prop := sendqTellsRow.holds Try.pinned (OpenSpec.ofChange sendqTellsSpec)

/-- ITS FALSE NEIGHBOUR: 'it returns false'. Refute it at one input. -/
def sendqTellsWrong : ChangeSpec := { name := "sendqTells", fn := fun _ => fun
  | [d] => { results := [.lit (.bool false)], args := [d] }
  | _ => none }
def SendqTellsWrongFalsely : Prop := sendqTellsRow.holds Try.pinned (OpenSpec.ofChange sendqTellsWrong)

/-- 'precentorlaw12.SendqOrder': WHATEVER THE INPUT: true; the input reads as it did. -/
def sendqOrderSpec : ChangeSpec := { name := "sendqOrder", fn := fun _ => fun
  | [d] => { results := [.lit (.bool true)], args := [d] }
  | _ => none }
def sendqOrderRow : OpenClaim := { program := "ytcobhlghjddphaa", sum := "fed0ed4ebc91e827e17b772bf25415ccad5c2068ed1aac116514dc819622b479", func := "precentor/precentorlaw12.SendqOrder", spec := "sendqOrder", unfollowed := true, recurses := true, apart := false }
def SendqOrderSaid : Prop := sendqOrderRow.holds Try.pinned (OpenSpec.ofChange sendqOrderSpec)

/-- ITS FALSE NEIGHBOUR: 'it returns false'. Refute it at one input. -/
def sendqOrderWrong : ChangeSpec := { name := "sendqOrder", fn := fun _ => fun
  | [d] => { results := [.lit (.bool false)], args := [d] }
  | _ => none }
def SendqOrderWrongFalsely : Prop := sendqOrderRow.holds Try.pinned (OpenSpec.ofChange sendqOrderWrong)

/-- 'precentorlaw12.SendqKeeps': WHATEVER THE INPUT: true; the input reads as it did. -/
def sendqKeepsSpec : ChangeSpec := { name := "sendqKeeps", fn := fun _ => fun
  | [d] => { results := [.lit (.bool true)], args := [d] }
  | _ => none }
def sendqKeepsRow : OpenClaim := { program := "ytcobhlghjddphaa", sum := "fed0ed4ebc91e827e17b772bf25415ccad5c2068ed1aac116514dc819622b479", func := "precentor/precentorlaw12.SendqKeeps", spec := "sendqKeeps", unfollowed := true, recurses := true, apart := false }
def SendqKeepsSaid : Prop := sendqKeepsRow.holds Try.pinned (OpenSpec.ofChange sendqKeepsSpec)

/-- ITS FALSE NEIGHBOUR: 'it returns false'. Refute it at one input. -/
def sendqKeepsWrong : ChangeSpec := { name := "sendqKeeps", fn := fun _ => fun
  | [d] => { results := [.lit (.bool false)], args := [d] }
  | _ => none }
def SendqKeepsWrongFalsely : Prop := sendqKeepsRow.holds Try.pinned (OpenSpec.ofChange sendqKeepsWrong)

/-- 'precentorlaw12.SendqFills': WHATEVER THE INPUT: true; the input reads as it did. -/
def sendqFillsSpec : ChangeSpec := { name := "sendqFills", fn := fun _ => fun
  | [d1, d2] => { results := [.lit (.bool true)], args := [d1, d2] }
  | _ => none }
def sendqFillsRow : OpenClaim := { program := "ytcobhlghjddphaa", sum := "fed0ed4ebc91e827e17b772bf25415ccad5c2068ed1aac116514dc819622b479", func := "precentor/precentorlaw12.SendqFills", spec := "sendqFills", unfollowed := true, recurses := true, apart := false }
def SendqFillsSaid : Prop := sendqFillsRow.holds Try.pinned (OpenSpec.ofChange sendqFillsSpec)

/-- ITS FALSE NEIGHBOUR: 'it returns false'. Refute it at one input. -/
def sendqFillsWrong : ChangeSpec := { name := "sendqFills", fn := fun _ => fun
  | [d1, d2] => { results := [.lit (.bool false)], args := [d1, d2] }
  | _ => none }
def SendqFillsWrongFalsely : Prop := sendqFillsRow.holds Try.pinned (OpenSpec.ofChange sendqFillsWrong)

/-- 'precentorlaw06.FragTells': WHATEVER THE INPUT: true; the input reads as it did. -/
def fragTellsSpec : ChangeSpec := { name := "fragTells", fn := fun _ => fun
  | [d] => { results := [.lit (.bool true)], args := [d] }
  | _ => none }
def fragTellsRow : OpenClaim := { program := "ytcobhlghjddphaa", sum := "fed0ed4ebc91e827e17b772bf25415ccad5c2068ed1aac116514dc819622b479", func := "precentor/precentorlaw06.FragTells", spec := "fragTells", unfollowed := true, recurses := true, apart := false }
def FragTellsSaid : Prop := fragTellsRow.holds Try.pinned (OpenSpec.ofChange fragTellsSpec)

/-- ITS FALSE NEIGHBOUR: 'it returns false'. Refute it at one input. -/
def fragTellsWrong : ChangeSpec := { name := "fragTells", fn := fun _ => fun
  | [d] => { results := [.lit (.bool false)], args := [d] }
  | _ => none }
def FragTellsWrongFalsely : Prop := fragTellsRow.holds Try.pinned (OpenSpec.ofChange fragTellsWrong)

/-- 'precentorlaw06.FragBack': WHATEVER THE INPUT: true; the input reads as it did. -/
def fragBackSpec : ChangeSpec := { name := "fragBack", fn := fun _ => fun
  | [d1, d2, d3] => { results := [.lit (.bool true)], args := [d1, d2, d3] }
  | _ => none }
def fragBackRow : OpenClaim := { program := "ytcobhlghjddphaa", sum := "fed0ed4ebc91e827e17b772bf25415ccad5c2068ed1aac116514dc819622b479", func := "precentor/precentorlaw06.FragBack", spec := "fragBack", unfollowed := true, recurses := true, apart := false }
def FragBackSaid : Prop := fragBackRow.holds Try.pinned (OpenSpec.ofChange fragBackSpec)

/-- ITS FALSE NEIGHBOUR: 'it returns false'. Refute it at one input. -/
def fragBackWrong : ChangeSpec := { name := "fragBack", fn := fun _ => fun
  | [d1, d2, d3] => { results := [.lit (.bool false)], args := [d1, d2, d3] }
  | _ => none }
def FragBackWrongFalsely : Prop := fragBackRow.holds Try.pinned (OpenSpec.ofChange fragBackWrong)

/-- 'precentorlaw06.FragSizes': WHATEVER THE INPUT: true; the input reads as it did. -/
def fragSizesSpec : ChangeSpec := { name := "fragSizes", fn := fun _ => fun
  | [d1, d2] => { results := [.lit (.bool true)], args := [d1, d2] }
  | _ => none }
def fragSizesRow : OpenClaim := { program := "ytcobhlghjddphaa", sum := "fed0ed4ebc91e827e17b772bf25415ccad5c2068ed1aac116514dc819622b479", func := "precentor/precentorlaw06.FragSizes", spec := "fragSizes", unfollowed := true, recurses := true, apart := false }
def FragSizesSaid : Prop := fragSizesRow.holds Try.pinned (OpenSpec.ofChange fragSizesSpec)

/-- ITS FALSE NEIGHBOUR: 'it returns false'. Refute it at one input. -/
def fragSizesWrong : ChangeSpec := { name := "fragSizes", fn := fun _ => fun
  | [d1, d2] => { results := [.lit (.bool false)], args := [d1, d2] }
  | _ => none }
def FragSizesWrongFalsely : Prop := fragSizesRow.holds Try.pinned (OpenSpec.ofChange fragSizesWrong)

/-- 'precentorlaw06.FragOrder': WHATEVER THE INPUT: true; the input reads as it did. -/
def fragOrderSpec : ChangeSpec := { name := "fragOrder", fn := fun _ => fun
  | [d] => { results := [.lit (.bool true)], args := [d] }
  | _ => none }
def fragOrderRow : OpenClaim := { program := "ytcobhlghjddphaa", sum := "fed0ed4ebc91e827e17b772bf25415ccad5c2068ed1aac116514dc819622b479", func := "precentor/precentorlaw06.FragOrder", spec := "fragOrder", unfollowed := true, recurses := true, apart := false }
def FragOrderSaid : Prop := fragOrderRow.holds Try.pinned (OpenSpec.ofChange fragOrderSpec)

/-- ITS FALSE NEIGHBOUR: 'it returns false'. Refute it at one input. -/
def fragOrderWrong : ChangeSpec := { name := "fragOrder", fn := fun _ => fun
  | [d] => { results := [.lit (.bool false)], args := [d] }
  | _ => none }
def FragOrderWrongFalsely : Prop := fragOrderRow.holds Try.pinned (OpenSpec.ofChange fragOrderWrong)

/-- 'precentorlaw06.FragMany': WHATEVER THE INPUT: true; the input reads as it did. -/
def fragManySpec : ChangeSpec := { name := "fragMany", fn := fun _ => fun
  | [d1, d2, d3] => { results := [.lit (.bool true)], args := [d1, d2, d3] }
  | _ => none }
def fragManyRow : OpenClaim := { program := "ytcobhlghjddphaa", sum := "fed0ed4ebc91e827e17b772bf25415ccad5c2068ed1aac116514dc819622b479", func := "precentor/precentorlaw06.FragMany", spec := "fragMany", unfollowed := true, recurses := true, apart := false }
def FragManySaid : Prop := fragManyRow.holds Try.pinned (OpenSpec.ofChange fragManySpec)

/-- ITS FALSE NEIGHBOUR: 'it returns false'. Refute it at one input. -/
def fragManyWrong : ChangeSpec := { name := "fragMany", fn := fun _ => fun
  | [d1, d2, d3] => { results := [.lit (.bool false)], args := [d1, d2, d3] }
  | _ => none }
def FragManyWrongFalsely : Prop := fragManyRow.holds Try.pinned (OpenSpec.ofChange fragManyWrong)

/-- 'precentorlaw06.FragTwo': WHATEVER THE INPUT: true; the input reads as it did. -/
def fragTwoSpec : ChangeSpec := { name := "fragTwo", fn := fun _ => fun
  | [d1, d2, d3] => { results := [.lit (.bool true)], args := [d1, d2, d3] }
  | _ => none }
def fragTwoRow : OpenClaim := { program := "ytcobhlghjddphaa", sum := "fed0ed4ebc91e827e17b772bf25415ccad5c2068ed1aac116514dc819622b479", func := "precentor/precentorlaw06.FragTwo", spec := "fragTwo", unfollowed := true, recurses := true, apart := false }
def FragTwoSaid : Prop := fragTwoRow.holds Try.pinned (OpenSpec.ofChange fragTwoSpec)

/-- ITS FALSE NEIGHBOUR: 'it returns false'. Refute it at one input. -/
def fragTwoWrong : ChangeSpec := { name := "fragTwo", fn := fun _ => fun
  | [d1, d2, d3] => { results := [.lit (.bool false)], args := [d1, d2, d3] }
  | _ => none }
def FragTwoWrongFalsely : Prop := fragTwoRow.holds Try.pinned (OpenSpec.ofChange fragTwoWrong)

/-- 'precentorlaw06.FragParts': WHATEVER THE INPUT: true; the input reads as it did. -/
def fragPartsSpec : ChangeSpec := { name := "fragParts", fn := fun _ => fun
  | [d1, d2] => { results := [.lit (.bool true)], args := [d1, d2] }
  | _ => none }
def fragPartsRow : OpenClaim := { program := "ytcobhlghjddphaa", sum := "fed0ed4ebc91e827e17b772bf25415ccad5c2068ed1aac116514dc819622b479", func := "precentor/precentorlaw06.FragParts", spec := "fragParts", unfollowed := true, recurses := true, apart := false }
def FragPartsSaid : Prop := fragPartsRow.holds Try.pinned (OpenSpec.ofChange fragPartsSpec)

/-- ITS FALSE NEIGHBOUR: 'it returns false'. Refute it at one input. -/
def fragPartsWrong : ChangeSpec := { name := "fragParts", fn := fun _ => fun
  | [d1, d2] => { results := [.lit (.bool false)], args := [d1, d2] }
  | _ => none }
def FragPartsWrongFalsely : Prop := fragPartsRow.holds Try.pinned (OpenSpec.ofChange fragPartsWrong)

/- THE SECOND FORM. 'bulk': how many values and letters a reading holds, each counted each time it is reached (what is shared counts as often as it is met; a slice's spare places count too). A statement '..UptoSaid' is the law's where the arguments, and the package variables that the reading takes, are together of bulk at most 1048576: NARROWER than '..Said'. Prove '..Said' where nothing that the law and all that it calls make is longer than what came in: it says more and counts as full. Else prove '..UptoSaid'. A law counts once. -/
mutual
def uptoBulk {H : Type} : DataW H → Nat
  | .lit (.string bytes) => bytes.length + 1
  | .lit _ => 1
  | .nil => 1
  | .ptr d => uptoBulk d + 1
  | .slice elems spare => uptoBulkAll elems + uptoBulkAll spare + 1
  | .agg parts => uptoBulkAll parts + 1
  | .iface _ d => uptoBulk d + 1
  | .map entries => uptoBulkEntries entries + 1
  | .held _ => 1
def uptoBulkAll {H : Type} : List (DataW H) → Nat
  | [] => 0
  | d :: r => uptoBulk d + uptoBulkAll r
def uptoBulkEntries {H : Type} : List (Lit × DataW H) → Nat
  | [] => 0
  | x :: r => uptoBulkEntry x + uptoBulkEntries r
def uptoBulkEntry {H : Type} : Lit × DataW H → Nat
  | (.string bytes, d) => bytes.length + uptoBulk d + 1
  | (_, d) => uptoBulk d + 1
 end
def uptoSmall : (H : Type) → List (DataW H) → Bool := fun _ ds => decide (uptoBulkAll ds ≤ 1048576)
def OpenSpec.upto (s : _root_.Go.ChangeSpec) : _root_.Go.OpenSpec := { _root_.Go.OpenSpec.ofChange s with cond := some uptoSmall }

/-- 'precentorlaw12.SendqTells', WHERE WHAT IT READS IS OF BULK AT MOST 1048576: true; the input reads as it did. -/
def sendqTellsUptoRow : OpenClaim := { program := "ytcobhlghjddphaa", sum := "fed0ed4ebc91e827e17b772bf25415ccad5c2068ed1aac116514dc819622b479", func := "precentor/precentorlaw12.SendqTells", spec := "sendqTells", unfollowed := true, recurses := true, apart := false, narrowed := true }
def SendqTellsUptoSaid : Prop := sendqTellsUptoRow.holds Try.pinned (OpenSpec.upto sendqTellsSpec)

/-- 'precentorlaw12.SendqOrder', WHERE WHAT IT READS IS OF BULK AT MOST 1048576: true; the input reads as it did. -/
def sendqOrderUptoRow : OpenClaim := { program := "ytcobhlghjddphaa", sum := "fed0ed4ebc91e827e17b772bf25415ccad5c2068ed1aac116514dc819622b479", func := "precentor/precentorlaw12.SendqOrder", spec := "sendqOrder", unfollowed := true, recurses := true, apart := false, narrowed := true }
def SendqOrderUptoSaid : Prop := sendqOrderUptoRow.holds Try.pinned (OpenSpec.upto sendqOrderSpec)

/-- 'precentorlaw12.SendqKeeps', WHERE WHAT IT READS IS OF BULK AT MOST 1048576: true; the input reads as it did. -/
def sendqKeepsUptoRow : OpenClaim := { program := "ytcobhlghjddphaa", sum := "fed0ed4ebc91e827e17b772bf25415ccad5c2068ed1aac116514dc819622b479", func := "precentor/precentorlaw12.SendqKeeps", spec := "sendqKeeps", unfollowed := true, recurses := true, apart := false, narrowed := true }
def SendqKeepsUptoSaid : Prop := sendqKeepsUptoRow.holds Try.pinned (OpenSpec.upto sendqKeepsSpec)

/-- 'precentorlaw12.SendqFills', WHERE WHAT IT READS IS OF BULK AT MOST 1048576: true; the input reads as it did. -/
def sendqFillsUptoRow : OpenClaim := { program := "ytcobhlghjddphaa", sum := "fed0ed4ebc91e827e17b772bf25415ccad5c2068ed1aac116514dc819622b479", func := "precentor/precentorlaw12.SendqFills", spec := "sendqFills", unfollowed := true, recurses := true, apart := false, narrowed := true }
def SendqFillsUptoSaid : Prop := sendqFillsUptoRow.holds Try.pinned (OpenSpec.upto sendqFillsSpec)

/-- 'precentorlaw06.FragTells', WHERE WHAT IT READS IS OF BULK AT MOST 1048576: true; the input reads as it did. -/
def fragTellsUptoRow : OpenClaim := { program := "ytcobhlghjddphaa", sum := "fed0ed4ebc91e827e17b772bf25415ccad5c2068ed1aac116514dc819622b479", func := "precentor/precentorlaw06.FragTells", spec := "fragTells", unfollowed := true, recurses := true, apart := false, narrowed := true }
def FragTellsUptoSaid : Prop := fragTellsUptoRow.holds Try.pinned (OpenSpec.upto fragTellsSpec)

/-- 'precentorlaw06.FragBack', WHERE WHAT IT READS IS OF BULK AT MOST 1048576: true; the input reads as it did. -/
def fragBackUptoRow : OpenClaim := { program := "ytcobhlghjddphaa", sum := "fed0ed4ebc91e827e17b772bf25415ccad5c2068ed1aac116514dc819622b479", func := "precentor/precentorlaw06.FragBack", spec := "fragBack", unfollowed := true, recurses := true, apart := false, narrowed := true }
def FragBackUptoSaid : Prop := fragBackUptoRow.holds Try.pinned (OpenSpec.upto fragBackSpec)

/-- 'precentorlaw06.FragSizes', WHERE WHAT IT READS IS OF BULK AT MOST 1048576: true; the input reads as it did. -/
def fragSizesUptoRow : OpenClaim := { program := "ytcobhlghjddphaa", sum := "fed0ed4ebc91e827e17b772bf25415ccad5c2068ed1aac116514dc819622b479", func := "precentor/precentorlaw06.FragSizes", spec := "fragSizes", unfollowed := true, recurses := true, apart := false, narrowed := true }
def FragSizesUptoSaid : Prop := fragSizesUptoRow.holds Try.pinned (OpenSpec.upto fragSizesSpec)

/-- 'precentorlaw06.FragOrder', WHERE WHAT IT READS IS OF BULK AT MOST 1048576: true; the input reads as it did. -/
def fragOrderUptoRow : OpenClaim := { program := "ytcobhlghjddphaa", sum := "fed0ed4ebc91e827e17b772bf25415ccad5c2068ed1aac116514dc819622b479", func := "precentor/precentorlaw06.FragOrder", spec := "fragOrder", unfollowed := true, recurses := true, apart := false, narrowed := true }
def FragOrderUptoSaid : Prop := fragOrderUptoRow.holds Try.pinned (OpenSpec.upto fragOrderSpec)

/-- 'precentorlaw06.FragMany', WHERE WHAT IT READS IS OF BULK AT MOST 1048576: true; the input reads as it did. -/
def fragManyUptoRow : OpenClaim := { program := "ytcobhlghjddphaa", sum := "fed0ed4ebc91e827e17b772bf25415ccad5c2068ed1aac116514dc819622b479", func := "precentor/precentorlaw06.FragMany", spec := "fragMany", unfollowed := true, recurses := true, apart := false, narrowed := true }
def FragManyUptoSaid : Prop := fragManyUptoRow.holds Try.pinned (OpenSpec.upto fragManySpec)

/-- 'precentorlaw06.FragTwo', WHERE WHAT IT READS IS OF BULK AT MOST 1048576: true; the input reads as it did. -/
def fragTwoUptoRow : OpenClaim := { program := "ytcobhlghjddphaa", sum := "fed0ed4ebc91e827e17b772bf25415ccad5c2068ed1aac116514dc819622b479", func := "precentor/precentorlaw06.FragTwo", spec := "fragTwo", unfollowed := true, recurses := true, apart := false, narrowed := true }
def FragTwoUptoSaid : Prop := fragTwoUptoRow.holds Try.pinned (OpenSpec.upto fragTwoSpec)

/-- 'precentorlaw06.FragParts', WHERE WHAT IT READS IS OF BULK AT MOST 1048576: true; the input reads as it did. -/
def fragPartsUptoRow : OpenClaim := { program := "ytcobhlghjddphaa", sum := "fed0ed4ebc91e827e17b772bf25415ccad5c2068ed1aac116514dc819622b479", func := "precentor/precentorlaw06.FragParts", spec := "fragParts", unfollowed := true, recurses := true, apart := false, narrowed := true }
def FragPartsUptoSaid : Prop := fragPartsUptoRow.holds Try.pinned (OpenSpec.upto fragPartsSpec)

end Rows
end Go.Proofs.Ytcobhlghjddphaa
