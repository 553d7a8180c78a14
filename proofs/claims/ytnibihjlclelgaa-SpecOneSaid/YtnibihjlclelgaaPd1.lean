/-
  The program's plain data, and how each is spelled in cells.
-/
import Derived.Test.YtnibihjlclelgaaAw12
set_option linter.unusedVariables false
namespace Go.Aw
structure Entry where
  Kind : Int
  Seq : Int
  B : List UInt8
  L : List Int
  Hand : Bool
  deriving DecidableEq
structure Part where
  Seq : Int
  Total : Int
  Got : Int
  B : List UInt8
  deriving DecidableEq
structure Lane where
  L : List Entry
  Part : Part
  deriving DecidableEq
structure Turn where
  Who : Int
  Used : Int
  deriving DecidableEq
structure Deliv where
  From : Int
  B : List UInt8
  deriving DecidableEq
structure Item where
  Kind : Int
  Seq : Int
  Epoch : Int
  Index : Int
  Total : Int
  Count : Int
  L : List Int
  Body : List UInt8
  deriving DecidableEq
def encI (n : Int) : List PV := [.int .i64 n]
abbrev bsP (b : List UInt8) : PV := .sl false (b.map encB)
abbrev isP (l : List Int) : PV := .sl false (l.map encI)
def entP (e : Entry) : List PV := [.int .i64 e.Kind, .int .i64 e.Seq, bsP e.B, isP e.L, .bool e.Hand]
def partP (p : Part) : List PV := [.int .i64 p.Seq, .int .i64 p.Total, .int .i64 p.Got, bsP p.B]
def laneP (l : Lane) : List PV := [.sl false (l.L.map entP), .int .i64 l.Part.Seq, .int .i64 l.Part.Total, .int .i64 l.Part.Got, bsP l.Part.B]
def turnP (t : Turn) : List PV := [.int .i64 t.Who, .int .i64 t.Used]
def delivP (d : Deliv) : List PV := [.int .i64 d.From, bsP d.B]
def itemP (t : Item) : List PV := [.int .i64 t.Kind, .int .i64 t.Seq, .int .i64 t.Epoch, .int .i64 t.Index, .int .i64 t.Total, .int .i64 t.Count, isP t.L, bsP t.Body]
def bytesP (b : List UInt8) : List PV := [bsP b]
attribute [go_sem] entP partP laneP turnP delivP itemP bytesP encI encB
@[go_sem] theorem allLen_encI (l : List Int) : allLen 1 (l.map encI) = True := by simp only [eq_iff_iff, iff_true]; exact allLen_map fun _ => rfl
@[go_sem] theorem allLen_encB (l : List UInt8) : allLen 1 (l.map encB) = True := by simp only [eq_iff_iff, iff_true]; exact allLen_map fun _ => rfl
@[go_sem] theorem allLen_bytesP (l : List (List UInt8)) : allLen 1 (l.map bytesP) = True := by simp only [eq_iff_iff, iff_true]; exact allLen_map fun _ => rfl
@[go_sem] theorem allLen_entP (l : List Entry) : allLen 5 (l.map entP) = True := by simp only [eq_iff_iff, iff_true]; exact allLen_map fun _ => rfl
@[go_sem] theorem allLen_partP (l : List Part) : allLen 4 (l.map partP) = True := by simp only [eq_iff_iff, iff_true]; exact allLen_map fun _ => rfl
@[go_sem] theorem allLen_laneP (l : List Lane) : allLen 5 (l.map laneP) = True := by simp only [eq_iff_iff, iff_true]; exact allLen_map fun _ => rfl
@[go_sem] theorem allLen_turnP (l : List Turn) : allLen 2 (l.map turnP) = True := by simp only [eq_iff_iff, iff_true]; exact allLen_map fun _ => rfl
@[go_sem] theorem allLen_delivP (l : List Deliv) : allLen 2 (l.map delivP) = True := by simp only [eq_iff_iff, iff_true]; exact allLen_map fun _ => rfl
@[go_sem] theorem allLen_itemP (l : List Item) : allLen 8 (l.map itemP) = True := by simp only [eq_iff_iff, iff_true]; exact allLen_map fun _ => rfl
@[go_sem] theorem allLen_bool (l : List Bool) : allLen 1 (l.map fun b => [PV.bool b]) = True := by simp only [eq_iff_iff, iff_true]; exact allLen_map fun _ => rfl
end Go.Aw
