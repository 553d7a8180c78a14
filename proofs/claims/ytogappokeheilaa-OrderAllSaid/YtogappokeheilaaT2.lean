/-
  Closed facts on the program's types, printed by a program of this session.
-/
import Derived.Test.YtogappokeheilaaProg
import Derived.Test.YtogappokeheilaaT
import Derived.KernelRfl
set_option linter.unusedVariables false
namespace Go.Proofs.Ytogappokeheilaa
open Go.Aw

@[go_sem] theorem cz98 : Try.prog.cellsOf 98 = 4 := by kernel_rfl
@[go_sem] theorem bz98 : Try.prog.bytesOf 98 = 4 := by kernel_rfl
@[go_sem] theorem ag98 : aggT Try.prog 98 = some true := by kernel_rfl
@[go_sem] theorem za98 : zeroA Try.prog 98 = some (.agg [.p (.int .u8 0), .p (.int .u8 0), .p (.int .u8 0), .p (.int .u8 0)]) := by kernel_rfl
@[go_sem] theorem zp98 : zeroP Try.prog 98 = some [(.int .u8 0), (.int .u8 0), (.int .u8 0), (.int .u8 0)] := by kernel_rfl
@[go_sem] theorem zo98 : zeroOk Try.prog 98 = True := eq_true ⟨_, _, za98, rfl, cz98.symm⟩
@[go_sem] theorem fo98_0 : fieldOf Try.prog 98 0 = some (0, 5) := by kernel_rfl
@[go_sem] theorem fo98_1 : fieldOf Try.prog 98 1 = some (1, 5) := by kernel_rfl
@[go_sem] theorem fo98_2 : fieldOf Try.prog 98 2 = some (2, 5) := by kernel_rfl
@[go_sem] theorem fo98_3 : fieldOf Try.prog 98 3 = some (3, 5) := by kernel_rfl
@[go_sem] theorem pl98 : placesOf Try.prog 98 = some [(0, 1), (1, 1), (2, 1), (3, 1)] := by kernel_rfl
@[go_sem] theorem cz102 : Try.prog.cellsOf 102 = 1 := by kernel_rfl
@[go_sem] theorem bz102 : Try.prog.bytesOf 102 = 8 := by kernel_rfl
@[go_sem] theorem ag102 : aggT Try.prog 102 = some false := by kernel_rfl
@[go_sem] theorem za102 : zeroA Try.prog 102 = some (.c (.p .nilp)) := by kernel_rfl
@[go_sem] theorem zp102 : zeroP Try.prog 102 = some [.nilp] := by kernel_rfl
@[go_sem] theorem zo102 : zeroOk Try.prog 102 = True := eq_true ⟨_, _, za102, rfl, cz102.symm⟩
@[go_sem] theorem cz105 : Try.prog.cellsOf 105 = 4 := by kernel_rfl
@[go_sem] theorem bz105 : Try.prog.bytesOf 105 = 64 := by kernel_rfl
@[go_sem] theorem ag105 : aggT Try.prog 105 = some true := by kernel_rfl
@[go_sem] theorem za105 : zeroA Try.prog 105 = some (.agg [.p (.int .i64 0), .p (.int .i64 0), .p (.sl true []), .p (.sl true [])]) := by kernel_rfl
@[go_sem] theorem zp105 : zeroP Try.prog 105 = some [(.int .i64 0), (.int .i64 0), (.sl true []), (.sl true [])] := by kernel_rfl
@[go_sem] theorem zo105 : zeroOk Try.prog 105 = True := eq_true ⟨_, _, za105, rfl, cz105.symm⟩
@[go_sem] theorem fo105_0 : fieldOf Try.prog 105 0 = some (0, 23) := by kernel_rfl
@[go_sem] theorem fo105_1 : fieldOf Try.prog 105 1 = some (2, 24) := by kernel_rfl
@[go_sem] theorem fo105_2 : fieldOf Try.prog 105 2 = some (3, 29) := by kernel_rfl
@[go_sem] theorem pl105 : placesOf Try.prog 105 = some [(0, 2), (2, 1), (3, 1)] := by kernel_rfl
@[go_sem] theorem cz106 : Try.prog.cellsOf 106 = 1 := by kernel_rfl
@[go_sem] theorem bz106 : Try.prog.bytesOf 106 = 8 := by kernel_rfl
@[go_sem] theorem ag106 : aggT Try.prog 106 = some false := by kernel_rfl
@[go_sem] theorem za106 : zeroA Try.prog 106 = some (.c (.p .nilfn)) := by kernel_rfl
@[go_sem] theorem zp106 : zeroP Try.prog 106 = some [.nilfn] := by kernel_rfl
@[go_sem] theorem zo106 : zeroOk Try.prog 106 = True := eq_true ⟨_, _, za106, rfl, cz106.symm⟩
@[go_sem] theorem cz108 : Try.prog.cellsOf 108 = 1 := by kernel_rfl
@[go_sem] theorem bz108 : Try.prog.bytesOf 108 = 8 := by kernel_rfl
@[go_sem] theorem ag108 : aggT Try.prog 108 = some false := by kernel_rfl
@[go_sem] theorem za108 : zeroA Try.prog 108 = some (.c (.p .nilfn)) := by kernel_rfl
@[go_sem] theorem zp108 : zeroP Try.prog 108 = some [.nilfn] := by kernel_rfl
@[go_sem] theorem zo108 : zeroOk Try.prog 108 = True := eq_true ⟨_, _, za108, rfl, cz108.symm⟩
@[go_sem] theorem cz109 : Try.prog.cellsOf 109 = 1 := by kernel_rfl
@[go_sem] theorem bz109 : Try.prog.bytesOf 109 = 8 := by kernel_rfl
@[go_sem] theorem ag109 : aggT Try.prog 109 = some false := by kernel_rfl
@[go_sem] theorem za109 : zeroA Try.prog 109 = some (.c (.p .nilfn)) := by kernel_rfl
@[go_sem] theorem zp109 : zeroP Try.prog 109 = some [.nilfn] := by kernel_rfl
@[go_sem] theorem zo109 : zeroOk Try.prog 109 = True := eq_true ⟨_, _, za109, rfl, cz109.symm⟩
@[go_sem] theorem cz115 : Try.prog.cellsOf 115 = 1 := by kernel_rfl
@[go_sem] theorem bz115 : Try.prog.bytesOf 115 = 8 := by kernel_rfl
@[go_sem] theorem ag115 : aggT Try.prog 115 = some false := by kernel_rfl
@[go_sem] theorem za115 : zeroA Try.prog 115 = some (.c (.p .nilfn)) := by kernel_rfl
@[go_sem] theorem zp115 : zeroP Try.prog 115 = some [.nilfn] := by kernel_rfl
@[go_sem] theorem zo115 : zeroOk Try.prog 115 = True := eq_true ⟨_, _, za115, rfl, cz115.symm⟩
@[go_sem] theorem cz118 : Try.prog.cellsOf 118 = 1 := by kernel_rfl
@[go_sem] theorem bz118 : Try.prog.bytesOf 118 = 8 := by kernel_rfl
@[go_sem] theorem ag118 : aggT Try.prog 118 = some false := by kernel_rfl
@[go_sem] theorem za118 : zeroA Try.prog 118 = some (.c (.p .nilfn)) := by kernel_rfl
@[go_sem] theorem zp118 : zeroP Try.prog 118 = some [.nilfn] := by kernel_rfl
@[go_sem] theorem zo118 : zeroOk Try.prog 118 = True := eq_true ⟨_, _, za118, rfl, cz118.symm⟩
@[go_sem] theorem cz129 : Try.prog.cellsOf 129 = 1 := by kernel_rfl
@[go_sem] theorem bz129 : Try.prog.bytesOf 129 = 16 := by kernel_rfl
@[go_sem] theorem ag129 : aggT Try.prog 129 = some false := by kernel_rfl
@[go_sem] theorem za129 : zeroA Try.prog 129 = some (.c (.p .nilif)) := by kernel_rfl
@[go_sem] theorem zp129 : zeroP Try.prog 129 = some [.nilif] := by kernel_rfl
@[go_sem] theorem zo129 : zeroOk Try.prog 129 = True := eq_true ⟨_, _, za129, rfl, cz129.symm⟩
@[go_sem] theorem cz130 : Try.prog.cellsOf 130 = 1 := by kernel_rfl
@[go_sem] theorem bz130 : Try.prog.bytesOf 130 = 8 := by kernel_rfl
@[go_sem] theorem ag130 : aggT Try.prog 130 = some false := by kernel_rfl
@[go_sem] theorem za130 : zeroA Try.prog 130 = some (.c (.p .nilfn)) := by kernel_rfl
@[go_sem] theorem zp130 : zeroP Try.prog 130 = some [.nilfn] := by kernel_rfl
@[go_sem] theorem zo130 : zeroOk Try.prog 130 = True := eq_true ⟨_, _, za130, rfl, cz130.symm⟩
@[go_sem] theorem cz131 : Try.prog.cellsOf 131 = 1 := by kernel_rfl
@[go_sem] theorem bz131 : Try.prog.bytesOf 131 = 16 := by kernel_rfl
@[go_sem] theorem ag131 : aggT Try.prog 131 = some false := by kernel_rfl
@[go_sem] theorem za131 : zeroA Try.prog 131 = some (.c (.p .nilif)) := by kernel_rfl
@[go_sem] theorem zp131 : zeroP Try.prog 131 = some [.nilif] := by kernel_rfl
@[go_sem] theorem zo131 : zeroOk Try.prog 131 = True := eq_true ⟨_, _, za131, rfl, cz131.symm⟩
@[go_sem] theorem cz132 : Try.prog.cellsOf 132 = 1 := by kernel_rfl
@[go_sem] theorem bz132 : Try.prog.bytesOf 132 = 16 := by kernel_rfl
@[go_sem] theorem ag132 : aggT Try.prog 132 = some false := by kernel_rfl
@[go_sem] theorem za132 : zeroA Try.prog 132 = some (.c (.p .nilif)) := by kernel_rfl
@[go_sem] theorem zp132 : zeroP Try.prog 132 = some [.nilif] := by kernel_rfl
@[go_sem] theorem zo132 : zeroOk Try.prog 132 = True := eq_true ⟨_, _, za132, rfl, cz132.symm⟩
@[go_sem] theorem cz137 : Try.prog.cellsOf 137 = 0 := by kernel_rfl
@[go_sem] theorem bz137 : Try.prog.bytesOf 137 = 0 := by kernel_rfl
@[go_sem] theorem ag137 : aggT Try.prog 137 = some true := by kernel_rfl
@[go_sem] theorem za137 : zeroA Try.prog 137 = some (.agg []) := by kernel_rfl
@[go_sem] theorem zp137 : zeroP Try.prog 137 = some [] := by kernel_rfl
@[go_sem] theorem pl137 : placesOf Try.prog 137 = some [] := by kernel_rfl
@[go_sem] theorem cz138 : Try.prog.cellsOf 138 = 0 := by kernel_rfl
@[go_sem] theorem bz138 : Try.prog.bytesOf 138 = 0 := by kernel_rfl
@[go_sem] theorem ag138 : aggT Try.prog 138 = some true := by kernel_rfl
@[go_sem] theorem za138 : zeroA Try.prog 138 = some (.agg []) := by kernel_rfl
@[go_sem] theorem zp138 : zeroP Try.prog 138 = some [] := by kernel_rfl
@[go_sem] theorem pl138 : placesOf Try.prog 138 = some [] := by kernel_rfl
end Go.Proofs.Ytogappokeheilaa
