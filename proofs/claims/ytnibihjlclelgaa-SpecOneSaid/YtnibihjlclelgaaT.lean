/-
  Closed facts on the program's types, printed by a program of this session.
-/
import Derived.Test.YtnibihjlclelgaaProg
import Derived.Test.YtnibihjlclelgaaPd1
import Derived.KernelRfl
set_option linter.unusedVariables false
namespace Go.Proofs.Ytnibihjlclelgaa
open Go.Aw

@[go_sem] theorem cz1 : Try.prog.cellsOf 1 = 1 := by kernel_rfl
@[go_sem] theorem bz1 : Try.prog.bytesOf 1 = 8 := by kernel_rfl
@[go_sem] theorem ag1 : aggT Try.prog 1 = some false := by kernel_rfl
@[go_sem] theorem za1 : zeroA Try.prog 1 = some (.c (.p .nilfn)) := by kernel_rfl
@[go_sem] theorem zp1 : zeroP Try.prog 1 = some [.nilfn] := by kernel_rfl
@[go_sem] theorem zo1 : zeroOk Try.prog 1 = True := eq_true ⟨_, _, za1, rfl, cz1.symm⟩
@[go_sem] theorem cz2 : Try.prog.cellsOf 2 = 1 := by kernel_rfl
@[go_sem] theorem bz2 : Try.prog.bytesOf 2 = 8 := by kernel_rfl
@[go_sem] theorem ag2 : aggT Try.prog 2 = some false := by kernel_rfl
@[go_sem] theorem za2 : zeroA Try.prog 2 = some (.c (.p (.int .i64 0))) := by kernel_rfl
@[go_sem] theorem zp2 : zeroP Try.prog 2 = some [(.int .i64 0)] := by kernel_rfl
@[go_sem] theorem zo2 : zeroOk Try.prog 2 = True := eq_true ⟨_, _, za2, rfl, cz2.symm⟩
@[go_sem] theorem cz3 : Try.prog.cellsOf 3 = 1 := by kernel_rfl
@[go_sem] theorem bz3 : Try.prog.bytesOf 3 = 8 := by kernel_rfl
@[go_sem] theorem ag3 : aggT Try.prog 3 = some false := by kernel_rfl
@[go_sem] theorem za3 : zeroA Try.prog 3 = some (.c (.p (.int .i64 0))) := by kernel_rfl
@[go_sem] theorem zp3 : zeroP Try.prog 3 = some [(.int .i64 0)] := by kernel_rfl
@[go_sem] theorem zo3 : zeroOk Try.prog 3 = True := eq_true ⟨_, _, za3, rfl, cz3.symm⟩
@[go_sem] theorem cz4 : Try.prog.cellsOf 4 = 1 := by kernel_rfl
@[go_sem] theorem bz4 : Try.prog.bytesOf 4 = 1 := by kernel_rfl
@[go_sem] theorem ag4 : aggT Try.prog 4 = some false := by kernel_rfl
@[go_sem] theorem za4 : zeroA Try.prog 4 = some (.c (.p (.bool false))) := by kernel_rfl
@[go_sem] theorem zp4 : zeroP Try.prog 4 = some [(.bool false)] := by kernel_rfl
@[go_sem] theorem zo4 : zeroOk Try.prog 4 = True := eq_true ⟨_, _, za4, rfl, cz4.symm⟩
@[go_sem] theorem cz5 : Try.prog.cellsOf 5 = 1 := by kernel_rfl
@[go_sem] theorem bz5 : Try.prog.bytesOf 5 = 1 := by kernel_rfl
@[go_sem] theorem ag5 : aggT Try.prog 5 = some false := by kernel_rfl
@[go_sem] theorem za5 : zeroA Try.prog 5 = some (.c (.p (.int .u8 0))) := by kernel_rfl
@[go_sem] theorem zp5 : zeroP Try.prog 5 = some [(.int .u8 0)] := by kernel_rfl
@[go_sem] theorem zo5 : zeroOk Try.prog 5 = True := eq_true ⟨_, _, za5, rfl, cz5.symm⟩
@[go_sem] theorem cz9 : Try.prog.cellsOf 9 = 1 := by kernel_rfl
@[go_sem] theorem bz9 : Try.prog.bytesOf 9 = 16 := by kernel_rfl
@[go_sem] theorem ag9 : aggT Try.prog 9 = some false := by kernel_rfl
@[go_sem] theorem za9 : zeroA Try.prog 9 = some (.c (.p (.str ⟨#[]⟩))) := by kernel_rfl
@[go_sem] theorem zp9 : zeroP Try.prog 9 = some [(.str ⟨#[]⟩)] := by kernel_rfl
@[go_sem] theorem zo9 : zeroOk Try.prog 9 = True := eq_true ⟨_, _, za9, rfl, cz9.symm⟩
@[go_sem] theorem cz12 : Try.prog.cellsOf 12 = 1 := by kernel_rfl
@[go_sem] theorem bz12 : Try.prog.bytesOf 12 = 8 := by kernel_rfl
@[go_sem] theorem ag12 : aggT Try.prog 12 = some false := by kernel_rfl
@[go_sem] theorem za12 : zeroA Try.prog 12 = some (.c (.p (.int .u64 0))) := by kernel_rfl
@[go_sem] theorem zp12 : zeroP Try.prog 12 = some [(.int .u64 0)] := by kernel_rfl
@[go_sem] theorem zo12 : zeroOk Try.prog 12 = True := eq_true ⟨_, _, za12, rfl, cz12.symm⟩
@[go_sem] theorem cz20 : Try.prog.cellsOf 20 = 1 := by kernel_rfl
@[go_sem] theorem bz20 : Try.prog.bytesOf 20 = 16 := by kernel_rfl
@[go_sem] theorem ag20 : aggT Try.prog 20 = some false := by kernel_rfl
@[go_sem] theorem za20 : zeroA Try.prog 20 = some (.c (.p .nilif)) := by kernel_rfl
@[go_sem] theorem zp20 : zeroP Try.prog 20 = some [.nilif] := by kernel_rfl
@[go_sem] theorem zo20 : zeroOk Try.prog 20 = True := eq_true ⟨_, _, za20, rfl, cz20.symm⟩
@[go_sem] theorem cz21 : Try.prog.cellsOf 21 = 1 := by kernel_rfl
@[go_sem] theorem bz21 : Try.prog.bytesOf 21 = 4 := by kernel_rfl
@[go_sem] theorem ag21 : aggT Try.prog 21 = some false := by kernel_rfl
@[go_sem] theorem za21 : zeroA Try.prog 21 = some (.c (.p (.int .i32 0))) := by kernel_rfl
@[go_sem] theorem zp21 : zeroP Try.prog 21 = some [(.int .i32 0)] := by kernel_rfl
@[go_sem] theorem zo21 : zeroOk Try.prog 21 = True := eq_true ⟨_, _, za21, rfl, cz21.symm⟩
@[go_sem] theorem cz22 : Try.prog.cellsOf 22 = 1 := by kernel_rfl
@[go_sem] theorem bz22 : Try.prog.bytesOf 22 = 24 := by kernel_rfl
@[go_sem] theorem ag22 : aggT Try.prog 22 = some false := by kernel_rfl
@[go_sem] theorem za22 : zeroA Try.prog 22 = some (.c (.p (.sl true []))) := by kernel_rfl
@[go_sem] theorem zp22 : zeroP Try.prog 22 = some [(.sl true [])] := by kernel_rfl
@[go_sem] theorem zo22 : zeroOk Try.prog 22 = True := eq_true ⟨_, _, za22, rfl, cz22.symm⟩
@[go_sem] theorem cz23 : Try.prog.cellsOf 23 = 1 := by kernel_rfl
@[go_sem] theorem bz23 : Try.prog.bytesOf 23 = 24 := by kernel_rfl
@[go_sem] theorem ag23 : aggT Try.prog 23 = some false := by kernel_rfl
@[go_sem] theorem za23 : zeroA Try.prog 23 = some (.c (.p (.sl true []))) := by kernel_rfl
@[go_sem] theorem zp23 : zeroP Try.prog 23 = some [(.sl true [])] := by kernel_rfl
@[go_sem] theorem zo23 : zeroOk Try.prog 23 = True := eq_true ⟨_, _, za23, rfl, cz23.symm⟩
@[go_sem] theorem cz24 : Try.prog.cellsOf 24 = 1 := by kernel_rfl
@[go_sem] theorem bz24 : Try.prog.bytesOf 24 = 24 := by kernel_rfl
@[go_sem] theorem ag24 : aggT Try.prog 24 = some false := by kernel_rfl
@[go_sem] theorem za24 : zeroA Try.prog 24 = some (.c (.p (.sl true []))) := by kernel_rfl
@[go_sem] theorem zp24 : zeroP Try.prog 24 = some [(.sl true [])] := by kernel_rfl
@[go_sem] theorem zo24 : zeroOk Try.prog 24 = True := eq_true ⟨_, _, za24, rfl, cz24.symm⟩
@[go_sem] theorem cz25 : Try.prog.cellsOf 25 = 3 := by kernel_rfl
@[go_sem] theorem bz25 : Try.prog.bytesOf 25 = 72 := by kernel_rfl
@[go_sem] theorem ag25 : aggT Try.prog 25 = some true := by kernel_rfl
@[go_sem] theorem za25 : zeroA Try.prog 25 = some (.agg [.p (.sl true []), .p (.sl true []), .p (.sl true [])]) := by kernel_rfl
@[go_sem] theorem zp25 : zeroP Try.prog 25 = some [(.sl true []), (.sl true []), (.sl true [])] := by kernel_rfl
@[go_sem] theorem zo25 : zeroOk Try.prog 25 = True := eq_true ⟨_, _, za25, rfl, cz25.symm⟩
@[go_sem] theorem fo25_0 : fieldOf Try.prog 25 0 = some (0, 22) := by kernel_rfl
@[go_sem] theorem fo25_1 : fieldOf Try.prog 25 1 = some (1, 23) := by kernel_rfl
@[go_sem] theorem fo25_2 : fieldOf Try.prog 25 2 = some (2, 24) := by kernel_rfl
@[go_sem] theorem pl25 : placesOf Try.prog 25 = some [(0, 1), (1, 1), (2, 1)] := by kernel_rfl
@[go_sem] theorem cz26 : Try.prog.cellsOf 26 = 3 := by kernel_rfl
@[go_sem] theorem bz26 : Try.prog.bytesOf 26 = 72 := by kernel_rfl
@[go_sem] theorem ag26 : aggT Try.prog 26 = some true := by kernel_rfl
@[go_sem] theorem za26 : zeroA Try.prog 26 = some (.agg [.p (.sl true []), .p (.sl true []), .p (.sl true [])]) := by kernel_rfl
@[go_sem] theorem zp26 : zeroP Try.prog 26 = some [(.sl true []), (.sl true []), (.sl true [])] := by kernel_rfl
@[go_sem] theorem zo26 : zeroOk Try.prog 26 = True := eq_true ⟨_, _, za26, rfl, cz26.symm⟩
@[go_sem] theorem fo26_0 : fieldOf Try.prog 26 0 = some (0, 22) := by kernel_rfl
@[go_sem] theorem fo26_1 : fieldOf Try.prog 26 1 = some (1, 23) := by kernel_rfl
@[go_sem] theorem fo26_2 : fieldOf Try.prog 26 2 = some (2, 24) := by kernel_rfl
@[go_sem] theorem pl26 : placesOf Try.prog 26 = some [(0, 1), (1, 1), (2, 1)] := by kernel_rfl
@[go_sem] theorem cz27 : Try.prog.cellsOf 27 = 1 := by kernel_rfl
@[go_sem] theorem bz27 : Try.prog.bytesOf 27 = 24 := by kernel_rfl
@[go_sem] theorem ag27 : aggT Try.prog 27 = some false := by kernel_rfl
@[go_sem] theorem za27 : zeroA Try.prog 27 = some (.c (.p (.sl true []))) := by kernel_rfl
@[go_sem] theorem zp27 : zeroP Try.prog 27 = some [(.sl true [])] := by kernel_rfl
@[go_sem] theorem zo27 : zeroOk Try.prog 27 = True := eq_true ⟨_, _, za27, rfl, cz27.symm⟩
@[go_sem] theorem cz28 : Try.prog.cellsOf 28 = 1 := by kernel_rfl
@[go_sem] theorem bz28 : Try.prog.bytesOf 28 = 8 := by kernel_rfl
@[go_sem] theorem ag28 : aggT Try.prog 28 = some false := by kernel_rfl
@[go_sem] theorem za28 : zeroA Try.prog 28 = some (.c (.p .nilfn)) := by kernel_rfl
@[go_sem] theorem zp28 : zeroP Try.prog 28 = some [.nilfn] := by kernel_rfl
@[go_sem] theorem zo28 : zeroOk Try.prog 28 = True := eq_true ⟨_, _, za28, rfl, cz28.symm⟩
@[go_sem] theorem cz29 : Try.prog.cellsOf 29 = 1 := by kernel_rfl
@[go_sem] theorem bz29 : Try.prog.bytesOf 29 = 8 := by kernel_rfl
@[go_sem] theorem ag29 : aggT Try.prog 29 = some false := by kernel_rfl
@[go_sem] theorem za29 : zeroA Try.prog 29 = some (.c (.p .nilfn)) := by kernel_rfl
@[go_sem] theorem zp29 : zeroP Try.prog 29 = some [.nilfn] := by kernel_rfl
@[go_sem] theorem zo29 : zeroOk Try.prog 29 = True := eq_true ⟨_, _, za29, rfl, cz29.symm⟩
@[go_sem] theorem cz30 : Try.prog.cellsOf 30 = 1 := by kernel_rfl
@[go_sem] theorem bz30 : Try.prog.bytesOf 30 = 8 := by kernel_rfl
@[go_sem] theorem ag30 : aggT Try.prog 30 = some false := by kernel_rfl
@[go_sem] theorem za30 : zeroA Try.prog 30 = some (.c (.p .nilfn)) := by kernel_rfl
@[go_sem] theorem zp30 : zeroP Try.prog 30 = some [.nilfn] := by kernel_rfl
@[go_sem] theorem zo30 : zeroOk Try.prog 30 = True := eq_true ⟨_, _, za30, rfl, cz30.symm⟩
@[go_sem] theorem cz31 : Try.prog.cellsOf 31 = 1 := by kernel_rfl
@[go_sem] theorem bz31 : Try.prog.bytesOf 31 = 8 := by kernel_rfl
@[go_sem] theorem ag31 : aggT Try.prog 31 = some false := by kernel_rfl
@[go_sem] theorem za31 : zeroA Try.prog 31 = some (.c (.p .nilfn)) := by kernel_rfl
@[go_sem] theorem zp31 : zeroP Try.prog 31 = some [.nilfn] := by kernel_rfl
@[go_sem] theorem zo31 : zeroOk Try.prog 31 = True := eq_true ⟨_, _, za31, rfl, cz31.symm⟩
@[go_sem] theorem cz33 : Try.prog.cellsOf 33 = 1 := by kernel_rfl
@[go_sem] theorem bz33 : Try.prog.bytesOf 33 = 8 := by kernel_rfl
@[go_sem] theorem ag33 : aggT Try.prog 33 = some false := by kernel_rfl
@[go_sem] theorem za33 : zeroA Try.prog 33 = some (.c (.p .nilfn)) := by kernel_rfl
@[go_sem] theorem zp33 : zeroP Try.prog 33 = some [.nilfn] := by kernel_rfl
@[go_sem] theorem zo33 : zeroOk Try.prog 33 = True := eq_true ⟨_, _, za33, rfl, cz33.symm⟩
@[go_sem] theorem cz34 : Try.prog.cellsOf 34 = 1 := by kernel_rfl
@[go_sem] theorem bz34 : Try.prog.bytesOf 34 = 8 := by kernel_rfl
@[go_sem] theorem ag34 : aggT Try.prog 34 = some false := by kernel_rfl
@[go_sem] theorem za34 : zeroA Try.prog 34 = some (.c (.p .nilfn)) := by kernel_rfl
@[go_sem] theorem zp34 : zeroP Try.prog 34 = some [.nilfn] := by kernel_rfl
@[go_sem] theorem zo34 : zeroOk Try.prog 34 = True := eq_true ⟨_, _, za34, rfl, cz34.symm⟩
@[go_sem] theorem cz35 : Try.prog.cellsOf 35 = 1 := by kernel_rfl
@[go_sem] theorem bz35 : Try.prog.bytesOf 35 = 8 := by kernel_rfl
@[go_sem] theorem ag35 : aggT Try.prog 35 = some false := by kernel_rfl
@[go_sem] theorem za35 : zeroA Try.prog 35 = some (.c (.p .nilfn)) := by kernel_rfl
@[go_sem] theorem zp35 : zeroP Try.prog 35 = some [.nilfn] := by kernel_rfl
@[go_sem] theorem zo35 : zeroOk Try.prog 35 = True := eq_true ⟨_, _, za35, rfl, cz35.symm⟩
@[go_sem] theorem cz37 : Try.prog.cellsOf 37 = 1 := by kernel_rfl
@[go_sem] theorem bz37 : Try.prog.bytesOf 37 = 8 := by kernel_rfl
@[go_sem] theorem ag37 : aggT Try.prog 37 = some false := by kernel_rfl
@[go_sem] theorem za37 : zeroA Try.prog 37 = some (.c (.p .nilfn)) := by kernel_rfl
@[go_sem] theorem zp37 : zeroP Try.prog 37 = some [.nilfn] := by kernel_rfl
@[go_sem] theorem zo37 : zeroOk Try.prog 37 = True := eq_true ⟨_, _, za37, rfl, cz37.symm⟩
@[go_sem] theorem cz38 : Try.prog.cellsOf 38 = 1 := by kernel_rfl
@[go_sem] theorem bz38 : Try.prog.bytesOf 38 = 24 := by kernel_rfl
@[go_sem] theorem ag38 : aggT Try.prog 38 = some false := by kernel_rfl
@[go_sem] theorem za38 : zeroA Try.prog 38 = some (.c (.p (.sl true []))) := by kernel_rfl
@[go_sem] theorem zp38 : zeroP Try.prog 38 = some [(.sl true [])] := by kernel_rfl
@[go_sem] theorem zo38 : zeroOk Try.prog 38 = True := eq_true ⟨_, _, za38, rfl, cz38.symm⟩
@[go_sem] theorem cz39 : Try.prog.cellsOf 39 = 4 := by kernel_rfl
@[go_sem] theorem bz39 : Try.prog.bytesOf 39 = 48 := by kernel_rfl
@[go_sem] theorem ag39 : aggT Try.prog 39 = some true := by kernel_rfl
@[go_sem] theorem za39 : zeroA Try.prog 39 = some (.agg [.p (.bool false), .p (.int .i64 0), .p (.int .i64 0), .p (.sl true [])]) := by kernel_rfl
@[go_sem] theorem zp39 : zeroP Try.prog 39 = some [(.bool false), (.int .i64 0), (.int .i64 0), (.sl true [])] := by kernel_rfl
@[go_sem] theorem zo39 : zeroOk Try.prog 39 = True := eq_true ⟨_, _, za39, rfl, cz39.symm⟩
@[go_sem] theorem fo39_0 : fieldOf Try.prog 39 0 = some (0, 4) := by kernel_rfl
@[go_sem] theorem fo39_1 : fieldOf Try.prog 39 1 = some (1, 3) := by kernel_rfl
@[go_sem] theorem fo39_2 : fieldOf Try.prog 39 2 = some (2, 3) := by kernel_rfl
@[go_sem] theorem fo39_3 : fieldOf Try.prog 39 3 = some (3, 38) := by kernel_rfl
@[go_sem] theorem pl39 : placesOf Try.prog 39 = some [(0, 1), (1, 1), (2, 1), (3, 1)] := by kernel_rfl
@[go_sem] theorem cz40 : Try.prog.cellsOf 40 = 4 := by kernel_rfl
@[go_sem] theorem bz40 : Try.prog.bytesOf 40 = 48 := by kernel_rfl
@[go_sem] theorem ag40 : aggT Try.prog 40 = some true := by kernel_rfl
@[go_sem] theorem za40 : zeroA Try.prog 40 = some (.agg [.p (.bool false), .p (.int .i64 0), .p (.int .i64 0), .p (.sl true [])]) := by kernel_rfl
@[go_sem] theorem zp40 : zeroP Try.prog 40 = some [(.bool false), (.int .i64 0), (.int .i64 0), (.sl true [])] := by kernel_rfl
@[go_sem] theorem zo40 : zeroOk Try.prog 40 = True := eq_true ⟨_, _, za40, rfl, cz40.symm⟩
@[go_sem] theorem fo40_0 : fieldOf Try.prog 40 0 = some (0, 4) := by kernel_rfl
@[go_sem] theorem fo40_1 : fieldOf Try.prog 40 1 = some (1, 3) := by kernel_rfl
@[go_sem] theorem fo40_2 : fieldOf Try.prog 40 2 = some (2, 3) := by kernel_rfl
@[go_sem] theorem fo40_3 : fieldOf Try.prog 40 3 = some (3, 38) := by kernel_rfl
@[go_sem] theorem pl40 : placesOf Try.prog 40 = some [(0, 1), (1, 1), (2, 1), (3, 1)] := by kernel_rfl
@[go_sem] theorem cz41 : Try.prog.cellsOf 41 = 1 := by kernel_rfl
@[go_sem] theorem bz41 : Try.prog.bytesOf 41 = 8 := by kernel_rfl
@[go_sem] theorem ag41 : aggT Try.prog 41 = some false := by kernel_rfl
@[go_sem] theorem za41 : zeroA Try.prog 41 = some (.c (.p .nilfn)) := by kernel_rfl
@[go_sem] theorem zp41 : zeroP Try.prog 41 = some [.nilfn] := by kernel_rfl
@[go_sem] theorem zo41 : zeroOk Try.prog 41 = True := eq_true ⟨_, _, za41, rfl, cz41.symm⟩
@[go_sem] theorem cz42 : Try.prog.cellsOf 42 = 1 := by kernel_rfl
@[go_sem] theorem bz42 : Try.prog.bytesOf 42 = 24 := by kernel_rfl
@[go_sem] theorem ag42 : aggT Try.prog 42 = some false := by kernel_rfl
@[go_sem] theorem za42 : zeroA Try.prog 42 = some (.c (.p (.sl true []))) := by kernel_rfl
@[go_sem] theorem zp42 : zeroP Try.prog 42 = some [(.sl true [])] := by kernel_rfl
@[go_sem] theorem zo42 : zeroOk Try.prog 42 = True := eq_true ⟨_, _, za42, rfl, cz42.symm⟩
@[go_sem] theorem cz43 : Try.prog.cellsOf 43 = 2 := by kernel_rfl
@[go_sem] theorem bz43 : Try.prog.bytesOf 43 = 32 := by kernel_rfl
@[go_sem] theorem ag43 : aggT Try.prog 43 = some true := by kernel_rfl
@[go_sem] theorem za43 : zeroA Try.prog 43 = some (.agg [.p (.int .i64 0), .p (.sl true [])]) := by kernel_rfl
@[go_sem] theorem zp43 : zeroP Try.prog 43 = some [(.int .i64 0), (.sl true [])] := by kernel_rfl
@[go_sem] theorem zo43 : zeroOk Try.prog 43 = True := eq_true ⟨_, _, za43, rfl, cz43.symm⟩
@[go_sem] theorem fo43_0 : fieldOf Try.prog 43 0 = some (0, 3) := by kernel_rfl
@[go_sem] theorem fo43_1 : fieldOf Try.prog 43 1 = some (1, 38) := by kernel_rfl
@[go_sem] theorem pl43 : placesOf Try.prog 43 = some [(0, 1), (1, 1)] := by kernel_rfl
@[go_sem] theorem cz44 : Try.prog.cellsOf 44 = 2 := by kernel_rfl
@[go_sem] theorem bz44 : Try.prog.bytesOf 44 = 32 := by kernel_rfl
@[go_sem] theorem ag44 : aggT Try.prog 44 = some true := by kernel_rfl
@[go_sem] theorem za44 : zeroA Try.prog 44 = some (.agg [.p (.int .i64 0), .p (.sl true [])]) := by kernel_rfl
@[go_sem] theorem zp44 : zeroP Try.prog 44 = some [(.int .i64 0), (.sl true [])] := by kernel_rfl
@[go_sem] theorem zo44 : zeroOk Try.prog 44 = True := eq_true ⟨_, _, za44, rfl, cz44.symm⟩
@[go_sem] theorem fo44_0 : fieldOf Try.prog 44 0 = some (0, 3) := by kernel_rfl
@[go_sem] theorem fo44_1 : fieldOf Try.prog 44 1 = some (1, 38) := by kernel_rfl
@[go_sem] theorem pl44 : placesOf Try.prog 44 = some [(0, 1), (1, 1)] := by kernel_rfl
@[go_sem] theorem cz45 : Try.prog.cellsOf 45 = 1 := by kernel_rfl
@[go_sem] theorem bz45 : Try.prog.bytesOf 45 = 24 := by kernel_rfl
@[go_sem] theorem ag45 : aggT Try.prog 45 = some false := by kernel_rfl
@[go_sem] theorem za45 : zeroA Try.prog 45 = some (.c (.p (.sl true []))) := by kernel_rfl
@[go_sem] theorem zp45 : zeroP Try.prog 45 = some [(.sl true [])] := by kernel_rfl
@[go_sem] theorem zo45 : zeroOk Try.prog 45 = True := eq_true ⟨_, _, za45, rfl, cz45.symm⟩
@[go_sem] theorem cz46 : Try.prog.cellsOf 46 = 1 := by kernel_rfl
@[go_sem] theorem bz46 : Try.prog.bytesOf 46 = 8 := by kernel_rfl
@[go_sem] theorem ag46 : aggT Try.prog 46 = some false := by kernel_rfl
@[go_sem] theorem za46 : zeroA Try.prog 46 = some (.c (.p .nilfn)) := by kernel_rfl
@[go_sem] theorem zp46 : zeroP Try.prog 46 = some [.nilfn] := by kernel_rfl
@[go_sem] theorem zo46 : zeroOk Try.prog 46 = True := eq_true ⟨_, _, za46, rfl, cz46.symm⟩
@[go_sem] theorem cz47 : Try.prog.cellsOf 47 = 1 := by kernel_rfl
@[go_sem] theorem bz47 : Try.prog.bytesOf 47 = 8 := by kernel_rfl
@[go_sem] theorem ag47 : aggT Try.prog 47 = some false := by kernel_rfl
@[go_sem] theorem za47 : zeroA Try.prog 47 = some (.c (.p .nilfn)) := by kernel_rfl
@[go_sem] theorem zp47 : zeroP Try.prog 47 = some [.nilfn] := by kernel_rfl
@[go_sem] theorem zo47 : zeroOk Try.prog 47 = True := eq_true ⟨_, _, za47, rfl, cz47.symm⟩
@[go_sem] theorem cz48 : Try.prog.cellsOf 48 = 1 := by kernel_rfl
@[go_sem] theorem bz48 : Try.prog.bytesOf 48 = 8 := by kernel_rfl
@[go_sem] theorem ag48 : aggT Try.prog 48 = some false := by kernel_rfl
@[go_sem] theorem za48 : zeroA Try.prog 48 = some (.c (.p .nilfn)) := by kernel_rfl
@[go_sem] theorem zp48 : zeroP Try.prog 48 = some [.nilfn] := by kernel_rfl
@[go_sem] theorem zo48 : zeroOk Try.prog 48 = True := eq_true ⟨_, _, za48, rfl, cz48.symm⟩
@[go_sem] theorem cz49 : Try.prog.cellsOf 49 = 1 := by kernel_rfl
@[go_sem] theorem bz49 : Try.prog.bytesOf 49 = 8 := by kernel_rfl
@[go_sem] theorem ag49 : aggT Try.prog 49 = some false := by kernel_rfl
@[go_sem] theorem za49 : zeroA Try.prog 49 = some (.c (.p .nilfn)) := by kernel_rfl
@[go_sem] theorem zp49 : zeroP Try.prog 49 = some [.nilfn] := by kernel_rfl
@[go_sem] theorem zo49 : zeroOk Try.prog 49 = True := eq_true ⟨_, _, za49, rfl, cz49.symm⟩
@[go_sem] theorem cz50 : Try.prog.cellsOf 50 = 1 := by kernel_rfl
@[go_sem] theorem bz50 : Try.prog.bytesOf 50 = 8 := by kernel_rfl
@[go_sem] theorem ag50 : aggT Try.prog 50 = some false := by kernel_rfl
@[go_sem] theorem za50 : zeroA Try.prog 50 = some (.c (.p .nilfn)) := by kernel_rfl
@[go_sem] theorem zp50 : zeroP Try.prog 50 = some [.nilfn] := by kernel_rfl
@[go_sem] theorem zo50 : zeroOk Try.prog 50 = True := eq_true ⟨_, _, za50, rfl, cz50.symm⟩
@[go_sem] theorem cz51 : Try.prog.cellsOf 51 = 1 := by kernel_rfl
@[go_sem] theorem bz51 : Try.prog.bytesOf 51 = 8 := by kernel_rfl
@[go_sem] theorem ag51 : aggT Try.prog 51 = some false := by kernel_rfl
@[go_sem] theorem za51 : zeroA Try.prog 51 = some (.c (.p .nilfn)) := by kernel_rfl
@[go_sem] theorem zp51 : zeroP Try.prog 51 = some [.nilfn] := by kernel_rfl
@[go_sem] theorem zo51 : zeroOk Try.prog 51 = True := eq_true ⟨_, _, za51, rfl, cz51.symm⟩
@[go_sem] theorem cz52 : Try.prog.cellsOf 52 = 1 := by kernel_rfl
@[go_sem] theorem bz52 : Try.prog.bytesOf 52 = 8 := by kernel_rfl
@[go_sem] theorem ag52 : aggT Try.prog 52 = some false := by kernel_rfl
@[go_sem] theorem za52 : zeroA Try.prog 52 = some (.c (.p .nilfn)) := by kernel_rfl
@[go_sem] theorem zp52 : zeroP Try.prog 52 = some [.nilfn] := by kernel_rfl
@[go_sem] theorem zo52 : zeroOk Try.prog 52 = True := eq_true ⟨_, _, za52, rfl, cz52.symm⟩
@[go_sem] theorem cz53 : Try.prog.cellsOf 53 = 1 := by kernel_rfl
@[go_sem] theorem bz53 : Try.prog.bytesOf 53 = 8 := by kernel_rfl
@[go_sem] theorem ag53 : aggT Try.prog 53 = some false := by kernel_rfl
@[go_sem] theorem za53 : zeroA Try.prog 53 = some (.c (.p .nilfn)) := by kernel_rfl
@[go_sem] theorem zp53 : zeroP Try.prog 53 = some [.nilfn] := by kernel_rfl
@[go_sem] theorem zo53 : zeroOk Try.prog 53 = True := eq_true ⟨_, _, za53, rfl, cz53.symm⟩
@[go_sem] theorem cz54 : Try.prog.cellsOf 54 = 1 := by kernel_rfl
@[go_sem] theorem bz54 : Try.prog.bytesOf 54 = 8 := by kernel_rfl
@[go_sem] theorem ag54 : aggT Try.prog 54 = some false := by kernel_rfl
@[go_sem] theorem za54 : zeroA Try.prog 54 = some (.c (.p .nilfn)) := by kernel_rfl
@[go_sem] theorem zp54 : zeroP Try.prog 54 = some [.nilfn] := by kernel_rfl
@[go_sem] theorem zo54 : zeroOk Try.prog 54 = True := eq_true ⟨_, _, za54, rfl, cz54.symm⟩
@[go_sem] theorem cz55 : Try.prog.cellsOf 55 = 1 := by kernel_rfl
@[go_sem] theorem bz55 : Try.prog.bytesOf 55 = 8 := by kernel_rfl
@[go_sem] theorem ag55 : aggT Try.prog 55 = some false := by kernel_rfl
@[go_sem] theorem za55 : zeroA Try.prog 55 = some (.c (.p .nilfn)) := by kernel_rfl
@[go_sem] theorem zp55 : zeroP Try.prog 55 = some [.nilfn] := by kernel_rfl
@[go_sem] theorem zo55 : zeroOk Try.prog 55 = True := eq_true ⟨_, _, za55, rfl, cz55.symm⟩
@[go_sem] theorem cz56 : Try.prog.cellsOf 56 = 1 := by kernel_rfl
@[go_sem] theorem bz56 : Try.prog.bytesOf 56 = 8 := by kernel_rfl
@[go_sem] theorem ag56 : aggT Try.prog 56 = some false := by kernel_rfl
@[go_sem] theorem za56 : zeroA Try.prog 56 = some (.c (.p .nilfn)) := by kernel_rfl
@[go_sem] theorem zp56 : zeroP Try.prog 56 = some [.nilfn] := by kernel_rfl
@[go_sem] theorem zo56 : zeroOk Try.prog 56 = True := eq_true ⟨_, _, za56, rfl, cz56.symm⟩
@[go_sem] theorem cz57 : Try.prog.cellsOf 57 = 1 := by kernel_rfl
@[go_sem] theorem bz57 : Try.prog.bytesOf 57 = 8 := by kernel_rfl
@[go_sem] theorem ag57 : aggT Try.prog 57 = some false := by kernel_rfl
@[go_sem] theorem za57 : zeroA Try.prog 57 = some (.c (.p .nilfn)) := by kernel_rfl
@[go_sem] theorem zp57 : zeroP Try.prog 57 = some [.nilfn] := by kernel_rfl
@[go_sem] theorem zo57 : zeroOk Try.prog 57 = True := eq_true ⟨_, _, za57, rfl, cz57.symm⟩
@[go_sem] theorem cz58 : Try.prog.cellsOf 58 = 1 := by kernel_rfl
@[go_sem] theorem bz58 : Try.prog.bytesOf 58 = 8 := by kernel_rfl
@[go_sem] theorem ag58 : aggT Try.prog 58 = some false := by kernel_rfl
@[go_sem] theorem za58 : zeroA Try.prog 58 = some (.c (.p .nilfn)) := by kernel_rfl
@[go_sem] theorem zp58 : zeroP Try.prog 58 = some [.nilfn] := by kernel_rfl
@[go_sem] theorem zo58 : zeroOk Try.prog 58 = True := eq_true ⟨_, _, za58, rfl, cz58.symm⟩
@[go_sem] theorem cz59 : Try.prog.cellsOf 59 = 1 := by kernel_rfl
@[go_sem] theorem bz59 : Try.prog.bytesOf 59 = 8 := by kernel_rfl
@[go_sem] theorem ag59 : aggT Try.prog 59 = some false := by kernel_rfl
@[go_sem] theorem za59 : zeroA Try.prog 59 = some (.c (.p .nilfn)) := by kernel_rfl
@[go_sem] theorem zp59 : zeroP Try.prog 59 = some [.nilfn] := by kernel_rfl
@[go_sem] theorem zo59 : zeroOk Try.prog 59 = True := eq_true ⟨_, _, za59, rfl, cz59.symm⟩
@[go_sem] theorem cz60 : Try.prog.cellsOf 60 = 1 := by kernel_rfl
@[go_sem] theorem bz60 : Try.prog.bytesOf 60 = 8 := by kernel_rfl
@[go_sem] theorem ag60 : aggT Try.prog 60 = some false := by kernel_rfl
@[go_sem] theorem za60 : zeroA Try.prog 60 = some (.c (.p .nilfn)) := by kernel_rfl
@[go_sem] theorem zp60 : zeroP Try.prog 60 = some [.nilfn] := by kernel_rfl
@[go_sem] theorem zo60 : zeroOk Try.prog 60 = True := eq_true ⟨_, _, za60, rfl, cz60.symm⟩
@[go_sem] theorem cz61 : Try.prog.cellsOf 61 = 1 := by kernel_rfl
@[go_sem] theorem bz61 : Try.prog.bytesOf 61 = 8 := by kernel_rfl
@[go_sem] theorem ag61 : aggT Try.prog 61 = some false := by kernel_rfl
@[go_sem] theorem za61 : zeroA Try.prog 61 = some (.c (.p .nilfn)) := by kernel_rfl
@[go_sem] theorem zp61 : zeroP Try.prog 61 = some [.nilfn] := by kernel_rfl
@[go_sem] theorem zo61 : zeroOk Try.prog 61 = True := eq_true ⟨_, _, za61, rfl, cz61.symm⟩
@[go_sem] theorem cz62 : Try.prog.cellsOf 62 = 1 := by kernel_rfl
@[go_sem] theorem bz62 : Try.prog.bytesOf 62 = 8 := by kernel_rfl
@[go_sem] theorem ag62 : aggT Try.prog 62 = some false := by kernel_rfl
@[go_sem] theorem za62 : zeroA Try.prog 62 = some (.c (.p .nilfn)) := by kernel_rfl
@[go_sem] theorem zp62 : zeroP Try.prog 62 = some [.nilfn] := by kernel_rfl
@[go_sem] theorem zo62 : zeroOk Try.prog 62 = True := eq_true ⟨_, _, za62, rfl, cz62.symm⟩
@[go_sem] theorem cz63 : Try.prog.cellsOf 63 = 1 := by kernel_rfl
@[go_sem] theorem bz63 : Try.prog.bytesOf 63 = 8 := by kernel_rfl
@[go_sem] theorem ag63 : aggT Try.prog 63 = some false := by kernel_rfl
@[go_sem] theorem za63 : zeroA Try.prog 63 = some (.c (.p .nilfn)) := by kernel_rfl
@[go_sem] theorem zp63 : zeroP Try.prog 63 = some [.nilfn] := by kernel_rfl
@[go_sem] theorem zo63 : zeroOk Try.prog 63 = True := eq_true ⟨_, _, za63, rfl, cz63.symm⟩
@[go_sem] theorem cz64 : Try.prog.cellsOf 64 = 1 := by kernel_rfl
@[go_sem] theorem bz64 : Try.prog.bytesOf 64 = 8 := by kernel_rfl
@[go_sem] theorem ag64 : aggT Try.prog 64 = some false := by kernel_rfl
@[go_sem] theorem za64 : zeroA Try.prog 64 = some (.c (.p .nilfn)) := by kernel_rfl
@[go_sem] theorem zp64 : zeroP Try.prog 64 = some [.nilfn] := by kernel_rfl
@[go_sem] theorem zo64 : zeroOk Try.prog 64 = True := eq_true ⟨_, _, za64, rfl, cz64.symm⟩
@[go_sem] theorem cz65 : Try.prog.cellsOf 65 = 1 := by kernel_rfl
@[go_sem] theorem bz65 : Try.prog.bytesOf 65 = 8 := by kernel_rfl
@[go_sem] theorem ag65 : aggT Try.prog 65 = some false := by kernel_rfl
@[go_sem] theorem za65 : zeroA Try.prog 65 = some (.c (.p .nilfn)) := by kernel_rfl
@[go_sem] theorem zp65 : zeroP Try.prog 65 = some [.nilfn] := by kernel_rfl
@[go_sem] theorem zo65 : zeroOk Try.prog 65 = True := eq_true ⟨_, _, za65, rfl, cz65.symm⟩
@[go_sem] theorem cz66 : Try.prog.cellsOf 66 = 1 := by kernel_rfl
@[go_sem] theorem bz66 : Try.prog.bytesOf 66 = 8 := by kernel_rfl
@[go_sem] theorem ag66 : aggT Try.prog 66 = some false := by kernel_rfl
@[go_sem] theorem za66 : zeroA Try.prog 66 = some (.c (.p .nilfn)) := by kernel_rfl
@[go_sem] theorem zp66 : zeroP Try.prog 66 = some [.nilfn] := by kernel_rfl
@[go_sem] theorem zo66 : zeroOk Try.prog 66 = True := eq_true ⟨_, _, za66, rfl, cz66.symm⟩
@[go_sem] theorem cz67 : Try.prog.cellsOf 67 = 1 := by kernel_rfl
@[go_sem] theorem bz67 : Try.prog.bytesOf 67 = 8 := by kernel_rfl
@[go_sem] theorem ag67 : aggT Try.prog 67 = some false := by kernel_rfl
@[go_sem] theorem za67 : zeroA Try.prog 67 = some (.c (.p .nilfn)) := by kernel_rfl
@[go_sem] theorem zp67 : zeroP Try.prog 67 = some [.nilfn] := by kernel_rfl
@[go_sem] theorem zo67 : zeroOk Try.prog 67 = True := eq_true ⟨_, _, za67, rfl, cz67.symm⟩
@[go_sem] theorem cz68 : Try.prog.cellsOf 68 = 1 := by kernel_rfl
@[go_sem] theorem bz68 : Try.prog.bytesOf 68 = 8 := by kernel_rfl
@[go_sem] theorem ag68 : aggT Try.prog 68 = some false := by kernel_rfl
@[go_sem] theorem za68 : zeroA Try.prog 68 = some (.c (.p .nilfn)) := by kernel_rfl
@[go_sem] theorem zp68 : zeroP Try.prog 68 = some [.nilfn] := by kernel_rfl
@[go_sem] theorem zo68 : zeroOk Try.prog 68 = True := eq_true ⟨_, _, za68, rfl, cz68.symm⟩
@[go_sem] theorem cz69 : Try.prog.cellsOf 69 = 1 := by kernel_rfl
@[go_sem] theorem bz69 : Try.prog.bytesOf 69 = 8 := by kernel_rfl
@[go_sem] theorem ag69 : aggT Try.prog 69 = some false := by kernel_rfl
@[go_sem] theorem za69 : zeroA Try.prog 69 = some (.c (.p .nilfn)) := by kernel_rfl
@[go_sem] theorem zp69 : zeroP Try.prog 69 = some [.nilfn] := by kernel_rfl
@[go_sem] theorem zo69 : zeroOk Try.prog 69 = True := eq_true ⟨_, _, za69, rfl, cz69.symm⟩
@[go_sem] theorem cz70 : Try.prog.cellsOf 70 = 1 := by kernel_rfl
@[go_sem] theorem bz70 : Try.prog.bytesOf 70 = 8 := by kernel_rfl
@[go_sem] theorem ag70 : aggT Try.prog 70 = some false := by kernel_rfl
@[go_sem] theorem za70 : zeroA Try.prog 70 = some (.c (.p .nilfn)) := by kernel_rfl
@[go_sem] theorem zp70 : zeroP Try.prog 70 = some [.nilfn] := by kernel_rfl
@[go_sem] theorem zo70 : zeroOk Try.prog 70 = True := eq_true ⟨_, _, za70, rfl, cz70.symm⟩
@[go_sem] theorem cz71 : Try.prog.cellsOf 71 = 1 := by kernel_rfl
@[go_sem] theorem bz71 : Try.prog.bytesOf 71 = 8 := by kernel_rfl
@[go_sem] theorem ag71 : aggT Try.prog 71 = some false := by kernel_rfl
@[go_sem] theorem za71 : zeroA Try.prog 71 = some (.c (.p .nilfn)) := by kernel_rfl
@[go_sem] theorem zp71 : zeroP Try.prog 71 = some [.nilfn] := by kernel_rfl
@[go_sem] theorem zo71 : zeroOk Try.prog 71 = True := eq_true ⟨_, _, za71, rfl, cz71.symm⟩
@[go_sem] theorem cz72 : Try.prog.cellsOf 72 = 1 := by kernel_rfl
@[go_sem] theorem bz72 : Try.prog.bytesOf 72 = 8 := by kernel_rfl
@[go_sem] theorem ag72 : aggT Try.prog 72 = some false := by kernel_rfl
@[go_sem] theorem za72 : zeroA Try.prog 72 = some (.c (.p .nilfn)) := by kernel_rfl
@[go_sem] theorem zp72 : zeroP Try.prog 72 = some [.nilfn] := by kernel_rfl
@[go_sem] theorem zo72 : zeroOk Try.prog 72 = True := eq_true ⟨_, _, za72, rfl, cz72.symm⟩
@[go_sem] theorem cz73 : Try.prog.cellsOf 73 = 4 := by kernel_rfl
@[go_sem] theorem bz73 : Try.prog.bytesOf 73 = 40 := by kernel_rfl
@[go_sem] theorem ag73 : aggT Try.prog 73 = some true := by kernel_rfl
@[go_sem] theorem za73 : zeroA Try.prog 73 = some (.agg [.p .nilp, .p .nilp, .p .nilp, .p (.str ⟨#[]⟩)]) := by kernel_rfl
@[go_sem] theorem zp73 : zeroP Try.prog 73 = some [.nilp, .nilp, .nilp, (.str ⟨#[]⟩)] := by kernel_rfl
@[go_sem] theorem zo73 : zeroOk Try.prog 73 = True := eq_true ⟨_, _, za73, rfl, cz73.symm⟩
@[go_sem] theorem fo73_0 : fieldOf Try.prog 73 0 = some (0, 17) := by kernel_rfl
@[go_sem] theorem fo73_1 : fieldOf Try.prog 73 1 = some (1, 17) := by kernel_rfl
@[go_sem] theorem fo73_2 : fieldOf Try.prog 73 2 = some (2, 17) := by kernel_rfl
@[go_sem] theorem fo73_3 : fieldOf Try.prog 73 3 = some (3, 9) := by kernel_rfl
@[go_sem] theorem pl73 : placesOf Try.prog 73 = some [(0, 1), (1, 1), (2, 1), (3, 1)] := by kernel_rfl
@[go_sem] theorem cz74 : Try.prog.cellsOf 74 = 4 := by kernel_rfl
@[go_sem] theorem bz74 : Try.prog.bytesOf 74 = 40 := by kernel_rfl
@[go_sem] theorem ag74 : aggT Try.prog 74 = some true := by kernel_rfl
@[go_sem] theorem za74 : zeroA Try.prog 74 = some (.agg [.p .nilp, .p .nilp, .p .nilp, .p (.str ⟨#[]⟩)]) := by kernel_rfl
@[go_sem] theorem zp74 : zeroP Try.prog 74 = some [.nilp, .nilp, .nilp, (.str ⟨#[]⟩)] := by kernel_rfl
@[go_sem] theorem zo74 : zeroOk Try.prog 74 = True := eq_true ⟨_, _, za74, rfl, cz74.symm⟩
@[go_sem] theorem fo74_0 : fieldOf Try.prog 74 0 = some (0, 17) := by kernel_rfl
@[go_sem] theorem fo74_1 : fieldOf Try.prog 74 1 = some (1, 17) := by kernel_rfl
@[go_sem] theorem fo74_2 : fieldOf Try.prog 74 2 = some (2, 17) := by kernel_rfl
@[go_sem] theorem fo74_3 : fieldOf Try.prog 74 3 = some (3, 9) := by kernel_rfl
@[go_sem] theorem pl74 : placesOf Try.prog 74 = some [(0, 1), (1, 1), (2, 1), (3, 1)] := by kernel_rfl
@[go_sem] theorem cz76 : Try.prog.cellsOf 76 = 0 := by kernel_rfl
@[go_sem] theorem bz76 : Try.prog.bytesOf 76 = 0 := by kernel_rfl
@[go_sem] theorem ag76 : aggT Try.prog 76 = some true := by kernel_rfl
@[go_sem] theorem za76 : zeroA Try.prog 76 = some (.agg []) := by kernel_rfl
@[go_sem] theorem zp76 : zeroP Try.prog 76 = some [] := by kernel_rfl
@[go_sem] theorem fo76_0 : fieldOf Try.prog 76 0 = some (0, 75) := by kernel_rfl
@[go_sem] theorem pl76 : placesOf Try.prog 76 = some [(0, 0)] := by kernel_rfl
@[go_sem] theorem cz77 : Try.prog.cellsOf 77 = 0 := by kernel_rfl
@[go_sem] theorem bz77 : Try.prog.bytesOf 77 = 0 := by kernel_rfl
@[go_sem] theorem ag77 : aggT Try.prog 77 = some true := by kernel_rfl
@[go_sem] theorem za77 : zeroA Try.prog 77 = some (.agg []) := by kernel_rfl
@[go_sem] theorem zp77 : zeroP Try.prog 77 = some [] := by kernel_rfl
@[go_sem] theorem fo77_0 : fieldOf Try.prog 77 0 = some (0, 75) := by kernel_rfl
@[go_sem] theorem pl77 : placesOf Try.prog 77 = some [(0, 0)] := by kernel_rfl
@[go_sem] theorem cz78 : Try.prog.cellsOf 78 = 1 := by kernel_rfl
@[go_sem] theorem bz78 : Try.prog.bytesOf 78 = 8 := by kernel_rfl
@[go_sem] theorem ag78 : aggT Try.prog 78 = some false := by kernel_rfl
@[go_sem] theorem za78 : zeroA Try.prog 78 = some (.c (.p .nilfn)) := by kernel_rfl
@[go_sem] theorem zp78 : zeroP Try.prog 78 = some [.nilfn] := by kernel_rfl
@[go_sem] theorem zo78 : zeroOk Try.prog 78 = True := eq_true ⟨_, _, za78, rfl, cz78.symm⟩
@[go_sem] theorem cz79 : Try.prog.cellsOf 79 = 1 := by kernel_rfl
@[go_sem] theorem bz79 : Try.prog.bytesOf 79 = 4 := by kernel_rfl
@[go_sem] theorem ag79 : aggT Try.prog 79 = some false := by kernel_rfl
@[go_sem] theorem za79 : zeroA Try.prog 79 = some (.c (.p (.int .u32 0))) := by kernel_rfl
@[go_sem] theorem zp79 : zeroP Try.prog 79 = some [(.int .u32 0)] := by kernel_rfl
@[go_sem] theorem zo79 : zeroOk Try.prog 79 = True := eq_true ⟨_, _, za79, rfl, cz79.symm⟩
@[go_sem] theorem cz80 : Try.prog.cellsOf 80 = 1 := by kernel_rfl
@[go_sem] theorem bz80 : Try.prog.bytesOf 80 = 1 := by kernel_rfl
@[go_sem] theorem ag80 : aggT Try.prog 80 = some false := by kernel_rfl
@[go_sem] theorem za80 : zeroA Try.prog 80 = some (.c (.p (.int .u8 0))) := by kernel_rfl
@[go_sem] theorem zp80 : zeroP Try.prog 80 = some [(.int .u8 0)] := by kernel_rfl
@[go_sem] theorem zo80 : zeroOk Try.prog 80 = True := eq_true ⟨_, _, za80, rfl, cz80.symm⟩
@[go_sem] theorem cz81 : Try.prog.cellsOf 81 = 1 := by kernel_rfl
@[go_sem] theorem bz81 : Try.prog.bytesOf 81 = 1 := by kernel_rfl
@[go_sem] theorem ag81 : aggT Try.prog 81 = some false := by kernel_rfl
@[go_sem] theorem za81 : zeroA Try.prog 81 = some (.c (.p (.int .u8 0))) := by kernel_rfl
@[go_sem] theorem zp81 : zeroP Try.prog 81 = some [(.int .u8 0)] := by kernel_rfl
@[go_sem] theorem zo81 : zeroOk Try.prog 81 = True := eq_true ⟨_, _, za81, rfl, cz81.symm⟩
@[go_sem] theorem cz82 : Try.prog.cellsOf 82 = 1 := by kernel_rfl
@[go_sem] theorem bz82 : Try.prog.bytesOf 82 = 8 := by kernel_rfl
@[go_sem] theorem ag82 : aggT Try.prog 82 = some false := by kernel_rfl
@[go_sem] theorem za82 : zeroA Try.prog 82 = some (.c (.p .nilfn)) := by kernel_rfl
@[go_sem] theorem zp82 : zeroP Try.prog 82 = some [.nilfn] := by kernel_rfl
@[go_sem] theorem zo82 : zeroOk Try.prog 82 = True := eq_true ⟨_, _, za82, rfl, cz82.symm⟩
@[go_sem] theorem cz83 : Try.prog.cellsOf 83 = 1 := by kernel_rfl
@[go_sem] theorem bz83 : Try.prog.bytesOf 83 = 8 := by kernel_rfl
@[go_sem] theorem ag83 : aggT Try.prog 83 = some false := by kernel_rfl
@[go_sem] theorem za83 : zeroA Try.prog 83 = some (.c (.p .nilp)) := by kernel_rfl
@[go_sem] theorem zp83 : zeroP Try.prog 83 = some [.nilp] := by kernel_rfl
@[go_sem] theorem zo83 : zeroOk Try.prog 83 = True := eq_true ⟨_, _, za83, rfl, cz83.symm⟩
@[go_sem] theorem cz84 : Try.prog.cellsOf 84 = 1 := by kernel_rfl
@[go_sem] theorem bz84 : Try.prog.bytesOf 84 = 4 := by kernel_rfl
@[go_sem] theorem ag84 : aggT Try.prog 84 = some false := by kernel_rfl
@[go_sem] theorem za84 : zeroA Try.prog 84 = some (.c (.p (.int .i32 0))) := by kernel_rfl
@[go_sem] theorem zp84 : zeroP Try.prog 84 = some [(.int .i32 0)] := by kernel_rfl
@[go_sem] theorem zo84 : zeroOk Try.prog 84 = True := eq_true ⟨_, _, za84, rfl, cz84.symm⟩
@[go_sem] theorem cz85 : Try.prog.cellsOf 85 = 1 := by kernel_rfl
@[go_sem] theorem bz85 : Try.prog.bytesOf 85 = 4 := by kernel_rfl
@[go_sem] theorem ag85 : aggT Try.prog 85 = some false := by kernel_rfl
@[go_sem] theorem za85 : zeroA Try.prog 85 = some (.c (.p (.int .i32 0))) := by kernel_rfl
@[go_sem] theorem zp85 : zeroP Try.prog 85 = some [(.int .i32 0)] := by kernel_rfl
@[go_sem] theorem zo85 : zeroOk Try.prog 85 = True := eq_true ⟨_, _, za85, rfl, cz85.symm⟩
@[go_sem] theorem cz86 : Try.prog.cellsOf 86 = 11 := by kernel_rfl
@[go_sem] theorem bz86 : Try.prog.bytesOf 86 = 48 := by kernel_rfl
@[go_sem] theorem ag86 : aggT Try.prog 86 = some true := by kernel_rfl
@[go_sem] theorem za86 : zeroA Try.prog 86 = some (.agg [.p (.int .u64 0), .p (.int .u64 0), .p (.int .u32 0), .p (.int .u8 0), .p (.int .u8 0), .p (.int .u8 0), .p (.int .u8 0), .p .nilfn, .p .nilp, .p (.int .i32 0), .p (.int .i32 0)]) := by kernel_rfl
@[go_sem] theorem zp86 : zeroP Try.prog 86 = some [(.int .u64 0), (.int .u64 0), (.int .u32 0), (.int .u8 0), (.int .u8 0), (.int .u8 0), (.int .u8 0), .nilfn, .nilp, (.int .i32 0), (.int .i32 0)] := by kernel_rfl
@[go_sem] theorem zo86 : zeroOk Try.prog 86 = True := eq_true ⟨_, _, za86, rfl, cz86.symm⟩
@[go_sem] theorem fo86_0 : fieldOf Try.prog 86 0 = some (0, 12) := by kernel_rfl
@[go_sem] theorem fo86_1 : fieldOf Try.prog 86 1 = some (1, 12) := by kernel_rfl
@[go_sem] theorem fo86_2 : fieldOf Try.prog 86 2 = some (2, 79) := by kernel_rfl
@[go_sem] theorem fo86_3 : fieldOf Try.prog 86 3 = some (3, 80) := by kernel_rfl
@[go_sem] theorem fo86_4 : fieldOf Try.prog 86 4 = some (4, 5) := by kernel_rfl
@[go_sem] theorem fo86_5 : fieldOf Try.prog 86 5 = some (5, 5) := by kernel_rfl
@[go_sem] theorem fo86_6 : fieldOf Try.prog 86 6 = some (6, 81) := by kernel_rfl
@[go_sem] theorem fo86_7 : fieldOf Try.prog 86 7 = some (7, 82) := by kernel_rfl
@[go_sem] theorem fo86_8 : fieldOf Try.prog 86 8 = some (8, 83) := by kernel_rfl
@[go_sem] theorem fo86_9 : fieldOf Try.prog 86 9 = some (9, 84) := by kernel_rfl
@[go_sem] theorem fo86_10 : fieldOf Try.prog 86 10 = some (10, 85) := by kernel_rfl
@[go_sem] theorem pl86 : placesOf Try.prog 86 = some [(0, 1), (1, 1), (2, 1), (3, 1), (4, 1), (5, 1), (6, 1), (7, 1), (8, 1), (9, 1), (10, 1)] := by kernel_rfl
@[go_sem] theorem cz87 : Try.prog.cellsOf 87 = 11 := by kernel_rfl
@[go_sem] theorem bz87 : Try.prog.bytesOf 87 = 48 := by kernel_rfl
@[go_sem] theorem ag87 : aggT Try.prog 87 = some true := by kernel_rfl
@[go_sem] theorem za87 : zeroA Try.prog 87 = some (.agg [.p (.int .u64 0), .p (.int .u64 0), .p (.int .u32 0), .p (.int .u8 0), .p (.int .u8 0), .p (.int .u8 0), .p (.int .u8 0), .p .nilfn, .p .nilp, .p (.int .i32 0), .p (.int .i32 0)]) := by kernel_rfl
@[go_sem] theorem zp87 : zeroP Try.prog 87 = some [(.int .u64 0), (.int .u64 0), (.int .u32 0), (.int .u8 0), (.int .u8 0), (.int .u8 0), (.int .u8 0), .nilfn, .nilp, (.int .i32 0), (.int .i32 0)] := by kernel_rfl
@[go_sem] theorem zo87 : zeroOk Try.prog 87 = True := eq_true ⟨_, _, za87, rfl, cz87.symm⟩
@[go_sem] theorem fo87_0 : fieldOf Try.prog 87 0 = some (0, 12) := by kernel_rfl
@[go_sem] theorem fo87_1 : fieldOf Try.prog 87 1 = some (1, 12) := by kernel_rfl
@[go_sem] theorem fo87_2 : fieldOf Try.prog 87 2 = some (2, 79) := by kernel_rfl
@[go_sem] theorem fo87_3 : fieldOf Try.prog 87 3 = some (3, 80) := by kernel_rfl
@[go_sem] theorem fo87_4 : fieldOf Try.prog 87 4 = some (4, 5) := by kernel_rfl
@[go_sem] theorem fo87_5 : fieldOf Try.prog 87 5 = some (5, 5) := by kernel_rfl
@[go_sem] theorem fo87_6 : fieldOf Try.prog 87 6 = some (6, 81) := by kernel_rfl
@[go_sem] theorem fo87_7 : fieldOf Try.prog 87 7 = some (7, 82) := by kernel_rfl
@[go_sem] theorem fo87_8 : fieldOf Try.prog 87 8 = some (8, 83) := by kernel_rfl
@[go_sem] theorem fo87_9 : fieldOf Try.prog 87 9 = some (9, 84) := by kernel_rfl
@[go_sem] theorem fo87_10 : fieldOf Try.prog 87 10 = some (10, 85) := by kernel_rfl
@[go_sem] theorem pl87 : placesOf Try.prog 87 = some [(0, 1), (1, 1), (2, 1), (3, 1), (4, 1), (5, 1), (6, 1), (7, 1), (8, 1), (9, 1), (10, 1)] := by kernel_rfl
end Go.Proofs.Ytnibihjlclelgaa
