/-
  An abstract memory for walks, part 12: the rules by which simp works out what a region does.
-/
import Derived.Test.YtogappokeheilaaAw11
set_option linter.unusedVariables false
set_option linter.unusedSimpArgs false
namespace Go.Aw
attribute [go_sem] lo aops aStep aopY yldOf aop ev getS aput isLit absA absP absL aLoad aPart aStore aBox aAlloc aBuild aFill aFieldAddr aField aIndexAddr intA aLen aCap aBin aInt aUn aConv aCallee aExtract aBuiltin cellsA splice AThen ABlock isNilC aRes resB oneB argSlots pbAV prAV pbB aMake aGrow aInsert aLookup mapFind aSlice optI cutL aNil aBuildSlice aElems aAppend aMakeFunc pureL capsL capAV aIndex aStr aLit aInvoke idsA idsB idsC idsL idsO idsS SubS isFree keepD DEF

section
variable {H H1 : List AObj}
@[go_sem] theorem frzC_p (x : PV) : frzC H (.p x) = some (x, H) := rfl
@[go_sem] theorem frzC_own (id n : Nat) : frzC H (.own id n) = match H[id]? with
    | some (.arr T size frz es) => if es.length = n then some (PV.sl false es, H.set id (.arr T size es.length es)) else none
    | _ => none := rfl
@[go_sem] theorem frzC_clo (f : Nat) : frzC H (.clo f [] []) = some (.fn f, H) := rfl
@[go_sem] theorem frzs_nil : frzs H [] = some ([], H) := rfl
@[go_sem] theorem frzs_cons (c : Cell) (cs : List Cell) : frzs H (c :: cs) = match frzC H c with
    | some (x, H1) => match frzs H1 cs with
      | some (xs, H2) => some (x :: xs, H2)
      | none => none
    | none => none := rfl
@[go_sem] theorem allLen_nil (k : Nat) : allLen k [] = True := by simp [allLen]
@[go_sem] theorem allLen_cons (k : Nat) (x : List PV) (xs : List (List PV)) : allLen k (x :: xs) = (x.length = k ∧ allLen k xs) := by simp [allLen]
@[go_sem] theorem allLen_append (k : Nat) (xs ys : List (List PV)) : allLen k (xs ++ ys) = (allLen k xs ∧ allLen k ys) := by
  simp [allLen, or_imp, forall_and]
theorem allLen_map {α : Type} {k : Nat} {f : α → List PV} {l : List α} (h : ∀ a, (f a).length = k) : allLen k (l.map f) := by
  intro y hy
  obtain ⟨a, _, rfl⟩ := List.mem_map.1 hy
  exact h a
theorem allLen_sub {k : Nat} {xs ys : List (List PV)} (h : allLen k ys) (hs : ∀ y, y ∈ xs → y ∈ ys) : allLen k xs := fun y hy => h y (hs y hy)
theorem frzs_map (xs : List PV) : frzs H (xs.map Cell.p) = some (xs, H) := by
  induction xs with
  | nil => rfl
  | cons x xs ih => simp only [List.map_cons, frzs, frzC, ih]
@[go_sem] theorem frzs_map' (xs : List PV) : frzs H (xs.map Cell.p) = some (xs, H) := frzs_map xs
@[go_sem] theorem frzA_c (c : Cell) : frzA H (.c c) = frzC H c := rfl
@[go_sem] theorem frzV_c (c : Cell) : frzV H (.c c) = match frzC H c with
    | some (y, H1) => some ((false, [lo y]), H1)
    | none => none := rfl
@[go_sem] theorem frzV_agg (cs : List Cell) : frzV H (.agg cs) = match frzs H cs with
    | some (ys, H1) => some ((true, ys.map lo), H1)
    | none => none := rfl
@[go_sem] theorem frzVs_nil : frzVs H [] = some ([], H) := rfl
@[go_sem] theorem frzVs_cons (x : AV) (xs : List AV) : frzVs H (x :: xs) = match frzV H x with
    | some (b, H1) => match frzVs H1 xs with
      | some (bs, H2) => some (b :: bs, H2)
      | none => none
    | none => none := rfl
@[go_sem] theorem frzR_c (c : Cell) : frzR H (.c c) = match frzC H c with
    | some (y, _) => some (.one (false, [y]))
    | none => none := rfl
@[go_sem] theorem frzR_agg (cs : List Cell) : frzR H (.agg cs) = match frzV H (.agg cs) with
    | some (b, _) => some (.one b)
    | none => none := rfl
@[go_sem] theorem frzR_tup (bs : List (Bool × List Cell)) : frzR H (.tup bs) = match frzVs H (bs.map oneB) with
    | some (ps, _) => some (.tup ps)
    | none => none := rfl
@[go_sem] theorem aPost_ret (P : Program) (fn : Func) (K : AV → List AObj → Prop) (sl : Slots) (H : List AObj) : aPost P fn K .ret sl H = (isFree (getS sl DEF) = true ∧ aRes P sl H fn.results.toList fun l => match l with
    | [b] => K (oneB b) H
    | l => K (.tup l) H) := rfl
@[go_sem] theorem aPost_normal (P : Program) (fn : Func) (K : AV → List AObj → Prop) (sl : Slots) (H : List AObj) : aPost P fn K .normal sl H = (isFree (getS sl DEF) = true ∧ aRes P sl H fn.results.toList fun l => match l with
    | [b] => K (oneB b) H
    | l => K (.tup l) H) := rfl
end
end Go.Aw
