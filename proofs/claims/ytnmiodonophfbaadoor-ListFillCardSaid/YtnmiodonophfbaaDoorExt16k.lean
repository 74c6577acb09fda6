/- The functions of this part as plain Lean functions, printed by gen8.py. -/
import Derived.Test.YtnmiodonophfbaaDoorExt16t
import Derived.Test.YtnmiodonophfbaaDoorExt16u
import Derived.Test.YtnmiodonophfbaaDoorExt16a
import Derived.Test.YtnmiodonophfbaaDoorExt16j
import Derived.Test.YtnmiodonophfbaaDoorLibQ
set_option linter.unusedVariables false
namespace Go.Proofs.YtnmiodonophfbaaDoor
open Go.X

structure Arr2_List_UInt8 where
  e0 : List UInt8
  e1 : List UInt8

def Arr2_List_UInt8.list (a : Arr2_List_UInt8) : List (List UInt8) := [a.e0, a.e1]
def Arr2_List_UInt8.of : List (List UInt8) → Option Arr2_List_UInt8
  | [x0, x1] => some ⟨x0, x1⟩
  | _ => none
def Arr2_List_UInt8.get (a : Arr2_List_UInt8) (i : Int) : Option (List UInt8) := idx a.list i
def Arr2_List_UInt8.set (a : Arr2_List_UInt8) (i : Int) (x : List UInt8) : Option Arr2_List_UInt8 := (setI a.list i x).bind Arr2_List_UInt8.of

def list_Join_b1 (N : Nat) (r25 : ListPattern × Bool) (x_43 : Int) : Option (Int ⊕ ((Unit ⊕ ((List UInt8) × Int)))) :=
  bif (decide (x_43 < (([r25.1.Two, r25.1.Start, r25.1.Middle, r25.1.End] : List (List UInt8)).length : Int))) then
    (idx ([r25.1.Two, r25.1.Start, r25.1.Middle, r25.1.End] : List (List UInt8)) x_43).bind fun x46 =>
    (validate_Pattern N x46 2).bind fun r57 =>
    bif (!r57) then
      some (.inr (.inr ([], 4)))
    else
      some (.inl (x_43 + 1))
  else
    some (.inr (.inl ()))
def list_Join (N : Nat) (loc_0 : Locale) (style_1 : List UInt8) (items_2 : List (List UInt8)) : Option ((List UInt8) × Int) :=
  (list_Find N loc_0 style_1).bind fun r25 =>
  bif (!r25.2) then
    some ([], 18)
  else
    (iter (fun s => list_Join_b1 N r25 s) N 0).bind fun o41 =>
    Sum.elim (fun _o41 =>
      bif (decide ((items_2.length : Int) > 1000)) then
        some ([], 6)
      else
        (list_join N r25.1 items_2).bind fun r61 =>
        bif (decide ((r61.length : Int) > 20000)) then
          some ([], 6)
        else
          some (r61, 0))
    (fun o41 =>
      some o41) o41

def calquelaw16_loc (_N : Nat) (p_0 : ListPattern) : Option Locale :=
  some (Locale.mk ([]) ([]) ([]) ([]) ([]) (Symbols.mk ([]) ([]) ([]) ([]) 0 0) ([p_0] : List (ListPattern)) ([]) ([]) ([]) ([]))

def calquelaw16_awake (N : Nat) : Option Bool :=
  (calquelaw16_loc N (ListPattern.mk ([97, 110, 100]) ([123, 48, 125, 32, 97, 110, 100, 32, 123, 49, 125]) ([123, 48, 125, 44, 32, 123, 49, 125]) ([123, 48, 125, 44, 32, 123, 49, 125]) ([123, 48, 125, 44, 32, 97, 110, 100, 32, 123, 49, 125]))).bind fun r2 =>
  (list_Join N r2 ([97, 110, 100]) ([[97], [98], [99], [100]] : List (List UInt8))).bind fun r38 =>
  bif (r38.2 == 0) then
    some (r38.1 == ([97, 44, 32, 98, 44, 32, 99, 44, 32, 97, 110, 100, 32, 100]))
  else
    some false

def calquelaw16_ListJoin (N : Nat) (p_0 : ListPattern) (style_1 : List UInt8) (items_2 : List (List UInt8)) : Option Bool :=
  (calquelaw16_awake N ).bind fun r7 =>
  bif (!r7) then
    (calquelaw16_awake N ).bind fun r10 =>
    some r10
  else
    (calqueref16_Few N p_0 items_2).bind fun r12 =>
    bif (!r12) then
      (calquelaw16_awake N ).bind fun r15 =>
      some r15
    else
      bif (decide ((style_1.length : Int) > 60)) then
        (calquelaw16_awake N ).bind fun r18 =>
        some r18
      else
        (calquelaw16_loc N p_0).bind fun r20 =>
        (list_Join N r20 style_1 items_2).bind fun r48 =>
        (calquelaw16_loc N p_0).bind fun r52 =>
        (calqueref16_Join N r52 style_1 items_2).bind fun r80 =>
        bif (r48.1 == r80.1) then
          some (r48.2 == r80.2)
        else
          some false

def calquelaw16_ListFill_b1 (N : Nat) (l_0 : List (ListPattern)) (ab_2 : Arr2_List_UInt8) (x_45 : Int) : Option (Int ⊕ ((Unit ⊕ Bool))) :=
  bif (decide (x_45 < (l_0.length : Int))) then
    (idx l_0 x_45).bind fun x48 =>
    bif (decide ((x48.Two.length : Int) > 300)) then
      some (.inr (.inr true))
    else
      (idx l_0 x_45).bind fun x63 =>
      (list_Fill N x63.Two ab_2.e0 ab_2.e1).bind fun r77 =>
      (idx l_0 x_45).bind fun x81 =>
      (calqueref16_Fill N x81.Two ab_2.e0 ab_2.e1).bind fun r95 =>
      bif (r77.1 != r95.1) then
        some (.inr (.inr false))
      else
        bif (r77.2 != r95.2) then
          some (.inr (.inr false))
        else
          some (.inl (x_45 + 1))
  else
    some (.inr (.inl ()))
def calquelaw16_ListFill (N : Nat) (l_0 : List (ListPattern)) (style_1 : List UInt8) (ab_2 : Arr2_List_UInt8) : Option Bool :=
  (calquelaw16_awake N ).bind fun r4 =>
  bif (!r4) then
    (calquelaw16_awake N ).bind fun r7 =>
    some r7
  else
    bif (decide ((l_0.length : Int) > 20)) then
      (calquelaw16_awake N ).bind fun r10 =>
      some r10
    else
      bif (decide ((style_1.length : Int) > 300)) then
        (calquelaw16_awake N ).bind fun r13 =>
        some r13
      else
        bif (decide ((IntKind.wrap .i64 ((ab_2.e0.length : Int) + (ab_2.e1.length : Int))) > 300)) then
          (calquelaw16_awake N ).bind fun r16 =>
          some r16
        else
          (list_Find N (Locale.mk ([]) ([]) ([]) ([]) ([]) (Symbols.mk ([]) ([]) ([]) ([]) 0 0) l_0 ([]) ([]) ([]) ([])) style_1).bind fun r18 =>
          (calqueref16_Find N (Locale.mk ([]) ([]) ([]) ([]) ([]) (Symbols.mk ([]) ([]) ([]) ([]) 0 0) l_0 ([]) ([]) ([]) ([])) style_1).bind fun r29 =>
          bif (!((r18.1.Style == r29.1.Style) && ((r18.1.Two == r29.1.Two) && ((r18.1.Start == r29.1.Start) && ((r18.1.Middle == r29.1.Middle) && (r18.1.End == r29.1.End)))))) then
            some false
          else
            bif (r18.2 != r29.2) then
              some false
            else
              (iter (fun s => calquelaw16_ListFill_b1 N l_0 ab_2 s) N 0).bind fun o43 =>
              Sum.elim (fun _o43 =>
                some true)
              (fun o43 =>
                some o43) o43

def calquelaw16_contains_b1 (_N : Nat) (s_0 : List UInt8) (t_1 : List UInt8) (i_4 : Int) : Option (Int ⊕ ((Unit ⊕ Bool))) :=
  bif (decide ((IntKind.wrap .i64 (i_4 + (t_1.length : Int))) ≤ (s_0.length : Int))) then
    (slc s_0 i_4 (IntKind.wrap .i64 (i_4 + (t_1.length : Int)))).bind fun s7 =>
    bif (s7 == t_1) then
      some (.inr (.inr true))
    else
      some (.inl (IntKind.wrap .i64 (i_4 + 1)))
  else
    some (.inr (.inl ()))
def calquelaw16_contains (N : Nat) (s_0 : List UInt8) (t_1 : List UInt8) : Option Bool :=
  (iter (fun s => calquelaw16_contains_b1 N s_0 t_1 s) N 0).bind fun o2 =>
  Sum.elim (fun _o2 =>
    some false)
  (fun o2 =>
    some o2) o2

def calquelaw16_ListElements_b1 (N : Nat) (items_1 : List (List UInt8)) (o17 : ((List UInt8) × Int)) (length_90 : Int) (x_91 : Int) : Option ((Int × Int) ⊕ ((Int ⊕ Bool))) :=
  bif (decide (x_91 < (items_1.length : Int))) then
    (idx items_1 x_91).bind fun x95 =>
    (calquelaw16_contains N o17.1 x95).bind fun r105 =>
    bif (!r105) then
      some (.inr (.inr false))
    else
      some (.inl ((IntKind.wrap .i64 (length_90 + (x95.length : Int))), (x_91 + 1)))
  else
    some (.inr (.inl length_90))
def calquelaw16_ListElements (N : Nat) (p_0 : ListPattern) (items_1 : List (List UInt8)) : Option Bool :=
  (calquelaw16_awake N ).bind fun r7 =>
  bif (!r7) then
    (calquelaw16_awake N ).bind fun r10 =>
    some r10
  else
    (calqueref16_Few N p_0 items_1).bind fun r12 =>
    bif (!r12) then
      (calquelaw16_awake N ).bind fun r15 =>
      some r15
    else
      (show Option ((List UInt8) × Int) from
        (calquelaw16_loc N p_0).bind fun r21 =>
        (list_Join N r21 p_0.Style items_1).bind fun r49 =>
        some (r49.1, r49.2)).bind fun o17 =>
      bif (o17.2 != 0) then
        some (o17.1 == ([]))
      else
        (iter (fun s => calquelaw16_ListElements_b1 N items_1 o17 s.1 s.2) N (0, 0)).bind fun o87 =>
        Sum.elim (fun o87 =>
          (show Option Int from
            bif ((items_1.length : Int) == 2) then
              some (IntKind.wrap .i64 (o87 + (IntKind.wrap .i64 ((p_0.Two.length : Int) - 6))))
            else
              bif (decide ((items_1.length : Int) > 2)) then
                some (IntKind.wrap .i64 (o87 + (IntKind.wrap .i64 ((IntKind.wrap .i64 ((IntKind.wrap .i64 ((p_0.Start.length : Int) + (p_0.End.length : Int))) - 12)) + (IntKind.wrap .i64 ((IntKind.wrap .i64 ((items_1.length : Int) - 3)) * (IntKind.wrap .i64 ((p_0.Middle.length : Int) - 6))))))))
              else
                some o87).bind fun o109 =>
          some ((o17.1.length : Int) == o109))
        (fun o87 =>
          some o87) o87

def calquelaw16_ListSteps (N : Nat) (p_0 : ListPattern) (items_1 : List (List UInt8)) : Option Bool :=
  (calquelaw16_awake N ).bind fun r7 =>
  bif (!r7) then
    (calquelaw16_awake N ).bind fun r10 =>
    some r10
  else
    (calqueref16_Few N p_0 items_1).bind fun r12 =>
    bif (!r12) then
      (calquelaw16_awake N ).bind fun r15 =>
      some r15
    else
      bif (decide ((items_1.length : Int) < 4)) then
        (calquelaw16_awake N ).bind fun r18 =>
        some r18
      else
        (show Option ((List UInt8) × Int) from
          (calquelaw16_loc N p_0).bind fun r24 =>
          (list_Join N r24 p_0.Style items_1).bind fun r52 =>
          some (r52.1, r52.2)).bind fun o20 =>
        bif (o20.2 != 0) then
          some (o20.1 == ([]))
        else
          (show Option ((List UInt8) × Int) from
            (calquelaw16_loc N (ListPattern.mk ([120]) p_0.End p_0.Middle p_0.Middle p_0.End)).bind fun r92 =>
            (slc items_1 1 (items_1.length : Int)).bind fun l120 =>
            (list_Join N r92 ([120]) l120).bind fun r125 =>
            some (r125.1, r125.2)).bind fun o88 =>
          (idx items_1 0).bind fun x163 =>
          (list_Fill N p_0.Start x163 o88.1).bind fun r173 =>
          bif (o88.2 == 0) then
            bif (r173.2 == 0) then
              some (r173.1 == o20.1)
            else
              some false
          else
            some false

def calquelaw16_ListSame_b1 (_N : Nat) (separator_0 : List UInt8) (items_1 : List (List UInt8)) (want_29 : List UInt8) (x_30 : Int) : Option (((List UInt8) × Int) ⊕ (((List UInt8)))) :=
  bif (decide (x_30 < (items_1.length : Int))) then
    (idx items_1 x_30).bind fun x34 =>
    bif (decide (x_30 > 0)) then
      (cat want_29 separator_0).bind fun s45 =>
      (cat s45 x34).bind fun s47 =>
      some (.inl (s47, (x_30 + 1)))
    else
      (cat want_29 x34).bind fun s49 =>
      some (.inl (s49, (x_30 + 1)))
  else
    some (.inr want_29)
def calquelaw16_ListSame (N : Nat) (separator_0 : List UInt8) (items_1 : List (List UInt8)) : Option Bool :=
  (cat ([123, 48, 125]) separator_0).bind fun s1 =>
  (cat s1 ([123, 49, 125])).bind fun s3 =>
  (calquelaw16_awake N ).bind fun r6 =>
  bif (!r6) then
    (calquelaw16_awake N ).bind fun r9 =>
    some r9
  else
    bif (decide ((separator_0.length : Int) > 60)) then
      (calquelaw16_awake N ).bind fun r12 =>
      some r12
    else
      (calqueref16_Few N (ListPattern.mk ([115]) s3 s3 s3 s3) items_1).bind fun r14 =>
      bif (!r14) then
        (calquelaw16_awake N ).bind fun r17 =>
        some r17
      else
        (calqueref13_Pattern N s3 2).bind fun r19 =>
        bif (!r19) then
          (calquelaw16_awake N ).bind fun r22 =>
          some r22
        else
          (iter (fun s => calquelaw16_ListSame_b1 N separator_0 items_1 s.1 s.2) N ([], 0)).bind fun o26 =>
          (calquelaw16_loc N (ListPattern.mk ([115]) s3 s3 s3 s3)).bind fun r52 =>
          (list_Join N r52 ([115]) items_1).bind fun r80 =>
          bif (decide ((o26.length : Int) > 20000)) then
            some (r80.2 == 6)
          else
            bif (r80.2 == 0) then
              some (r80.1 == o26)
            else
              some false

end Go.Proofs.YtnmiodonophfbaaDoor
