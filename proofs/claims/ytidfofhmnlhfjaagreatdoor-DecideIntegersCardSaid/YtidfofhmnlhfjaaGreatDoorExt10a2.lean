/- The functions of this part as plain Lean functions, printed by gen8.py. -/
import Derived.Test.YtidfofhmnlhfjaaGreatDoorExt10a1
import Derived.Test.YtidfofhmnlhfjaaGreatDoorLibTZ
set_option linter.unusedVariables false
namespace Go.Proofs.YtidfofhmnlhfjaaGreatDoor
open Go.X

def decide_classes_fractions_b4 (N : Nat) (x133 : State) (o154 : Classes) (x_204 : Int) (key_308 : List UInt8) (x_309 : Int) (x_310 : State) : Option (((List UInt8) × Int × State) ⊕ ((State × (List UInt8)))) :=
  bif (decide (x_309 < (o154.l.length : Int))) then
    (idx o154.l x_309).bind fun x319 =>
    (decide_onWhole N x319).bind fun r333 =>
    (show Option State from
      bif (!r333) then
        (show Option State from
          (idx x133.trackers x_309).bind fun x348 =>
          (decide_tracker_read N x348 x319 true x_204).bind fun r359 =>
          (idx x_310.trackers x_309).bind fun _x366 =>
          (setI x_310.trackers x_309 r359).bind fun l372 =>
          some (State.mk x_310.s l372 x_310.integer)).bind fun o342 =>
        some o342
      else
        some x_310).bind fun o335 =>
    (idx o335.trackers x_309).bind fun x406 =>
    (strconv_ItoaT N x406.a).bind fun r418 =>
    (cat ([32]) r418).bind fun s421 =>
    (cat s421 ([32])).bind fun s423 =>
    (idx o335.trackers x_309).bind fun x425 =>
    (strconv_ItoaT N x425.b).bind fun r437 =>
    (cat s423 r437).bind fun s440 =>
    (cat key_308 s440).bind fun s442 =>
    some (.inl (s442, (x_309 + 1), o335))
  else
    some (.inr (x_310, key_308))

def decide_classes_fractions_b3 (N : Nat) (x133 : State) (o154 : Classes) (next_203 : List (State)) (x_204 : Int) (known_205 : List (List UInt8 × Bool)) : Option (((List (State)) × Int × (List (List UInt8 × Bool))) ⊕ (((List (State)) × (List (List UInt8 × Bool))))) :=
  bif (decide (x_204 < 10)) then
    (show Option State from
      (strconv_ItoaT N x_204).bind fun r221 =>
      (cat x133.s r221).bind fun s224 =>
      (mk (o154.l.length : Int) ((Tracker.mk 0 0) : Tracker)).bind fun l226 =>
      bif x133.integer then
        some (State.mk s224 l226 (x_204 == 0))
      else
        some (State.mk s224 l226 false)).bind fun o215 =>
    (strconv_FormatBool N o215.integer).bind fun r289 =>
    (iter (fun s => decide_classes_fractions_b4 N x133 o154 x_204 s.1 s.2.1 s.2.2) N (r289, 0, o215)).bind fun o300 =>
    bif (!((mget known_205 o300.2).getD false)) then
      (mset known_205 o300.2 true).bind fun l455 =>
      (app next_203 ([o300.1] : List (State))).bind fun l464 =>
      some (.inl (l464, (x_204 + 1), l455))
    else
      some (.inl (next_203, (x_204 + 1), known_205))
  else
    some (.inr (next_203, known_205))

def decide_classes_fractions_b2 (N : Nat) (level_57 : List (State)) (next_112 : List (State)) (x_113 : Int) (x_114 : Classes) (known_115 : List (List UInt8 × Bool)) : Option (((List (State)) × Int × Classes × (List (List UInt8 × Bool))) ⊕ ((Classes × (List (State))))) :=
  bif (decide (x_113 < (level_57.length : Int))) then
    (idx level_57 x_113).bind fun x133 =>
    (decide_classes_bits N true x133.trackers x_114).bind fun r147 =>
    (show Option Int from
      bif (!x133.integer) then
        some (ibits .or .u64 r147 9223372036854775808)
      else
        some r147).bind fun o150 =>
    (show Option Classes from
      (decide_keep N x_114.fraction (Part.mk o150 x133.s)).bind fun r164 =>
      some (Classes.mk x_114.l x_114.wholes r164)).bind fun o154 =>
    (iter (fun s => decide_classes_fractions_b3 N x133 o154 s.1 s.2.1 s.2.2) N (next_112, 0, known_115)).bind fun o194 =>
    some (.inl (o194.1, (x_113 + 1), o154, o194.2))
  else
    some (.inr (x_114, next_112))

def decide_classes_fractions_b1 (N : Nat) (level_57 : List (State)) (n_58 : Int) (x_59 : Classes) : Option (((List (State)) × Int × Classes) ⊕ Classes) :=
  bif (decide (n_58 ≤ 6)) then
    (iter (fun s => decide_classes_fractions_b2 N level_57 s.1 s.2.1 s.2.2.1 s.2.2.2) N ([], 0, x_59, ([] : List (List UInt8 × Bool)))).bind fun o95 =>
    some (.inl (o95.2, (IntKind.wrap .i64 (n_58 + 1)), o95.1))
  else
    some (.inr x_59)
def decide_classes_fractions (N : Nat) (x0 : Classes) : Option Classes :=
  (mk (x0.l.length : Int) ((Tracker.mk 0 0) : Tracker)).bind fun l17 =>
  (iter (fun s => decide_classes_fractions_b1 N s.1 s.2.1 s.2.2) N (([(State.mk ([]) l17 true)] : List (State)), 0, x0)).bind fun o43 =>
  some o43

def decide_newClasses_b2 (N : Nat) (l_0 : List (Relation)) (x_27 : Int) (x_58 : Int) (trackers_59 : List (Tracker)) : Option ((Int × (List (Tracker))) ⊕ (((List (Tracker))))) :=
  bif (decide (x_58 < (l_0.length : Int))) then
    (idx l_0 x_58).bind fun x65 =>
    (decide_onWhole N x65).bind fun r79 =>
    bif r79 then
      (decide_reduced N x65 x_27).bind fun r82 =>
      (idx trackers_59 x_58).bind fun x85 =>
      (setI trackers_59 x_58 (Tracker.mk r82 x85.b)).bind fun l93 =>
      some (.inl ((x_58 + 1), l93))
    else
      some (.inl ((x_58 + 1), trackers_59))
  else
    some (.inr trackers_59)

def decide_newClasses_b1 (N : Nat) (l_0 : List (Relation)) (x_27 : Int) (x_28 : Classes) : Option ((Int × Classes) ⊕ Classes) :=
  bif (decide (x_27 < 1000)) then
    (strconv_ItoaT N x_27).bind fun r40 =>
    (mk (l_0.length : Int) ((Tracker.mk 0 0) : Tracker)).bind fun l43 =>
    (iter (fun s => decide_newClasses_b2 N l_0 x_27 s.1 s.2) N (0, l43)).bind fun o53 =>
    (show Option Classes from
      (decide_classes_bits N false o53 x_28).bind fun r112 =>
      (decide_keep N x_28.wholes (Part.mk r112 r40)).bind fun r115 =>
      some (Classes.mk x_28.l r115 x_28.fraction)).bind fun o100 =>
    some (.inl ((x_27 + 1), o100))
  else
    some (.inr x_28)
def decide_newClasses (N : Nat) (l_0 : List (Relation)) : Option (Option (Classes)) :=
  (iter (fun s => decide_newClasses_b1 N l_0 s.1 s.2) N (0, (Classes.mk l_0 ([]) ([])))).bind fun o16 =>
  (decide_classes_fractions N o16).bind fun r149 =>
  some (some r149)

def decide_classes_holds (N : Nat) (x_0 : Option (Classes)) (w_1 : Part) (f_2 : Part) (i_3 : Int) : Option Bool :=
  (x_0).bind fun y7 =>
  (idx y7.l i_3).bind fun x22 =>
  bif (x22.Operand == 1) then
    bif ((ibits .and .u64 f_2.bits 9223372036854775808) != 0) then
      some x22.Not
    else
      (decide_onWhole N x22).bind fun r38 =>
      bif r38 then
        (ishr .u64 w_1.bits i_3).bind fun q41 =>
        some ((ibits .and .u64 q41 1) == 1)
      else
        (ishr .u64 f_2.bits i_3).bind fun q43 =>
        some ((ibits .and .u64 q43 1) == 1)
  else
    (decide_onWhole N x22).bind fun r45 =>
    bif r45 then
      (ishr .u64 w_1.bits i_3).bind fun q48 =>
      some ((ibits .and .u64 q48 1) == 1)
    else
      (ishr .u64 f_2.bits i_3).bind fun q50 =>
      some ((ibits .and .u64 q50 1) == 1)

def decide_classes_first_1 (N : Nat) (i_0 : Int) (x0 : Option (Classes)) (x1 : Part) (x2 : Part) : Option Bool :=
  (decide_classes_holds N x0 x1 x2 i_0).bind fun r7 =>
  some r7

def decide_search_1_1 (N : Nat) (k_0 : Int) (x1 : List (Int)) (x2 : Int) (x3 : Option (Classes)) (x4 : Part) (x5 : Part) : Option Bool :=
  (show Option Bool from
    (idx x1 x2).bind fun x12 =>
    (decide_classes_first_1 N (IntKind.wrap .i64 (x12 + k_0)) x3 x4 x5).bind fun r23 =>
    some r23).bind fun o11 =>
  some o11

def decide_holds__97_b2 (N : Nat) (x1 : List (Int)) (x2 : Int) (x3 : Option (Classes)) (x4 : Part) (x5 : Part) (x22 : List (Relation)) (at_38 : Int) (all_39 : Bool) (x_40 : Int) : Option ((Int × Bool × Int) ⊕ ((Int × Bool))) :=
  bif (decide (x_40 < (x22.length : Int))) then
    bif all_39 then
      (decide_search_1_1 N at_38 x1 x2 x3 x4 x5).bind fun r45 =>
      some (.inl ((IntKind.wrap .i64 (at_38 + 1)), r45, (x_40 + 1)))
    else
      some (.inl ((IntKind.wrap .i64 (at_38 + 1)), false, (x_40 + 1)))
  else
    some (.inr (at_38, all_39))

def decide_holds__97_b1 (N : Nat) (c_0 : List (List (Relation))) (x1 : List (Int)) (x2 : Int) (x3 : Option (Classes)) (x4 : Part) (x5 : Part) (at_16 : Int) (found_17 : Bool) (x_18 : Int) : Option ((Int × Bool × Int) ⊕ Bool) :=
  bif (decide (x_18 < (c_0.length : Int))) then
    (idx c_0 x_18).bind fun x22 =>
    (iter (fun s => decide_holds__97_b2 N x1 x2 x3 x4 x5 x22 s.1 s.2.1 s.2.2) N (at_16, true, 0)).bind fun o35 =>
    bif found_17 then
      some (.inl (o35.1, true, (x_18 + 1)))
    else
      some (.inl (o35.1, o35.2, (x_18 + 1)))
  else
    some (.inr found_17)
def decide_holds__97 (N : Nat) (c_0 : List (List (Relation))) (x1 : List (Int)) (x2 : Int) (x3 : Option (Classes)) (x4 : Part) (x5 : Part) : Option Bool :=
  (iter (fun s => decide_holds__97_b1 N c_0 x1 x2 x3 x4 x5 s.1 s.2.1 s.2.2) N (0, false, 0)).bind fun o13 =>
  some o13

def decide_Disjoint_1 (_N : Nat) (l_0 : List (Bool)) : Option Bool :=
  (idx l_0 0).bind fun x1 =>
  bif x1 then
    (idx l_0 1).bind fun x11 =>
    some x11
  else
    some false

def decide_search_1__128_b1 (N : Nat) (x0 : Option (Classes)) (x1 : Part) (x2 : Part) (x3 : List (List (List (Relation)))) (x4 : List (Int)) (x_28 : Int) (conds_29 : List (Bool)) : Option ((Int × (List (Bool))) ⊕ (((List (Bool))))) :=
  bif (decide (x_28 < (x3.length : Int))) then
    (idx x3 x_28).bind fun x35 =>
    (show Option ((List (Bool))) from
      (decide_holds__97 N x35 x4 x_28 x0 x1 x2).bind fun r51 =>
      (idx conds_29 x_28).bind fun _x53 =>
      (setI conds_29 x_28 r51).bind fun l59 =>
      some l59).bind fun o47 =>
    some (.inl ((x_28 + 1), o47))
  else
    some (.inr conds_29)
def decide_search_1__128 (N : Nat) (x0 : Option (Classes)) (x1 : Part) (x2 : Part) (x3 : List (List (List (Relation)))) (x4 : List (Int)) : Option Bool :=
  (mk (x3.length : Int) (false : Bool)).bind fun l13 =>
  (iter (fun s => decide_search_1__128_b1 N x0 x1 x2 x3 x4 s.1 s.2) N (0, l13)).bind fun o23 =>
  (decide_Disjoint_1 N o23).bind fun r80 =>
  some r80

def decide_before_b1 (_N : Nat) (a_0 : List UInt8) (b_1 : List UInt8) (x_5 : Int) : Option (Int ⊕ ((Unit ⊕ Bool))) :=
  bif (decide (x_5 < (a_0.length : Int))) then
    (idx a_0 x_5).bind fun c8 =>
    (idx b_1 x_5).bind fun c10 =>
    bif ((c8.toNat : Int) != (c10.toNat : Int)) then
      (idx b_1 x_5).bind fun c13 =>
      bif ((c13.toNat : Int) == 46) then
        some (.inr (.inr true))
      else
        (idx a_0 x_5).bind fun c16 =>
        bif ((c16.toNat : Int) != 46) then
          (idx a_0 x_5).bind fun c19 =>
          (idx b_1 x_5).bind fun c21 =>
          some (.inr (.inr (decide ((c19.toNat : Int) < (c21.toNat : Int)))))
        else
          some (.inr (.inr false))
    else
      some (.inl (x_5 + 1))
  else
    some (.inr (.inl ()))
def decide_before (N : Nat) (a_0 : List UInt8) (b_1 : List UInt8) : Option Bool :=
  bif ((a_0.length : Int) != (b_1.length : Int)) then
    some (decide ((a_0.length : Int) < (b_1.length : Int)))
  else
    (iter (fun s => decide_before_b1 N a_0 b_1 s) N 0).bind fun o3 =>
    Sum.elim (fun _o3 =>
      some false)
    (fun o3 =>
      some o3) o3

def decide_classes_first__96_b2 (N : Nat) (x_0 : Option (Classes)) (x0 : List (List (List (Relation)))) (x1 : List (Int)) (x33 : Part) (y45 : Classes) (found_65 : List UInt8) (ok_66 : Bool) (x_67 : Int) : Option (((List UInt8) × Bool × Int) ⊕ (((List UInt8) × Bool))) :=
  bif (decide (x_67 < (y45.fraction.length : Int))) then
    (idx y45.fraction x_67).bind fun x71 =>
    (show Option ((List UInt8)) from
      bif (x71.text != ([])) then
        (cat ([46]) x71.text).bind fun s86 =>
        (cat x33.text s86).bind fun s88 =>
        some s88
      else
        some x33.text).bind fun o83 =>
    bif (!ok_66) then
      (decide_search_1__128 N x_0 x33 x71 x0 x1).bind fun r92 =>
      bif r92 then
        some (.inl (o83, true, (x_67 + 1)))
      else
        some (.inl (found_65, ok_66, (x_67 + 1)))
    else
      (decide_before N o83 found_65).bind fun r95 =>
      bif r95 then
        (decide_search_1__128 N x_0 x33 x71 x0 x1).bind fun r98 =>
        bif r98 then
          some (.inl (o83, true, (x_67 + 1)))
        else
          some (.inl (found_65, ok_66, (x_67 + 1)))
      else
        some (.inl (found_65, ok_66, (x_67 + 1)))
  else
    some (.inr (found_65, ok_66))

def decide_classes_first__96_b1 (N : Nat) (x_0 : Option (Classes)) (x0 : List (List (List (Relation)))) (x1 : List (Int)) (y7 : Classes) (found_27 : List UInt8) (ok_28 : Bool) (x_29 : Int) : Option (((List UInt8) × Bool × Int) ⊕ (((List UInt8) × Bool))) :=
  bif (decide (x_29 < (y7.wholes.length : Int))) then
    (idx y7.wholes x_29).bind fun x33 =>
    (x_0).bind fun y45 =>
    (iter (fun s => decide_classes_first__96_b2 N x_0 x0 x1 x33 y45 s.1 s.2.1 s.2.2) N (found_27, ok_28, 0)).bind fun o62 =>
    some (.inl (o62.1, o62.2, (x_29 + 1)))
  else
    some (.inr (found_27, ok_28))
def decide_classes_first__96 (N : Nat) (x_0 : Option (Classes)) (x0 : List (List (List (Relation)))) (x1 : List (Int)) : Option ((List UInt8) × Bool) :=
  (x_0).bind fun y7 =>
  (iter (fun s => decide_classes_first__96_b1 N x_0 x0 x1 y7 s.1 s.2.1 s.2.2) N ([], false, 0)).bind fun o24 =>
  some (o24.1, o24.2)

def decide_search__62_b1 (N : Nat) (l_0 : List (List (List (Relation)))) (all_28 : List (Relation)) (x_29 : Int) (x_30 : List (Int)) : Option (((List (Relation)) × Int × (List (Int))) ⊕ (((List (Int)) × (List (Relation))))) :=
  bif (decide (x_29 < (l_0.length : Int))) then
    (idx l_0 x_29).bind fun x40 =>
    (idx x_30 x_29).bind fun _x51 =>
    (setI x_30 x_29 (all_28.length : Int)).bind fun l57 =>
    (decide_relations N x40).bind fun r61 =>
    (app all_28 r61).bind fun l66 =>
    some (.inl (l66, (x_29 + 1), l57))
  else
    some (.inr (x_30, all_28))
def decide_search__62 (N : Nat) (l_0 : List (List (List (Relation)))) : Option ((List UInt8) × Bool) :=
  (mk (l_0.length : Int) (0 : Int)).bind fun l3 =>
  (iter (fun s => decide_search__62_b1 N l_0 s.1 s.2.1 s.2.2) N ([], 0, l3)).bind fun o19 =>
  (decide_newClasses N o19.2).bind fun r80 =>
  (decide_classes_first__96 N r80 l_0 o19.1).bind fun r85 =>
  some (r85.1, r85.2)

def decide_Disjoint_b1 (_N : Nat) (l_0 : List (Rule)) (conds_13 : List (List (List (Relation)))) (x_14 : Int) : Option (((List (List (List (Relation)))) × Int) ⊕ (((List (List (List (Relation))))))) :=
  bif (decide (x_14 < (l_0.length : Int))) then
    (idx l_0 x_14).bind fun x20 =>
    (app conds_13 ([x20.Cond] : List (List (List (Relation))))).bind fun l36 =>
    some (.inl (l36, (x_14 + 1)))
  else
    some (.inr conds_13)

def decide_Disjoint_b3 (N : Nat) (l_0 : List (Rule)) (o8 : ((List (List (List (Relation)))))) (x_55 : Int) (j_61 : Int) : Option (Int ⊕ ((Unit ⊕ (Int × Int × (List UInt8) × Int)))) :=
  bif (decide (j_61 < (l_0.length : Int))) then
    (show Option ((List UInt8) × Bool) from
      (idx o8 x_55).bind fun x66 =>
      (idx o8 j_61).bind fun x78 =>
      (decide_search__62 N ([x66, x78] : List (List (List (Relation))))).bind fun r98 =>
      some (r98.1, r98.2)).bind fun o64 =>
    bif o64.2 then
      some (.inr (.inr (x_55, j_61, o64.1, 19)))
    else
      some (.inl (j_61 + 1))
  else
    some (.inr (.inl ()))

def decide_Disjoint_b2 (N : Nat) (l_0 : List (Rule)) (o8 : ((List (List (List (Relation)))))) (x_55 : Int) : Option (Int ⊕ ((Unit ⊕ (Int × Int × (List UInt8) × Int)))) :=
  bif (decide (x_55 < (l_0.length : Int))) then
    (iter (fun s => decide_Disjoint_b3 N l_0 o8 x_55 s) N (x_55 + 1)).bind fun o59 =>
    Sum.elim (fun _o59 =>
      some (.inl (x_55 + 1)))
    (fun o59 =>
      some (.inr (.inr o59))) o59
  else
    some (.inr (.inl ()))
def decide_Disjoint (N : Nat) (l_0 : List (Rule)) : Option (Int × Int × (List UInt8) × Int) :=
  (iter (fun s => decide_Disjoint_b1 N l_0 s.1 s.2) N ([], 0)).bind fun o8 =>
  (decide_valid N o8).bind fun r49 =>
  bif (!r49) then
    some (0, 0, [], 1)
  else
    (iter (fun s => decide_Disjoint_b2 N l_0 o8 s) N 0).bind fun o53 =>
    Sum.elim (fun _o53 =>
      some (0, 0, [], 0))
    (fun o53 =>
      some o53) o53

def calqueref08_longest_b1 (_N : Nat) (s_0 : List UInt8) (from_1 : Int) (to_2 : Int) (n_4 : Int) : Option (Int ⊕ Int) :=
  bif (decide (n_4 < (s_0.length : Int))) then
    (idx s_0 n_4).bind fun c7 =>
    bif (decide ((c7.toNat : Int) ≥ from_1)) then
      (idx s_0 n_4).bind fun c10 =>
      bif (decide ((c10.toNat : Int) ≤ to_2)) then
        some (.inl (n_4 + 1))
      else
        some (.inr n_4)
    else
      some (.inr n_4)
  else
    some (.inr n_4)
def calqueref08_longest (N : Nat) (s_0 : List UInt8) (from_1 : Int) (to_2 : Int) : Option Int :=
  (iter (fun s => calqueref08_longest_b1 N s_0 from_1 to_2 s) N 0).bind fun o2 =>
  some o2

end Go.Proofs.YtidfofhmnlhfjaaGreatDoor
