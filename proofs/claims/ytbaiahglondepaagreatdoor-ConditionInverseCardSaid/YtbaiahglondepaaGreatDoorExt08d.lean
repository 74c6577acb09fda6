/- The functions of this part as plain Lean functions, printed by gen8.py. -/
import Derived.Test.YtbaiahglondepaaGreatDoorExt08a1
import Derived.Test.YtbaiahglondepaaGreatDoorExt08a2
import Derived.Test.YtbaiahglondepaaGreatDoorExt08b
import Derived.Test.YtbaiahglondepaaGreatDoorExt08c
import Derived.Test.YtbaiahglondepaaGreatDoorLibQ
set_option linter.unusedVariables false
namespace Go.Proofs.YtbaiahglondepaaGreatDoor
open Go.X

def calquelaw08_ConditionLogic (N : Nat) (c_0 : List (List (Relation))) (d_1 : List (List (Relation))) (number_2 : List UInt8) : Option Bool :=
  (calquelaw08_awake N ).bind fun r1 =>
  bif (!r1) then
    (calquelaw08_awake N ).bind fun r4 =>
    some r4
  else
    (calqueref08_Few N c_0).bind fun r6 =>
    bif (!r6) then
      (calquelaw08_awake N ).bind fun r9 =>
      some r9
    else
      (calqueref08_Few N d_1).bind fun r11 =>
      bif (!r11) then
        (calquelaw08_awake N ).bind fun r14 =>
        some r14
      else
        (calqueref08_Valid N c_0).bind fun r16 =>
        bif (!r16) then
          (calquelaw08_awake N ).bind fun r19 =>
          some r19
        else
          (calqueref08_Valid N d_1).bind fun r21 =>
          bif (!r21) then
            (calquelaw08_awake N ).bind fun r24 =>
            some r24
          else
            (calqueref07_Valid N number_2).bind fun r26 =>
            bif (!r26) then
              (calquelaw08_awake N ).bind fun r29 =>
              some r29
            else
              (condition_Holds N c_0 number_2).bind fun r31 =>
              (condition_Holds N d_1 number_2).bind fun r34 =>
              bif (r31.2 != 0) then
                some false
              else
                bif (r34.2 != 0) then
                  some false
                else
                  (app ([] : List (List (Relation))) c_0).bind fun l42 =>
                  (app l42 d_1).bind fun l47 =>
                  (calqueref08_Valid N l47).bind fun r57 =>
                  (show Option (Unit ⊕ Bool) from
                    bif r57 then
                      (condition_Holds N l47 number_2).bind fun r68 =>
                      bif (r68.2 != 0) then
                        some (.inr false)
                      else
                        bif r31.1 then
                          bif (r68.1 != true) then
                            some (.inr false)
                          else
                            some (.inl ())
                        else
                          bif (r68.1 != r34.1) then
                            some (.inr false)
                          else
                            some (.inl ())
                    else
                      some (.inl ())).bind fun o59 =>
                  Sum.elim (fun _o59 =>
                    (idx c_0 0).bind fun x75 =>
                    (idx x75 0).bind fun x86 =>
                    (condition_Holds N ([([x86] : List (Relation))] : List (List (Relation))) number_2).bind fun r114 =>
                    (condition_Holds N ([([(Relation.mk x86.Operand x86.Mod (!x86.Not) x86.Spans)] : List (Relation))] : List (List (Relation))) number_2).bind fun r130 =>
                    bif (r114.2 == 0) then
                      bif (r130.2 == 0) then
                        some (r114.1 != r130.1)
                      else
                        some false
                    else
                      some false)
                  (fun o59 =>
                    some o59) o59

def calquelaw08_ConditionSpans_b3 (_N : Nat) (at_2 : Int) (x85 : Relation) (spans_111 : List (Span)) (j_112 : Int) : Option (((List (Span)) × Int) ⊕ (((List (Span))))) :=
  bif (decide (j_112 ≥ 0)) then
    (idx x85.Spans j_112).bind fun x118 =>
    bif (j_112 == 0) then
      bif (decide (x118.From < x118.To)) then
        (show Option ((List (Span)) × Span) from
          bif (decide ((x85.Spans.length : Int) < 4)) then
            (rm at_2 (IntKind.wrap .i64 (x118.To - x118.From))).bind fun q139 =>
            (app spans_111 ([(Span.mk (IntKind.wrap .i64 ((IntKind.wrap .i64 (x118.From + q139)) + 1)) x118.To)] : List (Span))).bind fun l144 =>
            some (l144, (Span.mk x118.From (IntKind.wrap .i64 (x118.From + q139))))
          else
            some (spans_111, x118)).bind fun o132 =>
        (app o132.1 ([o132.2] : List (Span))).bind fun l157 =>
        some (.inl (l157, (IntKind.wrap .i64 (j_112 - 1))))
      else
        (app spans_111 ([x118] : List (Span))).bind fun l165 =>
        some (.inl (l165, (IntKind.wrap .i64 (j_112 - 1))))
    else
      (app spans_111 ([x118] : List (Span))).bind fun l173 =>
      some (.inl (l173, (IntKind.wrap .i64 (j_112 - 1))))
  else
    some (.inr spans_111)

def calquelaw08_ConditionSpans_b2 (N : Nat) (c_0 : List (List (Relation))) (at_2 : Int) (i_35 : Int) (l_66 : List (Relation)) (k_67 : Int) : Option (((List (Relation)) × Int) ⊕ (((List (Relation))))) :=
  bif (decide (k_67 ≥ 0)) then
    (idx c_0 i_35).bind fun x74 =>
    (idx x74 k_67).bind fun x85 =>
    (iter (fun s => calquelaw08_ConditionSpans_b3 N at_2 x85 s.1 s.2) N ([], (IntKind.wrap .i64 ((x85.Spans.length : Int) - 1)))).bind fun o106 =>
    (app l_66 ([(Relation.mk x85.Operand x85.Mod x85.Not o106)] : List (Relation))).bind fun l186 =>
    some (.inl (l186, (IntKind.wrap .i64 (k_67 - 1))))
  else
    some (.inr l_66)

def calquelaw08_ConditionSpans_b1 (N : Nat) (c_0 : List (List (Relation))) (at_2 : Int) (back_34 : List (List (Relation))) (i_35 : Int) : Option (((List (List (Relation))) × Int) ⊕ (((List (List (Relation)))))) :=
  bif (decide (i_35 ≥ 0)) then
    (idx c_0 i_35).bind fun x42 =>
    (iter (fun s => calquelaw08_ConditionSpans_b2 N c_0 at_2 i_35 s.1 s.2) N ([], (IntKind.wrap .i64 ((x42.length : Int) - 1)))).bind fun o60 =>
    (app back_34 ([o60] : List (List (Relation)))).bind fun l203 =>
    some (.inl (l203, (IntKind.wrap .i64 (i_35 - 1))))
  else
    some (.inr back_34)
def calquelaw08_ConditionSpans (N : Nat) (c_0 : List (List (Relation))) (number_1 : List UInt8) (at_2 : Int) : Option Bool :=
  (calquelaw08_awake N ).bind fun r1 =>
  bif (!r1) then
    (calquelaw08_awake N ).bind fun r4 =>
    some r4
  else
    (calqueref08_Few N c_0).bind fun r6 =>
    bif (!r6) then
      (calquelaw08_awake N ).bind fun r9 =>
      some r9
    else
      (calqueref08_Valid N c_0).bind fun r11 =>
      bif (!r11) then
        (calquelaw08_awake N ).bind fun r14 =>
        some r14
      else
        (calqueref07_Valid N number_1).bind fun r16 =>
        bif (!r16) then
          (calquelaw08_awake N ).bind fun r19 =>
          some r19
        else
          (iter (fun s => calquelaw08_ConditionSpans_b1 N c_0 at_2 s.1 s.2) N ([], (IntKind.wrap .i64 ((c_0.length : Int) - 1)))).bind fun o28 =>
          (condition_Holds N c_0 number_1).bind fun r216 =>
          (condition_Holds N o28 number_1).bind fun r224 =>
          bif (r216.2 == 0) then
            bif (r224.2 == 0) then
              some (r216.1 == r224.1)
            else
              some false
          else
            some false

def calqueref07_Text (N : Nat) (x_0 : Number2) : Option (List UInt8) :=
  (show Option ((List UInt8)) from
    bif (x_0.Frac != ([])) then
      (cat ([46]) x_0.Frac).bind fun s7 =>
      (cat x_0.Whole s7).bind fun s9 =>
      some s9
    else
      some x_0.Whole).bind fun o4 =>
  bif x_0.Neg then
    (cat x_0.Whole x_0.Frac).bind fun s13 =>
    (calqueref07_Zero N s13).bind fun r15 =>
    bif (!r15) then
      (cat ([45]) o4).bind fun s18 =>
      some s18
    else
      some o4
  else
    some o4

def calqueref07_Normal (N : Nat) (s_0 : List UInt8) : Option ((List UInt8) × Int) :=
  (calqueref07_Split N s_0).bind fun r1 =>
  bif (!r1.2) then
    some ([], 1)
  else
    (calqueref07_Trim N r1.1.Frac).bind fun r10 =>
    (calqueref07_Text N (Number2.mk r1.1.Neg r1.1.Whole r10)).bind fun r13 =>
    some (r13, 0)

def calquelaw08_ConditionValues_b2 (_N : Nat) (x44 : List (Relation)) (x_58 : Int) : Option (Int ⊕ ((Unit ⊕ Bool))) :=
  bif (decide (x_58 < (x44.length : Int))) then
    (idx x44 x_58).bind fun x61 =>
    bif (x61.Operand == 3) then
      some (.inr (.inr true))
    else
      bif (x61.Operand == 5) then
        some (.inr (.inr true))
      else
        some (.inl (x_58 + 1))
  else
    some (.inr (.inl ()))

def calquelaw08_ConditionValues_b1 (N : Nat) (c_0 : List (List (Relation))) (x_41 : Int) : Option (Int ⊕ ((Unit ⊕ Bool))) :=
  bif (decide (x_41 < (c_0.length : Int))) then
    (idx c_0 x_41).bind fun x44 =>
    (iter (fun s => calquelaw08_ConditionValues_b2 N x44 s) N 0).bind fun o56 =>
    Sum.elim (fun _o56 =>
      some (.inl (x_41 + 1)))
    (fun o56 =>
      some (.inr (.inr o56))) o56
  else
    some (.inr (.inl ()))
def calquelaw08_ConditionValues (N : Nat) (c_0 : List (List (Relation))) (number_1 : List UInt8) : Option Bool :=
  (calquelaw08_awake N ).bind fun r1 =>
  bif (!r1) then
    (calquelaw08_awake N ).bind fun r4 =>
    some r4
  else
    (calqueref08_Few N c_0).bind fun r6 =>
    bif (!r6) then
      (calquelaw08_awake N ).bind fun r9 =>
      some r9
    else
      (calqueref08_Valid N c_0).bind fun r11 =>
      bif (!r11) then
        (calquelaw08_awake N ).bind fun r14 =>
        some r14
      else
        (calqueref07_Split N number_1).bind fun r16 =>
        bif (!r16.2) then
          some true
        else
          (condition_Holds N c_0 number_1).bind fun r26 =>
          (calqueref07_Text N (Number2.mk (!r16.1.Neg) r16.1.Whole r16.1.Frac)).bind fun r29 =>
          (condition_Holds N c_0 r29).bind fun r32 =>
          bif (r26.2 != 0) then
            some false
          else
            bif (r32.2 != 0) then
              some false
            else
              bif (r26.1 != r32.1) then
                some false
              else
                (iter (fun s => calquelaw08_ConditionValues_b1 N c_0 s) N 0).bind fun o39 =>
                Sum.elim (fun _o39 =>
                  (calqueref07_Normal N number_1).bind fun r79 =>
                  (condition_Holds N c_0 r79.1).bind fun r83 =>
                  bif (r79.2 == 0) then
                    bif (r83.2 == 0) then
                      some (r83.1 == r26.1)
                    else
                      some false
                  else
                    some false)
                (fun o39 =>
                  some o39) o39

end Go.Proofs.YtbaiahglondepaaGreatDoor
