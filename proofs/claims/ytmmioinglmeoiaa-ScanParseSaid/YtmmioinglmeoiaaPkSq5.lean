/- Texts of this proof, put together by pack.py: what its declarations name. -/
import Derived.Test.YtmmioinglmeoiaaPkSq4
import Derived.Test.YtmmioinglmeoiaaChecked
import Derived.Test.YtmmioinglmeoiaaProg
import Derived.Test.YtmmioinglmeoiaaRows
set_option linter.unusedVariables false
namespace Go.Proofs.Ytmmioinglmeoiaa
open Go.X
def calqueref44_digit (_N : Nat) (c_0 : Int) : Option Int :=
  bif (decide (c_0 ≥ 48)) then
    bif (decide (c_0 ≤ 57)) then
      some (IntKind.wrap .u8 (c_0 - 48))
    else
      bif (decide (c_0 ≥ 97)) then
        bif (decide (c_0 ≤ 102)) then
          some (IntKind.wrap .i64 ((IntKind.wrap .u8 (c_0 - 97)) + 10))
        else
          some (-1)
      else
        some (-1)
  else
    bif (decide (c_0 ≥ 97)) then
      bif (decide (c_0 ≤ 102)) then
        some (IntKind.wrap .i64 ((IntKind.wrap .u8 (c_0 - 97)) + 10))
      else
        some (-1)
    else
      some (-1)
def calqueref44_readByte (N : Nat) (s_0 : List UInt8) (at_1 : Int) : Option (Int × Int) :=
  bif (decide (at_1 ≥ (s_0.length : Int))) then
    some (0, (-1))
  else
    (idx s_0 at_1).bind fun c2 =>
    bif ((c2.toNat : Int) != 92) then
      (idx s_0 at_1).bind fun c5 =>
      some ((c5.toNat : Int), (IntKind.wrap .i64 (at_1 + 1)))
    else
      bif (decide ((IntKind.wrap .i64 (at_1 + 3)) < (s_0.length : Int))) then
        (idx s_0 (IntKind.wrap .i64 (at_1 + 1))).bind fun c8 =>
        bif ((c8.toNat : Int) == 120) then
          (idx s_0 (IntKind.wrap .i64 (at_1 + 2))).bind fun c11 =>
          (calqueref44_digit N (c11.toNat : Int)).bind fun r13 =>
          bif (decide (r13 ≥ 0)) then
            (idx s_0 (IntKind.wrap .i64 (at_1 + 3))).bind fun c17 =>
            (calqueref44_digit N (c17.toNat : Int)).bind fun r19 =>
            bif (decide (r19 ≥ 0)) then
              (idx s_0 (IntKind.wrap .i64 (at_1 + 2))).bind fun c23 =>
              (calqueref44_digit N (c23.toNat : Int)).bind fun r25 =>
              (idx s_0 (IntKind.wrap .i64 (at_1 + 3))).bind fun c28 =>
              (calqueref44_digit N (c28.toNat : Int)).bind fun r30 =>
              some ((IntKind.wrap .u8 (IntKind.wrap .i64 ((IntKind.wrap .i64 (r25 * 16)) + r30))), (IntKind.wrap .i64 (at_1 + 4)))
            else
              bif (decide ((IntKind.wrap .i64 (at_1 + 1)) < (s_0.length : Int))) then
                (idx s_0 (IntKind.wrap .i64 (at_1 + 1))).bind fun c34 =>
                some ((c34.toNat : Int), (IntKind.wrap .i64 (at_1 + 2)))
              else
                some (0, (-1))
          else
            bif (decide ((IntKind.wrap .i64 (at_1 + 1)) < (s_0.length : Int))) then
              (idx s_0 (IntKind.wrap .i64 (at_1 + 1))).bind fun c37 =>
              some ((c37.toNat : Int), (IntKind.wrap .i64 (at_1 + 2)))
            else
              some (0, (-1))
        else
          bif (decide ((IntKind.wrap .i64 (at_1 + 1)) < (s_0.length : Int))) then
            (idx s_0 (IntKind.wrap .i64 (at_1 + 1))).bind fun c40 =>
            some ((c40.toNat : Int), (IntKind.wrap .i64 (at_1 + 2)))
          else
            some (0, (-1))
      else
        bif (decide ((IntKind.wrap .i64 (at_1 + 1)) < (s_0.length : Int))) then
          (idx s_0 (IntKind.wrap .i64 (at_1 + 1))).bind fun c43 =>
          some ((c43.toNat : Int), (IntKind.wrap .i64 (at_1 + 2)))
        else
          some (0, (-1))
def calqueref44_readText_b1 (N : Nat) (s_0 : List UInt8) (at_14 : Int) (l_15 : List (Int)) : Option ((Int × (List (Int))) ⊕ ((Int × (List (Int))))) :=
  bif (decide (at_14 ≥ 0)) then
    bif (decide (at_14 < (s_0.length : Int))) then
      (idx s_0 at_14).bind fun c22 =>
      bif ((c22.toNat : Int) != 34) then
        (calqueref44_readByte N s_0 at_14).bind fun r25 =>
        (app l_15 ([r25.1] : List (Int))).bind fun l32 =>
        some (.inl (r25.2, l32))
      else
        some (.inr (at_14, l_15))
    else
      some (.inr (at_14, l_15))
  else
    some (.inr (at_14, l_15))
def calqueref44_readText (N : Nat) (s_0 : List UInt8) (at_1 : Int) : Option (Item × Int) :=
  (iter (fun s => calqueref44_readText_b1 N s_0 s.1 s.2) N ((IntKind.wrap .i64 (at_1 + 1)), [])).bind fun o9 =>
  bif (decide (o9.1 < 0)) then
    some ((Item.mk ([]) ([]) false 0 0), (-1))
  else
    bif (decide (o9.1 ≥ (s_0.length : Int))) then
      some ((Item.mk ([]) ([]) false 0 0), (-1))
    else
      some ((Item.mk (bytesOf o9.2) ([]) false 0 0), (IntKind.wrap .i64 (o9.1 + 1)))
def calqueref44_readClass_b1 (N : Nat) (s_0 : List UInt8) (at_34 : Int) (x_35 : Item) : Option ((Int × Item) ⊕ ((Item × Int))) :=
  bif (decide (at_34 ≥ 0)) then
    bif (decide (at_34 < (s_0.length : Int))) then
      (idx s_0 at_34).bind fun c45 =>
      bif ((c45.toNat : Int) != 93) then
        (calqueref44_readByte N s_0 at_34).bind fun r48 =>
        bif (decide (r48.2 ≥ 0)) then
          bif (decide (r48.2 < (s_0.length : Int))) then
            (idx s_0 r48.2).bind fun c54 =>
            (show Option (Int × Int) from
              bif ((c54.toNat : Int) == 45) then
                (calqueref44_readByte N s_0 (r48.2 + 1)).bind fun r60 =>
                some (r60.2, r60.1)
              else
                some (r48.2, r48.1)).bind fun o56 =>
            (app x_35.Ranges ([(Range.mk r48.1 o56.2)] : List (Range))).bind fun l69 =>
            some (.inl (o56.1, (Item.mk x_35.Text l69 x_35.Not x_35.Least x_35.Most)))
          else
            (app x_35.Ranges ([(Range.mk r48.1 r48.1)] : List (Range))).bind fun l77 =>
            some (.inl (r48.2, (Item.mk x_35.Text l77 x_35.Not x_35.Least x_35.Most)))
        else
          (app x_35.Ranges ([(Range.mk r48.1 r48.1)] : List (Range))).bind fun l85 =>
          some (.inl (r48.2, (Item.mk x_35.Text l85 x_35.Not x_35.Least x_35.Most)))
      else
        some (.inr (x_35, at_34))
    else
      some (.inr (x_35, at_34))
  else
    some (.inr (x_35, at_34))
def calqueref44_readClass_b2 (N : Nat) (s_0 : List UInt8) (at_126 : Int) (x_127 : Item) : Option ((Int × Item) ⊕ ((Item × Int))) :=
  bif (decide (at_126 ≥ 0)) then
    bif (decide (at_126 < (s_0.length : Int))) then
      (idx s_0 at_126).bind fun c137 =>
      bif ((c137.toNat : Int) != 93) then
        (calqueref44_readByte N s_0 at_126).bind fun r140 =>
        bif (decide (r140.2 ≥ 0)) then
          bif (decide (r140.2 < (s_0.length : Int))) then
            (idx s_0 r140.2).bind fun c146 =>
            (show Option (Int × Int) from
              bif ((c146.toNat : Int) == 45) then
                (calqueref44_readByte N s_0 (r140.2 + 1)).bind fun r152 =>
                some (r152.2, r152.1)
              else
                some (r140.2, r140.1)).bind fun o148 =>
            (app x_127.Ranges ([(Range.mk r140.1 o148.2)] : List (Range))).bind fun l161 =>
            some (.inl (o148.1, (Item.mk x_127.Text l161 x_127.Not x_127.Least x_127.Most)))
          else
            (app x_127.Ranges ([(Range.mk r140.1 r140.1)] : List (Range))).bind fun l169 =>
            some (.inl (r140.2, (Item.mk x_127.Text l169 x_127.Not x_127.Least x_127.Most)))
        else
          (app x_127.Ranges ([(Range.mk r140.1 r140.1)] : List (Range))).bind fun l177 =>
          some (.inl (r140.2, (Item.mk x_127.Text l177 x_127.Not x_127.Least x_127.Most)))
      else
        some (.inr (x_127, at_126))
    else
      some (.inr (x_127, at_126))
  else
    some (.inr (x_127, at_126))
def calqueref44_readClass (N : Nat) (s_0 : List UInt8) (at_1 : Int) : Option (Item × Int) :=
  bif (decide ((IntKind.wrap .i64 (at_1 + 1)) < (s_0.length : Int))) then
    (idx s_0 (IntKind.wrap .i64 (at_1 + 1))).bind fun c4 =>
    (show Option (Int × Item) from
      bif ((c4.toNat : Int) == 94) then
        some (((IntKind.wrap .i64 (at_1 + 1)) + 1), (Item.mk ([]) ([]) true 0 0))
      else
        some ((IntKind.wrap .i64 (at_1 + 1)), (Item.mk ([]) ([]) false 0 0))).bind fun o6 =>
    (iter (fun s => calqueref44_readClass_b1 N s_0 s.1 s.2) N (o6.1, (Item.mk o6.2.Text ([]) o6.2.Not o6.2.Least o6.2.Most))).bind fun o26 =>
    bif (decide (o26.2 < 0)) then
      some ((Item.mk ([]) ([]) false 0 0), (-1))
    else
      bif (decide (o26.2 ≥ (s_0.length : Int))) then
        some ((Item.mk ([]) ([]) false 0 0), (-1))
      else
        some (o26.1, (IntKind.wrap .i64 (o26.2 + 1)))
  else
    (iter (fun s => calqueref44_readClass_b2 N s_0 s.1 s.2) N ((IntKind.wrap .i64 (at_1 + 1)), (Item.mk ([]) ([]) false 0 0))).bind fun o118 =>
    bif (decide (o118.2 < 0)) then
      some ((Item.mk ([]) ([]) false 0 0), (-1))
    else
      bif (decide (o118.2 ≥ (s_0.length : Int))) then
        some ((Item.mk ([]) ([]) false 0 0), (-1))
      else
        some (o118.1, (IntKind.wrap .i64 (o118.2 + 1)))
def calqueref44_readItem (N : Nat) (s_0 : List UInt8) (at_1 : Int) : Option (Item × Int) :=
  bif (decide (at_1 < (s_0.length : Int))) then
    (idx s_0 at_1).bind fun c4 =>
    (show Option ((Int × Item) ⊕ (Item × Int)) from
      bif ((c4.toNat : Int) == 34) then
        (calqueref44_readText N s_0 at_1).bind fun r17 =>
        some (.inl (r17.2, r17.1))
      else
        bif (decide (at_1 < (s_0.length : Int))) then
          (idx s_0 at_1).bind fun c29 =>
          bif ((c29.toNat : Int) == 91) then
            (calqueref44_readClass N s_0 at_1).bind fun r32 =>
            some (.inl (r32.2, r32.1))
          else
            some (.inr ((Item.mk ([]) ([]) false 0 0), (-1)))
        else
          some (.inr ((Item.mk ([]) ([]) false 0 0), (-1)))).bind fun o6 =>
    Sum.elim (fun o6 =>
      bif (decide (o6.1 ≥ 0)) then
        bif (decide (o6.1 < (s_0.length : Int))) then
          (idx s_0 o6.1).bind fun c52 =>
          bif ((c52.toNat : Int) == 63) then
            some ((Item.mk o6.2.Text o6.2.Ranges o6.2.Not 0 1), (o6.1 + 1))
          else
            bif ((c52.toNat : Int) == 42) then
              some ((Item.mk o6.2.Text o6.2.Ranges o6.2.Not 0 (-1)), (o6.1 + 1))
            else
              bif ((c52.toNat : Int) == 43) then
                some ((Item.mk o6.2.Text o6.2.Ranges o6.2.Not 1 (-1)), (o6.1 + 1))
              else
                some ((Item.mk o6.2.Text o6.2.Ranges o6.2.Not 1 1), o6.1)
        else
          some ((Item.mk o6.2.Text o6.2.Ranges o6.2.Not 1 1), o6.1)
      else
        some ((Item.mk o6.2.Text o6.2.Ranges o6.2.Not 1 1), o6.1))
    (fun o6 =>
      some o6) o6
  else
    bif (decide (at_1 < (s_0.length : Int))) then
      (idx s_0 at_1).bind fun c58 =>
      bif ((c58.toNat : Int) == 91) then
        (calqueref44_readClass N s_0 at_1).bind fun r61 =>
        bif (decide (r61.2 ≥ 0)) then
          bif (decide (r61.2 < (s_0.length : Int))) then
            (idx s_0 r61.2).bind fun c74 =>
            bif ((c74.toNat : Int) == 63) then
              some ((Item.mk r61.1.Text r61.1.Ranges r61.1.Not 0 1), (r61.2 + 1))
            else
              bif ((c74.toNat : Int) == 42) then
                some ((Item.mk r61.1.Text r61.1.Ranges r61.1.Not 0 (-1)), (r61.2 + 1))
              else
                bif ((c74.toNat : Int) == 43) then
                  some ((Item.mk r61.1.Text r61.1.Ranges r61.1.Not 1 (-1)), (r61.2 + 1))
                else
                  some ((Item.mk r61.1.Text r61.1.Ranges r61.1.Not 1 1), r61.2)
          else
            some ((Item.mk r61.1.Text r61.1.Ranges r61.1.Not 1 1), r61.2)
        else
          some ((Item.mk r61.1.Text r61.1.Ranges r61.1.Not 1 1), r61.2)
      else
        some ((Item.mk ([]) ([]) false 0 0), (-1))
    else
      some ((Item.mk ([]) ([]) false 0 0), (-1))
def calqueref44_readRule_b1 (_N : Nat) (s_0 : List UInt8) (at_5 : Int) : Option (Int ⊕ Int) :=
  bif (decide (at_5 < (s_0.length : Int))) then
    (idx s_0 at_5).bind fun c8 =>
    bif ((c8.toNat : Int) != 32) then
      some (.inl (at_5 + 1))
    else
      some (.inr at_5)
  else
    some (.inr at_5)
def calqueref44_readRule_b2 (N : Nat) (s_0 : List UInt8) (at_35 : Int) (x_36 : Rule) : Option ((Int × Rule) ⊕ (((Rule × Int) ⊕ (Rule × Bool)))) :=
  bif (decide (at_35 ≥ 0)) then
    bif (decide (at_35 < (s_0.length : Int))) then
      bif (decide ((x_36.Items.length : Int) > 0)) then
        bif (decide ((IntKind.wrap .i64 (at_35 + 4)) ≤ (s_0.length : Int))) then
          (slc s_0 at_35 (IntKind.wrap .i64 (at_35 + 4))).bind fun s48 =>
          bif (s48 == ([32, 45, 62, 32])) then
            (slc s_0 (IntKind.wrap .i64 (at_35 + 4)) (s_0.length : Int)).bind fun s51 =>
            (calqueref44_word N s51).bind fun r53 =>
            bif (!r53) then
              some (.inr (.inr ((Rule.mk ([]) ([]) ([])), false)))
            else
              some (.inr (.inl ((Rule.mk x_36.Kind x_36.Items s51), at_35)))
          else
            (calqueref44_readItem N s_0 (at_35 + 1)).bind fun r56 =>
            (app x_36.Items ([r56.1] : List (Item))).bind fun l71 =>
            some (.inl (r56.2, (Rule.mk x_36.Kind l71 x_36.Next)))
        else
          (calqueref44_readItem N s_0 (at_35 + 1)).bind fun r76 =>
          (app x_36.Items ([r76.1] : List (Item))).bind fun l91 =>
          some (.inl (r76.2, (Rule.mk x_36.Kind l91 x_36.Next)))
      else
        (calqueref44_readItem N s_0 (at_35 + 1)).bind fun r96 =>
        (app x_36.Items ([r96.1] : List (Item))).bind fun l111 =>
        some (.inl (r96.2, (Rule.mk x_36.Kind l111 x_36.Next)))
    else
      some (.inr (.inl (x_36, at_35)))
  else
    some (.inr (.inl (x_36, at_35)))
def calqueref44_readRule (N : Nat) (s_0 : List UInt8) : Option (Rule × Bool) :=
  (iter (fun s => calqueref44_readRule_b1 N s_0 s) N 0).bind fun o3 =>
  (slc s_0 0 o3).bind fun s12 =>
  (iter (fun s => calqueref44_readRule_b2 N s_0 s.1 s.2) N (o3, (Rule.mk s12 ([]) ([])))).bind fun o27 =>
  Sum.elim (fun o27 =>
    (show Option (Bool × Rule) from
      bif (decide (o27.2 ≥ 0)) then
        (calqueref44_proper N o27.1).bind fun r131 =>
        bif r131 then
          (calqueref44_line N o27.1).bind fun r134 =>
          some ((r134 == s_0), o27.1)
        else
          some (false, o27.1)
      else
        some (false, o27.1)).bind fun o125 =>
    some (o125.2, o125.1))
  (fun o27 =>
    some o27) o27
def calqueref44_Parse_b1 (N : Nat) (s_0 : List UInt8) (out_20 : List (State)) (from_21 : Int) (n_22 : Int) (i_23 : Int) : Option (((List (State)) × Int × Int × Int) ⊕ ((((List (State)) × Int × Int) ⊕ ((List (State)) × Int × Int)))) :=
  bif (decide (i_23 < (s_0.length : Int))) then
    (idx s_0 i_23).bind fun c32 =>
    bif ((c32.toNat : Int) != 10) then
      some (.inl (out_20, from_21, n_22, (i_23 + 1)))
    else
      (slc s_0 from_21 i_23).bind fun s35 =>
      (calqueref44_readRule N s35).bind fun r37 =>
      bif (decide ((s35.length : Int) > 6)) then
        (slc s35 0 6).bind fun s48 =>
        bif (s48 == ([115, 116, 97, 116, 101, 32])) then
          (slc s35 6 (s35.length : Int)).bind fun s51 =>
          (calqueref44_word N s51).bind fun r53 =>
          (show Option (((List (State))) ⊕ ((List (State)) × Int × Int)) from
            bif r53 then
              (slc s35 6 (s35.length : Int)).bind fun s62 =>
              (app out_20 [(State.mk s62 ([]))]).bind fun l67 =>
              some (.inl l67)
            else
              bif r37.2 then
                bif (decide ((out_20.length : Int) > 0)) then
                  (show Option ((List (State))) from
                    (idx out_20 ((out_20.length : Int) - 1)).bind fun x78 =>
                    (app x78.Rules ([r37.1] : List (Rule))).bind fun l101 =>
                    (idx out_20 ((out_20.length : Int) - 1)).bind fun _x106 =>
                    some (out_20.set ((out_20.length : Int) - 1).toNat (State.mk x78.Name l101))).bind fun o74 =>
                  some (.inl o74)
                else
                  some (.inr ([], n_22, 3))
              else
                some (.inr ([], n_22, 3))).bind fun o55 =>
          Sum.elim (fun o55 =>
            some (.inl (o55, (i_23 + 1), (IntKind.wrap .i64 (n_22 + 1)), (i_23 + 1))))
          (fun o55 =>
            some (.inr (.inr o55))) o55
        else
          bif r37.2 then
            bif (decide ((out_20.length : Int) > 0)) then
              (show Option ((List (State))) from
                (idx out_20 ((out_20.length : Int) - 1)).bind fun x164 =>
                (app x164.Rules ([r37.1] : List (Rule))).bind fun l187 =>
                (idx out_20 ((out_20.length : Int) - 1)).bind fun _x192 =>
                some (out_20.set ((out_20.length : Int) - 1).toNat (State.mk x164.Name l187))).bind fun o160 =>
              some (.inl (o160, (i_23 + 1), (IntKind.wrap .i64 (n_22 + 1)), (i_23 + 1)))
            else
              some (.inr (.inr ([], n_22, 3)))
          else
            some (.inr (.inr ([], n_22, 3)))
      else
        bif r37.2 then
          bif (decide ((out_20.length : Int) > 0)) then
            (show Option ((List (State))) from
              (idx out_20 ((out_20.length : Int) - 1)).bind fun x247 =>
              (app x247.Rules ([r37.1] : List (Rule))).bind fun l270 =>
              (idx out_20 ((out_20.length : Int) - 1)).bind fun _x275 =>
              some (out_20.set ((out_20.length : Int) - 1).toNat (State.mk x247.Name l270))).bind fun o243 =>
            some (.inl (o243, (i_23 + 1), (IntKind.wrap .i64 (n_22 + 1)), (i_23 + 1)))
          else
            some (.inr (.inr ([], n_22, 3)))
        else
          some (.inr (.inr ([], n_22, 3)))
  else
    some (.inr (.inl (out_20, from_21, n_22)))
def calqueref44_Parse (N : Nat) (s_0 : List UInt8) : Option ((List (State)) × Int × Int) :=
  (iter (fun s => calqueref44_Parse_b1 N s_0 s.1 s.2.1 s.2.2.1 s.2.2.2) N ([], 0, 0, 0)).bind fun o12 =>
  Sum.elim (fun o12 =>
    bif (decide (o12.2.1 < (s_0.length : Int))) then
      some ([], o12.2.2, 3)
    else
      (calqueref44_Valid N o12.1).bind fun r336 =>
      bif (!r336) then
        some ([], 0, 1)
      else
        some (o12.1, 0, 0))
  (fun o12 =>
    some o12) o12
end Go.Proofs.Ytmmioinglmeoiaa
namespace Go.Proofs.Ytmmioinglmeoiaa
open Go.X
theorem go_40 : goB Try.prog 40 = true := by kernel_rfl
theorem go_58 : goB Try.prog 58 = true := by kernel_rfl
theorem go_73 : goB Try.prog 73 = true := by kernel_rfl
theorem go_74 : goB Try.prog 74 = true := by kernel_rfl
theorem go_87 : goB Try.prog 87 = true := by kernel_rfl
theorem go_91 : goB Try.prog 91 = true := by kernel_rfl
theorem places_98 : placesB Try.prog 98 = some [(0, 1), (1, 1)] := by kernel_rfl
def oState_54 : Ro (State) := fun m cs x M => ∃ c1, cs = [.string (bs x.Name), c1] ∧ x.Name.length ≤ LIMS ∧ ORow 51 3 pRule m c1 x.Rules M
theorem oState_54_up : MonoO oState_54 := ⟨fun hm h => by
  obtain ⟨c1, e, h0, h1⟩ := h
  exact ⟨c1, e, h0, h1.up mRule hm⟩⟩
theorem oState_54_fz : FrozO oState_54 pState := ⟨fun h hle hf => by
  obtain ⟨c1, e, h0, h1⟩ := h
  exact ⟨c1, e, h0, h1.froz mRule hle hf (by decide)⟩⟩
def calqueref44_digit_R (u : World) (m0 : Mem) (S : Segs) (r : Int) (a : Act) (w : World) : Prop :=
  Ok u m0 S w ∧ a.defers = [] ∧ RVs Try.prog a w [.t 2 (.int .i64 r)] ∧ InR .i64 r
set_option maxHeartbeats 4000000 in
set_option maxRecDepth 100000 in
theorem calqueref44_digit_w {u : World} {m0 : Mem} {S : Segs} {w : World} (N : Nat) (c_0 : Int) (rc_0 : InR .u8 c_0) {r : Int} (hF : calqueref44_digit N c_0 = some r) (hG : Glob u) (ok : Ok u m0 S w) :
    Calls Try.prog 91 [Value.int .u8 c_0].toArray w fun e w' => (e = .returned (.int .i64 r) ∧ Ok u m0 S w') ∧ InR .i64 r := by
  have hb0 := ok.base
  have le_m0 := Mem.le.refl m0
  unfold calqueref44_digit at hF
  have fin : ∀ a w, calqueref44_digit_R u m0 S r a w → bodyPost Try.prog Try.f91 (fun e w' => (e = .returned (.int .i64 r) ∧ Ok u m0 S w') ∧ InR .i64 r) .ret a w := by
    intro a w h
    obtain ⟨ok, hd, hrv, h0⟩ := h
    exact c_ret2 [.t 2 (.int .i64 r)] hd rfl hrv ⟨⟨rfl, ok⟩, h0⟩
  refine enter Try.func91 rfl rfl rfl fun a E => sg <| lv E ok (y_assign rfl) fun a E => wn <| wp_seq <| wp_block ?_
  refine sg <| lv E ok (y_move rfl) fun a E => lv E ok (y_geq rfl rfl) fun a E => lv E ok (y_move rfl) fun a E => bsplit (decide (c_0 ≥ 48)) (fun hc1 => ?_) (fun hc1 => ?_)
  rotate_left
  · replace hF := cond_f hc1 hF
    replace E := E.upd 6 hc1 rfl
    refine ls E fun a E => ls E fun a E => lv E ok (y_pickF rfl rfl) fun a E => lv E ok (y_assign rfl) fun a E => wn <| c_if E rfl (fun h => by cases h) (fun _ => ?_)
    refine sg <| lv E ok (y_move rfl) fun a E => lv E ok (y_geq rfl rfl) fun a E => lv E ok (y_move rfl) fun a E => bsplit (decide (c_0 ≥ 97)) (fun hc5 => ?_) (fun hc5 => ?_)
    rotate_left
    · replace hF := cond_f hc5 hF
      replace E := E.upd 16 hc5 rfl
      refine ls E fun a E => ls E fun a E => lv E ok (y_pickF rfl rfl) fun a E => lv E ok (y_assign rfl) fun a E => wn <| c_if E rfl (fun h => by cases h) (fun _ => ?_)
      refine wp_skip <| b_norm <| t_norm <| sg <| lv E ok (y_assign rfl) fun a E => wn ?_
      refine wp_ret ?_
      have hret : calqueref44_digit_R u m0 S (-1) a w := ⟨ok, E.d, ⟨rv_t E rfl, trivial⟩, (show InR .i64 (-1) by decide)⟩
      obtain rfl := sj hF
      exact fin _ _ hret
    replace hF := cond_t hc5 hF
    replace E := E.upd 16 hc5 rfl
    refine lv E ok (y_move rfl) fun a E => lv E ok (y_leq rfl rfl) fun a E => lv E ok (y_pickT rfl rfl) fun a E => lv E ok (y_assign rfl) fun a E => wn <| c_if E rfl (fun hc6 => ?_) (fun hc6 => ?_)
    rotate_left
    · replace hF := cond_f hc6 hF
      refine wp_skip <| b_norm <| t_norm <| sg <| lv E ok (y_assign rfl) fun a E => wn ?_
      refine wp_ret ?_
      have hret : calqueref44_digit_R u m0 S (-1) a w := ⟨ok, E.d, ⟨rv_t E rfl, trivial⟩, (show InR .i64 (-1) by decide)⟩
      obtain rfl := sj hF
      exact fin _ _ hret
    replace hF := cond_t hc6 hF
    refine sg <| lv E ok (y_move rfl) fun a E => lv E ok (y_subw rfl rfl) fun a E => lv E ok (y_convw Try.underlying5 Try.underlying3 rfl (InR.wrap _ _) (by decide)) fun a E => lv E ok (y_addw rfl rfl) fun a E => lv E ok (y_assign rfl) fun a E => wpList_nil ?_
    refine t_norm <| wp_ret <| b_ret <| t_ret ?_
    have hret : calqueref44_digit_R u m0 S (IntKind.wrap .i64 ((IntKind.wrap .u8 (c_0 - 97)) + 10)) a w := ⟨ok, E.d, ⟨rv_t E rfl, trivial⟩, (InR.wrap _ _)⟩
    obtain rfl := sj hF
    exact fin _ _ hret
  replace hF := cond_t hc1 hF
  replace E := E.upd 6 hc1 rfl
  refine lv E ok (y_move rfl) fun a E => lv E ok (y_leq rfl rfl) fun a E => lv E ok (y_pickT rfl rfl) fun a E => lv E ok (y_assign rfl) fun a E => wn <| c_if E rfl (fun hc2 => ?_) (fun hc2 => ?_)
  · replace hF := cond_t hc2 hF
    refine sg <| lv E ok (y_move rfl) fun a E => lv E ok (y_subw rfl rfl) fun a E => lv E ok (y_convw Try.underlying5 Try.underlying3 rfl (InR.wrap _ _) (by decide)) fun a E => lv E ok (y_assign rfl) fun a E => wn ?_
    refine wp_ret <| b_ret <| t_ret ?_
    have hret : calqueref44_digit_R u m0 S (IntKind.wrap .u8 (c_0 - 48)) a w := ⟨ok, E.d, ⟨rv_t E rfl, trivial⟩, (InR.widen (InR.wrap _ _) (by decide))⟩
    obtain rfl := sj hF
    exact fin _ _ hret
  replace hF := cond_f hc2 hF
  refine sg <| lv E ok (y_move rfl) fun a E => lv E ok (y_geq rfl rfl) fun a E => lv E ok (y_move rfl) fun a E => bsplit (decide (c_0 ≥ 97)) (fun hc3 => ?_) (fun hc3 => ?_)
  rotate_left
  · replace hF := cond_f hc3 hF
    replace E := E.upd 16 hc3 rfl
    refine ls E fun a E => ls E fun a E => lv E ok (y_pickF rfl rfl) fun a E => lv E ok (y_assign rfl) fun a E => wn <| c_if E rfl (fun h => by cases h) (fun _ => ?_)
    refine wp_skip <| b_norm <| t_norm <| sg <| lv E ok (y_assign rfl) fun a E => wn ?_
    refine wp_ret ?_
    have hret : calqueref44_digit_R u m0 S (-1) a w := ⟨ok, E.d, ⟨rv_t E rfl, trivial⟩, (show InR .i64 (-1) by decide)⟩
    obtain rfl := sj hF
    exact fin _ _ hret
  replace hF := cond_t hc3 hF
  replace E := E.upd 16 hc3 rfl
  refine lv E ok (y_move rfl) fun a E => lv E ok (y_leq rfl rfl) fun a E => lv E ok (y_pickT rfl rfl) fun a E => lv E ok (y_assign rfl) fun a E => wn <| c_if E rfl (fun hc4 => ?_) (fun hc4 => ?_)
  rotate_left
  · replace hF := cond_f hc4 hF
    refine wp_skip <| b_norm <| t_norm <| sg <| lv E ok (y_assign rfl) fun a E => wn ?_
    refine wp_ret ?_
    have hret : calqueref44_digit_R u m0 S (-1) a w := ⟨ok, E.d, ⟨rv_t E rfl, trivial⟩, (show InR .i64 (-1) by decide)⟩
    obtain rfl := sj hF
    exact fin _ _ hret
  replace hF := cond_t hc4 hF
  refine sg <| lv E ok (y_move rfl) fun a E => lv E ok (y_subw rfl rfl) fun a E => lv E ok (y_convw Try.underlying5 Try.underlying3 rfl (InR.wrap _ _) (by decide)) fun a E => lv E ok (y_addw rfl rfl) fun a E => lv E ok (y_assign rfl) fun a E => wpList_nil ?_
  refine t_norm <| wp_ret <| b_ret <| t_ret ?_
  have hret : calqueref44_digit_R u m0 S (IntKind.wrap .i64 ((IntKind.wrap .u8 (c_0 - 97)) + 10)) a w := ⟨ok, E.d, ⟨rv_t E rfl, trivial⟩, (InR.wrap _ _)⟩
  obtain rfl := sj hF
  exact fin _ _ hret
def calqueref44_readByte_R (u : World) (m0 : Mem) (S : Segs) (r : Int × Int) (a : Act) (w : World) : Prop :=
  Ok u m0 S w ∧ a.defers = [] ∧ RVs Try.prog a w [.t 4 (.int .u8 r.1), .t 5 (.int .i64 r.2)] ∧ InR .u8 r.1 ∧ InR .i64 r.2
set_option maxHeartbeats 4000000 in
set_option maxRecDepth 100000 in
theorem calqueref44_readByte_w {u : World} {m0 : Mem} {S : Segs} {w : World} (N : Nat) (s_0 : List UInt8) (ls_0 : s_0.length ≤ LIMS) (at_1 : Int) (rat_1 : InR .i64 at_1) {r : Int × Int} (hF : calqueref44_readByte N s_0 at_1 = some r) (hG : Glob u) (ok : Ok u m0 S w) :
    Calls Try.prog 87 [Value.string (bs s_0), Value.int .i64 at_1].toArray w fun e w' => (e = .returned (.tuple [(.int .u8 r.1), (.int .i64 r.2)].toArray) ∧ Ok u m0 S w') ∧ InR .u8 r.1 ∧ InR .i64 r.2 := by
  have hb0 := ok.base
  have le_m0 := Mem.le.refl m0
  unfold calqueref44_readByte at hF
  have fin : ∀ a w, calqueref44_readByte_R u m0 S r a w → bodyPost Try.prog Try.f87 (fun e w' => (e = .returned (.tuple [(.int .u8 r.1), (.int .i64 r.2)].toArray) ∧ Ok u m0 S w') ∧ InR .u8 r.1 ∧ InR .i64 r.2) .ret a w := by
    intro a w h
    obtain ⟨ok, hd, hrv, h0, h1⟩ := h
    exact c_ret2 [.t 4 (.int .u8 r.1), .t 5 (.int .i64 r.2)] hd rfl hrv ⟨⟨rfl, ok⟩, h0, h1⟩
  refine enter Try.func87 rfl rfl rfl fun a E => sg <| lv E ok (y_assign rfl) fun a E => lv E ok (y_assign rfl) fun a E => wn <| wp_seq ?_
  refine wp_block <| sg <| lv E ok (y_move rfl) fun a E => lv E ok (y_move rfl) fun a E => lv E ok (y_slen Try.underlying9 rfl) fun a E => lv E ok (y_geq rfl rfl) fun a E => lv E ok (y_assign rfl) fun a E => ?_
  refine wn <| c_if E rfl (fun hc1 => ?_) (fun hc1 => ?_)
  · replace hF := cond_t hc1 hF
    refine sg <| lv E ok (y_assign rfl) fun a E => lv E ok (y_assign rfl) fun a E => wn <| wp_ret <| b_ret ?_
    refine t_ret ?_
    have hret : calqueref44_readByte_R u m0 S (0, (-1)) a w := ⟨ok, E.d, ⟨rv_t E rfl, rv_t E rfl, trivial⟩, (show InR .u8 (0) by decide), (show InR .i64 (-1) by decide)⟩
    obtain rfl := sj hF
    exact fin _ _ hret
  replace hF := cond_f hc1 hF
  refine sg <| lv E ok (y_move rfl) fun a E => lv E ok (y_move rfl) fun a E => ?_
  obtain ⟨c2, e3, hF⟩ := bnd hF
  refine lv E ok (y_index Try.underlying9 rfl rfl e3) fun a E => lv E ok (y_neq rfl rfl) fun a E => lv E ok (y_assign rfl) fun a E => wn <| c_if E rfl (fun hc4 => ?_) (fun hc4 => ?_)
  · replace hF := cond_t hc4 hF
    refine sg <| lv E ok (y_move rfl) fun a E => lv E ok (y_move rfl) fun a E => ?_
    obtain ⟨c5, e6, hF⟩ := bnd hF
    refine lv E ok (y_index Try.underlying9 rfl rfl e6) fun a E => lv E ok (y_move rfl) fun a E => lv E ok (y_addw rfl rfl) fun a E => lv E ok (y_assign rfl) fun a E => lv E ok (y_assign rfl) fun a E => wn <| wp_ret ?_
    refine b_ret <| t_ret ?_
    have hret : calqueref44_readByte_R u m0 S ((c5.toNat : Int), (IntKind.wrap .i64 (at_1 + 1))) a w := ⟨ok, E.d, ⟨rv_t E rfl, rv_t E rfl, trivial⟩, (InR.byte c5), (InR.wrap _ _)⟩
    obtain rfl := sj hF
    exact fin _ _ hret
  replace hF := cond_f hc4 hF
  refine sg <| lv E ok (y_move rfl) fun a E => lv E ok (y_addw rfl rfl) fun a E => lv E ok (y_move rfl) fun a E => lv E ok (y_slen Try.underlying9 rfl) fun a E => lv E ok (y_lss rfl rfl) fun a E => lv E ok (y_move rfl) fun a E => ?_
  refine bsplit (decide ((IntKind.wrap .i64 (at_1 + 3)) < (s_0.length : Int))) (fun hc7 => ?_) (fun hc7 => ?_)
  rotate_left
  · replace hF := cond_f hc7 hF
    replace E := E.upd 27 hc7 rfl
    refine ls E fun a E => ls E fun a E => ls E fun a E => ls E fun a E => ls E fun a E => lv E ok (y_pickF rfl rfl) fun a E => lv E ok (y_move rfl) fun a E => ls E fun a E => ?_
    refine ls E fun a E => ls E fun a E => ls E fun a E => ls E fun a E => ls E fun a E => lv E ok (y_pickF rfl rfl) fun a E => lv E ok (y_move rfl) fun a E => ls E fun a E => ?_
    refine ls E fun a E => ls E fun a E => ls E fun a E => ls E fun a E => ls E fun a E => lv E ok (y_pickF rfl rfl) fun a E => lv E ok (y_assign rfl) fun a E => wpList_nil ?_
    refine t_norm <| c_if E rfl (fun h => by cases h) (fun _ => ?_)
    refine sg <| lv E ok (y_move rfl) fun a E => lv E ok (y_addw rfl rfl) fun a E => lv E ok (y_move rfl) fun a E => lv E ok (y_slen Try.underlying9 rfl) fun a E => lv E ok (y_lss rfl rfl) fun a E => lv E ok (y_assign rfl) fun a E => ?_
    refine wn <| c_if E rfl (fun hc42 => ?_) (fun hc42 => ?_)
    rotate_left
    · replace hF := cond_f hc42 hF
      refine wp_skip <| b_norm <| t_norm <| sg <| lv E ok (y_assign rfl) fun a E => lv E ok (y_assign rfl) fun a E => wpList_nil ?_
      refine t_norm <| wp_ret ?_
      have hret : calqueref44_readByte_R u m0 S (0, (-1)) a w := ⟨ok, E.d, ⟨rv_t E rfl, rv_t E rfl, trivial⟩, (show InR .u8 (0) by decide), (show InR .i64 (-1) by decide)⟩
      obtain rfl := sj hF
      exact fin _ _ hret
    replace hF := cond_t hc42 hF
    refine sg <| lv E ok (y_move rfl) fun a E => lv E ok (y_move rfl) fun a E => lv E ok (y_addw rfl rfl) fun a E => ?_
    obtain ⟨c43, e44, hF⟩ := bnd hF
    refine lv E ok (y_index Try.underlying9 rfl rfl e44) fun a E => lv E ok (y_move rfl) fun a E => lv E ok (y_addw rfl rfl) fun a E => lv E ok (y_assign rfl) fun a E => lv E ok (y_assign rfl) fun a E => wn <| wp_ret ?_
    refine b_ret <| t_ret ?_
    have hret : calqueref44_readByte_R u m0 S ((c43.toNat : Int), (IntKind.wrap .i64 (at_1 + 2))) a w := ⟨ok, E.d, ⟨rv_t E rfl, rv_t E rfl, trivial⟩, (InR.byte c43), (InR.wrap _ _)⟩
    obtain rfl := sj hF
    exact fin _ _ hret
  replace hF := cond_t hc7 hF
  replace E := E.upd 27 hc7 rfl
  refine lv E ok (y_move rfl) fun a E => lv E ok (y_move rfl) fun a E => lv E ok (y_addw rfl rfl) fun a E => ?_
  obtain ⟨c8, e9, hF⟩ := bnd hF
  refine lv E ok (y_index Try.underlying9 rfl rfl e9) fun a E => lv E ok (y_eql rfl rfl) fun a E => lv E ok (y_pickT rfl rfl) fun a E => lv E ok (y_move rfl) fun a E => bsplit ((c8.toNat : Int) == 120) (fun hc10 => ?_) (fun hc10 => ?_)
  rotate_left
  · replace hF := cond_f hc10 hF
    replace E := E.upd 34 hc10 rfl
    refine ls E fun a E => ls E fun a E => ls E fun a E => ls E fun a E => ls E fun a E => ls E fun a E => lv E ok (y_pickF rfl rfl) fun a E => lv E ok (y_move rfl) fun a E => ?_
    refine ls E fun a E => ls E fun a E => ls E fun a E => ls E fun a E => ls E fun a E => ls E fun a E => lv E ok (y_pickF rfl rfl) fun a E => lv E ok (y_assign rfl) fun a E => ?_
    refine wn <| c_if E rfl (fun h => by cases h) (fun _ => ?_)
    refine sg <| lv E ok (y_move rfl) fun a E => lv E ok (y_addw rfl rfl) fun a E => lv E ok (y_move rfl) fun a E => lv E ok (y_slen Try.underlying9 rfl) fun a E => lv E ok (y_lss rfl rfl) fun a E => lv E ok (y_assign rfl) fun a E => ?_
    refine wn <| c_if E rfl (fun hc39 => ?_) (fun hc39 => ?_)
    rotate_left
    · replace hF := cond_f hc39 hF
      refine wp_skip <| b_norm <| t_norm <| sg <| lv E ok (y_assign rfl) fun a E => lv E ok (y_assign rfl) fun a E => wpList_nil ?_
      refine t_norm <| wp_ret ?_
      have hret : calqueref44_readByte_R u m0 S (0, (-1)) a w := ⟨ok, E.d, ⟨rv_t E rfl, rv_t E rfl, trivial⟩, (show InR .u8 (0) by decide), (show InR .i64 (-1) by decide)⟩
      obtain rfl := sj hF
      exact fin _ _ hret
    replace hF := cond_t hc39 hF
    refine sg <| lv E ok (y_move rfl) fun a E => lv E ok (y_move rfl) fun a E => lv E ok (y_addw rfl rfl) fun a E => ?_
    obtain ⟨c40, e41, hF⟩ := bnd hF
    refine lv E ok (y_index Try.underlying9 rfl rfl e41) fun a E => lv E ok (y_move rfl) fun a E => lv E ok (y_addw rfl rfl) fun a E => lv E ok (y_assign rfl) fun a E => lv E ok (y_assign rfl) fun a E => wn <| wp_ret ?_
    refine b_ret <| t_ret ?_
    have hret : calqueref44_readByte_R u m0 S ((c40.toNat : Int), (IntKind.wrap .i64 (at_1 + 2))) a w := ⟨ok, E.d, ⟨rv_t E rfl, rv_t E rfl, trivial⟩, (InR.byte c40), (InR.wrap _ _)⟩
    obtain rfl := sj hF
    exact fin _ _ hret
  replace hF := cond_t hc10 hF
  replace E := E.upd 34 hc10 rfl
  refine lv E ok (y_move rfl) fun a E => lv E ok (y_move rfl) fun a E => lv E ok (y_addw rfl rfl) fun a E => ?_
  obtain ⟨c11, e12, hF⟩ := bnd hF
  refine lv E ok (y_index Try.underlying9 rfl rfl e12) fun a E => ?_
  obtain ⟨r13, e14, hF⟩ := bnd hF
  refine l_call E go_91 rfl (calqueref44_digit_w N (c11.toNat : Int) (InR.byte c11) e14 hG ok) rfl rfl ?_
  rintro _ w ⟨⟨rfl, ok⟩, r15⟩
  refine ⟨_, rfl, fun a E => ?_⟩
  refine lv E ok (y_geq rfl rfl) fun a E => lv E ok (y_pickT rfl rfl) fun a E => lv E ok (y_move rfl) fun a E => bsplit (decide (r13 ≥ 0)) (fun hc16 => ?_) (fun hc16 => ?_)
  rotate_left
  · replace hF := cond_f hc16 hF
    replace E := E.upd 42 hc16 rfl
    refine ls E fun a E => ls E fun a E => ls E fun a E => ls E fun a E => ls E fun a E => ls E fun a E => lv E ok (y_pickF rfl rfl) fun a E => lv E ok (y_assign rfl) fun a E => ?_
    refine wn <| c_if E rfl (fun h => by cases h) (fun _ => ?_)
    refine sg <| lv E ok (y_move rfl) fun a E => lv E ok (y_addw rfl rfl) fun a E => lv E ok (y_move rfl) fun a E => lv E ok (y_slen Try.underlying9 rfl) fun a E => lv E ok (y_lss rfl rfl) fun a E => lv E ok (y_assign rfl) fun a E => ?_
    refine wn <| c_if E rfl (fun hc36 => ?_) (fun hc36 => ?_)
    rotate_left
    · replace hF := cond_f hc36 hF
      refine wp_skip <| b_norm <| t_norm <| sg <| lv E ok (y_assign rfl) fun a E => lv E ok (y_assign rfl) fun a E => wpList_nil ?_
      refine t_norm <| wp_ret ?_
      have hret : calqueref44_readByte_R u m0 S (0, (-1)) a w := ⟨ok, E.d, ⟨rv_t E rfl, rv_t E rfl, trivial⟩, (show InR .u8 (0) by decide), (show InR .i64 (-1) by decide)⟩
      obtain rfl := sj hF
      exact fin _ _ hret
    replace hF := cond_t hc36 hF
    refine sg <| lv E ok (y_move rfl) fun a E => lv E ok (y_move rfl) fun a E => lv E ok (y_addw rfl rfl) fun a E => ?_
    obtain ⟨c37, e38, hF⟩ := bnd hF
    refine lv E ok (y_index Try.underlying9 rfl rfl e38) fun a E => lv E ok (y_move rfl) fun a E => lv E ok (y_addw rfl rfl) fun a E => lv E ok (y_assign rfl) fun a E => lv E ok (y_assign rfl) fun a E => wn <| wp_ret ?_
    refine b_ret <| t_ret ?_
    have hret : calqueref44_readByte_R u m0 S ((c37.toNat : Int), (IntKind.wrap .i64 (at_1 + 2))) a w := ⟨ok, E.d, ⟨rv_t E rfl, rv_t E rfl, trivial⟩, (InR.byte c37), (InR.wrap _ _)⟩
    obtain rfl := sj hF
    exact fin _ _ hret
  replace hF := cond_t hc16 hF
  replace E := E.upd 42 hc16 rfl
  refine lv E ok (y_move rfl) fun a E => lv E ok (y_move rfl) fun a E => lv E ok (y_addw rfl rfl) fun a E => ?_
  obtain ⟨c17, e18, hF⟩ := bnd hF
  refine lv E ok (y_index Try.underlying9 rfl rfl e18) fun a E => ?_
  obtain ⟨r19, e20, hF⟩ := bnd hF
  refine l_call E go_91 rfl (calqueref44_digit_w N (c17.toNat : Int) (InR.byte c17) e20 hG ok) rfl rfl ?_
  rintro _ w ⟨⟨rfl, ok⟩, r21⟩
  refine ⟨_, rfl, fun a E => ?_⟩
  refine lv E ok (y_geq rfl rfl) fun a E => lv E ok (y_pickT rfl rfl) fun a E => lv E ok (y_assign rfl) fun a E => wn <| c_if E rfl (fun hc22 => ?_) (fun hc22 => ?_)
  · replace hF := cond_t hc22 hF
    refine wp_seq <| c_draw (by kernel_rfl) (by kernel_rfl) ok <| qv E (y_move rfl) fun a E => qv E (y_move rfl) fun a E => qv E (y_addw rfl rfl) fun a E => ?_
    obtain ⟨c23, e24, hF⟩ := bnd hF
    refine qv E (y_index Try.underlying9 rfl rfl e24) fun a E => ?_
    obtain ⟨r25, e26, hF⟩ := bnd hF
    obtain ⟨_, _, ⟨_, _⟩, r27⟩ := Go.X.Calls.get (calqueref44_digit_w N (c23.toNat : Int) (InR.byte c23) e26 hG ok)
    refine q_call E go_91 rfl (fun w ok => (calqueref44_digit_w N (c23.toNat : Int) (InR.byte c23) e26 hG ok).mono (fun _ _ h => h.1)) rfl rfl fun a E => qv E (y_mulw rfl rfl) fun a E => qv E (y_move rfl) fun a E => qv E (y_move rfl) fun a E => qv E (y_addw rfl rfl) fun a E => ?_
    obtain ⟨c28, e29, hF⟩ := bnd hF
    refine qv E (y_index Try.underlying9 rfl rfl e29) fun a E => ?_
    obtain ⟨r30, e31, hF⟩ := bnd hF
    obtain ⟨_, _, ⟨_, _⟩, r32⟩ := Go.X.Calls.get (calqueref44_digit_w N (c28.toNat : Int) (InR.byte c28) e31 hG ok)
    refine q_call E go_91 rfl (fun w ok => (calqueref44_digit_w N (c28.toNat : Int) (InR.byte c28) e31 hG ok).mono (fun _ _ h => h.1)) rfl rfl fun a E => qv E (y_addw rfl rfl) fun a E => qv E (y_conv Try.underlying3 Try.underlying5 rfl) fun a E => qv E (y_move rfl) fun a E => qv E (y_addw rfl rfl) fun a E => qv E (y_assign rfl) fun a E => qv E (y_assign rfl) fun a E => wpQuiet_nil ?_
    intro w ok
    refine t_norm <| wp_ret <| b_ret <| t_ret ?_
    have hret : calqueref44_readByte_R u m0 S ((IntKind.wrap .u8 (IntKind.wrap .i64 ((IntKind.wrap .i64 (r25 * 16)) + r30))), (IntKind.wrap .i64 (at_1 + 4))) a w := ⟨ok, E.d, ⟨rv_t E rfl, rv_t E rfl, trivial⟩, (InR.wrap _ _), (InR.wrap _ _)⟩
    obtain rfl := sj hF
    exact fin _ _ hret
  replace hF := cond_f hc22 hF
  refine sg <| lv E ok (y_move rfl) fun a E => lv E ok (y_addw rfl rfl) fun a E => lv E ok (y_move rfl) fun a E => lv E ok (y_slen Try.underlying9 rfl) fun a E => lv E ok (y_lss rfl rfl) fun a E => lv E ok (y_assign rfl) fun a E => ?_
  refine wn <| c_if E rfl (fun hc33 => ?_) (fun hc33 => ?_)
  rotate_left
  · replace hF := cond_f hc33 hF
    refine wp_skip <| b_norm <| t_norm <| sg <| lv E ok (y_assign rfl) fun a E => lv E ok (y_assign rfl) fun a E => wpList_nil ?_
    refine t_norm <| wp_ret ?_
    have hret : calqueref44_readByte_R u m0 S (0, (-1)) a w := ⟨ok, E.d, ⟨rv_t E rfl, rv_t E rfl, trivial⟩, (show InR .u8 (0) by decide), (show InR .i64 (-1) by decide)⟩
    obtain rfl := sj hF
    exact fin _ _ hret
  replace hF := cond_t hc33 hF
  refine sg <| lv E ok (y_move rfl) fun a E => lv E ok (y_move rfl) fun a E => lv E ok (y_addw rfl rfl) fun a E => ?_
  obtain ⟨c34, e35, hF⟩ := bnd hF
  refine lv E ok (y_index Try.underlying9 rfl rfl e35) fun a E => lv E ok (y_move rfl) fun a E => lv E ok (y_addw rfl rfl) fun a E => lv E ok (y_assign rfl) fun a E => lv E ok (y_assign rfl) fun a E => wn <| wp_ret ?_
  refine b_ret <| t_ret ?_
  have hret : calqueref44_readByte_R u m0 S ((c34.toNat : Int), (IntKind.wrap .i64 (at_1 + 2))) a w := ⟨ok, E.d, ⟨rv_t E rfl, rv_t E rfl, trivial⟩, (InR.byte c34), (InR.wrap _ _)⟩
  obtain rfl := sj hF
  exact fin _ _ hret
def calqueref44_readText_R (u : World) (m0 : Mem) (S : Segs) (r : Item × Int) (a : Act) (w : World) : Prop :=
  ∃ m1 v0, m0.le m1 ∧ Ok u m1 S w ∧ a.defers = [] ∧ RVs Try.prog a w [.c 4 74 (.agg v0.toArray), .t 5 (.int .i64 r.2)] ∧ pItem m1 v0 r.1 ∧ InR .i64 r.2
set_option maxHeartbeats 4000000 in
set_option maxRecDepth 100000 in
theorem calqueref44_readText_w {u : World} {m0 : Mem} {S : Segs} {w : World} (N : Nat) (s_0 : List UInt8) (ls_0 : s_0.length ≤ LIMS) (at_1 : Int) (rat_1 : InR .i64 at_1) {r : Item × Int} (hF : calqueref44_readText N s_0 at_1 = some r) (hG : Glob u) (ok : Ok u m0 S w) :
    Calls Try.prog 73 [Value.string (bs s_0), Value.int .i64 at_1].toArray w fun e w' => ∃ m1 v0, e = .returned (.tuple [(.agg v0.toArray), (.int .i64 r.2)].toArray) ∧ m0.le m1 ∧ Ok u m1 S w' ∧ pItem m1 v0 r.1 ∧ InR .i64 r.2 := by
  have le_m0 := Mem.le.refl m0
  unfold calqueref44_readText at hF
  have fin : ∀ a w, calqueref44_readText_R u m0 S r a w → bodyPost Try.prog Try.f73 (fun e w' => ∃ m1 v0, e = .returned (.tuple [(.agg v0.toArray), (.int .i64 r.2)].toArray) ∧ m0.le m1 ∧ Ok u m1 S w' ∧ pItem m1 v0 r.1 ∧ InR .i64 r.2) .ret a w := by
    intro a w h
    obtain ⟨m1, v0, hle, ok, hd, hrv, h0, h1⟩ := h
    exact c_ret2 [.c 4 74 (.agg v0.toArray), .t 5 (.int .i64 r.2)] hd rfl hrv ⟨m1, v0, rfl, hle, ok, h0, h1⟩
  refine enter Try.func73 rfl rfl rfl fun a E => sg <| l_alloc E ok zero_74 rfl rfl fun b1 a w E ok => lv E ok (y_assign rfl) fun a E => wn <| wp_seq ?_
  refine c_region <| lv E ok (y_assign rfl) fun a E => wn <| sg <| lv E ok (y_move rfl) fun a E => lv E ok (y_addw rfl rfl) fun a E => ?_
  refine lv E ok (y_assign rfl) fun a E => wn <| wp_seq <| wp_block ?_
  obtain ⟨M7, ok, h8⟩ := nilrow (e := 5) (k := 1) (R := (pI .u8)) ok
  obtain ⟨o9, hL, hF⟩ := bnd hF
  refine c_loop _ (fun (s : Int × (List (Int))) a w => ∃ c11 M12, Ok u m0 (M12 :: [(b1, Obj.cells [(Value.string (bs ([]))), (Value.slice none 0 0), (Value.bool false), (Value.int .i64 0), (Value.int .i64 0)].toArray 74 (0, 0))] :: S) w ∧ Env 50 a [(0, (Value.string (bs s_0))), (1, (Value.int .i64 s.1)), (4, (Value.pointer (some ⟨b1, 0, none⟩))), (6, c11)] ∧ InR .i64 s.1 ∧ ORow 5 1 (pI .u8) m0 c11 s.2 M12) (fun (b : (Int × (List (Int)))) e a w => e = (.exit 0) ∧ ∃ c44 M45, Ok u m0 (M45 :: [(b1, Obj.cells [(Value.string (bs ([]))), (Value.slice none 0 0), (Value.bool false), (Value.int .i64 0), (Value.int .i64 0)].toArray 74 (0, 0))] :: S) w ∧ Env 50 a [(0, (Value.string (bs s_0))), (1, (Value.int .i64 b.1)), (4, (Value.pointer (some ⟨b1, 0, none⟩))), (6, c44)] ∧ InR .i64 b.1 ∧ ORow 5 1 (pI .u8) m0 c44 b.2 M45) ?_ ?_ N _ a w hL ⟨(Value.slice none 0 0), M7, ok, E.keep [0, 1, 4, 6], (InR.wrap _ _), h8⟩
  rotate_left
  · intro e a w _ hO
    obtain ⟨rfl, c38, M39, ok, E, r37, h40⟩ := hO
    refine b_hit <| t_norm <| wp_seq <| sg <| lv E ok (y_move rfl) fun a E => lv E ok (y_lss rfl rfl) fun a E => lv E ok (y_move rfl) fun a E => ?_
    refine bsplit (decide (o9.1 < 0)) (fun hc41 => ?_) (fun hc41 => ?_)
    · replace hF := cond_t hc41 hF
      replace E := E.upd 38 hc41 rfl
      refine ls E fun a E => ls E fun a E => ls E fun a E => ls E fun a E => lv E ok (y_pickT rfl rfl) fun a E => wn <| c_if E rfl (fun _ => ?_) (fun h => by cases h)
      refine sg <| lv E ok (y_build (ps := []) (qs := []) (cs := [(Value.string (bs ([]))), (Value.slice none 0 0), (Value.bool false), (Value.int .i64 0), (Value.int .i64 0)]) zero_74 places_74 rfl trivial rfl) fun a E => l_storeB E ok 1 rfl rfl rfl inf_74 rfl rfl ⟨rfl, rfl, rfl, rfl, rfl, trivial⟩ rfl rfl fun w ok => lv E ok (y_assign rfl) fun a E => wn <| wp_ret ?_
      refine t_ret ?_
      have hret : calqueref44_readText_R u m0 S ((Item.mk ([]) ([]) false 0 0), (-1)) a w := ⟨m0, [(Value.string (bs ([]))), (Value.slice none 0 0), (Value.bool false), (Value.int .i64 0), (Value.int .i64 0)], le_m0, ok.drop.drop, E.d, ⟨rv_c (cs := [(Value.string (bs ([]))), (Value.slice none 0 0), (Value.bool false), (Value.int .i64 0), (Value.int .i64 0)]) E ok rfl agg_74 rfl (Holds.own 1 rfl rfl), rv_t E rfl, trivial⟩, ⟨_, rfl, (Nat.zero_le _), pL_nil, (show InR .i64 0 by decide), (show InR .i64 0 by decide)⟩, (show InR .i64 (-1) by decide)⟩
      obtain rfl := sj hF
      exact fin _ _ hret
    replace hF := cond_f hc41 hF
    replace E := E.upd 38 hc41 rfl
    refine lv E ok (y_move rfl) fun a E => lv E ok (y_move rfl) fun a E => lv E ok (y_slen Try.underlying9 rfl) fun a E => lv E ok (y_geq rfl rfl) fun a E => lv E ok (y_pickF rfl rfl) fun a E => wn <| c_if E rfl (fun hc42 => ?_) (fun hc42 => ?_)
    · replace hF := cond_t hc42 hF
      refine sg <| lv E ok (y_build (ps := []) (qs := []) (cs := [(Value.string (bs ([]))), (Value.slice none 0 0), (Value.bool false), (Value.int .i64 0), (Value.int .i64 0)]) zero_74 places_74 rfl trivial rfl) fun a E => l_storeB E ok 1 rfl rfl rfl inf_74 rfl rfl ⟨rfl, rfl, rfl, rfl, rfl, trivial⟩ rfl rfl fun w ok => lv E ok (y_assign rfl) fun a E => wn <| wp_ret ?_
      refine t_ret ?_
      have hret : calqueref44_readText_R u m0 S ((Item.mk ([]) ([]) false 0 0), (-1)) a w := ⟨m0, [(Value.string (bs ([]))), (Value.slice none 0 0), (Value.bool false), (Value.int .i64 0), (Value.int .i64 0)], le_m0, ok.drop.drop, E.d, ⟨rv_c (cs := [(Value.string (bs ([]))), (Value.slice none 0 0), (Value.bool false), (Value.int .i64 0), (Value.int .i64 0)]) E ok rfl agg_74 rfl (Holds.own 1 rfl rfl), rv_t E rfl, trivial⟩, ⟨_, rfl, (Nat.zero_le _), pL_nil, (show InR .i64 0 by decide), (show InR .i64 0 by decide)⟩, (show InR .i64 (-1) by decide)⟩
      obtain rfl := sj hF
      exact fin _ _ hret
    replace hF := cond_f hc42 hF
    refine wp_skip <| t_norm <| sg <| lv E ok (y_move rfl) fun a E => lv E ok (y_bstr Try.underlying111 Try.underlying5 Try.underlying9 rfl (BR.ofRow h40 0 rfl)) fun a E => lv E ok (y_build (ps := [(0, .tmp 46)]) (qs := [(0, [(Value.string (bs (bytesOf o9.2)))])]) (cs := [(Value.string (bs (bytesOf o9.2))), (Value.slice none 0 0), (Value.bool false), (Value.int .i64 0), (Value.int .i64 0)]) zero_74 places_74 rfl ⟨rfl, rfl, rfl, trivial⟩ rfl) fun a E => lv E ok (y_move rfl) fun a E => ?_
    refine lv E ok (y_addw rfl rfl) fun a E => l_storeB E ok 1 rfl rfl rfl inf_74 rfl rfl ⟨rfl, rfl, rfl, rfl, rfl, trivial⟩ rfl rfl fun w ok => lv E ok (y_assign rfl) fun a E => wn <| wp_ret ?_
    have hret : calqueref44_readText_R u m0 S ((Item.mk (bytesOf o9.2) ([]) false 0 0), (IntKind.wrap .i64 (o9.1 + 1))) a w := ⟨m0, [(Value.string (bs (bytesOf o9.2))), (Value.slice none 0 0), (Value.bool false), (Value.int .i64 0), (Value.int .i64 0)], le_m0, ok.drop.drop, E.d, ⟨rv_c (cs := [(Value.string (bs (bytesOf o9.2))), (Value.slice none 0 0), (Value.bool false), (Value.int .i64 0), (Value.int .i64 0)]) E ok rfl agg_74 rfl (Holds.own 1 rfl rfl), rv_t E rfl, trivial⟩, ⟨_, rfl, (Nat.le_trans (Nat.le_of_eq bytesOf_len) h40.form.2), pL_nil, (show InR .i64 0 by decide), (show InR .i64 0 by decide)⟩, (InR.wrap _ _)⟩
    obtain rfl := sj hF
    exact fin _ _ hret
  rintro ⟨at_14, l_15⟩ a w r ⟨c17, M18, ok, E, r16, h19⟩ hF
  replace hF : calqueref44_readText_b1 N s_0 at_14 l_15 = some r := hF
  unfold calqueref44_readText_b1 at hF
  refine wp_seq <| sg <| lv E ok (y_move rfl) fun a E => lv E ok (y_geq rfl rfl) fun a E => lv E ok (y_move rfl) fun a E => bsplit (decide (at_14 ≥ 0)) (fun hc20 => ?_) (fun hc20 => ?_)
  rotate_left
  · replace hF := cond_f hc20 hF
    replace E := E.upd 13 hc20 rfl
    refine ls E fun a E => ls E fun a E => ls E fun a E => ls E fun a E => lv E ok (y_pickF rfl rfl) fun a E => lv E ok (y_move rfl) fun a E => ls E fun a E => ls E fun a E => ?_
    refine ls E fun a E => ls E fun a E => lv E ok (y_pickF rfl rfl) fun a E => wn <| c_if E rfl (fun h => by cases h) (fun _ => ?_)
    refine wp_exit <| t_exit ?_
    obtain rfl := sj hF
    exact step_o (by nofun) (⟨rfl, ⟨c17, M18, ok, E.keep [0, 1, 4, 6], r16, h19⟩⟩)
  replace hF := cond_t hc20 hF
  replace E := E.upd 13 hc20 rfl
  refine lv E ok (y_move rfl) fun a E => lv E ok (y_move rfl) fun a E => lv E ok (y_slen Try.underlying9 rfl) fun a E => lv E ok (y_lss rfl rfl) fun a E => lv E ok (y_pickT rfl rfl) fun a E => lv E ok (y_move rfl) fun a E => bsplit (decide (at_14 < (s_0.length : Int))) (fun hc21 => ?_) (fun hc21 => ?_)
  rotate_left
  · replace hF := cond_f hc21 hF
    replace E := E.upd 19 hc21 rfl
    refine ls E fun a E => ls E fun a E => ls E fun a E => ls E fun a E => lv E ok (y_pickF rfl rfl) fun a E => wn <| c_if E rfl (fun h => by cases h) (fun _ => ?_)
    refine wp_exit <| t_exit ?_
    obtain rfl := sj hF
    exact step_o (by nofun) (⟨rfl, ⟨c17, M18, ok, E.keep [0, 1, 4, 6], r16, h19⟩⟩)
  replace hF := cond_t hc21 hF
  replace E := E.upd 19 hc21 rfl
  refine lv E ok (y_move rfl) fun a E => lv E ok (y_move rfl) fun a E => ?_
  obtain ⟨c22, e23, hF⟩ := bnd hF
  refine lv E ok (y_index Try.underlying9 rfl rfl e23) fun a E => lv E ok (y_neq rfl rfl) fun a E => lv E ok (y_pickT rfl rfl) fun a E => wn <| c_if E rfl (fun hc24 => ?_) (fun hc24 => ?_)
  rotate_left
  · replace hF := cond_f hc24 hF
    refine wp_exit <| t_exit ?_
    obtain rfl := sj hF
    exact step_o (by nofun) (⟨rfl, ⟨c17, M18, ok, E.keep [0, 1, 4, 6], r16, h19⟩⟩)
  replace hF := cond_t hc24 hF
  refine wp_skip <| t_norm <| wp_block <| sg <| lv E ok (y_move rfl) fun a E => lv E ok (y_move rfl) fun a E => ?_
  obtain ⟨r25, e26, hF⟩ := bnd hF
  refine l_call E go_87 rfl (calqueref44_readByte_w N s_0 ls_0 at_14 r16 e26 hG ok) rfl rfl ?_
  rintro _ w ⟨⟨rfl, ok⟩, r27, r28⟩
  refine ⟨_, rfl, fun a E => ?_⟩
  refine lv E ok (y_move rfl) fun a E => lv E ok (y_extract rfl rfl) fun a E => lv E ok (y_extract rfl rfl) fun a E => lv E ok (y_assign rfl) fun a E => lv E ok (y_assign rfl) fun a E => wn <| c_region ?_
  refine lv E ok (y_move rfl) fun a E => lv E ok (y_move rfl) fun a E => l_slit (R := (pI .u8)) (xo := [.tmp 32]) (xs := ([r25.1] : List (Int))) E ok sl_111 zero_5 rfl ⟨⟨_, rfl, rfl, (pI_mk r27)⟩, trivial⟩ rfl rfl rfl rfl fun c29 M30 a w E ok h31 => ?_
  obtain ⟨l32, e33, hF⟩ := bnd hF
  refine l_app (R := (pI .u8)) E ok 1 (mI .u8) sl_111 Try.underlying111 rfl h19 (SrcOK.ofRow h31 0 rfl ok) e33 ⟨_, zero_5, rfl⟩ rfl rfl rfl rfl fun c34 M35 a w E ok h36 => lv E ok (y_move rfl) fun a E => lv E ok (y_assign rfl) fun a E => lv E ok (y_assign rfl) fun a E => wpList_nil <| b_norm ?_
  obtain rfl := sj hF
  exact step_n ⟨c34, M35, (ok.pk 3 [1, 2] rfl (by decide)), E.keep [0, 1, 4, 6], r28, h36⟩
def calqueref44_readClass_R (u : World) (m0 : Mem) (S : Segs) (r : Item × Int) (a : Act) (w : World) : Prop :=
  ∃ m1 v0, m0.le m1 ∧ Ok u m1 S w ∧ a.defers = [] ∧ RVs Try.prog a w [.c 4 74 (.agg v0.toArray), .t 5 (.int .i64 r.2)] ∧ pItem m1 v0 r.1 ∧ InR .i64 r.2
set_option maxHeartbeats 4000000 in
set_option maxRecDepth 100000 in
theorem calqueref44_readClass_w {u : World} {m0 : Mem} {S : Segs} {w : World} (N : Nat) (s_0 : List UInt8) (ls_0 : s_0.length ≤ LIMS) (at_1 : Int) (rat_1 : InR .i64 at_1) {r : Item × Int} (hF : calqueref44_readClass N s_0 at_1 = some r) (hG : Glob u) (ok : Ok u m0 S w) :
    Calls Try.prog 74 [Value.string (bs s_0), Value.int .i64 at_1].toArray w fun e w' => ∃ m1 v0, e = .returned (.tuple [(.agg v0.toArray), (.int .i64 r.2)].toArray) ∧ m0.le m1 ∧ Ok u m1 S w' ∧ pItem m1 v0 r.1 ∧ InR .i64 r.2 := by
  have le_m0 := Mem.le.refl m0
  unfold calqueref44_readClass at hF
  have fin : ∀ a w, calqueref44_readClass_R u m0 S r a w → bodyPost Try.prog Try.f74 (fun e w' => ∃ m1 v0, e = .returned (.tuple [(.agg v0.toArray), (.int .i64 r.2)].toArray) ∧ m0.le m1 ∧ Ok u m1 S w' ∧ pItem m1 v0 r.1 ∧ InR .i64 r.2) .ret a w := by
    intro a w h
    obtain ⟨m1, v0, hle, ok, hd, hrv, h0, h1⟩ := h
    exact c_ret2 [.c 4 74 (.agg v0.toArray), .t 5 (.int .i64 r.2)] hd rfl hrv ⟨m1, v0, rfl, hle, ok, h0, h1⟩
  refine enter Try.func74 rfl rfl rfl fun a E => sg <| l_alloc E ok zero_74 rfl rfl fun b1 a w E ok => lv E ok (y_assign rfl) fun a E => wn <| wp_seq ?_
  refine c_region <| lv E ok (y_build (ps := []) (qs := []) (cs := [(Value.string (bs ([]))), (Value.slice none 0 0), (Value.bool false), (Value.int .i64 0), (Value.int .i64 0)]) zero_74 places_74 rfl trivial rfl) fun a E => l_alloc E ok zero_74 rfl rfl fun b2 a w E ok => l_storeB E ok 0 rfl rfl rfl inf_74 rfl rfl ⟨rfl, rfl, rfl, rfl, rfl, trivial⟩ rfl rfl fun w ok => wn <| sg ?_
  refine lv E ok (y_move rfl) fun a E => lv E ok (y_addw rfl rfl) fun a E => lv E ok (y_assign rfl) fun a E => wn <| wp_seq <| sg ?_
  refine lv E ok (y_move rfl) fun a E => lv E ok (y_move rfl) fun a E => lv E ok (y_slen Try.underlying9 rfl) fun a E => lv E ok (y_lss rfl rfl) fun a E => lv E ok (y_move rfl) fun a E => bsplit (decide ((IntKind.wrap .i64 (at_1 + 1)) < (s_0.length : Int))) (fun hc3 => ?_) (fun hc3 => ?_)
  rotate_left
  · as_aux_lemma =>
      replace hF := cond_f hc3 hF
      replace E := E.upd 17 hc3 rfl
      refine ls E fun a E => ls E fun a E => ls E fun a E => ls E fun a E => lv E ok (y_pickF rfl rfl) fun a E => wn <| c_if E rfl (fun h => by cases h) (fun _ => ?_)
      refine wp_skip <| t_norm <| wp_seq <| wp_block ?_
      obtain ⟨M116, ok, h117⟩ := nilrow (e := 98) (k := 2) (R := pRange) ok
      obtain ⟨o118, hL, hF⟩ := bnd hF
      refine c_loop _ (fun (s : Int × Item) a w => ∃ c121 M122, Ok u m0 (M122 :: [(b2, Obj.cells [(Value.string (bs s.2.Text)), c121, (Value.bool s.2.Not), (Value.int .i64 s.2.Least), (Value.int .i64 s.2.Most)].toArray 74 (0, 0))] :: [(b1, Obj.cells [(Value.string (bs ([]))), (Value.slice none 0 0), (Value.bool false), (Value.int .i64 0), (Value.int .i64 0)].toArray 74 (0, 0))] :: S) w ∧ Env 89 a [(0, (Value.string (bs s_0))), (1, (Value.int .i64 s.1)), (4, (Value.pointer (some ⟨b1, 0, none⟩))), (6, (Value.pointer (some ⟨b2, 0, none⟩)))] ∧ InR .i64 s.1 ∧ s.2.Text.length ≤ LIMS ∧ ORow 98 2 pRange m0 c121 s.2.Ranges M122 ∧ InR .i64 s.2.Least ∧ InR .i64 s.2.Most) (fun (b : (Item × Int)) e a w => e = (.exit 0) ∧ ∃ c194 M195, Ok u m0 (M195 :: [(b2, Obj.cells [(Value.string (bs b.1.Text)), c194, (Value.bool b.1.Not), (Value.int .i64 b.1.Least), (Value.int .i64 b.1.Most)].toArray 74 (0, 0))] :: [(b1, Obj.cells [(Value.string (bs ([]))), (Value.slice none 0 0), (Value.bool false), (Value.int .i64 0), (Value.int .i64 0)].toArray 74 (0, 0))] :: S) w ∧ Env 89 a [(0, (Value.string (bs s_0))), (1, (Value.int .i64 b.2)), (4, (Value.pointer (some ⟨b1, 0, none⟩))), (6, (Value.pointer (some ⟨b2, 0, none⟩)))] ∧ b.1.Text.length ≤ LIMS ∧ ORow 98 2 pRange m0 c194 b.1.Ranges M195 ∧ InR .i64 b.1.Least ∧ InR .i64 b.1.Most ∧ InR .i64 b.2) ?_ ?_ N _ a w hL ⟨(Value.slice none 0 0), M116, ok, E.keep [0, 1, 4, 6], (InR.wrap _ _), (Nat.zero_le _), h117, (show InR .i64 0 by decide), (show InR .i64 0 by decide)⟩
      rotate_left
      · intro e a w _ hO
        obtain ⟨rfl, c183, M184, ok, E, l182, h185, r186, r187, r188⟩ := hO
        refine b_hit <| t_norm <| wp_seq <| sg <| lv E ok (y_move rfl) fun a E => lv E ok (y_lss rfl rfl) fun a E => lv E ok (y_move rfl) fun a E => ?_
        refine bsplit (decide (o118.2 < 0)) (fun hc189 => ?_) (fun hc189 => ?_)
        · replace hF := cond_t hc189 hF
          replace E := E.upd 79 hc189 rfl
          refine ls E fun a E => ls E fun a E => ls E fun a E => ls E fun a E => lv E ok (y_pickT rfl rfl) fun a E => wn <| c_if E rfl (fun _ => ?_) (fun h => by cases h)
          refine sg <| lv E ok (y_build (ps := []) (qs := []) (cs := [(Value.string (bs ([]))), (Value.slice none 0 0), (Value.bool false), (Value.int .i64 0), (Value.int .i64 0)]) zero_74 places_74 rfl trivial rfl) fun a E => l_storeB E ok 2 rfl rfl rfl inf_74 rfl rfl ⟨rfl, rfl, rfl, rfl, rfl, trivial⟩ rfl rfl fun w ok => lv E ok (y_assign rfl) fun a E => wn <| wp_ret ?_
          refine t_ret ?_
          have hret : calqueref44_readClass_R u m0 S ((Item.mk ([]) ([]) false 0 0), (-1)) a w := ⟨m0, [(Value.string (bs ([]))), (Value.slice none 0 0), (Value.bool false), (Value.int .i64 0), (Value.int .i64 0)], le_m0, ok.drop.drop.drop, E.d, ⟨rv_c (cs := [(Value.string (bs ([]))), (Value.slice none 0 0), (Value.bool false), (Value.int .i64 0), (Value.int .i64 0)]) E ok rfl agg_74 rfl (Holds.own 2 rfl rfl), rv_t E rfl, trivial⟩, ⟨_, rfl, (Nat.zero_le _), pL_nil, (show InR .i64 0 by decide), (show InR .i64 0 by decide)⟩, (show InR .i64 (-1) by decide)⟩
          obtain rfl := sj hF
          exact fin _ _ hret
        replace hF := cond_f hc189 hF
        replace E := E.upd 79 hc189 rfl
        refine lv E ok (y_move rfl) fun a E => lv E ok (y_move rfl) fun a E => lv E ok (y_slen Try.underlying9 rfl) fun a E => lv E ok (y_geq rfl rfl) fun a E => lv E ok (y_pickF rfl rfl) fun a E => wn <| c_if E rfl (fun hc190 => ?_) (fun hc190 => ?_)
        · replace hF := cond_t hc190 hF
          refine sg <| lv E ok (y_build (ps := []) (qs := []) (cs := [(Value.string (bs ([]))), (Value.slice none 0 0), (Value.bool false), (Value.int .i64 0), (Value.int .i64 0)]) zero_74 places_74 rfl trivial rfl) fun a E => l_storeB E ok 2 rfl rfl rfl inf_74 rfl rfl ⟨rfl, rfl, rfl, rfl, rfl, trivial⟩ rfl rfl fun w ok => lv E ok (y_assign rfl) fun a E => wn <| wp_ret ?_
          refine t_ret ?_
          have hret : calqueref44_readClass_R u m0 S ((Item.mk ([]) ([]) false 0 0), (-1)) a w := ⟨m0, [(Value.string (bs ([]))), (Value.slice none 0 0), (Value.bool false), (Value.int .i64 0), (Value.int .i64 0)], le_m0, ok.drop.drop.drop, E.d, ⟨rv_c (cs := [(Value.string (bs ([]))), (Value.slice none 0 0), (Value.bool false), (Value.int .i64 0), (Value.int .i64 0)]) E ok rfl agg_74 rfl (Holds.own 2 rfl rfl), rv_t E rfl, trivial⟩, ⟨_, rfl, (Nat.zero_le _), pL_nil, (show InR .i64 0 by decide), (show InR .i64 0 by decide)⟩, (show InR .i64 (-1) by decide)⟩
          obtain rfl := sj hF
          exact fin _ _ hret
        replace hF := cond_f hc190 hF
        refine wp_skip <| t_norm <| sg <| lv E ok (y_loadAgg (cs := [(Value.string (bs o118.1.Text)), c183, (Value.bool o118.1.Not), (Value.int .i64 o118.1.Least), (Value.int .i64 o118.1.Most)]) agg_74 rfl rfl (Holds.own 1 rfl rfl)) fun a E => lv E ok (y_move rfl) fun a E => lv E ok (y_addw rfl rfl) fun a E => l_storeB E ok 2 rfl rfl rfl inf_74 rfl rfl ⟨rfl, (ORow.one h185), rfl, rfl, rfl, trivial⟩ rfl rfl fun w ok => ?_
        refine lv E ok (y_assign rfl) fun a E => wn <| wp_ret ?_
        obtain ⟨m191, hle, ok, hfz⟩ := (ok.frs 0 rfl).freeze
        have h192 := ORow.froz mRange h185 hle hfz (by decide)
        have le_m0 := le_m0.trans hle
        have hret : calqueref44_readClass_R u m0 S (o118.1, (IntKind.wrap .i64 (o118.2 + 1))) a w := ⟨m191, [(Value.string (bs o118.1.Text)), c183, (Value.bool o118.1.Not), (Value.int .i64 o118.1.Least), (Value.int .i64 o118.1.Most)], le_m0, ok.drop.drop, E.d, ⟨rv_c (cs := [(Value.string (bs o118.1.Text)), c183, (Value.bool o118.1.Not), (Value.int .i64 o118.1.Least), (Value.int .i64 o118.1.Most)]) E ok rfl agg_74 rfl (Holds.own 1 rfl rfl), rv_t E rfl, trivial⟩, ⟨_, rfl, l182, h192, r186, r187⟩, (InR.wrap _ _)⟩
        obtain rfl := sj hF
        exact fin _ _ hret
      rintro ⟨at_126, x_127⟩ a w r ⟨c130, M131, ok, E, r128, l129, h132, r133, r134⟩ hF
      replace hF : calqueref44_readClass_b2 N s_0 at_126 x_127 = some r := hF
      unfold calqueref44_readClass_b2 at hF
      refine wp_seq <| sg <| lv E ok (y_move rfl) fun a E => lv E ok (y_geq rfl rfl) fun a E => lv E ok (y_move rfl) fun a E => bsplit (decide (at_126 ≥ 0)) (fun hc135 => ?_) (fun hc135 => ?_)
      rotate_left
      · replace hF := cond_f hc135 hF
        replace E := E.upd 28 hc135 rfl
        refine ls E fun a E => ls E fun a E => ls E fun a E => ls E fun a E => lv E ok (y_pickF rfl rfl) fun a E => lv E ok (y_move rfl) fun a E => ls E fun a E => ls E fun a E => ?_
        refine ls E fun a E => ls E fun a E => lv E ok (y_pickF rfl rfl) fun a E => wn <| c_if E rfl (fun h => by cases h) (fun _ => ?_)
        refine wp_exit <| t_exit ?_
        obtain rfl := sj hF
        exact step_o (by nofun) (⟨rfl, ⟨c130, M131, ok, E.keep [0, 1, 4, 6], l129, h132, r133, r134, r128⟩⟩)
      replace hF := cond_t hc135 hF
      replace E := E.upd 28 hc135 rfl
      refine lv E ok (y_move rfl) fun a E => lv E ok (y_move rfl) fun a E => lv E ok (y_slen Try.underlying9 rfl) fun a E => lv E ok (y_lss rfl rfl) fun a E => lv E ok (y_pickT rfl rfl) fun a E => lv E ok (y_move rfl) fun a E => bsplit (decide (at_126 < (s_0.length : Int))) (fun hc136 => ?_) (fun hc136 => ?_)
      rotate_left
      · replace hF := cond_f hc136 hF
        replace E := E.upd 34 hc136 rfl
        refine ls E fun a E => ls E fun a E => ls E fun a E => ls E fun a E => lv E ok (y_pickF rfl rfl) fun a E => wn <| c_if E rfl (fun h => by cases h) (fun _ => ?_)
        refine wp_exit <| t_exit ?_
        obtain rfl := sj hF
        exact step_o (by nofun) (⟨rfl, ⟨c130, M131, ok, E.keep [0, 1, 4, 6], l129, h132, r133, r134, r128⟩⟩)
      replace hF := cond_t hc136 hF
      replace E := E.upd 34 hc136 rfl
      refine lv E ok (y_move rfl) fun a E => lv E ok (y_move rfl) fun a E => ?_
      obtain ⟨c137, e138, hF⟩ := bnd hF
      refine lv E ok (y_index Try.underlying9 rfl rfl e138) fun a E => lv E ok (y_neq rfl rfl) fun a E => lv E ok (y_pickT rfl rfl) fun a E => wn <| c_if E rfl (fun hc139 => ?_) (fun hc139 => ?_)
      rotate_left
      · replace hF := cond_f hc139 hF
        refine wp_exit <| t_exit ?_
        obtain rfl := sj hF
        exact step_o (by nofun) (⟨rfl, ⟨c130, M131, ok, E.keep [0, 1, 4, 6], l129, h132, r133, r134, r128⟩⟩)
      replace hF := cond_t hc139 hF
      refine wp_skip <| t_norm <| wp_block <| sg <| lv E ok (y_move rfl) fun a E => lv E ok (y_move rfl) fun a E => ?_
      obtain ⟨r140, e141, hF⟩ := bnd hF
      refine l_call E go_87 rfl (calqueref44_readByte_w N s_0 ls_0 at_126 r128 e141 hG ok) rfl rfl ?_
      rintro _ w ⟨⟨rfl, ok⟩, r142, r143⟩
      refine ⟨_, rfl, fun a E => ?_⟩
      refine lv E ok (y_move rfl) fun a E => lv E ok (y_extract rfl rfl) fun a E => lv E ok (y_extract rfl rfl) fun a E => lv E ok (y_assign rfl) fun a E => lv E ok (y_assign rfl) fun a E => wn <| wp_seq ?_
      refine c_region <| lv E ok (y_move rfl) fun a E => lv E ok (y_assign rfl) fun a E => wn <| wp_seq <| sg ?_
      refine lv E ok (y_move rfl) fun a E => lv E ok (y_geq rfl rfl) fun a E => lv E ok (y_move rfl) fun a E => bsplit (decide (r140.2 ≥ 0)) (fun hc144 => ?_) (fun hc144 => ?_)
      rotate_left
      · replace hF := cond_f hc144 hF
        replace E := E.upd 49 hc144 rfl
        refine ls E fun a E => ls E fun a E => ls E fun a E => ls E fun a E => lv E ok (y_pickF rfl rfl) fun a E => lv E ok (y_move rfl) fun a E => ls E fun a E => ls E fun a E => ?_
        refine ls E fun a E => ls E fun a E => lv E ok (y_pickF rfl rfl) fun a E => wn <| c_if E rfl (fun h => by cases h) (fun _ => ?_)
        refine wp_skip <| t_norm <| c_region <| lv E ok (y_fieldAddr fo_74_1 rfl) fun a E => lv E ok (y_load one_72 rfl (Holds.own 1 rfl rfl)) fun a E => lv E ok (y_move rfl) fun a E => lv E ok (y_move rfl) fun a E => lv E ok (y_build (ps := [(0, .tmp 70), (1, .tmp 71)]) (qs := [(0, [(Value.int .u8 r140.1)]), (1, [(Value.int .u8 r140.1)])]) (cs := [(Value.int .u8 r140.1), (Value.int .u8 r140.1)]) zero_98 places_98 rfl ⟨rfl, rfl, rfl, ⟨rfl, rfl, rfl, trivial⟩⟩ rfl) fun a E => ?_
        refine l_slit (R := pRange) (xo := [.tmp 72]) (xs := ([(Range.mk r140.1 r140.1)] : List (Range))) E ok sl_72 zero_98 rfl ⟨⟨_, rfl, rfl, ⟨rfl, r142, r142⟩⟩, trivial⟩ rfl rfl rfl rfl fun c174 M175 a w E ok h176 => ?_
        obtain ⟨l177, e178, hF⟩ := bnd hF
        refine l_app (R := pRange) E ok 1 mRange sl_72 Try.underlying72 rfl h132 (SrcOK.ofRow h176 0 rfl ok) e178 ⟨_, zero_98, rfl⟩ rfl rfl rfl rfl fun c179 M180 a w E ok h181 => lv E ok (y_move rfl) fun a E => lv E ok (y_fieldAddr fo_74_1 rfl) fun a E => l_storeB E ok 2 rfl rfl rfl inf_72 (ORow.cells h181) rfl ⟨(ORow.one h181), trivial⟩ rfl rfl fun w ok => lv E ok (y_assign rfl) fun a E => wpList_nil <| b_norm ?_
        obtain rfl := sj hF
        exact step_n ⟨c179, M180, (ok.pk 4 [1, 2, 3] rfl (by decide)), E.keep [0, 1, 4, 6], r143, l129, h181, r133, r134⟩
      replace hF := cond_t hc144 hF
      replace E := E.upd 49 hc144 rfl
      refine lv E ok (y_move rfl) fun a E => lv E ok (y_move rfl) fun a E => lv E ok (y_slen Try.underlying9 rfl) fun a E => lv E ok (y_lss rfl rfl) fun a E => lv E ok (y_pickT rfl rfl) fun a E => lv E ok (y_move rfl) fun a E => bsplit (decide (r140.2 < (s_0.length : Int))) (fun hc145 => ?_) (fun hc145 => ?_)
      rotate_left
      · replace hF := cond_f hc145 hF
        replace E := E.upd 55 hc145 rfl
        refine ls E fun a E => ls E fun a E => ls E fun a E => ls E fun a E => lv E ok (y_pickF rfl rfl) fun a E => wn <| c_if E rfl (fun h => by cases h) (fun _ => ?_)
        refine wp_skip <| t_norm <| c_region <| lv E ok (y_fieldAddr fo_74_1 rfl) fun a E => lv E ok (y_load one_72 rfl (Holds.own 1 rfl rfl)) fun a E => lv E ok (y_move rfl) fun a E => lv E ok (y_move rfl) fun a E => lv E ok (y_build (ps := [(0, .tmp 70), (1, .tmp 71)]) (qs := [(0, [(Value.int .u8 r140.1)]), (1, [(Value.int .u8 r140.1)])]) (cs := [(Value.int .u8 r140.1), (Value.int .u8 r140.1)]) zero_98 places_98 rfl ⟨rfl, rfl, rfl, ⟨rfl, rfl, rfl, trivial⟩⟩ rfl) fun a E => ?_
        refine l_slit (R := pRange) (xo := [.tmp 72]) (xs := ([(Range.mk r140.1 r140.1)] : List (Range))) E ok sl_72 zero_98 rfl ⟨⟨_, rfl, rfl, ⟨rfl, r142, r142⟩⟩, trivial⟩ rfl rfl rfl rfl fun c166 M167 a w E ok h168 => ?_
        obtain ⟨l169, e170, hF⟩ := bnd hF
        refine l_app (R := pRange) E ok 1 mRange sl_72 Try.underlying72 rfl h132 (SrcOK.ofRow h168 0 rfl ok) e170 ⟨_, zero_98, rfl⟩ rfl rfl rfl rfl fun c171 M172 a w E ok h173 => lv E ok (y_move rfl) fun a E => lv E ok (y_fieldAddr fo_74_1 rfl) fun a E => l_storeB E ok 2 rfl rfl rfl inf_72 (ORow.cells h173) rfl ⟨(ORow.one h173), trivial⟩ rfl rfl fun w ok => lv E ok (y_assign rfl) fun a E => wpList_nil <| b_norm ?_
        obtain rfl := sj hF
        exact step_n ⟨c171, M172, (ok.pk 4 [1, 2, 3] rfl (by decide)), E.keep [0, 1, 4, 6], r143, l129, h173, r133, r134⟩
      replace hF := cond_t hc145 hF
      replace E := E.upd 55 hc145 rfl
      refine lv E ok (y_move rfl) fun a E => lv E ok (y_move rfl) fun a E => ?_
      obtain ⟨c146, e147, hF⟩ := bnd hF
      refine lv E ok (y_index Try.underlying9 rfl rfl e147) fun a E => lv E ok (y_eql rfl rfl) fun a E => lv E ok (y_pickT rfl rfl) fun a E => wn ?_
      obtain ⟨o148, hJ, hF⟩ := bnd hF
      refine c_mono (Q' := fun e a w => e = .normal ∧ Ok u m0 (M131 :: [(b2, Obj.cells [(Value.string (bs x_127.Text)), c130, (Value.bool x_127.Not), (Value.int .i64 x_127.Least), (Value.int .i64 x_127.Most)].toArray 74 (0, 0))] :: [(b1, Obj.cells [(Value.string (bs ([]))), (Value.slice none 0 0), (Value.bool false), (Value.int .i64 0), (Value.int .i64 0)].toArray 74 (0, 0))] :: S) w ∧ Env 89 a [(0, (Value.string (bs s_0))), (4, (Value.pointer (some ⟨b1, 0, none⟩))), (6, (Value.pointer (some ⟨b2, 0, none⟩))), (7, (Value.int .u8 r140.1)), (8, (Value.int .i64 o148.1)), (9, (Value.int .u8 o148.2))] ∧ InR .i64 o148.1 ∧ InR .u8 o148.2) ?_ ?_
      rotate_left
      · clear hJ
        intro e a w hO
        obtain ⟨rfl, ok, E, r156, r157⟩ := hO
        refine t_norm <| c_region <| lv E ok (y_fieldAddr fo_74_1 rfl) fun a E => lv E ok (y_load one_72 rfl (Holds.own 1 rfl rfl)) fun a E => lv E ok (y_move rfl) fun a E => lv E ok (y_move rfl) fun a E => lv E ok (y_build (ps := [(0, .tmp 70), (1, .tmp 71)]) (qs := [(0, [(Value.int .u8 r140.1)]), (1, [(Value.int .u8 o148.2)])]) (cs := [(Value.int .u8 r140.1), (Value.int .u8 o148.2)]) zero_98 places_98 rfl ⟨rfl, rfl, rfl, ⟨rfl, rfl, rfl, trivial⟩⟩ rfl) fun a E => l_slit (R := pRange) (xo := [.tmp 72]) (xs := ([(Range.mk r140.1 o148.2)] : List (Range))) E ok sl_72 zero_98 rfl ⟨⟨_, rfl, rfl, ⟨rfl, r142, r157⟩⟩, trivial⟩ rfl rfl rfl rfl fun c158 M159 a w E ok h160 => ?_
        obtain ⟨l161, e162, hF⟩ := bnd hF
        refine l_app (R := pRange) E ok 1 mRange sl_72 Try.underlying72 rfl h132 (SrcOK.ofRow h160 0 rfl ok) e162 ⟨_, zero_98, rfl⟩ rfl rfl rfl rfl fun c163 M164 a w E ok h165 => lv E ok (y_move rfl) fun a E => lv E ok (y_fieldAddr fo_74_1 rfl) fun a E => l_storeB E ok 2 rfl rfl rfl inf_72 (ORow.cells h165) rfl ⟨(ORow.one h165), trivial⟩ rfl rfl fun w ok => lv E ok (y_assign rfl) fun a E => wpList_nil <| b_norm ?_
        obtain rfl := sj hF
        exact step_n ⟨c163, M164, (ok.pk 4 [1, 2, 3] rfl (by decide)), E.keep [0, 1, 4, 6], r156, l129, h165, r133, r134⟩
      replace hF := hJ
      clear hJ
      refine c_if E rfl (fun hc151 => ?_) (fun hc151 => ?_)
      rotate_left
      · replace hF := cond_f hc151 hF
        refine wp_skip ?_
        obtain rfl := sj hF
        exact ⟨rfl, ⟨ok, E.keep [0, 4, 6, 7, 8, 9], r143, r142⟩⟩
      replace hF := cond_t hc151 hF
      refine c_region <| lv E ok (y_move rfl) fun a E => lv E ok (y_move rfl) fun a E => lv E ok (y_add rfl rfl (InR.inc r143 (InR.len ls_0) hc145)) fun a E => ?_
      obtain ⟨r152, e153, hF⟩ := bnd hF
      refine l_call E go_87 rfl (calqueref44_readByte_w N s_0 ls_0 (r140.2 + 1) (InR.inc r143 (InR.len ls_0) hc145) e153 hG ok) rfl rfl ?_
      rintro _ w ⟨⟨rfl, ok⟩, r154, r155⟩
      refine ⟨_, rfl, fun a E => ?_⟩
      refine lv E ok (y_move rfl) fun a E => lv E ok (y_extract rfl rfl) fun a E => lv E ok (y_extract rfl rfl) fun a E => lv E ok (y_assign rfl) fun a E => lv E ok (y_assign rfl) fun a E => wpList_nil ?_
      obtain rfl := sj hF
      exact ⟨rfl, ⟨ok, E.keep [0, 4, 6, 7, 8, 9], r155, r154⟩⟩
  replace hF := cond_t hc3 hF
  replace E := E.upd 17 hc3 rfl
  refine lv E ok (y_move rfl) fun a E => lv E ok (y_move rfl) fun a E => ?_
  obtain ⟨c4, e5, hF⟩ := bnd hF
  refine lv E ok (y_index Try.underlying9 rfl rfl e5) fun a E => lv E ok (y_eql rfl rfl) fun a E => lv E ok (y_pickT rfl rfl) fun a E => wn ?_
  obtain ⟨o6, hJ, hF⟩ := bnd hF
  refine c_mono (Q' := fun e a w => e = .normal ∧ Ok u m0 ([(b2, Obj.cells [(Value.string (bs o6.2.Text)), (Value.slice none 0 0), (Value.bool o6.2.Not), (Value.int .i64 o6.2.Least), (Value.int .i64 o6.2.Most)].toArray 74 (0, 0))] :: [(b1, Obj.cells [(Value.string (bs ([]))), (Value.slice none 0 0), (Value.bool false), (Value.int .i64 0), (Value.int .i64 0)].toArray 74 (0, 0))] :: S) w ∧ Env 89 a [(0, (Value.string (bs s_0))), (1, (Value.int .i64 o6.1)), (4, (Value.pointer (some ⟨b1, 0, none⟩))), (6, (Value.pointer (some ⟨b2, 0, none⟩)))] ∧ InR .i64 o6.1 ∧ o6.2.Text.length ≤ LIMS ∧ InR .i64 o6.2.Least ∧ InR .i64 o6.2.Most) ?_ ?_
  · replace hF := hJ
    clear hJ
    refine c_if E rfl (fun hc11 => ?_) (fun hc11 => ?_)
    rotate_left
    · replace hF := cond_f hc11 hF
      refine wp_skip ?_
      obtain rfl := sj hF
      exact ⟨rfl, ⟨ok, E.keep [0, 1, 4, 6], (InR.wrap _ _), (Nat.zero_le _), (show InR .i64 0 by decide), (show InR .i64 0 by decide)⟩⟩
    replace hF := cond_t hc11 hF
    refine sg <| lv E ok (y_fieldAddr fo_74_2 rfl) fun a E => l_storeB E ok 0 rfl rfl rfl inf_4 rfl rfl ⟨rfl, trivial⟩ rfl rfl fun w ok => wn <| c_region <| lv E ok (y_move rfl) fun a E => ?_
    refine lv E ok (y_add rfl rfl (InR.inc (InR.wrap _ _) (InR.len ls_0) hc3)) fun a E => lv E ok (y_assign rfl) fun a E => wpList_nil ?_
    obtain rfl := sj hF
    exact ⟨rfl, ⟨ok, E.keep [0, 1, 4, 6], (InR.inc (InR.wrap _ _) (InR.len ls_0) hc3), (Nat.zero_le _), (show InR .i64 0 by decide), (show InR .i64 0 by decide)⟩⟩
  clear hJ
  intro e a w hO
  obtain ⟨rfl, ok, E, r12, l13, r14, r15⟩ := hO
  refine t_norm <| wp_seq <| wp_block ?_
  obtain ⟨M24, ok, h25⟩ := nilrow (e := 98) (k := 2) (R := pRange) ok
  obtain ⟨o26, hL, hF⟩ := bnd hF
  refine c_loop _ (fun (s : Int × Item) a w => ∃ c29 M30, Ok u m0 (M30 :: [(b2, Obj.cells [(Value.string (bs s.2.Text)), c29, (Value.bool s.2.Not), (Value.int .i64 s.2.Least), (Value.int .i64 s.2.Most)].toArray 74 (0, 0))] :: [(b1, Obj.cells [(Value.string (bs ([]))), (Value.slice none 0 0), (Value.bool false), (Value.int .i64 0), (Value.int .i64 0)].toArray 74 (0, 0))] :: S) w ∧ Env 89 a [(0, (Value.string (bs s_0))), (1, (Value.int .i64 s.1)), (4, (Value.pointer (some ⟨b1, 0, none⟩))), (6, (Value.pointer (some ⟨b2, 0, none⟩)))] ∧ InR .i64 s.1 ∧ s.2.Text.length ≤ LIMS ∧ ORow 98 2 pRange m0 c29 s.2.Ranges M30 ∧ InR .i64 s.2.Least ∧ InR .i64 s.2.Most) (fun (b : (Item × Int)) e a w => e = (.exit 0) ∧ ∃ c102 M103, Ok u m0 (M103 :: [(b2, Obj.cells [(Value.string (bs b.1.Text)), c102, (Value.bool b.1.Not), (Value.int .i64 b.1.Least), (Value.int .i64 b.1.Most)].toArray 74 (0, 0))] :: [(b1, Obj.cells [(Value.string (bs ([]))), (Value.slice none 0 0), (Value.bool false), (Value.int .i64 0), (Value.int .i64 0)].toArray 74 (0, 0))] :: S) w ∧ Env 89 a [(0, (Value.string (bs s_0))), (1, (Value.int .i64 b.2)), (4, (Value.pointer (some ⟨b1, 0, none⟩))), (6, (Value.pointer (some ⟨b2, 0, none⟩)))] ∧ b.1.Text.length ≤ LIMS ∧ ORow 98 2 pRange m0 c102 b.1.Ranges M103 ∧ InR .i64 b.1.Least ∧ InR .i64 b.1.Most ∧ InR .i64 b.2) ?_ ?_ N _ a w hL ⟨(Value.slice none 0 0), M24, ok, E.keep [0, 1, 4, 6], r12, l13, h25, r14, r15⟩
  rotate_left
  · intro e a w _ hO
    obtain ⟨rfl, c91, M92, ok, E, l90, h93, r94, r95, r96⟩ := hO
    refine b_hit <| t_norm <| wp_seq <| sg <| lv E ok (y_move rfl) fun a E => lv E ok (y_lss rfl rfl) fun a E => lv E ok (y_move rfl) fun a E => ?_
    refine bsplit (decide (o26.2 < 0)) (fun hc97 => ?_) (fun hc97 => ?_)
    · replace hF := cond_t hc97 hF
      replace E := E.upd 79 hc97 rfl
      refine ls E fun a E => ls E fun a E => ls E fun a E => ls E fun a E => lv E ok (y_pickT rfl rfl) fun a E => wn <| c_if E rfl (fun _ => ?_) (fun h => by cases h)
      refine sg <| lv E ok (y_build (ps := []) (qs := []) (cs := [(Value.string (bs ([]))), (Value.slice none 0 0), (Value.bool false), (Value.int .i64 0), (Value.int .i64 0)]) zero_74 places_74 rfl trivial rfl) fun a E => l_storeB E ok 2 rfl rfl rfl inf_74 rfl rfl ⟨rfl, rfl, rfl, rfl, rfl, trivial⟩ rfl rfl fun w ok => lv E ok (y_assign rfl) fun a E => wn <| wp_ret ?_
      refine t_ret ?_
      have hret : calqueref44_readClass_R u m0 S ((Item.mk ([]) ([]) false 0 0), (-1)) a w := ⟨m0, [(Value.string (bs ([]))), (Value.slice none 0 0), (Value.bool false), (Value.int .i64 0), (Value.int .i64 0)], le_m0, ok.drop.drop.drop, E.d, ⟨rv_c (cs := [(Value.string (bs ([]))), (Value.slice none 0 0), (Value.bool false), (Value.int .i64 0), (Value.int .i64 0)]) E ok rfl agg_74 rfl (Holds.own 2 rfl rfl), rv_t E rfl, trivial⟩, ⟨_, rfl, (Nat.zero_le _), pL_nil, (show InR .i64 0 by decide), (show InR .i64 0 by decide)⟩, (show InR .i64 (-1) by decide)⟩
      obtain rfl := sj hF
      exact fin _ _ hret
    replace hF := cond_f hc97 hF
    replace E := E.upd 79 hc97 rfl
    refine lv E ok (y_move rfl) fun a E => lv E ok (y_move rfl) fun a E => lv E ok (y_slen Try.underlying9 rfl) fun a E => lv E ok (y_geq rfl rfl) fun a E => lv E ok (y_pickF rfl rfl) fun a E => wn <| c_if E rfl (fun hc98 => ?_) (fun hc98 => ?_)
    · replace hF := cond_t hc98 hF
      refine sg <| lv E ok (y_build (ps := []) (qs := []) (cs := [(Value.string (bs ([]))), (Value.slice none 0 0), (Value.bool false), (Value.int .i64 0), (Value.int .i64 0)]) zero_74 places_74 rfl trivial rfl) fun a E => l_storeB E ok 2 rfl rfl rfl inf_74 rfl rfl ⟨rfl, rfl, rfl, rfl, rfl, trivial⟩ rfl rfl fun w ok => lv E ok (y_assign rfl) fun a E => wn <| wp_ret ?_
      refine t_ret ?_
      have hret : calqueref44_readClass_R u m0 S ((Item.mk ([]) ([]) false 0 0), (-1)) a w := ⟨m0, [(Value.string (bs ([]))), (Value.slice none 0 0), (Value.bool false), (Value.int .i64 0), (Value.int .i64 0)], le_m0, ok.drop.drop.drop, E.d, ⟨rv_c (cs := [(Value.string (bs ([]))), (Value.slice none 0 0), (Value.bool false), (Value.int .i64 0), (Value.int .i64 0)]) E ok rfl agg_74 rfl (Holds.own 2 rfl rfl), rv_t E rfl, trivial⟩, ⟨_, rfl, (Nat.zero_le _), pL_nil, (show InR .i64 0 by decide), (show InR .i64 0 by decide)⟩, (show InR .i64 (-1) by decide)⟩
      obtain rfl := sj hF
      exact fin _ _ hret
    replace hF := cond_f hc98 hF
    refine wp_skip <| t_norm <| sg <| lv E ok (y_loadAgg (cs := [(Value.string (bs o26.1.Text)), c91, (Value.bool o26.1.Not), (Value.int .i64 o26.1.Least), (Value.int .i64 o26.1.Most)]) agg_74 rfl rfl (Holds.own 1 rfl rfl)) fun a E => lv E ok (y_move rfl) fun a E => lv E ok (y_addw rfl rfl) fun a E => l_storeB E ok 2 rfl rfl rfl inf_74 rfl rfl ⟨rfl, (ORow.one h93), rfl, rfl, rfl, trivial⟩ rfl rfl fun w ok => ?_
    refine lv E ok (y_assign rfl) fun a E => wn <| wp_ret ?_
    obtain ⟨m99, hle, ok, hfz⟩ := (ok.frs 0 rfl).freeze
    have h100 := ORow.froz mRange h93 hle hfz (by decide)
    have le_m0 := le_m0.trans hle
    have hret : calqueref44_readClass_R u m0 S (o26.1, (IntKind.wrap .i64 (o26.2 + 1))) a w := ⟨m99, [(Value.string (bs o26.1.Text)), c91, (Value.bool o26.1.Not), (Value.int .i64 o26.1.Least), (Value.int .i64 o26.1.Most)], le_m0, ok.drop.drop, E.d, ⟨rv_c (cs := [(Value.string (bs o26.1.Text)), c91, (Value.bool o26.1.Not), (Value.int .i64 o26.1.Least), (Value.int .i64 o26.1.Most)]) E ok rfl agg_74 rfl (Holds.own 1 rfl rfl), rv_t E rfl, trivial⟩, ⟨_, rfl, l90, h100, r94, r95⟩, (InR.wrap _ _)⟩
    obtain rfl := sj hF
    exact fin _ _ hret
  rintro ⟨at_34, x_35⟩ a w r ⟨c38, M39, ok, E, r36, l37, h40, r41, r42⟩ hF
  replace hF : calqueref44_readClass_b1 N s_0 at_34 x_35 = some r := hF
  unfold calqueref44_readClass_b1 at hF
  refine wp_seq <| sg <| lv E ok (y_move rfl) fun a E => lv E ok (y_geq rfl rfl) fun a E => lv E ok (y_move rfl) fun a E => bsplit (decide (at_34 ≥ 0)) (fun hc43 => ?_) (fun hc43 => ?_)
  rotate_left
  · replace hF := cond_f hc43 hF
    replace E := E.upd 28 hc43 rfl
    refine ls E fun a E => ls E fun a E => ls E fun a E => ls E fun a E => lv E ok (y_pickF rfl rfl) fun a E => lv E ok (y_move rfl) fun a E => ls E fun a E => ls E fun a E => ?_
    refine ls E fun a E => ls E fun a E => lv E ok (y_pickF rfl rfl) fun a E => wn <| c_if E rfl (fun h => by cases h) (fun _ => ?_)
    refine wp_exit <| t_exit ?_
    obtain rfl := sj hF
    exact step_o (by nofun) (⟨rfl, ⟨c38, M39, ok, E.keep [0, 1, 4, 6], l37, h40, r41, r42, r36⟩⟩)
  replace hF := cond_t hc43 hF
  replace E := E.upd 28 hc43 rfl
  refine lv E ok (y_move rfl) fun a E => lv E ok (y_move rfl) fun a E => lv E ok (y_slen Try.underlying9 rfl) fun a E => lv E ok (y_lss rfl rfl) fun a E => lv E ok (y_pickT rfl rfl) fun a E => lv E ok (y_move rfl) fun a E => bsplit (decide (at_34 < (s_0.length : Int))) (fun hc44 => ?_) (fun hc44 => ?_)
  rotate_left
  · replace hF := cond_f hc44 hF
    replace E := E.upd 34 hc44 rfl
    refine ls E fun a E => ls E fun a E => ls E fun a E => ls E fun a E => lv E ok (y_pickF rfl rfl) fun a E => wn <| c_if E rfl (fun h => by cases h) (fun _ => ?_)
    refine wp_exit <| t_exit ?_
    obtain rfl := sj hF
    exact step_o (by nofun) (⟨rfl, ⟨c38, M39, ok, E.keep [0, 1, 4, 6], l37, h40, r41, r42, r36⟩⟩)
  replace hF := cond_t hc44 hF
  replace E := E.upd 34 hc44 rfl
  refine lv E ok (y_move rfl) fun a E => lv E ok (y_move rfl) fun a E => ?_
  obtain ⟨c45, e46, hF⟩ := bnd hF
  refine lv E ok (y_index Try.underlying9 rfl rfl e46) fun a E => lv E ok (y_neq rfl rfl) fun a E => lv E ok (y_pickT rfl rfl) fun a E => wn <| c_if E rfl (fun hc47 => ?_) (fun hc47 => ?_)
  rotate_left
  · replace hF := cond_f hc47 hF
    refine wp_exit <| t_exit ?_
    obtain rfl := sj hF
    exact step_o (by nofun) (⟨rfl, ⟨c38, M39, ok, E.keep [0, 1, 4, 6], l37, h40, r41, r42, r36⟩⟩)
  replace hF := cond_t hc47 hF
  refine wp_skip <| t_norm <| wp_block <| sg <| lv E ok (y_move rfl) fun a E => lv E ok (y_move rfl) fun a E => ?_
  obtain ⟨r48, e49, hF⟩ := bnd hF
  refine l_call E go_87 rfl (calqueref44_readByte_w N s_0 ls_0 at_34 r36 e49 hG ok) rfl rfl ?_
  rintro _ w ⟨⟨rfl, ok⟩, r50, r51⟩
  refine ⟨_, rfl, fun a E => ?_⟩
  refine lv E ok (y_move rfl) fun a E => lv E ok (y_extract rfl rfl) fun a E => lv E ok (y_extract rfl rfl) fun a E => lv E ok (y_assign rfl) fun a E => lv E ok (y_assign rfl) fun a E => wn <| wp_seq ?_
  refine c_region <| lv E ok (y_move rfl) fun a E => lv E ok (y_assign rfl) fun a E => wn <| wp_seq <| sg ?_
  refine lv E ok (y_move rfl) fun a E => lv E ok (y_geq rfl rfl) fun a E => lv E ok (y_move rfl) fun a E => bsplit (decide (r48.2 ≥ 0)) (fun hc52 => ?_) (fun hc52 => ?_)
  rotate_left
  · replace hF := cond_f hc52 hF
    replace E := E.upd 49 hc52 rfl
    refine ls E fun a E => ls E fun a E => ls E fun a E => ls E fun a E => lv E ok (y_pickF rfl rfl) fun a E => lv E ok (y_move rfl) fun a E => ls E fun a E => ls E fun a E => ?_
    refine ls E fun a E => ls E fun a E => lv E ok (y_pickF rfl rfl) fun a E => wn <| c_if E rfl (fun h => by cases h) (fun _ => ?_)
    refine wp_skip <| t_norm <| c_region <| lv E ok (y_fieldAddr fo_74_1 rfl) fun a E => lv E ok (y_load one_72 rfl (Holds.own 1 rfl rfl)) fun a E => lv E ok (y_move rfl) fun a E => lv E ok (y_move rfl) fun a E => lv E ok (y_build (ps := [(0, .tmp 70), (1, .tmp 71)]) (qs := [(0, [(Value.int .u8 r48.1)]), (1, [(Value.int .u8 r48.1)])]) (cs := [(Value.int .u8 r48.1), (Value.int .u8 r48.1)]) zero_98 places_98 rfl ⟨rfl, rfl, rfl, ⟨rfl, rfl, rfl, trivial⟩⟩ rfl) fun a E => ?_
    refine l_slit (R := pRange) (xo := [.tmp 72]) (xs := ([(Range.mk r48.1 r48.1)] : List (Range))) E ok sl_72 zero_98 rfl ⟨⟨_, rfl, rfl, ⟨rfl, r50, r50⟩⟩, trivial⟩ rfl rfl rfl rfl fun c82 M83 a w E ok h84 => ?_
    obtain ⟨l85, e86, hF⟩ := bnd hF
    refine l_app (R := pRange) E ok 1 mRange sl_72 Try.underlying72 rfl h40 (SrcOK.ofRow h84 0 rfl ok) e86 ⟨_, zero_98, rfl⟩ rfl rfl rfl rfl fun c87 M88 a w E ok h89 => lv E ok (y_move rfl) fun a E => lv E ok (y_fieldAddr fo_74_1 rfl) fun a E => l_storeB E ok 2 rfl rfl rfl inf_72 (ORow.cells h89) rfl ⟨(ORow.one h89), trivial⟩ rfl rfl fun w ok => lv E ok (y_assign rfl) fun a E => wpList_nil <| b_norm ?_
    obtain rfl := sj hF
    exact step_n ⟨c87, M88, (ok.pk 4 [1, 2, 3] rfl (by decide)), E.keep [0, 1, 4, 6], r51, l37, h89, r41, r42⟩
  replace hF := cond_t hc52 hF
  replace E := E.upd 49 hc52 rfl
  refine lv E ok (y_move rfl) fun a E => lv E ok (y_move rfl) fun a E => lv E ok (y_slen Try.underlying9 rfl) fun a E => lv E ok (y_lss rfl rfl) fun a E => lv E ok (y_pickT rfl rfl) fun a E => lv E ok (y_move rfl) fun a E => bsplit (decide (r48.2 < (s_0.length : Int))) (fun hc53 => ?_) (fun hc53 => ?_)
  rotate_left
  · replace hF := cond_f hc53 hF
    replace E := E.upd 55 hc53 rfl
    refine ls E fun a E => ls E fun a E => ls E fun a E => ls E fun a E => lv E ok (y_pickF rfl rfl) fun a E => wn <| c_if E rfl (fun h => by cases h) (fun _ => ?_)
    refine wp_skip <| t_norm <| c_region <| lv E ok (y_fieldAddr fo_74_1 rfl) fun a E => lv E ok (y_load one_72 rfl (Holds.own 1 rfl rfl)) fun a E => lv E ok (y_move rfl) fun a E => lv E ok (y_move rfl) fun a E => lv E ok (y_build (ps := [(0, .tmp 70), (1, .tmp 71)]) (qs := [(0, [(Value.int .u8 r48.1)]), (1, [(Value.int .u8 r48.1)])]) (cs := [(Value.int .u8 r48.1), (Value.int .u8 r48.1)]) zero_98 places_98 rfl ⟨rfl, rfl, rfl, ⟨rfl, rfl, rfl, trivial⟩⟩ rfl) fun a E => ?_
    refine l_slit (R := pRange) (xo := [.tmp 72]) (xs := ([(Range.mk r48.1 r48.1)] : List (Range))) E ok sl_72 zero_98 rfl ⟨⟨_, rfl, rfl, ⟨rfl, r50, r50⟩⟩, trivial⟩ rfl rfl rfl rfl fun c74 M75 a w E ok h76 => ?_
    obtain ⟨l77, e78, hF⟩ := bnd hF
    refine l_app (R := pRange) E ok 1 mRange sl_72 Try.underlying72 rfl h40 (SrcOK.ofRow h76 0 rfl ok) e78 ⟨_, zero_98, rfl⟩ rfl rfl rfl rfl fun c79 M80 a w E ok h81 => lv E ok (y_move rfl) fun a E => lv E ok (y_fieldAddr fo_74_1 rfl) fun a E => l_storeB E ok 2 rfl rfl rfl inf_72 (ORow.cells h81) rfl ⟨(ORow.one h81), trivial⟩ rfl rfl fun w ok => lv E ok (y_assign rfl) fun a E => wpList_nil <| b_norm ?_
    obtain rfl := sj hF
    exact step_n ⟨c79, M80, (ok.pk 4 [1, 2, 3] rfl (by decide)), E.keep [0, 1, 4, 6], r51, l37, h81, r41, r42⟩
  replace hF := cond_t hc53 hF
  replace E := E.upd 55 hc53 rfl
  refine lv E ok (y_move rfl) fun a E => lv E ok (y_move rfl) fun a E => ?_
  obtain ⟨c54, e55, hF⟩ := bnd hF
  refine lv E ok (y_index Try.underlying9 rfl rfl e55) fun a E => lv E ok (y_eql rfl rfl) fun a E => lv E ok (y_pickT rfl rfl) fun a E => wn ?_
  obtain ⟨o56, hJ, hF⟩ := bnd hF
  refine c_mono (Q' := fun e a w => e = .normal ∧ Ok u m0 (M39 :: [(b2, Obj.cells [(Value.string (bs x_35.Text)), c38, (Value.bool x_35.Not), (Value.int .i64 x_35.Least), (Value.int .i64 x_35.Most)].toArray 74 (0, 0))] :: [(b1, Obj.cells [(Value.string (bs ([]))), (Value.slice none 0 0), (Value.bool false), (Value.int .i64 0), (Value.int .i64 0)].toArray 74 (0, 0))] :: S) w ∧ Env 89 a [(0, (Value.string (bs s_0))), (4, (Value.pointer (some ⟨b1, 0, none⟩))), (6, (Value.pointer (some ⟨b2, 0, none⟩))), (7, (Value.int .u8 r48.1)), (8, (Value.int .i64 o56.1)), (9, (Value.int .u8 o56.2))] ∧ InR .i64 o56.1 ∧ InR .u8 o56.2) ?_ ?_
  rotate_left
  · clear hJ
    intro e a w hO
    obtain ⟨rfl, ok, E, r64, r65⟩ := hO
    refine t_norm <| c_region <| lv E ok (y_fieldAddr fo_74_1 rfl) fun a E => lv E ok (y_load one_72 rfl (Holds.own 1 rfl rfl)) fun a E => lv E ok (y_move rfl) fun a E => lv E ok (y_move rfl) fun a E => lv E ok (y_build (ps := [(0, .tmp 70), (1, .tmp 71)]) (qs := [(0, [(Value.int .u8 r48.1)]), (1, [(Value.int .u8 o56.2)])]) (cs := [(Value.int .u8 r48.1), (Value.int .u8 o56.2)]) zero_98 places_98 rfl ⟨rfl, rfl, rfl, ⟨rfl, rfl, rfl, trivial⟩⟩ rfl) fun a E => l_slit (R := pRange) (xo := [.tmp 72]) (xs := ([(Range.mk r48.1 o56.2)] : List (Range))) E ok sl_72 zero_98 rfl ⟨⟨_, rfl, rfl, ⟨rfl, r50, r65⟩⟩, trivial⟩ rfl rfl rfl rfl fun c66 M67 a w E ok h68 => ?_
    obtain ⟨l69, e70, hF⟩ := bnd hF
    refine l_app (R := pRange) E ok 1 mRange sl_72 Try.underlying72 rfl h40 (SrcOK.ofRow h68 0 rfl ok) e70 ⟨_, zero_98, rfl⟩ rfl rfl rfl rfl fun c71 M72 a w E ok h73 => lv E ok (y_move rfl) fun a E => lv E ok (y_fieldAddr fo_74_1 rfl) fun a E => l_storeB E ok 2 rfl rfl rfl inf_72 (ORow.cells h73) rfl ⟨(ORow.one h73), trivial⟩ rfl rfl fun w ok => lv E ok (y_assign rfl) fun a E => wpList_nil <| b_norm ?_
    obtain rfl := sj hF
    exact step_n ⟨c71, M72, (ok.pk 4 [1, 2, 3] rfl (by decide)), E.keep [0, 1, 4, 6], r64, l37, h73, r41, r42⟩
  replace hF := hJ
  clear hJ
  refine c_if E rfl (fun hc59 => ?_) (fun hc59 => ?_)
  rotate_left
  · replace hF := cond_f hc59 hF
    refine wp_skip ?_
    obtain rfl := sj hF
    exact ⟨rfl, ⟨ok, E.keep [0, 4, 6, 7, 8, 9], r51, r50⟩⟩
  replace hF := cond_t hc59 hF
  refine c_region <| lv E ok (y_move rfl) fun a E => lv E ok (y_move rfl) fun a E => lv E ok (y_add rfl rfl (InR.inc r51 (InR.len ls_0) hc53)) fun a E => ?_
  obtain ⟨r60, e61, hF⟩ := bnd hF
  refine l_call E go_87 rfl (calqueref44_readByte_w N s_0 ls_0 (r48.2 + 1) (InR.inc r51 (InR.len ls_0) hc53) e61 hG ok) rfl rfl ?_
  rintro _ w ⟨⟨rfl, ok⟩, r62, r63⟩
  refine ⟨_, rfl, fun a E => ?_⟩
  refine lv E ok (y_move rfl) fun a E => lv E ok (y_extract rfl rfl) fun a E => lv E ok (y_extract rfl rfl) fun a E => lv E ok (y_assign rfl) fun a E => lv E ok (y_assign rfl) fun a E => wpList_nil ?_
  obtain rfl := sj hF
  exact ⟨rfl, ⟨ok, E.keep [0, 4, 6, 7, 8, 9], r63, r62⟩⟩
def calqueref44_readItem_R (u : World) (m0 : Mem) (S : Segs) (r : Item × Int) (a : Act) (w : World) : Prop :=
  ∃ m1 v0, m0.le m1 ∧ Ok u m1 S w ∧ a.defers = [] ∧ RVs Try.prog a w [.c 4 74 (.agg v0.toArray), .t 5 (.int .i64 r.2)] ∧ pItem m1 v0 r.1 ∧ InR .i64 r.2
set_option maxHeartbeats 4000000 in
set_option maxRecDepth 100000 in
theorem calqueref44_readItem_w {u : World} {m0 : Mem} {S : Segs} {w : World} (N : Nat) (s_0 : List UInt8) (ls_0 : s_0.length ≤ LIMS) (at_1 : Int) (rat_1 : InR .i64 at_1) {r : Item × Int} (hF : calqueref44_readItem N s_0 at_1 = some r) (hG : Glob u) (ok : Ok u m0 S w) :
    Calls Try.prog 58 [Value.string (bs s_0), Value.int .i64 at_1].toArray w fun e w' => ∃ m1 v0, e = .returned (.tuple [(.agg v0.toArray), (.int .i64 r.2)].toArray) ∧ m0.le m1 ∧ Ok u m1 S w' ∧ pItem m1 v0 r.1 ∧ InR .i64 r.2 := by
  have le_m0 := Mem.le.refl m0
  unfold calqueref44_readItem at hF
  have fin : ∀ a w, calqueref44_readItem_R u m0 S r a w → bodyPost Try.prog Try.f58 (fun e w' => ∃ m1 v0, e = .returned (.tuple [(.agg v0.toArray), (.int .i64 r.2)].toArray) ∧ m0.le m1 ∧ Ok u m1 S w' ∧ pItem m1 v0 r.1 ∧ InR .i64 r.2) .ret a w := by
    intro a w h
    obtain ⟨m1, v0, hle, ok, hd, hrv, h0, h1⟩ := h
    exact c_ret2 [.c 4 74 (.agg v0.toArray), .t 5 (.int .i64 r.2)] hd rfl hrv ⟨m1, v0, rfl, hle, ok, h0, h1⟩
  refine enter Try.func58 rfl rfl rfl fun a E => sg <| l_alloc E ok zero_74 rfl rfl fun b1 a w E ok => lv E ok (y_assign rfl) fun a E => wn <| wp_seq ?_
  refine c_region <| lv E ok (y_build (ps := []) (qs := []) (cs := [(Value.string (bs ([]))), (Value.slice none 0 0), (Value.bool false), (Value.int .i64 0), (Value.int .i64 0)]) zero_74 places_74 rfl trivial rfl) fun a E => l_alloc E ok zero_74 rfl rfl fun b2 a w E ok => l_storeB E ok 0 rfl rfl rfl inf_74 rfl rfl ⟨rfl, rfl, rfl, rfl, rfl, trivial⟩ rfl rfl fun w ok => wn <| wp_seq <| wp_block ?_
  refine sg <| lv E ok (y_move rfl) fun a E => lv E ok (y_move rfl) fun a E => lv E ok (y_slen Try.underlying9 rfl) fun a E => lv E ok (y_lss rfl rfl) fun a E => lv E ok (y_move rfl) fun a E => bsplit (decide (at_1 < (s_0.length : Int))) (fun hc3 => ?_) (fun hc3 => ?_)
  rotate_left
  · as_aux_lemma =>
      replace hF := cond_f hc3 hF
      replace E := E.upd 14 hc3 rfl
      refine ls E fun a E => ls E fun a E => ls E fun a E => ls E fun a E => lv E ok (y_pickF rfl rfl) fun a E => lv E ok (y_assign rfl) fun a E => wn ?_
      refine c_if E rfl (fun h => by cases h) (fun _ => ?_)
      refine sg <| lv E ok (y_move rfl) fun a E => lv E ok (y_move rfl) fun a E => lv E ok (y_slen Try.underlying9 rfl) fun a E => lv E ok (y_lss rfl rfl) fun a E => lv E ok (y_move rfl) fun a E => bsplit (decide (at_1 < (s_0.length : Int))) (fun hc57 => ?_) (fun hc57 => ?_)
      rotate_left
      · replace hF := cond_f hc57 hF
        replace E := E.upd 31 hc57 rfl
        refine ls E fun a E => ls E fun a E => ls E fun a E => ls E fun a E => lv E ok (y_pickF rfl rfl) fun a E => lv E ok (y_assign rfl) fun a E => wn ?_
        refine c_if E rfl (fun h => by cases h) (fun _ => ?_)
        refine sg <| lv E ok (y_build (ps := []) (qs := []) (cs := [(Value.string (bs ([]))), (Value.slice none 0 0), (Value.bool false), (Value.int .i64 0), (Value.int .i64 0)]) zero_74 places_74 rfl trivial rfl) fun a E => l_storeB E ok 1 rfl rfl rfl inf_74 rfl rfl ⟨rfl, rfl, rfl, rfl, rfl, trivial⟩ rfl rfl fun w ok => lv E ok (y_assign rfl) fun a E => wn <| wp_ret ?_
        refine b_ret <| t_ret ?_
        have hret : calqueref44_readItem_R u m0 S ((Item.mk ([]) ([]) false 0 0), (-1)) a w := ⟨m0, [(Value.string (bs ([]))), (Value.slice none 0 0), (Value.bool false), (Value.int .i64 0), (Value.int .i64 0)], le_m0, ok.drop.drop, E.d, ⟨rv_c (cs := [(Value.string (bs ([]))), (Value.slice none 0 0), (Value.bool false), (Value.int .i64 0), (Value.int .i64 0)]) E ok rfl agg_74 rfl (Holds.own 1 rfl rfl), rv_t E rfl, trivial⟩, ⟨_, rfl, (Nat.zero_le _), pL_nil, (show InR .i64 0 by decide), (show InR .i64 0 by decide)⟩, (show InR .i64 (-1) by decide)⟩
        obtain rfl := sj hF
        exact fin _ _ hret
      replace hF := cond_t hc57 hF
      replace E := E.upd 31 hc57 rfl
      refine lv E ok (y_move rfl) fun a E => lv E ok (y_move rfl) fun a E => ?_
      obtain ⟨c58, e59, hF⟩ := bnd hF
      refine lv E ok (y_index Try.underlying9 rfl rfl e59) fun a E => lv E ok (y_eql rfl rfl) fun a E => lv E ok (y_pickT rfl rfl) fun a E => lv E ok (y_assign rfl) fun a E => wn <| c_if E rfl (fun hc60 => ?_) (fun hc60 => ?_)
      rotate_left
      · replace hF := cond_f hc60 hF
        refine sg <| lv E ok (y_build (ps := []) (qs := []) (cs := [(Value.string (bs ([]))), (Value.slice none 0 0), (Value.bool false), (Value.int .i64 0), (Value.int .i64 0)]) zero_74 places_74 rfl trivial rfl) fun a E => l_storeB E ok 1 rfl rfl rfl inf_74 rfl rfl ⟨rfl, rfl, rfl, rfl, rfl, trivial⟩ rfl rfl fun w ok => lv E ok (y_assign rfl) fun a E => wn <| wp_ret ?_
        refine b_ret <| t_ret ?_
        have hret : calqueref44_readItem_R u m0 S ((Item.mk ([]) ([]) false 0 0), (-1)) a w := ⟨m0, [(Value.string (bs ([]))), (Value.slice none 0 0), (Value.bool false), (Value.int .i64 0), (Value.int .i64 0)], le_m0, ok.drop.drop, E.d, ⟨rv_c (cs := [(Value.string (bs ([]))), (Value.slice none 0 0), (Value.bool false), (Value.int .i64 0), (Value.int .i64 0)]) E ok rfl agg_74 rfl (Holds.own 1 rfl rfl), rv_t E rfl, trivial⟩, ⟨_, rfl, (Nat.zero_le _), pL_nil, (show InR .i64 0 by decide), (show InR .i64 0 by decide)⟩, (show InR .i64 (-1) by decide)⟩
        obtain rfl := sj hF
        exact fin _ _ hret
      replace hF := cond_t hc60 hF
      refine c_region <| lv E ok (y_move rfl) fun a E => lv E ok (y_move rfl) fun a E => ?_
      obtain ⟨r61, e62, hF⟩ := bnd hF
      refine l_call E go_74 rfl (calqueref44_readClass_w N s_0 ls_0 at_1 rat_1 e62 hG ok) rfl rfl ?_
      rintro _ w ⟨m63, vs64, rfl, hle, ok, h65, r66⟩
      have le_m0 := le_m0.trans hle
      obtain ⟨c68, rfl, l67, h69, r70, r71⟩ := h65
      refine ⟨_, rfl, fun a E => ?_⟩
      refine lv E ok (y_move rfl) fun a E => lv E ok (y_extract rfl rfl) fun a E => lv E ok (y_extract rfl rfl) fun a E => l_storeB E ok 0 rfl rfl rfl inf_74 rfl rfl ⟨rfl, (pL_one h69), rfl, rfl, rfl, trivial⟩ rfl rfl fun w ok => lv E ok (y_assign rfl) fun a E => wpList_nil <| b_norm <| t_norm ?_
      refine sg <| lv E ok (y_fieldAddr fo_74_3 rfl) fun a E => l_storeB E ok 0 rfl rfl rfl inf_3 rfl rfl ⟨rfl, trivial⟩ rfl rfl fun w ok => lv E ok (y_fieldAddr fo_74_4 rfl) fun a E => l_storeB E ok 0 rfl rfl rfl inf_3 rfl rfl ⟨rfl, trivial⟩ rfl rfl fun w ok => wn ?_
      refine wp_seq <| sg <| lv E ok (y_move rfl) fun a E => lv E ok (y_geq rfl rfl) fun a E => lv E ok (y_move rfl) fun a E => bsplit (decide (r61.2 ≥ 0)) (fun hc72 => ?_) (fun hc72 => ?_)
      rotate_left
      · replace hF := cond_f hc72 hF
        replace E := E.upd 47 hc72 rfl
        refine ls E fun a E => ls E fun a E => ls E fun a E => ls E fun a E => lv E ok (y_pickF rfl rfl) fun a E => wn <| c_if E rfl (fun h => by cases h) (fun _ => ?_)
        refine wp_skip <| t_norm <| sg <| lv E ok (y_loadAgg (cs := [(Value.string (bs r61.1.Text)), c68, (Value.bool r61.1.Not), (Value.int .i64 1), (Value.int .i64 1)]) agg_74 rfl rfl (Holds.own 0 rfl rfl)) fun a E => lv E ok (y_move rfl) fun a E => l_storeB E ok 1 rfl rfl rfl inf_74 rfl rfl ⟨rfl, (pL_one h69), rfl, rfl, rfl, trivial⟩ rfl rfl fun w ok => lv E ok (y_assign rfl) fun a E => ?_
        refine wn <| wp_ret ?_
        have hret : calqueref44_readItem_R u m0 S ((Item.mk r61.1.Text r61.1.Ranges r61.1.Not 1 1), r61.2) a w := ⟨m63, [(Value.string (bs r61.1.Text)), c68, (Value.bool r61.1.Not), (Value.int .i64 1), (Value.int .i64 1)], le_m0, ok.drop.drop, E.d, ⟨rv_c (cs := [(Value.string (bs r61.1.Text)), c68, (Value.bool r61.1.Not), (Value.int .i64 1), (Value.int .i64 1)]) E ok rfl agg_74 rfl (Holds.own 1 rfl rfl), rv_t E rfl, trivial⟩, ⟨_, rfl, l67, h69, (show InR .i64 (1) by decide), (show InR .i64 (1) by decide)⟩, r66⟩
        obtain rfl := sj hF
        exact fin _ _ hret
      replace hF := cond_t hc72 hF
      replace E := E.upd 47 hc72 rfl
      refine lv E ok (y_move rfl) fun a E => lv E ok (y_move rfl) fun a E => lv E ok (y_slen Try.underlying9 rfl) fun a E => lv E ok (y_lss rfl rfl) fun a E => lv E ok (y_pickT rfl rfl) fun a E => wn <| c_if E rfl (fun hc73 => ?_) (fun hc73 => ?_)
      rotate_left
      · replace hF := cond_f hc73 hF
        refine wp_skip <| t_norm <| sg <| lv E ok (y_loadAgg (cs := [(Value.string (bs r61.1.Text)), c68, (Value.bool r61.1.Not), (Value.int .i64 1), (Value.int .i64 1)]) agg_74 rfl rfl (Holds.own 0 rfl rfl)) fun a E => lv E ok (y_move rfl) fun a E => l_storeB E ok 1 rfl rfl rfl inf_74 rfl rfl ⟨rfl, (pL_one h69), rfl, rfl, rfl, trivial⟩ rfl rfl fun w ok => lv E ok (y_assign rfl) fun a E => ?_
        refine wn <| wp_ret ?_
        have hret : calqueref44_readItem_R u m0 S ((Item.mk r61.1.Text r61.1.Ranges r61.1.Not 1 1), r61.2) a w := ⟨m63, [(Value.string (bs r61.1.Text)), c68, (Value.bool r61.1.Not), (Value.int .i64 1), (Value.int .i64 1)], le_m0, ok.drop.drop, E.d, ⟨rv_c (cs := [(Value.string (bs r61.1.Text)), c68, (Value.bool r61.1.Not), (Value.int .i64 1), (Value.int .i64 1)]) E ok rfl agg_74 rfl (Holds.own 1 rfl rfl), rv_t E rfl, trivial⟩, ⟨_, rfl, l67, h69, (show InR .i64 (1) by decide), (show InR .i64 (1) by decide)⟩, r66⟩
        obtain rfl := sj hF
        exact fin _ _ hret
      replace hF := cond_t hc73 hF
      refine sg <| lv E ok (y_move rfl) fun a E => lv E ok (y_move rfl) fun a E => ?_
      obtain ⟨c74, e75, hF⟩ := bnd hF
      refine lv E ok (y_index Try.underlying9 rfl rfl e75) fun a E => wn <| wp_block <| sg <| lv E ok (y_eql rfl rfl) fun a E => lv E ok (y_assign rfl) fun a E => ?_
      refine wn <| c_if E rfl (fun hc76 => ?_) (fun hc76 => ?_)
      · replace hF := cond_t hc76 hF
        refine c_region <| lv E ok (y_move rfl) fun a E => lv E ok (y_add rfl rfl (InR.inc r66 (InR.len ls_0) hc73)) fun a E => lv E ok (y_fieldAddr fo_74_3 rfl) fun a E => l_storeB E ok 0 rfl rfl rfl inf_3 rfl rfl ⟨rfl, trivial⟩ rfl rfl fun w ok => lv E ok (y_assign rfl) fun a E => wpList_nil <| b_norm ?_
        refine t_norm <| sg <| lv E ok (y_loadAgg (cs := [(Value.string (bs r61.1.Text)), c68, (Value.bool r61.1.Not), (Value.int .i64 0), (Value.int .i64 1)]) agg_74 rfl rfl (Holds.own 0 rfl rfl)) fun a E => lv E ok (y_move rfl) fun a E => l_storeB E ok 1 rfl rfl rfl inf_74 rfl rfl ⟨rfl, (pL_one h69), rfl, rfl, rfl, trivial⟩ rfl rfl fun w ok => lv E ok (y_assign rfl) fun a E => wpList_nil ?_
        refine t_norm <| wp_ret ?_
        have hret : calqueref44_readItem_R u m0 S ((Item.mk r61.1.Text r61.1.Ranges r61.1.Not 0 1), (r61.2 + 1)) a w := ⟨m63, [(Value.string (bs r61.1.Text)), c68, (Value.bool r61.1.Not), (Value.int .i64 0), (Value.int .i64 1)], le_m0, ok.drop.drop, E.d, ⟨rv_c (cs := [(Value.string (bs r61.1.Text)), c68, (Value.bool r61.1.Not), (Value.int .i64 0), (Value.int .i64 1)]) E ok rfl agg_74 rfl (Holds.own 1 rfl rfl), rv_t E rfl, trivial⟩, ⟨_, rfl, l67, h69, (show InR .i64 (0) by decide), (show InR .i64 (1) by decide)⟩, (InR.inc r66 (InR.len ls_0) hc73)⟩
        obtain rfl := sj hF
        exact fin _ _ hret
      replace hF := cond_f hc76 hF
      refine sg <| lv E ok (y_eql rfl rfl) fun a E => lv E ok (y_assign rfl) fun a E => wn <| c_if E rfl (fun hc77 => ?_) (fun hc77 => ?_)
      · replace hF := cond_t hc77 hF
        refine c_region <| lv E ok (y_move rfl) fun a E => lv E ok (y_add rfl rfl (InR.inc r66 (InR.len ls_0) hc73)) fun a E => lv E ok (y_fieldAddr fo_74_3 rfl) fun a E => l_storeB E ok 0 rfl rfl rfl inf_3 rfl rfl ⟨rfl, trivial⟩ rfl rfl fun w ok => lv E ok (y_fieldAddr fo_74_4 rfl) fun a E => l_storeB E ok 0 rfl rfl rfl inf_3 rfl rfl ⟨rfl, trivial⟩ rfl rfl fun w ok => lv E ok (y_assign rfl) fun a E => ?_
        refine wpList_nil <| b_norm <| t_norm <| sg <| lv E ok (y_loadAgg (cs := [(Value.string (bs r61.1.Text)), c68, (Value.bool r61.1.Not), (Value.int .i64 0), (Value.int .i64 (-1))]) agg_74 rfl rfl (Holds.own 0 rfl rfl)) fun a E => lv E ok (y_move rfl) fun a E => l_storeB E ok 1 rfl rfl rfl inf_74 rfl rfl ⟨rfl, (pL_one h69), rfl, rfl, rfl, trivial⟩ rfl rfl fun w ok => ?_
        refine lv E ok (y_assign rfl) fun a E => wn <| wp_ret ?_
        have hret : calqueref44_readItem_R u m0 S ((Item.mk r61.1.Text r61.1.Ranges r61.1.Not 0 (-1)), (r61.2 + 1)) a w := ⟨m63, [(Value.string (bs r61.1.Text)), c68, (Value.bool r61.1.Not), (Value.int .i64 0), (Value.int .i64 (-1))], le_m0, ok.drop.drop, E.d, ⟨rv_c (cs := [(Value.string (bs r61.1.Text)), c68, (Value.bool r61.1.Not), (Value.int .i64 0), (Value.int .i64 (-1))]) E ok rfl agg_74 rfl (Holds.own 1 rfl rfl), rv_t E rfl, trivial⟩, ⟨_, rfl, l67, h69, (show InR .i64 (0) by decide), (show InR .i64 (-1) by decide)⟩, (InR.inc r66 (InR.len ls_0) hc73)⟩
        obtain rfl := sj hF
        exact fin _ _ hret
      replace hF := cond_f hc77 hF
      refine sg <| lv E ok (y_eql rfl rfl) fun a E => lv E ok (y_assign rfl) fun a E => wn <| c_if E rfl (fun hc78 => ?_) (fun hc78 => ?_)
      rotate_left
      · replace hF := cond_f hc78 hF
        refine wp_skip <| b_norm <| t_norm <| sg <| lv E ok (y_loadAgg (cs := [(Value.string (bs r61.1.Text)), c68, (Value.bool r61.1.Not), (Value.int .i64 1), (Value.int .i64 1)]) agg_74 rfl rfl (Holds.own 0 rfl rfl)) fun a E => lv E ok (y_move rfl) fun a E => l_storeB E ok 1 rfl rfl rfl inf_74 rfl rfl ⟨rfl, (pL_one h69), rfl, rfl, rfl, trivial⟩ rfl rfl fun w ok => ?_
        refine lv E ok (y_assign rfl) fun a E => wn <| wp_ret ?_
        have hret : calqueref44_readItem_R u m0 S ((Item.mk r61.1.Text r61.1.Ranges r61.1.Not 1 1), r61.2) a w := ⟨m63, [(Value.string (bs r61.1.Text)), c68, (Value.bool r61.1.Not), (Value.int .i64 1), (Value.int .i64 1)], le_m0, ok.drop.drop, E.d, ⟨rv_c (cs := [(Value.string (bs r61.1.Text)), c68, (Value.bool r61.1.Not), (Value.int .i64 1), (Value.int .i64 1)]) E ok rfl agg_74 rfl (Holds.own 1 rfl rfl), rv_t E rfl, trivial⟩, ⟨_, rfl, l67, h69, (show InR .i64 (1) by decide), (show InR .i64 (1) by decide)⟩, r66⟩
        obtain rfl := sj hF
        exact fin _ _ hret
      replace hF := cond_t hc78 hF
      refine c_region <| lv E ok (y_move rfl) fun a E => lv E ok (y_add rfl rfl (InR.inc r66 (InR.len ls_0) hc73)) fun a E => lv E ok (y_fieldAddr fo_74_4 rfl) fun a E => l_storeB E ok 0 rfl rfl rfl inf_3 rfl rfl ⟨rfl, trivial⟩ rfl rfl fun w ok => lv E ok (y_assign rfl) fun a E => wpList_nil <| b_norm ?_
      refine t_norm <| sg <| lv E ok (y_loadAgg (cs := [(Value.string (bs r61.1.Text)), c68, (Value.bool r61.1.Not), (Value.int .i64 1), (Value.int .i64 (-1))]) agg_74 rfl rfl (Holds.own 0 rfl rfl)) fun a E => lv E ok (y_move rfl) fun a E => l_storeB E ok 1 rfl rfl rfl inf_74 rfl rfl ⟨rfl, (pL_one h69), rfl, rfl, rfl, trivial⟩ rfl rfl fun w ok => lv E ok (y_assign rfl) fun a E => wpList_nil ?_
      refine t_norm <| wp_ret ?_
      have hret : calqueref44_readItem_R u m0 S ((Item.mk r61.1.Text r61.1.Ranges r61.1.Not 1 (-1)), (r61.2 + 1)) a w := ⟨m63, [(Value.string (bs r61.1.Text)), c68, (Value.bool r61.1.Not), (Value.int .i64 1), (Value.int .i64 (-1))], le_m0, ok.drop.drop, E.d, ⟨rv_c (cs := [(Value.string (bs r61.1.Text)), c68, (Value.bool r61.1.Not), (Value.int .i64 1), (Value.int .i64 (-1))]) E ok rfl agg_74 rfl (Holds.own 1 rfl rfl), rv_t E rfl, trivial⟩, ⟨_, rfl, l67, h69, (show InR .i64 (1) by decide), (show InR .i64 (-1) by decide)⟩, (InR.inc r66 (InR.len ls_0) hc73)⟩
      obtain rfl := sj hF
      exact fin _ _ hret
  replace hF := cond_t hc3 hF
  replace E := E.upd 14 hc3 rfl
  refine lv E ok (y_move rfl) fun a E => lv E ok (y_move rfl) fun a E => ?_
  obtain ⟨c4, e5, hF⟩ := bnd hF
  refine lv E ok (y_index Try.underlying9 rfl rfl e5) fun a E => lv E ok (y_eql rfl rfl) fun a E => lv E ok (y_pickT rfl rfl) fun a E => lv E ok (y_assign rfl) fun a E => wn ?_
  obtain ⟨o6, hJ, hF⟩ := bnd hF
  refine c_mono (Q' := fun e a w => (Sum.elim (fun b7 => e = .normal ∧ ∃ m8 c11, m0.le m8 ∧ Ok u m8 ([(b2, Obj.cells [(Value.string (bs b7.2.Text)), c11, (Value.bool b7.2.Not), (Value.int .i64 b7.2.Least), (Value.int .i64 b7.2.Most)].toArray 74 (0, 0))] :: [(b1, Obj.cells [(Value.string (bs ([]))), (Value.slice none 0 0), (Value.bool false), (Value.int .i64 0), (Value.int .i64 0)].toArray 74 (0, 0))] :: S) w ∧ Env 74 a [(0, (Value.string (bs s_0))), (1, (Value.int .i64 b7.1)), (4, (Value.pointer (some ⟨b1, 0, none⟩))), (6, (Value.pointer (some ⟨b2, 0, none⟩)))] ∧ InR .i64 b7.1 ∧ b7.2.Text.length ≤ LIMS ∧ (pL 2 pRange) m8 [c11] b7.2.Ranges ∧ InR .i64 b7.2.Least ∧ InR .i64 b7.2.Most) (fun b15 => e = .ret ∧ calqueref44_readItem_R u m0 S b15 a w)) o6) ?_ ?_
  · as_aux_lemma =>
      replace hF := hJ
      clear hJ
      refine c_if E rfl (fun hc16 => ?_) (fun hc16 => ?_)
      · replace hF := cond_t hc16 hF
        refine c_region <| lv E ok (y_move rfl) fun a E => lv E ok (y_move rfl) fun a E => ?_
        obtain ⟨r17, e18, hF⟩ := bnd hF
        refine l_call E go_73 rfl (calqueref44_readText_w N s_0 ls_0 at_1 rat_1 e18 hG ok) rfl rfl ?_
        rintro _ w ⟨m19, vs20, rfl, hle, ok, h21, r22⟩
        have le_m0 := le_m0.trans hle
        obtain ⟨c24, rfl, l23, h25, r26, r27⟩ := h21
        refine ⟨_, rfl, fun a E => ?_⟩
        refine lv E ok (y_move rfl) fun a E => lv E ok (y_extract rfl rfl) fun a E => lv E ok (y_extract rfl rfl) fun a E => l_storeB E ok 0 rfl rfl rfl inf_74 rfl rfl ⟨rfl, (pL_one h25), rfl, rfl, rfl, trivial⟩ rfl rfl fun w ok => lv E ok (y_assign rfl) fun a E => wpList_nil ?_
        obtain rfl := sj hF
        exact (sl ⟨rfl, ⟨m19, c24, le_m0, ok, E.keep [0, 1, 4, 6], r22, l23, h25, r26, r27⟩⟩)
      replace hF := cond_f hc16 hF
      refine sg <| lv E ok (y_move rfl) fun a E => lv E ok (y_move rfl) fun a E => lv E ok (y_slen Try.underlying9 rfl) fun a E => lv E ok (y_lss rfl rfl) fun a E => lv E ok (y_move rfl) fun a E => bsplit (decide (at_1 < (s_0.length : Int))) (fun hc28 => ?_) (fun hc28 => ?_)
      rotate_left
      · replace hF := cond_f hc28 hF
        replace E := E.upd 31 hc28 rfl
        refine ls E fun a E => ls E fun a E => ls E fun a E => ls E fun a E => lv E ok (y_pickF rfl rfl) fun a E => lv E ok (y_assign rfl) fun a E => wn ?_
        refine c_if E rfl (fun h => by cases h) (fun _ => ?_)
        refine sg <| lv E ok (y_build (ps := []) (qs := []) (cs := [(Value.string (bs ([]))), (Value.slice none 0 0), (Value.bool false), (Value.int .i64 0), (Value.int .i64 0)]) zero_74 places_74 rfl trivial rfl) fun a E => l_storeB E ok 1 rfl rfl rfl inf_74 rfl rfl ⟨rfl, rfl, rfl, rfl, rfl, trivial⟩ rfl rfl fun w ok => lv E ok (y_assign rfl) fun a E => wn <| wp_ret ?_
        have hret : calqueref44_readItem_R u m0 S ((Item.mk ([]) ([]) false 0 0), (-1)) a w := ⟨m0, [(Value.string (bs ([]))), (Value.slice none 0 0), (Value.bool false), (Value.int .i64 0), (Value.int .i64 0)], le_m0, ok.drop.drop, E.d, ⟨rv_c (cs := [(Value.string (bs ([]))), (Value.slice none 0 0), (Value.bool false), (Value.int .i64 0), (Value.int .i64 0)]) E ok rfl agg_74 rfl (Holds.own 1 rfl rfl), rv_t E rfl, trivial⟩, ⟨_, rfl, (Nat.zero_le _), pL_nil, (show InR .i64 0 by decide), (show InR .i64 0 by decide)⟩, (show InR .i64 (-1) by decide)⟩
        obtain rfl := sj hF
        exact (sr ⟨rfl, hret⟩)
      replace hF := cond_t hc28 hF
      replace E := E.upd 31 hc28 rfl
      refine lv E ok (y_move rfl) fun a E => lv E ok (y_move rfl) fun a E => ?_
      obtain ⟨c29, e30, hF⟩ := bnd hF
      refine lv E ok (y_index Try.underlying9 rfl rfl e30) fun a E => lv E ok (y_eql rfl rfl) fun a E => lv E ok (y_pickT rfl rfl) fun a E => lv E ok (y_assign rfl) fun a E => wn <| c_if E rfl (fun hc31 => ?_) (fun hc31 => ?_)
      rotate_left
      · replace hF := cond_f hc31 hF
        refine sg <| lv E ok (y_build (ps := []) (qs := []) (cs := [(Value.string (bs ([]))), (Value.slice none 0 0), (Value.bool false), (Value.int .i64 0), (Value.int .i64 0)]) zero_74 places_74 rfl trivial rfl) fun a E => l_storeB E ok 1 rfl rfl rfl inf_74 rfl rfl ⟨rfl, rfl, rfl, rfl, rfl, trivial⟩ rfl rfl fun w ok => lv E ok (y_assign rfl) fun a E => wn <| wp_ret ?_
        have hret : calqueref44_readItem_R u m0 S ((Item.mk ([]) ([]) false 0 0), (-1)) a w := ⟨m0, [(Value.string (bs ([]))), (Value.slice none 0 0), (Value.bool false), (Value.int .i64 0), (Value.int .i64 0)], le_m0, ok.drop.drop, E.d, ⟨rv_c (cs := [(Value.string (bs ([]))), (Value.slice none 0 0), (Value.bool false), (Value.int .i64 0), (Value.int .i64 0)]) E ok rfl agg_74 rfl (Holds.own 1 rfl rfl), rv_t E rfl, trivial⟩, ⟨_, rfl, (Nat.zero_le _), pL_nil, (show InR .i64 0 by decide), (show InR .i64 0 by decide)⟩, (show InR .i64 (-1) by decide)⟩
        obtain rfl := sj hF
        exact (sr ⟨rfl, hret⟩)
      replace hF := cond_t hc31 hF
      refine c_region <| lv E ok (y_move rfl) fun a E => lv E ok (y_move rfl) fun a E => ?_
      obtain ⟨r32, e33, hF⟩ := bnd hF
      refine l_call E go_74 rfl (calqueref44_readClass_w N s_0 ls_0 at_1 rat_1 e33 hG ok) rfl rfl ?_
      rintro _ w ⟨m34, vs35, rfl, hle, ok, h36, r37⟩
      have le_m0 := le_m0.trans hle
      obtain ⟨c39, rfl, l38, h40, r41, r42⟩ := h36
      refine ⟨_, rfl, fun a E => ?_⟩
      refine lv E ok (y_move rfl) fun a E => lv E ok (y_extract rfl rfl) fun a E => lv E ok (y_extract rfl rfl) fun a E => l_storeB E ok 0 rfl rfl rfl inf_74 rfl rfl ⟨rfl, (pL_one h40), rfl, rfl, rfl, trivial⟩ rfl rfl fun w ok => lv E ok (y_assign rfl) fun a E => wpList_nil ?_
      obtain rfl := sj hF
      exact (sl ⟨rfl, ⟨m34, c39, le_m0, ok, E.keep [0, 1, 4, 6], r37, l38, h40, r41, r42⟩⟩)
  clear hJ
  intro e a w hO
  rcases o6 with o6 | o6
  rotate_left
  · replace hF := elim_r hF
    obtain ⟨rfl, hret⟩ := hO
    refine b_ret <| t_ret ?_
    obtain rfl := sj hF
    exact fin _ _ hret
  replace hF := elim_l hF
  obtain ⟨rfl, m43, c46, hle, ok, E, r44, l45, h47, r48, r49⟩ := hO
  have le_m0 := le_m0.trans hle
  refine b_norm <| t_norm <| sg <| lv E ok (y_fieldAddr fo_74_3 rfl) fun a E => l_storeB E ok 0 rfl rfl rfl inf_3 rfl rfl ⟨rfl, trivial⟩ rfl rfl fun w ok => lv E ok (y_fieldAddr fo_74_4 rfl) fun a E => l_storeB E ok 0 rfl rfl rfl inf_3 rfl rfl ⟨rfl, trivial⟩ rfl rfl fun w ok => ?_
  refine wn <| wp_seq <| sg <| lv E ok (y_move rfl) fun a E => lv E ok (y_geq rfl rfl) fun a E => lv E ok (y_move rfl) fun a E => ?_
  refine bsplit (decide (o6.1 ≥ 0)) (fun hc50 => ?_) (fun hc50 => ?_)
  rotate_left
  · replace hF := cond_f hc50 hF
    replace E := E.upd 47 hc50 rfl
    refine ls E fun a E => ls E fun a E => ls E fun a E => ls E fun a E => lv E ok (y_pickF rfl rfl) fun a E => wn <| c_if E rfl (fun h => by cases h) (fun _ => ?_)
    refine wp_skip <| t_norm <| sg <| lv E ok (y_loadAgg (cs := [(Value.string (bs o6.2.Text)), c46, (Value.bool o6.2.Not), (Value.int .i64 1), (Value.int .i64 1)]) agg_74 rfl rfl (Holds.own 0 rfl rfl)) fun a E => lv E ok (y_move rfl) fun a E => l_storeB E ok 1 rfl rfl rfl inf_74 rfl rfl ⟨rfl, (pL_one h47), rfl, rfl, rfl, trivial⟩ rfl rfl fun w ok => lv E ok (y_assign rfl) fun a E => ?_
    refine wn <| wp_ret ?_
    have hret : calqueref44_readItem_R u m0 S ((Item.mk o6.2.Text o6.2.Ranges o6.2.Not 1 1), o6.1) a w := ⟨m43, [(Value.string (bs o6.2.Text)), c46, (Value.bool o6.2.Not), (Value.int .i64 1), (Value.int .i64 1)], le_m0, ok.drop.drop, E.d, ⟨rv_c (cs := [(Value.string (bs o6.2.Text)), c46, (Value.bool o6.2.Not), (Value.int .i64 1), (Value.int .i64 1)]) E ok rfl agg_74 rfl (Holds.own 1 rfl rfl), rv_t E rfl, trivial⟩, ⟨_, rfl, l45, h47, (show InR .i64 (1) by decide), (show InR .i64 (1) by decide)⟩, r44⟩
    obtain rfl := sj hF
    exact fin _ _ hret
  replace hF := cond_t hc50 hF
  replace E := E.upd 47 hc50 rfl
  refine lv E ok (y_move rfl) fun a E => lv E ok (y_move rfl) fun a E => lv E ok (y_slen Try.underlying9 rfl) fun a E => lv E ok (y_lss rfl rfl) fun a E => lv E ok (y_pickT rfl rfl) fun a E => wn <| c_if E rfl (fun hc51 => ?_) (fun hc51 => ?_)
  rotate_left
  · replace hF := cond_f hc51 hF
    refine wp_skip <| t_norm <| sg <| lv E ok (y_loadAgg (cs := [(Value.string (bs o6.2.Text)), c46, (Value.bool o6.2.Not), (Value.int .i64 1), (Value.int .i64 1)]) agg_74 rfl rfl (Holds.own 0 rfl rfl)) fun a E => lv E ok (y_move rfl) fun a E => l_storeB E ok 1 rfl rfl rfl inf_74 rfl rfl ⟨rfl, (pL_one h47), rfl, rfl, rfl, trivial⟩ rfl rfl fun w ok => lv E ok (y_assign rfl) fun a E => ?_
    refine wn <| wp_ret ?_
    have hret : calqueref44_readItem_R u m0 S ((Item.mk o6.2.Text o6.2.Ranges o6.2.Not 1 1), o6.1) a w := ⟨m43, [(Value.string (bs o6.2.Text)), c46, (Value.bool o6.2.Not), (Value.int .i64 1), (Value.int .i64 1)], le_m0, ok.drop.drop, E.d, ⟨rv_c (cs := [(Value.string (bs o6.2.Text)), c46, (Value.bool o6.2.Not), (Value.int .i64 1), (Value.int .i64 1)]) E ok rfl agg_74 rfl (Holds.own 1 rfl rfl), rv_t E rfl, trivial⟩, ⟨_, rfl, l45, h47, (show InR .i64 (1) by decide), (show InR .i64 (1) by decide)⟩, r44⟩
    obtain rfl := sj hF
    exact fin _ _ hret
  replace hF := cond_t hc51 hF
  refine sg <| lv E ok (y_move rfl) fun a E => lv E ok (y_move rfl) fun a E => ?_
  obtain ⟨c52, e53, hF⟩ := bnd hF
  refine lv E ok (y_index Try.underlying9 rfl rfl e53) fun a E => wn <| wp_block <| sg <| lv E ok (y_eql rfl rfl) fun a E => lv E ok (y_assign rfl) fun a E => ?_
  refine wn <| c_if E rfl (fun hc54 => ?_) (fun hc54 => ?_)
  · replace hF := cond_t hc54 hF
    refine c_region <| lv E ok (y_move rfl) fun a E => lv E ok (y_add rfl rfl (InR.inc r44 (InR.len ls_0) hc51)) fun a E => lv E ok (y_fieldAddr fo_74_3 rfl) fun a E => l_storeB E ok 0 rfl rfl rfl inf_3 rfl rfl ⟨rfl, trivial⟩ rfl rfl fun w ok => lv E ok (y_assign rfl) fun a E => wpList_nil <| b_norm ?_
    refine t_norm <| sg <| lv E ok (y_loadAgg (cs := [(Value.string (bs o6.2.Text)), c46, (Value.bool o6.2.Not), (Value.int .i64 0), (Value.int .i64 1)]) agg_74 rfl rfl (Holds.own 0 rfl rfl)) fun a E => lv E ok (y_move rfl) fun a E => l_storeB E ok 1 rfl rfl rfl inf_74 rfl rfl ⟨rfl, (pL_one h47), rfl, rfl, rfl, trivial⟩ rfl rfl fun w ok => lv E ok (y_assign rfl) fun a E => wpList_nil ?_
    refine t_norm <| wp_ret ?_
    have hret : calqueref44_readItem_R u m0 S ((Item.mk o6.2.Text o6.2.Ranges o6.2.Not 0 1), (o6.1 + 1)) a w := ⟨m43, [(Value.string (bs o6.2.Text)), c46, (Value.bool o6.2.Not), (Value.int .i64 0), (Value.int .i64 1)], le_m0, ok.drop.drop, E.d, ⟨rv_c (cs := [(Value.string (bs o6.2.Text)), c46, (Value.bool o6.2.Not), (Value.int .i64 0), (Value.int .i64 1)]) E ok rfl agg_74 rfl (Holds.own 1 rfl rfl), rv_t E rfl, trivial⟩, ⟨_, rfl, l45, h47, (show InR .i64 (0) by decide), (show InR .i64 (1) by decide)⟩, (InR.inc r44 (InR.len ls_0) hc51)⟩
    obtain rfl := sj hF
    exact fin _ _ hret
  replace hF := cond_f hc54 hF
  refine sg <| lv E ok (y_eql rfl rfl) fun a E => lv E ok (y_assign rfl) fun a E => wn <| c_if E rfl (fun hc55 => ?_) (fun hc55 => ?_)
  · replace hF := cond_t hc55 hF
    refine c_region <| lv E ok (y_move rfl) fun a E => lv E ok (y_add rfl rfl (InR.inc r44 (InR.len ls_0) hc51)) fun a E => lv E ok (y_fieldAddr fo_74_3 rfl) fun a E => l_storeB E ok 0 rfl rfl rfl inf_3 rfl rfl ⟨rfl, trivial⟩ rfl rfl fun w ok => lv E ok (y_fieldAddr fo_74_4 rfl) fun a E => l_storeB E ok 0 rfl rfl rfl inf_3 rfl rfl ⟨rfl, trivial⟩ rfl rfl fun w ok => lv E ok (y_assign rfl) fun a E => ?_
    refine wpList_nil <| b_norm <| t_norm <| sg <| lv E ok (y_loadAgg (cs := [(Value.string (bs o6.2.Text)), c46, (Value.bool o6.2.Not), (Value.int .i64 0), (Value.int .i64 (-1))]) agg_74 rfl rfl (Holds.own 0 rfl rfl)) fun a E => lv E ok (y_move rfl) fun a E => l_storeB E ok 1 rfl rfl rfl inf_74 rfl rfl ⟨rfl, (pL_one h47), rfl, rfl, rfl, trivial⟩ rfl rfl fun w ok => ?_
    refine lv E ok (y_assign rfl) fun a E => wn <| wp_ret ?_
    have hret : calqueref44_readItem_R u m0 S ((Item.mk o6.2.Text o6.2.Ranges o6.2.Not 0 (-1)), (o6.1 + 1)) a w := ⟨m43, [(Value.string (bs o6.2.Text)), c46, (Value.bool o6.2.Not), (Value.int .i64 0), (Value.int .i64 (-1))], le_m0, ok.drop.drop, E.d, ⟨rv_c (cs := [(Value.string (bs o6.2.Text)), c46, (Value.bool o6.2.Not), (Value.int .i64 0), (Value.int .i64 (-1))]) E ok rfl agg_74 rfl (Holds.own 1 rfl rfl), rv_t E rfl, trivial⟩, ⟨_, rfl, l45, h47, (show InR .i64 (0) by decide), (show InR .i64 (-1) by decide)⟩, (InR.inc r44 (InR.len ls_0) hc51)⟩
    obtain rfl := sj hF
    exact fin _ _ hret
  replace hF := cond_f hc55 hF
  refine sg <| lv E ok (y_eql rfl rfl) fun a E => lv E ok (y_assign rfl) fun a E => wn <| c_if E rfl (fun hc56 => ?_) (fun hc56 => ?_)
  rotate_left
  · replace hF := cond_f hc56 hF
    refine wp_skip <| b_norm <| t_norm <| sg <| lv E ok (y_loadAgg (cs := [(Value.string (bs o6.2.Text)), c46, (Value.bool o6.2.Not), (Value.int .i64 1), (Value.int .i64 1)]) agg_74 rfl rfl (Holds.own 0 rfl rfl)) fun a E => lv E ok (y_move rfl) fun a E => l_storeB E ok 1 rfl rfl rfl inf_74 rfl rfl ⟨rfl, (pL_one h47), rfl, rfl, rfl, trivial⟩ rfl rfl fun w ok => ?_
    refine lv E ok (y_assign rfl) fun a E => wn <| wp_ret ?_
    have hret : calqueref44_readItem_R u m0 S ((Item.mk o6.2.Text o6.2.Ranges o6.2.Not 1 1), o6.1) a w := ⟨m43, [(Value.string (bs o6.2.Text)), c46, (Value.bool o6.2.Not), (Value.int .i64 1), (Value.int .i64 1)], le_m0, ok.drop.drop, E.d, ⟨rv_c (cs := [(Value.string (bs o6.2.Text)), c46, (Value.bool o6.2.Not), (Value.int .i64 1), (Value.int .i64 1)]) E ok rfl agg_74 rfl (Holds.own 1 rfl rfl), rv_t E rfl, trivial⟩, ⟨_, rfl, l45, h47, (show InR .i64 (1) by decide), (show InR .i64 (1) by decide)⟩, r44⟩
    obtain rfl := sj hF
    exact fin _ _ hret
  replace hF := cond_t hc56 hF
  refine c_region <| lv E ok (y_move rfl) fun a E => lv E ok (y_add rfl rfl (InR.inc r44 (InR.len ls_0) hc51)) fun a E => lv E ok (y_fieldAddr fo_74_4 rfl) fun a E => l_storeB E ok 0 rfl rfl rfl inf_3 rfl rfl ⟨rfl, trivial⟩ rfl rfl fun w ok => lv E ok (y_assign rfl) fun a E => wpList_nil <| b_norm ?_
  refine t_norm <| sg <| lv E ok (y_loadAgg (cs := [(Value.string (bs o6.2.Text)), c46, (Value.bool o6.2.Not), (Value.int .i64 1), (Value.int .i64 (-1))]) agg_74 rfl rfl (Holds.own 0 rfl rfl)) fun a E => lv E ok (y_move rfl) fun a E => l_storeB E ok 1 rfl rfl rfl inf_74 rfl rfl ⟨rfl, (pL_one h47), rfl, rfl, rfl, trivial⟩ rfl rfl fun w ok => lv E ok (y_assign rfl) fun a E => wpList_nil ?_
  refine t_norm <| wp_ret ?_
  have hret : calqueref44_readItem_R u m0 S ((Item.mk o6.2.Text o6.2.Ranges o6.2.Not 1 (-1)), (o6.1 + 1)) a w := ⟨m43, [(Value.string (bs o6.2.Text)), c46, (Value.bool o6.2.Not), (Value.int .i64 1), (Value.int .i64 (-1))], le_m0, ok.drop.drop, E.d, ⟨rv_c (cs := [(Value.string (bs o6.2.Text)), c46, (Value.bool o6.2.Not), (Value.int .i64 1), (Value.int .i64 (-1))]) E ok rfl agg_74 rfl (Holds.own 1 rfl rfl), rv_t E rfl, trivial⟩, ⟨_, rfl, l45, h47, (show InR .i64 (1) by decide), (show InR .i64 (-1) by decide)⟩, (InR.inc r44 (InR.len ls_0) hc51)⟩
  obtain rfl := sj hF
  exact fin _ _ hret
def calqueref44_readRule_R (u : World) (m0 : Mem) (S : Segs) (r : Rule × Bool) (a : Act) (w : World) : Prop :=
  ∃ m1 v0, m0.le m1 ∧ Ok u m1 S w ∧ a.defers = [] ∧ RVs Try.prog a w [.c 2 51 (.agg v0.toArray), .t 3 (.bool r.2)] ∧ pRule m1 v0 r.1
set_option maxHeartbeats 4000000 in
set_option maxRecDepth 100000 in
theorem calqueref44_readRule_w {u : World} {m0 : Mem} {S : Segs} {w : World} (N : Nat) (s_0 : List UInt8) (ls_0 : s_0.length ≤ LIMS) {r : Rule × Bool} (hF : calqueref44_readRule N s_0 = some r) (hG : Glob u) (ok : Ok u m0 S w) :
    Calls Try.prog 40 [Value.string (bs s_0)].toArray w fun e w' => ∃ m1 v0, e = .returned (.tuple [(.agg v0.toArray), (.bool r.2)].toArray) ∧ m0.le m1 ∧ Ok u m1 S w' ∧ pRule m1 v0 r.1 := by
  have le_m0 := Mem.le.refl m0
  unfold calqueref44_readRule at hF
  have fin : ∀ a w, calqueref44_readRule_R u m0 S r a w → bodyPost Try.prog Try.f40 (fun e w' => ∃ m1 v0, e = .returned (.tuple [(.agg v0.toArray), (.bool r.2)].toArray) ∧ m0.le m1 ∧ Ok u m1 S w' ∧ pRule m1 v0 r.1) .ret a w := by
    intro a w h
    obtain ⟨m1, v0, hle, ok, hd, hrv, h0⟩ := h
    exact c_ret2 [.c 2 51 (.agg v0.toArray), .t 3 (.bool r.2)] hd rfl hrv ⟨m1, v0, rfl, hle, ok, h0⟩
  refine enter Try.func40 rfl rfl rfl fun a E => sg <| l_alloc E ok zero_51 rfl rfl fun b1 a w E ok => lv E ok (y_assign rfl) fun a E => wn <| wp_seq ?_
  refine c_region <| lv E ok (y_assign rfl) fun a E => wn <| wp_seq <| wp_block ?_
  obtain ⟨o3, hL, hF⟩ := bnd hF
  refine c_loop _ (fun (s : Int) a w => Ok u m0 ([(b1, Obj.cells [(Value.string (bs ([]))), (Value.slice none 0 0), (Value.string (bs ([])))].toArray 51 (0, 0))] :: S) w ∧ Env 88 a [(0, (Value.string (bs s_0))), (2, (Value.pointer (some ⟨b1, 0, none⟩))), (4, (Value.int .i64 s))] ∧ InR .i64 s) (fun (b : Int) e a w => e = (.exit 0) ∧ Ok u m0 ([(b1, Obj.cells [(Value.string (bs ([]))), (Value.slice none 0 0), (Value.string (bs ([])))].toArray 51 (0, 0))] :: S) w ∧ Env 88 a [(0, (Value.string (bs s_0))), (2, (Value.pointer (some ⟨b1, 0, none⟩))), (4, (Value.int .i64 b))] ∧ InR .i64 b) ?_ ?_ N _ a w hL ⟨ok, E.keep [0, 2, 4], (show InR .i64 (0) by decide)⟩
  · rintro at_5 a w r ⟨ok, E, r6⟩ hF
    replace hF : calqueref44_readRule_b1 N s_0 at_5 = some r := hF
    unfold calqueref44_readRule_b1 at hF
    refine wp_seq <| sg <| lv E ok (y_move rfl) fun a E => lv E ok (y_move rfl) fun a E => lv E ok (y_slen Try.underlying9 rfl) fun a E => lv E ok (y_lss rfl rfl) fun a E => lv E ok (y_move rfl) fun a E => ?_
    refine bsplit (decide (at_5 < (s_0.length : Int))) (fun hc7 => ?_) (fun hc7 => ?_)
    rotate_left
    · replace hF := cond_f hc7 hF
      replace E := E.upd 12 hc7 rfl
      refine ls E fun a E => ls E fun a E => ls E fun a E => ls E fun a E => lv E ok (y_pickF rfl rfl) fun a E => wn <| c_if E rfl (fun h => by cases h) (fun _ => ?_)
      refine wp_exit <| t_exit ?_
      obtain rfl := sj hF
      exact step_o (by nofun) (⟨rfl, ⟨ok, E.keep [0, 2, 4], r6⟩⟩)
    replace hF := cond_t hc7 hF
    replace E := E.upd 12 hc7 rfl
    refine lv E ok (y_move rfl) fun a E => lv E ok (y_move rfl) fun a E => ?_
    obtain ⟨c8, e9, hF⟩ := bnd hF
    refine lv E ok (y_index Try.underlying9 rfl rfl e9) fun a E => lv E ok (y_neq rfl rfl) fun a E => lv E ok (y_pickT rfl rfl) fun a E => wn <| c_if E rfl (fun hc10 => ?_) (fun hc10 => ?_)
    rotate_left
    · replace hF := cond_f hc10 hF
      refine wp_exit <| t_exit ?_
      obtain rfl := sj hF
      exact step_o (by nofun) (⟨rfl, ⟨ok, E.keep [0, 2, 4], r6⟩⟩)
    replace hF := cond_t hc10 hF
    refine wp_skip <| t_norm <| wp_block <| c_region <| lv E ok (y_move rfl) fun a E => lv E ok (y_add rfl rfl (InR.inc r6 (InR.len ls_0) hc7)) fun a E => lv E ok (y_assign rfl) fun a E => wpList_nil ?_
    refine b_norm ?_
    obtain rfl := sj hF
    exact step_n ⟨ok, E.keep [0, 2, 4], (InR.inc r6 (InR.len ls_0) hc7)⟩
  intro e a w _ hO
  obtain ⟨rfl, ok, E, r11⟩ := hO
  refine b_hit <| t_norm <| sg <| lv E ok (y_move rfl) fun a E => lv E ok (y_move rfl) fun a E => ?_
  obtain ⟨s12, e13, hF⟩ := bnd hF
  refine lv E ok (y_sslice Try.underlying9 e13 rfl rfl ⟨_, rfl⟩) fun a E => lv E ok (y_build (ps := [(0, .tmp 22)]) (qs := [(0, [(Value.string (bs s12))])]) (cs := [(Value.string (bs s12)), (Value.slice none 0 0), (Value.string (bs ([])))]) zero_51 places_51 rfl ⟨rfl, rfl, rfl, trivial⟩ rfl) fun a E => l_alloc E ok zero_51 rfl rfl fun b14 a w E ok => l_storeB E ok 0 rfl rfl rfl inf_51 rfl rfl ⟨rfl, rfl, rfl, trivial⟩ rfl rfl fun w ok => wn <| wp_seq <| wp_block ?_
  obtain ⟨M25, ok, h26⟩ := nilrow (e := 74) (k := 5) (R := pItem) ok
  obtain ⟨o27, hL, hF⟩ := bnd hF
  refine c_loop _ (fun (s : Int × Rule) a w => ∃ m28 c31 M32, m0.le m28 ∧ Ok u m28 (M32 :: [(b14, Obj.cells [(Value.string (bs s.2.Kind)), c31, (Value.string (bs s.2.Next))].toArray 51 (0, 0))] :: [(b1, Obj.cells [(Value.string (bs ([]))), (Value.slice none 0 0), (Value.string (bs ([])))].toArray 51 (0, 0))] :: S) w ∧ Env 88 a [(0, (Value.string (bs s_0))), (2, (Value.pointer (some ⟨b1, 0, none⟩))), (4, (Value.int .i64 s.1)), (5, (Value.pointer (some ⟨b14, 0, none⟩)))] ∧ InR .i64 s.1 ∧ s.2.Kind.length ≤ LIMS ∧ ORow 74 5 pItem m28 c31 s.2.Items M32 ∧ s.2.Next.length ≤ LIMS) (fun (b : ((Rule × Int) ⊕ (Rule × Bool))) e a w => (Sum.elim (fun b142 => e = (.exit 2) ∧ ∃ m143 c145 M146, m0.le m143 ∧ Ok u m143 (M146 :: [(b14, Obj.cells [(Value.string (bs b142.1.Kind)), c145, (Value.string (bs b142.1.Next))].toArray 51 (0, 0))] :: [(b1, Obj.cells [(Value.string (bs ([]))), (Value.slice none 0 0), (Value.string (bs ([])))].toArray 51 (0, 0))] :: S) w ∧ Env 88 a [(0, (Value.string (bs s_0))), (2, (Value.pointer (some ⟨b1, 0, none⟩))), (4, (Value.int .i64 b142.2)), (5, (Value.pointer (some ⟨b14, 0, none⟩)))] ∧ b142.1.Kind.length ≤ LIMS ∧ ORow 74 5 pItem m143 c145 b142.1.Items M146 ∧ b142.1.Next.length ≤ LIMS ∧ InR .i64 b142.2) (fun b150 => e = .ret ∧ calqueref44_readRule_R u m0 S b150 a w)) b) ?_ ?_ N _ a w hL ⟨m0, (Value.slice none 0 0), M25, Mem.le.refl _, ok, E.keep [0, 2, 4, 5], r11, (Nat.le_trans (slc_len e13) ls_0), h26, (Nat.zero_le _)⟩
  rotate_left
  · as_aux_lemma =>
      intro e a w _ hO
      rcases o27 with o27 | o27
      rotate_left
      · replace hF := elim_r hF
        obtain ⟨rfl, hret⟩ := hO
        refine b_ret <| t_ret ?_
        obtain rfl := sj hF
        exact fin _ _ hret
      replace hF := elim_l hF
      obtain ⟨rfl, m116, c118, M119, hle, ok, E, l117, h120, l121, r122⟩ := hO
      have le_m0 := le_m0.trans hle
      refine b_hit <| t_norm <| wp_seq ?_
      obtain ⟨m123, hle, ok, hfz⟩ := (ok.frs 0 rfl).freeze
      have h124 := ORow.froz mItem h120 hle hfz (by decide)
      have le_m0 := le_m0.trans hle
      obtain ⟨o125, hJ, hF⟩ := bnd hF
      refine c_mono (Q' := fun e a w => e = .normal ∧ ∃ c127, Ok u m123 ([(b14, Obj.cells [(Value.string (bs o27.1.Kind)), c118, (Value.string (bs o27.1.Next))].toArray 51 (0, 0))] :: [(b1, Obj.cells [(Value.string (bs o125.2.Kind)), c127, (Value.string (bs o125.2.Next))].toArray 51 (0, 0))] :: S) w ∧ Env 88 a [(2, (Value.pointer (some ⟨b1, 0, none⟩))), (3, (Value.bool o125.1))] ∧ o125.2.Kind.length ≤ LIMS ∧ (pL 5 pItem) m123 [c127] o125.2.Items ∧ o125.2.Next.length ≤ LIMS) ?_ ?_
      rotate_left
      · clear hJ
        intro e a w hO
        obtain ⟨rfl, c139, ok, E, l138, h140, l141⟩ := hO
        refine t_norm <| wp_ret ?_
        have hret : calqueref44_readRule_R u m0 S (o125.2, o125.1) a w := ⟨m123, [(Value.string (bs o125.2.Kind)), c139, (Value.string (bs o125.2.Next))], le_m0, ok.drop.drop, E.d, ⟨rv_c (cs := [(Value.string (bs o125.2.Kind)), c139, (Value.string (bs o125.2.Next))]) E ok rfl agg_51 rfl (Holds.own 1 rfl rfl), rv_t E rfl, trivial⟩, ⟨_, rfl, l138, h140, l141⟩⟩
        obtain rfl := sj hF
        exact fin _ _ hret
      replace hF := hJ
      clear hJ
      refine bsplit (decide (o27.2 ≥ 0)) (fun hc130 => ?_) (fun hc130 => ?_)
      rotate_left
      · replace hF := cond_f hc130 hF
        obtain rfl := sj hF
        refine k_begin [0] (Cls u m123 ([(b14, Obj.cells [(Value.string (bs o27.1.Kind)), c118, (Value.string (bs o27.1.Next))].toArray 51 (0, 0))] :: [(b1, Obj.cells [(Value.string (bs ([]))), (Value.slice none 0 0), (Value.string (bs ([])))].toArray 51 (0, 0))] :: [])) (Cls u m123 ([(b14, Obj.cells [(Value.string (bs o27.1.Kind)), c118, (Value.string (bs o27.1.Next))].toArray 51 (0, 0))] :: [])) (by kernel_rfl) ?_
        intro w hw
        replace ok := okdrew ok hw
        clear hw
        have le_m123 := Mem.le.refl m123
        refine k_next (cl1 ⟨m123, _, le_m123, ok, ⟨memAt 0 rfl, memAt 1 rfl, trivial⟩⟩ ⟨m123, _, le_m123, ok, ⟨memAt 0 rfl, trivial⟩⟩) fun hT => k_takeN 0 E rfl (by kernel_rfl) nP hT (y_loadAgg (cs := [(Value.string (bs o27.1.Kind)), c118, (Value.string (bs o27.1.Next))]) agg_51 rfl rfl (Holds.cown 0 rfl rfl)) rfl rfl fun a E => kt 1 E rfl hT (y_move rfl) fun a E => kt 2 E rfl hT (y_geq rfl rfl) fun a E => kt 3 E rfl hT (y_move rfl) fun a E => ?_
        replace E := E.upd 78 hc130 rfl
        refine k_skip 4 false E rfl (by kernel_rfl) nP hT rfl rfl fun a E => k_skip 5 false E rfl (by kernel_rfl) nP hT rfl rfl fun a E => kt 6 E rfl hT (y_pickF rfl rfl) fun a E => kt 7 E rfl hT (y_move rfl) fun a E => k_skip 8 false E rfl (by kernel_rfl) nP hT rfl rfl fun a E => k_skip 9 false E rfl (by kernel_rfl) nP hT rfl rfl fun a E => k_skip 10 false E rfl (by kernel_rfl) nP hT rfl rfl fun a E => k_skip 11 false E rfl (by kernel_rfl) nP hT rfl rfl fun a E => ?_
        refine kt 12 E rfl hT (y_pickF rfl rfl) fun a E => k_all [13] (by kernel_rfl) rfl (one_c ?_)
        · refine wpOp_of_list (o := _) rfl <| l_storeB E ok 1 rfl rfl rfl inf_51 rfl rfl ⟨rfl, (pL_one h124), rfl, trivial⟩ rfl rfl fun w ok => wn <| k_next (cl2 (by kernel_rfl) ⟨m123, _, le_m123, ok, ⟨memAt 0 rfl, trivial⟩⟩) fun hT => kt 14 E rfl hT (y_assign rfl) fun a E => k_done (by kernel_rfl) ?_
          exact ⟨rfl, ⟨c118, ok, E.keep [2, 3], l117, h124, l121⟩⟩
      replace hF := cond_t hc130 hF
      obtain ⟨r131, e132, hF⟩ := bnd hF
      refine bsplit r131 (fun hc133 => ?_) (fun hc133 => ?_)
      rotate_left
      · replace hF := cond_f hc133 hF
        obtain rfl := sj hF
        refine k_begin [0] (Cls u m123 ([(b14, Obj.cells [(Value.string (bs o27.1.Kind)), c118, (Value.string (bs o27.1.Next))].toArray 51 (0, 0))] :: [(b1, Obj.cells [(Value.string (bs ([]))), (Value.slice none 0 0), (Value.string (bs ([])))].toArray 51 (0, 0))] :: [])) (Cls u m123 ([(b14, Obj.cells [(Value.string (bs o27.1.Kind)), c118, (Value.string (bs o27.1.Next))].toArray 51 (0, 0))] :: [])) (by kernel_rfl) ?_
        intro w hw
        replace ok := okdrew ok hw
        clear hw
        have le_m123 := Mem.le.refl m123
        refine k_next (cl1 ⟨m123, _, le_m123, ok, ⟨memAt 0 rfl, memAt 1 rfl, trivial⟩⟩ ⟨m123, _, le_m123, ok, ⟨memAt 0 rfl, trivial⟩⟩) fun hT => k_takeN 0 E rfl (by kernel_rfl) nP hT (y_loadAgg (cs := [(Value.string (bs o27.1.Kind)), c118, (Value.string (bs o27.1.Next))]) agg_51 rfl rfl (Holds.cown 0 rfl rfl)) rfl rfl fun a E => kt 1 E rfl hT (y_move rfl) fun a E => kt 2 E rfl hT (y_geq rfl rfl) fun a E => kt 3 E rfl hT (y_move rfl) fun a E => ?_
        replace E := E.upd 78 hc130 rfl
        refine kt 4 E rfl hT (y_loadAgg (cs := [(Value.string (bs o27.1.Kind)), c118, (Value.string (bs o27.1.Next))]) agg_51 rfl rfl (Holds.cown 0 rfl rfl)) fun a E => k_all [5] (by kernel_rfl) rfl (one_c ?_)
        · refine wpOp_of_list (o := _) rfl <| l_call E go_35 rfl (calqueref44_proper_w N _ o27.1 ⟨_, rfl, l117, h124, l121⟩ e132 hG ok) rfl rfl ?_
          rintro _ w ⟨rfl, ok⟩
          refine ⟨_, rfl, fun a E => ?_⟩
          refine wn <| k_next (cl1 ⟨m123, _, le_m123, ok, ⟨memAt 0 rfl, memAt 1 rfl, trivial⟩⟩ ⟨m123, _, le_m123, ok, ⟨memAt 0 rfl, trivial⟩⟩) fun hT => kt 6 E rfl hT (y_pickT rfl rfl) fun a E => kt 7 E rfl hT (y_move rfl) fun a E => ?_
          replace E := E.upd 82 hc133 rfl
          refine k_skip 8 false E rfl (by kernel_rfl) nP hT rfl rfl fun a E => k_skip 9 false E rfl (by kernel_rfl) nP hT rfl rfl fun a E => k_skip 10 false E rfl (by kernel_rfl) nP hT rfl rfl fun a E => k_skip 11 false E rfl (by kernel_rfl) nP hT rfl rfl fun a E => kt 12 E rfl hT (y_pickF rfl rfl) fun a E => k_all [13] (by kernel_rfl) rfl (one_c ?_)
          · refine wpOp_of_list (o := _) rfl <| l_storeB E ok 1 rfl rfl rfl inf_51 rfl rfl ⟨rfl, (pL_one h124), rfl, trivial⟩ rfl rfl fun w ok => wn <| k_next (cl2 (by kernel_rfl) ⟨m123, _, le_m123, ok, ⟨memAt 0 rfl, trivial⟩⟩) fun hT => kt 14 E rfl hT (y_assign rfl) fun a E => k_done (by kernel_rfl) ?_
            exact ⟨rfl, ⟨c118, ok, E.keep [2, 3], l117, h124, l121⟩⟩
      replace hF := cond_t hc133 hF
      obtain ⟨r134, e135, hF⟩ := bnd hF
      obtain rfl := sj hF
      refine k_begin [0] (Cls u m123 ([(b14, Obj.cells [(Value.string (bs o27.1.Kind)), c118, (Value.string (bs o27.1.Next))].toArray 51 (0, 0))] :: [(b1, Obj.cells [(Value.string (bs ([]))), (Value.slice none 0 0), (Value.string (bs ([])))].toArray 51 (0, 0))] :: [])) (Cls u m123 ([(b14, Obj.cells [(Value.string (bs o27.1.Kind)), c118, (Value.string (bs o27.1.Next))].toArray 51 (0, 0))] :: [])) (by kernel_rfl) ?_
      intro w hw
      replace ok := okdrew ok hw
      clear hw
      have le_m123 := Mem.le.refl m123
      refine k_next (cl1 ⟨m123, _, le_m123, ok, ⟨memAt 0 rfl, memAt 1 rfl, trivial⟩⟩ ⟨m123, _, le_m123, ok, ⟨memAt 0 rfl, trivial⟩⟩) fun hT => k_takeN 0 E rfl (by kernel_rfl) nP hT (y_loadAgg (cs := [(Value.string (bs o27.1.Kind)), c118, (Value.string (bs o27.1.Next))]) agg_51 rfl rfl (Holds.cown 0 rfl rfl)) rfl rfl fun a E => kt 1 E rfl hT (y_move rfl) fun a E => kt 2 E rfl hT (y_geq rfl rfl) fun a E => kt 3 E rfl hT (y_move rfl) fun a E => ?_
      replace E := E.upd 78 hc130 rfl
      refine kt 4 E rfl hT (y_loadAgg (cs := [(Value.string (bs o27.1.Kind)), c118, (Value.string (bs o27.1.Next))]) agg_51 rfl rfl (Holds.cown 0 rfl rfl)) fun a E => k_all [5] (by kernel_rfl) rfl (one_c ?_)
      · refine wpOp_of_list (o := _) rfl <| l_call E go_35 rfl (calqueref44_proper_w N _ o27.1 ⟨_, rfl, l117, h124, l121⟩ e132 hG ok) rfl rfl ?_
        rintro _ w ⟨rfl, ok⟩
        refine ⟨_, rfl, fun a E => ?_⟩
        refine wn <| k_next (cl1 ⟨m123, _, le_m123, ok, ⟨memAt 0 rfl, memAt 1 rfl, trivial⟩⟩ ⟨m123, _, le_m123, ok, ⟨memAt 0 rfl, trivial⟩⟩) fun hT => kt 6 E rfl hT (y_pickT rfl rfl) fun a E => kt 7 E rfl hT (y_move rfl) fun a E => ?_
        replace E := E.upd 82 hc133 rfl
        refine kt 8 E rfl hT (y_loadAgg (cs := [(Value.string (bs o27.1.Kind)), c118, (Value.string (bs o27.1.Next))]) agg_51 rfl rfl (Holds.cown 0 rfl rfl)) fun a E => kt 10 E rfl hT (y_move rfl) fun a E => k_all [9] (by kernel_rfl) rfl (one_c ?_)
        · refine wpOp_of_list (o := _) rfl <| l_call E go_49 rfl (calqueref44_line_w N _ o27.1 ⟨_, rfl, l117, h124, l121⟩ e135 hG ok) rfl rfl ?_
          rintro _ w ⟨⟨rfl, ok⟩, l137⟩
          refine ⟨_, rfl, fun a E => ?_⟩
          refine wn <| k_next (cl1 ⟨m123, _, le_m123, ok, ⟨memAt 0 rfl, memAt 1 rfl, trivial⟩⟩ ⟨m123, _, le_m123, ok, ⟨memAt 0 rfl, trivial⟩⟩) fun hT => kt 11 E rfl hT (y_seql rfl rfl) fun a E => kt 12 E rfl hT (y_pickT rfl rfl) fun a E => k_all [13] (by kernel_rfl) rfl (one_c ?_)
          · refine wpOp_of_list (o := _) rfl <| l_storeB E ok 1 rfl rfl rfl inf_51 rfl rfl ⟨rfl, (pL_one h124), rfl, trivial⟩ rfl rfl fun w ok => wn <| k_next (cl2 (by kernel_rfl) ⟨m123, _, le_m123, ok, ⟨memAt 0 rfl, trivial⟩⟩) fun hT => kt 14 E rfl hT (y_assign rfl) fun a E => k_done (by kernel_rfl) ?_
            exact ⟨rfl, ⟨c118, ok, E.keep [2, 3], l117, h124, l121⟩⟩
  rintro ⟨at_35, x_36⟩ a w r ⟨m37, c40, M41, hle, ok, E, r38, l39, h42, l43⟩ hF
  replace hF : calqueref44_readRule_b2 N s_0 at_35 x_36 = some r := hF
  unfold calqueref44_readRule_b2 at hF
  have le_m0 := le_m0.trans hle
  refine wp_seq <| sg <| lv E ok (y_move rfl) fun a E => lv E ok (y_geq rfl rfl) fun a E => lv E ok (y_move rfl) fun a E => bsplit (decide (at_35 ≥ 0)) (fun hc44 => ?_) (fun hc44 => ?_)
  rotate_left
  · replace hF := cond_f hc44 hF
    replace E := E.upd 26 hc44 rfl
    refine ls E fun a E => ls E fun a E => ls E fun a E => ls E fun a E => lv E ok (y_pickF rfl rfl) fun a E => wn <| c_if E rfl (fun h => by cases h) (fun _ => ?_)
    refine wp_exit <| t_exit ?_
    obtain rfl := sj hF
    exact step_o (by nofun) (sl ⟨rfl, ⟨m37, c40, M41, le_m0, ok, E.keep [0, 2, 4, 5], l39, h42, l43, r38⟩⟩)
  replace hF := cond_t hc44 hF
  replace E := E.upd 26 hc44 rfl
  refine lv E ok (y_move rfl) fun a E => lv E ok (y_move rfl) fun a E => lv E ok (y_slen Try.underlying9 rfl) fun a E => lv E ok (y_lss rfl rfl) fun a E => lv E ok (y_pickT rfl rfl) fun a E => wn <| c_if E rfl (fun hc45 => ?_) (fun hc45 => ?_)
  rotate_left
  · replace hF := cond_f hc45 hF
    refine wp_exit <| t_exit ?_
    obtain rfl := sj hF
    exact step_o (by nofun) (sl ⟨rfl, ⟨m37, c40, M41, le_m0, ok, E.keep [0, 2, 4, 5], l39, h42, l43, r38⟩⟩)
  replace hF := cond_t hc45 hF
  refine wp_skip <| t_norm <| wp_block <| wp_seq <| sg <| lv E ok (y_fieldAddr fo_51_1 rfl) fun a E => lv E ok (y_load one_49 rfl (Holds.own 1 rfl rfl)) fun a E => ?_
  refine lv E ok (y_lenR sl_49 h42 rfl) fun a E => lv E ok (y_gtr rfl rfl) fun a E => lv E ok (y_move rfl) fun a E => bsplit (decide ((x_36.Items.length : Int) > 0)) (fun hc46 => ?_) (fun hc46 => ?_)
  rotate_left
  · replace hF := cond_f hc46 hF
    replace E := E.upd 36 hc46 rfl
    refine ls E fun a E => ls E fun a E => ls E fun a E => ls E fun a E => ls E fun a E => lv E ok (y_pickF rfl rfl) fun a E => lv E ok (y_move rfl) fun a E => ls E fun a E => ?_
    refine ls E fun a E => ls E fun a E => ls E fun a E => ls E fun a E => ls E fun a E => lv E ok (y_pickF rfl rfl) fun a E => wn ?_
    refine c_if E rfl (fun h => by cases h) (fun _ => ?_)
    refine wp_skip <| t_norm <| sg <| lv E ok (y_move rfl) fun a E => lv E ok (y_move rfl) fun a E => lv E ok (y_add rfl rfl (InR.inc r38 (InR.len ls_0) hc45)) fun a E => ?_
    obtain ⟨r96, e97, hF⟩ := bnd hF
    refine l_call E go_58 rfl (calqueref44_readItem_w N s_0 ls_0 (at_35 + 1) (InR.inc r38 (InR.len ls_0) hc45) e97 hG ok) rfl rfl ?_
    rintro _ w ⟨m98, vs99, rfl, hle, ok, h100, r101⟩
    have le_m0 := le_m0.trans hle
    have h42 := ORow.up mItem hle h42
    obtain ⟨c103, rfl, l102, h104, r105, r106⟩ := h100
    refine ⟨_, rfl, fun a E => ?_⟩
    refine lv E ok (y_move rfl) fun a E => lv E ok (y_extract rfl rfl) fun a E => lv E ok (y_extract rfl rfl) fun a E => l_alloc E ok zero_74 rfl rfl fun b107 a w E ok => l_storeB E ok 0 rfl rfl rfl inf_74 rfl rfl ⟨rfl, (pL_one h104), rfl, rfl, rfl, trivial⟩ rfl rfl fun w ok => lv E ok (y_assign rfl) fun a E => wn ?_
    refine c_region <| lv E ok (y_fieldAddr fo_51_1 rfl) fun a E => lv E ok (y_load one_49 rfl (Holds.own 2 rfl rfl)) fun a E => lv E ok (y_loadAgg (cs := [(Value.string (bs r96.1.Text)), c103, (Value.bool r96.1.Not), (Value.int .i64 r96.1.Least), (Value.int .i64 r96.1.Most)]) agg_74 rfl rfl (Holds.own 0 rfl rfl)) fun a E => l_slit (R := pItem) (xo := [.tmp 70]) (xs := ([r96.1] : List (Item))) E ok sl_49 zero_74 rfl ⟨⟨_, rfl, rfl, ⟨_, rfl, l102, h104, r105, r106⟩⟩, trivial⟩ rfl rfl rfl rfl fun c108 M109 a w E ok h110 => ?_
    obtain ⟨l111, e112, hF⟩ := bnd hF
    refine l_app (R := pItem) E ok 2 mItem sl_49 Try.underlying49 rfl h42 (SrcOK.ofRow h110 0 rfl ok) e112 ⟨_, zero_74, rfl⟩ rfl rfl rfl rfl fun c113 M114 a w E ok h115 => lv E ok (y_move rfl) fun a E => lv E ok (y_fieldAddr fo_51_1 rfl) fun a E => l_storeB E ok 3 rfl rfl rfl inf_49 (ORow.cells h115) rfl ⟨(ORow.one h115), trivial⟩ rfl rfl fun w ok => lv E ok (y_assign rfl) fun a E => wpList_nil <| b_norm ?_
    obtain rfl := sj hF
    exact step_n ⟨m98, c113, M114, le_m0, (ok.pk 5 [2, 3, 4] rfl (by decide)), E.keep [0, 2, 4, 5], r101, l39, h115, l43⟩
  replace hF := cond_t hc46 hF
  replace E := E.upd 36 hc46 rfl
  refine lv E ok (y_move rfl) fun a E => lv E ok (y_addw rfl rfl) fun a E => lv E ok (y_move rfl) fun a E => lv E ok (y_slen Try.underlying9 rfl) fun a E => lv E ok (y_leq rfl rfl) fun a E => lv E ok (y_pickT rfl rfl) fun a E => lv E ok (y_move rfl) fun a E => bsplit (decide ((IntKind.wrap .i64 (at_35 + 4)) ≤ (s_0.length : Int))) (fun hc47 => ?_) (fun hc47 => ?_)
  rotate_left
  · replace hF := cond_f hc47 hF
    replace E := E.upd 43 hc47 rfl
    refine ls E fun a E => ls E fun a E => ls E fun a E => ls E fun a E => ls E fun a E => ls E fun a E => lv E ok (y_pickF rfl rfl) fun a E => wpList_nil ?_
    refine t_norm <| c_if E rfl (fun h => by cases h) (fun _ => ?_)
    refine wp_skip <| t_norm <| sg <| lv E ok (y_move rfl) fun a E => lv E ok (y_move rfl) fun a E => lv E ok (y_add rfl rfl (InR.inc r38 (InR.len ls_0) hc45)) fun a E => ?_
    obtain ⟨r76, e77, hF⟩ := bnd hF
    refine l_call E go_58 rfl (calqueref44_readItem_w N s_0 ls_0 (at_35 + 1) (InR.inc r38 (InR.len ls_0) hc45) e77 hG ok) rfl rfl ?_
    rintro _ w ⟨m78, vs79, rfl, hle, ok, h80, r81⟩
    have le_m0 := le_m0.trans hle
    have h42 := ORow.up mItem hle h42
    obtain ⟨c83, rfl, l82, h84, r85, r86⟩ := h80
    refine ⟨_, rfl, fun a E => ?_⟩
    refine lv E ok (y_move rfl) fun a E => lv E ok (y_extract rfl rfl) fun a E => lv E ok (y_extract rfl rfl) fun a E => l_alloc E ok zero_74 rfl rfl fun b87 a w E ok => l_storeB E ok 0 rfl rfl rfl inf_74 rfl rfl ⟨rfl, (pL_one h84), rfl, rfl, rfl, trivial⟩ rfl rfl fun w ok => lv E ok (y_assign rfl) fun a E => wn ?_
    refine c_region <| lv E ok (y_fieldAddr fo_51_1 rfl) fun a E => lv E ok (y_load one_49 rfl (Holds.own 2 rfl rfl)) fun a E => lv E ok (y_loadAgg (cs := [(Value.string (bs r76.1.Text)), c83, (Value.bool r76.1.Not), (Value.int .i64 r76.1.Least), (Value.int .i64 r76.1.Most)]) agg_74 rfl rfl (Holds.own 0 rfl rfl)) fun a E => l_slit (R := pItem) (xo := [.tmp 70]) (xs := ([r76.1] : List (Item))) E ok sl_49 zero_74 rfl ⟨⟨_, rfl, rfl, ⟨_, rfl, l82, h84, r85, r86⟩⟩, trivial⟩ rfl rfl rfl rfl fun c88 M89 a w E ok h90 => ?_
    obtain ⟨l91, e92, hF⟩ := bnd hF
    refine l_app (R := pItem) E ok 2 mItem sl_49 Try.underlying49 rfl h42 (SrcOK.ofRow h90 0 rfl ok) e92 ⟨_, zero_74, rfl⟩ rfl rfl rfl rfl fun c93 M94 a w E ok h95 => lv E ok (y_move rfl) fun a E => lv E ok (y_fieldAddr fo_51_1 rfl) fun a E => l_storeB E ok 3 rfl rfl rfl inf_49 (ORow.cells h95) rfl ⟨(ORow.one h95), trivial⟩ rfl rfl fun w ok => lv E ok (y_assign rfl) fun a E => wpList_nil <| b_norm ?_
    obtain rfl := sj hF
    exact step_n ⟨m78, c93, M94, le_m0, (ok.pk 5 [2, 3, 4] rfl (by decide)), E.keep [0, 2, 4, 5], r81, l39, h95, l43⟩
  replace hF := cond_t hc47 hF
  replace E := E.upd 43 hc47 rfl
  refine lv E ok (y_move rfl) fun a E => lv E ok (y_move rfl) fun a E => lv E ok (y_move rfl) fun a E => lv E ok (y_addw rfl rfl) fun a E => ?_
  obtain ⟨s48, e49, hF⟩ := bnd hF
  refine lv E ok (y_sslice Try.underlying9 e49 rfl ⟨_, rfl⟩ ⟨_, rfl⟩) fun a E => lv E ok (y_seql rfl rfl) fun a E => lv E ok (y_pickT rfl rfl) fun a E => wn <| c_if E rfl (fun hc50 => ?_) (fun hc50 => ?_)
  rotate_left
  · replace hF := cond_f hc50 hF
    refine wp_skip <| t_norm <| sg <| lv E ok (y_move rfl) fun a E => lv E ok (y_move rfl) fun a E => lv E ok (y_add rfl rfl (InR.inc r38 (InR.len ls_0) hc45)) fun a E => ?_
    obtain ⟨r56, e57, hF⟩ := bnd hF
    refine l_call E go_58 rfl (calqueref44_readItem_w N s_0 ls_0 (at_35 + 1) (InR.inc r38 (InR.len ls_0) hc45) e57 hG ok) rfl rfl ?_
    rintro _ w ⟨m58, vs59, rfl, hle, ok, h60, r61⟩
    have le_m0 := le_m0.trans hle
    have h42 := ORow.up mItem hle h42
    obtain ⟨c63, rfl, l62, h64, r65, r66⟩ := h60
    refine ⟨_, rfl, fun a E => ?_⟩
    refine lv E ok (y_move rfl) fun a E => lv E ok (y_extract rfl rfl) fun a E => lv E ok (y_extract rfl rfl) fun a E => l_alloc E ok zero_74 rfl rfl fun b67 a w E ok => l_storeB E ok 0 rfl rfl rfl inf_74 rfl rfl ⟨rfl, (pL_one h64), rfl, rfl, rfl, trivial⟩ rfl rfl fun w ok => lv E ok (y_assign rfl) fun a E => wn ?_
    refine c_region <| lv E ok (y_fieldAddr fo_51_1 rfl) fun a E => lv E ok (y_load one_49 rfl (Holds.own 2 rfl rfl)) fun a E => lv E ok (y_loadAgg (cs := [(Value.string (bs r56.1.Text)), c63, (Value.bool r56.1.Not), (Value.int .i64 r56.1.Least), (Value.int .i64 r56.1.Most)]) agg_74 rfl rfl (Holds.own 0 rfl rfl)) fun a E => l_slit (R := pItem) (xo := [.tmp 70]) (xs := ([r56.1] : List (Item))) E ok sl_49 zero_74 rfl ⟨⟨_, rfl, rfl, ⟨_, rfl, l62, h64, r65, r66⟩⟩, trivial⟩ rfl rfl rfl rfl fun c68 M69 a w E ok h70 => ?_
    obtain ⟨l71, e72, hF⟩ := bnd hF
    refine l_app (R := pItem) E ok 2 mItem sl_49 Try.underlying49 rfl h42 (SrcOK.ofRow h70 0 rfl ok) e72 ⟨_, zero_74, rfl⟩ rfl rfl rfl rfl fun c73 M74 a w E ok h75 => lv E ok (y_move rfl) fun a E => lv E ok (y_fieldAddr fo_51_1 rfl) fun a E => l_storeB E ok 3 rfl rfl rfl inf_49 (ORow.cells h75) rfl ⟨(ORow.one h75), trivial⟩ rfl rfl fun w ok => lv E ok (y_assign rfl) fun a E => wpList_nil <| b_norm ?_
    obtain rfl := sj hF
    exact step_n ⟨m58, c73, M74, le_m0, (ok.pk 5 [2, 3, 4] rfl (by decide)), E.keep [0, 2, 4, 5], r61, l39, h75, l43⟩
  replace hF := cond_t hc50 hF
  refine sg <| lv E ok (y_move rfl) fun a E => lv E ok (y_move rfl) fun a E => lv E ok (y_addw rfl rfl) fun a E => ?_
  obtain ⟨s51, e52, hF⟩ := bnd hF
  refine lv E ok (y_sslice Try.underlying9 e52 rfl ⟨_, rfl⟩ rfl) fun a E => lv E ok (y_fieldAddr fo_51_2 rfl) fun a E => l_storeB E ok 1 rfl rfl rfl inf_9 rfl rfl ⟨rfl, trivial⟩ rfl rfl fun w ok => wn <| wp_seq <| sg ?_
  refine lv E ok (y_fieldAddr fo_51_2 rfl) fun a E => lv E ok (y_load one_9 rfl (Holds.own 1 rfl rfl)) fun a E => ?_
  obtain ⟨r53, e54, hF⟩ := bnd hF
  refine l_call E go_33 rfl (calqueref44_word_w N s51 (Nat.le_trans (slc_len e52) ls_0) e54 hG ok) rfl rfl ?_
  rintro _ w ⟨rfl, ok⟩
  refine ⟨_, rfl, fun a E => ?_⟩
  refine lv E ok (y_not rfl) fun a E => wn <| c_if E rfl (fun hc55 => ?_) (fun hc55 => ?_)
  rotate_left
  · replace hF := cond_f hc55 hF
    refine wp_skip <| t_norm <| wp_exit <| t_exit <| b_miss rfl ?_
    obtain rfl := sj hF
    exact step_o (by nofun) (sl ⟨rfl, ⟨m37, c40, M41, le_m0, ok, E.keep [0, 2, 4, 5], l39, h42, (Nat.le_trans (slc_len e52) ls_0), r38⟩⟩)
  replace hF := cond_t hc55 hF
  refine sg <| lv E ok (y_build (ps := []) (qs := []) (cs := [(Value.string (bs ([]))), (Value.slice none 0 0), (Value.string (bs ([])))]) zero_51 places_51 rfl trivial rfl) fun a E => l_storeB E ok 2 rfl rfl rfl inf_51 rfl rfl ⟨rfl, rfl, rfl, trivial⟩ rfl rfl fun w ok => lv E ok (y_assign rfl) fun a E => wn <| wp_ret ?_
  refine t_ret <| t_ret <| b_ret ?_
  have hret : calqueref44_readRule_R u m0 S ((Rule.mk ([]) ([]) ([])), false) a w := ⟨m37, [(Value.string (bs ([]))), (Value.slice none 0 0), (Value.string (bs ([])))], le_m0, ok.drop.drop.drop, E.d, ⟨rv_c (cs := [(Value.string (bs ([]))), (Value.slice none 0 0), (Value.string (bs ([])))]) E ok rfl agg_51 rfl (Holds.own 2 rfl rfl), rv_t E rfl, trivial⟩, ⟨_, rfl, (Nat.zero_le _), pL_nil, (Nat.zero_le _)⟩⟩
  obtain rfl := sj hF
  exact step_o (by nofun) (sr ⟨rfl, hret⟩)
def calqueref44_Parse_R (u : World) (m0 : Mem) (S : Segs) (r : (List (State)) × Int × Int) (a : Act) (w : World) : Prop :=
  ∃ m1 v0, m0.le m1 ∧ Ok u m1 S w ∧ a.defers = [] ∧ RVs Try.prog a w [.t 2 v0, .t 3 (.int .i64 r.2.1), .t 4 (.int .i64 r.2.2)] ∧ (pL 2 pState) m1 [v0] r.1 ∧ InR .i64 r.2.1 ∧ InR .i64 r.2.2
set_option maxHeartbeats 4000000 in
set_option maxRecDepth 100000 in
theorem calqueref44_Parse_w {u : World} {m0 : Mem} {S : Segs} {w : World} (N : Nat) (s_0 : List UInt8) (ls_0 : s_0.length ≤ LIMS) {r : (List (State)) × Int × Int} (hF : calqueref44_Parse N s_0 = some r) (hG : Glob u) (ok : Ok u m0 S w) :
    Calls Try.prog 20 [Value.string (bs s_0)].toArray w fun e w' => ∃ m1 v0, e = .returned (.tuple [v0, (.int .i64 r.2.1), (.int .i64 r.2.2)].toArray) ∧ m0.le m1 ∧ Ok u m1 S w' ∧ (pL 2 pState) m1 [v0] r.1 ∧ InR .i64 r.2.1 ∧ InR .i64 r.2.2 := by
  have le_m0 := Mem.le.refl m0
  unfold calqueref44_Parse at hF
  have fin : ∀ a w, calqueref44_Parse_R u m0 S r a w → bodyPost Try.prog Try.f20 (fun e w' => ∃ m1 v0, e = .returned (.tuple [v0, (.int .i64 r.2.1), (.int .i64 r.2.2)].toArray) ∧ m0.le m1 ∧ Ok u m1 S w' ∧ (pL 2 pState) m1 [v0] r.1 ∧ InR .i64 r.2.1 ∧ InR .i64 r.2.2) .ret a w := by
    intro a w h
    obtain ⟨m1, v0, hle, ok, hd, hrv, h0, h1, h2⟩ := h
    exact c_ret2 [.t 2 v0, .t 3 (.int .i64 r.2.1), .t 4 (.int .i64 r.2.2)] hd rfl hrv ⟨m1, v0, rfl, hle, ok, h0, h1, h2⟩
  refine enter Try.func20 rfl rfl rfl fun a E => sg <| lv E ok (y_assign rfl) fun a E => lv E ok (y_assign rfl) fun a E => lv E ok (y_assign rfl) fun a E => wn ?_
  refine sg <| lv E ok (y_assign rfl) fun a E => wn <| sg <| lv E ok (y_assign rfl) fun a E => ?_
  refine lv E ok (y_assign rfl) fun a E => wn <| wp_seq <| sg <| lv E ok (y_assign rfl) fun a E => wpList_nil ?_
  refine t_norm <| wp_block ?_
  obtain ⟨M10, ok, h11⟩ := nilrowN (e := 54) (k := 2) (R := oState_54) ok
  obtain ⟨o12, hL, hF⟩ := bnd hF
  refine c_loop _ (fun (s : (List (State)) × Int × Int × Int) a w => ∃ m13 c14 M15, m0.le m13 ∧ Ok u m13 (M15 :: S) w ∧ Env 88 a [(0, (Value.string (bs s_0))), (5, c14), (6, (Value.int .i64 s.2.1)), (7, (Value.int .i64 s.2.2.1)), (8, (Value.int .i64 s.2.2.2))] ∧ NRow 54 2 oState_54 m13 c14 s.1 M15 ∧ InR .i64 s.2.1 ∧ InR .i64 s.2.2.1 ∧ InR .i64 s.2.2.2) (fun (b : (((List (State)) × Int × Int) ⊕ ((List (State)) × Int × Int))) e a w => (Sum.elim (fun b341 => e = (.exit 0) ∧ ∃ m342 c343 M344, m0.le m342 ∧ Ok u m342 (M344 :: S) w ∧ Env 88 a [(0, (Value.string (bs s_0))), (5, c343), (6, (Value.int .i64 b341.2.1)), (7, (Value.int .i64 b341.2.2))] ∧ NRow 54 2 oState_54 m342 c343 b341.1 M344 ∧ InR .i64 b341.2.1 ∧ InR .i64 b341.2.2) (fun b348 => e = .ret ∧ calqueref44_Parse_R u m0 S b348 a w)) b) ?_ ?_ N _ a w hL ⟨m0, (Value.slice none 0 0), M10, Mem.le.refl _, ok, E.keep [0, 5, 6, 7, 8], h11, (show InR .i64 (0) by decide), (show InR .i64 (0) by decide), (show InR .i64 (0) by decide)⟩
  rotate_left
  · as_aux_lemma =>
      intro e a w _ hO
      rcases o12 with o12 | o12
      rotate_left
      · replace hF := elim_r hF
        obtain ⟨rfl, hret⟩ := hO
        refine b_ret <| t_ret ?_
        obtain rfl := sj hF
        exact fin _ _ hret
      replace hF := elim_l hF
      obtain ⟨rfl, m324, c325, M326, hle, ok, E, h327, r328, r329⟩ := hO
      have le_m0 := le_m0.trans hle
      refine b_hit <| t_norm <| wp_seq <| sg <| lv E ok (y_move rfl) fun a E => lv E ok (y_move rfl) fun a E => lv E ok (y_slen Try.underlying9 rfl) fun a E => ?_
      refine lv E ok (y_lss rfl rfl) fun a E => wn <| c_if E rfl (fun hc330 => ?_) (fun hc330 => ?_)
      · replace hF := cond_t hc330 hF
        refine sg <| lv E ok (y_move rfl) fun a E => lv E ok (y_assign rfl) fun a E => lv E ok (y_assign rfl) fun a E => lv E ok (y_assign rfl) fun a E => wn ?_
        refine wp_ret <| t_ret ?_
        have hret : calqueref44_Parse_R u m0 S ([], o12.2.2, 3) a w := ⟨m324, (.slice none 0 0), le_m0, ok.drop, E.d, ⟨rv_t E rfl, rv_t E rfl, rv_t E rfl, trivial⟩, pL_nil, r329, (show InR .i64 (3) by decide)⟩
        obtain rfl := sj hF
        exact fin _ _ hret
      replace hF := cond_f hc330 hF
      refine wp_skip <| t_norm <| wp_seq <| sg <| lv E ok (y_move rfl) fun a E => ?_
      obtain ⟨r336, e337, hF⟩ := bnd hF
      obtain ⟨m331, hle333, ok332, hfz334⟩ := (ok.frs 0 rfl).freeze
      have h335 := NRow.froz oState_54_fz h327 hle333 hfz334 (by decide)
      refine l_call E go_16 rfl (calqueref44_Valid_w N _ o12.1 h335 e337 hG ok332) rfl rfl ?_
      rintro _ w ⟨rfl, okz⟩
      replace ok := (Ok.thawAt 0 rfl ok hle333 hfz334 okz)
      refine ⟨_, rfl, fun a E => ?_⟩
      refine lv E ok (y_not rfl) fun a E => wn <| c_if E rfl (fun hc338 => ?_) (fun hc338 => ?_)
      · replace hF := cond_t hc338 hF
        refine sg <| lv E ok (y_assign rfl) fun a E => lv E ok (y_assign rfl) fun a E => lv E ok (y_assign rfl) fun a E => wn <| wp_ret ?_
        refine t_ret ?_
        have hret : calqueref44_Parse_R u m0 S ([], 0, 1) a w := ⟨m324, (.slice none 0 0), le_m0, ok.drop, E.d, ⟨rv_t E rfl, rv_t E rfl, rv_t E rfl, trivial⟩, pL_nil, (show InR .i64 (0) by decide), (show InR .i64 (1) by decide)⟩
        obtain rfl := sj hF
        exact fin _ _ hret
      replace hF := cond_f hc338 hF
      refine wp_skip <| t_norm <| sg <| lv E ok (y_move rfl) fun a E => lv E ok (y_assign rfl) fun a E => lv E ok (y_assign rfl) fun a E => lv E ok (y_assign rfl) fun a E => ?_
      refine wn <| wp_ret ?_
      obtain ⟨m339, hle, ok, hfz⟩ := (ok.frs 0 rfl).freeze
      have h340 := NRow.froz oState_54_fz h327 hle hfz (by decide)
      have le_m0 := le_m0.trans hle
      have hret : calqueref44_Parse_R u m0 S (o12.1, 0, 0) a w := ⟨m339, c325, le_m0, ok, E.d, ⟨rv_t E rfl, rv_t E rfl, rv_t E rfl, trivial⟩, h340, (show InR .i64 (0) by decide), (show InR .i64 (0) by decide)⟩
      obtain rfl := sj hF
      exact fin _ _ hret
  rintro ⟨out_20, from_21, n_22, i_23⟩ a w r ⟨m24, c25, M26, hle, ok, E, h27, r28, r29, r30⟩ hF
  replace hF : calqueref44_Parse_b1 N s_0 out_20 from_21 n_22 i_23 = some r := hF
  unfold calqueref44_Parse_b1 at hF
  have le_m0 := le_m0.trans hle
  refine wp_seq <| sg <| lv E ok (y_move rfl) fun a E => lv E ok (y_move rfl) fun a E => lv E ok (y_slen Try.underlying9 rfl) fun a E => lv E ok (y_lss rfl rfl) fun a E => wpList_nil ?_
  refine t_norm <| c_if E rfl (fun hc31 => ?_) (fun hc31 => ?_)
  rotate_left
  · replace hF := cond_f hc31 hF
    refine wp_exit <| t_exit ?_
    obtain rfl := sj hF
    exact step_o (by nofun) (sl ⟨rfl, ⟨m24, c25, M26, le_m0, ok, E.keep [0, 5, 6, 7], h27, r28, r29⟩⟩)
  replace hF := cond_t hc31 hF
  refine wp_skip <| t_norm <| wp_seq <| wp_block <| wp_seq <| sg <| lv E ok (y_move rfl) fun a E => ?_
  refine lv E ok (y_move rfl) fun a E => ?_
  obtain ⟨c32, e33, hF⟩ := bnd hF
  refine lv E ok (y_index Try.underlying9 rfl rfl e33) fun a E => lv E ok (y_neq rfl rfl) fun a E => wn <| c_if E rfl (fun hc34 => ?_) (fun hc34 => ?_)
  · replace hF := cond_t hc34 hF
    refine wp_exit <| t_exit <| b_hit <| t_norm <| c_region <| lv E ok (y_move rfl) fun a E => lv E ok (y_add rfl rfl (InR.inc r30 (InR.len ls_0) hc31)) fun a E => lv E ok (y_assign rfl) fun a E => ?_
    refine wpList_nil ?_
    obtain rfl := sj hF
    exact step_n ⟨m24, c25, M26, le_m0, ok, E.keep [0, 5, 6, 7, 8], h27, r28, r29, (InR.inc r30 (InR.len ls_0) hc31)⟩
  replace hF := cond_f hc34 hF
  refine wp_skip <| t_norm <| sg <| lv E ok (y_move rfl) fun a E => lv E ok (y_move rfl) fun a E => lv E ok (y_move rfl) fun a E => ?_
  obtain ⟨s35, e36, hF⟩ := bnd hF
  refine lv E ok (y_sslice Try.underlying9 e36 rfl ⟨_, rfl⟩ ⟨_, rfl⟩) fun a E => lv E ok (y_assign rfl) fun a E => wn <| sg <| lv E ok (y_move rfl) fun a E => ?_
  obtain ⟨r37, e38, hF⟩ := bnd hF
  refine l_call E go_40 rfl (calqueref44_readRule_w N s35 (Nat.le_trans (slc_len e36) ls_0) e38 hG ok) rfl rfl ?_
  rintro _ w ⟨m39, vs40, rfl, hle, ok, h41⟩
  have le_m0 := le_m0.trans hle
  have h27 := NRow.up oState_54_up hle h27
  obtain ⟨c43, rfl, l42, h44, l45⟩ := h41
  refine ⟨_, rfl, fun a E => ?_⟩
  refine lv E ok (y_move rfl) fun a E => lv E ok (y_extract rfl rfl) fun a E => lv E ok (y_extract rfl rfl) fun a E => l_alloc E ok zero_51 rfl rfl fun b46 a w E ok => l_storeB E ok 0 rfl rfl rfl inf_51 rfl rfl ⟨rfl, (pL_one h44), rfl, trivial⟩ rfl rfl fun w ok => lv E ok (y_assign rfl) fun a E => wn ?_
  refine wp_seq <| wp_block <| sg <| lv E ok (y_move rfl) fun a E => lv E ok (y_slen Try.underlying9 rfl) fun a E => lv E ok (y_gtr rfl rfl) fun a E => lv E ok (y_move rfl) fun a E => ?_
  refine bsplit (decide ((s35.length : Int) > 6)) (fun hc47 => ?_) (fun hc47 => ?_)
  rotate_left
  · as_aux_lemma =>
      replace hF := cond_f hc47 hF
      replace E := E.upd 36 hc47 rfl
      refine ls E fun a E => ls E fun a E => ls E fun a E => lv E ok (y_pickF rfl rfl) fun a E => lv E ok (y_move rfl) fun a E => ls E fun a E => ls E fun a E => ls E fun a E => ?_
      refine lv E ok (y_pickF rfl rfl) fun a E => lv E ok (y_assign rfl) fun a E => wn <| c_if E rfl (fun h => by cases h) (fun _ => ?_)
      refine sg <| lv E ok (y_move rfl) fun a E => lv E ok (y_move rfl) fun a E => bsplit r37.2 (fun hc241 => ?_) (fun hc241 => ?_)
      rotate_left
      · replace hF := cond_f hc241 hF
        replace E := E.upd 54 hc241 rfl
        refine ls E fun a E => ls E fun a E => ls E fun a E => lv E ok (y_pickF rfl rfl) fun a E => lv E ok (y_assign rfl) fun a E => wn <| c_if E rfl (fun h => by cases h) (fun _ => ?_)
        refine sg <| lv E ok (y_move rfl) fun a E => lv E ok (y_assign rfl) fun a E => lv E ok (y_assign rfl) fun a E => lv E ok (y_assign rfl) fun a E => wn ?_
        refine wp_ret <| b_ret <| t_ret <| b_ret <| t_ret ?_
        have hret : calqueref44_Parse_R u m0 S ([], n_22, 3) a w := ⟨m39, (.slice none 0 0), le_m0, ok.drop.drop, E.d, ⟨rv_t E rfl, rv_t E rfl, rv_t E rfl, trivial⟩, pL_nil, r29, (show InR .i64 (3) by decide)⟩
        obtain rfl := sj hF
        exact step_o (by nofun) (sr ⟨rfl, hret⟩)
      replace hF := cond_t hc241 hF
      replace E := E.upd 54 hc241 rfl
      refine lv E ok (y_move rfl) fun a E => lv E ok (y_lenN sl_23 h27 rfl) fun a E => lv E ok (y_gtr rfl rfl) fun a E => lv E ok (y_pickT rfl rfl) fun a E => lv E ok (y_assign rfl) fun a E => wn <| c_if E rfl (fun hc242 => ?_) (fun hc242 => ?_)
      rotate_left
      · replace hF := cond_f hc242 hF
        refine sg <| lv E ok (y_move rfl) fun a E => lv E ok (y_assign rfl) fun a E => lv E ok (y_assign rfl) fun a E => lv E ok (y_assign rfl) fun a E => wn ?_
        refine wp_ret <| b_ret <| t_ret <| b_ret <| t_ret ?_
        have hret : calqueref44_Parse_R u m0 S ([], n_22, 3) a w := ⟨m39, (.slice none 0 0), le_m0, ok.drop.drop, E.d, ⟨rv_t E rfl, rv_t E rfl, rv_t E rfl, trivial⟩, pL_nil, r29, (show InR .i64 (3) by decide)⟩
        obtain rfl := sj hF
        exact step_o (by nofun) (sr ⟨rfl, hret⟩)
      replace hF := cond_t hc242 hF
      obtain ⟨o243, hJ, hF⟩ := bnd hF
      refine c_mono (Q' := fun e a w => e = .normal ∧ ∃ c244 M245, Ok u m39 ([(b46, Obj.cells [(Value.string (bs r37.1.Kind)), c43, (Value.string (bs r37.1.Next))].toArray 51 (0, 0))] :: M245 :: S) w ∧ Env 88 a [(0, (Value.string (bs s_0))), (5, c244), (7, (Value.int .i64 n_22)), (8, (Value.int .i64 i_23))] ∧ NRow 54 2 oState_54 m39 c244 o243 M245) ?_ ?_
      rotate_left
      · clear hJ
        intro e a w hO
        obtain ⟨rfl, c321, M322, ok, E, h323⟩ := hO
        refine b_norm <| t_norm <| c_region <| lv E ok (y_move rfl) fun a E => lv E ok (y_add rfl rfl (InR.inc r30 (InR.len ls_0) hc31)) fun a E => lv E ok (y_move rfl) fun a E => lv E ok (y_addw rfl rfl) fun a E => lv E ok (y_assign rfl) fun a E => ?_
        refine lv E ok (y_assign rfl) fun a E => wpList_nil <| b_norm <| t_norm <| c_region <| lv E ok (y_move rfl) fun a E => lv E ok (y_add rfl rfl (InR.inc r30 (InR.len ls_0) hc31)) fun a E => lv E ok (y_assign rfl) fun a E => ?_
        refine wpList_nil ?_
        obtain rfl := sj hF
        exact step_n ⟨m39, c321, M322, le_m0, (ok.pk 2 [1] rfl (by decide)), E.keep [0, 5, 6, 7, 8], h323, (InR.inc r30 (InR.len ls_0) hc31), (InR.wrap _ _), (InR.inc r30 (InR.len ls_0) hc31)⟩
      replace hF := hJ
      clear hJ
      obtain ⟨x247, e248, hF⟩ := bnd hF
      obtain ⟨l270, e271, hF⟩ := bnd hF
      obtain ⟨x275, e276, hF⟩ := bnd hF
      obtain rfl := sj hF
      replace ok : Ok u m39 (M26 :: [(b46, Obj.cells [(Value.string (bs r37.1.Kind)), c43, (Value.string (bs r37.1.Next))].toArray 51 (0, 0))] :: S) w := (ok.pk 2 [1, 0] rfl (by decide))
      obtain ⟨cs287, c288, M289, M290, M291, ok, hr292, hx293, he294, hh295⟩ := NRow.open h27 e248 ok
      obtain ⟨c297, rfl, l296, h298⟩ := he294
      refine k_begin [10, 11] (Cls u m39 (M289 :: [(b46, Obj.cells [(Value.string (bs r37.1.Kind)), c43, (Value.string (bs r37.1.Next))].toArray 51 (0, 0))] :: [])) (Cls u m39 ([(b46, Obj.cells [(Value.string (bs r37.1.Kind)), c43, (Value.string (bs r37.1.Next))].toArray 51 (0, 0))] :: [])) (by kernel_rfl) ?_
      intro w hw
      replace ok := okdrew ok hw
      clear hw
      have le_m39 := Mem.le.refl m39
      refine k_next (cl1 ⟨m39, _, le_m39, ok, ⟨memAt 0 rfl, memAt 3 rfl, trivial⟩⟩ ⟨m39, _, le_m39, ok, ⟨memAt 3 rfl, trivial⟩⟩) fun hT => kt 0 E rfl hT (y_move rfl) fun a E => kt 1 E rfl hT (y_move rfl) fun a E => kt 2 E rfl hT (y_lenH sl_23 hr292 hh295 rfl) fun a E => kt 3 E rfl hT (y_sub rfl rfl (InR.dec (NRow.InR h27) (show InR .i64 (0) by decide) hc242)) fun a E => kt 4 E rfl hT (y_move rfl) fun a E => kt 5 E rfl hT (y_move rfl) fun a E => kt 6 E rfl hT (y_lenH sl_23 hr292 hh295 rfl) fun a E => ?_
      refine kt 7 E rfl hT (y_sub rfl rfl (InR.dec (NRow.InR h27) (show InR .i64 (0) by decide) hc242)) fun a E => ?_
      obtain ⟨b299, o300, hp301, yy302⟩ := rawAt sl_23 hr292 hx293 (P := Try.prog) (X := .tmp 63) (I := .tmp 66) (kd := .i64) (ev_of E rfl) (ev_of E rfl)
      refine kt 8 E rfl hT (yy302 _ _) fun a E => kt 9 E rfl hT (y_fieldAddr fo_54_1 rfl) fun a E => ?_
      obtain ⟨hl303, hh304⟩ := rawGet hr292 hx293 hp301 (by decide)
      refine k_takeN 10 E rfl (by kernel_rfl) nP hT (y_load one_52 rfl (Holds.sub 1 1 (Holds.crow hh304 0 rfl))) rfl rfl fun a E => k_takeN 11 E rfl (by kernel_rfl) nP hT (y_loadAgg (cs := [(Value.string (bs r37.1.Kind)), c43, (Value.string (bs r37.1.Next))]) agg_51 rfl rfl (Holds.cown 1 rfl rfl)) rfl rfl fun a E => k_all [12] (by kernel_rfl) rfl (one_c ?_)
      · refine wpOp_of_list (o := _) rfl <| l_slit (R := pRule) (xo := [.tmp 70]) (xs := ([r37.1] : List (Rule))) E ok sl_52 zero_51 rfl ⟨⟨_, rfl, rfl, ⟨_, rfl, l42, h44, l45⟩⟩, trivial⟩ rfl rfl rfl rfl fun c305 M306 a w E ok h307 => wn <| k_next (cl1 ⟨m39, _, le_m39, ok, ⟨memAt 1 rfl, memAt 4 rfl, trivial⟩⟩ ⟨m39, _, le_m39, ok, ⟨memAt 4 rfl, trivial⟩⟩) fun hT => k_all [13] (by kernel_rfl) rfl (one_c ?_)
        · refine wpOp_of_list (o := _) rfl <| l_app (R := pRule) E ok 2 mRule sl_52 Try.underlying52 rfl h298 (SrcOK.ofRow h307 0 rfl ok) e271 ⟨_, zero_51, rfl⟩ rfl rfl rfl rfl fun c308 M309 a w E ok h310 => wn <| k_next (cl1 ⟨m39, _, le_m39, ok, ⟨memAt 1 rfl, memAt 4 rfl, trivial⟩⟩ ⟨m39, _, le_m39, ok, ⟨memAt 4 rfl, trivial⟩⟩) fun hT => ?_
          obtain ⟨b311, o312, hp313, yy314⟩ := rawAt sl_23 hr292 hx293 (P := Try.prog) (X := .tmp 59) (I := .tmp 62) (kd := .i64) (ev_of E rfl) (ev_of E rfl)
          refine kt 14 E rfl hT (yy314 _ _) fun a E => kt 15 E rfl hT (y_fieldAddr fo_54_1 rfl) fun a E => k_all [16] (by kernel_rfl) rfl (one_c ?_)
          · refine wpOp_of_list (o := _) rfl <| l_storeN (f := 1) (c' := [(Value.string (bs x247.Name)), c308]) E ok 1 rfl hr292 hx293 hp313 rfl rfl rfl inf_52 (ORow.cells h310) rfl rfl ⟨(ORow.one h310), trivial⟩ rfl ⟨rfl, (ORow.one h310), trivial⟩ rfl fun M315 w ok hr316 hx317 => ?_
            have hh318 := NHole.set (c' := [(Value.string (bs x247.Name)), c308]) hh295
            refine wn <| k_next (cl2 (by kernel_rfl) ⟨m39, _, le_m39, ok, ⟨memAt 4 rfl, trivial⟩⟩) fun hT => k_done (by kernel_rfl) ?_
            replace ok : Ok u m39 (M315 :: M309 :: M291 :: M306 :: [(b46, Obj.cells [(Value.string (bs r37.1.Kind)), c43, (Value.string (bs r37.1.Next))].toArray 51 (0, 0))] :: S) w := (ok.pk 5 [1, 2, 3, 0, 4] rfl (by decide))
            obtain ⟨M319, ok, h320⟩ := NRow.close e248 ok hr316 hx317 (show oState_54 m39 [(Value.string (bs x247.Name)), c308] (State.mk x247.Name l270) M309 from ⟨_, rfl, l296, h310⟩) hh318
            exact ⟨rfl, ⟨c25, M319, (ok.pk 3 [2, 0] rfl (by decide)), E.keep [0, 5, 7, 8], h320⟩⟩
  replace hF := cond_t hc47 hF
  replace E := E.upd 36 hc47 rfl
  refine lv E ok (y_move rfl) fun a E => ?_
  obtain ⟨s48, e49, hF⟩ := bnd hF
  refine lv E ok (y_sslice Try.underlying9 e49 rfl rfl ⟨_, rfl⟩) fun a E => lv E ok (y_seql rfl rfl) fun a E => lv E ok (y_pickT rfl rfl) fun a E => lv E ok (y_move rfl) fun a E => bsplit (s48 == ([115, 116, 97, 116, 101, 32])) (fun hc50 => ?_) (fun hc50 => ?_)
  rotate_left
  · as_aux_lemma =>
      replace hF := cond_f hc50 hF
      replace E := E.upd 41 hc50 rfl
      refine ls E fun a E => ls E fun a E => ls E fun a E => lv E ok (y_pickF rfl rfl) fun a E => lv E ok (y_assign rfl) fun a E => wn <| c_if E rfl (fun h => by cases h) (fun _ => ?_)
      refine sg <| lv E ok (y_move rfl) fun a E => lv E ok (y_move rfl) fun a E => bsplit r37.2 (fun hc158 => ?_) (fun hc158 => ?_)
      rotate_left
      · replace hF := cond_f hc158 hF
        replace E := E.upd 54 hc158 rfl
        refine ls E fun a E => ls E fun a E => ls E fun a E => lv E ok (y_pickF rfl rfl) fun a E => lv E ok (y_assign rfl) fun a E => wn <| c_if E rfl (fun h => by cases h) (fun _ => ?_)
        refine sg <| lv E ok (y_move rfl) fun a E => lv E ok (y_assign rfl) fun a E => lv E ok (y_assign rfl) fun a E => lv E ok (y_assign rfl) fun a E => wn ?_
        refine wp_ret <| b_ret <| t_ret <| b_ret <| t_ret ?_
        have hret : calqueref44_Parse_R u m0 S ([], n_22, 3) a w := ⟨m39, (.slice none 0 0), le_m0, ok.drop.drop, E.d, ⟨rv_t E rfl, rv_t E rfl, rv_t E rfl, trivial⟩, pL_nil, r29, (show InR .i64 (3) by decide)⟩
        obtain rfl := sj hF
        exact step_o (by nofun) (sr ⟨rfl, hret⟩)
      replace hF := cond_t hc158 hF
      replace E := E.upd 54 hc158 rfl
      refine lv E ok (y_move rfl) fun a E => lv E ok (y_lenN sl_23 h27 rfl) fun a E => lv E ok (y_gtr rfl rfl) fun a E => lv E ok (y_pickT rfl rfl) fun a E => lv E ok (y_assign rfl) fun a E => wn <| c_if E rfl (fun hc159 => ?_) (fun hc159 => ?_)
      rotate_left
      · replace hF := cond_f hc159 hF
        refine sg <| lv E ok (y_move rfl) fun a E => lv E ok (y_assign rfl) fun a E => lv E ok (y_assign rfl) fun a E => lv E ok (y_assign rfl) fun a E => wn ?_
        refine wp_ret <| b_ret <| t_ret <| b_ret <| t_ret ?_
        have hret : calqueref44_Parse_R u m0 S ([], n_22, 3) a w := ⟨m39, (.slice none 0 0), le_m0, ok.drop.drop, E.d, ⟨rv_t E rfl, rv_t E rfl, rv_t E rfl, trivial⟩, pL_nil, r29, (show InR .i64 (3) by decide)⟩
        obtain rfl := sj hF
        exact step_o (by nofun) (sr ⟨rfl, hret⟩)
      replace hF := cond_t hc159 hF
      obtain ⟨o160, hJ, hF⟩ := bnd hF
      refine c_mono (Q' := fun e a w => e = .normal ∧ ∃ c161 M162, Ok u m39 ([(b46, Obj.cells [(Value.string (bs r37.1.Kind)), c43, (Value.string (bs r37.1.Next))].toArray 51 (0, 0))] :: M162 :: S) w ∧ Env 88 a [(0, (Value.string (bs s_0))), (5, c161), (7, (Value.int .i64 n_22)), (8, (Value.int .i64 i_23))] ∧ NRow 54 2 oState_54 m39 c161 o160 M162) ?_ ?_
      rotate_left
      · clear hJ
        intro e a w hO
        obtain ⟨rfl, c238, M239, ok, E, h240⟩ := hO
        refine b_norm <| t_norm <| c_region <| lv E ok (y_move rfl) fun a E => lv E ok (y_add rfl rfl (InR.inc r30 (InR.len ls_0) hc31)) fun a E => lv E ok (y_move rfl) fun a E => lv E ok (y_addw rfl rfl) fun a E => lv E ok (y_assign rfl) fun a E => ?_
        refine lv E ok (y_assign rfl) fun a E => wpList_nil <| b_norm <| t_norm <| c_region <| lv E ok (y_move rfl) fun a E => lv E ok (y_add rfl rfl (InR.inc r30 (InR.len ls_0) hc31)) fun a E => lv E ok (y_assign rfl) fun a E => ?_
        refine wpList_nil ?_
        obtain rfl := sj hF
        exact step_n ⟨m39, c238, M239, le_m0, (ok.pk 2 [1] rfl (by decide)), E.keep [0, 5, 6, 7, 8], h240, (InR.inc r30 (InR.len ls_0) hc31), (InR.wrap _ _), (InR.inc r30 (InR.len ls_0) hc31)⟩
      replace hF := hJ
      clear hJ
      obtain ⟨x164, e165, hF⟩ := bnd hF
      obtain ⟨l187, e188, hF⟩ := bnd hF
      obtain ⟨x192, e193, hF⟩ := bnd hF
      obtain rfl := sj hF
      replace ok : Ok u m39 (M26 :: [(b46, Obj.cells [(Value.string (bs r37.1.Kind)), c43, (Value.string (bs r37.1.Next))].toArray 51 (0, 0))] :: S) w := (ok.pk 2 [1, 0] rfl (by decide))
      obtain ⟨cs204, c205, M206, M207, M208, ok, hr209, hx210, he211, hh212⟩ := NRow.open h27 e165 ok
      obtain ⟨c214, rfl, l213, h215⟩ := he211
      refine k_begin [10, 11] (Cls u m39 (M206 :: [(b46, Obj.cells [(Value.string (bs r37.1.Kind)), c43, (Value.string (bs r37.1.Next))].toArray 51 (0, 0))] :: [])) (Cls u m39 ([(b46, Obj.cells [(Value.string (bs r37.1.Kind)), c43, (Value.string (bs r37.1.Next))].toArray 51 (0, 0))] :: [])) (by kernel_rfl) ?_
      intro w hw
      replace ok := okdrew ok hw
      clear hw
      have le_m39 := Mem.le.refl m39
      refine k_next (cl1 ⟨m39, _, le_m39, ok, ⟨memAt 0 rfl, memAt 3 rfl, trivial⟩⟩ ⟨m39, _, le_m39, ok, ⟨memAt 3 rfl, trivial⟩⟩) fun hT => kt 0 E rfl hT (y_move rfl) fun a E => kt 1 E rfl hT (y_move rfl) fun a E => kt 2 E rfl hT (y_lenH sl_23 hr209 hh212 rfl) fun a E => kt 3 E rfl hT (y_sub rfl rfl (InR.dec (NRow.InR h27) (show InR .i64 (0) by decide) hc159)) fun a E => kt 4 E rfl hT (y_move rfl) fun a E => kt 5 E rfl hT (y_move rfl) fun a E => kt 6 E rfl hT (y_lenH sl_23 hr209 hh212 rfl) fun a E => ?_
      refine kt 7 E rfl hT (y_sub rfl rfl (InR.dec (NRow.InR h27) (show InR .i64 (0) by decide) hc159)) fun a E => ?_
      obtain ⟨b216, o217, hp218, yy219⟩ := rawAt sl_23 hr209 hx210 (P := Try.prog) (X := .tmp 63) (I := .tmp 66) (kd := .i64) (ev_of E rfl) (ev_of E rfl)
      refine kt 8 E rfl hT (yy219 _ _) fun a E => kt 9 E rfl hT (y_fieldAddr fo_54_1 rfl) fun a E => ?_
      obtain ⟨hl220, hh221⟩ := rawGet hr209 hx210 hp218 (by decide)
      refine k_takeN 10 E rfl (by kernel_rfl) nP hT (y_load one_52 rfl (Holds.sub 1 1 (Holds.crow hh221 0 rfl))) rfl rfl fun a E => k_takeN 11 E rfl (by kernel_rfl) nP hT (y_loadAgg (cs := [(Value.string (bs r37.1.Kind)), c43, (Value.string (bs r37.1.Next))]) agg_51 rfl rfl (Holds.cown 1 rfl rfl)) rfl rfl fun a E => k_all [12] (by kernel_rfl) rfl (one_c ?_)
      · refine wpOp_of_list (o := _) rfl <| l_slit (R := pRule) (xo := [.tmp 70]) (xs := ([r37.1] : List (Rule))) E ok sl_52 zero_51 rfl ⟨⟨_, rfl, rfl, ⟨_, rfl, l42, h44, l45⟩⟩, trivial⟩ rfl rfl rfl rfl fun c222 M223 a w E ok h224 => wn <| k_next (cl1 ⟨m39, _, le_m39, ok, ⟨memAt 1 rfl, memAt 4 rfl, trivial⟩⟩ ⟨m39, _, le_m39, ok, ⟨memAt 4 rfl, trivial⟩⟩) fun hT => k_all [13] (by kernel_rfl) rfl (one_c ?_)
        · refine wpOp_of_list (o := _) rfl <| l_app (R := pRule) E ok 2 mRule sl_52 Try.underlying52 rfl h215 (SrcOK.ofRow h224 0 rfl ok) e188 ⟨_, zero_51, rfl⟩ rfl rfl rfl rfl fun c225 M226 a w E ok h227 => wn <| k_next (cl1 ⟨m39, _, le_m39, ok, ⟨memAt 1 rfl, memAt 4 rfl, trivial⟩⟩ ⟨m39, _, le_m39, ok, ⟨memAt 4 rfl, trivial⟩⟩) fun hT => ?_
          obtain ⟨b228, o229, hp230, yy231⟩ := rawAt sl_23 hr209 hx210 (P := Try.prog) (X := .tmp 59) (I := .tmp 62) (kd := .i64) (ev_of E rfl) (ev_of E rfl)
          refine kt 14 E rfl hT (yy231 _ _) fun a E => kt 15 E rfl hT (y_fieldAddr fo_54_1 rfl) fun a E => k_all [16] (by kernel_rfl) rfl (one_c ?_)
          · refine wpOp_of_list (o := _) rfl <| l_storeN (f := 1) (c' := [(Value.string (bs x164.Name)), c225]) E ok 1 rfl hr209 hx210 hp230 rfl rfl rfl inf_52 (ORow.cells h227) rfl rfl ⟨(ORow.one h227), trivial⟩ rfl ⟨rfl, (ORow.one h227), trivial⟩ rfl fun M232 w ok hr233 hx234 => ?_
            have hh235 := NHole.set (c' := [(Value.string (bs x164.Name)), c225]) hh212
            refine wn <| k_next (cl2 (by kernel_rfl) ⟨m39, _, le_m39, ok, ⟨memAt 4 rfl, trivial⟩⟩) fun hT => k_done (by kernel_rfl) ?_
            replace ok : Ok u m39 (M232 :: M226 :: M208 :: M223 :: [(b46, Obj.cells [(Value.string (bs r37.1.Kind)), c43, (Value.string (bs r37.1.Next))].toArray 51 (0, 0))] :: S) w := (ok.pk 5 [1, 2, 3, 0, 4] rfl (by decide))
            obtain ⟨M236, ok, h237⟩ := NRow.close e165 ok hr233 hx234 (show oState_54 m39 [(Value.string (bs x164.Name)), c225] (State.mk x164.Name l187) M226 from ⟨_, rfl, l213, h227⟩) hh235
            exact ⟨rfl, ⟨c25, M236, (ok.pk 3 [2, 0] rfl (by decide)), E.keep [0, 5, 7, 8], h237⟩⟩
  replace hF := cond_t hc50 hF
  replace E := E.upd 41 hc50 rfl
  refine lv E ok (y_move rfl) fun a E => ?_
  obtain ⟨s51, e52, hF⟩ := bnd hF
  refine lv E ok (y_sslice Try.underlying9 e52 rfl ⟨_, rfl⟩ rfl) fun a E => ?_
  obtain ⟨r53, e54, hF⟩ := bnd hF
  refine l_call E go_33 rfl (calqueref44_word_w N s51 (Nat.le_trans (slc_len e52) (Nat.le_trans (slc_len e36) ls_0)) e54 hG ok) rfl rfl ?_
  rintro _ w ⟨rfl, ok⟩
  refine ⟨_, rfl, fun a E => ?_⟩
  refine lv E ok (y_pickT rfl rfl) fun a E => lv E ok (y_assign rfl) fun a E => wn ?_
  obtain ⟨o55, hJ, hF⟩ := bnd hF
  refine c_mono (Q' := fun e a w => (Sum.elim (fun b56 => e = .normal ∧ ∃ c57 M58, Ok u m39 ([(b46, Obj.cells [(Value.string (bs r37.1.Kind)), c43, (Value.string (bs r37.1.Next))].toArray 51 (0, 0))] :: M58 :: S) w ∧ Env 88 a [(0, (Value.string (bs s_0))), (5, c57), (7, (Value.int .i64 n_22)), (8, (Value.int .i64 i_23))] ∧ NRow 54 2 oState_54 m39 c57 b56 M58) (fun b60 => e = .ret ∧ calqueref44_Parse_R u m0 S b60 a w)) o55) ?_ ?_
  rotate_left
  · clear hJ
    intro e a w hO
    rcases o55 with o55 | o55
    rotate_left
    · replace hF := elim_r hF
      obtain ⟨rfl, hret⟩ := hO
      refine b_ret <| t_ret <| b_ret <| t_ret ?_
      obtain rfl := sj hF
      exact step_o (by nofun) (sr ⟨rfl, hret⟩)
    replace hF := elim_l hF
    obtain ⟨rfl, c155, M156, ok, E, h157⟩ := hO
    refine b_norm <| t_norm <| c_region <| lv E ok (y_move rfl) fun a E => lv E ok (y_add rfl rfl (InR.inc r30 (InR.len ls_0) hc31)) fun a E => lv E ok (y_move rfl) fun a E => lv E ok (y_addw rfl rfl) fun a E => lv E ok (y_assign rfl) fun a E => ?_
    refine lv E ok (y_assign rfl) fun a E => wpList_nil <| b_norm <| t_norm <| c_region <| lv E ok (y_move rfl) fun a E => lv E ok (y_add rfl rfl (InR.inc r30 (InR.len ls_0) hc31)) fun a E => lv E ok (y_assign rfl) fun a E => ?_
    refine wpList_nil ?_
    obtain rfl := sj hF
    exact step_n ⟨m39, c155, M156, le_m0, (ok.pk 2 [1] rfl (by decide)), E.keep [0, 5, 6, 7, 8], h157, (InR.inc r30 (InR.len ls_0) hc31), (InR.wrap _ _), (InR.inc r30 (InR.len ls_0) hc31)⟩
  replace hF := hJ
  clear hJ
  refine c_if E rfl (fun hc61 => ?_) (fun hc61 => ?_)
  · replace hF := cond_t hc61 hF
    refine c_region <| lv E ok (y_move rfl) fun a E => lv E ok (y_move rfl) fun a E => ?_
    obtain ⟨s62, e63, hF⟩ := bnd hF
    refine lv E ok (y_sslice Try.underlying9 e63 rfl ⟨_, rfl⟩ rfl) fun a E => lv E ok (y_build (ps := [(0, .tmp 48)]) (qs := [(0, [(Value.string (bs s62))])]) (cs := [(Value.string (bs s62)), (Value.slice none 0 0)]) zero_54 places_54 rfl ⟨rfl, rfl, rfl, trivial⟩ rfl) fun a E => l_slit (R := pRaw) (xo := [.tmp 49]) (xs := [[(Value.string (bs s62)), (Value.slice none 0 0)]]) E ok sl_23 zero_54 rfl ⟨⟨_, rfl, rfl, ⟨rfl, ⟨rfl, rfl, trivial⟩⟩⟩, trivial⟩ rfl rfl rfl rfl fun c64 M65 a w E ok h66 => ?_
    replace ok : Ok u m39 (M26 :: M65 :: [(b46, Obj.cells [(Value.string (bs r37.1.Kind)), c43, (Value.string (bs r37.1.Next))].toArray 51 (0, 0))] :: S) w := (ok.pk 3 [2, 0, 1] rfl (by decide))
    obtain ⟨l67, e68, hF⟩ := bnd hF
    refine l_appN (R := oState_54) E ok.addnil.swap2 sl_23 Try.underlying23 h27 (SrcOK.ofRow h66 1 rfl ok) ⟨_, rfl, (Nat.le_trans (slc_len e63) (Nat.le_trans (slc_len e36) ls_0)), ORow.nil⟩ e68 ⟨_, zero_54, rfl⟩ rfl rfl rfl rfl fun c69 M70 a w E ok h71 => lv E ok (y_assign rfl) fun a E => wpList_nil ?_
    obtain rfl := sj hF
    exact (sl ⟨rfl, ⟨c69, M70, (ok.pk 3 [2, 0] rfl (by decide)), E.keep [0, 5, 7, 8], h71⟩⟩)
  replace hF := cond_f hc61 hF
  refine sg <| lv E ok (y_move rfl) fun a E => lv E ok (y_move rfl) fun a E => bsplit r37.2 (fun hc72 => ?_) (fun hc72 => ?_)
  rotate_left
  · replace hF := cond_f hc72 hF
    replace E := E.upd 54 hc72 rfl
    refine ls E fun a E => ls E fun a E => ls E fun a E => lv E ok (y_pickF rfl rfl) fun a E => lv E ok (y_assign rfl) fun a E => wn <| c_if E rfl (fun h => by cases h) (fun _ => ?_)
    refine sg <| lv E ok (y_move rfl) fun a E => lv E ok (y_assign rfl) fun a E => lv E ok (y_assign rfl) fun a E => lv E ok (y_assign rfl) fun a E => wn ?_
    refine wp_ret ?_
    have hret : calqueref44_Parse_R u m0 S ([], n_22, 3) a w := ⟨m39, (.slice none 0 0), le_m0, ok.drop.drop, E.d, ⟨rv_t E rfl, rv_t E rfl, rv_t E rfl, trivial⟩, pL_nil, r29, (show InR .i64 (3) by decide)⟩
    obtain rfl := sj hF
    exact (sr ⟨rfl, hret⟩)
  replace hF := cond_t hc72 hF
  replace E := E.upd 54 hc72 rfl
  refine lv E ok (y_move rfl) fun a E => lv E ok (y_lenN sl_23 h27 rfl) fun a E => lv E ok (y_gtr rfl rfl) fun a E => lv E ok (y_pickT rfl rfl) fun a E => lv E ok (y_assign rfl) fun a E => wn <| c_if E rfl (fun hc73 => ?_) (fun hc73 => ?_)
  rotate_left
  · replace hF := cond_f hc73 hF
    refine sg <| lv E ok (y_move rfl) fun a E => lv E ok (y_assign rfl) fun a E => lv E ok (y_assign rfl) fun a E => lv E ok (y_assign rfl) fun a E => wn ?_
    refine wp_ret ?_
    have hret : calqueref44_Parse_R u m0 S ([], n_22, 3) a w := ⟨m39, (.slice none 0 0), le_m0, ok.drop.drop, E.d, ⟨rv_t E rfl, rv_t E rfl, rv_t E rfl, trivial⟩, pL_nil, r29, (show InR .i64 (3) by decide)⟩
    obtain rfl := sj hF
    exact (sr ⟨rfl, hret⟩)
  replace hF := cond_t hc73 hF
  obtain ⟨o74, hJ, hF⟩ := bnd hF
  refine c_mono (Q' := fun e a w => e = .normal ∧ ∃ c75 M76, Ok u m39 ([(b46, Obj.cells [(Value.string (bs r37.1.Kind)), c43, (Value.string (bs r37.1.Next))].toArray 51 (0, 0))] :: M76 :: S) w ∧ Env 88 a [(0, (Value.string (bs s_0))), (5, c75), (7, (Value.int .i64 n_22)), (8, (Value.int .i64 i_23))] ∧ NRow 54 2 oState_54 m39 c75 o74 M76) ?_ ?_
  rotate_left
  · clear hJ
    intro e a w hO
    obtain ⟨rfl, c152, M153, ok, E, h154⟩ := hO
    obtain rfl := sj hF
    exact (sl ⟨rfl, ⟨c152, M153, ok, E.keep [0, 5, 7, 8], h154⟩⟩)
  replace hF := hJ
  clear hJ
  obtain ⟨x78, e79, hF⟩ := bnd hF
  obtain ⟨l101, e102, hF⟩ := bnd hF
  obtain ⟨x106, e107, hF⟩ := bnd hF
  obtain rfl := sj hF
  replace ok : Ok u m39 (M26 :: [(b46, Obj.cells [(Value.string (bs r37.1.Kind)), c43, (Value.string (bs r37.1.Next))].toArray 51 (0, 0))] :: S) w := (ok.pk 2 [1, 0] rfl (by decide))
  obtain ⟨cs118, c119, M120, M121, M122, ok, hr123, hx124, he125, hh126⟩ := NRow.open h27 e79 ok
  obtain ⟨c128, rfl, l127, h129⟩ := he125
  refine k_begin [10, 11] (Cls u m39 (M120 :: [(b46, Obj.cells [(Value.string (bs r37.1.Kind)), c43, (Value.string (bs r37.1.Next))].toArray 51 (0, 0))] :: [])) (Cls u m39 ([(b46, Obj.cells [(Value.string (bs r37.1.Kind)), c43, (Value.string (bs r37.1.Next))].toArray 51 (0, 0))] :: [])) (by kernel_rfl) ?_
  intro w hw
  replace ok := okdrew ok hw
  clear hw
  have le_m39 := Mem.le.refl m39
  refine k_next (cl1 ⟨m39, _, le_m39, ok, ⟨memAt 0 rfl, memAt 3 rfl, trivial⟩⟩ ⟨m39, _, le_m39, ok, ⟨memAt 3 rfl, trivial⟩⟩) fun hT => kt 0 E rfl hT (y_move rfl) fun a E => kt 1 E rfl hT (y_move rfl) fun a E => kt 2 E rfl hT (y_lenH sl_23 hr123 hh126 rfl) fun a E => kt 3 E rfl hT (y_sub rfl rfl (InR.dec (NRow.InR h27) (show InR .i64 (0) by decide) hc73)) fun a E => kt 4 E rfl hT (y_move rfl) fun a E => kt 5 E rfl hT (y_move rfl) fun a E => kt 6 E rfl hT (y_lenH sl_23 hr123 hh126 rfl) fun a E => ?_
  refine kt 7 E rfl hT (y_sub rfl rfl (InR.dec (NRow.InR h27) (show InR .i64 (0) by decide) hc73)) fun a E => ?_
  obtain ⟨b130, o131, hp132, yy133⟩ := rawAt sl_23 hr123 hx124 (P := Try.prog) (X := .tmp 63) (I := .tmp 66) (kd := .i64) (ev_of E rfl) (ev_of E rfl)
  refine kt 8 E rfl hT (yy133 _ _) fun a E => kt 9 E rfl hT (y_fieldAddr fo_54_1 rfl) fun a E => ?_
  obtain ⟨hl134, hh135⟩ := rawGet hr123 hx124 hp132 (by decide)
  refine k_takeN 10 E rfl (by kernel_rfl) nP hT (y_load one_52 rfl (Holds.sub 1 1 (Holds.crow hh135 0 rfl))) rfl rfl fun a E => k_takeN 11 E rfl (by kernel_rfl) nP hT (y_loadAgg (cs := [(Value.string (bs r37.1.Kind)), c43, (Value.string (bs r37.1.Next))]) agg_51 rfl rfl (Holds.cown 1 rfl rfl)) rfl rfl fun a E => k_all [12] (by kernel_rfl) rfl (one_c ?_)
  · refine wpOp_of_list (o := _) rfl <| l_slit (R := pRule) (xo := [.tmp 70]) (xs := ([r37.1] : List (Rule))) E ok sl_52 zero_51 rfl ⟨⟨_, rfl, rfl, ⟨_, rfl, l42, h44, l45⟩⟩, trivial⟩ rfl rfl rfl rfl fun c136 M137 a w E ok h138 => wn <| k_next (cl1 ⟨m39, _, le_m39, ok, ⟨memAt 1 rfl, memAt 4 rfl, trivial⟩⟩ ⟨m39, _, le_m39, ok, ⟨memAt 4 rfl, trivial⟩⟩) fun hT => k_all [13] (by kernel_rfl) rfl (one_c ?_)
    · refine wpOp_of_list (o := _) rfl <| l_app (R := pRule) E ok 2 mRule sl_52 Try.underlying52 rfl h129 (SrcOK.ofRow h138 0 rfl ok) e102 ⟨_, zero_51, rfl⟩ rfl rfl rfl rfl fun c139 M140 a w E ok h141 => wn <| k_next (cl1 ⟨m39, _, le_m39, ok, ⟨memAt 1 rfl, memAt 4 rfl, trivial⟩⟩ ⟨m39, _, le_m39, ok, ⟨memAt 4 rfl, trivial⟩⟩) fun hT => ?_
      obtain ⟨b142, o143, hp144, yy145⟩ := rawAt sl_23 hr123 hx124 (P := Try.prog) (X := .tmp 59) (I := .tmp 62) (kd := .i64) (ev_of E rfl) (ev_of E rfl)
      refine kt 14 E rfl hT (yy145 _ _) fun a E => kt 15 E rfl hT (y_fieldAddr fo_54_1 rfl) fun a E => k_all [16] (by kernel_rfl) rfl (one_c ?_)
      · refine wpOp_of_list (o := _) rfl <| l_storeN (f := 1) (c' := [(Value.string (bs x78.Name)), c139]) E ok 1 rfl hr123 hx124 hp144 rfl rfl rfl inf_52 (ORow.cells h141) rfl rfl ⟨(ORow.one h141), trivial⟩ rfl ⟨rfl, (ORow.one h141), trivial⟩ rfl fun M146 w ok hr147 hx148 => ?_
        have hh149 := NHole.set (c' := [(Value.string (bs x78.Name)), c139]) hh126
        refine wn <| k_next (cl2 (by kernel_rfl) ⟨m39, _, le_m39, ok, ⟨memAt 4 rfl, trivial⟩⟩) fun hT => k_done (by kernel_rfl) ?_
        replace ok : Ok u m39 (M146 :: M140 :: M122 :: M137 :: [(b46, Obj.cells [(Value.string (bs r37.1.Kind)), c43, (Value.string (bs r37.1.Next))].toArray 51 (0, 0))] :: S) w := (ok.pk 5 [1, 2, 3, 0, 4] rfl (by decide))
        obtain ⟨M150, ok, h151⟩ := NRow.close e79 ok hr147 hx148 (show oState_54 m39 [(Value.string (bs x78.Name)), c139] (State.mk x78.Name l101) M140 from ⟨_, rfl, l127, h141⟩) hh149
        exact ⟨rfl, ⟨c25, M150, (ok.pk 3 [2, 0] rfl (by decide)), E.keep [0, 5, 7, 8], h151⟩⟩
end Go.Proofs.Ytmmioinglmeoiaa
namespace Go.Proofs.Ytmmioinglmeoiaa
open Go.X
def calquelaw44_ScanParse (N : Nat) (text_0 : List UInt8) : Option Bool :=
  (calquelaw44_awake N ).bind fun r1 =>
  bif (!r1) then
    some false
  else
    bif (decide ((text_0.length : Int) > 2000)) then
      some true
    else
      (scan_Parse N text_0).bind fun r5 =>
      (calqueref44_Parse N text_0).bind fun r12 =>
      bif (r5.2.1 != r12.2.1) then
        some false
      else
        bif (r5.2.2 != r12.2.2) then
          some false
        else
          (calquelaw44_theirs N r5.1).bind fun r21 =>
          (calqueref44_Same N r21 r12.1).bind fun r26 =>
          bif (!r26) then
            some false
          else
            (scan_Print N r5.1).bind fun r29 =>
            bif (r5.2.2 != 0) then
              some true
            else
              bif (r29.2 == 0) then
                some (r29.1 == text_0)
              else
                some false
end Go.Proofs.Ytmmioinglmeoiaa
namespace Go.Proofs.Ytmmioinglmeoiaa
open Go.X
theorem go_10 : goB Try.prog 10 = true := by kernel_rfl
theorem go_18 : goB Try.prog 18 = true := by kernel_rfl
theorem go_19 : goB Try.prog 19 = true := by kernel_rfl
theorem go_20 : goB Try.prog 20 = true := by kernel_rfl
def calquelaw44_ScanParse_R (u : World) (m0 : Mem) (S : Segs) (r : Bool) (a : Act) (w : World) : Prop :=
  Ok u m0 S w ∧ a.defers = [] ∧ RVs Try.prog a w [.t 2 (.bool r)]
set_option maxHeartbeats 4000000 in
set_option maxRecDepth 100000 in
theorem calquelaw44_ScanParse_w {u : World} {m0 : Mem} {S : Segs} {w : World} (N : Nat) (text_0 : List UInt8) (ltext_0 : text_0.length ≤ LIMS) {r : Bool} (hF : calquelaw44_ScanParse N text_0 = some r) (hG : Glob u) (ok : Ok u m0 S w) :
    Calls Try.prog 4 [Value.string (bs text_0)].toArray w fun e w' => (e = .returned (.bool r) ∧ Ok u m0 S w') := by
  have hb0 := ok.base
  have le_m0 := Mem.le.refl m0
  unfold calquelaw44_ScanParse at hF
  have fin : ∀ a w, calquelaw44_ScanParse_R u m0 S r a w → bodyPost Try.prog Try.f4 (fun e w' => (e = .returned (.bool r) ∧ Ok u m0 S w')) .ret a w := by
    intro a w h
    obtain ⟨ok, hd, hrv⟩ := h
    exact c_ret2 [.t 2 (.bool r)] hd rfl hrv ⟨rfl, ok⟩
  refine enter Try.func4 rfl rfl rfl fun a E => sg <| lv E ok (y_assign rfl) fun a E => wn <| wp_seq <| wp_seq ?_
  refine c_region ?_
  obtain ⟨r1, e2, hF⟩ := bnd hF
  refine l_call E go_10 rfl (calquelaw44_awake_w N  e2 hG ok) rfl rfl ?_
  rintro _ w ⟨rfl, ok⟩
  refine ⟨_, rfl, fun a E => ?_⟩
  refine lv E ok (y_not rfl) fun a E => wn <| c_if E rfl (fun hc3 => ?_) (fun hc3 => ?_)
  · replace hF := cond_t hc3 hF
    refine sg <| lv E ok (y_assign rfl) fun a E => wn <| wp_ret <| t_ret ?_
    have hret : calquelaw44_ScanParse_R u m0 S false a w := ⟨ok, E.d, ⟨rv_t E rfl, trivial⟩⟩
    obtain rfl := sj hF
    exact fin _ _ hret
  replace hF := cond_f hc3 hF
  refine wp_skip <| t_norm <| wp_seq <| sg <| lv E ok (y_move rfl) fun a E => lv E ok (y_slen Try.underlying9 rfl) fun a E => lv E ok (y_gtr rfl rfl) fun a E => ?_
  refine wn <| c_if E rfl (fun hc4 => ?_) (fun hc4 => ?_)
  · replace hF := cond_t hc4 hF
    refine sg <| lv E ok (y_assign rfl) fun a E => wn <| wp_ret <| t_ret ?_
    have hret : calquelaw44_ScanParse_R u m0 S true a w := ⟨ok, E.d, ⟨rv_t E rfl, trivial⟩⟩
    obtain rfl := sj hF
    exact fin _ _ hret
  replace hF := cond_f hc4 hF
  refine wp_skip <| t_norm <| sg <| lv E ok (y_move rfl) fun a E => ?_
  obtain ⟨r5, e6, hF⟩ := bnd hF
  refine l_call E go_17 rfl (scan_Parse_w N text_0 ltext_0 e6 hG ok) rfl rfl ?_
  rintro _ w ⟨m7, c8, rfl, hle, ok, h9, r10, r11⟩
  have le_m0 := le_m0.trans hle
  refine ⟨_, rfl, fun a E => ?_⟩
  refine lv E ok (y_move rfl) fun a E => lv E ok (y_extract rfl rfl) fun a E => lv E ok (y_extract rfl rfl) fun a E => lv E ok (y_extract rfl rfl) fun a E => lv E ok (y_assign rfl) fun a E => lv E ok (y_assign rfl) fun a E => lv E ok (y_assign rfl) fun a E => wpList_nil ?_
  refine t_norm <| sg <| lv E ok (y_move rfl) fun a E => ?_
  obtain ⟨r12, e13, hF⟩ := bnd hF
  refine l_call E go_20 rfl (calqueref44_Parse_w N text_0 ltext_0 e13 hG ok) rfl rfl ?_
  rintro _ w ⟨m14, c15, rfl, hle, ok, h16, r17, r18⟩
  have le_m0 := le_m0.trans hle
  have h9 := (mL mState).up hle h9
  refine ⟨_, rfl, fun a E => ?_⟩
  refine lv E ok (y_move rfl) fun a E => lv E ok (y_extract rfl rfl) fun a E => lv E ok (y_extract rfl rfl) fun a E => lv E ok (y_extract rfl rfl) fun a E => lv E ok (y_assign rfl) fun a E => lv E ok (y_assign rfl) fun a E => lv E ok (y_assign rfl) fun a E => wpList_nil ?_
  refine t_norm <| wp_seq <| sg <| lv E ok (y_move rfl) fun a E => lv E ok (y_move rfl) fun a E => lv E ok (y_neq rfl rfl) fun a E => lv E ok (y_move rfl) fun a E => ?_
  refine bsplit (r5.2.1 != r12.2.1) (fun hc19 => ?_) (fun hc19 => ?_)
  · replace hF := cond_t hc19 hF
    replace E := E.upd 31 hc19 rfl
    refine ls E fun a E => ls E fun a E => ls E fun a E => lv E ok (y_pickT rfl rfl) fun a E => lv E ok (y_move rfl) fun a E => ls E fun a E => ls E fun a E => ls E fun a E => ?_
    refine ls E fun a E => ls E fun a E => lv E ok (y_pickT rfl rfl) fun a E => wn <| c_if E rfl (fun _ => ?_) (fun h => by cases h)
    refine sg <| lv E ok (y_assign rfl) fun a E => wn <| wp_ret <| t_ret ?_
    have hret : calquelaw44_ScanParse_R u m0 S false a w := ⟨(ok).down hb0 le_m0, E.d, ⟨rv_t E rfl, trivial⟩⟩
    obtain rfl := sj hF
    exact fin _ _ hret
  replace hF := cond_f hc19 hF
  replace E := E.upd 31 hc19 rfl
  refine lv E ok (y_move rfl) fun a E => lv E ok (y_move rfl) fun a E => lv E ok (y_neq rfl rfl) fun a E => lv E ok (y_pickF rfl rfl) fun a E => lv E ok (y_move rfl) fun a E => bsplit (r5.2.2 != r12.2.2) (fun hc20 => ?_) (fun hc20 => ?_)
  · replace hF := cond_t hc20 hF
    replace E := E.upd 36 hc20 rfl
    refine ls E fun a E => ls E fun a E => ls E fun a E => ls E fun a E => ls E fun a E => lv E ok (y_pickT rfl rfl) fun a E => wn ?_
    refine c_if E rfl (fun _ => ?_) (fun h => by cases h)
    refine sg <| lv E ok (y_assign rfl) fun a E => wn <| wp_ret <| t_ret ?_
    have hret : calquelaw44_ScanParse_R u m0 S false a w := ⟨(ok).down hb0 le_m0, E.d, ⟨rv_t E rfl, trivial⟩⟩
    obtain rfl := sj hF
    exact fin _ _ hret
  replace hF := cond_f hc20 hF
  replace E := E.upd 36 hc20 rfl
  refine lv E ok (y_move rfl) fun a E => ?_
  obtain ⟨r21, e22, hF⟩ := bnd hF
  refine l_call E go_19 rfl (calquelaw44_theirs_w N _ r5.1 h9 e22 hG ok) rfl rfl ?_
  rintro _ w ⟨m23, c24, rfl, hle, ok, h25⟩
  have le_m0 := le_m0.trans hle
  have h9 := (mL mState).up hle h9
  have h16 := (mL mState).up hle h16
  refine ⟨_, rfl, fun a E => ?_⟩
  refine lv E ok (y_move rfl) fun a E => ?_
  obtain ⟨r26, e27, hF⟩ := bnd hF
  refine l_call E go_18 rfl (calqueref44_Same_w N _ r21 h25 _ r12.1 h16 e27 hG ok) rfl rfl ?_
  rintro _ w ⟨rfl, ok⟩
  refine ⟨_, rfl, fun a E => ?_⟩
  refine lv E ok (y_not rfl) fun a E => lv E ok (y_pickF rfl rfl) fun a E => wn <| c_if E rfl (fun hc28 => ?_) (fun hc28 => ?_)
  · replace hF := cond_t hc28 hF
    refine sg <| lv E ok (y_assign rfl) fun a E => wn <| wp_ret <| t_ret ?_
    have hret : calquelaw44_ScanParse_R u m0 S false a w := ⟨(ok).down hb0 le_m0, E.d, ⟨rv_t E rfl, trivial⟩⟩
    obtain rfl := sj hF
    exact fin _ _ hret
  replace hF := cond_f hc28 hF
  refine wp_skip <| t_norm <| sg <| lv E ok (y_move rfl) fun a E => ?_
  obtain ⟨r29, e30, hF⟩ := bnd hF
  refine l_call E go_12 rfl (scan_Print_w N _ r5.1 h9 e30 hG ok) rfl rfl ?_
  rintro _ w ⟨⟨rfl, ok⟩, l31, r32⟩
  refine ⟨_, rfl, fun a E => ?_⟩
  refine lv E ok (y_move rfl) fun a E => lv E ok (y_extract rfl rfl) fun a E => lv E ok (y_extract rfl rfl) fun a E => lv E ok (y_assign rfl) fun a E => lv E ok (y_assign rfl) fun a E => wn <| wp_seq ?_
  refine c_region <| lv E ok (y_move rfl) fun a E => lv E ok (y_neq rfl rfl) fun a E => lv E ok (y_move rfl) fun a E => bsplit (r5.2.2 != 0) (fun hc33 => ?_) (fun hc33 => ?_)
  · replace hF := cond_t hc33 hF
    replace E := E.upd 50 hc33 rfl
    refine ls E fun a E => ls E fun a E => ls E fun a E => ls E fun a E => ls E fun a E => ls E fun a E => ls E fun a E => lv E ok (y_pickT rfl rfl) fun a E => ?_
    refine lv E ok (y_assign rfl) fun a E => wn <| wp_ret ?_
    have hret : calquelaw44_ScanParse_R u m0 S true a w := ⟨(ok).down hb0 le_m0, E.d, ⟨rv_t E rfl, trivial⟩⟩
    obtain rfl := sj hF
    exact fin _ _ hret
  replace hF := cond_f hc33 hF
  replace E := E.upd 50 hc33 rfl
  refine lv E ok (y_move rfl) fun a E => lv E ok (y_eql rfl rfl) fun a E => lv E ok (y_move rfl) fun a E => bsplit (r29.2 == 0) (fun hc34 => ?_) (fun hc34 => ?_)
  · replace hF := cond_t hc34 hF
    replace E := E.upd 53 hc34 rfl
    refine lv E ok (y_move rfl) fun a E => lv E ok (y_move rfl) fun a E => lv E ok (y_seql rfl rfl) fun a E => lv E ok (y_pickT rfl rfl) fun a E => lv E ok (y_pickF rfl rfl) fun a E => lv E ok (y_assign rfl) fun a E => wn ?_
    refine wp_ret ?_
    have hret : calquelaw44_ScanParse_R u m0 S (r29.1 == text_0) a w := ⟨(ok).down hb0 le_m0, E.d, ⟨rv_t E rfl, trivial⟩⟩
    obtain rfl := sj hF
    exact fin _ _ hret
  replace hF := cond_f hc34 hF
  replace E := E.upd 53 hc34 rfl
  refine ls E fun a E => ls E fun a E => ls E fun a E => lv E ok (y_pickF rfl rfl) fun a E => lv E ok (y_pickF rfl rfl) fun a E => lv E ok (y_assign rfl) fun a E => wn ?_
  refine wp_ret ?_
  have hret : calquelaw44_ScanParse_R u m0 S false a w := ⟨(ok).down hb0 le_m0, E.d, ⟨rv_t E rfl, trivial⟩⟩
  obtain rfl := sj hF
  exact fin _ _ hret
end Go.Proofs.Ytmmioinglmeoiaa
namespace Go.X
open Go.ChangeShapes Go.RowKit
def hm (W : World) : Mem := fun b => W.heap[b]?
theorem Ok.start (W : World) : Ok W (hm W) [] W :=
  ⟨rfl, rfl, rfl, fun _ _ h => h, fun _ (h : _ ∈ []) => absurd h List.not_mem_nil, List.Pairwise.nil, fun _ _ h => h⟩
theorem Ok.below {W W' : World} {S : Segs} (h : Ok W (hm W) S W') : Below W.heap.size W W' := by
  refine ⟨h.os, h.tape, h.out, ?_, fun k hk => ?_⟩
  · by_cases h0 : W.heap.size = 0
    · omega
    · have := h.ro (W.heap.size - 1) (W.heap[W.heap.size - 1]'(by omega)) (by unfold hm; simp)
      have := (Array.getElem?_eq_some_iff.1 this).1
      omega
  · have := h.ro k W.heap[k] (by unfold hm; simp [hk])
    rw [this]; simp [hk]
end Go.X
namespace Go.X
variable {H : Type} {enc : TypeId × Value → H}
end Go.X
namespace Go.X
open Go.ChangeShapes Go.RowKit
def OpnS {α : Type} (P : Program) (t : TypeId) (R : Rp α) (Q : α → Prop) : Prop :=
  ∀ {H : Type} {enc : TypeId × Value → H} {W : World} {base : Nat} {spare : Nat → Bool} {held : Bool} {fuel : Nat} {cs : List Value} {x : DataW H × List MemPlace},
    DataW.trod enc P W base spare held fuel t cs = some x → (∀ n ∈ x.1.weights P t, n ≤ reachBytes) → ∃ a : α, R (hm W) cs a ∧ Q a
section
variable {P : Program} {t : TypeId}
theorem s_str (ht : P.underlying t = some .string) : OpnS P t pS (fun s => s.length ≤ reachBytes) := fun h hz => by
  obtain ⟨s, rfl, rfl, hs⟩ := DataW.trod_string ht h
  refine ⟨s.data.toList, ⟨rfl, hs⟩, hz _ ?_⟩
  simp [DataW.weights]
end
section
variable {H : Type} {enc : TypeId × Value → H}
theorem returns_and_sized {a : Assume} {C : Checked} {os : Os} {f : FuncId} {fn : Func} {s : ChangeSpec} {conds : List PathCond} {apart fresh handsOn again : Bool} {X : World → Array Value → Prop}
    (own : ownKnob C.prog.godebug = none) (started : os.Started) (noInit : C.prog.inits.idxOf? f = none) (hfn : C.prog.funcs[f]? = some fn)
    (witness : ∃ (w : World) (tape : Tape) (i : Input), w.os = os ∧ (w.forCall tape i).Shaped C.prog ∧ i.vars = [] ∧ Input.okWide C.prog (w.forCall tape i) .any w.heap.size f i ∧
      ((s.pre enc C.prog fn conds apart (w.forCall tape i).memory i.args ∧ X (w.forCall tape i).memory i.args) ∧ sizedMet enc C.prog fn (OpenSpec.ofChange s) apart (w.forCall tape i).memory i.args) ∧ a.holds C.prog (lone (Frame.enter C.prog f i.args .normal) [] (w.forCall tape i)))
    (contract : ∀ (W : World) (base : Nat) (args : Array Value) (ds gs : List (DataW H)) (before : List MemPlace),
      (∀ (j : Nat) t v, fn.params[j]? = some t → args[j]? = some v → Value.okWide C.prog W .any base t v) →
      DataW.Whole enc C.prog fn.params.toList s.vars apart W args.toList ds gs before → W.ShapedOpen C.prog →
      (DataW.weightsEach C.prog (fn.params.toList ++ s.plain.varTypes C.prog) (ds ++ gs)).all (· ≤ reachBytes) = true →
      Calls C.prog f args W fun e W' => ∃ v, e = .returned v ∧ s.post enc C.prog fn apart fresh handsOn again W args v W') :
    ReturnsInHanded a C os f .any (fun w args => (s.pre enc C.prog fn conds apart w args ∧ X w args) ∧ sizedMet enc C.prog fn (OpenSpec.ofChange s) apart w args) (s.post enc C.prog fn apart fresh handsOn again) := by
  refine returnsInHanded_of_calls own started noInit witness ?_
  intro w tape i _ hsh _ hok hpre _
  obtain ⟨_, _, _, fn', hfn', _, _, _, _, hval⟩ := hok
  have e : fn' = fn := Option.some.inj (hfn'.symm.trans hfn)
  subst e
  obtain ⟨⟨⟨ds, gs, before, hw, _⟩, _⟩, hz⟩ := hpre
  have hw' := DataW.Whole.of_heap (w' := w.forCall tape i) (by rfl) hw
  refine (contract (w.forCall tape i) w.heap.size i.args ds gs before hval hw' hsh (hz.weights hw)).mono fun e W' ⟨v, he, hp⟩ => ?_
  subst he
  exact ChangeSpec.post_blind hp
theorem returns_sized6 {a : Assume} {C : Checked} {os : Os} {f : FuncId} {fn : Func} {s : ChangeSpec} {conds : List PathCond} {apart fresh handsOn again : Bool}
    (own : ownKnob C.prog.godebug = none) (started : os.Started) (noInit : C.prog.inits.idxOf? f = none) (hfn : C.prog.funcs[f]? = some fn)
    (witness : ∃ (w : World) (tape : Tape) (i : Input), w.os = os ∧ (w.forCall tape i).Shaped C.prog ∧ i.vars = [] ∧ Input.okWide C.prog (w.forCall tape i) .any w.heap.size f i ∧
      s.pre6 enc C.prog fn conds apart (w.forCall tape i).memory i.args ∧ a.holds C.prog (lone (Frame.enter C.prog f i.args .normal) [] (w.forCall tape i)))
    (contract : ∀ (W : World) (base : Nat) (args : Array Value) (ds gs : List (DataW H)) (before : List MemPlace),
      (∀ (j : Nat) t v, fn.params[j]? = some t → args[j]? = some v → Value.okWide C.prog W .any base t v) →
      DataW.Whole enc C.prog fn.params.toList s.vars apart W args.toList ds gs before → W.ShapedOpen C.prog →
      (DataW.weightsEach C.prog (fn.params.toList ++ s.plain.varTypes C.prog) (ds ++ gs)).all (· ≤ reachBytes) = true →
      Calls C.prog f args W fun e W' => ∃ v, e = .returned v ∧ s.post enc C.prog fn apart fresh handsOn again W args v W') :
    ReturnsInHanded a C os f .any (s.pre6 enc C.prog fn conds apart) (s.post enc C.prog fn apart fresh handsOn again) := by
  refine returnsInHanded_of_calls own started noInit witness ?_
  intro w tape i _ hsh _ hok hpre _
  obtain ⟨_, _, _, fn', hfn', _, _, _, _, hval⟩ := hok
  have e : fn' = fn := Option.some.inj (hfn'.symm.trans hfn)
  subst e
  obtain ⟨⟨ds, gs, before, hw, _⟩, hz⟩ := hpre
  have hw' := DataW.Whole.of_heap (w' := w.forCall tape i) (by rfl) hw
  refine (contract (w.forCall tape i) w.heap.size i.args ds gs before hval hw' hsh (hz.weights hw)).mono fun e W' ⟨v, he, hp⟩ => ?_
  subst he
  exact ChangeSpec.post_blind hp
end
end Go.X
namespace Go.X
open Go.ChangeShapes Go.RowKit
end Go.X
namespace Go.X
open Go.ChangeShapes Go.RowKit
end Go.X
namespace Go.Proofs.Ytmmioinglmeoiaa
open Go.ChangeShapes Go.WideShapes Go.ChangeAt Go.RowKit Go.X
theorem own : ownKnob Try.prog.godebug = none := by kernel_rfl
theorem laidOut : laidOutB Try.prog = true := by kernel_rfl
theorem shut_true {H : Type} {enc : TypeId × Value → H} {W : World} {base : Nat} {sp : Nat → Bool} {held : Bool} (b : Bool) : DataW.Trod enc Try.prog W base sp held 4 (.bool b) (.lit (.bool b)) [] :=
  ⟨1, by simp [DataW.trod, Value.cells, Try.underlying4]⟩
theorem glob_of {W : World} (h : W.ShapedOpen Try.prog) : Glob W := cell_of_shapedOpen_int (g := 0) (t := 3) (zero := #[.int .i64 0]) h (of_decide_eq_true (by kernel_rfl)) (by kernel_rfl) (by kernel_rfl) (by kernel_rfl) (by kernel_rfl) Try.underlying3
set_option maxRecDepth 100000 in
theorem scanParse_lifted (hp : ∀ x0, (x0.length ≤ reachBytes) → ∃ N, calquelaw44_ScanParse N x0 = some true) (os : Os) (started : os.Started) (H : Type) (enc : TypeId × Value → H) :
    ReturnsInHanded {} Try.checked os 4 .any (Rows.scanParseSpec.pre6 enc Try.prog Try.f4 Rows.scanParseRow.domain false) (Rows.scanParseSpec.post enc Try.prog Try.f4 false true false false) := by
  refine returns_sized6 (C := Try.checked) own started (by kernel_rfl) Try.func4
    (ChangeSpec.witness6 (enc := enc) (C := Try.checked) false ⟨#[], #[.string (bs [])], []⟩ 8 (by kernel_rfl) (by kernel_rfl) (by kernel_rfl) (by kernel_rfl)) ?_
  intro W base args ds gs before hval0 hW hsh hz
  have hval : ∀ (j : Nat) t v, Try.f4.params[j]? = some t → args[j]? = some v → Value.okWide Try.prog W .any base t v := hval0
  have hW' := hW
  obtain ⟨p, q, hA0, hV, rfl, _, _⟩ := hW
  have hA : DataW.TrodAll enc Try.prog W 0 (fun _ => true) true Try.f4.params.toList args.toList ds p := hA0
  rw [Try.params4] at hA hval
  obtain ⟨v0, d0, rfl, rfl, k0⟩ := trodAll_one hA
  obtain ⟨p0, hp0⟩ : ∃ p0, p0 = p := ⟨_, rfl⟩
  subst hp0
  obtain ⟨rfl, rfl⟩ := trodVars_none hV
  obtain ⟨fu0, hf0⟩ := id k0
  have hz0 : ∀ n ∈ d0.weights Try.prog 9, n ≤ reachBytes := fun n hn => by
    have := List.all_eq_true.1 hz n (DataW.weights_mem_each (j := 0) (t := 9) (d := d0) (by rw [Try.params4]; rfl) rfl n hn)
    simpa using this
  obtain ⟨s0, rfl⟩ := okWide_string Try.underlying9 (hval 0 9 v0 rfl rfl)
  obtain ⟨a0, r0, q0⟩ := (s_str Try.underlying9) hf0 hz0
  obtain ⟨e0, l0⟩ := pS_inv (show pS (hm W) [.string s0] a0 from r0)
  clear hA0 hval0
  have hlt : ∀ x ∈ p0, x.block < W.heap.size := fun x hx => by
    refine hW'.lt x ?_
    simpa using hx
  have hlt0 : ∀ x ∈ p0, x.block < W.heap.size := fun x hx => hlt x (by simp [hx])
  obtain ⟨N, hN⟩ := hp a0 q0
  have hw := calquelaw44_ScanParse_w N a0 l0 hN (glob_of hsh) (Ok.start W)
  rw [← e0] at hw
  refine hw.mono fun e W' ⟨he, ok⟩ => ?_
  subst he
  have hn := ok.below
  have t0 := Below.trod laidOut (by kernel_rfl) (of_decide_eq_true (by kernel_rfl)) k0 hn hlt0
  refine ⟨_, rfl, _, _, _, [], p0, [], hW', ?_, ?_, rfl, hn.frame _, fun h => by cases h⟩
  · exact trodAll_mk1 (shut_true true)
  · exact trodAll_mk1 t0
theorem scanParse_holds (hp : ∀ x0, (x0.length ≤ reachBytes) → ∃ N, calquelaw44_ScanParse N x0 = some true) : Rows.ScanParseSaid :=
  OpenClaim.holds_of_wide 4 Try.f4 rfl rfl rfl rfl rfl rfl rfl ⟨rfl, rfl, rfl, rfl, rfl⟩ rfl rfl rfl rfl rfl (by kernel_rfl) Try.func4 (by kernel_rfl)
    (of_decide_eq_true (by kernel_rfl)) (by unfold Func.isWrapper; rw [if_neg (of_decide_eq_false (by kernel_rfl))]; exact ⟨rfl, rfl⟩)
    (fun os started H enc _ => scanParse_lifted hp os started H enc)
end Go.Proofs.Ytmmioinglmeoiaa
namespace Go.X
end Go.X
namespace Go.X
def run {σ α β : Type} (f : σ → α → σ ⊕ β) (fin : σ → β) : σ → List α → β
  | s, [] => fin s
  | s, x :: xs => match f s x with
    | .inl s' => run f fin s' xs
    | .inr b => b
theorem iter_list {σ τ α β : Type} {body : τ → Option (τ ⊕ β)} (mkS : σ → Int → τ) (xs : List α) (f : σ → α → σ ⊕ β) (fin : σ → β) (I : Nat → σ → Prop)
    (h1 : ∀ s (k : Nat) x, xs[k]? = some x → I k s → body (mkS s k) = some (match f s x with | .inl s' => .inl (mkS s' ((k : Int) + 1)) | .inr b => .inr b) ∧ ∀ s', f s x = .inl s' → I (k + 1) s')
    (h2 : ∀ s, I xs.length s → body (mkS s xs.length) = some (.inr (fin s))) :
    ∀ N s, xs.length < N → I 0 s → iter body N (mkS s 0) = some (run f fin s xs) := by
  have key : ∀ j k N s, k + j = xs.length → j < N → I k s → iter body N (mkS s (k : Int)) = some (run f fin s (xs.drop k)) := by
    intro j
    induction j with
    | zero =>
      intro k N s hk hN hI
      obtain ⟨N, rfl⟩ : ∃ M, N = M + 1 := ⟨N - 1, by omega⟩
      have e : xs.drop k = [] := List.drop_eq_nil_of_le (by omega)
      obtain rfl : k = xs.length := by omega
      rw [iter, h2 s hI, e]; rfl
    | succ j ih =>
      intro k N s hk hN hI
      obtain ⟨N, rfl⟩ : ∃ M, N = M + 1 := ⟨N - 1, by omega⟩
      have hlt : k < xs.length := by omega
      have e : xs.drop k = xs[k] :: xs.drop (k + 1) := List.drop_eq_getElem_cons hlt
      obtain ⟨h3, h4⟩ := h1 s k _ (List.getElem?_eq_getElem hlt) hI
      rw [iter, h3, e]
      simp only [run]
      cases hf : f s xs[k] with
      | inl s' =>
        simp only
        rw [show ((k : Int) + 1) = ((k + 1 : Nat) : Int) by omega]
        exact ih (k + 1) N s' (by omega) (by omega) (h4 s' hf)
      | inr b => rfl
  intro N s hN hI
  have := key xs.length 0 N s (by omega) hN hI
  simpa using this
theorem iter_list' {σ τ α β : Type} {body : τ → Option (τ ⊕ β)} (mkS : σ → Int → τ) (xs : List α) (f : σ → α → σ ⊕ β) (fin : σ → β)
    (h1 : ∀ s (k : Nat) x, xs[k]? = some x → body (mkS s k) = some (match f s x with | .inl s' => .inl (mkS s' ((k : Int) + 1)) | .inr b => .inr b))
    (h2 : ∀ s, body (mkS s xs.length) = some (.inr (fin s))) (N : Nat) (s : σ) (hN : xs.length < N) : iter body N (mkS s 0) = some (run f fin s xs) :=
  iter_list mkS xs f fin (fun _ _ => True) (fun s k x hx _ => ⟨h1 s k x hx, fun _ _ => trivial⟩) (fun s _ => h2 s) N s hN trivial
theorem iter_find {α : Type} {body : Int → Option (Int ⊕ (Unit ⊕ Int))} (xs : List α) (p : α → Bool)
    (h1 : ∀ (k : Nat) x, xs[k]? = some x → body k = some (if p x then .inr (.inr k) else .inl ((k : Int) + 1))) (h2 : body xs.length = some (.inr (.inl ()))) (N : Nat) (hN : xs.length < N) :
    iter body N 0 = some (match xs.findIdx? p with | some k => .inr (k : Int) | none => .inl ()) := by
  have key : ∀ j k N, k + j = xs.length → j < N → iter body N (k : Int) = some (match (xs.drop k).findIdx? p with | some i => .inr ((k + i : Nat) : Int) | none => .inl ()) := by
    intro j
    induction j with
    | zero =>
      intro k N hk hN
      obtain ⟨N, rfl⟩ : ∃ M, N = M + 1 := ⟨N - 1, by omega⟩
      have e : xs.drop k = [] := List.drop_eq_nil_of_le (by omega)
      obtain rfl : k = xs.length := by omega
      rw [iter, h2, e]; rfl
    | succ j ih =>
      intro k N hk hN
      obtain ⟨N, rfl⟩ : ∃ M, N = M + 1 := ⟨N - 1, by omega⟩
      have hlt : k < xs.length := by omega
      have e : xs.drop k = xs[k] :: xs.drop (k + 1) := List.drop_eq_getElem_cons hlt
      rw [iter, h1 k _ (List.getElem?_eq_getElem hlt), e, List.findIdx?_cons]
      cases hp : p xs[k] with
      | true => simp
      | false =>
        simp only [Bool.false_eq_true, if_false]
        rw [show ((k : Int) + 1) = ((k + 1 : Nat) : Int) by omega, ih (k + 1) N (by omega) (by omega)]
        cases (xs.drop (k + 1)).findIdx? p with
        | none => rfl
        | some i => simp only [Option.map_some]; congr 3; omega
  have := key xs.length 0 N (by omega) hN
  simpa using this
theorem find_any {α : Type} (xs : List α) (p : α → Bool) : ((some (match xs.findIdx? p with | some k => Sum.inr (k : Int) | none => Sum.inl ()) : Option (Unit ⊕ Int)).bind fun o => Sum.elim (fun _ => some (-1)) (fun o => some o) o) = some (match xs.findIdx? p with | some k => (k : Int) | none => -1) := by
  cases xs.findIdx? p <;> rfl
theorem find_ge {α : Type} (xs : List α) (p : α → Bool) : decide ((match xs.findIdx? p with | some k => (k : Int) | none => -1) ≥ 0) = xs.any p := by
  cases h : xs.findIdx? p with
  | none =>
    have : xs.any p = false := by
      rw [List.any_eq_false]; intro x hx
      have := List.findIdx?_eq_none_iff.1 h x hx
      simp [this]
    rw [this]; rfl
  | some k =>
    have : xs.any p = true := by
      obtain ⟨x, hx, hp⟩ := List.findIdx?_eq_some_iff_getElem.1 h
      exact List.any_eq_true.2 ⟨_, List.getElem_mem x, by first | exact hx | exact hp.1 | exact hp⟩
    rw [this]
    simp
theorem run_all {α : Type} (p : α → Bool) : ∀ xs : List α, run (σ := Unit) (β := Unit ⊕ Bool) (fun _ x => if p x then .inl () else .inr (.inr false)) (fun _ => .inl ()) () xs = if xs.all p then .inl () else .inr false
  | [] => rfl
  | x :: xs => by
    unfold run
    cases h : p x with
    | true => simp only [if_true, run_all p xs, List.all_cons, h, Bool.true_and]
    | false => simp [h]
theorem iter_allL {α : Type} {body : Int → Option (Int ⊕ (Unit ⊕ Bool))} (p : α → Bool) (xs : List α) (h1 : ∀ (k : Nat) x, xs[k]? = some x → body k = some (if p x then .inl ((k : Int) + 1) else .inr (.inr false))) (h2 : body xs.length = some (.inr (.inl ()))) (N : Nat) (hN : xs.length < N) :
    iter body N 0 = some (if xs.all p then .inl () else .inr false) := by
  rw [← run_all p xs]
  refine iter_list' (σ := Unit) (fun _ k => k) xs _ _ (fun _ k x hx => ?_) (fun _ => h2) N () hN
  rw [h1 k x hx]
  cases p x <;> rfl
theorem getlt {α : Type} {xs : List α} {k : Nat} {x : α} (h : xs[k]? = some x) : k < xs.length := (List.getElem?_eq_some_iff.1 h).1
end Go.X
namespace Go.Proofs.Ytmmioinglmeoiaa
open Go.X
theorem iter_ind {σ β : Type} {body : σ → Option (σ ⊕ β)} (I : Nat → σ → Prop) (n : Nat) (Q : β → Prop) (hs : ∀ i s, i < n → I i s → ∃ s', body s = some (.inl s') ∧ I (i + 1) s') (hd : ∀ s, I n s → ∃ b, body s = some (.inr b) ∧ Q b) :
    ∀ N s, n < N → I 0 s → ∃ b, iter body N s = some b ∧ Q b := by
  have key : ∀ j k N s, k + j = n → j < N → I k s → ∃ b, iter body N s = some b ∧ Q b := by
    intro j
    induction j with
    | zero =>
      intro k N s hk hN hI
      obtain ⟨N, rfl⟩ : ∃ M, N = M + 1 := ⟨N - 1, by omega⟩
      have : k = n := by omega
      subst this
      obtain ⟨b, h1, h2⟩ := hd s hI
      exact ⟨b, by simp only [iter, h1], h2⟩
    | succ j ih =>
      intro k N s hk hN hI
      obtain ⟨N, rfl⟩ : ∃ M, N = M + 1 := ⟨N - 1, by omega⟩
      obtain ⟨s', h1, h2⟩ := hs k s (by omega) hI
      simp only [iter, h1]
      exact ih (k + 1) N s' (by omega) (by omega) h2
  exact fun N s hN hI => key n 0 N s (by omega) hN hI
theorem iter_meas {σ β : Type} {body : σ → Option (σ ⊕ β)} (I : σ → Prop) (μ : σ → Nat) (Q : β → Prop) (h : ∀ s, I s → (∃ s', body s = some (.inl s') ∧ I s' ∧ μ s' < μ s) ∨ ∃ b, body s = some (.inr b) ∧ Q b) :
    ∀ N s, μ s < N → I s → ∃ b, iter body N s = some b ∧ Q b := by
  intro N
  induction N with
  | zero => intro s hs; exact absurd hs (Nat.not_lt_zero _)
  | succ N ih =>
    intro s hs hI
    rcases h s hI with ⟨s', h1, h2, h3⟩ | ⟨b, h1, h2⟩
    · simp only [iter, h1]
      exact ih s' (by omega) h2
    · exact ⟨b, by simp only [iter, h1], h2⟩
theorem iter_at {σ β : Type} {body : σ → Option (σ ⊕ β)} (f : Nat → σ) (n : Nat) (b : β) {s0 : σ} (h0 : f 0 = s0) (hs : ∀ i, i < n → body (f i) = some (.inl (f (i + 1)))) (hd : body (f n) = some (.inr b)) (N : Nat) (hN : n < N) : iter body N s0 = some b := by
  subst h0
  obtain ⟨b', h1, rfl⟩ := iter_ind (fun i s => s = f i) n (fun b' => b' = b) (fun i s hi h => by subst h; exact ⟨_, hs i hi, rfl⟩) (fun s h => by subst h; exact ⟨_, hd, rfl⟩) N (f 0) hN rfl
  exact h1
theorem iter_atB {σ β γ : Type} {body : σ → Option (σ ⊕ β)} {g : β → Option γ} (f : Nat → σ) (n : Nat) (b : β) {s0 : σ} (h0 : f 0 = s0) {N : Nat} (hN : n < N) (hs : ∀ i, i < n → body (f i) = some (.inl (f (i + 1)))) (hd : body (f n) = some (.inr b)) : (iter body N s0).bind g = g b := by
  rw [iter_at f n b h0 hs hd N hN]; rfl
theorem ix {α : Type} (l : List α) (k : Nat) : idx l (k : Int) = l[k]? := by unfold idx; rw [if_pos (by omega)]; simp
theorem ixg {α : Type} {l : List α} {k : Nat} {x : α} (h : l[k]? = some x) : idx l (k : Int) = some x := by rw [ix, h]
theorem at_lt {α : Type} {l : List α} {k : Nat} (h : k < l.length) : ∃ x, l[k]? = some x := ⟨_, List.getElem?_eq_getElem h⟩
theorem dk {k n : Nat} (h : k < n) : decide ((k : Int) < (n : Int)) = true := decide_eq_true (by omega)
theorem dn (n : Nat) : decide ((n : Int) < (n : Int)) = false := decide_eq_false (by omega)
theorem take1 {α : Type} {l : List α} {k : Nat} {x : α} (h : l[k]? = some x) : l.take k ++ [x] = l.take (k + 1) := by rw [List.take_add_one, h]; rfl
theorem app1 {α : Type} {xs ys : List α} (h : xs.length + ys.length ≤ 4294967296) : app xs ys = some (xs ++ ys) := by unfold app; rw [if_pos (by unfold LIM; exact h)]
def ItOk (x : Item) : Prop := x.Text.length ≤ reachBytes ∧ (x.Ranges.length * 2 ≤ reachBytes ∧ ∀ y ∈ x.Ranges, InR .u8 y.From ∧ InR .u8 y.To) ∧ InR .i64 x.Least ∧ InR .i64 x.Most
def RlOk (r : Rule) : Prop := r.Kind.length ≤ reachBytes ∧ (r.Items.length * 64 ≤ reachBytes ∧ ∀ y ∈ r.Items, ItOk y) ∧ r.Next.length ≤ reachBytes
def StOk (x : State) : Prop := x.Name.length ≤ reachBytes ∧ (x.Rules.length * 56 ≤ reachBytes ∧ ∀ y ∈ x.Rules, RlOk y)
def ScOk (s : List State) : Prop := s.length * 40 ≤ reachBytes ∧ ∀ y ∈ s, StOk y
def szI (x : Item) : Nat := x.Text.length + x.Ranges.length
def szL (l : List Item) : Nat := l.length + (l.map szI).sum
def szR (r : Rule) : Nat := r.Kind.length + r.Next.length + szL r.Items
def szS (x : State) : Nat := x.Name.length + (x.Rules.length + (x.Rules.map szR).sum)
def sz (s : List State) : Nat := s.length + (s.map szS).sum
theorem mem_sum {α : Type} {f : α → Nat} : ∀ {l : List α} {x : α}, x ∈ l → f x ≤ (l.map f).sum
  | y :: l, x, h => by
    simp only [List.map_cons, List.sum_cons]
    rcases List.mem_cons.1 h with rfl | h
    · omega
    · have := mem_sum (f := f) h; omega
def SzL (N : Nat) (l : List Item) : Prop := l.length < N ∧ ∀ x ∈ l, x.Text.length < N ∧ x.Ranges.length < N
def SzR (N : Nat) (r : Rule) : Prop := r.Kind.length < N ∧ r.Next.length < N ∧ SzL N r.Items
def SzS (N : Nat) (x : State) : Prop := x.Name.length < N ∧ x.Rules.length < N ∧ ∀ r ∈ x.Rules, SzR N r
def Sz (N : Nat) (s : List State) : Prop := s.length < N ∧ ∀ x ∈ s, SzS N x
theorem SzL.of {N : Nat} {l : List Item} (h : szL l < N) : SzL N l := by
  unfold szL at h
  refine ⟨by omega, fun x hx => ?_⟩
  have : x.Text.length + x.Ranges.length ≤ (l.map szI).sum := mem_sum (f := szI) hx
  omega
theorem SzR.of {N : Nat} {r : Rule} (h : szR r < N) : SzR N r := by
  unfold szR at h
  exact ⟨by omega, by omega, SzL.of (by omega)⟩
theorem SzS.of {N : Nat} {x : State} (h : szS x < N) : SzS N x := by
  unfold szS at h
  refine ⟨by omega, by omega, fun r hr => SzR.of ?_⟩
  have := mem_sum (f := szR) hr
  omega
theorem Sz.of {N : Nat} {s : List State} (h : sz s < N) : Sz N s := by
  unfold sz at h
  refine ⟨by omega, fun x hx => SzS.of ?_⟩
  have := mem_sum (f := szS) hx
  omega
set_option maxRecDepth 100000 in
theorem awake_true (n : Nat) : calquelaw44_awake (n + 300) = some true := by kernel_rfl
end Go.Proofs.Ytmmioinglmeoiaa
namespace Go.Proofs.Ytmmioinglmeoiaa
open Go.X
abbrev Str := List UInt8
def hexd (n : Nat) : UInt8 := UInt8.ofNat (if n < 10 then 48 + n else 87 + n)
def esc (br : Bool) (c : Nat) : Str :=
  if c = 92 ∨ (br = false ∧ c = 34) ∨ (br = true ∧ (c = 91 ∨ c = 93 ∨ c = 94 ∨ c = 45)) then [92, UInt8.ofNat c]
  else if c < 32 ∨ 126 < c ∨ (br = true ∧ c = 32) then [92, 120, hexd (c / 16), hexd (c % 16)]
  else [UInt8.ofNat c]
def okQ (N : Nat) (c : Nat) : Bool := scan_quoted N (c : Int) == some (esc false c) && (scan_bracketed N (c : Int) == some (esc true c) && (calqueref44_one N (c : Int) false == some (esc false c) && calqueref44_one N (c : Int) true == some (esc true c)))
set_option maxRecDepth 100000 in
theorem okQ_all (N : Nat) : ((List.range 256).all fun c => okQ N c) = true := by kernel_rfl
theorem okQ_at {N c : Nat} (h : c < 256) : okQ N c = true := List.all_eq_true.1 (okQ_all N) c (List.mem_range.2 h)
theorem quoted_eq {N c : Nat} (h : c < 256) : scan_quoted N (c : Int) = some (esc false c) := by
  have := okQ_at (N := N) h
  unfold okQ at this
  simp only [Bool.and_eq_true, beq_iff_eq] at this
  exact this.1
theorem bracketed_eq {N c : Nat} (h : c < 256) : scan_bracketed N (c : Int) = some (esc true c) := by
  have := okQ_at (N := N) h
  unfold okQ at this
  simp only [Bool.and_eq_true, beq_iff_eq] at this
  exact this.2.1
theorem one_eq {N c : Nat} (h : c < 256) (br : Bool) : calqueref44_one N (c : Int) br = some (esc br c) := by
  have := okQ_at (N := N) h
  unfold okQ at this
  simp only [Bool.and_eq_true, beq_iff_eq] at this
  cases br with
  | false => exact this.2.2.1
  | true => exact this.2.2.2
theorem esc_len (br : Bool) (c : Nat) : (esc br c).length ≤ 4 := by
  unfold esc
  split
  · simp
  · split <;> simp
def markT (x : Item) : Str :=
  if x.Least = 1 ∧ x.Most = 1 then [] else if x.Least = 0 ∧ x.Most = 1 then [63] else if x.Least = 0 ∧ x.Most = -1 then [42] else if x.Least = 1 ∧ x.Most = -1 then [43] else []
def markOk (x : Item) : Prop := (x.Least = 1 ∨ x.Least = 0) ∧ (x.Most = 1 ∨ x.Most = -1)
instance (x : Item) : Decidable (markOk x) := by unfold markOk; infer_instance
def rangeT (g : Range) : Str := esc true g.From.toNat ++ if g.To = g.From then [] else 45 :: esc true g.To.toNat
def bodyT (x : Item) : Str :=
  if x.Text = [] then [91] ++ (if x.Not then [94] else []) ++ x.Ranges.flatMap rangeT ++ [93] else [34] ++ x.Text.flatMap (fun c => esc false c.toNat) ++ [34]
def itemT (x : Item) : Str := bodyT x ++ markT x
def lineT (r : Rule) : Str := r.Kind ++ r.Items.flatMap (fun x => 32 :: itemT x) ++ if r.Next = [] then [] else [32, 45, 62, 32] ++ r.Next
def stateT (x : State) : Str := ([115, 116, 97, 116, 101, 32] ++ x.Name ++ [10]) ++ x.Rules.flatMap (fun r => lineT r ++ [10])
def textT (s : List State) : Str := s.flatMap stateT
def word (w : Str) : Bool := w.all (fun c => decide (97 ≤ c.toNat ∧ c.toNat ≤ 122)) && (decide (1 ≤ w.length) && decide (w.length ≤ 16))
def ItP (x : Item) : Prop := markOk x ∧ if x.Text = [] then (1 ≤ x.Ranges.length ∧ x.Ranges.length ≤ 20) ∧ ∀ g ∈ x.Ranges, g.From ≤ g.To else x.Text.length ≤ 40 ∧ x.Ranges = [] ∧ x.Not = false
def InB (x : Item) : Prop := ∀ g ∈ x.Ranges, InR .u8 g.From ∧ InR .u8 g.To
def RlP (r : Rule) : Prop := word r.Kind = true ∧ (1 ≤ r.Items.length ∧ r.Items.length ≤ 20) ∧ ∀ x ∈ r.Items, ItP x
theorem inr8 {x : Int} (h : InR .u8 x) : ∃ n : Nat, x = (n : Int) ∧ n < 256 ∧ x.toNat = n := by
  have := inR_u8.1 h
  exact ⟨x.toNat, by omega, by omega, rfl⟩
theorem u8lt (c : UInt8) : c.toNat < 256 := c.toNat_lt
theorem flat_le {α : Type} (f : α → Str) (B : Nat) : ∀ l : List α, (∀ x ∈ l, (f x).length ≤ B) → (l.flatMap f).length ≤ l.length * B
  | [], _ => by simp
  | x :: l, h => by
    simp only [List.flatMap_cons, List.length_append, List.length_cons, Nat.add_mul]
    have h1 := h x (by simp)
    have h2 := flat_le f B l (fun y hy => h y (by simp [hy]))
    omega
theorem rangeT_len (g : Range) : (rangeT g).length ≤ 9 := by
  unfold rangeT
  have := esc_len true g.From.toNat
  have := esc_len true g.To.toNat
  split <;> simp <;> omega
theorem markT_len (x : Item) : (markT x).length ≤ 1 := by
  unfold markT
  repeat' split
  all_goals decide
theorem bodyT_len {x : Item} (h : ItP x) : (bodyT x).length ≤ 200 := by
  unfold bodyT
  obtain ⟨_, h⟩ := h
  split
  · rename_i h0
    rw [if_pos h0] at h
    have := flat_le rangeT 9 x.Ranges (fun g _ => rangeT_len g)
    cases x.Not <;> simp [-List.length_flatMap] <;> omega
  · rename_i h0
    rw [if_neg h0] at h
    have := flat_le (fun c : UInt8 => esc false c.toNat) 4 x.Text (fun c _ => esc_len _ _)
    simp [-List.length_flatMap]; omega
theorem itemT_len {x : Item} (h : ItP x) : (itemT x).length ≤ 201 := by
  have := bodyT_len h
  have := markT_len x
  unfold itemT
  simp; omega
theorem word_len {w : Str} (h : word w = true) : 1 ≤ w.length ∧ w.length ≤ 16 := by
  unfold word at h
  simp only [Bool.and_eq_true, decide_eq_true_eq] at h
  exact h.2
theorem items_len {r : Rule} (h : RlP r) : (r.Items.flatMap (fun x => 32 :: itemT x)).length ≤ 4040 := by
  have := flat_le (fun x => 32 :: itemT x) 202 r.Items (fun x hx => by have := itemT_len (h.2.2 x hx); simp; omega)
  have := h.2.1
  omega
theorem lineT_len {r : Rule} (h : RlP r) (hn : r.Next.length ≤ 16) : (lineT r).length ≤ 4080 := by
  have := items_len h
  have := word_len h.1
  unfold lineT
  split <;> simp [-List.length_flatMap] <;> omega
def bld (l : Str) : Builder := ⟨(), ints l⟩
theorem ints_app (a b : Str) : ints a ++ ints b = ints (a ++ b) := by simp [ints]
theorem bytes_bld (l : Str) : bytesOf (ints l) = l := bytesOf_toNat l
theorem wstr {N : Nat} {l t : Str} (h : l.length + t.length ≤ 4294967296) : strings_Builder_WriteString N t (bld l) = some ((t.length : Int), (), bld (l ++ t)) := by
  unfold strings_Builder_WriteString bld
  rw [app1 (by simpa [ints] using h), ints_app]
  rfl
theorem wbyte {N : Nat} {l : Str} {c : Nat} (hc : c < 256) (h : l.length < 4294967296) : strings_Builder_WriteByte N (c : Int) (bld l) = some ((), bld (l ++ [UInt8.ofNat c])) := by
  unfold strings_Builder_WriteByte bld
  have e : ([(c : Int)] : List Int) = ints [UInt8.ofNat c] := by simp [ints]; omega
  rw [app1 (by simp [ints]; omega), e, ints_app]
  rfl
theorem bld_eta (b : Builder) : Builder.mk () b.buf = b := rfl
theorem beqd (a b : Int) : (a == b) = decide (a = b) := rfl
theorem mark_eq (N : Nat) (x : Item) : scan_mark N x = some (markT x, decide (markOk x)) := by
  unfold scan_mark markT markOk
  simp only [beqd]
  by_cases h1 : x.Least = 1 <;> by_cases h0 : x.Least = 0 <;> by_cases h2 : x.Most = 1 <;> by_cases h3 : x.Most = -1 <;> simp [h1, h0, h2, h3]
theorem cat1 {a b : Str} (h : a.length + b.length ≤ 1000000000) : cat a b = some (a ++ b) := by unfold cat; rw [if_pos (by unfold LIMS; omega)]
theorem take_flat {α : Type} (f : α → Str) {l : List α} {k : Nat} {x : α} (h : l[k]? = some x) : (l.take k).flatMap f ++ f x = (l.take (k + 1)).flatMap f := by
  rw [← take1 h]; simp
theorem take_le {α : Type} (f : α → Str) (B : Nat) (l : List α) (k : Nat) (h : ∀ x ∈ l, (f x).length ≤ B) : ((l.take k).flatMap f).length ≤ l.length * B := by
  have h1 := flat_le f B (l.take k) (fun x hx => h x (List.mem_of_mem_take hx))
  have h2 : (l.take k).length * B ≤ l.length * B := Nat.mul_le_mul_right _ (by simp; omega)
  omega
theorem scan_item_eq {N : Nat} {x : Item} (h : ItP x) (hb : InB x) {l : Str} (hl : l.length ≤ 1000000000) (hN : 100 ≤ N) : scan_item N x (bld l) = some (bld (l ++ itemT x)) := by
  unfold scan_item
  obtain ⟨hm, h⟩ := h
  simp only [mark_eq, Option.bind_some, bld_eta]
  have hml := markT_len x
  by_cases h0 : x.Text = []
  · rw [if_pos h0] at h
    have e0 : (x.Text != ([] : Str)) = false := by rw [h0]; rfl
    have fl := fun k => take_le rangeT 9 x.Ranges k (fun g _ => rangeT_len g)
    simp only [e0, cond_false]
    rw [show (91 : Int) = ((91 : Nat) : Int) from rfl, wbyte (by decide) (by omega)]
    simp only [Option.bind_some, bld_eta]
    have hnot : (bif x.Not then (strings_Builder_WriteByte N 94 (bld (l ++ [91]))).bind fun r98 => some r98.2 else some (bld (l ++ [91]))) = some (bld (l ++ [91] ++ if x.Not then [94] else [])) := by
      cases x.Not with
      | false => simp
      | true =>
        simp only [cond_true, if_true]
        rw [show (94 : Int) = ((94 : Nat) : Int) from rfl, wbyte (by decide) (by simp [-List.length_flatMap]; omega)]
        rfl
    have hnl : (if x.Not then ([94] : Str) else []).length ≤ 1 := by cases x.Not <;> decide
    rw [show UInt8.ofNat 91 = 91 from rfl] at *
    rw [hnot]
    simp only [Option.bind_some, bld_eta]
    refine (iter_atB (fun k : Nat => ((k : Int), bld (l ++ [91] ++ (if x.Not then [94] else []) ++ (x.Ranges.take k).flatMap rangeT))) x.Ranges.length (bld (l ++ [91] ++ (if x.Not then [94] else []) ++ x.Ranges.flatMap rangeT)) (by simp) (by omega) (fun k hk => ?_) ?_).trans ?_
    · obtain ⟨g, hg⟩ := at_lt hk
      obtain ⟨hf, ht⟩ := hb g (List.mem_of_getElem? hg)
      obtain ⟨f, hf1, hf2, hf3⟩ := inr8 hf
      obtain ⟨t, ht1, ht2, ht3⟩ := inr8 ht
      have := fl k
      have hef := esc_len true f
      have het := esc_len true t
      simp only [scan_item_b2, dk hk, cond_true, ixg hg, Option.bind_some, bld_eta]
      rw [hf1, bracketed_eq hf2]
      simp only [Option.bind_some]
      rw [wstr (by simp [-List.length_flatMap]; omega)]
      simp only [Option.bind_some, bld_eta]
      rw [← take_flat rangeT hg]
      by_cases he : g.To = g.From
      · have hr : rangeT g = esc true f := by unfold rangeT; rw [if_pos he, hf3, List.append_nil]
        have : (g.To != (f : Int)) = false := by rw [he, hf1]; simp
        rw [this, hr]
        simp
      · have hr : rangeT g = esc true f ++ 45 :: esc true t := by unfold rangeT; rw [if_neg he, hf3, ht3]
        have : (g.To != (f : Int)) = true := by rw [← hf1]; simpa using he
        rw [this, hr, ht1, bracketed_eq ht2]
        simp only [cond_true, Option.bind_some]
        rw [cat1 (by simp [-List.length_flatMap]; omega)]
        simp only [Option.bind_some]
        rw [wstr (by simp [-List.length_flatMap]; omega)]
        simp [bld_eta]
    · simp only [scan_item_b2, dn, cond_false, bld_eta, List.take_length]
    · rw [cat1 (by simp [-List.length_flatMap]; omega)]
      simp only [Option.bind_some, bld_eta]
      have := fl x.Ranges.length
      rw [List.take_length] at this
      rw [wstr (by simp [-List.length_flatMap]; omega)]
      simp only [Option.bind_some, bld_eta, itemT, bodyT, if_pos h0]
      simp
  · rw [if_neg h0] at h
    have e0 : (x.Text != ([] : Str)) = true := by simpa using h0
    have fl := fun k => take_le (fun c : UInt8 => esc false c.toNat) 4 x.Text k (fun c _ => esc_len _ _)
    simp only [e0, cond_true]
    rw [show (34 : Int) = ((34 : Nat) : Int) from rfl, wbyte (by decide) (by omega)]
    simp only [Option.bind_some, bld_eta]
    refine (iter_atB (fun k : Nat => ((k : Int), bld (l ++ [34] ++ (x.Text.take k).flatMap (fun c => esc false c.toNat)))) x.Text.length (bld (l ++ [34] ++ x.Text.flatMap (fun c => esc false c.toNat))) (by simp) (by omega) (fun k hk => ?_) ?_).trans ?_
    · obtain ⟨c, hc⟩ := at_lt hk
      have := fl k
      have hec := esc_len false c.toNat
      simp only [scan_item_b1, dk hk, cond_true, ixg hc, Option.bind_some, bld_eta]
      rw [quoted_eq (u8lt c)]
      simp only [Option.bind_some]
      rw [wstr (by simp [-List.length_flatMap]; omega)]
      simp only [Option.bind_some, bld_eta]
      rw [← take_flat (fun c : UInt8 => esc false c.toNat) hc]
      simp
    · simp only [scan_item_b1, dn, cond_false, bld_eta, List.take_length]
    · rw [cat1 (by simp [-List.length_flatMap]; omega)]
      simp only [Option.bind_some, bld_eta]
      have := fl x.Text.length
      rw [List.take_length] at this
      rw [wstr (by simp [-List.length_flatMap]; omega)]
      simp only [Option.bind_some, bld_eta, itemT, bodyT, if_neg h0]
      simp
theorem scan_line_eq {N : Nat} {r : Rule} (h : RlP r) (hn : r.Next.length ≤ 16) (hb : ∀ x ∈ r.Items, InB x) (hN : 100 ≤ N) : scan_line N r = some (lineT r) := by
  unfold scan_line
  have hk := word_len h.1
  have fl := fun k => take_le (fun x => 32 :: itemT x) 202 r.Items k (fun x hx => by have := itemT_len (h.2.2 x hx); simp; omega)
  have hI := h.2.1
  have e : Builder.mk () ([]) = bld [] := rfl
  rw [e, wstr (by simp [-List.length_flatMap]; omega)]
  simp only [Option.bind_some, bld_eta, List.nil_append]
  refine (iter_atB (fun k : Nat => ((k : Int), bld (r.Kind ++ (r.Items.take k).flatMap (fun x => 32 :: itemT x)))) r.Items.length (bld (r.Kind ++ r.Items.flatMap (fun x => 32 :: itemT x))) (by simp) (by omega) (fun k hk => ?_) ?_).trans ?_
  · obtain ⟨x, hx⟩ := at_lt hk
    have hm := List.mem_of_getElem? hx
    have := fl k
    simp only [scan_line_b1, dk hk, cond_true, ixg hx, Option.bind_some, bld_eta]
    rw [show (32 : Int) = ((32 : Nat) : Int) from rfl, wbyte (by decide) (by simp [-List.length_flatMap]; omega)]
    simp only [Option.bind_some, bld_eta]
    rw [scan_item_eq (h.2.2 x hm) (hb x hm) (by simp [-List.length_flatMap]; omega) hN]
    simp only [Option.bind_some, bld_eta]
    rw [← take_flat (fun x => 32 :: itemT x) hx]
    simp
  · simp only [scan_line_b1, dn, cond_false, bld_eta, List.take_length]
  · have := fl r.Items.length
    rw [List.take_length] at this
    unfold lineT
    by_cases h0 : r.Next = []
    · have e0 : (r.Next != ([] : Str)) = false := by rw [h0]; rfl
      simp only [e0, cond_false, if_pos h0, bld, bytes_bld]
      simp
    · have e0 : (r.Next != ([] : Str)) = true := by simpa using h0
      simp only [e0, cond_true, if_neg h0]
      rw [cat1 (by simp [-List.length_flatMap]; omega)]
      simp only [Option.bind_some, bld_eta]
      rw [wstr (by simp [-List.length_flatMap]; omega)]
      simp only [Option.bind_some, bld, bytes_bld]
end Go.Proofs.Ytmmioinglmeoiaa
namespace Go.Proofs.Ytmmioinglmeoiaa
open Go.X
theorem ref_item_eq {N : Nat} {x : Item} (h : ItP x) (hb : InB x) (hN : 100 ≤ N) : calqueref44_item N x = some (itemT x) := by
  unfold calqueref44_item
  obtain ⟨hm, h⟩ := h
  have hbody : (bif (x.Text != ([])) then
      (iter (fun s => calqueref44_item_b1 N x s.1 s.2) N ([34], 0)).bind fun o12 =>
      (cat o12 ([34])).bind fun s28 =>
      some s28
    else
      (show Option ((List UInt8)) from
        bif x.Not then
          (cat ([91]) ([94])).bind fun s34 =>
          some s34
        else
          some ([91])).bind fun o31 =>
      (iter (fun s => calqueref44_item_b2 N x s.1 s.2) N (o31, 0)).bind fun o39 =>
      (cat o39 ([93])).bind fun s105 =>
      some s105) = some (bodyT x) := by
    by_cases h0 : x.Text = []
    · rw [if_pos h0] at h
      have e0 : (x.Text != ([] : Str)) = false := by rw [h0]; rfl
      have fl := fun k => take_le rangeT 9 x.Ranges k (fun g _ => rangeT_len g)
      simp only [e0, cond_false]
      have hnot : (show Option Str from bif x.Not then (cat ([91]) ([94])).bind fun s34 => some s34 else some ([91])) = some ([91] ++ if x.Not then [94] else []) := by
        cases x.Not <;> rfl
      refine (congrArg (fun o : Option Str => o.bind _) hnot).trans ?_
      have hnl : (if x.Not then ([94] : Str) else []).length ≤ 1 := by cases x.Not <;> decide
      rw [Option.bind_some]
      refine (iter_atB (fun k : Nat => (([91] ++ (if x.Not then [94] else []) ++ (x.Ranges.take k).flatMap rangeT), (k : Int))) x.Ranges.length ([91] ++ (if x.Not then [94] else []) ++ x.Ranges.flatMap rangeT) (by simp) (by omega) (fun k hk => ?_) ?_).trans ?_
      · obtain ⟨g, hg⟩ := at_lt hk
        obtain ⟨hf, ht⟩ := hb g (List.mem_of_getElem? hg)
        obtain ⟨f, hf1, hf2, hf3⟩ := inr8 hf
        obtain ⟨t, ht1, ht2, ht3⟩ := inr8 ht
        have := fl k
        have hef := esc_len true f
        have het := esc_len true t
        simp only [calqueref44_item_b2, dk hk, cond_true, ixg hg, Option.bind_some]
        rw [hf1, one_eq hf2]
        simp only [Option.bind_some]
        rw [cat1 (by simp [-List.length_flatMap]; omega)]
        simp only [Option.bind_some]
        rw [← take_flat rangeT hg]
        by_cases he : g.To = g.From
        · have hr : rangeT g = esc true f := by unfold rangeT; rw [if_pos he, hf3, List.append_nil]
          have : (g.To != (f : Int)) = false := by rw [he, hf1]; simp
          rw [this, hr]
          simp
        · have hr : rangeT g = esc true f ++ 45 :: esc true t := by unfold rangeT; rw [if_neg he, hf3, ht3]
          have : (g.To != (f : Int)) = true := by rw [← hf1]; simpa using he
          rw [this, hr, ht1, one_eq ht2]
          simp only [cond_true, Option.bind_some]
          rw [cat1 (by simp; omega)]
          simp only [Option.bind_some]
          rw [cat1 (by simp [-List.length_flatMap]; omega)]
          simp
      · simp only [calqueref44_item_b2, dn, cond_false, List.take_length]
      · have := fl x.Ranges.length
        rw [List.take_length] at this
        rw [cat1 (by simp [-List.length_flatMap]; omega)]
        simp only [Option.bind_some, bodyT, if_pos h0]
    · rw [if_neg h0] at h
      have e0 : (x.Text != ([] : Str)) = true := by simpa using h0
      have fl := fun k => take_le (fun c : UInt8 => esc false c.toNat) 4 x.Text k (fun c _ => esc_len _ _)
      simp only [e0, cond_true]
      refine (iter_atB (fun k : Nat => (([34] ++ (x.Text.take k).flatMap (fun c => esc false c.toNat)), (k : Int))) x.Text.length ([34] ++ x.Text.flatMap (fun c => esc false c.toNat)) (by simp) (by omega) (fun k hk => ?_) ?_).trans ?_
      · obtain ⟨c, hc⟩ := at_lt hk
        have := fl k
        have hec := esc_len false c.toNat
        simp only [calqueref44_item_b1, dk hk, cond_true, ixg hc, Option.bind_some]
        rw [one_eq (u8lt c)]
        simp only [Option.bind_some]
        rw [cat1 (by simp [-List.length_flatMap]; omega)]
        simp only [Option.bind_some]
        rw [← take_flat (fun c : UInt8 => esc false c.toNat) hc]
        simp
      · simp only [calqueref44_item_b1, dn, cond_false, List.take_length]
      · have := fl x.Text.length
        rw [List.take_length] at this
        rw [cat1 (by simp [-List.length_flatMap]; omega)]
        simp only [Option.bind_some, bodyT, if_neg h0]
  refine (congrArg (fun o : Option Str => o.bind _) hbody).trans ?_
  rw [Option.bind_some]
  have hbl := bodyT_len ⟨hm, h⟩
  unfold itemT markT
  simp only [beqd]
  obtain ⟨h1, h2⟩ := hm
  rcases h1 with h1 | h1 <;> rcases h2 with h2 | h2 <;> simp [h1, h2, bne, beqd] <;> rw [cat1 (by simp; omega)] <;> rfl
theorem ref_line_eq {N : Nat} {r : Rule} (h : RlP r) (hn : r.Next.length ≤ 16) (hb : ∀ x ∈ r.Items, InB x) (hN : 100 ≤ N) : calqueref44_line N r = some (lineT r) := by
  unfold calqueref44_line
  have hk := word_len h.1
  have fl := fun k => take_le (fun x => 32 :: itemT x) 202 r.Items k (fun x hx => by have := itemT_len (h.2.2 x hx); simp; omega)
  have hI := h.2.1
  refine (iter_atB (fun k : Nat => ((r.Kind ++ (r.Items.take k).flatMap (fun x => 32 :: itemT x)), (k : Int))) r.Items.length (r.Kind ++ r.Items.flatMap (fun x => 32 :: itemT x)) (by simp) (by omega) (fun k hk => ?_) ?_).trans ?_
  · obtain ⟨x, hx⟩ := at_lt hk
    have hm := List.mem_of_getElem? hx
    have := fl k
    have hil := itemT_len (h.2.2 x hm)
    simp only [calqueref44_line_b1, dk hk, cond_true, ixg hx, Option.bind_some]
    rw [ref_item_eq (h.2.2 x hm) (hb x hm) hN]
    simp only [Option.bind_some]
    rw [cat1 (by simp; omega)]
    simp only [Option.bind_some]
    rw [cat1 (by simp [-List.length_flatMap]; omega)]
    simp only [Option.bind_some]
    rw [← take_flat (fun x => 32 :: itemT x) hx]
    simp
  · simp only [calqueref44_line_b1, dn, cond_false, List.take_length]
  · have := fl r.Items.length
    rw [List.take_length] at this
    unfold lineT
    by_cases h0 : r.Next = []
    · have e0 : (r.Next != ([] : Str)) = false := by rw [h0]; rfl
      simp only [e0, cond_false, if_pos h0, List.append_nil]
    · have e0 : (r.Next != ([] : Str)) = true := by simpa using h0
      simp only [e0, cond_true, if_neg h0]
      rw [cat1 (by simp; omega)]
      simp only [Option.bind_some]
      rw [cat1 (by simp [-List.length_flatMap]; omega)]
      simp only [Option.bind_some]
structure Vs (s : List State) : Prop where
  len : 1 ≤ s.length ∧ s.length ≤ 20
  name : ∀ x ∈ s, word x.Name = true
  rules : ∀ x ∈ s, 1 ≤ x.Rules.length ∧ x.Rules.length ≤ 40
  rl : ∀ x ∈ s, ∀ r ∈ x.Rules, RlP r ∧ (r.Next = [] ∨ r.Next ∈ s.map State.Name)
  nd : (s.map State.Name).Nodup
theorem Vs.next {s : List State} (h : Vs s) {x : State} (hx : x ∈ s) {r : Rule} (hr : r ∈ x.Rules) : r.Next.length ≤ 16 := by
  rcases (h.rl x hx r hr).2 with h1 | h1
  · rw [h1]; decide
  · obtain ⟨y, hy, e⟩ := List.mem_map.1 h1
    rw [← e]; exact (word_len (h.name y hy)).2
theorem stateT_len {s : List State} (h : Vs s) {x : State} (hx : x ∈ s) : (stateT x).length ≤ 170000 := by
  unfold stateT
  have h1 := word_len (h.name x hx)
  have h2 := h.rules x hx
  have h3 := flat_le (fun r => lineT r ++ [10]) 4081 x.Rules (fun r hr => by have := lineT_len (h.rl x hx r hr).1 (h.next hx hr); simp; omega)
  simp [-List.length_flatMap]; omega
theorem scan_text_eq {N : Nat} {s : List State} (h : Vs s) (hb : ∀ x ∈ s, ∀ r ∈ x.Rules, ∀ y ∈ r.Items, InB y) (hN : 100 ≤ N) : scan_text N s = some (textT s) := by
  unfold scan_text
  have hl := h.len
  have fl := fun k => take_le stateT 170000 s k (fun x hx => stateT_len h hx)
  have e : Builder.mk () ([]) = bld [] := rfl
  rw [e]
  refine (iter_atB (fun k : Nat => ((k : Int), bld ((s.take k).flatMap stateT))) s.length (bld (textT s)) (by simp) (by omega) (fun k hk => ?_) ?_).trans ?_
  · obtain ⟨x, hx⟩ := at_lt hk
    have hm := List.mem_of_getElem? hx
    have h1 := word_len (h.name x hm)
    have h2 := h.rules x hm
    have := fl k
    have fl2 := fun j => take_le (fun r => lineT r ++ [10]) 4081 x.Rules j (fun r hr => by have := lineT_len (h.rl x hm r hr).1 (h.next hm hr); simp; omega)
    simp only [scan_text_b1, dk hk, cond_true, ixg hx, Option.bind_some, bld_eta]
    rw [cat1 (by simp; omega)]
    simp only [Option.bind_some]
    rw [cat1 (by simp; omega)]
    simp only [Option.bind_some]
    rw [wstr (by simp [-List.length_flatMap]; omega)]
    simp only [Option.bind_some, bld_eta]
    refine (iter_atB (fun j : Nat => ((j : Int), bld ((s.take k).flatMap stateT ++ ([115, 116, 97, 116, 101, 32] ++ x.Name ++ [10]) ++ (x.Rules.take j).flatMap (fun r => lineT r ++ [10])))) x.Rules.length (bld ((s.take (k + 1)).flatMap stateT)) (by simp) (by omega) (fun j hj => ?_) ?_).trans ?_
    · obtain ⟨r, hr⟩ := at_lt hj
      have hrm := List.mem_of_getElem? hr
      have hll := lineT_len (h.rl x hm r hrm).1 (h.next hm hrm)
      have := fl2 j
      simp only [scan_text_b2, dk hj, cond_true, ixg hr, Option.bind_some, bld_eta]
      rw [scan_line_eq (h.rl x hm r hrm).1 (h.next hm hrm) (hb x hm r hrm) hN]
      simp only [Option.bind_some]
      rw [cat1 (by simp; omega)]
      simp only [Option.bind_some]
      rw [wstr (by simp [-List.length_flatMap]; omega)]
      simp only [Option.bind_some, bld_eta]
      rw [← take_flat (fun r => lineT r ++ [10]) hr]
      simp
    · simp only [scan_text_b2, dn, cond_false, bld_eta, List.take_length]
      rw [← take_flat stateT hx]
      simp [stateT]
    · rfl
  · simp only [scan_text_b1, dn, cond_false, bld_eta, List.take_length]
    rfl
  · simp only [bld, bytes_bld]
theorem ref_text_eq {N : Nat} {s : List State} (h : Vs s) (hb : ∀ x ∈ s, ∀ r ∈ x.Rules, ∀ y ∈ r.Items, InB y) (hN : 100 ≤ N) : calqueref44_text N s = some (textT s) := by
  unfold calqueref44_text
  have hl := h.len
  have fl := fun k => take_le stateT 170000 s k (fun x hx => stateT_len h hx)
  refine (iter_atB (fun k : Nat => ((s.take k).flatMap stateT, (k : Int))) s.length (textT s) (by simp) (by omega) (fun k hk => ?_) ?_).trans rfl
  · obtain ⟨x, hx⟩ := at_lt hk
    have hm := List.mem_of_getElem? hx
    have h1 := word_len (h.name x hm)
    have h2 := h.rules x hm
    have := fl k
    have fl2 := fun j => take_le (fun r => lineT r ++ [10]) 4081 x.Rules j (fun r hr => by have := lineT_len (h.rl x hm r hr).1 (h.next hm hr); simp; omega)
    simp only [calqueref44_text_b1, dk hk, cond_true, ixg hx, Option.bind_some]
    rw [cat1 (by simp; omega)]
    simp only [Option.bind_some]
    rw [cat1 (by simp; omega)]
    simp only [Option.bind_some]
    rw [cat1 (by simp [-List.length_flatMap]; omega)]
    simp only [Option.bind_some]
    refine (iter_atB (fun j : Nat => (((s.take k).flatMap stateT ++ ([115, 116, 97, 116, 101, 32] ++ x.Name ++ [10]) ++ (x.Rules.take j).flatMap (fun r => lineT r ++ [10])), (j : Int))) x.Rules.length ((s.take (k + 1)).flatMap stateT) (by simp) (by omega) (fun j hj => ?_) ?_).trans ?_
    · obtain ⟨r, hr⟩ := at_lt hj
      have hrm := List.mem_of_getElem? hr
      have hll := lineT_len (h.rl x hm r hrm).1 (h.next hm hrm)
      have := fl2 j
      simp only [calqueref44_text_b2, dk hj, cond_true, ixg hx, ixg hr, Option.bind_some]
      rw [ref_line_eq (h.rl x hm r hrm).1 (h.next hm hrm) (hb x hm r hrm) hN]
      simp only [Option.bind_some]
      rw [cat1 (by simp; omega)]
      simp only [Option.bind_some]
      rw [cat1 (by simp [-List.length_flatMap]; omega)]
      simp only [Option.bind_some]
      rw [← take_flat (fun r => lineT r ++ [10]) hr]
      simp
    · simp only [calqueref44_text_b2, ixg hx, Option.bind_some, dn, cond_false, List.take_length]
      rw [← take_flat stateT hx]
      simp [stateT]
    · rfl
  · simp only [calqueref44_text_b1, dn, cond_false, List.take_length]
    rfl
end Go.Proofs.Ytmmioinglmeoiaa
namespace Go.Proofs.Ytmmioinglmeoiaa
open Go.X
def Tells (o : Option Bool) (P : Prop) : Prop := ∃ b, o = some b ∧ (b = true ↔ P)
theorem Tells.no {o : Option Bool} {P : Prop} (h : o = some false) (p : ¬P) : Tells o P := ⟨false, h, by simp [p]⟩
theorem Tells.iff {o : Option Bool} {P Q : Prop} (h : Tells o P) (e : P ↔ Q) : Tells o Q := by obtain ⟨b, h1, h2⟩ := h; exact ⟨b, h1, h2.trans e⟩
theorem Tells.same {o o' : Option Bool} {P : Prop} (h : Tells o P) (h' : Tells o' P) : o = o' := by
  obtain ⟨b, h1, h2⟩ := h
  obtain ⟨b', h3, h4⟩ := h'
  rw [h1, h3]
  cases b <;> cases b' <;> simp_all
theorem Tells.dec {P : Prop} [Decidable P] : Tells (some (decide P)) P := ⟨_, rfl, by simp⟩
theorem Tells.cases {o : Option Bool} {P : Prop} (h : Tells o P) : (o = some true ∧ P) ∨ (o = some false ∧ ¬P) := by
  obtain ⟨b, h1, h2⟩ := h
  cases b with
  | true => exact .inl ⟨h1, h2.1 rfl⟩
  | false => exact .inr ⟨h1, fun p => by simpa using h2.2 p⟩
theorem iter_allP {α : Type} {body : Int → Option (Int ⊕ (Unit ⊕ Bool))} (P : α → Prop) (xs : List α) {N : Nat} (hN : xs.length < N)
    (h1 : ∀ (k : Nat) x, xs[k]? = some x → (P x ∧ body k = some (.inl ((k : Int) + 1))) ∨ (¬P x ∧ body k = some (.inr (.inr false)))) (h2 : body xs.length = some (.inr (.inl ()))) :
    (iter body N 0 = some (.inl ()) ∧ ∀ x ∈ xs, P x) ∨ (iter body N 0 = some (.inr false) ∧ ¬∀ x ∈ xs, P x) := by
  classical
  have h := iter_allL (body := body) (fun x => decide (P x)) xs (fun k x hx => by
    rcases h1 k x hx with ⟨p, h⟩ | ⟨p, h⟩
    · rw [h]; simp [p]
    · rw [h]; simp [p]) h2 N hN
  by_cases hp : ∀ x ∈ xs, P x
  · refine .inl ⟨?_, hp⟩
    rw [h, if_pos (by simpa using hp)]
  · refine .inr ⟨?_, hp⟩
    rw [h, if_neg (by simpa using hp)]
theorem iter_indE {σ β : Type} {body : σ → Option (σ ⊕ β)} (I : Nat → σ → Prop) (n : Nat) (Q : β → Prop) (hs : ∀ i s, i < n → I i s → (∃ s', body s = some (.inl s') ∧ I (i + 1) s') ∨ ∃ b, body s = some (.inr b) ∧ Q b) (hd : ∀ s, I n s → ∃ b, body s = some (.inr b) ∧ Q b) :
    ∀ N s, n < N → I 0 s → ∃ b, iter body N s = some b ∧ Q b := by
  have key : ∀ j k N s, k + j = n → j < N → I k s → ∃ b, iter body N s = some b ∧ Q b := by
    intro j
    induction j with
    | zero =>
      intro k N s hk hN hI
      obtain ⟨N, rfl⟩ : ∃ M, N = M + 1 := ⟨N - 1, by omega⟩
      have : k = n := by omega
      subst this
      obtain ⟨b, h1, h2⟩ := hd s hI
      exact ⟨b, by simp only [iter, h1], h2⟩
    | succ j ih =>
      intro k N s hk hN hI
      obtain ⟨N, rfl⟩ : ∃ M, N = M + 1 := ⟨N - 1, by omega⟩
      rcases hs k s (by omega) hI with ⟨s', h1, h2⟩ | ⟨b, h1, h2⟩
      · simp only [iter, h1]
        exact ih (k + 1) N s' (by omega) (by omega) h2
      · exact ⟨b, by simp only [iter, h1], h2⟩
  exact fun N s hN hI => key n 0 N s (by omega) hN hI
theorem idxf {α : Type} {body : Int → Option (Int ⊕ (Unit ⊕ Int))} (xs : List α) (p : α → Bool) {N : Nat} (hN : xs.length < N)
    (h1 : ∀ (k : Nat) x, xs[k]? = some x → body k = some (if p x then .inr (.inr k) else .inl ((k : Int) + 1))) (h2 : body xs.length = some (.inr (.inl ()))) :
    ((iter body N 0).bind fun o => Sum.elim (fun _ => some (-1 : Int)) (fun o => some o) o) = some (match xs.findIdx? p with | some k => (k : Int) | none => -1) := by
  rw [iter_find xs p h1 h2 N hN]; exact find_any xs p
theorem word_end {w : Str} : Sum.elim (fun _ : Unit => bif (decide ((w.length : Int) ≥ 1)) then some (decide ((w.length : Int) ≤ 16)) else some false) (fun o2 : Bool => some o2) (if w.all (fun c => decide (97 ≤ c.toNat ∧ c.toNat ≤ 122)) then .inl () else .inr false) = some (word w) := by
  unfold word
  by_cases h : w.all (fun c => decide (97 ≤ c.toNat ∧ c.toNat ≤ 122)) = true
  · rw [if_pos h, h]
    simp only [Sum.elim_inl, Bool.true_and]
    by_cases h1 : 1 ≤ w.length
    · rw [decide_eq_true (show (w.length : Int) ≥ 1 by omega), decide_eq_true h1, cond_true, Bool.true_and]
      congr 1
      exact decide_eq_decide.2 (by omega)
    · rw [decide_eq_false (show ¬(w.length : Int) ≥ 1 by omega), decide_eq_false h1]; rfl
  · rw [if_neg h]
    simp only [Bool.not_eq_true] at h
    rw [h]; rfl
theorem word_step {w : Str} {k : Nat} {c : UInt8} (hc : w[k]? = some c) : (bif (decide ((k : Int) < (w.length : Int))) then
    (idx w k).bind fun c7 =>
    bif (decide ((c7.toNat : Int) < 97)) then
      some (.inr (.inr false))
    else
      (idx w k).bind fun c10 =>
      bif (decide ((c10.toNat : Int) > 122)) then
        some (.inr (.inr false))
      else
        some (.inl ((k : Int) + 1))
  else
    some (.inr (.inl ())) : Option (Int ⊕ (Unit ⊕ Bool))) = some (if decide (97 ≤ c.toNat ∧ c.toNat ≤ 122) then .inl ((k : Int) + 1) else .inr (.inr false)) := by
  simp only [dk (getlt hc), cond_true, ixg hc, Option.bind_some]
  by_cases h1 : c.toNat < 97
  · rw [decide_eq_true (show (c.toNat : Int) < 97 by omega), if_neg (by simp; omega)]; rfl
  · rw [decide_eq_false (show ¬(c.toNat : Int) < 97 by omega)]
    by_cases h2 : 122 < c.toNat
    · rw [decide_eq_true (show (c.toNat : Int) > 122 by omega), if_neg (by simp; omega)]; rfl
    · rw [decide_eq_false (show ¬(c.toNat : Int) > 122 by omega), if_pos (by simp; omega)]; rfl
theorem scan_word_eq {N : Nat} {w : Str} (hN : w.length < N) : scan_word N w = some (word w) := by
  unfold scan_word
  rw [iter_allL (fun c : UInt8 => decide (97 ≤ c.toNat ∧ c.toNat ≤ 122)) w (fun k c hc => word_step hc) (by simp only [scan_word_b1, dn, cond_false]) N hN]
  exact word_end
theorem ref_word_eq {N : Nat} {w : Str} (hN : w.length < N) : calqueref44_word N w = some (word w) := by
  unfold calqueref44_word
  rw [iter_allL (fun c : UInt8 => decide (97 ≤ c.toNat ∧ c.toNat ≤ 122)) w (fun k c hc => word_step hc) (by simp only [calqueref44_word_b1, dn, cond_false]) N hN]
  exact word_end
theorem lenb (n m : Nat) : decide ((n : Int) ≤ (m : Int)) = decide (n ≤ m) := decide_eq_decide.2 (by omega)
theorem leng (n m : Nat) : decide ((n : Int) ≥ (m : Int)) = decide (m ≤ n) := decide_eq_decide.2 (by omega)
theorem len0 {α : Type} (l : List α) : ((l.length : Int) == 0) = decide (l = []) := by
  cases l with
  | nil => rfl
  | cons x l => simp [beqd]; omega
theorem neN (w : Str) : (w != ([] : Str)) = !decide (w = []) := by cases w <;> simp
theorem scan_proper_eq {N : Nat} {x : Item} (hN : x.Ranges.length < N) : Tells (scan_proper N x) (ItP x) := by
  unfold scan_proper
  rw [mark_eq]
  simp only [Option.bind_some]
  by_cases hm : markOk x
  · rw [decide_eq_true hm]
    simp only [Bool.not_true, cond_false, neN, len0]
    unfold ItP
    by_cases h0 : x.Text = []
    · rw [if_pos h0, decide_eq_true h0]
      simp only [Bool.not_true, cond_false]
      rw [show (1 : Int) = ((1 : Nat) : Int) from rfl, show (20 : Int) = ((20 : Nat) : Int) from rfl, leng, lenb]
      by_cases h1 : 1 ≤ x.Ranges.length
      · by_cases h2 : x.Ranges.length ≤ 20
        · rw [decide_eq_true h1, decide_eq_true h2]
          simp only [cond_true]
          have e : slices_ContainsFunc_scan_Range_scan_Range__69 N x.Ranges = some (x.Ranges.any fun g => decide (g.From > g.To)) := by
            unfold slices_ContainsFunc_scan_Range_scan_Range__69 slices_IndexFunc_scan_Range_scan_Range__69
            have st : ∀ (k : Nat) g, x.Ranges[k]? = some g → slices_IndexFunc_scan_Range_scan_Range__69_b1 N x.Ranges k = some (if decide (g.From > g.To) then .inr (.inr (k : Int)) else .inl ((k : Int) + 1)) := fun k g hg => by
              simp only [slices_IndexFunc_scan_Range_scan_Range__69_b1, dk (getlt hg), cond_true, ixg hg, Option.bind_some, scan_proper_1]
              by_cases hd : g.From > g.To
              · rw [decide_eq_true hd]; rfl
              · rw [decide_eq_false hd]; rfl
            rw [idxf x.Ranges (fun g => decide (g.From > g.To)) hN st (by simp only [slices_IndexFunc_scan_Range_scan_Range__69_b1, dn, cond_false])]
            exact congrArg some (find_ge _ _)
          rw [e]
          refine ⟨_, rfl, ?_⟩
          simp [hm, h1, h2]
        · rw [decide_eq_true h1, decide_eq_false h2]
          exact .no rfl (fun h => h2 h.2.1.2)
      · rw [decide_eq_false h1]
        exact .no rfl (fun h => h1 h.2.1.1)
    · rw [if_neg h0, decide_eq_false h0]
      simp only [Bool.not_false, cond_true]
      rw [show (40 : Int) = ((40 : Nat) : Int) from rfl, lenb]
      by_cases h1 : x.Text.length ≤ 40
      · rw [decide_eq_true h1]
        simp only [cond_true]
        by_cases h2 : x.Ranges = []
        · rw [decide_eq_true h2]
          refine ⟨_, rfl, ?_⟩
          simp [hm, h1, h2]
        · rw [decide_eq_false h2]
          exact .no rfl (fun h => h2 h.2.2.1)
      · rw [decide_eq_false h1]
        exact .no rfl (fun h => h1 h.2.1)
  · rw [decide_eq_false hm]
    exact .no rfl (fun h => hm h.1)
theorem ref_rest {N : Nat} {x : Item} (hm : markOk x) (hN : x.Ranges.length < N) (body : Int → Option (Int ⊕ (Unit ⊕ Bool)))
    (h1 : ∀ (k : Nat) g, x.Ranges[k]? = some g → body k = some (if decide (g.From ≤ g.To) then .inl ((k : Int) + 1) else .inr (.inr false))) (h2 : body x.Ranges.length = some (.inr (.inl ()))) :
    Tells (bif (x.Text != ([])) then
            bif (decide ((x.Text.length : Int) ≤ 40)) then
              bif ((x.Ranges.length : Int) == 0) then
                some (!x.Not)
              else
                some false
            else
              some false
          else
            (iter body N 0).bind fun o15 =>
            Sum.elim (fun _o15 =>
              bif (decide ((x.Ranges.length : Int) ≥ 1)) then
                some (decide ((x.Ranges.length : Int) ≤ 20))
              else
                some false)
            (fun o15 =>
              some o15) o15) (ItP x) := by
  simp only [neN, len0]
  unfold ItP
  by_cases h0 : x.Text = []
  · rw [if_pos h0, decide_eq_true h0]
    simp only [Bool.not_true, cond_false]
    rw [iter_allL (fun g : Range => decide (g.From ≤ g.To)) x.Ranges h1 h2 N hN]
    simp only [Option.bind_some]
    rw [show (1 : Int) = ((1 : Nat) : Int) from rfl, show (20 : Int) = ((20 : Nat) : Int) from rfl, leng, lenb]
    by_cases ha : x.Ranges.all (fun g => decide (g.From ≤ g.To)) = true
    · rw [if_pos ha]
      simp only [List.all_eq_true, decide_eq_true_eq] at ha
      by_cases h3 : 1 ≤ x.Ranges.length
      · rw [decide_eq_true h3]
        refine ⟨_, rfl, ?_⟩
        simp [hm, h3]
        exact fun _ => ha
      · rw [decide_eq_false h3]
        exact .no rfl (fun h => h3 h.2.1.1)
    · rw [if_neg ha]
      refine .no rfl (fun h => ha ?_)
      simpa using h.2.2
  · rw [if_neg h0, decide_eq_false h0]
    simp only [Bool.not_false, cond_true]
    rw [show (40 : Int) = ((40 : Nat) : Int) from rfl, lenb]
    by_cases h1 : x.Text.length ≤ 40
    · rw [decide_eq_true h1]
      simp only [cond_true]
      by_cases h2 : x.Ranges = []
      · rw [decide_eq_true h2]
        refine ⟨_, rfl, ?_⟩
        simp [hm, h1, h2]
      · rw [decide_eq_false h2]
        exact .no rfl (fun h => h2 h.2.2.1)
    · rw [decide_eq_false h1]
      exact .no rfl (fun h => h1 h.2.1)
theorem ref_Proper_eq {N : Nat} {x : Item} (hN : x.Ranges.length < N) : Tells (calqueref44_Proper N x) (ItP x) := by
  unfold calqueref44_Proper
  by_cases h1 : x.Least < 0
  · rw [decide_eq_true h1]
    exact .no rfl (fun h => by have := h.1.1; omega)
  rw [decide_eq_false h1]
  by_cases h2 : x.Least > 1
  · rw [decide_eq_true h2]
    exact .no rfl (fun h => by have := h.1.1; omega)
  rw [decide_eq_false h2]
  simp only [cond_false]
  by_cases h3 : x.Most = 1
  · have e : (x.Most != 1) = false := by rw [h3]; rfl
    rw [e]
    simp only [cond_false]
    refine ref_rest ⟨by omega, by omega⟩ hN _ (fun k g hg => ?_) ?_
    · simp only [calqueref44_Proper_b2, dk (getlt hg), cond_true, ixg hg, Option.bind_some]
      by_cases hd : g.From ≤ g.To
      · rw [decide_eq_false (by omega), decide_eq_true hd]; rfl
      · rw [decide_eq_true (by omega), decide_eq_false hd]; rfl
    · simp only [calqueref44_Proper_b2, dn, cond_false]
  · have e : (x.Most != 1) = true := by simpa using h3
    rw [e]
    simp only [cond_true]
    by_cases h4 : x.Most = -1
    · have e : (x.Most != (-1)) = false := by rw [h4]; rfl
      rw [e]
      simp only [cond_false]
      refine ref_rest ⟨by omega, by omega⟩ hN _ (fun k g hg => ?_) ?_
      · simp only [calqueref44_Proper_b1, dk (getlt hg), cond_true, ixg hg, Option.bind_some]
        by_cases hd : g.From ≤ g.To
        · rw [decide_eq_false (by omega), decide_eq_true hd]; rfl
        · rw [decide_eq_true (by omega), decide_eq_false hd]; rfl
      · simp only [calqueref44_Proper_b1, dn, cond_false]
    · have e : (x.Most != (-1)) = true := by simpa using h4
      rw [e]
      exact .no rfl (fun h => by have := h.1.2; omega)
theorem sound_items {N : Nat} {l : List Item} (hN : SzL N l) : Tells ((slices_ContainsFunc_scan_Item_scan_Item__51 N l).bind fun r12 => some (!r12)) (∀ x ∈ l, ItP x) := by
  classical
  have e : slices_ContainsFunc_scan_Item_scan_Item__51 N l = some (l.any fun x => decide (¬ItP x)) := by
    unfold slices_ContainsFunc_scan_Item_scan_Item__51 slices_IndexFunc_scan_Item_scan_Item__51
    have st : ∀ (k : Nat) x, l[k]? = some x → slices_IndexFunc_scan_Item_scan_Item__51_b1 N l k = some (if decide (¬ItP x) then .inr (.inr (k : Int)) else .inl ((k : Int) + 1)) := fun k x hx => by
      simp only [slices_IndexFunc_scan_Item_scan_Item__51_b1, dk (getlt hx), cond_true, ixg hx, Option.bind_some, scan_sound_1]
      rcases (scan_proper_eq (hN.2 x (List.mem_of_getElem? hx)).2).cases with ⟨h, p⟩ | ⟨h, p⟩
      · rw [h]; simp [p]
      · rw [h]; simp [p]
    rw [idxf l (fun x => decide (¬ItP x)) hN.1 st (by simp only [slices_IndexFunc_scan_Item_scan_Item__51_b1, dn, cond_false])]
    exact congrArg some (find_ge _ _)
  rw [e]
  refine ⟨_, rfl, ?_⟩
  simp
theorem scan_sound_eq {N : Nat} {r : Rule} (hN : SzR N r) : Tells (scan_sound N r) (RlP r ∧ (r.Next = [] ∨ word r.Next = true)) := by
  unfold scan_sound
  have hi := sound_items hN.2.2
  have e1 : (1 : Int) = ((1 : Nat) : Int) := rfl
  have e2 : (20 : Int) = ((20 : Nat) : Int) := rfl
  rw [scan_word_eq hN.1, scan_word_eq hN.2.1]
  simp only [Option.bind_some]
  rw [e1, e2, leng, lenb]
  have fin : ∀ (P : Prop), P → (P ↔ (r.Next = [] ∨ word r.Next = true)) → word r.Kind = true → Tells (bif decide (1 ≤ r.Items.length) then bif decide (r.Items.length ≤ 20) then (slices_ContainsFunc_scan_Item_scan_Item__51 N r.Items).bind fun r12 => some (!r12) else some false else some false) (RlP r ∧ (r.Next = [] ∨ word r.Next = true)) := fun P p hP hk => by
    by_cases h1 : 1 ≤ r.Items.length
    · by_cases h2 : r.Items.length ≤ 20
      · rw [decide_eq_true h1, decide_eq_true h2]
        simp only [cond_true]
        exact hi.iff ⟨fun h => ⟨⟨hk, ⟨h1, h2⟩, h⟩, hP.1 p⟩, fun h => h.1.2.2⟩
      · rw [decide_eq_true h1, decide_eq_false h2]
        exact .no rfl (fun h => h2 h.1.2.1.2)
    · rw [decide_eq_false h1]
      exact .no rfl (fun h => h1 h.1.2.1.1)
  cases hk : word r.Kind with
  | false => exact .no rfl (fun h => by have := h.1.1; rw [hk] at this; cases this)
  | true =>
    simp only [cond_true]
    by_cases h0 : r.Next = []
    · have e : (r.Next == ([] : Str)) = true := by simp [h0]
      rw [e]
      exact fin _ h0 ⟨fun h => .inl h, fun _ => h0⟩ hk
    · have e : (r.Next == ([] : Str)) = false := by simpa using h0
      rw [e]
      simp only [cond_false]
      have hw0 : word r.Next = true ∨ word r.Next = false := by cases word r.Next <;> simp
      rcases hw0.symm with hw | hw
      · rw [hw]; exact .no rfl (fun h => by rcases h.2 with h | h; exact h0 h; cases h)
      · have f := fin (word r.Next = true) hw ⟨fun h => .inr h, fun h => h.resolve_left h0⟩ hk
        rw [hw] at f ⊢
        exact f
theorem ref_proper_eq {N : Nat} {r : Rule} (hN : SzR N r) : Tells (calqueref44_proper N r) (RlP r) := by
  unfold calqueref44_proper
  have e1 : (1 : Int) = ((1 : Nat) : Int) := rfl
  have e2 : (20 : Int) = ((20 : Nat) : Int) := rfl
  rcases iter_allP (body := fun s => calqueref44_proper_b1 N r s) ItP r.Items hN.2.2.1 (fun k x hx => by
    rcases (ref_Proper_eq (hN.2.2.2 x (List.mem_of_getElem? hx)).2).cases with ⟨h, p⟩ | ⟨h, p⟩
    · exact .inl ⟨p, by simp only [calqueref44_proper_b1, dk (getlt hx), cond_true, ixg hx, Option.bind_some, h, Bool.not_true, cond_false]⟩
    · exact .inr ⟨p, by simp only [calqueref44_proper_b1, dk (getlt hx), cond_true, ixg hx, Option.bind_some, h, Bool.not_false, cond_true]⟩) (by simp only [calqueref44_proper_b1, dn, cond_false]) with ⟨h, p⟩ | ⟨h, p⟩
  · rw [h, ref_word_eq hN.1]
    simp only [Option.bind_some, Sum.elim_inl]
    rw [e1, e2, leng, lenb]
    cases hk : word r.Kind with
    | false => exact .no rfl (fun h => by have := h.1; rw [hk] at this; cases this)
    | true =>
      simp only [cond_true]
      by_cases h1 : 1 ≤ r.Items.length
      · rw [decide_eq_true h1]
        refine ⟨_, rfl, ?_⟩
        unfold RlP
        simp [hk, h1]
        exact fun _ => p
      · rw [decide_eq_false h1]
        exact .no rfl (fun h => h1 h.2.1.1)
  · rw [h]
    exact .no rfl (fun h => p h.2.2)
end Go.Proofs.Ytmmioinglmeoiaa
namespace Go.Proofs.Ytmmioinglmeoiaa
open Go.X
theorem mget_map {s : List State} {n : Str} : mget (s.map fun x => (x.Name, true)) n = if n ∈ s.map State.Name then some true else none := by
  induction s with
  | nil => rfl
  | cons x s ih =>
    simp only [List.map_cons, mget, List.find?_cons, List.mem_cons] at ih ⊢
    by_cases h : n = x.Name
    · subst h; simp
    · have : (n == x.Name) = false := by simpa using h
      simp only [this, h, false_or]
      exact ih
theorem mset_new {s : List State} {n : Str} (h : n ∉ s.map State.Name) (hl : s.length ≤ 100) : mset (s.map fun x => (x.Name, true)) n true = some (s.map (fun x => (x.Name, true)) ++ [(n, true)]) := by
  unfold mset
  rw [if_pos (by unfold LIM; simp; omega), mput_new]
  intro p hp e
  obtain ⟨x, hx, rfl⟩ := List.mem_map.1 hp
  exact h (List.mem_map.2 ⟨x, hx, e⟩)
def A1 (s : List State) : Prop := (∀ x ∈ s, word x.Name = true ∧ 1 ≤ x.Rules.length ∧ x.Rules.length ≤ 40) ∧ (s.map State.Name).Nodup
def A2 (s : List State) : Prop := ∀ x ∈ s, ∀ r ∈ x.Rules, RlP r ∧ (r.Next = [] ∨ r.Next ∈ s.map State.Name)
theorem Vs_iff {s : List State} : Vs s ↔ (1 ≤ s.length ∧ s.length ≤ 20) ∧ A1 s ∧ A2 s :=
  ⟨fun h => ⟨h.len, ⟨fun x hx => ⟨h.name x hx, h.rules x hx⟩, h.nd⟩, h.rl⟩, fun ⟨h1, h2, h3⟩ => ⟨h1, fun x hx => (h2.1 x hx).1, fun x hx => (h2.1 x hx).2, h3, h2.2⟩⟩
theorem A1.take {s : List State} {k : Nat} {x : State} (hx : s[k]? = some x) : A1 (s.take (k + 1)) ↔ A1 (s.take k) ∧ (word x.Name = true ∧ 1 ≤ x.Rules.length ∧ x.Rules.length ≤ 40) ∧ x.Name ∉ (s.take k).map State.Name := by
  unfold A1
  rw [← take1 hx]
  simp only [List.mem_append, List.mem_singleton, List.map_append, List.map_cons, List.map_nil, List.nodup_append]
  constructor
  · rintro ⟨h1, h2, _, h3⟩
    exact ⟨⟨fun y hy => h1 y (.inl hy), h2⟩, h1 x (.inr rfl), fun h => h3 _ h _ rfl rfl⟩
  · rintro ⟨⟨h1, h2⟩, h3, h4⟩
    refine ⟨fun y hy => ?_, h2, by simp, fun a ha b hb e => ?_⟩
    · rcases hy with hy | rfl
      · exact h1 y hy
      · exact h3
    · subst hb; subst e; exact h4 ha
theorem A1.sub {s : List State} (k : Nat) (h : A1 s) : A1 (s.take k) :=
  ⟨fun x hx => h.1 x (List.mem_of_mem_take hx), h.2.sublist ((List.take_sublist _ _).map _)⟩
theorem scan_loop1 {N : Nat} {s : List State} (hs : Sz N s) (hl : s.length ≤ 20) :
    (iter (fun st : Int × List (Str × Bool) => scan_Valid_b1 N s st.1 st.2) N (0, []) = some (.inl (s.map fun x => (x.Name, true))) ∧ A1 s) ∨ (iter (fun st : Int × List (Str × Bool) => scan_Valid_b1 N s st.1 st.2) N (0, []) = some (.inr false) ∧ ¬A1 s) := by
  obtain ⟨b, h1, h2⟩ := iter_indE (body := fun st : Int × List (Str × Bool) => scan_Valid_b1 N s st.1 st.2) (fun i st => st = ((i : Int), (s.take i).map fun x => (x.Name, true)) ∧ A1 (s.take i)) s.length
    (fun b => (b = .inl (s.map fun x => (x.Name, true)) ∧ A1 s) ∨ (b = .inr false ∧ ¬A1 s)) (fun i st hi ⟨hst, hA⟩ => by
    subst hst
    obtain ⟨x, hx⟩ := at_lt hi
    have hz := hs.2 x (List.mem_of_getElem? hx)
    have bad : ¬A1 (s.take (i + 1)) → ∃ b : List (Str × Bool) ⊕ Bool, (some (.inr (.inr false)) : Option ((Int × List (Str × Bool)) ⊕ (List (Str × Bool) ⊕ Bool))) = some (.inr b) ∧ ((b = .inl (s.map fun x => (x.Name, true)) ∧ A1 s) ∨ (b = .inr false ∧ ¬A1 s)) := fun h => ⟨_, rfl, .inr ⟨rfl, fun g => h (g.sub _)⟩⟩
    rw [A1.take hx] at bad
    simp only [scan_Valid_b1, dk hi, cond_true, ixg hx, Option.bind_some, scan_word_eq hz.1]
    cases hw : word x.Name with
    | false => exact .inr (bad (fun h => by have := h.2.1.1; rw [hw] at this; cases this))
    | true =>
      simp only [Bool.not_true, cond_false, mget_map]
      by_cases hm : x.Name ∈ (s.take i).map State.Name
      · rw [if_pos hm]
        exact .inr (bad (fun h => h.2.2 hm))
      · rw [if_neg hm]
        simp only [Option.getD_none, cond_false]
        rw [show (1 : Int) = ((1 : Nat) : Int) from rfl, show (40 : Int) = ((40 : Nat) : Int) from rfl]
        by_cases h1 : x.Rules.length < 1
        · rw [decide_eq_true (by omega)]
          exact .inr (bad (fun h => by have := h.2.1.2.1; omega))
        · rw [decide_eq_false (by omega)]
          by_cases h2 : x.Rules.length > 40
          · rw [decide_eq_true (by omega)]
            exact .inr (bad (fun h => by have := h.2.1.2.2; omega))
          · rw [decide_eq_false (by omega)]
            simp only [cond_false]
            rw [mset_new hm (by simp; omega)]
            refine .inl ⟨_, rfl, ?_, ?_⟩
            · rw [← take1 hx]; simp
            · rw [A1.take hx]; exact ⟨hA, ⟨hw, by omega, by omega⟩, hm⟩) (fun st ⟨hst, hA⟩ => by
    subst hst
    rw [List.take_length] at hA ⊢
    exact ⟨_, by simp only [scan_Valid_b1, dn, cond_false], .inl ⟨rfl, hA⟩⟩) N (0, []) hs.1 ⟨by simp, by unfold A1; simp⟩
  rcases h2 with ⟨rfl, h⟩ | ⟨rfl, h⟩
  · exact .inl ⟨h1, h⟩
  · exact .inr ⟨h1, h⟩
theorem scan_rules {N : Nat} {s : List State} (hA : A1 s) {x : State} (hx : SzS N x) :
    (iter (fun st => scan_Valid_b3 N (s.map fun x => (x.Name, true)) x st) N 0 = some (.inl ()) ∧ ∀ r ∈ x.Rules, RlP r ∧ (r.Next = [] ∨ r.Next ∈ s.map State.Name)) ∨ (iter (fun st => scan_Valid_b3 N (s.map fun x => (x.Name, true)) x st) N 0 = some (.inr false) ∧ ¬∀ r ∈ x.Rules, RlP r ∧ (r.Next = [] ∨ r.Next ∈ s.map State.Name)) := by
  have hw : ∀ n ∈ s.map State.Name, word n = true := fun n hn => by
    obtain ⟨y, hy, rfl⟩ := List.mem_map.1 hn
    exact (hA.1 y hy).1
  refine iter_allP (fun r : Rule => RlP r ∧ (r.Next = [] ∨ r.Next ∈ s.map State.Name)) x.Rules hx.2.1 (fun k r hr => ?_) (by simp only [scan_Valid_b3, dn, cond_false])
  simp only [scan_Valid_b3, dk (getlt hr), cond_true, ixg hr, Option.bind_some, neN]
  rcases (scan_sound_eq (hx.2.2 r (List.mem_of_getElem? hr))).cases with ⟨h, p⟩ | ⟨h, p⟩
  · rw [h]
    simp only [Option.bind_some, Bool.not_true, cond_false]
    by_cases h0 : r.Next = []
    · rw [decide_eq_true h0]
      exact .inl ⟨⟨p.1, .inl h0⟩, rfl⟩
    · rw [decide_eq_false h0]
      simp only [Bool.not_false, cond_true, mget_map]
      by_cases hm : r.Next ∈ s.map State.Name
      · rw [if_pos hm]
        exact .inl ⟨⟨p.1, .inr hm⟩, rfl⟩
      · rw [if_neg hm]
        exact .inr ⟨fun h => by rcases h.2 with h | h; exact h0 h; exact hm h, rfl⟩
  · rw [h]
    refine .inr ⟨fun q => p ⟨q.1, ?_⟩, rfl⟩
    rcases q.2 with h | h
    · exact .inl h
    · exact .inr (hw _ h)
theorem scan_loop2 {N : Nat} {s : List State} (hA : A1 s) (hs : Sz N s) :
    (iter (fun st => scan_Valid_b2 N s (s.map fun x => (x.Name, true)) st) N 0 = some (.inl ()) ∧ A2 s) ∨ (iter (fun st => scan_Valid_b2 N s (s.map fun x => (x.Name, true)) st) N 0 = some (.inr false) ∧ ¬A2 s) := by
  refine iter_allP (fun x : State => ∀ r ∈ x.Rules, RlP r ∧ (r.Next = [] ∨ r.Next ∈ s.map State.Name)) s hs.1 (fun k x hx => ?_) (by simp only [scan_Valid_b2, dn, cond_false])
  simp only [scan_Valid_b2, dk (getlt hx), cond_true, ixg hx, Option.bind_some]
  rcases scan_rules hA (hs.2 x (List.mem_of_getElem? hx)) with ⟨h, p⟩ | ⟨h, p⟩
  · rw [h]; exact .inl ⟨p, rfl⟩
  · rw [h]; exact .inr ⟨p, rfl⟩
def Vl (s : List State) : Prop := Vs s ∧ (textT s).length ≤ 8000
def Sb (s : List State) : Prop := ∀ x ∈ s, ∀ r ∈ x.Rules, ∀ y ∈ r.Items, InB y
theorem ScOk.sb {s : List State} (h : ScOk s) : Sb s := fun x hx r hr y hy => (((h.2 x hx).2.2 r hr).2.1.2 y hy).2.1.2
theorem scan_Valid_eq {N : Nat} {s : List State} (hs : Sz N s) (hb : Sb s) (hN : 100 ≤ N) : Tells (scan_Valid N s) (Vl s) := by
  unfold scan_Valid
  by_cases h1 : s.length < 1
  · rw [decide_eq_true (by omega)]
    exact .no rfl (fun h => by have := h.1.len; omega)
  rw [decide_eq_false (by omega)]
  by_cases h2 : s.length > 20
  · rw [decide_eq_true (by omega)]
    exact .no rfl (fun h => by have := h.1.len; omega)
  rw [decide_eq_false (by omega)]
  simp only [cond_false]
  rcases scan_loop1 hs (by omega) with ⟨h, hA⟩ | ⟨h, hA⟩
  · rw [h]
    simp only [Option.bind_some, Sum.elim_inl]
    rcases scan_loop2 hA hs with ⟨h, hB⟩ | ⟨h, hB⟩
    · rw [h]
      simp only [Option.bind_some, Sum.elim_inl]
      have hv : Vs s := Vs_iff.2 ⟨by omega, hA, hB⟩
      rw [scan_text_eq hv hb hN]
      simp only [Option.bind_some]
      rw [show (8000 : Int) = ((8000 : Nat) : Int) from rfl, lenb]
      exact Tells.dec.iff ⟨fun h => ⟨hv, h⟩, fun h => h.2⟩
    · rw [h]
      exact .no rfl (fun h => hB (Vs_iff.1 h.1).2.2)
  · rw [h]
    exact .no rfl (fun h => hA (Vs_iff.1 h.1).2.1)
def fst (s : List State) (n : Str) : Int := match s.findIdx? (fun y => y.Name == n) with | some k => (k : Int) | none => -1
theorem Index_eq {N : Nat} {s : List State} (n : Str) (hN : s.length < N) : calqueref44_Index N s n = some (fst s n) := by
  unfold calqueref44_Index
  have st : ∀ (k : Nat) y, s[k]? = some y → calqueref44_Index_b1 N s n k = some (if y.Name == n then .inr (.inr (k : Int)) else .inl ((k : Int) + 1)) := fun k y hy => by
    simp only [calqueref44_Index_b1, dk (getlt hy), cond_true, ixg hy, Option.bind_some]
    cases y.Name == n <;> rfl
  rw [idxf s (fun y => y.Name == n) hN st (by simp only [calqueref44_Index_b1, dn, cond_false])]
  rfl
theorem fst_mem {s : List State} {n : Str} : (fst s n < 0) ↔ n ∉ s.map State.Name := by
  unfold fst
  cases h : s.findIdx? (fun y => y.Name == n) with
  | none =>
    have := List.findIdx?_eq_none_iff.1 h
    refine ⟨fun _ hm => ?_, fun _ => by decide⟩
    obtain ⟨y, hy, e⟩ := List.mem_map.1 hm
    have := this y hy
    simp [e] at this
  | some k =>
    obtain ⟨hk, h1, _⟩ := List.findIdx?_eq_some_iff_getElem.1 h
    refine ⟨fun h => by simp only at h; omega, fun hm => absurd (List.mem_map.2 ⟨s[k], List.getElem_mem hk, by simpa using h1⟩) hm⟩
theorem fst_take {s : List State} {k : Nat} {x : State} (hx : s[k]? = some x) : fst s x.Name = (k : Int) ↔ x.Name ∉ (s.take k).map State.Name := by
  have hlt := getlt hx
  have hxe : s[k] = x := by rw [List.getElem?_eq_getElem hlt] at hx; exact Option.some.inj hx
  unfold fst
  constructor
  · intro h hm
    cases hf : s.findIdx? (fun y => y.Name == x.Name) with
    | none => rw [hf] at h; simp only at h; omega
    | some j =>
      rw [hf] at h
      simp only at h
      obtain rfl : j = k := by omega
      obtain ⟨_, _, h2⟩ := List.findIdx?_eq_some_iff_getElem.1 hf
      obtain ⟨y, hy, e⟩ := List.mem_map.1 hm
      obtain ⟨i, hi, rfl⟩ := List.mem_iff_getElem.1 hy
      simp only [List.length_take] at hi
      have := h2 i (by omega)
      rw [List.getElem_take] at e
      simp [e] at this
  · intro hm
    have : s.findIdx? (fun y => y.Name == x.Name) = some k := by
      refine List.findIdx?_eq_some_iff_getElem.2 ⟨hlt, by rw [hxe]; simp, fun j hj => ?_⟩
      intro he
      refine hm (List.mem_map.2 ⟨s[j], ?_, by simpa using he⟩)
      exact List.mem_iff_getElem.2 ⟨j, by simp; omega, by rw [List.getElem_take]⟩
    rw [this]
theorem ref_rules {N : Nat} {s : List State} (hs : Sz N s) {i : Nat} {x : State} (hx : s[i]? = some x) :
    (iter (fun st => calqueref44_Valid_b2 N s i st) N 0 = some (.inl ()) ∧ ∀ r ∈ x.Rules, RlP r ∧ (r.Next = [] ∨ r.Next ∈ s.map State.Name)) ∨ (iter (fun st => calqueref44_Valid_b2 N s i st) N 0 = some (.inr false) ∧ ¬∀ r ∈ x.Rules, RlP r ∧ (r.Next = [] ∨ r.Next ∈ s.map State.Name)) := by
  have hz := hs.2 x (List.mem_of_getElem? hx)
  refine iter_allP (fun r : Rule => RlP r ∧ (r.Next = [] ∨ r.Next ∈ s.map State.Name)) x.Rules hz.2.1 (fun k r hr => ?_) (by simp only [calqueref44_Valid_b2, ixg hx, Option.bind_some, dn, cond_false])
  simp only [calqueref44_Valid_b2, ixg hx, dk (getlt hr), cond_true, ixg hr, Option.bind_some, neN]
  rcases (ref_proper_eq (hz.2.2 r (List.mem_of_getElem? hr))).cases with ⟨h, p⟩ | ⟨h, p⟩
  · rw [h]
    simp only [Option.bind_some, Bool.not_true, cond_false]
    by_cases h0 : r.Next = []
    · rw [decide_eq_true h0]
      exact .inl ⟨⟨p, .inl h0⟩, rfl⟩
    · rw [decide_eq_false h0, Index_eq _ hs.1]
      simp only [Bool.not_false, cond_true, Option.bind_some]
      by_cases hm : fst s r.Next < 0
      · rw [decide_eq_true hm]
        exact .inr ⟨fun h => by rcases h.2 with h | h; exact h0 h; exact fst_mem.1 hm h, rfl⟩
      · rw [decide_eq_false hm]
        refine .inl ⟨⟨p, .inr ?_⟩, rfl⟩
        exact Classical.byContradiction fun h => hm (fst_mem.2 h)
  · rw [h]
    exact .inr ⟨fun q => p q.1, rfl⟩
theorem ref_loop {N : Nat} {s : List State} (hs : Sz N s) :
    (iter (fun st => calqueref44_Valid_b1 N s st) N 0 = some (.inl ()) ∧ A1 s ∧ A2 s) ∨ (iter (fun st => calqueref44_Valid_b1 N s st) N 0 = some (.inr false) ∧ ¬(A1 s ∧ A2 s)) := by
  obtain ⟨b, h1, h2⟩ := iter_indE (body := fun st => calqueref44_Valid_b1 N s st) (fun i st => st = (i : Int) ∧ A1 (s.take i) ∧ ∀ x ∈ s.take i, ∀ r ∈ x.Rules, RlP r ∧ (r.Next = [] ∨ r.Next ∈ s.map State.Name)) s.length
    (fun b => (b = .inl () ∧ A1 s ∧ A2 s) ∨ (b = .inr false ∧ ¬(A1 s ∧ A2 s))) (fun i st hi ⟨hst, hA, hB⟩ => by
    subst hst
    obtain ⟨x, hx⟩ := at_lt hi
    have hz := hs.2 x (List.mem_of_getElem? hx)
    have bad : ¬A1 (s.take (i + 1)) → ∃ b : Unit ⊕ Bool, (some (.inr (.inr false)) : Option (Int ⊕ (Unit ⊕ Bool))) = some (.inr b) ∧ ((b = .inl () ∧ A1 s ∧ A2 s) ∨ (b = .inr false ∧ ¬(A1 s ∧ A2 s))) := fun h => ⟨_, rfl, .inr ⟨rfl, fun g => h (g.1.sub _)⟩⟩
    rw [A1.take hx] at bad
    simp only [calqueref44_Valid_b1, dk hi, cond_true, ixg hx, Option.bind_some, ref_word_eq hz.1, Index_eq _ hs.1]
    cases hw : word x.Name with
    | false => exact .inr (bad (fun h => by have := h.2.1.1; rw [hw] at this; cases this))
    | true =>
      simp only [Bool.not_true, cond_false]
      by_cases hm : fst s x.Name = (i : Int)
      · have e : (fst s x.Name != (i : Int)) = false := by rw [hm]; simp
        rw [e]
        simp only [cond_false]
        by_cases h1 : x.Rules.length < 1
        · rw [decide_eq_true (by omega)]
          exact .inr (bad (fun h => by have := h.2.1.2.1; omega))
        · rw [decide_eq_false (by omega)]
          by_cases h2 : x.Rules.length > 40
          · rw [decide_eq_true (by omega)]
            exact .inr (bad (fun h => by have := h.2.1.2.2; omega))
          · rw [decide_eq_false (by omega)]
            simp only [cond_false]
            rcases ref_rules hs hx with ⟨h, p⟩ | ⟨h, p⟩
            · rw [h]
              refine .inl ⟨_, rfl, rfl, ?_, ?_⟩
              · rw [A1.take hx]; exact ⟨hA, ⟨hw, by omega, by omega⟩, (fst_take hx).1 hm⟩
              · rw [← take1 hx]
                intro y hy
                rcases List.mem_append.1 hy with hy | hy
                · exact hB y hy
                · rw [List.mem_singleton.1 hy]; exact p
            · rw [h]
              exact .inr ⟨_, rfl, .inr ⟨rfl, fun g => p (g.2 x (List.mem_of_getElem? hx))⟩⟩
      · have e : (fst s x.Name != (i : Int)) = true := by simpa using hm
        rw [e]
        exact .inr (bad (fun h => hm ((fst_take hx).2 h.2.2)))) (fun st ⟨hst, hA, hB⟩ => by
    subst hst
    rw [List.take_length] at hA hB
    exact ⟨_, by simp only [calqueref44_Valid_b1, dn, cond_false], .inl ⟨rfl, hA, hB⟩⟩) N 0 hs.1 ⟨by simp, by unfold A1; simp, by simp⟩
  rcases h2 with ⟨rfl, h⟩ | ⟨rfl, h⟩
  · exact .inl ⟨h1, h⟩
  · exact .inr ⟨h1, h⟩
theorem ref_Valid_eq {N : Nat} {s : List State} (hs : Sz N s) (hb : Sb s) (hN : 100 ≤ N) : Tells (calqueref44_Valid N s) (Vl s) := by
  unfold calqueref44_Valid
  rcases ref_loop hs with ⟨h, hA, hB⟩ | ⟨h, hA⟩
  · rw [h]
    simp only [Option.bind_some, Sum.elim_inl]
    by_cases h1 : 1 ≤ s.length
    · rw [decide_eq_true (by omega)]
      by_cases h2 : s.length ≤ 20
      · rw [decide_eq_true (by omega)]
        simp only [cond_true]
        have hv : Vs s := Vs_iff.2 ⟨by omega, hA, hB⟩
        rw [ref_text_eq hv hb hN]
        simp only [Option.bind_some]
        rw [show (8000 : Int) = ((8000 : Nat) : Int) from rfl, lenb]
        exact Tells.dec.iff ⟨fun h => ⟨hv, h⟩, fun h => h.2⟩
      · rw [decide_eq_false (by omega)]
        exact .no rfl (fun h => h2 h.1.len.2)
    · rw [decide_eq_false (by omega)]
      exact .no rfl (fun h => h1 h.1.len.1)
  · rw [h]
    exact .no rfl (fun h => hA (Vs_iff.1 h.1).2)
end Go.Proofs.Ytmmioinglmeoiaa
namespace Go.Proofs.Ytmmioinglmeoiaa
open Go.X
def inCls (x : Item) (c : Nat) : Bool := x.Not != x.Ranges.any (fun g => decide (g.From ≤ (c : Int)) && decide ((c : Int) ≤ g.To))
def hit (x : Item) (s : Str) : Option Nat :=
  if x.Text = [] then (match s with | [] => none | c :: _ => if inCls x c.toNat then some 1 else none)
  else if x.Text.isPrefixOf s then some x.Text.length else none
def run (x : Item) : Nat → Str → Nat → Nat × Nat
  | 0, _, c => (0, c)
  | f + 1, s, c => if x.Most < 0 ∨ (c : Int) < x.Most then (match hit x s with | some k => (k + (run x f (s.drop k) (c + 1)).1, (run x f (s.drop k) (c + 1)).2) | none => (0, c)) else (0, c)
theorem slc_tail {α : Type} {s : List α} {n : Nat} (h : n ≤ s.length) : slc s (n : Int) (s.length : Int) = some (s.drop n) := by
  unfold slc
  rw [if_pos (by omega)]
  congr 1
  rw [Int.toNat_natCast, List.take_of_length_le]
  simp only [List.length_drop]
  omega
theorem slc_mid {α : Type} {s : List α} {a b : Nat} (h : a + b ≤ s.length) : slc s (a : Int) ((a : Int) + (b : Int)) = some ((s.drop a).take b) := by
  unfold slc
  rw [if_pos (by omega)]
  congr 2
  omega
theorem wrapN {n : Nat} (h : n ≤ 1000000000) : IntKind.wrap .i64 (n : Int) = (n : Int) := wrap_of (inR_i64.2 ⟨by omega, by omega⟩)
theorem drop_hd {s : Str} {n : Nat} (h : n < s.length) : ∃ c, s[n]? = some c ∧ s.drop n = c :: s.drop (n + 1) :=
  ⟨s[n], List.getElem?_eq_getElem h, by rw [List.drop_eq_getElem_cons h]⟩
end Go.Proofs.Ytmmioinglmeoiaa
