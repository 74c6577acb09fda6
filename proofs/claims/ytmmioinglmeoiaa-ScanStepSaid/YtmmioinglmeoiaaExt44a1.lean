/- The functions of this part as plain Lean functions, printed by gen8.py. -/
import Derived.Test.YtmmioinglmeoiaaLibNR
set_option linter.unusedVariables false
namespace Go.Proofs.Ytmmioinglmeoiaa
open Go.X

structure Range where
  From : Int
  To : Int

structure Item where
  Text : List UInt8
  Ranges : List (Range)
  Not : Bool
  Least : Int
  Most : Int

structure Rule where
  Kind : List UInt8
  Items : List (Item)
  Next : List UInt8

structure State where
  Name : List UInt8
  Rules : List (Rule)

structure Token where
  Kind : List UInt8
  Text : List UInt8
  From : Int

structure Builder where
  addr : Unit
  buf : List (Int)

structure Arr2_Int where
  e0 : Int
  e1 : Int

def Arr2_Int.list (a : Arr2_Int) : List (Int) := [a.e0, a.e1]
def Arr2_Int.of : List (Int) → Option Arr2_Int
  | [x0, x1] => some ⟨x0, x1⟩
  | _ => none
def Arr2_Int.get (a : Arr2_Int) (i : Int) : Option (Int) := idx a.list i
def Arr2_Int.set (a : Arr2_Int) (i : Int) (x : Int) : Option Arr2_Int := (setI a.list i x).bind Arr2_Int.of

structure Reader where
  s : List UInt8

structure Lexer where
  script : List (State)
  bits : List (List (List (Option (List Bool))))
  states : List (List UInt8 × Int)

def strings_Builder_WriteString (_N : Nat) (s_1 : List UInt8) (x0 : Builder) : Option (Int × Unit × Builder) :=
  (app x0.buf (ints s_1)).bind fun l11 =>
  some ((s_1.length : Int), (), (Builder.mk () l11))

def strings_Builder_WriteByte (_N : Nat) (c_1 : Int) (x0 : Builder) : Option (Unit × Builder) :=
  (app x0.buf ([c_1] : List (Int))).bind fun l14 =>
  some ((), (Builder.mk () l14))

def scan_mark (_N : Nat) (x_0 : Item) : Option ((List UInt8) × Bool) :=
  bif ((x_0.Least == 1) && (x_0.Most == 1)) then
    some ([], true)
  else
    bif ((x_0.Least == 0) && (x_0.Most == 1)) then
      some ([63], true)
    else
      bif ((x_0.Least == 0) && (x_0.Most == (-1))) then
        some ([42], true)
      else
        bif ((x_0.Least == 1) && (x_0.Most == (-1))) then
          some ([43], true)
        else
          some ([], false)

def scan_hex (_N : Nat) (c_0 : Int) : Option (List UInt8) :=
  (show Option ((List UInt8)) from
    (idx ([48, 49, 50, 51, 52, 53, 54, 55, 56, 57, 97, 98, 99, 100, 101, 102] : List UInt8) (IntKind.wrap .u8 (c_0.tdiv 16))).bind fun c3 =>
    (rm c_0 16).bind fun q5 =>
    (idx ([48, 49, 50, 51, 52, 53, 54, 55, 56, 57, 97, 98, 99, 100, 101, 102] : List UInt8) q5).bind fun c7 =>
    (cat ([92, 120]) (bytesOf ([(c3.toNat : Int), (c7.toNat : Int)] : List (Int)))).bind fun s12 =>
    some s12).bind fun o1 =>
  some o1

def scan_quoted (N : Nat) (c_0 : Int) : Option (List UInt8) :=
  bif (decide (c_0 < 32)) then
    (scan_hex N c_0).bind fun r2 =>
    some r2
  else
    bif (decide (c_0 > 126)) then
      (scan_hex N c_0).bind fun r6 =>
      some r6
    else
      bif (c_0 == 34) then
        (cat ([92]) (bytesOf ([c_0] : List (Int)))).bind fun s13 =>
        some s13
      else
        bif (c_0 == 92) then
          (cat ([92]) (bytesOf ([c_0] : List (Int)))).bind fun s19 =>
          some s19
        else
          some (bytesOf ([c_0] : List (Int)))

def scan_bracketed (N : Nat) (c_0 : Int) : Option (List UInt8) :=
  bif (decide (c_0 ≤ 32)) then
    (scan_hex N c_0).bind fun r2 =>
    some r2
  else
    bif (decide (c_0 > 126)) then
      (scan_hex N c_0).bind fun r6 =>
      some r6
    else
      (strings_IndexByte N ([91, 93, 94, 45, 92]) c_0).bind fun r9 =>
      bif (decide (r9 ≥ 0)) then
        (cat ([92]) (bytesOf ([c_0] : List (Int)))).bind fun s16 =>
        some s16
      else
        some (bytesOf ([c_0] : List (Int)))

def scan_item_b1 (N : Nat) (x_1 : Item) (x_42 : Int) (x_43 : Builder) : Option ((Int × Builder) ⊕ Builder) :=
  bif (decide (x_42 < (x_1.Text.length : Int))) then
    (idx x_1.Text x_42).bind fun c51 =>
    (scan_quoted N (c51.toNat : Int)).bind fun r53 =>
    (strings_Builder_WriteString N r53 (Builder.mk () x_43.buf)).bind fun r56 =>
    some (.inl ((x_42 + 1), (Builder.mk () r56.2.2.buf)))
  else
    some (.inr (Builder.mk () x_43.buf))

def scan_item_b2 (N : Nat) (x_1 : Item) (x_124 : Int) (x_125 : Builder) : Option ((Int × Builder) ⊕ Builder) :=
  bif (decide (x_124 < (x_1.Ranges.length : Int))) then
    (idx x_1.Ranges x_124).bind fun x133 =>
    (scan_bracketed N x133.From).bind fun r145 =>
    (strings_Builder_WriteString N r145 (Builder.mk () x_125.buf)).bind fun r148 =>
    bif (x133.To != x133.From) then
      (scan_bracketed N x133.To).bind fun r157 =>
      (cat ([45]) r157).bind fun s160 =>
      (strings_Builder_WriteString N s160 (Builder.mk () r148.2.2.buf)).bind fun r162 =>
      some (.inl ((x_124 + 1), (Builder.mk () r162.2.2.buf)))
    else
      some (.inl ((x_124 + 1), (Builder.mk () r148.2.2.buf)))
  else
    some (.inr (Builder.mk () x_125.buf))
def scan_item (N : Nat) (x_1 : Item) (x0 : Builder) : Option Builder :=
  (scan_mark N x_1).bind fun r17 =>
  bif (x_1.Text != ([])) then
    (strings_Builder_WriteByte N 34 (Builder.mk () x0.buf)).bind fun r21 =>
    (iter (fun s => scan_item_b1 N x_1 s.1 s.2) N (0, (Builder.mk () r21.2.buf))).bind fun o35 =>
    (cat ([34]) r17.1).bind fun s69 =>
    (strings_Builder_WriteString N s69 (Builder.mk () o35.buf)).bind fun r71 =>
    some (Builder.mk () r71.2.2.buf)
  else
    (strings_Builder_WriteByte N 91 (Builder.mk () x0.buf)).bind fun r84 =>
    (show Option Builder from
      bif x_1.Not then
        (strings_Builder_WriteByte N 94 (Builder.mk () r84.2.buf)).bind fun r98 =>
        some (Builder.mk () r98.2.buf)
      else
        some (Builder.mk () r84.2.buf)).bind fun o91 =>
    (iter (fun s => scan_item_b2 N x_1 s.1 s.2) N (0, (Builder.mk () o91.buf))).bind fun o117 =>
    (cat ([93]) r17.1).bind fun s175 =>
    (strings_Builder_WriteString N s175 (Builder.mk () o117.buf)).bind fun r177 =>
    some (Builder.mk () r177.2.2.buf)

def scan_line_b1 (N : Nat) (r_0 : Rule) (x_31 : Int) (x_32 : Builder) : Option ((Int × Builder) ⊕ Builder) :=
  bif (decide (x_31 < (r_0.Items.length : Int))) then
    (idx r_0.Items x_31).bind fun x40 =>
    (strings_Builder_WriteByte N 32 (Builder.mk () x_32.buf)).bind fun r55 =>
    (scan_item N x40 (Builder.mk () r55.2.buf)).bind fun r62 =>
    some (.inl ((x_31 + 1), (Builder.mk () r62.buf)))
  else
    some (.inr (Builder.mk () x_32.buf))
def scan_line (N : Nat) (r_0 : Rule) : Option (List UInt8) :=
  (strings_Builder_WriteString N r_0.Kind (Builder.mk () ([]))).bind fun r9 =>
  (iter (fun s => scan_line_b1 N r_0 s.1 s.2) N (0, (Builder.mk () r9.2.2.buf))).bind fun o24 =>
  bif (r_0.Next != ([])) then
    (cat ([32, 45, 62, 32]) r_0.Next).bind fun s75 =>
    (strings_Builder_WriteString N s75 (Builder.mk () o24.buf)).bind fun r77 =>
    some (bytesOf r77.2.2.buf)
  else
    some (bytesOf o24.buf)

def scan_text_b2 (N : Nat) (x27 : State) (x_66 : Int) (x_67 : Builder) : Option ((Int × Builder) ⊕ Builder) :=
  bif (decide (x_66 < (x27.Rules.length : Int))) then
    (idx x27.Rules x_66).bind fun x75 =>
    (scan_line N x75).bind fun r89 =>
    (cat r89 ([10])).bind fun s92 =>
    (strings_Builder_WriteString N s92 (Builder.mk () x_67.buf)).bind fun r94 =>
    some (.inl ((x_66 + 1), (Builder.mk () r94.2.2.buf)))
  else
    some (.inr (Builder.mk () x_67.buf))

def scan_text_b1 (N : Nat) (s_0 : List (State)) (x_18 : Int) (x_19 : Builder) : Option ((Int × Builder) ⊕ Builder) :=
  bif (decide (x_18 < (s_0.length : Int))) then
    (idx s_0 x_18).bind fun x27 =>
    (cat ([115, 116, 97, 116, 101, 32]) x27.Name).bind fun s40 =>
    (cat s40 ([10])).bind fun s42 =>
    (strings_Builder_WriteString N s42 (Builder.mk () x_19.buf)).bind fun r44 =>
    (iter (fun s => scan_text_b2 N x27 s.1 s.2) N (0, (Builder.mk () r44.2.2.buf))).bind fun o59 =>
    some (.inl ((x_18 + 1), (Builder.mk () o59.buf)))
  else
    some (.inr (Builder.mk () x_19.buf))
def scan_text (N : Nat) (s_0 : List (State)) : Option (List UInt8) :=
  (iter (fun s => scan_text_b1 N s_0 s.1 s.2) N (0, (Builder.mk () ([])))).bind fun o11 =>
  some (bytesOf o11.buf)

def scan_word_b1 (_N : Nat) (s_0 : List UInt8) (x_4 : Int) : Option (Int ⊕ ((Unit ⊕ Bool))) :=
  bif (decide (x_4 < (s_0.length : Int))) then
    (idx s_0 x_4).bind fun c7 =>
    bif (decide ((c7.toNat : Int) < 97)) then
      some (.inr (.inr false))
    else
      (idx s_0 x_4).bind fun c10 =>
      bif (decide ((c10.toNat : Int) > 122)) then
        some (.inr (.inr false))
      else
        some (.inl (x_4 + 1))
  else
    some (.inr (.inl ()))
def scan_word (N : Nat) (s_0 : List UInt8) : Option Bool :=
  (iter (fun s => scan_word_b1 N s_0 s) N 0).bind fun o2 =>
  Sum.elim (fun _o2 =>
    bif (decide ((s_0.length : Int) ≥ 1)) then
      some (decide ((s_0.length : Int) ≤ 16))
    else
      some false)
  (fun o2 =>
    some o2) o2

def scan_proper_1 (_N : Nat) (r_0 : Range) : Option Bool :=
  some (decide (r_0.From > r_0.To))

def slices_IndexFunc_scan_Range_scan_Range__69_b1 (N : Nat) (s_0 : List (Range)) (x_4 : Int) : Option (Int ⊕ ((Unit ⊕ Int))) :=
  bif (decide (x_4 < (s_0.length : Int))) then
    (idx s_0 x_4).bind fun x7 =>
    (scan_proper_1 N x7).bind fun r18 =>
    bif r18 then
      some (.inr (.inr x_4))
    else
      some (.inl (x_4 + 1))
  else
    some (.inr (.inl ()))
def slices_IndexFunc_scan_Range_scan_Range__69 (N : Nat) (s_0 : List (Range)) : Option Int :=
  (iter (fun s => slices_IndexFunc_scan_Range_scan_Range__69_b1 N s_0 s) N 0).bind fun o2 =>
  Sum.elim (fun _o2 =>
    some (-1))
  (fun o2 =>
    some o2) o2

def slices_ContainsFunc_scan_Range_scan_Range__69 (N : Nat) (s_0 : List (Range)) : Option Bool :=
  (slices_IndexFunc_scan_Range_scan_Range__69 N s_0).bind fun r1 =>
  some (decide (r1 ≥ 0))

def scan_proper (N : Nat) (x_0 : Item) : Option Bool :=
  (scan_mark N x_0).bind fun r7 =>
  bif (!r7.2) then
    some false
  else
    bif (x_0.Text != ([])) then
      bif (decide ((x_0.Text.length : Int) ≤ 40)) then
        bif ((x_0.Ranges.length : Int) == 0) then
          some (!x_0.Not)
        else
          some false
      else
        some false
    else
      bif (decide ((x_0.Ranges.length : Int) ≥ 1)) then
        bif (decide ((x_0.Ranges.length : Int) ≤ 20)) then
          (slices_ContainsFunc_scan_Range_scan_Range__69 N x_0.Ranges).bind fun r16 =>
          some (!r16)
        else
          some false
      else
        some false

def scan_sound_1 (N : Nat) (x_0 : Item) : Option Bool :=
  (scan_proper N x_0).bind fun r7 =>
  some (!r7)

def slices_IndexFunc_scan_Item_scan_Item__51_b1 (N : Nat) (s_0 : List (Item)) (x_4 : Int) : Option (Int ⊕ ((Unit ⊕ Int))) :=
  bif (decide (x_4 < (s_0.length : Int))) then
    (idx s_0 x_4).bind fun x7 =>
    (scan_sound_1 N x7).bind fun r21 =>
    bif r21 then
      some (.inr (.inr x_4))
    else
      some (.inl (x_4 + 1))
  else
    some (.inr (.inl ()))
def slices_IndexFunc_scan_Item_scan_Item__51 (N : Nat) (s_0 : List (Item)) : Option Int :=
  (iter (fun s => slices_IndexFunc_scan_Item_scan_Item__51_b1 N s_0 s) N 0).bind fun o2 =>
  Sum.elim (fun _o2 =>
    some (-1))
  (fun o2 =>
    some o2) o2

def slices_ContainsFunc_scan_Item_scan_Item__51 (N : Nat) (s_0 : List (Item)) : Option Bool :=
  (slices_IndexFunc_scan_Item_scan_Item__51 N s_0).bind fun r1 =>
  some (decide (r1 ≥ 0))

def scan_sound (N : Nat) (r_0 : Rule) : Option Bool :=
  (scan_word N r_0.Kind).bind fun r6 =>
  bif r6 then
    bif (r_0.Next == ([])) then
      bif (decide ((r_0.Items.length : Int) ≥ 1)) then
        bif (decide ((r_0.Items.length : Int) ≤ 20)) then
          (slices_ContainsFunc_scan_Item_scan_Item__51 N r_0.Items).bind fun r12 =>
          some (!r12)
        else
          some false
      else
        some false
    else
      (scan_word N r_0.Next).bind fun r14 =>
      bif r14 then
        bif (decide ((r_0.Items.length : Int) ≥ 1)) then
          bif (decide ((r_0.Items.length : Int) ≤ 20)) then
            (slices_ContainsFunc_scan_Item_scan_Item__51 N r_0.Items).bind fun r19 =>
            some (!r19)
          else
            some false
        else
          some false
      else
        some false
  else
    some false

def scan_Valid_b1 (N : Nat) (s_0 : List (State)) (x_16 : Int) (names_17 : List (List UInt8 × Bool)) : Option ((Int × (List (List UInt8 × Bool))) ⊕ ((((List (List UInt8 × Bool))) ⊕ Bool))) :=
  bif (decide (x_16 < (s_0.length : Int))) then
    (idx s_0 x_16).bind fun x23 =>
    (scan_word N x23.Name).bind fun r36 =>
    bif (!r36) then
      some (.inr (.inr false))
    else
      bif ((mget names_17 x23.Name).getD false) then
        some (.inr (.inr false))
      else
        bif (decide ((x23.Rules.length : Int) < 1)) then
          some (.inr (.inr false))
        else
          bif (decide ((x23.Rules.length : Int) > 40)) then
            some (.inr (.inr false))
          else
            (mset names_17 x23.Name true).bind fun l46 =>
            some (.inl ((x_16 + 1), l46))
  else
    some (.inr (.inl names_17))

def scan_Valid_b3 (N : Nat) (o11 : (List (List UInt8 × Bool))) (x59 : State) (x_75 : Int) : Option (Int ⊕ ((Unit ⊕ Bool))) :=
  bif (decide (x_75 < (x59.Rules.length : Int))) then
    (idx x59.Rules x_75).bind fun x78 =>
    (scan_sound N x78).bind fun r92 =>
    bif (!r92) then
      some (.inr (.inr false))
    else
      bif (x78.Next != ([])) then
        bif (!((mget o11 x78.Next).getD false)) then
          some (.inr (.inr false))
        else
          some (.inl (x_75 + 1))
      else
        some (.inl (x_75 + 1))
  else
    some (.inr (.inl ()))

def scan_Valid_b2 (N : Nat) (s_0 : List (State)) (o11 : (List (List UInt8 × Bool))) (x_56 : Int) : Option (Int ⊕ ((Unit ⊕ Bool))) :=
  bif (decide (x_56 < (s_0.length : Int))) then
    (idx s_0 x_56).bind fun x59 =>
    (iter (fun s => scan_Valid_b3 N o11 x59 s) N 0).bind fun o73 =>
    Sum.elim (fun _o73 =>
      some (.inl (x_56 + 1)))
    (fun o73 =>
      some (.inr (.inr o73))) o73
  else
    some (.inr (.inl ()))
def scan_Valid (N : Nat) (s_0 : List (State)) : Option Bool :=
  bif (decide ((s_0.length : Int) < 1)) then
    some false
  else
    bif (decide ((s_0.length : Int) > 20)) then
      some false
    else
      (iter (fun s => scan_Valid_b1 N s_0 s.1 s.2) N (0, ([] : List (List UInt8 × Bool)))).bind fun o11 =>
      Sum.elim (fun o11 =>
        (iter (fun s => scan_Valid_b2 N s_0 o11 s) N 0).bind fun o54 =>
        Sum.elim (fun _o54 =>
          (scan_text N s_0).bind fun r103 =>
          some (decide ((r103.length : Int) ≤ 8000)))
        (fun o54 =>
          some o54) o54)
      (fun o11 =>
        some o11) o11

def scan_Print (N : Nat) (s_0 : List (State)) : Option ((List UInt8) × Int) :=
  (scan_Valid N s_0).bind fun r1 =>
  bif (!r1) then
    some ([], 1)
  else
    (scan_text N s_0).bind fun r4 =>
    some (r4, 0)

def scan_reader_cut (N : Nat) (prefix_1 : List UInt8) (x0 : Reader) : Option (Bool × Reader) :=
  (strings_CutPrefix N x0.s prefix_1).bind fun r3 =>
  bif r3.2 then
    some (r3.2, (Reader.mk r3.1))
  else
    some (r3.2, x0)

def scan_reader_one (N : Nat) (x0 : Reader) : Option (Int × Reader) :=
  (idx x0.s 0).bind fun c3 =>
  (slc x0.s 1 (x0.s.length : Int)).bind fun s5 =>
  bif ((c3.toNat : Int) != 92) then
    some ((c3.toNat : Int), (Reader.mk s5))
  else
    bif (s5 == ([])) then
      some ((c3.toNat : Int), (Reader.mk s5))
    else
      (idx s5 0).bind fun c9 =>
      (slc s5 1 (s5.length : Int)).bind fun s11 =>
      bif ((c9.toNat : Int) != 120) then
        some ((c9.toNat : Int), (Reader.mk s11))
      else
        bif (decide ((s11.length : Int) < 2)) then
          some ((c9.toNat : Int), (Reader.mk s11))
        else
          (idx s11 0).bind fun c15 =>
          (strings_IndexByte N ([48, 49, 50, 51, 52, 53, 54, 55, 56, 57, 97, 98, 99, 100, 101, 102]) (c15.toNat : Int)).bind fun r17 =>
          (idx s11 1).bind fun c20 =>
          (strings_IndexByte N ([48, 49, 50, 51, 52, 53, 54, 55, 56, 57, 97, 98, 99, 100, 101, 102]) (c20.toNat : Int)).bind fun r22 =>
          (slc s11 2 (s11.length : Int)).bind fun s25 =>
          some ((IntKind.wrap .u8 (IntKind.wrap .i64 ((IntKind.wrap .i64 ((16 : Int) * r17)) + r22))), (Reader.mk s25))

def scan_reader_item_b1 (N : Nat) (x_37 : Reader) (x_38 : Item) : Option ((Reader × Item) ⊕ ((Item × Reader))) :=
  bif (x_37.s != ([])) then
    (scan_reader_cut N ([93]) x_37).bind fun r47 =>
    bif (!r47.1) then
      (scan_reader_one N r47.2).bind fun r51 =>
      bif (decide ((r51.2.s.length : Int) > 1)) then
        (scan_reader_cut N ([45]) r51.2).bind fun r56 =>
        (show Option (Int × Reader) from
          bif r56.1 then
            (scan_reader_one N r56.2).bind fun r63 =>
            some (r63.1, r63.2)
          else
            some (r51.1, r56.2)).bind fun o59 =>
        (app x_38.Ranges ([(Range.mk r51.1 o59.1)] : List (Range))).bind fun l72 =>
        some (.inl (o59.2, (Item.mk x_38.Text l72 x_38.Not x_38.Least x_38.Most)))
      else
        (app x_38.Ranges ([(Range.mk r51.1 r51.1)] : List (Range))).bind fun l80 =>
        some (.inl (r51.2, (Item.mk x_38.Text l80 x_38.Not x_38.Least x_38.Most)))
    else
      some (.inr (x_38, r47.2))
  else
    some (.inr (x_38, x_37))

def scan_reader_item_b2 (N : Nat) (b_113 : List (Int)) (x_114 : Reader) : Option (((List (Int)) × Reader) ⊕ ((Reader × (List (Int))))) :=
  bif (x_114.s != ([])) then
    (scan_reader_cut N ([34]) x_114).bind fun r120 =>
    bif (!r120.1) then
      (scan_reader_one N r120.2).bind fun r124 =>
      (app b_113 ([r124.1] : List (Int))).bind fun l131 =>
      some (.inl (l131, r124.2))
    else
      some (.inr (r120.2, b_113))
  else
    some (.inr (x_114, b_113))
def scan_reader_item (N : Nat) (x0 : Reader) : Option (Item × Reader) :=
  (scan_reader_cut N ([91]) x0).bind fun r5 =>
  (show Option (Reader × Item) from
    bif r5.1 then
      (scan_reader_cut N ([94]) r5.2).bind fun r17 =>
      (iter (fun s => scan_reader_item_b1 N s.1 s.2) N (r17.2, (Item.mk ([]) ([]) r17.1 1 1))).bind fun o29 =>
      some (o29.2, o29.1)
    else
      (scan_reader_cut N ([34]) r5.2).bind fun r99 =>
      (iter (fun s => scan_reader_item_b2 N s.1 s.2) N ([], r99.2)).bind fun o108 =>
      some (o108.1, (Item.mk (bytesOf o108.2) ([]) false 1 1))).bind fun o8 =>
  (scan_reader_cut N ([63]) o8.1).bind fun r153 =>
  bif r153.1 then
    some ((Item.mk o8.2.Text o8.2.Ranges o8.2.Not 0 1), r153.2)
  else
    (scan_reader_cut N ([42]) r153.2).bind fun r159 =>
    bif r159.1 then
      some ((Item.mk o8.2.Text o8.2.Ranges o8.2.Not 0 (-1)), r159.2)
    else
      (scan_reader_cut N ([43]) r159.2).bind fun r165 =>
      bif r165.1 then
        some ((Item.mk o8.2.Text o8.2.Ranges o8.2.Not 1 (-1)), r165.2)
      else
        some (o8.2, r165.2)

def scan_rule_b1 (N : Nat) (x_27 : Reader) (x_28 : Rule) : Option ((Reader × Rule) ⊕ ((Rule × Reader))) :=
  bif (x_27.s != ([])) then
    bif (decide ((x_28.Items.length : Int) ≤ 20)) then
      (scan_reader_cut N ([45, 62, 32]) x_27).bind fun r38 =>
      bif r38.1 then
        some (.inr ((Rule.mk x_28.Kind x_28.Items r38.2.s), r38.2))
      else
        (show Option (Reader × Rule) from
          (scan_reader_item N r38.2).bind fun r50 =>
          (app x_28.Items ([r50.1] : List (Item))).bind fun l64 =>
          some (r50.2, (Rule.mk x_28.Kind l64 x_28.Next))).bind fun o42 =>
        (scan_reader_cut N ([32]) o42.1).bind fun r91 =>
        some (.inl (r91.2, o42.2))
    else
      some (.inr (x_28, x_27))
  else
    some (.inr (x_28, x_27))
def scan_rule (N : Nat) (s_0 : List UInt8) : Option (Rule × Bool) :=
  (strings_Cut N s_0 ([32])).bind fun r2 =>
  (iter (fun s => scan_rule_b1 N s.1 s.2) N ((Reader.mk r2.2.1), (Rule.mk r2.1 ([]) ([])))).bind fun o19 =>
  (show Option (Bool × Rule) from
    (scan_sound N o19.1).bind fun r108 =>
    bif r108 then
      (scan_line N o19.1).bind fun r111 =>
      some ((r111 == s_0), o19.1)
    else
      some (false, o19.1)).bind fun o103 =>
  some (o103.2, o103.1)

end Go.Proofs.Ytmmioinglmeoiaa
