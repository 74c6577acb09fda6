/- The functions of this part as plain Lean functions, printed by gen.py. -/
import Derived.Test.YtnmiodonophfbaaDoorLibW
set_option linter.unusedVariables false
namespace Go.Proofs.YtnmiodonophfbaaDoor
open Go.X

def unicode_utf8_ValidRune (_N : Nat) (r_0 : Int) : Option Bool :=
  bif (decide ((0 : Int) ≤ r_0)) then
    bif (decide (r_0 < 55296)) then
      some true
    else
      bif (decide ((57343 : Int) < r_0)) then
        bif (decide (r_0 ≤ 1114111)) then
          some true
        else
          some false
      else
        some false
  else
    bif (decide ((57343 : Int) < r_0)) then
      bif (decide (r_0 ≤ 1114111)) then
        some true
      else
        some false
    else
      some false

def strings_IndexRune_b1 (_N : Nat) (s_0 : List UInt8) (x_9 : Nat) : Option (Nat ⊕ ((Nat ⊕ Int))) :=
  bif decide (x_9 < s_0.length) then
    bif ((runeAt s_0 x_9) == 65533) then
      some (.inr (.inr (x_9 : Int)))
    else
      some (.inl (x_9 + wideAt s_0 x_9))
  else
    some (.inr (.inl x_9))

def strings_IndexRune_b3 (_N : Nat) (s_0 : List UInt8) (r_1 : Int) (o27 : Int) (j_44 : Int) : Option (Int ⊕ Unit) :=
  bif (decide (j_44 < ((runeStr r_1).length : Int))) then
    (idx s_0 (IntKind.wrap .i64 (o27 - j_44))).bind fun c47 =>
    (idx (runeStr r_1) (IntKind.wrap .i64 ((IntKind.wrap .i64 (((runeStr r_1).length : Int) - 1)) - j_44))).bind fun c49 =>
    bif ((c47.toNat : Int) != (c49.toNat : Int)) then
      none
    else
      some (.inl (j_44 + 1))
  else
    some (.inr ())

def strings_IndexRune_b2 (N : Nat) (s_0 : List UInt8) (r_1 : Int) (i_20 : Int) : Option (Int ⊕ ((Unit ⊕ Int))) :=
  bif (decide (i_20 < (s_0.length : Int))) then
    (idx s_0 i_20).bind fun c23 =>
    (idx (runeStr r_1) (IntKind.wrap .i64 (((runeStr r_1).length : Int) - 1))).bind fun c25 =>
    (show Option (Int ⊕ Int) from
      bif ((c23.toNat : Int) != (c25.toNat : Int)) then
        (slc s_0 (i_20 + 1) (s_0.length : Int)).bind fun s32 =>
        (idx (runeStr r_1) (IntKind.wrap .i64 (((runeStr r_1).length : Int) - 1))).bind fun c34 =>
        (strings_IndexByte N s32 (c34.toNat : Int)).bind fun r36 =>
        bif (decide (r36 < 0)) then
          some (.inr (-1))
        else
          some (.inl (IntKind.wrap .i64 (i_20 + (IntKind.wrap .i64 (r36 + 1)))))
      else
        some (.inl i_20)).bind fun o27 =>
    Sum.elim (fun o27 =>
      (iter (fun s => strings_IndexRune_b3 N s_0 r_1 o27 s) N 1).bind fun _o42 =>
      some (.inr (.inr (IntKind.wrap .i64 (o27 - (IntKind.wrap .i64 (((runeStr r_1).length : Int) - 1)))))))
    (fun o27 =>
      some (.inr (.inr o27))) o27
  else
    some (.inr (.inl ()))

def strings_IndexRune_b4 (_N : Nat) (s_0 : List UInt8) (x_57 : Nat) : Option (Nat ⊕ ((Nat ⊕ Int))) :=
  bif decide (x_57 < s_0.length) then
    bif ((runeAt s_0 x_57) == 65533) then
      some (.inr (.inr (x_57 : Int)))
    else
      some (.inl (x_57 + wideAt s_0 x_57))
  else
    some (.inr (.inl x_57))

def strings_IndexRune_b6 (_N : Nat) (s_0 : List UInt8) (r_1 : Int) (o75 : Int) (j_92 : Int) : Option (Int ⊕ Unit) :=
  bif (decide (j_92 < ((runeStr r_1).length : Int))) then
    (idx s_0 (IntKind.wrap .i64 (o75 - j_92))).bind fun c95 =>
    (idx (runeStr r_1) (IntKind.wrap .i64 ((IntKind.wrap .i64 (((runeStr r_1).length : Int) - 1)) - j_92))).bind fun c97 =>
    bif ((c95.toNat : Int) != (c97.toNat : Int)) then
      none
    else
      some (.inl (j_92 + 1))
  else
    some (.inr ())

def strings_IndexRune_b5 (N : Nat) (s_0 : List UInt8) (r_1 : Int) (i_68 : Int) : Option (Int ⊕ ((Unit ⊕ Int))) :=
  bif (decide (i_68 < (s_0.length : Int))) then
    (idx s_0 i_68).bind fun c71 =>
    (idx (runeStr r_1) (IntKind.wrap .i64 (((runeStr r_1).length : Int) - 1))).bind fun c73 =>
    (show Option (Int ⊕ Int) from
      bif ((c71.toNat : Int) != (c73.toNat : Int)) then
        (slc s_0 (i_68 + 1) (s_0.length : Int)).bind fun s80 =>
        (idx (runeStr r_1) (IntKind.wrap .i64 (((runeStr r_1).length : Int) - 1))).bind fun c82 =>
        (strings_IndexByte N s80 (c82.toNat : Int)).bind fun r84 =>
        bif (decide (r84 < 0)) then
          some (.inr (-1))
        else
          some (.inl (IntKind.wrap .i64 (i_68 + (IntKind.wrap .i64 (r84 + 1)))))
      else
        some (.inl i_68)).bind fun o75 =>
    Sum.elim (fun o75 =>
      (iter (fun s => strings_IndexRune_b6 N s_0 r_1 o75 s) N 1).bind fun _o90 =>
      some (.inr (.inr (IntKind.wrap .i64 (o75 - (IntKind.wrap .i64 (((runeStr r_1).length : Int) - 1)))))))
    (fun o75 =>
      some (.inr (.inr o75))) o75
  else
    some (.inr (.inl ()))
def strings_IndexRune (N : Nat) (s_0 : List UInt8) (r_1 : Int) : Option Int :=
  bif (decide ((0 : Int) ≤ r_1)) then
    bif (decide (r_1 < 128)) then
      (strings_IndexByte N s_0 (IntKind.wrap .u8 r_1)).bind fun r3 =>
      some r3
    else
      bif (r_1 == 65533) then
        (iter (fun s => strings_IndexRune_b1 N s_0 s) N 0).bind fun o8 =>
        Sum.elim (fun _o8 =>
          some (-1))
        (fun o8 =>
          some o8) o8
      else
        (unicode_utf8_ValidRune N r_1).bind fun r14 =>
        bif (!r14) then
          some (-1)
        else
          (iter (fun s => strings_IndexRune_b2 N s_0 r_1 s) N (IntKind.wrap .i64 (((runeStr r_1).length : Int) - 1))).bind fun o18 =>
          Sum.elim (fun _o18 =>
            some (-1))
          (fun o18 =>
            some o18) o18
  else
    bif (r_1 == 65533) then
      (iter (fun s => strings_IndexRune_b4 N s_0 s) N 0).bind fun o56 =>
      Sum.elim (fun _o56 =>
        some (-1))
      (fun o56 =>
        some o56) o56
    else
      (unicode_utf8_ValidRune N r_1).bind fun r62 =>
      bif (!r62) then
        some (-1)
      else
        (iter (fun s => strings_IndexRune_b5 N s_0 r_1 s) N (IntKind.wrap .i64 (((runeStr r_1).length : Int) - 1))).bind fun o66 =>
        Sum.elim (fun _o66 =>
          some (-1))
        (fun o66 =>
          some o66) o66

def strings_shouldUseASCIISet (_N : Nat) (bufLen_0 : Int) : Option Bool :=
  some (decide (bufLen_0 > 8))

def small_IndexAny_b1 (N : Nat) (s_0 : List UInt8) (chars_1 : List UInt8) (x_20 : Nat) : Option (Nat ⊕ ((Nat ⊕ Int))) :=
  bif decide (x_20 < s_0.length) then
    (strings_IndexRune N chars_1 (runeAt s_0 x_20)).bind fun r22 =>
    bif (decide (r22 ≥ 0)) then
      some (.inr (.inr (x_20 : Int)))
    else
      some (.inl (x_20 + wideAt s_0 x_20))
  else
    some (.inr (.inl x_20))
def small_IndexAny (N : Nat) (s_0 : List UInt8) (chars_1 : List UInt8) : Option Int :=
  bif (chars_1 == ([])) then
    some (-1)
  else
    bif ((chars_1.length : Int) == 1) then
      (idx chars_1 0).bind fun c3 =>
      (show Option Int from
        bif (decide ((c3.toNat : Int) ≥ 128)) then
          some 65533
        else
          some (c3.toNat : Int)).bind fun o5 =>
      (strings_IndexRune N s_0 o5).bind fun r9 =>
      some r9
    else
      (strings_shouldUseASCIISet N (s_0.length : Int)).bind fun r12 =>
      (show Option (Unit ⊕ Int) from
        bif r12 then
          none
        else
          some (.inl ())).bind fun o14 =>
      Sum.elim (fun _o14 =>
        (iter (fun s => small_IndexAny_b1 N s_0 chars_1 s) N 0).bind fun o19 =>
        Sum.elim (fun _o19 =>
          some (-1))
        (fun o19 =>
          some o19) o19)
      (fun o14 =>
        some o14) o14

end Go.Proofs.YtnmiodonophfbaaDoor
