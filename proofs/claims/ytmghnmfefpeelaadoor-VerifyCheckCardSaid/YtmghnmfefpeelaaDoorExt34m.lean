/- The functions of this part as plain Lean functions, printed by gen8.py. -/
import Derived.Test.YtmghnmfefpeelaaDoorExt34a1
import Derived.Test.YtmghnmfefpeelaaDoorExt34a2
import Derived.Test.YtmghnmfefpeelaaDoorLibLM
set_option linter.unusedVariables false
namespace Go.Proofs.YtmghnmfefpeelaaDoor
open Go.X

def calqueref25_lower (_N : Nat) (c_0 : Int) : Option Bool :=
  bif (decide (c_0 ≥ 97)) then
    some (decide (c_0 ≤ 122))
  else
    some false

def calqueref25_letter (N : Nat) (c_0 : Int) : Option Bool :=
  (calqueref25_lower N c_0).bind fun r1 =>
  bif r1 then
    some true
  else
    bif (decide (c_0 ≥ 65)) then
      some (decide (c_0 ≤ 90))
    else
      some false

def calqueref25_Inner (N : Nat) (c_0 : Int) : Option Bool :=
  (calqueref25_letter N c_0).bind fun r1 =>
  bif r1 then
    some true
  else
    bif (decide (c_0 ≥ 48)) then
      bif (decide (c_0 ≤ 57)) then
        some true
      else
        bif (c_0 == 95) then
          some true
        else
          some (c_0 == 45)
    else
      bif (c_0 == 95) then
        some true
      else
        some (c_0 == 45)

def calqueref25_Name_b1 (N : Nat) (s_0 : List UInt8) (i_4 : Int) : Option (Int ⊕ ((Unit ⊕ Bool))) :=
  bif (decide (i_4 < (s_0.length : Int))) then
    (idx s_0 i_4).bind fun c7 =>
    (calqueref25_Inner N (c7.toNat : Int)).bind fun r9 =>
    bif (!r9) then
      some (.inr (.inr false))
    else
      some (.inl (i_4 + 1))
  else
    some (.inr (.inl ()))
def calqueref25_Name (N : Nat) (s_0 : List UInt8) : Option Bool :=
  (iter (fun s => calqueref25_Name_b1 N s_0 s) N 0).bind fun o2 =>
  Sum.elim (fun _o2 =>
    bif (decide ((s_0.length : Int) ≥ 1)) then
      bif (decide ((s_0.length : Int) ≤ 40)) then
        (idx s_0 0).bind fun c14 =>
        (calqueref25_lower N (c14.toNat : Int)).bind fun r16 =>
        some r16
      else
        some false
    else
      some false)
  (fun o2 =>
    some o2) o2

def calqueref26_In_b1 (_N : Nat) (l_0 : List (List UInt8)) (s_1 : List UInt8) (i_4 : Int) : Option (Int ⊕ ((Unit ⊕ Bool))) :=
  bif (decide (i_4 < (l_0.length : Int))) then
    (idx l_0 i_4).bind fun x7 =>
    bif (x7 == s_1) then
      some (.inr (.inr true))
    else
      some (.inl (i_4 + 1))
  else
    some (.inr (.inl ()))
def calqueref26_In (N : Nat) (l_0 : List (List UInt8)) (s_1 : List UInt8) : Option Bool :=
  (iter (fun s => calqueref26_In_b1 N l_0 s_1 s) N 0).bind fun o2 =>
  Sum.elim (fun _o2 =>
    some false)
  (fun o2 =>
    some o2) o2

def calqueref34_Named_b1 (N : Nat) (l_0 : List (List UInt8)) (i_4 : Int) : Option (Int ⊕ ((Unit ⊕ Bool))) :=
  bif (decide (i_4 < (l_0.length : Int))) then
    (idx l_0 i_4).bind fun x7 =>
    (calqueref25_Name N x7).bind fun r17 =>
    bif (!r17) then
      some (.inr (.inr false))
    else
      (slc l_0 0 i_4).bind fun l20 =>
      (idx l_0 i_4).bind fun x25 =>
      (calqueref26_In N l20 x25).bind fun r35 =>
      bif r35 then
        some (.inr (.inr false))
      else
        some (.inl (i_4 + 1))
  else
    some (.inr (.inl ()))
def calqueref34_Named (N : Nat) (l_0 : List (List UInt8)) : Option Bool :=
  (iter (fun s => calqueref34_Named_b1 N l_0 s) N 0).bind fun o2 =>
  Sum.elim (fun _o2 =>
    some (decide ((l_0.length : Int) ≤ 20)))
  (fun o2 =>
    some o2) o2

end Go.Proofs.YtmghnmfefpeelaaDoor
