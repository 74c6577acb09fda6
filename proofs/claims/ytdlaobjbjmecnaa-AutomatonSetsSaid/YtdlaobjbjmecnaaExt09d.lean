/- The functions of this part as plain Lean functions, printed by gen.py. -/
import Derived.Test.YtdlaobjbjmecnaaExt09a
import Derived.Test.YtdlaobjbjmecnaaExt09b
import Derived.Test.YtdlaobjbjmecnaaExt09c
import Derived.Test.YtdlaobjbjmecnaaLibL
set_option linter.unusedVariables false
namespace Go.Proofs.Ytdlaobjbjmecnaa
open Go.X

structure Arr2_Int where
  e0 : Int
  e1 : Int
  deriving DecidableEq

def Arr2_Int.list (a : Arr2_Int) : List (Int) := [a.e0, a.e1]
def Arr2_Int.of : List (Int) → Option Arr2_Int
  | [x0, x1] => some ⟨x0, x1⟩
  | _ => none
def Arr2_Int.get (a : Arr2_Int) (i : Int) : Option (Int) := idx a.list i
def Arr2_Int.set (a : Arr2_Int) (i : Int) (x : Int) : Option Arr2_Int := (setI a.list i x).bind Arr2_Int.of

def automaton_And_1 (_N : Nat) (x_0 : Bool) (y_1 : Bool) : Option Bool :=
  bif x_0 then
    some y_1
  else
    some false

def automaton_product__45_b2 (_N : Nat) (a_0 : DFA) (b_1 : DFA) (x89 : Arr2_Int) (x101 : Arr2_Int) (pairs_143 : List (Arr2_Int)) (x_144 : Int) (number_145 : List (Arr2_Int × Int)) (row_146 : List (Int)) : Option (((List (Arr2_Int)) × Int × (List (Arr2_Int × Int)) × (List (Int))) ⊕ (((List (Arr2_Int × Int)) × (List (Arr2_Int)) × (List (Int))))) :=
  bif (decide (x_144 < 11)) then
    (show Option Arr2_Int from
      (idx a_0.Next x89.e0).bind fun x162 =>
      (idx x162 x_144).bind fun x173 =>
      (idx b_1.Next x101.e1).bind fun x183 =>
      (idx x183 x_144).bind fun x194 =>
      some (Arr2_Int.mk x173 x194)).bind fun o158 =>
    (show Option ((List (Arr2_Int × Int)) × (List (Arr2_Int)) × Int) from
      bif (!((mget number_145 o158).isSome)) then
        (mset number_145 o158 (pairs_143.length : Int)).bind fun l257 =>
        (app pairs_143 ([o158] : List (Arr2_Int))).bind fun l264 =>
        some (l257, l264, (pairs_143.length : Int))
      else
        some (number_145, pairs_143, ((mget number_145 o158).getD 0))).bind fun o248 =>
    (idx row_146 x_144).bind fun _x276 =>
    (setI row_146 x_144 o248.2.2).bind fun l282 =>
    some (.inl (o248.2.1, (x_144 + 1), o248.1, l282))
  else
    some (.inr (number_145, pairs_143, row_146))

def automaton_product__45_b1 (N : Nat) (a_0 : DFA) (b_1 : DFA) (pairs_69 : List (Arr2_Int)) (i_70 : Int) (x_71 : DFA) (number_72 : List (Arr2_Int × Int)) : Option (((List (Arr2_Int)) × Int × DFA × (List (Arr2_Int × Int))) ⊕ DFA) :=
  bif (decide (i_70 < (pairs_69.length : Int))) then
    (idx pairs_69 i_70).bind fun x89 =>
    (idx pairs_69 i_70).bind fun x101 =>
    (mk 11 (0 : Int)).bind fun l113 =>
    (iter (fun s => automaton_product__45_b2 N a_0 b_1 x89 x101 s.1 s.2.1 s.2.2.1 s.2.2.2) N (pairs_69, 0, number_72, l113)).bind fun o132 =>
    (app x_71.Next ([o132.2.2] : List (List (Int)))).bind fun l300 =>
    (show Option DFA from
      (idx a_0.Accept x89.e0).bind fun x313 =>
      (idx b_1.Accept x101.e1).bind fun x322 =>
      (automaton_And_1 N x313 x322).bind fun r331 =>
      (app x_71.Accept ([r331] : List (Bool))).bind fun l336 =>
      some (DFA.mk x_71.Start l300 l336)).bind fun o305 =>
    some (.inl (o132.2.1, (i_70 + 1), o305, o132.1))
  else
    some (.inr x_71)
def automaton_product__45 (N : Nat) (a_0 : DFA) (b_1 : DFA) : Option (DFA × Int) :=
  (automaton_Valid N a_0).bind fun r14 =>
  bif (!r14) then
    some ((DFA.mk 0 ([]) ([])), 1)
  else
    (automaton_Valid N b_1).bind fun r17 =>
    bif (!r17) then
      some ((DFA.mk 0 ([]) ([])), 1)
    else
      (mset ([] : List (Arr2_Int × Int)) (Arr2_Int.mk a_0.Start b_1.Start) 0).bind fun l23 =>
      (iter (fun s => automaton_product__45_b1 N a_0 b_1 s.1 s.2.1 s.2.2.1 s.2.2.2) N (([(Arr2_Int.mk a_0.Start b_1.Start)] : List (Arr2_Int)), 0, (DFA.mk 0 ([]) ([])), l23)).bind fun o53 =>
      (automaton_minimal N o53).bind fun r389 =>
      bif (decide ((r389.Next.length : Int) > 2000)) then
        some ((DFA.mk 0 ([]) ([])), 6)
      else
        some (r389, 0)

def automaton_And (N : Nat) (a_0 : DFA) (b_1 : DFA) : Option (DFA × Int) :=
  (automaton_product__45 N a_0 b_1).bind fun r14 =>
  some (r14.1, r14.2)

def automaton_Or_1 (_N : Nat) (x_0 : Bool) (y_1 : Bool) : Option Bool :=
  bif x_0 then
    some true
  else
    some y_1

def automaton_product__47_b2 (_N : Nat) (a_0 : DFA) (b_1 : DFA) (x89 : Arr2_Int) (x101 : Arr2_Int) (pairs_143 : List (Arr2_Int)) (x_144 : Int) (number_145 : List (Arr2_Int × Int)) (row_146 : List (Int)) : Option (((List (Arr2_Int)) × Int × (List (Arr2_Int × Int)) × (List (Int))) ⊕ (((List (Arr2_Int × Int)) × (List (Arr2_Int)) × (List (Int))))) :=
  bif (decide (x_144 < 11)) then
    (show Option Arr2_Int from
      (idx a_0.Next x89.e0).bind fun x162 =>
      (idx x162 x_144).bind fun x173 =>
      (idx b_1.Next x101.e1).bind fun x183 =>
      (idx x183 x_144).bind fun x194 =>
      some (Arr2_Int.mk x173 x194)).bind fun o158 =>
    (show Option ((List (Arr2_Int × Int)) × (List (Arr2_Int)) × Int) from
      bif (!((mget number_145 o158).isSome)) then
        (mset number_145 o158 (pairs_143.length : Int)).bind fun l257 =>
        (app pairs_143 ([o158] : List (Arr2_Int))).bind fun l264 =>
        some (l257, l264, (pairs_143.length : Int))
      else
        some (number_145, pairs_143, ((mget number_145 o158).getD 0))).bind fun o248 =>
    (idx row_146 x_144).bind fun _x276 =>
    (setI row_146 x_144 o248.2.2).bind fun l282 =>
    some (.inl (o248.2.1, (x_144 + 1), o248.1, l282))
  else
    some (.inr (number_145, pairs_143, row_146))

def automaton_product__47_b1 (N : Nat) (a_0 : DFA) (b_1 : DFA) (pairs_69 : List (Arr2_Int)) (i_70 : Int) (x_71 : DFA) (number_72 : List (Arr2_Int × Int)) : Option (((List (Arr2_Int)) × Int × DFA × (List (Arr2_Int × Int))) ⊕ DFA) :=
  bif (decide (i_70 < (pairs_69.length : Int))) then
    (idx pairs_69 i_70).bind fun x89 =>
    (idx pairs_69 i_70).bind fun x101 =>
    (mk 11 (0 : Int)).bind fun l113 =>
    (iter (fun s => automaton_product__47_b2 N a_0 b_1 x89 x101 s.1 s.2.1 s.2.2.1 s.2.2.2) N (pairs_69, 0, number_72, l113)).bind fun o132 =>
    (app x_71.Next ([o132.2.2] : List (List (Int)))).bind fun l300 =>
    (show Option DFA from
      (idx a_0.Accept x89.e0).bind fun x313 =>
      (idx b_1.Accept x101.e1).bind fun x322 =>
      (automaton_Or_1 N x313 x322).bind fun r331 =>
      (app x_71.Accept ([r331] : List (Bool))).bind fun l336 =>
      some (DFA.mk x_71.Start l300 l336)).bind fun o305 =>
    some (.inl (o132.2.1, (i_70 + 1), o305, o132.1))
  else
    some (.inr x_71)
def automaton_product__47 (N : Nat) (a_0 : DFA) (b_1 : DFA) : Option (DFA × Int) :=
  (automaton_Valid N a_0).bind fun r14 =>
  bif (!r14) then
    some ((DFA.mk 0 ([]) ([])), 1)
  else
    (automaton_Valid N b_1).bind fun r17 =>
    bif (!r17) then
      some ((DFA.mk 0 ([]) ([])), 1)
    else
      (mset ([] : List (Arr2_Int × Int)) (Arr2_Int.mk a_0.Start b_1.Start) 0).bind fun l23 =>
      (iter (fun s => automaton_product__47_b1 N a_0 b_1 s.1 s.2.1 s.2.2.1 s.2.2.2) N (([(Arr2_Int.mk a_0.Start b_1.Start)] : List (Arr2_Int)), 0, (DFA.mk 0 ([]) ([])), l23)).bind fun o53 =>
      (automaton_minimal N o53).bind fun r389 =>
      bif (decide ((r389.Next.length : Int) > 2000)) then
        some ((DFA.mk 0 ([]) ([])), 6)
      else
        some (r389, 0)

def automaton_Or (N : Nat) (a_0 : DFA) (b_1 : DFA) : Option (DFA × Int) :=
  (automaton_product__47 N a_0 b_1).bind fun r14 =>
  some (r14.1, r14.2)

end Go.Proofs.Ytdlaobjbjmecnaa
