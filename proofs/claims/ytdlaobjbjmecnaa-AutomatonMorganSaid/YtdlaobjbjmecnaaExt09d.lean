/- The functions of this part as plain Lean functions, printed by gen.py. -/
import Derived.Test.YtdlaobjbjmecnaaExt09a
import Derived.Test.YtdlaobjbjmecnaaExt09b
import Derived.Test.YtdlaobjbjmecnaaExt09c
import Derived.Test.YtdlaobjbjmecnaaLibL
set_option linter.unusedVariables false
namespace Go.Proofs.Ytdlaobjbjmecnaa
open Go.X

structure Arr2_Int where
  e0 : Int
  e1 : Int
  deriving DecidableEq

def Arr2_Int.list (a : Arr2_Int) : List (Int) := [a.e0, a.e1]
def Arr2_Int.of : List (Int) → Option Arr2_Int
  | [x0, x1] => some ⟨x0, x1⟩
  | _ => none
def Arr2_Int.get (a : Arr2_Int) (i : Int) : Option (Int) := idx a.list i
def Arr2_Int.set (a : Arr2_Int) (i : Int) (x : Int) : Option Arr2_Int := (setI a.list i x).bind Arr2_Int.of

def automaton_And_1 (_N : Nat) (x_0 : Bool) (y_1 : Bool) : Option Bool :=
  bif x_0 then
    some y_1
  else
    some false

def automaton_product__45_b2 (_N : Nat) (a_0 : DFA) (b_1 : DFA) (x89 : Arr2_Int) (x101 : Arr2_Int) (pairs_143 : List (Arr2_Int)) (x_144 : Int) (number_145 : List (Arr2_Int × Int)) (row_146 : List (Int)) : Option (((List (Arr2_Int)) × Int × (List (Arr2_Int × Int)) × (List (Int))) ⊕ (((List (Arr2_Int × Int)) × (List (Arr2_Int)) × (List (Int))))) :=
  bif (decide (x_144 < 11)) then
    (show Option Arr2_Int from
      (idx a_0.Next x89.e0).bind fun x162 =>
      (idx x162 x_144).bind fun x173 =>
      (idx b_1.Next x101.e1).bind fun x183 =>
      (idx x183 x_144).bind fun x194 =>
      some (Arr2_Int.mk x173 x194)).bind fun o158 =>
    (show Option ((List (Arr2_Int × Int)) × (List (Arr2_Int)) × Int) from
      bif (!((mget number_145 o158).isSome)) then
        (mset number_145 o158 (pairs_143.length : Int)).bind fun l257 =>
        (app pairs_143 ([o158] : List (Arr2_Int))).bind fun l264 =>
        some (l257, l264, (pairs_143.length : Int))
      else
        some (number_145, pairs_143, ((mget number_145 o158).getD 0))).bind fun o248 =>
    (idx row_146 x_144).bind fun _x276 =>
    (setI row_146 x_144 o248.2.2).bind fun l282 =>
    some (.inl (o248.2.1, (x_144 + 1), o248.1, l282))
  else
    some (.inr (number_145, pairs_143, row_146))

def automaton_product__45_b1 (N : Nat) (a_0 : DFA) (b_1 : DFA) (pairs_69 : List (Arr2_Int)) (i_70 : Int) (x_71 : DFA) (number_72 : List (Arr2_Int × Int)) : Option (((List (Arr2_Int)) × Int × DFA × (List (Arr2_Int × Int))) ⊕ DFA) :=
  bif (decide (i_70 < (pairs_69.length : Int))) then
    (idx pairs_69 i_70).bind fun x89 =>
    (idx pairs_69 i_70).bind fun x101 =>
    (mk 11 (0 : Int)).bind fun l113 =>
    (iter (fun s => automaton_product__45_b2 N a_0 b_1 x89 x101 s.1 s.2.1 s.2.2.1 s.2.2.2) N (pairs_69, 0, number_72, l113)).bind fun o132 =>
    (app x_71.Next ([o132.2.2] : List (List (Int)))).bind fun l300 =>
    (show Option DFA from
      (idx a_0.Accept x89.e0).bind fun x313 =>
      (idx b_1.Accept x101.e1).bind fun x322 =>
      (automaton_And_1 N x313 x322).bind fun r331 =>
      (app x_71.Accept ([r331] : List (Bool))).bind fun l336 =>
      some (DFA.mk x_71.Start l300 l336)).bind fun o305 =>
    some (.inl (o132.2.1, (i_70 + 1), o305, o132.1))
  else
    some (.inr x_71)
def automaton_product__45 (N : Nat) (a_0 : DFA) (b_1 : DFA) : Option (DFA × Int) :=
  (automaton_Valid N a_0).bind fun r14 =>
  bif (!r14) then
    some ((DFA.mk 0 ([]) ([])), 1)
  else
    (automaton_Valid N b_1).bind fun r17 =>
    bif (!r17) then
      some ((DFA.mk 0 ([]) ([])), 1)
    else
      (mset ([] : List (Arr2_Int × Int)) (Arr2_Int.mk a_0.Start b_1.Start) 0).bind fun l23 =>
      (iter (fun s => automaton_product__45_b1 N a_0 b_1 s.1 s.2.1 s.2.2.1 s.2.2.2) N (([(Arr2_Int.mk a_0.Start b_1.Start)] : List (Arr2_Int)), 0, (DFA.mk 0 ([]) ([])), l23)).bind fun o53 =>
      (automaton_minimal N o53).bind fun r389 =>
      bif (decide ((r389.Next.length : Int) > 2000)) then
        some ((DFA.mk 0 ([]) ([])), 6)
      else
        some (r389, 0)

def automaton_And (N : Nat) (a_0 : DFA) (b_1 : DFA) : Option (DFA × Int) :=
  (automaton_product__45 N a_0 b_1).bind fun r14 =>
  some (r14.1, r14.2)

def automaton_Or_1 (_N : Nat) (x_0 : Bool) (y_1 : Bool) : Option Bool :=
  bif x_0 then
    some true
  else
    some y_1

def automaton_product__47_b2 (_N : Nat) (a_0 : DFA) (b_1 : DFA) (x89 : Arr2_Int) (x101 : Arr2_Int) (pairs_143 : List (Arr2_Int)) (x_144 : Int) (number_145 : List (Arr2_Int × Int)) (row_146 : List (Int)) : Option (((List (Arr2_Int)) × Int × (List (Arr2_Int × Int)) × (List (Int))) ⊕ (((List (Arr2_Int × Int)) × (List (Arr2_Int)) × (List (Int))))) :=
  bif (decide (x_144 < 11)) then
    (show Option Arr2_Int from
      (idx a_0.Next x89.e0).bind fun x162 =>
      (idx x162 x_144).bind fun x173 =>
      (idx b_1.Next x101.e1).bind fun x183 =>
      (idx x183 x_144).bind fun x194 =>
      some (Arr2_Int.mk x173 x194)).bind fun o158 =>
    (show Option ((List (Arr2_Int × Int)) × (List (Arr2_Int)) × Int) from
      bif (!((mget number_145 o158).isSome)) then
        (mset number_145 o158 (pairs_143.length : Int)).bind fun l257 =>
        (app pairs_143 ([o158] : List (Arr2_Int))).bind fun l264 =>
        some (l257, l264, (pairs_143.length : Int))
      else
        some (number_145, pairs_143, ((mget number_145 o158).getD 0))).bind fun o248 =>
    (idx row_146 x_144).bind fun _x276 =>
    (setI row_146 x_144 o248.2.2).bind fun l282 =>
    some (.inl (o248.2.1, (x_144 + 1), o248.1, l282))
  else
    some (.inr (number_145, pairs_143, row_146))

def automaton_product__47_b1 (N : Nat) (a_0 : DFA) (b_1 : DFA) (pairs_69 : List (Arr2_Int)) (i_70 : Int) (x_71 : DFA) (number_72 : List (Arr2_Int × Int)) : Option (((List (Arr2_Int)) × Int × DFA × (List (Arr2_Int × Int))) ⊕ DFA) :=
  bif (decide (i_70 < (pairs_69.length : Int))) then
    (idx pairs_69 i_70).bind fun x89 =>
    (idx pairs_69 i_70).bind fun x101 =>
    (mk 11 (0 : Int)).bind fun l113 =>
    (iter (fun s => automaton_product__47_b2 N a_0 b_1 x89 x101 s.1 s.2.1 s.2.2.1 s.2.2.2) N (pairs_69, 0, number_72, l113)).bind fun o132 =>
    (app x_71.Next ([o132.2.2] : List (List (Int)))).bind fun l300 =>
    (show Option DFA from
      (idx a_0.Accept x89.e0).bind fun x313 =>
      (idx b_1.Accept x101.e1).bind fun x322 =>
      (automaton_Or_1 N x313 x322).bind fun r331 =>
      (app x_71.Accept ([r331] : List (Bool))).bind fun l336 =>
      some (DFA.mk x_71.Start l300 l336)).bind fun o305 =>
    some (.inl (o132.2.1, (i_70 + 1), o305, o132.1))
  else
    some (.inr x_71)
def automaton_product__47 (N : Nat) (a_0 : DFA) (b_1 : DFA) : Option (DFA × Int) :=
  (automaton_Valid N a_0).bind fun r14 =>
  bif (!r14) then
    some ((DFA.mk 0 ([]) ([])), 1)
  else
    (automaton_Valid N b_1).bind fun r17 =>
    bif (!r17) then
      some ((DFA.mk 0 ([]) ([])), 1)
    else
      (mset ([] : List (Arr2_Int × Int)) (Arr2_Int.mk a_0.Start b_1.Start) 0).bind fun l23 =>
      (iter (fun s => automaton_product__47_b1 N a_0 b_1 s.1 s.2.1 s.2.2.1 s.2.2.2) N (([(Arr2_Int.mk a_0.Start b_1.Start)] : List (Arr2_Int)), 0, (DFA.mk 0 ([]) ([])), l23)).bind fun o53 =>
      (automaton_minimal N o53).bind fun r389 =>
      bif (decide ((r389.Next.length : Int) > 2000)) then
        some ((DFA.mk 0 ([]) ([])), 6)
      else
        some (r389, 0)

def automaton_Or (N : Nat) (a_0 : DFA) (b_1 : DFA) : Option (DFA × Int) :=
  (automaton_product__47 N a_0 b_1).bind fun r14 =>
  some (r14.1, r14.2)

def calquelaw09_AutomatonWords_b1 (N : Nat) (word_2 : List UInt8) (i_44 : Int) : Option (Int ⊕ ((Unit ⊕ Bool))) :=
  bif (decide (i_44 < (word_2.length : Int))) then
    (idx word_2 i_44).bind fun c47 =>
    (calqueref09_Symbol N (c47.toNat : Int)).bind fun r49 =>
    bif (decide (r49 < 0)) then
      some (.inr (.inr true))
    else
      some (.inl (i_44 + 1))
  else
    some (.inr (.inl ()))
def calquelaw09_AutomatonWords (N : Nat) (a_0 : DFA) (b_1 : DFA) (word_2 : List UInt8) : Option Bool :=
  (calquelaw09_awake N ).bind fun r13 =>
  bif (!r13) then
    (calquelaw09_awake N ).bind fun r16 =>
    some r16
  else
    (calqueref09_Few N a_0 12).bind fun r18 =>
    bif (!r18) then
      (calquelaw09_awake N ).bind fun r21 =>
      some r21
    else
      (calqueref09_Few N b_1 12).bind fun r23 =>
      bif (!r23) then
        (calquelaw09_awake N ).bind fun r26 =>
        some r26
      else
        bif (decide ((word_2.length : Int) > 200)) then
          (calquelaw09_awake N ).bind fun r29 =>
          some r29
        else
          (calqueref09_Valid N a_0).bind fun r31 =>
          bif (!r31) then
            (calquelaw09_awake N ).bind fun r34 =>
            some r34
          else
            (calqueref09_Valid N b_1).bind fun r36 =>
            bif (!r36) then
              (calquelaw09_awake N ).bind fun r39 =>
              some r39
            else
              (iter (fun s => calquelaw09_AutomatonWords_b1 N word_2 s) N 0).bind fun o42 =>
              Sum.elim (fun _o42 =>
                (calquelaw09_to N a_0).bind fun _r53 =>
                (automaton_Run N a_0 word_2).bind fun r55 =>
                (calquelaw09_to N b_1).bind fun _r57 =>
                (automaton_Run N b_1 word_2).bind fun r59 =>
                (calquelaw09_to N a_0).bind fun _r61 =>
                (automaton_Complement N a_0).bind fun r63 =>
                (show Option (DFA × Int) from
                  (calquelaw09_to N a_0).bind fun _r84 =>
                  (calquelaw09_to N b_1).bind fun _r86 =>
                  (automaton_And N a_0 b_1).bind fun r88 =>
                  some (r88.1, r88.2)).bind fun o75 =>
                (show Option (DFA × Int) from
                  (calquelaw09_to N a_0).bind fun _r157 =>
                  (calquelaw09_to N b_1).bind fun _r159 =>
                  (automaton_Or N a_0 b_1).bind fun r161 =>
                  some (r161.1, r161.2)).bind fun o148 =>
                bif (r63.2 == 0) then
                  bif (o75.2 == 0) then
                    bif (o148.2 == 0) then
                      (automaton_Run N r63.1 word_2).bind fun r224 =>
                      bif (r224 == (!r55)) then
                        (automaton_Run N o75.1 word_2).bind fun r227 =>
                        bif r55 then
                          bif (r227 == r59) then
                            (automaton_Run N o148.1 word_2).bind fun r231 =>
                            bif r55 then
                              some (r231 == true)
                            else
                              some (r231 == r59)
                          else
                            some false
                        else
                          bif (r227 == false) then
                            (automaton_Run N o148.1 word_2).bind fun r235 =>
                            bif r55 then
                              some (r235 == true)
                            else
                              some (r235 == r59)
                          else
                            some false
                      else
                        some false
                    else
                      some false
                  else
                    some false
                else
                  some false)
              (fun o42 =>
                some o42) o42

def calquelaw09_AutomatonMorgan (N : Nat) (a_0 : DFA) (b_1 : DFA) : Option Bool :=
  (calquelaw09_awake N ).bind fun r13 =>
  bif (!r13) then
    (calquelaw09_awake N ).bind fun r16 =>
    some r16
  else
    (calqueref09_Few N a_0 12).bind fun r18 =>
    bif (!r18) then
      (calquelaw09_awake N ).bind fun r21 =>
      some r21
    else
      (calqueref09_Few N b_1 12).bind fun r23 =>
      bif (!r23) then
        (calquelaw09_awake N ).bind fun r26 =>
        some r26
      else
        (calqueref09_Valid N a_0).bind fun r28 =>
        bif (!r28) then
          (calquelaw09_awake N ).bind fun r31 =>
          some r31
        else
          (calqueref09_Valid N b_1).bind fun r33 =>
          bif (!r33) then
            (calquelaw09_awake N ).bind fun r36 =>
            some r36
          else
            (calquelaw09_to N a_0).bind fun _r38 =>
            (automaton_Complement N a_0).bind fun r40 =>
            (calquelaw09_to N b_1).bind fun _r52 =>
            (automaton_Complement N b_1).bind fun r54 =>
            (show Option (DFA × Int) from
              (calquelaw09_to N a_0).bind fun _r75 =>
              (calquelaw09_to N b_1).bind fun _r77 =>
              (automaton_Or N a_0 b_1).bind fun r79 =>
              some (r79.1, r79.2)).bind fun o66 =>
            (automaton_Complement N o66.1).bind fun r139 =>
            (automaton_And N r40.1 r54.1).bind fun r151 =>
            (show Option (DFA × Int) from
              (calquelaw09_to N a_0).bind fun _r172 =>
              (automaton_And N a_0 r40.1).bind fun r174 =>
              some (r174.1, r174.2)).bind fun o163 =>
            (automaton_Shortest N o163.1).bind fun r224 =>
            bif (r40.2 == 0) then
              bif (r54.2 == 0) then
                bif (o66.2 == 0) then
                  bif (r139.2 == 0) then
                    bif (r151.2 == 0) then
                      bif (o163.2 == 0) then
                        bif (r224.2.2 == 0) then
                          (calquelaw09_from N r139.1).bind fun _r235 =>
                          (calquelaw09_from N r151.1).bind fun _r237 =>
                          (calqueref09_Equal N r139.1 r151.1).bind fun r239 =>
                          bif r239 then
                            some (!r224.2.1)
                          else
                            some false
                        else
                          some false
                      else
                        some false
                    else
                      some false
                  else
                    some false
                else
                  some false
              else
                some false
            else
              some false

end Go.Proofs.Ytdlaobjbjmecnaa
