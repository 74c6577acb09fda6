/- The functions of this part as plain Lean functions, printed by gen.py. -/
import Derived.Test.YtdlaobjbjmecnaaExt09a
import Derived.Test.YtdlaobjbjmecnaaExt09b
import Derived.Test.YtdlaobjbjmecnaaExt09c
import Derived.Test.YtdlaobjbjmecnaaExt09d
import Derived.Test.YtdlaobjbjmecnaaLibL
set_option linter.unusedVariables false
namespace Go.Proofs.Ytdlaobjbjmecnaa
open Go.X

def calqueref09_product_b2 (N : Nat) (a_0 : DFA) (b_1 : DFA) (q83 : Int) (q96 : Int) (found_119 : List (Int)) (row_120 : List (Int)) (c_121 : Int) : Option (((List (Int)) × (List (Int)) × Int) ⊕ (((List (Int)) × (List (Int))))) :=
  bif (decide (c_121 < 11)) then
    (idx a_0.Next q83).bind fun x130 =>
    (idx x130 c_121).bind fun x141 =>
    (idx b_1.Next q96).bind fun x151 =>
    (idx x151 c_121).bind fun x162 =>
    (calqueref09_index N found_119 (IntKind.wrap .i64 ((IntKind.wrap .i64 (x141 * (b_1.Next.length : Int))) + x162))).bind fun r177 =>
    (show Option ((List (Int)) × Int) from
      bif (decide (r177 < 0)) then
        (app found_119 ([(IntKind.wrap .i64 ((IntKind.wrap .i64 (x141 * (b_1.Next.length : Int))) + x162))] : List (Int))).bind fun l189 =>
        some (l189, (found_119.length : Int))
      else
        some (found_119, r177)).bind fun o180 =>
    (app row_120 ([o180.2] : List (Int))).bind fun l201 =>
    some (.inl (o180.1, l201, (c_121 + 1)))
  else
    some (.inr (found_119, row_120))

def calqueref09_product_b1 (N : Nat) (a_0 : DFA) (b_1 : DFA) (both_2 : Bool) (found_56 : List (Int)) (i_57 : Int) (x_58 : DFA) : Option (((List (Int)) × Int × DFA) ⊕ DFA) :=
  bif (decide (i_57 < (found_56.length : Int))) then
    (idx found_56 i_57).bind fun x72 =>
    (qt .i64 x72 (b_1.Next.length : Int)).bind fun q83 =>
    (idx found_56 i_57).bind fun x85 =>
    (rm x85 (b_1.Next.length : Int)).bind fun q96 =>
    (iter (fun s => calqueref09_product_b2 N a_0 b_1 q83 q96 s.1 s.2.1 s.2.2) N (found_56, [], 0)).bind fun o111 =>
    (show Option DFA from
      (app x_58.Next ([o111.2] : List (List (Int)))).bind fun l226 =>
      (idx a_0.Accept q83).bind fun x231 =>
      bif x231 then
        (idx b_1.Accept q96).bind fun x241 =>
        bif x241 then
          (app x_58.Accept ([true] : List (Bool))).bind fun l254 =>
          some (DFA.mk x_58.Start l226 l254)
        else
          bif (!both_2) then
            (idx a_0.Accept q83).bind fun x288 =>
            bif x288 then
              (app x_58.Accept ([true] : List (Bool))).bind fun l301 =>
              some (DFA.mk x_58.Start l226 l301)
            else
              (idx b_1.Accept q96).bind fun x341 =>
              (app x_58.Accept ([x341] : List (Bool))).bind fun l353 =>
              some (DFA.mk x_58.Start l226 l353)
          else
            (app x_58.Accept ([false] : List (Bool))).bind fun l403 =>
            some (DFA.mk x_58.Start l226 l403)
      else
        bif (!both_2) then
          (idx a_0.Accept q83).bind fun x437 =>
          bif x437 then
            (app x_58.Accept ([true] : List (Bool))).bind fun l450 =>
            some (DFA.mk x_58.Start l226 l450)
          else
            (idx b_1.Accept q96).bind fun x483 =>
            (app x_58.Accept ([x483] : List (Bool))).bind fun l495 =>
            some (DFA.mk x_58.Start l226 l495)
        else
          (app x_58.Accept ([false] : List (Bool))).bind fun l538 =>
          some (DFA.mk x_58.Start l226 l538)).bind fun o212 =>
    some (.inl (o111.1, (i_57 + 1), o212))
  else
    some (.inr x_58)
def calqueref09_product (N : Nat) (a_0 : DFA) (b_1 : DFA) (both_2 : Bool) : Option (DFA × Int) :=
  (calqueref09_Valid N a_0).bind fun r14 =>
  bif (!r14) then
    some ((DFA.mk 0 ([]) ([])), 1)
  else
    (calqueref09_Valid N b_1).bind fun r17 =>
    bif (!r17) then
      some ((DFA.mk 0 ([]) ([])), 1)
    else
      (iter (fun s => calqueref09_product_b1 N a_0 b_1 both_2 s.1 s.2.1 s.2.2) N (([(IntKind.wrap .i64 ((IntKind.wrap .i64 (a_0.Start * (b_1.Next.length : Int))) + b_1.Start))] : List (Int)), 0, (DFA.mk 0 ([]) ([])))).bind fun o43 =>
      (calqueref09_minimal N o43).bind fun r590 =>
      bif (decide ((r590.Next.length : Int) > 2000)) then
        some ((DFA.mk 0 ([]) ([])), 6)
      else
        some (r590, 0)

def calqueref09_And (N : Nat) (a_0 : DFA) (b_1 : DFA) : Option (DFA × Int) :=
  (calqueref09_product N a_0 b_1 true).bind fun r14 =>
  some (r14.1, r14.2)

def calqueref09_Or (N : Nat) (a_0 : DFA) (b_1 : DFA) : Option (DFA × Int) :=
  (calqueref09_product N a_0 b_1 false).bind fun r14 =>
  some (r14.1, r14.2)

def calquelaw09_AutomatonSets (N : Nat) (a_0 : DFA) (b_1 : DFA) : Option Bool :=
  (calquelaw09_awake N ).bind fun r13 =>
  bif (!r13) then
    (calquelaw09_awake N ).bind fun r16 =>
    some r16
  else
    (calqueref09_Few N a_0 12).bind fun r18 =>
    bif (!r18) then
      (calquelaw09_awake N ).bind fun r21 =>
      some r21
    else
      (calqueref09_Few N b_1 12).bind fun r23 =>
      bif (!r23) then
        (calquelaw09_awake N ).bind fun r26 =>
        some r26
      else
        (calquelaw09_to N a_0).bind fun _r28 =>
        (automaton_Complement N a_0).bind fun r30 =>
        (calqueref09_Complement N a_0).bind fun r42 =>
        (show Option (DFA × Int) from
          (calquelaw09_to N a_0).bind fun _r63 =>
          (calquelaw09_to N b_1).bind fun _r65 =>
          (automaton_And N a_0 b_1).bind fun r67 =>
          some (r67.1, r67.2)).bind fun o54 =>
        (calqueref09_And N a_0 b_1).bind fun r127 =>
        (show Option (DFA × Int) from
          (calquelaw09_to N a_0).bind fun _r148 =>
          (calquelaw09_to N b_1).bind fun _r150 =>
          (automaton_Or N a_0 b_1).bind fun r152 =>
          some (r152.1, r152.2)).bind fun o139 =>
        (calqueref09_Or N a_0 b_1).bind fun r212 =>
        bif (r30.2 == r42.2) then
          bif (o54.2 == r127.2) then
            bif (o139.2 == r212.2) then
              (calquelaw09_from N r30.1).bind fun _r227 =>
              (calqueref09_Equal N r30.1 r42.1).bind fun r229 =>
              bif r229 then
                (calquelaw09_from N o54.1).bind fun _r232 =>
                (calqueref09_Equal N o54.1 r127.1).bind fun r234 =>
                bif r234 then
                  (calquelaw09_from N o139.1).bind fun _r237 =>
                  (calqueref09_Equal N o139.1 r212.1).bind fun r239 =>
                  some r239
                else
                  some false
              else
                some false
            else
              some false
          else
            some false
        else
          some false

end Go.Proofs.Ytdlaobjbjmecnaa
