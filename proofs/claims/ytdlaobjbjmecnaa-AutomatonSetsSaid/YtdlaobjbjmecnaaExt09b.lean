/- The functions of this part as plain Lean functions, printed by gen.py. -/
import Derived.Test.YtdlaobjbjmecnaaExt09a
import Derived.Test.YtdlaobjbjmecnaaLibL
set_option linter.unusedVariables false
namespace Go.Proofs.Ytdlaobjbjmecnaa
open Go.X

structure Arr11_Int where
  e0 : Int
  e1 : Int
  e2 : Int
  e3 : Int
  e4 : Int
  e5 : Int
  e6 : Int
  e7 : Int
  e8 : Int
  e9 : Int
  e10 : Int
  deriving DecidableEq

def Arr11_Int.list (a : Arr11_Int) : List (Int) := [a.e0, a.e1, a.e2, a.e3, a.e4, a.e5, a.e6, a.e7, a.e8, a.e9, a.e10]
def Arr11_Int.of : List (Int) → Option Arr11_Int
  | [x0, x1, x2, x3, x4, x5, x6, x7, x8, x9, x10] => some ⟨x0, x1, x2, x3, x4, x5, x6, x7, x8, x9, x10⟩
  | _ => none
def Arr11_Int.get (a : Arr11_Int) (i : Int) : Option (Int) := idx a.list i
def Arr11_Int.set (a : Arr11_Int) (i : Int) (x : Int) : Option Arr11_Int := (setI a.list i x).bind Arr11_Int.of

structure Key where
  class_ : Int
  next : Arr11_Int
  deriving DecidableEq

def automaton_grid (_N : Nat) (n : Int) : Option (List (List Int)) := Go.X.grid n

def automaton_reachable_b1 (_N : Nat) (l8 : List (Int)) (x_23 : Int) (number_24 : List (Int)) : Option ((Int × (List (Int))) ⊕ (((List (Int))))) :=
  bif (decide (x_23 < (l8.length : Int))) then
    (idx number_24 x_23).bind fun _x30 =>
    (setI number_24 x_23 (-1)).bind fun l36 =>
    some (.inl ((x_23 + 1), l36))
  else
    some (.inr number_24)

def automaton_reachable_b3 (_N : Nat) (x97 : List (Int)) (order_127 : List (Int)) (x_128 : Int) (number_129 : List (Int)) : Option (((List (Int)) × Int × (List (Int))) ⊕ (((List (Int)) × (List (Int))))) :=
  bif (decide (x_128 < (x97.length : Int))) then
    (idx x97 x_128).bind fun x138 =>
    (idx number_129 x138).bind fun x148 =>
    bif (decide (x148 < 0)) then
      (idx number_129 x138).bind fun _x160 =>
      (setI number_129 x138 (order_127.length : Int)).bind fun l166 =>
      (app order_127 ([x138] : List (Int))).bind fun l173 =>
      some (.inl (l173, (x_128 + 1), l166))
    else
      some (.inl (order_127, (x_128 + 1), number_129))
  else
    some (.inr (number_129, order_127))

def automaton_reachable_b2 (N : Nat) (d_0 : DFA) (order_75 : List (Int)) (i_76 : Int) (number_77 : List (Int)) : Option (((List (Int)) × Int × (List (Int))) ⊕ (((List (Int)) × (List (Int))))) :=
  bif (decide (i_76 < (order_75.length : Int))) then
    (idx order_75 i_76).bind fun x86 =>
    (idx d_0.Next x86).bind fun x97 =>
    (iter (fun s => automaton_reachable_b3 N x97 s.1 s.2.1 s.2.2) N (order_75, 0, number_77)).bind fun o119 =>
    some (.inl (o119.2, (i_76 + 1), o119.1))
  else
    some (.inr (number_77, order_75))

def automaton_reachable_b5 (_N : Nat) (o67 : ((List (Int)) × (List (Int)))) (x_285 : Int) (x354 : List (Int)) (x_383 : Int) (x_384 : DFA) : Option ((Int × DFA) ⊕ DFA) :=
  bif (decide (x_383 < (x354.length : Int))) then
    (idx x354 x_383).bind fun x394 =>
    (show Option DFA from
      (idx x_384.Next x_285).bind fun x412 =>
      (idx o67.1 x394).bind fun x421 =>
      (idx x412 x_383).bind fun _x432 =>
      (setI x412 x_383 x421).bind fun l438 =>
      (setI x_384.Next x_285 l438).bind fun g440 =>
      some (DFA.mk x_384.Start g440 x_384.Accept)).bind fun o404 =>
    some (.inl ((x_383 + 1), o404))
  else
    some (.inr x_384)

def automaton_reachable_b4 (N : Nat) (d_0 : DFA) (o67 : ((List (Int)) × (List (Int)))) (x_285 : Int) (x_286 : DFA) : Option ((Int × DFA) ⊕ DFA) :=
  bif (decide (x_285 < (o67.2.length : Int))) then
    (idx o67.2 x_285).bind fun x296 =>
    (show Option DFA from
      (idx d_0.Accept x296).bind fun x315 =>
      (idx x_286.Accept x_285).bind fun _x324 =>
      (setI x_286.Accept x_285 x315).bind fun l330 =>
      some (DFA.mk x_286.Start x_286.Next l330)).bind fun o307 =>
    (idx d_0.Next x296).bind fun x354 =>
    (iter (fun s => automaton_reachable_b5 N o67 x_285 x354 s.1 s.2) N (0, o307)).bind fun o374 =>
    some (.inl ((x_285 + 1), o374))
  else
    some (.inr x_286)
def automaton_reachable (N : Nat) (d_0 : DFA) : Option DFA :=
  (mk (d_0.Next.length : Int) (0 : Int)).bind fun l8 =>
  (iter (fun s => automaton_reachable_b1 N l8 s.1 s.2) N (0, l8)).bind fun o18 =>
  (idx o18 d_0.Start).bind fun _x46 =>
  (setI o18 d_0.Start 0).bind fun l52 =>
  (iter (fun s => automaton_reachable_b2 N d_0 s.1 s.2.1 s.2.2) N (([d_0.Start] : List (Int)), 0, l52)).bind fun o67 =>
  (show Option DFA from
    (automaton_grid N (o67.2.length : Int)).bind fun g206 =>
    (mk (o67.2.length : Int) (false : Bool)).bind fun l212 =>
    some (DFA.mk 0 g206 l212)).bind fun o196 =>
  (iter (fun s => automaton_reachable_b4 N d_0 o67 s.1 s.2) N (0, o196)).bind fun o276 =>
  some o276

def automaton_classes_b1 (_N : Nat) (d_0 : DFA) (count_25 : Int) (x_26 : Int) (class_27 : List (Int)) : Option ((Int × Int × (List (Int))) ⊕ (((List (Int)) × Int))) :=
  bif (decide (x_26 < (d_0.Accept.length : Int))) then
    (idx d_0.Accept x_26).bind fun x34 =>
    (show Option ((List (Int))) from
      bif x34 then
        (idx class_27 x_26).bind fun _x48 =>
        (setI class_27 x_26 1).bind fun l54 =>
        some l54
      else
        some class_27).bind fun o43 =>
    (idx d_0.Accept 0).bind fun x61 =>
    bif (x34 != x61) then
      some (.inl (2, (x_26 + 1), o43))
    else
      some (.inl (count_25, (x_26 + 1), o43))
  else
    some (.inr (class_27, count_25))

def automaton_classes_b4 (_N : Nat) (class_84 : List (Int)) (x125 : List (Int)) (x_176 : Int) (x_177 : Key) : Option ((Int × Key) ⊕ Key) :=
  bif (decide (x_176 < (x125.length : Int))) then
    (idx x125 x_176).bind fun x192 =>
    (idx class_84 x192).bind fun x202 =>
    (Arr11_Int.get x_177.next x_176).bind fun _x213 =>
    (Arr11_Int.set x_177.next x_176 x202).bind fun z215 =>
    some (.inl ((x_176 + 1), (Key.mk x_177.class_ z215)))
  else
    some (.inr x_177)

def automaton_classes_b3 (N : Nat) (d_0 : DFA) (class_84 : List (Int)) (x_114 : Int) (known_115 : List (Key × Int)) (finer_116 : List (Int)) : Option ((Int × (List (Key × Int)) × (List (Int))) ⊕ (((List (Key × Int)) × (List (Int))))) :=
  bif (decide (x_114 < (d_0.Next.length : Int))) then
    (idx d_0.Next x_114).bind fun x125 =>
    (idx class_84 x_114).bind fun x136 =>
    (iter (fun s => automaton_classes_b4 N class_84 x125 s.1 s.2) N (0, (Key.mk x136 (Arr11_Int.mk 0 0 0 0 0 0 0 0 0 0 0)))).bind fun o162 =>
    (show Option ((List (Key × Int)) × Int) from
      bif (!((mget known_115 o162).isSome)) then
        (mset known_115 o162 (known_115.length : Int)).bind fun l242 =>
        some (l242, (known_115.length : Int))
      else
        some (known_115, ((mget known_115 o162).getD 0))).bind fun o236 =>
    (idx finer_116 x_114).bind fun _x250 =>
    (setI finer_116 x_114 o236.2).bind fun l256 =>
    some (.inl ((x_114 + 1), o236.1, l256))
  else
    some (.inr (known_115, finer_116))

def automaton_classes_b2 (N : Nat) (d_0 : DFA) (class_84 : List (Int)) (count_85 : Int) : Option (((List (Int)) × Int) ⊕ (((List (Int)) × Int))) :=
  (mk (class_84.length : Int) (0 : Int)).bind fun l93 =>
  (iter (fun s => automaton_classes_b3 N d_0 class_84 s.1 s.2.1 s.2.2) N (0, ([] : List (Key × Int)), l93)).bind fun o106 =>
  bif ((o106.1.length : Int) == count_85) then
    some (.inr (o106.2, count_85))
  else
    some (.inl (o106.2, (o106.1.length : Int)))
def automaton_classes (N : Nat) (d_0 : DFA) : Option ((List (Int)) × Int) :=
  (mk (d_0.Next.length : Int) (0 : Int)).bind fun l7 =>
  (iter (fun s => automaton_classes_b1 N d_0 s.1 s.2.1 s.2.2) N (1, 0, l7)).bind fun o19 =>
  (iter (fun s => automaton_classes_b2 N d_0 s.1 s.2) N (o19.1, o19.2)).bind fun o79 =>
  some (o79.1, o79.2)

def automaton_minimal_b2 (_N : Nat) (r18 : (List (Int)) × Int) (x_131 : Int) (x142 : List (Int)) (x_236 : Int) (x_237 : DFA) : Option ((Int × DFA) ⊕ DFA) :=
  bif (decide (x_236 < (x142.length : Int))) then
    (idx x142 x_236).bind fun x247 =>
    (show Option DFA from
      (idx r18.1 x_131).bind fun x265 =>
      (idx x_237.Next x265).bind fun x275 =>
      (idx r18.1 x247).bind fun x284 =>
      (idx x275 x_236).bind fun _x294 =>
      (setI x275 x_236 x284).bind fun l300 =>
      (setI x_237.Next x265 l300).bind fun g302 =>
      some (DFA.mk x_237.Start g302 x_237.Accept)).bind fun o257 =>
    some (.inl ((x_236 + 1), o257))
  else
    some (.inr x_237)

def automaton_minimal_b1 (N : Nat) (r8 : DFA) (r18 : (List (Int)) × Int) (x_131 : Int) (x_132 : DFA) : Option ((Int × DFA) ⊕ DFA) :=
  bif (decide (x_131 < (r8.Next.length : Int))) then
    (idx r8.Next x_131).bind fun x142 =>
    (show Option DFA from
      (idx r18.1 x_131).bind fun x161 =>
      (idx r8.Accept x_131).bind fun x171 =>
      (idx x_132.Accept x161).bind fun _x180 =>
      (setI x_132.Accept x161 x171).bind fun l186 =>
      some (DFA.mk x_132.Start x_132.Next l186)).bind fun o153 =>
    (iter (fun s => automaton_minimal_b2 N r18 x_131 x142 s.1 s.2) N (0, o153)).bind fun o227 =>
    some (.inl ((x_131 + 1), o227))
  else
    some (.inr x_132)
def automaton_minimal (N : Nat) (d_0 : DFA) : Option DFA :=
  (automaton_reachable N d_0).bind fun r8 =>
  (automaton_classes N r8).bind fun r18 =>
  (show Option DFA from
    (idx r18.1 r8.Start).bind fun x34 =>
    (automaton_grid N r18.2).bind fun g44 =>
    (mk r18.2 (false : Bool)).bind fun l50 =>
    some (DFA.mk x34 g44 l50)).bind fun o24 =>
  (iter (fun s => automaton_minimal_b1 N r8 r18 s.1 s.2) N (0, o24)).bind fun o122 =>
  (automaton_reachable N o122).bind fun r367 =>
  some r367

def automaton_Minimal (N : Nat) (d_0 : DFA) : Option (DFA × Int) :=
  (automaton_Valid N d_0).bind fun r8 =>
  bif (!r8) then
    some ((DFA.mk 0 ([]) ([])), 1)
  else
    (automaton_minimal N d_0).bind fun r11 =>
    some (r11, 0)

def automaton_equal_b2 (_N : Nat) (b_1 : DFA) (x_18 : Int) (x21 : List (Int)) (x_54 : Int) : Option (Int ⊕ ((Unit ⊕ Bool))) :=
  bif (decide (x_54 < (x21.length : Int))) then
    (idx x21 x_54).bind fun x57 =>
    (idx b_1.Next x_18).bind fun x67 =>
    (idx x67 x_54).bind fun x78 =>
    bif (x57 != x78) then
      some (.inr (.inr false))
    else
      some (.inl (x_54 + 1))
  else
    some (.inr (.inl ()))

def automaton_equal_b1 (N : Nat) (a_0 : DFA) (b_1 : DFA) (x_18 : Int) : Option (Int ⊕ ((Unit ⊕ Bool))) :=
  bif (decide (x_18 < (a_0.Next.length : Int))) then
    (idx a_0.Next x_18).bind fun x21 =>
    (idx a_0.Accept x_18).bind fun x32 =>
    (idx b_1.Accept x_18).bind fun x41 =>
    bif (x32 != x41) then
      some (.inr (.inr false))
    else
      (iter (fun s => automaton_equal_b2 N b_1 x_18 x21 s) N 0).bind fun o52 =>
      Sum.elim (fun _o52 =>
        some (.inl (x_18 + 1)))
      (fun o52 =>
        some (.inr (.inr o52))) o52
  else
    some (.inr (.inl ()))
def automaton_equal (N : Nat) (a_0 : DFA) (b_1 : DFA) : Option Bool :=
  bif (a_0.Start != b_1.Start) then
    some false
  else
    bif ((a_0.Next.length : Int) != (b_1.Next.length : Int)) then
      some false
    else
      (iter (fun s => automaton_equal_b1 N a_0 b_1 s) N 0).bind fun o16 =>
      Sum.elim (fun _o16 =>
        some true)
      (fun o16 =>
        some o16) o16

def automaton_Same (N : Nat) (a_0 : DFA) (b_1 : DFA) : Option (Bool × Int) :=
  (automaton_Valid N a_0).bind fun r13 =>
  bif (!r13) then
    some (false, 1)
  else
    (automaton_Valid N b_1).bind fun r16 =>
    bif (!r16) then
      some (false, 1)
    else
      (show Option Bool from
        (automaton_minimal N a_0).bind fun r21 =>
        (automaton_minimal N b_1).bind fun r31 =>
        (automaton_equal N r21 r31).bind fun r41 =>
        some r41).bind fun o19 =>
      some (o19, 0)

def calqueref09_alike_b1 (_N : Nat) (d_0 : DFA) (of_1 : List (Int)) (a_2 : Int) (b_3 : Int) (c_31 : Int) : Option (Int ⊕ ((Unit ⊕ Bool))) :=
  bif (decide (c_31 < 11)) then
    (idx d_0.Next a_2).bind fun x34 =>
    (idx x34 c_31).bind fun x45 =>
    (idx of_1 x45).bind fun x55 =>
    (idx d_0.Next b_3).bind fun x65 =>
    (idx x65 c_31).bind fun x76 =>
    (idx of_1 x76).bind fun x86 =>
    bif (x55 != x86) then
      some (.inr (.inr false))
    else
      some (.inl (c_31 + 1))
  else
    some (.inr (.inl ()))
def calqueref09_alike (N : Nat) (d_0 : DFA) (of_1 : List (Int)) (a_2 : Int) (b_3 : Int) : Option Bool :=
  (idx of_1 a_2).bind fun x7 =>
  (idx of_1 b_3).bind fun x17 =>
  bif (x7 != x17) then
    some false
  else
    (iter (fun s => calqueref09_alike_b1 N d_0 of_1 a_2 b_3 s) N 0).bind fun o29 =>
    Sum.elim (fun _o29 =>
      some true)
    (fun o29 =>
      some o29) o29

def calqueref09_classes_b1 (_N : Nat) (d_0 : DFA) (of_19 : List (Int)) (i_20 : Int) : Option (((List (Int)) × Int) ⊕ (((List (Int))))) :=
  bif (decide (i_20 < (d_0.Next.length : Int))) then
    (idx d_0.Accept i_20).bind fun x26 =>
    (show Option Int from
      bif x26 then
        some 1
      else
        some 0).bind fun o35 =>
    (app of_19 ([o35] : List (Int))).bind fun l42 =>
    some (.inl (l42, (i_20 + 1)))
  else
    some (.inr of_19)

def calqueref09_classes_b4 (N : Nat) (d_0 : DFA) (of_59 : List (Int)) (first_86 : List (Int)) (i_87 : Int) (n_99 : Int) : Option (Int ⊕ Int) :=
  bif (decide (n_99 < (first_86.length : Int))) then
    (idx first_86 n_99).bind fun x102 =>
    (calqueref09_alike N d_0 of_59 i_87 x102).bind fun r118 =>
    bif (!r118) then
      some (.inl (n_99 + 1))
    else
      some (.inr n_99)
  else
    some (.inr n_99)

def calqueref09_classes_b3 (N : Nat) (d_0 : DFA) (of_59 : List (Int)) (next_85 : List (Int)) (first_86 : List (Int)) (i_87 : Int) : Option (((List (Int)) × (List (Int)) × Int) ⊕ (((List (Int)) × (List (Int))))) :=
  bif (decide (i_87 < (d_0.Next.length : Int))) then
    (iter (fun s => calqueref09_classes_b4 N d_0 of_59 first_86 i_87 s) N 0).bind fun o97 =>
    (show Option ((List (Int))) from
      bif (o97 == (first_86.length : Int)) then
        (app first_86 ([i_87] : List (Int))).bind fun l130 =>
        some l130
      else
        some first_86).bind fun o122 =>
    (app next_85 ([o97] : List (Int))).bind fun l141 =>
    some (.inl (l141, o122, (i_87 + 1)))
  else
    some (.inr (next_85, first_86))

def calqueref09_classes_b2 (N : Nat) (d_0 : DFA) (of_59 : List (Int)) (count_60 : Int) : Option (((List (Int)) × Int) ⊕ (((List (Int))))) :=
  (iter (fun s => calqueref09_classes_b3 N d_0 of_59 s.1 s.2.1 s.2.2) N ([], [], 0)).bind fun o77 =>
  bif ((o77.2.length : Int) == count_60) then
    some (.inr o77.1)
  else
    some (.inl (o77.1, (o77.2.length : Int)))
def calqueref09_classes (N : Nat) (d_0 : DFA) : Option (List (Int)) :=
  (iter (fun s => calqueref09_classes_b1 N d_0 s.1 s.2) N ([], 0)).bind fun o14 =>
  (iter (fun s => calqueref09_classes_b2 N d_0 s.1 s.2) N (o14, 1)).bind fun o54 =>
  some o54

def calqueref09_minimal_b2 (N : Nat) (d_0 : DFA) (r8 : (List (Int))) (i_73 : Int) (found_121 : List (Int)) (state_122 : List (Int)) (row_123 : List (Int)) (c_124 : Int) : Option (((List (Int)) × (List (Int)) × (List (Int)) × Int) ⊕ (((List (Int)) × (List (Int)) × (List (Int))))) :=
  bif (decide (c_124 < 11)) then
    (idx state_122 i_73).bind fun x136 =>
    (idx d_0.Next x136).bind fun x147 =>
    (idx x147 c_124).bind fun x158 =>
    (idx r8 x158).bind fun x168 =>
    (calqueref09_index N found_121 x168).bind fun r183 =>
    (show Option ((List (Int)) × (List (Int)) × Int) from
      bif (decide (r183 < 0)) then
        (idx r8 x158).bind fun x195 =>
        (app found_121 ([x195] : List (Int))).bind fun l208 =>
        (app state_122 ([x158] : List (Int))).bind fun l216 =>
        some (l208, l216, (found_121.length : Int))
      else
        some (found_121, state_122, r183)).bind fun o186 =>
    (app row_123 ([o186.2.2] : List (Int))).bind fun l231 =>
    some (.inl (o186.1, o186.2.1, l231, (c_124 + 1)))
  else
    some (.inr (found_121, state_122, row_123))

def calqueref09_minimal_b1 (N : Nat) (d_0 : DFA) (r8 : (List (Int))) (found_71 : List (Int)) (state_72 : List (Int)) (i_73 : Int) (x_74 : DFA) : Option (((List (Int)) × (List (Int)) × Int × DFA) ⊕ DFA) :=
  bif (decide (i_73 < (found_71.length : Int))) then
    (iter (fun s => calqueref09_minimal_b2 N d_0 r8 i_73 s.1 s.2.1 s.2.2.1 s.2.2.2) N (found_71, state_72, [], 0)).bind fun o110 =>
    (show Option DFA from
      (app x_74.Next ([o110.2.2] : List (List (Int)))).bind fun l259 =>
      (idx o110.2.1 i_73).bind fun x264 =>
      (idx d_0.Accept x264).bind fun x275 =>
      (app x_74.Accept ([x275] : List (Bool))).bind fun l287 =>
      some (DFA.mk x_74.Start l259 l287)).bind fun o245 =>
    some (.inl (o110.1, o110.2.1, (i_73 + 1), o245))
  else
    some (.inr x_74)
def calqueref09_minimal (N : Nat) (d_0 : DFA) : Option DFA :=
  (calqueref09_classes N d_0).bind fun r8 =>
  (idx r8 d_0.Start).bind fun x13 =>
  (iter (fun s => calqueref09_minimal_b1 N d_0 r8 s.1 s.2.1 s.2.2.1 s.2.2.2) N (([x13] : List (Int)), ([d_0.Start] : List (Int)), 0, (DFA.mk 0 ([]) ([])))).bind fun o55 =>
  some o55

def calqueref09_Minimal (N : Nat) (d_0 : DFA) : Option (DFA × Int) :=
  (calqueref09_Valid N d_0).bind fun r8 =>
  bif (!r8) then
    some ((DFA.mk 0 ([]) ([])), 1)
  else
    (calqueref09_minimal N d_0).bind fun r11 =>
    some (r11, 0)

def calqueref09_Same (N : Nat) (a_0 : DFA) (b_1 : DFA) : Option (Bool × Int) :=
  (calqueref09_Valid N a_0).bind fun r13 =>
  bif (!r13) then
    some (false, 1)
  else
    (calqueref09_Valid N b_1).bind fun r16 =>
    bif (!r16) then
      some (false, 1)
    else
      (show Option Bool from
        (calqueref09_minimal N a_0).bind fun r21 =>
        (calqueref09_minimal N b_1).bind fun r31 =>
        (calqueref09_Equal N r21 r31).bind fun r41 =>
        some r41).bind fun o19 =>
      some (o19, 0)

def calquelaw09_AutomatonMinimal (N : Nat) (d_0 : DFA) (word_1 : List UInt8) : Option Bool :=
  (calquelaw09_awake N ).bind fun r7 =>
  bif (!r7) then
    (calquelaw09_awake N ).bind fun r10 =>
    some r10
  else
    (calqueref09_Few N d_0 40).bind fun r12 =>
    bif (!r12) then
      (calquelaw09_awake N ).bind fun r15 =>
      some r15
    else
      bif (decide ((word_1.length : Int) > 200)) then
        (calquelaw09_awake N ).bind fun r18 =>
        some r18
      else
        (calquelaw09_to N d_0).bind fun _r20 =>
        (automaton_Minimal N d_0).bind fun r22 =>
        (calqueref09_Minimal N d_0).bind fun r34 =>
        bif (r22.2 != r34.2) then
          some false
        else
          (calquelaw09_from N r22.1).bind fun _r47 =>
          (calqueref09_Equal N r22.1 r34.1).bind fun r49 =>
          bif (!r49) then
            some false
          else
            bif (r22.2 != 0) then
              some true
            else
              (automaton_Minimal N r22.1).bind fun r53 =>
              bif (r53.2 == 0) then
                (calquelaw09_from N r53.1).bind fun _r66 =>
                (calqueref09_Equal N r53.1 r34.1).bind fun r68 =>
                bif r68 then
                  (automaton_Run N r22.1 word_1).bind fun r71 =>
                  (calquelaw09_to N d_0).bind fun _r73 =>
                  (automaton_Run N d_0 word_1).bind fun r75 =>
                  bif (r71 == r75) then
                    some (decide ((r22.1.Next.length : Int) ≤ (d_0.Next.length : Int)))
                  else
                    some false
                else
                  some false
              else
                some false

def calquelaw09_AutomatonSame (N : Nat) (a_0 : DFA) (b_1 : DFA) (word_2 : List UInt8) : Option Bool :=
  (calquelaw09_awake N ).bind fun r13 =>
  bif (!r13) then
    (calquelaw09_awake N ).bind fun r16 =>
    some r16
  else
    (calqueref09_Few N a_0 30).bind fun r18 =>
    bif (!r18) then
      (calquelaw09_awake N ).bind fun r21 =>
      some r21
    else
      (calqueref09_Few N b_1 30).bind fun r23 =>
      bif (!r23) then
        (calquelaw09_awake N ).bind fun r26 =>
        some r26
      else
        bif (decide ((word_2.length : Int) > 200)) then
          (calquelaw09_awake N ).bind fun r29 =>
          some r29
        else
          (calquelaw09_to N a_0).bind fun _r31 =>
          (calquelaw09_to N b_1).bind fun _r33 =>
          (automaton_Same N a_0 b_1).bind fun r35 =>
          (calqueref09_Same N a_0 b_1).bind fun r38 =>
          bif (r35.1 != r38.1) then
            bif (r35.1 == r38.1) then
              some (r35.2 == r38.2)
            else
              some false
          else
            bif (r35.2 != r38.2) then
              bif (r35.1 == r38.1) then
                some (r35.2 == r38.2)
              else
                some false
            else
              bif (r35.2 != 0) then
                bif (r35.1 == r38.1) then
                  some (r35.2 == r38.2)
                else
                  some false
              else
                (calquelaw09_to N a_0).bind fun _r47 =>
                (automaton_Minimal N a_0).bind fun r49 =>
                (calquelaw09_to N b_1).bind fun _r61 =>
                (automaton_Minimal N b_1).bind fun r63 =>
                bif (r49.2 == 0) then
                  bif (r63.2 == 0) then
                    (calquelaw09_from N r49.1).bind fun _r77 =>
                    (calquelaw09_from N r63.1).bind fun _r79 =>
                    (calqueref09_Equal N r49.1 r63.1).bind fun r81 =>
                    bif (r35.1 == r81) then
                      bif (!r35.1) then
                        some true
                      else
                        (calquelaw09_to N a_0).bind fun _r85 =>
                        (automaton_Run N a_0 word_2).bind fun r87 =>
                        (calquelaw09_to N b_1).bind fun _r89 =>
                        (automaton_Run N b_1 word_2).bind fun r91 =>
                        some (r87 == r91)
                    else
                      some false
                  else
                    some false
                else
                  some false

end Go.Proofs.Ytdlaobjbjmecnaa
