/- The functions of this part as plain Lean functions, printed by gen.py. -/
import Derived.Test.YtdlaobjbjmecnaaLibL
set_option linter.unusedVariables false
namespace Go.Proofs.Ytdlaobjbjmecnaa
open Go.X

structure DFA where
  Start : Int
  Next : List (List (Int))
  Accept : List (Bool)

def calquelaw09_odd (_N : Nat) : Option DFA :=
  some (DFA.mk 0 ([([0, 1, 0, 1, 0, 1, 0, 1, 0, 1, 0] : List (Int)), ([0, 1, 0, 1, 0, 1, 0, 1, 0, 1, 0] : List (Int))] : List (List (Int))) ([false, true] : List (Bool)))

def automaton_Valid_b2 (_N : Nat) (d_0 : DFA) (x18 : List (Int)) (x_33 : Int) : Option (Int ⊕ ((Unit ⊕ Bool))) :=
  bif (decide (x_33 < (x18.length : Int))) then
    (idx x18 x_33).bind fun x36 =>
    bif (decide (x36 < 0)) then
      some (.inr (.inr false))
    else
      bif (decide (x36 ≥ (d_0.Next.length : Int))) then
        some (.inr (.inr false))
      else
        some (.inl (x_33 + 1))
  else
    some (.inr (.inl ()))

def automaton_Valid_b1 (N : Nat) (d_0 : DFA) (x_15 : Int) : Option (Int ⊕ ((Unit ⊕ Bool))) :=
  bif (decide (x_15 < (d_0.Next.length : Int))) then
    (idx d_0.Next x_15).bind fun x18 =>
    bif ((x18.length : Int) != 11) then
      some (.inr (.inr false))
    else
      (iter (fun s => automaton_Valid_b2 N d_0 x18 s) N 0).bind fun o31 =>
      Sum.elim (fun _o31 =>
        some (.inl (x_15 + 1)))
      (fun o31 =>
        some (.inr (.inr o31))) o31
  else
    some (.inr (.inl ()))
def automaton_Valid (N : Nat) (d_0 : DFA) : Option Bool :=
  bif (decide ((d_0.Next.length : Int) < 1)) then
    some false
  else
    bif (decide ((d_0.Next.length : Int) > 2000)) then
      some false
    else
      bif ((d_0.Accept.length : Int) != (d_0.Next.length : Int)) then
        some false
      else
        bif (decide (d_0.Start < 0)) then
          some false
        else
          bif (decide (d_0.Start ≥ (d_0.Next.length : Int))) then
            some false
          else
            (iter (fun s => automaton_Valid_b1 N d_0 s) N 0).bind fun o13 =>
            Sum.elim (fun _o13 =>
              some true)
            (fun o13 =>
              some o13) o13

def automaton_character (_N : Nat) (c_0 : Int) : Option Int :=
  bif (c_0 == 10) then
    some 46
  else
    some (IntKind.wrap .u8 (IntKind.wrap .i64 ((48 : Int) + c_0)))

def automaton_Shortest_b2 (N : Nat) (x45 : Int) (x76 : List (Int)) (queue_106 : List (Int)) (x_107 : Int) (word_108 : List (Int × List UInt8)) : Option (((List (Int)) × Int × (List (Int × List UInt8))) ⊕ (((List (Int × List UInt8)) × (List (Int))))) :=
  bif (decide (x_107 < (x76.length : Int))) then
    (idx x76 x_107).bind fun x117 =>
    bif (!((mget word_108 x117).isSome)) then
      (show Option ((List (Int × List UInt8))) from
        (automaton_character N x_107).bind fun r142 =>
        (cat ((mget word_108 x45).getD []) (runeStr r142)).bind fun s145 =>
        (mset word_108 x117 s145).bind fun l147 =>
        some l147).bind fun o133 =>
      (app queue_106 ([x117] : List (Int))).bind fun l173 =>
      some (.inl (l173, (x_107 + 1), o133))
    else
      some (.inl (queue_106, (x_107 + 1), word_108))
  else
    some (.inr (word_108, queue_106))

def automaton_Shortest_b1 (N : Nat) (d_0 : DFA) (queue_36 : List (Int)) (word_37 : List (Int × List UInt8)) : Option (((List (Int)) × (List (Int × List UInt8))) ⊕ ((Unit ⊕ ((List UInt8) × Bool × Int)))) :=
  bif (decide ((queue_36.length : Int) > 0)) then
    (idx queue_36 0).bind fun x45 =>
    (slc queue_36 1 (queue_36.length : Int)).bind fun l56 =>
    (idx d_0.Accept x45).bind fun x61 =>
    bif x61 then
      some (.inr (.inr (((mget word_37 x45).getD []), true, 0)))
    else
      (idx d_0.Next x45).bind fun x76 =>
      (iter (fun s => automaton_Shortest_b2 N x45 x76 s.1 s.2.1 s.2.2) N (l56, 0, word_37)).bind fun o98 =>
      some (.inl (o98.2, o98.1))
  else
    some (.inr (.inl ()))
def automaton_Shortest (N : Nat) (d_0 : DFA) : Option ((List UInt8) × Bool × Int) :=
  (automaton_Valid N d_0).bind fun r7 =>
  bif (!r7) then
    some ([], false, 1)
  else
    (mset ([] : List (Int × List UInt8)) d_0.Start ([])).bind fun l13 =>
    (iter (fun s => automaton_Shortest_b1 N d_0 s.1 s.2) N (([d_0.Start] : List (Int)), l13)).bind fun o29 =>
    Sum.elim (fun _o29 =>
      some ([], false, 0))
    (fun o29 =>
      some o29) o29

def automaton_Count_b3 (_N : Nat) (x65 : Int) (x76 : List (Int)) (x_97 : Int) (next_98 : List (Int)) : Option ((Int × (List (Int))) ⊕ (((List (Int))))) :=
  bif (decide (x_97 < (x76.length : Int))) then
    (idx x76 x_97).bind fun x104 =>
    (idx next_98 x104).bind fun x114 =>
    (idx next_98 x104).bind fun _x125 =>
    (setI next_98 x104 (IntKind.wrap .i64 (x114 + x65))).bind fun l131 =>
    some (.inl ((x_97 + 1), l131))
  else
    some (.inr next_98)

def automaton_Count_b2 (N : Nat) (d_0 : DFA) (words_36 : List (Int)) (x_58 : Int) (next_59 : List (Int)) : Option ((Int × (List (Int))) ⊕ (((List (Int))))) :=
  bif (decide (x_58 < (words_36.length : Int))) then
    (idx words_36 x_58).bind fun x65 =>
    (idx d_0.Next x_58).bind fun x76 =>
    (iter (fun s => automaton_Count_b3 N x65 x76 s.1 s.2) N (0, next_59)).bind fun o92 =>
    some (.inl ((x_58 + 1), o92))
  else
    some (.inr next_59)

def automaton_Count_b1 (N : Nat) (d_0 : DFA) (n_1 : Int) (words_36 : List (Int)) (x_37 : Int) : Option (((List (Int)) × Int) ⊕ (((List (Int))))) :=
  bif (decide (x_37 < n_1)) then
    (mk (words_36.length : Int) (0 : Int)).bind fun l43 =>
    (iter (fun s => automaton_Count_b2 N d_0 words_36 s.1 s.2) N (0, l43)).bind fun o53 =>
    some (.inl (o53, (x_37 + 1)))
  else
    some (.inr words_36)

def automaton_Count_b4 (_N : Nat) (d_0 : DFA) (o31 : ((List (Int)))) (sum_155 : Int) (x_156 : Int) : Option ((Int × Int) ⊕ Int) :=
  bif (decide (x_156 < (o31.length : Int))) then
    (idx o31 x_156).bind fun x160 =>
    (idx d_0.Accept x_156).bind fun x171 =>
    bif x171 then
      some (.inl ((IntKind.wrap .i64 (sum_155 + x160)), (x_156 + 1)))
    else
      some (.inl (sum_155, (x_156 + 1)))
  else
    some (.inr sum_155)
def automaton_Count (N : Nat) (d_0 : DFA) (n_1 : Int) : Option (Int × Int) :=
  (automaton_Valid N d_0).bind fun r7 =>
  bif (!r7) then
    some (0, 1)
  else
    bif (decide (n_1 < 0)) then
      some (0, 2)
    else
      bif (decide (n_1 > 15)) then
        some (0, 2)
      else
        (mk (d_0.Next.length : Int) (0 : Int)).bind fun l12 =>
        (idx l12 d_0.Start).bind fun _x17 =>
        (setI l12 d_0.Start 1).bind fun l23 =>
        (iter (fun s => automaton_Count_b1 N d_0 n_1 s.1 s.2) N (l23, 0)).bind fun o31 =>
        (iter (fun s => automaton_Count_b4 N d_0 o31 s.1 s.2) N (0, 0)).bind fun o152 =>
        some (o152, 0)

def automaton_symbol (_N : Nat) (c_0 : Int) : Option (Int × Bool) :=
  bif (c_0 == 46) then
    some (10, true)
  else
    bif (decide (c_0 ≥ 48)) then
      some ((IntKind.wrap .i64 (c_0 - 48)), (decide (c_0 ≤ 57)))
    else
      some ((IntKind.wrap .i64 (c_0 - 48)), false)

def automaton_Run_b1 (N : Nat) (d_0 : DFA) (word_1 : List UInt8) (state_15 : Int) (x_16 : Int) : Option ((Int × Int) ⊕ ((Int ⊕ Bool))) :=
  bif (decide (x_16 < (word_1.length : Int))) then
    (idx word_1 x_16).bind fun c20 =>
    (automaton_symbol N (c20.toNat : Int)).bind fun r22 =>
    bif (!r22.2) then
      some (.inr (.inr false))
    else
      (idx d_0.Next state_15).bind fun x26 =>
      (idx x26 r22.1).bind fun x37 =>
      some (.inl (x37, (x_16 + 1)))
  else
    some (.inr (.inl state_15))
def automaton_Run (N : Nat) (d_0 : DFA) (word_1 : List UInt8) : Option Bool :=
  (automaton_Valid N d_0).bind fun r7 =>
  bif (!r7) then
    some false
  else
    (iter (fun s => automaton_Run_b1 N d_0 word_1 s.1 s.2) N (d_0.Start, 0)).bind fun o12 =>
    Sum.elim (fun o12 =>
      (idx d_0.Accept o12).bind fun x48 =>
      some x48)
    (fun o12 =>
      some o12) o12

def calquelaw09_awake (N : Nat) : Option Bool :=
  (calquelaw09_odd N ).bind fun r1 =>
  (automaton_Shortest N r1).bind fun r11 =>
  (calquelaw09_odd N ).bind fun r15 =>
  (automaton_Count N r15 2).bind fun r25 =>
  bif (r11.2.2 == 0) then
    bif (r25.2 == 0) then
      bif r11.2.1 then
        bif (r11.1 == ([49])) then
          bif (r25.1 == 55) then
            (calquelaw09_odd N ).bind fun r34 =>
            (automaton_Run N r34 ([50, 46, 55])).bind fun r44 =>
            some r44
          else
            some false
        else
          some false
      else
        some false
    else
      some false
  else
    some false

def calqueref09_Few_b1 (_N : Nat) (d_0 : DFA) (i_10 : Int) : Option (Int ⊕ ((Unit ⊕ Bool))) :=
  bif (decide (i_10 < (d_0.Next.length : Int))) then
    (idx d_0.Next i_10).bind fun x13 =>
    bif (decide ((x13.length : Int) > 22)) then
      some (.inr (.inr false))
    else
      some (.inl (i_10 + 1))
  else
    some (.inr (.inl ()))
def calqueref09_Few (N : Nat) (d_0 : DFA) (most_1 : Int) : Option Bool :=
  (iter (fun s => calqueref09_Few_b1 N d_0 s) N 0).bind fun o8 =>
  Sum.elim (fun _o8 =>
    bif (decide ((d_0.Next.length : Int) ≤ most_1)) then
      some (decide ((d_0.Accept.length : Int) ≤ (IntKind.wrap .i64 ((2 : Int) * most_1))))
    else
      some false)
  (fun o8 =>
    some o8) o8

def calquelaw09_to (_N : Nat) (d_0 : DFA) : Option DFA :=
  some d_0

def calqueref09_Valid_b2 (_N : Nat) (d_0 : DFA) (i_15 : Int) (c_33 : Int) : Option (Int ⊕ ((Unit ⊕ Bool))) :=
  bif (decide (c_33 < 11)) then
    (idx d_0.Next i_15).bind fun x36 =>
    (idx x36 c_33).bind fun x47 =>
    bif (decide (x47 < 0)) then
      some (.inr (.inr false))
    else
      (idx d_0.Next i_15).bind fun x58 =>
      (idx x58 c_33).bind fun x69 =>
      bif (decide (x69 ≥ (d_0.Next.length : Int))) then
        some (.inr (.inr false))
      else
        some (.inl (c_33 + 1))
  else
    some (.inr (.inl ()))

def calqueref09_Valid_b1 (N : Nat) (d_0 : DFA) (i_15 : Int) : Option (Int ⊕ ((Unit ⊕ Bool))) :=
  bif (decide (i_15 < (d_0.Next.length : Int))) then
    (idx d_0.Next i_15).bind fun x18 =>
    bif ((x18.length : Int) != 11) then
      some (.inr (.inr false))
    else
      (iter (fun s => calqueref09_Valid_b2 N d_0 i_15 s) N 0).bind fun o31 =>
      Sum.elim (fun _o31 =>
        some (.inl (i_15 + 1)))
      (fun o31 =>
        some (.inr (.inr o31))) o31
  else
    some (.inr (.inl ()))
def calqueref09_Valid (N : Nat) (d_0 : DFA) : Option Bool :=
  bif (decide ((d_0.Next.length : Int) < 1)) then
    some false
  else
    bif (decide ((d_0.Next.length : Int) > 2000)) then
      some false
    else
      bif ((d_0.Accept.length : Int) != (d_0.Next.length : Int)) then
        some false
      else
        bif (decide (d_0.Start < 0)) then
          some false
        else
          bif (decide (d_0.Start ≥ (d_0.Next.length : Int))) then
            some false
          else
            (iter (fun s => calqueref09_Valid_b1 N d_0 s) N 0).bind fun o13 =>
            Sum.elim (fun _o13 =>
              some true)
            (fun o13 =>
              some o13) o13

def calqueref09_Symbol (_N : Nat) (c_0 : Int) : Option Int :=
  bif (c_0 == 46) then
    some 10
  else
    bif (decide (c_0 < 48)) then
      some (-1)
    else
      bif (decide (c_0 > 57)) then
        some (-1)
      else
        some (IntKind.wrap .u8 (c_0 - 48))

def calqueref09_Run_b1 (N : Nat) (d_0 : DFA) (word_1 : List UInt8) (s_15 : Int) (i_16 : Int) : Option ((Int × Int) ⊕ ((Int ⊕ Bool))) :=
  bif (decide (i_16 < (word_1.length : Int))) then
    (idx word_1 i_16).bind fun c20 =>
    (calqueref09_Symbol N (c20.toNat : Int)).bind fun r22 =>
    bif (decide (r22 < 0)) then
      some (.inr (.inr false))
    else
      (idx d_0.Next s_15).bind fun x26 =>
      (idx x26 r22).bind fun x37 =>
      some (.inl (x37, (i_16 + 1)))
  else
    some (.inr (.inl s_15))
def calqueref09_Run (N : Nat) (d_0 : DFA) (word_1 : List UInt8) : Option Bool :=
  (calqueref09_Valid N d_0).bind fun r7 =>
  bif (!r7) then
    some false
  else
    (iter (fun s => calqueref09_Run_b1 N d_0 word_1 s.1 s.2) N (d_0.Start, 0)).bind fun o12 =>
    Sum.elim (fun o12 =>
      (idx d_0.Accept o12).bind fun x48 =>
      some x48)
    (fun o12 =>
      some o12) o12

def calquelaw09_AutomatonRun (N : Nat) (d_0 : DFA) (word_1 : List UInt8) : Option Bool :=
  (calquelaw09_awake N ).bind fun r7 =>
  bif (!r7) then
    (calquelaw09_awake N ).bind fun r10 =>
    some r10
  else
    (calqueref09_Few N d_0 40).bind fun r12 =>
    bif (!r12) then
      (calquelaw09_awake N ).bind fun r15 =>
      some r15
    else
      bif (decide ((word_1.length : Int) > 200)) then
        (calquelaw09_awake N ).bind fun r18 =>
        some r18
      else
        (calquelaw09_to N d_0).bind fun _r20 =>
        (automaton_Valid N d_0).bind fun r22 =>
        (calqueref09_Valid N d_0).bind fun r24 =>
        bif (r22 == r24) then
          (calquelaw09_to N d_0).bind fun _r27 =>
          (automaton_Run N d_0 word_1).bind fun r29 =>
          (calqueref09_Run N d_0 word_1).bind fun r31 =>
          some (r29 == r31)
        else
          some false

def calqueref09_index_b1 (_N : Nat) (l_0 : List (Int)) (n_1 : Int) (i_4 : Int) : Option (Int ⊕ ((Unit ⊕ Int))) :=
  bif (decide (i_4 < (l_0.length : Int))) then
    (idx l_0 i_4).bind fun x7 =>
    bif (x7 == n_1) then
      some (.inr (.inr i_4))
    else
      some (.inl (i_4 + 1))
  else
    some (.inr (.inl ()))
def calqueref09_index (N : Nat) (l_0 : List (Int)) (n_1 : Int) : Option Int :=
  (iter (fun s => calqueref09_index_b1 N l_0 n_1 s) N 0).bind fun o2 =>
  Sum.elim (fun _o2 =>
    some (-1))
  (fun o2 =>
    some o2) o2

def calqueref09_Character (_N : Nat) (c_0 : Int) : Option (List UInt8) :=
  (slc ([48, 49, 50, 51, 52, 53, 54, 55, 56, 57, 46]) c_0 (IntKind.wrap .i64 (c_0 + 1))).bind fun s1 =>
  some s1

def calqueref09_Shortest_b2 (N : Nat) (d_0 : DFA) (i_33 : Int) (found_89 : List (Int)) (words_90 : List (List UInt8)) (c_91 : Int) : Option (((List (Int)) × (List (List UInt8)) × Int) ⊕ (((List (Int)) × (List (List UInt8))))) :=
  bif (decide (c_91 < 11)) then
    (idx found_89 i_33).bind fun x100 =>
    (idx d_0.Next x100).bind fun x111 =>
    (idx x111 c_91).bind fun x122 =>
    (calqueref09_index N found_89 x122).bind fun r137 =>
    bif (decide (r137 < 0)) then
      (show Option ((List (Int)) × (List (List UInt8))) from
        (app found_89 ([x122] : List (Int))).bind fun l151 =>
        (idx words_90 i_33).bind fun x156 =>
        (calqueref09_Character N c_91).bind fun r167 =>
        (cat x156 r167).bind fun s170 =>
        (app words_90 ([s170] : List (List UInt8))).bind fun l175 =>
        some (l151, l175)).bind fun o141 =>
      some (.inl (o141.1, o141.2, (c_91 + 1)))
    else
      some (.inl (found_89, words_90, (c_91 + 1)))
  else
    some (.inr (found_89, words_90))

def calqueref09_Shortest_b1 (N : Nat) (d_0 : DFA) (found_31 : List (Int)) (words_32 : List (List UInt8)) (i_33 : Int) : Option (((List (Int)) × (List (List UInt8)) × Int) ⊕ ((Unit ⊕ ((List UInt8) × Bool × Int)))) :=
  bif (decide (i_33 < (found_31.length : Int))) then
    (idx found_31 i_33).bind fun x42 =>
    (idx d_0.Accept x42).bind fun x53 =>
    bif x53 then
      (idx words_32 i_33).bind fun x63 =>
      some (.inr (.inr (x63, true, 0)))
    else
      (iter (fun s => calqueref09_Shortest_b2 N d_0 i_33 s.1 s.2.1 s.2.2) N (found_31, words_32, 0)).bind fun o81 =>
      some (.inl (o81.1, o81.2, (i_33 + 1)))
  else
    some (.inr (.inl ()))
def calqueref09_Shortest (N : Nat) (d_0 : DFA) : Option ((List UInt8) × Bool × Int) :=
  (calqueref09_Valid N d_0).bind fun r7 =>
  bif (!r7) then
    some ([], false, 1)
  else
    (iter (fun s => calqueref09_Shortest_b1 N d_0 s.1 s.2.1 s.2.2) N (([d_0.Start] : List (Int)), ([[]] : List (List UInt8)), 0)).bind fun o23 =>
    Sum.elim (fun _o23 =>
      some ([], false, 0))
    (fun o23 =>
      some o23) o23

def calquelaw09_before_b1 (N : Nat) (a_0 : List UInt8) (b_1 : List UInt8) (i_5 : Int) : Option (Int ⊕ ((Unit ⊕ Bool))) :=
  bif (decide (i_5 < (a_0.length : Int))) then
    (idx a_0 i_5).bind fun c8 =>
    (idx b_1 i_5).bind fun c10 =>
    bif ((c8.toNat : Int) != (c10.toNat : Int)) then
      (idx a_0 i_5).bind fun c13 =>
      (calqueref09_Symbol N (c13.toNat : Int)).bind fun r15 =>
      (idx b_1 i_5).bind fun c18 =>
      (calqueref09_Symbol N (c18.toNat : Int)).bind fun r20 =>
      some (.inr (.inr (decide (r15 < r20))))
    else
      some (.inl (i_5 + 1))
  else
    some (.inr (.inl ()))
def calquelaw09_before (N : Nat) (a_0 : List UInt8) (b_1 : List UInt8) : Option Bool :=
  bif ((a_0.length : Int) != (b_1.length : Int)) then
    some (decide ((a_0.length : Int) < (b_1.length : Int)))
  else
    (iter (fun s => calquelaw09_before_b1 N a_0 b_1 s) N 0).bind fun o3 =>
    Sum.elim (fun _o3 =>
      some false)
    (fun o3 =>
      some o3) o3

def calquelaw09_AutomatonShortest (N : Nat) (d_0 : DFA) (word_1 : List UInt8) : Option Bool :=
  (calquelaw09_awake N ).bind fun r7 =>
  bif (!r7) then
    (calquelaw09_awake N ).bind fun r10 =>
    some r10
  else
    (calqueref09_Few N d_0 40).bind fun r12 =>
    bif (!r12) then
      (calquelaw09_awake N ).bind fun r15 =>
      some r15
    else
      bif (decide ((word_1.length : Int) > 200)) then
        (calquelaw09_awake N ).bind fun r18 =>
        some r18
      else
        (calquelaw09_to N d_0).bind fun _r20 =>
        (automaton_Shortest N d_0).bind fun r22 =>
        (calqueref09_Shortest N d_0).bind fun r26 =>
        bif (r22.1 != r26.1) then
          some false
        else
          bif (r22.2.1 != r26.2.1) then
            some false
          else
            bif (r22.2.2 != r26.2.2) then
              some false
            else
              bif (r22.2.2 != 0) then
                (calquelaw09_to N d_0).bind fun _r34 =>
                (automaton_Run N d_0 word_1).bind fun r36 =>
                some (!r36)
              else
                bif (!r22.2.1) then
                  (calquelaw09_to N d_0).bind fun _r39 =>
                  (automaton_Run N d_0 word_1).bind fun r41 =>
                  some (!r41)
                else
                  (calquelaw09_to N d_0).bind fun _r43 =>
                  (automaton_Run N d_0 r22.1).bind fun r45 =>
                  bif r45 then
                    (calquelaw09_to N d_0).bind fun _r48 =>
                    (automaton_Run N d_0 word_1).bind fun r50 =>
                    bif (!r50) then
                      some true
                    else
                      (calquelaw09_before N word_1 r22.1).bind fun r53 =>
                      some (!r53)
                  else
                    some false

def calquelaw09_from (_N : Nat) (d_0 : DFA) : Option DFA :=
  some d_0

def calqueref09_Equal_b2 (_N : Nat) (a_0 : DFA) (b_1 : DFA) (i_19 : Int) (c_48 : Int) : Option (Int ⊕ ((Unit ⊕ Bool))) :=
  (idx a_0.Next i_19).bind fun x50 =>
  bif (decide (c_48 < (x50.length : Int))) then
    (idx a_0.Next i_19).bind fun x62 =>
    (idx x62 c_48).bind fun x73 =>
    (idx b_1.Next i_19).bind fun x83 =>
    (idx x83 c_48).bind fun x94 =>
    bif (x73 != x94) then
      some (.inr (.inr false))
    else
      some (.inl (c_48 + 1))
  else
    some (.inr (.inl ()))

def calqueref09_Equal_b1 (N : Nat) (a_0 : DFA) (b_1 : DFA) (i_19 : Int) : Option (Int ⊕ ((Unit ⊕ Bool))) :=
  bif (decide (i_19 < (a_0.Next.length : Int))) then
    (idx a_0.Next i_19).bind fun x22 =>
    (idx b_1.Next i_19).bind fun x33 =>
    bif ((x22.length : Int) != (x33.length : Int)) then
      some (.inr (.inr false))
    else
      (iter (fun s => calqueref09_Equal_b2 N a_0 b_1 i_19 s) N 0).bind fun o46 =>
      Sum.elim (fun _o46 =>
        some (.inl (i_19 + 1)))
      (fun o46 =>
        some (.inr (.inr o46))) o46
  else
    some (.inr (.inl ()))

def calqueref09_Equal_b3 (_N : Nat) (a_0 : DFA) (b_1 : DFA) (i_110 : Int) : Option (Int ⊕ ((Unit ⊕ Bool))) :=
  bif (decide (i_110 < (a_0.Accept.length : Int))) then
    (idx a_0.Accept i_110).bind fun x113 =>
    (idx b_1.Accept i_110).bind fun x122 =>
    bif (x113 != x122) then
      some (.inr (.inr false))
    else
      some (.inl (i_110 + 1))
  else
    some (.inr (.inl ()))
def calqueref09_Equal (N : Nat) (a_0 : DFA) (b_1 : DFA) : Option Bool :=
  bif (a_0.Start != b_1.Start) then
    some false
  else
    bif ((a_0.Next.length : Int) != (b_1.Next.length : Int)) then
      some false
    else
      bif ((a_0.Accept.length : Int) != (b_1.Accept.length : Int)) then
        some false
      else
        (iter (fun s => calqueref09_Equal_b1 N a_0 b_1 s) N 0).bind fun o17 =>
        Sum.elim (fun _o17 =>
          (iter (fun s => calqueref09_Equal_b3 N a_0 b_1 s) N 0).bind fun o108 =>
          Sum.elim (fun _o108 =>
            some true)
          (fun o108 =>
            some o108) o108)
        (fun o17 =>
          some o17) o17

end Go.Proofs.Ytdlaobjbjmecnaa
