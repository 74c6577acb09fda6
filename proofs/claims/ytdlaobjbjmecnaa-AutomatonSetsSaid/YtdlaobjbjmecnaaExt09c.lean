/- The functions of this part as plain Lean functions, printed by gen.py. -/
import Derived.Test.YtdlaobjbjmecnaaExt09a
import Derived.Test.YtdlaobjbjmecnaaExt09b
import Derived.Test.YtdlaobjbjmecnaaLibL
set_option linter.unusedVariables false
namespace Go.Proofs.Ytdlaobjbjmecnaa
open Go.X

def automaton_Complement_b1 (_N : Nat) (d_0 : DFA) (x_56 : Int) (x_57 : DFA) : Option ((Int × DFA) ⊕ DFA) :=
  bif (decide (x_56 < (d_0.Accept.length : Int))) then
    (idx d_0.Accept x_56).bind fun x66 =>
    (idx x_57.Accept x_56).bind fun _x75 =>
    (setI x_57.Accept x_56 (!x66)).bind fun l81 =>
    some (.inl ((x_56 + 1), (DFA.mk x_57.Start x_57.Next l81)))
  else
    some (.inr x_57)
def automaton_Complement (N : Nat) (d_0 : DFA) : Option (DFA × Int) :=
  (automaton_Valid N d_0).bind fun r8 =>
  bif (!r8) then
    some ((DFA.mk 0 ([]) ([])), 1)
  else
    (show Option DFA from
      (mk (d_0.Accept.length : Int) (false : Bool)).bind fun l19 =>
      some (DFA.mk d_0.Start d_0.Next l19)).bind fun o11 =>
    (iter (fun s => automaton_Complement_b1 N d_0 s.1 s.2) N (0, o11)).bind fun o48 =>
    (automaton_minimal N o48).bind fun r93 =>
    some (r93, 0)

def calqueref09_Complement_b1 (_N : Nat) (d_0 : DFA) (i_30 : Int) (x_31 : DFA) : Option ((Int × DFA) ⊕ DFA) :=
  bif (decide (i_30 < (d_0.Accept.length : Int))) then
    (show Option DFA from
      (idx d_0.Accept i_30).bind fun x47 =>
      (app x_31.Accept ([(!x47)] : List (Bool))).bind fun l59 =>
      some (DFA.mk x_31.Start x_31.Next l59)).bind fun o40 =>
    some (.inl ((i_30 + 1), o40))
  else
    some (.inr x_31)
def calqueref09_Complement (N : Nat) (d_0 : DFA) : Option (DFA × Int) :=
  (calqueref09_Valid N d_0).bind fun r8 =>
  bif (!r8) then
    some ((DFA.mk 0 ([]) ([])), 1)
  else
    (iter (fun s => calqueref09_Complement_b1 N d_0 s.1 s.2) N (0, (DFA.mk d_0.Start d_0.Next ([])))).bind fun o22 =>
    (calqueref09_minimal N o22).bind fun r91 =>
    some (r91, 0)

def calqueref09_Count_b1 (_N : Nat) (d_0 : DFA) (ways_24 : List (Int)) (i_25 : Int) : Option (((List (Int)) × Int) ⊕ (((List (Int))))) :=
  bif (decide (i_25 < (d_0.Next.length : Int))) then
    (idx d_0.Accept i_25).bind fun x31 =>
    (show Option Int from
      bif x31 then
        some 1
      else
        some 0).bind fun o40 =>
    (app ways_24 ([o40] : List (Int))).bind fun l47 =>
    some (.inl (l47, (i_25 + 1)))
  else
    some (.inr ways_24)

def calqueref09_Count_b4 (_N : Nat) (d_0 : DFA) (ways_65 : List (Int)) (i_84 : Int) (sum_95 : Int) (c_96 : Int) : Option ((Int × Int) ⊕ Int) :=
  bif (decide (c_96 < 11)) then
    (idx d_0.Next i_84).bind fun x100 =>
    (idx x100 c_96).bind fun x111 =>
    (idx ways_65 x111).bind fun x121 =>
    some (.inl ((IntKind.wrap .i64 (sum_95 + x121)), (c_96 + 1)))
  else
    some (.inr sum_95)

def calqueref09_Count_b3 (N : Nat) (d_0 : DFA) (ways_65 : List (Int)) (next_83 : List (Int)) (i_84 : Int) : Option (((List (Int)) × Int) ⊕ (((List (Int))))) :=
  bif (decide (i_84 < (d_0.Next.length : Int))) then
    (iter (fun s => calqueref09_Count_b4 N d_0 ways_65 i_84 s.1 s.2) N (0, 0)).bind fun o92 =>
    (app next_83 ([o92] : List (Int))).bind fun l136 =>
    some (.inl (l136, (i_84 + 1)))
  else
    some (.inr next_83)

def calqueref09_Count_b2 (N : Nat) (d_0 : DFA) (n_64 : Int) (ways_65 : List (Int)) : Option ((Int × (List (Int))) ⊕ (((List (Int))))) :=
  bif (decide (n_64 > 0)) then
    (iter (fun s => calqueref09_Count_b3 N d_0 ways_65 s.1 s.2) N ([], 0)).bind fun o78 =>
    some (.inl ((n_64 - 1), o78))
  else
    some (.inr ways_65)
def calqueref09_Count (N : Nat) (d_0 : DFA) (n_1 : Int) : Option (Int × Int) :=
  (calqueref09_Valid N d_0).bind fun r7 =>
  bif (!r7) then
    some (0, 1)
  else
    bif (decide (n_1 < 0)) then
      some (0, 2)
    else
      bif (decide (n_1 > 15)) then
        some (0, 2)
      else
        (iter (fun s => calqueref09_Count_b1 N d_0 s.1 s.2) N ([], 0)).bind fun o19 =>
        (iter (fun s => calqueref09_Count_b2 N d_0 s.1 s.2) N (n_1, o19)).bind fun o59 =>
        (idx o59 d_0.Start).bind fun x151 =>
        some (x151, 0)

def calquelaw09_AutomatonCount_b1 (_N : Nat) (n_1 : Int) (all_53 : Int) (i_54 : Int) : Option ((Int × Int) ⊕ Int) :=
  bif (decide (i_54 < n_1)) then
    some (.inl ((IntKind.wrap .i64 (all_53 * 11)), (i_54 + 1)))
  else
    some (.inr all_53)
def calquelaw09_AutomatonCount (N : Nat) (d_0 : DFA) (n_1 : Int) : Option Bool :=
  (calquelaw09_awake N ).bind fun r7 =>
  bif (!r7) then
    (calquelaw09_awake N ).bind fun r10 =>
    some r10
  else
    (calqueref09_Few N d_0 40).bind fun r12 =>
    bif (!r12) then
      (calquelaw09_awake N ).bind fun r15 =>
      some r15
    else
      (calquelaw09_to N d_0).bind fun _r17 =>
      (automaton_Count N d_0 n_1).bind fun r19 =>
      (calqueref09_Count N d_0 n_1).bind fun r23 =>
      bif (r19.1 != r23.1) then
        some false
      else
        bif (r19.2 != r23.2) then
          some false
        else
          bif (r19.2 != 0) then
            some true
          else
            (calquelaw09_to N d_0).bind fun _r30 =>
            (automaton_Complement N d_0).bind fun r32 =>
            (automaton_Count N r32.1 n_1).bind fun r44 =>
            (iter (fun s => calquelaw09_AutomatonCount_b1 N n_1 s.1 s.2) N (1, 0)).bind fun o50 =>
            bif (r32.2 == 0) then
              bif (r44.2 == 0) then
                some ((IntKind.wrap .i64 (r19.1 + r44.1)) == o50)
              else
                some false
            else
              some false

end Go.Proofs.Ytdlaobjbjmecnaa
