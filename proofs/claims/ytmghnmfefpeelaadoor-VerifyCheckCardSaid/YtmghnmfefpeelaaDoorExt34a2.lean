/- The functions of this part as plain Lean functions, printed by gen8.py. -/
import Derived.Test.YtmghnmfefpeelaaDoorExt34a1
import Derived.Test.YtmghnmfefpeelaaDoorLibLM
set_option linter.unusedVariables false
namespace Go.Proofs.YtmghnmfefpeelaaDoor
open Go.X

def verify_flow_step_b1 (N : Nat) (x38 : List (List UInt8)) (r83 : (List (Ins))) (x_119 : Int) (x_120 : Flow) : Option ((Int × Flow) ⊕ Flow) :=
  bif (decide (x_119 < (r83.length : Int))) then
    (idx r83 x_119).bind fun x137 =>
    (verify_flow_lead N x137.A x38 x_120).bind fun r151 =>
    some (.inl ((x_119 + 1), r151))
  else
    some (.inr x_120)
def verify_flow_step (N : Nat) (i_1 : Int) (x0 : Flow) : Option (Bool × Flow) :=
  (idx x0.clash i_1).bind fun x27 =>
  bif x27 then
    some (false, x0)
  else
    (idx x0.open_ i_1).bind fun x38 =>
    (idx x0.c.Ins i_1).bind fun x50 =>
    bif (x50.Op == 13) then
      some ((x38.isEmpty), x0)
    else
      bif (x50.Op == 12) then
        (verify_flow_lead N x50.A x38 x0).bind fun r66 =>
        some (true, r66)
      else
        bif (x50.Op == 10) then
          (verify_cases N x0.c i_1).bind fun r83 =>
          (iter (fun s => verify_flow_step_b1 N x38 r83 s.1 s.2) N (0, x0)).bind fun o103 =>
          some (true, o103)
        else
          bif (x50.Op == 2) then
            (verify_flow_lead N (IntKind.wrap .i64 (i_1 + 1)) (x50.S :: x38) x0).bind fun r199 =>
            some (true, r199)
          else
            bif (x50.Op == 3) then
              bif (x38.isEmpty) then
                some (false, x0)
              else
                (unc x38).bind fun q217 =>
                bif (q217.1 != x50.S) then
                  some (false, x0)
                else
                  (unc x38).bind fun q229 =>
                  (verify_flow_lead N (IntKind.wrap .i64 (i_1 + 1)) q229.2 x0).bind fun r240 =>
                  some (true, r240)
            else
              (verify_flow_lead N (IntKind.wrap .i64 (i_1 + 1)) x38 x0).bind fun r256 =>
              some (true, r256)

def verify_follow_b1 (N : Nat) (c_0 : Code) (x_13 : Int) : Option (Int ⊕ ((Unit ⊕ ((Option (Flow)) × Int × Int)))) :=
  bif (decide (x_13 < (c_0.Ins.length : Int))) then
    (verify_Proper N c_0 x_13).bind fun r16 =>
    bif (!r16) then
      some (.inr (.inr (none, x_13, 4)))
    else
      some (.inl (x_13 + 1))
  else
    some (.inr (.inl ()))

def verify_follow_b2 (N : Nat) (c_0 : Code) (x_171 : Int) (x_172 : Flow) : Option ((Int × Flow) ⊕ ((Flow ⊕ ((Option (Flow)) × Int × Int)))) :=
  bif (decide (x_171 < (c_0.Ins.length : Int))) then
    (idx x_172.reached x_171).bind fun x189 =>
    bif x189 then
      (verify_flow_step N x_171 x_172).bind fun r200 =>
      bif (!r200.1) then
        some (.inr (.inr (none, x_171, 7)))
      else
        some (.inl ((x_171 + 1), r200.2))
    else
      some (.inl ((x_171 + 1), x_172))
  else
    some (.inr (.inl x_172))
def verify_follow (N : Nat) (c_0 : Code) : Option ((Option (Flow)) × Int × Int) :=
  (verify_named N c_0.Names).bind fun r6 =>
  bif (!r6) then
    some (none, 0, 1)
  else
    bif (decide ((c_0.Ins.length : Int) > 10000)) then
      some (none, 0, 6)
    else
      (iter (fun s => verify_follow_b1 N c_0 s) N 0).bind fun o11 =>
      Sum.elim (fun _o11 =>
        bif ((c_0.Ins.length : Int) == 0) then
          some (none, (c_0.Ins.length : Int), 4)
        else
          (idx c_0.Ins (IntKind.wrap .i64 ((c_0.Ins.length : Int) - 1))).bind fun x20 =>
          bif (x20.Op != 13) then
            some (none, (c_0.Ins.length : Int), 4)
          else
            (show Option Flow from
              (mk (c_0.Ins.length : Int) (([] : List (List UInt8)) : List (List UInt8))).bind fun l49 =>
              (mk (c_0.Ins.length : Int) (false : Bool)).bind fun l54 =>
              (mk (c_0.Ins.length : Int) (false : Bool)).bind fun l59 =>
              some (Flow.mk c_0 l49 l54 l59)).bind fun o34 =>
            (idx o34.reached 0).bind fun _x130 =>
            (setI o34.reached 0 true).bind fun l136 =>
            (iter (fun s => verify_follow_b2 N c_0 s.1 s.2) N (0, (Flow.mk o34.c o34.open_ l136 o34.clash))).bind fun o155 =>
            Sum.elim (fun o155 =>
              some ((some o155), 0, 0))
            (fun o155 =>
              some o155) o155)
      (fun o11 =>
        some o11) o11

def verify_Check (N : Nat) (c_0 : Code) : Option (Int × Int) :=
  (verify_follow N c_0).bind fun r6 =>
  some (r6.2.1, r6.2.2)

def calquelaw34_awake (N : Nat) : Option Bool :=
  (verify_Check N (Code.mk ([]) ([(Ins.mk 2 0 0 ([98])), (Ins.mk 3 0 0 ([105])), (Ins.mk 13 0 0 ([]))] : List (Ins)))).bind fun r9 =>
  (verify_Check N (Code.mk ([]) ([(Ins.mk 12 0 0 ([])), (Ins.mk 13 0 0 ([]))] : List (Ins)))).bind fun r21 =>
  (verify_Check N (Code.mk ([]) ([(Ins.mk 13 0 0 ([]))] : List (Ins)))).bind fun r33 =>
  bif (r9.1 == 1) then
    bif (r9.2 == 7) then
      bif (r21.2 == 4) then
        bif (r33.2 == 0) then
          (verify_Proper N (Code.mk ([]) ([(Ins.mk 13 0 0 ([]))] : List (Ins))) 0).bind fun r49 =>
          some r49
        else
          some false
      else
        some false
    else
      some false
  else
    some false

def calqueref33_Few_b1 (_N : Nat) (c_0 : Code) (i_9 : Int) : Option (Int ⊕ ((Unit ⊕ Bool))) :=
  bif (decide (i_9 < (c_0.Names.length : Int))) then
    (idx c_0.Names i_9).bind fun x12 =>
    bif (decide ((x12.length : Int) > 100)) then
      some (.inr (.inr false))
    else
      some (.inl (i_9 + 1))
  else
    some (.inr (.inl ()))

def calqueref33_Few_b2 (_N : Nat) (c_0 : Code) (i_26 : Int) : Option (Int ⊕ ((Unit ⊕ Bool))) :=
  bif (decide (i_26 < (c_0.Ins.length : Int))) then
    (idx c_0.Ins i_26).bind fun x29 =>
    bif (decide ((x29.S.length : Int) > 300)) then
      some (.inr (.inr false))
    else
      some (.inl (i_26 + 1))
  else
    some (.inr (.inl ()))
def calqueref33_Few (N : Nat) (c_0 : Code) : Option Bool :=
  (iter (fun s => calqueref33_Few_b1 N c_0 s) N 0).bind fun o7 =>
  Sum.elim (fun _o7 =>
    (iter (fun s => calqueref33_Few_b2 N c_0 s) N 0).bind fun o24 =>
    Sum.elim (fun _o24 =>
      bif (decide ((c_0.Names.length : Int) ≤ 30)) then
        some (decide ((c_0.Ins.length : Int) ≤ 400))
      else
        some false)
    (fun o24 =>
      some o24) o24)
  (fun o7 =>
    some o7) o7

def calquelaw33_Own_b1 (_N : Nat) (c_0 : Code) (i_24 : Int) (x_25 : Code) : Option ((Int × Code) ⊕ Code) :=
  bif (decide (i_24 < (c_0.Ins.length : Int))) then
    (show Option Code from
      (idx c_0.Ins i_24).bind fun x39 =>
      (app x_25.Ins ([x39] : List (Ins))).bind fun l55 =>
      some (Code.mk x_25.Names l55)).bind fun o33 =>
    some (.inl ((i_24 + 1), o33))
  else
    some (.inr x_25)
def calquelaw33_Own (N : Nat) (c_0 : Code) : Option Code :=
  (iter (fun s => calquelaw33_Own_b1 N c_0 s.1 s.2) N (0, (Code.mk c_0.Names ([])))).bind fun o17 =>
  some o17

end Go.Proofs.YtmghnmfefpeelaaDoor
