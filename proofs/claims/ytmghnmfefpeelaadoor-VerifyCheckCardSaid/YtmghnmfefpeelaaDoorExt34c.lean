/- The functions of this part as plain Lean functions, printed by gen8.py. -/
import Derived.Test.YtmghnmfefpeelaaDoorExt34a1
import Derived.Test.YtmghnmfefpeelaaDoorExt34a2
import Derived.Test.YtmghnmfefpeelaaDoorExt34m
import Derived.Test.YtmghnmfefpeelaaDoorExt34p1
import Derived.Test.YtmghnmfefpeelaaDoorExt34p2
import Derived.Test.YtmghnmfefpeelaaDoorExt34p3
import Derived.Test.YtmghnmfefpeelaaDoorLibLM
set_option linter.unusedVariables false
namespace Go.Proofs.YtmghnmfefpeelaaDoor
open Go.X

structure Way where
  reached : Bool
  open_ : List (List UInt8)

def calqueref34_Next_b1 (_N : Nat) (c_0 : Code) (out_32 : List (Int)) (k_33 : Int) : Option (((List (Int)) × Int) ⊕ (((List (Int))))) :=
  bif (decide (k_33 < (c_0.Ins.length : Int))) then
    (idx c_0.Ins k_33).bind fun x39 =>
    bif (x39.Op == 11) then
      (idx c_0.Ins k_33).bind fun x53 =>
      (app out_32 ([x53.A] : List (Int))).bind fun l69 =>
      some (.inl (l69, (k_33 + 1)))
    else
      some (.inr out_32)
  else
    some (.inr out_32)
def calqueref34_Next (N : Nat) (c_0 : Code) (i_1 : Int) : Option (List (Int)) :=
  (idx c_0.Ins i_1).bind fun x6 =>
  bif (x6.Op == 10) then
    (iter (fun s => calqueref34_Next_b1 N c_0 s.1 s.2) N ([], (IntKind.wrap .i64 (i_1 + 1)))).bind fun o27 =>
    some o27
  else
    bif (x6.Op == 12) then
      (idx c_0.Ins i_1).bind fun x83 =>
      some ([x83.A] : List (Int))
    else
      bif (x6.Op == 13) then
        some ([])
      else
        some ([(IntKind.wrap .i64 (i_1 + 1))] : List (Int))

def calqueref34_same_b1 (_N : Nat) (a_0 : List (List UInt8)) (b_1 : List (List UInt8)) (i_5 : Int) : Option (Int ⊕ ((Unit ⊕ Bool))) :=
  bif (decide (i_5 < (a_0.length : Int))) then
    (idx a_0 i_5).bind fun x8 =>
    (idx b_1 i_5).bind fun x18 =>
    bif (x8 != x18) then
      some (.inr (.inr false))
    else
      some (.inl (i_5 + 1))
  else
    some (.inr (.inl ()))
def calqueref34_same (N : Nat) (a_0 : List (List UInt8)) (b_1 : List (List UInt8)) : Option Bool :=
  bif ((a_0.length : Int) != (b_1.length : Int)) then
    some false
  else
    (iter (fun s => calqueref34_same_b1 N a_0 b_1 s) N 0).bind fun o3 =>
    Sum.elim (fun _o3 =>
      some true)
    (fun o3 =>
      some o3) o3

def calqueref34_ways_b2 (N : Nat) (o109 : (List (List UInt8))) (r219 : (List (Int))) (k_240 : Int) (l_241 : List (Way)) (differs_242 : List (Bool)) : Option ((Int × (List (Way)) × (List (Bool))) ⊕ (((List (Way)) × (List (Bool))))) :=
  bif (decide (k_240 < (r219.length : Int))) then
    (idx r219 k_240).bind fun x251 =>
    (idx differs_242 x251).bind fun x261 =>
    bif x261 then
      (idx differs_242 x251).bind fun _x272 =>
      (setI differs_242 x251 true).bind fun l278 =>
      (idx l_241 x251).bind fun _x282 =>
      (setI l_241 x251 (Way.mk true o109)).bind fun l288 =>
      some (.inl ((k_240 + 1), l288, l278))
    else
      (idx l_241 x251).bind fun x292 =>
      bif x292.reached then
        (idx l_241 x251).bind fun x305 =>
        (calqueref34_same N x305.open_ o109).bind fun r317 =>
        (idx differs_242 x251).bind fun _x319 =>
        (setI differs_242 x251 (!r317)).bind fun l325 =>
        (idx l_241 x251).bind fun _x329 =>
        (setI l_241 x251 (Way.mk true o109)).bind fun l335 =>
        some (.inl ((k_240 + 1), l335, l325))
      else
        (idx differs_242 x251).bind fun _x339 =>
        (setI differs_242 x251 false).bind fun l345 =>
        (idx l_241 x251).bind fun _x349 =>
        (setI l_241 x251 (Way.mk true o109)).bind fun l355 =>
        some (.inl ((k_240 + 1), l355, l345))
  else
    some (.inr (l_241, differs_242))

def calqueref34_ways_b1 (N : Nat) (c_0 : Code) (i_45 : Int) (l_46 : List (Way)) (differs_47 : List (Bool)) : Option ((Int × (List (Way)) × (List (Bool))) ⊕ ((((List (Way))) ⊕ ((List (Way)) × Int)))) :=
  bif (decide (i_45 < (c_0.Ins.length : Int))) then
    (idx l_46 i_45).bind fun x57 =>
    bif (!x57.reached) then
      some (.inl ((i_45 + 1), l_46, differs_47))
    else
      (idx differs_47 i_45).bind fun x70 =>
      bif x70 then
        some (.inr (.inr (l_46, i_45)))
      else
        (idx c_0.Ins i_45).bind fun x83 =>
        (idx l_46 i_45).bind fun x97 =>
        (show Option (((List (List UInt8))) ⊕ ((List (Way)) × Int)) from
          bif (x83.Op == 2) then
            (show Option ((List (List UInt8))) from
              (app ([] : List (List UInt8)) x97.open_).bind fun l123 =>
              (app l123 ([x83.S] : List (List UInt8))).bind fun l131 =>
              some l131).bind fun o116 =>
            some (.inl o116)
          else
            bif (x83.Op == 3) then
              bif ((x97.open_.length : Int) == 0) then
                some (.inr (l_46, i_45))
              else
                (idx x97.open_ (IntKind.wrap .i64 ((x97.open_.length : Int) - 1))).bind fun x178 =>
                (show Option Bool from
                  bif (x178 != x83.S) then
                    some (x178 != x83.S)
                  else
                    bif (x83.Op == 13) then
                      some (decide ((x97.open_.length : Int) > 0))
                    else
                      some false).bind fun o188 =>
                bif o188 then
                  some (.inr (l_46, i_45))
                else
                  bif (x83.Op == 3) then
                    (slc x97.open_ 0 (IntKind.wrap .i64 ((x97.open_.length : Int) - 1))).bind fun l195 =>
                    some (.inl l195)
                  else
                    some (.inl x97.open_)
            else
              bif (x83.Op == 13) then
                bif (decide ((x97.open_.length : Int) > 0)) then
                  some (.inr (l_46, i_45))
                else
                  bif (x83.Op == 3) then
                    (slc x97.open_ 0 (IntKind.wrap .i64 ((x97.open_.length : Int) - 1))).bind fun l205 =>
                    some (.inl l205)
                  else
                    some (.inl x97.open_)
              else
                bif (x83.Op == 3) then
                  (slc x97.open_ 0 (IntKind.wrap .i64 ((x97.open_.length : Int) - 1))).bind fun l211 =>
                  some (.inl l211)
                else
                  some (.inl x97.open_)).bind fun o109 =>
        Sum.elim (fun o109 =>
          (calqueref34_Next N c_0 i_45).bind fun r219 =>
          (iter (fun s => calqueref34_ways_b2 N o109 r219 s.1 s.2.1 s.2.2) N (0, l_46, differs_47)).bind fun o232 =>
          some (.inl ((i_45 + 1), o232.1, o232.2)))
        (fun o109 =>
          some (.inr (.inr o109))) o109
  else
    some (.inr (.inl l_46))
def calqueref34_ways (N : Nat) (c_0 : Code) : Option ((List (Way)) × Int) :=
  (mk (c_0.Ins.length : Int) ((Way.mk false ([])) : Way)).bind fun l6 =>
  (mk (c_0.Ins.length : Int) (false : Bool)).bind fun l11 =>
  (idx l6 0).bind fun x16 =>
  (setI l6 0 (Way.mk true x16.open_)).bind fun l24 =>
  (iter (fun s => calqueref34_ways_b1 N c_0 s.1 s.2.1 s.2.2) N (0, l24, l11)).bind fun o36 =>
  Sum.elim (fun o36 =>
    some (o36, (-1)))
  (fun o36 =>
    some o36) o36

def calqueref34_Check_b1 (N : Nat) (c_0 : Code) (i_13 : Int) : Option (Int ⊕ ((Unit ⊕ (Int × Int)))) :=
  bif (decide (i_13 < (c_0.Ins.length : Int))) then
    (calqueref34_Proper N c_0 i_13).bind fun r16 =>
    bif (!r16) then
      some (.inr (.inr (i_13, 4)))
    else
      some (.inl (i_13 + 1))
  else
    some (.inr (.inl ()))
def calqueref34_Check (N : Nat) (c_0 : Code) : Option (Int × Int) :=
  (calqueref34_Named N c_0.Names).bind fun r6 =>
  bif (!r6) then
    some (0, 1)
  else
    bif (decide ((c_0.Ins.length : Int) > 10000)) then
      some (0, 6)
    else
      (iter (fun s => calqueref34_Check_b1 N c_0 s) N 0).bind fun o11 =>
      Sum.elim (fun _o11 =>
        bif ((c_0.Ins.length : Int) == 0) then
          some ((c_0.Ins.length : Int), 4)
        else
          (idx c_0.Ins (IntKind.wrap .i64 ((c_0.Ins.length : Int) - 1))).bind fun x20 =>
          bif (x20.Op != 13) then
            some ((c_0.Ins.length : Int), 4)
          else
            (calqueref34_ways N c_0).bind fun r34 =>
            bif (decide (r34.2 ≥ 0)) then
              some (r34.2, 7)
            else
              some (0, 0))
      (fun o11 =>
        some o11) o11

def verify_Reached (N : Nat) (c_0 : Code) : Option ((List (Bool)) × Int) :=
  (verify_follow N c_0).bind fun r6 =>
  bif (r6.2.2 != 0) then
    some ([], r6.2.2)
  else
    (r6.1).bind fun y14 =>
    some (y14.reached, 0)

def calqueref34_Reached_b1 (_N : Nat) (r11 : (List (Way)) × Int) (out_29 : List (Bool)) (i_30 : Int) : Option (((List (Bool)) × Int) ⊕ (((List (Bool))))) :=
  bif (decide (i_30 < (r11.1.length : Int))) then
    (idx r11.1 i_30).bind fun x36 =>
    (app out_29 ([x36.reached] : List (Bool))).bind fun l50 =>
    some (.inl (l50, (i_30 + 1)))
  else
    some (.inr out_29)
def calqueref34_Reached (N : Nat) (c_0 : Code) : Option ((List (Bool)) × Int) :=
  (calqueref34_Check N c_0).bind fun r6 =>
  bif (r6.2 != 0) then
    some ([], r6.2)
  else
    (calqueref34_ways N c_0).bind fun r11 =>
    (iter (fun s => calqueref34_Reached_b1 N r11 s.1 s.2) N ([], 0)).bind fun o24 =>
    some (o24, 0)

def calquelaw34_VerifyCheck_b1 (_N : Nat) (r38 : (List (Bool)) × Int) (r44 : (List (Bool)) × Int) (i_57 : Int) : Option (Int ⊕ ((Unit ⊕ Bool))) :=
  bif (decide (i_57 < (r38.1.length : Int))) then
    (idx r38.1 i_57).bind fun x60 =>
    (idx r44.1 i_57).bind fun x69 =>
    bif (x60 != x69) then
      some (.inr (.inr false))
    else
      some (.inl (i_57 + 1))
  else
    some (.inr (.inl ()))
def calquelaw34_VerifyCheck (N : Nat) (c_0 : Code) : Option Bool :=
  (calquelaw34_awake N ).bind fun r6 =>
  bif (!r6) then
    some false
  else
    (calqueref33_Few N c_0).bind fun r9 =>
    bif (!r9) then
      some true
    else
      (calquelaw33_Own N c_0).bind fun r12 =>
      (verify_Check N r12).bind fun r21 =>
      (calqueref34_Check N c_0).bind fun r25 =>
      (calquelaw33_Own N c_0).bind fun r29 =>
      (verify_Reached N r29).bind fun r38 =>
      (calqueref34_Reached N c_0).bind fun r44 =>
      bif (r21.1 != r25.1) then
        some false
      else
        bif (r21.2 != r25.2) then
          some false
        else
          bif (r38.2 != r44.2) then
            some false
          else
            bif ((r38.1.length : Int) != (r44.1.length : Int)) then
              some false
            else
              (iter (fun s => calquelaw34_VerifyCheck_b1 N r38 r44 s) N 0).bind fun o55 =>
              Sum.elim (fun _o55 =>
                some true)
              (fun o55 =>
                some o55) o55

end Go.Proofs.YtmghnmfefpeelaaDoor
