/- Texts of this proof, put together by pack.py: what its declarations name. -/
import Derived.Test.YtmghnmfefpeelaaGreatDoorPkVc1
import Derived.Test.YtmghnmfefpeelaaGreatDoorCards
import Derived.Test.YtmghnmfefpeelaaGreatDoorChecked
import Derived.Test.YtmghnmfefpeelaaGreatDoorProg
import Derived.Test.YtmghnmfefpeelaaGreatDoorRows
import Derived.Test.YtmghnmfefpeelaaGreatDoorTie
set_option linter.unusedVariables false
set_option linter.unusedSimpArgs false
namespace Go.Proofs.YtmghnmfefpeelaaGreatDoor
open Go.X
structure Number2 where
 Neg:Bool
 Whole:List UInt8
 Frac:List UInt8
def qcH (r_calqueref26_Depth:List (Part) → Option Int) (N:Nat) (parts_0:List (Part)) (i_7:Int) (n_36:Int) (k_37:Int):Option ((Int × Int) ⊕ Int) :=
 (idx parts_0 i_7).bind fun x40 =>
 bif (decide (k_37 < (x40.Cases.length:Int))) then
  (idx parts_0 i_7).bind fun x58 =>
  (idx x58.Cases k_37).bind fun x75 =>
  (r_calqueref26_Depth x75.Parts).bind fun r87 =>
  some (.inl ((max n_36 (IntKind.wrap .i64 ((1:Int) + r87))),(k_37 + 1)))
 else
  some (.inr n_36)
def qcI (r_calqueref26_Depth:List (Part) → Option Int) (N:Nat) (parts_0:List (Part)) (n_6:Int) (i_7:Int):Option ((Int × Int) ⊕ Int) :=
 bif (decide (i_7 < (parts_0.length:Int))) then
  (idx parts_0 i_7).bind fun x11 =>
  (r_calqueref26_Depth x11.Parts).bind fun r28 =>
  (iter (fun s=>qcH r_calqueref26_Depth N parts_0 i_7 s.1 s.2) N ((max (max n_6 1) (IntKind.wrap .i64 ((1:Int) + r28))),0)).bind fun o33 =>
  some (.inl (o33,(i_7 + 1)))
 else
  some (.inr n_6)
def qcY (r_calqueref26_Depth:List (Part) → Option Int) (N:Nat) (parts_0:List (Part)):Option Int :=
 (iter (fun s=>qcI r_calqueref26_Depth N parts_0 s.1 s.2) N (0,0)).bind fun o3 =>
 some o3
def qfy:Nat → (List (Part) → Option Int)
 | 0=>(fun _=>none)
 | N + 1=>(qcY (qfy N) N)
def qbH (N:Nat):List (Part) → Option Int:=(qfy N)
def qcT (r_calqueref26_Size:List (Part) → Option Int) (N:Nat) (parts_0:List (Part)) (i_7:Int) (n_53:Int) (k_54:Int):Option ((Int × Int) ⊕ Int) :=
 (idx parts_0 i_7).bind fun x57 =>
 bif (decide (k_54 < (x57.Cases.length:Int))) then
  (idx parts_0 i_7).bind fun x75 =>
  (idx x75.Cases k_54).bind fun x92 =>
  (r_calqueref26_Size x92.Parts).bind fun r104 =>
  some (.inl ((IntKind.wrap .i64 (n_53 + (IntKind.wrap .i64 ((1:Int) + r104)))),(k_54 + 1)))
 else
  some (.inr n_53)
def qcR (r_calqueref26_Size:List (Part) → Option Int) (N:Nat) (parts_0:List (Part)) (n_6:Int) (i_7:Int):Option ((Int × Int) ⊕ Int) :=
 bif (decide (i_7 < (parts_0.length:Int))) then
  (idx parts_0 i_7).bind fun x11 =>
  (r_calqueref26_Size x11.Parts).bind fun r28 =>
  (idx parts_0 i_7).bind fun x31 =>
  (iter (fun s=>qcT r_calqueref26_Size N parts_0 i_7 s.1 s.2) N ((IntKind.wrap .i64 (n_6 + (IntKind.wrap .i64 ((IntKind.wrap .i64 ((1:Int) + r28)) + (IntKind.wrap .i64 ((x31.Text.length:Int).tdiv 20)))))),0)).bind fun o50 =>
  some (.inl (o50,(i_7 + 1)))
 else
  some (.inr n_6)
def qc5 (r_calqueref26_Size:List (Part) → Option Int) (N:Nat) (parts_0:List (Part)):Option Int :=
 (iter (fun s=>qcR r_calqueref26_Size N parts_0 s.1 s.2) N (0,0)).bind fun o3 =>
 some o3
def qfP:Nat → (List (Part) → Option Int)
 | 0=>(fun _=>none)
 | N + 1=>(qc5 (qfP N) N)
def qbP (N:Nat):List (Part) → Option Int:=(qfP N)
def qcG (r_calqueref26_short:List (Part) → Option Bool) (N:Nat) (parts_0:List (Part)) (i_4:Int) (k_66:Int):Option (Int ⊕ ((Unit ⊕ Bool))) :=
 (idx parts_0 i_4).bind fun x68 =>
 bif (decide (k_66 < (x68.Cases.length:Int))) then
  (idx parts_0 i_4).bind fun x86 =>
  (idx x86.Cases k_66).bind fun x103 =>
  bif (decide ((x103.Key.length:Int) > 60)) then
   some (.inr (.inr false))
  else
   (idx parts_0 i_4).bind fun x116 =>
   (idx x116.Cases k_66).bind fun x133 =>
   (r_calqueref26_short x133.Parts).bind fun r145 =>
   bif (!r145) then
    some (.inr (.inr false))
   else
    some (.inl (k_66 + 1))
 else
  some (.inr (.inl ()))
def qcC (r_calqueref26_short:List (Part) → Option Bool) (N:Nat) (parts_0:List (Part)) (i_4:Int):Option (Int ⊕ ((Unit ⊕ Bool))) :=
 bif (decide (i_4 < (parts_0.length:Int))) then
  (idx parts_0 i_4).bind fun x7 =>
  bif (decide ((x7.Name.length:Int) > 60)) then
   some (.inr (.inr false))
  else
   (idx parts_0 i_4).bind fun x25 =>
   bif (decide ((x25.Style.length:Int) > 60)) then
    some (.inr (.inr false))
   else
    (idx parts_0 i_4).bind fun x43 =>
    (r_calqueref26_short x43.Parts).bind fun r60 =>
    bif (!r60) then
     some (.inr (.inr false))
    else
     (iter (fun s=>qcG r_calqueref26_short N parts_0 i_4 s) N 0).bind fun o64 =>
     Sum.elim (fun _o64 =>
      some (.inl (i_4 + 1)))
     (fun o64 =>
      some (.inr (.inr o64))) o64
 else
  some (.inr (.inl ()))
def qcV (r_calqueref26_short:List (Part) → Option Bool) (N:Nat) (parts_0:List (Part)):Option Bool :=
 (iter (fun s=>qcC r_calqueref26_short N parts_0 s) N 0).bind fun o2 =>
 Sum.elim (fun _o2 =>
  some true)
 (fun o2 =>
  some o2) o2
def qfC:Nat → (List (Part) → Option Bool)
 | 0=>(fun _=>none)
 | N + 1=>(qcV (qfC N) N)
def qbI (N:Nat):List (Part) → Option Bool:=(qfC N)
def qer (N:Nat) (parts_0:List (Part)):Option Bool :=
 (qbH N parts_0).bind fun r1 =>
 bif (decide (r1 ≤ 12)) then
  (qbP N parts_0).bind fun r5 =>
  bif (decide (r5 ≤ 300)) then
   (qbI N parts_0).bind fun r9 =>
   some r9
  else
   some false
 else
  some false
def qdg (_N:Nat) (c_0:Int):Option Bool :=
 bif (decide (c_0 ≥ 97)) then
  some (decide (c_0 ≤ 122))
 else
  some false
def qe2 (N:Nat) (c_0:Int):Option Bool :=
 (qdg N c_0).bind fun r1 =>
 bif r1 then
  some true
 else
  bif (decide (c_0 ≥ 65)) then
   some (decide (c_0 ≤ 90))
  else
   some false
def qdR (N:Nat) (c_0:Int):Option Bool :=
 (qe2 N c_0).bind fun r1 =>
 bif r1 then
  some true
 else
  bif (decide (c_0 ≥ 48)) then
   bif (decide (c_0 ≤ 57)) then
    some true
   else
    bif (c_0 == 95) then
     some true
    else
     some (c_0 == 45)
  else
   bif (c_0 == 95) then
    some true
   else
    some (c_0 == 45)
def qdp (N:Nat) (s_0:List UInt8) (i_4:Int):Option (Int ⊕ ((Unit ⊕ Bool))) :=
 bif (decide (i_4 < (s_0.length:Int))) then
  (idx s_0 i_4).bind fun c7 =>
  (qdR N (c7.toNat:Int)).bind fun r9 =>
  bif (!r9) then
   some (.inr (.inr false))
  else
   some (.inl (i_4 + 1))
 else
  some (.inr (.inl ()))
def qaY (N:Nat) (s_0:List UInt8):Option Bool :=
 (iter (fun s=>qdp N s_0 s) N 0).bind fun o2 =>
 Sum.elim (fun _o2 =>
  bif (decide ((s_0.length:Int) ≥ 1)) then
   bif (decide ((s_0.length:Int) ≤ 40)) then
    (idx s_0 0).bind fun c14 =>
    (qdg N (c14.toNat:Int)).bind fun r16 =>
    some r16
   else
    some false
  else
   some false)
 (fun o2 =>
  some o2) o2
def qa8 (_N:Nat) (kind_0:Int):Option Bool :=
 bif (kind_0 == 7) then
  some true
 else
  bif (kind_0 == 8) then
   some true
  else
   some (kind_0 == 9)
def qdU (_N:Nat) (s_0:List UInt8):Option Bool :=
 bif (s_0 == ([122,101,114,111])) then
  some true
 else
  bif (s_0 == ([111,110,101])) then
   some true
  else
   bif (s_0 == ([116,119,111])) then
    some true
   else
    bif (s_0 == ([102,101,119])) then
     some true
    else
     bif (s_0 == ([109,97,110,121])) then
      some true
     else
      some (s_0 == ([111,116,104,101,114]))
def qc4 (_N:Nat) (s_0:List UInt8) (i_4:Int):Option (Int ⊕ ((Unit ⊕ Bool))) :=
 bif (decide (i_4 < (s_0.length:Int))) then
  (idx s_0 i_4).bind fun c7 =>
  bif (decide ((c7.toNat:Int) < 48)) then
   some (.inr (.inr false))
  else
   (idx s_0 i_4).bind fun c10 =>
   bif (decide ((c10.toNat:Int) > 57)) then
    some (.inr (.inr false))
   else
    some (.inl (i_4 + 1))
 else
  some (.inr (.inl ()))
def qc2 (N:Nat) (s_0:List UInt8):Option Bool :=
 (iter (fun s=>qc4 N s_0 s) N 0).bind fun o2 =>
 Sum.elim (fun _o2 =>
  some true)
 (fun o2 =>
  some o2) o2
def qds (_N:Nat) (s_0:List UInt8) (i_4:Int):Option (Int ⊕ ((Unit ⊕ Bool))) :=
 bif (decide (i_4 < (s_0.length:Int))) then
  (idx s_0 i_4).bind fun c7 =>
  bif ((c7.toNat:Int) != 48) then
   some (.inr (.inr false))
  else
   some (.inl (i_4 + 1))
 else
  some (.inr (.inl ()))
def qcx (N:Nat) (s_0:List UInt8):Option Bool :=
 (iter (fun s=>qds N s_0 s) N 0).bind fun o2 =>
 Sum.elim (fun _o2 =>
  some true)
 (fun o2 =>
  some o2) o2
end Go.Proofs.YtmghnmfefpeelaaGreatDoor
namespace Go.Proofs.YtmghnmfefpeelaaGreatDoor
open Go.X
def qdY (_N:Nat) (o6:((List UInt8) × Number2)) (k_26:Int):Option (Int ⊕ Int) :=
 bif (decide (k_26 < (o6.1.length:Int))) then
  (idx o6.1 k_26).bind fun c29 =>
  bif ((c29.toNat:Int) != 46) then
   some (.inl (k_26 + 1))
  else
   some (.inr k_26)
 else
  some (.inr k_26)
def qeN (_N:Nat) (s_0:List UInt8) (k_75:Int):Option (Int ⊕ Int) :=
 bif (decide (k_75 < (s_0.length:Int))) then
  (idx s_0 k_75).bind fun c78 =>
  bif ((c78.toNat:Int) != 46) then
   some (.inl (k_75 + 1))
  else
   some (.inr k_75)
 else
  some (.inr k_75)
def qdi (N:Nat) (s_0:List UInt8):Option (Number2 × Bool) :=
 bif (decide ((s_0.length:Int) > 0)) then
  (idx s_0 0).bind fun c4 =>
  (show Option ((List UInt8) × Number2) from
   bif ((c4.toNat:Int) == 45) then
    (show Option ((List UInt8) × Number2) from
     (slc s_0 1 (s_0.length:Int)).bind fun s15 =>
     some (s15,(Number2.mk true ([]) ([])))).bind fun o11 =>
    some (o11.1,o11.2)
   else
    some (s_0,(Number2.mk false ([]) ([])))).bind fun o6 =>
  (iter (fun s=>qdY N o6 s) N 0).bind fun o24 =>
  (slc o6.1 0 o24).bind fun s33 =>
  (show Option (Number2 ⊕ (Number2 × Bool)) from
   bif (decide (o24 < (o6.1.length:Int))) then
    (slc o6.1 (o24 + 1) (o6.1.length:Int)).bind fun s41 =>
    bif ((s41.length:Int) == 0) then
     some (.inr ((Number2.mk false ([]) ([])),false))
    else
     some (.inl (Number2.mk o6.2.Neg s33 s41))
   else
    some (.inl (Number2.mk o6.2.Neg s33 o6.2.Frac))).bind fun o35 =>
  Sum.elim (fun o35 =>
   (cat o35.Whole o35.Frac).bind fun s46 =>
   (qc2 N s46).bind fun r48 =>
   bif (!r48) then
    some ((Number2.mk false ([]) ([])),false)
   else
    bif (decide ((o35.Whole.length:Int) < 1)) then
     some ((Number2.mk false ([]) ([])),false)
    else
     bif (decide ((o35.Whole.length:Int) > 15)) then
      some ((Number2.mk false ([]) ([])),false)
     else
      bif (decide ((o35.Whole.length:Int) > 1)) then
       (idx o35.Whole 0).bind fun c54 =>
       bif ((c54.toNat:Int) == 48) then
        some ((Number2.mk false ([]) ([])),false)
       else
        bif (decide ((o35.Frac.length:Int) > 6)) then
         some ((Number2.mk false ([]) ([])),false)
        else
         bif o35.Neg then
          (cat o35.Whole o35.Frac).bind fun s59 =>
          (qcx N s59).bind fun r61 =>
          bif r61 then
           some ((Number2.mk false ([]) ([])),false)
          else
           some (o35,true)
         else
          some (o35,true)
      else
       bif (decide ((o35.Frac.length:Int) > 6)) then
        some ((Number2.mk false ([]) ([])),false)
       else
        bif o35.Neg then
         (cat o35.Whole o35.Frac).bind fun s66 =>
         (qcx N s66).bind fun r68 =>
         bif r68 then
          some ((Number2.mk false ([]) ([])),false)
         else
          some (o35,true)
        else
         some (o35,true))
  (fun o35 =>
   some o35) o35
 else
  (iter (fun s=>qeN N s_0 s) N 0).bind fun o73 =>
  (slc s_0 0 o73).bind fun s82 =>
  (show Option (Number2 ⊕ (Number2 × Bool)) from
   bif (decide (o73 < (s_0.length:Int))) then
    (slc s_0 (o73 + 1) (s_0.length:Int)).bind fun s90 =>
    bif ((s90.length:Int) == 0) then
     some (.inr ((Number2.mk false ([]) ([])),false))
    else
     some (.inl (Number2.mk false s82 s90))
   else
    some (.inl (Number2.mk false s82 ([])))).bind fun o84 =>
  Sum.elim (fun o84 =>
   (cat o84.Whole o84.Frac).bind fun s95 =>
   (qc2 N s95).bind fun r97 =>
   bif (!r97) then
    some ((Number2.mk false ([]) ([])),false)
   else
    bif (decide ((o84.Whole.length:Int) < 1)) then
     some ((Number2.mk false ([]) ([])),false)
    else
     bif (decide ((o84.Whole.length:Int) > 15)) then
      some ((Number2.mk false ([]) ([])),false)
     else
      bif (decide ((o84.Whole.length:Int) > 1)) then
       (idx o84.Whole 0).bind fun c103 =>
       bif ((c103.toNat:Int) == 48) then
        some ((Number2.mk false ([]) ([])),false)
       else
        bif (decide ((o84.Frac.length:Int) > 6)) then
         some ((Number2.mk false ([]) ([])),false)
        else
         bif o84.Neg then
          (cat o84.Whole o84.Frac).bind fun s108 =>
          (qcx N s108).bind fun r110 =>
          bif r110 then
           some ((Number2.mk false ([]) ([])),false)
          else
           some (o84,true)
         else
          some (o84,true)
      else
       bif (decide ((o84.Frac.length:Int) > 6)) then
        some ((Number2.mk false ([]) ([])),false)
       else
        bif o84.Neg then
         (cat o84.Whole o84.Frac).bind fun s115 =>
         (qcx N s115).bind fun r117 =>
         bif r117 then
          some ((Number2.mk false ([]) ([])),false)
         else
          some (o84,true)
        else
         some (o84,true))
  (fun o84 =>
   some o84) o84
def qdQ (N:Nat) (s_0:List UInt8):Option Bool :=
 (qdi N s_0).bind fun r1 =>
 some r1.2
def qdb (N:Nat) (kind_0:Int) (s_1:List UInt8):Option Bool :=
 bif (kind_0 == 9) then
  (qaY N s_1).bind fun r2 =>
  some r2
 else
  (qdU N s_1).bind fun r4 =>
  bif r4 then
   some true
  else
   bif (decide ((s_1.length:Int) > 1)) then
    (idx s_1 0).bind fun c8 =>
    bif ((c8.toNat:Int) == 61) then
     (slc s_1 1 (s_1.length:Int)).bind fun s11 =>
     (qdQ N s11).bind fun r13 =>
     some r13
    else
     some false
   else
    some false
def qdS (_N:Nat) (l_0:List (List UInt8)) (s_1:List UInt8) (i_4:Int):Option (Int ⊕ ((Unit ⊕ Bool))) :=
 bif (decide (i_4 < (l_0.length:Int))) then
  (idx l_0 i_4).bind fun x7 =>
  bif (x7 == s_1) then
   some (.inr (.inr true))
  else
   some (.inl (i_4 + 1))
 else
  some (.inr (.inl ()))
def qbK (N:Nat) (l_0:List (List UInt8)) (s_1:List UInt8):Option Bool :=
 (iter (fun s=>qdS N l_0 s_1 s) N 0).bind fun o2 =>
 Sum.elim (fun _o2 =>
  some false)
 (fun o2 =>
  some o2) o2
def qbU (_N:Nat) (kind_0:Int):Option Bool :=
 bif (kind_0 == 7) then
  some true
 else
  some (kind_0 == 8)
def qcL (_N:Nat) (s_0:List UInt8) (i_4:Int):Option (Int ⊕ ((Unit ⊕ Bool))) :=
 bif (decide (i_4 < (s_0.length:Int))) then
  (idx s_0 i_4).bind fun c7 =>
  (show Option Bool from
   bif (decide ((c7.toNat:Int) ≥ 97)) then
    bif (decide ((c7.toNat:Int) ≤ 122)) then
     some (!true)
    else
     bif (decide ((c7.toNat:Int) ≥ 65)) then
      some (!(decide ((c7.toNat:Int) ≤ 90)))
     else
      some (!false)
   else
    bif (decide ((c7.toNat:Int) ≥ 65)) then
     some (!(decide ((c7.toNat:Int) ≤ 90)))
    else
     some (!false)).bind fun o9 =>
  bif o9 then
   some (.inr (.inr false))
  else
   some (.inl (i_4 + 1))
 else
  some (.inr (.inl ()))
def qdc (N:Nat) (s_0:List UInt8):Option Bool :=
 (iter (fun s=>qcL N s_0 s) N 0).bind fun o2 =>
 Sum.elim (fun _o2 =>
  bif (decide ((s_0.length:Int) ≥ 1)) then
   some (decide ((s_0.length:Int) ≤ 40))
  else
   some false)
 (fun o2 =>
  some o2) o2
def qcg (N:Nat) (x_0:Part) (counted_1:Bool):Option Bool :=
 (show Option (Bool × Part) from
  bif (x_0.Kind == 1) then
   some ((x_0.Text != ([])),(Part.mk x_0.Kind x_0.Text ([]) ([]) ([]) ([])))
  else
   bif (x_0.Kind == 10) then
    some (counted_1,(Part.mk x_0.Kind ([]) ([]) ([]) ([]) ([])))
   else
    bif (x_0.Kind == 2) then
     (qaY N x_0.Name).bind fun r19 =>
     some (r19,(Part.mk x_0.Kind ([]) x_0.Name ([]) ([]) ([])))
    else
     (show Option Bool from
      bif (x_0.Kind == 3) then
       some (x_0.Kind == 3)
      else
       bif (x_0.Kind == 4) then
        some (x_0.Kind == 4)
       else
        bif (x_0.Kind == 5) then
         some (x_0.Kind == 5)
        else
         some (x_0.Kind == 6)).bind fun o21 =>
     bif o21 then
      (show Option Part from
       some (Part.mk x_0.Kind ([]) x_0.Name x_0.Style ([]) ([]))).bind fun o26 =>
      (qaY N x_0.Name).bind fun r35 =>
      bif (x_0.Kind == 3) then
       bif r35 then
        bif (x_0.Style == ([])) then
         some (true,(Part.mk o26.Kind o26.Text o26.Name o26.Style ([]) ([])))
        else
         bif (x_0.Style == ([105,110,116,101,103,101,114])) then
          some (true,(Part.mk o26.Kind o26.Text o26.Name o26.Style ([]) ([])))
         else
          some ((x_0.Style == ([112,101,114,99,101,110,116])),(Part.mk o26.Kind o26.Text o26.Name o26.Style ([]) ([])))
       else
        some (false,(Part.mk o26.Kind o26.Text o26.Name o26.Style ([]) ([])))
      else
       bif (x_0.Kind == 5) then
        bif r35 then
         (qdc N x_0.Style).bind fun r43 =>
         some (r43,(Part.mk o26.Kind o26.Text o26.Name o26.Style ([]) ([])))
        else
         some (false,(Part.mk o26.Kind o26.Text o26.Name o26.Style ([]) ([])))
       else
        bif r35 then
         (qaY N x_0.Style).bind fun r46 =>
         some (r46,(Part.mk o26.Kind o26.Text o26.Name o26.Style ([]) ([])))
        else
         some (false,(Part.mk o26.Kind o26.Text o26.Name o26.Style ([]) ([])))
     else
      some (false,(Part.mk x_0.Kind ([]) ([]) ([]) ([]) ([])))).bind fun o11 =>
 bif o11.1 then
  bif ((x_0.Cases.length:Int) == 0) then
   bif ((x_0.Parts.length:Int) == 0) then
    bif (x_0.Text == o11.2.Text) then
     bif (x_0.Name == o11.2.Name) then
      some (x_0.Style == o11.2.Style)
     else
      some false
    else
     some false
   else
    some false
  else
   some false
 else
  some false
end Go.Proofs.YtmghnmfefpeelaaGreatDoor
namespace Go.Proofs.YtmghnmfefpeelaaGreatDoor
open Go.X
def qbi (r_calqueref26_formed:List (Part) → Int → Bool → Option Bool) (N:Nat) (depth_1:Int) (counted_2:Bool) (x7:Part) (keys_82:List (List UInt8)) (k_83:Int):Option (((List (List UInt8)) × Int) ⊕ ((((List (List UInt8))) ⊕ Bool))) :=
 bif (decide (k_83 < (x7.Cases.length:Int))) then
  (idx x7.Cases k_83).bind fun x89 =>
  (qdb N x7.Kind x89.Key).bind fun r102 =>
  bif (!r102) then
   some (.inr (.inr false))
  else
   (qbK N keys_82 x89.Key).bind fun r110 =>
   bif r110 then
    some (.inr (.inr false))
   else
    bif counted_2 then
     (r_calqueref26_formed x89.Parts (IntKind.wrap .i64 (depth_1 + 1)) true).bind fun r114 =>
     bif (!r114) then
      some (.inr (.inr false))
     else
      (app keys_82 ([x89.Key]:List (List UInt8))).bind fun l120 =>
      some (.inl (l120,(k_83 + 1)))
    else
     (qbU N x7.Kind).bind fun r125 =>
     (r_calqueref26_formed x89.Parts (IntKind.wrap .i64 (depth_1 + 1)) r125).bind fun r127 =>
     bif (!r127) then
      some (.inr (.inr false))
     else
      (app keys_82 ([x89.Key]:List (List UInt8))).bind fun l133 =>
      some (.inl (l133,(k_83 + 1)))
 else
  some (.inr (.inl keys_82))
def qdJ (r_calqueref26_formed:List (Part) → Int → Bool → Option Bool) (N:Nat) (depth_1:Int) (counted_2:Bool) (x7:Part) (keys_194:List (List UInt8)) (k_195:Int):Option (((List (List UInt8)) × Int) ⊕ ((((List (List UInt8))) ⊕ Bool))) :=
 bif (decide (k_195 < (x7.Cases.length:Int))) then
  (idx x7.Cases k_195).bind fun x201 =>
  (qdb N x7.Kind x201.Key).bind fun r214 =>
  bif (!r214) then
   some (.inr (.inr false))
  else
   (qbK N keys_194 x201.Key).bind fun r222 =>
   bif r222 then
    some (.inr (.inr false))
   else
    bif counted_2 then
     (r_calqueref26_formed x201.Parts (IntKind.wrap .i64 (depth_1 + 1)) true).bind fun r226 =>
     bif (!r226) then
      some (.inr (.inr false))
     else
      (app keys_194 ([x201.Key]:List (List UInt8))).bind fun l232 =>
      some (.inl (l232,(k_195 + 1)))
    else
     (qbU N x7.Kind).bind fun r237 =>
     (r_calqueref26_formed x201.Parts (IntKind.wrap .i64 (depth_1 + 1)) r237).bind fun r239 =>
     bif (!r239) then
      some (.inr (.inr false))
     else
      (app keys_194 ([x201.Key]:List (List UInt8))).bind fun l245 =>
      some (.inl (l245,(k_195 + 1)))
 else
  some (.inr (.inl keys_194))
def qdM (r_calqueref26_formed:List (Part) → Int → Bool → Option Bool) (N:Nat) (depth_1:Int) (counted_2:Bool) (x7:Part) (keys_306:List (List UInt8)) (k_307:Int):Option (((List (List UInt8)) × Int) ⊕ ((((List (List UInt8))) ⊕ Bool))) :=
 bif (decide (k_307 < (x7.Cases.length:Int))) then
  (idx x7.Cases k_307).bind fun x313 =>
  (qdb N x7.Kind x313.Key).bind fun r326 =>
  bif (!r326) then
   some (.inr (.inr false))
  else
   (qbK N keys_306 x313.Key).bind fun r334 =>
   bif r334 then
    some (.inr (.inr false))
   else
    bif counted_2 then
     (r_calqueref26_formed x313.Parts (IntKind.wrap .i64 (depth_1 + 1)) true).bind fun r338 =>
     bif (!r338) then
      some (.inr (.inr false))
     else
      (app keys_306 ([x313.Key]:List (List UInt8))).bind fun l344 =>
      some (.inl (l344,(k_307 + 1)))
    else
     (qbU N x7.Kind).bind fun r349 =>
     (r_calqueref26_formed x313.Parts (IntKind.wrap .i64 (depth_1 + 1)) r349).bind fun r351 =>
     bif (!r351) then
      some (.inr (.inr false))
     else
      (app keys_306 ([x313.Key]:List (List UInt8))).bind fun l357 =>
      some (.inl (l357,(k_307 + 1)))
 else
  some (.inr (.inl keys_306))
def qb4 (r_calqueref26_formed:List (Part) → Int → Bool → Option Bool) (N:Nat) (parts_0:List (Part)) (depth_1:Int) (counted_2:Bool) (i_4:Int):Option (Int ⊕ ((Unit ⊕ Bool))) :=
 bif (decide (i_4 < (parts_0.length:Int))) then
  (idx parts_0 i_4).bind fun x7 =>
  bif (decide (i_4 > 0)) then
   bif (x7.Kind == 1) then
    (idx parts_0 (i_4 - 1)).bind fun x27 =>
    bif (x27.Kind == 1) then
     some (.inr (.inr false))
    else
     bif (x7.Kind == 11) then
      (show Option Bool from
       bif (decide (depth_1 > 8)) then
        some true
       else
        (qaY N x7.Name).bind fun r48 =>
        bif (!r48) then
         some true
        else
         bif (x7.Text != ([])) then
          some true
         else
          bif (x7.Style != ([])) then
           some true
          else
           bif (decide ((x7.Cases.length:Int) > 0)) then
            some true
           else
            (r_calqueref26_formed x7.Parts (IntKind.wrap .i64 (depth_1 + 1)) counted_2).bind fun r54 =>
            some (!r54)).bind fun o46 =>
      bif o46 then
       some (.inr (.inr false))
      else
       some (.inl (i_4 + 1))
     else
      (qa8 N x7.Kind).bind fun r57 =>
      bif r57 then
       (show Option Bool from
        bif (decide (depth_1 > 8)) then
         some true
        else
         (qaY N x7.Name).bind fun r62 =>
         bif (!r62) then
          some true
         else
          bif (x7.Text != ([])) then
           some true
          else
           bif (x7.Style != ([])) then
            some true
           else
            bif (decide ((x7.Parts.length:Int) > 0)) then
             some true
            else
             bif (decide ((x7.Cases.length:Int) < 1)) then
              some true
             else
              some (decide ((x7.Cases.length:Int) > 20))).bind fun o60 =>
       bif o60 then
        some (.inr (.inr false))
       else
        (iter (fun s=>qbi r_calqueref26_formed N depth_1 counted_2 x7 s.1 s.2) N ([],0)).bind fun o77 =>
        Sum.elim (fun o77 =>
         (qbK N o77 ([111,116,104,101,114])).bind fun r146 =>
         bif (!r146) then
          some (.inr (.inr false))
         else
          some (.inl (i_4 + 1)))
        (fun o77 =>
         some (.inr (.inr o77))) o77
      else
       (qcg N x7 counted_2).bind fun r154 =>
       bif (!r154) then
        some (.inr (.inr false))
       else
        some (.inl (i_4 + 1))
   else
    bif (x7.Kind == 11) then
     (show Option Bool from
      bif (decide (depth_1 > 8)) then
       some true
      else
       (qaY N x7.Name).bind fun r160 =>
       bif (!r160) then
        some true
       else
        bif (x7.Text != ([])) then
         some true
        else
         bif (x7.Style != ([])) then
          some true
         else
          bif (decide ((x7.Cases.length:Int) > 0)) then
           some true
          else
           (r_calqueref26_formed x7.Parts (IntKind.wrap .i64 (depth_1 + 1)) counted_2).bind fun r166 =>
           some (!r166)).bind fun o158 =>
     bif o158 then
      some (.inr (.inr false))
     else
      some (.inl (i_4 + 1))
    else
     (qa8 N x7.Kind).bind fun r169 =>
     bif r169 then
      (show Option Bool from
       bif (decide (depth_1 > 8)) then
        some true
       else
        (qaY N x7.Name).bind fun r174 =>
        bif (!r174) then
         some true
        else
         bif (x7.Text != ([])) then
          some true
         else
          bif (x7.Style != ([])) then
           some true
          else
           bif (decide ((x7.Parts.length:Int) > 0)) then
            some true
           else
            bif (decide ((x7.Cases.length:Int) < 1)) then
             some true
            else
             some (decide ((x7.Cases.length:Int) > 20))).bind fun o172 =>
      bif o172 then
       some (.inr (.inr false))
      else
       (iter (fun s=>qdJ r_calqueref26_formed N depth_1 counted_2 x7 s.1 s.2) N ([],0)).bind fun o189 =>
       Sum.elim (fun o189 =>
        (qbK N o189 ([111,116,104,101,114])).bind fun r258 =>
        bif (!r258) then
         some (.inr (.inr false))
        else
         some (.inl (i_4 + 1)))
       (fun o189 =>
        some (.inr (.inr o189))) o189
     else
      (qcg N x7 counted_2).bind fun r266 =>
      bif (!r266) then
       some (.inr (.inr false))
      else
       some (.inl (i_4 + 1))
  else
   bif (x7.Kind == 11) then
    (show Option Bool from
     bif (decide (depth_1 > 8)) then
      some true
     else
      (qaY N x7.Name).bind fun r272 =>
      bif (!r272) then
       some true
      else
       bif (x7.Text != ([])) then
        some true
       else
        bif (x7.Style != ([])) then
         some true
        else
         bif (decide ((x7.Cases.length:Int) > 0)) then
          some true
         else
          (r_calqueref26_formed x7.Parts (IntKind.wrap .i64 (depth_1 + 1)) counted_2).bind fun r278 =>
          some (!r278)).bind fun o270 =>
    bif o270 then
     some (.inr (.inr false))
    else
     some (.inl (i_4 + 1))
   else
    (qa8 N x7.Kind).bind fun r281 =>
    bif r281 then
     (show Option Bool from
      bif (decide (depth_1 > 8)) then
       some true
      else
       (qaY N x7.Name).bind fun r286 =>
       bif (!r286) then
        some true
       else
        bif (x7.Text != ([])) then
         some true
        else
         bif (x7.Style != ([])) then
          some true
         else
          bif (decide ((x7.Parts.length:Int) > 0)) then
           some true
          else
           bif (decide ((x7.Cases.length:Int) < 1)) then
            some true
           else
            some (decide ((x7.Cases.length:Int) > 20))).bind fun o284 =>
     bif o284 then
      some (.inr (.inr false))
     else
      (iter (fun s=>qdM r_calqueref26_formed N depth_1 counted_2 x7 s.1 s.2) N ([],0)).bind fun o301 =>
      Sum.elim (fun o301 =>
       (qbK N o301 ([111,116,104,101,114])).bind fun r370 =>
       bif (!r370) then
        some (.inr (.inr false))
       else
        some (.inl (i_4 + 1)))
      (fun o301 =>
       some (.inr (.inr o301))) o301
    else
     (qcg N x7 counted_2).bind fun r378 =>
     bif (!r378) then
      some (.inr (.inr false))
     else
      some (.inl (i_4 + 1))
 else
  some (.inr (.inl ()))
def qcK (r_calqueref26_formed:List (Part) → Int → Bool → Option Bool) (N:Nat) (parts_0:List (Part)) (depth_1:Int) (counted_2:Bool):Option Bool :=
 (iter (fun s=>qb4 r_calqueref26_formed N parts_0 depth_1 counted_2 s) N 0).bind fun o2 =>
 Sum.elim (fun _o2 =>
  some true)
 (fun o2 =>
  some o2) o2
def qfp:Nat → (List (Part) → Int → Bool → Option Bool)
 | 0=>(fun _ _ _=>none)
 | N + 1=>(qcK (qfp N) N)
def qa7 (N:Nat):List (Part) → Int → Bool → Option Bool:=(qfp N)
end Go.Proofs.YtmghnmfefpeelaaGreatDoor
namespace Go.Proofs.YtmghnmfefpeelaaGreatDoor
open Go.X
def qbw (r_calqueref26_Names:List (Part) → List (List UInt8) → Option (List (List UInt8))) (N:Nat) (x16:Part) (names_117:List (List UInt8)) (k_118:Int):Option (((List (List UInt8)) × Int) ⊕ (((List (List UInt8))))) :=
 bif (decide (k_118 < (x16.Cases.length:Int))) then
  (idx x16.Cases k_118).bind fun x124 =>
  (r_calqueref26_Names x124.Parts names_117).bind fun r136 =>
  some (.inl (r136,(k_118 + 1)))
 else
  some (.inr names_117)
def qdV (r_calqueref26_Names:List (Part) → List (List UInt8) → Option (List (List UInt8))) (N:Nat) (x16:Part) (names_160:List (List UInt8)) (k_161:Int):Option (((List (List UInt8)) × Int) ⊕ (((List (List UInt8))))) :=
 bif (decide (k_161 < (x16.Cases.length:Int))) then
  (idx x16.Cases k_161).bind fun x167 =>
  (r_calqueref26_Names x167.Parts names_160).bind fun r179 =>
  some (.inl (r179,(k_161 + 1)))
 else
  some (.inr names_160)
def qdW (r_calqueref26_Names:List (Part) → List (List UInt8) → Option (List (List UInt8))) (N:Nat) (x16:Part) (names_203:List (List UInt8)) (k_204:Int):Option (((List (List UInt8)) × Int) ⊕ (((List (List UInt8))))) :=
 bif (decide (k_204 < (x16.Cases.length:Int))) then
  (idx x16.Cases k_204).bind fun x210 =>
  (r_calqueref26_Names x210.Parts names_203).bind fun r222 =>
  some (.inl (r222,(k_204 + 1)))
 else
  some (.inr names_203)
def qcD (r_calqueref26_Names:List (Part) → List (List UInt8) → Option (List (List UInt8))) (N:Nat) (parts_0:List (Part)) (names_9:List (List UInt8)) (i_10:Int):Option (((List (List UInt8)) × Int) ⊕ (((List (List UInt8))))) :=
 bif (decide (i_10 < (parts_0.length:Int))) then
  (idx parts_0 i_10).bind fun x16 =>
  bif (decide (x16.Kind ≥ 2)) then
   bif (decide (x16.Kind ≤ 9)) then
    (qbK N names_9 x16.Name).bind fun r36 =>
    (show Option ((List (List UInt8))) from
     bif (!r36) then
      (show Option ((List (List UInt8))) from
       (app ([]:List (List UInt8)) names_9).bind fun l50 =>
       (app l50 ([x16.Name]:List (List UInt8))).bind fun l58 =>
       some l58).bind fun o43 =>
      some o43
     else
      some names_9).bind fun o38 =>
    (r_calqueref26_Names x16.Parts o38).bind fun r104 =>
    (iter (fun s=>qbw r_calqueref26_Names N x16 s.1 s.2) N (r104,0)).bind fun o112 =>
    some (.inl (o112,(i_10 + 1)))
   else
    (r_calqueref26_Names x16.Parts names_9).bind fun r147 =>
    (iter (fun s=>qdV r_calqueref26_Names N x16 s.1 s.2) N (r147,0)).bind fun o155 =>
    some (.inl (o155,(i_10 + 1)))
  else
   (r_calqueref26_Names x16.Parts names_9).bind fun r190 =>
   (iter (fun s=>qdW r_calqueref26_Names N x16 s.1 s.2) N (r190,0)).bind fun o198 =>
   some (.inl (o198,(i_10 + 1)))
 else
  some (.inr names_9)
def qcU (r_calqueref26_Names:List (Part) → List (List UInt8) → Option (List (List UInt8))) (N:Nat) (parts_0:List (Part)) (names_1:List (List UInt8)):Option (List (List UInt8)) :=
 (iter (fun s=>qcD r_calqueref26_Names N parts_0 s.1 s.2) N (names_1,0)).bind fun o4 =>
 some o4
def qfB:Nat → (List (Part) → List (List UInt8) → Option (List (List UInt8)))
 | 0=>(fun _ _=>none)
 | N + 1=>(qcU (qfB N) N)
def qa5 (N:Nat):List (Part) → List (List UInt8) → Option (List (List UInt8)):=(qfB N)
def qdr (_N:Nat) (c_0:Int):Option Bool :=
 bif (c_0 == 123) then
  some true
 else
  bif (c_0 == 125) then
   some true
  else
   bif (c_0 == 60) then
    some true
   else
    bif (c_0 == 62) then
     some true
    else
     bif (c_0 == 35) then
      some true
     else
      some (c_0 == 92)
def qcp (N:Nat) (s_0:List UInt8) (out_13:List (Int)) (i_14:Int):Option (((List (Int)) × Int) ⊕ (((List (Int))))) :=
 bif (decide (i_14 < (s_0.length:Int))) then
  (idx s_0 i_14).bind fun c20 =>
  (qdr N (c20.toNat:Int)).bind fun r22 =>
  (show Option ((List (Int))) from
   bif r22 then
    (app out_13 ([92]:List (Int))).bind fun l32 =>
    some l32
   else
    some out_13).bind fun o24 =>
  (idx s_0 i_14).bind fun c40 =>
  (app o24 ([(c40.toNat:Int)]:List (Int))).bind fun l45 =>
  some (.inl (l45,(i_14 + 1)))
 else
  some (.inr out_13)
def qc7 (N:Nat) (s_0:List UInt8):Option (List UInt8) :=
 (iter (fun s=>qcp N s_0 s.1 s.2) N ([],0)).bind fun o8 =>
 some (qcs o8)
def qbW (r_calqueref26_Text:List (Part) → List UInt8 → Option (List UInt8)) (N:Nat) (gap_1:List UInt8) (x14:Part) (s_120:List UInt8) (k_121:Int):Option (((List UInt8) × Int) ⊕ (((List UInt8)))) :=
 bif (decide (k_121 < (x14.Cases.length:Int))) then
  (idx x14.Cases k_121).bind fun x125 =>
  (cat gap_1 x125.Key).bind fun s137 =>
  (cat s137 gap_1).bind fun s139 =>
  (cat s139 ([123])).bind fun s141 =>
  (idx x14.Cases k_121).bind fun x143 =>
  (r_calqueref26_Text x143.Parts gap_1).bind fun r155 =>
  (cat s141 r155).bind fun s158 =>
  (cat s158 ([125])).bind fun s160 =>
  (cat s_120 s160).bind fun s162 =>
  some (.inl (s162,(k_121 + 1)))
 else
  some (.inr s_120)
def qeb (r_calqueref26_Text:List (Part) → List UInt8 → Option (List UInt8)) (N:Nat) (gap_1:List UInt8) (x14:Part) (s_239:List UInt8) (k_240:Int):Option (((List UInt8) × Int) ⊕ (((List UInt8)))) :=
 bif (decide (k_240 < (x14.Cases.length:Int))) then
  (idx x14.Cases k_240).bind fun x244 =>
  (cat gap_1 x244.Key).bind fun s256 =>
  (cat s256 gap_1).bind fun s258 =>
  (cat s258 ([123])).bind fun s260 =>
  (idx x14.Cases k_240).bind fun x262 =>
  (r_calqueref26_Text x262.Parts gap_1).bind fun r274 =>
  (cat s260 r274).bind fun s277 =>
  (cat s277 ([125])).bind fun s279 =>
  (cat s_239 s279).bind fun s281 =>
  some (.inl (s281,(k_240 + 1)))
 else
  some (.inr s_239)
def qci (r_calqueref26_Text:List (Part) → List UInt8 → Option (List UInt8)) (N:Nat) (parts_0:List (Part)) (gap_1:List UInt8) (s_9:List UInt8) (i_10:Int):Option (((List UInt8) × Int) ⊕ (((List UInt8)))) :=
 bif (decide (i_10 < (parts_0.length:Int))) then
  (idx parts_0 i_10).bind fun x14 =>
  bif (x14.Kind == 1) then
   (qc7 N x14.Text).bind fun r33 =>
   (cat s_9 r33).bind fun s36 =>
   some (.inl (s36,(i_10 + 1)))
  else
   bif (x14.Kind == 10) then
    (cat s_9 ([35])).bind fun s39 =>
    some (.inl (s39,(i_10 + 1)))
   else
    bif (x14.Kind == 11) then
     bif ((x14.Parts.length:Int) == 0) then
      (cat ([60]) x14.Name).bind fun s43 =>
      (cat s43 ([47,62])).bind fun s45 =>
      (cat s_9 s45).bind fun s47 =>
      some (.inl (s47,(i_10 + 1)))
     else
      bif (x14.Kind == 11) then
       (cat ([60]) x14.Name).bind fun s50 =>
       (cat s50 ([62])).bind fun s52 =>
       (r_calqueref26_Text x14.Parts gap_1).bind fun r54 =>
       (cat s52 r54).bind fun s57 =>
       (cat s57 ([60,47])).bind fun s59 =>
       (cat s59 x14.Name).bind fun s61 =>
       (cat s61 ([62])).bind fun s63 =>
       (cat s_9 s63).bind fun s65 =>
       some (.inl (s65,(i_10 + 1)))
      else
       bif (x14.Kind == 2) then
        (cat ([123]) x14.Name).bind fun s68 =>
        (cat s68 ([125])).bind fun s70 =>
        (cat s_9 s70).bind fun s72 =>
        some (.inl (s72,(i_10 + 1)))
       else
        bif (decide (x14.Kind ≥ 3)) then
         bif (decide (x14.Kind ≤ 9)) then
          (cat ([123]) x14.Name).bind fun s76 =>
          (cat s76 ([44])).bind fun s78 =>
          (cat s78 gap_1).bind fun s80 =>
          (idx ([[110,117,109,98,101,114],[117,110,105,116],[100,97,116,101],[108,105,115,116],[112,108,117,114,97,108],[111,114,100,105,110,97,108],[115,101,108,101,99,116]]:List (List UInt8)) (IntKind.wrap .i64 (x14.Kind - 3))).bind fun x82 =>
          (cat s80 x82).bind fun s93 =>
          (cat s_9 s93).bind fun s95 =>
          (show Option ((List UInt8)) from
           bif (x14.Style != ([])) then
            (cat ([44]) gap_1).bind fun s100 =>
            (cat s100 x14.Style).bind fun s102 =>
            (cat s95 s102).bind fun s104 =>
            some s104
           else
            some s95).bind fun o97 =>
          (qa8 N x14.Kind).bind fun r107 =>
          (show Option ((List UInt8)) from
           bif r107 then
            (cat o97 ([44])).bind fun s112 =>
            some s112
           else
            some o97).bind fun o109 =>
          (iter (fun s=>qbW r_calqueref26_Text N gap_1 x14 s.1 s.2) N (o109,0)).bind fun o117 =>
          (cat o117 ([125])).bind fun s165 =>
          some (.inl (s165,(i_10 + 1)))
         else
          some (.inl (s_9,(i_10 + 1)))
        else
         some (.inl (s_9,(i_10 + 1)))
    else
     bif (x14.Kind == 11) then
      (cat ([60]) x14.Name).bind fun s169 =>
      (cat s169 ([62])).bind fun s171 =>
      (r_calqueref26_Text x14.Parts gap_1).bind fun r173 =>
      (cat s171 r173).bind fun s176 =>
      (cat s176 ([60,47])).bind fun s178 =>
      (cat s178 x14.Name).bind fun s180 =>
      (cat s180 ([62])).bind fun s182 =>
      (cat s_9 s182).bind fun s184 =>
      some (.inl (s184,(i_10 + 1)))
     else
      bif (x14.Kind == 2) then
       (cat ([123]) x14.Name).bind fun s187 =>
       (cat s187 ([125])).bind fun s189 =>
       (cat s_9 s189).bind fun s191 =>
       some (.inl (s191,(i_10 + 1)))
      else
       bif (decide (x14.Kind ≥ 3)) then
        bif (decide (x14.Kind ≤ 9)) then
         (cat ([123]) x14.Name).bind fun s195 =>
         (cat s195 ([44])).bind fun s197 =>
         (cat s197 gap_1).bind fun s199 =>
         (idx ([[110,117,109,98,101,114],[117,110,105,116],[100,97,116,101],[108,105,115,116],[112,108,117,114,97,108],[111,114,100,105,110,97,108],[115,101,108,101,99,116]]:List (List UInt8)) (IntKind.wrap .i64 (x14.Kind - 3))).bind fun x201 =>
         (cat s199 x201).bind fun s212 =>
         (cat s_9 s212).bind fun s214 =>
         (show Option ((List UInt8)) from
          bif (x14.Style != ([])) then
           (cat ([44]) gap_1).bind fun s219 =>
           (cat s219 x14.Style).bind fun s221 =>
           (cat s214 s221).bind fun s223 =>
           some s223
          else
           some s214).bind fun o216 =>
         (qa8 N x14.Kind).bind fun r226 =>
         (show Option ((List UInt8)) from
          bif r226 then
           (cat o216 ([44])).bind fun s231 =>
           some s231
          else
           some o216).bind fun o228 =>
         (iter (fun s=>qeb r_calqueref26_Text N gap_1 x14 s.1 s.2) N (o228,0)).bind fun o236 =>
         (cat o236 ([125])).bind fun s284 =>
         some (.inl (s284,(i_10 + 1)))
        else
         some (.inl (s_9,(i_10 + 1)))
       else
        some (.inl (s_9,(i_10 + 1)))
 else
  some (.inr s_9)
def qc6 (r_calqueref26_Text:List (Part) → List UInt8 → Option (List UInt8)) (N:Nat) (parts_0:List (Part)) (gap_1:List UInt8):Option (List UInt8) :=
 (iter (fun s=>qci r_calqueref26_Text N parts_0 gap_1 s.1 s.2) N ([],0)).bind fun o6 =>
 some o6
def qfI:Nat → (List (Part) → List UInt8 → Option (List UInt8))
 | 0=>(fun _ _=>none)
 | N + 1=>(qc6 (qfI N) N)
def qbn (N:Nat):List (Part) → List UInt8 → Option (List UInt8):=(qfI N)
def qdT (N:Nat) (parts_0:List (Part)):Option Bool :=
 (qa7 N parts_0 1 false).bind fun r1 =>
 bif r1 then
  (qa5 N parts_0 ([])).bind fun r4 =>
  bif (decide ((r4.length:Int) ≤ 20)) then
   (qbn N parts_0 ([32])).bind fun r10 =>
   some (decide ((r10.length:Int) ≤ 4000))
  else
   some false
 else
  some false
end Go.Proofs.YtmghnmfefpeelaaGreatDoor
namespace Go.Proofs.YtmghnmfefpeelaaGreatDoor
open Go.X
structure Flow where
 c:Code
 open_:List (List (List UInt8))
 reached:List (Bool)
 clash:List (Bool)
structure Frame where
 name:List UInt8
 up:List (List UInt8)
structure Uses where
 a:Bool
 b:Bool
 s:Bool
structure Arr14_Uses where
 e0:Uses
 e1:Uses
 e2:Uses
 e3:Uses
 e4:Uses
 e5:Uses
 e6:Uses
 e7:Uses
 e8:Uses
 e9:Uses
 e10:Uses
 e11:Uses
 e12:Uses
 e13:Uses
def Arr14_Uses.list (a:Arr14_Uses):List (Uses):=[a.e0,a.e1,a.e2,a.e3,a.e4,a.e5,a.e6,a.e7,a.e8,a.e9,a.e10,a.e11,a.e12,a.e13]
def Arr14_Uses.get (a:Arr14_Uses) (i:Int):Option (Uses):=idx a.list i
def qeQ (_N:Nat) (op_0:Int):Option (Uses × Bool) :=
 bif (decide (op_0 < 1)) then
  some ((Uses.mk false false false),false)
 else
  bif (decide (op_0 > 13)) then
   some ((Uses.mk false false false),false)
  else
   (Arr14_Uses.get (Arr14_Uses.mk (Uses.mk false false false) (Uses.mk false false true) (Uses.mk false false true) (Uses.mk false false true) (Uses.mk false false true) (Uses.mk true false false) (Uses.mk true false true) (Uses.mk true false true) (Uses.mk true false true) (Uses.mk true false true) (Uses.mk true true false) (Uses.mk true false true) (Uses.mk true false false) (Uses.mk false false false)) op_0).bind fun x5 =>
   some (x5,true)
def qdA (_N:Nat) (s_0:List UInt8) (x_4:Int):Option (Int ⊕ ((Unit ⊕ Bool))) :=
 bif (decide (x_4 < (s_0.length:Int))) then
  (idx s_0 x_4).bind fun c7 =>
  bif (decide ((qhl .or .u8 (c7.toNat:Int) 32) < 97)) then
   some (.inr (.inr false))
  else
   bif (decide ((qhl .or .u8 (c7.toNat:Int) 32) > 122)) then
    some (.inr (.inr false))
   else
    some (.inl (x_4 + 1))
 else
  some (.inr (.inl ()))
def qdN (N:Nat) (s_0:List UInt8):Option Bool :=
 (iter (fun s=>qdA N s_0 s) N 0).bind fun o2 =>
 Sum.elim (fun _o2 =>
  bif (s_0 != ([])) then
   some (decide ((s_0.length:Int) ≤ 40))
  else
   some false)
 (fun o2 =>
  some o2) o2
def qb6 (_N:Nat) (c_0:Code) (k_9:Int):Option (Int ⊕ Int) :=
 bif (decide (k_9 < (c_0.Ins.length:Int))) then
  (idx c_0.Ins k_9).bind fun x12 =>
  bif (x12.Op == 11) then
   some (.inl (k_9 + 1))
  else
   some (.inr k_9)
 else
  some (.inr k_9)
def qeD (N:Nat) (c_0:Code) (i_1:Int):Option (List (Ins)) :=
 (iter (fun s=>qb6 N c_0 s) N (IntKind.wrap .i64 (i_1 + 1))).bind fun o7 =>
 (slc c_0.Ins (IntKind.wrap .i64 (i_1 + 1)) o7).bind fun l27 =>
 some l27
def qbr (N:Nat) (s_0:List (List UInt8)) (v_1:List UInt8):Option Bool :=
 (qbo N s_0 v_1).bind fun r1 =>
 some (decide (r1 ≥ 0))
def qe8 (N:Nat) (s_0:List UInt8):Option Bool :=
 (qbr N ([[122,101,114,111],[111,110,101],[116,119,111],[102,101,119],[109,97,110,121],[111,116,104,101,114]]:List (List UInt8)) s_0).bind fun r9 =>
 some r9
def qfJ (N:Nat) (kind_0:Int) (s_1:List UInt8):Option Bool :=
 bif (kind_0 == 9) then
  (qbY N s_1).bind fun r2 =>
  some r2
 else
  (strings_CutPrefix N s_1 ([61])).bind fun r4 =>
  (qe8 N s_1).bind fun r7 =>
  bif r7 then
   some true
  else
   bif r4.2 then
    (qdk N r4.1).bind fun r11 =>
    some r11
   else
    some false
def qbz (N:Nat) (c_0:Code) (i_1:Int) (r6:(List (Ins))) (x_24:Int) (seen_25:List (List UInt8 × Bool)):Option ((Int × (List (List UInt8 × Bool))) ⊕ ((((List (List UInt8 × Bool))) ⊕ Bool))) :=
 bif (decide (x_24 < (r6.length:Int))) then
  (idx r6 x_24).bind fun x31 =>
  (idx c_0.Ins i_1).bind fun x45 =>
  (qfJ N x45.B x31.S).bind fun r58 =>
  bif (!r58) then
   some (.inr (.inr false))
  else
   bif ((mget seen_25 x31.S).getD false) then
    some (.inr (.inr false))
   else
    (mset seen_25 x31.S true).bind fun l66 =>
    some (.inl ((x_24 + 1),l66))
 else
  some (.inr (.inl seen_25))
def qcS (N:Nat) (c_0:Code) (i_1:Int):Option Bool :=
 (qeD N c_0 i_1).bind fun r6 =>
 (iter (fun s=>qbz N c_0 i_1 r6 s.1 s.2) N (0,([]:List (List UInt8 × Bool)))).bind fun o19 =>
 Sum.elim (fun o19 =>
  (idx c_0.Ins i_1).bind fun x73 =>
  (qa3 N x73.B).bind fun r86 =>
  bif r86 then
   bif (decide ((r6.length:Int) ≥ 1)) then
    bif (decide ((r6.length:Int) ≤ 20)) then
     some ((mget o19 ([111,116,104,101,114])).getD false)
    else
     some false
   else
    some false
  else
   some false)
 (fun o19 =>
  some o19) o19
def qcz (_N:Nat) (c_0:Code) (i_1:Int) (to_2:Int):Option Bool :=
 bif (decide (to_2 > i_1)) then
  bif (decide (to_2 < (c_0.Ins.length:Int))) then
   (idx c_0.Ins to_2).bind fun x8 =>
   some (x8.Op != 11)
  else
   some false
 else
  some false
def qdl (N:Nat) (c_0:Code) (i_1:Int):Option Bool :=
 bif (decide (i_1 < 0)) then
  some false
 else
  bif (decide (i_1 ≥ (c_0.Ins.length:Int))) then
   some false
  else
   (idx c_0.Ins i_1).bind fun x8 =>
   (qeQ N x8.Op).bind fun r22 =>
   (show Option Bool from
    bif (!r22.2) then
     some true
    else
     bif (!r22.1.a) then
      bif (x8.A != 0) then
       some true
      else
       bif (!r22.1.b) then
        bif (x8.B != 0) then
         some true
        else
         bif (!r22.1.s) then
          some (x8.S != ([]))
         else
          some false
       else
        bif (!r22.1.s) then
         some (x8.S != ([]))
        else
         some false
     else
      bif (!r22.1.b) then
       bif (x8.B != 0) then
        some true
       else
        bif (!r22.1.s) then
         some (x8.S != ([]))
        else
         some false
      else
       bif (!r22.1.s) then
        some (x8.S != ([]))
       else
        some false).bind fun o28 =>
   bif o28 then
    some false
   else
    (show Option Bool from
     bif (decide (x8.Op ≥ 5)) then
      bif (decide (x8.Op ≤ 10)) then
       bif (decide (x8.A < 0)) then
        some true
       else
        some (decide (x8.A ≥ (c_0.Names.length:Int)))
      else
       some false
     else
      some false).bind fun o41 =>
    bif o41 then
     some false
    else
     bif (x8.Op == 1) then
      some (x8.S != ([]))
     else
      (show Option Bool from
       bif (x8.Op == 2) then
        some (x8.Op == 2)
       else
        bif (x8.Op == 3) then
         some (x8.Op == 3)
        else
         bif (x8.Op == 4) then
          some (x8.Op == 4)
         else
          bif (x8.Op == 7) then
           some (x8.Op == 7)
          else
           some (x8.Op == 9)).bind fun o47 =>
      bif o47 then
       (qbY N x8.S).bind fun r53 =>
       some r53
      else
       bif (x8.Op == 6) then
        bif (x8.S == ([])) then
         some true
        else
         bif (x8.S == ([105,110,116,101,103,101,114])) then
          some true
         else
          some (x8.S == ([112,101,114,99,101,110,116]))
       else
        bif (x8.Op == 8) then
         (qdN N x8.S).bind fun r59 =>
         some r59
        else
         bif (x8.Op == 10) then
          (qcS N c_0 i_1).bind fun r62 =>
          some r62
         else
          bif (x8.Op == 11) then
           bif (decide (i_1 > 0)) then
            (idx c_0.Ins (i_1 - 1)).bind fun x66 =>
            bif (x66.Op == 10) then
             (qcz N c_0 i_1 x8.A).bind fun r80 =>
             some r80
            else
             (idx c_0.Ins (i_1 - 1)).bind fun x82 =>
             bif (x82.Op == 11) then
              (qcz N c_0 i_1 x8.A).bind fun r96 =>
              some r96
             else
              some false
           else
            some false
          else
           bif (x8.Op == 12) then
            (qcz N c_0 i_1 x8.A).bind fun r99 =>
            some r99
           else
            bif (x8.Op == 13) then
             some (i_1 == (IntKind.wrap .i64 ((c_0.Ins.length:Int) - 1)))
            else
             some true
def qcQ (N:Nat) (l_0:List (List UInt8)) (x_14:Int) (seen_15:List (List UInt8 × Bool)):Option ((Int × (List (List UInt8 × Bool))) ⊕ ((Unit ⊕ Bool))) :=
 bif (decide (x_14 < (l_0.length:Int))) then
  (idx l_0 x_14).bind fun x21 =>
  (qbY N x21).bind fun r31 =>
  bif (!r31) then
   some (.inr (.inr false))
  else
   bif ((mget seen_15 x21).getD false) then
    some (.inr (.inr false))
   else
    (mset seen_15 x21 true).bind fun l39 =>
    some (.inl ((x_14 + 1),l39))
 else
  some (.inr (.inl ()))
def qe7 (N:Nat) (l_0:List (List UInt8)):Option Bool :=
 (iter (fun s=>qcQ N l_0 s.1 s.2) N (0,([]:List (List UInt8 × Bool)))).bind fun o9 =>
 Sum.elim (fun _o9 =>
  some (decide ((l_0.length:Int) ≤ 20)))
 (fun o9 =>
  some o9) o9
def qhC (_N:Nat) (a b:List (List UInt8)):Option Bool:=some (a == b)
def qbC (N:Nat) (to_1:Int) (open_2:List (List UInt8)) (x0:Flow):Option Flow :=
 (idx x0.reached to_1).bind fun x27 =>
 bif x27 then
  (show Option Flow from
   (idx x0.clash to_1).bind fun x52 =>
   bif x52 then
    (idx x0.clash to_1).bind fun _x63 =>
    (setI x0.clash to_1 true).bind fun l69 =>
    some (Flow.mk x0.c x0.open_ x0.reached l69)
   else
    (idx x0.open_ to_1).bind fun x91 =>
    (qhC N x91 open_2).bind fun r103 =>
    (idx x0.clash to_1).bind fun _x105 =>
    (setI x0.clash to_1 (!r103)).bind fun l111 =>
    some (Flow.mk x0.c x0.open_ x0.reached l111)).bind fun o38 =>
  some o38
 else
  (show Option Flow from
   (idx x0.reached to_1).bind fun _x170 =>
   (setI x0.reached to_1 true).bind fun l176 =>
   (idx x0.open_ to_1).bind fun _x180 =>
   (setI x0.open_ to_1 open_2).bind fun l186 =>
   some (Flow.mk x0.c l186 l176 x0.clash)).bind fun o156 =>
  some o156
end Go.Proofs.YtmghnmfefpeelaaGreatDoor
namespace Go.Proofs.YtmghnmfefpeelaaGreatDoor
open Go.X
def qbV (N:Nat) (x38:List (List UInt8)) (r83:(List (Ins))) (x_119:Int) (x_120:Flow):Option ((Int × Flow) ⊕ Flow) :=
 bif (decide (x_119 < (r83.length:Int))) then
  (idx r83 x_119).bind fun x137 =>
  (qbC N x137.A x38 x_120).bind fun r151 =>
  some (.inl ((x_119 + 1),r151))
 else
  some (.inr x_120)
def qd4 (N:Nat) (i_1:Int) (x0:Flow):Option (Bool × Flow) :=
 (idx x0.clash i_1).bind fun x27 =>
 bif x27 then
  some (false,x0)
 else
  (idx x0.open_ i_1).bind fun x38 =>
  (idx x0.c.Ins i_1).bind fun x50 =>
  bif (x50.Op == 13) then
   some ((x38.isEmpty),x0)
  else
   bif (x50.Op == 12) then
    (qbC N x50.A x38 x0).bind fun r66 =>
    some (true,r66)
   else
    bif (x50.Op == 10) then
     (qeD N x0.c i_1).bind fun r83 =>
     (iter (fun s=>qbV N x38 r83 s.1 s.2) N (0,x0)).bind fun o103 =>
     some (true,o103)
    else
     bif (x50.Op == 2) then
      (qbC N (IntKind.wrap .i64 (i_1 + 1)) (x50.S :: x38) x0).bind fun r199 =>
      some (true,r199)
     else
      bif (x50.Op == 3) then
       bif (x38.isEmpty) then
        some (false,x0)
       else
        (unc x38).bind fun q217 =>
        bif (q217.1 != x50.S) then
         some (false,x0)
        else
         (unc x38).bind fun q229 =>
         (qbC N (IntKind.wrap .i64 (i_1 + 1)) q229.2 x0).bind fun r240 =>
         some (true,r240)
      else
       (qbC N (IntKind.wrap .i64 (i_1 + 1)) x38 x0).bind fun r256 =>
       some (true,r256)
def qce (N:Nat) (c_0:Code) (x_13:Int):Option (Int ⊕ ((Unit ⊕ ((Option (Flow)) × Int × Int)))) :=
 bif (decide (x_13 < (c_0.Ins.length:Int))) then
  (qdl N c_0 x_13).bind fun r16 =>
  bif (!r16) then
   some (.inr (.inr (none,x_13,4)))
  else
   some (.inl (x_13 + 1))
 else
  some (.inr (.inl ()))
def qc1 (N:Nat) (c_0:Code) (x_171:Int) (x_172:Flow):Option ((Int × Flow) ⊕ ((Flow ⊕ ((Option (Flow)) × Int × Int)))) :=
 bif (decide (x_171 < (c_0.Ins.length:Int))) then
  (idx x_172.reached x_171).bind fun x189 =>
  bif x189 then
   (qd4 N x_171 x_172).bind fun r200 =>
   bif (!r200.1) then
    some (.inr (.inr (none,x_171,7)))
   else
    some (.inl ((x_171 + 1),r200.2))
  else
   some (.inl ((x_171 + 1),x_172))
 else
  some (.inr (.inl x_172))
def qeg (N:Nat) (c_0:Code):Option ((Option (Flow)) × Int × Int) :=
 (qe7 N c_0.Names).bind fun r6 =>
 bif (!r6) then
  some (none,0,1)
 else
  bif (decide ((c_0.Ins.length:Int) > 10000)) then
   some (none,0,6)
  else
   (iter (fun s=>qce N c_0 s) N 0).bind fun o11 =>
   Sum.elim (fun _o11 =>
    bif ((c_0.Ins.length:Int) == 0) then
     some (none,(c_0.Ins.length:Int),4)
    else
     (idx c_0.Ins (IntKind.wrap .i64 ((c_0.Ins.length:Int) - 1))).bind fun x20 =>
     bif (x20.Op != 13) then
      some (none,(c_0.Ins.length:Int),4)
     else
      (show Option Flow from
       (mk (c_0.Ins.length:Int) (([]:List (List UInt8)):List (List UInt8))).bind fun l49 =>
       (mk (c_0.Ins.length:Int) (false:Bool)).bind fun l54 =>
       (mk (c_0.Ins.length:Int) (false:Bool)).bind fun l59 =>
       some (Flow.mk c_0 l49 l54 l59)).bind fun o34 =>
      (idx o34.reached 0).bind fun _x130 =>
      (setI o34.reached 0 true).bind fun l136 =>
      (iter (fun s=>qc1 N c_0 s.1 s.2) N (0,(Flow.mk o34.c o34.open_ l136 o34.clash))).bind fun o155 =>
      Sum.elim (fun o155 =>
       some ((some o155),0,0))
      (fun o155 =>
       some o155) o155)
   (fun o11 =>
    some o11) o11
def qdG (N:Nat) (c_0:Code):Option (Int × Int) :=
 (qeg N c_0).bind fun r6 =>
 some (r6.2.1,r6.2.2)
def qey (N:Nat):Option Bool :=
 (qdG N (Code.mk ([]) ([(Ins.mk 2 0 0 ([98])),(Ins.mk 3 0 0 ([105])),(Ins.mk 13 0 0 ([]))]:List (Ins)))).bind fun r9 =>
 (qdG N (Code.mk ([]) ([(Ins.mk 12 0 0 ([])),(Ins.mk 13 0 0 ([]))]:List (Ins)))).bind fun r21 =>
 (qdG N (Code.mk ([]) ([(Ins.mk 13 0 0 ([]))]:List (Ins)))).bind fun r33 =>
 bif (r9.1 == 1) then
  bif (r9.2 == 7) then
   bif (r21.2 == 4) then
    bif (r33.2 == 0) then
     (qdl N (Code.mk ([]) ([(Ins.mk 13 0 0 ([]))]:List (Ins))) 0).bind fun r49 =>
     some r49
    else
     some false
   else
    some false
  else
   some false
 else
  some false
def qeC (N:Nat) (c_0:Code):Option ((List (Bool)) × Int) :=
 (qeg N c_0).bind fun r6 =>
 bif (r6.2.2 != 0) then
  some ([],r6.2.2)
 else
  (r6.1).bind fun y14 =>
  some (y14.reached,0)
end Go.Proofs.YtmghnmfefpeelaaGreatDoor
namespace Go.Proofs.YtmghnmfefpeelaaGreatDoor
open Go.X
def qa0 (_N:Nat) (r7:Code × Int) (r25:(List (Bool)) × Int) (i_38:Int):Option (Int ⊕ ((Unit ⊕ Bool))) :=
 bif (decide (i_38 < (r25.1.length:Int))) then
  (idx r25.1 i_38).bind fun x41 =>
  (idx r7.1.Ins i_38).bind fun x50 =>
  bif (x41 == (x50.Op == 11)) then
   some (.inr (.inr false))
  else
   some (.inl (i_38 + 1))
 else
  some (.inr (.inl ()))
def qbg (N:Nat) (p_0:List (Part)):Option Bool :=
 (qey N ).bind fun r1 =>
 bif (!r1) then
  some false
 else
  (qer N p_0).bind fun r4 =>
  bif (!r4) then
   some true
  else
   (qes N p_0).bind fun r7 =>
   bif (r7.2 != 0) then
    (qdT N p_0).bind fun r19 =>
    some (!r19)
   else
    (qdG N r7.1).bind fun r21 =>
    (qeC N r7.1).bind fun r25 =>
    bif (r21.1 != 0) then
     some false
    else
     bif (r21.2 != 0) then
      some false
     else
      bif (r25.2 != 0) then
       some false
      else
       bif ((r25.1.length:Int) != (r7.1.Ins.length:Int)) then
        some false
       else
        (iter (fun s=>qa0 N r7 r25 s) N 0).bind fun o36 =>
        Sum.elim (fun _o36 =>
         some true)
        (fun o36 =>
         some o36) o36
end Go.Proofs.YtmghnmfefpeelaaGreatDoor
namespace Go.Proofs
open Go.Shelf
def Tryz.lays169_ren:Go.Shelf.Ren:=⟨fun | 169=>70 | n=>n,fun | 70=>105 | 9=>9 | 0=>0 | 72=>107 | 37=>85 | 127=>115 | 3=>3 | 5=>5 | n=>n,fun | n=>n⟩
theorem Tryz.lays169:Go.Proofs.Lays.n169 Tryz.prog Tryz.lays169_ren:={
 mixed:=by kernel_rfl
 f169:=Tryz.func70.trans (congrArg some (by kernel_rfl))
 t0:=Tryz.underlying0
 a0:=Tryz.isAgg0
 z0:=Tryz.sizeOf0
 v0:=Tryz.zeroValue0
 t3:=Tryz.underlying3
 a3:=Tryz.isAgg3
 z3:=Tryz.sizeOf3
 v3:=Tryz.zeroValue3
 t9:=Tryz.underlying9
 a9:=Tryz.isAgg9
 z9:=Tryz.sizeOf9
 v9:=Tryz.zeroValue9
 t37:=Tryz.underlying85
 a37:=Tryz.isAgg85
 z37:=Tryz.sizeOf85
 v37:=Tryz.zeroValue85
 t70:=Tryz.underlying105
 a70:=Tryz.isAgg105
 z70:=Tryz.sizeOf105
 v70:=Tryz.zeroValue105
 t72:=Tryz.underlying107
 a72:=Tryz.isAgg107
 z72:=Tryz.sizeOf107
 v72:=Tryz.zeroValue107
 t127:=Tryz.underlying115
 a127:=Tryz.isAgg115
 z127:=Tryz.sizeOf115
 v127:=Tryz.zeroValue115 }
theorem Tryz.Builder_Extra_169:Builder.Extra Tryz.prog Tryz.lays169_ren:={
 sizeBuilder:=by kernel_rfl
 liesBuilder:=by kernel_rfl
 t5:=Tryz.underlying5
 a5:=Tryz.isAgg5
 z5:=Tryz.sizeOf5
 v5:=Tryz.zeroValue5
 infoByte:=by kernel_rfl
 cellsByte:=by kernel_rfl
 sizeByte:=by kernel_rfl
 neB5:=by decide }
def Tryz.lays160_ren:Go.Shelf.Ren:=⟨fun | 160=>80 | 232=>85 | 231=>84 | 227=>86 | 234=>88 | 233=>87 | 236=>90 | 235=>89 | 228=>95 | 271=>98 | 151=>97 | 197=>96 | 120=>103 | 152=>102 | 260=>101 | 137=>104 | 119=>105 | 224=>93 | 225=>92 | 217=>91 | 266=>99 | n=>n,fun | 9=>9 | 4=>4 | 3=>3 | 5=>5 | 117=>123 | 116=>122 | 0=>0 | 124=>126 | 21=>21 | 105=>129 | 46=>128 | 119=>136 | 139=>139 | 138=>138 | n=>n,fun | 3=>1 | 4=>2 | n=>n⟩
theorem Tryz.lays160:Go.Proofs.Lays.n160 Tryz.prog Tryz.lays160_ren:={
 mixed:=by kernel_rfl
 f119:=Tryz.func105.trans (congrArg some (by kernel_rfl))
 f120:=Tryz.func103.trans (congrArg some (by kernel_rfl))
 f137:=Tryz.func104.trans (congrArg some (by kernel_rfl))
 f151:=Tryz.func97.trans (congrArg some (by kernel_rfl))
 f152:=Tryz.func102.trans (congrArg some (by kernel_rfl))
 f160:=Tryz.func80.trans (congrArg some (by kernel_rfl))
 f197:=Tryz.func96.trans (congrArg some (by kernel_rfl))
 f217:=Tryz.func91.trans (congrArg some (by kernel_rfl))
 f224:=Tryz.func93.trans (congrArg some (by kernel_rfl))
 f225:=Tryz.func92.trans (congrArg some (by kernel_rfl))
 f227:=Tryz.func86.trans (congrArg some (by kernel_rfl))
 f228:=Tryz.func95.trans (congrArg some (by kernel_rfl))
 f231:=Tryz.func84.trans (congrArg some (by kernel_rfl))
 f232:=Tryz.func85.trans (congrArg some (by kernel_rfl))
 f233:=Tryz.func87.trans (congrArg some (by kernel_rfl))
 f234:=Tryz.func88.trans (congrArg some (by kernel_rfl))
 f235:=Tryz.func89.trans (congrArg some (by kernel_rfl))
 f236:=Tryz.func90.trans (congrArg some (by kernel_rfl))
 f260:=Tryz.func101.trans (congrArg some (by kernel_rfl))
 f266:=Tryz.func99.trans (congrArg some (by kernel_rfl))
 f271:=Tryz.func98.trans (congrArg some (by kernel_rfl))
 t0:=Tryz.underlying0
 a0:=Tryz.isAgg0
 z0:=Tryz.sizeOf0
 v0:=Tryz.zeroValue0
 t3:=Tryz.underlying3
 a3:=Tryz.isAgg3
 z3:=Tryz.sizeOf3
 v3:=Tryz.zeroValue3
 t4:=Tryz.underlying4
 a4:=Tryz.isAgg4
 z4:=Tryz.sizeOf4
 v4:=Tryz.zeroValue4
 t5:=Tryz.underlying5
 a5:=Tryz.isAgg5
 z5:=Tryz.sizeOf5
 v5:=Tryz.zeroValue5
 t9:=Tryz.underlying9
 a9:=Tryz.isAgg9
 z9:=Tryz.sizeOf9
 v9:=Tryz.zeroValue9
 t21:=Tryz.underlying21
 a21:=Tryz.isAgg21
 z21:=Tryz.sizeOf21
 v21:=Tryz.zeroValue21
 t46:=Tryz.underlying128
 a46:=Tryz.isAgg128
 z46:=Tryz.sizeOf128
 v46:=Tryz.zeroValue128
 t105:=Tryz.underlying129
 a105:=Tryz.isAgg129
 z105:=Tryz.sizeOf129
 v105:=Tryz.zeroValue129
 t116:=Tryz.underlying122
 a116:=Tryz.isAgg122
 z116:=Tryz.sizeOf122
 t117:=Tryz.underlying123
 a117:=Tryz.isAgg123
 z117:=Tryz.sizeOf123
 v117:=Tryz.zeroValue123
 t119:=Tryz.underlying136
 a119:=Tryz.isAgg136
 z119:=Tryz.sizeOf136
 t124:=Tryz.underlying126
 a124:=Tryz.isAgg126
 z124:=Tryz.sizeOf126
 v124:=Tryz.zeroValue126
 t138:=Tryz.underlying138
 a138:=Tryz.isAgg138
 z138:=Tryz.sizeOf138
 v138:=Tryz.zeroValue138
 t139:=Tryz.underlying139
 a139:=Tryz.isAgg139
 z139:=Tryz.sizeOf139
 v139:=Tryz.zeroValue139
 g3:=by kernel_rfl
 g4:=by kernel_rfl }
def Tryz.lays103_ren:Go.Shelf.Ren:=⟨fun | 103=>53 | 210=>63 | 206=>73 | n=>n,fun | 9=>9 | 4=>4 | 24=>90 | 3=>3 | n=>n,fun | n=>n⟩
theorem Tryz.lays103:Go.Proofs.Lays.n103 Tryz.prog Tryz.lays103_ren:={
 mixed:=by kernel_rfl
 f103:=Tryz.func53.trans (congrArg some (by kernel_rfl))
 f206:=Tryz.func73.trans (congrArg some (by kernel_rfl))
 f210:=Tryz.func63.trans (congrArg some (by kernel_rfl))
 t3:=Tryz.underlying3
 a3:=Tryz.isAgg3
 z3:=Tryz.sizeOf3
 v3:=Tryz.zeroValue3
 t4:=Tryz.underlying4
 a4:=Tryz.isAgg4
 z4:=Tryz.sizeOf4
 v4:=Tryz.zeroValue4
 t9:=Tryz.underlying9
 a9:=Tryz.isAgg9
 z9:=Tryz.sizeOf9
 v9:=Tryz.zeroValue9
 t24:=Tryz.underlying90
 a24:=Tryz.isAgg90
 z24:=Tryz.sizeOf90
 v24:=Tryz.zeroValue90 }
def Tryz.lays145_ren:Go.Shelf.Ren:=⟨fun | 145=>74 | 220=>79 | 219=>83 | 217=>91 | 225=>92 | 224=>93 | 267=>94 | 266=>99 | 314=>100 | n=>n,fun | 9=>9 | 4=>4 | 59=>113 | 3=>3 | 5=>5 | 46=>128 | 146=>133 | 51=>132 | n=>n,fun | 1=>0 | n=>n⟩
theorem Tryz.lays145:Go.Proofs.Lays.n145 Tryz.prog Tryz.lays145_ren:={
 mixed:=by kernel_rfl
 f145:=Tryz.func74.trans (congrArg some (by kernel_rfl))
 f217:=Tryz.func91.trans (congrArg some (by kernel_rfl))
 f219:=Tryz.func83.trans (congrArg some (by kernel_rfl))
 f220:=Tryz.func79.trans (congrArg some (by kernel_rfl))
 f224:=Tryz.func93.trans (congrArg some (by kernel_rfl))
 f225:=Tryz.func92.trans (congrArg some (by kernel_rfl))
 f266:=Tryz.func99.trans (congrArg some (by kernel_rfl))
 f267:=Tryz.func94.trans (congrArg some (by kernel_rfl))
 f314:=Tryz.func100.trans (congrArg some (by kernel_rfl))
 t3:=Tryz.underlying3
 a3:=Tryz.isAgg3
 z3:=Tryz.sizeOf3
 v3:=Tryz.zeroValue3
 t4:=Tryz.underlying4
 a4:=Tryz.isAgg4
 z4:=Tryz.sizeOf4
 v4:=Tryz.zeroValue4
 t5:=Tryz.underlying5
 a5:=Tryz.isAgg5
 z5:=Tryz.sizeOf5
 v5:=Tryz.zeroValue5
 t9:=Tryz.underlying9
 a9:=Tryz.isAgg9
 z9:=Tryz.sizeOf9
 v9:=Tryz.zeroValue9
 t46:=Tryz.underlying128
 a46:=Tryz.isAgg128
 z46:=Tryz.sizeOf128
 v46:=Tryz.zeroValue128
 t51:=Tryz.underlying132
 a51:=Tryz.isAgg132
 z51:=Tryz.sizeOf132
 v51:=Tryz.zeroValue132
 t59:=Tryz.underlying113
 a59:=Tryz.isAgg113
 z59:=Tryz.sizeOf113
 v59:=Tryz.zeroValue113
 t146:=Tryz.underlying133
 a146:=Tryz.isAgg133
 z146:=Tryz.sizeOf133
 v146:=Tryz.zeroValue133
 g1:=by kernel_rfl }
end Go.Proofs
namespace Go.Proofs.YtmghnmfefpeelaaGreatDoor
open Go.X
variable {u:World} {m0:Mem} {S:Segs} {w:World}
set_option maxHeartbeats 4000000
set_option maxRecDepth 100000
def Glob (u:World):Prop:=∃ mx,u.cell? ⟨0,0,none⟩ = some (.int .i64 mx)
def qh8 (R:Rp Part):Rp Case:=fun m cs x=>∃ c1,cs = [.string (bs x.Key),c1] ∧ x.Key.length ≤ LIMS ∧ (pL 6 R) m [c1] x.Parts
def qfi:Nat → Rp Part
 | 0=>fun _ _ _=>False
 | d + 1=>fun m cs x=>∃ c4 c5,cs = [.int .i64 x.Kind,.string (bs x.Text),.string (bs x.Name),.string (bs x.Style),c4,c5] ∧ InR .i64 x.Kind ∧ x.Text.length ≤ LIMS ∧ x.Name.length ≤ LIMS ∧ x.Style.length ≤ LIMS ∧ (pL 2 (qh8 (qfi d))) m [c4] x.Cases ∧ (pL 6 (qfi d)) m [c5] x.Parts
def qbD:Rp Part:=fun m cs x=>∃ d,qfi d m cs x
def qj8:Rp Case:=fun m cs x=>∃ c1,cs = [.string (bs x.Key),c1] ∧ x.Key.length ≤ LIMS ∧ (pL 6 qbD) m [c1] x.Parts
theorem qgD {R R':Rp Part} {m:Mem} {cs:List Value} {x:Case} (hR:∀ {cs:List Value} {x:Part},R m cs x → R' m cs x) (h:qh8 R m cs x):qh8 R' m cs x:=by
 obtain ⟨c1,e,h0,h1⟩:=h
 exact ⟨c1,e,h0,qgu (fun _ _ _ h=>hR h) h1⟩
theorem qhD:∀ (d:Nat) {m:Mem} {cs:List Value} {x:Part},qfi d m cs x → qfi (d + 1) m cs x
 | 0,_,_,_,h=>h.elim
 | d + 1,_,_,_,h=>by
  obtain ⟨c4,c5,e,h0,h1,h2,h3,h4,h5⟩:=h
  exact ⟨c4,c5,e,h0,h1,h2,h3,qgu (fun _ _ _ h=>qgD (fun h=>qhD d h) h) h4,qgu (fun _ _ _ h=>qhD d h) h5⟩
theorem qgt {d d':Nat} (hd:d ≤ d') {m:Mem} {cs:List Value} {x:Part} (h:qfi d m cs x):qfi d' m cs x:=by
 induction hd with
 | refl=>exact h
 | step _ ih=>exact qhD _ ih
theorem qnt {m:Mem} {cs:List Value} {x:Case} (h:qj8 m cs x):∃ d,qh8 (qfi d) m cs x:=by
 obtain ⟨c1,e,h0,h1⟩:=h
 obtain ⟨d,hd⟩:=qkK (fun d d' hd _ _ h=>qgt hd h) h1
 exact ⟨d,c1,e,h0,hd⟩
theorem qaL {m:Mem} {cs:List Value} {x:Part}:qbD m cs x ↔ (∃ c4 c5,cs = [.int .i64 x.Kind,.string (bs x.Text),.string (bs x.Name),.string (bs x.Style),c4,c5] ∧ InR .i64 x.Kind ∧ x.Text.length ≤ LIMS ∧ x.Name.length ≤ LIMS ∧ x.Style.length ≤ LIMS ∧ (pL 2 qj8) m [c4] x.Cases ∧ (pL 6 qbD) m [c5] x.Parts):=by
 constructor
 ·rintro ⟨d,h⟩
  cases d with
  | zero=>exact h.elim
  | succ d =>
   obtain ⟨c4,c5,e,h0,h1,h2,h3,h4,h5⟩:=h
   exact ⟨c4,c5,e,h0,h1,h2,h3,qgu (fun _ _ _ h=>qgD (R':=qbD) (fun h=>⟨d,h⟩) h) h4,qgu (fun _ _ _ h=>⟨d,h⟩) h5⟩
 ·rintro ⟨c4,c5,e,h0,h1,h2,h3,h4,h5⟩
  obtain ⟨d4,g4⟩:=qkK (P:=fun d=>qh8 (qfi d)) (fun d d' hd _ _ h=>qgD (fun h=>qgt hd h) h) (qgu (fun _ _ _ h=>qnt h) h4)
  obtain ⟨d5,g5⟩:=qkK (fun d d' hd _ _ h=>qgt hd h) h5
  exact ⟨d4 + d5 + 1,c4,c5,e,h0,h1,h2,h3,qgu (fun _ _ _ h=>qgD (fun h=>qgt (by omega) h) h) g4,qgu (fun _ _ _ h=>qgt (by omega) h) g5⟩
theorem qlO {R:Rp Part} (M:Mono R):Mono (qh8 R):=⟨fun hm h=>by
 obtain ⟨c1,e,h0,h1⟩:=h
 exact ⟨c1,e,h0,(mL M).up hm h1⟩,fun h=>by
 obtain ⟨c1,rfl,h0,h1⟩:=h
 exact ⟨rfl,((mL M).one h1).1,trivial⟩⟩
theorem qh2:∀ d,Mono (qfi d)
 | 0=>⟨fun _ h=>h.elim,fun h=>h.elim⟩
 | d + 1=>⟨fun hm h=>by
  obtain ⟨c4,c5,e,h0,h1,h2,h3,h4,h5⟩:=h
  exact ⟨c4,c5,e,h0,h1,h2,h3,(mL (qlO (qh2 d))).up hm h4,(mL (qh2 d)).up hm h5⟩,fun h=>by
  obtain ⟨c4,c5,rfl,h0,h1,h2,h3,h4,h5⟩:=h
  exact ⟨rfl,rfl,rfl,rfl,((mL (qlO (qh2 d))).one h4).1,((mL (qh2 d)).one h5).1,trivial⟩⟩
theorem qaq:Mono qbD:=⟨fun hm ⟨d,h⟩=>⟨d,(qh2 d).up hm h⟩,fun ⟨d,h⟩=>(qh2 d).one h⟩
theorem qa6:Mono qj8:=qlO qaq
def qk1:Rp Number:=fun _ cs x=>cs = [.bool x.negative,.string (bs x.whole),.string (bs x.fraction)] ∧ x.whole.length ≤ LIMS ∧ x.fraction.length ≤ LIMS
theorem qaP:aggB Tryz.prog 102 3 = true:=by kernel_rfl
theorem qep:aggB Tryz.prog 63 6 = true:=by kernel_rfl
theorem qg1:aggB Tryz.prog 65 2 = true:=by kernel_rfl
theorem qi2:aggB Tryz.prog 81 1 = true:=by kernel_rfl
theorem qoG:qaI Tryz.prog 102 1 1 = true:=by kernel_rfl
theorem qo4:qaI Tryz.prog 102 2 2 = true:=by kernel_rfl
theorem qiv:qaI Tryz.prog 107 0 0 = true:=by kernel_rfl
theorem qmq:qaI Tryz.prog 107 1 1 = true:=by kernel_rfl
theorem qar:qaI Tryz.prog 63 0 0 = true:=by kernel_rfl
theorem qbR:qaI Tryz.prog 63 1 1 = true:=by kernel_rfl
theorem qaw:qaI Tryz.prog 63 2 2 = true:=by kernel_rfl
theorem qaT:qaI Tryz.prog 63 3 3 = true:=by kernel_rfl
theorem qaR:qaI Tryz.prog 63 4 4 = true:=by kernel_rfl
theorem qbs:qaI Tryz.prog 63 5 5 = true:=by kernel_rfl
theorem qcr:qaI Tryz.prog 65 0 0 = true:=by kernel_rfl
theorem qdP:qaI Tryz.prog 65 1 1 = true:=by kernel_rfl
theorem qh9:qaI Tryz.prog 81 0 0 = true:=by kernel_rfl
theorem qip:goB Tryz.prog 22 = true:=by kernel_rfl
theorem qrt:goB Tryz.prog 26 = true:=by kernel_rfl
theorem qgM:goB Tryz.prog 28 = true:=by kernel_rfl
theorem qq2:goB Tryz.prog 40 = true:=by kernel_rfl
theorem qly:goB Tryz.prog 43 = true:=by kernel_rfl
theorem qnn:goB Tryz.prog 44 = true:=by kernel_rfl
theorem qnb:goB Tryz.prog 53 = true:=by kernel_rfl
theorem qps:goB Tryz.prog 55 = true:=by kernel_rfl
theorem qq1:goB Tryz.prog 56 = true:=by kernel_rfl
theorem qpm:goB Tryz.prog 57 = true:=by kernel_rfl
theorem qrb:goB Tryz.prog 58 = true:=by kernel_rfl
theorem qrv:goB Tryz.prog 59 = true:=by kernel_rfl
theorem qq5:goB Tryz.prog 65 = true:=by kernel_rfl
theorem qrC:goB Tryz.prog 66 = true:=by kernel_rfl
theorem qq6:goB Tryz.prog 67 = true:=by kernel_rfl
theorem qrw:goB Tryz.prog 68 = true:=by kernel_rfl
theorem qnp:goB Tryz.prog 69 = true:=by kernel_rfl
theorem qre:goB Tryz.prog 70 = true:=by kernel_rfl
theorem qrs:goB Tryz.prog 74 = true:=by kernel_rfl
theorem qka:goB Tryz.prog 75 = true:=by kernel_rfl
theorem qlD:goB Tryz.prog 76 = true:=by kernel_rfl
theorem qq0:goB Tryz.prog 77 = true:=by kernel_rfl
theorem qq9:goB Tryz.prog 78 = true:=by kernel_rfl
theorem qpx:goB Tryz.prog 80 = true:=by kernel_rfl
theorem qpv:goB Tryz.prog 81 = true:=by kernel_rfl
theorem qbS:∃ i,Tryz.prog.info? 102 = some i ∧ i.size = 3:=⟨_,rfl,by kernel_rfl⟩
theorem qqi:∃ i,Tryz.prog.info? 105 = some i ∧ i.size = 1:=⟨_,rfl,by kernel_rfl⟩
theorem qpS:∃ i,Tryz.prog.info? 107 = some i ∧ i.size = 2:=⟨_,rfl,by kernel_rfl⟩
theorem qgg:∃ i,Tryz.prog.info? 63 = some i ∧ i.size = 6:=⟨_,rfl,by kernel_rfl⟩
theorem qg3:∃ i,Tryz.prog.info? 65 = some i ∧ i.size = 2:=⟨_,rfl,by kernel_rfl⟩
theorem qqD:∃ i,Tryz.prog.info? 81 = some i ∧ i.size = 1:=⟨_,rfl,by kernel_rfl⟩
theorem qqB:∃ i,Tryz.prog.info? 85 = some i ∧ i.size = 1:=⟨_,rfl,by kernel_rfl⟩
theorem qex:∃ i,Tryz.prog.info? 9 = some i ∧ i.size = 1:=⟨_,rfl,by kernel_rfl⟩
theorem ql1:∃ i,Tryz.prog.info? 107 = some i:=⟨_,rfl⟩
theorem qoK:liesAt Tryz.prog Tryz.prog.depth 107 (2 / Tryz.prog.cellsOf 107) 0 107 1 = true:=by kernel_rfl
theorem qkU:oneB Tryz.prog 105 = true:=by kernel_rfl
theorem qa2:oneB Tryz.prog 22 = true:=by kernel_rfl
theorem qat:oneB Tryz.prog 3 = true:=by kernel_rfl
theorem qaZ:oneB Tryz.prog 61 = true:=by kernel_rfl
theorem qi8:oneB Tryz.prog 79 = true:=by kernel_rfl
theorem qqG:oneB Tryz.prog 85 = true:=by kernel_rfl
theorem qah:oneB Tryz.prog 9 = true:=by kernel_rfl
theorem qnF:qeh Tryz.prog 102 = some [(0,1),(1,1),(2,1)]:=by kernel_rfl
theorem qln:qeh Tryz.prog 63 = some [(0,1),(1,1),(2,1),(3,1),(4,1),(5,1)]:=by kernel_rfl
theorem qon:qeh Tryz.prog 81 = some [(0,1)]:=by kernel_rfl
theorem qbj:SlT Tryz.prog 22 63 6:=SlT.of (by kernel_rfl)
theorem qbe:SlT Tryz.prog 61 65 2:=SlT.of (by kernel_rfl)
theorem qjo:SlT Tryz.prog 85 5 1:=SlT.of (by kernel_rfl)
theorem qhH:qlG Tryz.prog 4 = some (vb false):=by kernel_rfl
theorem qiu:qcn Tryz.prog 102 = some [vb false,(vs ([])),(vs ([]))]:=by kernel_rfl
theorem qo0:qcn Tryz.prog 107 = some [(Value.pointer none),(Value.slice none 0 0)]:=by kernel_rfl
theorem qhR:qcn Tryz.prog 5 = some [(Value.int .u8 0)]:=by kernel_rfl
theorem qeV:qcn Tryz.prog 63 = some [vi 0,(vs ([])),(vs ([])),(vs ([])),(Value.slice none 0 0),(Value.slice none 0 0)]:=by kernel_rfl
theorem qf1:qcn Tryz.prog 65 = some [(vs ([])),(Value.slice none 0 0)]:=by kernel_rfl
theorem qm3:qcn Tryz.prog 81 = some [(Value.map none)]:=by kernel_rfl
def qiY (u:World) (m0:Mem) (S:Segs) (r:Bool) (a:Act) (w:World):Prop :=
 Ok u m0 S w ∧ a.defers = [] ∧ RVs Tryz.prog a w [.t 2 (.bool r)]
theorem qbN (N:Nat) (kind_0:Int) (rkind_0:InR .i64 kind_0) {r:Bool} (hF:qa3 N kind_0 = some r) (hG:Glob u) (ok:Ok u m0 S w) :
  Calls Tryz.prog 28 [vi kind_0].toArray w fun e w'=>(e = .returned (.bool r) ∧ Ok u m0 S w'):=by
 unfold qa3 at hF
 refine en (qiY u m0 S) r Tryz.func28 rfl rfl rfl (fun _ _ h=>ra h rfl) fun fin a E=>sg<|aw E rfl fun a E=>sg<|mv E rfl fun a E=>lw E (qcB rfl rfl) fun a E=>mv E rfl fun a E=>bu E 5 hF (fun c1 hF E=>?_) fun c1 hF E=>?_
 ·refine mv E rfl fun a E=>lw E (qcd rfl rfl) fun a E=>pt E rfl rfl fun a E=>aw E rfl fun a E=>wp_ret ?_
  exact fin hF ⟨ok,E.d,rz E rfl⟩
 refine lsq E fun a E=>pf E rfl rfl fun a E=>aw E rfl fun a E=>wp_ret ?_
 exact fin hF ⟨ok,E.d,rz E rfl⟩
def qkQ (u:World) (m0:Mem) (S:Segs) (r:Bool) (a:Act) (w:World):Prop :=
 Ok u m0 S w ∧ a.defers = [] ∧ RVs Tryz.prog a w [.t 2 (.bool r)]
theorem qkR (N:Nat) (c_0:Int) (rc_0:InR .u8 c_0) {r:Bool} (hF:qfa N c_0 = some r) (hG:Glob u) (ok:Ok u m0 S w) :
  Calls Tryz.prog 40 [Value.int .u8 c_0].toArray w fun e w'=>(e = .returned (.bool r) ∧ Ok u m0 S w'):=by
 unfold qfa at hF
 refine en (qkQ u m0 S) r Tryz.func40 rfl rfl rfl (fun _ _ h=>ra h rfl) fun fin a E=>sg<|aw E rfl fun a E=>sg<|mv E rfl fun a E=>lw E (qcB rfl rfl) fun a E=>mv E rfl fun a E=>bw E 5 hF (fun c1 hF E=>?_) fun c1 hF E=>?_
 ·as_aux_lemma =>
   refine lsq E fun a E=>pf E rfl rfl fun a E=>mz E rfl rfl fun a E=>lw E (qcB rfl rfl) fun a E=>mv E rfl fun a E=>bw E 12 hF (fun c7 hF E=>?_) fun c7 hF E=>?_
   ·refine lsq E fun a E=>pf E rfl rfl fun a E=>pf E rfl rfl fun a E=>mz E rfl rfl fun a E=>lw E (qcB rfl rfl) fun a E=>mv E rfl fun a E=>bu E 20 hF (fun c10 hF E=>?_) fun c10 hF E=>?_
    ·refine mv E rfl fun a E=>lw E (qcd rfl rfl) fun a E=>pt E rfl rfl fun a E=>pf E rfl rfl fun a E=>aw E rfl fun a E=>wp_ret ?_
     exact fin hF ⟨ok,E.d,rz E rfl⟩
    refine lsq E fun a E=>pf E rfl rfl fun a E=>pf E rfl rfl fun a E=>aw E rfl fun a E=>wp_ret ?_
    exact fin hF ⟨ok,E.d,rz E rfl⟩
   refine mv E rfl fun a E=>lw E (qcd rfl rfl) fun a E=>pt E rfl rfl fun a E=>pf E rfl rfl fun a E=>mv E rfl fun a E=>bu E 17 hF (fun c8 hF E=>?_) fun c8 hF E=>?_
   ·refine lsz E fun a E=>lsq E fun a E=>pt E rfl rfl fun a E=>av E rfl fun a E=>wn<|wp_ret ?_
    exact fin hF ⟨ok,E.d,rz E rfl⟩
   refine mv E rfl fun a E=>lw E (qcB rfl rfl) fun a E=>mv E rfl fun a E=>bu E 20 hF (fun c9 hF E=>?_) fun c9 hF E=>?_
   ·refine mv E rfl fun a E=>lw E (qcd rfl rfl) fun a E=>pt E rfl rfl fun a E=>pf E rfl rfl fun a E=>aw E rfl fun a E=>wp_ret ?_
    exact fin hF ⟨ok,E.d,rz E rfl⟩
   refine lsq E fun a E=>pf E rfl rfl fun a E=>pf E rfl rfl fun a E=>aw E rfl fun a E=>wp_ret ?_
   exact fin hF ⟨ok,E.d,rz E rfl⟩
 refine mv E rfl fun a E=>lw E (qcd rfl rfl) fun a E=>pt E rfl rfl fun a E=>mv E rfl fun a E=>bu E 9 hF (fun c2 hF E=>?_) fun c2 hF E=>?_
 ·refine lsz E fun a E=>lsq E fun a E=>pt E rfl rfl fun a E=>mv E rfl fun a E=>lsz E fun a E=>lsq E fun a E=>pt E rfl rfl fun a E=>av E rfl fun a E=>?_
  refine wn<|wp_ret ?_
  exact fin hF ⟨ok,E.d,rz E rfl⟩
 refine mv E rfl fun a E=>lw E (qcB rfl rfl) fun a E=>mv E rfl fun a E=>bw E 12 hF (fun c3 hF E=>?_) fun c3 hF E=>?_
 ·refine lsq E fun a E=>pf E rfl rfl fun a E=>pf E rfl rfl fun a E=>mz E rfl rfl fun a E=>lw E (qcB rfl rfl) fun a E=>mv E rfl fun a E=>bu E 20 hF (fun c6 hF E=>?_) fun c6 hF E=>?_
  ·refine mv E rfl fun a E=>lw E (qcd rfl rfl) fun a E=>pt E rfl rfl fun a E=>pf E rfl rfl fun a E=>aw E rfl fun a E=>wp_ret ?_
   exact fin hF ⟨ok,E.d,rz E rfl⟩
  refine lsq E fun a E=>pf E rfl rfl fun a E=>pf E rfl rfl fun a E=>aw E rfl fun a E=>wp_ret ?_
  exact fin hF ⟨ok,E.d,rz E rfl⟩
 refine mv E rfl fun a E=>lw E (qcd rfl rfl) fun a E=>pt E rfl rfl fun a E=>pf E rfl rfl fun a E=>mv E rfl fun a E=>bu E 17 hF (fun c4 hF E=>?_) fun c4 hF E=>?_
 ·refine lsz E fun a E=>lsq E fun a E=>pt E rfl rfl fun a E=>av E rfl fun a E=>wn<|wp_ret ?_
  exact fin hF ⟨ok,E.d,rz E rfl⟩
 refine mv E rfl fun a E=>lw E (qcB rfl rfl) fun a E=>mv E rfl fun a E=>bu E 20 hF (fun c5 hF E=>?_) fun c5 hF E=>?_
 ·refine mv E rfl fun a E=>lw E (qcd rfl rfl) fun a E=>pt E rfl rfl fun a E=>pf E rfl rfl fun a E=>aw E rfl fun a E=>wp_ret ?_
  exact fin hF ⟨ok,E.d,rz E rfl⟩
 refine lsq E fun a E=>pf E rfl rfl fun a E=>pf E rfl rfl fun a E=>aw E rfl fun a E=>wp_ret ?_
 exact fin hF ⟨ok,E.d,rz E rfl⟩
def qjc (u:World) (m0:Mem) (S:Segs) (r:Bool) (a:Act) (w:World):Prop :=
 Ok u m0 S w ∧ a.defers = [] ∧ RVs Tryz.prog a w [.t 2 (.bool r)]
theorem qd7 (N:Nat) (s_0:List UInt8) (ls_0:s_0.length ≤ LIMS) {r:Bool} (hF:qbY N s_0 = some r) (hG:Glob u) (ok:Ok u m0 S w) :
  Calls Tryz.prog 22 [vs s_0].toArray w fun e w'=>(e = .returned (.bool r) ∧ Ok u m0 S w'):=by
 unfold qbY at hF
 refine en (qjc u m0 S) r Tryz.func22 rfl rfl rfl (fun _ _ h=>ra h rfl) fun fin a E=>sg<|aw E rfl fun a E=>wp_seq<|sg<|mv E rfl fun a E=>lw E (qbf rfl rfl) fun a E=>mv E rfl fun a E=>bu E 6 hF (fun c1 hF E=>?_) fun c1 hF E=>?_
 ·refine lsq E fun a E=>ls E fun a E=>pt E rfl rfl fun a E=>mv E rfl fun a E=>lsq E fun a E=>ls E fun a E=>pt E rfl rfl fun a E=>mv E rfl fun a E=>lsq E fun a E=>ls E fun a E=>pt E rfl rfl fun a E=>wn<|c_if E rfl (fun _=>?_) (fun h=>by cases h)
  refine sg<|aw E rfl fun a E=>wp_ret<|qaf ?_
  exact fin hF ⟨ok,E.d,rz E rfl⟩
 refine mv E rfl fun a E=>lw E (qaG Tryz.underlying9 rfl) fun a E=>lw E (qa9 rfl rfl) fun a E=>pf E rfl rfl fun a E=>mv E rfl fun a E=>bu E 11 hF (fun c2 hF E=>?_) fun c2 hF E=>?_
 ·refine lsq E fun a E=>ls E fun a E=>pt E rfl rfl fun a E=>mv E rfl fun a E=>lsq E fun a E=>ls E fun a E=>pt E rfl rfl fun a E=>wn<|c_if E rfl (fun _=>?_) (fun h=>by cases h)
  refine sg<|aw E rfl fun a E=>wp_ret<|qaf ?_
  exact fin hF ⟨ok,E.d,rz E rfl⟩
 refine mv E rfl fun a E=>bd hF fun c3 e4 hF=>lv E ok (qbM Tryz.underlying9 rfl rfl e4) fun a E=>lw E (qaJ rfl rfl) fun a E=>pf E rfl rfl fun a E=>mv E rfl fun a E=>bu E 16 hF (fun c5 hF E=>?_) fun c5 hF E=>?_
 ·refine lsq E fun a E=>ls E fun a E=>pt E rfl rfl fun a E=>wn<|c_if E rfl (fun _=>?_) (fun h=>by cases h)
  refine sg<|aw E rfl fun a E=>wp_ret<|qaf ?_
  exact fin hF ⟨ok,E.d,rz E rfl⟩
 refine mv E rfl fun a E=>bd hF fun c6 e7 hF=>lv E ok (qbM Tryz.underlying9 rfl rfl e7) fun a E=>lw E (qa9 rfl rfl) fun a E=>pf E rfl rfl fun a E=>wn<|cf E rfl hF (fun c8 hF=>?_) fun c8 hF=>?_
 ·refine sg<|aw E rfl fun a E=>wp_ret<|qaf ?_
  exact fin hF ⟨ok,E.d,rz E rfl⟩
 refine wp_skip<|qaa<|wp_seq<|sg<|mv E rfl fun a E=>lw E (qaG Tryz.underlying9 rfl) fun a E=>mv E rfl fun a E=>wn<|wp_block<|bd hF fun o10 hL hF=>qaX _ (fun (s:Int) a w=>Ok u m0 (S) w ∧ Env 44 a [(0,vs s_0),(22,(vi (s_0.length:Int))),(23,vi s)] ∧ InR .i64 s) (fun (b:(Unit ⊕ Bool)) e a w=>(Sum.elim (fun b26=>e = (.exit 0) ∧ Ok u m0 (S) w ∧ Env 44 a []) (fun b27=>e = .ret ∧ qjc u m0 S b27 a w)) b) ?_ ?_ N _ a w hL ⟨ok,E.keep [0,22,23],(ir 0)⟩
 rotate_left
 ·intro e a w _ hO
  rcases o10 with o10 | o10
  rotate_left
  ·obtain ⟨rfl,hret⟩:=hO
   refine qam<|qaf ?_
   exact fin hF hret
  have hF:=qcl hF
  obtain ⟨rfl,ok,E⟩:=hO
  refine qba<|qaa<|sg<|aw E rfl fun a E=>wp_ret ?_
  exact fin hF ⟨ok,E.d,rz E rfl⟩
 rintro v12 a w r ⟨ok,E,r13⟩ hF
 replace hF:qeR N s_0 v12 = some r:=hF
 unfold qeR at hF
 refine sg<|lw E (qaJ rfl rfl) fun a E=>wn<|wp_seq<|cg E rfl hF (fun c14 hF=>?_) fun c14 hF=>?_
 ·refine wp_exit<|qaO ?_
  cases hF
  exact so (sl ⟨rfl,⟨ok,E.keep []⟩⟩)
 refine wp_skip<|qaa<|wp_seq<|wp_block<|sg<|mv E rfl fun a E=>av E rfl fun a E=>wn<|sg<|mz E rfl rfl fun a E=>bd hF fun c15 e16 hF=>lv E ok (qbM Tryz.underlying9 rfl rfl e16) fun a E=>bd hF fun r17 e18 hF=>lc E qq2 rfl (qkR N (c15.toNat:Int) (InR.byte c15) e18 hG ok) fun w ok a E=>lw E (qaz rfl) fun a E=>mv E rfl fun a E=>bw E 31 hF (fun c19 hF E=>?_) fun c19 hF E=>?_
 ·refine lsz E fun a E=>pf E rfl rfl fun a E=>mv E rfl fun a E=>lsz E fun a E=>pf E rfl rfl fun a E=>wn<|c_if E rfl (fun h=>by cases h) (fun _=>?_)
  refine wp_skip<|qag<|qaa<|qab<|lw E (qau rfl rfl (InR.inc r13 (InR.len ls_0) c14)) fun a E=>mv E rfl fun a E=>wpList_nil ?_
  cases hF
  exact qap ⟨ok,E.keep [0,22,23],(InR.inc r13 (InR.len ls_0) c14)⟩
 refine mz E rfl rfl fun a E=>bd hF fun c20 e21 hF=>lv E ok (qbM Tryz.underlying9 rfl rfl e21) fun a E=>lw E (qda rfl rfl) fun a E=>pt E rfl rfl fun a E=>mv E rfl fun a E=>bw E 37 hF (fun c22 hF E=>?_) fun c22 hF E=>?_
 ·refine lsz E fun a E=>pf E rfl rfl fun a E=>wn<|c_if E rfl (fun h=>by cases h) (fun _=>?_)
  refine wp_skip<|qag<|qaa<|qab<|lw E (qau rfl rfl (InR.inc r13 (InR.len ls_0) c14)) fun a E=>mv E rfl fun a E=>wpList_nil ?_
  cases hF
  exact qap ⟨ok,E.keep [0,22,23],(InR.inc r13 (InR.len ls_0) c14)⟩
 refine mz E rfl rfl fun a E=>bd hF fun c23 e24 hF=>lv E ok (qbM Tryz.underlying9 rfl rfl e24) fun a E=>lw E (qda rfl rfl) fun a E=>pt E rfl rfl fun a E=>wn<|cg E rfl hF (fun c25 hF=>?_) fun c25 hF=>?_
 ·refine wp_skip<|qag<|qaa<|qab<|lw E (qau rfl rfl (InR.inc r13 (InR.len ls_0) c14)) fun a E=>mv E rfl fun a E=>wpList_nil ?_
  cases hF
  exact qap ⟨ok,E.keep [0,22,23],(InR.inc r13 (InR.len ls_0) c14)⟩
 refine sg<|aw E rfl fun a E=>wp_ret<|qam<|qaf ?_
 cases hF
 exact so (sr ⟨rfl,⟨ok,E.d,rz E rfl⟩⟩)
def qgz (u:World) (m0:Mem) (S:Segs) (r:Bool) (a:Act) (w:World):Prop :=
 Ok u m0 S w ∧ a.defers = [] ∧ RVs Tryz.prog a w [.t 2 (.bool r)]
theorem qjy (N:Nat) (s_0:List UInt8) (ls_0:s_0.length ≤ LIMS) {r:Bool} (hF:qel N s_0 = some r) (hG:Glob u) (ok:Ok u m0 S w) :
  Calls Tryz.prog 66 [vs s_0].toArray w fun e w'=>(e = .returned (.bool r) ∧ Ok u m0 S w'):=by
 unfold qel at hF
 refine en (qgz u m0 S) r Tryz.func66 rfl rfl rfl (fun _ _ h=>ra h rfl) fun fin a E=>sg<|aw E rfl fun a E=>wp_seq<|sg<|mv E rfl fun a E=>lw E (qaG Tryz.underlying9 rfl) fun a E=>mv E rfl fun a E=>wn<|wp_block<|bd hF fun o2 hL hF=>qaX _ (fun (s:Int) a w=>Ok u m0 (S) w ∧ Env 35 a [(0,vs s_0),(6,(vi (s_0.length:Int))),(7,vi s)] ∧ InR .i64 s) (fun (b:(Unit ⊕ Bool)) e a w=>(Sum.elim (fun b16=>e = (.exit 0) ∧ Ok u m0 (S) w ∧ Env 35 a [(0,vs s_0)]) (fun b17=>e = .ret ∧ qgz u m0 S b17 a w)) b) ?_ ?_ N _ a w hL ⟨ok,E.keep [0,6,7],(ir 0)⟩
 rotate_left
 ·intro e a w _ hO
  rcases o2 with o2 | o2
  rotate_left
  ·obtain ⟨rfl,hret⟩:=hO
   refine qam<|qaf ?_
   exact fin hF hret
  have hF:=qcl hF
  obtain ⟨rfl,ok,E⟩:=hO
  refine qba<|qaa<|sg<|mv E rfl fun a E=>lw E (qbB rfl rfl) fun a E=>mv E rfl fun a E=>bu E 30 hF (fun c15 hF E=>?_) fun c15 hF E=>?_
  ·refine mv E rfl fun a E=>lw E (qaG Tryz.underlying9 rfl) fun a E=>lw E (qcd rfl rfl) fun a E=>pt E rfl rfl fun a E=>aw E rfl fun a E=>wp_ret ?_
   exact fin hF ⟨ok,E.d,rz E rfl⟩
  refine lsq E fun a E=>ls E fun a E=>pf E rfl rfl fun a E=>aw E rfl fun a E=>wp_ret ?_
  exact fin hF ⟨ok,E.d,rz E rfl⟩
 rintro v4 a w r ⟨ok,E,r5⟩ hF
 replace hF:qdH N s_0 v4 = some r:=hF
 unfold qdH at hF
 refine sg<|lw E (qaJ rfl rfl) fun a E=>wn<|wp_seq<|cg E rfl hF (fun c6 hF=>?_) fun c6 hF=>?_
 ·refine wp_exit<|qaO ?_
  cases hF
  exact so (sl ⟨rfl,⟨ok,E.keep [0]⟩⟩)
 refine wp_skip<|qaa<|wp_seq<|wp_block<|sg<|mv E rfl fun a E=>av E rfl fun a E=>wn<|sg<|mz E rfl rfl fun a E=>bd hF fun c7 e8 hF=>lv E ok (qbM Tryz.underlying9 rfl rfl e8) fun a E=>aw E rfl fun a E=>wp_seq<|bd hF fun o9 hJ hF=>qaK (Q':=fun e a w=>e = .normal ∧ Ok u m0 (S) w ∧ Env 35 a [(0,vs s_0),(6,(vi (s_0.length:Int))),(7,vi v4),(26,vb o9)]) ?_ ?_
 rotate_left
 ·intro e a w hO
  obtain ⟨rfl,ok,E⟩:=hO
  refine qaa<|cg E rfl hF (fun c14 hF=>?_) fun c14 hF=>?_
  ·refine wp_skip<|qag<|qaa<|qab<|lw E (qau rfl rfl (InR.inc r5 (InR.len ls_0) c6)) fun a E=>mv E rfl fun a E=>wpList_nil ?_
   cases hF
   exact qap ⟨ok,E.keep [0,6,7],(InR.inc r5 (InR.len ls_0) c6)⟩
  refine sg<|aw E rfl fun a E=>wp_ret<|qam<|qaf ?_
  cases hF
  exact so (sr ⟨rfl,⟨ok,E.d,rz E rfl⟩⟩)
 have hF:=hJ
 refine qab<|mv E rfl fun a E=>lw E (qaJ rfl rfl) fun a E=>mv E rfl fun a E=>bu E 15 hF (fun c10 hF E=>?_) fun c10 hF E=>?_
 ·refine lsq E fun a E=>pt E rfl rfl fun a E=>mz E rfl rfl fun a E=>lw E (qaJ rfl rfl) fun a E=>mv E rfl fun a E=>bu E 22 hF (fun c11 hF E=>?_) fun c11 hF E=>?_
  ·refine lsq E fun a E=>pt E rfl rfl fun a E=>pt E rfl rfl fun a E=>wpList_nil ?_
   cases hF
   exact ⟨rfl,⟨ok,E.keep [0,6,7,26]⟩⟩
  refine mv E rfl fun a E=>lw E (qa9 rfl rfl) fun a E=>pf E rfl rfl fun a E=>pt E rfl rfl fun a E=>wpList_nil ?_
  cases hF
  exact ⟨rfl,⟨ok,E.keep [0,6,7,26]⟩⟩
 refine mv E rfl fun a E=>lw E (qa9 rfl rfl) fun a E=>pf E rfl rfl fun a E=>mv E rfl fun a E=>bw E 19 hF (fun c12 hF E=>?_) fun c12 hF E=>?_
 ·refine lsz E fun a E=>lsq E fun a E=>pf E rfl rfl fun a E=>wpList_nil ?_
  cases hF
  exact ⟨rfl,⟨ok,E.keep [0,6,7,26]⟩⟩
 refine mv E rfl fun a E=>lw E (qaJ rfl rfl) fun a E=>mv E rfl fun a E=>bu E 22 hF (fun c13 hF E=>?_) fun c13 hF E=>?_
 ·refine lsq E fun a E=>pt E rfl rfl fun a E=>pt E rfl rfl fun a E=>wpList_nil ?_
  cases hF
  exact ⟨rfl,⟨ok,E.keep [0,6,7,26]⟩⟩
 refine mv E rfl fun a E=>lw E (qa9 rfl rfl) fun a E=>pf E rfl rfl fun a E=>pt E rfl rfl fun a E=>wpList_nil ?_
 cases hF
 exact ⟨rfl,⟨ok,E.keep [0,6,7,26]⟩⟩
def qkB (u:World) (m0:Mem) (S:Segs) (r:Bool) (a:Act) (w:World):Prop :=
 Ok u m0 S w ∧ a.defers = [] ∧ RVs Tryz.prog a w [.t 2 (.bool r)]
theorem qkh (N:Nat) (vx_0:List Value) (x_0:Part) (hx_0:qbD m0 vx_0 x_0) {r:Bool} (hF:qee N x_0 = some r) (hG:Glob u) (ok:Ok u m0 S w) :
  Calls Tryz.prog 56 [.agg vx_0.toArray].toArray w fun e w'=>(e = .returned (.bool r) ∧ Ok u m0 S w'):=by
 obtain ⟨c5,c7,rfl,r1,l2,l3,l4,h6,h8⟩:=(qaL.1 hx_0)
 have le_m0:=Mem.le.refl m0
 unfold qee at hF
 refine en (qkB u m0 S) r Tryz.func56 rfl rfl rfl (fun _ _ h=>ra h rfl) fun fin a E=>sg<|qdf E ok rfl rfl rfl fun b9 a w E ok=>aw E rfl fun a E=>sg<|fk E ok qar qat rfl 0 rfl rfl fun a E=>lw E (qav (ps:=[(0,.tmp 6)]) (qs:=[(0,[vi x_0.Kind])]) (cs:=[vi x_0.Kind,(vs ([])),(vs ([])),(vs ([])),(Value.slice none 0 0),(Value.slice none 0 0)]) qeV qln rfl ⟨rfl,rfl,rfl,trivial⟩ rfl) fun a E=>qbh E ok qeV rfl rfl fun b10 a w E ok=>qai E ok 0 rfl rfl rfl qgg rfl rfl ⟨rfl,rfl,rfl,rfl,rfl,rfl,trivial⟩ rfl rfl fun w ok=>wn<|sg<|aw E rfl fun a E=>wp_seq<|sg<|fk E ok qar qat rfl 1 rfl rfl fun a E=>wn<|wp_block<|sg<|lw E (qao rfl rfl) fun a E=>?_
 refine aw E rfl fun a E=>bd hF fun o11 hJ hF=>qaK (Q':=fun e a w=>e = .normal ∧ Ok u m0 ([(b10,oc 63 [vi o11.2.Kind,vs o11.2.Text,vs o11.2.Name,vs o11.2.Style,(Value.slice none 0 0),(Value.slice none 0 0)])] :: [(b9,oc 63 [vi x_0.Kind,vs x_0.Text,vs x_0.Name,vs x_0.Style,c5,c7])] :: S) w ∧ Env 136 a [(1,vp b9),(3,vp b10),(4,vb o11.1)] ∧ InR .i64 o11.2.Kind ∧ o11.2.Text.length ≤ LIMS ∧ o11.2.Name.length ≤ LIMS ∧ o11.2.Style.length ≤ LIMS) ?_ ?_
 ·as_aux_lemma =>
   have hF:=hJ
   refine cf E rfl hF (fun c16 hF=>?_) fun c16 hF=>?_
   ·refine sg<|fk E ok qbR qah rfl 1 rfl rfl fun a E=>fv E qbR rfl fun a E=>qai E ok 0 rfl rfl rfl qex rfl rfl ⟨rfl,trivial⟩ rfl rfl fun w ok=>wn<|qab<|fk E ok qbR qah rfl 1 rfl rfl fun a E=>lw E (qbB rfl rfl) fun a E=>av E rfl fun a E=>wpList_nil ?_
    cases hF
    exact ⟨rfl,⟨ok,E.keep [1,3,4],r1,l2,(Nat.zero_le _),(Nat.zero_le _)⟩⟩
   refine wp_seq<|sg<|lw E (qao rfl rfl) fun a E=>aw E rfl fun a E=>bd hF fun o17 hJ hF=>qaK (Q':=fun e a w=>e = .normal ∧ Ok u m0 ([(b10,oc 63 [vi x_0.Kind,(vs ([])),(vs ([])),(vs ([])),(Value.slice none 0 0),(Value.slice none 0 0)])] :: [(b9,oc 63 [vi x_0.Kind,vs x_0.Text,vs x_0.Name,vs x_0.Style,c5,c7])] :: S) w ∧ Env 136 a [(1,vp b9),(3,vp b10),(4,vb true),(9,vi x_0.Kind),(18,vb o17)]) ?_ ?_
   ·have hF:=hJ
    refine cf E rfl hF (fun c18 hF=>?_) fun c18 hF=>?_
    ·refine wp_skip ?_
     cases hF
     exact ⟨rfl,⟨ok,E.keep [1,3,4,9,18]⟩⟩
    refine sg<|lw E (qao rfl rfl) fun a E=>aw E rfl fun a E=>cf E rfl hF (fun c19 hF=>?_) fun c19 hF=>?_
    ·refine wp_skip ?_
     cases hF
     exact ⟨rfl,⟨ok,E.keep [1,3,4,9,18]⟩⟩
    refine sg<|lw E (qao rfl rfl) fun a E=>aw E rfl fun a E=>cf E rfl hF (fun c20 hF=>?_) fun c20 hF=>?_
    ·refine wp_skip ?_
     cases hF
     exact ⟨rfl,⟨ok,E.keep [1,3,4,9,18]⟩⟩
    refine sg<|lw E (qao rfl rfl) fun a E=>aw E rfl fun a E=>cf E rfl hF (fun c21 hF=>?_) fun c21 hF=>?_
    ·refine wp_skip ?_
     cases hF
     exact ⟨rfl,⟨ok,E.keep [1,3,4,9,18]⟩⟩
    refine qab<|lw E (qao rfl rfl) fun a E=>av E rfl fun a E=>wpList_nil ?_
    cases hF
    exact ⟨rfl,⟨ok,E.keep [1,3,4,9,18]⟩⟩
   intro e a w hO
   obtain ⟨rfl,ok,E⟩:=hO
   refine qaa<|cf E rfl hF (fun c22 hF=>?_) fun c22 hF=>?_
   ·refine qab<|fk E ok qaw qah rfl 1 rfl rfl fun a E=>fv E qaw rfl fun a E=>qai E ok 0 rfl rfl rfl qex rfl rfl ⟨rfl,trivial⟩ rfl rfl fun w ok=>wpList_nil ?_
    cases hF
    exact ⟨rfl,⟨ok,E.keep [1,3,4],r1,(Nat.zero_le _),l3,(Nat.zero_le _)⟩⟩
   refine sg<|lw E (qao rfl rfl) fun a E=>aw E rfl fun a E=>cf E rfl hF (fun c23 hF=>?_) fun c23 hF=>?_
   ·as_aux_lemma =>
     refine wp_seq<|bd hF fun o24 hJ hF=>qaK (Q':=fun e a w=>e = .normal ∧ Ok u m0 ([(b10,oc 63 [vi o24.Kind,vs o24.Text,vs o24.Name,vs o24.Style,(Value.slice none 0 0),(Value.slice none 0 0)])] :: [(b9,oc 63 [vi x_0.Kind,vs x_0.Text,vs x_0.Name,vs x_0.Style,c5,c7])] :: S) w ∧ Env 136 a [(1,vp b9),(3,vp b10)] ∧ InR .i64 o24.Kind ∧ o24.Text.length ≤ LIMS ∧ o24.Name.length ≤ LIMS ∧ o24.Style.length ≤ LIMS) ?_ ?_
     ·have hF:=hJ
      cases hF
      refine qbT [1] (Cls u m0 ([(b10,oc 63 [vi x_0.Kind,(vs ([])),(vs ([])),(vs ([])),(Value.slice none 0 0),(Value.slice none 0 0)])] :: [(b9,oc 63 [vi x_0.Kind,vs x_0.Text,vs x_0.Name,vs x_0.Style,c5,c7])] :: [])) (Cls u m0 ([(b9,oc 63 [vi x_0.Kind,vs x_0.Text,vs x_0.Name,vs x_0.Style,c5,c7])] :: [])) (by kernel_rfl) ?_
      intro w hw
      replace ok:=qck ok hw
      clear hw
      refine qan (cl1 (cq le_m0 ok [0,1] rfl) (cq le_m0 ok [1] rfl)) fun hT=>kt 0 E rfl hT (qad qaw rfl) fun a E=>qca 1 E rfl (by kernel_rfl) nP hT (qak qah rfl (qac.cown 1 rfl rfl)) rfl rfl fun a E=>kt 2 E rfl hT (qad qaT rfl) fun a E=>kt 3 E rfl hT (qak qah rfl (qac.cown 0 rfl rfl)) fun a E=>kt 4 E rfl hT (qad qaw rfl) fun a E=>qaC [5] (by kernel_rfl) rfl (qaH ?_)
      ·refine wo rfl<|qai E ok 0 rfl rfl rfl qex rfl rfl ⟨rfl,trivial⟩ rfl rfl fun w ok=>wn<|qan (cl2 (by kernel_rfl) (cq le_m0 ok [1] rfl)) fun hT=>kt 6 E rfl hT (qad qaT rfl) fun a E=>qaC [7] (by kernel_rfl) rfl (qaH ?_)
       ·refine wo rfl<|qai E ok 0 rfl rfl rfl qex rfl rfl ⟨rfl,trivial⟩ rfl rfl fun w ok=>wn<|qan (cl2 (by kernel_rfl) (cq le_m0 ok [1] rfl)) fun hT=>qbq (by kernel_rfl) ?_
        exact ⟨rfl,⟨ok,E.keep [1,3],r1,(Nat.zero_le _),l3,l4⟩⟩
     intro e a w hO
     obtain ⟨rfl,ok,E,r29,l30,l31,l32⟩:=hO
     refine qaa<|qab<|fk E ok qaT qah rfl 1 rfl rfl fun a E=>lw E (qbf rfl rfl) fun a E=>mv E rfl fun a E=>bu E 38 hF (fun c33 hF E=>?_) fun c33 hF E=>?_
     ·refine lsq E fun a E=>ls E fun a E=>pt E rfl rfl fun a E=>mv E rfl fun a E=>lsq E fun a E=>ls E fun a E=>pt E rfl rfl fun a E=>av E rfl fun a E=>wpList_nil ?_
      cases hF
      exact ⟨rfl,⟨ok,E.keep [1,3,4],r29,l30,l31,l32⟩⟩
     refine fk E ok qaT qah rfl 1 rfl rfl fun a E=>lw E (qbf rfl rfl) fun a E=>pf E rfl rfl fun a E=>mv E rfl fun a E=>bu E 43 hF (fun c34 hF E=>?_) fun c34 hF E=>?_
     ·refine lsq E fun a E=>ls E fun a E=>pt E rfl rfl fun a E=>av E rfl fun a E=>wpList_nil ?_
      cases hF
      exact ⟨rfl,⟨ok,E.keep [1,3,4],r29,l30,l31,l32⟩⟩
     refine fk E ok qaT qah rfl 1 rfl rfl fun a E=>lw E (qbf rfl rfl) fun a E=>pf E rfl rfl fun a E=>av E rfl fun a E=>wpList_nil ?_
     cases hF
     exact ⟨rfl,⟨ok,E.keep [1,3,4],r29,l30,l31,l32⟩⟩
   refine wp_seq<|sg<|lw E (qao rfl rfl) fun a E=>aw E rfl fun a E=>bd hF fun o35 hJ hF=>qaK (Q':=fun e a w=>e = .normal ∧ Ok u m0 ([(b10,oc 63 [vi x_0.Kind,(vs ([])),(vs ([])),(vs ([])),(Value.slice none 0 0),(Value.slice none 0 0)])] :: [(b9,oc 63 [vi x_0.Kind,vs x_0.Text,vs x_0.Name,vs x_0.Style,c5,c7])] :: S) w ∧ Env 136 a [(1,vp b9),(3,vp b10),(4,vb true),(9,vi x_0.Kind),(48,vb o35)]) ?_ ?_
   ·have hF:=hJ
    refine cf E rfl hF (fun c36 hF=>?_) fun c36 hF=>?_
    ·refine wp_skip ?_
     cases hF
     exact ⟨rfl,⟨ok,E.keep [1,3,4,9,48]⟩⟩
    refine qab<|lw E (qao rfl rfl) fun a E=>av E rfl fun a E=>wpList_nil ?_
    cases hF
    exact ⟨rfl,⟨ok,E.keep [1,3,4,9,48]⟩⟩
   intro e a w hO
   obtain ⟨rfl,ok,E⟩:=hO
   refine qaa<|cf E rfl hF (fun c37 hF=>?_) fun c37 hF=>?_
   ·refine wp_seq<|bd hF fun o38 hJ hF=>qaK (Q':=fun e a w=>e = .normal ∧ Ok u m0 ([(b10,oc 63 [vi o38.Kind,vs o38.Text,vs o38.Name,vs o38.Style,(Value.slice none 0 0),(Value.slice none 0 0)])] :: [(b9,oc 63 [vi x_0.Kind,vs x_0.Text,vs x_0.Name,vs x_0.Style,c5,c7])] :: S) w ∧ Env 136 a [(1,vp b9),(3,vp b10)] ∧ InR .i64 o38.Kind ∧ o38.Text.length ≤ LIMS ∧ o38.Name.length ≤ LIMS ∧ o38.Style.length ≤ LIMS) ?_ ?_
    rotate_left
    ·intro e a w hO
     obtain ⟨rfl,ok,E,r43,l44,l45,l46⟩:=hO
     refine qaa<|qab<|fk E ok qaT qah rfl 1 rfl rfl fun a E=>bd hF fun r47 e48 hF=>lc E qip rfl (qd7 N x_0.Style l4 e48 hG ok) fun w ok a E=>av E rfl fun a E=>wpList_nil ?_
     cases hF
     exact ⟨rfl,⟨ok,E.keep [1,3,4],r43,l44,l45,l46⟩⟩
    have hF:=hJ
    cases hF
    refine qbT [1] (Cls u m0 ([(b10,oc 63 [vi x_0.Kind,(vs ([])),(vs ([])),(vs ([])),(Value.slice none 0 0),(Value.slice none 0 0)])] :: [(b9,oc 63 [vi x_0.Kind,vs x_0.Text,vs x_0.Name,vs x_0.Style,c5,c7])] :: [])) (Cls u m0 ([(b9,oc 63 [vi x_0.Kind,vs x_0.Text,vs x_0.Name,vs x_0.Style,c5,c7])] :: [])) (by kernel_rfl) ?_
    intro w hw
    replace ok:=qck ok hw
    clear hw
    refine qan (cl1 (cq le_m0 ok [0,1] rfl) (cq le_m0 ok [1] rfl)) fun hT=>kt 0 E rfl hT (qad qaw rfl) fun a E=>qca 1 E rfl (by kernel_rfl) nP hT (qak qah rfl (qac.cown 1 rfl rfl)) rfl rfl fun a E=>kt 2 E rfl hT (qad qaT rfl) fun a E=>kt 3 E rfl hT (qak qah rfl (qac.cown 0 rfl rfl)) fun a E=>kt 4 E rfl hT (qad qaw rfl) fun a E=>qaC [5] (by kernel_rfl) rfl (qaH ?_)
    ·refine wo rfl<|qai E ok 0 rfl rfl rfl qex rfl rfl ⟨rfl,trivial⟩ rfl rfl fun w ok=>wn<|qan (cl2 (by kernel_rfl) (cq le_m0 ok [1] rfl)) fun hT=>kt 6 E rfl hT (qad qaT rfl) fun a E=>qaC [7] (by kernel_rfl) rfl (qaH ?_)
     ·refine wo rfl<|qai E ok 0 rfl rfl rfl qex rfl rfl ⟨rfl,trivial⟩ rfl rfl fun w ok=>wn<|qan (cl2 (by kernel_rfl) (cq le_m0 ok [1] rfl)) fun hT=>qbq (by kernel_rfl) ?_
      exact ⟨rfl,⟨ok,E.keep [1,3],r1,(Nat.zero_le _),l3,l4⟩⟩
   refine sg<|lw E (qao rfl rfl) fun a E=>aw E rfl fun a E=>cg E rfl hF (fun c49 hF=>?_) fun c49 hF=>?_
   ·refine sg<|lw E (qao rfl rfl) fun a E=>aw E rfl fun a E=>cf E rfl hF (fun c61 hF=>?_) fun c61 hF=>?_
    ·refine wp_skip ?_
     cases hF
     exact ⟨rfl,⟨ok,E.keep [1,3,4],r1,(Nat.zero_le _),(Nat.zero_le _),(Nat.zero_le _)⟩⟩
    refine qab<|av E rfl fun a E=>wpList_nil ?_
    cases hF
    exact ⟨rfl,⟨ok,E.keep [1,3,4],r1,(Nat.zero_le _),(Nat.zero_le _),(Nat.zero_le _)⟩⟩
   refine wp_seq<|bd hF fun o50 hJ hF=>qaK (Q':=fun e a w=>e = .normal ∧ Ok u m0 ([(b10,oc 63 [vi o50.Kind,vs o50.Text,vs o50.Name,vs o50.Style,(Value.slice none 0 0),(Value.slice none 0 0)])] :: [(b9,oc 63 [vi x_0.Kind,vs x_0.Text,vs x_0.Name,vs x_0.Style,c5,c7])] :: S) w ∧ Env 136 a [(1,vp b9),(3,vp b10)] ∧ InR .i64 o50.Kind ∧ o50.Text.length ≤ LIMS ∧ o50.Name.length ≤ LIMS ∧ o50.Style.length ≤ LIMS) ?_ ?_
   rotate_left
   ·intro e a w hO
    obtain ⟨rfl,ok,E,r55,l56,l57,l58⟩:=hO
    refine qaa<|qab<|fk E ok qaT qah rfl 1 rfl rfl fun a E=>bd hF fun r59 e60 hF=>lc E qrC rfl (qjy N x_0.Style l4 e60 hG ok) fun w ok a E=>av E rfl fun a E=>wpList_nil ?_
    cases hF
    exact ⟨rfl,⟨ok,E.keep [1,3,4],r55,l56,l57,l58⟩⟩
   have hF:=hJ
   cases hF
   refine qbT [1] (Cls u m0 ([(b10,oc 63 [vi x_0.Kind,(vs ([])),(vs ([])),(vs ([])),(Value.slice none 0 0),(Value.slice none 0 0)])] :: [(b9,oc 63 [vi x_0.Kind,vs x_0.Text,vs x_0.Name,vs x_0.Style,c5,c7])] :: [])) (Cls u m0 ([(b9,oc 63 [vi x_0.Kind,vs x_0.Text,vs x_0.Name,vs x_0.Style,c5,c7])] :: [])) (by kernel_rfl) ?_
   intro w hw
   replace ok:=qck ok hw
   clear hw
   refine qan (cl1 (cq le_m0 ok [0,1] rfl) (cq le_m0 ok [1] rfl)) fun hT=>kt 0 E rfl hT (qad qaw rfl) fun a E=>qca 1 E rfl (by kernel_rfl) nP hT (qak qah rfl (qac.cown 1 rfl rfl)) rfl rfl fun a E=>kt 2 E rfl hT (qad qaT rfl) fun a E=>kt 3 E rfl hT (qak qah rfl (qac.cown 0 rfl rfl)) fun a E=>kt 4 E rfl hT (qad qaw rfl) fun a E=>qaC [5] (by kernel_rfl) rfl (qaH ?_)
   ·refine wo rfl<|qai E ok 0 rfl rfl rfl qex rfl rfl ⟨rfl,trivial⟩ rfl rfl fun w ok=>wn<|qan (cl2 (by kernel_rfl) (cq le_m0 ok [1] rfl)) fun hT=>kt 6 E rfl hT (qad qaT rfl) fun a E=>qaC [7] (by kernel_rfl) rfl (qaH ?_)
    ·refine wo rfl<|qai E ok 0 rfl rfl rfl qex rfl rfl ⟨rfl,trivial⟩ rfl rfl fun w ok=>wn<|qan (cl2 (by kernel_rfl) (cq le_m0 ok [1] rfl)) fun hT=>qbq (by kernel_rfl) ?_
     exact ⟨rfl,⟨ok,E.keep [1,3],r1,(Nat.zero_le _),l3,l4⟩⟩
 intro e a w hO
 obtain ⟨rfl,ok,E,r62,l63,l64,l65⟩:=hO
 refine qag<|qaa<|wp_seq<|sg<|fk E ok qaw qah rfl 0 rfl rfl fun a E=>lw E (qbB rfl rfl) fun a E=>mv E rfl fun a E=>bu E 76 hF (fun c66 hF E=>?_) fun c66 hF E=>?_
 ·as_aux_lemma =>
   refine lsz E fun a E=>lsz E fun a E=>pt E rfl rfl fun a E=>wn<|c_if E rfl (fun _=>?_) (fun h=>by cases h)
   refine qab<|mz E rfl rfl fun a E=>qaW o11.1 (fun c67=>?_) (fun c67=>?_)
   rotate_left
   ·have hF:=qaV c67 hF
    have E:=E.upd 87 c67 rfl
    refine lsq E fun a E=>ls E fun a E=>pf E rfl rfl fun a E=>aw E rfl fun a E=>sg<|mz E rfl rfl fun a E=>lsz E fun a E=>ls E fun a E=>?_
    refine pf E rfl rfl fun a E=>mv E rfl fun a E=>lsz E fun a E=>ls E fun a E=>pf E rfl rfl fun a E=>mv E rfl fun a E=>lsz E fun a E=>ls E fun a E=>pf E rfl rfl fun a E=>mv E rfl fun a E=>?_
    refine lsz E fun a E=>lsz E fun a E=>ls E fun a E=>pf E rfl rfl fun a E=>mv E rfl fun a E=>lsz E fun a E=>ls E fun a E=>?_
    refine lsz E fun a E=>pf E rfl rfl fun a E=>aw E rfl fun a E=>wp_ret ?_
    exact fin hF ⟨ok.drop.drop,E.d,rz E rfl⟩
   have hF:=qaU c67 hF
   have E:=E.upd 87 c67 rfl
   refine fk E ok qaw qah rfl 1 rfl rfl fun a E=>bd hF fun r68 e69 hF=>lc E qip rfl (qd7 N x_0.Name l3 e69 hG ok) fun w ok a E=>pt E rfl rfl fun a E=>aw E rfl fun a E=>sg<|mz E rfl rfl fun a E=>qaW r68 (fun c70=>?_) (fun c70=>?_)
   rotate_left
   ·have hF:=qaV c70 hF
    have E:=E.upd 93 c70 rfl
    refine lsz E fun a E=>ls E fun a E=>pf E rfl rfl fun a E=>mv E rfl fun a E=>lsz E fun a E=>ls E fun a E=>pf E rfl rfl fun a E=>mv E rfl fun a E=>lsq E fun a E=>?_
    refine lsq E fun a E=>ls E fun a E=>pf E rfl rfl fun a E=>mv E rfl fun a E=>lsz E fun a E=>lsz E fun a E=>ls E fun a E=>pf E rfl rfl fun a E=>mv E rfl fun a E=>?_
    refine lsz E fun a E=>lsz E fun a E=>ls E fun a E=>pf E rfl rfl fun a E=>aw E rfl fun a E=>wp_ret ?_
    exact fin hF ⟨ok.drop.drop,E.d,rz E rfl⟩
   have hF:=qaU c70 hF
   have E:=E.upd 93 c70 rfl
   refine fk E ok qbR qah rfl 1 rfl rfl fun a E=>fk E ok qbR qah rfl 0 rfl rfl fun a E=>lw E (qbf rfl rfl) fun a E=>pt E rfl rfl fun a E=>mv E rfl fun a E=>bw E 100 hF (fun c71 hF E=>?_) fun c71 hF E=>?_
   ·refine lsz E fun a E=>ls E fun a E=>pf E rfl rfl fun a E=>mv E rfl fun a E=>lsz E fun a E=>ls E fun a E=>pf E rfl rfl fun a E=>mv E rfl fun a E=>lsq E fun a E=>?_
    refine lsz E fun a E=>lsq E fun a E=>ls E fun a E=>pf E rfl rfl fun a E=>mv E rfl fun a E=>lsz E fun a E=>lsq E fun a E=>ls E fun a E=>?_
    refine lsq E fun a E=>pf E rfl rfl fun a E=>aw E rfl fun a E=>wp_ret ?_
    exact fin hF ⟨ok.drop.drop,E.d,rz E rfl⟩
   refine fk E ok qaw qah rfl 1 rfl rfl fun a E=>fk E ok qaw qah rfl 0 rfl rfl fun a E=>lw E (qbf rfl rfl) fun a E=>pt E rfl rfl fun a E=>mv E rfl fun a E=>bw E 107 hF (fun c72 hF E=>?_) fun c72 hF E=>?_
   ·refine lsz E fun a E=>ls E fun a E=>pf E rfl rfl fun a E=>mv E rfl fun a E=>lsz E fun a E=>lsz E fun a E=>ls E fun a E=>?_
    refine pf E rfl rfl fun a E=>mv E rfl fun a E=>lsz E fun a E=>lsz E fun a E=>ls E fun a E=>pf E rfl rfl fun a E=>aw E rfl fun a E=>wp_ret ?_
    exact fin hF ⟨ok.drop.drop,E.d,rz E rfl⟩
   refine fk E ok qaT qah rfl 1 rfl rfl fun a E=>fk E ok qaT qah rfl 0 rfl rfl fun a E=>lw E (qbf rfl rfl) fun a E=>pt E rfl rfl fun a E=>mv E rfl fun a E=>bw E 114 hF (fun c73 hF E=>?_) fun c73 hF E=>?_
   ·refine lsz E fun a E=>lsz E fun a E=>ls E fun a E=>pf E rfl rfl fun a E=>mv E rfl fun a E=>lsz E fun a E=>ls E fun a E=>?_
    refine lsz E fun a E=>pf E rfl rfl fun a E=>aw E rfl fun a E=>wp_ret ?_
    exact fin hF ⟨ok.drop.drop,E.d,rz E rfl⟩
   refine fk E ok qaR qaZ rfl 1 rfl rfl fun a E=>lv E ok (qax qbe h6 rfl) fun a E=>lw E (qao rfl rfl) fun a E=>mv E rfl fun a E=>bu E 119 hF (fun c74 hF E=>?_) fun c74 hF E=>?_
   ·refine lsq E fun a E=>ls E fun a E=>pt E rfl rfl fun a E=>pt E rfl rfl fun a E=>mv E rfl fun a E=>fk E ok qbs qa2 rfl 1 rfl rfl fun a E=>lv E ok (qax qbj h8 rfl) fun a E=>lw E (qao rfl rfl) fun a E=>mv E rfl fun a E=>bu E 130 hF (fun c75 hF E=>?_) fun c75 hF E=>?_
    ·refine lsq E fun a E=>ls E fun a E=>pt E rfl rfl fun a E=>pt E rfl rfl fun a E=>aw E rfl fun a E=>wp_ret ?_
     exact fin hF ⟨ok.drop.drop,E.d,rz E rfl⟩
    refine fk E ok qar qat rfl 1 rfl rfl fun a E=>lw E (qao rfl rfl) fun a E=>pf E rfl rfl fun a E=>pt E rfl rfl fun a E=>aw E rfl fun a E=>wp_ret ?_
    exact fin hF ⟨ok.drop.drop,E.d,rz E rfl⟩
   refine fk E ok qar qat rfl 1 rfl rfl fun a E=>bd hF fun r76 e77 hF=>lc E qgM rfl (qbN N x_0.Kind r1 e77 hG ok) fun w ok a E=>pf E rfl rfl fun a E=>pt E rfl rfl fun a E=>mv E rfl fun a E=>qaW r76 (fun c78=>?_) (fun c78=>?_)
   rotate_left
   ·have hF:=qaV c78 hF
    have E:=E.upd 125 c78 rfl
    refine lsz E fun a E=>lsz E fun a E=>ls E fun a E=>pf E rfl rfl fun a E=>aw E rfl fun a E=>wp_ret ?_
    exact fin hF ⟨ok.drop.drop,E.d,rz E rfl⟩
   have hF:=qaU c78 hF
   have E:=E.upd 125 c78 rfl
   refine fk E ok qbs qa2 rfl 1 rfl rfl fun a E=>lv E ok (qax qbj h8 rfl) fun a E=>lw E (qao rfl rfl) fun a E=>mv E rfl fun a E=>bu E 130 hF (fun c79 hF E=>?_) fun c79 hF E=>?_
   ·refine lsq E fun a E=>ls E fun a E=>pt E rfl rfl fun a E=>pt E rfl rfl fun a E=>aw E rfl fun a E=>wp_ret ?_
    exact fin hF ⟨ok.drop.drop,E.d,rz E rfl⟩
   refine fk E ok qar qat rfl 1 rfl rfl fun a E=>lw E (qao rfl rfl) fun a E=>pf E rfl rfl fun a E=>pt E rfl rfl fun a E=>aw E rfl fun a E=>wp_ret ?_
   exact fin hF ⟨ok.drop.drop,E.d,rz E rfl⟩
 refine fk E ok qar qat rfl 1 rfl rfl fun a E=>lw E (qda rfl rfl) fun a E=>mv E rfl fun a E=>bw E 80 hF (fun c80 hF E=>?_) fun c80 hF E=>?_
 ·as_aux_lemma =>
   refine lsq E fun a E=>ls E fun a E=>pf E rfl rfl fun a E=>pf E rfl rfl fun a E=>wn<|c_if E rfl (fun h=>by cases h) (fun _=>?_)
   refine wp_skip<|qaa<|sg<|mz E rfl rfl fun a E=>qaW o11.1 (fun c96=>?_) (fun c96=>?_)
   rotate_left
   ·have hF:=qaV c96 hF
    have E:=E.upd 93 c96 rfl
    refine lsz E fun a E=>ls E fun a E=>pf E rfl rfl fun a E=>mv E rfl fun a E=>lsz E fun a E=>ls E fun a E=>pf E rfl rfl fun a E=>mv E rfl fun a E=>lsq E fun a E=>?_
    refine lsq E fun a E=>ls E fun a E=>pf E rfl rfl fun a E=>mv E rfl fun a E=>lsz E fun a E=>lsz E fun a E=>ls E fun a E=>pf E rfl rfl fun a E=>mv E rfl fun a E=>?_
    refine lsz E fun a E=>lsz E fun a E=>ls E fun a E=>pf E rfl rfl fun a E=>aw E rfl fun a E=>wp_ret ?_
    exact fin hF ⟨ok.drop.drop,E.d,rz E rfl⟩
   have hF:=qaU c96 hF
   have E:=E.upd 93 c96 rfl
   refine fk E ok qbR qah rfl 1 rfl rfl fun a E=>fk E ok qbR qah rfl 0 rfl rfl fun a E=>lw E (qbf rfl rfl) fun a E=>pt E rfl rfl fun a E=>mv E rfl fun a E=>bw E 100 hF (fun c97 hF E=>?_) fun c97 hF E=>?_
   ·refine lsz E fun a E=>ls E fun a E=>pf E rfl rfl fun a E=>mv E rfl fun a E=>lsz E fun a E=>ls E fun a E=>pf E rfl rfl fun a E=>mv E rfl fun a E=>lsq E fun a E=>?_
    refine lsz E fun a E=>lsq E fun a E=>ls E fun a E=>pf E rfl rfl fun a E=>mv E rfl fun a E=>lsz E fun a E=>lsq E fun a E=>ls E fun a E=>?_
    refine lsq E fun a E=>pf E rfl rfl fun a E=>aw E rfl fun a E=>wp_ret ?_
    exact fin hF ⟨ok.drop.drop,E.d,rz E rfl⟩
   refine fk E ok qaw qah rfl 1 rfl rfl fun a E=>fk E ok qaw qah rfl 0 rfl rfl fun a E=>lw E (qbf rfl rfl) fun a E=>pt E rfl rfl fun a E=>mv E rfl fun a E=>bw E 107 hF (fun c98 hF E=>?_) fun c98 hF E=>?_
   ·refine lsz E fun a E=>ls E fun a E=>pf E rfl rfl fun a E=>mv E rfl fun a E=>lsz E fun a E=>lsz E fun a E=>ls E fun a E=>?_
    refine pf E rfl rfl fun a E=>mv E rfl fun a E=>lsz E fun a E=>lsz E fun a E=>ls E fun a E=>pf E rfl rfl fun a E=>aw E rfl fun a E=>wp_ret ?_
    exact fin hF ⟨ok.drop.drop,E.d,rz E rfl⟩
   refine fk E ok qaT qah rfl 1 rfl rfl fun a E=>fk E ok qaT qah rfl 0 rfl rfl fun a E=>lw E (qbf rfl rfl) fun a E=>pt E rfl rfl fun a E=>mv E rfl fun a E=>bw E 114 hF (fun c99 hF E=>?_) fun c99 hF E=>?_
   ·refine lsz E fun a E=>lsz E fun a E=>ls E fun a E=>pf E rfl rfl fun a E=>mv E rfl fun a E=>lsz E fun a E=>ls E fun a E=>?_
    refine lsz E fun a E=>pf E rfl rfl fun a E=>aw E rfl fun a E=>wp_ret ?_
    exact fin hF ⟨ok.drop.drop,E.d,rz E rfl⟩
   refine fk E ok qaR qaZ rfl 1 rfl rfl fun a E=>lv E ok (qax qbe h6 rfl) fun a E=>lw E (qao rfl rfl) fun a E=>mv E rfl fun a E=>bu E 119 hF (fun c100 hF E=>?_) fun c100 hF E=>?_
   ·refine lsq E fun a E=>ls E fun a E=>pt E rfl rfl fun a E=>pt E rfl rfl fun a E=>mv E rfl fun a E=>fk E ok qbs qa2 rfl 1 rfl rfl fun a E=>lv E ok (qax qbj h8 rfl) fun a E=>lw E (qao rfl rfl) fun a E=>mv E rfl fun a E=>bu E 130 hF (fun c101 hF E=>?_) fun c101 hF E=>?_
    ·refine lsq E fun a E=>ls E fun a E=>pt E rfl rfl fun a E=>pt E rfl rfl fun a E=>aw E rfl fun a E=>wp_ret ?_
     exact fin hF ⟨ok.drop.drop,E.d,rz E rfl⟩
    refine fk E ok qar qat rfl 1 rfl rfl fun a E=>lw E (qao rfl rfl) fun a E=>pf E rfl rfl fun a E=>pt E rfl rfl fun a E=>aw E rfl fun a E=>wp_ret ?_
    exact fin hF ⟨ok.drop.drop,E.d,rz E rfl⟩
   refine fk E ok qar qat rfl 1 rfl rfl fun a E=>bd hF fun r102 e103 hF=>lc E qgM rfl (qbN N x_0.Kind r1 e103 hG ok) fun w ok a E=>pf E rfl rfl fun a E=>pt E rfl rfl fun a E=>mv E rfl fun a E=>qaW r102 (fun c104=>?_) (fun c104=>?_)
   rotate_left
   ·have hF:=qaV c104 hF
    have E:=E.upd 125 c104 rfl
    refine lsz E fun a E=>lsz E fun a E=>ls E fun a E=>pf E rfl rfl fun a E=>aw E rfl fun a E=>wp_ret ?_
    exact fin hF ⟨ok.drop.drop,E.d,rz E rfl⟩
   have hF:=qaU c104 hF
   have E:=E.upd 125 c104 rfl
   refine fk E ok qbs qa2 rfl 1 rfl rfl fun a E=>lv E ok (qax qbj h8 rfl) fun a E=>lw E (qao rfl rfl) fun a E=>mv E rfl fun a E=>bu E 130 hF (fun c105 hF E=>?_) fun c105 hF E=>?_
   ·refine lsq E fun a E=>ls E fun a E=>pt E rfl rfl fun a E=>pt E rfl rfl fun a E=>aw E rfl fun a E=>wp_ret ?_
    exact fin hF ⟨ok.drop.drop,E.d,rz E rfl⟩
   refine fk E ok qar qat rfl 1 rfl rfl fun a E=>lw E (qao rfl rfl) fun a E=>pf E rfl rfl fun a E=>pt E rfl rfl fun a E=>aw E rfl fun a E=>wp_ret ?_
   exact fin hF ⟨ok.drop.drop,E.d,rz E rfl⟩
 refine fk E ok qar qat rfl 1 rfl rfl fun a E=>lw E (qda rfl rfl) fun a E=>pt E rfl rfl fun a E=>pf E rfl rfl fun a E=>wn<|bd hF fun o81 hJ hF=>qaK (Q':=fun e a w=>e = .normal ∧ Ok u m0 ([(b10,oc 63 [vi o11.2.Kind,vs o11.2.Text,vs o11.2.Name,vs o11.2.Style,(Value.slice none 0 0),(Value.slice none 0 0)])] :: [(b9,oc 63 [vi x_0.Kind,vs x_0.Text,vs x_0.Name,vs x_0.Style,c5,c7])] :: S) w ∧ Env 136 a [(1,vp b9),(3,vp b10),(4,vb o81)]) ?_ ?_
 ·have hF:=hJ
  refine cg E rfl hF (fun c82 hF=>?_) fun c82 hF=>?_
  ·refine wp_skip ?_
   cases hF
   exact ⟨rfl,⟨ok,E.keep [1,3,4]⟩⟩
  refine qab<|mz E rfl rfl fun a E=>qaW o11.1 (fun c83=>?_) (fun c83=>?_)
  rotate_left
  ·have hF:=qaV c83 hF
   have E:=E.upd 87 c83 rfl
   refine lsq E fun a E=>ls E fun a E=>pf E rfl rfl fun a E=>av E rfl fun a E=>wpList_nil ?_
   cases hF
   exact ⟨rfl,⟨ok,E.keep [1,3,4]⟩⟩
  have hF:=qaU c83 hF
  have E:=E.upd 87 c83 rfl
  refine fk E ok qaw qah rfl 1 rfl rfl fun a E=>bd hF fun r84 e85 hF=>lc E qip rfl (qd7 N x_0.Name l3 e85 hG ok) fun w ok a E=>pt E rfl rfl fun a E=>av E rfl fun a E=>wpList_nil ?_
  cases hF
  exact ⟨rfl,⟨ok,E.keep [1,3,4]⟩⟩
 intro e a w hO
 obtain ⟨rfl,ok,E⟩:=hO
 refine qaa<|sg<|mz E rfl rfl fun a E=>qaW o81 (fun c86=>?_) (fun c86=>?_)
 rotate_left
 ·have hF:=qaV c86 hF
  have E:=E.upd 93 c86 rfl
  refine lsz E fun a E=>ls E fun a E=>pf E rfl rfl fun a E=>mv E rfl fun a E=>lsz E fun a E=>ls E fun a E=>pf E rfl rfl fun a E=>mv E rfl fun a E=>lsq E fun a E=>?_
  refine lsq E fun a E=>ls E fun a E=>pf E rfl rfl fun a E=>mv E rfl fun a E=>lsz E fun a E=>lsz E fun a E=>ls E fun a E=>pf E rfl rfl fun a E=>mv E rfl fun a E=>?_
  refine lsz E fun a E=>lsz E fun a E=>ls E fun a E=>pf E rfl rfl fun a E=>aw E rfl fun a E=>wp_ret ?_
  exact fin hF ⟨ok.drop.drop,E.d,rz E rfl⟩
 have hF:=qaU c86 hF
 have E:=E.upd 93 c86 rfl
 refine fk E ok qbR qah rfl 1 rfl rfl fun a E=>fk E ok qbR qah rfl 0 rfl rfl fun a E=>lw E (qbf rfl rfl) fun a E=>pt E rfl rfl fun a E=>mv E rfl fun a E=>bw E 100 hF (fun c87 hF E=>?_) fun c87 hF E=>?_
 ·refine lsz E fun a E=>ls E fun a E=>pf E rfl rfl fun a E=>mv E rfl fun a E=>lsz E fun a E=>ls E fun a E=>pf E rfl rfl fun a E=>mv E rfl fun a E=>lsq E fun a E=>?_
  refine lsz E fun a E=>lsq E fun a E=>ls E fun a E=>pf E rfl rfl fun a E=>mv E rfl fun a E=>lsz E fun a E=>lsq E fun a E=>ls E fun a E=>?_
  refine lsq E fun a E=>pf E rfl rfl fun a E=>aw E rfl fun a E=>wp_ret ?_
  exact fin hF ⟨ok.drop.drop,E.d,rz E rfl⟩
 refine fk E ok qaw qah rfl 1 rfl rfl fun a E=>fk E ok qaw qah rfl 0 rfl rfl fun a E=>lw E (qbf rfl rfl) fun a E=>pt E rfl rfl fun a E=>mv E rfl fun a E=>bw E 107 hF (fun c88 hF E=>?_) fun c88 hF E=>?_
 ·refine lsz E fun a E=>ls E fun a E=>pf E rfl rfl fun a E=>mv E rfl fun a E=>lsz E fun a E=>lsz E fun a E=>ls E fun a E=>?_
  refine pf E rfl rfl fun a E=>mv E rfl fun a E=>lsz E fun a E=>lsz E fun a E=>ls E fun a E=>pf E rfl rfl fun a E=>aw E rfl fun a E=>wp_ret ?_
  exact fin hF ⟨ok.drop.drop,E.d,rz E rfl⟩
 refine fk E ok qaT qah rfl 1 rfl rfl fun a E=>fk E ok qaT qah rfl 0 rfl rfl fun a E=>lw E (qbf rfl rfl) fun a E=>pt E rfl rfl fun a E=>mv E rfl fun a E=>bw E 114 hF (fun c89 hF E=>?_) fun c89 hF E=>?_
 ·refine lsz E fun a E=>lsz E fun a E=>ls E fun a E=>pf E rfl rfl fun a E=>mv E rfl fun a E=>lsz E fun a E=>ls E fun a E=>?_
  refine lsz E fun a E=>pf E rfl rfl fun a E=>aw E rfl fun a E=>wp_ret ?_
  exact fin hF ⟨ok.drop.drop,E.d,rz E rfl⟩
 refine fk E ok qaR qaZ rfl 1 rfl rfl fun a E=>lv E ok (qax qbe h6 rfl) fun a E=>lw E (qao rfl rfl) fun a E=>mv E rfl fun a E=>bu E 119 hF (fun c90 hF E=>?_) fun c90 hF E=>?_
 ·refine lsq E fun a E=>ls E fun a E=>pt E rfl rfl fun a E=>pt E rfl rfl fun a E=>mv E rfl fun a E=>fk E ok qbs qa2 rfl 1 rfl rfl fun a E=>lv E ok (qax qbj h8 rfl) fun a E=>lw E (qao rfl rfl) fun a E=>mv E rfl fun a E=>bu E 130 hF (fun c91 hF E=>?_) fun c91 hF E=>?_
  ·refine lsq E fun a E=>ls E fun a E=>pt E rfl rfl fun a E=>pt E rfl rfl fun a E=>aw E rfl fun a E=>wp_ret ?_
   exact fin hF ⟨ok.drop.drop,E.d,rz E rfl⟩
  refine fk E ok qar qat rfl 1 rfl rfl fun a E=>lw E (qao rfl rfl) fun a E=>pf E rfl rfl fun a E=>pt E rfl rfl fun a E=>aw E rfl fun a E=>wp_ret ?_
  exact fin hF ⟨ok.drop.drop,E.d,rz E rfl⟩
 refine fk E ok qar qat rfl 1 rfl rfl fun a E=>bd hF fun r92 e93 hF=>lc E qgM rfl (qbN N x_0.Kind r1 e93 hG ok) fun w ok a E=>pf E rfl rfl fun a E=>pt E rfl rfl fun a E=>mv E rfl fun a E=>qaW r92 (fun c94=>?_) (fun c94=>?_)
 rotate_left
 ·have hF:=qaV c94 hF
  have E:=E.upd 125 c94 rfl
  refine lsz E fun a E=>lsz E fun a E=>ls E fun a E=>pf E rfl rfl fun a E=>aw E rfl fun a E=>wp_ret ?_
  exact fin hF ⟨ok.drop.drop,E.d,rz E rfl⟩
 have hF:=qaU c94 hF
 have E:=E.upd 125 c94 rfl
 refine fk E ok qbs qa2 rfl 1 rfl rfl fun a E=>lv E ok (qax qbj h8 rfl) fun a E=>lw E (qao rfl rfl) fun a E=>mv E rfl fun a E=>bu E 130 hF (fun c95 hF E=>?_) fun c95 hF E=>?_
 ·refine lsq E fun a E=>ls E fun a E=>pt E rfl rfl fun a E=>pt E rfl rfl fun a E=>aw E rfl fun a E=>wp_ret ?_
  exact fin hF ⟨ok.drop.drop,E.d,rz E rfl⟩
 refine fk E ok qar qat rfl 1 rfl rfl fun a E=>lw E (qao rfl rfl) fun a E=>pf E rfl rfl fun a E=>pt E rfl rfl fun a E=>aw E rfl fun a E=>wp_ret ?_
 exact fin hF ⟨ok.drop.drop,E.d,rz E rfl⟩
theorem qeW {u:World} {m0:Mem} {S:Segs} {w:World} (N:Nat) (p0_0:List UInt8) (lp0_0:p0_0.length ≤ LIMS) (p1_1:List UInt8) (lp1_1:p1_1.length ≤ LIMS) {r:(List UInt8) × Bool} (hF:strings_CutPrefix N p0_0 p1_1 = some r) (hG:Glob u) (ok:Ok u m0 S w) :
 Calls Tryz.prog 53 [vs p0_0,vs p1_1].toArray w fun e w'=>(e = .returned (.tuple [(.string (bs r.1)),(.bool r.2)].toArray) ∧ Ok u m0 S w') ∧ r.1.length ≤ LIMS:=qls Tryz.lays103 p0_0 p1_1 hF lp0_0 ok
theorem qlr (N:Nat) (p0_0:List UInt8) (lp0_0:p0_0.length ≤ LIMS) (p1_1:List UInt8) (lp1_1:p1_1.length ≤ LIMS) {r:(List UInt8) × (List UInt8) × Bool} (hF:strings_Cut N p0_0 p1_1 = some r) (hG:Glob u) (ok:Ok u m0 S w) :
  Calls Tryz.prog 74 [vs p0_0,vs p1_1].toArray w fun e w'=>(e = .returned (.tuple [(.string (bs r.1)),(.string (bs r.2.1)),(.bool r.2.2)].toArray) ∧ Ok u m0 S w') ∧ r.1.length ≤ LIMS ∧ r.2.1.length ≤ LIMS:=by
 obtain ⟨mx,hmx⟩:=hG
 exact qpN Tryz.lays145 hmx p0_0 p1_1 hF lp0_0 ok
theorem qhG {u:World} {m0:Mem} {S:Segs} {w:World} (N:Nat) (p0_0:List UInt8) (lp0_0:p0_0.length ≤ LIMS) (p1_1:List UInt8) (lp1_1:p1_1.length ≤ LIMS) {r:(List UInt8)} (hF:qd3 N p0_0 p1_1 = some r) (hG:Glob u) (ok:Ok u m0 S w) :
 Calls Tryz.prog 80 [vs p0_0,vs p1_1].toArray w fun e w'=>(e = .returned (.string (bs r)) ∧ Ok u m0 S w') ∧ r.length ≤ LIMS:=qoD Tryz.lays160 (by kernel_rfl) p0_0 p1_1 hF lp0_0 ok
def qjR (u:World) (m0:Mem) (S:Segs) (r:Bool) (a:Act) (w:World):Prop :=
 Ok u m0 S w ∧ a.defers = [] ∧ RVs Tryz.prog a w [.t 2 (.bool r)]
theorem qd1 (N:Nat) (s_0:List UInt8) (ls_0:s_0.length ≤ LIMS) {r:Bool} (hF:qcE N s_0 = some r) (hG:Glob u) (ok:Ok u m0 S w) :
  Calls Tryz.prog 75 [vs s_0].toArray w fun e w'=>(e = .returned (.bool r) ∧ Ok u m0 S w'):=by
 unfold qcE at hF
 refine en (qjR u m0 S) r Tryz.func75 rfl rfl rfl (fun _ _ h=>ra h rfl) fun fin a E=>sg<|aw E rfl fun a E=>sg<|mv E rfl fun a E=>bd hF fun r1 e2 hF=>qas E qpx rfl (qhG N s_0 ls_0 ([48,49,50,51,52,53,54,55,56,57]) (show ([48,49,50,51,52,53,54,55,56,57]:List UInt8).length ≤ LIMS by decide) e2 hG ok) rfl rfl ?_
 rintro _ w ⟨⟨rfl,ok⟩,l3⟩
 refine ⟨_,rfl,fun a E=>?_⟩
 refine lw E (qbf rfl rfl) fun a E=>aw E rfl fun a E=>wp_ret ?_
 exact fin hF ⟨ok,E.d,rz E rfl⟩
def qkV (u:World) (m0:Mem) (S:Segs) (r:Bool) (a:Act) (w:World):Prop :=
 Ok u m0 S w ∧ a.defers = [] ∧ RVs Tryz.prog a w [.t 2 (.bool r)]
theorem qhQ (N:Nat) (s_0:List UInt8) (ls_0:s_0.length ≤ LIMS) {r:Bool} (hF:qez N s_0 = some r) (hG:Glob u) (ok:Ok u m0 S w) :
  Calls Tryz.prog 81 [vs s_0].toArray w fun e w'=>(e = .returned (.bool r) ∧ Ok u m0 S w'):=by
 unfold qez at hF
 refine en (qkV u m0 S) r Tryz.func81 rfl rfl rfl (fun _ _ h=>ra h rfl) fun fin a E=>sg<|aw E rfl fun a E=>sg<|mv E rfl fun a E=>bd hF fun r1 e2 hF=>qas E qpx rfl (qhG N s_0 ls_0 ([48]) (show ([48]:List UInt8).length ≤ LIMS by decide) e2 hG ok) rfl rfl ?_
 rintro _ w ⟨⟨rfl,ok⟩,l3⟩
 refine ⟨_,rfl,fun a E=>?_⟩
 refine lw E (qbf rfl rfl) fun a E=>aw E rfl fun a E=>wp_ret ?_
 exact fin hF ⟨ok,E.d,rz E rfl⟩
def qhX (u:World) (m0:Mem) (S:Segs) (r:Bool) (a:Act) (w:World):Prop :=
 Ok u m0 S w ∧ a.defers = [] ∧ RVs Tryz.prog a w [.t 2 (.bool r)]
theorem qdL (N:Nat) (vx_0:List Value) (x_0:Number) (hx_0:qk1 m0 vx_0 x_0) {r:Bool} (hF:qch N x_0 = some r) (hG:Glob u) (ok:Ok u m0 S w) :
  Calls Tryz.prog 76 [.agg vx_0.toArray].toArray w fun e w'=>(e = .returned (.bool r) ∧ Ok u m0 S w'):=by
 obtain ⟨rfl,l1,l2⟩:=hx_0
 unfold qch at hF
 refine en (qhX u m0 S) r Tryz.func76 rfl rfl rfl (fun _ _ h=>ra h rfl) fun fin a E=>sg<|qdf E ok rfl rfl rfl fun b3 a w E ok=>aw E rfl fun a E=>sg<|fk E ok qoG qah rfl 0 rfl rfl fun a E=>bd hF fun r4 e5 hF=>lc E qpv rfl (qhQ N x_0.whole l1 e5 hG ok) fun w ok a E=>mv E rfl fun a E=>qaW r4 (fun c6=>?_) (fun c6=>?_)
 rotate_left
 ·have hF:=qaV c6 hF
  have E:=E.upd 6 c6 rfl
  refine lsq E fun a E=>ls E fun a E=>pf E rfl rfl fun a E=>aw E rfl fun a E=>wp_ret ?_
  exact fin hF ⟨ok.drop,E.d,rz E rfl⟩
 have hF:=qaU c6 hF
 have E:=E.upd 6 c6 rfl
 refine fk E ok qo4 qah rfl 0 rfl rfl fun a E=>bd hF fun r7 e8 hF=>lc E qpv rfl (qhQ N x_0.fraction l2 e8 hG ok) fun w ok a E=>pt E rfl rfl fun a E=>aw E rfl fun a E=>wp_ret ?_
 exact fin hF ⟨ok.drop,E.d,rz E rfl⟩
end Go.Proofs.YtmghnmfefpeelaaGreatDoor
namespace Go.Proofs.YtmghnmfefpeelaaGreatDoor
open Go.X
variable {u:World} {m0:Mem} {S:Segs} {w:World}
set_option maxHeartbeats 4000000
set_option maxRecDepth 100000
def qki (u:World) (m0:Mem) (S:Segs) (r:Number × Bool) (a:Act) (w:World):Prop :=
 ∃ m1 v0,m0.le m1 ∧ Ok u m1 S w ∧ a.defers = [] ∧ RVs Tryz.prog a w [.c 2 102 (.agg v0.toArray),.t 3 (.bool r.2)] ∧ qk1 m1 v0 r.1
theorem qj3 (N:Nat) (s_0:List UInt8) (ls_0:s_0.length ≤ LIMS) {r:Number × Bool} (hF:qeO N s_0 = some r) (hG:Glob u) (ok:Ok u m0 S w) :
  Calls Tryz.prog 65 [vs s_0].toArray w fun e w'=>∃ m1 v0,e = .returned (.tuple [(.agg v0.toArray),(.bool r.2)].toArray) ∧ m0.le m1 ∧ Ok u m1 S w' ∧ qk1 m1 v0 r.1:=by
 have le_m0:=Mem.le.refl m0
 unfold qeO at hF
 refine en (qki u m0 S) r Tryz.func65 rfl rfl rfl (by rintro a w ⟨m1,v0,hle,ok,hd,hrv,h0⟩; exact qcw [.c 2 102 (.agg v0.toArray),.t 3 (.bool r.2)] hd rfl hrv ⟨m1,v0,rfl,hle,ok,h0⟩) fun fin a E=>sg<|qbh E ok qiu rfl rfl fun b1 a w E ok=>aw E rfl fun a E=>sg<|mv E rfl fun a E=>bd hF fun r2 e3 hF=>qas E qnb rfl (qeW N s_0 ls_0 ([45]) (show ([45]:List UInt8).length ≤ LIMS by decide) e3 hG ok) rfl rfl ?_
 rintro _ w ⟨⟨rfl,ok⟩,l4⟩
 refine ⟨_,rfl,fun a E=>?_⟩
 refine mv E rfl fun a E=>lw E (qaF rfl rfl) fun a E=>lw E (qaF rfl rfl) fun a E=>av E rfl fun a E=>aw E rfl fun a E=>sg<|mv E rfl fun a E=>bd hF fun r5 e6 hF=>qas E qrs rfl (qlr N r2.1 l4 ([46]) (show ([46]:List UInt8).length ≤ LIMS by decide) e6 hG ok) rfl rfl ?_
 rintro _ w ⟨⟨rfl,ok⟩,l7,l8⟩
 refine ⟨_,rfl,fun a E=>?_⟩
 refine mv E rfl fun a E=>lw E (qaF rfl rfl) fun a E=>lw E (qaF rfl rfl) fun a E=>lw E (qaF rfl rfl) fun a E=>av E rfl fun a E=>av E rfl fun a E=>av E rfl fun a E=>wn<|sg<|mz E rfl rfl fun a E=>mv E rfl fun a E=>lw E (qav (ps:=[(0,.tmp 21),(1,.tmp 22),(2,.tmp 23)]) (qs:=[(0,[vb r2.2]),(1,[vs r5.1]),(2,[vs r5.2.1])]) (cs:=[vb r2.2,vs r5.1,vs r5.2.1]) qiu qnF rfl ⟨rfl,rfl,rfl,⟨rfl,rfl,rfl,⟨rfl,rfl,rfl,trivial⟩⟩⟩ rfl) fun a E=>qbh E ok qiu rfl rfl fun b9 a w E ok=>?_
 refine qai E ok 0 rfl rfl rfl qbS rfl rfl ⟨rfl,rfl,rfl,trivial⟩ rfl rfl fun w ok=>wn<|wp_seq<|wp_block<|sg<|mv E rfl fun a E=>lw E (qaG Tryz.underlying9 rfl) fun a E=>lw E (qaJ rfl rfl) fun a E=>mv E rfl fun a E=>bu E 29 hF (fun c10 hF E=>?_) fun c10 hF E=>?_
 ·refine lsq E fun a E=>ls E fun a E=>pt E rfl rfl fun a E=>mv E rfl fun a E=>lsq E fun a E=>ls E fun a E=>pt E rfl rfl fun a E=>mv E rfl fun a E=>lsz E fun a E=>lsq E fun a E=>?_
  refine lsq E fun a E=>pt E rfl rfl fun a E=>aw E rfl fun a E=>c_if E rfl (fun _=>?_) (fun h=>by cases h)
  refine sg<|lv E ok (qaj (cs:=[vb r2.2,vs r5.1,vs r5.2.1]) qaP rfl rfl (qac.own 0 rfl rfl)) fun a E=>qai E ok 1 rfl rfl rfl qbS rfl rfl ⟨rfl,rfl,rfl,trivial⟩ rfl rfl fun w ok=>aw E rfl fun a E=>wp_ret<|qam<|qaf ?_
  exact fin hF ⟨m0,[vb r2.2,vs r5.1,vs r5.2.1],le_m0,ok.drop.drop,E.d,⟨rv_c (cs:=[vb r2.2,vs r5.1,vs r5.2.1]) E ok rfl qaP rfl (qac.own 1 rfl rfl),rv_t E rfl,trivial⟩,⟨rfl,l7,l8⟩⟩
 refine mv E rfl fun a E=>lw E (qaG Tryz.underlying9 rfl) fun a E=>lw E (qa9 rfl rfl) fun a E=>pf E rfl rfl fun a E=>mv E rfl fun a E=>bu E 34 hF (fun c11 hF E=>?_) fun c11 hF E=>?_
 ·refine lsq E fun a E=>ls E fun a E=>pt E rfl rfl fun a E=>mv E rfl fun a E=>lsz E fun a E=>lsz E fun a E=>pt E rfl rfl fun a E=>av E rfl fun a E=>wn<|c_if E rfl (fun _=>?_) (fun h=>by cases h)
  refine sg<|lv E ok (qaj (cs:=[vb r2.2,vs r5.1,vs r5.2.1]) qaP rfl rfl (qac.own 0 rfl rfl)) fun a E=>qai E ok 1 rfl rfl rfl qbS rfl rfl ⟨rfl,rfl,rfl,trivial⟩ rfl rfl fun w ok=>aw E rfl fun a E=>wp_ret<|qam<|qaf ?_
  exact fin hF ⟨m0,[vb r2.2,vs r5.1,vs r5.2.1],le_m0,ok.drop.drop,E.d,⟨rv_c (cs:=[vb r2.2,vs r5.1,vs r5.2.1]) E ok rfl qaP rfl (qac.own 1 rfl rfl),rv_t E rfl,trivial⟩,⟨rfl,l7,l8⟩⟩
 refine mv E rfl fun a E=>bd hF fun r12 e13 hF=>lc E qka rfl (qd1 N r5.1 l7 e13 hG ok) fun w ok a E=>lw E (qaz rfl) fun a E=>pf E rfl rfl fun a E=>mv E rfl fun a E=>bu E 39 hF (fun c14 hF E=>?_) fun c14 hF E=>?_
 ·refine lsz E fun a E=>lsz E fun a E=>pt E rfl rfl fun a E=>aw E rfl fun a E=>c_if E rfl (fun _=>?_) (fun h=>by cases h)
  refine sg<|lv E ok (qaj (cs:=[vb r2.2,vs r5.1,vs r5.2.1]) qaP rfl rfl (qac.own 0 rfl rfl)) fun a E=>qai E ok 1 rfl rfl rfl qbS rfl rfl ⟨rfl,rfl,rfl,trivial⟩ rfl rfl fun w ok=>aw E rfl fun a E=>wp_ret<|qam<|qaf ?_
  exact fin hF ⟨m0,[vb r2.2,vs r5.1,vs r5.2.1],le_m0,ok.drop.drop,E.d,⟨rv_c (cs:=[vb r2.2,vs r5.1,vs r5.2.1]) E ok rfl qaP rfl (qac.own 1 rfl rfl),rv_t E rfl,trivial⟩,⟨rfl,l7,l8⟩⟩
 refine mv E rfl fun a E=>lw E (qaG Tryz.underlying9 rfl) fun a E=>lw E (qa9 rfl rfl) fun a E=>mv E rfl fun a E=>bw E 43 hF (fun c15 hF E=>?_) fun c15 hF E=>?_
 ·as_aux_lemma =>
   refine lsq E fun a E=>ls E fun a E=>pf E rfl rfl fun a E=>pf E rfl rfl fun a E=>aw E rfl fun a E=>c_if E rfl (fun h=>by cases h) (fun _=>?_)
   refine sg<|mz E rfl rfl fun a E=>qaW r5.2.2 (fun c45=>?_) (fun c45=>?_)
   rotate_left
   ·as_aux_lemma =>
     have hF:=qaV c45 hF
     have E:=E.upd 52 c45 rfl
     refine lsq E fun a E=>ls E fun a E=>pf E rfl rfl fun a E=>mz E rfl rfl fun a E=>lw E (qaG Tryz.underlying9 rfl) fun a E=>lw E (qa9 rfl rfl) fun a E=>pf E rfl rfl fun a E=>mv E rfl fun a E=>bu E 62 hF (fun c59 hF E=>?_) fun c59 hF E=>?_
     ·refine lsq E fun a E=>ls E fun a E=>pt E rfl rfl fun a E=>aw E rfl fun a E=>c_if E rfl (fun _=>?_) (fun h=>by cases h)
      refine sg<|lv E ok (qaj (cs:=[vb r2.2,vs r5.1,vs r5.2.1]) qaP rfl rfl (qac.own 0 rfl rfl)) fun a E=>qai E ok 1 rfl rfl rfl qbS rfl rfl ⟨rfl,rfl,rfl,trivial⟩ rfl rfl fun w ok=>aw E rfl fun a E=>wp_ret<|qam<|qaf ?_
      exact fin hF ⟨m0,[vb r2.2,vs r5.1,vs r5.2.1],le_m0,ok.drop.drop,E.d,⟨rv_c (cs:=[vb r2.2,vs r5.1,vs r5.2.1]) E ok rfl qaP rfl (qac.own 1 rfl rfl),rv_t E rfl,trivial⟩,⟨rfl,l7,l8⟩⟩
     refine mv E rfl fun a E=>bd hF fun r60 e61 hF=>lc E qka rfl (qd1 N r5.2.1 l8 e61 hG ok) fun w ok a E=>lw E (qaz rfl) fun a E=>pf E rfl rfl fun a E=>aw E rfl fun a E=>cf E rfl hF (fun c62 hF=>?_) fun c62 hF=>?_
     ·refine sg<|lv E ok (qaj (cs:=[vb r2.2,vs r5.1,vs r5.2.1]) qaP rfl rfl (qac.own 0 rfl rfl)) fun a E=>qai E ok 1 rfl rfl rfl qbS rfl rfl ⟨rfl,rfl,rfl,trivial⟩ rfl rfl fun w ok=>aw E rfl fun a E=>wp_ret<|qam<|qaf ?_
      exact fin hF ⟨m0,[vb r2.2,vs r5.1,vs r5.2.1],le_m0,ok.drop.drop,E.d,⟨rv_c (cs:=[vb r2.2,vs r5.1,vs r5.2.1]) E ok rfl qaP rfl (qac.own 1 rfl rfl),rv_t E rfl,trivial⟩,⟨rfl,l7,l8⟩⟩
     refine wp_skip<|qag<|qaa<|wp_seq<|bd hF fun o63 hJ hF=>qaK (Q':=fun e a w=>e = .normal ∧ Ok u m0 ([(b9,oc 102 [vb r2.2,vs r5.1,vs r5.2.1])] :: [(b1,oc 102 [vb o63.2.negative,vs o63.2.whole,vs o63.2.fraction])] :: S) w ∧ Env 76 a [(2,vp b1),(3,vb o63.1)] ∧ o63.2.whole.length ≤ LIMS ∧ o63.2.fraction.length ≤ LIMS) ?_ ?_
     rotate_left
     ·intro e a w hO
      obtain ⟨rfl,ok,E,l69,l70⟩:=hO
      refine qaa<|wp_ret ?_
      exact fin hF ⟨m0,[vb o63.2.negative,vs o63.2.whole,vs o63.2.fraction],le_m0,ok.drop.drop,E.d,⟨rv_c (cs:=[vb o63.2.negative,vs o63.2.whole,vs o63.2.fraction]) E ok rfl qaP rfl (qac.own 1 rfl rfl),rv_t E rfl,trivial⟩,⟨rfl,l69,l70⟩⟩
     have hF:=hJ
     refine qaW (!r2.2) (fun c66=>?_) (fun c66=>?_)
     ·have hF:=qaU c66 hF
      cases hF
      refine qbT [0] (Cls u m0 ([(b9,oc 102 [vb r2.2,vs r5.1,vs r5.2.1])] :: [(b1,oc 102 [vb false,(vs ([])),(vs ([]))])] :: [])) (Cls u m0 ([(b9,oc 102 [vb r2.2,vs r5.1,vs r5.2.1])] :: [])) (by kernel_rfl) ?_
      intro w hw
      replace ok:=qck ok hw
      clear hw
      refine qan (cl1 (cq le_m0 ok [0,1] rfl) (cq le_m0 ok [0] rfl)) fun hT=>qca 0 E rfl (by kernel_rfl) nP hT (qaj (cs:=[vb r2.2,vs r5.1,vs r5.2.1]) qaP rfl rfl (qac.cown 0 rfl rfl)) rfl rfl fun a E=>kt 1 E rfl hT (qal rfl) fun a E=>kt 2 E rfl hT (qaz rfl) fun a E=>kt 3 E rfl hT (qal rfl) fun a E=>?_
      have E:=E.upd 71 c66 rfl
      refine qcM 4 false E rfl (by kernel_rfl) nP hT rfl rfl fun a E=>qcM 5 false E rfl (by kernel_rfl) nP hT rfl rfl fun a E=>qcM 6 false E rfl (by kernel_rfl) nP hT rfl rfl fun a E=>kt 7 E rfl hT (qco rfl rfl) fun a E=>qaC [8] (by kernel_rfl) rfl (qaH ?_)
      ·refine wo rfl<|qai E ok 1 rfl rfl rfl qbS rfl rfl ⟨rfl,rfl,rfl,trivial⟩ rfl rfl fun w ok=>wn<|qan (cl2 (by kernel_rfl) (cq le_m0 ok [0] rfl)) fun hT=>kt 9 E rfl hT (qa4 rfl) fun a E=>qbq (by kernel_rfl) ?_
       exact ⟨rfl,⟨ok,E.keep [2,3],l7,l8⟩⟩
     have hF:=qaV c66 hF
     obtain ⟨r67,e68,hF⟩:=bnd hF
     obtain rfl:=sj hF
     refine qbT [0] (Cls u m0 ([(b9,oc 102 [vb r2.2,vs r5.1,vs r5.2.1])] :: [(b1,oc 102 [vb false,(vs ([])),(vs ([]))])] :: [])) (Cls u m0 ([(b9,oc 102 [vb r2.2,vs r5.1,vs r5.2.1])] :: [])) (by kernel_rfl) ?_
     intro w hw
     replace ok:=qck ok hw
     clear hw
     refine qan (cl1 (cq le_m0 ok [0,1] rfl) (cq le_m0 ok [0] rfl)) fun hT=>qca 0 E rfl (by kernel_rfl) nP hT (qaj (cs:=[vb r2.2,vs r5.1,vs r5.2.1]) qaP rfl rfl (qac.cown 0 rfl rfl)) rfl rfl fun a E=>kt 1 E rfl hT (qal rfl) fun a E=>kt 2 E rfl hT (qaz rfl) fun a E=>kt 3 E rfl hT (qal rfl) fun a E=>?_
     have E:=E.upd 71 c66 rfl
     refine kt 4 E rfl hT (qaj (cs:=[vb r2.2,vs r5.1,vs r5.2.1]) qaP rfl rfl (qac.cown 0 rfl rfl)) fun a E=>qaC [5] (by kernel_rfl) rfl (qaH ?_)
     ·refine wo rfl<|lc E qlD rfl (qdL N _ (Number.mk r2.2 r5.1 r5.2.1) ⟨rfl,l7,l8⟩ e68 hG ok) fun w ok a E=>wn<|qan (cl1 (cq le_m0 ok [0,1] rfl) (cq le_m0 ok [0] rfl)) fun hT=>kt 6 E rfl hT (qaz rfl) fun a E=>kt 7 E rfl hT (qcq rfl rfl) fun a E=>qaC [8] (by kernel_rfl) rfl (qaH ?_)
      ·refine wo rfl<|qai E ok 1 rfl rfl rfl qbS rfl rfl ⟨rfl,rfl,rfl,trivial⟩ rfl rfl fun w ok=>wn<|qan (cl2 (by kernel_rfl) (cq le_m0 ok [0] rfl)) fun hT=>kt 9 E rfl hT (qa4 rfl) fun a E=>qbq (by kernel_rfl) ?_
       exact ⟨rfl,⟨ok,E.keep [2,3],l7,l8⟩⟩
   have hF:=qaU c45 hF
   have E:=E.upd 52 c45 rfl
   refine mv E rfl fun a E=>lw E (qaG Tryz.underlying9 rfl) fun a E=>lw E (qao rfl rfl) fun a E=>pt E rfl rfl fun a E=>mv E rfl fun a E=>bu E 57 hF (fun c46 hF E=>?_) fun c46 hF E=>?_
   ·refine lsq E fun a E=>ls E fun a E=>pt E rfl rfl fun a E=>mv E rfl fun a E=>lsq E fun a E=>ls E fun a E=>pt E rfl rfl fun a E=>aw E rfl fun a E=>c_if E rfl (fun _=>?_) (fun h=>by cases h)
    refine sg<|lv E ok (qaj (cs:=[vb r2.2,vs r5.1,vs r5.2.1]) qaP rfl rfl (qac.own 0 rfl rfl)) fun a E=>qai E ok 1 rfl rfl rfl qbS rfl rfl ⟨rfl,rfl,rfl,trivial⟩ rfl rfl fun w ok=>aw E rfl fun a E=>wp_ret<|qam<|qaf ?_
    exact fin hF ⟨m0,[vb r2.2,vs r5.1,vs r5.2.1],le_m0,ok.drop.drop,E.d,⟨rv_c (cs:=[vb r2.2,vs r5.1,vs r5.2.1]) E ok rfl qaP rfl (qac.own 1 rfl rfl),rv_t E rfl,trivial⟩,⟨rfl,l7,l8⟩⟩
   refine mv E rfl fun a E=>lw E (qaG Tryz.underlying9 rfl) fun a E=>lw E (qa9 rfl rfl) fun a E=>pf E rfl rfl fun a E=>mv E rfl fun a E=>bu E 62 hF (fun c47 hF E=>?_) fun c47 hF E=>?_
   ·refine lsq E fun a E=>ls E fun a E=>pt E rfl rfl fun a E=>aw E rfl fun a E=>c_if E rfl (fun _=>?_) (fun h=>by cases h)
    refine sg<|lv E ok (qaj (cs:=[vb r2.2,vs r5.1,vs r5.2.1]) qaP rfl rfl (qac.own 0 rfl rfl)) fun a E=>qai E ok 1 rfl rfl rfl qbS rfl rfl ⟨rfl,rfl,rfl,trivial⟩ rfl rfl fun w ok=>aw E rfl fun a E=>wp_ret<|qam<|qaf ?_
    exact fin hF ⟨m0,[vb r2.2,vs r5.1,vs r5.2.1],le_m0,ok.drop.drop,E.d,⟨rv_c (cs:=[vb r2.2,vs r5.1,vs r5.2.1]) E ok rfl qaP rfl (qac.own 1 rfl rfl),rv_t E rfl,trivial⟩,⟨rfl,l7,l8⟩⟩
   refine mv E rfl fun a E=>bd hF fun r48 e49 hF=>lc E qka rfl (qd1 N r5.2.1 l8 e49 hG ok) fun w ok a E=>lw E (qaz rfl) fun a E=>pf E rfl rfl fun a E=>aw E rfl fun a E=>cf E rfl hF (fun c50 hF=>?_) fun c50 hF=>?_
   ·refine sg<|lv E ok (qaj (cs:=[vb r2.2,vs r5.1,vs r5.2.1]) qaP rfl rfl (qac.own 0 rfl rfl)) fun a E=>qai E ok 1 rfl rfl rfl qbS rfl rfl ⟨rfl,rfl,rfl,trivial⟩ rfl rfl fun w ok=>aw E rfl fun a E=>wp_ret<|qam<|qaf ?_
    exact fin hF ⟨m0,[vb r2.2,vs r5.1,vs r5.2.1],le_m0,ok.drop.drop,E.d,⟨rv_c (cs:=[vb r2.2,vs r5.1,vs r5.2.1]) E ok rfl qaP rfl (qac.own 1 rfl rfl),rv_t E rfl,trivial⟩,⟨rfl,l7,l8⟩⟩
   refine wp_skip<|qag<|qaa<|wp_seq<|bd hF fun o51 hJ hF=>qaK (Q':=fun e a w=>e = .normal ∧ Ok u m0 ([(b9,oc 102 [vb r2.2,vs r5.1,vs r5.2.1])] :: [(b1,oc 102 [vb o51.2.negative,vs o51.2.whole,vs o51.2.fraction])] :: S) w ∧ Env 76 a [(2,vp b1),(3,vb o51.1)] ∧ o51.2.whole.length ≤ LIMS ∧ o51.2.fraction.length ≤ LIMS) ?_ ?_
   rotate_left
   ·intro e a w hO
    obtain ⟨rfl,ok,E,l57,l58⟩:=hO
    refine qaa<|wp_ret ?_
    exact fin hF ⟨m0,[vb o51.2.negative,vs o51.2.whole,vs o51.2.fraction],le_m0,ok.drop.drop,E.d,⟨rv_c (cs:=[vb o51.2.negative,vs o51.2.whole,vs o51.2.fraction]) E ok rfl qaP rfl (qac.own 1 rfl rfl),rv_t E rfl,trivial⟩,⟨rfl,l57,l58⟩⟩
   have hF:=hJ
   refine qaW (!r2.2) (fun c54=>?_) (fun c54=>?_)
   ·have hF:=qaU c54 hF
    cases hF
    refine qbT [0] (Cls u m0 ([(b9,oc 102 [vb r2.2,vs r5.1,vs r5.2.1])] :: [(b1,oc 102 [vb false,(vs ([])),(vs ([]))])] :: [])) (Cls u m0 ([(b9,oc 102 [vb r2.2,vs r5.1,vs r5.2.1])] :: [])) (by kernel_rfl) ?_
    intro w hw
    replace ok:=qck ok hw
    clear hw
    refine qan (cl1 (cq le_m0 ok [0,1] rfl) (cq le_m0 ok [0] rfl)) fun hT=>qca 0 E rfl (by kernel_rfl) nP hT (qaj (cs:=[vb r2.2,vs r5.1,vs r5.2.1]) qaP rfl rfl (qac.cown 0 rfl rfl)) rfl rfl fun a E=>kt 1 E rfl hT (qal rfl) fun a E=>kt 2 E rfl hT (qaz rfl) fun a E=>kt 3 E rfl hT (qal rfl) fun a E=>?_
    have E:=E.upd 71 c54 rfl
    refine qcM 4 false E rfl (by kernel_rfl) nP hT rfl rfl fun a E=>qcM 5 false E rfl (by kernel_rfl) nP hT rfl rfl fun a E=>qcM 6 false E rfl (by kernel_rfl) nP hT rfl rfl fun a E=>kt 7 E rfl hT (qco rfl rfl) fun a E=>qaC [8] (by kernel_rfl) rfl (qaH ?_)
    ·refine wo rfl<|qai E ok 1 rfl rfl rfl qbS rfl rfl ⟨rfl,rfl,rfl,trivial⟩ rfl rfl fun w ok=>wn<|qan (cl2 (by kernel_rfl) (cq le_m0 ok [0] rfl)) fun hT=>kt 9 E rfl hT (qa4 rfl) fun a E=>qbq (by kernel_rfl) ?_
     exact ⟨rfl,⟨ok,E.keep [2,3],l7,l8⟩⟩
   have hF:=qaV c54 hF
   obtain ⟨r55,e56,hF⟩:=bnd hF
   obtain rfl:=sj hF
   refine qbT [0] (Cls u m0 ([(b9,oc 102 [vb r2.2,vs r5.1,vs r5.2.1])] :: [(b1,oc 102 [vb false,(vs ([])),(vs ([]))])] :: [])) (Cls u m0 ([(b9,oc 102 [vb r2.2,vs r5.1,vs r5.2.1])] :: [])) (by kernel_rfl) ?_
   intro w hw
   replace ok:=qck ok hw
   clear hw
   refine qan (cl1 (cq le_m0 ok [0,1] rfl) (cq le_m0 ok [0] rfl)) fun hT=>qca 0 E rfl (by kernel_rfl) nP hT (qaj (cs:=[vb r2.2,vs r5.1,vs r5.2.1]) qaP rfl rfl (qac.cown 0 rfl rfl)) rfl rfl fun a E=>kt 1 E rfl hT (qal rfl) fun a E=>kt 2 E rfl hT (qaz rfl) fun a E=>kt 3 E rfl hT (qal rfl) fun a E=>?_
   have E:=E.upd 71 c54 rfl
   refine kt 4 E rfl hT (qaj (cs:=[vb r2.2,vs r5.1,vs r5.2.1]) qaP rfl rfl (qac.cown 0 rfl rfl)) fun a E=>qaC [5] (by kernel_rfl) rfl (qaH ?_)
   ·refine wo rfl<|lc E qlD rfl (qdL N _ (Number.mk r2.2 r5.1 r5.2.1) ⟨rfl,l7,l8⟩ e56 hG ok) fun w ok a E=>wn<|qan (cl1 (cq le_m0 ok [0,1] rfl) (cq le_m0 ok [0] rfl)) fun hT=>kt 6 E rfl hT (qaz rfl) fun a E=>kt 7 E rfl hT (qcq rfl rfl) fun a E=>qaC [8] (by kernel_rfl) rfl (qaH ?_)
    ·refine wo rfl<|qai E ok 1 rfl rfl rfl qbS rfl rfl ⟨rfl,rfl,rfl,trivial⟩ rfl rfl fun w ok=>wn<|qan (cl2 (by kernel_rfl) (cq le_m0 ok [0] rfl)) fun hT=>kt 9 E rfl hT (qa4 rfl) fun a E=>qbq (by kernel_rfl) ?_
     exact ⟨rfl,⟨ok,E.keep [2,3],l7,l8⟩⟩
 refine mv E rfl fun a E=>bd hF fun c16 e17 hF=>lv E ok (qbM Tryz.underlying9 rfl rfl e17) fun a E=>lw E (qao rfl rfl) fun a E=>pt E rfl rfl fun a E=>pf E rfl rfl fun a E=>aw E rfl fun a E=>cf E rfl hF (fun c18 hF=>?_) fun c18 hF=>?_
 ·refine sg<|lv E ok (qaj (cs:=[vb r2.2,vs r5.1,vs r5.2.1]) qaP rfl rfl (qac.own 0 rfl rfl)) fun a E=>qai E ok 1 rfl rfl rfl qbS rfl rfl ⟨rfl,rfl,rfl,trivial⟩ rfl rfl fun w ok=>aw E rfl fun a E=>wp_ret<|qam<|qaf ?_
  exact fin hF ⟨m0,[vb r2.2,vs r5.1,vs r5.2.1],le_m0,ok.drop.drop,E.d,⟨rv_c (cs:=[vb r2.2,vs r5.1,vs r5.2.1]) E ok rfl qaP rfl (qac.own 1 rfl rfl),rv_t E rfl,trivial⟩,⟨rfl,l7,l8⟩⟩
 refine sg<|mz E rfl rfl fun a E=>qaW r5.2.2 (fun c19=>?_) (fun c19=>?_)
 rotate_left
 ·as_aux_lemma =>
   have hF:=qaV c19 hF
   have E:=E.upd 52 c19 rfl
   refine lsq E fun a E=>ls E fun a E=>pf E rfl rfl fun a E=>mz E rfl rfl fun a E=>lw E (qaG Tryz.underlying9 rfl) fun a E=>lw E (qa9 rfl rfl) fun a E=>pf E rfl rfl fun a E=>mv E rfl fun a E=>bu E 62 hF (fun c33 hF E=>?_) fun c33 hF E=>?_
   ·refine lsq E fun a E=>ls E fun a E=>pt E rfl rfl fun a E=>aw E rfl fun a E=>c_if E rfl (fun _=>?_) (fun h=>by cases h)
    refine sg<|lv E ok (qaj (cs:=[vb r2.2,vs r5.1,vs r5.2.1]) qaP rfl rfl (qac.own 0 rfl rfl)) fun a E=>qai E ok 1 rfl rfl rfl qbS rfl rfl ⟨rfl,rfl,rfl,trivial⟩ rfl rfl fun w ok=>aw E rfl fun a E=>wp_ret<|qam<|qaf ?_
    exact fin hF ⟨m0,[vb r2.2,vs r5.1,vs r5.2.1],le_m0,ok.drop.drop,E.d,⟨rv_c (cs:=[vb r2.2,vs r5.1,vs r5.2.1]) E ok rfl qaP rfl (qac.own 1 rfl rfl),rv_t E rfl,trivial⟩,⟨rfl,l7,l8⟩⟩
   refine mv E rfl fun a E=>bd hF fun r34 e35 hF=>lc E qka rfl (qd1 N r5.2.1 l8 e35 hG ok) fun w ok a E=>lw E (qaz rfl) fun a E=>pf E rfl rfl fun a E=>aw E rfl fun a E=>cf E rfl hF (fun c36 hF=>?_) fun c36 hF=>?_
   ·refine sg<|lv E ok (qaj (cs:=[vb r2.2,vs r5.1,vs r5.2.1]) qaP rfl rfl (qac.own 0 rfl rfl)) fun a E=>qai E ok 1 rfl rfl rfl qbS rfl rfl ⟨rfl,rfl,rfl,trivial⟩ rfl rfl fun w ok=>aw E rfl fun a E=>wp_ret<|qam<|qaf ?_
    exact fin hF ⟨m0,[vb r2.2,vs r5.1,vs r5.2.1],le_m0,ok.drop.drop,E.d,⟨rv_c (cs:=[vb r2.2,vs r5.1,vs r5.2.1]) E ok rfl qaP rfl (qac.own 1 rfl rfl),rv_t E rfl,trivial⟩,⟨rfl,l7,l8⟩⟩
   refine wp_skip<|qag<|qaa<|wp_seq<|bd hF fun o37 hJ hF=>qaK (Q':=fun e a w=>e = .normal ∧ Ok u m0 ([(b9,oc 102 [vb r2.2,vs r5.1,vs r5.2.1])] :: [(b1,oc 102 [vb o37.2.negative,vs o37.2.whole,vs o37.2.fraction])] :: S) w ∧ Env 76 a [(2,vp b1),(3,vb o37.1)] ∧ o37.2.whole.length ≤ LIMS ∧ o37.2.fraction.length ≤ LIMS) ?_ ?_
   rotate_left
   ·intro e a w hO
    obtain ⟨rfl,ok,E,l43,l44⟩:=hO
    refine qaa<|wp_ret ?_
    exact fin hF ⟨m0,[vb o37.2.negative,vs o37.2.whole,vs o37.2.fraction],le_m0,ok.drop.drop,E.d,⟨rv_c (cs:=[vb o37.2.negative,vs o37.2.whole,vs o37.2.fraction]) E ok rfl qaP rfl (qac.own 1 rfl rfl),rv_t E rfl,trivial⟩,⟨rfl,l43,l44⟩⟩
   have hF:=hJ
   refine qaW (!r2.2) (fun c40=>?_) (fun c40=>?_)
   ·have hF:=qaU c40 hF
    cases hF
    refine qbT [0] (Cls u m0 ([(b9,oc 102 [vb r2.2,vs r5.1,vs r5.2.1])] :: [(b1,oc 102 [vb false,(vs ([])),(vs ([]))])] :: [])) (Cls u m0 ([(b9,oc 102 [vb r2.2,vs r5.1,vs r5.2.1])] :: [])) (by kernel_rfl) ?_
    intro w hw
    replace ok:=qck ok hw
    clear hw
    refine qan (cl1 (cq le_m0 ok [0,1] rfl) (cq le_m0 ok [0] rfl)) fun hT=>qca 0 E rfl (by kernel_rfl) nP hT (qaj (cs:=[vb r2.2,vs r5.1,vs r5.2.1]) qaP rfl rfl (qac.cown 0 rfl rfl)) rfl rfl fun a E=>kt 1 E rfl hT (qal rfl) fun a E=>kt 2 E rfl hT (qaz rfl) fun a E=>kt 3 E rfl hT (qal rfl) fun a E=>?_
    have E:=E.upd 71 c40 rfl
    refine qcM 4 false E rfl (by kernel_rfl) nP hT rfl rfl fun a E=>qcM 5 false E rfl (by kernel_rfl) nP hT rfl rfl fun a E=>qcM 6 false E rfl (by kernel_rfl) nP hT rfl rfl fun a E=>kt 7 E rfl hT (qco rfl rfl) fun a E=>qaC [8] (by kernel_rfl) rfl (qaH ?_)
    ·refine wo rfl<|qai E ok 1 rfl rfl rfl qbS rfl rfl ⟨rfl,rfl,rfl,trivial⟩ rfl rfl fun w ok=>wn<|qan (cl2 (by kernel_rfl) (cq le_m0 ok [0] rfl)) fun hT=>kt 9 E rfl hT (qa4 rfl) fun a E=>qbq (by kernel_rfl) ?_
     exact ⟨rfl,⟨ok,E.keep [2,3],l7,l8⟩⟩
   have hF:=qaV c40 hF
   obtain ⟨r41,e42,hF⟩:=bnd hF
   obtain rfl:=sj hF
   refine qbT [0] (Cls u m0 ([(b9,oc 102 [vb r2.2,vs r5.1,vs r5.2.1])] :: [(b1,oc 102 [vb false,(vs ([])),(vs ([]))])] :: [])) (Cls u m0 ([(b9,oc 102 [vb r2.2,vs r5.1,vs r5.2.1])] :: [])) (by kernel_rfl) ?_
   intro w hw
   replace ok:=qck ok hw
   clear hw
   refine qan (cl1 (cq le_m0 ok [0,1] rfl) (cq le_m0 ok [0] rfl)) fun hT=>qca 0 E rfl (by kernel_rfl) nP hT (qaj (cs:=[vb r2.2,vs r5.1,vs r5.2.1]) qaP rfl rfl (qac.cown 0 rfl rfl)) rfl rfl fun a E=>kt 1 E rfl hT (qal rfl) fun a E=>kt 2 E rfl hT (qaz rfl) fun a E=>kt 3 E rfl hT (qal rfl) fun a E=>?_
   have E:=E.upd 71 c40 rfl
   refine kt 4 E rfl hT (qaj (cs:=[vb r2.2,vs r5.1,vs r5.2.1]) qaP rfl rfl (qac.cown 0 rfl rfl)) fun a E=>qaC [5] (by kernel_rfl) rfl (qaH ?_)
   ·refine wo rfl<|lc E qlD rfl (qdL N _ (Number.mk r2.2 r5.1 r5.2.1) ⟨rfl,l7,l8⟩ e42 hG ok) fun w ok a E=>wn<|qan (cl1 (cq le_m0 ok [0,1] rfl) (cq le_m0 ok [0] rfl)) fun hT=>kt 6 E rfl hT (qaz rfl) fun a E=>kt 7 E rfl hT (qcq rfl rfl) fun a E=>qaC [8] (by kernel_rfl) rfl (qaH ?_)
    ·refine wo rfl<|qai E ok 1 rfl rfl rfl qbS rfl rfl ⟨rfl,rfl,rfl,trivial⟩ rfl rfl fun w ok=>wn<|qan (cl2 (by kernel_rfl) (cq le_m0 ok [0] rfl)) fun hT=>kt 9 E rfl hT (qa4 rfl) fun a E=>qbq (by kernel_rfl) ?_
     exact ⟨rfl,⟨ok,E.keep [2,3],l7,l8⟩⟩
 have hF:=qaU c19 hF
 have E:=E.upd 52 c19 rfl
 refine mv E rfl fun a E=>lw E (qaG Tryz.underlying9 rfl) fun a E=>lw E (qao rfl rfl) fun a E=>pt E rfl rfl fun a E=>mv E rfl fun a E=>bu E 57 hF (fun c20 hF E=>?_) fun c20 hF E=>?_
 ·refine lsq E fun a E=>ls E fun a E=>pt E rfl rfl fun a E=>mv E rfl fun a E=>lsq E fun a E=>ls E fun a E=>pt E rfl rfl fun a E=>aw E rfl fun a E=>c_if E rfl (fun _=>?_) (fun h=>by cases h)
  refine sg<|lv E ok (qaj (cs:=[vb r2.2,vs r5.1,vs r5.2.1]) qaP rfl rfl (qac.own 0 rfl rfl)) fun a E=>qai E ok 1 rfl rfl rfl qbS rfl rfl ⟨rfl,rfl,rfl,trivial⟩ rfl rfl fun w ok=>aw E rfl fun a E=>wp_ret<|qam<|qaf ?_
  exact fin hF ⟨m0,[vb r2.2,vs r5.1,vs r5.2.1],le_m0,ok.drop.drop,E.d,⟨rv_c (cs:=[vb r2.2,vs r5.1,vs r5.2.1]) E ok rfl qaP rfl (qac.own 1 rfl rfl),rv_t E rfl,trivial⟩,⟨rfl,l7,l8⟩⟩
 refine mv E rfl fun a E=>lw E (qaG Tryz.underlying9 rfl) fun a E=>lw E (qa9 rfl rfl) fun a E=>pf E rfl rfl fun a E=>mv E rfl fun a E=>bu E 62 hF (fun c21 hF E=>?_) fun c21 hF E=>?_
 ·refine lsq E fun a E=>ls E fun a E=>pt E rfl rfl fun a E=>aw E rfl fun a E=>c_if E rfl (fun _=>?_) (fun h=>by cases h)
  refine sg<|lv E ok (qaj (cs:=[vb r2.2,vs r5.1,vs r5.2.1]) qaP rfl rfl (qac.own 0 rfl rfl)) fun a E=>qai E ok 1 rfl rfl rfl qbS rfl rfl ⟨rfl,rfl,rfl,trivial⟩ rfl rfl fun w ok=>aw E rfl fun a E=>wp_ret<|qam<|qaf ?_
  exact fin hF ⟨m0,[vb r2.2,vs r5.1,vs r5.2.1],le_m0,ok.drop.drop,E.d,⟨rv_c (cs:=[vb r2.2,vs r5.1,vs r5.2.1]) E ok rfl qaP rfl (qac.own 1 rfl rfl),rv_t E rfl,trivial⟩,⟨rfl,l7,l8⟩⟩
 refine mv E rfl fun a E=>bd hF fun r22 e23 hF=>lc E qka rfl (qd1 N r5.2.1 l8 e23 hG ok) fun w ok a E=>lw E (qaz rfl) fun a E=>pf E rfl rfl fun a E=>aw E rfl fun a E=>cf E rfl hF (fun c24 hF=>?_) fun c24 hF=>?_
 ·refine sg<|lv E ok (qaj (cs:=[vb r2.2,vs r5.1,vs r5.2.1]) qaP rfl rfl (qac.own 0 rfl rfl)) fun a E=>qai E ok 1 rfl rfl rfl qbS rfl rfl ⟨rfl,rfl,rfl,trivial⟩ rfl rfl fun w ok=>aw E rfl fun a E=>wp_ret<|qam<|qaf ?_
  exact fin hF ⟨m0,[vb r2.2,vs r5.1,vs r5.2.1],le_m0,ok.drop.drop,E.d,⟨rv_c (cs:=[vb r2.2,vs r5.1,vs r5.2.1]) E ok rfl qaP rfl (qac.own 1 rfl rfl),rv_t E rfl,trivial⟩,⟨rfl,l7,l8⟩⟩
 refine wp_skip<|qag<|qaa<|wp_seq<|bd hF fun o25 hJ hF=>qaK (Q':=fun e a w=>e = .normal ∧ Ok u m0 ([(b9,oc 102 [vb r2.2,vs r5.1,vs r5.2.1])] :: [(b1,oc 102 [vb o25.2.negative,vs o25.2.whole,vs o25.2.fraction])] :: S) w ∧ Env 76 a [(2,vp b1),(3,vb o25.1)] ∧ o25.2.whole.length ≤ LIMS ∧ o25.2.fraction.length ≤ LIMS) ?_ ?_
 rotate_left
 ·intro e a w hO
  obtain ⟨rfl,ok,E,l31,l32⟩:=hO
  refine qaa<|wp_ret ?_
  exact fin hF ⟨m0,[vb o25.2.negative,vs o25.2.whole,vs o25.2.fraction],le_m0,ok.drop.drop,E.d,⟨rv_c (cs:=[vb o25.2.negative,vs o25.2.whole,vs o25.2.fraction]) E ok rfl qaP rfl (qac.own 1 rfl rfl),rv_t E rfl,trivial⟩,⟨rfl,l31,l32⟩⟩
 have hF:=hJ
 refine qaW (!r2.2) (fun c28=>?_) (fun c28=>?_)
 ·have hF:=qaU c28 hF
  cases hF
  refine qbT [0] (Cls u m0 ([(b9,oc 102 [vb r2.2,vs r5.1,vs r5.2.1])] :: [(b1,oc 102 [vb false,(vs ([])),(vs ([]))])] :: [])) (Cls u m0 ([(b9,oc 102 [vb r2.2,vs r5.1,vs r5.2.1])] :: [])) (by kernel_rfl) ?_
  intro w hw
  replace ok:=qck ok hw
  clear hw
  refine qan (cl1 (cq le_m0 ok [0,1] rfl) (cq le_m0 ok [0] rfl)) fun hT=>qca 0 E rfl (by kernel_rfl) nP hT (qaj (cs:=[vb r2.2,vs r5.1,vs r5.2.1]) qaP rfl rfl (qac.cown 0 rfl rfl)) rfl rfl fun a E=>kt 1 E rfl hT (qal rfl) fun a E=>kt 2 E rfl hT (qaz rfl) fun a E=>kt 3 E rfl hT (qal rfl) fun a E=>?_
  have E:=E.upd 71 c28 rfl
  refine qcM 4 false E rfl (by kernel_rfl) nP hT rfl rfl fun a E=>qcM 5 false E rfl (by kernel_rfl) nP hT rfl rfl fun a E=>qcM 6 false E rfl (by kernel_rfl) nP hT rfl rfl fun a E=>kt 7 E rfl hT (qco rfl rfl) fun a E=>qaC [8] (by kernel_rfl) rfl (qaH ?_)
  ·refine wo rfl<|qai E ok 1 rfl rfl rfl qbS rfl rfl ⟨rfl,rfl,rfl,trivial⟩ rfl rfl fun w ok=>wn<|qan (cl2 (by kernel_rfl) (cq le_m0 ok [0] rfl)) fun hT=>kt 9 E rfl hT (qa4 rfl) fun a E=>qbq (by kernel_rfl) ?_
   exact ⟨rfl,⟨ok,E.keep [2,3],l7,l8⟩⟩
 have hF:=qaV c28 hF
 obtain ⟨r29,e30,hF⟩:=bnd hF
 obtain rfl:=sj hF
 refine qbT [0] (Cls u m0 ([(b9,oc 102 [vb r2.2,vs r5.1,vs r5.2.1])] :: [(b1,oc 102 [vb false,(vs ([])),(vs ([]))])] :: [])) (Cls u m0 ([(b9,oc 102 [vb r2.2,vs r5.1,vs r5.2.1])] :: [])) (by kernel_rfl) ?_
 intro w hw
 replace ok:=qck ok hw
 clear hw
 refine qan (cl1 (cq le_m0 ok [0,1] rfl) (cq le_m0 ok [0] rfl)) fun hT=>qca 0 E rfl (by kernel_rfl) nP hT (qaj (cs:=[vb r2.2,vs r5.1,vs r5.2.1]) qaP rfl rfl (qac.cown 0 rfl rfl)) rfl rfl fun a E=>kt 1 E rfl hT (qal rfl) fun a E=>kt 2 E rfl hT (qaz rfl) fun a E=>kt 3 E rfl hT (qal rfl) fun a E=>?_
 have E:=E.upd 71 c28 rfl
 refine kt 4 E rfl hT (qaj (cs:=[vb r2.2,vs r5.1,vs r5.2.1]) qaP rfl rfl (qac.cown 0 rfl rfl)) fun a E=>qaC [5] (by kernel_rfl) rfl (qaH ?_)
 ·refine wo rfl<|lc E qlD rfl (qdL N _ (Number.mk r2.2 r5.1 r5.2.1) ⟨rfl,l7,l8⟩ e30 hG ok) fun w ok a E=>wn<|qan (cl1 (cq le_m0 ok [0,1] rfl) (cq le_m0 ok [0] rfl)) fun hT=>kt 6 E rfl hT (qaz rfl) fun a E=>kt 7 E rfl hT (qcq rfl rfl) fun a E=>qaC [8] (by kernel_rfl) rfl (qaH ?_)
  ·refine wo rfl<|qai E ok 1 rfl rfl rfl qbS rfl rfl ⟨rfl,rfl,rfl,trivial⟩ rfl rfl fun w ok=>wn<|qan (cl2 (by kernel_rfl) (cq le_m0 ok [0] rfl)) fun hT=>kt 9 E rfl hT (qa4 rfl) fun a E=>qbq (by kernel_rfl) ?_
   exact ⟨rfl,⟨ok,E.keep [2,3],l7,l8⟩⟩
def qkx (u:World) (m0:Mem) (S:Segs) (r:Bool) (a:Act) (w:World):Prop :=
 Ok u m0 S w ∧ a.defers = [] ∧ RVs Tryz.prog a w [.t 2 (.bool r)]
theorem qhk (N:Nat) (s_0:List UInt8) (ls_0:s_0.length ≤ LIMS) {r:Bool} (hF:qdk N s_0 = some r) (hG:Glob u) (ok:Ok u m0 S w) :
  Calls Tryz.prog 55 [vs s_0].toArray w fun e w'=>(e = .returned (.bool r) ∧ Ok u m0 S w'):=by
 have hb0:=ok.base
 have le_m0:=Mem.le.refl m0
 unfold qdk at hF
 refine en (qkx u m0 S) r Tryz.func55 rfl rfl rfl (fun _ _ h=>ra h rfl) fun fin a E=>sg<|aw E rfl fun a E=>sg<|mv E rfl fun a E=>bd hF fun r1 e2 hF=>qas E qq5 rfl (qj3 N s_0 ls_0 e2 hG ok) rfl rfl ?_
 rintro _ w ⟨m3,vs4,rfl,hle,ok,h5⟩
 have le_m0:=le_m0.trans hle
 obtain ⟨rfl,l6,l7⟩:=h5
 refine ⟨_,rfl,fun a E=>?_⟩
 refine mv E rfl fun a E=>lw E (qaF rfl rfl) fun a E=>lw E (qaF rfl rfl) fun a E=>qbh E ok qiu rfl rfl fun b8 a w E ok=>qai E ok 0 rfl rfl rfl qbS rfl rfl ⟨rfl,rfl,rfl,trivial⟩ rfl rfl fun w ok=>aw E rfl fun a E=>sg<|mv E rfl fun a E=>aw E rfl fun a E=>wp_ret ?_
 exact fin hF ⟨(ok.drop).down hb0 le_m0,E.d,rz E rfl⟩
def qkP (u:World) (m0:Mem) (S:Segs) (r:Bool) (a:Act) (w:World):Prop :=
 Ok u m0 S w ∧ a.defers = [] ∧ RVs Tryz.prog a w [.t 2 (.bool r)]
theorem qk9 (N:Nat) (s_0:List UInt8) (ls_0:s_0.length ≤ LIMS) {r:Bool} (hF:qe6 N s_0 = some r) (hG:Glob u) (ok:Ok u m0 S w) :
  Calls Tryz.prog 77 [vs s_0].toArray w fun e w'=>(e = .returned (.bool r) ∧ Ok u m0 S w'):=by
 unfold qe6 at hF
 refine en (qkP u m0 S) r Tryz.func77 rfl rfl rfl (fun _ _ h=>ra h rfl) fun fin a E=>sg<|aw E rfl fun a E=>wp_seq<|sg<|mv E rfl fun a E=>wn<|wp_block<|wp_seq<|sg<|lw E (qbf rfl rfl) fun a E=>aw E rfl fun a E=>bd hF fun o1 hJ hF=>qaK (Q':=fun e a w=>e = .normal ∧ Ok u m0 (S) w ∧ Env 11 a [(4,vb o1)]) ?_ ?_
 rotate_left
 ·intro e a w hO
  obtain ⟨rfl,ok,E⟩:=hO
  refine qaa<|cf E rfl hF (fun c7 hF=>?_) fun c7 hF=>?_
  ·refine sg<|aw E rfl fun a E=>wp_ret<|qam<|qaf ?_
   exact fin hF ⟨ok,E.d,rz E rfl⟩
  refine wp_skip<|qag<|qaa<|sg<|aw E rfl fun a E=>wp_ret ?_
  exact fin hF ⟨ok,E.d,rz E rfl⟩
 have hF:=hJ
 refine cf E rfl hF (fun c2 hF=>?_) fun c2 hF=>?_
 ·refine wp_skip ?_
  cases hF
  exact ⟨rfl,⟨ok,E.keep [4]⟩⟩
 refine sg<|lw E (qbf rfl rfl) fun a E=>aw E rfl fun a E=>cf E rfl hF (fun c3 hF=>?_) fun c3 hF=>?_
 ·refine wp_skip ?_
  cases hF
  exact ⟨rfl,⟨ok,E.keep [4]⟩⟩
 refine sg<|lw E (qbf rfl rfl) fun a E=>aw E rfl fun a E=>cf E rfl hF (fun c4 hF=>?_) fun c4 hF=>?_
 ·refine wp_skip ?_
  cases hF
  exact ⟨rfl,⟨ok,E.keep [4]⟩⟩
 refine sg<|lw E (qbf rfl rfl) fun a E=>aw E rfl fun a E=>cf E rfl hF (fun c5 hF=>?_) fun c5 hF=>?_
 ·refine wp_skip ?_
  cases hF
  exact ⟨rfl,⟨ok,E.keep [4]⟩⟩
 refine sg<|lw E (qbf rfl rfl) fun a E=>aw E rfl fun a E=>cf E rfl hF (fun c6 hF=>?_) fun c6 hF=>?_
 ·refine wp_skip ?_
  cases hF
  exact ⟨rfl,⟨ok,E.keep [4]⟩⟩
 refine qab<|lw E (qbf rfl rfl) fun a E=>av E rfl fun a E=>wpList_nil ?_
 cases hF
 exact ⟨rfl,⟨ok,E.keep [4]⟩⟩
def qlR (u:World) (m0:Mem) (S:Segs) (r:Bool) (a:Act) (w:World):Prop :=
 Ok u m0 S w ∧ a.defers = [] ∧ RVs Tryz.prog a w [.t 4 (.bool r)]
theorem ql3 (N:Nat) (kind_0:Int) (rkind_0:InR .i64 kind_0) (s_1:List UInt8) (ls_1:s_1.length ≤ LIMS) {r:Bool} (hF:qfU N kind_0 s_1 = some r) (hG:Glob u) (ok:Ok u m0 S w) :
  Calls Tryz.prog 67 [vi kind_0,vs s_1].toArray w fun e w'=>(e = .returned (.bool r) ∧ Ok u m0 S w'):=by
 unfold qfU at hF
 refine en (qlR u m0 S) r Tryz.func67 rfl rfl rfl (fun _ _ h=>ra h rfl) fun fin a E=>sg<|aw E rfl fun a E=>wp_seq<|sg<|mv E rfl fun a E=>lw E (qao rfl rfl) fun a E=>wn<|cf E rfl hF (fun c1 hF=>?_) fun c1 hF=>?_
 ·refine sg<|mv E rfl fun a E=>bd hF fun r2 e3 hF=>lc E qip rfl (qd7 N s_1 ls_1 e3 hG ok) fun w ok a E=>aw E rfl fun a E=>wp_ret<|qaf ?_
  exact fin hF ⟨ok,E.d,rz E rfl⟩
 refine wp_skip<|qaa<|sg<|mv E rfl fun a E=>bd hF fun r4 e5 hF=>qas E qnb rfl (qeW N s_1 ls_1 ([61]) (show ([61]:List UInt8).length ≤ LIMS by decide) e5 hG ok) rfl rfl ?_
 rintro _ w ⟨⟨rfl,ok⟩,l6⟩
 refine ⟨_,rfl,fun a E=>?_⟩
 refine mv E rfl fun a E=>lw E (qaF rfl rfl) fun a E=>lw E (qaF rfl rfl) fun a E=>av E rfl fun a E=>aw E rfl fun a E=>sg<|mv E rfl fun a E=>bd hF fun r7 e8 hF=>lc E qq0 rfl (qk9 N s_1 ls_1 e8 hG ok) fun w ok a E=>mv E rfl fun a E=>qaW r7 (fun c9=>?_) (fun c9=>?_)
 ·have hF:=qaU c9 hF
  have E:=E.upd 18 c9 rfl
  refine lsz E fun a E=>ls E fun a E=>pt E rfl rfl fun a E=>av E rfl fun a E=>wn<|wp_ret ?_
  exact fin hF ⟨ok,E.d,rz E rfl⟩
 have hF:=qaV c9 hF
 have E:=E.upd 18 c9 rfl
 refine mz E rfl rfl fun a E=>qaW r4.2 (fun c10=>?_) (fun c10=>?_)
 rotate_left
 ·have hF:=qaV c10 hF
  have E:=E.upd 20 c10 rfl
  refine lsq E fun a E=>pf E rfl rfl fun a E=>pf E rfl rfl fun a E=>aw E rfl fun a E=>wp_ret ?_
  exact fin hF ⟨ok,E.d,rz E rfl⟩
 have hF:=qaU c10 hF
 have E:=E.upd 20 c10 rfl
 refine mv E rfl fun a E=>bd hF fun r11 e12 hF=>lc E qps rfl (qhk N r4.1 l6 e12 hG ok) fun w ok a E=>pt E rfl rfl fun a E=>pf E rfl rfl fun a E=>aw E rfl fun a E=>wp_ret ?_
 exact fin hF ⟨ok,E.d,rz E rfl⟩
def qfo (u:World) (m0:Mem) (S:Segs) (x0:List (List UInt8 × Bool)) (vm0:Value) (Mm0:List (Nat × Obj)) (r:Bool × (List (List UInt8 × Bool))) (a:Act) (w:World):Prop :=
 ∃ m1 M1,m0.le m1 ∧ Ok u m1 ([] :: M1 :: S) w ∧ a.defers = [] ∧ RVs Tryz.prog a w [.t 8 (.bool r.1)] ∧ OMap kS (oneV pB) m1 vm0 r.2 M1
def qfl (u:World) (m0:Mem) (S:Segs) (x0:List (List UInt8 × Bool)) (vm0:Value) (Mm0:List (Nat × Obj)) (r:Bool × (List (List UInt8 × Bool))) (a:Act) (w:World):Prop :=
 ∃ m1 M9,m0.le m1 ∧ Ok u m1 ([] :: M9 :: S) w ∧ a.defers = [] ∧ RVs Tryz.prog a w [.t 8 (.bool r.1)] ∧ OMap kS (oneV pB) m1 vm0 r.2 M9
def qcZ (N:Nat):Prop:=∀ {u:World} {m0:Mem} {S:Segs} {w:World} (vl_1:Value) (l_1:List (Part)) (hl_1:(pL 6 qbD) m0 [vl_1] l_1) (depth_2:Int) (rdepth_2:InR .i64 depth_2) (counting_3:Bool) {vm0:Value} {Mm0:List (Nat × Obj)} (x0:List (List UInt8 × Bool)) (hm0:OMap kS (oneV pB) m0 vm0 x0 Mm0) {r:Bool × (List (List UInt8 × Bool))} (hF:qaM N l_1 depth_2 counting_3 x0 = some r) (hG:Glob u) (ok:Ok u m0 ([] :: Mm0 :: S) w),Calls Tryz.prog 43 [Value.agg [vm0].toArray,vl_1,vi depth_2,vb counting_3].toArray w fun e w'=>∃ m1 M1,e = .returned (.bool r.1) ∧ m0.le m1 ∧ Ok u m1 ([] :: M1 :: S) w' ∧ OMap kS (oneV pB) m1 vm0 r.2 M1
def qcX (N:Nat):Prop:=∀ {u:World} {m0:Mem} {S:Segs} {w:World} (vx_1:List Value) (x_1:Part) (hx_1:qbD m0 vx_1 x_1) (depth_2:Int) (rdepth_2:InR .i64 depth_2) (counting_3:Bool) {vm0:Value} {Mm0:List (Nat × Obj)} (x0:List (List UInt8 × Bool)) (hm0:OMap kS (oneV pB) m0 vm0 x0 Mm0) {r:Bool × (List (List UInt8 × Bool))} (hF:qbk N x_1 depth_2 counting_3 x0 = some r) (hG:Glob u) (ok:Ok u m0 ([] :: Mm0 :: S) w),Calls Tryz.prog 57 [Value.agg [vm0].toArray,.agg vx_1.toArray,vi depth_2,vb counting_3].toArray w fun e w'=>∃ m1 M9,e = .returned (.bool r.1) ∧ m0.le m1 ∧ Ok u m1 ([] :: M9 :: S) w' ∧ OMap kS (oneV pB) m1 vm0 r.2 M9
theorem qgG (N:Nat) (ih_syntax_checker_parts:qcZ N) (ih_syntax_checker_cases:qcX N):qcZ (N + 1):=by
 intro u m0 S w vl_1 l_1 hl_1 depth_2 rdepth_2 counting_3 vm0 Mm0 x0 hm0 r hF hG ok
 have le_m0:=Mem.le.refl m0
 have hF0:qcm (qaM N) (qbk N) N l_1 depth_2 counting_3 x0 = some r:=hF
 have hF:=hF0
 clear hF0
 unfold qcm at hF
 refine en (qfo u m0 S x0 vm0 Mm0) r Tryz.func43 rfl rfl rfl (by rintro a w ⟨m1,M1,hle,ok,hd,hrv,h0⟩; exact qcw [.t 8 (.bool r.1)] hd rfl hrv ⟨m1,M1,rfl,hle,ok,h0⟩) fun fin a E=>sg<|qdf E ok rfl rfl rfl fun b3 a w E ok=>aw E rfl fun a E=>wp_seq<|sg<|mv E rfl fun a E=>lv E ok (qax qbj hl_1 rfl) fun a E=>mv E rfl fun a E=>wn<|wp_block<|bd hF fun o8 hL hF=>qaX _ (fun (s:Int × (List (List UInt8 × Bool))) a w=>∃ m9 M11,m0.le m9 ∧ Ok u m9 ([(b3,oc 81 [vm0])] :: [] :: M11 :: S) w ∧ Env 94 a [(1,vl_1),(2,vi depth_2),(3,vb counting_3),(4,vp b3),(11,vl_1),(12,(vi (l_1.length:Int))),(13,vi s.1)] ∧ InR .i64 s.1 ∧ OMap kS (oneV pB) m9 vm0 s.2 M11) (fun (b:(((List (List UInt8 × Bool))) ⊕ (Bool × (List (List UInt8 × Bool))))) e a w=>(Sum.elim (fun b138=>e = (.exit 0) ∧ ∃ m139 M140,m0.le m139 ∧ Ok u m139 ([(b3,oc 81 [vm0])] :: [] :: M140 :: S) w ∧ Env 94 a [] ∧ OMap kS (oneV pB) m139 vm0 b138 M140) (fun b142=>e = .ret ∧ qfo u m0 S x0 vm0 Mm0 b142 a w)) b) ?_ ?_ N _ a w hL ⟨m0,Mm0,Mem.le.refl _,ok,E.keep [1,2,3,4,11,12,13],(ir 0),hm0⟩
 rotate_left
 ·intro e a w _ hO
  rcases o8 with o8 | o8
  rotate_left
  ·obtain ⟨rfl,hret⟩:=hO
   refine qam<|qaf ?_
   exact fin hF hret
  have hF:=qcl hF
  obtain ⟨rfl,m135,M136,hle,ok,E,h137⟩:=hO
  have le_m0:=le_m0.trans hle
  have hl_1:=(mL qaq).up hle hl_1
  refine qba<|qaa<|sg<|aw E rfl fun a E=>wp_ret ?_
  exact fin hF ⟨m135,M136,le_m0,ok.drop,E.d,rz E rfl,h137⟩
 rintro ⟨v13,v14⟩ a w r ⟨m15,M17,hle,ok,E,r16,h18⟩ hF
 replace hF:qcb (qaM N) (qbk N) N l_1 depth_2 counting_3 v13 v14 = some r:=hF
 unfold qcb at hF
 have le_m0:=le_m0.trans hle
 have hl_1:=(mL qaq).up hle hl_1
 refine sg<|lw E (qaJ rfl rfl) fun a E=>wn<|wp_seq<|cg E rfl hF (fun c19 hF=>?_) fun c19 hF=>?_
 ·refine wp_exit<|qaO ?_
  cases hF
  exact so (sl ⟨rfl,⟨m15,M17,le_m0,ok,E.keep [],h18⟩⟩)
 refine wp_skip<|qaa<|wp_seq<|wp_block<|sg<|mv E rfl fun a E=>?_
 obtain ⟨x20,e21,hF⟩:=bnd hF
 obtain ⟨b22,o23,es24,hl25,rr26,at27,yy28⟩:=ia E 11 13 qbj hl_1 e21
 obtain ⟨c33,c35,rfl,r29,l30,l31,l32,h34,h36⟩:=(qaL.1 rr26)
 refine lv E ok (yy28 _ _) fun a E=>lv E ok (qaj (cs:=[vi x20.Kind,vs x20.Text,vs x20.Name,vs x20.Style,c33,c35]) qep rfl rfl (qac.ro at27)) fun a E=>qbh E ok qeV rfl rfl fun b37 a w E ok=>av E rfl fun a E=>qai E ok 0 rfl rfl rfl qgg rfl rfl ⟨rfl,rfl,rfl,rfl,(qcW h34),(qcW h36),trivial⟩ rfl rfl fun w ok=>wn<|wp_seq<|wp_seq<|bd hF fun o38 hJ hF=>qaK (Q':=fun e a w=>e = .normal ∧ Ok u m15 ([(b37,oc 63 [vi x20.Kind,vs x20.Text,vs x20.Name,vs x20.Style,c33,c35])] :: [(b3,oc 81 [vm0])] :: [] :: M17 :: S) w ∧ Env 94 a [(1,vl_1),(2,vi depth_2),(3,vb counting_3),(4,vp b3),(10,vp b37),(11,vl_1),(12,(vi (l_1.length:Int))),(13,vi v13),(47,vb o38)]) ?_ ?_
 ·as_aux_lemma =>
   have hF:=hJ
   refine qab<|lv E ok (qaj (cs:=[vi x20.Kind,vs x20.Text,vs x20.Name,vs x20.Style,c33,c35]) qep rfl rfl (qac.own 0 rfl rfl)) fun a E=>bd hF fun r39 e40 hF=>lc E qq1 rfl (qkh N _ x20 (qaL.2 ⟨_,_,rfl,r29,l30,l31,l32,h34,h36⟩) e40 hG ok) fun w ok a E=>lw E (qaz rfl) fun a E=>mv E rfl fun a E=>bu E 21 hF (fun c41 hF E=>?_) fun c41 hF E=>?_
   ·refine lsz E fun a E=>lsq E fun a E=>ls E fun a E=>pt E rfl rfl fun a E=>mv E rfl fun a E=>lsz E fun a E=>lsq E fun a E=>ls E fun a E=>?_
    refine lsz E fun a E=>lsz E fun a E=>ls E fun a E=>pt E rfl rfl fun a E=>wpList_nil ?_
    cases hF
    exact ⟨rfl,⟨ok,E.keep [1,2,3,4,10,11,12,13,47]⟩⟩
   refine fk E ok qar qat rfl 0 rfl rfl fun a E=>lw E (qao rfl rfl) fun a E=>mv E rfl fun a E=>bw E 25 hF (fun c42 hF E=>?_) fun c42 hF E=>?_
   ·refine lsq E fun a E=>pf E rfl rfl fun a E=>pf E rfl rfl fun a E=>mz E rfl rfl fun a E=>lw E (qa9 rfl rfl) fun a E=>mv E rfl fun a E=>bw E 33 hF (fun c63 hF E=>?_) fun c63 hF E=>?_
    ·refine lsq E fun a E=>ls E fun a E=>pf E rfl rfl fun a E=>mv E rfl fun a E=>lsz E fun a E=>lsq E fun a E=>ls E fun a E=>pf E rfl rfl fun a E=>pf E rfl rfl fun a E=>wpList_nil ?_
     cases hF
     exact ⟨rfl,⟨ok,E.keep [1,2,3,4,10,11,12,13,47]⟩⟩
    refine fk E ok qar qat rfl 0 rfl rfl fun a E=>lw E (qao rfl rfl) fun a E=>pt E rfl rfl fun a E=>mv E rfl fun a E=>bw E 38 hF (fun c64 hF E=>?_) fun c64 hF E=>?_
    ·refine lsz E fun a E=>lsq E fun a E=>ls E fun a E=>pf E rfl rfl fun a E=>pf E rfl rfl fun a E=>wpList_nil ?_
     cases hF
     exact ⟨rfl,⟨ok,E.keep [1,2,3,4,10,11,12,13,47]⟩⟩
    refine mz E rfl rfl fun a E=>lw E (qkA rfl rfl (InR.dec r16 (ir 0) c63)) fun a E=>?_
    obtain ⟨x65,e66,hF⟩:=bnd hF
    obtain ⟨b67,o68,es69,hl70,rr71,at72,yy73⟩:=ia E 39 41 qbj hl_1 e66
    obtain ⟨c78,c80,rfl,r74,l75,l76,l77,h79,h81⟩:=(qaL.1 rr71)
    refine lv E ok (yy73 _ _) fun a E=>fv E qar rfl fun a E=>lv E ok (qak qat rfl (qac.ro (At.sub 0 1 at72))) fun a E=>lw E (qao rfl rfl) fun a E=>pt E rfl rfl fun a E=>pf E rfl rfl fun a E=>wpList_nil ?_
    cases hF
    exact ⟨rfl,⟨ok,E.keep [1,2,3,4,10,11,12,13,47]⟩⟩
   refine mv E rfl fun a E=>lw E (qaz rfl) fun a E=>pt E rfl rfl fun a E=>pf E rfl rfl fun a E=>mv E rfl fun a E=>bu E 30 hF (fun c43 hF E=>?_) fun c43 hF E=>?_
   ·refine lsz E fun a E=>lsz E fun a E=>lsz E fun a E=>lsz E fun a E=>?_
    refine pt E rfl rfl fun a E=>wpList_nil ?_
    cases hF
    exact ⟨rfl,⟨ok,E.keep [1,2,3,4,10,11,12,13,47]⟩⟩
   refine mv E rfl fun a E=>lw E (qa9 rfl rfl) fun a E=>mv E rfl fun a E=>bw E 33 hF (fun c44 hF E=>?_) fun c44 hF E=>?_
   ·refine lsq E fun a E=>ls E fun a E=>pf E rfl rfl fun a E=>mv E rfl fun a E=>lsz E fun a E=>lsq E fun a E=>ls E fun a E=>pf E rfl rfl fun a E=>pf E rfl rfl fun a E=>wpList_nil ?_
    cases hF
    exact ⟨rfl,⟨ok,E.keep [1,2,3,4,10,11,12,13,47]⟩⟩
   refine fk E ok qar qat rfl 0 rfl rfl fun a E=>lw E (qao rfl rfl) fun a E=>pt E rfl rfl fun a E=>mv E rfl fun a E=>bw E 38 hF (fun c45 hF E=>?_) fun c45 hF E=>?_
   ·refine lsz E fun a E=>lsq E fun a E=>ls E fun a E=>pf E rfl rfl fun a E=>pf E rfl rfl fun a E=>wpList_nil ?_
    cases hF
    exact ⟨rfl,⟨ok,E.keep [1,2,3,4,10,11,12,13,47]⟩⟩
   refine mz E rfl rfl fun a E=>lw E (qkA rfl rfl (InR.dec r16 (ir 0) c44)) fun a E=>?_
   obtain ⟨x46,e47,hF⟩:=bnd hF
   obtain ⟨b48,o49,es50,hl51,rr52,at53,yy54⟩:=ia E 39 41 qbj hl_1 e47
   obtain ⟨c59,c61,rfl,r55,l56,l57,l58,h60,h62⟩:=(qaL.1 rr52)
   refine lv E ok (yy54 _ _) fun a E=>fv E qar rfl fun a E=>lv E ok (qak qat rfl (qac.ro (At.sub 0 1 at53))) fun a E=>lw E (qao rfl rfl) fun a E=>pt E rfl rfl fun a E=>pf E rfl rfl fun a E=>wpList_nil ?_
   cases hF
   exact ⟨rfl,⟨ok,E.keep [1,2,3,4,10,11,12,13,47]⟩⟩
 intro e a w hO
 obtain ⟨rfl,ok,E⟩:=hO
 refine qaa<|cf E rfl hF (fun c82 hF=>?_) fun c82 hF=>?_
 ·refine sg<|aw E rfl fun a E=>wp_ret<|qaf<|qam<|qaf ?_
  cases hF
  exact so (sr ⟨rfl,⟨m15,M17,le_m0,ok.drop.drop,E.d,rz E rfl,h18⟩⟩)
 refine wp_skip<|qaa<|wp_seq<|sg<|fk E ok qar qat rfl 0 rfl rfl fun a E=>lw E (qao rfl rfl) fun a E=>mv E rfl fun a E=>bw E 51 hF (fun c83 hF E=>?_) fun c83 hF E=>?_
 ·as_aux_lemma =>
   refine lsz E fun a E=>lsz E fun a E=>lsz E fun a E=>pf E rfl rfl fun a E=>wn<|c_if E rfl (fun h=>by cases h) (fun _=>?_)
   refine wp_skip<|qaa<|wp_seq<|sg<|fk E ok qar qat rfl 0 rfl rfl fun a E=>bd hF fun r113 e114 hF=>lc E qgM rfl (qbN N x20.Kind r29 e114 hG ok) fun w ok a E=>mv E rfl fun a E=>qaW r113 (fun c115=>?_) (fun c115=>?_)
   rotate_left
   ·as_aux_lemma =>
     have hF:=qaV c115 hF
     have E:=E.upd 68 c115 rfl
     refine lsz E fun a E=>lsz E fun a E=>lsq E fun a E=>ls E fun a E=>pf E rfl rfl fun a E=>wn<|c_if E rfl (fun h=>by cases h) (fun _=>?_)
     refine wp_skip<|qaa<|sg<|fk E ok qar qat rfl 0 rfl rfl fun a E=>lw E (qda rfl rfl) fun a E=>mv E rfl fun a E=>bw E 84 hF (fun c129 hF E=>?_) fun c129 hF E=>?_
     ·refine lsq E fun a E=>ls E fun a E=>pf E rfl rfl fun a E=>wn<|c_if E rfl (fun h=>by cases h) (fun _=>?_)
      refine wp_skip<|qag<|qaa<|qab<|lw E (qau rfl rfl (InR.inc r16 (qae hl_1) c19)) fun a E=>mv E rfl fun a E=>wpList_nil ?_
      cases hF
      exact qap ⟨m15,M17,le_m0,(ok.pk 4 [1,2,3] rfl (by decide)),E.keep [1,2,3,4,11,12,13],(InR.inc r16 (qae hl_1) c19),h18⟩
     refine fk E ok qaw qah rfl 0 rfl rfl fun a E=>lw E (qbB rfl rfl) fun a E=>pt E rfl rfl fun a E=>wn<|cg E rfl hF (fun c130 hF=>?_) fun c130 hF=>?_
     ·refine wp_skip<|qag<|qaa<|qab<|lw E (qau rfl rfl (InR.inc r16 (qae hl_1) c19)) fun a E=>mv E rfl fun a E=>wpList_nil ?_
      cases hF
      exact qap ⟨m15,M17,le_m0,(ok.pk 4 [1,2,3] rfl (by decide)),E.keep [1,2,3,4,11,12,13],(InR.inc r16 (qae hl_1) c19),h18⟩
     refine qab<|fk E ok qh9 qi8 rfl 1 rfl rfl fun a E=>fk E ok qaw qah rfl 0 rfl rfl fun a E=>bd hF fun l131 e132 hF=>qgY (.inl rfl) E ok 3 (qcc Tryz.underlying9) Tryz.underlying79 h18 rfl rfl rfl rfl ⟨rfl,l31⟩ qcO e132 rfl fun M133 w ok h134=>wpList_nil<|qag<|qaa<|qab<|lw E (qau rfl rfl (InR.inc r16 (qae hl_1) c19)) fun a E=>mv E rfl fun a E=>wpList_nil ?_
     cases hF
     exact qap ⟨m15,M133,le_m0,(ok.pk 4 [1,2,3] rfl (by decide)),E.keep [1,2,3,4,11,12,13],(InR.inc r16 (qae hl_1) c19),h134⟩
   have hF:=qaU c115 hF
   have E:=E.upd 68 c115 rfl
   refine mv E rfl fun a E=>lw E (qcB rfl rfl) fun a E=>mv E rfl fun a E=>bu E 71 hF (fun c116 hF E=>?_) fun c116 hF E=>?_
   ·refine lsz E fun a E=>lsq E fun a E=>ls E fun a E=>pt E rfl rfl fun a E=>pt E rfl rfl fun a E=>wn<|c_if E rfl (fun _=>?_) (fun h=>by cases h)
    refine sg<|aw E rfl fun a E=>wp_ret<|qaf<|qam<|qaf ?_
    cases hF
    exact so (sr ⟨rfl,⟨m15,M17,le_m0,ok.drop.drop,E.d,rz E rfl,h18⟩⟩)
   refine lv E ok (qaj (cs:=[vm0]) qi2 rfl rfl (qac.own 1 rfl rfl)) fun a E=>lv E ok (qaj (cs:=[vi x20.Kind,vs x20.Text,vs x20.Name,vs x20.Style,c33,c35]) qep rfl rfl (qac.own 0 rfl rfl)) fun a E=>mv E rfl fun a E=>lw E (qbb rfl rfl) fun a E=>mv E rfl fun a E=>?_
   obtain ⟨r117,e118,hF⟩:=bnd hF
   replace ok:Ok u m15 ([] :: M17 :: [(b37,oc 63 [vi x20.Kind,vs x20.Text,vs x20.Name,vs x20.Style,c33,c35])] :: [(b3,oc 81 [vm0])] :: S) w:=(ok.pk 4 [2,3,0,1] rfl (by decide))
   refine qas E qpm rfl (ih_syntax_checker_cases _ x20 (qaL.2 ⟨_,_,rfl,r29,l30,l31,l32,h34,h36⟩) (IntKind.wrap .i64 (depth_2 + 1)) (InR.wrap _ _) counting_3 v14 h18 e118 hG ok) rfl rfl ?_
   rintro _ w ⟨m119,M120,rfl,hle,ok,h121⟩
   have le_m0:=le_m0.trans hle
   have hl_1:=(mL qaq).up hle hl_1
   have h34:=(mL qa6).up hle h34
   have h36:=(mL qaq).up hle h36
   have at27:=At.up hle at27
   refine ⟨_,rfl,fun a E=>?_⟩
   refine lw E (qaz rfl) fun a E=>pf E rfl rfl fun a E=>pt E rfl rfl fun a E=>wn<|cf E rfl hF (fun c122 hF=>?_) fun c122 hF=>?_
   ·refine sg<|aw E rfl fun a E=>wp_ret<|qaf<|qam<|qaf ?_
    cases hF
    exact so (sr ⟨rfl,⟨m119,M120,le_m0,(ok.pk 4 [0,1] rfl (by decide)),E.d,rz E rfl,h121⟩⟩)
   refine wp_skip<|qaa<|sg<|fk E ok qar qat rfl 2 rfl rfl fun a E=>lw E (qda rfl rfl) fun a E=>mv E rfl fun a E=>bw E 84 hF (fun c123 hF E=>?_) fun c123 hF E=>?_
   ·refine lsq E fun a E=>ls E fun a E=>pf E rfl rfl fun a E=>wn<|c_if E rfl (fun h=>by cases h) (fun _=>?_)
    refine wp_skip<|qag<|qaa<|qab<|lw E (qau rfl rfl (InR.inc r16 (qae hl_1) c19)) fun a E=>mv E rfl fun a E=>wpList_nil ?_
    cases hF
    exact qap ⟨m119,M120,le_m0,(ok.pk 4 [3,0,1] rfl (by decide)),E.keep [1,2,3,4,11,12,13],(InR.inc r16 (qae hl_1) c19),h121⟩
   refine fk E ok qaw qah rfl 2 rfl rfl fun a E=>lw E (qbB rfl rfl) fun a E=>pt E rfl rfl fun a E=>wn<|cg E rfl hF (fun c124 hF=>?_) fun c124 hF=>?_
   ·refine wp_skip<|qag<|qaa<|qab<|lw E (qau rfl rfl (InR.inc r16 (qae hl_1) c19)) fun a E=>mv E rfl fun a E=>wpList_nil ?_
    cases hF
    exact qap ⟨m119,M120,le_m0,(ok.pk 4 [3,0,1] rfl (by decide)),E.keep [1,2,3,4,11,12,13],(InR.inc r16 (qae hl_1) c19),h121⟩
   refine qab<|fk E ok qh9 qi8 rfl 3 rfl rfl fun a E=>fk E ok qaw qah rfl 2 rfl rfl fun a E=>bd hF fun l125 e126 hF=>qgY (.inl rfl) E ok 1 (qcc Tryz.underlying9) Tryz.underlying79 h121 rfl rfl rfl rfl ⟨rfl,l31⟩ qcO e126 rfl fun M127 w ok h128=>wpList_nil<|qag<|qaa<|qab<|lw E (qau rfl rfl (InR.inc r16 (qae hl_1) c19)) fun a E=>mv E rfl fun a E=>wpList_nil ?_
   cases hF
   exact qap ⟨m119,M127,le_m0,(ok.pk 4 [3,0,1] rfl (by decide)),E.keep [1,2,3,4,11,12,13],(InR.inc r16 (qae hl_1) c19),h128⟩
 refine mv E rfl fun a E=>lw E (qcB rfl rfl) fun a E=>mv E rfl fun a E=>bu E 54 hF (fun c84 hF E=>?_) fun c84 hF E=>?_
 ·refine lsz E fun a E=>lsz E fun a E=>pt E rfl rfl fun a E=>pt E rfl rfl fun a E=>wn<|c_if E rfl (fun _=>?_) (fun h=>by cases h)
  refine sg<|aw E rfl fun a E=>wp_ret<|qaf<|qam<|qaf ?_
  cases hF
  exact so (sr ⟨rfl,⟨m15,M17,le_m0,ok.drop.drop,E.d,rz E rfl,h18⟩⟩)
 refine lv E ok (qaj (cs:=[vm0]) qi2 rfl rfl (qac.own 1 rfl rfl)) fun a E=>fk E ok qbs qa2 rfl 0 rfl rfl fun a E=>mv E rfl fun a E=>lw E (qbb rfl rfl) fun a E=>mv E rfl fun a E=>?_
 obtain ⟨r85,e86,hF⟩:=bnd hF
 replace ok:Ok u m15 ([] :: M17 :: [(b37,oc 63 [vi x20.Kind,vs x20.Text,vs x20.Name,vs x20.Style,c33,c35])] :: [(b3,oc 81 [vm0])] :: S) w:=(ok.pk 4 [2,3,0,1] rfl (by decide))
 refine qas E qly rfl (ih_syntax_checker_parts _ x20.Parts h36 (IntKind.wrap .i64 (depth_2 + 1)) (InR.wrap _ _) counting_3 v14 h18 e86 hG ok) rfl rfl ?_
 rintro _ w ⟨m87,M88,rfl,hle,ok,h89⟩
 have le_m0:=le_m0.trans hle
 have hl_1:=(mL qaq).up hle hl_1
 have h34:=(mL qa6).up hle h34
 have h36:=(mL qaq).up hle h36
 have at27:=At.up hle at27
 refine ⟨_,rfl,fun a E=>?_⟩
 refine lw E (qaz rfl) fun a E=>pf E rfl rfl fun a E=>pt E rfl rfl fun a E=>wn<|cf E rfl hF (fun c90 hF=>?_) fun c90 hF=>?_
 ·refine sg<|aw E rfl fun a E=>wp_ret<|qaf<|qam<|qaf ?_
  cases hF
  exact so (sr ⟨rfl,⟨m87,M88,le_m0,(ok.pk 4 [0,1] rfl (by decide)),E.d,rz E rfl,h89⟩⟩)
 refine wp_skip<|qaa<|wp_seq<|sg<|fk E ok qar qat rfl 2 rfl rfl fun a E=>bd hF fun r91 e92 hF=>lc E qgM rfl (qbN N x20.Kind r29 e92 hG ok) fun w ok a E=>mv E rfl fun a E=>qaW r91 (fun c93=>?_) (fun c93=>?_)
 rotate_left
 ·as_aux_lemma =>
   have hF:=qaV c93 hF
   have E:=E.upd 68 c93 rfl
   refine lsz E fun a E=>lsz E fun a E=>lsq E fun a E=>ls E fun a E=>pf E rfl rfl fun a E=>wn<|c_if E rfl (fun h=>by cases h) (fun _=>?_)
   refine wp_skip<|qaa<|sg<|fk E ok qar qat rfl 2 rfl rfl fun a E=>lw E (qda rfl rfl) fun a E=>mv E rfl fun a E=>bw E 84 hF (fun c107 hF E=>?_) fun c107 hF E=>?_
   ·refine lsq E fun a E=>ls E fun a E=>pf E rfl rfl fun a E=>wn<|c_if E rfl (fun h=>by cases h) (fun _=>?_)
    refine wp_skip<|qag<|qaa<|qab<|lw E (qau rfl rfl (InR.inc r16 (qae hl_1) c19)) fun a E=>mv E rfl fun a E=>wpList_nil ?_
    cases hF
    exact qap ⟨m87,M88,le_m0,(ok.pk 4 [3,0,1] rfl (by decide)),E.keep [1,2,3,4,11,12,13],(InR.inc r16 (qae hl_1) c19),h89⟩
   refine fk E ok qaw qah rfl 2 rfl rfl fun a E=>lw E (qbB rfl rfl) fun a E=>pt E rfl rfl fun a E=>wn<|cg E rfl hF (fun c108 hF=>?_) fun c108 hF=>?_
   ·refine wp_skip<|qag<|qaa<|qab<|lw E (qau rfl rfl (InR.inc r16 (qae hl_1) c19)) fun a E=>mv E rfl fun a E=>wpList_nil ?_
    cases hF
    exact qap ⟨m87,M88,le_m0,(ok.pk 4 [3,0,1] rfl (by decide)),E.keep [1,2,3,4,11,12,13],(InR.inc r16 (qae hl_1) c19),h89⟩
   refine qab<|fk E ok qh9 qi8 rfl 3 rfl rfl fun a E=>fk E ok qaw qah rfl 2 rfl rfl fun a E=>bd hF fun l109 e110 hF=>qgY (.inl rfl) E ok 1 (qcc Tryz.underlying9) Tryz.underlying79 h89 rfl rfl rfl rfl ⟨rfl,l31⟩ qcO e110 rfl fun M111 w ok h112=>wpList_nil<|qag<|qaa<|qab<|lw E (qau rfl rfl (InR.inc r16 (qae hl_1) c19)) fun a E=>mv E rfl fun a E=>wpList_nil ?_
   cases hF
   exact qap ⟨m87,M111,le_m0,(ok.pk 4 [3,0,1] rfl (by decide)),E.keep [1,2,3,4,11,12,13],(InR.inc r16 (qae hl_1) c19),h112⟩
 have hF:=qaU c93 hF
 have E:=E.upd 68 c93 rfl
 refine mv E rfl fun a E=>lw E (qcB rfl rfl) fun a E=>mv E rfl fun a E=>bu E 71 hF (fun c94 hF E=>?_) fun c94 hF E=>?_
 ·refine lsz E fun a E=>lsq E fun a E=>ls E fun a E=>pt E rfl rfl fun a E=>pt E rfl rfl fun a E=>wn<|c_if E rfl (fun _=>?_) (fun h=>by cases h)
  refine sg<|aw E rfl fun a E=>wp_ret<|qaf<|qam<|qaf ?_
  cases hF
  exact so (sr ⟨rfl,⟨m87,M88,le_m0,(ok.pk 4 [0,1] rfl (by decide)),E.d,rz E rfl,h89⟩⟩)
 refine lv E ok (qaj (cs:=[vm0]) qi2 rfl rfl (qac.own 3 rfl rfl)) fun a E=>lv E ok (qaj (cs:=[vi x20.Kind,vs x20.Text,vs x20.Name,vs x20.Style,c33,c35]) qep rfl rfl (qac.own 2 rfl rfl)) fun a E=>mv E rfl fun a E=>lw E (qbb rfl rfl) fun a E=>mv E rfl fun a E=>bd hF fun r95 e96 hF=>qas E qpm rfl (ih_syntax_checker_cases _ x20 (qaL.2 ⟨_,_,rfl,r29,l30,l31,l32,h34,h36⟩) (IntKind.wrap .i64 (depth_2 + 1)) (InR.wrap _ _) counting_3 r85.2 h89 e96 hG ok) rfl rfl ?_
 rintro _ w ⟨m97,M98,rfl,hle,ok,h99⟩
 have le_m0:=le_m0.trans hle
 have hl_1:=(mL qaq).up hle hl_1
 have h34:=(mL qa6).up hle h34
 have h36:=(mL qaq).up hle h36
 have at27:=At.up hle at27
 refine ⟨_,rfl,fun a E=>?_⟩
 refine lw E (qaz rfl) fun a E=>pf E rfl rfl fun a E=>pt E rfl rfl fun a E=>wn<|cf E rfl hF (fun c100 hF=>?_) fun c100 hF=>?_
 ·refine sg<|aw E rfl fun a E=>wp_ret<|qaf<|qam<|qaf ?_
  cases hF
  exact so (sr ⟨rfl,⟨m97,M98,le_m0,(ok.pk 4 [0,1] rfl (by decide)),E.d,rz E rfl,h99⟩⟩)
 refine wp_skip<|qaa<|sg<|fk E ok qar qat rfl 2 rfl rfl fun a E=>lw E (qda rfl rfl) fun a E=>mv E rfl fun a E=>bw E 84 hF (fun c101 hF E=>?_) fun c101 hF E=>?_
 ·refine lsq E fun a E=>ls E fun a E=>pf E rfl rfl fun a E=>wn<|c_if E rfl (fun h=>by cases h) (fun _=>?_)
  refine wp_skip<|qag<|qaa<|qab<|lw E (qau rfl rfl (InR.inc r16 (qae hl_1) c19)) fun a E=>mv E rfl fun a E=>wpList_nil ?_
  cases hF
  exact qap ⟨m97,M98,le_m0,(ok.pk 4 [3,0,1] rfl (by decide)),E.keep [1,2,3,4,11,12,13],(InR.inc r16 (qae hl_1) c19),h99⟩
 refine fk E ok qaw qah rfl 2 rfl rfl fun a E=>lw E (qbB rfl rfl) fun a E=>pt E rfl rfl fun a E=>wn<|cg E rfl hF (fun c102 hF=>?_) fun c102 hF=>?_
 ·refine wp_skip<|qag<|qaa<|qab<|lw E (qau rfl rfl (InR.inc r16 (qae hl_1) c19)) fun a E=>mv E rfl fun a E=>wpList_nil ?_
  cases hF
  exact qap ⟨m97,M98,le_m0,(ok.pk 4 [3,0,1] rfl (by decide)),E.keep [1,2,3,4,11,12,13],(InR.inc r16 (qae hl_1) c19),h99⟩
 refine qab<|fk E ok qh9 qi8 rfl 3 rfl rfl fun a E=>fk E ok qaw qah rfl 2 rfl rfl fun a E=>bd hF fun l103 e104 hF=>qgY (.inl rfl) E ok 1 (qcc Tryz.underlying9) Tryz.underlying79 h99 rfl rfl rfl rfl ⟨rfl,l31⟩ qcO e104 rfl fun M105 w ok h106=>wpList_nil<|qag<|qaa<|qab<|lw E (qau rfl rfl (InR.inc r16 (qae hl_1) c19)) fun a E=>mv E rfl fun a E=>wpList_nil ?_
 cases hF
 exact qap ⟨m97,M105,le_m0,(ok.pk 4 [3,0,1] rfl (by decide)),E.keep [1,2,3,4,11,12,13],(InR.inc r16 (qae hl_1) c19),h106⟩
theorem qgI (N:Nat) (ih_syntax_checker_parts:qcZ N) (ih_syntax_checker_cases:qcX N):qcX (N + 1):=by
 intro u m0 S w vx_1 x_1 hx_1 depth_2 rdepth_2 counting_3 vm0 Mm0 x0 hm0 r hF hG ok
 obtain ⟨c5,c7,rfl,r1,l2,l3,l4,h6,h8⟩:=(qaL.1 hx_1)
 have le_m0:=Mem.le.refl m0
 have hF0:qcj (qaM N) (qbk N) N x_1 depth_2 counting_3 x0 = some r:=hF
 have hF:=hF0
 clear hF0
 unfold qcj at hF
 refine en (qfl u m0 S x0 vm0 Mm0) r Tryz.func57 rfl rfl rfl (by rintro a w ⟨m1,M9,hle,ok,hd,hrv,h0⟩; exact qcw [.t 8 (.bool r.1)] hd rfl hrv ⟨m1,M9,rfl,hle,ok,h0⟩) fun fin a E=>sg<|qdf E ok rfl rfl rfl fun b11 a w E ok=>qdf E ok rfl rfl rfl fun b12 a w E ok=>aw E rfl fun a E=>sg<|qhi kS (oneV pB) E ok rfl rfl fun c13 M14 a w E ok h15=>aw E rfl fun a E=>wp_seq<|sg<|fk E ok qaR qaZ rfl 1 rfl rfl fun a E=>lv E ok (qax qbe h6 rfl) fun a E=>mv E rfl fun a E=>wn<|wp_block<|bd hF fun o23 hL hF=>qaX _ (fun (s:Int × (List (List UInt8 × Bool)) × (List (List UInt8 × Bool))) a w=>∃ m24 M26 c28 M29,m0.le m24 ∧ Ok u m24 (M29 :: [(b12,oc 63 [vi x_1.Kind,vs x_1.Text,vs x_1.Name,vs x_1.Style,c5,c7])] :: [(b11,oc 81 [vm0])] :: [] :: M26 :: S) w ∧ Env 58 a [(2,vi depth_2),(3,vb counting_3),(4,vp b11),(5,vp b12),(9,c28),(14,c5),(15,(vi (x_1.Cases.length:Int))),(16,vi s.1)] ∧ InR .i64 s.1 ∧ OMap kS (oneV pB) m24 vm0 s.2.1 M26 ∧ OMap kS (oneV pB) m24 c28 s.2.2 M29) (fun (b:(((List (List UInt8 × Bool)) × (List (List UInt8 × Bool))) ⊕ (Bool × (List (List UInt8 × Bool))))) e a w=>(Sum.elim (fun b97=>e = (.exit 0) ∧ ∃ m98 M99 c101 M102,m0.le m98 ∧ Ok u m98 (M102 :: [(b12,oc 63 [vi x_1.Kind,vs x_1.Text,vs x_1.Name,vs x_1.Style,c5,c7])] :: [(b11,oc 81 [vm0])] :: [] :: M99 :: S) w ∧ Env 58 a [(5,vp b12),(9,c101)] ∧ OMap kS (oneV pB) m98 vm0 b97.1 M99 ∧ OMap kS (oneV pB) m98 c101 b97.2 M102) (fun b104=>e = .ret ∧ qfl u m0 S x0 vm0 Mm0 b104 a w)) b) ?_ ?_ N _ a w hL ⟨m0,Mm0,c13,M14,Mem.le.refl _,ok,E.keep [2,3,4,5,9,14,15,16],(ir 0),hm0,h15⟩
 rotate_left
 ·intro e a w _ hO
  rcases o23 with o23 | o23
  rotate_left
  ·obtain ⟨rfl,hret⟩:=hO
   refine qam<|qaf ?_
   exact fin hF hret
  have hF:=qcl hF
  obtain ⟨rfl,m86,M87,c89,M90,hle,ok,E,h88,h91⟩:=hO
  have le_m0:=le_m0.trans hle
  have h6:=(mL qa6).up hle h6
  have h8:=(mL qaq).up hle h8
  refine qba<|qaa<|sg<|fk E ok qaR qaZ rfl 1 rfl rfl fun a E=>lv E ok (qax qbe h6 rfl) fun a E=>lw E (qcd rfl rfl) fun a E=>mv E rfl fun a E=>bw E 54 hF (fun c92 hF E=>?_) fun c92 hF E=>?_
  ·refine lsq E fun a E=>pf E rfl rfl fun a E=>aw E rfl fun a E=>wp_ret ?_
   exact fin hF ⟨m86,M87,le_m0,ok.drop.drop.drop,E.d,rz E rfl,h88⟩
  refine mv E rfl fun a E=>?_
  obtain ⟨xv93,h94,yy95,yy96⟩:=qkk (P:=Tryz.prog) (mo:=.tmp 55) (ko:=.const (vs ([111,116,104,101,114]))) (zx:=(false:Bool)) ok 0 (qcc Tryz.underlying9) Tryz.underlying79 h91 rfl (qaS E rfl) (qaS E rfl) ⟨rfl,(show ([111,116,104,101,114]:List UInt8).length ≤ LIMS by decide)⟩ qhH qcO
  obtain rfl:=qjl h94
  refine lv E ok (yy95 _) fun a E=>pt E rfl rfl fun a E=>aw E rfl fun a E=>wp_ret ?_
  exact fin hF ⟨m86,M87,le_m0,ok.drop.drop.drop,E.d,rz E rfl,h88⟩
 rintro ⟨v31,v32,v33⟩ a w r ⟨m34,M36,c38,M39,hle,ok,E,r35,h37,h40⟩ hF
 replace hF:qb9 (qaM N) (qbk N) N x_1 depth_2 counting_3 v31 v32 v33 = some r:=hF
 unfold qb9 at hF
 have le_m0:=le_m0.trans hle
 have h6:=(mL qa6).up hle h6
 have h8:=(mL qaq).up hle h8
 refine sg<|lw E (qaJ rfl rfl) fun a E=>wn<|wp_seq<|cg E rfl hF (fun c41 hF=>?_) fun c41 hF=>?_
 ·refine wp_exit<|qaO ?_
  cases hF
  exact so (sl ⟨rfl,⟨m34,M36,c38,M39,le_m0,ok,E.keep [5,9],h37,h40⟩⟩)
 refine wp_skip<|qaa<|wp_seq<|wp_block<|sg ?_
 obtain ⟨x42,e43,hF⟩:=bnd hF
 obtain ⟨b44,o45,es46,hl47,rr48,at49,yy50⟩:=ia E 14 16 qbe h6 e43
 obtain ⟨c52,rfl,l51,h53⟩:=rr48
 refine lv E ok (yy50 _ _) fun a E=>lv E ok (qaj (cs:=[vs x42.Key,c52]) qg1 rfl rfl (qac.ro at49)) fun a E=>qbh E ok qf1 rfl rfl fun b54 a w E ok=>qai E ok 0 rfl rfl rfl qg3 rfl rfl ⟨rfl,(qcW h53),trivial⟩ rfl rfl fun w ok=>wn<|wp_seq<|wp_seq<|bd hF fun o55 hJ hF=>qaK (Q':=fun e a w=>e = .normal ∧ ∃ m56 M57,m34.le m56 ∧ Ok u m56 ([(b54,oc 65 [vs x42.Key,c52])] :: M39 :: [(b12,oc 63 [vi x_1.Kind,vs x_1.Text,vs x_1.Name,vs x_1.Style,c5,c7])] :: [(b11,oc 81 [vm0])] :: [] :: M57 :: S) w ∧ Env 58 a [(2,vi depth_2),(3,vb counting_3),(4,vp b11),(5,vp b12),(9,c38),(11,vp b54),(14,c5),(15,(vi (x_1.Cases.length:Int))),(16,vi v31),(45,vb o55.1)] ∧ OMap kS (oneV pB) m56 vm0 o55.2 M57) ?_ ?_
 rotate_left
 ·intro e a w hO
  obtain ⟨rfl,m78,M79,hle,ok,E,h80⟩:=hO
  have le_m0:=le_m0.trans hle
  have h6:=(mL qa6).up hle h6
  have h8:=(mL qaq).up hle h8
  have h40:=OMap.up (qkN mB) hle h40
  have h53:=(mL qaq).up hle h53
  have at49:=At.up hle at49
  refine qaa<|cf E rfl hF (fun c81 hF=>?_) fun c81 hF=>?_
  ·refine sg<|aw E rfl fun a E=>wp_ret<|qaf<|qam<|qaf ?_
   cases hF
   exact so (sr ⟨rfl,⟨m78,M79,le_m0,ok.drop.drop.drop.drop,E.d,rz E rfl,h80⟩⟩)
  refine wp_skip<|qaa<|qab<|mv E rfl fun a E=>fk E ok qcr qah rfl 0 rfl rfl fun a E=>bd hF fun l82 e83 hF=>qgY (.inl rfl) E ok 1 (qcc Tryz.underlying9) Tryz.underlying79 h40 rfl rfl rfl rfl ⟨rfl,l51⟩ qcO e83 rfl fun M84 w ok h85=>wpList_nil<|qag<|qaa<|qab<|lw E (qau rfl rfl (InR.inc r35 (qae h6) c41)) fun a E=>mv E rfl fun a E=>wpList_nil ?_
  cases hF
  exact qap ⟨m78,M79,c38,M84,le_m0,(ok.pk 6 [1,2,3,4,5] rfl (by decide)),E.keep [2,3,4,5,9,14,15,16],(InR.inc r35 (qae h6) c41),h80,h85⟩
 have hF:=hJ
 have le_m34:=Mem.le.refl m34
 refine qab<|fk E ok qar qat rfl 2 rfl rfl fun a E=>fk E ok qcr qah rfl 0 rfl rfl fun a E=>bd hF fun r59 e60 hF=>lc E qq6 rfl (ql3 N x_1.Kind r1 x42.Key l51 e60 hG ok) fun w ok a E=>lw E (qaz rfl) fun a E=>mv E rfl fun a E=>bu E 26 hF (fun c61 hF E=>?_) fun c61 hF E=>?_
 ·refine lsz E fun a E=>pt E rfl rfl fun a E=>mv E rfl fun a E=>lsz E fun a E=>lsz E fun a E=>lsq E fun a E=>?_
  refine lsq E fun a E=>pt E rfl rfl fun a E=>wpList_nil ?_
  cases hF
  exact ⟨rfl,⟨m34,M36,le_m34,ok,E.keep [2,3,4,5,9,11,14,15,16,45],h37⟩⟩
 refine mv E rfl fun a E=>fk E ok qcr qah rfl 0 rfl rfl fun a E=>?_
 obtain ⟨xv62,h63,yy64,yy65⟩:=qkk (P:=Tryz.prog) (mo:=.tmp 27) (ko:=.tmp 29) (zx:=(false:Bool)) ok 1 (qcc Tryz.underlying9) Tryz.underlying79 h40 rfl (qaS E rfl) (qaS E rfl) ⟨rfl,l51⟩ qhH qcO
 obtain rfl:=qjl h63
 refine lv E ok (yy64 _) fun a E=>pf E rfl rfl fun a E=>mv E rfl fun a E=>bu E 32 hF (fun c66 hF E=>?_) fun c66 hF E=>?_
 ·refine lsz E fun a E=>lsz E fun a E=>lsz E fun a E=>pt E rfl rfl fun a E=>wpList_nil ?_
  cases hF
  exact ⟨rfl,⟨m34,M36,le_m34,ok,E.keep [2,3,4,5,9,11,14,15,16,45],h37⟩⟩
 refine lv E ok (qaj (cs:=[vm0]) qi2 rfl rfl (qac.own 3 rfl rfl)) fun a E=>fk E ok qdP qa2 rfl 0 rfl rfl fun a E=>mz E rfl rfl fun a E=>mv E rfl fun a E=>qaW counting_3 (fun c67=>?_) (fun c67=>?_)
 ·have hF:=qaU c67 hF
  have E:=E.upd 38 c67 rfl
  refine lsq E fun a E=>ls E fun a E=>pt E rfl rfl fun a E=>?_
  obtain ⟨r68,e69,hF⟩:=bnd hF
  replace ok:Ok u m34 ([] :: M36 :: [(b54,oc 65 [vs x42.Key,c52])] :: M39 :: [(b12,oc 63 [vi x_1.Kind,vs x_1.Text,vs x_1.Name,vs x_1.Style,c5,c7])] :: [(b11,oc 81 [vm0])] :: S) w:=(ok.pk 6 [4,5,0,1,2,3] rfl (by decide))
  refine qas E qly rfl (ih_syntax_checker_parts _ x42.Parts h53 depth_2 rdepth_2 true v32 h37 e69 hG ok) rfl rfl ?_
  rintro _ w ⟨m70,M71,rfl,hle,ok,h72⟩
  have le_m0:=le_m0.trans hle
  have le_m34:=le_m34.trans hle
  have h6:=(mL qa6).up hle h6
  have h8:=(mL qaq).up hle h8
  have h40:=OMap.up (qkN mB) hle h40
  have h53:=(mL qaq).up hle h53
  have at49:=At.up hle at49
  refine ⟨_,rfl,fun a E=>?_⟩
  refine lw E (qaz rfl) fun a E=>pf E rfl rfl fun a E=>wpList_nil ?_
  cases hF
  exact ⟨rfl,⟨m70,M71,le_m34,(ok.pk 6 [2,3,4,5,0,1] rfl (by decide)),E.keep [2,3,4,5,9,11,14,15,16,45],h72⟩⟩
 have hF:=qaV c67 hF
 have E:=E.upd 38 c67 rfl
 refine fk E ok qar qat rfl 2 rfl rfl fun a E=>lw E (qda rfl rfl) fun a E=>pf E rfl rfl fun a E=>?_
 obtain ⟨r73,e74,hF⟩:=bnd hF
 replace ok:Ok u m34 ([] :: M36 :: [(b54,oc 65 [vs x42.Key,c52])] :: M39 :: [(b12,oc 63 [vi x_1.Kind,vs x_1.Text,vs x_1.Name,vs x_1.Style,c5,c7])] :: [(b11,oc 81 [vm0])] :: S) w:=(ok.pk 6 [4,5,0,1,2,3] rfl (by decide))
 refine qas E qly rfl (ih_syntax_checker_parts _ x42.Parts h53 depth_2 rdepth_2 (x_1.Kind != 9) v32 h37 e74 hG ok) rfl rfl ?_
 rintro _ w ⟨m75,M76,rfl,hle,ok,h77⟩
 have le_m0:=le_m0.trans hle
 have le_m34:=le_m34.trans hle
 have h6:=(mL qa6).up hle h6
 have h8:=(mL qaq).up hle h8
 have h40:=OMap.up (qkN mB) hle h40
 have h53:=(mL qaq).up hle h53
 have at49:=At.up hle at49
 refine ⟨_,rfl,fun a E=>?_⟩
 refine lw E (qaz rfl) fun a E=>pf E rfl rfl fun a E=>wpList_nil ?_
 cases hF
 exact ⟨rfl,⟨m75,M76,le_m34,(ok.pk 6 [2,3,4,5,0,1] rfl (by decide)),E.keep [2,3,4,5,9,11,14,15,16,45],h77⟩⟩
theorem qgL:qcZ 0:=by
 intro u m0 S w vl_1 l_1 hl_1 depth_2 rdepth_2 counting_3 vm0 Mm0 x0 hm0 r hF hG ok
 replace hF:none = some r:=hF
 cases hF
theorem qgP:qcX 0:=by
 intro u m0 S w vx_1 x_1 hx_1 depth_2 rdepth_2 counting_3 vm0 Mm0 x0 hm0 r hF hG ok
 replace hF:none = some r:=hF
 cases hF
theorem qf6 (N:Nat):qcZ N ∧ qcX N:=by
 induction N with
 | zero=>exact ⟨qgL,qgP⟩
 | succ N h=>exact ⟨qgG N h.1 h.2,qgI N h.1 h.2⟩
theorem qhA {u:World} {m0:Mem} {S:Segs} {w:World} (N:Nat) (vl_1:Value) (l_1:List (Part)) (hl_1:(pL 6 qbD) m0 [vl_1] l_1) (depth_2:Int) (rdepth_2:InR .i64 depth_2) (counting_3:Bool) {vm0:Value} {Mm0:List (Nat × Obj)} (x0:List (List UInt8 × Bool)) (hm0:OMap kS (oneV pB) m0 vm0 x0 Mm0) {r:Bool × (List (List UInt8 × Bool))} (hF:qaM N l_1 depth_2 counting_3 x0 = some r) (hG:Glob u) (ok:Ok u m0 ([] :: Mm0 :: S) w) :
 Calls Tryz.prog 43 [Value.agg [vm0].toArray,vl_1,vi depth_2,vb counting_3].toArray w fun e w'=>∃ m1 M1,e = .returned (.bool r.1) ∧ m0.le m1 ∧ Ok u m1 ([] :: M1 :: S) w' ∧ OMap kS (oneV pB) m1 vm0 r.2 M1:=(qf6 N).1 vl_1 l_1 hl_1 depth_2 rdepth_2 counting_3 x0 hm0 hF hG ok
def qkq (u:World) (m0:Mem) (S:Segs) (r:Bool) (a:Act) (w:World):Prop :=
 Ok u m0 S w ∧ a.defers = [] ∧ RVs Tryz.prog a w [.t 2 (.bool r)]
theorem qkv (N:Nat) (c_0:Int) (rc_0:InR .u8 c_0) {r:Bool} (hF:qeS N c_0 = some r) (hG:Glob u) (ok:Ok u m0 S w) :
  Calls Tryz.prog 68 [Value.int .u8 c_0].toArray w fun e w'=>(e = .returned (.bool r) ∧ Ok u m0 S w'):=by
 unfold qeS at hF
 refine en (qkq u m0 S) r Tryz.func68 rfl rfl rfl (fun _ _ h=>ra h rfl) fun fin a E=>sg<|aw E rfl fun a E=>wp_seq<|sg<|mv E rfl fun a E=>wn<|wp_block<|wp_seq<|sg<|lw E (qao rfl rfl) fun a E=>aw E rfl fun a E=>bd hF fun o1 hJ hF=>qaK (Q':=fun e a w=>e = .normal ∧ Ok u m0 (S) w ∧ Env 11 a [(4,vb o1)]) ?_ ?_
 rotate_left
 ·intro e a w hO
  obtain ⟨rfl,ok,E⟩:=hO
  refine qaa<|cf E rfl hF (fun c7 hF=>?_) fun c7 hF=>?_
  ·refine sg<|aw E rfl fun a E=>wp_ret<|qam<|qaf ?_
   exact fin hF ⟨ok,E.d,rz E rfl⟩
  refine wp_skip<|qag<|qaa<|sg<|aw E rfl fun a E=>wp_ret ?_
  exact fin hF ⟨ok,E.d,rz E rfl⟩
 have hF:=hJ
 refine cf E rfl hF (fun c2 hF=>?_) fun c2 hF=>?_
 ·refine wp_skip ?_
  cases hF
  exact ⟨rfl,⟨ok,E.keep [4]⟩⟩
 refine sg<|lw E (qao rfl rfl) fun a E=>aw E rfl fun a E=>cf E rfl hF (fun c3 hF=>?_) fun c3 hF=>?_
 ·refine wp_skip ?_
  cases hF
  exact ⟨rfl,⟨ok,E.keep [4]⟩⟩
 refine sg<|lw E (qao rfl rfl) fun a E=>aw E rfl fun a E=>cf E rfl hF (fun c4 hF=>?_) fun c4 hF=>?_
 ·refine wp_skip ?_
  cases hF
  exact ⟨rfl,⟨ok,E.keep [4]⟩⟩
 refine sg<|lw E (qao rfl rfl) fun a E=>aw E rfl fun a E=>cf E rfl hF (fun c5 hF=>?_) fun c5 hF=>?_
 ·refine wp_skip ?_
  cases hF
  exact ⟨rfl,⟨ok,E.keep [4]⟩⟩
 refine sg<|lw E (qao rfl rfl) fun a E=>aw E rfl fun a E=>cf E rfl hF (fun c6 hF=>?_) fun c6 hF=>?_
 ·refine wp_skip ?_
  cases hF
  exact ⟨rfl,⟨ok,E.keep [4]⟩⟩
 refine qab<|lw E (qao rfl rfl) fun a E=>av E rfl fun a E=>wpList_nil ?_
 cases hF
 exact ⟨rfl,⟨ok,E.keep [4]⟩⟩
theorem qhM {u:World} {m:Mem} {S:Segs} {w:World} {b:Nat} {v:Value} (ok:Ok u m ([(b,oc 107 [(Value.pointer none),v])] :: S) w) :
  Calls Tryz.prog 78 [.pointer (some ⟨b,0,none⟩)].toArray w fun e w'=>e = .returned (.tuple [].toArray) ∧ Ok u m ([(b,oc 107 [vp b,v])] :: S) w':=by
 have fin:∀ a w,(a.defers = [] ∧ Ok u m ([(b,oc 107 [vp b,v])] :: S) w) → bodyPost Tryz.prog Tryz.f78 (fun e w'=>e = .returned (.tuple [].toArray) ∧ Ok u m ([(b,oc 107 [vp b,v])] :: S) w') .ret a w:=fun a w h=>qcw [] h.1 rfl trivial ⟨rfl,h.2⟩
 refine enter Tryz.func78 rfl rfl rfl fun a E=>sg<|mv E rfl fun a E=>lw E (qaE rfl) fun a E=>fk E ok qiv qkU rfl 0 rfl rfl fun a E=>lv E ok (qor Tryz.underlying105 rfl rfl) fun a E=>wn<|c_if E rfl (fun _=>?_) (fun h=>by cases h)
 refine qab<|mz E rfl rfl fun a E=>lv E ok (qnc Tryz.underlying105 Tryz.underlying117 qpS (by decide) (qli (c:=[(Value.pointer none),v]) 0 rfl) (Nat.le_of_ble_eq_true rfl) rfl) fun a E=>lv E ok (qng Tryz.func82 (by kernel_rfl) (by kernel_rfl) (by kernel_rfl) (by kernel_rfl) rfl) fun a E=>lv E ok (qmg Tryz.underlying117 Tryz.underlying105 ql1 (qli (c:=[(Value.pointer none),v]) 0 rfl) qoK rfl) fun a E=>lw E (qaE rfl) fun a E=>fv E qiv rfl fun a E=>qai E ok 0 rfl rfl rfl qqi rfl rfl ⟨rfl,trivial⟩ rfl rfl fun w ok=>wpList_nil ?_
 exact fin _ _ ⟨E.d,ok⟩
theorem qhu {u:World} {m:Mem} {S:Segs} {w:World} {b:Nat} {v:Value} (ok:Ok u m ([(b,oc 107 [vp b,v])] :: S) w) :
  Calls Tryz.prog 78 [.pointer (some ⟨b,0,none⟩)].toArray w fun e w'=>e = .returned (.tuple [].toArray) ∧ Ok u m ([(b,oc 107 [vp b,v])] :: S) w':=by
 have fin:∀ a w,(a.defers = [] ∧ Ok u m ([(b,oc 107 [vp b,v])] :: S) w) → bodyPost Tryz.prog Tryz.f78 (fun e w'=>e = .returned (.tuple [].toArray) ∧ Ok u m ([(b,oc 107 [vp b,v])] :: S) w') .ret a w:=fun a w h=>qcw [] h.1 rfl trivial ⟨rfl,h.2⟩
 refine enter Tryz.func78 rfl rfl rfl fun a E=>sg<|mv E rfl fun a E=>lw E (qaE rfl) fun a E=>fk E ok qiv qkU rfl 0 rfl rfl fun a E=>lv E ok (qor Tryz.underlying105 rfl rfl) fun a E=>wn<|c_if E rfl (fun h=>by cases h) (fun _=>?_)
 refine sg<|mv E rfl fun a E=>lw E (qaE rfl) fun a E=>fk E ok qiv qkU rfl 0 rfl rfl fun a E=>mv E rfl fun a E=>lv E ok (qn1 Tryz.underlying105 ql1 rfl rfl) fun a E=>wn<|c_if E rfl (fun h=>by cases h) (fun _=>?_)
 refine wp_skip ?_
 exact fin _ _ ⟨E.d,ok⟩
theorem qiP {u:World} {m:Mem} {S:Segs} {w:World} {b:Nat} {a v:Value} (ha:BAd b a) (ok:Ok u m ([(b,oc 107 [a,v])] :: S) w) :
  Calls Tryz.prog 78 [.pointer (some ⟨b,0,none⟩)].toArray w fun e w'=>e = .returned (.tuple [].toArray) ∧ Ok u m ([(b,oc 107 [vp b,v])] :: S) w':=by
 rcases ha with rfl | rfl
 ·exact qhM ok
 ·exact qhu ok
def qgm (u:World) (m0:Mem) (S:Segs) (pb0:Nat) (x0:Builder) (c1:Value) (c3:Value) (M4:List (Nat × Obj)) (r:Unit × Builder) (a:Act) (w:World):Prop :=
 ∃ c6 c8 M9,Ok u m0 ([(pb0,oc 107 [c6,c8])] :: M9 :: S) w ∧ a.defers = [] ∧ RVs Tryz.prog a w [.t 4 .nilIface] ∧ BAd pb0 c6 ∧ ORow 5 1 (pI .u8) m0 c8 r.2.buf M9
theorem qdF (N:Nat) (c_1:Int) (rc_1:InR .u8 c_1) {pb0:Nat} {c1:Value} {c3:Value} {M4:List (Nat × Obj)} (x0:Builder) (h2:BAd pb0 c1) (h5:ORow 5 1 (pI .u8) m0 c3 x0.buf M4) {r:Unit × Builder} (hF:qby N c_1 x0 = some r) (hG:Glob u) (ok:Ok u m0 ([(pb0,oc 107 [c1,c3])] :: M4 :: S) w) :
  Calls Tryz.prog 69 [vp pb0,Value.int .u8 c_1].toArray w fun e w'=>∃ c6 c8 M9,(e = .returned .nilIface ∧ Ok u m0 ([(pb0,oc 107 [c6,c8])] :: M9 :: S) w') ∧ BAd pb0 c6 ∧ ORow 5 1 (pI .u8) m0 c8 r.2.buf M9:=by
 unfold qby at hF
 refine en (qgm u m0 S pb0 x0 c1 c3 M4) r Tryz.func69 rfl rfl rfl (by rintro a w ⟨c6,c8,M9,ok,hd,hrv,h0,h1⟩; exact qcw [.t 4 .nilIface] hd rfl hrv ⟨c6,c8,M9,⟨rfl,ok⟩,h0,h1⟩) fun fin a E=>sg<|aw E rfl fun a E=>sg<|mv E rfl fun a E=>lc E qq9 rfl (qiP h2 ok) fun w ok a E=>wn<|sg<|mz E rfl rfl fun a E=>lw E (qaE rfl) fun a E=>fv E qmq rfl fun a E=>ld E ok qqG 0 rfl rfl rfl fun a E=>mv E rfl fun a E=>qcy (R:=(pI .u8)) (xo:=[.tmp 12]) (xs:=([c_1]:List (Int))) E ok qjo qhR rfl ⟨⟨_,rfl,rfl,(qlC rc_1)⟩,trivial⟩ rfl rfl rfl rfl fun c11 M12 a w E ok h13=>?_
 refine bd hF fun l14 e15 hF=>qec (R:=(pI .u8)) E ok 2 (mI .u8) qjo Tryz.underlying85 rfl h5 (qb5.ofRow h13 0 rfl ok) e15 ⟨_,qhR,rfl⟩ rfl rfl rfl rfl fun c16 M17 a w E ok h18=>lw E (qaE rfl) fun a E=>fv E qmq rfl fun a E=>qai E ok 1 rfl rfl rfl qqB (ORow.cells h18) rfl ⟨(ORow.one h18),trivial⟩ rfl rfl fun w ok=>wn<|sg<|aw E rfl fun a E=>wp_ret ?_
 exact fin hF ⟨(vp pb0),c16,M17,ok.drop,E.d,rz E rfl,(.inr rfl),h18⟩
def qkE (u:World) (m0:Mem) (S:Segs) (r:(List UInt8)) (a:Act) (w:World):Prop :=
 Ok u m0 S w ∧ a.defers = [] ∧ RVs Tryz.prog a w [.t 2 (.string (bs r))] ∧ r.length ≤ LIMS
theorem qk3 (N:Nat) (s_0:List UInt8) (ls_0:s_0.length ≤ LIMS) {r:(List UInt8)} (hF:qe0 N s_0 = some r) (hG:Glob u) (ok:Ok u m0 S w) :
  Calls Tryz.prog 58 [vs s_0].toArray w fun e w'=>(e = .returned (.string (bs r)) ∧ Ok u m0 S w') ∧ r.length ≤ LIMS:=by
 unfold qe0 at hF
 refine en (qkE u m0 S) r Tryz.func58 rfl rfl rfl (fun _ _ h=>rb h rfl) fun fin a E=>sg<|aw E rfl fun a E=>sg<|qbh E ok qo0 rfl rfl fun b1 a w E ok=>wn<|wp_seq<|sg<|mv E rfl fun a E=>lw E (qaG Tryz.underlying9 rfl) fun a E=>mv E rfl fun a E=>wn<|wp_block ?_
 obtain ⟨M9,ok,h10⟩:=qgr (e:=5) (k:=1) (R:=(pI .u8)) ok
 refine bd hF fun o11 hL hF=>qaX _ (fun (s:Int × Builder) a w=>∃ c13 c15 M16,Ok u m0 (M16 :: [(b1,oc 107 [c13,c15])] :: S) w ∧ Env 21 a [(0,vs s_0),(3,vp b1),(6,(vi (s_0.length:Int))),(7,vi s.1)] ∧ InR .i64 s.1 ∧ BAd b1 c13 ∧ ORow 5 1 (pI .u8) m0 c15 s.2.buf M16) (fun (b:Builder) e a w=>e = (.exit 0) ∧ ∃ c63 c65 M66,Ok u m0 (M66 :: [(b1,oc 107 [c63,c65])] :: S) w ∧ Env 21 a [(3,vp b1)] ∧ BAd b1 c63 ∧ ORow 5 1 (pI .u8) m0 c65 b.buf M66) ?_ ?_ N _ a w hL ⟨(Value.pointer none),(Value.slice none 0 0),M9,ok,E.keep [0,3,6,7],(ir 0),(.inl rfl),h10⟩
 rotate_left
 ·intro e a w _ hO
  obtain ⟨rfl,c57,c59,M60,ok,E,h58,h61⟩:=hO
  refine qba<|qaa<|sg ?_
  replace ok:Ok u m0 ([(b1,oc 107 [c57,c59])] :: M60 :: S) w:=(ok.pk 2 [1,0] rfl (by decide))
  refine qas E qre rfl (qni Tryz.lays169 Tryz.Builder_Extra_169 h61 ok) rfl rfl ?_
  rintro _ w ⟨⟨rfl,ok⟩,l62⟩
  refine ⟨_,rfl,fun a E=>?_⟩
  refine aw E rfl fun a E=>wp_ret ?_
  exact fin hF ⟨ok,E.d,rz E rfl,l62⟩
 rintro ⟨v18,v19⟩ a w r ⟨c21,c23,M24,ok,E,r20,h22,h25⟩ hF
 replace hF:qdK N s_0 v18 v19 = some r:=hF
 unfold qdK at hF
 refine sg<|lw E (qaJ rfl rfl) fun a E=>wn<|wp_seq<|cg E rfl hF (fun c26 hF=>?_) fun c26 hF=>?_
 ·refine wp_exit<|qaO ?_
  cases hF
  exact so (⟨rfl,⟨c21,c23,M24,ok,E.keep [3],h22,h25⟩⟩)
 refine wp_skip<|qaa<|wp_seq<|wp_block<|sg<|mv E rfl fun a E=>av E rfl fun a E=>wn<|wp_seq<|sg<|mz E rfl rfl fun a E=>bd hF fun c27 e28 hF=>lv E ok (qbM Tryz.underlying9 rfl rfl e28) fun a E=>?_
 refine bd hF fun r29 e30 hF=>lc E qrw rfl (qkv N (c27.toNat:Int) (InR.byte c27) e30 hG ok) fun w ok a E=>wn<|cg E rfl hF (fun c31 hF=>?_) fun c31 hF=>?_
 ·refine wp_skip<|qaa<|qab<|mz E rfl rfl fun a E=>bd hF fun c48 e49 hF=>lv E ok (qbM Tryz.underlying9 rfl rfl e49) fun a E=>?_
  obtain ⟨r50,e51,hF⟩:=bnd hF
  replace ok:Ok u m0 ([(b1,oc 107 [c21,c23])] :: M24 :: S) w:=(ok.pk 2 [1,0] rfl (by decide))
  refine qas E qnp rfl (qdF N (c48.toNat:Int) (InR.byte c48) (Builder.mk () v19.buf) h22 h25 e51 hG ok) rfl rfl ?_
  rintro _ w ⟨c52,c54,M55,⟨rfl,ok⟩,h53,h56⟩
  refine ⟨_,rfl,fun a E=>?_⟩
  refine wpList_nil<|qag<|qaa<|qab<|lw E (qau rfl rfl (InR.inc r20 (InR.len ls_0) c26)) fun a E=>mv E rfl fun a E=>wpList_nil ?_
  cases hF
  exact qap ⟨c52,c54,M55,(ok.pk 2 [1,0] rfl (by decide)),E.keep [0,3,6,7],(InR.inc r20 (InR.len ls_0) c26),h53,h56⟩
 refine qab ?_
 obtain ⟨r32,e33,hF⟩:=bnd hF
 replace ok:Ok u m0 ([(b1,oc 107 [c21,c23])] :: M24 :: S) w:=(ok.pk 2 [1,0] rfl (by decide))
 refine qas E qnp rfl (qdF N 92 (show InR .u8 (92) by decide) (Builder.mk () v19.buf) h22 h25 e33 hG ok) rfl rfl ?_
 rintro _ w ⟨c34,c36,M37,⟨rfl,ok⟩,h35,h38⟩
 refine ⟨_,rfl,fun a E=>?_⟩
 refine wn<|qab<|mz E rfl rfl fun a E=>bd hF fun c39 e40 hF=>lv E ok (qbM Tryz.underlying9 rfl rfl e40) fun a E=>bd hF fun r41 e42 hF=>qas E qnp rfl (qdF N (c39.toNat:Int) (InR.byte c39) (Builder.mk () r32.2.buf) h35 h38 e42 hG ok) rfl rfl ?_
 rintro _ w ⟨c43,c45,M46,⟨rfl,ok⟩,h44,h47⟩
 refine ⟨_,rfl,fun a E=>?_⟩
 refine wpList_nil<|qag<|qaa<|qab<|lw E (qau rfl rfl (InR.inc r20 (InR.len ls_0) c26)) fun a E=>mv E rfl fun a E=>wpList_nil ?_
 cases hF
 exact qap ⟨c43,c45,M46,(ok.pk 2 [1,0] rfl (by decide)),E.keep [0,3,6,7],(InR.inc r20 (InR.len ls_0) c26),h44,h47⟩
end Go.Proofs.YtmghnmfefpeelaaGreatDoor
namespace Go.Proofs.YtmghnmfefpeelaaGreatDoor
open Go.X
variable {u:World} {m0:Mem} {S:Segs} {w:World}
set_option maxHeartbeats 4000000
set_option maxRecDepth 100000
def qdX:List MapEntry:=[⟨.string (bs [110,117,109,98,101,114]),.int .i64 3,0⟩,⟨.string (bs [117,110,105,116]),.int .i64 4,1⟩,⟨.string (bs [100,97,116,101]),.int .i64 5,2⟩,⟨.string (bs [108,105,115,116]),.int .i64 6,3⟩,⟨.string (bs [112,108,117,114,97,108]),.int .i64 7,4⟩,⟨.string (bs [111,114,100,105,110,97,108]),.int .i64 8,5⟩,⟨.string (bs [115,101,108,101,99,116]),.int .i64 9,6⟩]
def ust (k n:Int) (seen:Array Nat) (q:Int):Prop:=q = match uhit k with | some (b,l)=>bif seen.contains b then IntKind.wrap .i64 (n + IntKind.wrap .i64 ((2:Int) + (l:Int))) else n | none=>n
theorem qq8 {k n:Int}:ust k n #[] n:=by
 unfold ust
 cases uhit k with
 | none=>rfl
 | some p=>obtain ⟨b,l⟩:=p; simp
theorem qoS {k:Int} {b l:Nat} (h:uhit k = some (b,l)):∃ e ∈ qdX,e.born = b ∧ e.val = .int .i64 k ∧ ∃ s,e.key = .string (bs s) ∧ s.length = l:=by
 unfold uhit at h
 split at h
 ·rename_i hk
  cases h
  exact ⟨⟨.string (bs [110,117,109,98,101,114]),.int .i64 3,0⟩,by simp [qdX],rfl,by rw [hk],[110,117,109,98,101,114],rfl,rfl⟩
 split at h
 ·rename_i hk
  cases h
  exact ⟨⟨.string (bs [117,110,105,116]),.int .i64 4,1⟩,by simp [qdX],rfl,by rw [hk],[117,110,105,116],rfl,rfl⟩
 split at h
 ·rename_i hk
  cases h
  exact ⟨⟨.string (bs [100,97,116,101]),.int .i64 5,2⟩,by simp [qdX],rfl,by rw [hk],[100,97,116,101],rfl,rfl⟩
 split at h
 ·rename_i hk
  cases h
  exact ⟨⟨.string (bs [108,105,115,116]),.int .i64 6,3⟩,by simp [qdX],rfl,by rw [hk],[108,105,115,116],rfl,rfl⟩
 split at h
 ·rename_i hk
  cases h
  exact ⟨⟨.string (bs [112,108,117,114,97,108]),.int .i64 7,4⟩,by simp [qdX],rfl,by rw [hk],[112,108,117,114,97,108],rfl,rfl⟩
 split at h
 ·rename_i hk
  cases h
  exact ⟨⟨.string (bs [111,114,100,105,110,97,108]),.int .i64 8,5⟩,by simp [qdX],rfl,by rw [hk],[111,114,100,105,110,97,108],rfl,rfl⟩
 split at h
 ·rename_i hk
  cases h
  exact ⟨⟨.string (bs [115,101,108,101,99,116]),.int .i64 9,6⟩,by simp [qdX],rfl,by rw [hk],[115,101,108,101,99,116],rfl,rfl⟩
 cases h
theorem qqa {k n q:Int} {seen:Array Nat} (h:ust k n seen q) (hall:∀ e ∈ qdX,seen.contains e.born = true):q = qe9 k n:=by
 unfold ust at h
 unfold qe9
 cases hk:uhit k with
 | none=>rw [hk] at h; exact h
 | some p =>
  obtain ⟨b,l⟩:=p
  rw [hk] at h
  obtain ⟨e,he,hb,_⟩:=qoS hk
  have:=hall e he
  rw [hb] at this
  simp only [this,cond_true] at h
  exact h
theorem qmy:(qdX.map (·.born)).Nodup:=by decide
theorem qoA {e:MapEntry} (he:e ∈ qdX):∃ s v,e.key = .string (bs s) ∧ e.val = .int .i64 v ∧ s.length ≤ LIMS ∧ InR .i64 v ∧ uhit v = some (e.born,s.length) ∧ ∀ k l,uhit k = some (e.born,l) → k = v:=by
 simp only [qdX,List.mem_cons,List.not_mem_nil,or_false] at he
 rcases he with rfl | rfl | rfl | rfl | rfl | rfl | rfl
 ·refine ⟨[110,117,109,98,101,114],3,rfl,rfl,by decide,by decide,by decide,fun k l h=>?_⟩
  unfold uhit at h
  repeat (split at h; · rename_i hk; first | exact hk | (simp at h))
  cases h
 ·refine ⟨[117,110,105,116],4,rfl,rfl,by decide,by decide,by decide,fun k l h=>?_⟩
  unfold uhit at h
  repeat (split at h; · rename_i hk; first | exact hk | (simp at h))
  cases h
 ·refine ⟨[100,97,116,101],5,rfl,rfl,by decide,by decide,by decide,fun k l h=>?_⟩
  unfold uhit at h
  repeat (split at h; · rename_i hk; first | exact hk | (simp at h))
  cases h
 ·refine ⟨[108,105,115,116],6,rfl,rfl,by decide,by decide,by decide,fun k l h=>?_⟩
  unfold uhit at h
  repeat (split at h; · rename_i hk; first | exact hk | (simp at h))
  cases h
 ·refine ⟨[112,108,117,114,97,108],7,rfl,rfl,by decide,by decide,by decide,fun k l h=>?_⟩
  unfold uhit at h
  repeat (split at h; · rename_i hk; first | exact hk | (simp at h))
  cases h
 ·refine ⟨[111,114,100,105,110,97,108],8,rfl,rfl,by decide,by decide,by decide,fun k l h=>?_⟩
  unfold uhit at h
  repeat (split at h; · rename_i hk; first | exact hk | (simp at h))
  cases h
 ·refine ⟨[115,101,108,101,99,116],9,rfl,rfl,by decide,by decide,by decide,fun k l h=>?_⟩
  unfold uhit at h
  repeat (split at h; · rename_i hk; first | exact hk | (simp at h))
  cases h
theorem qp4 {k n q v:Int} {seen:Array Nat} {e:MapEntry} {s:List UInt8} (h:ust k n seen q) (hne:seen.contains e.born = false) (hu:uhit v = some (e.born,s.length)) (hk:v = k):ust k n (seen.push e.born) (IntKind.wrap .i64 (q + IntKind.wrap .i64 ((2:Int) + (s.length:Int)))):=by
 subst hk
 unfold ust at h ⊢
 rw [hu] at h ⊢
 simp only [hne,cond_false] at h
 subst h
 simp
theorem qoQ {k n q v:Int} {seen:Array Nat} {e:MapEntry} (h:ust k n seen q) (hu:∀ k l,uhit k = some (e.born,l) → k = v) (hk:v ≠ k):ust k n (seen.push e.born) q:=by
 unfold ust at h ⊢
 cases hh:uhit k with
 | none=>rw [hh] at h; exact h
 | some p =>
  obtain ⟨b,l⟩:=p
  rw [hh] at h
  have hb:b ≠ e.born:=fun e0=>hk (hu k l (by rw [hh,e0])).symm
  simp only [Array.contains_push]
  rw [show (b == e.born) = false by simpa using hb,Bool.or_false]
  exact h
theorem qnq {k n:Int} (h:InR .i64 n):InR .i64 (qe9 k n):=by
 unfold qe9
 cases uhit k with
 | none=>exact h
 | some p=>exact InR.wrap _ _
theorem qlo (ok:Ok u m0 S w):Calls Tryz.prog 59 [].toArray w fun e w'=>∃ b,e = .returned (.map (some b)) ∧ Ok u m0 ([(b,Obj.map qdX.toArray 7)] :: S) w':=by
 refine enter Tryz.func59 rfl rfl rfl fun a E=>sg<|aw E rfl fun a E=>sg<|qnA E ok rfl rfl fun b a w E ok=>qir (KR:=kS) (R:=fun _ _ (_:Unit)=>True) (k:=[110,117,109,98,101,114]) (x:=()) (l0:=[]) E ok 0 (qcc Tryz.underlying9) Tryz.underlying94 rfl trivial (by decide) rfl rfl rfl ⟨rfl,by decide⟩ (by decide) rfl fun w ok=>qir (KR:=kS) (R:=fun _ _ (_:Unit)=>True) (k:=[117,110,105,116]) (x:=()) (l0:=[([110,117,109,98,101,114],())]) E ok 0 (qcc Tryz.underlying9) Tryz.underlying94 rfl ⟨⟨rfl,by decide⟩,trivial,trivial⟩ (by decide) rfl rfl rfl ⟨rfl,by decide⟩ (by decide) rfl fun w ok=>qir (KR:=kS) (R:=fun _ _ (_:Unit)=>True) (k:=[100,97,116,101]) (x:=()) (l0:=[([110,117,109,98,101,114],()),([117,110,105,116],())]) E ok 0 (qcc Tryz.underlying9) Tryz.underlying94 rfl ⟨⟨rfl,by decide⟩,trivial,⟨rfl,by decide⟩,trivial,trivial⟩ (by decide) rfl rfl rfl ⟨rfl,by decide⟩ (by decide) rfl fun w ok=>qir (KR:=kS) (R:=fun _ _ (_:Unit)=>True) (k:=[108,105,115,116]) (x:=()) (l0:=[([110,117,109,98,101,114],()),([117,110,105,116],()),([100,97,116,101],())]) E ok 0 (qcc Tryz.underlying9) Tryz.underlying94 rfl ⟨⟨rfl,by decide⟩,trivial,⟨rfl,by decide⟩,trivial,⟨rfl,by decide⟩,trivial,trivial⟩ (by decide) rfl rfl rfl ⟨rfl,by decide⟩ (by decide) rfl fun w ok=>qir (KR:=kS) (R:=fun _ _ (_:Unit)=>True) (k:=[112,108,117,114,97,108]) (x:=()) (l0:=[([110,117,109,98,101,114],()),([117,110,105,116],()),([100,97,116,101],()),([108,105,115,116],())]) E ok 0 (qcc Tryz.underlying9) Tryz.underlying94 rfl ⟨⟨rfl,by decide⟩,trivial,⟨rfl,by decide⟩,trivial,⟨rfl,by decide⟩,trivial,⟨rfl,by decide⟩,trivial,trivial⟩ (by decide) rfl rfl rfl ⟨rfl,by decide⟩ (by decide) rfl fun w ok=>qir (KR:=kS) (R:=fun _ _ (_:Unit)=>True) (k:=[111,114,100,105,110,97,108]) (x:=()) (l0:=[([110,117,109,98,101,114],()),([117,110,105,116],()),([100,97,116,101],()),([108,105,115,116],()),([112,108,117,114,97,108],())]) E ok 0 (qcc Tryz.underlying9) Tryz.underlying94 rfl ⟨⟨rfl,by decide⟩,trivial,⟨rfl,by decide⟩,trivial,⟨rfl,by decide⟩,trivial,⟨rfl,by decide⟩,trivial,⟨rfl,by decide⟩,trivial,trivial⟩ (by decide) rfl rfl rfl ⟨rfl,by decide⟩ (by decide) rfl fun w ok=>qir (KR:=kS) (R:=fun _ _ (_:Unit)=>True) (k:=[115,101,108,101,99,116]) (x:=()) (l0:=[([110,117,109,98,101,114],()),([117,110,105,116],()),([100,97,116,101],()),([108,105,115,116],()),([112,108,117,114,97,108],()),([111,114,100,105,110,97,108],())]) E ok 0 (qcc Tryz.underlying9) Tryz.underlying94 rfl ⟨⟨rfl,by decide⟩,trivial,⟨rfl,by decide⟩,trivial,⟨rfl,by decide⟩,trivial,⟨rfl,by decide⟩,trivial,⟨rfl,by decide⟩,trivial,⟨rfl,by decide⟩,trivial,trivial⟩ (by decide) rfl rfl rfl ⟨rfl,by decide⟩ (by decide) rfl fun w ok=>mv E rfl fun a E=>aw E rfl fun a E=>wp_ret ?_
 exact qcw [.t 0 (.map (some b))] E.d rfl (rz E rfl) ⟨b,rfl,ok⟩
def qkb (u:World) (m0:Mem) (S:Segs) (r:Int) (a:Act) (w:World):Prop :=
 Ok u m0 S w ∧ a.defers = [] ∧ RVs Tryz.prog a w [.t 2 (.int .i64 r)] ∧ InR .i64 r
def qeZ (N:Nat):Prop:=∀ {u:World} {m0:Mem} {S:Segs} {w:World} (vparts_0:Value) (parts_0:List (Part)) (hparts_0:(pL 6 qbD) m0 [vparts_0] parts_0) {r:Int} (hF:qcA N parts_0 = some r) (hG:Glob u) (ok:Ok u m0 S w),Calls Tryz.prog 44 [vparts_0].toArray w fun e w'=>(e = .returned (.int .i64 r) ∧ Ok u m0 S w') ∧ InR .i64 r
theorem qi4 (N:Nat) (ih_syntax_length:qeZ N):qeZ (N + 1):=by
 intro u m0 S w vparts_0 parts_0 hparts_0 r hF hG ok
 have hF0:qdC (qcA N) N parts_0 = some r:=hF
 have hF:=hF0
 clear hF0
 unfold qdC at hF
 refine en (qkb u m0 S) r Tryz.func44 rfl rfl rfl (fun _ _ h=>rb h rfl) fun fin a E=>sg<|aw E rfl fun a E=>sg<|aw E rfl fun a E=>wp_seq<|sg<|mv E rfl fun a E=>lv E ok (qax qbj hparts_0 rfl) fun a E=>mv E rfl fun a E=>wn<|wp_block<|bd hF fun o3 hL hF=>qaX _ (fun (s:Int × Int) a w=>Ok u m0 (S) w ∧ Env 108 a [(3,vi s.1),(10,vparts_0),(11,(vi (parts_0.length:Int))),(12,vi s.2)] ∧ InR .i64 s.1 ∧ InR .i64 s.2) (fun (b:Int) e a w=>e = (.exit 0) ∧ Ok u m0 (S) w ∧ Env 108 a [(3,vi b)] ∧ InR .i64 b) ?_ ?_ N _ a w hL ⟨ok,E.keep [3,10,11,12],(ir 0),(ir 0)⟩
 rotate_left
 ·intro e a w _ hO
  obtain ⟨rfl,ok,E,r79⟩:=hO
  refine qba<|qaa<|sg<|mv E rfl fun a E=>aw E rfl fun a E=>wp_ret ?_
  exact fin hF ⟨ok,E.d,rz E rfl,r79⟩
 rintro ⟨v6,v7⟩ a w r ⟨ok,E,r8,r9⟩ hF
 replace hF:qdv (qcA N) N parts_0 v6 v7 = some r:=hF
 unfold qdv at hF
 refine sg<|lw E (qaJ rfl rfl) fun a E=>wn<|wp_seq<|cg E rfl hF (fun c10 hF=>?_) fun c10 hF=>?_
 ·refine wp_exit<|qaO ?_
  cases hF
  exact so (⟨rfl,⟨ok,E.keep [3],r8⟩⟩)
 refine wp_skip<|qaa<|wp_seq<|wp_block<|sg ?_
 obtain ⟨x11,e12,hF⟩:=bnd hF
 obtain ⟨b13,o14,es15,hl16,rr17,at18,yy19⟩:=ia E 10 12 qbj hparts_0 e12
 obtain ⟨c24,c26,rfl,r20,l21,l22,l23,h25,h27⟩:=(qaL.1 rr17)
 refine lv E ok (yy19 _ _) fun a E=>lv E ok (qaj (cs:=[vi x11.Kind,vs x11.Text,vs x11.Name,vs x11.Style,c24,c26]) qep rfl rfl (qac.ro at18)) fun a E=>qbh E ok qeV rfl rfl fun b28 a w E ok=>qai E ok 0 rfl rfl rfl qgg rfl rfl ⟨rfl,rfl,rfl,rfl,(qcW h25),(qcW h27),trivial⟩ rfl rfl fun w ok=>wn<|sg<|fk E ok qar qat rfl 0 rfl rfl fun a E=>wn<|wp_block<|sg<|lw E (qao rfl rfl) fun a E=>aw E rfl fun a E=>cf E rfl hF (fun c29 hF=>?_) fun c29 hF=>?_
 ·refine qab<|mv E rfl fun a E=>fk E ok qbR qah rfl 0 rfl rfl fun a E=>bd hF fun r30 e31 hF=>qas E qrb rfl (qk3 N x11.Text l21 e31 hG ok) rfl rfl ?_
  rintro _ w ⟨⟨rfl,ok⟩,l32⟩
  refine ⟨_,rfl,fun a E=>?_⟩
  refine lw E (qaG Tryz.underlying9 rfl) fun a E=>lw E (qbb rfl rfl) fun a E=>av E rfl fun a E=>wpList_nil<|qag<|qag<|qaa<|qab<|lw E (qau rfl rfl (InR.inc r9 (qae hparts_0) c10)) fun a E=>mv E rfl fun a E=>wpList_nil ?_
  cases hF
  exact qap ⟨(ok.pk 1 [] rfl (by decide)),E.keep [3,10,11,12],(InR.wrap _ _),(InR.inc r9 (qae hparts_0) c10)⟩
 refine sg<|lw E (qao rfl rfl) fun a E=>aw E rfl fun a E=>cf E rfl hF (fun c33 hF=>?_) fun c33 hF=>?_
 ·refine qab<|mv E rfl fun a E=>lw E (qbb rfl rfl) fun a E=>av E rfl fun a E=>wpList_nil<|qag<|qag<|qaa<|qab<|lw E (qau rfl rfl (InR.inc r9 (qae hparts_0) c10)) fun a E=>mv E rfl fun a E=>wpList_nil ?_
  cases hF
  exact qap ⟨(ok.pk 1 [] rfl (by decide)),E.keep [3,10,11,12],(InR.wrap _ _),(InR.inc r9 (qae hparts_0) c10)⟩
 refine sg<|lw E (qao rfl rfl) fun a E=>aw E rfl fun a E=>cf E rfl hF (fun c34 hF=>?_) fun c34 hF=>?_
 ·refine sg<|mv E rfl fun a E=>fk E ok qaw qah rfl 0 rfl rfl fun a E=>lw E (qaG Tryz.underlying9 rfl) fun a E=>lw E (qbb rfl rfl) fun a E=>lw E (qbb rfl rfl) fun a E=>aw E rfl fun a E=>sg<|fk E ok qbs qa2 rfl 0 rfl rfl fun a E=>lv E ok (qax qbj h27 rfl) fun a E=>lw E (qa9 rfl rfl) fun a E=>wn<|cg E rfl hF (fun c35 hF=>?_) fun c35 hF=>?_
  ·refine wp_skip<|qag<|qag<|qaa<|qab<|lw E (qau rfl rfl (InR.inc r9 (qae hparts_0) c10)) fun a E=>mv E rfl fun a E=>wpList_nil ?_
   cases hF
   exact qap ⟨(ok.pk 1 [] rfl (by decide)),E.keep [3,10,11,12],(InR.wrap _ _),(InR.inc r9 (qae hparts_0) c10)⟩
  refine qdB (by kernel_rfl) (by kernel_rfl) ok<|qv E (qal rfl) fun a E=>qv E (qad qaw rfl) fun a E=>qv E (qak qah rfl (qac.own 0 rfl rfl)) fun a E=>qv E (qaG Tryz.underlying9 rfl) fun a E=>qv E (qbb rfl rfl) fun a E=>qv E (qad qbs rfl) fun a E=>qv E (qak qa2 rfl (qac.own 0 rfl rfl)) fun a E=>?_
  obtain ⟨r36,e37,hF⟩:=bnd hF
  obtain ⟨_,_,⟨_,_⟩,r38⟩:=Go.X.Calls.get (ih_syntax_length _ x11.Parts h27 e37 hG ok)
  refine qcv E qnn rfl (fun w ok=>(ih_syntax_length _ x11.Parts h27 e37 hG ok).mono (fun _ _ h=>h.1)) rfl rfl fun a E=>qv E (qbb rfl rfl) fun a E=>qv E (qbb rfl rfl) fun a E=>qv E (qa4 rfl) fun a E=>wpQuiet_nil ?_
  intro w ok
  refine qag<|qag<|qaa<|qab<|lw E (qau rfl rfl (InR.inc r9 (qae hparts_0) c10)) fun a E=>mv E rfl fun a E=>wpList_nil ?_
  cases hF
  exact qap ⟨(ok.pk 1 [] rfl (by decide)),E.keep [3,10,11,12],(InR.wrap _ _),(InR.inc r9 (qae hparts_0) c10)⟩
 refine sg<|mv E rfl fun a E=>fk E ok qaw qah rfl 0 rfl rfl fun a E=>lw E (qaG Tryz.underlying9 rfl) fun a E=>lw E (qbb rfl rfl) fun a E=>lw E (qbb rfl rfl) fun a E=>aw E rfl fun a E=>wp_seq<|sg<|qas E qrv rfl (qlo ok) rfl rfl ?_
 rintro _ w ⟨b39,rfl,ok⟩
 refine ⟨_,rfl,fun a E=>?_⟩
 refine qoJ (clock:=7) (es:=qdX) E ok 0 rfl Tryz.underlying94 rfl rfl rfl fun b40 a w E ok=>wn<|qaK (Q':=fun e a w=>e = .normal ∧ Ok u m0 ([(b28,oc 63 [vi x11.Kind,vs x11.Text,vs x11.Name,vs x11.Style,c24,c26])] :: S) w ∧ Env 108 a [(5,vp b28),(10,vparts_0),(11,(vi (parts_0.length:Int))),(12,vi v7),(3,(vi (qe9 x11.Kind (IntKind.wrap .i64 (v6 + (IntKind.wrap .i64 ((2:Int) + (x11.Name.length:Int))))))))]) ?_ ?_
 ·refine wp_block<|qm2 (fun kk a w=>∃ (seen:Array Nat) (q:Int),kk = (qdX.filter fun e=>!seen.contains e.born).length ∧ ust x11.Kind (IntKind.wrap .i64 (v6 + (IntKind.wrap .i64 ((2:Int) + (x11.Name.length:Int))))) seen q ∧ Ok u m0 ([(b40,Obj.mapIter (some b39) 7 seen 7)] :: [(b39,Obj.map qdX.toArray 7)] :: [(b28,oc 63 [vi x11.Kind,vs x11.Text,vs x11.Name,vs x11.Style,c24,c26])] :: S) w ∧ Env 108 a [(25,vp b40),(5,vp b28),(10,vparts_0),(11,(vi (parts_0.length:Int))),(12,vi v7),(3,vi q)]) ?_ _ a w ⟨#[],_,rfl,qq8,ok,E.keep [25,5,10,11,12,3]⟩
  rintro kk a w ⟨seen,q,rfl,hu,ok,E⟩
  refine sg<|qp3 (es:=qdX) E ok 0 rfl (by decide) rfl rfl rfl (fun hall a E=>?_) (fun e he hne a w E ok=>?_)
  ·refine lw E (qaF rfl rfl) fun a E=>wn<|wp_seq<|c_if E rfl (fun hc=>by cases hc) (fun _=>?_)
   refine wp_exit<|qaO ?_
   obtain rfl:=qqa hu hall
   exact .inr ⟨by nofun,qba ⟨rfl,ok.drop.drop,E.keep [5,10,11,12,3]⟩⟩
  refine lw E (qaF rfl rfl) fun a E=>wn<|wp_seq<|c_if E rfl (fun _=>?_) (fun hc=>by cases hc)
  refine wp_skip<|qaa<|wp_block<|sg ?_
  obtain ⟨s_,v_,hk_,hv_,hl_,hr_,hu1,hu2⟩:=qoA he
  have hy:=fun ty=>qo9 (P:=Tryz.prog) (u:=u) (m:=m0) (ty:=ty) (S:=[(b40,Obj.mapIter (some b39) 7 (seen.push e.born) 7)] :: [(b39,Obj.map qdX.toArray 7)] :: [(b28,oc 63 [vi x11.Kind,vs x11.Text,vs x11.Name,vs x11.Style,c24,c26])] :: S) (es:=qdX) (x:=.tmp 25) 1 0 rfl rfl he qmy (qaS E rfl) hk_ hv_
  refine lv E ok (hy _) fun a E=>lw E (qaF rfl rfl) fun a E=>lw E (qaF rfl rfl) fun a E=>av E rfl fun a E=>aw E rfl fun a E=>sg<|mv E rfl fun a E=>fk E ok qar qat rfl 2 rfl rfl fun a E=>lw E (qao rfl rfl) fun a E=>wn<|c_if E rfl (fun hc=>?_) (fun hc=>?_)
  ·refine qab<|mz E rfl rfl fun a E=>lw E (qaG Tryz.underlying9 rfl) fun a E=>lw E (qbb rfl rfl) fun a E=>lw E (qbb rfl rfl) fun a E=>av E rfl fun a E=>wpList_nil<|qag ?_
   exact .inl ⟨rfl,_,qmJ he hne,seen.push e.born,_,rfl,qp4 hu hne hu1 (by simpa using hc),ok,E.keep [25,5,10,11,12,3]⟩
  refine wp_skip<|qag ?_
  exact .inl ⟨rfl,_,qmJ he hne,seen.push e.born,_,rfl,qoQ hu hu2 (by simpa using hc),ok,E.keep [25,5,10,11,12,3]⟩
 rintro e a w ⟨rfl,ok,E⟩
 refine qaa<|wp_seq<|sg<|fk E ok qaT qah rfl 0 rfl rfl fun a E=>lw E (qbB rfl rfl) fun a E=>wn<|bd hF fun o41 hJ hF=>qaK (Q':=fun e a w=>e = .normal ∧ Ok u m0 ([(b28,oc 63 [vi x11.Kind,vs x11.Text,vs x11.Name,vs x11.Style,c24,c26])] :: S) w ∧ Env 108 a [(3,vi o41),(5,vp b28),(10,vparts_0),(11,(vi (parts_0.length:Int))),(12,vi v7)] ∧ InR .i64 o41) ?_ ?_
 ·have hF:=hJ
  refine cg E rfl hF (fun c43 hF=>?_) fun c43 hF=>?_
  ·refine wp_skip ?_
   cases hF
   exact ⟨rfl,⟨ok,E.keep [3,5,10,11,12],(qnq (InR.wrap _ _))⟩⟩
  refine qab<|mv E rfl fun a E=>fk E ok qaT qah rfl 0 rfl rfl fun a E=>lw E (qaG Tryz.underlying9 rfl) fun a E=>lw E (qbb rfl rfl) fun a E=>lw E (qbb rfl rfl) fun a E=>av E rfl fun a E=>wpList_nil ?_
  cases hF
  exact ⟨rfl,⟨ok,E.keep [3,5,10,11,12],(InR.wrap _ _)⟩⟩
 intro e a w hO
 obtain ⟨rfl,ok,E,r44⟩:=hO
 refine qaa<|wp_seq<|sg<|fk E ok qar qat rfl 0 rfl rfl fun a E=>bd hF fun r45 e46 hF=>lc E qgM rfl (qbN N x11.Kind r20 e46 hG ok) fun w ok a E=>wn<|bd hF fun o47 hJ hF=>qaK (Q':=fun e a w=>e = .normal ∧ Ok u m0 ([(b28,oc 63 [vi x11.Kind,vs x11.Text,vs x11.Name,vs x11.Style,c24,c26])] :: S) w ∧ Env 108 a [(3,vi o47),(5,vp b28),(10,vparts_0),(11,(vi (parts_0.length:Int))),(12,vi v7)] ∧ InR .i64 o47) ?_ ?_
 ·have hF:=hJ
  refine cg E rfl hF (fun c49 hF=>?_) fun c49 hF=>?_
  ·refine wp_skip ?_
   cases hF
   exact ⟨rfl,⟨ok,E.keep [3,5,10,11,12],r44⟩⟩
  refine qab<|mv E rfl fun a E=>lw E (qbb rfl rfl) fun a E=>av E rfl fun a E=>wpList_nil ?_
  cases hF
  exact ⟨rfl,⟨ok,E.keep [3,5,10,11,12],(InR.wrap _ _)⟩⟩
 intro e a w hO
 obtain ⟨rfl,ok,E,r50⟩:=hO
 refine qaa<|sg<|fk E ok qaR qaZ rfl 0 rfl rfl fun a E=>lv E ok (qax qbe h25 rfl) fun a E=>mv E rfl fun a E=>wn<|wp_block<|bd hF fun o53 hL hF=>qaX _ (fun (s:Int × Int) a w=>Ok u m0 ([(b28,oc 63 [vi x11.Kind,vs x11.Text,vs x11.Name,vs x11.Style,c24,c26])] :: S) w ∧ Env 108 a [(3,vi s.1),(10,vparts_0),(11,(vi (parts_0.length:Int))),(12,vi v7),(55,c24),(56,(vi (x11.Cases.length:Int))),(57,vi s.2)] ∧ InR .i64 s.1 ∧ InR .i64 s.2) (fun (b:Int) e a w=>e = (.exit 5) ∧ Ok u m0 ([(b28,oc 63 [vi x11.Kind,vs x11.Text,vs x11.Name,vs x11.Style,c24,c26])] :: S) w ∧ Env 108 a [(3,vi b),(10,vparts_0),(11,(vi (parts_0.length:Int))),(12,vi v7)] ∧ InR .i64 b) ?_ ?_ N _ a w hL ⟨ok,E.keep [3,10,11,12,55,56,57],r50,(ir 0)⟩
 rotate_left
 ·intro e a w _ hO
  obtain ⟨rfl,ok,E,r77⟩:=hO
  refine qba<|qag<|qag<|qaa<|qab<|lw E (qau rfl rfl (InR.inc r9 (qae hparts_0) c10)) fun a E=>mv E rfl fun a E=>wpList_nil ?_
  cases hF
  exact qap ⟨(ok.pk 1 [] rfl (by decide)),E.keep [3,10,11,12],r77,(InR.inc r9 (qae hparts_0) c10)⟩
 rintro ⟨v56,v57⟩ a w r ⟨ok,E,r58,r59⟩ hF
 replace hF:qdw (qcA N) N x11 v56 v57 = some r:=hF
 unfold qdw at hF
 refine sg<|lw E (qaJ rfl rfl) fun a E=>wn<|wp_seq<|cg E rfl hF (fun c60 hF=>?_) fun c60 hF=>?_
 ·refine wp_exit<|qaO ?_
  cases hF
  exact so (⟨rfl,⟨ok,E.keep [3,10,11,12],r58⟩⟩)
 refine wp_skip<|qaa<|wp_seq<|wp_block<|sg ?_
 obtain ⟨x61,e62,hF⟩:=bnd hF
 obtain ⟨b63,o64,es65,hl66,rr67,at68,yy69⟩:=ia E 55 57 qbe h25 e62
 obtain ⟨c71,rfl,l70,h72⟩:=rr67
 refine lv E ok (yy69 _ _) fun a E=>lv E ok (qaj (cs:=[vs x61.Key,c71]) qg1 rfl rfl (qac.ro at68)) fun a E=>qbh E ok qf1 rfl rfl fun b73 a w E ok=>qai E ok 0 rfl rfl rfl qg3 rfl rfl ⟨rfl,(qcW h72),trivial⟩ rfl rfl fun w ok=>wn<|qdB (by kernel_rfl) (by kernel_rfl) ok<|qv E (qal rfl) fun a E=>qv E (qad qcr rfl) fun a E=>qv E (qak qah rfl (qac.own 0 rfl rfl)) fun a E=>qv E (qaG Tryz.underlying9 rfl) fun a E=>qv E (qbb rfl rfl) fun a E=>qv E (qad qdP rfl) fun a E=>qv E (qak qa2 rfl (qac.own 0 rfl rfl)) fun a E=>?_
 obtain ⟨r74,e75,hF⟩:=bnd hF
 obtain ⟨_,_,⟨_,_⟩,r76⟩:=Go.X.Calls.get (ih_syntax_length _ x61.Parts h72 e75 hG ok)
 refine qcv E qnn rfl (fun w ok=>(ih_syntax_length _ x61.Parts h72 e75 hG ok).mono (fun _ _ h=>h.1)) rfl rfl fun a E=>qv E (qbb rfl rfl) fun a E=>qv E (qbb rfl rfl) fun a E=>qv E (qa4 rfl) fun a E=>wpQuiet_nil ?_
 intro w ok
 refine qag<|qaa<|qab<|lw E (qau rfl rfl (InR.inc r59 (qae h25) c60)) fun a E=>mv E rfl fun a E=>wpList_nil ?_
 cases hF
 exact qap ⟨(ok.pk 2 [1] rfl (by decide)),E.keep [3,10,11,12,55,56,57],(InR.wrap _ _),(InR.inc r59 (qae h25) c60)⟩
theorem qi6:qeZ 0:=by
 intro u m0 S w vparts_0 parts_0 hparts_0 r hF hG ok
 replace hF:none = some r:=hF
 cases hF
theorem qia (N:Nat):qeZ N:=by
 induction N with
 | zero=>exact qi6
 | succ N h=>exact qi4 N h
theorem qj0 {u:World} {m0:Mem} {S:Segs} {w:World} (N:Nat) (vparts_0:Value) (parts_0:List (Part)) (hparts_0:(pL 6 qbD) m0 [vparts_0] parts_0) {r:Int} (hF:qcA N parts_0 = some r) (hG:Glob u) (ok:Ok u m0 S w) :
 Calls Tryz.prog 44 [vparts_0].toArray w fun e w'=>(e = .returned (.int .i64 r) ∧ Ok u m0 S w') ∧ InR .i64 r:=(qia N) vparts_0 parts_0 hparts_0 hF hG ok
def qkT (u:World) (m0:Mem) (S:Segs) (r:Bool) (a:Act) (w:World):Prop :=
 Ok u m0 S w ∧ a.defers = [] ∧ RVs Tryz.prog a w [.t 4 (.bool r)]
theorem qkO (N:Nat) (vparts_0:Value) (parts_0:List (Part)) (hparts_0:(pL 6 qbD) m0 [vparts_0] parts_0) (counting_1:Bool) {r:Bool} (hF:qfO N parts_0 counting_1 = some r) (hG:Glob u) (ok:Ok u m0 S w) :
  Calls Tryz.prog 26 [vparts_0,vb counting_1].toArray w fun e w'=>(e = .returned (.bool r) ∧ Ok u m0 S w'):=by
 have hb0:=ok.base
 have le_m0:=Mem.le.refl m0
 unfold qfO at hF
 refine en (qkT u m0 S) r Tryz.func26 rfl rfl rfl (fun _ _ h=>ra h rfl) fun fin a E=>sg<|aw E rfl fun a E=>sg<|qhi kS (oneV pB) E ok rfl rfl fun c1 M2 a w E ok h3=>lw E (qav (ps:=[(0,.tmp 6)]) (qs:=[(0,[c1])]) (cs:=[c1]) qm3 qon rfl ⟨rfl,(OMap.cells h3),rfl,trivial⟩ rfl) fun a E=>qbh E ok qm3 rfl rfl fun b4 a w E ok=>qai E ok 0 rfl rfl rfl qqD rfl rfl ⟨(OMap.one h3),trivial⟩ rfl rfl fun w ok=>wn<|sg<|lv E ok (qaj (cs:=[c1]) qi2 rfl rfl (qac.own 0 rfl rfl)) fun a E=>mz E rfl rfl fun a E=>?_
 replace ok:=ok.addnil
 obtain ⟨r6,e7,hF⟩:=bnd hF
 replace ok:Ok u m0 ([] :: M2 :: [(b4,oc 81 [c1])] :: S) w:=(ok.pk 3 [0,2,1] rfl (by decide))
 refine qas E qly rfl (qhA N _ parts_0 hparts_0 0 (ir 0) counting_1 ([]:List (List UInt8 × Bool)) h3 e7 hG ok) rfl rfl ?_
 rintro _ w ⟨m8,M9,rfl,hle,ok,h10⟩
 have le_m0:=le_m0.trans hle
 have hparts_0:=(mL qaq).up hle hparts_0
 refine ⟨_,rfl,fun a E=>?_⟩
 refine mv E rfl fun a E=>qaW r6.1 (fun c11=>?_) (fun c11=>?_)
 rotate_left
 ·have hF:=qaV c11 hF
  have E:=E.upd 12 c11 rfl
  refine lsz E fun a E=>pf E rfl rfl fun a E=>mv E rfl fun a E=>lsq E fun a E=>ls E fun a E=>pf E rfl rfl fun a E=>aw E rfl fun a E=>wp_ret ?_
  exact fin hF ⟨(ok.drop.drop.drop).down hb0 le_m0,E.d,rz E rfl⟩
 have hF:=qaU c11 hF
 have E:=E.upd 12 c11 rfl
 refine fk E ok qh9 qi8 rfl 2 rfl rfl fun a E=>lv E ok (qpa 1 rfl Tryz.underlying79 h10 rfl) fun a E=>lw E (qcd rfl rfl) fun a E=>pt E rfl rfl fun a E=>mv E rfl fun a E=>bw E 18 hF (fun c12 hF E=>?_) fun c12 hF E=>?_
 ·refine lsq E fun a E=>ls E fun a E=>pf E rfl rfl fun a E=>aw E rfl fun a E=>wp_ret ?_
  exact fin hF ⟨(ok.drop.drop.drop).down hb0 le_m0,E.d,rz E rfl⟩
 refine mv E rfl fun a E=>bd hF fun r13 e14 hF=>qas E qnn rfl (qj0 N _ parts_0 hparts_0 e14 hG ok) rfl rfl ?_
 rintro _ w ⟨⟨rfl,ok⟩,r15⟩
 refine ⟨_,rfl,fun a E=>?_⟩
 refine lw E (qcd rfl rfl) fun a E=>pt E rfl rfl fun a E=>aw E rfl fun a E=>wp_ret ?_
 exact fin hF ⟨(ok.drop.drop.drop).down hb0 le_m0,E.d,rz E rfl⟩
def qk0 (u:World) (m0:Mem) (S:Segs) (r:Bool) (a:Act) (w:World):Prop :=
 Ok u m0 S w ∧ a.defers = [] ∧ RVs Tryz.prog a w [.t 2 (.bool r)]
theorem qkH (N:Nat) (vparts_0:Value) (parts_0:List (Part)) (hparts_0:(pL 6 qbD) m0 [vparts_0] parts_0) {r:Bool} (hF:qe1 N parts_0 = some r) (hG:Glob u) (ok:Ok u m0 S w) :
  Calls Tryz.prog 14 [vparts_0].toArray w fun e w'=>(e = .returned (.bool r) ∧ Ok u m0 S w'):=by
 unfold qe1 at hF
 refine en (qk0 u m0 S) r Tryz.func14 rfl rfl rfl (fun _ _ h=>ra h rfl) fun fin a E=>sg<|aw E rfl fun a E=>sg<|mv E rfl fun a E=>bd hF fun r1 e2 hF=>lc E qrt rfl (qkO N _ parts_0 hparts_0 false e2 hG ok) fun w ok a E=>aw E rfl fun a E=>wp_ret ?_
 exact fin hF ⟨ok,E.d,rz E rfl⟩
end Go.Proofs.YtmghnmfefpeelaaGreatDoor
