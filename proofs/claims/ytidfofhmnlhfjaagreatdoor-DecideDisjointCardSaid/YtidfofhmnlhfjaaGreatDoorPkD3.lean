/- Texts of this proof, put together by pack.py: what its declarations name. -/
import Derived.Test.YtidfofhmnlhfjaaGreatDoorPkD2
import Derived.Test.YtidfofhmnlhfjaaGreatDoorCards
import Derived.Test.YtidfofhmnlhfjaaGreatDoorChecked
import Derived.Test.YtidfofhmnlhfjaaGreatDoorProg
import Derived.Test.YtidfofhmnlhfjaaGreatDoorRows
import Derived.Test.YtidfofhmnlhfjaaGreatDoorTie
set_option linter.unusedVariables false
namespace Go.Proofs.YtidfofhmnlhfjaaGreatDoor
open Go.X
def calqueref08_next_b1 (_N : Nat) (s_0 : List UInt8) (at_5 : Int) : Option (Int ⊕ Int) :=
  (show Option Bool from
    bif (decide (at_5 < (s_0.length : Int))) then
      (idx s_0 at_5).bind fun c9 =>
      bif ((c9.toNat : Int) == 32) then
        some true
      else
        (idx s_0 at_5).bind fun c12 =>
        bif ((c12.toNat : Int) == 9) then
          some true
        else
          (idx s_0 at_5).bind fun c15 =>
          some ((c15.toNat : Int) == 10)
    else
      some false).bind fun o7 =>
  bif o7 then
    some (.inl (IntKind.wrap .i64 (at_5 + 1)))
  else
    some (.inr at_5)
def calqueref08_next (N : Nat) (s_0 : List UInt8) (at_1 : Int) : Option (Word × Int) :=
  (iter (fun s => calqueref08_next_b1 N s_0 s) N at_1).bind fun o3 =>
  bif (o3 == (s_0.length : Int)) then
    some ((Word.mk ([]) o3), o3)
  else
    (slc s_0 o3 (s_0.length : Int)).bind fun s20 =>
    (calqueref08_longest N s20 97 122).bind fun r22 =>
    (show Option Int from
      bif (r22 == 0) then
        (slc s_0 o3 (s_0.length : Int)).bind fun s28 =>
        (calqueref08_longest N s28 48 57).bind fun r30 =>
        some r30
      else
        some r22).bind fun o25 =>
    (show Option Bool from
      bif (o25 == 0) then
        bif (decide ((IntKind.wrap .i64 (o3 + 1)) < (s_0.length : Int))) then
          (slc s_0 o3 (IntKind.wrap .i64 (o3 + 2))).bind fun s37 =>
          bif (s37 == ([33, 61])) then
            some true
          else
            (slc s_0 o3 (IntKind.wrap .i64 (o3 + 2))).bind fun s40 =>
            some (s40 == ([46, 46]))
        else
          some false
      else
        some false).bind fun o34 =>
    (show Option Int from
      bif o34 then
        some 2
      else
        some o25).bind fun o42 =>
    (show Option Bool from
      bif (o42 == 0) then
        (idx s_0 o3).bind fun c48 =>
        bif ((c48.toNat : Int) == 37) then
          some true
        else
          (idx s_0 o3).bind fun c51 =>
          bif ((c51.toNat : Int) == 61) then
            some true
          else
            (idx s_0 o3).bind fun c54 =>
            some ((c54.toNat : Int) == 44)
      else
        some false).bind fun o46 =>
    (show Option Int from
      bif o46 then
        some 1
      else
        some o42).bind fun o56 =>
    (slc s_0 o3 (IntKind.wrap .i64 (o3 + o56))).bind fun s60 =>
    some ((Word.mk s60 o3), (IntKind.wrap .i64 (o3 + o56)))
def calqueref08_parser_step (N : Nat) (x0 : Parser) : Option Parser :=
  bif (x0.e == 0) then
    (show Option Parser from
      (calqueref08_next N x0.s x0.to_).bind fun r22 =>
      some (Parser.mk x0.s r22.2 r22.1 x0.at_ x0.e)).bind fun o14 =>
    some o14
  else
    some x0
def calqueref08_parser_is (_N : Nat) (s_1 : List UInt8) (x0 : Parser) : Option Bool :=
  bif (x0.e == 0) then
    some (x0.w.text == s_1)
  else
    some false
def calqueref08_parser_letter_b1 (N : Nat) (x0 : Parser) (i_10 : Int) : Option (Int ⊕ ((Unit ⊕ Bool))) :=
  bif (decide (i_10 < 6)) then
    (slc ([110, 105, 118, 119, 102, 116]) i_10 (i_10 + 1)).bind fun s13 =>
    (calqueref08_parser_is N s13 x0).bind fun r15 =>
    bif r15 then
      some (.inr (.inr true))
    else
      some (.inl (i_10 + 1))
  else
    some (.inr (.inl ()))
def calqueref08_parser_letter (N : Nat) (x0 : Parser) : Option Bool :=
  (iter (fun s => calqueref08_parser_letter_b1 N x0 s) N 0).bind fun o8 =>
  Sum.elim (fun _o8 =>
    some false)
  (fun o8 =>
    some o8) o8
def calqueref08_parser_fail (_N : Nat) (e_1 : Int) (x0 : Parser) : Option Parser :=
  bif (x0.e == 0) then
    some (Parser.mk x0.s x0.to_ x0.w x0.w.at_ e_1)
  else
    some x0
def calqueref08_has_b1 (_N : Nat) (l_0 : List (Int)) (n_1 : Int) (i_4 : Int) : Option (Int ⊕ ((Unit ⊕ Bool))) :=
  bif (decide (i_4 < (l_0.length : Int))) then
    (idx l_0 i_4).bind fun x7 =>
    bif (x7 == n_1) then
      some (.inr (.inr true))
    else
      some (.inl (i_4 + 1))
  else
    some (.inr (.inl ()))
def calqueref08_has (N : Nat) (l_0 : List (Int)) (n_1 : Int) : Option Bool :=
  (iter (fun s => calqueref08_has_b1 N l_0 n_1 s) N 0).bind fun o2 =>
  Sum.elim (fun _o2 =>
    some false)
  (fun o2 =>
    some o2) o2
def calqueref08_Mods (_N : Nat) (operand_0 : Int) : Option (List (Int)) :=
  (show Option Bool from
    bif (operand_0 == 1) then
      some (operand_0 == 1)
    else
      some (operand_0 == 2)).bind fun o1 =>
  bif o1 then
    some ([2, 3, 4, 5, 6, 10, 20, 25, 50, 100] : List (Int))
  else
    (show Option Bool from
      bif (operand_0 == 5) then
        some (operand_0 == 5)
      else
        some (operand_0 == 6)).bind fun o9 =>
    bif o9 then
      some ([10, 100] : List (Int))
    else
      some ([])
def calqueref08_Bound (_N : Nat) (operand_0 : Int) : Option Int :=
  bif (operand_0 == 3) then
    some 6
  else
    bif (operand_0 == 4) then
      some 6
    else
      some 100
def calqueref07_Value_b1 (_N : Nat) (s_0 : List UInt8) (n_6 : Int) (i_7 : Int) : Option ((Int × Int) ⊕ Int) :=
  bif (decide (i_7 < (s_0.length : Int))) then
    (idx s_0 i_7).bind fun c11 =>
    some (.inl ((IntKind.wrap .i64 ((IntKind.wrap .i64 ((10 : Int) * n_6)) + (IntKind.wrap .u8 ((c11.toNat : Int) - 48)))), (i_7 + 1)))
  else
    some (.inr n_6)
def calqueref07_Value (N : Nat) (s_0 : List UInt8) : Option Int :=
  (iter (fun s => calqueref07_Value_b1 N s_0 s.1 s.2) N (0, 0)).bind fun o3 =>
  some o3
def calqueref08_parser_number (N : Nat) (x0 : Parser) : Option (Int × Parser) :=
  bif (x0.w.text == ([])) then
    (calqueref08_parser_fail N 3 x0).bind fun r14 =>
    some (0, r14)
  else
    (idx x0.w.text 0).bind fun c22 =>
    bif (decide ((c22.toNat : Int) < 48)) then
      (calqueref08_parser_fail N 3 x0).bind fun r25 =>
      some (0, r25)
    else
      (idx x0.w.text 0).bind fun c33 =>
      bif (decide ((c33.toNat : Int) > 57)) then
        (calqueref08_parser_fail N 3 x0).bind fun r36 =>
        some (0, r36)
      else
        bif (decide ((x0.w.text.length : Int) > 3)) then
          (calqueref08_parser_fail N 3 x0).bind fun r45 =>
          some (0, r45)
        else
          bif (decide ((x0.w.text.length : Int) > 1)) then
            (idx x0.w.text 0).bind fun c54 =>
            bif ((c54.toNat : Int) == 48) then
              (calqueref08_parser_fail N 3 x0).bind fun r57 =>
              some (0, r57)
            else
              (calqueref07_Value N x0.w.text).bind fun r65 =>
              some (r65, x0)
          else
            (calqueref07_Value N x0.w.text).bind fun r68 =>
            some (r68, x0)
def calqueref08_parser_span (N : Nat) (operand_1 : Int) (x0 : Parser) : Option (Span × Parser) :=
  (calqueref08_parser_number N x0).bind fun r14 =>
  (calqueref08_Bound N operand_1).bind fun r24 =>
  (show Option Parser from
    bif (decide (r14.1 > r24)) then
      (calqueref08_parser_fail N 2 r14.2).bind fun r35 =>
      some r35
    else
      some r14.2).bind fun o27 =>
  (calqueref08_parser_step N o27).bind fun r49 =>
  (calqueref08_parser_is N ([46, 46]) r49).bind fun r57 =>
  bif r57 then
    (calqueref08_parser_step N r49).bind fun r60 =>
    (calqueref08_parser_number N r60).bind fun r68 =>
    (calqueref08_Bound N operand_1).bind fun r77 =>
    bif (decide (r68.1 > r77)) then
      (calqueref08_parser_fail N 2 r68.2).bind fun r81 =>
      (calqueref08_parser_step N r81).bind fun r89 =>
      some ((Span.mk r14.1 r68.1), r89)
    else
      bif (decide (r68.1 < r14.1)) then
        (calqueref08_parser_fail N 2 r68.2).bind fun r98 =>
        (calqueref08_parser_step N r98).bind fun r106 =>
        some ((Span.mk r14.1 r68.1), r106)
      else
        (calqueref08_parser_step N r68.2).bind fun r114 =>
        some ((Span.mk r14.1 r68.1), r114)
  else
    some ((Span.mk r14.1 r14.1), r49)
def calqueref08_parser_digit (N : Nat) (x0 : Parser) : Option Bool :=
  (show Option Parser from
    some (Parser.mk x0.s 0 x0.w 0 0)).bind fun o7 =>
  (calqueref08_parser_number N o7).bind fun r24 =>
  some (r24.2.e == 0)
def calqueref08_parser_relation_b1 (N : Nat) (x0 : Parser) (i_23 : Int) (x_24 : Relation) : Option ((Int × Relation) ⊕ Relation) :=
  bif (decide (i_23 < 6)) then
    (slc ([110, 105, 118, 119, 102, 116]) i_23 (i_23 + 1)).bind fun s29 =>
    (calqueref08_parser_is N s29 x0).bind fun r31 =>
    bif r31 then
      some (.inl ((i_23 + 1), (Relation.mk (i_23 + 1) x_24.Mod x_24.Not ([]))))
    else
      some (.inl ((i_23 + 1), (Relation.mk x_24.Operand x_24.Mod x_24.Not ([]))))
  else
    some (.inr (Relation.mk x_24.Operand x_24.Mod x_24.Not ([])))
def calqueref08_parser_relation_b2 (N : Nat) (x_269 : Parser) (x_270 : Relation) : Option ((Parser × Relation) ⊕ ((Relation × Parser))) :=
  (calqueref08_parser_is N ([44]) x_269).bind fun r283 =>
  bif r283 then
    (calqueref08_parser_step N x_269).bind fun r286 =>
    bif ((x_270.Spans.length : Int) == 4) then
      (calqueref08_parser_digit N r286).bind fun r295 =>
      bif r295 then
        (calqueref07_Value N r286.w.text).bind fun r298 =>
        (calqueref08_Bound N x_270.Operand).bind fun r301 =>
        (show Option Parser from
          bif (decide (r298 ≤ r301)) then
            (calqueref08_parser_fail N 6 r286).bind fun r312 =>
            some r312
          else
            some r286).bind fun o304 =>
        (show Option (Parser × Relation) from
          (calqueref08_parser_span N x_270.Operand o304).bind fun r339 =>
          (app x_270.Spans ([r339.1] : List (Span))).bind fun l355 =>
          some (r339.2, (Relation.mk x_270.Operand x_270.Mod x_270.Not l355))).bind fun o326 =>
        some (.inl (o326.1, o326.2))
      else
        (show Option (Parser × Relation) from
          (calqueref08_parser_span N x_270.Operand r286).bind fun r402 =>
          (app x_270.Spans ([r402.1] : List (Span))).bind fun l418 =>
          some (r402.2, (Relation.mk x_270.Operand x_270.Mod x_270.Not l418))).bind fun o389 =>
        some (.inl (o389.1, o389.2))
    else
      (show Option (Parser × Relation) from
        (calqueref08_parser_span N x_270.Operand r286).bind fun r465 =>
        (app x_270.Spans ([r465.1] : List (Span))).bind fun l481 =>
        some (r465.2, (Relation.mk x_270.Operand x_270.Mod x_270.Not l481))).bind fun o452 =>
      some (.inl (o452.1, o452.2))
  else
    some (.inr (x_270, x_269))
def calqueref08_parser_relation_b3 (N : Nat) (x_640 : Parser) (x_641 : Relation) : Option ((Parser × Relation) ⊕ ((Relation × Parser))) :=
  (calqueref08_parser_is N ([44]) x_640).bind fun r654 =>
  bif r654 then
    (calqueref08_parser_step N x_640).bind fun r657 =>
    bif ((x_641.Spans.length : Int) == 4) then
      (calqueref08_parser_digit N r657).bind fun r666 =>
      bif r666 then
        (calqueref07_Value N r657.w.text).bind fun r669 =>
        (calqueref08_Bound N x_641.Operand).bind fun r672 =>
        (show Option Parser from
          bif (decide (r669 ≤ r672)) then
            (calqueref08_parser_fail N 6 r657).bind fun r683 =>
            some r683
          else
            some r657).bind fun o675 =>
        (show Option (Parser × Relation) from
          (calqueref08_parser_span N x_641.Operand o675).bind fun r710 =>
          (app x_641.Spans ([r710.1] : List (Span))).bind fun l726 =>
          some (r710.2, (Relation.mk x_641.Operand x_641.Mod x_641.Not l726))).bind fun o697 =>
        some (.inl (o697.1, o697.2))
      else
        (show Option (Parser × Relation) from
          (calqueref08_parser_span N x_641.Operand r657).bind fun r773 =>
          (app x_641.Spans ([r773.1] : List (Span))).bind fun l789 =>
          some (r773.2, (Relation.mk x_641.Operand x_641.Mod x_641.Not l789))).bind fun o760 =>
        some (.inl (o760.1, o760.2))
    else
      (show Option (Parser × Relation) from
        (calqueref08_parser_span N x_641.Operand r657).bind fun r836 =>
        (app x_641.Spans ([r836.1] : List (Span))).bind fun l852 =>
        some (r836.2, (Relation.mk x_641.Operand x_641.Mod x_641.Not l852))).bind fun o823 =>
      some (.inl (o823.1, o823.2))
  else
    some (.inr (x_641, x_640))
def calqueref08_parser_relation (N : Nat) (x0 : Parser) : Option (Relation × Parser) :=
  (iter (fun s => calqueref08_parser_relation_b1 N x0 s.1 s.2) N (0, (Relation.mk 0 0 false ([])))).bind fun o19 =>
  (show Option Parser from
    bif (o19.Operand == 0) then
      (calqueref08_parser_fail N 3 x0).bind fun r44 =>
      some r44
    else
      some x0).bind fun o36 =>
  (calqueref08_parser_step N o36).bind fun r58 =>
  (calqueref08_parser_is N ([37]) r58).bind fun r66 =>
  (show Option (Parser × Relation) from
    bif r66 then
      (calqueref08_parser_step N r58).bind fun r79 =>
      (calqueref08_parser_number N r79).bind fun r87 =>
      (show Option Bool from
        (calqueref08_Mods N o19.Operand).bind fun r98 =>
        (calqueref08_has N r98 r87.1).bind fun r103 =>
        some (!r103)).bind fun o96 =>
      bif o96 then
        (calqueref08_parser_fail N 2 r87.2).bind fun r110 =>
        (calqueref08_parser_step N r110).bind fun r118 =>
        some (r118, (Relation.mk o19.Operand r87.1 o19.Not ([])))
      else
        (calqueref08_parser_step N r87.2).bind fun r126 =>
        some (r126, (Relation.mk o19.Operand r87.1 o19.Not ([])))
    else
      some (r58, (Relation.mk o19.Operand o19.Mod o19.Not ([])))).bind fun o68 =>
  (calqueref08_parser_is N ([33, 61]) o68.1).bind fun r143 =>
  (calqueref08_parser_is N ([61]) o68.1).bind fun r145 =>
  bif (!r145) then
    (show Option Parser from
      bif (!r143) then
        (calqueref08_parser_fail N 3 o68.1).bind fun r156 =>
        some r156
      else
        some o68.1).bind fun o148 =>
    (calqueref08_parser_step N o148).bind fun r170 =>
    (show Option (Parser × Relation) from
      (calqueref08_parser_span N o68.2.Operand r170).bind fun r191 =>
      (app ([] : List (Span)) ([r191.1] : List (Span))).bind fun l209 =>
      some (r191.2, (Relation.mk o68.2.Operand o68.2.Mod r143 l209))).bind fun o178 =>
    (iter (fun s => calqueref08_parser_relation_b2 N s.1 s.2) N (o178.1, o178.2)).bind fun o256 =>
    some (o256.1, o256.2)
  else
    (calqueref08_parser_step N o68.1).bind fun r541 =>
    (show Option (Parser × Relation) from
      (calqueref08_parser_span N o68.2.Operand r541).bind fun r562 =>
      (app ([] : List (Span)) ([r562.1] : List (Span))).bind fun l580 =>
      some (r562.2, (Relation.mk o68.2.Operand o68.2.Mod r143 l580))).bind fun o549 =>
    (iter (fun s => calqueref08_parser_relation_b3 N s.1 s.2) N (o549.1, o549.2)).bind fun o627 =>
    some (o627.1, o627.2)
end Go.Proofs.YtidfofhmnlhfjaaGreatDoor
namespace Go.Proofs.YtidfofhmnlhfjaaGreatDoor
open Go.X
variable {u : World} {m0 : Mem} {S : Segs} {w : World}
set_option maxHeartbeats 4000000
set_option maxRecDepth 100000
def calqueref08_next_R (u : World) (m0 : Mem) (S : Segs) (r : Word × Int) (a : Act) (w : World) : Prop :=
 ∃ m1 v0, m0.le m1 ∧ Ok u m1 S w ∧ a.defers = [] ∧ RVs Tryz.prog a w [.c 4 163 (.agg v0.toArray), .t 5 (.int .i64 r.2)] ∧ pWord m1 v0 r.1 ∧ InR .i64 r.2
theorem calqueref08_next_w (N : Nat) (s_0 : List UInt8) (ls_0 : s_0.length ≤ LIMS) (at_1 : Int) (rat_1 : InR .i64 at_1) {r : Word × Int} (hF : calqueref08_next N s_0 at_1 = some r) (hG : Glob u) (ok : Ok u m0 S w) :
  Calls Tryz.prog 142 [vs s_0, vi at_1].toArray w fun e w' => ∃ m1 v0, e = .returned (.tuple [(.agg v0.toArray), (.int .i64 r.2)].toArray) ∧ m0.le m1 ∧ Ok u m1 S w' ∧ pWord m1 v0 r.1 ∧ InR .i64 r.2 := by
 have le_m0 := Mem.le.refl m0
 unfold calqueref08_next at hF
 refine en (calqueref08_next_R u m0 S) r Tryz.func142 rfl rfl rfl (by rintro a w ⟨m1, v0, hle, ok, hd, hrv, h0, h1⟩; exact c_ret2 [.c 4 163 (.agg v0.toArray), .t 5 (.int .i64 r.2)] hd rfl hrv ⟨m1, v0, rfl, hle, ok, h0, h1⟩) fun fin a E => sg <| l_alloc E ok zero_163 rfl rfl fun b1 a w E ok => aw E rfl fun a E => wp_seq ?_
 refine wp_block ?_
 obtain ⟨o3, hL, hF⟩ := bnd hF
 refine c_loop _ (fun (s : Int) a w => Ok u m0 ([(b1, oc 163 [(vs ([])), vi 0])] :: S) w ∧ Env 104 a [(0, vs s_0), (1, vi s), (4, vp b1)] ∧ InR .i64 s) (fun (b : Int) e a w => e = (.exit 0) ∧ Ok u m0 ([(b1, oc 163 [(vs ([])), vi 0])] :: S) w ∧ Env 104 a [(0, vs s_0), (1, vi b), (4, vp b1)] ∧ InR .i64 b) ?_ ?_ N _ a w hL ⟨ok, E.keep [0, 1, 4], rat_1⟩
 ·as_aux_lemma =>
   rintro at_5 a w r ⟨ok, E, r6⟩ hF
   replace hF : calqueref08_next_b1 N s_0 at_5 = some r := hF
   unfold calqueref08_next_b1 at hF
   refine wp_seq <| wp_seq ?_
   obtain ⟨o7, hJ, hF⟩ := bnd hF
   refine c_mono (Q' := fun e a w => e = .normal ∧ Ok u m0 ([(b1, oc 163 [(vs ([])), vi 0])] :: S) w ∧ Env 104 a [(0, vs s_0), (1, vi at_5), (4, vp b1), (28, vb o7)]) ?_ ?_
   rotate_left
   ·clear hJ
    intro e a w hO
    obtain ⟨rfl, ok, E⟩ := hO
    refine t_norm <| cf E rfl hF (fun hc17 hF => ?_) fun hc17 hF => ?_
    rotate_left
    ·refine wp_exit <| t_exit ?_
     obtain rfl := sj hF
     exact so (⟨rfl, ⟨ok, E.keep [0, 1, 4], r6⟩⟩)
    refine wp_skip <| t_norm <| wp_block <| c_region <| mv E rfl fun a E => lw E (y_addw rfl rfl) fun a E => av E rfl fun a E => wpList_nil ?_
    refine b_norm ?_
    obtain rfl := sj hF
    exact step_n ⟨ok, E.keep [0, 1, 4], (InR.wrap _ _)⟩
   replace hF := hJ
   clear hJ
   refine c_region <| mv E rfl fun a E => mv E rfl fun a E => lw E (y_slen Tryz.underlying9 rfl) fun a E => lw E (y_lss rfl rfl) fun a E => mv E rfl fun a E => bsplit (decide (at_5 < (s_0.length : Int))) (fun hc8 => ?_) (fun hc8 => ?_)
   rotate_left
   ·replace hF := cond_f hc8 hF
    replace E := E.upd 11 hc8 rfl
    refine ls E fun a E => ls E fun a E => ls E fun a E => ls E fun a E => ls E fun a E => ls E fun a E => ls E fun a E => ls E fun a E => ?_
    refine ls E fun a E => ls E fun a E => ls E fun a E => ls E fun a E => ls E fun a E => ls E fun a E => ls E fun a E => ls E fun a E => ?_
    refine pf E rfl rfl fun a E => wpList_nil ?_
    obtain rfl := sj hF
    exact ⟨rfl, ⟨ok, E.keep [0, 1, 4, 28]⟩⟩
   replace hF := cond_t hc8 hF
   replace E := E.upd 11 hc8 rfl
   refine mv E rfl fun a E => mv E rfl fun a E => ?_
   obtain ⟨c9, e10, hF⟩ := bnd hF
   refine lv E ok (y_index Tryz.underlying9 rfl rfl e10) fun a E => lw E (y_eql rfl rfl) fun a E => mv E rfl fun a E => bsplit ((c9.toNat : Int) == 32) (fun hc11 => ?_) (fun hc11 => ?_)
   ·replace hF := cond_t hc11 hF
    replace E := E.upd 16 hc11 rfl
    refine ls E fun a E => ls E fun a E => ls E fun a E => ls E fun a E => pt E rfl rfl fun a E => mv E rfl fun a E => ls E fun a E => ls E fun a E => ?_
    refine ls E fun a E => ls E fun a E => pt E rfl rfl fun a E => pt E rfl rfl fun a E => wpList_nil ?_
    obtain rfl := sj hF
    exact ⟨rfl, ⟨ok, E.keep [0, 1, 4, 28]⟩⟩
   replace hF := cond_f hc11 hF
   replace E := E.upd 16 hc11 rfl
   refine mv E rfl fun a E => mv E rfl fun a E => ?_
   obtain ⟨c12, e13, hF⟩ := bnd hF
   refine lv E ok (y_index Tryz.underlying9 rfl rfl e13) fun a E => lw E (y_eql rfl rfl) fun a E => pf E rfl rfl fun a E => mv E rfl fun a E => bsplit ((c12.toNat : Int) == 9) (fun hc14 => ?_) (fun hc14 => ?_)
   ·replace hF := cond_t hc14 hF
    replace E := E.upd 22 hc14 rfl
    refine ls E fun a E => ls E fun a E => ls E fun a E => ls E fun a E => pt E rfl rfl fun a E => pt E rfl rfl fun a E => wpList_nil ?_
    obtain rfl := sj hF
    exact ⟨rfl, ⟨ok, E.keep [0, 1, 4, 28]⟩⟩
   replace hF := cond_f hc14 hF
   replace E := E.upd 22 hc14 rfl
   refine mv E rfl fun a E => mv E rfl fun a E => ?_
   obtain ⟨c15, e16, hF⟩ := bnd hF
   refine lv E ok (y_index Tryz.underlying9 rfl rfl e16) fun a E => lw E (y_eql rfl rfl) fun a E => pf E rfl rfl fun a E => pt E rfl rfl fun a E => wpList_nil ?_
   obtain rfl := sj hF
   exact ⟨rfl, ⟨ok, E.keep [0, 1, 4, 28]⟩⟩
 intro e a w _ hO
 obtain ⟨rfl, ok, E, r18⟩ := hO
 refine b_hit <| t_norm <| wp_seq <| sg <| mv E rfl fun a E => mv E rfl fun a E => lw E (y_slen Tryz.underlying9 rfl) fun a E => ?_
 refine lw E (y_eql rfl rfl) fun a E => wn <| cf E rfl hF (fun hc19 hF => ?_) fun hc19 hF => ?_
 ·refine sg <| mv E rfl fun a E => lw E (y_build (ps := [(0, .const (vs ([]))), (1, .tmp 35)]) (qs := [(0, [(vs ([]))]), (1, [vi o3])]) (cs := [(vs ([])), vi o3]) zero_163 places_163 rfl ⟨rfl, rfl, rfl, ⟨rfl, rfl, rfl, trivial⟩⟩ rfl) fun a E => mv E rfl fun a E => l_storeB E ok 0 rfl rfl rfl inf_163 rfl rfl ⟨rfl, rfl, trivial⟩ rfl rfl fun w ok => av E rfl fun a E => wpList_nil ?_
  refine t_norm <| wp_ret <| t_ret ?_
  exact fin hF ⟨m0, [(vs ([])), vi o3], le_m0, ok.drop, E.d, ⟨rv_c (cs := [(vs ([])), vi o3]) E ok rfl agg_163 rfl (Holds.own 0 rfl rfl), rv_t E rfl, trivial⟩, ⟨rfl, (show ([] : List UInt8).length ≤ LIMS by decide), r18⟩, r18⟩
 refine wp_skip <| t_norm <| sg <| mv E rfl fun a E => mv E rfl fun a E => ?_
 obtain ⟨s20, e21, hF⟩ := bnd hF
 refine lw E (y_sslice Tryz.underlying9 e21 rfl ⟨_, rfl⟩ rfl) fun a E => ?_
 obtain ⟨r22, e23, hF⟩ := bnd hF
 refine l_call E go_163 rfl (calqueref08_longest_w N s20 (Nat.le_trans (slc_len e21) ls_0) 97 (show InR .u8 (97) by decide) 122 (show InR .u8 (122) by decide) e23 hG ok) rfl rfl ?_
 rintro _ w ⟨⟨rfl, ok⟩, r24⟩
 refine ⟨_, rfl, fun a E => ?_⟩
 refine aw E rfl fun a E => wp_seq <| sg <| mv E rfl fun a E => lw E (y_eql rfl rfl) fun a E => ?_
 refine wn ?_
 obtain ⟨o25, hJ, hF⟩ := bnd hF
 refine c_mono (Q' := fun e a w => e = .normal ∧ Ok u m0 ([(b1, oc 163 [(vs ([])), vi 0])] :: S) w ∧ Env 104 a [(0, vs s_0), (1, vi o3), (4, vp b1), (6, vi o25)] ∧ InR .i64 o25) ?_ ?_
 ·replace hF := hJ
  clear hJ
  refine cf E rfl hF (fun hc27 hF => ?_) fun hc27 hF => ?_
  rotate_left
  ·refine wp_skip ?_
   obtain rfl := sj hF
   exact ⟨rfl, ⟨ok, E.keep [0, 1, 4, 6], r24⟩⟩
  refine c_region <| mv E rfl fun a E => mv E rfl fun a E => ?_
  obtain ⟨s28, e29, hF⟩ := bnd hF
  refine lw E (y_sslice Tryz.underlying9 e29 rfl ⟨_, rfl⟩ rfl) fun a E => ?_
  obtain ⟨r30, e31, hF⟩ := bnd hF
  refine l_call E go_163 rfl (calqueref08_longest_w N s28 (Nat.le_trans (slc_len e29) ls_0) 48 (show InR .u8 (48) by decide) 57 (show InR .u8 (57) by decide) e31 hG ok) rfl rfl ?_
  rintro _ w ⟨⟨rfl, ok⟩, r32⟩
  refine ⟨_, rfl, fun a E => ?_⟩
  refine av E rfl fun a E => wpList_nil ?_
  obtain rfl := sj hF
  exact ⟨rfl, ⟨ok, E.keep [0, 1, 4, 6], r32⟩⟩
 clear hJ
 intro e a w hO
 obtain ⟨rfl, ok, E, r33⟩ := hO
 refine t_norm <| wp_seq <| wp_seq ?_
 obtain ⟨o34, hJ, hF⟩ := bnd hF
 refine c_mono (Q' := fun e a w => e = .normal ∧ Ok u m0 ([(b1, oc 163 [(vs ([])), vi 0])] :: S) w ∧ Env 104 a [(0, vs s_0), (1, vi o3), (4, vp b1), (6, vi o25), (72, vb o34)]) ?_ ?_
 ·as_aux_lemma =>
   replace hF := hJ
   clear hJ
   refine c_region <| mv E rfl fun a E => lw E (y_eql rfl rfl) fun a E => mv E rfl fun a E => bsplit (o25 == 0) (fun hc35 => ?_) (fun hc35 => ?_)
   rotate_left
   ·replace hF := cond_f hc35 hF
    replace E := E.upd 50 hc35 rfl
    refine ls E fun a E => ls E fun a E => ls E fun a E => ls E fun a E => ls E fun a E => pf E rfl rfl fun a E => mv E rfl fun a E => ls E fun a E => ?_
    refine ls E fun a E => ls E fun a E => ls E fun a E => ls E fun a E => ls E fun a E => ls E fun a E => ls E fun a E => ls E fun a E => ?_
    refine ls E fun a E => ls E fun a E => ls E fun a E => ls E fun a E => ls E fun a E => pf E rfl rfl fun a E => wpList_nil ?_
    obtain rfl := sj hF
    exact ⟨rfl, ⟨ok, E.keep [0, 1, 4, 6, 72]⟩⟩
   replace hF := cond_t hc35 hF
   replace E := E.upd 50 hc35 rfl
   refine mv E rfl fun a E => lw E (y_addw rfl rfl) fun a E => mv E rfl fun a E => lw E (y_slen Tryz.underlying9 rfl) fun a E => lw E (y_lss rfl rfl) fun a E => pt E rfl rfl fun a E => mv E rfl fun a E => bsplit (decide ((IntKind.wrap .i64 (o3 + 1)) < (s_0.length : Int))) (fun hc36 => ?_) (fun hc36 => ?_)
   rotate_left
   ·replace hF := cond_f hc36 hF
    replace E := E.upd 57 hc36 rfl
    refine ls E fun a E => ls E fun a E => ls E fun a E => ls E fun a E => ls E fun a E => ls E fun a E => ls E fun a E => ls E fun a E => ?_
    refine ls E fun a E => ls E fun a E => ls E fun a E => ls E fun a E => ls E fun a E => ls E fun a E => pf E rfl rfl fun a E => wpList_nil ?_
    obtain rfl := sj hF
    exact ⟨rfl, ⟨ok, E.keep [0, 1, 4, 6, 72]⟩⟩
   replace hF := cond_t hc36 hF
   replace E := E.upd 57 hc36 rfl
   refine mv E rfl fun a E => mv E rfl fun a E => mv E rfl fun a E => lw E (y_addw rfl rfl) fun a E => ?_
   obtain ⟨s37, e38, hF⟩ := bnd hF
   refine lw E (y_sslice Tryz.underlying9 e38 rfl ⟨_, rfl⟩ ⟨_, rfl⟩) fun a E => lw E (y_seql rfl rfl) fun a E => mv E rfl fun a E => bsplit (s37 == ([33, 61])) (fun hc39 => ?_) (fun hc39 => ?_)
   ·replace hF := cond_t hc39 hF
    replace E := E.upd 64 hc39 rfl
    refine ls E fun a E => ls E fun a E => ls E fun a E => ls E fun a E => ls E fun a E => ls E fun a E => pt E rfl rfl fun a E => pt E rfl rfl fun a E => ?_
    refine wpList_nil ?_
    obtain rfl := sj hF
    exact ⟨rfl, ⟨ok, E.keep [0, 1, 4, 6, 72]⟩⟩
   replace hF := cond_f hc39 hF
   replace E := E.upd 64 hc39 rfl
   refine mv E rfl fun a E => mv E rfl fun a E => mv E rfl fun a E => lw E (y_addw rfl rfl) fun a E => ?_
   obtain ⟨s40, e41, hF⟩ := bnd hF
   refine lw E (y_sslice Tryz.underlying9 e41 rfl ⟨_, rfl⟩ ⟨_, rfl⟩) fun a E => lw E (y_seql rfl rfl) fun a E => pf E rfl rfl fun a E => pt E rfl rfl fun a E => wpList_nil ?_
   obtain rfl := sj hF
   exact ⟨rfl, ⟨ok, E.keep [0, 1, 4, 6, 72]⟩⟩
 clear hJ
 intro e a w hO
 obtain ⟨rfl, ok, E⟩ := hO
 refine t_norm ?_
 obtain ⟨o42, hJ, hF⟩ := bnd hF
 refine c_mono (Q' := fun e a w => e = .normal ∧ Ok u m0 ([(b1, oc 163 [(vs ([])), vi 0])] :: S) w ∧ Env 104 a [(0, vs s_0), (1, vi o3), (4, vp b1), (6, vi o42)] ∧ InR .i64 o42) ?_ ?_
 ·replace hF := hJ
  clear hJ
  refine cf E rfl hF (fun hc44 hF => ?_) fun hc44 hF => ?_
  rotate_left
  ·refine wp_skip ?_
   obtain rfl := sj hF
   exact ⟨rfl, ⟨ok, E.keep [0, 1, 4, 6], r33⟩⟩
  refine c_region <| av E rfl fun a E => wpList_nil ?_
  obtain rfl := sj hF
  exact ⟨rfl, ⟨ok, E.keep [0, 1, 4, 6], (ir 2)⟩⟩
 clear hJ
 intro e a w hO
 obtain ⟨rfl, ok, E, r45⟩ := hO
 refine t_norm <| wp_seq <| wp_seq ?_
 obtain ⟨o46, hJ, hF⟩ := bnd hF
 refine c_mono (Q' := fun e a w => e = .normal ∧ Ok u m0 ([(b1, oc 163 [(vs ([])), vi 0])] :: S) w ∧ Env 104 a [(0, vs s_0), (1, vi o3), (4, vp b1), (6, vi o42), (92, vb o46)]) ?_ ?_
 rotate_left
 ·clear hJ
  intro e a w hO
  obtain ⟨rfl, ok, E⟩ := hO
  refine t_norm ?_
  obtain ⟨o56, hJ, hF⟩ := bnd hF
  refine c_mono (Q' := fun e a w => e = .normal ∧ Ok u m0 ([(b1, oc 163 [(vs ([])), vi 0])] :: S) w ∧ Env 104 a [(0, vs s_0), (1, vi o3), (4, vp b1), (6, vi o56)] ∧ InR .i64 o56) ?_ ?_
  ·replace hF := hJ
   clear hJ
   refine cf E rfl hF (fun hc58 hF => ?_) fun hc58 hF => ?_
   rotate_left
   ·refine wp_skip ?_
    obtain rfl := sj hF
    exact ⟨rfl, ⟨ok, E.keep [0, 1, 4, 6], r45⟩⟩
   refine c_region <| av E rfl fun a E => wpList_nil ?_
   obtain rfl := sj hF
   exact ⟨rfl, ⟨ok, E.keep [0, 1, 4, 6], (ir 1)⟩⟩
  clear hJ
  intro e a w hO
  obtain ⟨rfl, ok, E, r59⟩ := hO
  refine t_norm <| sg <| mv E rfl fun a E => mv E rfl fun a E => mv E rfl fun a E => mv E rfl fun a E => lw E (y_addw rfl rfl) fun a E => ?_
  obtain ⟨s60, e61, hF⟩ := bnd hF
  refine lw E (y_sslice Tryz.underlying9 e61 rfl ⟨_, rfl⟩ ⟨_, rfl⟩) fun a E => mv E rfl fun a E => lw E (y_build (ps := [(0, .tmp 98), (1, .tmp 99)]) (qs := [(0, [vs s60]), (1, [vi o3])]) (cs := [vs s60, vi o3]) zero_163 places_163 rfl ⟨rfl, rfl, rfl, ⟨rfl, rfl, rfl, trivial⟩⟩ rfl) fun a E => mv E rfl fun a E => mv E rfl fun a E => lw E (y_addw rfl rfl) fun a E => l_storeB E ok 0 rfl rfl rfl inf_163 rfl rfl ⟨rfl, rfl, trivial⟩ rfl rfl fun w ok => av E rfl fun a E => ?_
  refine wn <| wp_ret ?_
  exact fin hF ⟨m0, [vs s60, vi o3], le_m0, ok.drop, E.d, ⟨rv_c (cs := [vs s60, vi o3]) E ok rfl agg_163 rfl (Holds.own 0 rfl rfl), rv_t E rfl, trivial⟩, ⟨rfl, (Nat.le_trans (slc_len e61) ls_0), r18⟩, (InR.wrap _ _)⟩
 replace hF := hJ
 clear hJ
 refine c_region <| mv E rfl fun a E => lw E (y_eql rfl rfl) fun a E => mv E rfl fun a E => bsplit (o42 == 0) (fun hc47 => ?_) (fun hc47 => ?_)
 rotate_left
 ·replace hF := cond_f hc47 hF
  replace E := E.upd 75 hc47 rfl
  refine ls E fun a E => ls E fun a E => ls E fun a E => ls E fun a E => ls E fun a E => ls E fun a E => ls E fun a E => ls E fun a E => ?_
  refine ls E fun a E => ls E fun a E => ls E fun a E => ls E fun a E => ls E fun a E => ls E fun a E => ls E fun a E => ls E fun a E => ?_
  refine pf E rfl rfl fun a E => wpList_nil ?_
  obtain rfl := sj hF
  exact ⟨rfl, ⟨ok, E.keep [0, 1, 4, 6, 92]⟩⟩
 replace hF := cond_t hc47 hF
 replace E := E.upd 75 hc47 rfl
 refine mv E rfl fun a E => mv E rfl fun a E => ?_
 obtain ⟨c48, e49, hF⟩ := bnd hF
 refine lv E ok (y_index Tryz.underlying9 rfl rfl e49) fun a E => lw E (y_eql rfl rfl) fun a E => mv E rfl fun a E => bsplit ((c48.toNat : Int) == 37) (fun hc50 => ?_) (fun hc50 => ?_)
 ·replace hF := cond_t hc50 hF
  replace E := E.upd 80 hc50 rfl
  refine ls E fun a E => ls E fun a E => ls E fun a E => ls E fun a E => pt E rfl rfl fun a E => mv E rfl fun a E => ls E fun a E => ls E fun a E => ?_
  refine ls E fun a E => ls E fun a E => pt E rfl rfl fun a E => pt E rfl rfl fun a E => wpList_nil ?_
  obtain rfl := sj hF
  exact ⟨rfl, ⟨ok, E.keep [0, 1, 4, 6, 92]⟩⟩
 replace hF := cond_f hc50 hF
 replace E := E.upd 80 hc50 rfl
 refine mv E rfl fun a E => mv E rfl fun a E => ?_
 obtain ⟨c51, e52, hF⟩ := bnd hF
 refine lv E ok (y_index Tryz.underlying9 rfl rfl e52) fun a E => lw E (y_eql rfl rfl) fun a E => pf E rfl rfl fun a E => mv E rfl fun a E => bsplit ((c51.toNat : Int) == 61) (fun hc53 => ?_) (fun hc53 => ?_)
 ·replace hF := cond_t hc53 hF
  replace E := E.upd 86 hc53 rfl
  refine ls E fun a E => ls E fun a E => ls E fun a E => ls E fun a E => pt E rfl rfl fun a E => pt E rfl rfl fun a E => wpList_nil ?_
  obtain rfl := sj hF
  exact ⟨rfl, ⟨ok, E.keep [0, 1, 4, 6, 92]⟩⟩
 replace hF := cond_f hc53 hF
 replace E := E.upd 86 hc53 rfl
 refine mv E rfl fun a E => mv E rfl fun a E => ?_
 obtain ⟨c54, e55, hF⟩ := bnd hF
 refine lv E ok (y_index Tryz.underlying9 rfl rfl e55) fun a E => lw E (y_eql rfl rfl) fun a E => pf E rfl rfl fun a E => pt E rfl rfl fun a E => wpList_nil ?_
 obtain rfl := sj hF
 exact ⟨rfl, ⟨ok, E.keep [0, 1, 4, 6, 92]⟩⟩
def calqueref08_parser_step_R (u : World) (m0 : Mem) (S : Segs) (pb0 : Nat) (x0 : Parser) (r : Parser) (a : Act) (w : World) : Prop :=
 Ok u m0 ([(pb0, oc 165 [vs r.s, vi r.to_, vs r.w.text, vi r.w.at_, vi r.at_, vi r.e])] :: S) w ∧ a.defers = [] ∧ RVs Tryz.prog a w [] ∧ r.s.length ≤ LIMS ∧ InR .i64 r.to_ ∧ r.w.text.length ≤ LIMS ∧ InR .i64 r.w.at_ ∧ InR .i64 r.at_ ∧ InR .i64 r.e
theorem calqueref08_parser_step_w (N : Nat) {pb0 : Nat} (x0 : Parser) (l1 : x0.s.length ≤ LIMS) (r2 : InR .i64 x0.to_) (l3 : x0.w.text.length ≤ LIMS) (r4 : InR .i64 x0.w.at_) (r5 : InR .i64 x0.at_) (r6 : InR .i64 x0.e) {r : Parser} (hF : calqueref08_parser_step N x0 = some r) (hG : Glob u) (ok : Ok u m0 ([(pb0, oc 165 [vs x0.s, vi x0.to_, vs x0.w.text, vi x0.w.at_, vi x0.at_, vi x0.e])] :: S) w) :
  Calls Tryz.prog 111 [vp pb0].toArray w fun e w' => (e = .returned (.tuple [].toArray) ∧ Ok u m0 ([(pb0, oc 165 [vs r.s, vi r.to_, vs r.w.text, vi r.w.at_, vi r.at_, vi r.e])] :: S) w') ∧ r.s.length ≤ LIMS ∧ InR .i64 r.to_ ∧ r.w.text.length ≤ LIMS ∧ InR .i64 r.w.at_ ∧ InR .i64 r.at_ ∧ InR .i64 r.e := by
 have hb0 := ok.base
 have le_m0 := Mem.le.refl m0
 unfold calqueref08_parser_step at hF
 refine en (calqueref08_parser_step_R u m0 S pb0 x0) r Tryz.func111 rfl rfl rfl (by rintro a w ⟨ok, hd, hrv, h0, h1, h2, h3, h4, h5⟩; exact c_ret2 [] hd rfl hrv ⟨⟨rfl, ok⟩, h0, h1, h2, h3, h4, h5⟩) fun fin a E => sg <| mv E rfl fun a E => lw E (y_nilCheck rfl) fun a E => fv E fo_165_4 rfl fun a E => ld E ok one_27 0 rfl rfl rfl fun a E => lw E (y_eql rfl rfl) fun a E => ?_
 refine wn <| cf E rfl hF (fun hc13 hF => ?_) fun hc13 hF => ?_
 rotate_left
 ·refine wp_skip ?_
  exact fin hF ⟨ok, E.d, trivial, l1, r2, l3, r4, r5, r6⟩
 obtain ⟨o14, hJ, hF⟩ := bnd hF
 refine c_mono (Q' := fun e a w => e = .normal ∧ ∃ m15, m0.le m15 ∧ Ok u m15 ([(pb0, oc 165 [vs o14.s, vi o14.to_, vs o14.w.text, vi o14.w.at_, vi o14.at_, vi o14.e])] :: S) w ∧ Env 25 a [] ∧ o14.s.length ≤ LIMS ∧ InR .i64 o14.to_ ∧ o14.w.text.length ≤ LIMS ∧ InR .i64 o14.w.at_ ∧ InR .i64 o14.at_ ∧ InR .i64 o14.e) ?_ ?_
 rotate_left
 ·clear hJ
  intro e a w hO
  obtain ⟨rfl, m36, hle, ok, E, l37, r38, l39, r40, r41, r42⟩ := hO
  have le_m0 := le_m0.trans hle
  exact fin hF ⟨((ok).down hb0 le_m0), E.d, trivial, l37, r38, l39, r40, r41, r42⟩
 replace hF := hJ
 clear hJ
 obtain ⟨r22, e23, hF⟩ := bnd hF
 obtain rfl := sj hF
 refine k_begin [5, 9] (Cls u m0 ([(pb0, oc 165 [vs x0.s, vi x0.to_, vs x0.w.text, vi x0.w.at_, vi x0.at_, vi x0.e])] :: [])) (Cls u m0 ([])) (by kernel_rfl) ?_
 intro w hw
 replace ok := okdrew ok hw
 clear hw
 refine k_next (cl1 (cq le_m0 ok [0] rfl) (cq le_m0 ok [] rfl)) fun hT => kt 0 E rfl hT (y_move rfl) fun a E => kt 1 E rfl hT (y_move rfl) fun a E => kt 2 E rfl hT (y_move rfl) fun a E => kt 3 E rfl hT (y_nilCheck rfl) fun a E => kt 4 E rfl hT (y_fieldAddr fo_165_0 rfl) fun a E => k_takeN 5 E rfl (by kernel_rfl) nP hT (y_load one_9 rfl (Holds.cown 0 rfl rfl)) rfl rfl fun a E => kt 6 E rfl hT (y_move rfl) fun a E => ?_
 refine kt 7 E rfl hT (y_nilCheck rfl) fun a E => kt 8 E rfl hT (y_fieldAddr fo_165_1 rfl) fun a E => k_takeN 9 E rfl (by kernel_rfl) nP hT (y_load one_3 rfl (Holds.cown 0 rfl rfl)) rfl rfl fun a E => k_all [10] (by kernel_rfl) rfl (one_c ?_)
 ·refine wo rfl <| l_call E go_142 rfl (calqueref08_next_w N x0.s l1 x0.to_ r2 e23 hG ok) rfl rfl ?_
  rintro _ w ⟨m30, vs31, rfl, hle, ok, h32, r33⟩
  have le_m0 := le_m0.trans hle
  obtain ⟨rfl, l34, r35⟩ := h32
  refine ⟨_, rfl, fun a E => ?_⟩
  refine wn <| k_next (cl1 (cq le_m0 ok [0] rfl) (cq le_m0 ok [] rfl)) fun hT => kt 11 E rfl hT (y_move rfl) fun a E => kt 12 E rfl hT (y_extract rfl rfl) fun a E => kt 13 E rfl hT (y_extract rfl rfl) fun a E => kt 14 E rfl hT (y_nilCheck rfl) fun a E => kt 15 E rfl hT (y_fieldAddr fo_165_2 rfl) fun a E => ?_
  refine k_all [16] (by kernel_rfl) rfl (one_c ?_)
  ·refine wo rfl <| l_storeB E ok 0 rfl rfl rfl inf_163 rfl rfl ⟨rfl, rfl, trivial⟩ rfl rfl fun w ok => wn <| k_next (cl2 (by kernel_rfl) (cq le_m0 ok [] rfl)) fun hT => kt 17 E rfl hT (y_nilCheck rfl) fun a E => kt 18 E rfl hT (y_fieldAddr fo_165_1 rfl) fun a E => k_all [19] (by kernel_rfl) rfl (one_c ?_)
   ·refine wo rfl <| l_storeB E ok 0 rfl rfl rfl inf_3 rfl rfl ⟨rfl, trivial⟩ rfl rfl fun w ok => wn <| k_next (cl2 (by kernel_rfl) (cq le_m0 ok [] rfl)) fun hT => k_done (by kernel_rfl) ?_
    exact ⟨rfl, ⟨m30, le_m0, ok, E.keep [], l1, r33, l34, r35, r5, r6⟩⟩
def calqueref08_parser_is_R (u : World) (m0 : Mem) (S : Segs) (pb0 : Nat) (x0 : Parser) (r : Bool) (a : Act) (w : World) : Prop :=
 Ok u m0 ([(pb0, oc 165 [vs x0.s, vi x0.to_, vs x0.w.text, vi x0.w.at_, vi x0.at_, vi x0.e])] :: S) w ∧ a.defers = [] ∧ RVs Tryz.prog a w [.t 4 (.bool r)]
theorem calqueref08_parser_is_w (N : Nat) (s_1 : List UInt8) (ls_1 : s_1.length ≤ LIMS) {pb0 : Nat} (x0 : Parser) (l1 : x0.s.length ≤ LIMS) (r2 : InR .i64 x0.to_) (l3 : x0.w.text.length ≤ LIMS) (r4 : InR .i64 x0.w.at_) (r5 : InR .i64 x0.at_) (r6 : InR .i64 x0.e) {r : Bool} (hF : calqueref08_parser_is N s_1 x0 = some r) (hG : Glob u) (ok : Ok u m0 ([(pb0, oc 165 [vs x0.s, vi x0.to_, vs x0.w.text, vi x0.w.at_, vi x0.at_, vi x0.e])] :: S) w) :
  Calls Tryz.prog 115 [vp pb0, vs s_1].toArray w fun e w' => (e = .returned (.bool r) ∧ Ok u m0 ([(pb0, oc 165 [vs x0.s, vi x0.to_, vs x0.w.text, vi x0.w.at_, vi x0.at_, vi x0.e])] :: S) w') := by
 unfold calqueref08_parser_is at hF
 refine en (calqueref08_parser_is_R u m0 S pb0 x0) r Tryz.func115 rfl rfl rfl (by rintro a w ⟨ok, hd, hrv⟩; exact c_ret2 [.t 4 (.bool r)] hd rfl hrv ⟨rfl, ok⟩) fun fin a E => sg <| aw E rfl fun a E => sg ?_
 refine mv E rfl fun a E => lw E (y_nilCheck rfl) fun a E => fv E fo_165_4 rfl fun a E => ld E ok one_27 0 rfl rfl rfl fun a E => lw E (y_eql rfl rfl) fun a E => mv E rfl fun a E => bsplit (x0.e == 0) (fun hc7 => ?_) (fun hc7 => ?_)
 ·replace hF := cond_t hc7 hF
  replace E := E.upd 10 hc7 rfl
  refine mv E rfl fun a E => lw E (y_nilCheck rfl) fun a E => fv E fo_165_2 rfl fun a E => fv E fo_163_0 rfl fun a E => ld E ok one_9 0 rfl rfl rfl fun a E => mv E rfl fun a E => lw E (y_seql rfl rfl) fun a E => pt E rfl rfl fun a E => ?_
  refine aw E rfl fun a E => wp_ret ?_
  exact fin hF ⟨ok, E.d, ⟨rv_t E rfl, trivial⟩⟩
 replace hF := cond_f hc7 hF
 replace E := E.upd 10 hc7 rfl
 refine ls E fun a E => ls E fun a E => ls E fun a E => ls E fun a E => ls E fun a E => ls E fun a E => ls E fun a E => pf E rfl rfl fun a E => ?_
 refine aw E rfl fun a E => wp_ret ?_
 exact fin hF ⟨ok, E.d, ⟨rv_t E rfl, trivial⟩⟩
def calqueref08_parser_letter_R (u : World) (m0 : Mem) (S : Segs) (pb0 : Nat) (x0 : Parser) (r : Bool) (a : Act) (w : World) : Prop :=
 Ok u m0 ([(pb0, oc 165 [vs x0.s, vi x0.to_, vs x0.w.text, vi x0.w.at_, vi x0.at_, vi x0.e])] :: S) w ∧ a.defers = [] ∧ RVs Tryz.prog a w [.t 2 (.bool r)]
theorem calqueref08_parser_letter_w (N : Nat) {pb0 : Nat} (x0 : Parser) (l1 : x0.s.length ≤ LIMS) (r2 : InR .i64 x0.to_) (l3 : x0.w.text.length ≤ LIMS) (r4 : InR .i64 x0.w.at_) (r5 : InR .i64 x0.at_) (r6 : InR .i64 x0.e) {r : Bool} (hF : calqueref08_parser_letter N x0 = some r) (hG : Glob u) (ok : Ok u m0 ([(pb0, oc 165 [vs x0.s, vi x0.to_, vs x0.w.text, vi x0.w.at_, vi x0.at_, vi x0.e])] :: S) w) :
  Calls Tryz.prog 112 [vp pb0].toArray w fun e w' => (e = .returned (.bool r) ∧ Ok u m0 ([(pb0, oc 165 [vs x0.s, vi x0.to_, vs x0.w.text, vi x0.w.at_, vi x0.at_, vi x0.e])] :: S) w') := by
 unfold calqueref08_parser_letter at hF
 refine en (calqueref08_parser_letter_R u m0 S pb0 x0) r Tryz.func112 rfl rfl rfl (by rintro a w ⟨ok, hd, hrv⟩; exact c_ret2 [.t 2 (.bool r)] hd rfl hrv ⟨rfl, ok⟩) fun fin a E => sg <| aw E rfl fun a E => wp_seq <| wp_seq ?_
 refine c_region <| aw E rfl fun a E => wp_block ?_
 obtain ⟨o8, hL, hF⟩ := bnd hF
 refine c_loop _ (fun (s : Int) a w => Ok u m0 ([(pb0, oc 165 [vs x0.s, vi x0.to_, vs x0.w.text, vi x0.w.at_, vi x0.at_, vi x0.e])] :: S) w ∧ Env 14 a [(0, vp pb0), (3, vi s)] ∧ InR .i64 s) (fun (b : (Unit ⊕ Bool)) e a w => (Sum.elim (fun b18 => e = (.exit 0) ∧ Ok u m0 ([(pb0, oc 165 [vs x0.s, vi x0.to_, vs x0.w.text, vi x0.w.at_, vi x0.at_, vi x0.e])] :: S) w ∧ Env 14 a []) (fun b19 => e = .ret ∧ calqueref08_parser_letter_R u m0 S pb0 x0 b19 a w)) b) ?_ ?_ N _ a w hL ⟨ok, E.keep [0, 3], (ir 0)⟩
 rotate_left
 ·intro e a w _ hO
  rcases o8 with o8 | o8
  rotate_left
  ·replace hF := elim_r hF
   obtain ⟨rfl, hret⟩ := hO
   refine b_ret <| t_ret ?_
   exact fin hF hret
  replace hF := elim_l hF
  obtain ⟨rfl, ok, E⟩ := hO
  refine b_hit <| t_norm <| sg <| aw E rfl fun a E => wp_ret ?_
  exact fin hF ⟨ok, E.d, ⟨rv_t E rfl, trivial⟩⟩
 rintro i_10 a w r ⟨ok, E, r11⟩ hF
 replace hF : calqueref08_parser_letter_b1 N x0 i_10 = some r := hF
 unfold calqueref08_parser_letter_b1 at hF
 refine wp_seq <| sg <| mv E rfl fun a E => lw E (y_lss rfl rfl) fun a E => wn <| cf E rfl hF (fun hc12 hF => ?_) fun hc12 hF => ?_
 rotate_left
 ·refine wp_exit <| t_exit ?_
  obtain rfl := sj hF
  exact so (sl ⟨rfl, ⟨ok, E.keep []⟩⟩)
 refine wp_skip <| t_norm <| wp_seq <| wp_block <| sg <| mv E rfl fun a E => mv E rfl fun a E => ?_
 refine mv E rfl fun a E => lw E (y_add rfl rfl (InR.inc r11 (ir 6) hc12)) fun a E => ?_
 obtain ⟨s13, e14, hF⟩ := bnd hF
 refine lw E (y_sslice Tryz.underlying9 e14 rfl ⟨_, rfl⟩ ⟨_, rfl⟩) fun a E => ?_
 obtain ⟨r15, e16, hF⟩ := bnd hF
 refine lc E go_115 rfl (calqueref08_parser_is_w N s13 (Nat.le_trans (slc_len e14) (show ([110, 105, 118, 119, 102, 116] : List UInt8).length ≤ LIMS by decide)) x0 l1 r2 l3 r4 r5 r6 e16 hG ok) fun w ok a E => wn <| cf E rfl hF (fun hc17 hF => ?_) fun hc17 hF => ?_
 rotate_left
 ·refine wp_skip <| b_norm <| t_norm <| c_region <| mv E rfl fun a E => lw E (y_add rfl rfl (InR.inc r11 (ir 6) hc12)) fun a E => av E rfl fun a E => wpList_nil ?_
  obtain rfl := sj hF
  exact step_n ⟨ok, E.keep [0, 3], (InR.inc r11 (ir 6) hc12)⟩
 refine sg <| aw E rfl fun a E => wp_ret <| b_ret <| t_ret ?_
 obtain rfl := sj hF
 exact so (sr ⟨rfl, ⟨ok, E.d, ⟨rv_t E rfl, trivial⟩⟩⟩)
def calqueref08_parser_fail_R (u : World) (m0 : Mem) (S : Segs) (pb0 : Nat) (x0 : Parser) (r : Parser) (a : Act) (w : World) : Prop :=
 Ok u m0 ([(pb0, oc 165 [vs r.s, vi r.to_, vs r.w.text, vi r.w.at_, vi r.at_, vi r.e])] :: S) w ∧ a.defers = [] ∧ RVs Tryz.prog a w [] ∧ r.s.length ≤ LIMS ∧ InR .i64 r.to_ ∧ r.w.text.length ≤ LIMS ∧ InR .i64 r.w.at_ ∧ InR .i64 r.at_ ∧ InR .i64 r.e
theorem calqueref08_parser_fail_w (N : Nat) (e_1 : Int) (re_1 : InR .i64 e_1) {pb0 : Nat} (x0 : Parser) (l1 : x0.s.length ≤ LIMS) (r2 : InR .i64 x0.to_) (l3 : x0.w.text.length ≤ LIMS) (r4 : InR .i64 x0.w.at_) (r5 : InR .i64 x0.at_) (r6 : InR .i64 x0.e) {r : Parser} (hF : calqueref08_parser_fail N e_1 x0 = some r) (hG : Glob u) (ok : Ok u m0 ([(pb0, oc 165 [vs x0.s, vi x0.to_, vs x0.w.text, vi x0.w.at_, vi x0.at_, vi x0.e])] :: S) w) :
  Calls Tryz.prog 113 [vp pb0, vi e_1].toArray w fun e w' => (e = .returned (.tuple [].toArray) ∧ Ok u m0 ([(pb0, oc 165 [vs r.s, vi r.to_, vs r.w.text, vi r.w.at_, vi r.at_, vi r.e])] :: S) w') ∧ r.s.length ≤ LIMS ∧ InR .i64 r.to_ ∧ r.w.text.length ≤ LIMS ∧ InR .i64 r.w.at_ ∧ InR .i64 r.at_ ∧ InR .i64 r.e := by
 unfold calqueref08_parser_fail at hF
 refine en (calqueref08_parser_fail_R u m0 S pb0 x0) r Tryz.func113 rfl rfl rfl (by rintro a w ⟨ok, hd, hrv, h0, h1, h2, h3, h4, h5⟩; exact c_ret2 [] hd rfl hrv ⟨⟨rfl, ok⟩, h0, h1, h2, h3, h4, h5⟩) fun fin a E => sg <| mv E rfl fun a E => lw E (y_nilCheck rfl) fun a E => fv E fo_165_4 rfl fun a E => ld E ok one_27 0 rfl rfl rfl fun a E => lw E (y_eql rfl rfl) fun a E => ?_
 refine wn <| cf E rfl hF (fun hc13 hF => ?_) fun hc13 hF => ?_
 rotate_left
 ·refine wp_skip ?_
  exact fin hF ⟨ok, E.d, trivial, l1, r2, l3, r4, r5, r6⟩
 refine c_region <| mv E rfl fun a E => mv E rfl fun a E => mv E rfl fun a E => lw E (y_nilCheck rfl) fun a E => fv E fo_165_2 rfl fun a E => fv E fo_163_1 rfl fun a E => ld E ok one_3 0 rfl rfl rfl fun a E => ?_
 refine mv E rfl fun a E => lw E (y_nilCheck rfl) fun a E => fv E fo_165_3 rfl fun a E => l_storeB E ok 0 rfl rfl rfl inf_3 rfl rfl ⟨rfl, trivial⟩ rfl rfl fun w ok => lw E (y_nilCheck rfl) fun a E => fv E fo_165_4 rfl fun a E => l_storeB E ok 0 rfl rfl rfl inf_27 rfl rfl ⟨rfl, trivial⟩ rfl rfl fun w ok => wpList_nil ?_
 exact fin hF ⟨ok, E.d, trivial, l1, r2, l3, r4, r4, re_1⟩
def calqueref08_has_R (u : World) (m0 : Mem) (S : Segs) (r : Bool) (a : Act) (w : World) : Prop :=
 Ok u m0 S w ∧ a.defers = [] ∧ RVs Tryz.prog a w [.t 4 (.bool r)]
theorem calqueref08_has_w (N : Nat) (vl_0 : Value) (l_0 : List (Int)) (hl_0 : (pL 1 (pI .i64)) m0 [vl_0] l_0) (n_1 : Int) (rn_1 : InR .i64 n_1) {r : Bool} (hF : calqueref08_has N l_0 n_1 = some r) (hG : Glob u) (ok : Ok u m0 S w) :
  Calls Tryz.prog 101 [vl_0, vi n_1].toArray w fun e w' => (e = .returned (.bool r) ∧ Ok u m0 S w') := by
 unfold calqueref08_has at hF
 refine en (calqueref08_has_R u m0 S) r Tryz.func101 rfl rfl rfl (by rintro a w ⟨ok, hd, hrv⟩; exact c_ret2 [.t 4 (.bool r)] hd rfl hrv ⟨rfl, ok⟩) fun fin a E => sg <| aw E rfl fun a E => wp_seq <| wp_seq ?_
 refine c_region <| aw E rfl fun a E => wp_block ?_
 obtain ⟨o2, hL, hF⟩ := bnd hF
 refine c_loop _ (fun (s : Int) a w => Ok u m0 (S) w ∧ Env 18 a [(0, vl_0), (1, vi n_1), (5, vi s)] ∧ InR .i64 s) (fun (b : (Unit ⊕ Bool)) e a w => (Sum.elim (fun b18 => e = (.exit 0) ∧ Ok u m0 (S) w ∧ Env 18 a []) (fun b19 => e = .ret ∧ calqueref08_has_R u m0 S b19 a w)) b) ?_ ?_ N _ a w hL ⟨ok, E.keep [0, 1, 5], (ir 0)⟩
 rotate_left
 ·intro e a w _ hO
  rcases o2 with o2 | o2
  rotate_left
  ·replace hF := elim_r hF
   obtain ⟨rfl, hret⟩ := hO
   refine b_ret <| t_ret ?_
   exact fin hF hret
  replace hF := elim_l hF
  obtain ⟨rfl, ok, E⟩ := hO
  refine b_hit <| t_norm <| sg <| aw E rfl fun a E => wp_ret ?_
  exact fin hF ⟨ok, E.d, ⟨rv_t E rfl, trivial⟩⟩
 rintro i_4 a w r ⟨ok, E, r5⟩ hF
 replace hF : calqueref08_has_b1 N l_0 n_1 i_4 = some r := hF
 unfold calqueref08_has_b1 at hF
 refine wp_seq <| sg <| mv E rfl fun a E => mv E rfl fun a E => lv E ok (y_lenL sl_72 hl_0 rfl) fun a E => lw E (y_lss rfl rfl) fun a E => wpList_nil ?_
 refine t_norm <| cf E rfl hF (fun hc6 hF => ?_) fun hc6 hF => ?_
 rotate_left
 ·refine wp_exit <| t_exit ?_
  obtain rfl := sj hF
  exact so (sl ⟨rfl, ⟨ok, E.keep []⟩⟩)
 refine wp_skip <| t_norm <| wp_seq <| wp_block <| sg <| mv E rfl fun a E => mv E rfl fun a E => ?_
 obtain ⟨x7, e8, hF⟩ := bnd hF
 obtain ⟨b9, o10, es11, hl12, rr13, at14, yy15⟩ := idxAt sl_72 hl_0 e8 (P := Tryz.prog) (X := .tmp 12) (I := .tmp 13) (kd := .i64) (ev_of E rfl) (ev_of E rfl)
 obtain ⟨rfl, r16⟩ := rr13
 refine lv E ok (yy15 _ _) fun a E => lv E ok (y_load one_3 rfl (Holds.ro at14)) fun a E => mv E rfl fun a E => lw E (y_eql rfl rfl) fun a E => wn <| cf E rfl hF (fun hc17 hF => ?_) fun hc17 hF => ?_
 rotate_left
 ·refine wp_skip <| b_norm <| t_norm <| c_region <| mv E rfl fun a E => lw E (y_add rfl rfl (InR.inc r5 (pL_InR hl_0) hc6)) fun a E => av E rfl fun a E => wpList_nil ?_
  obtain rfl := sj hF
  exact step_n ⟨ok, E.keep [0, 1, 5], (InR.inc r5 (pL_InR hl_0) hc6)⟩
 refine sg <| aw E rfl fun a E => wp_ret <| b_ret <| t_ret ?_
 obtain rfl := sj hF
 exact so (sr ⟨rfl, ⟨ok, E.d, ⟨rv_t E rfl, trivial⟩⟩⟩)
def calqueref08_Mods_R (u : World) (m0 : Mem) (S : Segs) (r : (List (Int))) (a : Act) (w : World) : Prop :=
 ∃ m1 v0, m0.le m1 ∧ Ok u m1 S w ∧ a.defers = [] ∧ RVs Tryz.prog a w [.t 2 v0] ∧ (pL 1 (pI .i64)) m1 [v0] r
theorem calqueref08_Mods_w (N : Nat) (operand_0 : Int) (roperand_0 : InR .i64 operand_0) {r : (List (Int))} (hF : calqueref08_Mods N operand_0 = some r) (hG : Glob u) (ok : Ok u m0 S w) :
  Calls Tryz.prog 102 [vi operand_0].toArray w fun e w' => ∃ m1 v0, e = .returned v0 ∧ m0.le m1 ∧ Ok u m1 S w' ∧ (pL 1 (pI .i64)) m1 [v0] r := by
 have le_m0 := Mem.le.refl m0
 unfold calqueref08_Mods at hF
 refine en (calqueref08_Mods_R u m0 S) r Tryz.func102 rfl rfl rfl (by rintro a w ⟨m1, v0, hle, ok, hd, hrv, h0⟩; exact c_ret2 [.t 2 v0] hd rfl hrv ⟨m1, v0, rfl, hle, ok, h0⟩) fun fin a E => sg <| aw E rfl fun a E => wp_seq <| wp_seq ?_
 refine c_region <| mv E rfl fun a E => wn <| wp_block <| wp_seq <| sg ?_
 refine lw E (y_eql rfl rfl) fun a E => aw E rfl fun a E => ?_
 obtain ⟨o1, hJ, hF⟩ := bnd hF
 refine c_mono (Q' := fun e a w => e = .normal ∧ Ok u m0 (S) w ∧ Env 12 a [(3, vi operand_0), (4, vb o1)]) ?_ ?_
 ·replace hF := hJ
  clear hJ
  refine cf E rfl hF (fun hc2 hF => ?_) fun hc2 hF => ?_
  ·refine wp_skip ?_
   obtain rfl := sj hF
   exact ⟨rfl, ⟨ok, E.keep [3, 4]⟩⟩
  refine c_region <| lw E (y_eql rfl rfl) fun a E => av E rfl fun a E => wpList_nil ?_
  obtain rfl := sj hF
  exact ⟨rfl, ⟨ok, E.keep [3, 4]⟩⟩
 clear hJ
 intro e a w hO
 obtain ⟨rfl, ok, E⟩ := hO
 refine t_norm <| cf E rfl hF (fun hc3 hF => ?_) fun hc3 hF => ?_
 ·refine sg <| l_slit (R := (pI .i64)) (xo := [.const (vi 2), .const (vi 3), .const (vi 4), .const (vi 5), .const (vi 6), .const (vi 10), .const (vi 20), .const (vi 25), .const (vi 50), .const (vi 100)]) (xs := ([2, 3, 4, 5, 6, 10, 20, 25, 50, 100] : List (Int))) E ok sl_72 zero_3 rfl ⟨⟨_, rfl, rfl, (pI_mk (ir 2))⟩, ⟨_, rfl, rfl, (pI_mk (ir 3))⟩, ⟨_, rfl, rfl, (pI_mk (ir 4))⟩, ⟨_, rfl, rfl, (pI_mk (ir 5))⟩, ⟨_, rfl, rfl, (pI_mk (ir 6))⟩, ⟨_, rfl, rfl, (pI_mk (ir 10))⟩, ⟨_, rfl, rfl, (pI_mk (ir 20))⟩, ⟨_, rfl, rfl, (pI_mk (ir 25))⟩, ⟨_, rfl, rfl, (pI_mk (ir 50))⟩, ⟨_, rfl, rfl, (pI_mk (ir 100))⟩, trivial⟩ rfl rfl rfl rfl fun c4 M5 a w E ok h6 => aw E rfl fun a E => wp_ret <| b_ret ?_
  refine t_ret ?_
  obtain ⟨m7, hle, ok, hfz⟩ := (ok.frs 0 rfl).freeze
  have h8 := ORow.froz (mI .i64) h6 hle hfz (by decide)
  have le_m0 := le_m0.trans hle
  exact fin hF ⟨m7, c4, le_m0, ok, E.d, ⟨rv_t E rfl, trivial⟩, h8⟩
 refine wp_seq <| sg <| lw E (y_eql rfl rfl) fun a E => aw E rfl fun a E => ?_
 obtain ⟨o9, hJ, hF⟩ := bnd hF
 refine c_mono (Q' := fun e a w => e = .normal ∧ Ok u m0 (S) w ∧ Env 12 a [(8, vb o9)]) ?_ ?_
 ·replace hF := hJ
  clear hJ
  refine cf E rfl hF (fun hc10 hF => ?_) fun hc10 hF => ?_
  ·refine wp_skip ?_
   obtain rfl := sj hF
   exact ⟨rfl, ⟨ok, E.keep [8]⟩⟩
  refine c_region <| lw E (y_eql rfl rfl) fun a E => av E rfl fun a E => wpList_nil ?_
  obtain rfl := sj hF
  exact ⟨rfl, ⟨ok, E.keep [8]⟩⟩
 clear hJ
 intro e a w hO
 obtain ⟨rfl, ok, E⟩ := hO
 refine t_norm <| cf E rfl hF (fun hc11 hF => ?_) fun hc11 hF => ?_
 rotate_left
 ·refine wp_skip <| b_norm <| t_norm <| sg <| aw E rfl fun a E => ?_
  refine wp_ret ?_
  exact fin hF ⟨m0, (.slice none 0 0), le_m0, ok, E.d, ⟨rv_t E rfl, trivial⟩, pL_nil⟩
 refine sg <| l_slit (R := (pI .i64)) (xo := [.const (vi 10), .const (vi 100)]) (xs := ([10, 100] : List (Int))) E ok sl_72 zero_3 rfl ⟨⟨_, rfl, rfl, (pI_mk (ir 10))⟩, ⟨_, rfl, rfl, (pI_mk (ir 100))⟩, trivial⟩ rfl rfl rfl rfl fun c12 M13 a w E ok h14 => aw E rfl fun a E => wp_ret <| b_ret ?_
 refine t_ret ?_
 obtain ⟨m15, hle, ok, hfz⟩ := (ok.frs 0 rfl).freeze
 have h16 := ORow.froz (mI .i64) h14 hle hfz (by decide)
 have le_m0 := le_m0.trans hle
 exact fin hF ⟨m15, c12, le_m0, ok, E.d, ⟨rv_t E rfl, trivial⟩, h16⟩
def calqueref08_Bound_R (u : World) (m0 : Mem) (S : Segs) (r : Int) (a : Act) (w : World) : Prop :=
 Ok u m0 S w ∧ a.defers = [] ∧ RVs Tryz.prog a w [.t 2 (.int .i64 r)] ∧ InR .i64 r
theorem calqueref08_Bound_w (N : Nat) (operand_0 : Int) (roperand_0 : InR .i64 operand_0) {r : Int} (hF : calqueref08_Bound N operand_0 = some r) (hG : Glob u) (ok : Ok u m0 S w) :
  Calls Tryz.prog 103 [vi operand_0].toArray w fun e w' => (e = .returned (.int .i64 r) ∧ Ok u m0 S w') ∧ InR .i64 r := by
 unfold calqueref08_Bound at hF
 refine en (calqueref08_Bound_R u m0 S) r Tryz.func103 rfl rfl rfl (by rintro a w ⟨ok, hd, hrv, h0⟩; exact c_ret2 [.t 2 (.int .i64 r)] hd rfl hrv ⟨⟨rfl, ok⟩, h0⟩) fun fin a E => sg <| aw E rfl fun a E => wp_seq <| wp_seq ?_
 refine c_region <| mv E rfl fun a E => lw E (y_eql rfl rfl) fun a E => mv E rfl fun a E => bsplit (operand_0 == 3) (fun hc1 => ?_) (fun hc1 => ?_)
 ·replace hF := cond_t hc1 hF
  replace E := E.upd 5 hc1 rfl
  refine ls E fun a E => ls E fun a E => pt E rfl rfl fun a E => wn <| c_if E rfl (fun _ => ?_) (fun h => by cases h)
  refine sg <| aw E rfl fun a E => wp_ret <| t_ret ?_
  exact fin hF ⟨ok, E.d, ⟨rv_t E rfl, trivial⟩, (ir 6)⟩
 replace hF := cond_f hc1 hF
 replace E := E.upd 5 hc1 rfl
 refine mv E rfl fun a E => lw E (y_eql rfl rfl) fun a E => pf E rfl rfl fun a E => wn <| cf E rfl hF (fun hc2 hF => ?_) fun hc2 hF => ?_
 ·refine sg <| aw E rfl fun a E => wp_ret <| t_ret ?_
  exact fin hF ⟨ok, E.d, ⟨rv_t E rfl, trivial⟩, (ir 6)⟩
 refine wp_skip <| t_norm <| sg <| aw E rfl fun a E => wp_ret ?_
 exact fin hF ⟨ok, E.d, ⟨rv_t E rfl, trivial⟩, (ir 100)⟩
def calqueref07_Value_R (u : World) (m0 : Mem) (S : Segs) (r : Int) (a : Act) (w : World) : Prop :=
 Ok u m0 S w ∧ a.defers = [] ∧ RVs Tryz.prog a w [.t 2 (.int .i64 r)] ∧ InR .i64 r
theorem calqueref07_Value_w (N : Nat) (s_0 : List UInt8) (ls_0 : s_0.length ≤ LIMS) {r : Int} (hF : calqueref07_Value N s_0 = some r) (hG : Glob u) (ok : Ok u m0 S w) :
  Calls Tryz.prog 146 [vs s_0].toArray w fun e w' => (e = .returned (.int .i64 r) ∧ Ok u m0 S w') ∧ InR .i64 r := by
 unfold calqueref07_Value at hF
 refine en (calqueref07_Value_R u m0 S) r Tryz.func146 rfl rfl rfl (by rintro a w ⟨ok, hd, hrv, h0⟩; exact c_ret2 [.t 2 (.int .i64 r)] hd rfl hrv ⟨⟨rfl, ok⟩, h0⟩) fun fin a E => sg <| aw E rfl fun a E => sg ?_
 refine aw E rfl fun a E => wp_seq <| sg <| av E rfl fun a E => wpList_nil ?_
 refine t_norm <| wp_block ?_
 obtain ⟨o3, hL, hF⟩ := bnd hF
 refine c_loop _ (fun (s : Int × Int) a w => Ok u m0 (S) w ∧ Env 20 a [(0, vs s_0), (3, vi s.1), (4, vi s.2)] ∧ InR .i64 s.1 ∧ InR .i64 s.2) (fun (b : Int) e a w => e = (.exit 0) ∧ Ok u m0 (S) w ∧ Env 20 a [(3, vi b)] ∧ InR .i64 b) ?_ ?_ N _ a w hL ⟨ok, E.keep [0, 3, 4], (ir 0), (ir 0)⟩
 rotate_left
 ·intro e a w _ hO
  obtain ⟨rfl, ok, E, r13⟩ := hO
  refine b_hit <| t_norm <| sg <| mv E rfl fun a E => aw E rfl fun a E => ?_
  refine wp_ret ?_
  exact fin hF ⟨ok, E.d, ⟨rv_t E rfl, trivial⟩, r13⟩
 rintro ⟨n_6, i_7⟩ a w r ⟨ok, E, r8, r9⟩ hF
 replace hF : calqueref07_Value_b1 N s_0 n_6 i_7 = some r := hF
 unfold calqueref07_Value_b1 at hF
 refine wp_seq <| sg <| mv E rfl fun a E => mv E rfl fun a E => lw E (y_slen Tryz.underlying9 rfl) fun a E => lw E (y_lss rfl rfl) fun a E => wpList_nil ?_
 refine t_norm <| cf E rfl hF (fun hc10 hF => ?_) fun hc10 hF => ?_
 rotate_left
 ·refine wp_exit <| t_exit ?_
  obtain rfl := sj hF
  exact so (⟨rfl, ⟨ok, E.keep [3], r8⟩⟩)
 refine wp_skip <| t_norm <| wp_seq <| wp_block <| c_region <| mv E rfl fun a E => lw E (y_mulw rfl rfl) fun a E => mv E rfl fun a E => ?_
 refine mv E rfl fun a E => ?_
 obtain ⟨c11, e12, hF⟩ := bnd hF
 refine lv E ok (y_index Tryz.underlying9 rfl rfl e12) fun a E => lw E (y_subw rfl rfl) fun a E => lw E (y_convw Tryz.underlying5 Tryz.underlying3 rfl (InR.wrap _ _) (by decide)) fun a E => lw E (y_addw rfl rfl) fun a E => av E rfl fun a E => wpList_nil <| b_norm <| t_norm ?_
 refine c_region <| mv E rfl fun a E => lw E (y_add rfl rfl (InR.inc r9 (InR.len ls_0) hc10)) fun a E => av E rfl fun a E => wpList_nil ?_
 obtain rfl := sj hF
 exact step_n ⟨ok, E.keep [0, 3, 4], (InR.wrap _ _), (InR.inc r9 (InR.len ls_0) hc10)⟩
def calqueref08_parser_number_R (u : World) (m0 : Mem) (S : Segs) (pb0 : Nat) (x0 : Parser) (r : Int × Parser) (a : Act) (w : World) : Prop :=
 Ok u m0 ([(pb0, oc 165 [vs r.2.s, vi r.2.to_, vs r.2.w.text, vi r.2.w.at_, vi r.2.at_, vi r.2.e])] :: S) w ∧ a.defers = [] ∧ RVs Tryz.prog a w [.t 2 (.int .i64 r.1)] ∧ InR .i64 r.1 ∧ r.2.s.length ≤ LIMS ∧ InR .i64 r.2.to_ ∧ r.2.w.text.length ≤ LIMS ∧ InR .i64 r.2.w.at_ ∧ InR .i64 r.2.at_ ∧ InR .i64 r.2.e
theorem calqueref08_parser_number_w (N : Nat) {pb0 : Nat} (x0 : Parser) (l1 : x0.s.length ≤ LIMS) (r2 : InR .i64 x0.to_) (l3 : x0.w.text.length ≤ LIMS) (r4 : InR .i64 x0.w.at_) (r5 : InR .i64 x0.at_) (r6 : InR .i64 x0.e) {r : Int × Parser} (hF : calqueref08_parser_number N x0 = some r) (hG : Glob u) (ok : Ok u m0 ([(pb0, oc 165 [vs x0.s, vi x0.to_, vs x0.w.text, vi x0.w.at_, vi x0.at_, vi x0.e])] :: S) w) :
  Calls Tryz.prog 143 [vp pb0].toArray w fun e w' => (e = .returned (.int .i64 r.1) ∧ Ok u m0 ([(pb0, oc 165 [vs r.2.s, vi r.2.to_, vs r.2.w.text, vi r.2.w.at_, vi r.2.at_, vi r.2.e])] :: S) w') ∧ InR .i64 r.1 ∧ r.2.s.length ≤ LIMS ∧ InR .i64 r.2.to_ ∧ r.2.w.text.length ≤ LIMS ∧ InR .i64 r.2.w.at_ ∧ InR .i64 r.2.at_ ∧ InR .i64 r.2.e := by
 unfold calqueref08_parser_number at hF
 refine en (calqueref08_parser_number_R u m0 S pb0 x0) r Tryz.func143 rfl rfl rfl (by rintro a w ⟨ok, hd, hrv, h0, h1, h2, h3, h4, h5, h6⟩; exact c_ret2 [.t 2 (.int .i64 r.1)] hd rfl hrv ⟨⟨rfl, ok⟩, h0, h1, h2, h3, h4, h5, h6⟩) fun fin a E => sg <| aw E rfl fun a E => sg ?_
 refine mv E rfl fun a E => lw E (y_nilCheck rfl) fun a E => fv E fo_165_2 rfl fun a E => fv E fo_163_0 rfl fun a E => ld E ok one_9 0 rfl rfl rfl fun a E => aw E rfl fun a E => ?_
 refine wp_seq <| sg <| mv E rfl fun a E => lw E (y_seql rfl rfl) fun a E => mv E rfl fun a E => bsplit (x0.w.text == ([])) (fun hc13 => ?_) (fun hc13 => ?_)
 ·replace hF := cond_t hc13 hF
  replace E := E.upd 11 hc13 rfl
  refine ls E fun a E => ls E fun a E => ls E fun a E => pt E rfl rfl fun a E => mv E rfl fun a E => ls E fun a E => ls E fun a E => ls E fun a E => ?_
  refine pt E rfl rfl fun a E => mv E rfl fun a E => ls E fun a E => ls E fun a E => ls E fun a E => pt E rfl rfl fun a E => mv E rfl fun a E => ls E fun a E => ?_
  refine ls E fun a E => ls E fun a E => ls E fun a E => ls E fun a E => ls E fun a E => ls E fun a E => ls E fun a E => pt E rfl rfl fun a E => ?_
  refine wn <| c_if E rfl (fun _ => ?_) (fun h => by cases h)
  refine sg <| mv E rfl fun a E => ?_
  obtain ⟨r14, e15, hF⟩ := bnd hF
  refine l_call E go_113 rfl (calqueref08_parser_fail_w N 3 (ir 3) x0 l1 r2 l3 r4 r5 r6 e15 hG ok) rfl rfl ?_
  rintro _ w ⟨⟨rfl, ok⟩, l16, r17, l18, r19, r20, r21⟩
  refine ⟨_, rfl, fun a E => ?_⟩
  refine wn <| sg <| aw E rfl fun a E => wp_ret ?_
  refine t_ret ?_
  exact fin hF ⟨ok, E.d, ⟨rv_t E rfl, trivial⟩, (ir 0), l16, r17, l18, r19, r20, r21⟩
 replace hF := cond_f hc13 hF
 replace E := E.upd 11 hc13 rfl
 refine mv E rfl fun a E => ?_
 obtain ⟨c22, e23, hF⟩ := bnd hF
 refine lv E ok (y_index Tryz.underlying9 rfl rfl e23) fun a E => lw E (y_lss rfl rfl) fun a E => pf E rfl rfl fun a E => mv E rfl fun a E => bsplit (decide ((c22.toNat : Int) < 48)) (fun hc24 => ?_) (fun hc24 => ?_)
 ·replace hF := cond_t hc24 hF
  replace E := E.upd 16 hc24 rfl
  refine ls E fun a E => ls E fun a E => ls E fun a E => pt E rfl rfl fun a E => mv E rfl fun a E => ls E fun a E => ls E fun a E => ls E fun a E => ?_
  refine pt E rfl rfl fun a E => mv E rfl fun a E => ls E fun a E => ls E fun a E => ls E fun a E => ls E fun a E => ls E fun a E => ls E fun a E => ?_
  refine ls E fun a E => ls E fun a E => pt E rfl rfl fun a E => wn <| c_if E rfl (fun _ => ?_) (fun h => by cases h)
  refine sg <| mv E rfl fun a E => ?_
  obtain ⟨r25, e26, hF⟩ := bnd hF
  refine l_call E go_113 rfl (calqueref08_parser_fail_w N 3 (ir 3) x0 l1 r2 l3 r4 r5 r6 e26 hG ok) rfl rfl ?_
  rintro _ w ⟨⟨rfl, ok⟩, l27, r28, l29, r30, r31, r32⟩
  refine ⟨_, rfl, fun a E => ?_⟩
  refine wn <| sg <| aw E rfl fun a E => wp_ret ?_
  refine t_ret ?_
  exact fin hF ⟨ok, E.d, ⟨rv_t E rfl, trivial⟩, (ir 0), l27, r28, l29, r30, r31, r32⟩
 replace hF := cond_f hc24 hF
 replace E := E.upd 16 hc24 rfl
 refine mv E rfl fun a E => ?_
 obtain ⟨c33, e34, hF⟩ := bnd hF
 refine lv E ok (y_index Tryz.underlying9 rfl rfl e34) fun a E => lw E (y_gtr rfl rfl) fun a E => pf E rfl rfl fun a E => mv E rfl fun a E => bsplit (decide ((c33.toNat : Int) > 57)) (fun hc35 => ?_) (fun hc35 => ?_)
 ·replace hF := cond_t hc35 hF
  replace E := E.upd 21 hc35 rfl
  refine ls E fun a E => ls E fun a E => ls E fun a E => pt E rfl rfl fun a E => mv E rfl fun a E => ls E fun a E => ls E fun a E => ls E fun a E => ?_
  refine ls E fun a E => ls E fun a E => ls E fun a E => ls E fun a E => ls E fun a E => pt E rfl rfl fun a E => wn ?_
  refine c_if E rfl (fun _ => ?_) (fun h => by cases h)
  refine sg <| mv E rfl fun a E => ?_
  obtain ⟨r36, e37, hF⟩ := bnd hF
  refine l_call E go_113 rfl (calqueref08_parser_fail_w N 3 (ir 3) x0 l1 r2 l3 r4 r5 r6 e37 hG ok) rfl rfl ?_
  rintro _ w ⟨⟨rfl, ok⟩, l38, r39, l40, r41, r42, r43⟩
  refine ⟨_, rfl, fun a E => ?_⟩
  refine wn <| sg <| aw E rfl fun a E => wp_ret ?_
  refine t_ret ?_
  exact fin hF ⟨ok, E.d, ⟨rv_t E rfl, trivial⟩, (ir 0), l38, r39, l40, r41, r42, r43⟩
 replace hF := cond_f hc35 hF
 replace E := E.upd 21 hc35 rfl
 refine mv E rfl fun a E => lw E (y_slen Tryz.underlying9 rfl) fun a E => lw E (y_gtr rfl rfl) fun a E => pf E rfl rfl fun a E => mv E rfl fun a E => bsplit (decide ((x0.w.text.length : Int) > 3)) (fun hc44 => ?_) (fun hc44 => ?_)
 ·replace hF := cond_t hc44 hF
  replace E := E.upd 26 hc44 rfl
  refine ls E fun a E => ls E fun a E => ls E fun a E => ls E fun a E => ls E fun a E => ls E fun a E => ls E fun a E => ls E fun a E => ?_
  refine pt E rfl rfl fun a E => wn <| c_if E rfl (fun _ => ?_) (fun h => by cases h)
  refine sg <| mv E rfl fun a E => ?_
  obtain ⟨r45, e46, hF⟩ := bnd hF
  refine l_call E go_113 rfl (calqueref08_parser_fail_w N 3 (ir 3) x0 l1 r2 l3 r4 r5 r6 e46 hG ok) rfl rfl ?_
  rintro _ w ⟨⟨rfl, ok⟩, l47, r48, l49, r50, r51, r52⟩
  refine ⟨_, rfl, fun a E => ?_⟩
  refine wn <| sg <| aw E rfl fun a E => wp_ret ?_
  refine t_ret ?_
  exact fin hF ⟨ok, E.d, ⟨rv_t E rfl, trivial⟩, (ir 0), l47, r48, l49, r50, r51, r52⟩
 replace hF := cond_f hc44 hF
 replace E := E.upd 26 hc44 rfl
 refine mv E rfl fun a E => lw E (y_slen Tryz.underlying9 rfl) fun a E => lw E (y_gtr rfl rfl) fun a E => mv E rfl fun a E => bsplit (decide ((x0.w.text.length : Int) > 1)) (fun hc53 => ?_) (fun hc53 => ?_)
 rotate_left
 ·replace hF := cond_f hc53 hF
  replace E := E.upd 30 hc53 rfl
  refine ls E fun a E => ls E fun a E => ls E fun a E => pf E rfl rfl fun a E => pf E rfl rfl fun a E => wn <| c_if E rfl (fun h => by cases h) (fun _ => ?_)
  refine wp_skip <| t_norm <| sg <| mv E rfl fun a E => ?_
  obtain ⟨r68, e69, hF⟩ := bnd hF
  refine l_call E go_146 rfl (calqueref07_Value_w N x0.w.text l3 e69 hG ok) rfl rfl ?_
  rintro _ w ⟨⟨rfl, ok⟩, r70⟩
  refine ⟨_, rfl, fun a E => ?_⟩
  refine aw E rfl fun a E => wp_ret ?_
  exact fin hF ⟨ok, E.d, ⟨rv_t E rfl, trivial⟩, r70, l1, r2, l3, r4, r5, r6⟩
 replace hF := cond_t hc53 hF
 replace E := E.upd 30 hc53 rfl
 refine mv E rfl fun a E => ?_
 obtain ⟨c54, e55, hF⟩ := bnd hF
 refine lv E ok (y_index Tryz.underlying9 rfl rfl e55) fun a E => lw E (y_eql rfl rfl) fun a E => pt E rfl rfl fun a E => pf E rfl rfl fun a E => wn <| cf E rfl hF (fun hc56 hF => ?_) fun hc56 hF => ?_
 rotate_left
 ·refine wp_skip <| t_norm <| sg <| mv E rfl fun a E => ?_
  obtain ⟨r65, e66, hF⟩ := bnd hF
  refine l_call E go_146 rfl (calqueref07_Value_w N x0.w.text l3 e66 hG ok) rfl rfl ?_
  rintro _ w ⟨⟨rfl, ok⟩, r67⟩
  refine ⟨_, rfl, fun a E => ?_⟩
  refine aw E rfl fun a E => wp_ret ?_
  exact fin hF ⟨ok, E.d, ⟨rv_t E rfl, trivial⟩, r67, l1, r2, l3, r4, r5, r6⟩
 refine sg <| mv E rfl fun a E => ?_
 obtain ⟨r57, e58, hF⟩ := bnd hF
 refine l_call E go_113 rfl (calqueref08_parser_fail_w N 3 (ir 3) x0 l1 r2 l3 r4 r5 r6 e58 hG ok) rfl rfl ?_
 rintro _ w ⟨⟨rfl, ok⟩, l59, r60, l61, r62, r63, r64⟩
 refine ⟨_, rfl, fun a E => ?_⟩
 refine wn <| sg <| aw E rfl fun a E => wp_ret ?_
 refine t_ret ?_
 exact fin hF ⟨ok, E.d, ⟨rv_t E rfl, trivial⟩, (ir 0), l59, r60, l61, r62, r63, r64⟩
def calqueref08_parser_span_R (u : World) (m0 : Mem) (S : Segs) (pb0 : Nat) (x0 : Parser) (r : Span × Parser) (a : Act) (w : World) : Prop :=
 ∃ m1 v0, m0.le m1 ∧ Ok u m1 ([(pb0, oc 165 [vs r.2.s, vi r.2.to_, vs r.2.w.text, vi r.2.w.at_, vi r.2.at_, vi r.2.e])] :: S) w ∧ a.defers = [] ∧ RVs Tryz.prog a w [.c 4 126 (.agg v0.toArray)] ∧ pSpan m1 v0 r.1 ∧ r.2.s.length ≤ LIMS ∧ InR .i64 r.2.to_ ∧ r.2.w.text.length ≤ LIMS ∧ InR .i64 r.2.w.at_ ∧ InR .i64 r.2.at_ ∧ InR .i64 r.2.e
theorem calqueref08_parser_span_w (N : Nat) (operand_1 : Int) (roperand_1 : InR .i64 operand_1) {pb0 : Nat} (x0 : Parser) (l1 : x0.s.length ≤ LIMS) (r2 : InR .i64 x0.to_) (l3 : x0.w.text.length ≤ LIMS) (r4 : InR .i64 x0.w.at_) (r5 : InR .i64 x0.at_) (r6 : InR .i64 x0.e) {r : Span × Parser} (hF : calqueref08_parser_span N operand_1 x0 = some r) (hG : Glob u) (ok : Ok u m0 ([(pb0, oc 165 [vs x0.s, vi x0.to_, vs x0.w.text, vi x0.w.at_, vi x0.at_, vi x0.e])] :: S) w) :
  Calls Tryz.prog 144 [vp pb0, vi operand_1].toArray w fun e w' => ∃ m1 v0, e = .returned (.agg v0.toArray) ∧ m0.le m1 ∧ Ok u m1 ([(pb0, oc 165 [vs r.2.s, vi r.2.to_, vs r.2.w.text, vi r.2.w.at_, vi r.2.at_, vi r.2.e])] :: S) w' ∧ pSpan m1 v0 r.1 ∧ r.2.s.length ≤ LIMS ∧ InR .i64 r.2.to_ ∧ r.2.w.text.length ≤ LIMS ∧ InR .i64 r.2.w.at_ ∧ InR .i64 r.2.at_ ∧ InR .i64 r.2.e := by
 have le_m0 := Mem.le.refl m0
 unfold calqueref08_parser_span at hF
 refine en (calqueref08_parser_span_R u m0 S pb0 x0) r Tryz.func144 rfl rfl rfl (by rintro a w ⟨m1, v0, hle, ok, hd, hrv, h0, h1, h2, h3, h4, h5, h6⟩; exact c_ret2 [.c 4 126 (.agg v0.toArray)] hd rfl hrv ⟨m1, v0, rfl, hle, ok, h0, h1, h2, h3, h4, h5, h6⟩) fun fin a E => sg <| l_alloc E ok zero_126 rfl rfl fun b13 a w E ok => wn <| sg ?_
 refine mv E rfl fun a E => ?_
 obtain ⟨r14, e15, hF⟩ := bnd hF
 replace ok : Ok u m0 ([(pb0, oc 165 [vs x0.s, vi x0.to_, vs x0.w.text, vi x0.w.at_, vi x0.at_, vi x0.e])] :: [(b13, oc 126 [vi 0, vi 0])] :: S) w := (ok.pk 2 [1, 0] rfl (by decide))
 refine l_call E go_143 rfl (calqueref08_parser_number_w N x0 l1 r2 l3 r4 r5 r6 e15 hG ok) rfl rfl ?_
 rintro _ w ⟨⟨rfl, ok⟩, r16, l17, r18, l19, r20, r21, r22⟩
 refine ⟨_, rfl, fun a E => ?_⟩
 refine lw E (y_build (ps := [(0, .tmp 7)]) (qs := [(0, [vi r14.1])]) (cs := [vi r14.1, vi 0]) zero_126 places_126 rfl ⟨rfl, rfl, rfl, trivial⟩ rfl) fun a E => l_alloc E ok zero_126 rfl rfl fun b23 a w E ok => l_storeB E ok 0 rfl rfl rfl inf_126 rfl rfl ⟨rfl, rfl, trivial⟩ rfl rfl fun w ok => wn <| wp_seq <| wp_seq <| c_draw (by kernel_rfl) (by kernel_rfl) ok ?_
 refine qv E (y_fieldAddr fo_126_0 rfl) fun a E => qv E (y_load one_3 rfl (Holds.own 0 rfl rfl)) fun a E => qv E (y_move rfl) fun a E => ?_
 obtain ⟨r24, e25, hF⟩ := bnd hF
 obtain ⟨_, _, ⟨_, _⟩, r26⟩ := Go.X.Calls.get (calqueref08_Bound_w N operand_1 roperand_1 e25 hG ok)
 refine q_call E go_103 rfl (fun w ok => (calqueref08_Bound_w N operand_1 roperand_1 e25 hG ok).mono (fun _ _ h => h.1)) rfl rfl fun a E => qv E (y_gtr rfl rfl) fun a E => wpQuiet_nil ?_
 intro w ok
 refine t_norm ?_
 obtain ⟨o27, hJ, hF⟩ := bnd hF
 refine c_mono (Q' := fun e a w => e = .normal ∧ Ok u m0 ([(b23, oc 126 [vi r14.1, vi 0])] :: [(pb0, oc 165 [vs o27.s, vi o27.to_, vs o27.w.text, vi o27.w.at_, vi o27.at_, vi o27.e])] :: [(b13, oc 126 [vi 0, vi 0])] :: S) w ∧ Env 45 a [(0, vp pb0), (1, vi operand_1), (4, vp b13), (5, vp b23)] ∧ o27.s.length ≤ LIMS ∧ InR .i64 o27.to_ ∧ o27.w.text.length ≤ LIMS ∧ InR .i64 o27.w.at_ ∧ InR .i64 o27.at_ ∧ InR .i64 o27.e) ?_ ?_
 ·replace hF := hJ
  clear hJ
  refine cf E rfl hF (fun hc34 hF => ?_) fun hc34 hF => ?_
  rotate_left
  ·refine wp_skip ?_
   obtain rfl := sj hF
   exact ⟨rfl, ⟨ok, E.keep [0, 1, 4, 5], l17, r18, l19, r20, r21, r22⟩⟩
  refine c_region <| mv E rfl fun a E => ?_
  obtain ⟨r35, e36, hF⟩ := bnd hF
  replace ok : Ok u m0 ([(pb0, oc 165 [vs r14.2.s, vi r14.2.to_, vs r14.2.w.text, vi r14.2.w.at_, vi r14.2.at_, vi r14.2.e])] :: [(b23, oc 126 [vi r14.1, vi 0])] :: [(b13, oc 126 [vi 0, vi 0])] :: S) w := (ok.pk 3 [1, 0, 2] rfl (by decide))
  refine l_call E go_113 rfl (calqueref08_parser_fail_w N 2 (ir 2) r14.2 l17 r18 l19 r20 r21 r22 e36 hG ok) rfl rfl ?_
  rintro _ w ⟨⟨rfl, ok⟩, l37, r38, l39, r40, r41, r42⟩
  refine ⟨_, rfl, fun a E => ?_⟩
  refine wpList_nil ?_
  obtain rfl := sj hF
  exact ⟨rfl, ⟨(ok.pk 3 [1, 0, 2] rfl (by decide)), E.keep [0, 1, 4, 5], l37, r38, l39, r40, r41, r42⟩⟩
 clear hJ
 intro e a w hO
 obtain ⟨rfl, ok, E, l43, r44, l45, r46, r47, r48⟩ := hO
 refine t_norm <| sg <| mv E rfl fun a E => ?_
 obtain ⟨r49, e50, hF⟩ := bnd hF
 replace ok : Ok u m0 ([(pb0, oc 165 [vs o27.s, vi o27.to_, vs o27.w.text, vi o27.w.at_, vi o27.at_, vi o27.e])] :: [(b23, oc 126 [vi r14.1, vi 0])] :: [(b13, oc 126 [vi 0, vi 0])] :: S) w := (ok.pk 3 [1, 0, 2] rfl (by decide))
 refine l_call E go_111 rfl (calqueref08_parser_step_w N o27 l43 r44 l45 r46 r47 r48 e50 hG ok) rfl rfl ?_
 rintro _ w ⟨⟨rfl, ok⟩, l51, r52, l53, r54, r55, r56⟩
 refine ⟨_, rfl, fun a E => ?_⟩
 refine wn <| sg <| fv E fo_126_0 rfl fun a E => ld E ok one_3 1 rfl rfl rfl fun a E => fv E fo_126_1 rfl fun a E => l_storeB E ok 1 rfl rfl rfl inf_3 rfl rfl ⟨rfl, trivial⟩ rfl rfl fun w ok => ?_
 refine wn <| wp_seq <| sg <| mv E rfl fun a E => ?_
 obtain ⟨r57, e58, hF⟩ := bnd hF
 refine lc E go_115 rfl (calqueref08_parser_is_w N ([46, 46]) (show ([46, 46] : List UInt8).length ≤ LIMS by decide) r49 l51 r52 l53 r54 r55 r56 e58 hG ok) fun w ok a E => wn <| cf E rfl hF (fun hc59 hF => ?_) fun hc59 hF => ?_
 rotate_left
 ·refine wp_skip <| t_norm <| sg <| lv E ok (y_loadAgg (cs := [vi r14.1, vi r14.1]) agg_126 rfl rfl (Holds.own 1 rfl rfl)) fun a E => l_storeB E ok 2 rfl rfl rfl inf_126 rfl rfl ⟨rfl, rfl, trivial⟩ rfl rfl fun w ok => wn ?_
  refine wp_ret ?_
  exact fin hF ⟨m0, [vi r14.1, vi r14.1], le_m0, (ok.pk 3 [0] rfl (by decide)), E.d, ⟨rv_c (cs := [vi r14.1, vi r14.1]) E ok rfl agg_126 rfl (Holds.own 2 rfl rfl), trivial⟩, ⟨rfl, r16, r16⟩, l51, r52, l53, r54, r55, r56⟩
 refine sg <| mv E rfl fun a E => ?_
 obtain ⟨r60, e61, hF⟩ := bnd hF
 refine l_call E go_111 rfl (calqueref08_parser_step_w N r49 l51 r52 l53 r54 r55 r56 e61 hG ok) rfl rfl ?_
 rintro _ w ⟨⟨rfl, ok⟩, l62, r63, l64, r65, r66, r67⟩
 refine ⟨_, rfl, fun a E => ?_⟩
 refine wn <| sg <| mv E rfl fun a E => ?_
 obtain ⟨r68, e69, hF⟩ := bnd hF
 refine l_call E go_143 rfl (calqueref08_parser_number_w N r60 l62 r63 l64 r65 r66 r67 e69 hG ok) rfl rfl ?_
 rintro _ w ⟨⟨rfl, ok⟩, r70, l71, r72, l73, r74, r75, r76⟩
 refine ⟨_, rfl, fun a E => ?_⟩
 refine fv E fo_126_1 rfl fun a E => l_storeB E ok 1 rfl rfl rfl inf_3 rfl rfl ⟨rfl, trivial⟩ rfl rfl fun w ok => wn <| wp_seq <| wp_seq <| c_draw (by kernel_rfl) (by kernel_rfl) ok <| qv E (y_fieldAddr fo_126_1 rfl) fun a E => ?_
 refine qv E (y_load one_3 rfl (Holds.own 1 rfl rfl)) fun a E => qv E (y_move rfl) fun a E => ?_
 obtain ⟨r77, e78, hF⟩ := bnd hF
 obtain ⟨_, _, ⟨_, _⟩, r79⟩ := Go.X.Calls.get (calqueref08_Bound_w N operand_1 roperand_1 e78 hG ok)
 refine q_call E go_103 rfl (fun w ok => (calqueref08_Bound_w N operand_1 roperand_1 e78 hG ok).mono (fun _ _ h => h.1)) rfl rfl fun a E => qv E (y_gtr rfl rfl) fun a E => qv E (y_move rfl) fun a E => bsplit (decide (r68.1 > r77)) (fun hc80 => ?_) (fun hc80 => ?_)
 ·replace hF := cond_t hc80 hF
  replace E := E.upd 33 hc80 rfl
  refine qs E fun a E => qs E fun a E => qs E fun a E => qs E fun a E => qs E fun a E => qv E (y_pickT rfl rfl) fun a E => wpQuiet_nil ?_
  intro w ok
  refine t_norm <| c_if E rfl (fun _ => ?_) (fun h => by cases h)
  refine c_region <| mv E rfl fun a E => ?_
  obtain ⟨r81, e82, hF⟩ := bnd hF
  refine l_call E go_113 rfl (calqueref08_parser_fail_w N 2 (ir 2) r68.2 l71 r72 l73 r74 r75 r76 e82 hG ok) rfl rfl ?_
  rintro _ w ⟨⟨rfl, ok⟩, l83, r84, l85, r86, r87, r88⟩
  refine ⟨_, rfl, fun a E => ?_⟩
  refine wn <| c_region <| mv E rfl fun a E => ?_
  obtain ⟨r89, e90, hF⟩ := bnd hF
  refine l_call E go_111 rfl (calqueref08_parser_step_w N r81 l83 r84 l85 r86 r87 r88 e90 hG ok) rfl rfl ?_
  rintro _ w ⟨⟨rfl, ok⟩, l91, r92, l93, r94, r95, r96⟩
  refine ⟨_, rfl, fun a E => ?_⟩
  refine wn <| sg <| lv E ok (y_loadAgg (cs := [vi r14.1, vi r68.1]) agg_126 rfl rfl (Holds.own 1 rfl rfl)) fun a E => l_storeB E ok 2 rfl rfl rfl inf_126 rfl rfl ⟨rfl, rfl, trivial⟩ rfl rfl fun w ok => wn ?_
  refine wp_ret ?_
  exact fin hF ⟨m0, [vi r14.1, vi r68.1], le_m0, (ok.pk 3 [0] rfl (by decide)), E.d, ⟨rv_c (cs := [vi r14.1, vi r68.1]) E ok rfl agg_126 rfl (Holds.own 2 rfl rfl), trivial⟩, ⟨rfl, r16, r70⟩, l91, r92, l93, r94, r95, r96⟩
 replace hF := cond_f hc80 hF
 replace E := E.upd 33 hc80 rfl
 refine qv E (y_fieldAddr fo_126_1 rfl) fun a E => qv E (y_load one_3 rfl (Holds.own 1 rfl rfl)) fun a E => qv E (y_fieldAddr fo_126_0 rfl) fun a E => qv E (y_load one_3 rfl (Holds.own 1 rfl rfl)) fun a E => qv E (y_lss rfl rfl) fun a E => qv E (y_pickF rfl rfl) fun a E => wpQuiet_nil ?_
 intro w ok
 refine t_norm <| cf E rfl hF (fun hc97 hF => ?_) fun hc97 hF => ?_
 rotate_left
 ·refine wp_skip <| t_norm <| c_region <| mv E rfl fun a E => ?_
  obtain ⟨r114, e115, hF⟩ := bnd hF
  refine l_call E go_111 rfl (calqueref08_parser_step_w N r68.2 l71 r72 l73 r74 r75 r76 e115 hG ok) rfl rfl ?_
  rintro _ w ⟨⟨rfl, ok⟩, l116, r117, l118, r119, r120, r121⟩
  refine ⟨_, rfl, fun a E => ?_⟩
  refine wn <| sg <| lv E ok (y_loadAgg (cs := [vi r14.1, vi r68.1]) agg_126 rfl rfl (Holds.own 1 rfl rfl)) fun a E => l_storeB E ok 2 rfl rfl rfl inf_126 rfl rfl ⟨rfl, rfl, trivial⟩ rfl rfl fun w ok => wn ?_
  refine wp_ret ?_
  exact fin hF ⟨m0, [vi r14.1, vi r68.1], le_m0, (ok.pk 3 [0] rfl (by decide)), E.d, ⟨rv_c (cs := [vi r14.1, vi r68.1]) E ok rfl agg_126 rfl (Holds.own 2 rfl rfl), trivial⟩, ⟨rfl, r16, r70⟩, l116, r117, l118, r119, r120, r121⟩
 refine c_region <| mv E rfl fun a E => ?_
 obtain ⟨r98, e99, hF⟩ := bnd hF
 refine l_call E go_113 rfl (calqueref08_parser_fail_w N 2 (ir 2) r68.2 l71 r72 l73 r74 r75 r76 e99 hG ok) rfl rfl ?_
 rintro _ w ⟨⟨rfl, ok⟩, l100, r101, l102, r103, r104, r105⟩
 refine ⟨_, rfl, fun a E => ?_⟩
 refine wn <| c_region <| mv E rfl fun a E => ?_
 obtain ⟨r106, e107, hF⟩ := bnd hF
 refine l_call E go_111 rfl (calqueref08_parser_step_w N r98 l100 r101 l102 r103 r104 r105 e107 hG ok) rfl rfl ?_
 rintro _ w ⟨⟨rfl, ok⟩, l108, r109, l110, r111, r112, r113⟩
 refine ⟨_, rfl, fun a E => ?_⟩
 refine wn <| sg <| lv E ok (y_loadAgg (cs := [vi r14.1, vi r68.1]) agg_126 rfl rfl (Holds.own 1 rfl rfl)) fun a E => l_storeB E ok 2 rfl rfl rfl inf_126 rfl rfl ⟨rfl, rfl, trivial⟩ rfl rfl fun w ok => wn ?_
 refine wp_ret ?_
 exact fin hF ⟨m0, [vi r14.1, vi r68.1], le_m0, (ok.pk 3 [0] rfl (by decide)), E.d, ⟨rv_c (cs := [vi r14.1, vi r68.1]) E ok rfl agg_126 rfl (Holds.own 2 rfl rfl), trivial⟩, ⟨rfl, r16, r70⟩, l108, r109, l110, r111, r112, r113⟩
def calqueref08_parser_digit_R (u : World) (m0 : Mem) (S : Segs) (pb0 : Nat) (x0 : Parser) (r : Bool) (a : Act) (w : World) : Prop :=
 Ok u m0 ([(pb0, oc 165 [vs x0.s, vi x0.to_, vs x0.w.text, vi x0.w.at_, vi x0.at_, vi x0.e])] :: S) w ∧ a.defers = [] ∧ RVs Tryz.prog a w [.t 2 (.bool r)]
theorem calqueref08_parser_digit_w (N : Nat) {pb0 : Nat} (x0 : Parser) (l1 : x0.s.length ≤ LIMS) (r2 : InR .i64 x0.to_) (l3 : x0.w.text.length ≤ LIMS) (r4 : InR .i64 x0.w.at_) (r5 : InR .i64 x0.at_) (r6 : InR .i64 x0.e) {r : Bool} (hF : calqueref08_parser_digit N x0 = some r) (hG : Glob u) (ok : Ok u m0 ([(pb0, oc 165 [vs x0.s, vi x0.to_, vs x0.w.text, vi x0.w.at_, vi x0.at_, vi x0.e])] :: S) w) :
  Calls Tryz.prog 145 [vp pb0].toArray w fun e w' => (e = .returned (.bool r) ∧ Ok u m0 ([(pb0, oc 165 [vs x0.s, vi x0.to_, vs x0.w.text, vi x0.w.at_, vi x0.at_, vi x0.e])] :: S) w') := by
 have le_m0 := Mem.le.refl m0
 unfold calqueref08_parser_digit at hF
 refine en (calqueref08_parser_digit_R u m0 S pb0 x0) r Tryz.func145 rfl rfl rfl (by rintro a w ⟨ok, hd, hrv⟩; exact c_ret2 [.t 2 (.bool r)] hd rfl hrv ⟨rfl, ok⟩) fun fin a E => sg <| aw E rfl fun a E => wp_seq ?_
 obtain ⟨o7, hJ, hF⟩ := bnd hF
 refine c_mono (Q' := fun e a w => e = .normal ∧ ∃ b14, Ok u m0 ([(b14, oc 165 [vs o7.s, vi o7.to_, vs o7.w.text, vi o7.w.at_, vi o7.at_, vi o7.e])] :: [(pb0, oc 165 [vs x0.s, vi x0.to_, vs x0.w.text, vi x0.w.at_, vi x0.at_, vi x0.e])] :: S) w ∧ Env 17 a [(3, vp b14)] ∧ o7.s.length ≤ LIMS ∧ InR .i64 o7.to_ ∧ o7.w.text.length ≤ LIMS ∧ InR .i64 o7.w.at_ ∧ InR .i64 o7.at_ ∧ InR .i64 o7.e) ?_ ?_
 rotate_left
 ·clear hJ
  intro e a w hO
  obtain ⟨rfl, b23, ok, E, l17, r18, l19, r20, r21, r22⟩ := hO
  refine t_norm <| sg ?_
  obtain ⟨r24, e25, hF⟩ := bnd hF
  refine l_call E go_143 rfl (calqueref08_parser_number_w N o7 l17 r18 l19 r20 r21 r22 e25 hG ok) rfl rfl ?_
  rintro _ w ⟨⟨rfl, ok⟩, r26, l27, r28, l29, r30, r31, r32⟩
  refine ⟨_, rfl, fun a E => ?_⟩
  refine wn <| sg <| fv E fo_165_4 rfl fun a E => ld E ok one_27 0 rfl rfl rfl fun a E => lw E (y_eql rfl rfl) fun a E => av E rfl fun a E => ?_
  refine wn <| wp_ret ?_
  exact fin hF ⟨ok.drop, E.d, ⟨rv_t E rfl, trivial⟩⟩
 replace hF := hJ
 clear hJ
 obtain rfl := sj hF
 refine k_begin [] (Cls u m0 ([(pb0, oc 165 [vs x0.s, vi x0.to_, vs x0.w.text, vi x0.w.at_, vi x0.at_, vi x0.e])] :: [])) (Cls u m0 ([(pb0, oc 165 [vs x0.s, vi x0.to_, vs x0.w.text, vi x0.w.at_, vi x0.at_, vi x0.e])] :: [])) (by kernel_rfl) ?_
 intro w hw
 replace ok := okdrew ok hw
 clear hw
 refine k_next (cl1 (cq le_m0 ok [0] rfl) (cq le_m0 ok [0] rfl)) fun hT => kt 0 E rfl hT (y_move rfl) fun a E => kt 1 E rfl hT (y_nilCheck rfl) fun a E => kt 2 E rfl hT (y_fieldAddr fo_165_0 rfl) fun a E => kt 3 E rfl hT (y_load one_9 rfl (Holds.cown 0 rfl rfl)) fun a E => kt 4 E rfl hT (y_move rfl) fun a E => kt 5 E rfl hT (y_nilCheck rfl) fun a E => kt 6 E rfl hT (y_fieldAddr fo_165_2 rfl) fun a E => ?_
 refine kt 7 E rfl hT (y_loadAgg (cs := [vs x0.w.text, vi x0.w.at_]) agg_163 rfl rfl (Holds.cown 0 rfl rfl)) fun a E => kt 8 E rfl hT (y_build (ps := [(0, .tmp 7), (2, .tmp 11)]) (qs := [(0, [vs x0.s]), (2, [vs x0.w.text, vi x0.w.at_])]) (cs := [vs x0.s, vi 0, vs x0.w.text, vi x0.w.at_, vi 0, vi 0]) zero_165 places_165 rfl ⟨rfl, rfl, rfl, ⟨rfl, rfl, rfl, trivial⟩⟩ rfl) fun a E => k_all [9] (by kernel_rfl) rfl (one_c ?_)
 ·refine wo rfl <| l_alloc E ok zero_165 rfl rfl fun b16 a w E ok => wn <| k_next (cl1 (cq le_m0 ok [1] rfl) (cq le_m0 ok [1] rfl)) fun hT => k_all [10] (by kernel_rfl) rfl (one_c ?_)
  ·refine wo rfl <| l_storeB E ok 0 rfl rfl rfl inf_165 rfl rfl ⟨rfl, rfl, rfl, rfl, rfl, rfl, trivial⟩ rfl rfl fun w ok => wn <| k_next (cl1 (cq le_m0 ok [1] rfl) (cq le_m0 ok [1] rfl)) fun hT => k_done (by kernel_rfl) ?_
   exact ⟨rfl, ⟨b16, ok, E.keep [3], l1, (ir 0), l3, r4, (ir 0), (ir 0)⟩⟩
def calqueref08_parser_relation_R (u : World) (m0 : Mem) (S : Segs) (pb0 : Nat) (x0 : Parser) (r : Relation × Parser) (a : Act) (w : World) : Prop :=
 ∃ m1 v0, m0.le m1 ∧ Ok u m1 ([(pb0, oc 165 [vs r.2.s, vi r.2.to_, vs r.2.w.text, vi r.2.w.at_, vi r.2.at_, vi r.2.e])] :: S) w ∧ a.defers = [] ∧ RVs Tryz.prog a w [.c 2 69 (.agg v0.toArray)] ∧ pRelation m1 v0 r.1 ∧ r.2.s.length ≤ LIMS ∧ InR .i64 r.2.to_ ∧ r.2.w.text.length ≤ LIMS ∧ InR .i64 r.2.w.at_ ∧ InR .i64 r.2.at_ ∧ InR .i64 r.2.e
theorem calqueref08_parser_relation_w (N : Nat) {pb0 : Nat} (x0 : Parser) (l1 : x0.s.length ≤ LIMS) (r2 : InR .i64 x0.to_) (l3 : x0.w.text.length ≤ LIMS) (r4 : InR .i64 x0.w.at_) (r5 : InR .i64 x0.at_) (r6 : InR .i64 x0.e) {r : Relation × Parser} (hF : calqueref08_parser_relation N x0 = some r) (hG : Glob u) (ok : Ok u m0 ([(pb0, oc 165 [vs x0.s, vi x0.to_, vs x0.w.text, vi x0.w.at_, vi x0.at_, vi x0.e])] :: S) w) :
  Calls Tryz.prog 114 [vp pb0].toArray w fun e w' => ∃ m1 v0, e = .returned (.agg v0.toArray) ∧ m0.le m1 ∧ Ok u m1 ([(pb0, oc 165 [vs r.2.s, vi r.2.to_, vs r.2.w.text, vi r.2.w.at_, vi r.2.at_, vi r.2.e])] :: S) w' ∧ pRelation m1 v0 r.1 ∧ r.2.s.length ≤ LIMS ∧ InR .i64 r.2.to_ ∧ r.2.w.text.length ≤ LIMS ∧ InR .i64 r.2.w.at_ ∧ InR .i64 r.2.at_ ∧ InR .i64 r.2.e := by
 have le_m0 := Mem.le.refl m0
 unfold calqueref08_parser_relation at hF
 refine en (calqueref08_parser_relation_R u m0 S pb0 x0) r Tryz.func114 rfl rfl rfl (by rintro a w ⟨m1, v0, hle, ok, hd, hrv, h0, h1, h2, h3, h4, h5, h6⟩; exact c_ret2 [.c 2 69 (.agg v0.toArray)] hd rfl hrv ⟨m1, v0, rfl, hle, ok, h0, h1, h2, h3, h4, h5, h6⟩) fun fin a E => sg <| l_alloc E ok zero_69 rfl rfl fun b13 a w E ok => wn <| sg ?_
 refine l_alloc E ok zero_69 rfl rfl fun b14 a w E ok => wn <| wp_seq <| sg <| av E rfl fun a E => wpList_nil ?_
 refine t_norm <| wp_block ?_
 obtain ⟨o19, hL, hF⟩ := bnd hF
 refine c_loop _ (fun (s : Int × Relation) a w => Ok u m0 ([(b14, oc 69 [vi s.2.Operand, vi s.2.Mod, vb s.2.Not, (Value.slice none 0 0)])] :: [(b13, oc 69 [vi 0, vi 0, vb false, (Value.slice none 0 0)])] :: [(pb0, oc 165 [vs x0.s, vi x0.to_, vs x0.w.text, vi x0.w.at_, vi x0.at_, vi x0.e])] :: S) w ∧ Env 103 a [(0, vp pb0), (2, vp b13), (3, vp b14), (4, vi s.1)] ∧ InR .i64 s.1 ∧ InR .i64 s.2.Operand ∧ InR .i64 s.2.Mod) (fun (b : Relation) e a w => e = (.exit 0) ∧ Ok u m0 ([(b14, oc 69 [vi b.Operand, vi b.Mod, vb b.Not, (Value.slice none 0 0)])] :: [(b13, oc 69 [vi 0, vi 0, vb false, (Value.slice none 0 0)])] :: [(pb0, oc 165 [vs x0.s, vi x0.to_, vs x0.w.text, vi x0.w.at_, vi x0.at_, vi x0.e])] :: S) w ∧ Env 103 a [(0, vp pb0), (2, vp b13), (3, vp b14)] ∧ InR .i64 b.Operand ∧ InR .i64 b.Mod) ?_ ?_ N _ a w hL ⟨ok, E.keep [0, 2, 3, 4], (ir 0), (ir 0), (ir 0)⟩
 ·rintro ⟨i_23, x_24⟩ a w r ⟨ok, E, r25, r26, r27⟩ hF
  replace hF : calqueref08_parser_relation_b1 N x0 i_23 x_24 = some r := hF
  unfold calqueref08_parser_relation_b1 at hF
  refine wp_seq <| sg <| mv E rfl fun a E => lw E (y_lss rfl rfl) fun a E => wn <| cf E rfl hF (fun hc28 hF => ?_) fun hc28 hF => ?_
  rotate_left
  ·refine wp_exit <| t_exit ?_
   obtain rfl := sj hF
   exact so (⟨rfl, ⟨ok, E.keep [0, 2, 3], r26, r27⟩⟩)
  refine wp_skip <| t_norm <| wp_seq <| wp_block <| sg <| mv E rfl fun a E => mv E rfl fun a E => ?_
  refine mv E rfl fun a E => lw E (y_add rfl rfl (InR.inc r25 (ir 6) hc28)) fun a E => ?_
  obtain ⟨s29, e30, hF⟩ := bnd hF
  refine lw E (y_sslice Tryz.underlying9 e30 rfl ⟨_, rfl⟩ ⟨_, rfl⟩) fun a E => ?_
  obtain ⟨r31, e32, hF⟩ := bnd hF
  replace ok : Ok u m0 ([(pb0, oc 165 [vs x0.s, vi x0.to_, vs x0.w.text, vi x0.w.at_, vi x0.at_, vi x0.e])] :: [(b14, oc 69 [vi x_24.Operand, vi x_24.Mod, vb x_24.Not, (Value.slice none 0 0)])] :: [(b13, oc 69 [vi 0, vi 0, vb false, (Value.slice none 0 0)])] :: S) w := (ok.pk 3 [2, 0, 1] rfl (by decide))
  refine lc E go_115 rfl (calqueref08_parser_is_w N s29 (Nat.le_trans (slc_len e30) (show ([110, 105, 118, 119, 102, 116] : List UInt8).length ≤ LIMS by decide)) x0 l1 r2 l3 r4 r5 r6 e32 hG ok) fun w ok a E => wn <| cf E rfl hF (fun hc33 hF => ?_) fun hc33 hF => ?_
  rotate_left
  ·refine wp_skip <| b_norm <| t_norm <| c_region <| mv E rfl fun a E => lw E (y_add rfl rfl (InR.inc r25 (ir 6) hc28)) fun a E => av E rfl fun a E => wpList_nil ?_
   obtain rfl := sj hF
   exact step_n ⟨(ok.pk 3 [1, 2, 0] rfl (by decide)), E.keep [0, 2, 3, 4], (InR.inc r25 (ir 6) hc28), r26, r27⟩
  refine c_region <| mv E rfl fun a E => lw E (y_add rfl rfl (InR.inc r25 (ir 6) hc28)) fun a E => fv E fo_69_0 rfl fun a E => l_storeB E ok 1 rfl rfl rfl inf_3 rfl rfl ⟨rfl, trivial⟩ rfl rfl fun w ok => wpList_nil <| b_norm <| t_norm ?_
  refine c_region <| mv E rfl fun a E => lw E (y_add rfl rfl (InR.inc r25 (ir 6) hc28)) fun a E => av E rfl fun a E => wpList_nil ?_
  obtain rfl := sj hF
  exact step_n ⟨(ok.pk 3 [1, 2, 0] rfl (by decide)), E.keep [0, 2, 3, 4], (InR.inc r25 (ir 6) hc28), (InR.inc r25 (ir 6) hc28), r27⟩
 intro e a w _ hO
 obtain ⟨rfl, ok, E, r34, r35⟩ := hO
 refine b_hit <| t_norm <| wp_seq <| sg <| fv E fo_69_0 rfl fun a E => ld E ok one_3 0 rfl rfl rfl fun a E => lw E (y_eql rfl rfl) fun a E => ?_
 refine wn ?_
 obtain ⟨o36, hJ, hF⟩ := bnd hF
 refine c_mono (Q' := fun e a w => e = .normal ∧ Ok u m0 ([(b14, oc 69 [vi o19.Operand, vi o19.Mod, vb o19.Not, (Value.slice none 0 0)])] :: [(b13, oc 69 [vi 0, vi 0, vb false, (Value.slice none 0 0)])] :: [(pb0, oc 165 [vs o36.s, vi o36.to_, vs o36.w.text, vi o36.w.at_, vi o36.at_, vi o36.e])] :: S) w ∧ Env 103 a [(0, vp pb0), (2, vp b13), (3, vp b14)] ∧ o36.s.length ≤ LIMS ∧ InR .i64 o36.to_ ∧ o36.w.text.length ≤ LIMS ∧ InR .i64 o36.w.at_ ∧ InR .i64 o36.at_ ∧ InR .i64 o36.e) ?_ ?_
 ·replace hF := hJ
  clear hJ
  refine cf E rfl hF (fun hc43 hF => ?_) fun hc43 hF => ?_
  rotate_left
  ·refine wp_skip ?_
   obtain rfl := sj hF
   exact ⟨rfl, ⟨ok, E.keep [0, 2, 3], l1, r2, l3, r4, r5, r6⟩⟩
  refine c_region <| mv E rfl fun a E => ?_
  obtain ⟨r44, e45, hF⟩ := bnd hF
  replace ok : Ok u m0 ([(pb0, oc 165 [vs x0.s, vi x0.to_, vs x0.w.text, vi x0.w.at_, vi x0.at_, vi x0.e])] :: [(b14, oc 69 [vi o19.Operand, vi o19.Mod, vb o19.Not, (Value.slice none 0 0)])] :: [(b13, oc 69 [vi 0, vi 0, vb false, (Value.slice none 0 0)])] :: S) w := (ok.pk 3 [2, 0, 1] rfl (by decide))
  refine l_call E go_113 rfl (calqueref08_parser_fail_w N 3 (ir 3) x0 l1 r2 l3 r4 r5 r6 e45 hG ok) rfl rfl ?_
  rintro _ w ⟨⟨rfl, ok⟩, l46, r47, l48, r49, r50, r51⟩
  refine ⟨_, rfl, fun a E => ?_⟩
  refine wpList_nil ?_
  obtain rfl := sj hF
  exact ⟨rfl, ⟨(ok.pk 3 [1, 2, 0] rfl (by decide)), E.keep [0, 2, 3], l46, r47, l48, r49, r50, r51⟩⟩
 clear hJ
 intro e a w hO
 obtain ⟨rfl, ok, E, l52, r53, l54, r55, r56, r57⟩ := hO
 refine t_norm <| sg <| mv E rfl fun a E => ?_
 obtain ⟨r58, e59, hF⟩ := bnd hF
 replace ok : Ok u m0 ([(pb0, oc 165 [vs o36.s, vi o36.to_, vs o36.w.text, vi o36.w.at_, vi o36.at_, vi o36.e])] :: [(b14, oc 69 [vi o19.Operand, vi o19.Mod, vb o19.Not, (Value.slice none 0 0)])] :: [(b13, oc 69 [vi 0, vi 0, vb false, (Value.slice none 0 0)])] :: S) w := (ok.pk 3 [2, 0, 1] rfl (by decide))
 refine l_call E go_111 rfl (calqueref08_parser_step_w N o36 l52 r53 l54 r55 r56 r57 e59 hG ok) rfl rfl ?_
 rintro _ w ⟨⟨rfl, ok⟩, l60, r61, l62, r63, r64, r65⟩
 refine ⟨_, rfl, fun a E => ?_⟩
 refine wn <| wp_seq <| sg <| mv E rfl fun a E => ?_
 obtain ⟨r66, e67, hF⟩ := bnd hF
 refine lc E go_115 rfl (calqueref08_parser_is_w N ([37]) (show ([37] : List UInt8).length ≤ LIMS by decide) r58 l60 r61 l62 r63 r64 r65 e67 hG ok) fun w ok a E => wn ?_
 obtain ⟨o68, hJ, hF⟩ := bnd hF
 refine c_mono (Q' := fun e a w => e = .normal ∧ ∃ m69, m0.le m69 ∧ Ok u m69 ([(pb0, oc 165 [vs o68.1.s, vi o68.1.to_, vs o68.1.w.text, vi o68.1.w.at_, vi o68.1.at_, vi o68.1.e])] :: [(b14, oc 69 [vi o68.2.Operand, vi o68.2.Mod, vb o68.2.Not, (Value.slice none 0 0)])] :: [(b13, oc 69 [vi 0, vi 0, vb false, (Value.slice none 0 0)])] :: S) w ∧ Env 103 a [(0, vp pb0), (2, vp b13), (3, vp b14)] ∧ o68.1.s.length ≤ LIMS ∧ InR .i64 o68.1.to_ ∧ o68.1.w.text.length ≤ LIMS ∧ InR .i64 o68.1.w.at_ ∧ InR .i64 o68.1.at_ ∧ InR .i64 o68.1.e ∧ InR .i64 o68.2.Operand ∧ InR .i64 o68.2.Mod) ?_ ?_
 ·as_aux_lemma =>
   replace hF := hJ
   clear hJ
   refine cf E rfl hF (fun hc78 hF => ?_) fun hc78 hF => ?_
   rotate_left
   ·refine wp_skip ?_
    obtain rfl := sj hF
    exact ⟨rfl, ⟨m0, le_m0, ok, E.keep [0, 2, 3], l60, r61, l62, r63, r64, r65, r34, r35⟩⟩
   refine sg <| mv E rfl fun a E => ?_
   obtain ⟨r79, e80, hF⟩ := bnd hF
   refine l_call E go_111 rfl (calqueref08_parser_step_w N r58 l60 r61 l62 r63 r64 r65 e80 hG ok) rfl rfl ?_
   rintro _ w ⟨⟨rfl, ok⟩, l81, r82, l83, r84, r85, r86⟩
   refine ⟨_, rfl, fun a E => ?_⟩
   refine wn <| sg <| mv E rfl fun a E => ?_
   obtain ⟨r87, e88, hF⟩ := bnd hF
   refine l_call E go_143 rfl (calqueref08_parser_number_w N r79 l81 r82 l83 r84 r85 r86 e88 hG ok) rfl rfl ?_
   rintro _ w ⟨⟨rfl, ok⟩, r89, l90, r91, l92, r93, r94, r95⟩
   refine ⟨_, rfl, fun a E => ?_⟩
   refine fv E fo_69_1 rfl fun a E => l_storeB E ok 1 rfl rfl rfl inf_3 rfl rfl ⟨rfl, trivial⟩ rfl rfl fun w ok => wn <| wp_seq <| wp_seq ?_
   obtain ⟨o96, hJ, hF⟩ := bnd hF
   refine c_mono (Q' := fun e a w => e = .normal ∧ ∃ m97, m0.le m97 ∧ Ok u m97 ([(pb0, oc 165 [vs r87.2.s, vi r87.2.to_, vs r87.2.w.text, vi r87.2.w.at_, vi r87.2.at_, vi r87.2.e])] :: [(b14, oc 69 [vi o19.Operand, vi r87.1, vb o19.Not, (Value.slice none 0 0)])] :: [(b13, oc 69 [vi 0, vi 0, vb false, (Value.slice none 0 0)])] :: S) w ∧ Env 103 a [(0, vp pb0), (2, vp b13), (3, vp b14), (38, vb o96)]) ?_ ?_
   ·replace hF := hJ
    clear hJ
    obtain ⟨r98, e99, hF⟩ := bnd hF
    obtain ⟨r103, e104, hF⟩ := bnd hF
    obtain rfl := sj hF
    refine k_begin [] (Cls u m0 ([(pb0, oc 165 [vs r87.2.s, vi r87.2.to_, vs r87.2.w.text, vi r87.2.w.at_, vi r87.2.at_, vi r87.2.e])] :: [(b14, oc 69 [vi o19.Operand, vi r87.1, vb o19.Not, (Value.slice none 0 0)])] :: [(b13, oc 69 [vi 0, vi 0, vb false, (Value.slice none 0 0)])] :: [])) (Cls u m0 ([(pb0, oc 165 [vs r87.2.s, vi r87.2.to_, vs r87.2.w.text, vi r87.2.w.at_, vi r87.2.at_, vi r87.2.e])] :: [(b14, oc 69 [vi o19.Operand, vi r87.1, vb o19.Not, (Value.slice none 0 0)])] :: [(b13, oc 69 [vi 0, vi 0, vb false, (Value.slice none 0 0)])] :: [])) (by kernel_rfl) ?_
    intro w hw
    replace ok := okdrew ok hw
    clear hw
    refine k_next (cl1 (cq le_m0 ok [0, 1, 2] rfl) (cq le_m0 ok [0, 1, 2] rfl)) fun hT => kt 0 E rfl hT (y_fieldAddr fo_69_0 rfl) fun a E => kt 1 E rfl hT (y_load one_3 rfl (Holds.cown 1 rfl rfl)) fun a E => kt 3 E rfl hT (y_fieldAddr fo_69_1 rfl) fun a E => kt 4 E rfl hT (y_load one_3 rfl (Holds.cown 1 rfl rfl)) fun a E => k_all [2] (by kernel_rfl) rfl (one_c ?_)
    ·refine wo rfl <| l_call E go_102 rfl (calqueref08_Mods_w N o19.Operand r34 e99 hG ok) rfl rfl ?_
     rintro _ w ⟨m105, c106, rfl, hle, ok, h107⟩
     have le_m0 := le_m0.trans hle
     refine ⟨_, rfl, fun a E => ?_⟩
     refine wn <| k_next (cl1 (cq le_m0 ok [0, 1, 2] rfl) (cq le_m0 ok [0, 1, 2] rfl)) fun hT => k_all [5] (by kernel_rfl) rfl (one_c ?_)
     ·refine wo rfl <| lc E go_101 rfl (calqueref08_has_w N _ r98 h107 r87.1 r89 e104 hG ok) fun w ok a E => wn <| k_next (cl1 (cq le_m0 ok [0, 1, 2] rfl) (cq le_m0 ok [0, 1, 2] rfl)) fun hT => kt 6 E rfl hT (y_not rfl) fun a E => k_done (by kernel_rfl) ?_
      exact ⟨rfl, ⟨m105, le_m0, ok, E.keep [0, 2, 3, 38]⟩⟩
   clear hJ
   intro e a w hO
   obtain ⟨rfl, m108, hle, ok, E⟩ := hO
   have le_m0 := le_m0.trans hle
   refine t_norm <| cf E rfl hF (fun hc109 hF => ?_) fun hc109 hF => ?_
   rotate_left
   ·refine wp_skip <| t_norm <| c_region <| mv E rfl fun a E => ?_
    obtain ⟨r126, e127, hF⟩ := bnd hF
    refine l_call E go_111 rfl (calqueref08_parser_step_w N r87.2 l90 r91 l92 r93 r94 r95 e127 hG ok) rfl rfl ?_
    rintro _ w ⟨⟨rfl, ok⟩, l128, r129, l130, r131, r132, r133⟩
    refine ⟨_, rfl, fun a E => ?_⟩
    refine wpList_nil ?_
    obtain rfl := sj hF
    exact ⟨rfl, ⟨m108, le_m0, ok, E.keep [0, 2, 3], l128, r129, l130, r131, r132, r133, r34, r89⟩⟩
   refine c_region <| mv E rfl fun a E => ?_
   obtain ⟨r110, e111, hF⟩ := bnd hF
   refine l_call E go_113 rfl (calqueref08_parser_fail_w N 2 (ir 2) r87.2 l90 r91 l92 r93 r94 r95 e111 hG ok) rfl rfl ?_
   rintro _ w ⟨⟨rfl, ok⟩, l112, r113, l114, r115, r116, r117⟩
   refine ⟨_, rfl, fun a E => ?_⟩
   refine wn <| c_region <| mv E rfl fun a E => ?_
   obtain ⟨r118, e119, hF⟩ := bnd hF
   refine l_call E go_111 rfl (calqueref08_parser_step_w N r110 l112 r113 l114 r115 r116 r117 e119 hG ok) rfl rfl ?_
   rintro _ w ⟨⟨rfl, ok⟩, l120, r121, l122, r123, r124, r125⟩
   refine ⟨_, rfl, fun a E => ?_⟩
   refine wpList_nil ?_
   obtain rfl := sj hF
   exact ⟨rfl, ⟨m108, le_m0, ok, E.keep [0, 2, 3], l120, r121, l122, r123, r124, r125, r34, r89⟩⟩
 clear hJ
 intro e a w hO
 obtain ⟨rfl, m134, hle, ok, E, l135, r136, l137, r138, r139, r140, r141, r142⟩ := hO
 have le_m0 := le_m0.trans hle
 refine t_norm <| sg <| mv E rfl fun a E => ?_
 obtain ⟨r143, e144, hF⟩ := bnd hF
 refine lc E go_115 rfl (calqueref08_parser_is_w N ([33, 61]) (show ([33, 61] : List UInt8).length ≤ LIMS by decide) o68.1 l135 r136 l137 r138 r139 r140 e144 hG ok) fun w ok a E => fv E fo_69_2 rfl fun a E => l_storeB E ok 1 rfl rfl rfl inf_4 rfl rfl ⟨rfl, trivial⟩ rfl rfl fun w ok => wn <| wp_seq <| sg <| mv E rfl fun a E => ?_
 obtain ⟨r145, e146, hF⟩ := bnd hF
 refine lc E go_115 rfl (calqueref08_parser_is_w N ([61]) (show ([61] : List UInt8).length ≤ LIMS by decide) o68.1 l135 r136 l137 r138 r139 r140 e146 hG ok) fun w ok a E => lw E (y_not rfl) fun a E => mv E rfl fun a E => bsplit (!r145) (fun hc147 => ?_) (fun hc147 => ?_)
 rotate_left
 ·as_aux_lemma =>
   replace hF := cond_f hc147 hF
   replace E := E.upd 49 hc147 rfl
   refine ls E fun a E => ls E fun a E => ls E fun a E => pf E rfl rfl fun a E => wn <| c_if E rfl (fun h => by cases h) (fun _ => ?_)
   refine wp_skip <| t_norm <| sg <| mv E rfl fun a E => ?_
   obtain ⟨r541, e542, hF⟩ := bnd hF
   refine l_call E go_111 rfl (calqueref08_parser_step_w N o68.1 l135 r136 l137 r138 r139 r140 e542 hG ok) rfl rfl ?_
   rintro _ w ⟨⟨rfl, ok⟩, l543, r544, l545, r546, r547, r548⟩
   refine ⟨_, rfl, fun a E => ?_⟩
   refine wn <| wp_seq ?_
   obtain ⟨o549, hJ, hF⟩ := bnd hF
   refine c_mono (Q' := fun e a w => e = .normal ∧ ∃ m550 c559 M560, m134.le m550 ∧ Ok u m550 (M560 :: [(pb0, oc 165 [vs o549.1.s, vi o549.1.to_, vs o549.1.w.text, vi o549.1.w.at_, vi o549.1.at_, vi o549.1.e])] :: [(b14, oc 69 [vi o549.2.Operand, vi o549.2.Mod, vb o549.2.Not, c559])] :: [(b13, oc 69 [vi 0, vi 0, vb false, (Value.slice none 0 0)])] :: S) w ∧ Env 103 a [(0, vp pb0), (2, vp b13), (3, vp b14)] ∧ o549.1.s.length ≤ LIMS ∧ InR .i64 o549.1.to_ ∧ o549.1.w.text.length ≤ LIMS ∧ InR .i64 o549.1.w.at_ ∧ InR .i64 o549.1.at_ ∧ InR .i64 o549.1.e ∧ InR .i64 o549.2.Operand ∧ InR .i64 o549.2.Mod ∧ ORow 126 2 pSpan m550 c559 o549.2.Spans M560) ?_ ?_
   ·replace hF := hJ
    clear hJ
    have le_m134 := Mem.le.refl m134
    obtain ⟨r562, e563, hF⟩ := bnd hF
    obtain ⟨l580, e581, hF⟩ := bnd hF
    obtain rfl := sj hF
    refine k_begin [1, 4] (Cls u m134 ([(b14, oc 69 [vi o68.2.Operand, vi o68.2.Mod, vb r143, (Value.slice none 0 0)])] :: [(b13, oc 69 [vi 0, vi 0, vb false, (Value.slice none 0 0)])] :: [])) (Cls u m134 ([(b13, oc 69 [vi 0, vi 0, vb false, (Value.slice none 0 0)])] :: [])) (by kernel_rfl) ?_
    intro w hw
    replace ok := okdrew ok hw
    clear hw
    refine k_next (cl1 (cq le_m134 ok [1, 2] rfl) (cq le_m134 ok [2] rfl)) fun hT => kt 0 E rfl hT (y_fieldAddr fo_69_3 rfl) fun a E => k_takeN 1 E rfl (by kernel_rfl) nP hT (y_load one_67 rfl (Holds.cown 0 rfl rfl)) rfl rfl fun a E => kt 2 E rfl hT (y_move rfl) fun a E => kt 3 E rfl hT (y_fieldAddr fo_69_0 rfl) fun a E => k_takeN 4 E rfl (by kernel_rfl) nP hT (y_load one_3 rfl (Holds.cown 0 rfl rfl)) rfl rfl fun a E => k_all [5] (by kernel_rfl) rfl (one_c ?_)
    ·refine wo rfl <| l_call E go_144 rfl (calqueref08_parser_span_w N o68.2.Operand r141 r541 l543 r544 l545 r546 r547 r548 e563 hG ok) rfl rfl ?_
     rintro _ w ⟨m585, vs586, rfl, hle, ok, h587, l588, r589, l590, r591, r592, r593⟩
     have le_m0 := le_m0.trans hle
     have le_m134 := le_m134.trans hle
     obtain ⟨rfl, r594, r595⟩ := h587
     refine ⟨_, rfl, fun a E => ?_⟩
     refine wn <| k_next (cl1 (cq le_m134 ok [1, 2] rfl) (cq le_m134 ok [2] rfl)) fun hT => k_all [6] (by kernel_rfl) rfl (one_c ?_)
     ·refine wo rfl <| l_slit (R := pSpan) (xo := [.tmp 63]) (xs := ([r562.1] : List (Span))) E ok sl_67 zero_126 rfl ⟨⟨_, rfl, rfl, ⟨rfl, r594, r595⟩⟩, trivial⟩ rfl rfl rfl rfl fun c596 M597 a w E ok h598 => wn <| k_next (cl1 (cq le_m134 ok [2, 3] rfl) (cq le_m134 ok [3] rfl)) fun hT => k_all [7] (by kernel_rfl) rfl (one_c ?_)
      ·refine wpOp_of_list (o := _) rfl ?_
       obtain ⟨M599, ok, h600⟩ := nilrow (e := 126) (k := 2) (R := pSpan) ok
       refine l_app (R := pSpan) E ok 0 mSpan sl_67 Tryz.underlying67 rfl h600 (SrcOK.ofRow h598 1 rfl ok) e581 ⟨_, zero_126, rfl⟩ rfl rfl rfl rfl fun c601 M602 a w E ok h603 => wn <| k_next (cl1 (cq le_m134 ok [3, 4] rfl) (cq le_m134 ok [4] rfl)) fun hT => kt 8 E rfl hT (y_fieldAddr fo_69_3 rfl) fun a E => k_all [9] (by kernel_rfl) rfl (one_c ?_)
       ·refine wo rfl <| l_storeB E ok 3 rfl rfl rfl inf_67 (ORow.cells h603) rfl ⟨(ORow.one h603), trivial⟩ rfl rfl fun w ok => wn <| k_next (cl2 (by kernel_rfl) (cq le_m134 ok [4] rfl)) fun hT => k_done (by kernel_rfl) ?_
        exact ⟨rfl, ⟨m585, c601, M602, le_m134, (ok.pk 5 [0, 2, 3, 4] rfl (by decide)), E.keep [0, 2, 3], l588, r589, l590, r591, r592, r593, r141, r142, h603⟩⟩
   clear hJ
   intro e a w hO
   obtain ⟨rfl, m604, c613, M614, hle, ok, E, l605, r606, l607, r608, r609, r610, r611, r612, h615⟩ := hO
   have le_m0 := le_m0.trans hle
   refine t_norm <| wp_seq <| wp_block ?_
   obtain ⟨o627, hL, hF⟩ := bnd hF
   refine c_loop _ (fun (s : Parser × Relation) a w => ∃ m628 c637 M638, m604.le m628 ∧ Ok u m628 (M638 :: [(pb0, oc 165 [vs s.1.s, vi s.1.to_, vs s.1.w.text, vi s.1.w.at_, vi s.1.at_, vi s.1.e])] :: [(b14, oc 69 [vi s.2.Operand, vi s.2.Mod, vb s.2.Not, c637])] :: [(b13, oc 69 [vi 0, vi 0, vb false, (Value.slice none 0 0)])] :: S) w ∧ Env 103 a [(0, vp pb0), (2, vp b13), (3, vp b14)] ∧ s.1.s.length ≤ LIMS ∧ InR .i64 s.1.to_ ∧ s.1.w.text.length ≤ LIMS ∧ InR .i64 s.1.w.at_ ∧ InR .i64 s.1.at_ ∧ InR .i64 s.1.e ∧ InR .i64 s.2.Operand ∧ InR .i64 s.2.Mod ∧ ORow 126 2 pSpan m628 c637 s.2.Spans M638) (fun (b : (Relation × Parser)) e a w => e = (.exit 2) ∧ ∃ m900 c903 M904, m604.le m900 ∧ Ok u m900 (M904 :: [(pb0, oc 165 [vs b.2.s, vi b.2.to_, vs b.2.w.text, vi b.2.w.at_, vi b.2.at_, vi b.2.e])] :: [(b14, oc 69 [vi b.1.Operand, vi b.1.Mod, vb b.1.Not, c903])] :: [(b13, oc 69 [vi 0, vi 0, vb false, (Value.slice none 0 0)])] :: S) w ∧ Env 103 a [(2, vp b13), (3, vp b14)] ∧ InR .i64 b.1.Operand ∧ InR .i64 b.1.Mod ∧ ORow 126 2 pSpan m900 c903 b.1.Spans M904 ∧ b.2.s.length ≤ LIMS ∧ InR .i64 b.2.to_ ∧ b.2.w.text.length ≤ LIMS ∧ InR .i64 b.2.w.at_ ∧ InR .i64 b.2.at_ ∧ InR .i64 b.2.e) ?_ ?_ N _ a w hL ⟨m604, c613, M614, Mem.le.refl _, ok, E.keep [0, 2, 3], l605, r606, l607, r608, r609, r610, r611, r612, h615⟩
   rotate_left
   ·intro e a w _ hO
    obtain ⟨rfl, m886, c889, M890, hle, ok, E, r887, r888, h891, l892, r893, l894, r895, r896, r897⟩ := hO
    have le_m0 := le_m0.trans hle
    refine b_hit <| t_norm <| sg <| lv E ok (y_loadAgg (cs := [vi o627.1.Operand, vi o627.1.Mod, vb o627.1.Not, c889]) agg_69 rfl rfl (Holds.own 2 rfl rfl)) fun a E => l_storeB E ok 3 rfl rfl rfl inf_69 rfl rfl ⟨rfl, rfl, rfl, (ORow.one h891), trivial⟩ rfl rfl fun w ok => wn ?_
    refine wp_ret ?_
    obtain ⟨m898, hle, ok, hfz⟩ := (ok.frs 0 rfl).freeze
    have h899 := ORow.froz mSpan h891 hle hfz (by decide)
    have le_m0 := le_m0.trans hle
    exact fin hF ⟨m898, [vi o627.1.Operand, vi o627.1.Mod, vb o627.1.Not, c889], le_m0, (ok.pk 3 [0] rfl (by decide)), E.d, ⟨rv_c (cs := [vi o627.1.Operand, vi o627.1.Mod, vb o627.1.Not, c889]) E ok rfl agg_69 rfl (Holds.own 2 rfl rfl), trivial⟩, ⟨_, rfl, r887, r888, h899⟩, l892, r893, l894, r895, r896, r897⟩
   rintro ⟨x_640, x_641⟩ a w r ⟨m642, c651, M652, hle, ok, E, l643, r644, l645, r646, r647, r648, r649, r650, h653⟩ hF
   replace hF : calqueref08_parser_relation_b3 N x_640 x_641 = some r := hF
   unfold calqueref08_parser_relation_b3 at hF
   have le_m604 := Mem.le.refl m604
   have le_m0 := le_m0.trans hle
   have le_m604 := le_m604.trans hle
   refine wp_seq <| sg <| mv E rfl fun a E => ?_
   obtain ⟨r654, e655, hF⟩ := bnd hF
   replace ok : Ok u m642 ([(pb0, oc 165 [vs x_640.s, vi x_640.to_, vs x_640.w.text, vi x_640.w.at_, vi x_640.at_, vi x_640.e])] :: M652 :: [(b14, oc 69 [vi x_641.Operand, vi x_641.Mod, vb x_641.Not, c651])] :: [(b13, oc 69 [vi 0, vi 0, vb false, (Value.slice none 0 0)])] :: S) w := (ok.pk 4 [1, 0, 2, 3] rfl (by decide))
   refine lc E go_115 rfl (calqueref08_parser_is_w N ([44]) (show ([44] : List UInt8).length ≤ LIMS by decide) x_640 l643 r644 l645 r646 r647 r648 e655 hG ok) fun w ok a E => wn <| cf E rfl hF (fun hc656 hF => ?_) fun hc656 hF => ?_
   rotate_left
   ·refine wp_exit <| t_exit ?_
    obtain rfl := sj hF
    exact so (⟨rfl, ⟨m642, c651, M652, le_m604, (ok.pk 4 [1, 0, 2, 3] rfl (by decide)), E.keep [2, 3], r649, r650, h653, l643, r644, l645, r646, r647, r648⟩⟩)
   refine wp_skip <| t_norm <| wp_block <| sg <| mv E rfl fun a E => ?_
   obtain ⟨r657, e658, hF⟩ := bnd hF
   refine l_call E go_111 rfl (calqueref08_parser_step_w N x_640 l643 r644 l645 r646 r647 r648 e658 hG ok) rfl rfl ?_
   rintro _ w ⟨⟨rfl, ok⟩, l659, r660, l661, r662, r663, r664⟩
   refine ⟨_, rfl, fun a E => ?_⟩
   refine wn <| wp_seq <| wp_seq <| c_draw (by kernel_rfl) (by kernel_rfl) ok <| qv E (y_fieldAddr fo_69_3 rfl) fun a E => qv E (y_load one_67 rfl (Holds.own 2 rfl rfl)) fun a E => qv E (y_lenR sl_67 h653 rfl) fun a E => ?_
   refine qv E (y_eql rfl rfl) fun a E => qv E (y_move rfl) fun a E => bsplit ((x_641.Spans.length : Int) == 4) (fun hc665 => ?_) (fun hc665 => ?_)
   rotate_left
   ·as_aux_lemma =>
     replace hF := cond_f hc665 hF
     replace E := E.upd 75 hc665 rfl
     refine qs E fun a E => qs E fun a E => qv E (y_pickF rfl rfl) fun a E => qv E (y_move rfl) fun a E => qs E fun a E => qs E fun a E => qs E fun a E => qs E fun a E => ?_
     refine qs E fun a E => qs E fun a E => qs E fun a E => qs E fun a E => qs E fun a E => qs E fun a E => qv E (y_pickF rfl rfl) fun a E => wpQuiet_nil ?_
     intro w ok
     refine t_norm <| c_if E rfl (fun h => by cases h) (fun _ => ?_)
     refine wp_skip <| t_norm ?_
     obtain ⟨o823, hJ, hF⟩ := bnd hF
     refine c_mono (Q' := fun e a w => e = .normal ∧ ∃ m824 c833 M834, m642.le m824 ∧ Ok u m824 ([(pb0, oc 165 [vs o823.1.s, vi o823.1.to_, vs o823.1.w.text, vi o823.1.w.at_, vi o823.1.at_, vi o823.1.e])] :: M834 :: [(b14, oc 69 [vi o823.2.Operand, vi o823.2.Mod, vb o823.2.Not, c833])] :: [(b13, oc 69 [vi 0, vi 0, vb false, (Value.slice none 0 0)])] :: S) w ∧ Env 103 a [(0, vp pb0), (2, vp b13), (3, vp b14)] ∧ o823.1.s.length ≤ LIMS ∧ InR .i64 o823.1.to_ ∧ o823.1.w.text.length ≤ LIMS ∧ InR .i64 o823.1.w.at_ ∧ InR .i64 o823.1.at_ ∧ InR .i64 o823.1.e ∧ InR .i64 o823.2.Operand ∧ InR .i64 o823.2.Mod ∧ ORow 126 2 pSpan m824 c833 o823.2.Spans M834) ?_ ?_
     rotate_left
     ·clear hJ
      intro e a w hO
      obtain ⟨rfl, m874, c883, M884, hle, ok, E, l875, r876, l877, r878, r879, r880, r881, r882, h885⟩ := hO
      have le_m0 := le_m0.trans hle
      have le_m604 := le_m604.trans hle
      refine b_norm ?_
      obtain rfl := sj hF
      exact step_n ⟨m874, c883, M884, le_m604, (ok.pk 4 [1, 0, 2, 3] rfl (by decide)), E.keep [0, 2, 3], l875, r876, l877, r878, r879, r880, r881, r882, h885⟩
     replace hF := hJ
     clear hJ
     have le_m642 := Mem.le.refl m642
     obtain ⟨r836, e837, hF⟩ := bnd hF
     obtain ⟨l852, e853, hF⟩ := bnd hF
     obtain rfl := sj hF
     refine k_begin [1, 4] (Cls u m642 ([(b14, oc 69 [vi x_641.Operand, vi x_641.Mod, vb x_641.Not, c651])] :: [(b13, oc 69 [vi 0, vi 0, vb false, (Value.slice none 0 0)])] :: [])) (Cls u m642 ([(b13, oc 69 [vi 0, vi 0, vb false, (Value.slice none 0 0)])] :: [])) (by kernel_rfl) ?_
     intro w hw
     replace ok := okdrew ok hw
     clear hw
     refine k_next (cl1 (cq le_m642 ok [2, 3] rfl) (cq le_m642 ok [3] rfl)) fun hT => kt 0 E rfl hT (y_fieldAddr fo_69_3 rfl) fun a E => k_takeN 1 E rfl (by kernel_rfl) nP hT (y_load one_67 rfl (Holds.cown 0 rfl rfl)) rfl rfl fun a E => kt 2 E rfl hT (y_move rfl) fun a E => kt 3 E rfl hT (y_fieldAddr fo_69_0 rfl) fun a E => k_takeN 4 E rfl (by kernel_rfl) nP hT (y_load one_3 rfl (Holds.cown 0 rfl rfl)) rfl rfl fun a E => k_all [5] (by kernel_rfl) rfl (one_c ?_)
     ·refine wo rfl <| l_call E go_144 rfl (calqueref08_parser_span_w N x_641.Operand r649 r657 l659 r660 l661 r662 r663 r664 e837 hG ok) rfl rfl ?_
      rintro _ w ⟨m857, vs858, rfl, hle, ok, h859, l860, r861, l862, r863, r864, r865⟩
      have le_m0 := le_m0.trans hle
      have le_m604 := le_m604.trans hle
      have le_m642 := le_m642.trans hle
      have h653 := ORow.up mSpan hle h653
      obtain ⟨rfl, r866, r867⟩ := h859
      refine ⟨_, rfl, fun a E => ?_⟩
      refine wn <| k_next (cl1 (cq le_m642 ok [2, 3] rfl) (cq le_m642 ok [3] rfl)) fun hT => k_all [6] (by kernel_rfl) rfl (one_c ?_)
      ·refine wo rfl <| l_slit (R := pSpan) (xo := [.tmp 98]) (xs := ([r836.1] : List (Span))) E ok sl_67 zero_126 rfl ⟨⟨_, rfl, rfl, ⟨rfl, r866, r867⟩⟩, trivial⟩ rfl rfl rfl rfl fun c868 M869 a w E ok h870 => wn <| k_next (cl1 (cq le_m642 ok [3, 4] rfl) (cq le_m642 ok [4] rfl)) fun hT => k_all [7] (by kernel_rfl) rfl (one_c ?_)
       ·refine wo rfl <| l_app (R := pSpan) E ok 2 mSpan sl_67 Tryz.underlying67 rfl h653 (SrcOK.ofRow h870 0 rfl ok) e853 ⟨_, zero_126, rfl⟩ rfl rfl rfl rfl fun c871 M872 a w E ok h873 => wn <| k_next (cl1 (cq le_m642 ok [3, 4] rfl) (cq le_m642 ok [4] rfl)) fun hT => kt 8 E rfl hT (y_fieldAddr fo_69_3 rfl) fun a E => k_all [9] (by kernel_rfl) rfl (one_c ?_)
        ·refine wo rfl <| l_storeB E ok 3 rfl rfl rfl inf_67 (ORow.cells h873) rfl ⟨(ORow.one h873), trivial⟩ rfl rfl fun w ok => wn <| k_next (cl2 (by kernel_rfl) (cq le_m642 ok [4] rfl)) fun hT => k_done (by kernel_rfl) ?_
         exact ⟨rfl, ⟨m857, c871, M872, le_m642, (ok.pk 5 [1, 2, 3, 4] rfl (by decide)), E.keep [0, 2, 3], l860, r861, l862, r863, r864, r865, r649, r650, h873⟩⟩
   replace hF := cond_t hc665 hF
   replace E := E.upd 75 hc665 rfl
   refine qv E (y_move rfl) fun a E => ?_
   obtain ⟨r666, e667, hF⟩ := bnd hF
   refine q_call E (v := (vb r666)) go_145 rfl (fun w ok => ?_) rfl rfl fun a E => ?_
   ·refine Calls.mono (calqueref08_parser_digit_w N r657 l659 r660 l661 r662 r663 r664 e667 hG ok) fun _ _ hz => ?_
    obtain ⟨hz1, okz⟩ := hz
    exact ⟨hz1, okz⟩
   refine qv E (y_pickT rfl rfl) fun a E => qv E (y_move rfl) fun a E => bsplit r666 (fun hc668 => ?_) (fun hc668 => ?_)
   rotate_left
   ·replace hF := cond_f hc668 hF
    replace E := E.upd 79 hc668 rfl
    refine qs E fun a E => qs E fun a E => qs E fun a E => qs E fun a E => qs E fun a E => qs E fun a E => qs E fun a E => qs E fun a E => ?_
    refine qs E fun a E => qs E fun a E => qv E (y_pickF rfl rfl) fun a E => wpQuiet_nil ?_
    intro w ok
    refine t_norm <| c_if E rfl (fun h => by cases h) (fun _ => ?_)
    refine wp_skip <| t_norm ?_
    obtain ⟨o760, hJ, hF⟩ := bnd hF
    refine c_mono (Q' := fun e a w => e = .normal ∧ ∃ m761 c770 M771, m642.le m761 ∧ Ok u m761 ([(pb0, oc 165 [vs o760.1.s, vi o760.1.to_, vs o760.1.w.text, vi o760.1.w.at_, vi o760.1.at_, vi o760.1.e])] :: M771 :: [(b14, oc 69 [vi o760.2.Operand, vi o760.2.Mod, vb o760.2.Not, c770])] :: [(b13, oc 69 [vi 0, vi 0, vb false, (Value.slice none 0 0)])] :: S) w ∧ Env 103 a [(0, vp pb0), (2, vp b13), (3, vp b14)] ∧ o760.1.s.length ≤ LIMS ∧ InR .i64 o760.1.to_ ∧ o760.1.w.text.length ≤ LIMS ∧ InR .i64 o760.1.w.at_ ∧ InR .i64 o760.1.at_ ∧ InR .i64 o760.1.e ∧ InR .i64 o760.2.Operand ∧ InR .i64 o760.2.Mod ∧ ORow 126 2 pSpan m761 c770 o760.2.Spans M771) ?_ ?_
    rotate_left
    ·clear hJ
     intro e a w hO
     obtain ⟨rfl, m811, c820, M821, hle, ok, E, l812, r813, l814, r815, r816, r817, r818, r819, h822⟩ := hO
     have le_m0 := le_m0.trans hle
     have le_m604 := le_m604.trans hle
     refine b_norm ?_
     obtain rfl := sj hF
     exact step_n ⟨m811, c820, M821, le_m604, (ok.pk 4 [1, 0, 2, 3] rfl (by decide)), E.keep [0, 2, 3], l812, r813, l814, r815, r816, r817, r818, r819, h822⟩
    replace hF := hJ
    clear hJ
    have le_m642 := Mem.le.refl m642
    obtain ⟨r773, e774, hF⟩ := bnd hF
    obtain ⟨l789, e790, hF⟩ := bnd hF
    obtain rfl := sj hF
    refine k_begin [1, 4] (Cls u m642 ([(b14, oc 69 [vi x_641.Operand, vi x_641.Mod, vb x_641.Not, c651])] :: [(b13, oc 69 [vi 0, vi 0, vb false, (Value.slice none 0 0)])] :: [])) (Cls u m642 ([(b13, oc 69 [vi 0, vi 0, vb false, (Value.slice none 0 0)])] :: [])) (by kernel_rfl) ?_
    intro w hw
    replace ok := okdrew ok hw
    clear hw
    refine k_next (cl1 (cq le_m642 ok [2, 3] rfl) (cq le_m642 ok [3] rfl)) fun hT => kt 0 E rfl hT (y_fieldAddr fo_69_3 rfl) fun a E => k_takeN 1 E rfl (by kernel_rfl) nP hT (y_load one_67 rfl (Holds.cown 0 rfl rfl)) rfl rfl fun a E => kt 2 E rfl hT (y_move rfl) fun a E => kt 3 E rfl hT (y_fieldAddr fo_69_0 rfl) fun a E => k_takeN 4 E rfl (by kernel_rfl) nP hT (y_load one_3 rfl (Holds.cown 0 rfl rfl)) rfl rfl fun a E => k_all [5] (by kernel_rfl) rfl (one_c ?_)
    ·refine wo rfl <| l_call E go_144 rfl (calqueref08_parser_span_w N x_641.Operand r649 r657 l659 r660 l661 r662 r663 r664 e774 hG ok) rfl rfl ?_
     rintro _ w ⟨m794, vs795, rfl, hle, ok, h796, l797, r798, l799, r800, r801, r802⟩
     have le_m0 := le_m0.trans hle
     have le_m604 := le_m604.trans hle
     have le_m642 := le_m642.trans hle
     have h653 := ORow.up mSpan hle h653
     obtain ⟨rfl, r803, r804⟩ := h796
     refine ⟨_, rfl, fun a E => ?_⟩
     refine wn <| k_next (cl1 (cq le_m642 ok [2, 3] rfl) (cq le_m642 ok [3] rfl)) fun hT => k_all [6] (by kernel_rfl) rfl (one_c ?_)
     ·refine wo rfl <| l_slit (R := pSpan) (xo := [.tmp 98]) (xs := ([r773.1] : List (Span))) E ok sl_67 zero_126 rfl ⟨⟨_, rfl, rfl, ⟨rfl, r803, r804⟩⟩, trivial⟩ rfl rfl rfl rfl fun c805 M806 a w E ok h807 => wn <| k_next (cl1 (cq le_m642 ok [3, 4] rfl) (cq le_m642 ok [4] rfl)) fun hT => k_all [7] (by kernel_rfl) rfl (one_c ?_)
      ·refine wo rfl <| l_app (R := pSpan) E ok 2 mSpan sl_67 Tryz.underlying67 rfl h653 (SrcOK.ofRow h807 0 rfl ok) e790 ⟨_, zero_126, rfl⟩ rfl rfl rfl rfl fun c808 M809 a w E ok h810 => wn <| k_next (cl1 (cq le_m642 ok [3, 4] rfl) (cq le_m642 ok [4] rfl)) fun hT => kt 8 E rfl hT (y_fieldAddr fo_69_3 rfl) fun a E => k_all [9] (by kernel_rfl) rfl (one_c ?_)
       ·refine wo rfl <| l_storeB E ok 3 rfl rfl rfl inf_67 (ORow.cells h810) rfl ⟨(ORow.one h810), trivial⟩ rfl rfl fun w ok => wn <| k_next (cl2 (by kernel_rfl) (cq le_m642 ok [4] rfl)) fun hT => k_done (by kernel_rfl) ?_
        exact ⟨rfl, ⟨m794, c808, M809, le_m642, (ok.pk 5 [1, 2, 3, 4] rfl (by decide)), E.keep [0, 2, 3], l797, r798, l799, r800, r801, r802, r649, r650, h810⟩⟩
   replace hF := cond_t hc668 hF
   replace E := E.upd 79 hc668 rfl
   refine qv E (y_move rfl) fun a E => qv E (y_nilCheck rfl) fun a E => qv E (y_fieldAddr fo_165_2 rfl) fun a E => qv E (y_fieldAddr fo_163_0 rfl) fun a E => qv E (y_load one_9 rfl (Holds.own 0 rfl rfl)) fun a E => ?_
   obtain ⟨r669, e670, hF⟩ := bnd hF
   obtain ⟨_, _, ⟨_, _⟩, r671⟩ := Go.X.Calls.get (calqueref07_Value_w N r657.w.text l661 e670 hG ok)
   refine q_call E go_146 rfl (fun w ok => (calqueref07_Value_w N r657.w.text l661 e670 hG ok).mono (fun _ _ h => h.1)) rfl rfl fun a E => qv E (y_fieldAddr fo_69_0 rfl) fun a E => qv E (y_load one_3 rfl (Holds.own 2 rfl rfl)) fun a E => ?_
   obtain ⟨r672, e673, hF⟩ := bnd hF
   obtain ⟨_, _, ⟨_, _⟩, r674⟩ := Go.X.Calls.get (calqueref08_Bound_w N x_641.Operand r649 e673 hG ok)
   refine q_call E go_103 rfl (fun w ok => (calqueref08_Bound_w N x_641.Operand r649 e673 hG ok).mono (fun _ _ h => h.1)) rfl rfl fun a E => qv E (y_leq rfl rfl) fun a E => qv E (y_pickT rfl rfl) fun a E => wpQuiet_nil ?_
   intro w ok
   refine t_norm ?_
   obtain ⟨o675, hJ, hF⟩ := bnd hF
   refine c_mono (Q' := fun e a w => e = .normal ∧ Ok u m642 ([(pb0, oc 165 [vs o675.s, vi o675.to_, vs o675.w.text, vi o675.w.at_, vi o675.at_, vi o675.e])] :: M652 :: [(b14, oc 69 [vi x_641.Operand, vi x_641.Mod, vb x_641.Not, c651])] :: [(b13, oc 69 [vi 0, vi 0, vb false, (Value.slice none 0 0)])] :: S) w ∧ Env 103 a [(0, vp pb0), (2, vp b13), (3, vp b14)] ∧ o675.s.length ≤ LIMS ∧ InR .i64 o675.to_ ∧ o675.w.text.length ≤ LIMS ∧ InR .i64 o675.w.at_ ∧ InR .i64 o675.at_ ∧ InR .i64 o675.e) ?_ ?_
   ·replace hF := hJ
    clear hJ
    refine cf E rfl hF (fun hc682 hF => ?_) fun hc682 hF => ?_
    rotate_left
    ·refine wp_skip ?_
     obtain rfl := sj hF
     exact ⟨rfl, ⟨ok, E.keep [0, 2, 3], l659, r660, l661, r662, r663, r664⟩⟩
    refine c_region <| mv E rfl fun a E => ?_
    obtain ⟨r683, e684, hF⟩ := bnd hF
    refine l_call E go_113 rfl (calqueref08_parser_fail_w N 6 (ir 6) r657 l659 r660 l661 r662 r663 r664 e684 hG ok) rfl rfl ?_
    rintro _ w ⟨⟨rfl, ok⟩, l685, r686, l687, r688, r689, r690⟩
    refine ⟨_, rfl, fun a E => ?_⟩
    refine wpList_nil ?_
    obtain rfl := sj hF
    exact ⟨rfl, ⟨ok, E.keep [0, 2, 3], l685, r686, l687, r688, r689, r690⟩⟩
   clear hJ
   intro e a w hO
   obtain ⟨rfl, ok, E, l691, r692, l693, r694, r695, r696⟩ := hO
   refine t_norm ?_
   obtain ⟨o697, hJ, hF⟩ := bnd hF
   refine c_mono (Q' := fun e a w => e = .normal ∧ ∃ m698 c707 M708, m642.le m698 ∧ Ok u m698 ([(pb0, oc 165 [vs o697.1.s, vi o697.1.to_, vs o697.1.w.text, vi o697.1.w.at_, vi o697.1.at_, vi o697.1.e])] :: M708 :: [(b14, oc 69 [vi o697.2.Operand, vi o697.2.Mod, vb o697.2.Not, c707])] :: [(b13, oc 69 [vi 0, vi 0, vb false, (Value.slice none 0 0)])] :: S) w ∧ Env 103 a [(0, vp pb0), (2, vp b13), (3, vp b14)] ∧ o697.1.s.length ≤ LIMS ∧ InR .i64 o697.1.to_ ∧ o697.1.w.text.length ≤ LIMS ∧ InR .i64 o697.1.w.at_ ∧ InR .i64 o697.1.at_ ∧ InR .i64 o697.1.e ∧ InR .i64 o697.2.Operand ∧ InR .i64 o697.2.Mod ∧ ORow 126 2 pSpan m698 c707 o697.2.Spans M708) ?_ ?_
   rotate_left
   ·clear hJ
    intro e a w hO
    obtain ⟨rfl, m748, c757, M758, hle, ok, E, l749, r750, l751, r752, r753, r754, r755, r756, h759⟩ := hO
    have le_m0 := le_m0.trans hle
    have le_m604 := le_m604.trans hle
    refine b_norm ?_
    obtain rfl := sj hF
    exact step_n ⟨m748, c757, M758, le_m604, (ok.pk 4 [1, 0, 2, 3] rfl (by decide)), E.keep [0, 2, 3], l749, r750, l751, r752, r753, r754, r755, r756, h759⟩
   replace hF := hJ
   clear hJ
   have le_m642 := Mem.le.refl m642
   obtain ⟨r710, e711, hF⟩ := bnd hF
   obtain ⟨l726, e727, hF⟩ := bnd hF
   obtain rfl := sj hF
   refine k_begin [1, 4] (Cls u m642 ([(b14, oc 69 [vi x_641.Operand, vi x_641.Mod, vb x_641.Not, c651])] :: [(b13, oc 69 [vi 0, vi 0, vb false, (Value.slice none 0 0)])] :: [])) (Cls u m642 ([(b13, oc 69 [vi 0, vi 0, vb false, (Value.slice none 0 0)])] :: [])) (by kernel_rfl) ?_
   intro w hw
   replace ok := okdrew ok hw
   clear hw
   refine k_next (cl1 (cq le_m642 ok [2, 3] rfl) (cq le_m642 ok [3] rfl)) fun hT => kt 0 E rfl hT (y_fieldAddr fo_69_3 rfl) fun a E => k_takeN 1 E rfl (by kernel_rfl) nP hT (y_load one_67 rfl (Holds.cown 0 rfl rfl)) rfl rfl fun a E => kt 2 E rfl hT (y_move rfl) fun a E => kt 3 E rfl hT (y_fieldAddr fo_69_0 rfl) fun a E => k_takeN 4 E rfl (by kernel_rfl) nP hT (y_load one_3 rfl (Holds.cown 0 rfl rfl)) rfl rfl fun a E => k_all [5] (by kernel_rfl) rfl (one_c ?_)
   ·refine wo rfl <| l_call E go_144 rfl (calqueref08_parser_span_w N x_641.Operand r649 o675 l691 r692 l693 r694 r695 r696 e711 hG ok) rfl rfl ?_
    rintro _ w ⟨m731, vs732, rfl, hle, ok, h733, l734, r735, l736, r737, r738, r739⟩
    have le_m0 := le_m0.trans hle
    have le_m604 := le_m604.trans hle
    have le_m642 := le_m642.trans hle
    have h653 := ORow.up mSpan hle h653
    obtain ⟨rfl, r740, r741⟩ := h733
    refine ⟨_, rfl, fun a E => ?_⟩
    refine wn <| k_next (cl1 (cq le_m642 ok [2, 3] rfl) (cq le_m642 ok [3] rfl)) fun hT => k_all [6] (by kernel_rfl) rfl (one_c ?_)
    ·refine wo rfl <| l_slit (R := pSpan) (xo := [.tmp 98]) (xs := ([r710.1] : List (Span))) E ok sl_67 zero_126 rfl ⟨⟨_, rfl, rfl, ⟨rfl, r740, r741⟩⟩, trivial⟩ rfl rfl rfl rfl fun c742 M743 a w E ok h744 => wn <| k_next (cl1 (cq le_m642 ok [3, 4] rfl) (cq le_m642 ok [4] rfl)) fun hT => k_all [7] (by kernel_rfl) rfl (one_c ?_)
     ·refine wo rfl <| l_app (R := pSpan) E ok 2 mSpan sl_67 Tryz.underlying67 rfl h653 (SrcOK.ofRow h744 0 rfl ok) e727 ⟨_, zero_126, rfl⟩ rfl rfl rfl rfl fun c745 M746 a w E ok h747 => wn <| k_next (cl1 (cq le_m642 ok [3, 4] rfl) (cq le_m642 ok [4] rfl)) fun hT => kt 8 E rfl hT (y_fieldAddr fo_69_3 rfl) fun a E => k_all [9] (by kernel_rfl) rfl (one_c ?_)
      ·refine wo rfl <| l_storeB E ok 3 rfl rfl rfl inf_67 (ORow.cells h747) rfl ⟨(ORow.one h747), trivial⟩ rfl rfl fun w ok => wn <| k_next (cl2 (by kernel_rfl) (cq le_m642 ok [4] rfl)) fun hT => k_done (by kernel_rfl) ?_
       exact ⟨rfl, ⟨m731, c745, M746, le_m642, (ok.pk 5 [1, 2, 3, 4] rfl (by decide)), E.keep [0, 2, 3], l734, r735, l736, r737, r738, r739, r649, r650, h747⟩⟩
 replace hF := cond_t hc147 hF
 replace E := E.upd 49 hc147 rfl
 refine fv E fo_69_2 rfl fun a E => ld E ok one_4 1 rfl rfl rfl fun a E => lw E (y_not rfl) fun a E => pt E rfl rfl fun a E => wn ?_
 obtain ⟨o148, hJ, hF⟩ := bnd hF
 refine c_mono (Q' := fun e a w => e = .normal ∧ Ok u m134 ([(pb0, oc 165 [vs o148.s, vi o148.to_, vs o148.w.text, vi o148.w.at_, vi o148.at_, vi o148.e])] :: [(b14, oc 69 [vi o68.2.Operand, vi o68.2.Mod, vb r143, (Value.slice none 0 0)])] :: [(b13, oc 69 [vi 0, vi 0, vb false, (Value.slice none 0 0)])] :: S) w ∧ Env 103 a [(0, vp pb0), (2, vp b13), (3, vp b14)] ∧ o148.s.length ≤ LIMS ∧ InR .i64 o148.to_ ∧ o148.w.text.length ≤ LIMS ∧ InR .i64 o148.w.at_ ∧ InR .i64 o148.at_ ∧ InR .i64 o148.e) ?_ ?_
 ·replace hF := hJ
  clear hJ
  refine cf E rfl hF (fun hc155 hF => ?_) fun hc155 hF => ?_
  rotate_left
  ·refine wp_skip ?_
   obtain rfl := sj hF
   exact ⟨rfl, ⟨ok, E.keep [0, 2, 3], l135, r136, l137, r138, r139, r140⟩⟩
  refine c_region <| mv E rfl fun a E => ?_
  obtain ⟨r156, e157, hF⟩ := bnd hF
  refine l_call E go_113 rfl (calqueref08_parser_fail_w N 3 (ir 3) o68.1 l135 r136 l137 r138 r139 r140 e157 hG ok) rfl rfl ?_
  rintro _ w ⟨⟨rfl, ok⟩, l158, r159, l160, r161, r162, r163⟩
  refine ⟨_, rfl, fun a E => ?_⟩
  refine wpList_nil ?_
  obtain rfl := sj hF
  exact ⟨rfl, ⟨ok, E.keep [0, 2, 3], l158, r159, l160, r161, r162, r163⟩⟩
 clear hJ
 intro e a w hO
 obtain ⟨rfl, ok, E, l164, r165, l166, r167, r168, r169⟩ := hO
 refine t_norm <| sg <| mv E rfl fun a E => ?_
 obtain ⟨r170, e171, hF⟩ := bnd hF
 refine l_call E go_111 rfl (calqueref08_parser_step_w N o148 l164 r165 l166 r167 r168 r169 e171 hG ok) rfl rfl ?_
 rintro _ w ⟨⟨rfl, ok⟩, l172, r173, l174, r175, r176, r177⟩
 refine ⟨_, rfl, fun a E => ?_⟩
 refine wn <| wp_seq ?_
 obtain ⟨o178, hJ, hF⟩ := bnd hF
 refine c_mono (Q' := fun e a w => e = .normal ∧ ∃ m179 c188 M189, m134.le m179 ∧ Ok u m179 (M189 :: [(pb0, oc 165 [vs o178.1.s, vi o178.1.to_, vs o178.1.w.text, vi o178.1.w.at_, vi o178.1.at_, vi o178.1.e])] :: [(b14, oc 69 [vi o178.2.Operand, vi o178.2.Mod, vb o178.2.Not, c188])] :: [(b13, oc 69 [vi 0, vi 0, vb false, (Value.slice none 0 0)])] :: S) w ∧ Env 103 a [(0, vp pb0), (2, vp b13), (3, vp b14)] ∧ o178.1.s.length ≤ LIMS ∧ InR .i64 o178.1.to_ ∧ o178.1.w.text.length ≤ LIMS ∧ InR .i64 o178.1.w.at_ ∧ InR .i64 o178.1.at_ ∧ InR .i64 o178.1.e ∧ InR .i64 o178.2.Operand ∧ InR .i64 o178.2.Mod ∧ ORow 126 2 pSpan m179 c188 o178.2.Spans M189) ?_ ?_
 ·replace hF := hJ
  clear hJ
  have le_m134 := Mem.le.refl m134
  obtain ⟨r191, e192, hF⟩ := bnd hF
  obtain ⟨l209, e210, hF⟩ := bnd hF
  obtain rfl := sj hF
  refine k_begin [1, 4] (Cls u m134 ([(b14, oc 69 [vi o68.2.Operand, vi o68.2.Mod, vb r143, (Value.slice none 0 0)])] :: [(b13, oc 69 [vi 0, vi 0, vb false, (Value.slice none 0 0)])] :: [])) (Cls u m134 ([(b13, oc 69 [vi 0, vi 0, vb false, (Value.slice none 0 0)])] :: [])) (by kernel_rfl) ?_
  intro w hw
  replace ok := okdrew ok hw
  clear hw
  refine k_next (cl1 (cq le_m134 ok [1, 2] rfl) (cq le_m134 ok [2] rfl)) fun hT => kt 0 E rfl hT (y_fieldAddr fo_69_3 rfl) fun a E => k_takeN 1 E rfl (by kernel_rfl) nP hT (y_load one_67 rfl (Holds.cown 0 rfl rfl)) rfl rfl fun a E => kt 2 E rfl hT (y_move rfl) fun a E => kt 3 E rfl hT (y_fieldAddr fo_69_0 rfl) fun a E => k_takeN 4 E rfl (by kernel_rfl) nP hT (y_load one_3 rfl (Holds.cown 0 rfl rfl)) rfl rfl fun a E => k_all [5] (by kernel_rfl) rfl (one_c ?_)
  ·refine wo rfl <| l_call E go_144 rfl (calqueref08_parser_span_w N o68.2.Operand r141 r170 l172 r173 l174 r175 r176 r177 e192 hG ok) rfl rfl ?_
   rintro _ w ⟨m214, vs215, rfl, hle, ok, h216, l217, r218, l219, r220, r221, r222⟩
   have le_m0 := le_m0.trans hle
   have le_m134 := le_m134.trans hle
   obtain ⟨rfl, r223, r224⟩ := h216
   refine ⟨_, rfl, fun a E => ?_⟩
   refine wn <| k_next (cl1 (cq le_m134 ok [1, 2] rfl) (cq le_m134 ok [2] rfl)) fun hT => k_all [6] (by kernel_rfl) rfl (one_c ?_)
   ·refine wo rfl <| l_slit (R := pSpan) (xo := [.tmp 63]) (xs := ([r191.1] : List (Span))) E ok sl_67 zero_126 rfl ⟨⟨_, rfl, rfl, ⟨rfl, r223, r224⟩⟩, trivial⟩ rfl rfl rfl rfl fun c225 M226 a w E ok h227 => wn <| k_next (cl1 (cq le_m134 ok [2, 3] rfl) (cq le_m134 ok [3] rfl)) fun hT => k_all [7] (by kernel_rfl) rfl (one_c ?_)
    ·refine wpOp_of_list (o := _) rfl ?_
     obtain ⟨M228, ok, h229⟩ := nilrow (e := 126) (k := 2) (R := pSpan) ok
     refine l_app (R := pSpan) E ok 0 mSpan sl_67 Tryz.underlying67 rfl h229 (SrcOK.ofRow h227 1 rfl ok) e210 ⟨_, zero_126, rfl⟩ rfl rfl rfl rfl fun c230 M231 a w E ok h232 => wn <| k_next (cl1 (cq le_m134 ok [3, 4] rfl) (cq le_m134 ok [4] rfl)) fun hT => kt 8 E rfl hT (y_fieldAddr fo_69_3 rfl) fun a E => k_all [9] (by kernel_rfl) rfl (one_c ?_)
     ·refine wo rfl <| l_storeB E ok 3 rfl rfl rfl inf_67 (ORow.cells h232) rfl ⟨(ORow.one h232), trivial⟩ rfl rfl fun w ok => wn <| k_next (cl2 (by kernel_rfl) (cq le_m134 ok [4] rfl)) fun hT => k_done (by kernel_rfl) ?_
      exact ⟨rfl, ⟨m214, c230, M231, le_m134, (ok.pk 5 [0, 2, 3, 4] rfl (by decide)), E.keep [0, 2, 3], l217, r218, l219, r220, r221, r222, r141, r142, h232⟩⟩
 clear hJ
 intro e a w hO
 obtain ⟨rfl, m233, c242, M243, hle, ok, E, l234, r235, l236, r237, r238, r239, r240, r241, h244⟩ := hO
 have le_m0 := le_m0.trans hle
 refine t_norm <| wp_seq <| wp_block ?_
 obtain ⟨o256, hL, hF⟩ := bnd hF
 refine c_loop _ (fun (s : Parser × Relation) a w => ∃ m257 c266 M267, m233.le m257 ∧ Ok u m257 (M267 :: [(pb0, oc 165 [vs s.1.s, vi s.1.to_, vs s.1.w.text, vi s.1.w.at_, vi s.1.at_, vi s.1.e])] :: [(b14, oc 69 [vi s.2.Operand, vi s.2.Mod, vb s.2.Not, c266])] :: [(b13, oc 69 [vi 0, vi 0, vb false, (Value.slice none 0 0)])] :: S) w ∧ Env 103 a [(0, vp pb0), (2, vp b13), (3, vp b14)] ∧ s.1.s.length ≤ LIMS ∧ InR .i64 s.1.to_ ∧ s.1.w.text.length ≤ LIMS ∧ InR .i64 s.1.w.at_ ∧ InR .i64 s.1.at_ ∧ InR .i64 s.1.e ∧ InR .i64 s.2.Operand ∧ InR .i64 s.2.Mod ∧ ORow 126 2 pSpan m257 c266 s.2.Spans M267) (fun (b : (Relation × Parser)) e a w => e = (.exit 2) ∧ ∃ m529 c532 M533, m233.le m529 ∧ Ok u m529 (M533 :: [(pb0, oc 165 [vs b.2.s, vi b.2.to_, vs b.2.w.text, vi b.2.w.at_, vi b.2.at_, vi b.2.e])] :: [(b14, oc 69 [vi b.1.Operand, vi b.1.Mod, vb b.1.Not, c532])] :: [(b13, oc 69 [vi 0, vi 0, vb false, (Value.slice none 0 0)])] :: S) w ∧ Env 103 a [(2, vp b13), (3, vp b14)] ∧ InR .i64 b.1.Operand ∧ InR .i64 b.1.Mod ∧ ORow 126 2 pSpan m529 c532 b.1.Spans M533 ∧ b.2.s.length ≤ LIMS ∧ InR .i64 b.2.to_ ∧ b.2.w.text.length ≤ LIMS ∧ InR .i64 b.2.w.at_ ∧ InR .i64 b.2.at_ ∧ InR .i64 b.2.e) ?_ ?_ N _ a w hL ⟨m233, c242, M243, Mem.le.refl _, ok, E.keep [0, 2, 3], l234, r235, l236, r237, r238, r239, r240, r241, h244⟩
 rotate_left
 ·intro e a w _ hO
  obtain ⟨rfl, m515, c518, M519, hle, ok, E, r516, r517, h520, l521, r522, l523, r524, r525, r526⟩ := hO
  have le_m0 := le_m0.trans hle
  refine b_hit <| t_norm <| sg <| lv E ok (y_loadAgg (cs := [vi o256.1.Operand, vi o256.1.Mod, vb o256.1.Not, c518]) agg_69 rfl rfl (Holds.own 2 rfl rfl)) fun a E => l_storeB E ok 3 rfl rfl rfl inf_69 rfl rfl ⟨rfl, rfl, rfl, (ORow.one h520), trivial⟩ rfl rfl fun w ok => wn ?_
  refine wp_ret ?_
  obtain ⟨m527, hle, ok, hfz⟩ := (ok.frs 0 rfl).freeze
  have h528 := ORow.froz mSpan h520 hle hfz (by decide)
  have le_m0 := le_m0.trans hle
  exact fin hF ⟨m527, [vi o256.1.Operand, vi o256.1.Mod, vb o256.1.Not, c518], le_m0, (ok.pk 3 [0] rfl (by decide)), E.d, ⟨rv_c (cs := [vi o256.1.Operand, vi o256.1.Mod, vb o256.1.Not, c518]) E ok rfl agg_69 rfl (Holds.own 2 rfl rfl), trivial⟩, ⟨_, rfl, r516, r517, h528⟩, l521, r522, l523, r524, r525, r526⟩
 rintro ⟨x_269, x_270⟩ a w r ⟨m271, c280, M281, hle, ok, E, l272, r273, l274, r275, r276, r277, r278, r279, h282⟩ hF
 replace hF : calqueref08_parser_relation_b2 N x_269 x_270 = some r := hF
 unfold calqueref08_parser_relation_b2 at hF
 have le_m233 := Mem.le.refl m233
 have le_m0 := le_m0.trans hle
 have le_m233 := le_m233.trans hle
 refine wp_seq <| sg <| mv E rfl fun a E => ?_
 obtain ⟨r283, e284, hF⟩ := bnd hF
 replace ok : Ok u m271 ([(pb0, oc 165 [vs x_269.s, vi x_269.to_, vs x_269.w.text, vi x_269.w.at_, vi x_269.at_, vi x_269.e])] :: M281 :: [(b14, oc 69 [vi x_270.Operand, vi x_270.Mod, vb x_270.Not, c280])] :: [(b13, oc 69 [vi 0, vi 0, vb false, (Value.slice none 0 0)])] :: S) w := (ok.pk 4 [1, 0, 2, 3] rfl (by decide))
 refine lc E go_115 rfl (calqueref08_parser_is_w N ([44]) (show ([44] : List UInt8).length ≤ LIMS by decide) x_269 l272 r273 l274 r275 r276 r277 e284 hG ok) fun w ok a E => wn <| cf E rfl hF (fun hc285 hF => ?_) fun hc285 hF => ?_
 rotate_left
 ·refine wp_exit <| t_exit ?_
  obtain rfl := sj hF
  exact so (⟨rfl, ⟨m271, c280, M281, le_m233, (ok.pk 4 [1, 0, 2, 3] rfl (by decide)), E.keep [2, 3], r278, r279, h282, l272, r273, l274, r275, r276, r277⟩⟩)
 refine wp_skip <| t_norm <| wp_block <| sg <| mv E rfl fun a E => ?_
 obtain ⟨r286, e287, hF⟩ := bnd hF
 refine l_call E go_111 rfl (calqueref08_parser_step_w N x_269 l272 r273 l274 r275 r276 r277 e287 hG ok) rfl rfl ?_
 rintro _ w ⟨⟨rfl, ok⟩, l288, r289, l290, r291, r292, r293⟩
 refine ⟨_, rfl, fun a E => ?_⟩
 refine wn <| wp_seq <| wp_seq <| c_draw (by kernel_rfl) (by kernel_rfl) ok <| qv E (y_fieldAddr fo_69_3 rfl) fun a E => qv E (y_load one_67 rfl (Holds.own 2 rfl rfl)) fun a E => qv E (y_lenR sl_67 h282 rfl) fun a E => ?_
 refine qv E (y_eql rfl rfl) fun a E => qv E (y_move rfl) fun a E => bsplit ((x_270.Spans.length : Int) == 4) (fun hc294 => ?_) (fun hc294 => ?_)
 rotate_left
 ·as_aux_lemma =>
   replace hF := cond_f hc294 hF
   replace E := E.upd 75 hc294 rfl
   refine qs E fun a E => qs E fun a E => qv E (y_pickF rfl rfl) fun a E => qv E (y_move rfl) fun a E => qs E fun a E => qs E fun a E => qs E fun a E => qs E fun a E => ?_
   refine qs E fun a E => qs E fun a E => qs E fun a E => qs E fun a E => qs E fun a E => qs E fun a E => qv E (y_pickF rfl rfl) fun a E => wpQuiet_nil ?_
   intro w ok
   refine t_norm <| c_if E rfl (fun h => by cases h) (fun _ => ?_)
   refine wp_skip <| t_norm ?_
   obtain ⟨o452, hJ, hF⟩ := bnd hF
   refine c_mono (Q' := fun e a w => e = .normal ∧ ∃ m453 c462 M463, m271.le m453 ∧ Ok u m453 ([(pb0, oc 165 [vs o452.1.s, vi o452.1.to_, vs o452.1.w.text, vi o452.1.w.at_, vi o452.1.at_, vi o452.1.e])] :: M463 :: [(b14, oc 69 [vi o452.2.Operand, vi o452.2.Mod, vb o452.2.Not, c462])] :: [(b13, oc 69 [vi 0, vi 0, vb false, (Value.slice none 0 0)])] :: S) w ∧ Env 103 a [(0, vp pb0), (2, vp b13), (3, vp b14)] ∧ o452.1.s.length ≤ LIMS ∧ InR .i64 o452.1.to_ ∧ o452.1.w.text.length ≤ LIMS ∧ InR .i64 o452.1.w.at_ ∧ InR .i64 o452.1.at_ ∧ InR .i64 o452.1.e ∧ InR .i64 o452.2.Operand ∧ InR .i64 o452.2.Mod ∧ ORow 126 2 pSpan m453 c462 o452.2.Spans M463) ?_ ?_
   rotate_left
   ·clear hJ
    intro e a w hO
    obtain ⟨rfl, m503, c512, M513, hle, ok, E, l504, r505, l506, r507, r508, r509, r510, r511, h514⟩ := hO
    have le_m0 := le_m0.trans hle
    have le_m233 := le_m233.trans hle
    refine b_norm ?_
    obtain rfl := sj hF
    exact step_n ⟨m503, c512, M513, le_m233, (ok.pk 4 [1, 0, 2, 3] rfl (by decide)), E.keep [0, 2, 3], l504, r505, l506, r507, r508, r509, r510, r511, h514⟩
   replace hF := hJ
   clear hJ
   have le_m271 := Mem.le.refl m271
   obtain ⟨r465, e466, hF⟩ := bnd hF
   obtain ⟨l481, e482, hF⟩ := bnd hF
   obtain rfl := sj hF
   refine k_begin [1, 4] (Cls u m271 ([(b14, oc 69 [vi x_270.Operand, vi x_270.Mod, vb x_270.Not, c280])] :: [(b13, oc 69 [vi 0, vi 0, vb false, (Value.slice none 0 0)])] :: [])) (Cls u m271 ([(b13, oc 69 [vi 0, vi 0, vb false, (Value.slice none 0 0)])] :: [])) (by kernel_rfl) ?_
   intro w hw
   replace ok := okdrew ok hw
   clear hw
   refine k_next (cl1 (cq le_m271 ok [2, 3] rfl) (cq le_m271 ok [3] rfl)) fun hT => kt 0 E rfl hT (y_fieldAddr fo_69_3 rfl) fun a E => k_takeN 1 E rfl (by kernel_rfl) nP hT (y_load one_67 rfl (Holds.cown 0 rfl rfl)) rfl rfl fun a E => kt 2 E rfl hT (y_move rfl) fun a E => kt 3 E rfl hT (y_fieldAddr fo_69_0 rfl) fun a E => k_takeN 4 E rfl (by kernel_rfl) nP hT (y_load one_3 rfl (Holds.cown 0 rfl rfl)) rfl rfl fun a E => k_all [5] (by kernel_rfl) rfl (one_c ?_)
   ·refine wo rfl <| l_call E go_144 rfl (calqueref08_parser_span_w N x_270.Operand r278 r286 l288 r289 l290 r291 r292 r293 e466 hG ok) rfl rfl ?_
    rintro _ w ⟨m486, vs487, rfl, hle, ok, h488, l489, r490, l491, r492, r493, r494⟩
    have le_m0 := le_m0.trans hle
    have le_m233 := le_m233.trans hle
    have le_m271 := le_m271.trans hle
    have h282 := ORow.up mSpan hle h282
    obtain ⟨rfl, r495, r496⟩ := h488
    refine ⟨_, rfl, fun a E => ?_⟩
    refine wn <| k_next (cl1 (cq le_m271 ok [2, 3] rfl) (cq le_m271 ok [3] rfl)) fun hT => k_all [6] (by kernel_rfl) rfl (one_c ?_)
    ·refine wo rfl <| l_slit (R := pSpan) (xo := [.tmp 98]) (xs := ([r465.1] : List (Span))) E ok sl_67 zero_126 rfl ⟨⟨_, rfl, rfl, ⟨rfl, r495, r496⟩⟩, trivial⟩ rfl rfl rfl rfl fun c497 M498 a w E ok h499 => wn <| k_next (cl1 (cq le_m271 ok [3, 4] rfl) (cq le_m271 ok [4] rfl)) fun hT => k_all [7] (by kernel_rfl) rfl (one_c ?_)
     ·refine wo rfl <| l_app (R := pSpan) E ok 2 mSpan sl_67 Tryz.underlying67 rfl h282 (SrcOK.ofRow h499 0 rfl ok) e482 ⟨_, zero_126, rfl⟩ rfl rfl rfl rfl fun c500 M501 a w E ok h502 => wn <| k_next (cl1 (cq le_m271 ok [3, 4] rfl) (cq le_m271 ok [4] rfl)) fun hT => kt 8 E rfl hT (y_fieldAddr fo_69_3 rfl) fun a E => k_all [9] (by kernel_rfl) rfl (one_c ?_)
      ·refine wo rfl <| l_storeB E ok 3 rfl rfl rfl inf_67 (ORow.cells h502) rfl ⟨(ORow.one h502), trivial⟩ rfl rfl fun w ok => wn <| k_next (cl2 (by kernel_rfl) (cq le_m271 ok [4] rfl)) fun hT => k_done (by kernel_rfl) ?_
       exact ⟨rfl, ⟨m486, c500, M501, le_m271, (ok.pk 5 [1, 2, 3, 4] rfl (by decide)), E.keep [0, 2, 3], l489, r490, l491, r492, r493, r494, r278, r279, h502⟩⟩
 replace hF := cond_t hc294 hF
 replace E := E.upd 75 hc294 rfl
 refine qv E (y_move rfl) fun a E => ?_
 obtain ⟨r295, e296, hF⟩ := bnd hF
 refine q_call E (v := (vb r295)) go_145 rfl (fun w ok => ?_) rfl rfl fun a E => ?_
 ·refine Calls.mono (calqueref08_parser_digit_w N r286 l288 r289 l290 r291 r292 r293 e296 hG ok) fun _ _ hz => ?_
  obtain ⟨hz1, okz⟩ := hz
  exact ⟨hz1, okz⟩
 refine qv E (y_pickT rfl rfl) fun a E => qv E (y_move rfl) fun a E => bsplit r295 (fun hc297 => ?_) (fun hc297 => ?_)
 rotate_left
 ·replace hF := cond_f hc297 hF
  replace E := E.upd 79 hc297 rfl
  refine qs E fun a E => qs E fun a E => qs E fun a E => qs E fun a E => qs E fun a E => qs E fun a E => qs E fun a E => qs E fun a E => ?_
  refine qs E fun a E => qs E fun a E => qv E (y_pickF rfl rfl) fun a E => wpQuiet_nil ?_
  intro w ok
  refine t_norm <| c_if E rfl (fun h => by cases h) (fun _ => ?_)
  refine wp_skip <| t_norm ?_
  obtain ⟨o389, hJ, hF⟩ := bnd hF
  refine c_mono (Q' := fun e a w => e = .normal ∧ ∃ m390 c399 M400, m271.le m390 ∧ Ok u m390 ([(pb0, oc 165 [vs o389.1.s, vi o389.1.to_, vs o389.1.w.text, vi o389.1.w.at_, vi o389.1.at_, vi o389.1.e])] :: M400 :: [(b14, oc 69 [vi o389.2.Operand, vi o389.2.Mod, vb o389.2.Not, c399])] :: [(b13, oc 69 [vi 0, vi 0, vb false, (Value.slice none 0 0)])] :: S) w ∧ Env 103 a [(0, vp pb0), (2, vp b13), (3, vp b14)] ∧ o389.1.s.length ≤ LIMS ∧ InR .i64 o389.1.to_ ∧ o389.1.w.text.length ≤ LIMS ∧ InR .i64 o389.1.w.at_ ∧ InR .i64 o389.1.at_ ∧ InR .i64 o389.1.e ∧ InR .i64 o389.2.Operand ∧ InR .i64 o389.2.Mod ∧ ORow 126 2 pSpan m390 c399 o389.2.Spans M400) ?_ ?_
  rotate_left
  ·clear hJ
   intro e a w hO
   obtain ⟨rfl, m440, c449, M450, hle, ok, E, l441, r442, l443, r444, r445, r446, r447, r448, h451⟩ := hO
   have le_m0 := le_m0.trans hle
   have le_m233 := le_m233.trans hle
   refine b_norm ?_
   obtain rfl := sj hF
   exact step_n ⟨m440, c449, M450, le_m233, (ok.pk 4 [1, 0, 2, 3] rfl (by decide)), E.keep [0, 2, 3], l441, r442, l443, r444, r445, r446, r447, r448, h451⟩
  replace hF := hJ
  clear hJ
  have le_m271 := Mem.le.refl m271
  obtain ⟨r402, e403, hF⟩ := bnd hF
  obtain ⟨l418, e419, hF⟩ := bnd hF
  obtain rfl := sj hF
  refine k_begin [1, 4] (Cls u m271 ([(b14, oc 69 [vi x_270.Operand, vi x_270.Mod, vb x_270.Not, c280])] :: [(b13, oc 69 [vi 0, vi 0, vb false, (Value.slice none 0 0)])] :: [])) (Cls u m271 ([(b13, oc 69 [vi 0, vi 0, vb false, (Value.slice none 0 0)])] :: [])) (by kernel_rfl) ?_
  intro w hw
  replace ok := okdrew ok hw
  clear hw
  refine k_next (cl1 (cq le_m271 ok [2, 3] rfl) (cq le_m271 ok [3] rfl)) fun hT => kt 0 E rfl hT (y_fieldAddr fo_69_3 rfl) fun a E => k_takeN 1 E rfl (by kernel_rfl) nP hT (y_load one_67 rfl (Holds.cown 0 rfl rfl)) rfl rfl fun a E => kt 2 E rfl hT (y_move rfl) fun a E => kt 3 E rfl hT (y_fieldAddr fo_69_0 rfl) fun a E => k_takeN 4 E rfl (by kernel_rfl) nP hT (y_load one_3 rfl (Holds.cown 0 rfl rfl)) rfl rfl fun a E => k_all [5] (by kernel_rfl) rfl (one_c ?_)
  ·refine wo rfl <| l_call E go_144 rfl (calqueref08_parser_span_w N x_270.Operand r278 r286 l288 r289 l290 r291 r292 r293 e403 hG ok) rfl rfl ?_
   rintro _ w ⟨m423, vs424, rfl, hle, ok, h425, l426, r427, l428, r429, r430, r431⟩
   have le_m0 := le_m0.trans hle
   have le_m233 := le_m233.trans hle
   have le_m271 := le_m271.trans hle
   have h282 := ORow.up mSpan hle h282
   obtain ⟨rfl, r432, r433⟩ := h425
   refine ⟨_, rfl, fun a E => ?_⟩
   refine wn <| k_next (cl1 (cq le_m271 ok [2, 3] rfl) (cq le_m271 ok [3] rfl)) fun hT => k_all [6] (by kernel_rfl) rfl (one_c ?_)
   ·refine wo rfl <| l_slit (R := pSpan) (xo := [.tmp 98]) (xs := ([r402.1] : List (Span))) E ok sl_67 zero_126 rfl ⟨⟨_, rfl, rfl, ⟨rfl, r432, r433⟩⟩, trivial⟩ rfl rfl rfl rfl fun c434 M435 a w E ok h436 => wn <| k_next (cl1 (cq le_m271 ok [3, 4] rfl) (cq le_m271 ok [4] rfl)) fun hT => k_all [7] (by kernel_rfl) rfl (one_c ?_)
    ·refine wo rfl <| l_app (R := pSpan) E ok 2 mSpan sl_67 Tryz.underlying67 rfl h282 (SrcOK.ofRow h436 0 rfl ok) e419 ⟨_, zero_126, rfl⟩ rfl rfl rfl rfl fun c437 M438 a w E ok h439 => wn <| k_next (cl1 (cq le_m271 ok [3, 4] rfl) (cq le_m271 ok [4] rfl)) fun hT => kt 8 E rfl hT (y_fieldAddr fo_69_3 rfl) fun a E => k_all [9] (by kernel_rfl) rfl (one_c ?_)
     ·refine wo rfl <| l_storeB E ok 3 rfl rfl rfl inf_67 (ORow.cells h439) rfl ⟨(ORow.one h439), trivial⟩ rfl rfl fun w ok => wn <| k_next (cl2 (by kernel_rfl) (cq le_m271 ok [4] rfl)) fun hT => k_done (by kernel_rfl) ?_
      exact ⟨rfl, ⟨m423, c437, M438, le_m271, (ok.pk 5 [1, 2, 3, 4] rfl (by decide)), E.keep [0, 2, 3], l426, r427, l428, r429, r430, r431, r278, r279, h439⟩⟩
 replace hF := cond_t hc297 hF
 replace E := E.upd 79 hc297 rfl
 refine qv E (y_move rfl) fun a E => qv E (y_nilCheck rfl) fun a E => qv E (y_fieldAddr fo_165_2 rfl) fun a E => qv E (y_fieldAddr fo_163_0 rfl) fun a E => qv E (y_load one_9 rfl (Holds.own 0 rfl rfl)) fun a E => ?_
 obtain ⟨r298, e299, hF⟩ := bnd hF
 obtain ⟨_, _, ⟨_, _⟩, r300⟩ := Go.X.Calls.get (calqueref07_Value_w N r286.w.text l290 e299 hG ok)
 refine q_call E go_146 rfl (fun w ok => (calqueref07_Value_w N r286.w.text l290 e299 hG ok).mono (fun _ _ h => h.1)) rfl rfl fun a E => qv E (y_fieldAddr fo_69_0 rfl) fun a E => qv E (y_load one_3 rfl (Holds.own 2 rfl rfl)) fun a E => ?_
 obtain ⟨r301, e302, hF⟩ := bnd hF
 obtain ⟨_, _, ⟨_, _⟩, r303⟩ := Go.X.Calls.get (calqueref08_Bound_w N x_270.Operand r278 e302 hG ok)
 refine q_call E go_103 rfl (fun w ok => (calqueref08_Bound_w N x_270.Operand r278 e302 hG ok).mono (fun _ _ h => h.1)) rfl rfl fun a E => qv E (y_leq rfl rfl) fun a E => qv E (y_pickT rfl rfl) fun a E => wpQuiet_nil ?_
 intro w ok
 refine t_norm ?_
 obtain ⟨o304, hJ, hF⟩ := bnd hF
 refine c_mono (Q' := fun e a w => e = .normal ∧ Ok u m271 ([(pb0, oc 165 [vs o304.s, vi o304.to_, vs o304.w.text, vi o304.w.at_, vi o304.at_, vi o304.e])] :: M281 :: [(b14, oc 69 [vi x_270.Operand, vi x_270.Mod, vb x_270.Not, c280])] :: [(b13, oc 69 [vi 0, vi 0, vb false, (Value.slice none 0 0)])] :: S) w ∧ Env 103 a [(0, vp pb0), (2, vp b13), (3, vp b14)] ∧ o304.s.length ≤ LIMS ∧ InR .i64 o304.to_ ∧ o304.w.text.length ≤ LIMS ∧ InR .i64 o304.w.at_ ∧ InR .i64 o304.at_ ∧ InR .i64 o304.e) ?_ ?_
 ·replace hF := hJ
  clear hJ
  refine cf E rfl hF (fun hc311 hF => ?_) fun hc311 hF => ?_
  rotate_left
  ·refine wp_skip ?_
   obtain rfl := sj hF
   exact ⟨rfl, ⟨ok, E.keep [0, 2, 3], l288, r289, l290, r291, r292, r293⟩⟩
  refine c_region <| mv E rfl fun a E => ?_
  obtain ⟨r312, e313, hF⟩ := bnd hF
  refine l_call E go_113 rfl (calqueref08_parser_fail_w N 6 (ir 6) r286 l288 r289 l290 r291 r292 r293 e313 hG ok) rfl rfl ?_
  rintro _ w ⟨⟨rfl, ok⟩, l314, r315, l316, r317, r318, r319⟩
  refine ⟨_, rfl, fun a E => ?_⟩
  refine wpList_nil ?_
  obtain rfl := sj hF
  exact ⟨rfl, ⟨ok, E.keep [0, 2, 3], l314, r315, l316, r317, r318, r319⟩⟩
 clear hJ
 intro e a w hO
 obtain ⟨rfl, ok, E, l320, r321, l322, r323, r324, r325⟩ := hO
 refine t_norm ?_
 obtain ⟨o326, hJ, hF⟩ := bnd hF
 refine c_mono (Q' := fun e a w => e = .normal ∧ ∃ m327 c336 M337, m271.le m327 ∧ Ok u m327 ([(pb0, oc 165 [vs o326.1.s, vi o326.1.to_, vs o326.1.w.text, vi o326.1.w.at_, vi o326.1.at_, vi o326.1.e])] :: M337 :: [(b14, oc 69 [vi o326.2.Operand, vi o326.2.Mod, vb o326.2.Not, c336])] :: [(b13, oc 69 [vi 0, vi 0, vb false, (Value.slice none 0 0)])] :: S) w ∧ Env 103 a [(0, vp pb0), (2, vp b13), (3, vp b14)] ∧ o326.1.s.length ≤ LIMS ∧ InR .i64 o326.1.to_ ∧ o326.1.w.text.length ≤ LIMS ∧ InR .i64 o326.1.w.at_ ∧ InR .i64 o326.1.at_ ∧ InR .i64 o326.1.e ∧ InR .i64 o326.2.Operand ∧ InR .i64 o326.2.Mod ∧ ORow 126 2 pSpan m327 c336 o326.2.Spans M337) ?_ ?_
 rotate_left
 ·clear hJ
  intro e a w hO
  obtain ⟨rfl, m377, c386, M387, hle, ok, E, l378, r379, l380, r381, r382, r383, r384, r385, h388⟩ := hO
  have le_m0 := le_m0.trans hle
  have le_m233 := le_m233.trans hle
  refine b_norm ?_
  obtain rfl := sj hF
  exact step_n ⟨m377, c386, M387, le_m233, (ok.pk 4 [1, 0, 2, 3] rfl (by decide)), E.keep [0, 2, 3], l378, r379, l380, r381, r382, r383, r384, r385, h388⟩
 replace hF := hJ
 clear hJ
 have le_m271 := Mem.le.refl m271
 obtain ⟨r339, e340, hF⟩ := bnd hF
 obtain ⟨l355, e356, hF⟩ := bnd hF
 obtain rfl := sj hF
 refine k_begin [1, 4] (Cls u m271 ([(b14, oc 69 [vi x_270.Operand, vi x_270.Mod, vb x_270.Not, c280])] :: [(b13, oc 69 [vi 0, vi 0, vb false, (Value.slice none 0 0)])] :: [])) (Cls u m271 ([(b13, oc 69 [vi 0, vi 0, vb false, (Value.slice none 0 0)])] :: [])) (by kernel_rfl) ?_
 intro w hw
 replace ok := okdrew ok hw
 clear hw
 refine k_next (cl1 (cq le_m271 ok [2, 3] rfl) (cq le_m271 ok [3] rfl)) fun hT => kt 0 E rfl hT (y_fieldAddr fo_69_3 rfl) fun a E => k_takeN 1 E rfl (by kernel_rfl) nP hT (y_load one_67 rfl (Holds.cown 0 rfl rfl)) rfl rfl fun a E => kt 2 E rfl hT (y_move rfl) fun a E => kt 3 E rfl hT (y_fieldAddr fo_69_0 rfl) fun a E => k_takeN 4 E rfl (by kernel_rfl) nP hT (y_load one_3 rfl (Holds.cown 0 rfl rfl)) rfl rfl fun a E => k_all [5] (by kernel_rfl) rfl (one_c ?_)
 ·refine wo rfl <| l_call E go_144 rfl (calqueref08_parser_span_w N x_270.Operand r278 o304 l320 r321 l322 r323 r324 r325 e340 hG ok) rfl rfl ?_
  rintro _ w ⟨m360, vs361, rfl, hle, ok, h362, l363, r364, l365, r366, r367, r368⟩
  have le_m0 := le_m0.trans hle
  have le_m233 := le_m233.trans hle
  have le_m271 := le_m271.trans hle
  have h282 := ORow.up mSpan hle h282
  obtain ⟨rfl, r369, r370⟩ := h362
  refine ⟨_, rfl, fun a E => ?_⟩
  refine wn <| k_next (cl1 (cq le_m271 ok [2, 3] rfl) (cq le_m271 ok [3] rfl)) fun hT => k_all [6] (by kernel_rfl) rfl (one_c ?_)
  ·refine wo rfl <| l_slit (R := pSpan) (xo := [.tmp 98]) (xs := ([r339.1] : List (Span))) E ok sl_67 zero_126 rfl ⟨⟨_, rfl, rfl, ⟨rfl, r369, r370⟩⟩, trivial⟩ rfl rfl rfl rfl fun c371 M372 a w E ok h373 => wn <| k_next (cl1 (cq le_m271 ok [3, 4] rfl) (cq le_m271 ok [4] rfl)) fun hT => k_all [7] (by kernel_rfl) rfl (one_c ?_)
   ·refine wo rfl <| l_app (R := pSpan) E ok 2 mSpan sl_67 Tryz.underlying67 rfl h282 (SrcOK.ofRow h373 0 rfl ok) e356 ⟨_, zero_126, rfl⟩ rfl rfl rfl rfl fun c374 M375 a w E ok h376 => wn <| k_next (cl1 (cq le_m271 ok [3, 4] rfl) (cq le_m271 ok [4] rfl)) fun hT => kt 8 E rfl hT (y_fieldAddr fo_69_3 rfl) fun a E => k_all [9] (by kernel_rfl) rfl (one_c ?_)
    ·refine wo rfl <| l_storeB E ok 3 rfl rfl rfl inf_67 (ORow.cells h376) rfl ⟨(ORow.one h376), trivial⟩ rfl rfl fun w ok => wn <| k_next (cl2 (by kernel_rfl) (cq le_m271 ok [4] rfl)) fun hT => k_done (by kernel_rfl) ?_
     exact ⟨rfl, ⟨m360, c374, M375, le_m271, (ok.pk 5 [1, 2, 3, 4] rfl (by decide)), E.keep [0, 2, 3], l363, r364, l365, r366, r367, r368, r278, r279, h376⟩⟩
end Go.Proofs.YtidfofhmnlhfjaaGreatDoor
namespace Go.Proofs.YtidfofhmnlhfjaaGreatDoor
open Go.X
def calqueref08_Parse_b1 (N : Nat) (s_0 : List UInt8) (n_36 : Int) (x_37 : List (Relation)) (x_38 : Parser) : Option ((Int × (List (Relation)) × Parser) ⊕ (((Parser × (List (Relation))) ⊕ ((List (List (Relation))) × Int × Int)))) :=
  bif (x_38.e == 0) then
    bif (n_36 == 6) then
      (calqueref08_parser_letter N x_38).bind fun r52 =>
      (show Option Parser from
        bif r52 then
          (calqueref08_parser_fail N 6 x_38).bind fun r62 =>
          some r62
        else
          some x_38).bind fun o54 =>
      (show Option (Parser × (List (Relation))) from
        (calqueref08_parser_relation N o54).bind fun r87 =>
        (app x_37 ([r87.1] : List (Relation))).bind fun l105 =>
        some (r87.2, l105)).bind fun o76 =>
      (calqueref08_parser_is N ([]) o76.1).bind fun r139 =>
      bif r139 then
        bif (o76.1.w.at_ == (s_0.length : Int)) then
          some (.inr (.inr (([o76.2] : List (List (Relation))), 0, 0)))
        else
          (calqueref08_parser_is N ([111, 114]) o76.1).bind fun r147 =>
          bif r147 then
            none
          else
            (calqueref08_parser_is N ([97, 110, 100]) o76.1).bind fun r151 =>
            bif (!r151) then
              (calqueref08_parser_fail N 3 o76.1).bind fun r154 =>
              (calqueref08_parser_step N r154).bind fun r162 =>
              some (.inl ((IntKind.wrap .i64 (n_36 + 1)), o76.2, r162))
            else
              (calqueref08_parser_step N o76.1).bind fun r170 =>
              some (.inl ((IntKind.wrap .i64 (n_36 + 1)), o76.2, r170))
      else
        (calqueref08_parser_is N ([111, 114]) o76.1).bind fun r178 =>
        bif r178 then
          none
        else
          (calqueref08_parser_is N ([97, 110, 100]) o76.1).bind fun r182 =>
          bif (!r182) then
            (calqueref08_parser_fail N 3 o76.1).bind fun r185 =>
            (calqueref08_parser_step N r185).bind fun r193 =>
            some (.inl ((IntKind.wrap .i64 (n_36 + 1)), o76.2, r193))
          else
            (calqueref08_parser_step N o76.1).bind fun r201 =>
            some (.inl ((IntKind.wrap .i64 (n_36 + 1)), o76.2, r201))
    else
      (show Option ((List (Relation)) × Parser) from
        (calqueref08_parser_relation N x_38).bind fun r220 =>
        (app x_37 ([r220.1] : List (Relation))).bind fun l238 =>
        some (l238, r220.2)).bind fun o209 =>
      (calqueref08_parser_is N ([]) o209.2).bind fun r272 =>
      bif r272 then
        bif (o209.2.w.at_ == (s_0.length : Int)) then
          some (.inr (.inr (([o209.1] : List (List (Relation))), 0, 0)))
        else
          (calqueref08_parser_is N ([111, 114]) o209.2).bind fun r280 =>
          bif r280 then
            none
          else
            (calqueref08_parser_is N ([97, 110, 100]) o209.2).bind fun r284 =>
            bif (!r284) then
              (calqueref08_parser_fail N 3 o209.2).bind fun r287 =>
              (calqueref08_parser_step N r287).bind fun r295 =>
              some (.inl ((IntKind.wrap .i64 (n_36 + 1)), o209.1, r295))
            else
              (calqueref08_parser_step N o209.2).bind fun r303 =>
              some (.inl ((IntKind.wrap .i64 (n_36 + 1)), o209.1, r303))
      else
        (calqueref08_parser_is N ([111, 114]) o209.2).bind fun r311 =>
        bif r311 then
          none
        else
          (calqueref08_parser_is N ([97, 110, 100]) o209.2).bind fun r315 =>
          bif (!r315) then
            (calqueref08_parser_fail N 3 o209.2).bind fun r318 =>
            (calqueref08_parser_step N r318).bind fun r326 =>
            some (.inl ((IntKind.wrap .i64 (n_36 + 1)), o209.1, r326))
          else
            (calqueref08_parser_step N o209.2).bind fun r334 =>
            some (.inl ((IntKind.wrap .i64 (n_36 + 1)), o209.1, r334))
  else
    some (.inr (.inl (x_38, x_37)))
def calqueref08_Parse (N : Nat) (s_0 : List UInt8) : Option ((List (List (Relation))) × Int × Int) :=
  (calqueref08_parser_step N (Parser.mk s_0 0 (Word.mk ([]) 0) 0 0)).bind fun r2 =>
  (iter (fun s => calqueref08_Parse_b1 N s_0 s.1 s.2.1 s.2.2) N (0, [], r2)).bind fun o24 =>
  Sum.elim (fun o24 =>
    some ([], o24.1.at_, o24.1.e))
  (fun o24 =>
    some o24) o24
def calquelaw10_cond (N : Nat) (s_0 : List UInt8) : Option (List (List (Relation))) :=
  (calqueref08_Parse N s_0).bind fun r1 =>
  some r1.1
def calquelaw10_awake (N : Nat) : Option Bool :=
  (calquelaw10_cond N ([110, 32, 37, 32, 49, 48, 32, 61, 32, 49])).bind fun r1 =>
  (calquelaw10_cond N ([110, 32, 37, 32, 49, 48, 48, 32, 61, 32, 49, 49])).bind fun r6 =>
  (decide_Disjoint N ([(Rule.mk ([111, 110, 101]) r1), (Rule.mk ([116, 119, 111]) r6)] : List (Rule))).bind fun r19 =>
  (calquelaw10_cond N ([105, 32, 61, 32, 49, 32, 97, 110, 100, 32, 118, 32, 61, 32, 48])).bind fun r25 =>
  (decide_Weight N r25).bind fun r30 =>
  bif (r19.2.2.2 == 19) then
    bif (r30.2 == 0) then
      bif (r19.1 == 0) then
        bif (r19.2.1 == 1) then
          bif (r19.2.2.1 == ([49, 49])) then
            some (r30.1 == 6)
          else
            some false
        else
          some false
      else
        some false
    else
      some false
  else
    some false
def calqueref08_Few_b2 (_N : Nat) (c_0 : List (List (Relation))) (i_7 : Int) (n_16 : Int) (k_17 : Int) : Option ((Int × Int) ⊕ Int) :=
  (idx c_0 i_7).bind fun x20 =>
  bif (decide (k_17 < (x20.length : Int))) then
    (idx c_0 i_7).bind fun x32 =>
    (idx x32 k_17).bind fun x43 =>
    some (.inl ((IntKind.wrap .i64 (n_16 + (IntKind.wrap .i64 ((1 : Int) + (x43.Spans.length : Int))))), (k_17 + 1)))
  else
    some (.inr n_16)
def calqueref08_Few_b1 (N : Nat) (c_0 : List (List (Relation))) (n_6 : Int) (i_7 : Int) : Option ((Int × Int) ⊕ ((Unit ⊕ Bool))) :=
  bif (decide (i_7 < (c_0.length : Int))) then
    (iter (fun s => calqueref08_Few_b2 N c_0 i_7 s.1 s.2) N (n_6, 0)).bind fun o13 =>
    bif (decide (o13 > 80)) then
      some (.inr (.inr false))
    else
      some (.inl (o13, (i_7 + 1)))
  else
    some (.inr (.inl ()))
def calqueref08_Few (N : Nat) (c_0 : List (List (Relation))) : Option Bool :=
  (iter (fun s => calqueref08_Few_b1 N c_0 s.1 s.2) N (0, 0)).bind fun o3 =>
  Sum.elim (fun _o3 =>
    some (decide ((c_0.length : Int) ≤ 30)))
  (fun o3 =>
    some o3) o3
def calquelaw10_few_b1 (N : Nat) (l_0 : List (List (List (Relation)))) (x_4 : Int) : Option (Int ⊕ ((Unit ⊕ Bool))) :=
  bif (decide (x_4 < (l_0.length : Int))) then
    (idx l_0 x_4).bind fun x7 =>
    (calqueref08_Few N x7).bind fun r18 =>
    bif (!r18) then
      some (.inr (.inr false))
    else
      some (.inl (x_4 + 1))
  else
    some (.inr (.inl ()))
def calquelaw10_few (N : Nat) (l_0 : List (List (List (Relation)))) : Option Bool :=
  (iter (fun s => calquelaw10_few_b1 N l_0 s) N 0).bind fun o2 =>
  Sum.elim (fun _o2 =>
    some (decide ((l_0.length : Int) ≤ 12)))
  (fun o2 =>
    some o2) o2
def calqueref07_digits_b1 (_N : Nat) (s_0 : List UInt8) (i_4 : Int) : Option (Int ⊕ ((Unit ⊕ Bool))) :=
  bif (decide (i_4 < (s_0.length : Int))) then
    (idx s_0 i_4).bind fun c7 =>
    bif (decide ((c7.toNat : Int) < 48)) then
      some (.inr (.inr false))
    else
      (idx s_0 i_4).bind fun c10 =>
      bif (decide ((c10.toNat : Int) > 57)) then
        some (.inr (.inr false))
      else
        some (.inl (i_4 + 1))
  else
    some (.inr (.inl ()))
def calqueref07_digits (N : Nat) (s_0 : List UInt8) : Option Bool :=
  (iter (fun s => calqueref07_digits_b1 N s_0 s) N 0).bind fun o2 =>
  Sum.elim (fun _o2 =>
    some true)
  (fun o2 =>
    some o2) o2
def calqueref07_Zero_b1 (_N : Nat) (s_0 : List UInt8) (i_4 : Int) : Option (Int ⊕ ((Unit ⊕ Bool))) :=
  bif (decide (i_4 < (s_0.length : Int))) then
    (idx s_0 i_4).bind fun c7 =>
    bif ((c7.toNat : Int) != 48) then
      some (.inr (.inr false))
    else
      some (.inl (i_4 + 1))
  else
    some (.inr (.inl ()))
def calqueref07_Zero (N : Nat) (s_0 : List UInt8) : Option Bool :=
  (iter (fun s => calqueref07_Zero_b1 N s_0 s) N 0).bind fun o2 =>
  Sum.elim (fun _o2 =>
    some true)
  (fun o2 =>
    some o2) o2
def calqueref07_Split_b1 (_N : Nat) (o6 : ((List UInt8) × Number)) (k_26 : Int) : Option (Int ⊕ Int) :=
  bif (decide (k_26 < (o6.1.length : Int))) then
    (idx o6.1 k_26).bind fun c29 =>
    bif ((c29.toNat : Int) != 46) then
      some (.inl (k_26 + 1))
    else
      some (.inr k_26)
  else
    some (.inr k_26)
def calqueref07_Split_b2 (_N : Nat) (s_0 : List UInt8) (k_75 : Int) : Option (Int ⊕ Int) :=
  bif (decide (k_75 < (s_0.length : Int))) then
    (idx s_0 k_75).bind fun c78 =>
    bif ((c78.toNat : Int) != 46) then
      some (.inl (k_75 + 1))
    else
      some (.inr k_75)
  else
    some (.inr k_75)
def calqueref07_Split (N : Nat) (s_0 : List UInt8) : Option (Number × Bool) :=
  bif (decide ((s_0.length : Int) > 0)) then
    (idx s_0 0).bind fun c4 =>
    (show Option ((List UInt8) × Number) from
      bif ((c4.toNat : Int) == 45) then
        (show Option ((List UInt8) × Number) from
          (slc s_0 1 (s_0.length : Int)).bind fun s15 =>
          some (s15, (Number.mk true ([]) ([])))).bind fun o11 =>
        some (o11.1, o11.2)
      else
        some (s_0, (Number.mk false ([]) ([])))).bind fun o6 =>
    (iter (fun s => calqueref07_Split_b1 N o6 s) N 0).bind fun o24 =>
    (slc o6.1 0 o24).bind fun s33 =>
    (show Option (Number ⊕ (Number × Bool)) from
      bif (decide (o24 < (o6.1.length : Int))) then
        (slc o6.1 (o24 + 1) (o6.1.length : Int)).bind fun s41 =>
        bif ((s41.length : Int) == 0) then
          some (.inr ((Number.mk false ([]) ([])), false))
        else
          some (.inl (Number.mk o6.2.Neg s33 s41))
      else
        some (.inl (Number.mk o6.2.Neg s33 o6.2.Frac))).bind fun o35 =>
    Sum.elim (fun o35 =>
      (cat o35.Whole o35.Frac).bind fun s46 =>
      (calqueref07_digits N s46).bind fun r48 =>
      bif (!r48) then
        some ((Number.mk false ([]) ([])), false)
      else
        bif (decide ((o35.Whole.length : Int) < 1)) then
          some ((Number.mk false ([]) ([])), false)
        else
          bif (decide ((o35.Whole.length : Int) > 15)) then
            some ((Number.mk false ([]) ([])), false)
          else
            bif (decide ((o35.Whole.length : Int) > 1)) then
              (idx o35.Whole 0).bind fun c54 =>
              bif ((c54.toNat : Int) == 48) then
                some ((Number.mk false ([]) ([])), false)
              else
                bif (decide ((o35.Frac.length : Int) > 6)) then
                  some ((Number.mk false ([]) ([])), false)
                else
                  bif o35.Neg then
                    (cat o35.Whole o35.Frac).bind fun s59 =>
                    (calqueref07_Zero N s59).bind fun r61 =>
                    bif r61 then
                      some ((Number.mk false ([]) ([])), false)
                    else
                      some (o35, true)
                  else
                    some (o35, true)
            else
              bif (decide ((o35.Frac.length : Int) > 6)) then
                some ((Number.mk false ([]) ([])), false)
              else
                bif o35.Neg then
                  (cat o35.Whole o35.Frac).bind fun s66 =>
                  (calqueref07_Zero N s66).bind fun r68 =>
                  bif r68 then
                    some ((Number.mk false ([]) ([])), false)
                  else
                    some (o35, true)
                else
                  some (o35, true))
    (fun o35 =>
      some o35) o35
  else
    (iter (fun s => calqueref07_Split_b2 N s_0 s) N 0).bind fun o73 =>
    (slc s_0 0 o73).bind fun s82 =>
    (show Option (Number ⊕ (Number × Bool)) from
      bif (decide (o73 < (s_0.length : Int))) then
        (slc s_0 (o73 + 1) (s_0.length : Int)).bind fun s90 =>
        bif ((s90.length : Int) == 0) then
          some (.inr ((Number.mk false ([]) ([])), false))
        else
          some (.inl (Number.mk false s82 s90))
      else
        some (.inl (Number.mk false s82 ([])))).bind fun o84 =>
    Sum.elim (fun o84 =>
      (cat o84.Whole o84.Frac).bind fun s95 =>
      (calqueref07_digits N s95).bind fun r97 =>
      bif (!r97) then
        some ((Number.mk false ([]) ([])), false)
      else
        bif (decide ((o84.Whole.length : Int) < 1)) then
          some ((Number.mk false ([]) ([])), false)
        else
          bif (decide ((o84.Whole.length : Int) > 15)) then
            some ((Number.mk false ([]) ([])), false)
          else
            bif (decide ((o84.Whole.length : Int) > 1)) then
              (idx o84.Whole 0).bind fun c103 =>
              bif ((c103.toNat : Int) == 48) then
                some ((Number.mk false ([]) ([])), false)
              else
                bif (decide ((o84.Frac.length : Int) > 6)) then
                  some ((Number.mk false ([]) ([])), false)
                else
                  bif o84.Neg then
                    (cat o84.Whole o84.Frac).bind fun s108 =>
                    (calqueref07_Zero N s108).bind fun r110 =>
                    bif r110 then
                      some ((Number.mk false ([]) ([])), false)
                    else
                      some (o84, true)
                  else
                    some (o84, true)
            else
              bif (decide ((o84.Frac.length : Int) > 6)) then
                some ((Number.mk false ([]) ([])), false)
              else
                bif o84.Neg then
                  (cat o84.Whole o84.Frac).bind fun s115 =>
                  (calqueref07_Zero N s115).bind fun r117 =>
                  bif r117 then
                    some ((Number.mk false ([]) ([])), false)
                  else
                    some (o84, true)
                else
                  some (o84, true))
    (fun o84 =>
      some o84) o84
def calqueref07_Valid (N : Nat) (s_0 : List UInt8) : Option Bool :=
  (calqueref07_Split N s_0).bind fun r1 =>
  some r1.2
def calqueref10_Unsigned (N : Nat) (s_0 : List UInt8) : Option Bool :=
  (calqueref07_Valid N s_0).bind fun r1 =>
  bif r1 then
    (idx s_0 0).bind fun c4 =>
    some ((c4.toNat : Int) != 45)
  else
    some false
end Go.Proofs.YtidfofhmnlhfjaaGreatDoor
namespace Go.Proofs.YtidfofhmnlhfjaaGreatDoor
open Go.X
variable {u : World} {m0 : Mem} {S : Segs} {w : World}
set_option maxHeartbeats 4000000
set_option maxRecDepth 100000
def calqueref08_Parse_R (u : World) (m0 : Mem) (S : Segs) (r : (List (List (Relation))) × Int × Int) (a : Act) (w : World) : Prop :=
 ∃ m1 v0, m0.le m1 ∧ Ok u m1 S w ∧ a.defers = [] ∧ RVs Tryz.prog a w [.t 2 v0, .t 3 (.int .i64 r.2.1), .t 4 (.int .i64 r.2.2)] ∧ (pL 1 (pL 4 pRelation)) m1 [v0] r.1 ∧ InR .i64 r.2.1 ∧ InR .i64 r.2.2
theorem calqueref08_Parse_w (N : Nat) (s_0 : List UInt8) (ls_0 : s_0.length ≤ LIMS) {r : (List (List (Relation))) × Int × Int} (hF : calqueref08_Parse N s_0 = some r) (hG : Glob u) (ok : Ok u m0 S w) :
  Calls Tryz.prog 80 [vs s_0].toArray w fun e w' => ∃ m1 v0, e = .returned (.tuple [v0, (.int .i64 r.2.1), (.int .i64 r.2.2)].toArray) ∧ m0.le m1 ∧ Ok u m1 S w' ∧ (pL 1 (pL 4 pRelation)) m1 [v0] r.1 ∧ InR .i64 r.2.1 ∧ InR .i64 r.2.2 := by
 have le_m0 := Mem.le.refl m0
 unfold calqueref08_Parse at hF
 refine en (calqueref08_Parse_R u m0 S) r Tryz.func80 rfl rfl rfl (by rintro a w ⟨m1, v0, hle, ok, hd, hrv, h0, h1, h2⟩; exact c_ret2 [.t 2 v0, .t 3 (.int .i64 r.2.1), .t 4 (.int .i64 r.2.2)] hd rfl hrv ⟨m1, v0, rfl, hle, ok, h0, h1, h2⟩) fun fin a E => sg <| av E rfl fun a E => av E rfl fun a E => aw E rfl fun a E => ?_
 refine sg <| mv E rfl fun a E => lw E (y_build (ps := [(0, .tmp 8)]) (qs := [(0, [vs s_0])]) (cs := [vs s_0, vi 0, (vs ([])), vi 0, vi 0, vi 0]) zero_165 places_165 rfl ⟨rfl, rfl, rfl, trivial⟩ rfl) fun a E => l_box E ok rfl rfl rfl fun b1 a w E ok => aw E rfl fun a E => ?_
 refine sg <| mv E rfl fun a E => ?_
 obtain ⟨r2, e3, hF⟩ := bnd hF
 refine l_call E go_111 rfl (calqueref08_parser_step_w N (Parser.mk s_0 0 (Word.mk ([]) 0) 0 0) ls_0 (ir 0) (Nat.zero_le _) (ir 0) (ir 0) (ir 0) e3 hG ok) rfl rfl ?_
 rintro _ w ⟨⟨rfl, ok⟩, l4, r5, l6, r7, r8, r9⟩
 refine ⟨_, rfl, fun a E => ?_⟩
 refine wn <| sg <| l_slitB (xo := [.const (Value.slice none 0 0)]) (vs := [(Value.slice none 0 0)]) (cs := [(Value.slice none 0 0)]) E ok sl_23 zero_66 rfl (fun v hv => by rw [List.mem_singleton.1 hv]; rfl) rfl rfl rfl rfl rfl fun b10 a w E ok => aw E rfl fun a E => ?_
 refine sg <| aw E rfl fun a E => wp_seq <| wp_block ?_
 obtain ⟨M22, ok, h23⟩ := nilrow (e := 69) (k := 4) (R := pRelation) ok
 obtain ⟨o24, hL, hF⟩ := bnd hF
 refine c_loop _ (fun (s : Int × (List (Relation)) × Parser) a w => ∃ m25 c27 M28, m0.le m25 ∧ Ok u m25 (M28 :: [(b10, oc 66 [c27])] :: [(b1, oc 165 [vs s.2.2.s, vi s.2.2.to_, vs s.2.2.w.text, vi s.2.2.w.at_, vi s.2.2.at_, vi s.2.2.e])] :: S) w ∧ Env 77 a [(0, vs s_0), (5, vp b1), (6, (.slice (some ⟨b10, 0, none⟩) 1 1)), (7, vi s.1)] ∧ InR .i64 s.1 ∧ ORow 69 4 pRelation m25 c27 s.2.1 M28 ∧ s.2.2.s.length ≤ LIMS ∧ InR .i64 s.2.2.to_ ∧ s.2.2.w.text.length ≤ LIMS ∧ InR .i64 s.2.2.w.at_ ∧ InR .i64 s.2.2.at_ ∧ InR .i64 s.2.2.e) (fun (b : ((Parser × (List (Relation))) ⊕ ((List (List (Relation))) × Int × Int))) e a w => (Sum.elim (fun b352 => e = (.exit 0) ∧ ∃ m353 c360 M361, m0.le m353 ∧ Ok u m353 (M361 :: [(b10, oc 66 [c360])] :: [(b1, oc 165 [vs b352.1.s, vi b352.1.to_, vs b352.1.w.text, vi b352.1.w.at_, vi b352.1.at_, vi b352.1.e])] :: S) w ∧ Env 77 a [(5, vp b1)] ∧ b352.1.s.length ≤ LIMS ∧ InR .i64 b352.1.to_ ∧ b352.1.w.text.length ≤ LIMS ∧ InR .i64 b352.1.w.at_ ∧ InR .i64 b352.1.at_ ∧ InR .i64 b352.1.e ∧ ORow 69 4 pRelation m353 c360 b352.2 M361) (fun b363 => e = .ret ∧ calqueref08_Parse_R u m0 S b363 a w)) b) ?_ ?_ N _ a w hL ⟨m0, (Value.slice none 0 0), M22, Mem.le.refl _, ok, E.keep [0, 5, 6, 7], (ir 0), h23, l4, r5, l6, r7, r8, r9⟩
 rotate_left
 ·intro e a w _ hO
  rcases o24 with o24 | o24
  rotate_left
  ·replace hF := elim_r hF
   obtain ⟨rfl, hret⟩ := hO
   refine b_ret <| t_ret ?_
   exact fin hF hret
  replace hF := elim_l hF
  obtain ⟨rfl, m342, c349, M350, hle, ok, E, l343, r344, l345, r346, r347, r348, h351⟩ := hO
  have le_m0 := le_m0.trans hle
  refine b_hit <| t_norm <| wp_seq <| c_draw (by kernel_rfl) (by kernel_rfl) ok <| qv E (y_move rfl) fun a E => qv E (y_nilCheck rfl) fun a E => qv E (y_fieldAddr fo_165_3 rfl) fun a E => qv E (y_load one_3 rfl (Holds.own 2 rfl rfl)) fun a E => ?_
  refine qv E (y_move rfl) fun a E => qv E (y_nilCheck rfl) fun a E => qv E (y_fieldAddr fo_165_4 rfl) fun a E => qv E (y_load one_27 rfl (Holds.own 2 rfl rfl)) fun a E => qv E (y_assign rfl) fun a E => qv E (y_assign rfl) fun a E => qv E (y_assign rfl) fun a E => wpQuiet_nil ?_
  intro w ok
  refine t_norm <| wp_ret ?_
  exact fin hF ⟨m342, (.slice none 0 0), le_m0, ok.drop.drop.drop, E.d, ⟨rv_t E rfl, rv_t E rfl, rv_t E rfl, trivial⟩, pL_nil, r347, r348⟩
 rintro ⟨n_36, x_37, x_38⟩ a w r ⟨m39, c41, M42, hle, ok, E, r40, h43, l44, r45, l46, r47, r48, r49⟩ hF
 replace hF : calqueref08_Parse_b1 N s_0 n_36 x_37 x_38 = some r := hF
 unfold calqueref08_Parse_b1 at hF
 have le_m0 := le_m0.trans hle
 refine wp_seq <| sg <| mv E rfl fun a E => lw E (y_nilCheck rfl) fun a E => fv E fo_165_4 rfl fun a E => ld E ok one_27 2 rfl rfl rfl fun a E => lw E (y_eql rfl rfl) fun a E => ?_
 refine wn <| cf E rfl hF (fun hc50 hF => ?_) fun hc50 hF => ?_
 rotate_left
 ·refine wp_exit <| t_exit ?_
  obtain rfl := sj hF
  exact so (sl ⟨rfl, ⟨m39, c41, M42, le_m0, ok, E.keep [5], l44, r45, l46, r47, r48, r49, h43⟩⟩)
 refine wp_skip <| t_norm <| wp_block <| wp_seq <| sg <| mv E rfl fun a E => lw E (y_eql rfl rfl) fun a E => ?_
 refine mv E rfl fun a E => bsplit (n_36 == 6) (fun hc51 => ?_) (fun hc51 => ?_)
 rotate_left
 ·as_aux_lemma =>
   replace hF := cond_f hc51 hF
   replace E := E.upd 21 hc51 rfl
   refine ls E fun a E => ls E fun a E => pf E rfl rfl fun a E => wn <| c_if E rfl (fun h => by cases h) (fun _ => ?_)
   refine wp_skip <| t_norm <| sg <| mv E rfl fun a E => lw E (y_addw rfl rfl) fun a E => av E rfl fun a E => wpList_nil ?_
   refine t_norm <| wp_seq ?_
   obtain ⟨o209, hJ, hF⟩ := bnd hF
   refine c_mono (Q' := fun e a w => e = .normal ∧ ∃ m210 c211 M212, m39.le m210 ∧ Ok u m210 (M212 :: [(b10, oc 66 [c211])] :: [(b1, oc 165 [vs o209.2.s, vi o209.2.to_, vs o209.2.w.text, vi o209.2.w.at_, vi o209.2.at_, vi o209.2.e])] :: S) w ∧ Env 77 a [(0, vs s_0), (5, vp b1), (6, (.slice (some ⟨b10, 0, none⟩) 1 1)), (7, (vi (IntKind.wrap .i64 (n_36 + 1))))] ∧ ORow 69 4 pRelation m210 c211 o209.1 M212 ∧ o209.2.s.length ≤ LIMS ∧ InR .i64 o209.2.to_ ∧ o209.2.w.text.length ≤ LIMS ∧ InR .i64 o209.2.w.at_ ∧ InR .i64 o209.2.at_ ∧ InR .i64 o209.2.e) ?_ ?_
   ·replace hF := hJ
    clear hJ
    have le_m39 := Mem.le.refl m39
    obtain ⟨r220, e221, hF⟩ := bnd hF
    obtain ⟨l238, e239, hF⟩ := bnd hF
    obtain rfl := sj hF
    refine k_begin [9] (Cls u m39 ([(b10, oc 66 [c41])] :: [])) (Cls u m39 ([])) (by kernel_rfl) ?_
    intro w hw
    replace ok := okdrew ok hw
    clear hw
    refine k_next (cl1 (cq le_m39 ok [1] rfl) (cq le_m39 ok [] rfl)) fun hT => kt 0 E rfl hT (y_move rfl) fun a E => kt 1 E rfl hT (y_move rfl) fun a E => kt 2 E rfl hT (y_len Tryz.underlying23 rfl) fun a E => kt 3 E rfl hT (y_subw rfl rfl) fun a E => kt 4 E rfl hT (y_move rfl) fun a E => kt 5 E rfl hT (y_move rfl) fun a E => kt 6 E rfl hT (y_len Tryz.underlying23 rfl) fun a E => ?_
    refine kt 7 E rfl hT (y_subw rfl rfl) fun a E => kt 8 E rfl hT (y_idxB sl_23 rfl rfl rfl) fun a E => k_takeN 9 E rfl (by kernel_rfl) nP hT (y_load one_66 rfl (Holds.cown 0 rfl rfl)) rfl rfl fun a E => kt 10 E rfl hT (y_move rfl) fun a E => k_all [11] (by kernel_rfl) rfl (one_c ?_)
    ·refine wpOp_of_list (o := _) rfl ?_
     replace ok : Ok u m39 ([(b1, oc 165 [vs x_38.s, vi x_38.to_, vs x_38.w.text, vi x_38.w.at_, vi x_38.at_, vi x_38.e])] :: M42 :: [(b10, oc 66 [c41])] :: S) w := (ok.pk 3 [2, 0, 1] rfl (by decide))
     refine l_call E go_114 rfl (calqueref08_parser_relation_w N x_38 l44 r45 l46 r47 r48 r49 e221 hG ok) rfl rfl ?_
     rintro _ w ⟨m243, vs244, rfl, hle, ok, h245, l246, r247, l248, r249, r250, r251⟩
     have le_m0 := le_m0.trans hle
     have le_m39 := le_m39.trans hle
     have h43 := ORow.up mRelation hle h43
     obtain ⟨c254, rfl, r252, r253, h255⟩ := h245
     refine ⟨_, rfl, fun a E => ?_⟩
     refine wn <| k_next (cl1 (cq le_m39 ok [2] rfl) (cq le_m39 ok [] rfl)) fun hT => k_all [12] (by kernel_rfl) rfl (one_c ?_)
     ·refine wo rfl <| l_slit (R := pRelation) (xo := [.tmp 40]) (xs := ([r220.1] : List (Relation))) E ok sl_66 zero_69 rfl ⟨⟨_, rfl, rfl, ⟨_, rfl, r252, r253, h255⟩⟩, trivial⟩ rfl rfl rfl rfl fun c256 M257 a w E ok h258 => wn <| k_next (cl1 (cq le_m39 ok [3] rfl) (cq le_m39 ok [] rfl)) fun hT => k_all [13] (by kernel_rfl) rfl (one_c ?_)
      ·refine wo rfl <| l_app (R := pRelation) E ok 2 mRelation sl_66 Tryz.underlying66 rfl h43 (SrcOK.ofRow h258 0 rfl ok) e239 ⟨_, zero_69, rfl⟩ rfl rfl rfl rfl fun c259 M260 a w E ok h261 => wn <| k_next (cl1 (cq le_m39 ok [3] rfl) (cq le_m39 ok [] rfl)) fun hT => kt 14 E rfl hT (y_idxB sl_23 rfl rfl rfl) fun a E => k_all [15] (by kernel_rfl) rfl (one_c ?_)
       ·refine wo rfl <| l_storeB E ok 3 rfl rfl rfl inf_66 (ORow.cells h261) rfl ⟨(ORow.one h261), trivial⟩ rfl rfl fun w ok => wn <| k_next (cl2 (by kernel_rfl) (cq le_m39 ok [] rfl)) fun hT => k_done (by kernel_rfl) ?_
        exact ⟨rfl, ⟨m243, c259, M260, le_m39, (ok.pk 4 [2, 3, 1] rfl (by decide)), E.keep [0, 5, 6, 7], h261, l246, r247, l248, r249, r250, r251⟩⟩
   clear hJ
   intro e a w hO
   obtain ⟨rfl, m262, c263, M264, hle, ok, E, h265, l266, r267, l268, r269, r270, r271⟩ := hO
   have le_m0 := le_m0.trans hle
   refine t_norm <| wp_seq <| sg <| mv E rfl fun a E => ?_
   obtain ⟨r272, e273, hF⟩ := bnd hF
   replace ok : Ok u m262 ([(b1, oc 165 [vs o209.2.s, vi o209.2.to_, vs o209.2.w.text, vi o209.2.w.at_, vi o209.2.at_, vi o209.2.e])] :: M264 :: [(b10, oc 66 [c263])] :: S) w := (ok.pk 3 [2, 0, 1] rfl (by decide))
   refine lc E go_115 rfl (calqueref08_parser_is_w N ([]) (show ([] : List UInt8).length ≤ LIMS by decide) o209.2 l266 r267 l268 r269 r270 r271 e273 hG ok) fun w ok a E => mv E rfl fun a E => bsplit r272 (fun hc274 => ?_) (fun hc274 => ?_)
   rotate_left
   ·replace hF := cond_f hc274 hF
    replace E := E.upd 46 hc274 rfl
    refine ls E fun a E => ls E fun a E => ls E fun a E => ls E fun a E => ls E fun a E => ls E fun a E => ls E fun a E => ls E fun a E => ?_
    refine pf E rfl rfl fun a E => wn <| c_if E rfl (fun h => by cases h) (fun _ => ?_)
    refine wp_skip <| t_norm <| wp_seq <| sg <| mv E rfl fun a E => ?_
    obtain ⟨r311, e312, hF⟩ := bnd hF
    refine lc E go_115 rfl (calqueref08_parser_is_w N ([111, 114]) (show ([111, 114] : List UInt8).length ≤ LIMS by decide) o209.2 l266 r267 l268 r269 r270 r271 e312 hG ok) fun w ok a E => wn <| cf E rfl hF (fun hc313 hF => ?_) fun hc313 hF => ?_
    ·cases hF
    refine sg <| mv E rfl fun a E => ?_
    obtain ⟨r315, e316, hF⟩ := bnd hF
    refine lc E go_115 rfl (calqueref08_parser_is_w N ([97, 110, 100]) (show ([97, 110, 100] : List UInt8).length ≤ LIMS by decide) o209.2 l266 r267 l268 r269 r270 r271 e316 hG ok) fun w ok a E => lw E (y_not rfl) fun a E => wn <| cf E rfl hF (fun hc317 hF => ?_) fun hc317 hF => ?_
    rotate_left
    ·refine wp_skip <| t_norm <| c_region <| mv E rfl fun a E => ?_
     obtain ⟨r334, e335, hF⟩ := bnd hF
     refine l_call E go_111 rfl (calqueref08_parser_step_w N o209.2 l266 r267 l268 r269 r270 r271 e335 hG ok) rfl rfl ?_
     rintro _ w ⟨⟨rfl, ok⟩, l336, r337, l338, r339, r340, r341⟩
     refine ⟨_, rfl, fun a E => ?_⟩
     refine wpList_nil <| b_norm ?_
     obtain rfl := sj hF
     exact step_n ⟨m262, c263, M264, le_m0, (ok.pk 3 [1, 2, 0] rfl (by decide)), E.keep [0, 5, 6, 7], (InR.wrap _ _), h265, l336, r337, l338, r339, r340, r341⟩
    refine c_region <| mv E rfl fun a E => ?_
    obtain ⟨r318, e319, hF⟩ := bnd hF
    refine l_call E go_113 rfl (calqueref08_parser_fail_w N 3 (ir 3) o209.2 l266 r267 l268 r269 r270 r271 e319 hG ok) rfl rfl ?_
    rintro _ w ⟨⟨rfl, ok⟩, l320, r321, l322, r323, r324, r325⟩
    refine ⟨_, rfl, fun a E => ?_⟩
    refine wn <| c_region <| mv E rfl fun a E => ?_
    obtain ⟨r326, e327, hF⟩ := bnd hF
    refine l_call E go_111 rfl (calqueref08_parser_step_w N r318 l320 r321 l322 r323 r324 r325 e327 hG ok) rfl rfl ?_
    rintro _ w ⟨⟨rfl, ok⟩, l328, r329, l330, r331, r332, r333⟩
    refine ⟨_, rfl, fun a E => ?_⟩
    refine wpList_nil <| b_norm ?_
    obtain rfl := sj hF
    exact step_n ⟨m262, c263, M264, le_m0, (ok.pk 3 [1, 2, 0] rfl (by decide)), E.keep [0, 5, 6, 7], (InR.wrap _ _), h265, l328, r329, l330, r331, r332, r333⟩
   replace hF := cond_t hc274 hF
   replace E := E.upd 46 hc274 rfl
   refine mv E rfl fun a E => lw E (y_nilCheck rfl) fun a E => fv E fo_165_2 rfl fun a E => fv E fo_163_1 rfl fun a E => ld E ok one_3 0 rfl rfl rfl fun a E => mv E rfl fun a E => lw E (y_slen Tryz.underlying9 rfl) fun a E => lw E (y_eql rfl rfl) fun a E => ?_
   refine pt E rfl rfl fun a E => wn <| cf E rfl hF (fun hc275 hF => ?_) fun hc275 hF => ?_
   ·refine sg <| mv E rfl fun a E => av E rfl fun a E => av E rfl fun a E => aw E rfl fun a E => ?_
    refine wp_ret <| t_ret <| b_ret ?_
    obtain ⟨m276, hle, ok, hfz⟩ := (ok.frs 1 rfl).freeze
    have h277 := ORow.froz mRelation h265 hle hfz (by decide)
    have le_m0 := le_m0.trans hle
    have lits := (show Lits 1 (pL 4 pRelation) m276 [c263] ([o209.1] : List (List (Relation))) from ⟨⟨_, (pL_cells h277), rfl, h277⟩, trivial⟩)
    obtain ⟨m278, hle, ok, hfz⟩ := (ok.frs 1 rfl).freeze
    have h279 := pL_froz (n := 1) (mL mRelation) lits (catc_one (pL_cells h277)) hle hfz rfl rfl
    clear lits
    have le_m0 := le_m0.trans hle
    have h277 := (mL mRelation).up hle h277
    obtain rfl := sj hF
    exact so (sr ⟨rfl, ⟨m278, (.slice (some ⟨b10, 0, none⟩) 1 1), le_m0, ok.drop, E.d, ⟨rv_t E rfl, rv_t E rfl, rv_t E rfl, trivial⟩, h279, (ir 0), (ir 0)⟩⟩)
   refine wp_skip <| t_norm <| wp_seq <| sg <| mv E rfl fun a E => ?_
   obtain ⟨r280, e281, hF⟩ := bnd hF
   refine lc E go_115 rfl (calqueref08_parser_is_w N ([111, 114]) (show ([111, 114] : List UInt8).length ≤ LIMS by decide) o209.2 l266 r267 l268 r269 r270 r271 e281 hG ok) fun w ok a E => wn <| cf E rfl hF (fun hc282 hF => ?_) fun hc282 hF => ?_
   ·cases hF
   refine sg <| mv E rfl fun a E => ?_
   obtain ⟨r284, e285, hF⟩ := bnd hF
   refine lc E go_115 rfl (calqueref08_parser_is_w N ([97, 110, 100]) (show ([97, 110, 100] : List UInt8).length ≤ LIMS by decide) o209.2 l266 r267 l268 r269 r270 r271 e285 hG ok) fun w ok a E => lw E (y_not rfl) fun a E => wn <| cf E rfl hF (fun hc286 hF => ?_) fun hc286 hF => ?_
   rotate_left
   ·refine wp_skip <| t_norm <| c_region <| mv E rfl fun a E => ?_
    obtain ⟨r303, e304, hF⟩ := bnd hF
    refine l_call E go_111 rfl (calqueref08_parser_step_w N o209.2 l266 r267 l268 r269 r270 r271 e304 hG ok) rfl rfl ?_
    rintro _ w ⟨⟨rfl, ok⟩, l305, r306, l307, r308, r309, r310⟩
    refine ⟨_, rfl, fun a E => ?_⟩
    refine wpList_nil <| b_norm ?_
    obtain rfl := sj hF
    exact step_n ⟨m262, c263, M264, le_m0, (ok.pk 3 [1, 2, 0] rfl (by decide)), E.keep [0, 5, 6, 7], (InR.wrap _ _), h265, l305, r306, l307, r308, r309, r310⟩
   refine c_region <| mv E rfl fun a E => ?_
   obtain ⟨r287, e288, hF⟩ := bnd hF
   refine l_call E go_113 rfl (calqueref08_parser_fail_w N 3 (ir 3) o209.2 l266 r267 l268 r269 r270 r271 e288 hG ok) rfl rfl ?_
   rintro _ w ⟨⟨rfl, ok⟩, l289, r290, l291, r292, r293, r294⟩
   refine ⟨_, rfl, fun a E => ?_⟩
   refine wn <| c_region <| mv E rfl fun a E => ?_
   obtain ⟨r295, e296, hF⟩ := bnd hF
   refine l_call E go_111 rfl (calqueref08_parser_step_w N r287 l289 r290 l291 r292 r293 r294 e296 hG ok) rfl rfl ?_
   rintro _ w ⟨⟨rfl, ok⟩, l297, r298, l299, r300, r301, r302⟩
   refine ⟨_, rfl, fun a E => ?_⟩
   refine wpList_nil <| b_norm ?_
   obtain rfl := sj hF
   exact step_n ⟨m262, c263, M264, le_m0, (ok.pk 3 [1, 2, 0] rfl (by decide)), E.keep [0, 5, 6, 7], (InR.wrap _ _), h265, l297, r298, l299, r300, r301, r302⟩
 replace hF := cond_t hc51 hF
 replace E := E.upd 21 hc51 rfl
 refine mv E rfl fun a E => ?_
 obtain ⟨r52, e53, hF⟩ := bnd hF
 replace ok : Ok u m39 ([(b1, oc 165 [vs x_38.s, vi x_38.to_, vs x_38.w.text, vi x_38.w.at_, vi x_38.at_, vi x_38.e])] :: M42 :: [(b10, oc 66 [c41])] :: S) w := (ok.pk 3 [2, 0, 1] rfl (by decide))
 refine lc E go_112 rfl (calqueref08_parser_letter_w N x_38 l44 r45 l46 r47 r48 r49 e53 hG ok) fun w ok a E => pt E rfl rfl fun a E => wn ?_
 obtain ⟨o54, hJ, hF⟩ := bnd hF
 refine c_mono (Q' := fun e a w => e = .normal ∧ Ok u m39 ([(b1, oc 165 [vs o54.s, vi o54.to_, vs o54.w.text, vi o54.w.at_, vi o54.at_, vi o54.e])] :: M42 :: [(b10, oc 66 [c41])] :: S) w ∧ Env 77 a [(0, vs s_0), (5, vp b1), (6, (.slice (some ⟨b10, 0, none⟩) 1 1)), (7, vi n_36)] ∧ o54.s.length ≤ LIMS ∧ InR .i64 o54.to_ ∧ o54.w.text.length ≤ LIMS ∧ InR .i64 o54.w.at_ ∧ InR .i64 o54.at_ ∧ InR .i64 o54.e) ?_ ?_
 ·replace hF := hJ
  clear hJ
  refine cf E rfl hF (fun hc61 hF => ?_) fun hc61 hF => ?_
  rotate_left
  ·refine wp_skip ?_
   obtain rfl := sj hF
   exact ⟨rfl, ⟨ok, E.keep [0, 5, 6, 7], l44, r45, l46, r47, r48, r49⟩⟩
  refine c_region <| mv E rfl fun a E => ?_
  obtain ⟨r62, e63, hF⟩ := bnd hF
  refine l_call E go_113 rfl (calqueref08_parser_fail_w N 6 (ir 6) x_38 l44 r45 l46 r47 r48 r49 e63 hG ok) rfl rfl ?_
  rintro _ w ⟨⟨rfl, ok⟩, l64, r65, l66, r67, r68, r69⟩
  refine ⟨_, rfl, fun a E => ?_⟩
  refine wpList_nil ?_
  obtain rfl := sj hF
  exact ⟨rfl, ⟨ok, E.keep [0, 5, 6, 7], l64, r65, l66, r67, r68, r69⟩⟩
 clear hJ
 intro e a w hO
 obtain ⟨rfl, ok, E, l70, r71, l72, r73, r74, r75⟩ := hO
 refine t_norm <| sg <| mv E rfl fun a E => lw E (y_addw rfl rfl) fun a E => aw E rfl fun a E => ?_
 refine wp_seq ?_
 obtain ⟨o76, hJ, hF⟩ := bnd hF
 refine c_mono (Q' := fun e a w => e = .normal ∧ ∃ m77 c84 M85, m39.le m77 ∧ Ok u m77 ([(b1, oc 165 [vs o76.1.s, vi o76.1.to_, vs o76.1.w.text, vi o76.1.w.at_, vi o76.1.at_, vi o76.1.e])] :: M85 :: [(b10, oc 66 [c84])] :: S) w ∧ Env 77 a [(0, vs s_0), (5, vp b1), (6, (.slice (some ⟨b10, 0, none⟩) 1 1)), (7, (vi (IntKind.wrap .i64 (n_36 + 1))))] ∧ o76.1.s.length ≤ LIMS ∧ InR .i64 o76.1.to_ ∧ o76.1.w.text.length ≤ LIMS ∧ InR .i64 o76.1.w.at_ ∧ InR .i64 o76.1.at_ ∧ InR .i64 o76.1.e ∧ ORow 69 4 pRelation m77 c84 o76.2 M85) ?_ ?_
 ·replace hF := hJ
  clear hJ
  have le_m39 := Mem.le.refl m39
  obtain ⟨r87, e88, hF⟩ := bnd hF
  obtain ⟨l105, e106, hF⟩ := bnd hF
  obtain rfl := sj hF
  refine k_begin [9] (Cls u m39 ([(b10, oc 66 [c41])] :: [])) (Cls u m39 ([])) (by kernel_rfl) ?_
  intro w hw
  replace ok := okdrew ok hw
  clear hw
  refine k_next (cl1 (cq le_m39 ok [2] rfl) (cq le_m39 ok [] rfl)) fun hT => kt 0 E rfl hT (y_move rfl) fun a E => kt 1 E rfl hT (y_move rfl) fun a E => kt 2 E rfl hT (y_len Tryz.underlying23 rfl) fun a E => kt 3 E rfl hT (y_subw rfl rfl) fun a E => kt 4 E rfl hT (y_move rfl) fun a E => kt 5 E rfl hT (y_move rfl) fun a E => kt 6 E rfl hT (y_len Tryz.underlying23 rfl) fun a E => ?_
  refine kt 7 E rfl hT (y_subw rfl rfl) fun a E => kt 8 E rfl hT (y_idxB sl_23 rfl rfl rfl) fun a E => k_takeN 9 E rfl (by kernel_rfl) nP hT (y_load one_66 rfl (Holds.cown 0 rfl rfl)) rfl rfl fun a E => kt 10 E rfl hT (y_move rfl) fun a E => k_all [11] (by kernel_rfl) rfl (one_c ?_)
  ·refine wo rfl <| l_call E go_114 rfl (calqueref08_parser_relation_w N o54 l70 r71 l72 r73 r74 r75 e88 hG ok) rfl rfl ?_
   rintro _ w ⟨m110, vs111, rfl, hle, ok, h112, l113, r114, l115, r116, r117, r118⟩
   have le_m0 := le_m0.trans hle
   have le_m39 := le_m39.trans hle
   have h43 := ORow.up mRelation hle h43
   obtain ⟨c121, rfl, r119, r120, h122⟩ := h112
   refine ⟨_, rfl, fun a E => ?_⟩
   refine wn <| k_next (cl1 (cq le_m39 ok [2] rfl) (cq le_m39 ok [] rfl)) fun hT => k_all [12] (by kernel_rfl) rfl (one_c ?_)
   ·refine wo rfl <| l_slit (R := pRelation) (xo := [.tmp 40]) (xs := ([r87.1] : List (Relation))) E ok sl_66 zero_69 rfl ⟨⟨_, rfl, rfl, ⟨_, rfl, r119, r120, h122⟩⟩, trivial⟩ rfl rfl rfl rfl fun c123 M124 a w E ok h125 => wn <| k_next (cl1 (cq le_m39 ok [3] rfl) (cq le_m39 ok [] rfl)) fun hT => k_all [13] (by kernel_rfl) rfl (one_c ?_)
    ·refine wo rfl <| l_app (R := pRelation) E ok 2 mRelation sl_66 Tryz.underlying66 rfl h43 (SrcOK.ofRow h125 0 rfl ok) e106 ⟨_, zero_69, rfl⟩ rfl rfl rfl rfl fun c126 M127 a w E ok h128 => wn <| k_next (cl1 (cq le_m39 ok [3] rfl) (cq le_m39 ok [] rfl)) fun hT => kt 14 E rfl hT (y_idxB sl_23 rfl rfl rfl) fun a E => k_all [15] (by kernel_rfl) rfl (one_c ?_)
     ·refine wo rfl <| l_storeB E ok 3 rfl rfl rfl inf_66 (ORow.cells h128) rfl ⟨(ORow.one h128), trivial⟩ rfl rfl fun w ok => wn <| k_next (cl2 (by kernel_rfl) (cq le_m39 ok [] rfl)) fun hT => k_done (by kernel_rfl) ?_
      exact ⟨rfl, ⟨m110, c126, M127, le_m39, (ok.pk 4 [1, 2, 3] rfl (by decide)), E.keep [0, 5, 6, 7], l113, r114, l115, r116, r117, r118, h128⟩⟩
 clear hJ
 intro e a w hO
 obtain ⟨rfl, m129, c136, M137, hle, ok, E, l130, r131, l132, r133, r134, r135, h138⟩ := hO
 have le_m0 := le_m0.trans hle
 refine t_norm <| wp_seq <| sg <| mv E rfl fun a E => ?_
 obtain ⟨r139, e140, hF⟩ := bnd hF
 refine lc E go_115 rfl (calqueref08_parser_is_w N ([]) (show ([] : List UInt8).length ≤ LIMS by decide) o76.1 l130 r131 l132 r133 r134 r135 e140 hG ok) fun w ok a E => mv E rfl fun a E => bsplit r139 (fun hc141 => ?_) (fun hc141 => ?_)
 rotate_left
 ·replace hF := cond_f hc141 hF
  replace E := E.upd 46 hc141 rfl
  refine ls E fun a E => ls E fun a E => ls E fun a E => ls E fun a E => ls E fun a E => ls E fun a E => ls E fun a E => ls E fun a E => ?_
  refine pf E rfl rfl fun a E => wn <| c_if E rfl (fun h => by cases h) (fun _ => ?_)
  refine wp_skip <| t_norm <| wp_seq <| sg <| mv E rfl fun a E => ?_
  obtain ⟨r178, e179, hF⟩ := bnd hF
  refine lc E go_115 rfl (calqueref08_parser_is_w N ([111, 114]) (show ([111, 114] : List UInt8).length ≤ LIMS by decide) o76.1 l130 r131 l132 r133 r134 r135 e179 hG ok) fun w ok a E => wn <| cf E rfl hF (fun hc180 hF => ?_) fun hc180 hF => ?_
  ·cases hF
  refine sg <| mv E rfl fun a E => ?_
  obtain ⟨r182, e183, hF⟩ := bnd hF
  refine lc E go_115 rfl (calqueref08_parser_is_w N ([97, 110, 100]) (show ([97, 110, 100] : List UInt8).length ≤ LIMS by decide) o76.1 l130 r131 l132 r133 r134 r135 e183 hG ok) fun w ok a E => lw E (y_not rfl) fun a E => wn <| cf E rfl hF (fun hc184 hF => ?_) fun hc184 hF => ?_
  rotate_left
  ·refine wp_skip <| t_norm <| c_region <| mv E rfl fun a E => ?_
   obtain ⟨r201, e202, hF⟩ := bnd hF
   refine l_call E go_111 rfl (calqueref08_parser_step_w N o76.1 l130 r131 l132 r133 r134 r135 e202 hG ok) rfl rfl ?_
   rintro _ w ⟨⟨rfl, ok⟩, l203, r204, l205, r206, r207, r208⟩
   refine ⟨_, rfl, fun a E => ?_⟩
   refine wpList_nil <| b_norm ?_
   obtain rfl := sj hF
   exact step_n ⟨m129, c136, M137, le_m0, (ok.pk 3 [1, 2, 0] rfl (by decide)), E.keep [0, 5, 6, 7], (InR.wrap _ _), h138, l203, r204, l205, r206, r207, r208⟩
  refine c_region <| mv E rfl fun a E => ?_
  obtain ⟨r185, e186, hF⟩ := bnd hF
  refine l_call E go_113 rfl (calqueref08_parser_fail_w N 3 (ir 3) o76.1 l130 r131 l132 r133 r134 r135 e186 hG ok) rfl rfl ?_
  rintro _ w ⟨⟨rfl, ok⟩, l187, r188, l189, r190, r191, r192⟩
  refine ⟨_, rfl, fun a E => ?_⟩
  refine wn <| c_region <| mv E rfl fun a E => ?_
  obtain ⟨r193, e194, hF⟩ := bnd hF
  refine l_call E go_111 rfl (calqueref08_parser_step_w N r185 l187 r188 l189 r190 r191 r192 e194 hG ok) rfl rfl ?_
  rintro _ w ⟨⟨rfl, ok⟩, l195, r196, l197, r198, r199, r200⟩
  refine ⟨_, rfl, fun a E => ?_⟩
  refine wpList_nil <| b_norm ?_
  obtain rfl := sj hF
  exact step_n ⟨m129, c136, M137, le_m0, (ok.pk 3 [1, 2, 0] rfl (by decide)), E.keep [0, 5, 6, 7], (InR.wrap _ _), h138, l195, r196, l197, r198, r199, r200⟩
 replace hF := cond_t hc141 hF
 replace E := E.upd 46 hc141 rfl
 refine mv E rfl fun a E => lw E (y_nilCheck rfl) fun a E => fv E fo_165_2 rfl fun a E => fv E fo_163_1 rfl fun a E => ld E ok one_3 0 rfl rfl rfl fun a E => mv E rfl fun a E => lw E (y_slen Tryz.underlying9 rfl) fun a E => lw E (y_eql rfl rfl) fun a E => ?_
 refine pt E rfl rfl fun a E => wn <| cf E rfl hF (fun hc142 hF => ?_) fun hc142 hF => ?_
 ·refine sg <| mv E rfl fun a E => av E rfl fun a E => av E rfl fun a E => aw E rfl fun a E => ?_
  refine wp_ret <| t_ret <| b_ret ?_
  obtain ⟨m143, hle, ok, hfz⟩ := (ok.frs 1 rfl).freeze
  have h144 := ORow.froz mRelation h138 hle hfz (by decide)
  have le_m0 := le_m0.trans hle
  have lits := (show Lits 1 (pL 4 pRelation) m143 [c136] ([o76.2] : List (List (Relation))) from ⟨⟨_, (pL_cells h144), rfl, h144⟩, trivial⟩)
  obtain ⟨m145, hle, ok, hfz⟩ := (ok.frs 1 rfl).freeze
  have h146 := pL_froz (n := 1) (mL mRelation) lits (catc_one (pL_cells h144)) hle hfz rfl rfl
  clear lits
  have le_m0 := le_m0.trans hle
  have h144 := (mL mRelation).up hle h144
  obtain rfl := sj hF
  exact so (sr ⟨rfl, ⟨m145, (.slice (some ⟨b10, 0, none⟩) 1 1), le_m0, ok.drop, E.d, ⟨rv_t E rfl, rv_t E rfl, rv_t E rfl, trivial⟩, h146, (ir 0), (ir 0)⟩⟩)
 refine wp_skip <| t_norm <| wp_seq <| sg <| mv E rfl fun a E => ?_
 obtain ⟨r147, e148, hF⟩ := bnd hF
 refine lc E go_115 rfl (calqueref08_parser_is_w N ([111, 114]) (show ([111, 114] : List UInt8).length ≤ LIMS by decide) o76.1 l130 r131 l132 r133 r134 r135 e148 hG ok) fun w ok a E => wn <| cf E rfl hF (fun hc149 hF => ?_) fun hc149 hF => ?_
 ·cases hF
 refine sg <| mv E rfl fun a E => ?_
 obtain ⟨r151, e152, hF⟩ := bnd hF
 refine lc E go_115 rfl (calqueref08_parser_is_w N ([97, 110, 100]) (show ([97, 110, 100] : List UInt8).length ≤ LIMS by decide) o76.1 l130 r131 l132 r133 r134 r135 e152 hG ok) fun w ok a E => lw E (y_not rfl) fun a E => wn <| cf E rfl hF (fun hc153 hF => ?_) fun hc153 hF => ?_
 rotate_left
 ·refine wp_skip <| t_norm <| c_region <| mv E rfl fun a E => ?_
  obtain ⟨r170, e171, hF⟩ := bnd hF
  refine l_call E go_111 rfl (calqueref08_parser_step_w N o76.1 l130 r131 l132 r133 r134 r135 e171 hG ok) rfl rfl ?_
  rintro _ w ⟨⟨rfl, ok⟩, l172, r173, l174, r175, r176, r177⟩
  refine ⟨_, rfl, fun a E => ?_⟩
  refine wpList_nil <| b_norm ?_
  obtain rfl := sj hF
  exact step_n ⟨m129, c136, M137, le_m0, (ok.pk 3 [1, 2, 0] rfl (by decide)), E.keep [0, 5, 6, 7], (InR.wrap _ _), h138, l172, r173, l174, r175, r176, r177⟩
 refine c_region <| mv E rfl fun a E => ?_
 obtain ⟨r154, e155, hF⟩ := bnd hF
 refine l_call E go_113 rfl (calqueref08_parser_fail_w N 3 (ir 3) o76.1 l130 r131 l132 r133 r134 r135 e155 hG ok) rfl rfl ?_
 rintro _ w ⟨⟨rfl, ok⟩, l156, r157, l158, r159, r160, r161⟩
 refine ⟨_, rfl, fun a E => ?_⟩
 refine wn <| c_region <| mv E rfl fun a E => ?_
 obtain ⟨r162, e163, hF⟩ := bnd hF
 refine l_call E go_111 rfl (calqueref08_parser_step_w N r154 l156 r157 l158 r159 r160 r161 e163 hG ok) rfl rfl ?_
 rintro _ w ⟨⟨rfl, ok⟩, l164, r165, l166, r167, r168, r169⟩
 refine ⟨_, rfl, fun a E => ?_⟩
 refine wpList_nil <| b_norm ?_
 obtain rfl := sj hF
 exact step_n ⟨m129, c136, M137, le_m0, (ok.pk 3 [1, 2, 0] rfl (by decide)), E.keep [0, 5, 6, 7], (InR.wrap _ _), h138, l164, r165, l166, r167, r168, r169⟩
def calquelaw10_cond_R (u : World) (m0 : Mem) (S : Segs) (r : (List (List (Relation)))) (a : Act) (w : World) : Prop :=
 ∃ m1 v0, m0.le m1 ∧ Ok u m1 S w ∧ a.defers = [] ∧ RVs Tryz.prog a w [.t 2 v0] ∧ (pL 1 (pL 4 pRelation)) m1 [v0] r
theorem calquelaw10_cond_w (N : Nat) (s_0 : List UInt8) (ls_0 : s_0.length ≤ LIMS) {r : (List (List (Relation)))} (hF : calquelaw10_cond N s_0 = some r) (hG : Glob u) (ok : Ok u m0 S w) :
  Calls Tryz.prog 35 [Value.string (bs s_0)].toArray w fun e w' => ∃ m1 v0, e = .returned v0 ∧ m0.le m1 ∧ Ok u m1 S w' ∧ (pL 1 (pL 4 pRelation)) m1 [v0] r := by
 have le_m0 := Mem.le.refl m0
 unfold calquelaw10_cond at hF
 refine en (calquelaw10_cond_R u m0 S) r Tryz.func35 rfl rfl rfl (by rintro a w ⟨m1, v0, hle, ok, hd, hrv, h0⟩; exact c_ret2 [.t 2 v0] hd rfl hrv ⟨m1, v0, rfl, hle, ok, h0⟩) fun fin a E => sg <| aw E rfl fun a E => sg ?_
 refine mv E rfl fun a E => ?_
 obtain ⟨r1, e2, hF⟩ := bnd hF
 refine l_call E go_80 rfl (calqueref08_Parse_w N s_0 ls_0 e2 hG ok) rfl rfl ?_
 rintro _ w ⟨m3, c4, rfl, hle, ok, h5, r6, r7⟩
 have le_m0 := le_m0.trans hle
 refine ⟨_, rfl, fun a E => ?_⟩
 refine mv E rfl fun a E => lw E (y_extract rfl rfl) fun a E => lw E (y_extract rfl rfl) fun a E => lw E (y_extract rfl rfl) fun a E => av E rfl fun a E => av E rfl fun a E => av E rfl fun a E => wpList_nil ?_
 refine t_norm <| sg <| mv E rfl fun a E => aw E rfl fun a E => wp_ret ?_
 exact fin hF ⟨m3, c4, le_m0, ok, E.d, ⟨rv_t E rfl, trivial⟩, h5⟩
def calquelaw10_awake_R (u : World) (m0 : Mem) (S : Segs) (r : Bool) (a : Act) (w : World) : Prop :=
 Ok u m0 S w ∧ a.defers = [] ∧ RVs Tryz.prog a w [.t 0 (.bool r)]
theorem calquelaw10_awake_w (N : Nat) {r : Bool} (hF : calquelaw10_awake N  = some r) (hG : Glob u) (hTb : Tab u) (ok : Ok u m0 S w) :
  Calls Tryz.prog 10 [].toArray w fun e w' => (e = .returned (.bool r) ∧ Ok u m0 S w') := by
 have hb0 := ok.base
 have le_m0 := Mem.le.refl m0
 unfold calquelaw10_awake at hF
 refine en (calquelaw10_awake_R u m0 S) r Tryz.func10 rfl rfl rfl (by rintro a w ⟨ok, hd, hrv⟩; exact c_ret2 [.t 0 (.bool r)] hd rfl hrv ⟨rfl, ok⟩) fun fin a E => sg <| aw E rfl fun a E => sg ?_
 obtain ⟨r1, e2, hF⟩ := bnd hF
 refine l_call E go_35 rfl (calquelaw10_cond_w N ([110, 32, 37, 32, 49, 48, 32, 61, 32, 49]) (show ([110, 32, 37, 32, 49, 48, 32, 61, 32, 49] : List UInt8).length ≤ LIMS by decide) e2 hG ok) rfl rfl ?_
 rintro _ w ⟨m3, c4, rfl, hle, ok, h5⟩
 have le_m0 := le_m0.trans hle
 refine ⟨_, rfl, fun a E => ?_⟩
 refine lw E (y_build (ps := [(0, .const (vs ([111, 110, 101]))), (1, .tmp 8)]) (qs := [(0, [(vs ([111, 110, 101]))]), (1, [c4])]) (cs := [(vs ([111, 110, 101])), c4]) zero_45 places_45 rfl ⟨rfl, rfl, rfl, ⟨rfl, (pL_cells h5), rfl, trivial⟩⟩ rfl) fun a E => ?_
 obtain ⟨r6, e7, hF⟩ := bnd hF
 refine l_call E go_35 rfl (calquelaw10_cond_w N ([110, 32, 37, 32, 49, 48, 48, 32, 61, 32, 49, 49]) (show ([110, 32, 37, 32, 49, 48, 48, 32, 61, 32, 49, 49] : List UInt8).length ≤ LIMS by decide) e7 hG ok) rfl rfl ?_
 rintro _ w ⟨m8, c9, rfl, hle, ok, h10⟩
 have le_m0 := le_m0.trans hle
 have h5 := (mL (mL mRelation)).up hle h5
 refine ⟨_, rfl, fun a E => ?_⟩
 refine lw E (y_build (ps := [(0, .const (vs ([116, 119, 111]))), (1, .tmp 10)]) (qs := [(0, [(vs ([116, 119, 111]))]), (1, [c9])]) (cs := [(vs ([116, 119, 111])), c9]) zero_45 places_45 rfl ⟨rfl, rfl, rfl, ⟨rfl, (pL_cells h10), rfl, trivial⟩⟩ rfl) fun a E => l_slit (R := pRule) (xo := [.tmp 9, .tmp 11]) (xs := ([(Rule.mk ([111, 110, 101]) r1), (Rule.mk ([116, 119, 111]) r6)] : List (Rule))) E ok sl_43 zero_45 rfl ⟨⟨_, rfl, rfl, ⟨_, rfl, (show ([111, 110, 101] : List UInt8).length ≤ LIMS by decide), h5⟩⟩, ⟨_, rfl, rfl, ⟨_, rfl, (show ([116, 119, 111] : List UInt8).length ≤ LIMS by decide), h10⟩⟩, trivial⟩ rfl rfl rfl rfl fun c11 M12 a w E ok h13 => ?_
 obtain ⟨r19, e20, hF⟩ := bnd hF
 obtain ⟨m14, hle16, ok15, hfz17⟩ := (ok.frs 0 rfl).freeze
 have h18 := ORow.froz mRule h13 hle16 hfz17 (by decide)
 refine l_call E go_19 rfl (decide_Disjoint_w N _ ([(Rule.mk ([111, 110, 101]) r1), (Rule.mk ([116, 119, 111]) r6)] : List (Rule)) h18 e20 hG hTb ok15) rfl rfl ?_
 rintro _ w ⟨⟨rfl, okz⟩, r21, r22, l23, r24⟩
 replace ok := (Ok.thawAt 0 rfl ok hle16 hfz17 okz)
 refine ⟨_, rfl, fun a E => ?_⟩
 refine mv E rfl fun a E => lw E (y_extract rfl rfl) fun a E => lw E (y_extract rfl rfl) fun a E => lw E (y_extract rfl rfl) fun a E => lw E (y_extract rfl rfl) fun a E => av E rfl fun a E => av E rfl fun a E => av E rfl fun a E => ?_
 refine aw E rfl fun a E => sg ?_
 obtain ⟨r25, e26, hF⟩ := bnd hF
 refine l_call E go_35 rfl (calquelaw10_cond_w N ([105, 32, 61, 32, 49, 32, 97, 110, 100, 32, 118, 32, 61, 32, 48]) (show ([105, 32, 61, 32, 49, 32, 97, 110, 100, 32, 118, 32, 61, 32, 48] : List UInt8).length ≤ LIMS by decide) e26 hG ok) rfl rfl ?_
 rintro _ w ⟨m27, c28, rfl, hle, ok, h29⟩
 have le_m0 := le_m0.trans hle
 have h5 := (mL (mL mRelation)).up hle h5
 have h10 := (mL (mL mRelation)).up hle h10
 have h13 := ORow.up mRule hle h13
 refine ⟨_, rfl, fun a E => ?_⟩
 obtain ⟨r30, e31, hF⟩ := bnd hF
 refine l_call E go_12 rfl (decide_Weight_w N _ r25 h29 e31 hG ok) rfl rfl ?_
 rintro _ w ⟨⟨rfl, ok⟩, r32, r33⟩
 refine ⟨_, rfl, fun a E => ?_⟩
 refine mv E rfl fun a E => lw E (y_extract rfl rfl) fun a E => lw E (y_extract rfl rfl) fun a E => av E rfl fun a E => aw E rfl fun a E => wp_seq ?_
 refine c_region <| mv E rfl fun a E => lw E (y_eql rfl rfl) fun a E => mv E rfl fun a E => bsplit (r19.2.2.2 == 19) (fun hc34 => ?_) (fun hc34 => ?_)
 rotate_left
 ·replace hF := cond_f hc34 hF
  replace E := E.upd 25 hc34 rfl
  refine ls E fun a E => ls E fun a E => pf E rfl rfl fun a E => mv E rfl fun a E => ls E fun a E => ls E fun a E => pf E rfl rfl fun a E => mv E rfl fun a E => ?_
  refine ls E fun a E => ls E fun a E => pf E rfl rfl fun a E => mv E rfl fun a E => ls E fun a E => ls E fun a E => pf E rfl rfl fun a E => mv E rfl fun a E => ?_
  refine ls E fun a E => ls E fun a E => pf E rfl rfl fun a E => aw E rfl fun a E => wp_ret ?_
  exact fin hF ⟨(ok.drop).down hb0 le_m0, E.d, ⟨rv_t E rfl, trivial⟩⟩
 replace hF := cond_t hc34 hF
 replace E := E.upd 25 hc34 rfl
 refine mv E rfl fun a E => lw E (y_eql rfl rfl) fun a E => pt E rfl rfl fun a E => mv E rfl fun a E => bsplit (r30.2 == 0) (fun hc35 => ?_) (fun hc35 => ?_)
 rotate_left
 ·replace hF := cond_f hc35 hF
  replace E := E.upd 29 hc35 rfl
  refine ls E fun a E => ls E fun a E => pf E rfl rfl fun a E => mv E rfl fun a E => ls E fun a E => ls E fun a E => pf E rfl rfl fun a E => mv E rfl fun a E => ?_
  refine ls E fun a E => ls E fun a E => pf E rfl rfl fun a E => mv E rfl fun a E => ls E fun a E => ls E fun a E => pf E rfl rfl fun a E => av E rfl fun a E => ?_
  refine wn <| wp_ret ?_
  exact fin hF ⟨(ok.drop).down hb0 le_m0, E.d, ⟨rv_t E rfl, trivial⟩⟩
 replace hF := cond_t hc35 hF
 replace E := E.upd 29 hc35 rfl
 refine mv E rfl fun a E => lw E (y_eql rfl rfl) fun a E => pt E rfl rfl fun a E => mv E rfl fun a E => bsplit (r19.1 == 0) (fun hc36 => ?_) (fun hc36 => ?_)
 rotate_left
 ·replace hF := cond_f hc36 hF
  replace E := E.upd 33 hc36 rfl
  refine ls E fun a E => ls E fun a E => pf E rfl rfl fun a E => mv E rfl fun a E => ls E fun a E => ls E fun a E => pf E rfl rfl fun a E => mv E rfl fun a E => ?_
  refine ls E fun a E => ls E fun a E => pf E rfl rfl fun a E => aw E rfl fun a E => wp_ret ?_
  exact fin hF ⟨(ok.drop).down hb0 le_m0, E.d, ⟨rv_t E rfl, trivial⟩⟩
 replace hF := cond_t hc36 hF
 replace E := E.upd 33 hc36 rfl
 refine mv E rfl fun a E => lw E (y_eql rfl rfl) fun a E => pt E rfl rfl fun a E => mv E rfl fun a E => bsplit (r19.2.1 == 1) (fun hc37 => ?_) (fun hc37 => ?_)
 rotate_left
 ·replace hF := cond_f hc37 hF
  replace E := E.upd 37 hc37 rfl
  refine ls E fun a E => ls E fun a E => pf E rfl rfl fun a E => mv E rfl fun a E => ls E fun a E => ls E fun a E => pf E rfl rfl fun a E => av E rfl fun a E => ?_
  refine wn <| wp_ret ?_
  exact fin hF ⟨(ok.drop).down hb0 le_m0, E.d, ⟨rv_t E rfl, trivial⟩⟩
 replace hF := cond_t hc37 hF
 replace E := E.upd 37 hc37 rfl
 refine mv E rfl fun a E => lw E (y_seql rfl rfl) fun a E => pt E rfl rfl fun a E => mv E rfl fun a E => bsplit (r19.2.2.1 == ([49, 49])) (fun hc38 => ?_) (fun hc38 => ?_)
 ·replace hF := cond_t hc38 hF
  replace E := E.upd 41 hc38 rfl
  refine mv E rfl fun a E => lw E (y_eql rfl rfl) fun a E => pt E rfl rfl fun a E => aw E rfl fun a E => wp_ret ?_
  exact fin hF ⟨(ok.drop).down hb0 le_m0, E.d, ⟨rv_t E rfl, trivial⟩⟩
 replace hF := cond_f hc38 hF
 replace E := E.upd 41 hc38 rfl
 refine ls E fun a E => ls E fun a E => pf E rfl rfl fun a E => aw E rfl fun a E => wp_ret ?_
 exact fin hF ⟨(ok.drop).down hb0 le_m0, E.d, ⟨rv_t E rfl, trivial⟩⟩
def calqueref08_Few_R (u : World) (m0 : Mem) (S : Segs) (r : Bool) (a : Act) (w : World) : Prop :=
 Ok u m0 S w ∧ a.defers = [] ∧ RVs Tryz.prog a w [.t 2 (.bool r)]
theorem calqueref08_Few_w (N : Nat) (vc_0 : Value) (c_0 : List (List (Relation))) (hc_0 : (pL 1 (pL 4 pRelation)) m0 [vc_0] c_0) {r : Bool} (hF : calqueref08_Few N c_0 = some r) (hG : Glob u) (ok : Ok u m0 S w) :
  Calls Tryz.prog 36 [vc_0].toArray w fun e w' => (e = .returned (.bool r) ∧ Ok u m0 S w') := by
 unfold calqueref08_Few at hF
 refine en (calqueref08_Few_R u m0 S) r Tryz.func36 rfl rfl rfl (by rintro a w ⟨ok, hd, hrv⟩; exact c_ret2 [.t 2 (.bool r)] hd rfl hrv ⟨rfl, ok⟩) fun fin a E => sg <| aw E rfl fun a E => sg ?_
 refine aw E rfl fun a E => wp_seq <| sg <| av E rfl fun a E => wpList_nil ?_
 refine t_norm <| wp_block ?_
 obtain ⟨o3, hL, hF⟩ := bnd hF
 refine c_loop _ (fun (s : Int × Int) a w => Ok u m0 (S) w ∧ Env 38 a [(0, vc_0), (3, vi s.1), (4, vi s.2)] ∧ InR .i64 s.1 ∧ InR .i64 s.2) (fun (b : (Unit ⊕ Bool)) e a w => (Sum.elim (fun b59 => e = (.exit 0) ∧ Ok u m0 (S) w ∧ Env 38 a [(0, vc_0)]) (fun b60 => e = .ret ∧ calqueref08_Few_R u m0 S b60 a w)) b) ?_ ?_ N _ a w hL ⟨ok, E.keep [0, 3, 4], (ir 0), (ir 0)⟩
 rotate_left
 ·intro e a w _ hO
  rcases o3 with o3 | o3
  rotate_left
  ·replace hF := elim_r hF
   obtain ⟨rfl, hret⟩ := hO
   refine b_ret <| t_ret ?_
   exact fin hF hret
  replace hF := elim_l hF
  obtain ⟨rfl, ok, E⟩ := hO
  refine b_hit <| t_norm <| sg <| mv E rfl fun a E => lv E ok (y_lenL sl_23 hc_0 rfl) fun a E => lw E (y_leq rfl rfl) fun a E => av E rfl fun a E => ?_
  refine wn <| wp_ret ?_
  exact fin hF ⟨ok, E.d, ⟨rv_t E rfl, trivial⟩⟩
 rintro ⟨n_6, i_7⟩ a w r ⟨ok, E, r8, r9⟩ hF
 replace hF : calqueref08_Few_b1 N c_0 n_6 i_7 = some r := hF
 unfold calqueref08_Few_b1 at hF
 refine wp_seq <| sg <| mv E rfl fun a E => mv E rfl fun a E => lv E ok (y_lenL sl_23 hc_0 rfl) fun a E => lw E (y_lss rfl rfl) fun a E => wpList_nil ?_
 refine t_norm <| cf E rfl hF (fun hc10 hF => ?_) fun hc10 hF => ?_
 rotate_left
 ·refine wp_exit <| t_exit ?_
  obtain rfl := sj hF
  exact so (sl ⟨rfl, ⟨ok, E.keep [0]⟩⟩)
 refine wp_skip <| t_norm <| wp_seq <| wp_block <| wp_seq <| sg <| av E rfl fun a E => ?_
 refine wn <| wp_block ?_
 obtain ⟨o13, hL, hF⟩ := bnd hF
 refine c_loop _ (fun (s : Int × Int) a w => Ok u m0 (S) w ∧ Env 38 a [(0, vc_0), (3, vi s.1), (4, vi i_7), (5, vi s.2)] ∧ InR .i64 s.1 ∧ InR .i64 s.2) (fun (b : Int) e a w => e = (.exit 2) ∧ Ok u m0 (S) w ∧ Env 38 a [(0, vc_0), (3, vi b), (4, vi i_7)] ∧ InR .i64 b) ?_ ?_ N _ a w hL ⟨ok, E.keep [0, 3, 4, 5], r8, (ir 0)⟩
 rotate_left
 ·intro e a w _ hO
  obtain ⟨rfl, ok, E, r56⟩ := hO
  refine b_hit <| t_norm <| sg <| mv E rfl fun a E => lw E (y_gtr rfl rfl) fun a E => wn ?_
  refine cf E rfl hF (fun hc57 hF => ?_) fun hc57 hF => ?_
  rotate_left
  ·refine wp_skip <| b_norm <| t_norm <| c_region <| mv E rfl fun a E => lw E (y_add rfl rfl (InR.inc r9 (pL_InR hc_0) hc10)) fun a E => av E rfl fun a E => wpList_nil ?_
   obtain rfl := sj hF
   exact step_n ⟨ok, E.keep [0, 3, 4], r56, (InR.inc r9 (pL_InR hc_0) hc10)⟩
  refine sg <| aw E rfl fun a E => wp_ret <| b_ret <| t_ret ?_
  obtain rfl := sj hF
  exact so (sr ⟨rfl, ⟨ok, E.d, ⟨rv_t E rfl, trivial⟩⟩⟩)
 rintro ⟨n_16, k_17⟩ a w r ⟨ok, E, r18, r19⟩ hF
 replace hF : calqueref08_Few_b2 N c_0 i_7 n_16 k_17 = some r := hF
 unfold calqueref08_Few_b2 at hF
 refine wp_seq <| sg <| mv E rfl fun a E => mv E rfl fun a E => mv E rfl fun a E => ?_
 obtain ⟨x20, e21, hF⟩ := bnd hF
 obtain ⟨b22, o23, es24, hl25, rr26, at27, yy28⟩ := idxAt sl_23 hc_0 e21 (P := Tryz.prog) (X := .tmp 13) (I := .tmp 14) (kd := .i64) (ev_of E rfl) (ev_of E rfl)
 obtain ⟨c29, rfl, h30⟩ := pL_cell rr26
 refine lv E ok (yy28 _ _) fun a E => lv E ok (y_load one_66 rfl (Holds.ro at27)) fun a E => lv E ok (y_lenL sl_66 h30 rfl) fun a E => lw E (y_lss rfl rfl) fun a E => wn <| cf E rfl hF (fun hc31 hF => ?_) fun hc31 hF => ?_
 rotate_left
 ·refine wp_exit <| t_exit ?_
  obtain rfl := sj hF
  exact so (⟨rfl, ⟨ok, E.keep [0, 3, 4], r18⟩⟩)
 refine wp_skip <| t_norm <| wp_seq <| wp_block <| c_region <| mv E rfl fun a E => mv E rfl fun a E => mv E rfl fun a E => ?_
 obtain ⟨x32, e33, hF⟩ := bnd hF
 obtain ⟨b34, o35, es36, hl37, rr38, at39, yy40⟩ := idxAt sl_23 hc_0 e33 (P := Tryz.prog) (X := .tmp 22) (I := .tmp 23) (kd := .i64) (ev_of E rfl) (ev_of E rfl)
 obtain ⟨c41, rfl, h42⟩ := pL_cell rr38
 refine lv E ok (yy40 _ _) fun a E => lv E ok (y_load one_66 rfl (Holds.ro at39)) fun a E => mv E rfl fun a E => ?_
 obtain ⟨x43, e44, hF⟩ := bnd hF
 obtain ⟨b45, o46, es47, hl48, rr49, at50, yy51⟩ := idxAt sl_66 h42 e44 (P := Tryz.prog) (X := .tmp 25) (I := .tmp 26) (kd := .i64) (ev_of E rfl) (ev_of E rfl)
 obtain ⟨c54, rfl, r52, r53, h55⟩ := rr49
 refine lv E ok (yy51 _ _) fun a E => fv E fo_69_3 rfl fun a E => lv E ok (y_load one_67 rfl (Holds.ro (At.sub 3 1 at50))) fun a E => lv E ok (y_lenL sl_67 h55 rfl) fun a E => lw E (y_addw rfl rfl) fun a E => lw E (y_addw rfl rfl) fun a E => av E rfl fun a E => wpList_nil ?_
 refine b_norm <| t_norm <| c_region <| mv E rfl fun a E => lw E (y_add rfl rfl (InR.inc r19 (pL_InR h30) hc31)) fun a E => av E rfl fun a E => wpList_nil ?_
 obtain rfl := sj hF
 exact step_n ⟨ok, E.keep [0, 3, 4, 5], (InR.wrap _ _), (InR.inc r19 (pL_InR h30) hc31)⟩
def calquelaw10_few_R (u : World) (m0 : Mem) (S : Segs) (r : Bool) (a : Act) (w : World) : Prop :=
 Ok u m0 S w ∧ a.defers = [] ∧ RVs Tryz.prog a w [.t 2 (.bool r)]
theorem calquelaw10_few_w (N : Nat) (vl_0 : Value) (l_0 : List (List (List (Relation)))) (hl_0 : (pL 1 (pL 1 (pL 4 pRelation))) m0 [vl_0] l_0) {r : Bool} (hF : calquelaw10_few N l_0 = some r) (hG : Glob u) (ok : Ok u m0 S w) :
  Calls Tryz.prog 11 [vl_0].toArray w fun e w' => (e = .returned (.bool r) ∧ Ok u m0 S w') := by
 unfold calquelaw10_few at hF
 refine en (calquelaw10_few_R u m0 S) r Tryz.func11 rfl rfl rfl (by rintro a w ⟨ok, hd, hrv⟩; exact c_ret2 [.t 2 (.bool r)] hd rfl hrv ⟨rfl, ok⟩) fun fin a E => sg <| aw E rfl fun a E => wp_seq <| wp_seq ?_
 refine c_region <| mv E rfl fun a E => lv E ok (y_lenL sl_26 hl_0 rfl) fun a E => mv E rfl fun a E => wn <| wp_block ?_
 obtain ⟨o2, hL, hF⟩ := bnd hF
 refine c_loop _ (fun (s : Int) a w => Ok u m0 (S) w ∧ Env 19 a [(0, vl_0), (5, (vi (l_0.length : Int))), (6, vi s)] ∧ InR .i64 s) (fun (b : (Unit ⊕ Bool)) e a w => (Sum.elim (fun b21 => e = (.exit 0) ∧ Ok u m0 (S) w ∧ Env 19 a [(0, vl_0)]) (fun b22 => e = .ret ∧ calquelaw10_few_R u m0 S b22 a w)) b) ?_ ?_ N _ a w hL ⟨ok, E.keep [0, 5, 6], (ir 0)⟩
 rotate_left
 ·intro e a w _ hO
  rcases o2 with o2 | o2
  rotate_left
  ·replace hF := elim_r hF
   obtain ⟨rfl, hret⟩ := hO
   refine b_ret <| t_ret ?_
   exact fin hF hret
  replace hF := elim_l hF
  obtain ⟨rfl, ok, E⟩ := hO
  refine b_hit <| t_norm <| sg <| mv E rfl fun a E => lv E ok (y_lenL sl_26 hl_0 rfl) fun a E => lw E (y_leq rfl rfl) fun a E => av E rfl fun a E => ?_
  refine wn <| wp_ret ?_
  exact fin hF ⟨ok, E.d, ⟨rv_t E rfl, trivial⟩⟩
 rintro x_4 a w r ⟨ok, E, r5⟩ hF
 replace hF : calquelaw10_few_b1 N l_0 x_4 = some r := hF
 unfold calquelaw10_few_b1 at hF
 refine sg <| lw E (y_lss rfl rfl) fun a E => wn <| wp_seq <| cf E rfl hF (fun hc6 hF => ?_) fun hc6 hF => ?_
 rotate_left
 ·refine wp_exit <| t_exit ?_
  obtain rfl := sj hF
  exact so (sl ⟨rfl, ⟨ok, E.keep [0]⟩⟩)
 refine wp_skip <| t_norm <| wp_seq <| wp_block <| sg <| mv E rfl fun a E => av E rfl fun a E => ?_
 refine wn <| sg <| mv E rfl fun a E => mv E rfl fun a E => ?_
 obtain ⟨x7, e8, hF⟩ := bnd hF
 obtain ⟨b9, o10, es11, hl12, rr13, at14, yy15⟩ := idxAt sl_26 hl_0 e8 (P := Tryz.prog) (X := .tmp 9) (I := .tmp 10) (kd := .i64) (ev_of E rfl) (ev_of E rfl)
 obtain ⟨c16, rfl, h17⟩ := pL_cell rr13
 refine lv E ok (yy15 _ _) fun a E => lv E ok (y_load one_23 rfl (Holds.ro at14)) fun a E => ?_
 obtain ⟨r18, e19, hF⟩ := bnd hF
 refine lc E go_36 rfl (calqueref08_Few_w N _ x7 h17 e19 hG ok) fun w ok a E => lw E (y_not rfl) fun a E => wn <| cf E rfl hF (fun hc20 hF => ?_) fun hc20 hF => ?_
 rotate_left
 ·refine wp_skip <| b_norm <| t_norm <| c_region <| lw E (y_add rfl rfl (InR.inc r5 (pL_InR hl_0) hc6)) fun a E => mv E rfl fun a E => wpList_nil ?_
  obtain rfl := sj hF
  exact step_n ⟨ok, E.keep [0, 5, 6], (InR.inc r5 (pL_InR hl_0) hc6)⟩
 refine sg <| aw E rfl fun a E => wp_ret <| b_ret <| t_ret ?_
 obtain rfl := sj hF
 exact so (sr ⟨rfl, ⟨ok, E.d, ⟨rv_t E rfl, trivial⟩⟩⟩)
def calqueref07_digits_R (u : World) (m0 : Mem) (S : Segs) (r : Bool) (a : Act) (w : World) : Prop :=
 Ok u m0 S w ∧ a.defers = [] ∧ RVs Tryz.prog a w [.t 2 (.bool r)]
theorem calqueref07_digits_w (N : Nat) (s_0 : List UInt8) (ls_0 : s_0.length ≤ LIMS) {r : Bool} (hF : calqueref07_digits N s_0 = some r) (hG : Glob u) (ok : Ok u m0 S w) :
  Calls Tryz.prog 109 [vs s_0].toArray w fun e w' => (e = .returned (.bool r) ∧ Ok u m0 S w') := by
 unfold calqueref07_digits at hF
 refine en (calqueref07_digits_R u m0 S) r Tryz.func109 rfl rfl rfl (by rintro a w ⟨ok, hd, hrv⟩; exact c_ret2 [.t 2 (.bool r)] hd rfl hrv ⟨rfl, ok⟩) fun fin a E => sg <| aw E rfl fun a E => wp_seq <| wp_seq ?_
 refine c_region <| aw E rfl fun a E => wp_block ?_
 obtain ⟨o2, hL, hF⟩ := bnd hF
 refine c_loop _ (fun (s : Int) a w => Ok u m0 (S) w ∧ Env 20 a [(0, vs s_0), (3, vi s)] ∧ InR .i64 s) (fun (b : (Unit ⊕ Bool)) e a w => (Sum.elim (fun b13 => e = (.exit 0) ∧ Ok u m0 (S) w ∧ Env 20 a []) (fun b14 => e = .ret ∧ calqueref07_digits_R u m0 S b14 a w)) b) ?_ ?_ N _ a w hL ⟨ok, E.keep [0, 3], (ir 0)⟩
 rotate_left
 ·intro e a w _ hO
  rcases o2 with o2 | o2
  rotate_left
  ·replace hF := elim_r hF
   obtain ⟨rfl, hret⟩ := hO
   refine b_ret <| t_ret ?_
   exact fin hF hret
  replace hF := elim_l hF
  obtain ⟨rfl, ok, E⟩ := hO
  refine b_hit <| t_norm <| sg <| aw E rfl fun a E => wp_ret ?_
  exact fin hF ⟨ok, E.d, ⟨rv_t E rfl, trivial⟩⟩
 rintro i_4 a w r ⟨ok, E, r5⟩ hF
 replace hF : calqueref07_digits_b1 N s_0 i_4 = some r := hF
 unfold calqueref07_digits_b1 at hF
 refine wp_seq <| sg <| mv E rfl fun a E => mv E rfl fun a E => lw E (y_slen Tryz.underlying9 rfl) fun a E => lw E (y_lss rfl rfl) fun a E => wpList_nil ?_
 refine t_norm <| cf E rfl hF (fun hc6 hF => ?_) fun hc6 hF => ?_
 rotate_left
 ·refine wp_exit <| t_exit ?_
  obtain rfl := sj hF
  exact so (sl ⟨rfl, ⟨ok, E.keep []⟩⟩)
 refine wp_skip <| t_norm <| wp_seq <| wp_block <| sg <| mv E rfl fun a E => mv E rfl fun a E => ?_
 obtain ⟨c7, e8, hF⟩ := bnd hF
 refine lv E ok (y_index Tryz.underlying9 rfl rfl e8) fun a E => lw E (y_lss rfl rfl) fun a E => mv E rfl fun a E => bsplit (decide ((c7.toNat : Int) < 48)) (fun hc9 => ?_) (fun hc9 => ?_)
 ·replace hF := cond_t hc9 hF
  replace E := E.upd 14 hc9 rfl
  refine ls E fun a E => ls E fun a E => ls E fun a E => ls E fun a E => pt E rfl rfl fun a E => wn <| c_if E rfl (fun _ => ?_) (fun h => by cases h)
  refine sg <| aw E rfl fun a E => wp_ret <| b_ret <| t_ret ?_
  obtain rfl := sj hF
  exact so (sr ⟨rfl, ⟨ok, E.d, ⟨rv_t E rfl, trivial⟩⟩⟩)
 replace hF := cond_f hc9 hF
 replace E := E.upd 14 hc9 rfl
 refine mv E rfl fun a E => mv E rfl fun a E => ?_
 obtain ⟨c10, e11, hF⟩ := bnd hF
 refine lv E ok (y_index Tryz.underlying9 rfl rfl e11) fun a E => lw E (y_gtr rfl rfl) fun a E => pf E rfl rfl fun a E => wn <| cf E rfl hF (fun hc12 hF => ?_) fun hc12 hF => ?_
 rotate_left
 ·refine wp_skip <| b_norm <| t_norm <| c_region <| mv E rfl fun a E => lw E (y_add rfl rfl (InR.inc r5 (InR.len ls_0) hc6)) fun a E => av E rfl fun a E => wpList_nil ?_
  obtain rfl := sj hF
  exact step_n ⟨ok, E.keep [0, 3], (InR.inc r5 (InR.len ls_0) hc6)⟩
 refine sg <| aw E rfl fun a E => wp_ret <| b_ret <| t_ret ?_
 obtain rfl := sj hF
 exact so (sr ⟨rfl, ⟨ok, E.d, ⟨rv_t E rfl, trivial⟩⟩⟩)
def calqueref07_Zero_R (u : World) (m0 : Mem) (S : Segs) (r : Bool) (a : Act) (w : World) : Prop :=
 Ok u m0 S w ∧ a.defers = [] ∧ RVs Tryz.prog a w [.t 2 (.bool r)]
theorem calqueref07_Zero_w (N : Nat) (s_0 : List UInt8) (ls_0 : s_0.length ≤ LIMS) {r : Bool} (hF : calqueref07_Zero N s_0 = some r) (hG : Glob u) (ok : Ok u m0 S w) :
  Calls Tryz.prog 110 [vs s_0].toArray w fun e w' => (e = .returned (.bool r) ∧ Ok u m0 S w') := by
 unfold calqueref07_Zero at hF
 refine en (calqueref07_Zero_R u m0 S) r Tryz.func110 rfl rfl rfl (by rintro a w ⟨ok, hd, hrv⟩; exact c_ret2 [.t 2 (.bool r)] hd rfl hrv ⟨rfl, ok⟩) fun fin a E => sg <| aw E rfl fun a E => wp_seq <| wp_seq ?_
 refine c_region <| aw E rfl fun a E => wp_block ?_
 obtain ⟨o2, hL, hF⟩ := bnd hF
 refine c_loop _ (fun (s : Int) a w => Ok u m0 (S) w ∧ Env 14 a [(0, vs s_0), (3, vi s)] ∧ InR .i64 s) (fun (b : (Unit ⊕ Bool)) e a w => (Sum.elim (fun b10 => e = (.exit 0) ∧ Ok u m0 (S) w ∧ Env 14 a []) (fun b11 => e = .ret ∧ calqueref07_Zero_R u m0 S b11 a w)) b) ?_ ?_ N _ a w hL ⟨ok, E.keep [0, 3], (ir 0)⟩
 rotate_left
 ·intro e a w _ hO
  rcases o2 with o2 | o2
  rotate_left
  ·replace hF := elim_r hF
   obtain ⟨rfl, hret⟩ := hO
   refine b_ret <| t_ret ?_
   exact fin hF hret
  replace hF := elim_l hF
  obtain ⟨rfl, ok, E⟩ := hO
  refine b_hit <| t_norm <| sg <| aw E rfl fun a E => wp_ret ?_
  exact fin hF ⟨ok, E.d, ⟨rv_t E rfl, trivial⟩⟩
 rintro i_4 a w r ⟨ok, E, r5⟩ hF
 replace hF : calqueref07_Zero_b1 N s_0 i_4 = some r := hF
 unfold calqueref07_Zero_b1 at hF
 refine wp_seq <| sg <| mv E rfl fun a E => mv E rfl fun a E => lw E (y_slen Tryz.underlying9 rfl) fun a E => lw E (y_lss rfl rfl) fun a E => wpList_nil ?_
 refine t_norm <| cf E rfl hF (fun hc6 hF => ?_) fun hc6 hF => ?_
 rotate_left
 ·refine wp_exit <| t_exit ?_
  obtain rfl := sj hF
  exact so (sl ⟨rfl, ⟨ok, E.keep []⟩⟩)
 refine wp_skip <| t_norm <| wp_seq <| wp_block <| sg <| mv E rfl fun a E => mv E rfl fun a E => ?_
 obtain ⟨c7, e8, hF⟩ := bnd hF
 refine lv E ok (y_index Tryz.underlying9 rfl rfl e8) fun a E => lw E (y_neq rfl rfl) fun a E => wn <| cf E rfl hF (fun hc9 hF => ?_) fun hc9 hF => ?_
 rotate_left
 ·refine wp_skip <| b_norm <| t_norm <| c_region <| mv E rfl fun a E => lw E (y_add rfl rfl (InR.inc r5 (InR.len ls_0) hc6)) fun a E => av E rfl fun a E => wpList_nil ?_
  obtain rfl := sj hF
  exact step_n ⟨ok, E.keep [0, 3], (InR.inc r5 (InR.len ls_0) hc6)⟩
 refine sg <| aw E rfl fun a E => wp_ret <| b_ret <| t_ret ?_
 obtain rfl := sj hF
 exact so (sr ⟨rfl, ⟨ok, E.d, ⟨rv_t E rfl, trivial⟩⟩⟩)
def calqueref07_Split_R (u : World) (m0 : Mem) (S : Segs) (r : Number × Bool) (a : Act) (w : World) : Prop :=
 ∃ m1 v0, m0.le m1 ∧ Ok u m1 S w ∧ a.defers = [] ∧ RVs Tryz.prog a w [.c 2 117 (.agg v0.toArray), .t 3 (.bool r.2)] ∧ pNumber m1 v0 r.1
theorem calqueref07_Split_w (N : Nat) (s_0 : List UInt8) (ls_0 : s_0.length ≤ LIMS) {r : Number × Bool} (hF : calqueref07_Split N s_0 = some r) (hG : Glob u) (ok : Ok u m0 S w) :
  Calls Tryz.prog 77 [vs s_0].toArray w fun e w' => ∃ m1 v0, e = .returned (.tuple [(.agg v0.toArray), (.bool r.2)].toArray) ∧ m0.le m1 ∧ Ok u m1 S w' ∧ pNumber m1 v0 r.1 := by
 have le_m0 := Mem.le.refl m0
 unfold calqueref07_Split at hF
 refine en (calqueref07_Split_R u m0 S) r Tryz.func77 rfl rfl rfl (by rintro a w ⟨m1, v0, hle, ok, hd, hrv, h0⟩; exact c_ret2 [.c 2 117 (.agg v0.toArray), .t 3 (.bool r.2)] hd rfl hrv ⟨m1, v0, rfl, hle, ok, h0⟩) fun fin a E => sg <| l_alloc E ok zero_117 rfl rfl fun b1 a w E ok => aw E rfl fun a E => wp_seq ?_
 refine c_region <| l_alloc E ok zero_117 rfl rfl fun b2 a w E ok => wn <| wp_seq <| sg <| mv E rfl fun a E => ?_
 refine lw E (y_slen Tryz.underlying9 rfl) fun a E => lw E (y_gtr rfl rfl) fun a E => mv E rfl fun a E => bsplit (decide ((s_0.length : Int) > 0)) (fun hc3 => ?_) (fun hc3 => ?_)
 rotate_left
 ·as_aux_lemma =>
   replace hF := cond_f hc3 hF
   replace E := E.upd 9 hc3 rfl
   refine ls E fun a E => ls E fun a E => ls E fun a E => pf E rfl rfl fun a E => wn <| c_if E rfl (fun h => by cases h) (fun _ => ?_)
   refine wp_skip <| t_norm <| sg <| aw E rfl fun a E => wp_seq ?_
   refine wp_block ?_
   obtain ⟨o73, hL, hF⟩ := bnd hF
   refine c_loop _ (fun (s : Int) a w => Ok u m0 ([(b2, oc 117 [vb false, (vs ([])), (vs ([]))])] :: [(b1, oc 117 [vb false, (vs ([])), (vs ([]))])] :: S) w ∧ Env 98 a [(0, vs s_0), (2, vp b1), (4, vp b2), (5, vi s)] ∧ InR .i64 s) (fun (b : Int) e a w => e = (.exit 0) ∧ Ok u m0 ([(b2, oc 117 [vb false, (vs ([])), (vs ([]))])] :: [(b1, oc 117 [vb false, (vs ([])), (vs ([]))])] :: S) w ∧ Env 98 a [(0, vs s_0), (2, vp b1), (4, vp b2), (5, vi b)] ∧ InR .i64 b) ?_ ?_ N _ a w hL ⟨ok, E.keep [0, 2, 4, 5], (ir 0)⟩
   ·rintro k_75 a w r ⟨ok, E, r76⟩ hF
    replace hF : calqueref07_Split_b2 N s_0 k_75 = some r := hF
    unfold calqueref07_Split_b2 at hF
    refine wp_seq <| sg <| mv E rfl fun a E => mv E rfl fun a E => lw E (y_slen Tryz.underlying9 rfl) fun a E => lw E (y_lss rfl rfl) fun a E => mv E rfl fun a E => ?_
    refine bsplit (decide (k_75 < (s_0.length : Int))) (fun hc77 => ?_) (fun hc77 => ?_)
    rotate_left
    ·replace hF := cond_f hc77 hF
     replace E := E.upd 21 hc77 rfl
     refine ls E fun a E => ls E fun a E => ls E fun a E => ls E fun a E => pf E rfl rfl fun a E => wn <| c_if E rfl (fun h => by cases h) (fun _ => ?_)
     refine wp_exit <| t_exit ?_
     obtain rfl := sj hF
     exact so (⟨rfl, ⟨ok, E.keep [0, 2, 4, 5], r76⟩⟩)
    replace hF := cond_t hc77 hF
    replace E := E.upd 21 hc77 rfl
    refine mv E rfl fun a E => mv E rfl fun a E => ?_
    obtain ⟨c78, e79, hF⟩ := bnd hF
    refine lv E ok (y_index Tryz.underlying9 rfl rfl e79) fun a E => lw E (y_neq rfl rfl) fun a E => pt E rfl rfl fun a E => wn <| cf E rfl hF (fun hc80 hF => ?_) fun hc80 hF => ?_
    rotate_left
    ·refine wp_exit <| t_exit ?_
     obtain rfl := sj hF
     exact so (⟨rfl, ⟨ok, E.keep [0, 2, 4, 5], r76⟩⟩)
    refine wp_skip <| t_norm <| wp_block <| c_region <| mv E rfl fun a E => lw E (y_add rfl rfl (InR.inc r76 (InR.len ls_0) hc77)) fun a E => av E rfl fun a E => wpList_nil ?_
    refine b_norm ?_
    obtain rfl := sj hF
    exact step_n ⟨ok, E.keep [0, 2, 4, 5], (InR.inc r76 (InR.len ls_0) hc77)⟩
   intro e a w _ hO
   obtain ⟨rfl, ok, E, r81⟩ := hO
   refine b_hit <| t_norm <| sg <| mv E rfl fun a E => mv E rfl fun a E => ?_
   obtain ⟨s82, e83, hF⟩ := bnd hF
   refine lw E (y_sslice Tryz.underlying9 e83 rfl rfl ⟨_, rfl⟩) fun a E => fv E fo_117_1 rfl fun a E => l_storeB E ok 0 rfl rfl rfl inf_9 rfl rfl ⟨rfl, trivial⟩ rfl rfl fun w ok => wn <| wp_seq <| sg ?_
   refine mv E rfl fun a E => mv E rfl fun a E => lw E (y_slen Tryz.underlying9 rfl) fun a E => lw E (y_lss rfl rfl) fun a E => wn ?_
   obtain ⟨o84, hJ, hF⟩ := bnd hF
   refine c_mono (Q' := fun e a w => (Sum.elim (fun b85 => e = .normal ∧ Ok u m0 ([(b2, oc 117 [vb b85.Neg, vs b85.Whole, vs b85.Frac])] :: [(b1, oc 117 [vb false, (vs ([])), (vs ([]))])] :: S) w ∧ Env 98 a [(2, vp b1), (4, vp b2)] ∧ b85.Whole.length ≤ LIMS ∧ b85.Frac.length ≤ LIMS) (fun b88 => e = .ret ∧ calqueref07_Split_R u m0 S b88 a w)) o84) ?_ ?_
   ·replace hF := hJ
    clear hJ
    refine cf E rfl hF (fun hc89 hF => ?_) fun hc89 hF => ?_
    rotate_left
    ·refine wp_skip ?_
     obtain rfl := sj hF
     exact (sl ⟨rfl, ⟨ok, E.keep [2, 4], (Nat.le_trans (slc_len e83) ls_0), (Nat.zero_le _)⟩⟩)
    refine sg <| mv E rfl fun a E => mv E rfl fun a E => lw E (y_add rfl rfl (InR.inc r81 (InR.len ls_0) hc89)) fun a E => ?_
    obtain ⟨s90, e91, hF⟩ := bnd hF
    refine lw E (y_sslice Tryz.underlying9 e91 rfl ⟨_, rfl⟩ rfl) fun a E => fv E fo_117_2 rfl fun a E => l_storeB E ok 0 rfl rfl rfl inf_9 rfl rfl ⟨rfl, trivial⟩ rfl rfl fun w ok => wn <| sg <| fv E fo_117_2 rfl fun a E => ?_
    refine ld E ok one_9 0 rfl rfl rfl fun a E => lw E (y_slen Tryz.underlying9 rfl) fun a E => lw E (y_eql rfl rfl) fun a E => wn <| cf E rfl hF (fun hc92 hF => ?_) fun hc92 hF => ?_
    rotate_left
    ·refine wp_skip ?_
     obtain rfl := sj hF
     exact (sl ⟨rfl, ⟨ok, E.keep [2, 4], (Nat.le_trans (slc_len e83) ls_0), (Nat.le_trans (slc_len e91) ls_0)⟩⟩)
    refine sg <| lw E (y_build (ps := []) (qs := []) (cs := [vb false, (vs ([])), (vs ([]))]) zero_117 places_117 rfl trivial rfl) fun a E => l_storeB E ok 1 rfl rfl rfl inf_117 rfl rfl ⟨rfl, rfl, rfl, trivial⟩ rfl rfl fun w ok => aw E rfl fun a E => wp_ret ?_
    have hret : calqueref07_Split_R u m0 S ((Number.mk false ([]) ([])), false) a w := ⟨m0, [vb false, (vs ([])), (vs ([]))], le_m0, ok.drop.drop, E.d, ⟨rv_c (cs := [vb false, (vs ([])), (vs ([]))]) E ok rfl agg_117 rfl (Holds.own 1 rfl rfl), rv_t E rfl, trivial⟩, ⟨rfl, (Nat.zero_le _), (Nat.zero_le _)⟩⟩
    obtain rfl := sj hF
    exact (sr ⟨rfl, hret⟩)
   clear hJ
   intro e a w hO
   rcases o84 with o84 | o84
   rotate_left
   ·replace hF := elim_r hF
    obtain ⟨rfl, hret⟩ := hO
    refine t_ret ?_
    exact fin hF hret
   replace hF := elim_l hF
   obtain ⟨rfl, ok, E, l93, l94⟩ := hO
   refine t_norm <| wp_seq <| sg <| fv E fo_117_1 rfl fun a E => ld E ok one_9 0 rfl rfl rfl fun a E => fv E fo_117_2 rfl fun a E => ld E ok one_9 0 rfl rfl rfl fun a E => ?_
   obtain ⟨s95, e96, hF⟩ := bnd hF
   refine lw E (y_cat rfl rfl e96) fun a E => ?_
   obtain ⟨r97, e98, hF⟩ := bnd hF
   refine lc E go_109 rfl (calqueref07_digits_w N s95 (cat_len e96) e98 hG ok) fun w ok a E => lw E (y_not rfl) fun a E => mv E rfl fun a E => bsplit (!r97) (fun hc99 => ?_) (fun hc99 => ?_)
   ·replace hF := cond_t hc99 hF
    replace E := E.upd 54 hc99 rfl
    refine ls E fun a E => ls E fun a E => ls E fun a E => ls E fun a E => pt E rfl rfl fun a E => mv E rfl fun a E => ls E fun a E => ls E fun a E => ?_
    refine ls E fun a E => ls E fun a E => pt E rfl rfl fun a E => mv E rfl fun a E => ls E fun a E => ls E fun a E => ls E fun a E => ls E fun a E => ?_
    refine ls E fun a E => ls E fun a E => ls E fun a E => ls E fun a E => ls E fun a E => ls E fun a E => pt E rfl rfl fun a E => mv E rfl fun a E => ?_
    refine ls E fun a E => ls E fun a E => ls E fun a E => ls E fun a E => pt E rfl rfl fun a E => mv E rfl fun a E => ls E fun a E => ls E fun a E => ?_
    refine ls E fun a E => ls E fun a E => ls E fun a E => ls E fun a E => ls E fun a E => ls E fun a E => ls E fun a E => ls E fun a E => ?_
    refine pt E rfl rfl fun a E => wn <| c_if E rfl (fun _ => ?_) (fun h => by cases h)
    refine sg <| lw E (y_build (ps := []) (qs := []) (cs := [vb false, (vs ([])), (vs ([]))]) zero_117 places_117 rfl trivial rfl) fun a E => l_storeB E ok 1 rfl rfl rfl inf_117 rfl rfl ⟨rfl, rfl, rfl, trivial⟩ rfl rfl fun w ok => aw E rfl fun a E => wp_ret ?_
    refine t_ret ?_
    exact fin hF ⟨m0, [vb false, (vs ([])), (vs ([]))], le_m0, ok.drop.drop, E.d, ⟨rv_c (cs := [vb false, (vs ([])), (vs ([]))]) E ok rfl agg_117 rfl (Holds.own 1 rfl rfl), rv_t E rfl, trivial⟩, ⟨rfl, (Nat.zero_le _), (Nat.zero_le _)⟩⟩
   replace hF := cond_f hc99 hF
   replace E := E.upd 54 hc99 rfl
   refine fv E fo_117_1 rfl fun a E => ld E ok one_9 0 rfl rfl rfl fun a E => lw E (y_slen Tryz.underlying9 rfl) fun a E => lw E (y_lss rfl rfl) fun a E => pf E rfl rfl fun a E => mv E rfl fun a E => bsplit (decide ((o84.Whole.length : Int) < 1)) (fun hc100 => ?_) (fun hc100 => ?_)
   ·replace hF := cond_t hc100 hF
    replace E := E.upd 60 hc100 rfl
    refine ls E fun a E => ls E fun a E => ls E fun a E => ls E fun a E => pt E rfl rfl fun a E => mv E rfl fun a E => ls E fun a E => ls E fun a E => ?_
    refine ls E fun a E => ls E fun a E => ls E fun a E => ls E fun a E => ls E fun a E => ls E fun a E => ls E fun a E => ls E fun a E => ?_
    refine pt E rfl rfl fun a E => mv E rfl fun a E => ls E fun a E => ls E fun a E => ls E fun a E => ls E fun a E => pt E rfl rfl fun a E => mv E rfl fun a E => ?_
    refine ls E fun a E => ls E fun a E => ls E fun a E => ls E fun a E => ls E fun a E => ls E fun a E => ls E fun a E => ls E fun a E => ?_
    refine ls E fun a E => ls E fun a E => pt E rfl rfl fun a E => wn <| c_if E rfl (fun _ => ?_) (fun h => by cases h)
    refine sg <| lw E (y_build (ps := []) (qs := []) (cs := [vb false, (vs ([])), (vs ([]))]) zero_117 places_117 rfl trivial rfl) fun a E => l_storeB E ok 1 rfl rfl rfl inf_117 rfl rfl ⟨rfl, rfl, rfl, trivial⟩ rfl rfl fun w ok => aw E rfl fun a E => wp_ret ?_
    refine t_ret ?_
    exact fin hF ⟨m0, [vb false, (vs ([])), (vs ([]))], le_m0, ok.drop.drop, E.d, ⟨rv_c (cs := [vb false, (vs ([])), (vs ([]))]) E ok rfl agg_117 rfl (Holds.own 1 rfl rfl), rv_t E rfl, trivial⟩, ⟨rfl, (Nat.zero_le _), (Nat.zero_le _)⟩⟩
   replace hF := cond_f hc100 hF
   replace E := E.upd 60 hc100 rfl
   refine fv E fo_117_1 rfl fun a E => ld E ok one_9 0 rfl rfl rfl fun a E => lw E (y_slen Tryz.underlying9 rfl) fun a E => lw E (y_gtr rfl rfl) fun a E => pf E rfl rfl fun a E => mv E rfl fun a E => bsplit (decide ((o84.Whole.length : Int) > 15)) (fun hc101 => ?_) (fun hc101 => ?_)
   ·replace hF := cond_t hc101 hF
    replace E := E.upd 66 hc101 rfl
    refine ls E fun a E => ls E fun a E => ls E fun a E => ls E fun a E => ls E fun a E => ls E fun a E => ls E fun a E => ls E fun a E => ?_
    refine ls E fun a E => ls E fun a E => pt E rfl rfl fun a E => mv E rfl fun a E => ls E fun a E => ls E fun a E => ls E fun a E => ls E fun a E => ?_
    refine pt E rfl rfl fun a E => mv E rfl fun a E => ls E fun a E => ls E fun a E => ls E fun a E => ls E fun a E => ls E fun a E => ls E fun a E => ?_
    refine ls E fun a E => ls E fun a E => ls E fun a E => ls E fun a E => pt E rfl rfl fun a E => wn <| c_if E rfl (fun _ => ?_) (fun h => by cases h)
    refine sg <| lw E (y_build (ps := []) (qs := []) (cs := [vb false, (vs ([])), (vs ([]))]) zero_117 places_117 rfl trivial rfl) fun a E => l_storeB E ok 1 rfl rfl rfl inf_117 rfl rfl ⟨rfl, rfl, rfl, trivial⟩ rfl rfl fun w ok => aw E rfl fun a E => wp_ret ?_
    refine t_ret ?_
    exact fin hF ⟨m0, [vb false, (vs ([])), (vs ([]))], le_m0, ok.drop.drop, E.d, ⟨rv_c (cs := [vb false, (vs ([])), (vs ([]))]) E ok rfl agg_117 rfl (Holds.own 1 rfl rfl), rv_t E rfl, trivial⟩, ⟨rfl, (Nat.zero_le _), (Nat.zero_le _)⟩⟩
   replace hF := cond_f hc101 hF
   replace E := E.upd 66 hc101 rfl
   refine fv E fo_117_1 rfl fun a E => ld E ok one_9 0 rfl rfl rfl fun a E => lw E (y_slen Tryz.underlying9 rfl) fun a E => lw E (y_gtr rfl rfl) fun a E => mv E rfl fun a E => bsplit (decide ((o84.Whole.length : Int) > 1)) (fun hc102 => ?_) (fun hc102 => ?_)
   rotate_left
   ·as_aux_lemma =>
     replace hF := cond_f hc102 hF
     replace E := E.upd 71 hc102 rfl
     refine ls E fun a E => ls E fun a E => ls E fun a E => ls E fun a E => pf E rfl rfl fun a E => pf E rfl rfl fun a E => mv E rfl fun a E => fv E fo_117_2 rfl fun a E => ?_
     refine ld E ok one_9 0 rfl rfl rfl fun a E => lw E (y_slen Tryz.underlying9 rfl) fun a E => lw E (y_gtr rfl rfl) fun a E => pf E rfl rfl fun a E => mv E rfl fun a E => bsplit (decide ((o84.Frac.length : Int) > 6)) (fun hc113 => ?_) (fun hc113 => ?_)
     ·replace hF := cond_t hc113 hF
      replace E := E.upd 84 hc113 rfl
      refine ls E fun a E => ls E fun a E => ls E fun a E => ls E fun a E => ls E fun a E => ls E fun a E => ls E fun a E => ls E fun a E => ?_
      refine ls E fun a E => ls E fun a E => pt E rfl rfl fun a E => wn <| c_if E rfl (fun _ => ?_) (fun h => by cases h)
      refine sg <| lw E (y_build (ps := []) (qs := []) (cs := [vb false, (vs ([])), (vs ([]))]) zero_117 places_117 rfl trivial rfl) fun a E => l_storeB E ok 1 rfl rfl rfl inf_117 rfl rfl ⟨rfl, rfl, rfl, trivial⟩ rfl rfl fun w ok => aw E rfl fun a E => wp_ret ?_
      refine t_ret ?_
      exact fin hF ⟨m0, [vb false, (vs ([])), (vs ([]))], le_m0, ok.drop.drop, E.d, ⟨rv_c (cs := [vb false, (vs ([])), (vs ([]))]) E ok rfl agg_117 rfl (Holds.own 1 rfl rfl), rv_t E rfl, trivial⟩, ⟨rfl, (Nat.zero_le _), (Nat.zero_le _)⟩⟩
     replace hF := cond_f hc113 hF
     replace E := E.upd 84 hc113 rfl
     refine fv E fo_117_0 rfl fun a E => ld E ok one_4 0 rfl rfl rfl fun a E => mv E rfl fun a E => bsplit o84.Neg (fun hc114 => ?_) (fun hc114 => ?_)
     rotate_left
     ·replace hF := cond_f hc114 hF
      replace E := E.upd 87 hc114 rfl
      refine ls E fun a E => ls E fun a E => ls E fun a E => ls E fun a E => ls E fun a E => ls E fun a E => pf E rfl rfl fun a E => pf E rfl rfl fun a E => ?_
      refine wn <| c_if E rfl (fun h => by cases h) (fun _ => ?_)
      refine wp_skip <| t_norm <| sg <| lv E ok (y_loadAgg (cs := [vb o84.Neg, vs o84.Whole, vs o84.Frac]) agg_117 rfl rfl (Holds.own 0 rfl rfl)) fun a E => l_storeB E ok 1 rfl rfl rfl inf_117 rfl rfl ⟨rfl, rfl, rfl, trivial⟩ rfl rfl fun w ok => av E rfl fun a E => wpList_nil ?_
      refine t_norm <| wp_ret ?_
      exact fin hF ⟨m0, [vb o84.Neg, vs o84.Whole, vs o84.Frac], le_m0, ok.drop.drop, E.d, ⟨rv_c (cs := [vb o84.Neg, vs o84.Whole, vs o84.Frac]) E ok rfl agg_117 rfl (Holds.own 1 rfl rfl), rv_t E rfl, trivial⟩, ⟨rfl, l93, l94⟩⟩
     replace hF := cond_t hc114 hF
     replace E := E.upd 87 hc114 rfl
     refine fv E fo_117_1 rfl fun a E => ld E ok one_9 0 rfl rfl rfl fun a E => fv E fo_117_2 rfl fun a E => ld E ok one_9 0 rfl rfl rfl fun a E => ?_
     obtain ⟨s115, e116, hF⟩ := bnd hF
     refine lw E (y_cat rfl rfl e116) fun a E => ?_
     obtain ⟨r117, e118, hF⟩ := bnd hF
     refine lc E go_110 rfl (calqueref07_Zero_w N s115 (cat_len e116) e118 hG ok) fun w ok a E => pt E rfl rfl fun a E => pf E rfl rfl fun a E => wn <| cf E rfl hF (fun hc119 hF => ?_) fun hc119 hF => ?_
     ·refine sg <| lw E (y_build (ps := []) (qs := []) (cs := [vb false, (vs ([])), (vs ([]))]) zero_117 places_117 rfl trivial rfl) fun a E => l_storeB E ok 1 rfl rfl rfl inf_117 rfl rfl ⟨rfl, rfl, rfl, trivial⟩ rfl rfl fun w ok => aw E rfl fun a E => wp_ret ?_
      refine t_ret ?_
      exact fin hF ⟨m0, [vb false, (vs ([])), (vs ([]))], le_m0, ok.drop.drop, E.d, ⟨rv_c (cs := [vb false, (vs ([])), (vs ([]))]) E ok rfl agg_117 rfl (Holds.own 1 rfl rfl), rv_t E rfl, trivial⟩, ⟨rfl, (Nat.zero_le _), (Nat.zero_le _)⟩⟩
     refine wp_skip <| t_norm <| sg <| lv E ok (y_loadAgg (cs := [vb o84.Neg, vs o84.Whole, vs o84.Frac]) agg_117 rfl rfl (Holds.own 0 rfl rfl)) fun a E => l_storeB E ok 1 rfl rfl rfl inf_117 rfl rfl ⟨rfl, rfl, rfl, trivial⟩ rfl rfl fun w ok => av E rfl fun a E => wpList_nil ?_
     refine t_norm <| wp_ret ?_
     exact fin hF ⟨m0, [vb o84.Neg, vs o84.Whole, vs o84.Frac], le_m0, ok.drop.drop, E.d, ⟨rv_c (cs := [vb o84.Neg, vs o84.Whole, vs o84.Frac]) E ok rfl agg_117 rfl (Holds.own 1 rfl rfl), rv_t E rfl, trivial⟩, ⟨rfl, l93, l94⟩⟩
   replace hF := cond_t hc102 hF
   replace E := E.upd 71 hc102 rfl
   refine fv E fo_117_1 rfl fun a E => ld E ok one_9 0 rfl rfl rfl fun a E => ?_
   obtain ⟨c103, e104, hF⟩ := bnd hF
   refine lv E ok (y_index Tryz.underlying9 rfl rfl e104) fun a E => lw E (y_eql rfl rfl) fun a E => pt E rfl rfl fun a E => pf E rfl rfl fun a E => mv E rfl fun a E => bsplit ((c103.toNat : Int) == 48) (fun hc105 => ?_) (fun hc105 => ?_)
   ·replace hF := cond_t hc105 hF
    replace E := E.upd 78 hc105 rfl
    refine ls E fun a E => ls E fun a E => ls E fun a E => ls E fun a E => pt E rfl rfl fun a E => mv E rfl fun a E => ls E fun a E => ls E fun a E => ?_
    refine ls E fun a E => ls E fun a E => ls E fun a E => ls E fun a E => ls E fun a E => ls E fun a E => ls E fun a E => ls E fun a E => ?_
    refine pt E rfl rfl fun a E => wn <| c_if E rfl (fun _ => ?_) (fun h => by cases h)
    refine sg <| lw E (y_build (ps := []) (qs := []) (cs := [vb false, (vs ([])), (vs ([]))]) zero_117 places_117 rfl trivial rfl) fun a E => l_storeB E ok 1 rfl rfl rfl inf_117 rfl rfl ⟨rfl, rfl, rfl, trivial⟩ rfl rfl fun w ok => aw E rfl fun a E => wp_ret ?_
    refine t_ret ?_
    exact fin hF ⟨m0, [vb false, (vs ([])), (vs ([]))], le_m0, ok.drop.drop, E.d, ⟨rv_c (cs := [vb false, (vs ([])), (vs ([]))]) E ok rfl agg_117 rfl (Holds.own 1 rfl rfl), rv_t E rfl, trivial⟩, ⟨rfl, (Nat.zero_le _), (Nat.zero_le _)⟩⟩
   replace hF := cond_f hc105 hF
   replace E := E.upd 78 hc105 rfl
   refine fv E fo_117_2 rfl fun a E => ld E ok one_9 0 rfl rfl rfl fun a E => lw E (y_slen Tryz.underlying9 rfl) fun a E => lw E (y_gtr rfl rfl) fun a E => pf E rfl rfl fun a E => mv E rfl fun a E => bsplit (decide ((o84.Frac.length : Int) > 6)) (fun hc106 => ?_) (fun hc106 => ?_)
   ·replace hF := cond_t hc106 hF
    replace E := E.upd 84 hc106 rfl
    refine ls E fun a E => ls E fun a E => ls E fun a E => ls E fun a E => ls E fun a E => ls E fun a E => ls E fun a E => ls E fun a E => ?_
    refine ls E fun a E => ls E fun a E => pt E rfl rfl fun a E => wn <| c_if E rfl (fun _ => ?_) (fun h => by cases h)
    refine sg <| lw E (y_build (ps := []) (qs := []) (cs := [vb false, (vs ([])), (vs ([]))]) zero_117 places_117 rfl trivial rfl) fun a E => l_storeB E ok 1 rfl rfl rfl inf_117 rfl rfl ⟨rfl, rfl, rfl, trivial⟩ rfl rfl fun w ok => aw E rfl fun a E => wp_ret ?_
    refine t_ret ?_
    exact fin hF ⟨m0, [vb false, (vs ([])), (vs ([]))], le_m0, ok.drop.drop, E.d, ⟨rv_c (cs := [vb false, (vs ([])), (vs ([]))]) E ok rfl agg_117 rfl (Holds.own 1 rfl rfl), rv_t E rfl, trivial⟩, ⟨rfl, (Nat.zero_le _), (Nat.zero_le _)⟩⟩
   replace hF := cond_f hc106 hF
   replace E := E.upd 84 hc106 rfl
   refine fv E fo_117_0 rfl fun a E => ld E ok one_4 0 rfl rfl rfl fun a E => mv E rfl fun a E => bsplit o84.Neg (fun hc107 => ?_) (fun hc107 => ?_)
   rotate_left
   ·replace hF := cond_f hc107 hF
    replace E := E.upd 87 hc107 rfl
    refine ls E fun a E => ls E fun a E => ls E fun a E => ls E fun a E => ls E fun a E => ls E fun a E => pf E rfl rfl fun a E => pf E rfl rfl fun a E => ?_
    refine wn <| c_if E rfl (fun h => by cases h) (fun _ => ?_)
    refine wp_skip <| t_norm <| sg <| lv E ok (y_loadAgg (cs := [vb o84.Neg, vs o84.Whole, vs o84.Frac]) agg_117 rfl rfl (Holds.own 0 rfl rfl)) fun a E => l_storeB E ok 1 rfl rfl rfl inf_117 rfl rfl ⟨rfl, rfl, rfl, trivial⟩ rfl rfl fun w ok => av E rfl fun a E => wpList_nil ?_
    refine t_norm <| wp_ret ?_
    exact fin hF ⟨m0, [vb o84.Neg, vs o84.Whole, vs o84.Frac], le_m0, ok.drop.drop, E.d, ⟨rv_c (cs := [vb o84.Neg, vs o84.Whole, vs o84.Frac]) E ok rfl agg_117 rfl (Holds.own 1 rfl rfl), rv_t E rfl, trivial⟩, ⟨rfl, l93, l94⟩⟩
   replace hF := cond_t hc107 hF
   replace E := E.upd 87 hc107 rfl
   refine fv E fo_117_1 rfl fun a E => ld E ok one_9 0 rfl rfl rfl fun a E => fv E fo_117_2 rfl fun a E => ld E ok one_9 0 rfl rfl rfl fun a E => ?_
   obtain ⟨s108, e109, hF⟩ := bnd hF
   refine lw E (y_cat rfl rfl e109) fun a E => ?_
   obtain ⟨r110, e111, hF⟩ := bnd hF
   refine lc E go_110 rfl (calqueref07_Zero_w N s108 (cat_len e109) e111 hG ok) fun w ok a E => pt E rfl rfl fun a E => pf E rfl rfl fun a E => wn <| cf E rfl hF (fun hc112 hF => ?_) fun hc112 hF => ?_
   ·refine sg <| lw E (y_build (ps := []) (qs := []) (cs := [vb false, (vs ([])), (vs ([]))]) zero_117 places_117 rfl trivial rfl) fun a E => l_storeB E ok 1 rfl rfl rfl inf_117 rfl rfl ⟨rfl, rfl, rfl, trivial⟩ rfl rfl fun w ok => aw E rfl fun a E => wp_ret ?_
    refine t_ret ?_
    exact fin hF ⟨m0, [vb false, (vs ([])), (vs ([]))], le_m0, ok.drop.drop, E.d, ⟨rv_c (cs := [vb false, (vs ([])), (vs ([]))]) E ok rfl agg_117 rfl (Holds.own 1 rfl rfl), rv_t E rfl, trivial⟩, ⟨rfl, (Nat.zero_le _), (Nat.zero_le _)⟩⟩
   refine wp_skip <| t_norm <| sg <| lv E ok (y_loadAgg (cs := [vb o84.Neg, vs o84.Whole, vs o84.Frac]) agg_117 rfl rfl (Holds.own 0 rfl rfl)) fun a E => l_storeB E ok 1 rfl rfl rfl inf_117 rfl rfl ⟨rfl, rfl, rfl, trivial⟩ rfl rfl fun w ok => av E rfl fun a E => wpList_nil ?_
   refine t_norm <| wp_ret ?_
   exact fin hF ⟨m0, [vb o84.Neg, vs o84.Whole, vs o84.Frac], le_m0, ok.drop.drop, E.d, ⟨rv_c (cs := [vb o84.Neg, vs o84.Whole, vs o84.Frac]) E ok rfl agg_117 rfl (Holds.own 1 rfl rfl), rv_t E rfl, trivial⟩, ⟨rfl, l93, l94⟩⟩
 replace hF := cond_t hc3 hF
 replace E := E.upd 9 hc3 rfl
 refine mv E rfl fun a E => ?_
 obtain ⟨c4, e5, hF⟩ := bnd hF
 refine lv E ok (y_index Tryz.underlying9 rfl rfl e5) fun a E => lw E (y_eql rfl rfl) fun a E => pt E rfl rfl fun a E => wn ?_
 obtain ⟨o6, hJ, hF⟩ := bnd hF
 refine c_mono (Q' := fun e a w => e = .normal ∧ Ok u m0 ([(b2, oc 117 [vb o6.2.Neg, vs o6.2.Whole, vs o6.2.Frac])] :: [(b1, oc 117 [vb false, (vs ([])), (vs ([]))])] :: S) w ∧ Env 98 a [(0, vs o6.1), (2, vp b1), (4, vp b2)] ∧ o6.1.length ≤ LIMS ∧ o6.2.Whole.length ≤ LIMS ∧ o6.2.Frac.length ≤ LIMS) ?_ ?_
 ·replace hF := hJ
  clear hJ
  refine cf E rfl hF (fun hc10 hF => ?_) fun hc10 hF => ?_
  rotate_left
  ·refine wp_skip ?_
   obtain rfl := sj hF
   exact ⟨rfl, ⟨ok, E.keep [0, 2, 4], ls_0, (Nat.zero_le _), (Nat.zero_le _)⟩⟩
  obtain ⟨o11, hJ, hF⟩ := bnd hF
  refine c_mono (Q' := fun e a w => e = .normal ∧ Ok u m0 ([(b2, oc 117 [vb o11.2.Neg, vs o11.2.Whole, vs o11.2.Frac])] :: [(b1, oc 117 [vb false, (vs ([])), (vs ([]))])] :: S) w ∧ Env 98 a [(0, vs o11.1), (2, vp b1), (4, vp b2)] ∧ o11.1.length ≤ LIMS ∧ o11.2.Whole.length ≤ LIMS ∧ o11.2.Frac.length ≤ LIMS) ?_ ?_
  rotate_left
  ·clear hJ
   intro e a w hO
   obtain ⟨rfl, ok, E, l17, l18, l19⟩ := hO
   obtain rfl := sj hF
   exact ⟨rfl, ⟨ok, E.keep [0, 2, 4], l17, l18, l19⟩⟩
  replace hF := hJ
  clear hJ
  obtain ⟨s15, e16, hF⟩ := bnd hF
  obtain rfl := sj hF
  refine k_begin [] (Cls u m0 ([(b1, oc 117 [vb false, (vs ([])), (vs ([]))])] :: [])) (Cls u m0 ([(b1, oc 117 [vb false, (vs ([])), (vs ([]))])] :: [])) (by kernel_rfl) ?_
  intro w hw
  replace ok := okdrew ok hw
  clear hw
  refine k_next (cl1 (cq le_m0 ok [1] rfl) (cq le_m0 ok [1] rfl)) fun hT => kt 0 E rfl hT (y_move rfl) fun a E => kt 1 E rfl hT (y_sslice Tryz.underlying9 e16 rfl ⟨_, rfl⟩ rfl) fun a E => kt 2 E rfl hT (y_fieldAddr fo_117_0 rfl) fun a E => k_all [3] (by kernel_rfl) rfl (one_c ?_)
  ·refine wo rfl <| l_storeB E ok 0 rfl rfl rfl inf_4 rfl rfl ⟨rfl, trivial⟩ rfl rfl fun w ok => wn <| k_next (cl1 (cq le_m0 ok [1] rfl) (cq le_m0 ok [1] rfl)) fun hT => kt 4 E rfl hT (y_assign rfl) fun a E => k_done (by kernel_rfl) ?_
   exact ⟨rfl, ⟨ok, E.keep [0, 2, 4], (Nat.le_trans (slc_len e16) ls_0), (Nat.zero_le _), (Nat.zero_le _)⟩⟩
 clear hJ
 intro e a w hO
 obtain ⟨rfl, ok, E, l20, l21, l22⟩ := hO
 refine t_norm <| sg <| aw E rfl fun a E => wp_seq <| wp_block ?_
 obtain ⟨o24, hL, hF⟩ := bnd hF
 refine c_loop _ (fun (s : Int) a w => Ok u m0 ([(b2, oc 117 [vb o6.2.Neg, vs o6.2.Whole, vs o6.2.Frac])] :: [(b1, oc 117 [vb false, (vs ([])), (vs ([]))])] :: S) w ∧ Env 98 a [(0, vs o6.1), (2, vp b1), (4, vp b2), (5, vi s)] ∧ InR .i64 s) (fun (b : Int) e a w => e = (.exit 0) ∧ Ok u m0 ([(b2, oc 117 [vb o6.2.Neg, vs o6.2.Whole, vs o6.2.Frac])] :: [(b1, oc 117 [vb false, (vs ([])), (vs ([]))])] :: S) w ∧ Env 98 a [(0, vs o6.1), (2, vp b1), (4, vp b2), (5, vi b)] ∧ InR .i64 b) ?_ ?_ N _ a w hL ⟨ok, E.keep [0, 2, 4, 5], (ir 0)⟩
 ·rintro k_26 a w r ⟨ok, E, r27⟩ hF
  replace hF : calqueref07_Split_b1 N o6 k_26 = some r := hF
  unfold calqueref07_Split_b1 at hF
  refine wp_seq <| sg <| mv E rfl fun a E => mv E rfl fun a E => lw E (y_slen Tryz.underlying9 rfl) fun a E => lw E (y_lss rfl rfl) fun a E => mv E rfl fun a E => ?_
  refine bsplit (decide (k_26 < (o6.1.length : Int))) (fun hc28 => ?_) (fun hc28 => ?_)
  rotate_left
  ·replace hF := cond_f hc28 hF
   replace E := E.upd 21 hc28 rfl
   refine ls E fun a E => ls E fun a E => ls E fun a E => ls E fun a E => pf E rfl rfl fun a E => wn <| c_if E rfl (fun h => by cases h) (fun _ => ?_)
   refine wp_exit <| t_exit ?_
   obtain rfl := sj hF
   exact so (⟨rfl, ⟨ok, E.keep [0, 2, 4, 5], r27⟩⟩)
  replace hF := cond_t hc28 hF
  replace E := E.upd 21 hc28 rfl
  refine mv E rfl fun a E => mv E rfl fun a E => ?_
  obtain ⟨c29, e30, hF⟩ := bnd hF
  refine lv E ok (y_index Tryz.underlying9 rfl rfl e30) fun a E => lw E (y_neq rfl rfl) fun a E => pt E rfl rfl fun a E => wn <| cf E rfl hF (fun hc31 hF => ?_) fun hc31 hF => ?_
  rotate_left
  ·refine wp_exit <| t_exit ?_
   obtain rfl := sj hF
   exact so (⟨rfl, ⟨ok, E.keep [0, 2, 4, 5], r27⟩⟩)
  refine wp_skip <| t_norm <| wp_block <| c_region <| mv E rfl fun a E => lw E (y_add rfl rfl (InR.inc r27 (InR.len l20) hc28)) fun a E => av E rfl fun a E => wpList_nil ?_
  refine b_norm ?_
  obtain rfl := sj hF
  exact step_n ⟨ok, E.keep [0, 2, 4, 5], (InR.inc r27 (InR.len l20) hc28)⟩
 intro e a w _ hO
 obtain ⟨rfl, ok, E, r32⟩ := hO
 refine b_hit <| t_norm <| sg <| mv E rfl fun a E => mv E rfl fun a E => ?_
 obtain ⟨s33, e34, hF⟩ := bnd hF
 refine lw E (y_sslice Tryz.underlying9 e34 rfl rfl ⟨_, rfl⟩) fun a E => fv E fo_117_1 rfl fun a E => l_storeB E ok 0 rfl rfl rfl inf_9 rfl rfl ⟨rfl, trivial⟩ rfl rfl fun w ok => wn <| wp_seq <| sg ?_
 refine mv E rfl fun a E => mv E rfl fun a E => lw E (y_slen Tryz.underlying9 rfl) fun a E => lw E (y_lss rfl rfl) fun a E => wn ?_
 obtain ⟨o35, hJ, hF⟩ := bnd hF
 refine c_mono (Q' := fun e a w => (Sum.elim (fun b36 => e = .normal ∧ Ok u m0 ([(b2, oc 117 [vb b36.Neg, vs b36.Whole, vs b36.Frac])] :: [(b1, oc 117 [vb false, (vs ([])), (vs ([]))])] :: S) w ∧ Env 98 a [(2, vp b1), (4, vp b2)] ∧ b36.Whole.length ≤ LIMS ∧ b36.Frac.length ≤ LIMS) (fun b39 => e = .ret ∧ calqueref07_Split_R u m0 S b39 a w)) o35) ?_ ?_
 ·replace hF := hJ
  clear hJ
  refine cf E rfl hF (fun hc40 hF => ?_) fun hc40 hF => ?_
  rotate_left
  ·refine wp_skip ?_
   obtain rfl := sj hF
   exact (sl ⟨rfl, ⟨ok, E.keep [2, 4], (Nat.le_trans (slc_len e34) l20), l22⟩⟩)
  refine sg <| mv E rfl fun a E => mv E rfl fun a E => lw E (y_add rfl rfl (InR.inc r32 (InR.len l20) hc40)) fun a E => ?_
  obtain ⟨s41, e42, hF⟩ := bnd hF
  refine lw E (y_sslice Tryz.underlying9 e42 rfl ⟨_, rfl⟩ rfl) fun a E => fv E fo_117_2 rfl fun a E => l_storeB E ok 0 rfl rfl rfl inf_9 rfl rfl ⟨rfl, trivial⟩ rfl rfl fun w ok => wn <| sg <| fv E fo_117_2 rfl fun a E => ?_
  refine ld E ok one_9 0 rfl rfl rfl fun a E => lw E (y_slen Tryz.underlying9 rfl) fun a E => lw E (y_eql rfl rfl) fun a E => wn <| cf E rfl hF (fun hc43 hF => ?_) fun hc43 hF => ?_
  rotate_left
  ·refine wp_skip ?_
   obtain rfl := sj hF
   exact (sl ⟨rfl, ⟨ok, E.keep [2, 4], (Nat.le_trans (slc_len e34) l20), (Nat.le_trans (slc_len e42) l20)⟩⟩)
  refine sg <| lw E (y_build (ps := []) (qs := []) (cs := [vb false, (vs ([])), (vs ([]))]) zero_117 places_117 rfl trivial rfl) fun a E => l_storeB E ok 1 rfl rfl rfl inf_117 rfl rfl ⟨rfl, rfl, rfl, trivial⟩ rfl rfl fun w ok => aw E rfl fun a E => wp_ret ?_
  have hret : calqueref07_Split_R u m0 S ((Number.mk false ([]) ([])), false) a w := ⟨m0, [vb false, (vs ([])), (vs ([]))], le_m0, ok.drop.drop, E.d, ⟨rv_c (cs := [vb false, (vs ([])), (vs ([]))]) E ok rfl agg_117 rfl (Holds.own 1 rfl rfl), rv_t E rfl, trivial⟩, ⟨rfl, (Nat.zero_le _), (Nat.zero_le _)⟩⟩
  obtain rfl := sj hF
  exact (sr ⟨rfl, hret⟩)
 clear hJ
 intro e a w hO
 rcases o35 with o35 | o35
 rotate_left
 ·replace hF := elim_r hF
  obtain ⟨rfl, hret⟩ := hO
  refine t_ret ?_
  exact fin hF hret
 replace hF := elim_l hF
 obtain ⟨rfl, ok, E, l44, l45⟩ := hO
 refine t_norm <| wp_seq <| sg <| fv E fo_117_1 rfl fun a E => ld E ok one_9 0 rfl rfl rfl fun a E => fv E fo_117_2 rfl fun a E => ld E ok one_9 0 rfl rfl rfl fun a E => ?_
 obtain ⟨s46, e47, hF⟩ := bnd hF
 refine lw E (y_cat rfl rfl e47) fun a E => ?_
 obtain ⟨r48, e49, hF⟩ := bnd hF
 refine lc E go_109 rfl (calqueref07_digits_w N s46 (cat_len e47) e49 hG ok) fun w ok a E => lw E (y_not rfl) fun a E => mv E rfl fun a E => bsplit (!r48) (fun hc50 => ?_) (fun hc50 => ?_)
 ·replace hF := cond_t hc50 hF
  replace E := E.upd 54 hc50 rfl
  refine ls E fun a E => ls E fun a E => ls E fun a E => ls E fun a E => pt E rfl rfl fun a E => mv E rfl fun a E => ls E fun a E => ls E fun a E => ?_
  refine ls E fun a E => ls E fun a E => pt E rfl rfl fun a E => mv E rfl fun a E => ls E fun a E => ls E fun a E => ls E fun a E => ls E fun a E => ?_
  refine ls E fun a E => ls E fun a E => ls E fun a E => ls E fun a E => ls E fun a E => ls E fun a E => pt E rfl rfl fun a E => mv E rfl fun a E => ?_
  refine ls E fun a E => ls E fun a E => ls E fun a E => ls E fun a E => pt E rfl rfl fun a E => mv E rfl fun a E => ls E fun a E => ls E fun a E => ?_
  refine ls E fun a E => ls E fun a E => ls E fun a E => ls E fun a E => ls E fun a E => ls E fun a E => ls E fun a E => ls E fun a E => ?_
  refine pt E rfl rfl fun a E => wn <| c_if E rfl (fun _ => ?_) (fun h => by cases h)
  refine sg <| lw E (y_build (ps := []) (qs := []) (cs := [vb false, (vs ([])), (vs ([]))]) zero_117 places_117 rfl trivial rfl) fun a E => l_storeB E ok 1 rfl rfl rfl inf_117 rfl rfl ⟨rfl, rfl, rfl, trivial⟩ rfl rfl fun w ok => aw E rfl fun a E => wp_ret ?_
  refine t_ret ?_
  exact fin hF ⟨m0, [vb false, (vs ([])), (vs ([]))], le_m0, ok.drop.drop, E.d, ⟨rv_c (cs := [vb false, (vs ([])), (vs ([]))]) E ok rfl agg_117 rfl (Holds.own 1 rfl rfl), rv_t E rfl, trivial⟩, ⟨rfl, (Nat.zero_le _), (Nat.zero_le _)⟩⟩
 replace hF := cond_f hc50 hF
 replace E := E.upd 54 hc50 rfl
 refine fv E fo_117_1 rfl fun a E => ld E ok one_9 0 rfl rfl rfl fun a E => lw E (y_slen Tryz.underlying9 rfl) fun a E => lw E (y_lss rfl rfl) fun a E => pf E rfl rfl fun a E => mv E rfl fun a E => bsplit (decide ((o35.Whole.length : Int) < 1)) (fun hc51 => ?_) (fun hc51 => ?_)
 ·replace hF := cond_t hc51 hF
  replace E := E.upd 60 hc51 rfl
  refine ls E fun a E => ls E fun a E => ls E fun a E => ls E fun a E => pt E rfl rfl fun a E => mv E rfl fun a E => ls E fun a E => ls E fun a E => ?_
  refine ls E fun a E => ls E fun a E => ls E fun a E => ls E fun a E => ls E fun a E => ls E fun a E => ls E fun a E => ls E fun a E => ?_
  refine pt E rfl rfl fun a E => mv E rfl fun a E => ls E fun a E => ls E fun a E => ls E fun a E => ls E fun a E => pt E rfl rfl fun a E => mv E rfl fun a E => ?_
  refine ls E fun a E => ls E fun a E => ls E fun a E => ls E fun a E => ls E fun a E => ls E fun a E => ls E fun a E => ls E fun a E => ?_
  refine ls E fun a E => ls E fun a E => pt E rfl rfl fun a E => wn <| c_if E rfl (fun _ => ?_) (fun h => by cases h)
  refine sg <| lw E (y_build (ps := []) (qs := []) (cs := [vb false, (vs ([])), (vs ([]))]) zero_117 places_117 rfl trivial rfl) fun a E => l_storeB E ok 1 rfl rfl rfl inf_117 rfl rfl ⟨rfl, rfl, rfl, trivial⟩ rfl rfl fun w ok => aw E rfl fun a E => wp_ret ?_
  refine t_ret ?_
  exact fin hF ⟨m0, [vb false, (vs ([])), (vs ([]))], le_m0, ok.drop.drop, E.d, ⟨rv_c (cs := [vb false, (vs ([])), (vs ([]))]) E ok rfl agg_117 rfl (Holds.own 1 rfl rfl), rv_t E rfl, trivial⟩, ⟨rfl, (Nat.zero_le _), (Nat.zero_le _)⟩⟩
 replace hF := cond_f hc51 hF
 replace E := E.upd 60 hc51 rfl
 refine fv E fo_117_1 rfl fun a E => ld E ok one_9 0 rfl rfl rfl fun a E => lw E (y_slen Tryz.underlying9 rfl) fun a E => lw E (y_gtr rfl rfl) fun a E => pf E rfl rfl fun a E => mv E rfl fun a E => bsplit (decide ((o35.Whole.length : Int) > 15)) (fun hc52 => ?_) (fun hc52 => ?_)
 ·replace hF := cond_t hc52 hF
  replace E := E.upd 66 hc52 rfl
  refine ls E fun a E => ls E fun a E => ls E fun a E => ls E fun a E => ls E fun a E => ls E fun a E => ls E fun a E => ls E fun a E => ?_
  refine ls E fun a E => ls E fun a E => pt E rfl rfl fun a E => mv E rfl fun a E => ls E fun a E => ls E fun a E => ls E fun a E => ls E fun a E => ?_
  refine pt E rfl rfl fun a E => mv E rfl fun a E => ls E fun a E => ls E fun a E => ls E fun a E => ls E fun a E => ls E fun a E => ls E fun a E => ?_
  refine ls E fun a E => ls E fun a E => ls E fun a E => ls E fun a E => pt E rfl rfl fun a E => wn <| c_if E rfl (fun _ => ?_) (fun h => by cases h)
  refine sg <| lw E (y_build (ps := []) (qs := []) (cs := [vb false, (vs ([])), (vs ([]))]) zero_117 places_117 rfl trivial rfl) fun a E => l_storeB E ok 1 rfl rfl rfl inf_117 rfl rfl ⟨rfl, rfl, rfl, trivial⟩ rfl rfl fun w ok => aw E rfl fun a E => wp_ret ?_
  refine t_ret ?_
  exact fin hF ⟨m0, [vb false, (vs ([])), (vs ([]))], le_m0, ok.drop.drop, E.d, ⟨rv_c (cs := [vb false, (vs ([])), (vs ([]))]) E ok rfl agg_117 rfl (Holds.own 1 rfl rfl), rv_t E rfl, trivial⟩, ⟨rfl, (Nat.zero_le _), (Nat.zero_le _)⟩⟩
 replace hF := cond_f hc52 hF
 replace E := E.upd 66 hc52 rfl
 refine fv E fo_117_1 rfl fun a E => ld E ok one_9 0 rfl rfl rfl fun a E => lw E (y_slen Tryz.underlying9 rfl) fun a E => lw E (y_gtr rfl rfl) fun a E => mv E rfl fun a E => bsplit (decide ((o35.Whole.length : Int) > 1)) (fun hc53 => ?_) (fun hc53 => ?_)
 rotate_left
 ·as_aux_lemma =>
   replace hF := cond_f hc53 hF
   replace E := E.upd 71 hc53 rfl
   refine ls E fun a E => ls E fun a E => ls E fun a E => ls E fun a E => pf E rfl rfl fun a E => pf E rfl rfl fun a E => mv E rfl fun a E => fv E fo_117_2 rfl fun a E => ?_
   refine ld E ok one_9 0 rfl rfl rfl fun a E => lw E (y_slen Tryz.underlying9 rfl) fun a E => lw E (y_gtr rfl rfl) fun a E => pf E rfl rfl fun a E => mv E rfl fun a E => bsplit (decide ((o35.Frac.length : Int) > 6)) (fun hc64 => ?_) (fun hc64 => ?_)
   ·replace hF := cond_t hc64 hF
    replace E := E.upd 84 hc64 rfl
    refine ls E fun a E => ls E fun a E => ls E fun a E => ls E fun a E => ls E fun a E => ls E fun a E => ls E fun a E => ls E fun a E => ?_
    refine ls E fun a E => ls E fun a E => pt E rfl rfl fun a E => wn <| c_if E rfl (fun _ => ?_) (fun h => by cases h)
    refine sg <| lw E (y_build (ps := []) (qs := []) (cs := [vb false, (vs ([])), (vs ([]))]) zero_117 places_117 rfl trivial rfl) fun a E => l_storeB E ok 1 rfl rfl rfl inf_117 rfl rfl ⟨rfl, rfl, rfl, trivial⟩ rfl rfl fun w ok => aw E rfl fun a E => wp_ret ?_
    refine t_ret ?_
    exact fin hF ⟨m0, [vb false, (vs ([])), (vs ([]))], le_m0, ok.drop.drop, E.d, ⟨rv_c (cs := [vb false, (vs ([])), (vs ([]))]) E ok rfl agg_117 rfl (Holds.own 1 rfl rfl), rv_t E rfl, trivial⟩, ⟨rfl, (Nat.zero_le _), (Nat.zero_le _)⟩⟩
   replace hF := cond_f hc64 hF
   replace E := E.upd 84 hc64 rfl
   refine fv E fo_117_0 rfl fun a E => ld E ok one_4 0 rfl rfl rfl fun a E => mv E rfl fun a E => bsplit o35.Neg (fun hc65 => ?_) (fun hc65 => ?_)
   rotate_left
   ·replace hF := cond_f hc65 hF
    replace E := E.upd 87 hc65 rfl
    refine ls E fun a E => ls E fun a E => ls E fun a E => ls E fun a E => ls E fun a E => ls E fun a E => pf E rfl rfl fun a E => pf E rfl rfl fun a E => ?_
    refine wn <| c_if E rfl (fun h => by cases h) (fun _ => ?_)
    refine wp_skip <| t_norm <| sg <| lv E ok (y_loadAgg (cs := [vb o35.Neg, vs o35.Whole, vs o35.Frac]) agg_117 rfl rfl (Holds.own 0 rfl rfl)) fun a E => l_storeB E ok 1 rfl rfl rfl inf_117 rfl rfl ⟨rfl, rfl, rfl, trivial⟩ rfl rfl fun w ok => av E rfl fun a E => wpList_nil ?_
    refine t_norm <| wp_ret ?_
    exact fin hF ⟨m0, [vb o35.Neg, vs o35.Whole, vs o35.Frac], le_m0, ok.drop.drop, E.d, ⟨rv_c (cs := [vb o35.Neg, vs o35.Whole, vs o35.Frac]) E ok rfl agg_117 rfl (Holds.own 1 rfl rfl), rv_t E rfl, trivial⟩, ⟨rfl, l44, l45⟩⟩
   replace hF := cond_t hc65 hF
   replace E := E.upd 87 hc65 rfl
   refine fv E fo_117_1 rfl fun a E => ld E ok one_9 0 rfl rfl rfl fun a E => fv E fo_117_2 rfl fun a E => ld E ok one_9 0 rfl rfl rfl fun a E => ?_
   obtain ⟨s66, e67, hF⟩ := bnd hF
   refine lw E (y_cat rfl rfl e67) fun a E => ?_
   obtain ⟨r68, e69, hF⟩ := bnd hF
   refine lc E go_110 rfl (calqueref07_Zero_w N s66 (cat_len e67) e69 hG ok) fun w ok a E => pt E rfl rfl fun a E => pf E rfl rfl fun a E => wn <| cf E rfl hF (fun hc70 hF => ?_) fun hc70 hF => ?_
   ·refine sg <| lw E (y_build (ps := []) (qs := []) (cs := [vb false, (vs ([])), (vs ([]))]) zero_117 places_117 rfl trivial rfl) fun a E => l_storeB E ok 1 rfl rfl rfl inf_117 rfl rfl ⟨rfl, rfl, rfl, trivial⟩ rfl rfl fun w ok => aw E rfl fun a E => wp_ret ?_
    refine t_ret ?_
    exact fin hF ⟨m0, [vb false, (vs ([])), (vs ([]))], le_m0, ok.drop.drop, E.d, ⟨rv_c (cs := [vb false, (vs ([])), (vs ([]))]) E ok rfl agg_117 rfl (Holds.own 1 rfl rfl), rv_t E rfl, trivial⟩, ⟨rfl, (Nat.zero_le _), (Nat.zero_le _)⟩⟩
   refine wp_skip <| t_norm <| sg <| lv E ok (y_loadAgg (cs := [vb o35.Neg, vs o35.Whole, vs o35.Frac]) agg_117 rfl rfl (Holds.own 0 rfl rfl)) fun a E => l_storeB E ok 1 rfl rfl rfl inf_117 rfl rfl ⟨rfl, rfl, rfl, trivial⟩ rfl rfl fun w ok => av E rfl fun a E => wpList_nil ?_
   refine t_norm <| wp_ret ?_
   exact fin hF ⟨m0, [vb o35.Neg, vs o35.Whole, vs o35.Frac], le_m0, ok.drop.drop, E.d, ⟨rv_c (cs := [vb o35.Neg, vs o35.Whole, vs o35.Frac]) E ok rfl agg_117 rfl (Holds.own 1 rfl rfl), rv_t E rfl, trivial⟩, ⟨rfl, l44, l45⟩⟩
 replace hF := cond_t hc53 hF
 replace E := E.upd 71 hc53 rfl
 refine fv E fo_117_1 rfl fun a E => ld E ok one_9 0 rfl rfl rfl fun a E => ?_
 obtain ⟨c54, e55, hF⟩ := bnd hF
 refine lv E ok (y_index Tryz.underlying9 rfl rfl e55) fun a E => lw E (y_eql rfl rfl) fun a E => pt E rfl rfl fun a E => pf E rfl rfl fun a E => mv E rfl fun a E => bsplit ((c54.toNat : Int) == 48) (fun hc56 => ?_) (fun hc56 => ?_)
 ·replace hF := cond_t hc56 hF
  replace E := E.upd 78 hc56 rfl
  refine ls E fun a E => ls E fun a E => ls E fun a E => ls E fun a E => pt E rfl rfl fun a E => mv E rfl fun a E => ls E fun a E => ls E fun a E => ?_
  refine ls E fun a E => ls E fun a E => ls E fun a E => ls E fun a E => ls E fun a E => ls E fun a E => ls E fun a E => ls E fun a E => ?_
  refine pt E rfl rfl fun a E => wn <| c_if E rfl (fun _ => ?_) (fun h => by cases h)
  refine sg <| lw E (y_build (ps := []) (qs := []) (cs := [vb false, (vs ([])), (vs ([]))]) zero_117 places_117 rfl trivial rfl) fun a E => l_storeB E ok 1 rfl rfl rfl inf_117 rfl rfl ⟨rfl, rfl, rfl, trivial⟩ rfl rfl fun w ok => aw E rfl fun a E => wp_ret ?_
  refine t_ret ?_
  exact fin hF ⟨m0, [vb false, (vs ([])), (vs ([]))], le_m0, ok.drop.drop, E.d, ⟨rv_c (cs := [vb false, (vs ([])), (vs ([]))]) E ok rfl agg_117 rfl (Holds.own 1 rfl rfl), rv_t E rfl, trivial⟩, ⟨rfl, (Nat.zero_le _), (Nat.zero_le _)⟩⟩
 replace hF := cond_f hc56 hF
 replace E := E.upd 78 hc56 rfl
 refine fv E fo_117_2 rfl fun a E => ld E ok one_9 0 rfl rfl rfl fun a E => lw E (y_slen Tryz.underlying9 rfl) fun a E => lw E (y_gtr rfl rfl) fun a E => pf E rfl rfl fun a E => mv E rfl fun a E => bsplit (decide ((o35.Frac.length : Int) > 6)) (fun hc57 => ?_) (fun hc57 => ?_)
 ·replace hF := cond_t hc57 hF
  replace E := E.upd 84 hc57 rfl
  refine ls E fun a E => ls E fun a E => ls E fun a E => ls E fun a E => ls E fun a E => ls E fun a E => ls E fun a E => ls E fun a E => ?_
  refine ls E fun a E => ls E fun a E => pt E rfl rfl fun a E => wn <| c_if E rfl (fun _ => ?_) (fun h => by cases h)
  refine sg <| lw E (y_build (ps := []) (qs := []) (cs := [vb false, (vs ([])), (vs ([]))]) zero_117 places_117 rfl trivial rfl) fun a E => l_storeB E ok 1 rfl rfl rfl inf_117 rfl rfl ⟨rfl, rfl, rfl, trivial⟩ rfl rfl fun w ok => aw E rfl fun a E => wp_ret ?_
  refine t_ret ?_
  exact fin hF ⟨m0, [vb false, (vs ([])), (vs ([]))], le_m0, ok.drop.drop, E.d, ⟨rv_c (cs := [vb false, (vs ([])), (vs ([]))]) E ok rfl agg_117 rfl (Holds.own 1 rfl rfl), rv_t E rfl, trivial⟩, ⟨rfl, (Nat.zero_le _), (Nat.zero_le _)⟩⟩
 replace hF := cond_f hc57 hF
 replace E := E.upd 84 hc57 rfl
 refine fv E fo_117_0 rfl fun a E => ld E ok one_4 0 rfl rfl rfl fun a E => mv E rfl fun a E => bsplit o35.Neg (fun hc58 => ?_) (fun hc58 => ?_)
 rotate_left
 ·replace hF := cond_f hc58 hF
  replace E := E.upd 87 hc58 rfl
  refine ls E fun a E => ls E fun a E => ls E fun a E => ls E fun a E => ls E fun a E => ls E fun a E => pf E rfl rfl fun a E => pf E rfl rfl fun a E => ?_
  refine wn <| c_if E rfl (fun h => by cases h) (fun _ => ?_)
  refine wp_skip <| t_norm <| sg <| lv E ok (y_loadAgg (cs := [vb o35.Neg, vs o35.Whole, vs o35.Frac]) agg_117 rfl rfl (Holds.own 0 rfl rfl)) fun a E => l_storeB E ok 1 rfl rfl rfl inf_117 rfl rfl ⟨rfl, rfl, rfl, trivial⟩ rfl rfl fun w ok => av E rfl fun a E => wpList_nil ?_
  refine t_norm <| wp_ret ?_
  exact fin hF ⟨m0, [vb o35.Neg, vs o35.Whole, vs o35.Frac], le_m0, ok.drop.drop, E.d, ⟨rv_c (cs := [vb o35.Neg, vs o35.Whole, vs o35.Frac]) E ok rfl agg_117 rfl (Holds.own 1 rfl rfl), rv_t E rfl, trivial⟩, ⟨rfl, l44, l45⟩⟩
 replace hF := cond_t hc58 hF
 replace E := E.upd 87 hc58 rfl
 refine fv E fo_117_1 rfl fun a E => ld E ok one_9 0 rfl rfl rfl fun a E => fv E fo_117_2 rfl fun a E => ld E ok one_9 0 rfl rfl rfl fun a E => ?_
 obtain ⟨s59, e60, hF⟩ := bnd hF
 refine lw E (y_cat rfl rfl e60) fun a E => ?_
 obtain ⟨r61, e62, hF⟩ := bnd hF
 refine lc E go_110 rfl (calqueref07_Zero_w N s59 (cat_len e60) e62 hG ok) fun w ok a E => pt E rfl rfl fun a E => pf E rfl rfl fun a E => wn <| cf E rfl hF (fun hc63 hF => ?_) fun hc63 hF => ?_
 ·refine sg <| lw E (y_build (ps := []) (qs := []) (cs := [vb false, (vs ([])), (vs ([]))]) zero_117 places_117 rfl trivial rfl) fun a E => l_storeB E ok 1 rfl rfl rfl inf_117 rfl rfl ⟨rfl, rfl, rfl, trivial⟩ rfl rfl fun w ok => aw E rfl fun a E => wp_ret ?_
  refine t_ret ?_
  exact fin hF ⟨m0, [vb false, (vs ([])), (vs ([]))], le_m0, ok.drop.drop, E.d, ⟨rv_c (cs := [vb false, (vs ([])), (vs ([]))]) E ok rfl agg_117 rfl (Holds.own 1 rfl rfl), rv_t E rfl, trivial⟩, ⟨rfl, (Nat.zero_le _), (Nat.zero_le _)⟩⟩
 refine wp_skip <| t_norm <| sg <| lv E ok (y_loadAgg (cs := [vb o35.Neg, vs o35.Whole, vs o35.Frac]) agg_117 rfl rfl (Holds.own 0 rfl rfl)) fun a E => l_storeB E ok 1 rfl rfl rfl inf_117 rfl rfl ⟨rfl, rfl, rfl, trivial⟩ rfl rfl fun w ok => av E rfl fun a E => wpList_nil ?_
 refine t_norm <| wp_ret ?_
 exact fin hF ⟨m0, [vb o35.Neg, vs o35.Whole, vs o35.Frac], le_m0, ok.drop.drop, E.d, ⟨rv_c (cs := [vb o35.Neg, vs o35.Whole, vs o35.Frac]) E ok rfl agg_117 rfl (Holds.own 1 rfl rfl), rv_t E rfl, trivial⟩, ⟨rfl, l44, l45⟩⟩
def calqueref07_Valid_R (u : World) (m0 : Mem) (S : Segs) (r : Bool) (a : Act) (w : World) : Prop :=
 Ok u m0 S w ∧ a.defers = [] ∧ RVs Tryz.prog a w [.t 2 (.bool r)]
theorem calqueref07_Valid_w (N : Nat) (s_0 : List UInt8) (ls_0 : s_0.length ≤ LIMS) {r : Bool} (hF : calqueref07_Valid N s_0 = some r) (hG : Glob u) (ok : Ok u m0 S w) :
  Calls Tryz.prog 33 [vs s_0].toArray w fun e w' => (e = .returned (.bool r) ∧ Ok u m0 S w') := by
 have hb0 := ok.base
 have le_m0 := Mem.le.refl m0
 unfold calqueref07_Valid at hF
 refine en (calqueref07_Valid_R u m0 S) r Tryz.func33 rfl rfl rfl (by rintro a w ⟨ok, hd, hrv⟩; exact c_ret2 [.t 2 (.bool r)] hd rfl hrv ⟨rfl, ok⟩) fun fin a E => sg <| aw E rfl fun a E => sg ?_
 refine mv E rfl fun a E => ?_
 obtain ⟨r1, e2, hF⟩ := bnd hF
 refine l_call E go_77 rfl (calqueref07_Split_w N s_0 ls_0 e2 hG ok) rfl rfl ?_
 rintro _ w ⟨m3, vs4, rfl, hle, ok, h5⟩
 have le_m0 := le_m0.trans hle
 obtain ⟨rfl, l6, l7⟩ := h5
 refine ⟨_, rfl, fun a E => ?_⟩
 refine mv E rfl fun a E => lw E (y_extract rfl rfl) fun a E => lw E (y_extract rfl rfl) fun a E => l_alloc E ok zero_117 rfl rfl fun b8 a w E ok => l_storeB E ok 0 rfl rfl rfl inf_117 rfl rfl ⟨rfl, rfl, rfl, trivial⟩ rfl rfl fun w ok => aw E rfl fun a E => ?_
 refine sg <| mv E rfl fun a E => aw E rfl fun a E => wp_ret ?_
 exact fin hF ⟨(ok.drop).down hb0 le_m0, E.d, ⟨rv_t E rfl, trivial⟩⟩
def calqueref10_Unsigned_R (u : World) (m0 : Mem) (S : Segs) (r : Bool) (a : Act) (w : World) : Prop :=
 Ok u m0 S w ∧ a.defers = [] ∧ RVs Tryz.prog a w [.t 2 (.bool r)]
theorem calqueref10_Unsigned_w (N : Nat) (s_0 : List UInt8) (ls_0 : s_0.length ≤ LIMS) {r : Bool} (hF : calqueref10_Unsigned N s_0 = some r) (hG : Glob u) (ok : Ok u m0 S w) :
  Calls Tryz.prog 22 [vs s_0].toArray w fun e w' => (e = .returned (.bool r) ∧ Ok u m0 S w') := by
 unfold calqueref10_Unsigned at hF
 refine en (calqueref10_Unsigned_R u m0 S) r Tryz.func22 rfl rfl rfl (by rintro a w ⟨ok, hd, hrv⟩; exact c_ret2 [.t 2 (.bool r)] hd rfl hrv ⟨rfl, ok⟩) fun fin a E => sg <| aw E rfl fun a E => sg ?_
 refine mv E rfl fun a E => ?_
 obtain ⟨r1, e2, hF⟩ := bnd hF
 refine lc E go_33 rfl (calqueref07_Valid_w N s_0 ls_0 e2 hG ok) fun w ok a E => mv E rfl fun a E => bsplit r1 (fun hc3 => ?_) (fun hc3 => ?_)
 rotate_left
 ·replace hF := cond_f hc3 hF
  replace E := E.upd 5 hc3 rfl
  refine ls E fun a E => ls E fun a E => ls E fun a E => pf E rfl rfl fun a E => aw E rfl fun a E => wp_ret ?_
  exact fin hF ⟨ok, E.d, ⟨rv_t E rfl, trivial⟩⟩
 replace hF := cond_t hc3 hF
 replace E := E.upd 5 hc3 rfl
 refine mv E rfl fun a E => ?_
 obtain ⟨c4, e5, hF⟩ := bnd hF
 refine lv E ok (y_index Tryz.underlying9 rfl rfl e5) fun a E => lw E (y_neq rfl rfl) fun a E => pt E rfl rfl fun a E => aw E rfl fun a E => wp_ret ?_
 exact fin hF ⟨ok, E.d, ⟨rv_t E rfl, trivial⟩⟩
end Go.Proofs.YtidfofhmnlhfjaaGreatDoor
namespace Go.Proofs.YtidfofhmnlhfjaaGreatDoor
open Go.X
structure Number2 where
  negative : Bool
  whole : List UInt8
  fraction : List UInt8
def decimal_digits (N : Nat) (s_0 : List UInt8) : Option Bool :=
  (strings_Trim N s_0 ([48, 49, 50, 51, 52, 53, 54, 55, 56, 57])).bind fun r1 =>
  some (r1 == ([]))
def decimal_zero (N : Nat) (s_0 : List UInt8) : Option Bool :=
  (strings_Trim N s_0 ([48])).bind fun r1 =>
  some (r1 == ([]))
def decimal_number_zero (N : Nat) (x_0 : Number2) : Option Bool :=
  (decimal_zero N x_0.whole).bind fun r4 =>
  bif r4 then
    (decimal_zero N x_0.fraction).bind fun r7 =>
    some r7
  else
    some false
def decimal_split (N : Nat) (s_0 : List UInt8) : Option (Number2 × Bool) :=
  (strings_CutPrefix N s_0 ([45])).bind fun r2 =>
  (strings_Cut N r2.1 ([46])).bind fun r5 =>
  bif (decide ((r5.1.length : Int) < 1)) then
    some ((Number2.mk r2.2 r5.1 r5.2.1), false)
  else
    bif (decide ((r5.1.length : Int) > 15)) then
      some ((Number2.mk r2.2 r5.1 r5.2.1), false)
    else
      (decimal_digits N r5.1).bind fun r12 =>
      bif (!r12) then
        some ((Number2.mk r2.2 r5.1 r5.2.1), false)
      else
        bif (decide ((r5.1.length : Int) > 1)) then
          (idx r5.1 0).bind fun c16 =>
          bif ((c16.toNat : Int) == 48) then
            some ((Number2.mk r2.2 r5.1 r5.2.1), false)
          else
            bif r5.2.2 then
              bif ((r5.2.1.length : Int) == 0) then
                some ((Number2.mk r2.2 r5.1 r5.2.1), false)
              else
                bif (decide ((r5.2.1.length : Int) > 6)) then
                  some ((Number2.mk r2.2 r5.1 r5.2.1), false)
                else
                  (decimal_digits N r5.2.1).bind fun r22 =>
                  bif (!r22) then
                    some ((Number2.mk r2.2 r5.1 r5.2.1), false)
                  else
                    (show Option (Bool × Number2) from
                      bif (!r2.2) then
                        some (true, (Number2.mk r2.2 r5.1 r5.2.1))
                      else
                        (decimal_number_zero N (Number2.mk r2.2 r5.1 r5.2.1)).bind fun r29 =>
                        some ((!r29), (Number2.mk r2.2 r5.1 r5.2.1))).bind fun o25 =>
                    some (o25.2, o25.1)
            else
              bif (decide ((r5.2.1.length : Int) > 6)) then
                some ((Number2.mk r2.2 r5.1 r5.2.1), false)
              else
                (decimal_digits N r5.2.1).bind fun r34 =>
                bif (!r34) then
                  some ((Number2.mk r2.2 r5.1 r5.2.1), false)
                else
                  (show Option (Bool × Number2) from
                    bif (!r2.2) then
                      some (true, (Number2.mk r2.2 r5.1 r5.2.1))
                    else
                      (decimal_number_zero N (Number2.mk r2.2 r5.1 r5.2.1)).bind fun r41 =>
                      some ((!r41), (Number2.mk r2.2 r5.1 r5.2.1))).bind fun o37 =>
                  some (o37.2, o37.1)
        else
          bif r5.2.2 then
            bif ((r5.2.1.length : Int) == 0) then
              some ((Number2.mk r2.2 r5.1 r5.2.1), false)
            else
              bif (decide ((r5.2.1.length : Int) > 6)) then
                some ((Number2.mk r2.2 r5.1 r5.2.1), false)
              else
                (decimal_digits N r5.2.1).bind fun r48 =>
                bif (!r48) then
                  some ((Number2.mk r2.2 r5.1 r5.2.1), false)
                else
                  (show Option (Bool × Number2) from
                    bif (!r2.2) then
                      some (true, (Number2.mk r2.2 r5.1 r5.2.1))
                    else
                      (decimal_number_zero N (Number2.mk r2.2 r5.1 r5.2.1)).bind fun r55 =>
                      some ((!r55), (Number2.mk r2.2 r5.1 r5.2.1))).bind fun o51 =>
                  some (o51.2, o51.1)
          else
            bif (decide ((r5.2.1.length : Int) > 6)) then
              some ((Number2.mk r2.2 r5.1 r5.2.1), false)
            else
              (decimal_digits N r5.2.1).bind fun r60 =>
              bif (!r60) then
                some ((Number2.mk r2.2 r5.1 r5.2.1), false)
              else
                (show Option (Bool × Number2) from
                  bif (!r2.2) then
                    some (true, (Number2.mk r2.2 r5.1 r5.2.1))
                  else
                    (decimal_number_zero N (Number2.mk r2.2 r5.1 r5.2.1)).bind fun r67 =>
                    some ((!r67), (Number2.mk r2.2 r5.1 r5.2.1))).bind fun o63 =>
                some (o63.2, o63.1)
def decimal_Valid (N : Nat) (s_0 : List UInt8) : Option Bool :=
  (decimal_split N s_0).bind fun r1 =>
  some r1.2
def decimal_value (N : Nat) (s_0 : List UInt8) : Option Int :=
  (cat ([48]) s_0).bind fun s1 =>
  (strconv_Atoi N s1).bind fun r3 =>
  some r3.1
def decimal_Operand (N : Nat) (s_0 : List UInt8) (operand_1 : Int) : Option (Int × Int) :=
  (decimal_split N s_0).bind fun r1 =>
  bif (!r1.2) then
    some (0, 1)
  else
    (strings_TrimRight N r1.1.fraction ([48])).bind fun r10 =>
    bif (operand_1 == 1) then
      bif (r10 != ([])) then
        some (0, 8)
      else
        (decimal_value N r1.1.whole).bind fun r15 =>
        some (r15, 0)
    else
      bif (operand_1 == 2) then
        (decimal_value N r1.1.whole).bind fun r19 =>
        some (r19, 0)
      else
        bif (operand_1 == 3) then
          some ((r1.1.fraction.length : Int), 0)
        else
          bif (operand_1 == 4) then
            some ((r10.length : Int), 0)
          else
            bif (operand_1 == 5) then
              (decimal_value N r1.1.fraction).bind fun r25 =>
              some (r25, 0)
            else
              bif (operand_1 == 6) then
                (decimal_value N r10).bind fun r29 =>
                some (r29, 0)
              else
                some (0, 1)
def condition_in_1 (_N : Nat) (s_0 : Span) (x0 : Int) : Option Bool :=
  bif (decide (x0 ≥ s_0.From)) then
    some (decide (x0 ≤ s_0.To))
  else
    some false
def slices_IndexFunc_api_Span_api_Span__141_b1 (N : Nat) (s_0 : List (Span)) (x0 : Int) (x_5 : Int) : Option (Int ⊕ ((Unit ⊕ Int))) :=
  bif (decide (x_5 < (s_0.length : Int))) then
    (idx s_0 x_5).bind fun x8 =>
    (condition_in_1 N x8 x0).bind fun r19 =>
    bif r19 then
      some (.inr (.inr x_5))
    else
      some (.inl (x_5 + 1))
  else
    some (.inr (.inl ()))
def slices_IndexFunc_api_Span_api_Span__141 (N : Nat) (s_0 : List (Span)) (x0 : Int) : Option Int :=
  (iter (fun s => slices_IndexFunc_api_Span_api_Span__141_b1 N s_0 x0 s) N 0).bind fun o3 =>
  Sum.elim (fun _o3 =>
    some (-1))
  (fun o3 =>
    some o3) o3
def slices_ContainsFunc_api_Span_api_Span__141 (N : Nat) (s_0 : List (Span)) (x0 : Int) : Option Bool :=
  (slices_IndexFunc_api_Span_api_Span__141 N s_0 x0).bind fun r2 =>
  some (decide (r2 ≥ 0))
def condition_in (N : Nat) (l_0 : List (Span)) (n_1 : Int) : Option Bool :=
  (slices_ContainsFunc_api_Span_api_Span__141 N l_0 n_1).bind fun r2 =>
  some r2
def condition_holds (N : Nat) (r_0 : Relation) (number_1 : List UInt8) : Option Bool :=
  (decimal_Operand N number_1 r_0.Operand).bind fun r6 =>
  bif (r6.2 != 0) then
    some r_0.Not
  else
    (show Option Int from
      bif (r_0.Mod != 0) then
        (rm r6.1 r_0.Mod).bind fun q14 =>
        some q14
      else
        some r6.1).bind fun o11 =>
    (condition_in N r_0.Spans o11).bind fun r17 =>
    some (r17 != r_0.Not)
def condition_Holds_1_1 (N : Nat) (r_0 : Relation) (x0 : List UInt8) : Option Bool :=
  (condition_holds N r_0 x0).bind fun r7 =>
  some (!r7)
def slices_IndexFunc_api_Relation_api_Relation__70_b1 (N : Nat) (s_0 : List (Relation)) (x0 : List UInt8) (x_5 : Int) : Option (Int ⊕ ((Unit ⊕ Int))) :=
  bif (decide (x_5 < (s_0.length : Int))) then
    (idx s_0 x_5).bind fun x8 =>
    (condition_Holds_1_1 N x8 x0).bind fun r21 =>
    bif r21 then
      some (.inr (.inr x_5))
    else
      some (.inl (x_5 + 1))
  else
    some (.inr (.inl ()))
def slices_IndexFunc_api_Relation_api_Relation__70 (N : Nat) (s_0 : List (Relation)) (x0 : List UInt8) : Option Int :=
  (iter (fun s => slices_IndexFunc_api_Relation_api_Relation__70_b1 N s_0 x0 s) N 0).bind fun o3 =>
  Sum.elim (fun _o3 =>
    some (-1))
  (fun o3 =>
    some o3) o3
def slices_ContainsFunc_api_Relation_api_Relation__70 (N : Nat) (s_0 : List (Relation)) (x0 : List UInt8) : Option Bool :=
  (slices_IndexFunc_api_Relation_api_Relation__70 N s_0 x0).bind fun r2 =>
  some (decide (r2 ≥ 0))
def condition_Holds_1 (N : Nat) (list_0 : List (Relation)) (x0 : List UInt8) : Option Bool :=
  (slices_ContainsFunc_api_Relation_api_Relation__70 N list_0 x0).bind fun r2 =>
  some (!r2)
def slices_IndexFunc_api_Cond_api_Relation__68_b1 (N : Nat) (s_0 : List (List (Relation))) (x0 : List UInt8) (x_5 : Int) : Option (Int ⊕ ((Unit ⊕ Int))) :=
  bif (decide (x_5 < (s_0.length : Int))) then
    (idx s_0 x_5).bind fun x8 =>
    (condition_Holds_1 N x8 x0).bind fun r19 =>
    bif r19 then
      some (.inr (.inr x_5))
    else
      some (.inl (x_5 + 1))
  else
    some (.inr (.inl ()))
def slices_IndexFunc_api_Cond_api_Relation__68 (N : Nat) (s_0 : List (List (Relation))) (x0 : List UInt8) : Option Int :=
  (iter (fun s => slices_IndexFunc_api_Cond_api_Relation__68_b1 N s_0 x0 s) N 0).bind fun o3 =>
  Sum.elim (fun _o3 =>
    some (-1))
  (fun o3 =>
    some o3) o3
def slices_ContainsFunc_api_Cond_api_Relation__68 (N : Nat) (s_0 : List (List (Relation))) (x0 : List UInt8) : Option Bool :=
  (slices_IndexFunc_api_Cond_api_Relation__68 N s_0 x0).bind fun r2 =>
  some (decide (r2 ≥ 0))
def condition_Holds (N : Nat) (c_0 : List (List (Relation))) (number_1 : List UInt8) : Option (Bool × Int) :=
  (condition_Valid N c_0).bind fun r2 =>
  bif (!r2) then
    some (false, 1)
  else
    (decimal_Valid N number_1).bind fun r5 =>
    bif (!r5) then
      some (false, 1)
    else
      (slices_ContainsFunc_api_Cond_api_Relation__68 N c_0 number_1).bind fun r8 =>
      some (r8, 0)
def calqueref08_proper_b1 (N : Nat) (r_0 : Relation) (i_35 : Int) : Option (Int ⊕ ((Unit ⊕ Bool))) :=
  bif (decide (i_35 < (r_0.Spans.length : Int))) then
    (idx r_0.Spans i_35).bind fun x38 =>
    bif (decide (x38.From < 0)) then
      some (.inr (.inr false))
    else
      bif (decide (x38.From > x38.To)) then
        some (.inr (.inr false))
      else
        (calqueref08_Bound N r_0.Operand).bind fun r52 =>
        bif (decide (x38.To > r52)) then
          some (.inr (.inr false))
        else
          some (.inl (i_35 + 1))
  else
    some (.inr (.inl ()))
def calqueref08_proper (N : Nat) (r_0 : Relation) : Option Bool :=
  (show Option Bool from
    bif (decide (r_0.Operand < 1)) then
      some true
    else
      bif (decide (r_0.Operand > 6)) then
        some true
      else
        bif (r_0.Mod != 0) then
          (calqueref08_Mods N r_0.Operand).bind fun r11 =>
          (calqueref08_has N r11 r_0.Mod).bind fun r16 =>
          bif (!r16) then
            some true
          else
            bif (decide ((r_0.Spans.length : Int) < 1)) then
              some true
            else
              some (decide ((r_0.Spans.length : Int) > 4))
        else
          bif (decide ((r_0.Spans.length : Int) < 1)) then
            some true
          else
            some (decide ((r_0.Spans.length : Int) > 4))).bind fun o6 =>
  bif o6 then
    some false
  else
    (iter (fun s => calqueref08_proper_b1 N r_0 s) N 0).bind fun o33 =>
    Sum.elim (fun _o33 =>
      some true)
    (fun o33 =>
      some o33) o33
def calqueref08_Valid_b2 (N : Nat) (c_0 : List (List (Relation))) (i_7 : Int) (n_28 : Int) (k_29 : Int) : Option ((Int × Int) ⊕ ((Int ⊕ Bool))) :=
  (idx c_0 i_7).bind fun x32 =>
  bif (decide (k_29 < (x32.length : Int))) then
    (idx c_0 i_7).bind fun x44 =>
    (idx x44 k_29).bind fun x55 =>
    (calqueref08_proper N x55).bind fun r68 =>
    bif (!r68) then
      some (.inr (.inr false))
    else
      some (.inl ((IntKind.wrap .i64 (n_28 + 1)), (k_29 + 1)))
  else
    some (.inr (.inl n_28))
def calqueref08_Valid_b1 (N : Nat) (c_0 : List (List (Relation))) (n_6 : Int) (i_7 : Int) : Option ((Int × Int) ⊕ ((Int ⊕ Bool))) :=
  bif (decide (i_7 < (c_0.length : Int))) then
    (idx c_0 i_7).bind fun x11 =>
    bif ((x11.length : Int) == 0) then
      some (.inr (.inr false))
    else
      (iter (fun s => calqueref08_Valid_b2 N c_0 i_7 s.1 s.2) N (n_6, 0)).bind fun o25 =>
      Sum.elim (fun o25 =>
        some (.inl (o25, (i_7 + 1))))
      (fun o25 =>
        some (.inr (.inr o25))) o25
  else
    some (.inr (.inl n_6))
def calqueref08_Valid (N : Nat) (c_0 : List (List (Relation))) : Option Bool :=
  (iter (fun s => calqueref08_Valid_b1 N c_0 s.1 s.2) N (0, 0)).bind fun o3 =>
  Sum.elim (fun o3 =>
    bif (decide ((c_0.length : Int) > 0)) then
      some (decide (o3 ≤ 6))
    else
      some false)
  (fun o3 =>
    some o3) o3
def calqueref09_Symbol (_N : Nat) (c_0 : Int) : Option Int :=
  bif (c_0 == 46) then
    some 10
  else
    bif (decide (c_0 < 48)) then
      some (-1)
    else
      bif (decide (c_0 > 57)) then
        some (-1)
      else
        some (IntKind.wrap .u8 (c_0 - 48))
def calqueref10_Before_b1 (N : Nat) (a_0 : List UInt8) (b_1 : List UInt8) (i_5 : Int) : Option (Int ⊕ ((Unit ⊕ Bool))) :=
  bif (decide (i_5 < (a_0.length : Int))) then
    (idx a_0 i_5).bind fun c8 =>
    (idx b_1 i_5).bind fun c10 =>
    bif ((c8.toNat : Int) != (c10.toNat : Int)) then
      (idx a_0 i_5).bind fun c13 =>
      (calqueref09_Symbol N (c13.toNat : Int)).bind fun r15 =>
      (idx b_1 i_5).bind fun c18 =>
      (calqueref09_Symbol N (c18.toNat : Int)).bind fun r20 =>
      some (.inr (.inr (decide (r15 < r20))))
    else
      some (.inl (i_5 + 1))
  else
    some (.inr (.inl ()))
def calqueref10_Before (N : Nat) (a_0 : List UInt8) (b_1 : List UInt8) : Option Bool :=
  bif ((a_0.length : Int) != (b_1.length : Int)) then
    some (decide ((a_0.length : Int) < (b_1.length : Int)))
  else
    (iter (fun s => calqueref10_Before_b1 N a_0 b_1 s) N 0).bind fun o3 =>
    Sum.elim (fun _o3 =>
      some false)
    (fun o3 =>
      some o3) o3
def calqueref10_decimal (N : Nat) (n_0 : Int) : Option (List UInt8) :=
  match N with
  | 0 => none
  | N + 1 =>
    bif (decide (n_0 ≥ 10)) then
      (calqueref10_decimal N (IntKind.wrap .i64 (n_0.tdiv 10))).bind fun r2 =>
      (rm n_0 10).bind fun q5 =>
      (calqueref10_decimal N q5).bind fun r7 =>
      (cat r2 r7).bind fun s10 =>
      some s10
    else
      some (bytesOf ([(IntKind.wrap .u8 (IntKind.wrap .i64 ((48 : Int) + n_0)))] : List (Int)))
end Go.Proofs.YtidfofhmnlhfjaaGreatDoor
