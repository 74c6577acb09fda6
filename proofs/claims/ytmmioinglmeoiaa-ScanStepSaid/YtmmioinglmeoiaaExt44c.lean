/- The functions of this part as plain Lean functions, printed by gen8.py. -/
import Derived.Test.YtmmioinglmeoiaaExt44a1
import Derived.Test.YtmmioinglmeoiaaExt44a2
import Derived.Test.YtmmioinglmeoiaaExt44b1
import Derived.Test.YtmmioinglmeoiaaExt44b2
import Derived.Test.YtmmioinglmeoiaaLibNR
set_option linter.unusedVariables false
namespace Go.Proofs.Ytmmioinglmeoiaa
open Go.X

def calquelaw44_items_b2 (_N : Nat) (l_0 : List (Item)) (i_15 : Int) (k_155 : Int) (x_156 : Item) : Option ((Int × Item) ⊕ Item) :=
  (idx l_0 i_15).bind fun x164 =>
  bif (decide (k_155 < (x164.Ranges.length : Int))) then
    (show Option Item from
      (idx l_0 i_15).bind fun x186 =>
      (idx x186.Ranges k_155).bind fun x200 =>
      (appw 2 x_156.Ranges ([x200] : List (Range))).bind fun l214 =>
      some (Item.mk x_156.Text l214 x_156.Not x_156.Least x_156.Most)).bind fun o179 =>
    some (.inl ((k_155 + 1), o179))
  else
    some (.inr x_156)

def calquelaw44_items_b1 (N : Nat) (l_0 : List (Item)) (out_14 : List (Item)) (i_15 : Int) : Option (((List (Item)) × Int) ⊕ (((List (Item))))) :=
  bif (decide (i_15 < (l_0.length : Int))) then
    (show Option Item from
      (idx l_0 i_15).bind fun x27 =>
      (idx l_0 i_15).bind fun x41 =>
      (idx l_0 i_15).bind fun x55 =>
      (idx l_0 i_15).bind fun x69 =>
      some (Item.mk x27.Text ([]) x41.Not x55.Least x69.Most)).bind fun o22 =>
    (iter (fun s => calquelaw44_items_b2 N l_0 i_15 s.1 s.2) N (0, (Item.mk o22.Text ([]) o22.Not o22.Least o22.Most))).bind fun o147 =>
    (appw 64 out_14 ([o147] : List (Item))).bind fun l263 =>
    some (.inl (l263, (i_15 + 1)))
  else
    some (.inr out_14)
def calquelaw44_items (N : Nat) (l_0 : List (Item)) : Option (List (Item)) :=
  (iter (fun s => calquelaw44_items_b1 N l_0 s.1 s.2) N ([], 0)).bind fun o8 =>
  some o8

def calquelaw44_Own_b2 (N : Nat) (s_0 : List (State)) (i_15 : Int) (k_50 : Int) (x_51 : State) : Option ((Int × State) ⊕ State) :=
  (idx s_0 i_15).bind fun x58 =>
  bif (decide (k_50 < (x58.Rules.length : Int))) then
    (idx s_0 i_15).bind fun x71 =>
    (idx x71.Rules k_50).bind fun x83 =>
    (show Option State from
      (calquelaw44_items N x83.Items).bind fun r103 =>
      (appw 56 x_51.Rules ([(Rule.mk x83.Kind r103 x83.Next)] : List (Rule))).bind fun l111 =>
      some (State.mk x_51.Name l111)).bind fun o97 =>
    some (.inl ((k_50 + 1), o97))
  else
    some (.inr x_51)

def calquelaw44_Own_b1 (N : Nat) (s_0 : List (State)) (out_14 : List (State)) (i_15 : Int) : Option (((List (State)) × Int) ⊕ (((List (State))))) :=
  bif (decide (i_15 < (s_0.length : Int))) then
    (idx s_0 i_15).bind fun x22 =>
    (iter (fun s => calquelaw44_Own_b2 N s_0 i_15 s.1 s.2) N (0, (State.mk x22.Name ([])))).bind fun o43 =>
    (appw 40 out_14 ([o43] : List (State))).bind fun l140 =>
    some (.inl (l140, (i_15 + 1)))
  else
    some (.inr out_14)
def calquelaw44_Own (N : Nat) (s_0 : List (State)) : Option (List (State)) :=
  (iter (fun s => calquelaw44_Own_b1 N s_0 s.1 s.2) N ([], 0)).bind fun o8 =>
  some o8

def calquelaw44_theirs_b4 (_N : Nat) (x249 : Item) (m_283 : Int) (x_284 : Item) : Option ((Int × Item) ⊕ Item) :=
  bif (decide (m_283 < (x249.Ranges.length : Int))) then
    (show Option Item from
      (idx x249.Ranges m_283).bind fun x300 =>
      (app x_284.Ranges ([x300] : List (Range))).bind fun l314 =>
      some (Item.mk x_284.Text l314 x_284.Not x_284.Least x_284.Most)).bind fun o293 =>
    some (.inl ((m_283 + 1), o293))
  else
    some (.inr x_284)

def calquelaw44_theirs_b3 (N : Nat) (s_0 : List (State)) (i_15 : Int) (k_50 : Int) (j_189 : Int) (x_190 : Rule) : Option ((Int × Rule) ⊕ Rule) :=
  (idx s_0 i_15).bind fun x198 =>
  (idx x198.Rules k_50).bind fun x210 =>
  bif (decide (j_189 < (x210.Items.length : Int))) then
    (idx s_0 i_15).bind fun x224 =>
    (idx x224.Rules k_50).bind fun x236 =>
    (idx x236.Items j_189).bind fun x249 =>
    (iter (fun s => calquelaw44_theirs_b4 N x249 s.1 s.2) N (0, (Item.mk x249.Text ([]) x249.Not x249.Least x249.Most))).bind fun o275 =>
    (app x_190.Items ([o275] : List (Item))).bind fun l351 =>
    some (.inl ((j_189 + 1), (Rule.mk x_190.Kind l351 x_190.Next)))
  else
    some (.inr x_190)

def calquelaw44_theirs_b2 (N : Nat) (s_0 : List (State)) (i_15 : Int) (k_50 : Int) (x_51 : State) : Option ((Int × State) ⊕ State) :=
  (idx s_0 i_15).bind fun x58 =>
  bif (decide (k_50 < (x58.Rules.length : Int))) then
    (show Option Rule from
      (idx s_0 i_15).bind fun x75 =>
      (idx x75.Rules k_50).bind fun x87 =>
      (idx s_0 i_15).bind fun x100 =>
      (idx x100.Rules k_50).bind fun x112 =>
      some (Rule.mk x87.Kind ([]) x112.Next)).bind fun o71 =>
    (iter (fun s => calquelaw44_theirs_b3 N s_0 i_15 k_50 s.1 s.2) N (0, (Rule.mk o71.Kind ([]) o71.Next))).bind fun o181 =>
    (app x_51.Rules ([o181] : List (Rule))).bind fun l373 =>
    some (.inl ((k_50 + 1), (State.mk x_51.Name l373)))
  else
    some (.inr x_51)

def calquelaw44_theirs_b1 (N : Nat) (s_0 : List (State)) (out_14 : List (State)) (i_15 : Int) : Option (((List (State)) × Int) ⊕ (((List (State))))) :=
  bif (decide (i_15 < (s_0.length : Int))) then
    (idx s_0 i_15).bind fun x22 =>
    (iter (fun s => calquelaw44_theirs_b2 N s_0 i_15 s.1 s.2) N (0, (State.mk x22.Name ([])))).bind fun o43 =>
    (app out_14 ([o43] : List (State))).bind fun l394 =>
    some (.inl (l394, (i_15 + 1)))
  else
    some (.inr out_14)
def calquelaw44_theirs (N : Nat) (s_0 : List (State)) : Option (List (State)) :=
  (iter (fun s => calquelaw44_theirs_b1 N s_0 s.1 s.2) N ([], 0)).bind fun o8 =>
  some o8

end Go.Proofs.Ytmmioinglmeoiaa
