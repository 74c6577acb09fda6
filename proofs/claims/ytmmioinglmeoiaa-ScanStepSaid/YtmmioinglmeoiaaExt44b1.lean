/- The functions of this part as plain Lean functions, printed by gen8.py. -/
import Derived.Test.YtmmioinglmeoiaaExt44a1
import Derived.Test.YtmmioinglmeoiaaExt44a2
import Derived.Test.YtmmioinglmeoiaaLibNR
set_option linter.unusedVariables false
namespace Go.Proofs.Ytmmioinglmeoiaa
open Go.X

def calqueref44_Few_b3 (_N : Nat) (x45 : Rule) (n_64 : Int) (j_65 : Int) : Option ((Int × Int) ⊕ Int) :=
  bif (decide (j_65 < (x45.Items.length : Int))) then
    (idx x45.Items j_65).bind fun x69 =>
    (idx x45.Items j_65).bind fun x83 =>
    some (.inl ((IntKind.wrap .i64 (n_64 + (IntKind.wrap .i64 ((IntKind.wrap .i64 ((1 : Int) + (IntKind.wrap .i64 ((x69.Ranges.length : Int).tdiv 5)))) + (IntKind.wrap .i64 ((x83.Text.length : Int).tdiv 20)))))), (j_65 + 1)))
  else
    some (.inr n_64)

def calqueref44_Few_b2 (N : Nat) (s_0 : List (State)) (i_7 : Int) (n_16 : Int) (k_17 : Int) : Option ((Int × Int) ⊕ Int) :=
  (idx s_0 i_7).bind fun x20 =>
  bif (decide (k_17 < (x20.Rules.length : Int))) then
    (idx s_0 i_7).bind fun x33 =>
    (idx x33.Rules k_17).bind fun x45 =>
    (iter (fun s => calqueref44_Few_b3 N x45 s.1 s.2) N ((IntKind.wrap .i64 (n_16 + (IntKind.wrap .i64 ((IntKind.wrap .i64 ((1 : Int) + (IntKind.wrap .i64 ((x45.Kind.length : Int).tdiv 20)))) + (IntKind.wrap .i64 ((x45.Next.length : Int).tdiv 20)))))), 0)).bind fun o61 =>
    some (.inl (o61, (k_17 + 1)))
  else
    some (.inr n_16)

def calqueref44_Few_b1 (N : Nat) (s_0 : List (State)) (n_6 : Int) (i_7 : Int) : Option ((Int × Int) ⊕ Int) :=
  bif (decide (i_7 < (s_0.length : Int))) then
    (iter (fun s => calqueref44_Few_b2 N s_0 i_7 s.1 s.2) N (n_6, 0)).bind fun o13 =>
    (idx s_0 i_7).bind fun x100 =>
    some (.inl ((IntKind.wrap .i64 (o13 + (IntKind.wrap .i64 ((1 : Int) + (IntKind.wrap .i64 ((x100.Name.length : Int).tdiv 20)))))), (i_7 + 1)))
  else
    some (.inr n_6)
def calqueref44_Few (N : Nat) (s_0 : List (State)) : Option Bool :=
  (iter (fun s => calqueref44_Few_b1 N s_0 s.1 s.2) N (0, 0)).bind fun o3 =>
  some (decide (o3 ≤ 300))

def calqueref44_one (_N : Nat) (c_0 : Int) (brackets_1 : Bool) : Option (List UInt8) :=
  bif (c_0 == 92) then
    (cat ([92]) (runeStr c_0)).bind fun s2 =>
    some s2
  else
    bif (!brackets_1) then
      bif (c_0 == 34) then
        (cat ([92]) (runeStr c_0)).bind fun s6 =>
        some s6
      else
        bif brackets_1 then
          bif (c_0 == 91) then
            (cat ([92]) (runeStr c_0)).bind fun s10 =>
            some s10
          else
            bif (c_0 == 93) then
              (cat ([92]) (runeStr c_0)).bind fun s13 =>
              some s13
            else
              bif (c_0 == 94) then
                (cat ([92]) (runeStr c_0)).bind fun s16 =>
                some s16
              else
                bif (c_0 == 45) then
                  (cat ([92]) (runeStr c_0)).bind fun s19 =>
                  some s19
                else
                  bif (decide (c_0 < 32)) then
                    (ishr .u8 c_0 4).bind fun q22 =>
                    (ishr .u8 c_0 4).bind fun q24 =>
                    (slc ([48, 49, 50, 51, 52, 53, 54, 55, 56, 57, 97, 98, 99, 100, 101, 102]) q22 (IntKind.wrap .u8 (q24 + 1))).bind fun s26 =>
                    (cat ([92, 120]) s26).bind fun s28 =>
                    (slc ([48, 49, 50, 51, 52, 53, 54, 55, 56, 57, 97, 98, 99, 100, 101, 102]) (ibits .and .u8 c_0 15) (IntKind.wrap .u8 ((ibits .and .u8 c_0 15) + 1))).bind fun s30 =>
                    (cat s28 s30).bind fun s32 =>
                    some s32
                  else
                    bif (decide (c_0 > 126)) then
                      (ishr .u8 c_0 4).bind fun q35 =>
                      (ishr .u8 c_0 4).bind fun q37 =>
                      (slc ([48, 49, 50, 51, 52, 53, 54, 55, 56, 57, 97, 98, 99, 100, 101, 102]) q35 (IntKind.wrap .u8 (q37 + 1))).bind fun s39 =>
                      (cat ([92, 120]) s39).bind fun s41 =>
                      (slc ([48, 49, 50, 51, 52, 53, 54, 55, 56, 57, 97, 98, 99, 100, 101, 102]) (ibits .and .u8 c_0 15) (IntKind.wrap .u8 ((ibits .and .u8 c_0 15) + 1))).bind fun s43 =>
                      (cat s41 s43).bind fun s45 =>
                      some s45
                    else
                      bif brackets_1 then
                        bif (c_0 == 32) then
                          (ishr .u8 c_0 4).bind fun q49 =>
                          (ishr .u8 c_0 4).bind fun q51 =>
                          (slc ([48, 49, 50, 51, 52, 53, 54, 55, 56, 57, 97, 98, 99, 100, 101, 102]) q49 (IntKind.wrap .u8 (q51 + 1))).bind fun s53 =>
                          (cat ([92, 120]) s53).bind fun s55 =>
                          (slc ([48, 49, 50, 51, 52, 53, 54, 55, 56, 57, 97, 98, 99, 100, 101, 102]) (ibits .and .u8 c_0 15) (IntKind.wrap .u8 ((ibits .and .u8 c_0 15) + 1))).bind fun s57 =>
                          (cat s55 s57).bind fun s59 =>
                          some s59
                        else
                          some (runeStr c_0)
                      else
                        some (runeStr c_0)
        else
          bif (decide (c_0 < 32)) then
            (ishr .u8 c_0 4).bind fun q62 =>
            (ishr .u8 c_0 4).bind fun q64 =>
            (slc ([48, 49, 50, 51, 52, 53, 54, 55, 56, 57, 97, 98, 99, 100, 101, 102]) q62 (IntKind.wrap .u8 (q64 + 1))).bind fun s66 =>
            (cat ([92, 120]) s66).bind fun s68 =>
            (slc ([48, 49, 50, 51, 52, 53, 54, 55, 56, 57, 97, 98, 99, 100, 101, 102]) (ibits .and .u8 c_0 15) (IntKind.wrap .u8 ((ibits .and .u8 c_0 15) + 1))).bind fun s70 =>
            (cat s68 s70).bind fun s72 =>
            some s72
          else
            bif (decide (c_0 > 126)) then
              (ishr .u8 c_0 4).bind fun q75 =>
              (ishr .u8 c_0 4).bind fun q77 =>
              (slc ([48, 49, 50, 51, 52, 53, 54, 55, 56, 57, 97, 98, 99, 100, 101, 102]) q75 (IntKind.wrap .u8 (q77 + 1))).bind fun s79 =>
              (cat ([92, 120]) s79).bind fun s81 =>
              (slc ([48, 49, 50, 51, 52, 53, 54, 55, 56, 57, 97, 98, 99, 100, 101, 102]) (ibits .and .u8 c_0 15) (IntKind.wrap .u8 ((ibits .and .u8 c_0 15) + 1))).bind fun s83 =>
              (cat s81 s83).bind fun s85 =>
              some s85
            else
              bif brackets_1 then
                bif (c_0 == 32) then
                  (ishr .u8 c_0 4).bind fun q89 =>
                  (ishr .u8 c_0 4).bind fun q91 =>
                  (slc ([48, 49, 50, 51, 52, 53, 54, 55, 56, 57, 97, 98, 99, 100, 101, 102]) q89 (IntKind.wrap .u8 (q91 + 1))).bind fun s93 =>
                  (cat ([92, 120]) s93).bind fun s95 =>
                  (slc ([48, 49, 50, 51, 52, 53, 54, 55, 56, 57, 97, 98, 99, 100, 101, 102]) (ibits .and .u8 c_0 15) (IntKind.wrap .u8 ((ibits .and .u8 c_0 15) + 1))).bind fun s97 =>
                  (cat s95 s97).bind fun s99 =>
                  some s99
                else
                  some (runeStr c_0)
              else
                some (runeStr c_0)
    else
      bif brackets_1 then
        bif (c_0 == 91) then
          (cat ([92]) (runeStr c_0)).bind fun s103 =>
          some s103
        else
          bif (c_0 == 93) then
            (cat ([92]) (runeStr c_0)).bind fun s106 =>
            some s106
          else
            bif (c_0 == 94) then
              (cat ([92]) (runeStr c_0)).bind fun s109 =>
              some s109
            else
              bif (c_0 == 45) then
                (cat ([92]) (runeStr c_0)).bind fun s112 =>
                some s112
              else
                bif (decide (c_0 < 32)) then
                  (ishr .u8 c_0 4).bind fun q115 =>
                  (ishr .u8 c_0 4).bind fun q117 =>
                  (slc ([48, 49, 50, 51, 52, 53, 54, 55, 56, 57, 97, 98, 99, 100, 101, 102]) q115 (IntKind.wrap .u8 (q117 + 1))).bind fun s119 =>
                  (cat ([92, 120]) s119).bind fun s121 =>
                  (slc ([48, 49, 50, 51, 52, 53, 54, 55, 56, 57, 97, 98, 99, 100, 101, 102]) (ibits .and .u8 c_0 15) (IntKind.wrap .u8 ((ibits .and .u8 c_0 15) + 1))).bind fun s123 =>
                  (cat s121 s123).bind fun s125 =>
                  some s125
                else
                  bif (decide (c_0 > 126)) then
                    (ishr .u8 c_0 4).bind fun q128 =>
                    (ishr .u8 c_0 4).bind fun q130 =>
                    (slc ([48, 49, 50, 51, 52, 53, 54, 55, 56, 57, 97, 98, 99, 100, 101, 102]) q128 (IntKind.wrap .u8 (q130 + 1))).bind fun s132 =>
                    (cat ([92, 120]) s132).bind fun s134 =>
                    (slc ([48, 49, 50, 51, 52, 53, 54, 55, 56, 57, 97, 98, 99, 100, 101, 102]) (ibits .and .u8 c_0 15) (IntKind.wrap .u8 ((ibits .and .u8 c_0 15) + 1))).bind fun s136 =>
                    (cat s134 s136).bind fun s138 =>
                    some s138
                  else
                    bif brackets_1 then
                      bif (c_0 == 32) then
                        (ishr .u8 c_0 4).bind fun q142 =>
                        (ishr .u8 c_0 4).bind fun q144 =>
                        (slc ([48, 49, 50, 51, 52, 53, 54, 55, 56, 57, 97, 98, 99, 100, 101, 102]) q142 (IntKind.wrap .u8 (q144 + 1))).bind fun s146 =>
                        (cat ([92, 120]) s146).bind fun s148 =>
                        (slc ([48, 49, 50, 51, 52, 53, 54, 55, 56, 57, 97, 98, 99, 100, 101, 102]) (ibits .and .u8 c_0 15) (IntKind.wrap .u8 ((ibits .and .u8 c_0 15) + 1))).bind fun s150 =>
                        (cat s148 s150).bind fun s152 =>
                        some s152
                      else
                        some (runeStr c_0)
                    else
                      some (runeStr c_0)
      else
        bif (decide (c_0 < 32)) then
          (ishr .u8 c_0 4).bind fun q155 =>
          (ishr .u8 c_0 4).bind fun q157 =>
          (slc ([48, 49, 50, 51, 52, 53, 54, 55, 56, 57, 97, 98, 99, 100, 101, 102]) q155 (IntKind.wrap .u8 (q157 + 1))).bind fun s159 =>
          (cat ([92, 120]) s159).bind fun s161 =>
          (slc ([48, 49, 50, 51, 52, 53, 54, 55, 56, 57, 97, 98, 99, 100, 101, 102]) (ibits .and .u8 c_0 15) (IntKind.wrap .u8 ((ibits .and .u8 c_0 15) + 1))).bind fun s163 =>
          (cat s161 s163).bind fun s165 =>
          some s165
        else
          bif (decide (c_0 > 126)) then
            (ishr .u8 c_0 4).bind fun q168 =>
            (ishr .u8 c_0 4).bind fun q170 =>
            (slc ([48, 49, 50, 51, 52, 53, 54, 55, 56, 57, 97, 98, 99, 100, 101, 102]) q168 (IntKind.wrap .u8 (q170 + 1))).bind fun s172 =>
            (cat ([92, 120]) s172).bind fun s174 =>
            (slc ([48, 49, 50, 51, 52, 53, 54, 55, 56, 57, 97, 98, 99, 100, 101, 102]) (ibits .and .u8 c_0 15) (IntKind.wrap .u8 ((ibits .and .u8 c_0 15) + 1))).bind fun s176 =>
            (cat s174 s176).bind fun s178 =>
            some s178
          else
            bif brackets_1 then
              bif (c_0 == 32) then
                (ishr .u8 c_0 4).bind fun q182 =>
                (ishr .u8 c_0 4).bind fun q184 =>
                (slc ([48, 49, 50, 51, 52, 53, 54, 55, 56, 57, 97, 98, 99, 100, 101, 102]) q182 (IntKind.wrap .u8 (q184 + 1))).bind fun s186 =>
                (cat ([92, 120]) s186).bind fun s188 =>
                (slc ([48, 49, 50, 51, 52, 53, 54, 55, 56, 57, 97, 98, 99, 100, 101, 102]) (ibits .and .u8 c_0 15) (IntKind.wrap .u8 ((ibits .and .u8 c_0 15) + 1))).bind fun s190 =>
                (cat s188 s190).bind fun s192 =>
                some s192
              else
                some (runeStr c_0)
            else
              some (runeStr c_0)

def calqueref44_item_b1 (N : Nat) (x_0 : Item) (s_15 : List UInt8) (i_16 : Int) : Option (((List UInt8) × Int) ⊕ (((List UInt8)))) :=
  bif (decide (i_16 < (x_0.Text.length : Int))) then
    (idx x_0.Text i_16).bind fun c20 =>
    (calqueref44_one N (c20.toNat : Int) false).bind fun r22 =>
    (cat s_15 r22).bind fun s25 =>
    some (.inl (s25, (i_16 + 1)))
  else
    some (.inr s_15)

def calqueref44_item_b2 (N : Nat) (x_0 : Item) (s_42 : List UInt8) (i_43 : Int) : Option (((List UInt8) × Int) ⊕ (((List UInt8)))) :=
  bif (decide (i_43 < (x_0.Ranges.length : Int))) then
    (idx x_0.Ranges i_43).bind fun x47 =>
    (calqueref44_one N x47.From true).bind fun r58 =>
    (cat s_42 r58).bind fun s61 =>
    (idx x_0.Ranges i_43).bind fun x63 =>
    (idx x_0.Ranges i_43).bind fun x74 =>
    bif (x63.To != x74.From) then
      (idx x_0.Ranges i_43).bind fun x86 =>
      (calqueref44_one N x86.To true).bind fun r97 =>
      (cat ([45]) r97).bind fun s100 =>
      (cat s61 s100).bind fun s102 =>
      some (.inl (s102, (i_43 + 1)))
    else
      some (.inl (s61, (i_43 + 1)))
  else
    some (.inr s_42)
def calqueref44_item (N : Nat) (x_0 : Item) : Option (List UInt8) :=
  (show Option ((List UInt8)) from
    bif (x_0.Text != ([])) then
      (iter (fun s => calqueref44_item_b1 N x_0 s.1 s.2) N ([34], 0)).bind fun o12 =>
      (cat o12 ([34])).bind fun s28 =>
      some s28
    else
      (show Option ((List UInt8)) from
        bif x_0.Not then
          (cat ([91]) ([94])).bind fun s34 =>
          some s34
        else
          some ([91])).bind fun o31 =>
      (iter (fun s => calqueref44_item_b2 N x_0 s.1 s.2) N (o31, 0)).bind fun o39 =>
      (cat o39 ([93])).bind fun s105 =>
      some s105).bind fun o7 =>
  bif (x_0.Least == 0) then
    bif (x_0.Most == 1) then
      (cat o7 ([63])).bind fun s111 =>
      some s111
    else
      bif (x_0.Least == 0) then
        (cat o7 ([42])).bind fun s114 =>
        some s114
      else
        bif (x_0.Most != 1) then
          (cat o7 ([43])).bind fun s117 =>
          some s117
        else
          some o7
  else
    bif (x_0.Least == 0) then
      (cat o7 ([42])).bind fun s120 =>
      some s120
    else
      bif (x_0.Most != 1) then
        (cat o7 ([43])).bind fun s123 =>
        some s123
      else
        some o7

def calqueref44_line_b1 (N : Nat) (r_0 : Rule) (s_11 : List UInt8) (i_12 : Int) : Option (((List UInt8) × Int) ⊕ (((List UInt8)))) :=
  bif (decide (i_12 < (r_0.Items.length : Int))) then
    (idx r_0.Items i_12).bind fun x16 =>
    (calqueref44_item N x16).bind fun r30 =>
    (cat ([32]) r30).bind fun s33 =>
    (cat s_11 s33).bind fun s35 =>
    some (.inl (s35, (i_12 + 1)))
  else
    some (.inr s_11)
def calqueref44_line (N : Nat) (r_0 : Rule) : Option (List UInt8) :=
  (iter (fun s => calqueref44_line_b1 N r_0 s.1 s.2) N (r_0.Kind, 0)).bind fun o8 =>
  bif (r_0.Next != ([])) then
    (cat ([32, 45, 62, 32]) r_0.Next).bind fun s39 =>
    (cat o8 s39).bind fun s41 =>
    some s41
  else
    some o8

def calqueref44_text_b2 (N : Nat) (s_0 : List (State)) (i_7 : Int) (out_34 : List UInt8) (k_35 : Int) : Option (((List UInt8) × Int) ⊕ (((List UInt8)))) :=
  (idx s_0 i_7).bind fun x38 =>
  bif (decide (k_35 < (x38.Rules.length : Int))) then
    (idx s_0 i_7).bind fun x51 =>
    (idx x51.Rules k_35).bind fun x63 =>
    (calqueref44_line N x63).bind fun r76 =>
    (cat r76 ([10])).bind fun s79 =>
    (cat out_34 s79).bind fun s81 =>
    some (.inl (s81, (k_35 + 1)))
  else
    some (.inr out_34)

def calqueref44_text_b1 (N : Nat) (s_0 : List (State)) (out_6 : List UInt8) (i_7 : Int) : Option (((List UInt8) × Int) ⊕ (((List UInt8)))) :=
  bif (decide (i_7 < (s_0.length : Int))) then
    (idx s_0 i_7).bind fun x11 =>
    (cat ([115, 116, 97, 116, 101, 32]) x11.Name).bind fun s23 =>
    (cat s23 ([10])).bind fun s25 =>
    (cat out_6 s25).bind fun s27 =>
    (iter (fun s => calqueref44_text_b2 N s_0 i_7 s.1 s.2) N (s27, 0)).bind fun o31 =>
    some (.inl (o31, (i_7 + 1)))
  else
    some (.inr out_6)
def calqueref44_text (N : Nat) (s_0 : List (State)) : Option (List UInt8) :=
  (iter (fun s => calqueref44_text_b1 N s_0 s.1 s.2) N ([], 0)).bind fun o3 =>
  some o3

def calqueref44_word_b1 (_N : Nat) (s_0 : List UInt8) (i_4 : Int) : Option (Int ⊕ ((Unit ⊕ Bool))) :=
  bif (decide (i_4 < (s_0.length : Int))) then
    (idx s_0 i_4).bind fun c7 =>
    bif (decide ((c7.toNat : Int) < 97)) then
      some (.inr (.inr false))
    else
      (idx s_0 i_4).bind fun c10 =>
      bif (decide ((c10.toNat : Int) > 122)) then
        some (.inr (.inr false))
      else
        some (.inl (i_4 + 1))
  else
    some (.inr (.inl ()))
def calqueref44_word (N : Nat) (s_0 : List UInt8) : Option Bool :=
  (iter (fun s => calqueref44_word_b1 N s_0 s) N 0).bind fun o2 =>
  Sum.elim (fun _o2 =>
    bif (decide ((s_0.length : Int) ≥ 1)) then
      some (decide ((s_0.length : Int) ≤ 16))
    else
      some false)
  (fun o2 =>
    some o2) o2

def calqueref44_Index_b1 (_N : Nat) (s_0 : List (State)) (name_1 : List UInt8) (i_4 : Int) : Option (Int ⊕ ((Unit ⊕ Int))) :=
  bif (decide (i_4 < (s_0.length : Int))) then
    (idx s_0 i_4).bind fun x7 =>
    bif (x7.Name == name_1) then
      some (.inr (.inr i_4))
    else
      some (.inl (i_4 + 1))
  else
    some (.inr (.inl ()))
def calqueref44_Index (N : Nat) (s_0 : List (State)) (name_1 : List UInt8) : Option Int :=
  (iter (fun s => calqueref44_Index_b1 N s_0 name_1 s) N 0).bind fun o2 =>
  Sum.elim (fun _o2 =>
    some (-1))
  (fun o2 =>
    some o2) o2

def calqueref44_Proper_b1 (_N : Nat) (x_0 : Item) (i_17 : Int) : Option (Int ⊕ ((Unit ⊕ Bool))) :=
  bif (decide (i_17 < (x_0.Ranges.length : Int))) then
    (idx x_0.Ranges i_17).bind fun x20 =>
    (idx x_0.Ranges i_17).bind fun x31 =>
    bif (decide (x20.From > x31.To)) then
      some (.inr (.inr false))
    else
      some (.inl (i_17 + 1))
  else
    some (.inr (.inl ()))

def calqueref44_Proper_b2 (_N : Nat) (x_0 : Item) (i_52 : Int) : Option (Int ⊕ ((Unit ⊕ Bool))) :=
  bif (decide (i_52 < (x_0.Ranges.length : Int))) then
    (idx x_0.Ranges i_52).bind fun x55 =>
    (idx x_0.Ranges i_52).bind fun x66 =>
    bif (decide (x55.From > x66.To)) then
      some (.inr (.inr false))
    else
      some (.inl (i_52 + 1))
  else
    some (.inr (.inl ()))
def calqueref44_Proper (N : Nat) (x_0 : Item) : Option Bool :=
  bif (decide (x_0.Least < 0)) then
    some false
  else
    bif (decide (x_0.Least > 1)) then
      some false
    else
      bif (x_0.Most != 1) then
        bif (x_0.Most != (-1)) then
          some false
        else
          bif (x_0.Text != ([])) then
            bif (decide ((x_0.Text.length : Int) ≤ 40)) then
              bif ((x_0.Ranges.length : Int) == 0) then
                some (!x_0.Not)
              else
                some false
            else
              some false
          else
            (iter (fun s => calqueref44_Proper_b1 N x_0 s) N 0).bind fun o15 =>
            Sum.elim (fun _o15 =>
              bif (decide ((x_0.Ranges.length : Int) ≥ 1)) then
                some (decide ((x_0.Ranges.length : Int) ≤ 20))
              else
                some false)
            (fun o15 =>
              some o15) o15
      else
        bif (x_0.Text != ([])) then
          bif (decide ((x_0.Text.length : Int) ≤ 40)) then
            bif ((x_0.Ranges.length : Int) == 0) then
              some (!x_0.Not)
            else
              some false
          else
            some false
        else
          (iter (fun s => calqueref44_Proper_b2 N x_0 s) N 0).bind fun o50 =>
          Sum.elim (fun _o50 =>
            bif (decide ((x_0.Ranges.length : Int) ≥ 1)) then
              some (decide ((x_0.Ranges.length : Int) ≤ 20))
            else
              some false)
          (fun o50 =>
            some o50) o50

def calqueref44_proper_b1 (N : Nat) (r_0 : Rule) (i_9 : Int) : Option (Int ⊕ ((Unit ⊕ Bool))) :=
  bif (decide (i_9 < (r_0.Items.length : Int))) then
    (idx r_0.Items i_9).bind fun x12 =>
    (calqueref44_Proper N x12).bind fun r26 =>
    bif (!r26) then
      some (.inr (.inr false))
    else
      some (.inl (i_9 + 1))
  else
    some (.inr (.inl ()))
def calqueref44_proper (N : Nat) (r_0 : Rule) : Option Bool :=
  (iter (fun s => calqueref44_proper_b1 N r_0 s) N 0).bind fun o7 =>
  Sum.elim (fun _o7 =>
    (calqueref44_word N r_0.Kind).bind fun r29 =>
    bif r29 then
      bif (decide ((r_0.Items.length : Int) ≥ 1)) then
        some (decide ((r_0.Items.length : Int) ≤ 20))
      else
        some false
    else
      some false)
  (fun o7 =>
    some o7) o7

def calqueref44_Valid_b2 (N : Nat) (s_0 : List (State)) (i_4 : Int) (k_67 : Int) : Option (Int ⊕ ((Unit ⊕ Bool))) :=
  (idx s_0 i_4).bind fun x69 =>
  bif (decide (k_67 < (x69.Rules.length : Int))) then
    (idx s_0 i_4).bind fun x82 =>
    (idx x82.Rules k_67).bind fun x94 =>
    (calqueref44_proper N x94).bind fun r108 =>
    bif (!r108) then
      some (.inr (.inr false))
    else
      bif (x94.Next != ([])) then
        (calqueref44_Index N s_0 x94.Next).bind fun r112 =>
        bif (decide (r112 < 0)) then
          some (.inr (.inr false))
        else
          some (.inl (k_67 + 1))
      else
        some (.inl (k_67 + 1))
  else
    some (.inr (.inl ()))

def calqueref44_Valid_b1 (N : Nat) (s_0 : List (State)) (i_4 : Int) : Option (Int ⊕ ((Unit ⊕ Bool))) :=
  bif (decide (i_4 < (s_0.length : Int))) then
    (idx s_0 i_4).bind fun x7 =>
    (calqueref44_word N x7.Name).bind fun r19 =>
    bif (!r19) then
      some (.inr (.inr false))
    else
      (idx s_0 i_4).bind fun x22 =>
      (calqueref44_Index N s_0 x22.Name).bind fun r34 =>
      bif (r34 != i_4) then
        some (.inr (.inr false))
      else
        (idx s_0 i_4).bind fun x38 =>
        bif (decide ((x38.Rules.length : Int) < 1)) then
          some (.inr (.inr false))
        else
          (idx s_0 i_4).bind fun x51 =>
          bif (decide ((x51.Rules.length : Int) > 40)) then
            some (.inr (.inr false))
          else
            (iter (fun s => calqueref44_Valid_b2 N s_0 i_4 s) N 0).bind fun o65 =>
            Sum.elim (fun _o65 =>
              some (.inl (i_4 + 1)))
            (fun o65 =>
              some (.inr (.inr o65))) o65
  else
    some (.inr (.inl ()))
def calqueref44_Valid (N : Nat) (s_0 : List (State)) : Option Bool :=
  (iter (fun s => calqueref44_Valid_b1 N s_0 s) N 0).bind fun o2 =>
  Sum.elim (fun _o2 =>
    bif (decide ((s_0.length : Int) ≥ 1)) then
      bif (decide ((s_0.length : Int) ≤ 20)) then
        (calqueref44_text N s_0).bind fun r120 =>
        some (decide ((r120.length : Int) ≤ 8000))
      else
        some false
    else
      some false)
  (fun o2 =>
    some o2) o2

def calqueref44_Print (N : Nat) (s_0 : List (State)) : Option ((List UInt8) × Int) :=
  (calqueref44_Valid N s_0).bind fun r1 =>
  bif (!r1) then
    some ([], 1)
  else
    (calqueref44_text N s_0).bind fun r4 =>
    some (r4, 0)

def calqueref44_has_b1 (_N : Nat) (x_0 : Item) (c_1 : Int) (i_10 : Int) : Option (Int ⊕ ((Unit ⊕ Bool))) :=
  bif (decide (i_10 < (x_0.Ranges.length : Int))) then
    (idx x_0.Ranges i_10).bind fun x13 =>
    bif (decide (c_1 ≥ x13.From)) then
      (idx x_0.Ranges i_10).bind fun x25 =>
      bif (decide (c_1 ≤ x25.To)) then
        some (.inr (.inr (!x_0.Not)))
      else
        some (.inl (i_10 + 1))
    else
      some (.inl (i_10 + 1))
  else
    some (.inr (.inl ()))
def calqueref44_has (N : Nat) (x_0 : Item) (c_1 : Int) : Option Bool :=
  (iter (fun s => calqueref44_has_b1 N x_0 c_1 s) N 0).bind fun o8 =>
  Sum.elim (fun _o8 =>
    some x_0.Not)
  (fun o8 =>
    some o8) o8

def calqueref44_taken (N : Nat) (x_0 : Item) (s_1 : List UInt8) (at_2 : Int) : Option Int :=
  bif (x_0.Text == ([])) then
    bif (decide (at_2 < (s_1.length : Int))) then
      (idx s_1 at_2).bind fun c9 =>
      (calqueref44_has N x_0 (c9.toNat : Int)).bind fun r11 =>
      bif r11 then
        some 1
      else
        bif (x_0.Text != ([])) then
          bif (decide ((IntKind.wrap .i64 (at_2 + (x_0.Text.length : Int))) ≤ (s_1.length : Int))) then
            (slc s_1 at_2 (IntKind.wrap .i64 (at_2 + (x_0.Text.length : Int)))).bind fun s16 =>
            bif (s16 == x_0.Text) then
              some (x_0.Text.length : Int)
            else
              some (-1)
          else
            some (-1)
        else
          some (-1)
    else
      bif (x_0.Text != ([])) then
        bif (decide ((IntKind.wrap .i64 (at_2 + (x_0.Text.length : Int))) ≤ (s_1.length : Int))) then
          (slc s_1 at_2 (IntKind.wrap .i64 (at_2 + (x_0.Text.length : Int)))).bind fun s21 =>
          bif (s21 == x_0.Text) then
            some (x_0.Text.length : Int)
          else
            some (-1)
        else
          some (-1)
      else
        some (-1)
  else
    bif (x_0.Text != ([])) then
      bif (decide ((IntKind.wrap .i64 (at_2 + (x_0.Text.length : Int))) ≤ (s_1.length : Int))) then
        (slc s_1 at_2 (IntKind.wrap .i64 (at_2 + (x_0.Text.length : Int)))).bind fun s26 =>
        bif (s26 == x_0.Text) then
          some (x_0.Text.length : Int)
        else
          some (-1)
      else
        some (-1)
    else
      some (-1)

end Go.Proofs.Ytmmioinglmeoiaa
