/- The functions of this part as plain Lean functions, printed by gen8.py. -/
import Derived.Test.YtmghnmfefpeelaaDoorExt34p1
import Derived.Test.YtmghnmfefpeelaaDoorLibLM
set_option linter.unusedVariables false
namespace Go.Proofs.YtmghnmfefpeelaaDoor
open Go.X

def calqueref34_Proper (N : Nat) (c_0 : Code) (i_1 : Int) : Option Bool :=
  bif (decide (i_1 < 0)) then
    some false
  else
    bif (decide (i_1 ≥ (c_0.Ins.length : Int))) then
      some false
    else
      (idx c_0.Ins i_1).bind fun x8 =>
      bif (decide (x8.Op ≥ 5)) then
        bif (x8.Op == 11) then
          (show Option Bool from
            bif (decide (x8.Op ≤ 10)) then
              bif (decide (x8.A < 0)) then
                some true
              else
                bif (decide (x8.A ≥ (c_0.Names.length : Int))) then
                  some true
                else
                  bif (decide (x8.A ≤ i_1)) then
                    some true
                  else
                    bif (decide (x8.A ≥ (c_0.Ins.length : Int))) then
                      some true
                    else
                      (idx c_0.Ins x8.A).bind fun x30 =>
                      bif (x30.Op == 11) then
                        some true
                      else
                        bif (!(decide (x8.Op ≤ 10))) then
                          bif (!true) then
                            bif (x8.A != 0) then
                              some true
                            else
                              bif (x8.Op != 10) then
                                some (x8.B != 0)
                              else
                                some false
                          else
                            bif (x8.Op != 10) then
                              some (x8.B != 0)
                            else
                              some false
                        else
                          bif (x8.Op != 10) then
                            some (x8.B != 0)
                          else
                            some false
            else
              bif (decide (x8.A ≤ i_1)) then
                some true
              else
                bif (decide (x8.A ≥ (c_0.Ins.length : Int))) then
                  some true
                else
                  (idx c_0.Ins x8.A).bind fun x52 =>
                  bif (x52.Op == 11) then
                    some true
                  else
                    bif (!(decide (x8.Op ≤ 10))) then
                      bif (!true) then
                        bif (x8.A != 0) then
                          some true
                        else
                          bif (x8.Op != 10) then
                            some (x8.B != 0)
                          else
                            some false
                      else
                        bif (x8.Op != 10) then
                          some (x8.B != 0)
                        else
                          some false
                    else
                      bif (x8.Op != 10) then
                        some (x8.B != 0)
                      else
                        some false).bind fun o24 =>
          bif o24 then
            some false
          else
            bif (x8.Op == 1) then
              some (x8.S != ([]))
            else
              (show Option Bool from
                bif (x8.Op == 2) then
                  some (x8.Op == 2)
                else
                  bif (x8.Op == 3) then
                    some (x8.Op == 3)
                  else
                    bif (x8.Op == 4) then
                      some (x8.Op == 4)
                    else
                      bif (x8.Op == 7) then
                        some (x8.Op == 7)
                      else
                        some (x8.Op == 9)).bind fun o74 =>
              bif o74 then
                (calqueref25_Name N x8.S).bind fun r80 =>
                some r80
              else
                bif (x8.Op == 6) then
                  bif (x8.S == ([])) then
                    some true
                  else
                    bif (x8.S == ([105, 110, 116, 101, 103, 101, 114])) then
                      some true
                    else
                      some (x8.S == ([112, 101, 114, 99, 101, 110, 116]))
                else
                  bif (x8.Op == 8) then
                    (calqueref26_Skeleton N x8.S).bind fun r86 =>
                    some r86
                  else
                    bif (x8.Op == 10) then
                      bif (x8.S == ([])) then
                        (calqueref26_Selection N x8.B).bind fun r90 =>
                        bif r90 then
                          (calqueref34_cases N c_0 i_1).bind fun r93 =>
                          some r93
                        else
                          some false
                      else
                        some false
                    else
                      bif (x8.Op == 11) then
                        bif (decide (i_1 > 0)) then
                          (idx c_0.Ins (i_1 - 1)).bind fun x97 =>
                          bif (x97.Op == 10) then
                            some true
                          else
                            (idx c_0.Ins (i_1 - 1)).bind fun x111 =>
                            some (x111.Op == 11)
                        else
                          some false
                      else
                        (show Option Bool from
                          bif (x8.Op == 5) then
                            some (x8.Op == 5)
                          else
                            some (x8.Op == 12)).bind fun o124 =>
                        bif o124 then
                          some (x8.S == ([]))
                        else
                          bif (x8.Op == 13) then
                            bif (x8.S == ([])) then
                              some (i_1 == (IntKind.wrap .i64 ((c_0.Ins.length : Int) - 1)))
                            else
                              some false
                          else
                            some false
        else
          (show Option Bool from
            bif (decide (x8.Op ≤ 10)) then
              bif (decide (x8.A < 0)) then
                some true
              else
                bif (decide (x8.A ≥ (c_0.Names.length : Int))) then
                  some true
                else
                  bif (x8.Op == 12) then
                    bif (decide (x8.A ≤ i_1)) then
                      some true
                    else
                      bif (decide (x8.A ≥ (c_0.Ins.length : Int))) then
                        some true
                      else
                        (idx c_0.Ins x8.A).bind fun x136 =>
                        bif (x136.Op == 11) then
                          some true
                        else
                          bif (!(decide (x8.Op ≤ 10))) then
                            bif (!(x8.Op == 12)) then
                              bif (x8.A != 0) then
                                some true
                              else
                                bif (x8.Op != 10) then
                                  some (x8.B != 0)
                                else
                                  some false
                            else
                              bif (x8.Op != 10) then
                                some (x8.B != 0)
                              else
                                some false
                          else
                            bif (x8.Op != 10) then
                              some (x8.B != 0)
                            else
                              some false
                  else
                    bif (!(decide (x8.Op ≤ 10))) then
                      bif (!(x8.Op == 12)) then
                        bif (x8.A != 0) then
                          some true
                        else
                          bif (x8.Op != 10) then
                            some (x8.B != 0)
                          else
                            some false
                      else
                        bif (x8.Op != 10) then
                          some (x8.B != 0)
                        else
                          some false
                    else
                      bif (x8.Op != 10) then
                        some (x8.B != 0)
                      else
                        some false
            else
              bif (x8.Op == 12) then
                bif (decide (x8.A ≤ i_1)) then
                  some true
                else
                  bif (decide (x8.A ≥ (c_0.Ins.length : Int))) then
                    some true
                  else
                    (idx c_0.Ins x8.A).bind fun x165 =>
                    bif (x165.Op == 11) then
                      some true
                    else
                      bif (!(decide (x8.Op ≤ 10))) then
                        bif (!(x8.Op == 12)) then
                          bif (x8.A != 0) then
                            some true
                          else
                            bif (x8.Op != 10) then
                              some (x8.B != 0)
                            else
                              some false
                        else
                          bif (x8.Op != 10) then
                            some (x8.B != 0)
                          else
                            some false
                      else
                        bif (x8.Op != 10) then
                          some (x8.B != 0)
                        else
                          some false
              else
                bif (!(decide (x8.Op ≤ 10))) then
                  bif (!(x8.Op == 12)) then
                    bif (x8.A != 0) then
                      some true
                    else
                      bif (x8.Op != 10) then
                        some (x8.B != 0)
                      else
                        some false
                  else
                    bif (x8.Op != 10) then
                      some (x8.B != 0)
                    else
                      some false
                else
                  bif (x8.Op != 10) then
                    some (x8.B != 0)
                  else
                    some false).bind fun o129 =>
          bif o129 then
            some false
          else
            bif (x8.Op == 1) then
              some (x8.S != ([]))
            else
              (show Option Bool from
                bif (x8.Op == 2) then
                  some (x8.Op == 2)
                else
                  bif (x8.Op == 3) then
                    some (x8.Op == 3)
                  else
                    bif (x8.Op == 4) then
                      some (x8.Op == 4)
                    else
                      bif (x8.Op == 7) then
                        some (x8.Op == 7)
                      else
                        some (x8.Op == 9)).bind fun o193 =>
              bif o193 then
                (calqueref25_Name N x8.S).bind fun r199 =>
                some r199
              else
                bif (x8.Op == 6) then
                  bif (x8.S == ([])) then
                    some true
                  else
                    bif (x8.S == ([105, 110, 116, 101, 103, 101, 114])) then
                      some true
                    else
                      some (x8.S == ([112, 101, 114, 99, 101, 110, 116]))
                else
                  bif (x8.Op == 8) then
                    (calqueref26_Skeleton N x8.S).bind fun r205 =>
                    some r205
                  else
                    bif (x8.Op == 10) then
                      bif (x8.S == ([])) then
                        (calqueref26_Selection N x8.B).bind fun r209 =>
                        bif r209 then
                          (calqueref34_cases N c_0 i_1).bind fun r212 =>
                          some r212
                        else
                          some false
                      else
                        some false
                    else
                      bif (x8.Op == 11) then
                        bif (decide (i_1 > 0)) then
                          (idx c_0.Ins (i_1 - 1)).bind fun x216 =>
                          bif (x216.Op == 10) then
                            some true
                          else
                            (idx c_0.Ins (i_1 - 1)).bind fun x230 =>
                            some (x230.Op == 11)
                        else
                          some false
                      else
                        (show Option Bool from
                          bif (x8.Op == 5) then
                            some (x8.Op == 5)
                          else
                            some (x8.Op == 12)).bind fun o243 =>
                        bif o243 then
                          some (x8.S == ([]))
                        else
                          bif (x8.Op == 13) then
                            bif (x8.S == ([])) then
                              some (i_1 == (IntKind.wrap .i64 ((c_0.Ins.length : Int) - 1)))
                            else
                              some false
                          else
                            some false
      else
        bif (x8.Op == 11) then
          (show Option Bool from
            bif (decide (x8.A ≤ i_1)) then
              some true
            else
              bif (decide (x8.A ≥ (c_0.Ins.length : Int))) then
                some true
              else
                (idx c_0.Ins x8.A).bind fun x252 =>
                bif (x252.Op == 11) then
                  some true
                else
                  bif (!false) then
                    bif (!true) then
                      bif (x8.A != 0) then
                        some true
                      else
                        bif (x8.Op != 10) then
                          some (x8.B != 0)
                        else
                          some false
                    else
                      bif (x8.Op != 10) then
                        some (x8.B != 0)
                      else
                        some false
                  else
                    bif (x8.Op != 10) then
                      some (x8.B != 0)
                    else
                      some false).bind fun o249 =>
          bif o249 then
            some false
          else
            bif (x8.Op == 1) then
              some (x8.S != ([]))
            else
              (show Option Bool from
                bif (x8.Op == 2) then
                  some (x8.Op == 2)
                else
                  bif (x8.Op == 3) then
                    some (x8.Op == 3)
                  else
                    bif (x8.Op == 4) then
                      some (x8.Op == 4)
                    else
                      bif (x8.Op == 7) then
                        some (x8.Op == 7)
                      else
                        some (x8.Op == 9)).bind fun o274 =>
              bif o274 then
                (calqueref25_Name N x8.S).bind fun r280 =>
                some r280
              else
                bif (x8.Op == 6) then
                  bif (x8.S == ([])) then
                    some true
                  else
                    bif (x8.S == ([105, 110, 116, 101, 103, 101, 114])) then
                      some true
                    else
                      some (x8.S == ([112, 101, 114, 99, 101, 110, 116]))
                else
                  bif (x8.Op == 8) then
                    (calqueref26_Skeleton N x8.S).bind fun r286 =>
                    some r286
                  else
                    bif (x8.Op == 10) then
                      bif (x8.S == ([])) then
                        (calqueref26_Selection N x8.B).bind fun r290 =>
                        bif r290 then
                          (calqueref34_cases N c_0 i_1).bind fun r293 =>
                          some r293
                        else
                          some false
                      else
                        some false
                    else
                      bif (x8.Op == 11) then
                        bif (decide (i_1 > 0)) then
                          (idx c_0.Ins (i_1 - 1)).bind fun x297 =>
                          bif (x297.Op == 10) then
                            some true
                          else
                            (idx c_0.Ins (i_1 - 1)).bind fun x311 =>
                            some (x311.Op == 11)
                        else
                          some false
                      else
                        (show Option Bool from
                          bif (x8.Op == 5) then
                            some (x8.Op == 5)
                          else
                            some (x8.Op == 12)).bind fun o324 =>
                        bif o324 then
                          some (x8.S == ([]))
                        else
                          bif (x8.Op == 13) then
                            bif (x8.S == ([])) then
                              some (i_1 == (IntKind.wrap .i64 ((c_0.Ins.length : Int) - 1)))
                            else
                              some false
                          else
                            some false
        else
          (show Option Bool from
            bif (x8.Op == 12) then
              bif (decide (x8.A ≤ i_1)) then
                some true
              else
                bif (decide (x8.A ≥ (c_0.Ins.length : Int))) then
                  some true
                else
                  (idx c_0.Ins x8.A).bind fun x333 =>
                  bif (x333.Op == 11) then
                    some true
                  else
                    bif (!false) then
                      bif (!(x8.Op == 12)) then
                        bif (x8.A != 0) then
                          some true
                        else
                          bif (x8.Op != 10) then
                            some (x8.B != 0)
                          else
                            some false
                      else
                        bif (x8.Op != 10) then
                          some (x8.B != 0)
                        else
                          some false
                    else
                      bif (x8.Op != 10) then
                        some (x8.B != 0)
                      else
                        some false
            else
              bif (!false) then
                bif (!(x8.Op == 12)) then
                  bif (x8.A != 0) then
                    some true
                  else
                    bif (x8.Op != 10) then
                      some (x8.B != 0)
                    else
                      some false
                else
                  bif (x8.Op != 10) then
                    some (x8.B != 0)
                  else
                    some false
              else
                bif (x8.Op != 10) then
                  some (x8.B != 0)
                else
                  some false).bind fun o329 =>
          bif o329 then
            some false
          else
            bif (x8.Op == 1) then
              some (x8.S != ([]))
            else
              (show Option Bool from
                bif (x8.Op == 2) then
                  some (x8.Op == 2)
                else
                  bif (x8.Op == 3) then
                    some (x8.Op == 3)
                  else
                    bif (x8.Op == 4) then
                      some (x8.Op == 4)
                    else
                      bif (x8.Op == 7) then
                        some (x8.Op == 7)
                      else
                        some (x8.Op == 9)).bind fun o361 =>
              bif o361 then
                (calqueref25_Name N x8.S).bind fun r367 =>
                some r367
              else
                bif (x8.Op == 6) then
                  bif (x8.S == ([])) then
                    some true
                  else
                    bif (x8.S == ([105, 110, 116, 101, 103, 101, 114])) then
                      some true
                    else
                      some (x8.S == ([112, 101, 114, 99, 101, 110, 116]))
                else
                  bif (x8.Op == 8) then
                    (calqueref26_Skeleton N x8.S).bind fun r373 =>
                    some r373
                  else
                    bif (x8.Op == 10) then
                      bif (x8.S == ([])) then
                        (calqueref26_Selection N x8.B).bind fun r377 =>
                        bif r377 then
                          (calqueref34_cases N c_0 i_1).bind fun r380 =>
                          some r380
                        else
                          some false
                      else
                        some false
                    else
                      bif (x8.Op == 11) then
                        bif (decide (i_1 > 0)) then
                          (idx c_0.Ins (i_1 - 1)).bind fun x384 =>
                          bif (x384.Op == 10) then
                            some true
                          else
                            (idx c_0.Ins (i_1 - 1)).bind fun x398 =>
                            some (x398.Op == 11)
                        else
                          some false
                      else
                        (show Option Bool from
                          bif (x8.Op == 5) then
                            some (x8.Op == 5)
                          else
                            some (x8.Op == 12)).bind fun o411 =>
                        bif o411 then
                          some (x8.S == ([]))
                        else
                          bif (x8.Op == 13) then
                            bif (x8.S == ([])) then
                              some (i_1 == (IntKind.wrap .i64 ((c_0.Ins.length : Int) - 1)))
                            else
                              some false
                          else
                            some false

end Go.Proofs.YtmghnmfefpeelaaDoor
