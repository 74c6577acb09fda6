/- From the pure laws and the walks to the rows, printed by row.py. -/
import Derived.Test.YtmghnmfefpeelaaDoorRows
import Derived.Test.YtmghnmfefpeelaaDoorWalk34a1
import Derived.Test.YtmghnmfefpeelaaDoorWalk34a2
import Derived.Test.YtmghnmfefpeelaaDoorWalk34m
import Derived.Test.YtmghnmfefpeelaaDoorWalk34p1
import Derived.Test.YtmghnmfefpeelaaDoorWalk34p2
import Derived.Test.YtmghnmfefpeelaaDoorWalk34p3
import Derived.Test.YtmghnmfefpeelaaDoorWalk34c
import Derived.Test.YtmghnmfefpeelaaDoorLibO
import Derived.Test.YtmghnmfefpeelaaDoorLibOT
import Derived.Test.YtmghnmfefpeelaaDoorLibOA
import Derived.Test.YtmghnmfefpeelaaDoorTie
import Derived.Test.YtmghnmfefpeelaaDoorCards
set_option linter.unusedVariables false
namespace Go.Proofs.YtmghnmfefpeelaaDoor
open Go.ChangeShapes Go.WideShapes Go.ChangeAt Go.RowKit Go.X

theorem own : ownKnob Tryd.prog.godebug = none := by kernel_rfl
theorem laidOut : laidOutB Tryd.prog = true := by kernel_rfl
theorem shut_true {H : Type} {enc : TypeId × Value → H} {W : World} {base : Nat} {sp : Nat → Bool} {held : Bool} (b : Bool) : DataW.Trod enc Tryd.prog W base sp held 4 (.bool b) (.lit (.bool b)) [] :=
  ⟨1, by simp [DataW.trod, Value.cells, Tryd.underlying4]⟩

theorem glob_of {W : World} (h : W.ShapedOpen Tryd.prog) : Glob W := cell_of_shapedOpen_int (g := 0) (t := 3) (zero := #[.int .i64 0]) h (of_decide_eq_true (by kernel_rfl)) (by kernel_rfl) (by kernel_rfl) (by kernel_rfl) (by kernel_rfl) Tryd.underlying3

theorem ce3 : Tryd.prog.cellsOf 3 = 1 := by kernel_rfl
theorem ce9 : Tryd.prog.cellsOf 9 = 1 := by kernel_rfl
theorem ce22 : Tryd.prog.cellsOf 22 = 1 := by kernel_rfl
theorem ce23 : Tryd.prog.cellsOf 23 = 1 := by kernel_rfl
theorem ce25 : Tryd.prog.cellsOf 25 = 2 := by kernel_rfl
theorem ce35 : Tryd.prog.cellsOf 35 = 4 := by kernel_rfl

theorem o_35 : OpnS Tryd.prog 35 pIns (fun x => (InR .i64 x.Op ∧ InR .i64 x.A ∧ InR .i64 x.B ∧ x.S.length ≤ reachBytes)) := fun h hz => by
  obtain ⟨hl, hf⟩ := s_struct Tryd.underlying35 h hz
  obtain ⟨c0, c1, c2, c3, rfl⟩ := len4 (hl.trans ce35)
  obtain ⟨a0, h0, q0⟩ := hf 0 _ 1 rfl ce3 (s_int Tryd.underlying3)
  obtain ⟨a1, h1, q1⟩ := hf 1 _ 1 rfl ce3 (s_int Tryd.underlying3)
  obtain ⟨a2, h2, q2⟩ := hf 2 _ 1 rfl ce3 (s_int Tryd.underlying3)
  obtain ⟨a3, h3, q3⟩ := hf 3 _ 1 rfl ce9 (s_str Tryd.underlying9)
  have h0 : (pI .i64) _ [c0] a0 := h0
  obtain ⟨rfl, g0⟩ := pI_inv h0
  have h1 : (pI .i64) _ [c1] a1 := h1
  obtain ⟨rfl, g1⟩ := pI_inv h1
  have h2 : (pI .i64) _ [c2] a2 := h2
  obtain ⟨rfl, g2⟩ := pI_inv h2
  have h3 : pS _ [c3] a3 := h3
  obtain ⟨rfl, g3⟩ := pS_inv h3
  exact ⟨⟨a0, a1, a2, a3⟩, ⟨rfl, g0, g1, g2, g3⟩, ⟨q0, q1, q2, q3⟩⟩

theorem o_25 : OpnS Tryd.prog 25 pCode (fun x => ((x.Names.length ≤ reachBytes ∧ ∀ y5 ∈ x.Names, y5.length ≤ reachBytes) ∧ (x.Ins.length ≤ reachBytes ∧ ∀ y6 ∈ x.Ins, (InR .i64 y6.Op ∧ InR .i64 y6.A ∧ InR .i64 y6.B ∧ y6.S.length ≤ reachBytes)))) := fun h hz => by
  obtain ⟨hl, hf⟩ := s_struct Tryd.underlying25 h hz
  obtain ⟨c0, c1, rfl⟩ := len2 (hl.trans ce25)
  obtain ⟨a0, h0, q0⟩ := hf 0 _ 1 rfl ce22 (s_slice Tryd.underlying22 ce9 (Nat.succ_pos _) (of_decide_eq_true (by kernel_rfl)) (s_str Tryd.underlying9))
  obtain ⟨a1, h1, q1⟩ := hf 1 _ 1 rfl ce23 (s_slice Tryd.underlying23 ce35 (Nat.succ_pos _) (of_decide_eq_true (by kernel_rfl)) o_35)
  have h0 : (pL 1 pS) _ [c0] a0 := h0
  have h1 : (pL 4 pIns) _ [c1] a1 := h1
  exact ⟨⟨a0, a1⟩, ⟨c0, c1, rfl, h0, h1⟩, ⟨q0, q1⟩⟩

set_option maxRecDepth 100000 in
theorem verifyCheck_lifted (hp : ∀ x0, ((x0.Names.length ≤ reachBytes ∧ ∀ y3 ∈ x0.Names, y3.length ≤ reachBytes) ∧ (x0.Ins.length ≤ reachBytes ∧ ∀ y4 ∈ x0.Ins, (InR .i64 y4.Op ∧ InR .i64 y4.A ∧ InR .i64 y4.B ∧ y4.S.length ≤ reachBytes))) → ∃ N, calquelaw34_VerifyCheck N x0 = some true) (os : Os) (started : os.Started) (H : Type) (enc : TypeId × Value → H) :
    ReturnsInHanded {} Tryd.checked os 7 .any (fun w args => (Rows.verifyCheckSpec.pre enc Tryd.prog Tryd.f7 [] false w args ∧ laidMetH Tryd.prog Rows.verifyCheckRow.laid w) ∧ sizedMet enc Tryd.prog Tryd.f7 (OpenSpec.ofChange Rows.verifyCheckSpec) false w args)
      (Rows.verifyCheckSpec.post enc Tryd.prog Tryd.f7 false true false false) := by
  refine returns_and_sized (C := Tryd.checked) (X := fun w _ => laidMetH Tryd.prog Rows.verifyCheckRow.laid w) own started (by kernel_rfl) Tryd.func7
    (ChangeSpec.witness_shaped (enc := enc) (C := Tryd.checked) (os := os) (X := fun w _ => laidMetH Tryd.prog Rows.verifyCheckRow.laid w) false (World.laidAll Tryd.prog os Rows.verifyCheckRow.laid) #[.agg #[.slice none 0 0, .slice none 0 0]] 8 (World.laidAll_os _ _ _)
      (World.shaped_of_ZipB (by kernel_rfl) (by kernel_rfl)) (by kernel_rfl) (by kernel_rfl) (by kernel_rfl)
      (by rw [MakeChecks.laidMetH_plain _ _ _ (by kernel_rfl)]; exact laidMet_laidAll _ (by kernel_rfl) (by kernel_rfl))) ?_
  intro W base args ds gs before hval0 hW hsh hz
  have hval : ∀ (j : Nat) t v, Tryd.f7.params[j]? = some t → args[j]? = some v → Value.okWide Tryd.prog W .any base t v := hval0
  have hW' := hW
  obtain ⟨p, q, hA0, hV, rfl, _, _⟩ := hW
  have hA : DataW.TrodAll enc Tryd.prog W 0 (fun _ => true) true Tryd.f7.params.toList args.toList ds p := hA0
  rw [Tryd.params7] at hA hval
  obtain ⟨v0, d0, rfl, rfl, k0⟩ := trodAll_one hA
  obtain ⟨p0, hp0⟩ : ∃ p0, p0 = p := ⟨_, rfl⟩
  subst hp0
  obtain ⟨rfl, rfl⟩ := trodVars_none hV
  obtain ⟨fu0, hf0⟩ := id k0
  have hz0 : ∀ n ∈ d0.weights Tryd.prog 25, n ≤ reachBytes := fun n hn => by
    have := List.all_eq_true.1 hz n (DataW.weights_mem_each (j := 0) (t := 25) (d := d0) (by rw [Tryd.params7]; rfl) rfl n hn)
    simpa using this
  obtain ⟨s0, rfl, _⟩ := okWide_struct Tryd.underlying25 (hval 0 25 v0 rfl rfl)
  obtain ⟨a0, r0, q0⟩ := o_25 hf0 hz0
  clear hA0 hval0
  have hlt : ∀ x ∈ p0, x.block < W.heap.size := fun x hx => by
    refine hW'.lt x ?_
    simpa using hx
  have hlt0 : ∀ x ∈ p0, x.block < W.heap.size := fun x hx => hlt x (by simp [hx])
  obtain ⟨N, hN⟩ := hp a0 q0
  have hw := calquelaw34_VerifyCheck_w N s0.toList a0 r0 hN (glob_of hsh) (Ok.start W)
  refine hw.mono fun e W' ⟨he, ok⟩ => ?_
  subst he
  have hn := ok.below
  have t0 := Below.trod laidOut (by kernel_rfl) (of_decide_eq_true (by kernel_rfl)) k0 hn hlt0
  refine ⟨_, rfl, _, _, _, [], p0, [], hW', ?_, ?_, rfl, hn.frame _, fun h => by cases h⟩
  · exact trodAll_mk1 (shut_true true)
  · exact trodAll_mk1 t0

theorem verifyCheck_holds (hp : ∀ x0, ((x0.Names.length ≤ reachBytes ∧ ∀ y3 ∈ x0.Names, y3.length ≤ reachBytes) ∧ (x0.Ins.length ≤ reachBytes ∧ ∀ y4 ∈ x0.Ins, (InR .i64 y4.Op ∧ InR .i64 y4.A ∧ InR .i64 y4.B ∧ y4.S.length ≤ reachBytes))) → ∃ N, calquelaw34_VerifyCheck N x0 = some true) : Rows.VerifyCheckSaid :=
  OpenClaim.holds_of_wide 7 Tryd.f7 rfl rfl rfl rfl rfl rfl rfl ⟨rfl, rfl, rfl, rfl, rfl⟩ rfl rfl rfl rfl rfl (by kernel_rfl) Tryd.func7 (by kernel_rfl)
    (of_decide_eq_true (by kernel_rfl)) (by unfold Func.isWrapper; rw [if_neg (of_decide_eq_false (by kernel_rfl))]; exact ⟨rfl, rfl⟩)
    (fun os started H enc _ => verifyCheck_lifted hp os started H enc)

set_option maxRecDepth 100000 in
theorem verifyCheck_card (hp : ∀ x0, ((x0.Names.length ≤ reachBytes ∧ ∀ y3 ∈ x0.Names, y3.length ≤ reachBytes) ∧ (x0.Ins.length ≤ reachBytes ∧ ∀ y4 ∈ x0.Ins, (InR .i64 y4.Op ∧ InR .i64 y4.A ∧ InR .i64 y4.B ∧ y4.S.length ≤ reachBytes))) → ∃ N, calquelaw34_VerifyCheck N x0 = some true) : Rows.VerifyCheckCardSaid :=
  Claim7.holds_tied_plain_at .later [] [.data, .pinned] true (true, "920e0d4510c9f0b2ea25c8b61585f52dc13057113f78cdcd29de2e1254470674") false (verifyCheck_holds hp) (fun _ h => by cases h) (by kernel_rfl) (fun _ h => by cases h) verifyCheck_row_tie rfl ⟨rfl, rfl⟩ (by kernel_rfl) rfl
    (fun f fn hf hfn => by
      obtain rfl : f = 7 := Option.some.inj ((show Tryd.prog.funcNamed "calque/calquelaw34.VerifyCheck" = some 7 by kernel_rfl).symm.trans hf) |>.symm
      obtain rfl : fn = Tryd.f7 := (Option.some.inj (Tryd.func7.symm.trans hfn)).symm
      exact ⟨by kernel_rfl, fun j t ht => by
        rw [Tryd.params7] at ht
        have hm : t ∈ [25] := by simpa using Array.mem_of_getElem? ht
        have hall : ([25].all fun u => !Tryd.prog.wantsStandIn u) = true := by kernel_rfl
        exact (show Tryd.prog.wantsStandIn t = false by simpa using List.all_eq_true.1 hall t hm)⟩)
    (by kernel_rfl)

end Go.Proofs.YtmghnmfefpeelaaDoor
