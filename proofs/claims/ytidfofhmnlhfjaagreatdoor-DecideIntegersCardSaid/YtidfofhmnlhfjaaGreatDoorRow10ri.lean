/- From the pure laws and the walks to the rows, printed by row.py. -/
import Derived.Test.YtidfofhmnlhfjaaGreatDoorRows
import Derived.Test.YtidfofhmnlhfjaaGreatDoorWalk10a1
import Derived.Test.YtidfofhmnlhfjaaGreatDoorWalk10a2
import Derived.Test.YtidfofhmnlhfjaaGreatDoorWalk10a3
import Derived.Test.YtidfofhmnlhfjaaGreatDoorWalk10a4
import Derived.Test.YtidfofhmnlhfjaaGreatDoorWalk10h
import Derived.Test.YtidfofhmnlhfjaaGreatDoorWalk10i
import Derived.Test.YtidfofhmnlhfjaaGreatDoorLibO
import Derived.Test.YtidfofhmnlhfjaaGreatDoorLibOT
import Derived.Test.YtidfofhmnlhfjaaGreatDoorLibOA
import Derived.Test.YtidfofhmnlhfjaaGreatDoorTie
import Derived.Test.YtidfofhmnlhfjaaGreatDoorCards
import Derived.Stop.LaidErr
set_option linter.unusedVariables false
namespace Go.Proofs.YtidfofhmnlhfjaaGreatDoor
open Go.ChangeShapes Go.WideShapes Go.ChangeAt Go.RowKit Go.X

theorem own : ownKnob Tryz.prog.godebug = none := by kernel_rfl
theorem laidOut : laidOutB Tryz.prog = true := by kernel_rfl
theorem shut_true {H : Type} {enc : TypeId × Value → H} {W : World} {base : Nat} {sp : Nat → Bool} {held : Bool} (b : Bool) : DataW.Trod enc Tryz.prog W base sp held 4 (.bool b) (.lit (.bool b)) [] :=
  ⟨1, by simp [DataW.trod, Value.cells, Tryz.underlying4]⟩

theorem glob_of {W : World} (h : W.ShapedOpen Tryz.prog) : Glob W := cell_of_shapedOpen_int (g := 0) (t := 3) (zero := #[.int .i64 0]) h (of_decide_eq_true (by kernel_rfl)) (by kernel_rfl) (by kernel_rfl) (by kernel_rfl) (by kernel_rfl) Tryz.underlying3

theorem ce3 : Tryz.prog.cellsOf 3 = 1 := by kernel_rfl
theorem ce4 : Tryz.prog.cellsOf 4 = 1 := by kernel_rfl
theorem ce66 : Tryz.prog.cellsOf 66 = 1 := by kernel_rfl
theorem ce67 : Tryz.prog.cellsOf 67 = 1 := by kernel_rfl
theorem ce69 : Tryz.prog.cellsOf 69 = 4 := by kernel_rfl
theorem ce126 : Tryz.prog.cellsOf 126 = 2 := by kernel_rfl

theorem o_126 : OpnS Tryz.prog 126 pSpan (fun x => (InR .i64 x.From ∧ InR .i64 x.To)) := fun h hz => by
  obtain ⟨hl, hf⟩ := s_struct Tryz.underlying126 h hz
  obtain ⟨c0, c1, rfl⟩ := len2 (hl.trans ce126)
  obtain ⟨a0, h0, q0⟩ := hf 0 _ 1 rfl ce3 (s_int Tryz.underlying3)
  obtain ⟨a1, h1, q1⟩ := hf 1 _ 1 rfl ce3 (s_int Tryz.underlying3)
  have h0 : (pI .i64) _ [c0] a0 := h0
  obtain ⟨rfl, g0⟩ := pI_inv h0
  have h1 : (pI .i64) _ [c1] a1 := h1
  obtain ⟨rfl, g1⟩ := pI_inv h1
  exact ⟨⟨a0, a1⟩, ⟨rfl, g0, g1⟩, ⟨q0, q1⟩⟩

theorem o_69 : OpnS Tryz.prog 69 pRelation (fun x => (InR .i64 x.Operand ∧ InR .i64 x.Mod ∧ (x.Spans.length ≤ reachBytes ∧ ∀ y7 ∈ x.Spans, (InR .i64 y7.From ∧ InR .i64 y7.To)))) := fun h hz => by
  obtain ⟨hl, hf⟩ := s_struct Tryz.underlying69 h hz
  obtain ⟨c0, c1, c2, c3, rfl⟩ := len4 (hl.trans ce69)
  obtain ⟨a0, h0, q0⟩ := hf 0 _ 1 rfl ce3 (s_int Tryz.underlying3)
  obtain ⟨a1, h1, q1⟩ := hf 1 _ 1 rfl ce3 (s_int Tryz.underlying3)
  obtain ⟨a2, h2, q2⟩ := hf 2 _ 1 rfl ce4 (s_bool Tryz.underlying4)
  obtain ⟨a3, h3, q3⟩ := hf 3 _ 1 rfl ce67 (s_slice Tryz.underlying67 ce126 (Nat.succ_pos _) (of_decide_eq_true (by kernel_rfl)) o_126)
  have h0 : (pI .i64) _ [c0] a0 := h0
  obtain ⟨rfl, g0⟩ := pI_inv h0
  have h1 : (pI .i64) _ [c1] a1 := h1
  obtain ⟨rfl, g1⟩ := pI_inv h1
  have h2 : pB _ [c2] a2 := h2
  obtain rfl := pB_inv h2
  have h3 : (pL 2 pSpan) _ [c3] a3 := h3
  exact ⟨⟨a0, a1, a2, a3⟩, ⟨c3, rfl, g0, g1, h3⟩, ⟨q0, q1, q3⟩⟩

theorem tab_decideIntegers {W : World} (h : laidMetH Tryz.prog Rows.decideIntegersRow.laid W) : Tab W := by
  rw [MakeChecks.laidMetH_plain _ _ _ (by kernel_rfl)] at h
  exact Lib.tabIs_of_head (g := 1) (t := 239) (e := 178) (by kernel_rfl) (by kernel_rfl) Tryz.underlying239 (by kernel_rfl) (by kernel_rfl) (by kernel_rfl) (show laidMet Tryz.prog (("internal/strconv.uint64pow10", Lib.tabData .u64 Lib.pow10Tab) :: _) W from laidMet.tail (x := _) (laidMet.tail (x := _) h))

set_option maxRecDepth 100000 in
theorem decideIntegers_lifted (hp : ∀ x0 x1 x2, (x0.length ≤ reachBytes ∧ ∀ y4 ∈ x0, (y4.length ≤ reachBytes ∧ ∀ y5 ∈ y4, (InR .i64 y5.Operand ∧ InR .i64 y5.Mod ∧ (y5.Spans.length ≤ reachBytes ∧ ∀ y6 ∈ y5.Spans, (InR .i64 y6.From ∧ InR .i64 y6.To))))) → (InR .u16 x1) → (InR .u16 x2) → ∃ N, calquelaw10_DecideIntegers N x0 x1 x2 = some true) (os : Os) (started : os.Started) (H : Type) (enc : TypeId × Value → H) :
    ReturnsInHanded {} Tryz.checked os 5 .any (fun w args => (Rows.decideIntegersSpec.pre enc Tryz.prog Tryz.f5 [] false w args ∧ laidMetH Tryz.prog Rows.decideIntegersRow.laid w) ∧ sizedMet enc Tryz.prog Tryz.f5 (OpenSpec.ofChange Rows.decideIntegersSpec) false w args)
      (Rows.decideIntegersSpec.post enc Tryz.prog Tryz.f5 false true false false) := by
  refine returns_and_sizedX (C := Tryz.checked) (X := fun w _ => laidMetH Tryz.prog Rows.decideIntegersRow.laid w) (fun _ _ _ hh h => laidMetH.of_heap hh h) own started (by kernel_rfl) Tryz.func5
    (ChangeSpec.witness_shaped (enc := enc) (C := Tryz.checked) (os := os) (X := fun w _ => laidMetH Tryz.prog Rows.decideIntegersRow.laid w) false (World.laidAll Tryz.prog os Rows.decideIntegersRow.laid) #[.slice none 0 0, .int .u16 0, .int .u16 0] 8 (World.laidAll_os _ _ _)
      (World.shaped_of_ZipB (by kernel_rfl) (by kernel_rfl)) (by kernel_rfl) (by kernel_rfl) (by kernel_rfl)
      (by rw [MakeChecks.laidMetH_plain _ _ _ (by kernel_rfl)]; exact laidMet_laidAll _ (by kernel_rfl) (by kernel_rfl))) ?_
  intro W base args ds gs before hval0 hW hsh hX hz
  have hval : ∀ (j : Nat) t v, Tryz.f5.params[j]? = some t → args[j]? = some v → Value.okWide Tryz.prog W .any base t v := hval0
  have hW' := hW
  obtain ⟨p, q, hA0, hV, rfl, _, _⟩ := hW
  have hA : DataW.TrodAll enc Tryz.prog W 0 (fun _ => true) true Tryz.f5.params.toList args.toList ds p := hA0
  rw [Tryz.params5] at hA hval
  obtain ⟨v0, v1, v2, d0, d1, d2, p0, p1, p2, rfl, rfl, rfl, k0, k1, k2⟩ := trodAll_three hA
  obtain ⟨rfl, rfl⟩ := trodVars_none hV
  obtain ⟨fu0, hf0⟩ := id k0
  have hz0 : ∀ n ∈ d0.weights Tryz.prog 23, n ≤ reachBytes := fun n hn => by
    have := List.all_eq_true.1 hz n (DataW.weights_mem_each (j := 0) (t := 23) (d := d0) (by rw [Tryz.params5]; rfl) rfl n hn)
    simpa using this
  obtain ⟨s0, u0, w0, rfl⟩ := okWide_slice Tryz.underlying23 (hval 0 23 v0 rfl rfl)
  obtain ⟨a0, r0, q0⟩ := (s_slice Tryz.underlying23 ce66 (Nat.succ_pos _) (of_decide_eq_true (by kernel_rfl)) (s_slice Tryz.underlying66 ce69 (Nat.succ_pos _) (of_decide_eq_true (by kernel_rfl)) o_69)) hf0 hz0
  obtain ⟨fu1, hf1⟩ := id k1
  have hz1 : ∀ n ∈ d1.weights Tryz.prog 51, n ≤ reachBytes := fun n hn => by
    have := List.all_eq_true.1 hz n (DataW.weights_mem_each (j := 1) (t := 51) (d := d1) (by rw [Tryz.params5]; rfl) rfl n hn)
    simpa using this
  obtain ⟨s1, rfl⟩ := okWide_int Tryz.underlying51 (hval 1 51 v1 rfl rfl)
  obtain ⟨a1, r1, q1⟩ := (s_int Tryz.underlying51) hf1 hz1
  obtain ⟨e1, l1⟩ := pI_inv (show pI .u16 (hm W) [.int .u16 s1] a1 from r1)
  obtain ⟨fu2, hf2⟩ := id k2
  have hz2 : ∀ n ∈ d2.weights Tryz.prog 51, n ≤ reachBytes := fun n hn => by
    have := List.all_eq_true.1 hz n (DataW.weights_mem_each (j := 2) (t := 51) (d := d2) (by rw [Tryz.params5]; rfl) rfl n hn)
    simpa using this
  obtain ⟨s2, rfl⟩ := okWide_int Tryz.underlying51 (hval 2 51 v2 rfl rfl)
  obtain ⟨a2, r2, q2⟩ := (s_int Tryz.underlying51) hf2 hz2
  obtain ⟨e2, l2⟩ := pI_inv (show pI .u16 (hm W) [.int .u16 s2] a2 from r2)
  clear hA0 hval0
  have hlt : ∀ x ∈ p0 ++ p1 ++ p2, x.block < W.heap.size := fun x hx => by
    refine hW'.lt x ?_
    simpa using hx
  have hlt0 : ∀ x ∈ p0, x.block < W.heap.size := fun x hx => hlt x (by simp [hx])
  have hlt1 : ∀ x ∈ p1, x.block < W.heap.size := fun x hx => hlt x (by simp [hx])
  have hlt2 : ∀ x ∈ p2, x.block < W.heap.size := fun x hx => hlt x (by simp [hx])
  obtain ⟨N, hN⟩ := hp a0 a1 a2 q0 q1 q2
  have hw := calquelaw10_DecideIntegers_w N _ a0 r0 a1 l1 a2 l2 hN (glob_of hsh) (tab_decideIntegers hX) (Ok.start W)
  rw [← e1, ← e2] at hw
  refine hw.mono fun e W' ⟨he, ok⟩ => ?_
  subst he
  have hn := ok.below
  have t0 := Below.trod laidOut (by kernel_rfl) (of_decide_eq_true (by kernel_rfl)) k0 hn hlt0
  have t1 := Below.trod laidOut (by kernel_rfl) (of_decide_eq_true (by kernel_rfl)) k1 hn hlt1
  have t2 := Below.trod laidOut (by kernel_rfl) (of_decide_eq_true (by kernel_rfl)) k2 hn hlt2
  refine ⟨_, rfl, _, _, _, [], p0 ++ (p1 ++ p2), [], hW', ?_, ?_, rfl, hn.frame _, fun h => by cases h⟩
  · exact trodAll_mk1 (shut_true true)
  · exact trodAll_mk3 t0 t1 t2

theorem decideIntegers_holds (hp : ∀ x0 x1 x2, (x0.length ≤ reachBytes ∧ ∀ y4 ∈ x0, (y4.length ≤ reachBytes ∧ ∀ y5 ∈ y4, (InR .i64 y5.Operand ∧ InR .i64 y5.Mod ∧ (y5.Spans.length ≤ reachBytes ∧ ∀ y6 ∈ y5.Spans, (InR .i64 y6.From ∧ InR .i64 y6.To))))) → (InR .u16 x1) → (InR .u16 x2) → ∃ N, calquelaw10_DecideIntegers N x0 x1 x2 = some true) : Rows.DecideIntegersSaid :=
  OpenClaim.holds_of_wide 5 Tryz.f5 rfl rfl rfl rfl rfl rfl rfl ⟨rfl, rfl, rfl, rfl, rfl⟩ rfl rfl rfl rfl rfl (by kernel_rfl) Tryz.func5 (by kernel_rfl)
    (of_decide_eq_true (by kernel_rfl)) (by unfold Func.isWrapper; rw [if_neg (of_decide_eq_false (by kernel_rfl))]; exact ⟨rfl, rfl⟩)
    (fun os started H enc _ => decideIntegers_lifted hp os started H enc)

set_option maxRecDepth 100000 in
theorem decideIntegers_card (hp : ∀ x0 x1 x2, (x0.length ≤ reachBytes ∧ ∀ y4 ∈ x0, (y4.length ≤ reachBytes ∧ ∀ y5 ∈ y4, (InR .i64 y5.Operand ∧ InR .i64 y5.Mod ∧ (y5.Spans.length ≤ reachBytes ∧ ∀ y6 ∈ y5.Spans, (InR .i64 y6.From ∧ InR .i64 y6.To))))) → (InR .u16 x1) → (InR .u16 x2) → ∃ N, calquelaw10_DecideIntegers N x0 x1 x2 = some true) : Rows.DecideIntegersCardSaid :=
  Claim7.holds_tied_plain_at .later [] [.data, .data, .data, .data, .sentinel, .sentinel, .pinned] true (true, "2bb2cd1ba44a0be4a05329adc997e832363ba9481c36a5b90baaa7e03d181a88") true (decideIntegers_holds hp) (fun _ h => by cases h) (by kernel_rfl) (fun _ h => by cases h) decideIntegers_row_tie rfl ⟨rfl, rfl⟩ (by kernel_rfl) rfl
    (fun f fn hf hfn => by
      obtain rfl : f = 5 := Option.some.inj ((show Tryz.prog.funcNamed "calque/calquelaw10.DecideIntegers" = some 5 by kernel_rfl).symm.trans hf) |>.symm
      obtain rfl : fn = Tryz.f5 := (Option.some.inj (Tryz.func5.symm.trans hfn)).symm
      exact ⟨by kernel_rfl, fun j t ht => by
        rw [Tryz.params5] at ht
        have hm : t ∈ [23, 51, 51] := by simpa using Array.mem_of_getElem? ht
        have hall : ([23, 51, 51].all fun u => !Tryz.prog.wantsStandIn u) = true := by kernel_rfl
        exact (show Tryz.prog.wantsStandIn t = false by simpa using List.all_eq_true.1 hall t hm)⟩)
    (by kernel_rfl)

end Go.Proofs.YtidfofhmnlhfjaaGreatDoor
