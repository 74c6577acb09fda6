/- From the pure laws and the walks to the rows, printed by row.py. -/
import Derived.Test.YthecjdgffboedaaDoorRows
import Derived.Test.YthecjdgffboedaaDoorWalk15i
import Derived.Test.YthecjdgffboedaaDoorLibV
import Derived.Test.YthecjdgffboedaaDoorTie
import Derived.Test.YthecjdgffboedaaDoorCards
set_option linter.unusedVariables false
namespace Go.Proofs.YthecjdgffboedaaDoor
open Go.ChangeShapes Go.WideShapes Go.ChangeAt Go.RowKit Go.X

theorem own : ownKnob Tryd.prog.godebug = none := by kernel_rfl
theorem laidOut : laidOutB Tryd.prog = true := by kernel_rfl
theorem shut_true {H : Type} {enc : TypeId × Value → H} {W : World} {base : Nat} {sp : Nat → Bool} {held : Bool} (b : Bool) : DataW.Trod enc Tryd.prog W base sp held 4 (.bool b) (.lit (.bool b)) [] :=
  ⟨1, by simp [DataW.trod, Value.cells, Tryd.underlying4]⟩

theorem glob_of {W : World} (h : W.ShapedOpen Tryd.prog) : Glob W := cell_of_shapedOpen_int (g := 0) (t := 3) (zero := #[.int .i64 0]) h (of_decide_eq_true (by kernel_rfl)) (by kernel_rfl) (by kernel_rfl) (by kernel_rfl) (by kernel_rfl) Tryd.underlying3

theorem ce3 : Tryd.prog.cellsOf 3 = 1 := by kernel_rfl
theorem ce9 : Tryd.prog.cellsOf 9 = 1 := by kernel_rfl
theorem ce23 : Tryd.prog.cellsOf 23 = 6 := by kernel_rfl

theorem o_23 : Opn Tryd.prog 23 pSymbols := fun h => by
  obtain ⟨hl, hf⟩ := o_struct Tryd.underlying23 h
  obtain ⟨c0, c1, c2, c3, c4, c5, rfl⟩ := len6 (hl.trans ce23)
  obtain ⟨a0, h0⟩ := hf 0 _ 1 rfl ce9 (o_str Tryd.underlying9)
  obtain ⟨a1, h1⟩ := hf 1 _ 1 rfl ce9 (o_str Tryd.underlying9)
  obtain ⟨a2, h2⟩ := hf 2 _ 1 rfl ce9 (o_str Tryd.underlying9)
  obtain ⟨a3, h3⟩ := hf 3 _ 1 rfl ce9 (o_str Tryd.underlying9)
  obtain ⟨a4, h4⟩ := hf 4 _ 1 rfl ce3 (o_int Tryd.underlying3)
  obtain ⟨a5, h5⟩ := hf 5 _ 1 rfl ce3 (o_int Tryd.underlying3)
  have h0 : pS _ [c0] a0 := h0
  obtain ⟨rfl, g0⟩ := pS_inv h0
  have h1 : pS _ [c1] a1 := h1
  obtain ⟨rfl, g1⟩ := pS_inv h1
  have h2 : pS _ [c2] a2 := h2
  obtain ⟨rfl, g2⟩ := pS_inv h2
  have h3 : pS _ [c3] a3 := h3
  obtain ⟨rfl, g3⟩ := pS_inv h3
  have h4 : (pI .i64) _ [c4] a4 := h4
  obtain ⟨rfl, g4⟩ := pI_inv h4
  have h5 : (pI .i64) _ [c5] a5 := h5
  obtain ⟨rfl, g5⟩ := pI_inv h5
  exact ⟨⟨a0, a1, a2, a3, a4, a5⟩, rfl, g0, g1, g2, g3, g4, g5⟩

theorem inr_23 {m : Mem} {cs : List Value} {x : Symbols} (h : pSymbols m cs x) : InR .i64 x.Primary ∧ InR .i64 x.Secondary := by
  obtain ⟨_, _, _, _, _, h4, h5⟩ := h
  exact ⟨h4, h5⟩

set_option maxRecDepth 100000 in
theorem numberInverse_lifted (hp : ∀ x0 x1, (InR .i64 x0.Primary ∧ InR .i64 x0.Secondary) → (x1.length ≤ LIMS) → ∃ N, calquelaw15_NumberInverse N x0 x1 = some true) (os : Os) (started : os.Started) (H : Type) (enc : TypeId × Value → H) :
    ReturnsInHanded {} Tryd.checked os 7 .any (fun w args => (Rows.numberInverseSpec.pre enc Tryd.prog Tryd.f7 [] false w args ∧ laidMetH Tryd.prog Rows.numberInverseRow.laid w) ∧ sizedMet enc Tryd.prog Tryd.f7 (OpenSpec.ofChange Rows.numberInverseSpec) false w args)
      (Rows.numberInverseSpec.post enc Tryd.prog Tryd.f7 false true false false) := by
  refine returns_and_shaped (C := Tryd.checked) (X := fun w _ => laidMetH Tryd.prog Rows.numberInverseRow.laid w) (fun _ _ _ hh h => h.of_heap hh) own started (by kernel_rfl) Tryd.func7
    (ChangeSpec.witness_shaped (enc := enc) (C := Tryd.checked) (os := os) (X := fun w _ => laidMetH Tryd.prog Rows.numberInverseRow.laid w) false (World.laidAll Tryd.prog os Rows.numberInverseRow.laid) #[.agg #[.string (bs []), .string (bs []), .string (bs []), .string (bs []), .int .i64 0, .int .i64 0], .string (bs [])] 8 (World.laidAll_os _ _ _)
      (World.shaped_of_ZipB (by kernel_rfl) (by kernel_rfl)) (by kernel_rfl) (by kernel_rfl) (by kernel_rfl)
      (by rw [MakeChecks.laidMetH_plain _ _ _ (by kernel_rfl)]; exact laidMet_laidAll _ (by kernel_rfl) (by kernel_rfl))) ?_
  intro W base args ds gs before hval0 hW hsh
  have hval : ∀ (j : Nat) t v, Tryd.f7.params[j]? = some t → args[j]? = some v → Value.okWide Tryd.prog W .any base t v := hval0
  have hW' := hW
  obtain ⟨p, q, hA0, hV, rfl, _, _⟩ := hW
  have hA : DataW.TrodAll enc Tryd.prog W 0 (fun _ => true) true Tryd.f7.params.toList args.toList ds p := hA0
  rw [Tryd.params7] at hA hval
  obtain ⟨v0, v1, d0, d1, p0, p1, rfl, rfl, rfl, k0, k1⟩ := trodAll_two hA
  obtain ⟨rfl, rfl⟩ := trodVars_none hV
  obtain ⟨fu0, hf0⟩ := id k0
  obtain ⟨s0, rfl, _⟩ := okWide_struct Tryd.underlying23 (hval 0 23 v0 rfl rfl)
  obtain ⟨a0, r0⟩ := o_23 hf0
  obtain ⟨fu1, hf1⟩ := id k1
  obtain ⟨s1, rfl⟩ := okWide_string Tryd.underlying9 (hval 1 9 v1 rfl rfl)
  obtain ⟨a1, r1⟩ := (o_str Tryd.underlying9) hf1
  obtain ⟨e1, l1⟩ := pS_inv (show pS (hm W) [.string s1] a1 from r1)
  clear hA0 hval0
  have hlt : ∀ x ∈ p0 ++ p1, x.block < W.heap.size := fun x hx => by
    refine hW'.lt x ?_
    simpa using hx
  have hlt0 : ∀ x ∈ p0, x.block < W.heap.size := fun x hx => hlt x (by simp [hx])
  have hlt1 : ∀ x ∈ p1, x.block < W.heap.size := fun x hx => hlt x (by simp [hx])
  obtain ⟨N, hN⟩ := hp a0 a1 (inr_23 r0) l1
  have hw := calquelaw15_NumberInverse_w N s0.toList a0 r0 a1 l1 hN (glob_of hsh) (Ok.start W)
  rw [← e1] at hw
  refine hw.mono fun e W' ⟨he, ok⟩ => ?_
  subst he
  have hn := ok.below
  have t0 := Below.trod laidOut (by kernel_rfl) (of_decide_eq_true (by kernel_rfl)) k0 hn hlt0
  have t1 := Below.trod laidOut (by kernel_rfl) (of_decide_eq_true (by kernel_rfl)) k1 hn hlt1
  refine ⟨_, rfl, _, _, _, [], p0 ++ p1, [], hW', ?_, ?_, rfl, hn.frame _, fun h => by cases h⟩
  · exact trodAll_mk1 (shut_true true)
  · exact trodAll_mk2 t0 t1

theorem numberInverse_holds (hp : ∀ x0 x1, (InR .i64 x0.Primary ∧ InR .i64 x0.Secondary) → (x1.length ≤ LIMS) → ∃ N, calquelaw15_NumberInverse N x0 x1 = some true) : Rows.NumberInverseSaid :=
  OpenClaim.holds_of_wide 7 Tryd.f7 rfl rfl rfl rfl rfl rfl rfl ⟨rfl, rfl, rfl, rfl, rfl⟩ rfl rfl rfl rfl rfl (by kernel_rfl) Tryd.func7 (by kernel_rfl)
    (of_decide_eq_true (by kernel_rfl)) (by unfold Func.isWrapper; rw [if_neg (of_decide_eq_false (by kernel_rfl))]; exact ⟨rfl, rfl⟩)
    (fun os started H enc _ => numberInverse_lifted hp os started H enc)

set_option maxRecDepth 100000 in
theorem numberInverse_card (hp : ∀ x0 x1, (InR .i64 x0.Primary ∧ InR .i64 x0.Secondary) → (x1.length ≤ LIMS) → ∃ N, calquelaw15_NumberInverse N x0 x1 = some true) : Rows.NumberInverseCardSaid :=
  Claim7.holds_tied_plain_at .later [] [.data, .pinned] true (true, "1b2faada665bb85dc7b09e7659425ba79918a6c7dddf3e051d0037f0110e1697") false (numberInverse_holds hp) (fun _ h => by cases h) (by kernel_rfl) (fun _ h => by cases h) numberInverse_row_tie rfl ⟨rfl, rfl⟩ (by kernel_rfl) rfl
    (fun f fn hf hfn => by
      obtain rfl : f = 7 := Option.some.inj ((show Tryd.prog.funcNamed "calque/calquelaw15.NumberInverse" = some 7 by kernel_rfl).symm.trans hf) |>.symm
      obtain rfl : fn = Tryd.f7 := (Option.some.inj (Tryd.func7.symm.trans hfn)).symm
      exact ⟨by kernel_rfl, fun j t ht => by
        rw [Tryd.params7] at ht
        have hm : t ∈ [23, 9] := by simpa using Array.mem_of_getElem? ht
        have hall : ([23, 9].all fun u => !Tryd.prog.wantsStandIn u) = true := by kernel_rfl
        exact (show Tryd.prog.wantsStandIn t = false by simpa using List.all_eq_true.1 hall t hm)⟩)
    (by kernel_rfl)

end Go.Proofs.YthecjdgffboedaaDoor
