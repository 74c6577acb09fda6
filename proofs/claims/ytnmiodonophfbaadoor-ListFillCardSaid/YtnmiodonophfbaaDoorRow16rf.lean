/- From the pure laws and the walks to the rows, printed by row.py. -/
import Derived.Test.YtnmiodonophfbaaDoorRows
import Derived.Test.YtnmiodonophfbaaDoorWalk16k
import Derived.Test.YtnmiodonophfbaaDoorLibO
import Derived.Test.YtnmiodonophfbaaDoorLibOT
import Derived.Test.YtnmiodonophfbaaDoorLibOA
import Derived.Test.YtnmiodonophfbaaDoorTie
import Derived.Test.YtnmiodonophfbaaDoorCards
set_option linter.unusedVariables false
namespace Go.Proofs.YtnmiodonophfbaaDoor
open Go.ChangeShapes Go.WideShapes Go.ChangeAt Go.RowKit Go.X

theorem own : ownKnob Tryd.prog.godebug = none := by kernel_rfl
theorem laidOut : laidOutB Tryd.prog = true := by kernel_rfl
theorem shut_true {H : Type} {enc : TypeId × Value → H} {W : World} {base : Nat} {sp : Nat → Bool} {held : Bool} (b : Bool) : DataW.Trod enc Tryd.prog W base sp held 4 (.bool b) (.lit (.bool b)) [] :=
  ⟨1, by simp [DataW.trod, Value.cells, Tryd.underlying4]⟩

theorem glob_of {W : World} (h : W.ShapedOpen Tryd.prog) : Glob W := cell_of_shapedOpen_int (g := 0) (t := 3) (zero := #[.int .i64 0]) h (of_decide_eq_true (by kernel_rfl)) (by kernel_rfl) (by kernel_rfl) (by kernel_rfl) (by kernel_rfl) Tryd.underlying3

theorem ce9 : Tryd.prog.cellsOf 9 = 1 := by kernel_rfl
theorem ce23 : Tryd.prog.cellsOf 23 = 5 := by kernel_rfl
theorem ce43 : Tryd.prog.cellsOf 43 = 2 := by kernel_rfl

theorem o_23 : OpnS Tryd.prog 23 pListPattern (fun x => (x.Style.length ≤ reachBytes ∧ x.Two.length ≤ reachBytes ∧ x.Start.length ≤ reachBytes ∧ x.Middle.length ≤ reachBytes ∧ x.End.length ≤ reachBytes)) := fun h hz => by
  obtain ⟨hl, hf⟩ := s_struct Tryd.underlying23 h hz
  obtain ⟨c0, c1, c2, c3, c4, rfl⟩ := len5 (hl.trans ce23)
  obtain ⟨a0, h0, q0⟩ := hf 0 _ 1 rfl ce9 (s_str Tryd.underlying9)
  obtain ⟨a1, h1, q1⟩ := hf 1 _ 1 rfl ce9 (s_str Tryd.underlying9)
  obtain ⟨a2, h2, q2⟩ := hf 2 _ 1 rfl ce9 (s_str Tryd.underlying9)
  obtain ⟨a3, h3, q3⟩ := hf 3 _ 1 rfl ce9 (s_str Tryd.underlying9)
  obtain ⟨a4, h4, q4⟩ := hf 4 _ 1 rfl ce9 (s_str Tryd.underlying9)
  have h0 : pS _ [c0] a0 := h0
  obtain ⟨rfl, g0⟩ := pS_inv h0
  have h1 : pS _ [c1] a1 := h1
  obtain ⟨rfl, g1⟩ := pS_inv h1
  have h2 : pS _ [c2] a2 := h2
  obtain ⟨rfl, g2⟩ := pS_inv h2
  have h3 : pS _ [c3] a3 := h3
  obtain ⟨rfl, g3⟩ := pS_inv h3
  have h4 : pS _ [c4] a4 := h4
  obtain ⟨rfl, g4⟩ := pS_inv h4
  exact ⟨⟨a0, a1, a2, a3, a4⟩, ⟨rfl, g0, g1, g2, g3, g4⟩, ⟨q0, q1, q2, q3, q4⟩⟩

theorem o_43 : OpnS Tryd.prog 43 pArr2_List_UInt8 (fun x => (x.e0.length ≤ reachBytes ∧ x.e1.length ≤ reachBytes)) := fun h hz => by
  obtain ⟨hl, hf⟩ := s_array Tryd.underlying43 h hz
  obtain ⟨c0, c1, rfl⟩ := len2 (hl.trans ce43)
  obtain ⟨a0, h0, q0⟩ := hf 0 1 (by decide) ce9 (s_str Tryd.underlying9)
  obtain ⟨a1, h1, q1⟩ := hf 1 1 (by decide) ce9 (s_str Tryd.underlying9)
  have h0 : pS _ [c0] a0 := h0
  obtain ⟨rfl, g0⟩ := pS_inv h0
  have h1 : pS _ [c1] a1 := h1
  obtain ⟨rfl, g1⟩ := pS_inv h1
  exact ⟨⟨a0, a1⟩, ⟨rfl, g0, g1⟩, ⟨q0, q1⟩⟩

set_option maxRecDepth 100000 in
theorem listFill_lifted (hp : ∀ x0 x1 x2, (x0.length ≤ reachBytes ∧ ∀ y2 ∈ x0, (y2.Style.length ≤ reachBytes ∧ y2.Two.length ≤ reachBytes ∧ y2.Start.length ≤ reachBytes ∧ y2.Middle.length ≤ reachBytes ∧ y2.End.length ≤ reachBytes)) → (x1.length ≤ reachBytes) → (x2.e0.length ≤ reachBytes ∧ x2.e1.length ≤ reachBytes) → ∃ N, calquelaw16_ListFill N x0 x1 x2 = some true) (os : Os) (started : os.Started) (H : Type) (enc : TypeId × Value → H) :
    ReturnsInHanded {} Tryd.checked os 6 .any (fun w args => (Rows.listFillSpec.pre enc Tryd.prog Tryd.f6 [] false w args ∧ laidMetH Tryd.prog Rows.listFillRow.laid w) ∧ sizedMet enc Tryd.prog Tryd.f6 (OpenSpec.ofChange Rows.listFillSpec) false w args)
      (Rows.listFillSpec.post enc Tryd.prog Tryd.f6 false true false false) := by
  refine returns_and_sized (C := Tryd.checked) (X := fun w _ => laidMetH Tryd.prog Rows.listFillRow.laid w) own started (by kernel_rfl) Tryd.func6
    (ChangeSpec.witness_shaped (enc := enc) (C := Tryd.checked) (os := os) (X := fun w _ => laidMetH Tryd.prog Rows.listFillRow.laid w) false (World.laidAll Tryd.prog os Rows.listFillRow.laid) #[.slice none 0 0, .string (bs []), .agg #[.string (bs []), .string (bs [])]] 8 (World.laidAll_os _ _ _)
      (World.shaped_of_ZipB (by kernel_rfl) (by kernel_rfl)) (by kernel_rfl) (by kernel_rfl) (by kernel_rfl)
      (by rw [MakeChecks.laidMetH_plain _ _ _ (by kernel_rfl)]; exact laidMet_laidAll _ (by kernel_rfl) (by kernel_rfl))) ?_
  intro W base args ds gs before hval0 hW hsh hz
  have hval : ∀ (j : Nat) t v, Tryd.f6.params[j]? = some t → args[j]? = some v → Value.okWide Tryd.prog W .any base t v := hval0
  have hW' := hW
  obtain ⟨p, q, hA0, hV, rfl, _, _⟩ := hW
  have hA : DataW.TrodAll enc Tryd.prog W 0 (fun _ => true) true Tryd.f6.params.toList args.toList ds p := hA0
  rw [Tryd.params6] at hA hval
  obtain ⟨v0, v1, v2, d0, d1, d2, p0, p1, p2, rfl, rfl, rfl, k0, k1, k2⟩ := trodAll_three hA
  obtain ⟨rfl, rfl⟩ := trodVars_none hV
  obtain ⟨fu0, hf0⟩ := id k0
  have hz0 : ∀ n ∈ d0.weights Tryd.prog 33, n ≤ reachBytes := fun n hn => by
    have := List.all_eq_true.1 hz n (DataW.weights_mem_each (j := 0) (t := 33) (d := d0) (by rw [Tryd.params6]; rfl) rfl n hn)
    simpa using this
  obtain ⟨s0, u0, w0, rfl⟩ := okWide_slice Tryd.underlying33 (hval 0 33 v0 rfl rfl)
  obtain ⟨a0, r0, q0⟩ := (s_slice Tryd.underlying33 ce23 (Nat.succ_pos _) (of_decide_eq_true (by kernel_rfl)) o_23) hf0 hz0
  obtain ⟨fu1, hf1⟩ := id k1
  have hz1 : ∀ n ∈ d1.weights Tryd.prog 9, n ≤ reachBytes := fun n hn => by
    have := List.all_eq_true.1 hz n (DataW.weights_mem_each (j := 1) (t := 9) (d := d1) (by rw [Tryd.params6]; rfl) rfl n hn)
    simpa using this
  obtain ⟨s1, rfl⟩ := okWide_string Tryd.underlying9 (hval 1 9 v1 rfl rfl)
  obtain ⟨a1, r1, q1⟩ := (s_str Tryd.underlying9) hf1 hz1
  obtain ⟨e1, l1⟩ := pS_inv (show pS (hm W) [.string s1] a1 from r1)
  obtain ⟨fu2, hf2⟩ := id k2
  have hz2 : ∀ n ∈ d2.weights Tryd.prog 43, n ≤ reachBytes := fun n hn => by
    have := List.all_eq_true.1 hz n (DataW.weights_mem_each (j := 2) (t := 43) (d := d2) (by rw [Tryd.params6]; rfl) rfl n hn)
    simpa using this
  obtain ⟨s2, rfl, _⟩ := okWide_array Tryd.underlying43 (hval 2 43 v2 rfl rfl)
  obtain ⟨a2, r2, q2⟩ := o_43 hf2 hz2
  clear hA0 hval0
  have hlt : ∀ x ∈ p0 ++ p1 ++ p2, x.block < W.heap.size := fun x hx => by
    refine hW'.lt x ?_
    simpa using hx
  have hlt0 : ∀ x ∈ p0, x.block < W.heap.size := fun x hx => hlt x (by simp [hx])
  have hlt1 : ∀ x ∈ p1, x.block < W.heap.size := fun x hx => hlt x (by simp [hx])
  have hlt2 : ∀ x ∈ p2, x.block < W.heap.size := fun x hx => hlt x (by simp [hx])
  obtain ⟨N, hN⟩ := hp a0 a1 a2 q0 q1 q2
  have hw := calquelaw16_ListFill_w N _ a0 r0 a1 l1 s2.toList a2 r2 hN (glob_of hsh) (Ok.start W)
  rw [← e1] at hw
  refine hw.mono fun e W' ⟨he, ok⟩ => ?_
  subst he
  have hn := ok.below
  have t0 := Below.trod laidOut (by kernel_rfl) (of_decide_eq_true (by kernel_rfl)) k0 hn hlt0
  have t1 := Below.trod laidOut (by kernel_rfl) (of_decide_eq_true (by kernel_rfl)) k1 hn hlt1
  have t2 := Below.trod laidOut (by kernel_rfl) (of_decide_eq_true (by kernel_rfl)) k2 hn hlt2
  refine ⟨_, rfl, _, _, _, [], p0 ++ (p1 ++ p2), [], hW', ?_, ?_, rfl, hn.frame _, fun h => by cases h⟩
  · exact trodAll_mk1 (shut_true true)
  · exact trodAll_mk3 t0 t1 t2

theorem listFill_holds (hp : ∀ x0 x1 x2, (x0.length ≤ reachBytes ∧ ∀ y2 ∈ x0, (y2.Style.length ≤ reachBytes ∧ y2.Two.length ≤ reachBytes ∧ y2.Start.length ≤ reachBytes ∧ y2.Middle.length ≤ reachBytes ∧ y2.End.length ≤ reachBytes)) → (x1.length ≤ reachBytes) → (x2.e0.length ≤ reachBytes ∧ x2.e1.length ≤ reachBytes) → ∃ N, calquelaw16_ListFill N x0 x1 x2 = some true) : Rows.ListFillSaid :=
  OpenClaim.holds_of_wide 6 Tryd.f6 rfl rfl rfl rfl rfl rfl rfl ⟨rfl, rfl, rfl, rfl, rfl⟩ rfl rfl rfl rfl rfl (by kernel_rfl) Tryd.func6 (by kernel_rfl)
    (of_decide_eq_true (by kernel_rfl)) (by unfold Func.isWrapper; rw [if_neg (of_decide_eq_false (by kernel_rfl))]; exact ⟨rfl, rfl⟩)
    (fun os started H enc _ => listFill_lifted hp os started H enc)

set_option maxRecDepth 100000 in
theorem listFill_card (hp : ∀ x0 x1 x2, (x0.length ≤ reachBytes ∧ ∀ y2 ∈ x0, (y2.Style.length ≤ reachBytes ∧ y2.Two.length ≤ reachBytes ∧ y2.Start.length ≤ reachBytes ∧ y2.Middle.length ≤ reachBytes ∧ y2.End.length ≤ reachBytes)) → (x1.length ≤ reachBytes) → (x2.e0.length ≤ reachBytes ∧ x2.e1.length ≤ reachBytes) → ∃ N, calquelaw16_ListFill N x0 x1 x2 = some true) : Rows.ListFillCardSaid :=
  Claim7.holds_tied_plain_at .later [] [.data, .data, .data, .data, .pinned] true (true, "520dcfe5780b28d6ddb0831b9d6c43d554bc9a2528e96cb014f4329d10b86894") false (listFill_holds hp) (fun _ h => by cases h) (by kernel_rfl) (fun _ h => by cases h) listFill_row_tie rfl ⟨rfl, rfl⟩ (by kernel_rfl) rfl
    (fun f fn hf hfn => by
      obtain rfl : f = 6 := Option.some.inj ((show Tryd.prog.funcNamed "calque/calquelaw16.ListFill" = some 6 by kernel_rfl).symm.trans hf) |>.symm
      obtain rfl : fn = Tryd.f6 := (Option.some.inj (Tryd.func6.symm.trans hfn)).symm
      exact ⟨by kernel_rfl, fun j t ht => by
        rw [Tryd.params6] at ht
        have hm : t ∈ [33, 9, 43] := by simpa using Array.mem_of_getElem? ht
        have hall : ([33, 9, 43].all fun u => !Tryd.prog.wantsStandIn u) = true := by kernel_rfl
        exact (show Tryd.prog.wantsStandIn t = false by simpa using List.all_eq_true.1 hall t hm)⟩)
    (by kernel_rfl)

end Go.Proofs.YtnmiodonophfbaaDoor
