/- From the pure laws and the walks to the rows, printed by row.py. -/
import Derived.Test.YtnmiodonophfbaaDoorRows
import Derived.Test.YtnmiodonophfbaaDoorWalk16k
import Derived.Test.YtnmiodonophfbaaDoorLibO
import Derived.Test.YtnmiodonophfbaaDoorLibOT
import Derived.Test.YtnmiodonophfbaaDoorTie
import Derived.Test.YtnmiodonophfbaaDoorCards
set_option linter.unusedVariables false
namespace Go.Proofs.YtnmiodonophfbaaDoor
open Go.ChangeShapes Go.WideShapes Go.ChangeAt Go.RowKit Go.X

theorem own : ownKnob Tryd.prog.godebug = none := by kernel_rfl
theorem laidOut : laidOutB Tryd.prog = true := by kernel_rfl
theorem shut_true {H : Type} {enc : TypeId × Value → H} {W : World} {base : Nat} {sp : Nat → Bool} {held : Bool} (b : Bool) : DataW.Trod enc Tryd.prog W base sp held 4 (.bool b) (.lit (.bool b)) [] :=
  ⟨1, by simp [DataW.trod, Value.cells, Tryd.underlying4]⟩

theorem glob_of {W : World} (h : W.ShapedOpen Tryd.prog) : Glob W := cell_of_shapedOpen_int (g := 0) (t := 3) (zero := #[.int .i64 0]) h (of_decide_eq_true (by kernel_rfl)) (by kernel_rfl) (by kernel_rfl) (by kernel_rfl) (by kernel_rfl) Tryd.underlying3

theorem ce9 : Tryd.prog.cellsOf 9 = 1 := by kernel_rfl

set_option maxRecDepth 100000 in
theorem listSame_lifted (hp : ∀ x0 x1, (x0.length ≤ reachBytes) → (x1.length ≤ reachBytes ∧ ∀ y2 ∈ x1, y2.length ≤ reachBytes) → ∃ N, calquelaw16_ListSame N x0 x1 = some true) (os : Os) (started : os.Started) (H : Type) (enc : TypeId × Value → H) :
    ReturnsInHanded {} Tryd.checked os 5 .any (fun w args => (Rows.listSameSpec.pre enc Tryd.prog Tryd.f5 [] false w args ∧ laidMetH Tryd.prog Rows.listSameRow.laid w) ∧ sizedMet enc Tryd.prog Tryd.f5 (OpenSpec.ofChange Rows.listSameSpec) false w args)
      (Rows.listSameSpec.post enc Tryd.prog Tryd.f5 false true false false) := by
  refine returns_and_sized (C := Tryd.checked) (X := fun w _ => laidMetH Tryd.prog Rows.listSameRow.laid w) own started (by kernel_rfl) Tryd.func5
    (ChangeSpec.witness_shaped (enc := enc) (C := Tryd.checked) (os := os) (X := fun w _ => laidMetH Tryd.prog Rows.listSameRow.laid w) false (World.laidAll Tryd.prog os Rows.listSameRow.laid) #[.string (bs []), .slice none 0 0] 8 (World.laidAll_os _ _ _)
      (World.shaped_of_ZipB (by kernel_rfl) (by kernel_rfl)) (by kernel_rfl) (by kernel_rfl) (by kernel_rfl)
      (by rw [MakeChecks.laidMetH_plain _ _ _ (by kernel_rfl)]; exact laidMet_laidAll _ (by kernel_rfl) (by kernel_rfl))) ?_
  intro W base args ds gs before hval0 hW hsh hz
  have hval : ∀ (j : Nat) t v, Tryd.f5.params[j]? = some t → args[j]? = some v → Value.okWide Tryd.prog W .any base t v := hval0
  have hW' := hW
  obtain ⟨p, q, hA0, hV, rfl, _, _⟩ := hW
  have hA : DataW.TrodAll enc Tryd.prog W 0 (fun _ => true) true Tryd.f5.params.toList args.toList ds p := hA0
  rw [Tryd.params5] at hA hval
  obtain ⟨v0, v1, d0, d1, p0, p1, rfl, rfl, rfl, k0, k1⟩ := trodAll_two hA
  obtain ⟨rfl, rfl⟩ := trodVars_none hV
  obtain ⟨fu0, hf0⟩ := id k0
  have hz0 : ∀ n ∈ d0.weights Tryd.prog 9, n ≤ reachBytes := fun n hn => by
    have := List.all_eq_true.1 hz n (DataW.weights_mem_each (j := 0) (t := 9) (d := d0) (by rw [Tryd.params5]; rfl) rfl n hn)
    simpa using this
  obtain ⟨s0, rfl⟩ := okWide_string Tryd.underlying9 (hval 0 9 v0 rfl rfl)
  obtain ⟨a0, r0, q0⟩ := (s_str Tryd.underlying9) hf0 hz0
  obtain ⟨e0, l0⟩ := pS_inv (show pS (hm W) [.string s0] a0 from r0)
  obtain ⟨fu1, hf1⟩ := id k1
  have hz1 : ∀ n ∈ d1.weights Tryd.prog 24, n ≤ reachBytes := fun n hn => by
    have := List.all_eq_true.1 hz n (DataW.weights_mem_each (j := 1) (t := 24) (d := d1) (by rw [Tryd.params5]; rfl) rfl n hn)
    simpa using this
  obtain ⟨s1, u1, w1, rfl⟩ := okWide_slice Tryd.underlying24 (hval 1 24 v1 rfl rfl)
  obtain ⟨a1, r1, q1⟩ := (s_slice Tryd.underlying24 ce9 (Nat.succ_pos _) (of_decide_eq_true (by kernel_rfl)) (s_str Tryd.underlying9)) hf1 hz1
  clear hA0 hval0
  have hlt : ∀ x ∈ p0 ++ p1, x.block < W.heap.size := fun x hx => by
    refine hW'.lt x ?_
    simpa using hx
  have hlt0 : ∀ x ∈ p0, x.block < W.heap.size := fun x hx => hlt x (by simp [hx])
  have hlt1 : ∀ x ∈ p1, x.block < W.heap.size := fun x hx => hlt x (by simp [hx])
  obtain ⟨N, hN⟩ := hp a0 a1 q0 q1
  have hw := calquelaw16_ListSame_w N a0 l0 _ a1 r1 hN (glob_of hsh) (Ok.start W)
  rw [← e0] at hw
  refine hw.mono fun e W' ⟨he, ok⟩ => ?_
  subst he
  have hn := ok.below
  have t0 := Below.trod laidOut (by kernel_rfl) (of_decide_eq_true (by kernel_rfl)) k0 hn hlt0
  have t1 := Below.trod laidOut (by kernel_rfl) (of_decide_eq_true (by kernel_rfl)) k1 hn hlt1
  refine ⟨_, rfl, _, _, _, [], p0 ++ p1, [], hW', ?_, ?_, rfl, hn.frame _, fun h => by cases h⟩
  · exact trodAll_mk1 (shut_true true)
  · exact trodAll_mk2 t0 t1

theorem listSame_holds (hp : ∀ x0 x1, (x0.length ≤ reachBytes) → (x1.length ≤ reachBytes ∧ ∀ y2 ∈ x1, y2.length ≤ reachBytes) → ∃ N, calquelaw16_ListSame N x0 x1 = some true) : Rows.ListSameSaid :=
  OpenClaim.holds_of_wide 5 Tryd.f5 rfl rfl rfl rfl rfl rfl rfl ⟨rfl, rfl, rfl, rfl, rfl⟩ rfl rfl rfl rfl rfl (by kernel_rfl) Tryd.func5 (by kernel_rfl)
    (of_decide_eq_true (by kernel_rfl)) (by unfold Func.isWrapper; rw [if_neg (of_decide_eq_false (by kernel_rfl))]; exact ⟨rfl, rfl⟩)
    (fun os started H enc _ => listSame_lifted hp os started H enc)

set_option maxRecDepth 100000 in
theorem listSame_card (hp : ∀ x0 x1, (x0.length ≤ reachBytes) → (x1.length ≤ reachBytes ∧ ∀ y2 ∈ x1, y2.length ≤ reachBytes) → ∃ N, calquelaw16_ListSame N x0 x1 = some true) : Rows.ListSameCardSaid :=
  Claim7.holds_tied_plain_at .later [] [.data, .data, .data, .data, .pinned] true (true, "520dcfe5780b28d6ddb0831b9d6c43d554bc9a2528e96cb014f4329d10b86894") false (listSame_holds hp) (fun _ h => by cases h) (by kernel_rfl) (fun _ h => by cases h) listSame_row_tie rfl ⟨rfl, rfl⟩ (by kernel_rfl) rfl
    (fun f fn hf hfn => by
      obtain rfl : f = 5 := Option.some.inj ((show Tryd.prog.funcNamed "calque/calquelaw16.ListSame" = some 5 by kernel_rfl).symm.trans hf) |>.symm
      obtain rfl : fn = Tryd.f5 := (Option.some.inj (Tryd.func5.symm.trans hfn)).symm
      exact ⟨by kernel_rfl, fun j t ht => by
        rw [Tryd.params5] at ht
        have hm : t ∈ [9, 24] := by simpa using Array.mem_of_getElem? ht
        have hall : ([9, 24].all fun u => !Tryd.prog.wantsStandIn u) = true := by kernel_rfl
        exact (show Tryd.prog.wantsStandIn t = false by simpa using List.all_eq_true.1 hall t hm)⟩)
    (by kernel_rfl)

end Go.Proofs.YtnmiodonophfbaaDoor
