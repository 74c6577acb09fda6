/- From the pure laws and the walks to the rows, printed by row.py. -/
import Derived.Test.YtdlaobjbjmecnaaRows
import Derived.Test.YtdlaobjbjmecnaaWalk09e
import Derived.Test.YtdlaobjbjmecnaaLibR
set_option linter.unusedVariables false
namespace Go.Proofs.Ytdlaobjbjmecnaa
open Go.ChangeShapes Go.WideShapes Go.ChangeAt Go.RowKit Go.X

theorem own : ownKnob Try.prog.godebug = none := by kernel_rfl
theorem laidOut : laidOutB Try.prog = true := by kernel_rfl
theorem shut_true {H : Type} {enc : TypeId × Value → H} {W : World} {base : Nat} {sp : Nat → Bool} {held : Bool} (b : Bool) : DataW.Trod enc Try.prog W base sp held 4 (.bool b) (.lit (.bool b)) [] :=
  ⟨1, by simp [DataW.trod, Value.cells, Try.underlying4]⟩

theorem ce3 : Try.prog.cellsOf 3 = 1 := by kernel_rfl
theorem ce4 : Try.prog.cellsOf 4 = 1 := by kernel_rfl
theorem ce22 : Try.prog.cellsOf 22 = 1 := by kernel_rfl
theorem ce23 : Try.prog.cellsOf 23 = 1 := by kernel_rfl
theorem ce25 : Try.prog.cellsOf 25 = 3 := by kernel_rfl
theorem ce56 : Try.prog.cellsOf 56 = 1 := by kernel_rfl

theorem o_25 : Opn Try.prog 25 pDFA := fun h => by
  obtain ⟨hl, hf⟩ := o_struct Try.underlying25 h
  obtain ⟨c0, c1, c2, rfl⟩ := len3 (hl.trans ce25)
  obtain ⟨a0, h0⟩ := hf 0 _ 1 rfl ce3 (o_int Try.underlying3)
  obtain ⟨a1, h1⟩ := hf 1 _ 1 rfl ce22 (o_slice Try.underlying22 ce56 (Nat.succ_pos _) (o_slice Try.underlying56 ce3 (Nat.succ_pos _) (o_int Try.underlying3)))
  obtain ⟨a2, h2⟩ := hf 2 _ 1 rfl ce23 (o_slice Try.underlying23 ce4 (Nat.succ_pos _) (o_bool Try.underlying4))
  have h0 : (pI .i64) _ [c0] a0 := h0
  obtain ⟨rfl, g0⟩ := pI_inv h0
  have h1 : (pL 1 (pL 1 (pI .i64))) _ [c1] a1 := h1
  have h2 : (pL 1 pB) _ [c2] a2 := h2
  exact ⟨⟨a0, a1, a2⟩, c1, c2, rfl, g0, h1, h2⟩

set_option maxRecDepth 100000 in
theorem automatonSets_lifted (hp : ∀ x0 x1, ∃ N, calquelaw09_AutomatonSets N x0 x1 = some true) (os : Os) (started : os.Started) (H : Type) (enc : TypeId × Value → H) :
    ReturnsInHanded {} Try.checked os 8 .any (Rows.automatonSetsSpec.pre6 enc Try.prog Try.f8 Rows.automatonSetsRow.domain false) (Rows.automatonSetsSpec.post enc Try.prog Try.f8 false true false false) := by
  refine returnsInHanded_of_change (C := Try.checked) own started (by kernel_rfl) Try.func8
    (ChangeSpec.witness6 (enc := enc) (C := Try.checked) false ⟨#[], #[.agg #[.int .i64 0, .slice none 0 0, .slice none 0 0], .agg #[.int .i64 0, .slice none 0 0, .slice none 0 0]], []⟩ 8 (by kernel_rfl) (by kernel_rfl) (by kernel_rfl) (by kernel_rfl)) ?_
  intro W base args ds gs before hval0 hW _ _
  have hval : ∀ (j : Nat) t v, Try.f8.params[j]? = some t → args[j]? = some v → Value.okWide Try.prog W .any base t v := hval0
  have hW' := hW
  obtain ⟨p, q, hA0, hV, rfl, _, _⟩ := hW
  have hA : DataW.TrodAll enc Try.prog W 0 (fun _ => true) true Try.f8.params.toList args.toList ds p := hA0
  rw [Try.params8] at hA hval
  obtain ⟨v0, v1, d0, d1, p0, p1, rfl, rfl, rfl, k0, k1⟩ := trodAll_two hA
  obtain ⟨rfl, rfl⟩ := trodVars_none hV
  obtain ⟨fu0, hf0⟩ := id k0
  obtain ⟨s0, rfl, _⟩ := okWide_struct Try.underlying25 (hval 0 25 v0 rfl rfl)
  obtain ⟨a0, r0⟩ := o_25 hf0
  obtain ⟨fu1, hf1⟩ := id k1
  obtain ⟨s1, rfl, _⟩ := okWide_struct Try.underlying25 (hval 1 25 v1 rfl rfl)
  obtain ⟨a1, r1⟩ := o_25 hf1
  clear hA0 hval0
  have hlt : ∀ x ∈ p0 ++ p1, x.block < W.heap.size := fun x hx => by
    refine hW'.lt x ?_
    simpa using hx
  have hlt0 : ∀ x ∈ p0, x.block < W.heap.size := fun x hx => hlt x (by simp [hx])
  have hlt1 : ∀ x ∈ p1, x.block < W.heap.size := fun x hx => hlt x (by simp [hx])
  obtain ⟨N, hN⟩ := hp a0 a1
  have hw := calquelaw09_AutomatonSets_w N s0.toList a0 r0 s1.toList a1 r1 hN (Ok.start W)
  refine hw.mono fun e W' ⟨he, ok⟩ => ?_
  subst he
  have hn := ok.below
  have t0 := Below.trod laidOut (by kernel_rfl) (of_decide_eq_true (by kernel_rfl)) k0 hn hlt0
  have t1 := Below.trod laidOut (by kernel_rfl) (of_decide_eq_true (by kernel_rfl)) k1 hn hlt1
  refine ⟨_, rfl, _, _, _, [], p0 ++ p1, [], hW', ?_, ?_, rfl, hn.frame _, fun h => by cases h⟩
  · exact trodAll_mk1 (shut_true true)
  · exact trodAll_mk2 t0 t1

theorem automatonSets_holds (hp : ∀ x0 x1, ∃ N, calquelaw09_AutomatonSets N x0 x1 = some true) : Rows.AutomatonSetsSaid :=
  OpenClaim.holds_of_wide 8 Try.f8 rfl rfl rfl rfl rfl rfl rfl ⟨rfl, rfl, rfl, rfl, rfl⟩ rfl rfl rfl rfl rfl (by kernel_rfl) Try.func8 (by kernel_rfl)
    (of_decide_eq_true (by kernel_rfl)) (by unfold Func.isWrapper; rw [if_neg (of_decide_eq_false (by kernel_rfl))]; exact ⟨rfl, rfl⟩)
    (fun os started H enc _ => automatonSets_lifted hp os started H enc)

end Go.Proofs.Ytdlaobjbjmecnaa
