/- From the pure laws and the walks to the rows, printed by row.py. -/
import Derived.Test.YtboacfcnmhnbdaaGreatDoorRows
import Derived.Test.YtboacfcnmhnbdaaGreatDoorWalk14a1
import Derived.Test.YtboacfcnmhnbdaaGreatDoorWalk14a2
import Derived.Test.YtboacfcnmhnbdaaGreatDoorWalk14a3
import Derived.Test.YtboacfcnmhnbdaaGreatDoorWalk14a4
import Derived.Test.YtboacfcnmhnbdaaGreatDoorLibO
import Derived.Test.YtboacfcnmhnbdaaGreatDoorLibOT
import Derived.Test.YtboacfcnmhnbdaaGreatDoorLibOA
import Derived.Test.YtboacfcnmhnbdaaGreatDoorTie
import Derived.Test.YtboacfcnmhnbdaaGreatDoorCards
set_option linter.unusedVariables false
namespace Go.Proofs.YtboacfcnmhnbdaaGreatDoor
open Go.ChangeShapes Go.WideShapes Go.ChangeAt Go.RowKit Go.X

theorem own : ownKnob Tryz.prog.godebug = none := by kernel_rfl
theorem laidOut : laidOutB Tryz.prog = true := by kernel_rfl
theorem shut_true {H : Type} {enc : TypeId × Value → H} {W : World} {base : Nat} {sp : Nat → Bool} {held : Bool} (b : Bool) : DataW.Trod enc Tryz.prog W base sp held 4 (.bool b) (.lit (.bool b)) [] :=
  ⟨1, by simp [DataW.trod, Value.cells, Tryz.underlying4]⟩

theorem glob_of {W : World} (h : W.ShapedOpen Tryz.prog) : Glob W := cell_of_shapedOpen_int (g := 0) (t := 3) (zero := #[.int .i64 0]) h (of_decide_eq_true (by kernel_rfl)) (by kernel_rfl) (by kernel_rfl) (by kernel_rfl) (by kernel_rfl) Tryz.underlying3

theorem ce3 : Tryz.prog.cellsOf 3 = 1 := by kernel_rfl
theorem ce4 : Tryz.prog.cellsOf 4 = 1 := by kernel_rfl
theorem ce9 : Tryz.prog.cellsOf 9 = 1 := by kernel_rfl
theorem ce42 : Tryz.prog.cellsOf 42 = 1 := by kernel_rfl
theorem ce44 : Tryz.prog.cellsOf 44 = 2 := by kernel_rfl
theorem ce49 : Tryz.prog.cellsOf 49 = 2 := by kernel_rfl
theorem ce50 : Tryz.prog.cellsOf 50 = 1 := by kernel_rfl
theorem ce52 : Tryz.prog.cellsOf 52 = 4 := by kernel_rfl
theorem ce53 : Tryz.prog.cellsOf 53 = 1 := by kernel_rfl

theorem o_49 : OpnS Tryz.prog 49 pSpan (fun x => (InR .i64 x.From ∧ InR .i64 x.To)) := fun h hz => by
  obtain ⟨hl, hf⟩ := s_struct Tryz.underlying49 h hz
  obtain ⟨c0, c1, rfl⟩ := len2 (hl.trans ce49)
  obtain ⟨a0, h0, q0⟩ := hf 0 _ 1 rfl ce3 (s_int Tryz.underlying3)
  obtain ⟨a1, h1, q1⟩ := hf 1 _ 1 rfl ce3 (s_int Tryz.underlying3)
  have h0 : (pI .i64) _ [c0] a0 := h0
  obtain ⟨rfl, g0⟩ := pI_inv h0
  have h1 : (pI .i64) _ [c1] a1 := h1
  obtain ⟨rfl, g1⟩ := pI_inv h1
  exact ⟨⟨a0, a1⟩, ⟨rfl, g0, g1⟩, ⟨q0, q1⟩⟩

theorem o_52 : OpnS Tryz.prog 52 pRelation (fun x => (InR .i64 x.Operand ∧ InR .i64 x.Mod ∧ (x.Spans.length ≤ reachBytes ∧ ∀ y12 ∈ x.Spans, (InR .i64 y12.From ∧ InR .i64 y12.To)))) := fun h hz => by
  obtain ⟨hl, hf⟩ := s_struct Tryz.underlying52 h hz
  obtain ⟨c0, c1, c2, c3, rfl⟩ := len4 (hl.trans ce52)
  obtain ⟨a0, h0, q0⟩ := hf 0 _ 1 rfl ce3 (s_int Tryz.underlying3)
  obtain ⟨a1, h1, q1⟩ := hf 1 _ 1 rfl ce3 (s_int Tryz.underlying3)
  obtain ⟨a2, h2, q2⟩ := hf 2 _ 1 rfl ce4 (s_bool Tryz.underlying4)
  obtain ⟨a3, h3, q3⟩ := hf 3 _ 1 rfl ce50 (s_slice Tryz.underlying50 ce49 (Nat.succ_pos _) (of_decide_eq_true (by kernel_rfl)) o_49)
  have h0 : (pI .i64) _ [c0] a0 := h0
  obtain ⟨rfl, g0⟩ := pI_inv h0
  have h1 : (pI .i64) _ [c1] a1 := h1
  obtain ⟨rfl, g1⟩ := pI_inv h1
  have h2 : pB _ [c2] a2 := h2
  obtain rfl := pB_inv h2
  have h3 : (pL 2 pSpan) _ [c3] a3 := h3
  exact ⟨⟨a0, a1, a2, a3⟩, ⟨c3, rfl, g0, g1, h3⟩, ⟨q0, q1, q3⟩⟩

theorem o_44 : OpnS Tryz.prog 44 pRule (fun x => (x.Class.length ≤ reachBytes ∧ (x.Cond.length ≤ reachBytes ∧ ∀ y9 ∈ x.Cond, (y9.length ≤ reachBytes ∧ ∀ y10 ∈ y9, (InR .i64 y10.Operand ∧ InR .i64 y10.Mod ∧ (y10.Spans.length ≤ reachBytes ∧ ∀ y11 ∈ y10.Spans, (InR .i64 y11.From ∧ InR .i64 y11.To))))))) := fun h hz => by
  obtain ⟨hl, hf⟩ := s_struct Tryz.underlying44 h hz
  obtain ⟨c0, c1, rfl⟩ := len2 (hl.trans ce44)
  obtain ⟨a0, h0, q0⟩ := hf 0 _ 1 rfl ce9 (s_str Tryz.underlying9)
  obtain ⟨a1, h1, q1⟩ := hf 1 _ 1 rfl ce42 (s_slice Tryz.underlying42 ce53 (Nat.succ_pos _) (of_decide_eq_true (by kernel_rfl)) (s_slice Tryz.underlying53 ce52 (Nat.succ_pos _) (of_decide_eq_true (by kernel_rfl)) o_52))
  have h0 : pS _ [c0] a0 := h0
  obtain ⟨rfl, g0⟩ := pS_inv h0
  have h1 : (pL 1 (pL 4 pRelation)) _ [c1] a1 := h1
  exact ⟨⟨a0, a1⟩, ⟨c1, rfl, g0, h1⟩, ⟨q0, q1⟩⟩

set_option maxRecDepth 100000 in
theorem pluralClass_lifted (hp : ∀ x0 x1, (x0.length ≤ reachBytes ∧ ∀ y5 ∈ x0, (y5.Class.length ≤ reachBytes ∧ (y5.Cond.length ≤ reachBytes ∧ ∀ y6 ∈ y5.Cond, (y6.length ≤ reachBytes ∧ ∀ y7 ∈ y6, (InR .i64 y7.Operand ∧ InR .i64 y7.Mod ∧ (y7.Spans.length ≤ reachBytes ∧ ∀ y8 ∈ y7.Spans, (InR .i64 y8.From ∧ InR .i64 y8.To))))))) → (x1.length ≤ reachBytes) → ∃ N, calquelaw14_PluralClass N x0 x1 = some true) (os : Os) (started : os.Started) (H : Type) (enc : TypeId × Value → H) :
    ReturnsInHanded {} Tryz.checked os 3 .any (fun w args => (Rows.pluralClassSpec.pre enc Tryz.prog Tryz.f3 [] false w args ∧ laidMetH Tryz.prog Rows.pluralClassRow.laid w) ∧ sizedMet enc Tryz.prog Tryz.f3 (OpenSpec.ofChange Rows.pluralClassSpec) false w args)
      (Rows.pluralClassSpec.post enc Tryz.prog Tryz.f3 false true false false) := by
  refine returns_and_sized (C := Tryz.checked) (X := fun w _ => laidMetH Tryz.prog Rows.pluralClassRow.laid w) own started (by kernel_rfl) Tryz.func3
    (ChangeSpec.witness_shaped (enc := enc) (C := Tryz.checked) (os := os) (X := fun w _ => laidMetH Tryz.prog Rows.pluralClassRow.laid w) false (World.laidAll Tryz.prog os Rows.pluralClassRow.laid) #[.slice none 0 0, .string (bs [])] 8 (World.laidAll_os _ _ _)
      (World.shaped_of_ZipB (by kernel_rfl) (by kernel_rfl)) (by kernel_rfl) (by kernel_rfl) (by kernel_rfl)
      (by rw [MakeChecks.laidMetH_plain _ _ _ (by kernel_rfl)]; exact laidMet_laidAll _ (by kernel_rfl) (by kernel_rfl))) ?_
  intro W base args ds gs before hval0 hW hsh hz
  have hval : ∀ (j : Nat) t v, Tryz.f3.params[j]? = some t → args[j]? = some v → Value.okWide Tryz.prog W .any base t v := hval0
  have hW' := hW
  obtain ⟨p, q, hA0, hV, rfl, _, _⟩ := hW
  have hA : DataW.TrodAll enc Tryz.prog W 0 (fun _ => true) true Tryz.f3.params.toList args.toList ds p := hA0
  rw [Tryz.params3] at hA hval
  obtain ⟨v0, v1, d0, d1, p0, p1, rfl, rfl, rfl, k0, k1⟩ := trodAll_two hA
  obtain ⟨rfl, rfl⟩ := trodVars_none hV
  obtain ⟨fu0, hf0⟩ := id k0
  have hz0 : ∀ n ∈ d0.weights Tryz.prog 22, n ≤ reachBytes := fun n hn => by
    have := List.all_eq_true.1 hz n (DataW.weights_mem_each (j := 0) (t := 22) (d := d0) (by rw [Tryz.params3]; rfl) rfl n hn)
    simpa using this
  obtain ⟨s0, u0, w0, rfl⟩ := okWide_slice Tryz.underlying22 (hval 0 22 v0 rfl rfl)
  obtain ⟨a0, r0, q0⟩ := (s_slice Tryz.underlying22 ce44 (Nat.succ_pos _) (of_decide_eq_true (by kernel_rfl)) o_44) hf0 hz0
  obtain ⟨fu1, hf1⟩ := id k1
  have hz1 : ∀ n ∈ d1.weights Tryz.prog 9, n ≤ reachBytes := fun n hn => by
    have := List.all_eq_true.1 hz n (DataW.weights_mem_each (j := 1) (t := 9) (d := d1) (by rw [Tryz.params3]; rfl) rfl n hn)
    simpa using this
  obtain ⟨s1, rfl⟩ := okWide_string Tryz.underlying9 (hval 1 9 v1 rfl rfl)
  obtain ⟨a1, r1, q1⟩ := (s_str Tryz.underlying9) hf1 hz1
  obtain ⟨e1, l1⟩ := pS_inv (show pS (hm W) [.string s1] a1 from r1)
  clear hA0 hval0
  have hlt : ∀ x ∈ p0 ++ p1, x.block < W.heap.size := fun x hx => by
    refine hW'.lt x ?_
    simpa using hx
  have hlt0 : ∀ x ∈ p0, x.block < W.heap.size := fun x hx => hlt x (by simp [hx])
  have hlt1 : ∀ x ∈ p1, x.block < W.heap.size := fun x hx => hlt x (by simp [hx])
  obtain ⟨N, hN⟩ := hp a0 a1 q0 q1
  have hw := calquelaw14_PluralClass_w N _ a0 r0 a1 l1 hN (glob_of hsh) (Ok.start W)
  rw [← e1] at hw
  refine hw.mono fun e W' ⟨he, ok⟩ => ?_
  subst he
  have hn := ok.below
  have t0 := Below.trod laidOut (by kernel_rfl) (of_decide_eq_true (by kernel_rfl)) k0 hn hlt0
  have t1 := Below.trod laidOut (by kernel_rfl) (of_decide_eq_true (by kernel_rfl)) k1 hn hlt1
  refine ⟨_, rfl, _, _, _, [], p0 ++ p1, [], hW', ?_, ?_, rfl, hn.frame _, fun h => by cases h⟩
  · exact trodAll_mk1 (shut_true true)
  · exact trodAll_mk2 t0 t1

theorem pluralClass_holds (hp : ∀ x0 x1, (x0.length ≤ reachBytes ∧ ∀ y5 ∈ x0, (y5.Class.length ≤ reachBytes ∧ (y5.Cond.length ≤ reachBytes ∧ ∀ y6 ∈ y5.Cond, (y6.length ≤ reachBytes ∧ ∀ y7 ∈ y6, (InR .i64 y7.Operand ∧ InR .i64 y7.Mod ∧ (y7.Spans.length ≤ reachBytes ∧ ∀ y8 ∈ y7.Spans, (InR .i64 y8.From ∧ InR .i64 y8.To))))))) → (x1.length ≤ reachBytes) → ∃ N, calquelaw14_PluralClass N x0 x1 = some true) : Rows.PluralClassSaid :=
  OpenClaim.holds_of_wide 3 Tryz.f3 rfl rfl rfl rfl rfl rfl rfl ⟨rfl, rfl, rfl, rfl, rfl⟩ rfl rfl rfl rfl rfl (by kernel_rfl) Tryz.func3 (by kernel_rfl)
    (of_decide_eq_true (by kernel_rfl)) (by unfold Func.isWrapper; rw [if_neg (of_decide_eq_false (by kernel_rfl))]; exact ⟨rfl, rfl⟩)
    (fun os started H enc _ => pluralClass_lifted hp os started H enc)

set_option maxRecDepth 100000 in
theorem pluralClass_card (hp : ∀ x0 x1, (x0.length ≤ reachBytes ∧ ∀ y5 ∈ x0, (y5.Class.length ≤ reachBytes ∧ (y5.Cond.length ≤ reachBytes ∧ ∀ y6 ∈ y5.Cond, (y6.length ≤ reachBytes ∧ ∀ y7 ∈ y6, (InR .i64 y7.Operand ∧ InR .i64 y7.Mod ∧ (y7.Spans.length ≤ reachBytes ∧ ∀ y8 ∈ y7.Spans, (InR .i64 y8.From ∧ InR .i64 y8.To))))))) → (x1.length ≤ reachBytes) → ∃ N, calquelaw14_PluralClass N x0 x1 = some true) : Rows.PluralClassCardSaid :=
  Claim7.holds_tied_plain_at .later [] [.data, .data, .data, .data, .sentinel, .sentinel, .pinned] true (true, "f3dc7e7594170dd07d8e33fa1e30112068d41a92c841e72d5f6ae9054a08b96e") true (pluralClass_holds hp) (fun _ h => by cases h) (by kernel_rfl) (fun _ h => by cases h) pluralClass_row_tie rfl ⟨rfl, rfl⟩ (by kernel_rfl) rfl
    (fun f fn hf hfn => by
      obtain rfl : f = 3 := Option.some.inj ((show Tryz.prog.funcNamed "calque/calquelaw14.PluralClass" = some 3 by kernel_rfl).symm.trans hf) |>.symm
      obtain rfl : fn = Tryz.f3 := (Option.some.inj (Tryz.func3.symm.trans hfn)).symm
      exact ⟨by kernel_rfl, fun j t ht => by
        rw [Tryz.params3] at ht
        have hm : t ∈ [22, 9] := by simpa using Array.mem_of_getElem? ht
        have hall : ([22, 9].all fun u => !Tryz.prog.wantsStandIn u) = true := by kernel_rfl
        exact (show Tryz.prog.wantsStandIn t = false by simpa using List.all_eq_true.1 hall t hm)⟩)
    (by kernel_rfl)

end Go.Proofs.YtboacfcnmhnbdaaGreatDoor
