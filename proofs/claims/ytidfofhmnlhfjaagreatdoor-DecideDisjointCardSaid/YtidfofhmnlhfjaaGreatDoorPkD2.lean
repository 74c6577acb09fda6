/- Texts of this proof, put together by pack.py: what its declarations name. -/
import Derived.Test.YtidfofhmnlhfjaaGreatDoorPkD1
import Derived.Test.YtidfofhmnlhfjaaGreatDoorCards
import Derived.Test.YtidfofhmnlhfjaaGreatDoorChecked
import Derived.Test.YtidfofhmnlhfjaaGreatDoorProg
import Derived.Test.YtidfofhmnlhfjaaGreatDoorRows
import Derived.Test.YtidfofhmnlhfjaaGreatDoorTie
set_option linter.unusedVariables false
namespace Go.Proofs.YtidfofhmnlhfjaaGreatDoor
open Go.X
variable {u : World} {m0 : Mem} {S : Segs} {w : World}
set_option maxHeartbeats 4000000
set_option maxRecDepth 100000
def Glob (u : World) : Prop := ∃ mx, u.cell? ⟨0, 0, none⟩ = some (.int .i64 mx)
def Tab (u : World) : Prop := Lib.TabIs Tryz.prog u "internal/strconv.uint64pow10" .u64 Lib.pow10Tab
def pSpan : Rp Span := fun _ cs x => cs = [.int .i64 x.From, .int .i64 x.To] ∧ InR .i64 x.From ∧ InR .i64 x.To
theorem mSpan : Mono pSpan := ⟨fun _ h => by
 obtain ⟨e, h0, h1⟩ := h
 exact ⟨e, h0, h1⟩, fun h => by
 obtain ⟨rfl, h0, h1⟩ := h
 exact ⟨rfl, rfl, trivial⟩⟩
def pRelation : Rp Relation := fun m cs x => ∃ c3, cs = [.int .i64 x.Operand, .int .i64 x.Mod, .bool x.Not, c3] ∧ InR .i64 x.Operand ∧ InR .i64 x.Mod ∧ (pL 2 pSpan) m [c3] x.Spans
theorem mRelation : Mono pRelation := ⟨fun hm h => by
 obtain ⟨c3, e, h0, h1, h3⟩ := h
 exact ⟨c3, e, h0, h1, (mL mSpan).up hm h3⟩, fun h => by
 obtain ⟨c3, rfl, h0, h1, h3⟩ := h
 exact ⟨rfl, rfl, rfl, ((mL mSpan).one h3).1, trivial⟩⟩
def pRule : Rp Rule := fun m cs x => ∃ c1, cs = [.string (bs x.Class), c1] ∧ x.Class.length ≤ LIMS ∧ (pL 1 (pL 4 pRelation)) m [c1] x.Cond
theorem mRule : Mono pRule := ⟨fun hm h => by
 obtain ⟨c1, e, h0, h1⟩ := h
 exact ⟨c1, e, h0, (mL (mL mRelation)).up hm h1⟩, fun h => by
 obtain ⟨c1, rfl, h0, h1⟩ := h
 exact ⟨rfl, ((mL (mL mRelation)).one h1).1, trivial⟩⟩
def pPart : Rp Part := fun _ cs x => cs = [.int .u64 x.bits, .string (bs x.text)] ∧ InR .u64 x.bits ∧ x.text.length ≤ LIMS
theorem mPart : Mono pPart := ⟨fun _ h => by
 obtain ⟨e, h0, h1⟩ := h
 exact ⟨e, h0, h1⟩, fun h => by
 obtain ⟨rfl, h0, h1⟩ := h
 exact ⟨rfl, rfl, trivial⟩⟩
def pClasses : Rp Classes := fun m cs x => ∃ c0 c1 c2, cs = [c0, c1, c2] ∧ (pL 4 pRelation) m [c0] x.l ∧ (pL 2 pPart) m [c1] x.wholes ∧ (pL 2 pPart) m [c2] x.fraction
theorem mClasses : Mono pClasses := ⟨fun hm h => by
 obtain ⟨c0, c1, c2, e, h0, h1, h2⟩ := h
 exact ⟨c0, c1, c2, e, (mL mRelation).up hm h0, (mL mPart).up hm h1, (mL mPart).up hm h2⟩, fun h => by
 obtain ⟨c0, c1, c2, rfl, h0, h1, h2⟩ := h
 exact ⟨((mL mRelation).one h0).1, ((mL mPart).one h1).1, ((mL mPart).one h2).1, trivial⟩⟩
def pTracker : Rp Tracker := fun _ cs x => cs = [.int .i64 x.a, .int .i64 x.b] ∧ InR .i64 x.a ∧ InR .i64 x.b
theorem mTracker : Mono pTracker := ⟨fun _ h => by
 obtain ⟨e, h0, h1⟩ := h
 exact ⟨e, h0, h1⟩, fun h => by
 obtain ⟨rfl, h0, h1⟩ := h
 exact ⟨rfl, rfl, trivial⟩⟩
def pState : Rp State := fun m cs x => ∃ c1, cs = [.string (bs x.s), c1, .bool x.integer] ∧ x.s.length ≤ LIMS ∧ (pL 2 pTracker) m [c1] x.trackers
theorem mState : Mono pState := ⟨fun hm h => by
 obtain ⟨c1, e, h0, h1⟩ := h
 exact ⟨c1, e, h0, (mL mTracker).up hm h1⟩, fun h => by
 obtain ⟨c1, rfl, h0, h1⟩ := h
 exact ⟨rfl, ((mL mTracker).one h1).1, rfl, trivial⟩⟩
def pWord : Rp Word := fun _ cs x => cs = [.string (bs x.text), .int .i64 x.at_] ∧ x.text.length ≤ LIMS ∧ InR .i64 x.at_
def pNumber : Rp Number := fun _ cs x => cs = [.bool x.Neg, .string (bs x.Whole), .string (bs x.Frac)] ∧ x.Whole.length ≤ LIMS ∧ x.Frac.length ≤ LIMS
theorem agg_117 : aggB Tryz.prog 117 3 = true := by kernel_rfl
theorem agg_126 : aggB Tryz.prog 126 2 = true := by kernel_rfl
theorem agg_163 : aggB Tryz.prog 163 2 = true := by kernel_rfl
theorem agg_181 : aggB Tryz.prog 181 2 = true := by kernel_rfl
theorem agg_199 : aggB Tryz.prog 199 3 = true := by kernel_rfl
theorem agg_45 : aggB Tryz.prog 45 2 = true := by kernel_rfl
theorem agg_69 : aggB Tryz.prog 69 4 = true := by kernel_rfl
theorem agg_86 : aggB Tryz.prog 86 2 = true := by kernel_rfl
theorem fo_117_0 : fieldOffB Tryz.prog 117 0 0 = true := by kernel_rfl
theorem fo_117_1 : fieldOffB Tryz.prog 117 1 1 = true := by kernel_rfl
theorem fo_117_2 : fieldOffB Tryz.prog 117 2 2 = true := by kernel_rfl
theorem fo_126_0 : fieldOffB Tryz.prog 126 0 0 = true := by kernel_rfl
theorem fo_126_1 : fieldOffB Tryz.prog 126 1 1 = true := by kernel_rfl
theorem fo_163_0 : fieldOffB Tryz.prog 163 0 0 = true := by kernel_rfl
theorem fo_163_1 : fieldOffB Tryz.prog 163 1 1 = true := by kernel_rfl
theorem fo_165_0 : fieldOffB Tryz.prog 165 0 0 = true := by kernel_rfl
theorem fo_165_1 : fieldOffB Tryz.prog 165 1 1 = true := by kernel_rfl
theorem fo_165_2 : fieldOffB Tryz.prog 165 2 2 = true := by kernel_rfl
theorem fo_165_3 : fieldOffB Tryz.prog 165 3 4 = true := by kernel_rfl
theorem fo_165_4 : fieldOffB Tryz.prog 165 4 5 = true := by kernel_rfl
theorem fo_175_0 : fieldOffB Tryz.prog 175 0 0 = true := by kernel_rfl
theorem fo_175_1 : fieldOffB Tryz.prog 175 1 1 = true := by kernel_rfl
theorem fo_175_2 : fieldOffB Tryz.prog 175 2 2 = true := by kernel_rfl
theorem fo_181_0 : fieldOffB Tryz.prog 181 0 0 = true := by kernel_rfl
theorem fo_181_1 : fieldOffB Tryz.prog 181 1 1 = true := by kernel_rfl
theorem fo_199_0 : fieldOffB Tryz.prog 199 0 0 = true := by kernel_rfl
theorem fo_199_1 : fieldOffB Tryz.prog 199 1 1 = true := by kernel_rfl
theorem fo_199_2 : fieldOffB Tryz.prog 199 2 2 = true := by kernel_rfl
theorem fo_45_1 : fieldOffB Tryz.prog 45 1 1 = true := by kernel_rfl
theorem fo_69_0 : fieldOffB Tryz.prog 69 0 0 = true := by kernel_rfl
theorem fo_69_1 : fieldOffB Tryz.prog 69 1 1 = true := by kernel_rfl
theorem fo_69_2 : fieldOffB Tryz.prog 69 2 2 = true := by kernel_rfl
theorem fo_69_3 : fieldOffB Tryz.prog 69 3 3 = true := by kernel_rfl
theorem fo_86_0 : fieldOffB Tryz.prog 86 0 0 = true := by kernel_rfl
theorem fo_86_1 : fieldOffB Tryz.prog 86 1 1 = true := by kernel_rfl
theorem go_101 : goB Tryz.prog 101 = true := by kernel_rfl
theorem go_102 : goB Tryz.prog 102 = true := by kernel_rfl
theorem go_103 : goB Tryz.prog 103 = true := by kernel_rfl
theorem go_106 : goB Tryz.prog 106 = true := by kernel_rfl
theorem go_109 : goB Tryz.prog 109 = true := by kernel_rfl
theorem go_110 : goB Tryz.prog 110 = true := by kernel_rfl
theorem go_111 : goB Tryz.prog 111 = true := by kernel_rfl
theorem go_112 : goB Tryz.prog 112 = true := by kernel_rfl
theorem go_113 : goB Tryz.prog 113 = true := by kernel_rfl
theorem go_114 : goB Tryz.prog 114 = true := by kernel_rfl
theorem go_115 : goB Tryz.prog 115 = true := by kernel_rfl
theorem go_116 : goB Tryz.prog 116 = true := by kernel_rfl
theorem go_117 : goB Tryz.prog 117 = true := by kernel_rfl
theorem go_12 : goB Tryz.prog 12 = true := by kernel_rfl
theorem go_120 : goB Tryz.prog 120 = true := by kernel_rfl
theorem go_122 : goB Tryz.prog 122 = true := by kernel_rfl
theorem go_123 : goB Tryz.prog 123 = true := by kernel_rfl
theorem go_124 : goB Tryz.prog 124 = true := by kernel_rfl
theorem go_125 : goB Tryz.prog 125 = true := by kernel_rfl
theorem go_126 : goB Tryz.prog 126 = true := by kernel_rfl
theorem go_127 : goB Tryz.prog 127 = true := by kernel_rfl
theorem go_128 : goB Tryz.prog 128 = true := by kernel_rfl
theorem go_129 : goB Tryz.prog 129 = true := by kernel_rfl
theorem go_142 : goB Tryz.prog 142 = true := by kernel_rfl
theorem go_143 : goB Tryz.prog 143 = true := by kernel_rfl
theorem go_144 : goB Tryz.prog 144 = true := by kernel_rfl
theorem go_145 : goB Tryz.prog 145 = true := by kernel_rfl
theorem go_146 : goB Tryz.prog 146 = true := by kernel_rfl
theorem go_147 : goB Tryz.prog 147 = true := by kernel_rfl
theorem go_150 : goB Tryz.prog 150 = true := by kernel_rfl
theorem go_163 : goB Tryz.prog 163 = true := by kernel_rfl
theorem go_164 : goB Tryz.prog 164 = true := by kernel_rfl
theorem go_166 : goB Tryz.prog 166 = true := by kernel_rfl
theorem go_19 : goB Tryz.prog 19 = true := by kernel_rfl
theorem go_33 : goB Tryz.prog 33 = true := by kernel_rfl
theorem go_35 : goB Tryz.prog 35 = true := by kernel_rfl
theorem go_36 : goB Tryz.prog 36 = true := by kernel_rfl
theorem go_37 : goB Tryz.prog 37 = true := by kernel_rfl
theorem go_38 : goB Tryz.prog 38 = true := by kernel_rfl
theorem go_47 : goB Tryz.prog 47 = true := by kernel_rfl
theorem go_52 : goB Tryz.prog 52 = true := by kernel_rfl
theorem go_54 : goB Tryz.prog 54 = true := by kernel_rfl
theorem go_60 : goB Tryz.prog 60 = true := by kernel_rfl
theorem go_61 : goB Tryz.prog 61 = true := by kernel_rfl
theorem go_62 : goB Tryz.prog 62 = true := by kernel_rfl
theorem go_69 : goB Tryz.prog 69 = true := by kernel_rfl
theorem go_77 : goB Tryz.prog 77 = true := by kernel_rfl
theorem go_80 : goB Tryz.prog 80 = true := by kernel_rfl
theorem go_81 : goB Tryz.prog 81 = true := by kernel_rfl
theorem go_82 : goB Tryz.prog 82 = true := by kernel_rfl
theorem go_88 : goB Tryz.prog 88 = true := by kernel_rfl
theorem go_94 : goB Tryz.prog 94 = true := by kernel_rfl
theorem go_95 : goB Tryz.prog 95 = true := by kernel_rfl
theorem go_96 : goB Tryz.prog 96 = true := by kernel_rfl
theorem go_97 : goB Tryz.prog 97 = true := by kernel_rfl
theorem inf_117 : ∃ i, Tryz.prog.info? 117 = some i ∧ i.size = 3 := ⟨_, rfl, by kernel_rfl⟩
theorem inf_126 : ∃ i, Tryz.prog.info? 126 = some i ∧ i.size = 2 := ⟨_, rfl, by kernel_rfl⟩
theorem inf_163 : ∃ i, Tryz.prog.info? 163 = some i ∧ i.size = 2 := ⟨_, rfl, by kernel_rfl⟩
theorem inf_165 : ∃ i, Tryz.prog.info? 165 = some i ∧ i.size = 6 := ⟨_, rfl, by kernel_rfl⟩
theorem inf_173 : ∃ i, Tryz.prog.info? 173 = some i ∧ i.size = 1 := ⟨_, rfl, by kernel_rfl⟩
theorem inf_181 : ∃ i, Tryz.prog.info? 181 = some i ∧ i.size = 2 := ⟨_, rfl, by kernel_rfl⟩
theorem inf_199 : ∃ i, Tryz.prog.info? 199 = some i ∧ i.size = 3 := ⟨_, rfl, by kernel_rfl⟩
theorem inf_27 : ∃ i, Tryz.prog.info? 27 = some i ∧ i.size = 1 := ⟨_, rfl, by kernel_rfl⟩
theorem inf_3 : ∃ i, Tryz.prog.info? 3 = some i ∧ i.size = 1 := ⟨_, rfl, by kernel_rfl⟩
theorem inf_4 : ∃ i, Tryz.prog.info? 4 = some i ∧ i.size = 1 := ⟨_, rfl, by kernel_rfl⟩
theorem inf_45 : ∃ i, Tryz.prog.info? 45 = some i ∧ i.size = 2 := ⟨_, rfl, by kernel_rfl⟩
theorem inf_66 : ∃ i, Tryz.prog.info? 66 = some i ∧ i.size = 1 := ⟨_, rfl, by kernel_rfl⟩
theorem inf_67 : ∃ i, Tryz.prog.info? 67 = some i ∧ i.size = 1 := ⟨_, rfl, by kernel_rfl⟩
theorem inf_69 : ∃ i, Tryz.prog.info? 69 = some i ∧ i.size = 4 := ⟨_, rfl, by kernel_rfl⟩
theorem inf_72 : ∃ i, Tryz.prog.info? 72 = some i ∧ i.size = 1 := ⟨_, rfl, by kernel_rfl⟩
theorem inf_86 : ∃ i, Tryz.prog.info? 86 = some i ∧ i.size = 2 := ⟨_, rfl, by kernel_rfl⟩
theorem inf_9 : ∃ i, Tryz.prog.info? 9 = some i ∧ i.size = 1 := ⟨_, rfl, by kernel_rfl⟩
theorem one_109 : oneB Tryz.prog 109 = true := by kernel_rfl
theorem one_143 : oneB Tryz.prog 143 = true := by kernel_rfl
theorem one_173 : oneB Tryz.prog 173 = true := by kernel_rfl
theorem one_176 : oneB Tryz.prog 176 = true := by kernel_rfl
theorem one_178 : oneB Tryz.prog 178 = true := by kernel_rfl
theorem one_23 : oneB Tryz.prog 23 = true := by kernel_rfl
theorem one_26 : oneB Tryz.prog 26 = true := by kernel_rfl
theorem one_27 : oneB Tryz.prog 27 = true := by kernel_rfl
theorem one_3 : oneB Tryz.prog 3 = true := by kernel_rfl
theorem one_4 : oneB Tryz.prog 4 = true := by kernel_rfl
theorem one_66 : oneB Tryz.prog 66 = true := by kernel_rfl
theorem one_67 : oneB Tryz.prog 67 = true := by kernel_rfl
theorem one_72 : oneB Tryz.prog 72 = true := by kernel_rfl
theorem one_9 : oneB Tryz.prog 9 = true := by kernel_rfl
theorem one_94 : oneB Tryz.prog 94 = true := by kernel_rfl
theorem places_117 : placesB Tryz.prog 117 = some [(0, 1), (1, 1), (2, 1)] := by kernel_rfl
theorem places_126 : placesB Tryz.prog 126 = some [(0, 1), (1, 1)] := by kernel_rfl
theorem places_163 : placesB Tryz.prog 163 = some [(0, 1), (1, 1)] := by kernel_rfl
theorem places_165 : placesB Tryz.prog 165 = some [(0, 1), (1, 1), (2, 2), (4, 1), (5, 1)] := by kernel_rfl
theorem places_175 : placesB Tryz.prog 175 = some [(0, 1), (1, 1), (2, 1)] := by kernel_rfl
theorem places_181 : placesB Tryz.prog 181 = some [(0, 1), (1, 1)] := by kernel_rfl
theorem places_199 : placesB Tryz.prog 199 = some [(0, 1), (1, 1), (2, 1)] := by kernel_rfl
theorem places_45 : placesB Tryz.prog 45 = some [(0, 1), (1, 1)] := by kernel_rfl
theorem sl_173 : SlT Tryz.prog 173 181 2 := SlT.of (by kernel_rfl)
theorem sl_176 : SlT Tryz.prog 176 86 2 := SlT.of (by kernel_rfl)
theorem sl_200 : SlT Tryz.prog 200 199 3 := SlT.of (by kernel_rfl)
theorem sl_23 : SlT Tryz.prog 23 66 1 := SlT.of (by kernel_rfl)
theorem sl_26 : SlT Tryz.prog 26 23 1 := SlT.of (by kernel_rfl)
theorem sl_32 : SlT Tryz.prog 32 4 1 := SlT.of (by kernel_rfl)
theorem sl_43 : SlT Tryz.prog 43 45 2 := SlT.of (by kernel_rfl)
theorem sl_66 : SlT Tryz.prog 66 69 4 := SlT.of (by kernel_rfl)
theorem sl_67 : SlT Tryz.prog 67 126 2 := SlT.of (by kernel_rfl)
theorem sl_72 : SlT Tryz.prog 72 3 1 := SlT.of (by kernel_rfl)
theorem zeroV_4 : zeroV Tryz.prog 4 = some (vb false) := by kernel_rfl
theorem zero_117 : zeroB Tryz.prog 117 = some [vb false, (vs ([])), (vs ([]))] := by kernel_rfl
theorem zero_126 : zeroB Tryz.prog 126 = some [vi 0, vi 0] := by kernel_rfl
theorem zero_163 : zeroB Tryz.prog 163 = some [(vs ([])), vi 0] := by kernel_rfl
theorem zero_165 : zeroB Tryz.prog 165 = some [(vs ([])), vi 0, (vs ([])), vi 0, vi 0, vi 0] := by kernel_rfl
theorem zero_175 : zeroB Tryz.prog 175 = some [(Value.slice none 0 0), (Value.slice none 0 0), (Value.slice none 0 0)] := by kernel_rfl
theorem zero_181 : zeroB Tryz.prog 181 = some [vu 0, (vs ([]))] := by kernel_rfl
theorem zero_199 : zeroB Tryz.prog 199 = some [(vs ([])), (Value.slice none 0 0), vb false] := by kernel_rfl
theorem zero_23 : zeroB Tryz.prog 23 = some [(Value.slice none 0 0)] := by kernel_rfl
theorem zero_3 : zeroB Tryz.prog 3 = some [vi 0] := by kernel_rfl
theorem zero_4 : zeroB Tryz.prog 4 = some [vb false] := by kernel_rfl
theorem zero_45 : zeroB Tryz.prog 45 = some [(vs ([])), (Value.slice none 0 0)] := by kernel_rfl
theorem zero_66 : zeroB Tryz.prog 66 = some [(Value.slice none 0 0)] := by kernel_rfl
theorem zero_69 : zeroB Tryz.prog 69 = some [vi 0, vi 0, vb false, (Value.slice none 0 0)] := by kernel_rfl
theorem zero_72 : zeroB Tryz.prog 72 = some [(Value.slice none 0 0)] := by kernel_rfl
theorem zero_86 : zeroB Tryz.prog 86 = some [vi 0, vi 0] := by kernel_rfl
def slices_Index_int_int_R (u : World) (m0 : Mem) (S : Segs) (r : Int) (a : Act) (w : World) : Prop :=
 Ok u m0 S w ∧ a.defers = [] ∧ RVs Tryz.prog a w [.t 4 (.int .i64 r)] ∧ InR .i64 r
theorem slices_Index_int_int_w (N : Nat) (vs_0 : Value) (s_0 : List (Int)) (hs_0 : (pL 1 (pI .i64)) m0 [vs_0] s_0) (v_1 : Int) (rv_1 : InR .i64 v_1) {r : Int} (hF : slices_Index_int_int N s_0 v_1 = some r) (hG : Glob u) (ok : Ok u m0 S w) :
  Calls Tryz.prog 164 [vs_0, vi v_1].toArray w fun e w' => (e = .returned (.int .i64 r) ∧ Ok u m0 S w') ∧ InR .i64 r := by
 unfold slices_Index_int_int at hF
 refine en (slices_Index_int_int_R u m0 S) r Tryz.func164 rfl rfl rfl (by rintro a w ⟨ok, hd, hrv, h0⟩; exact c_ret2 [.t 4 (.int .i64 r)] hd rfl hrv ⟨⟨rfl, ok⟩, h0⟩) fun fin a E => sg <| aw E rfl fun a E => wp_seq <| wp_seq ?_
 refine c_region <| mv E rfl fun a E => lv E ok (y_lenL sl_72 hs_0 rfl) fun a E => mv E rfl fun a E => wn <| wp_block ?_
 obtain ⟨o2, hL, hF⟩ := bnd hF
 refine c_loop _ (fun (s : Int) a w => Ok u m0 (S) w ∧ Env 19 a [(0, vs_0), (1, vi v_1), (7, (vi (s_0.length : Int))), (8, vi s)] ∧ InR .i64 s) (fun (b : (Unit ⊕ Int)) e a w => (Sum.elim (fun b18 => e = (.exit 0) ∧ Ok u m0 (S) w ∧ Env 19 a []) (fun b19 => e = .ret ∧ slices_Index_int_int_R u m0 S b19 a w)) b) ?_ ?_ N _ a w hL ⟨ok, E.keep [0, 1, 7, 8], (ir 0)⟩
 rotate_left
 ·intro e a w _ hO
  rcases o2 with o2 | o2
  rotate_left
  ·replace hF := elim_r hF
   obtain ⟨rfl, hret⟩ := hO
   refine b_ret <| t_ret ?_
   exact fin hF hret
  replace hF := elim_l hF
  obtain ⟨rfl, ok, E⟩ := hO
  refine b_hit <| t_norm <| sg <| aw E rfl fun a E => wp_ret ?_
  exact fin hF ⟨ok, E.d, ⟨rv_t E rfl, trivial⟩, (ir (-1))⟩
 rintro x_4 a w r ⟨ok, E, r5⟩ hF
 replace hF : slices_Index_int_int_b1 N s_0 v_1 x_4 = some r := hF
 unfold slices_Index_int_int_b1 at hF
 refine sg <| lw E (y_lss rfl rfl) fun a E => wn <| wp_seq <| cf E rfl hF (fun hc6 hF => ?_) fun hc6 hF => ?_
 rotate_left
 ·refine wp_exit <| t_exit ?_
  obtain rfl := sj hF
  exact so (sl ⟨rfl, ⟨ok, E.keep []⟩⟩)
 refine wp_skip <| t_norm <| wp_seq <| wp_block <| sg <| mv E rfl fun a E => av E rfl fun a E => ?_
 refine wn <| sg <| mv E rfl fun a E => mv E rfl fun a E => mv E rfl fun a E => ?_
 obtain ⟨x7, e8, hF⟩ := bnd hF
 obtain ⟨b9, o10, es11, hl12, rr13, at14, yy15⟩ := idxAt sl_72 hs_0 e8 (P := Tryz.prog) (X := .tmp 12) (I := .tmp 13) (kd := .i64) (ev_of E rfl) (ev_of E rfl)
 obtain ⟨rfl, r16⟩ := rr13
 refine lv E ok (yy15 _ _) fun a E => lv E ok (y_load one_3 rfl (Holds.ro at14)) fun a E => lw E (y_eql rfl rfl) fun a E => wn <| cf E rfl hF (fun hc17 hF => ?_) fun hc17 hF => ?_
 rotate_left
 ·refine wp_skip <| b_norm <| t_norm <| c_region <| lw E (y_add rfl rfl (InR.inc r5 (pL_InR hs_0) hc6)) fun a E => mv E rfl fun a E => wpList_nil ?_
  obtain rfl := sj hF
  exact step_n ⟨ok, E.keep [0, 1, 7, 8], (InR.inc r5 (pL_InR hs_0) hc6)⟩
 refine sg <| mv E rfl fun a E => aw E rfl fun a E => wp_ret <| b_ret ?_
 refine t_ret ?_
 obtain rfl := sj hF
 exact so (sr ⟨rfl, ⟨ok, E.d, ⟨rv_t E rfl, trivial⟩, r5⟩⟩)
def slices_Contains_int_int_R (u : World) (m0 : Mem) (S : Segs) (r : Bool) (a : Act) (w : World) : Prop :=
 Ok u m0 S w ∧ a.defers = [] ∧ RVs Tryz.prog a w [.t 4 (.bool r)]
theorem slices_Contains_int_int_w (N : Nat) (vs_0 : Value) (s_0 : List (Int)) (hs_0 : (pL 1 (pI .i64)) m0 [vs_0] s_0) (v_1 : Int) (rv_1 : InR .i64 v_1) {r : Bool} (hF : slices_Contains_int_int N s_0 v_1 = some r) (hG : Glob u) (ok : Ok u m0 S w) :
  Calls Tryz.prog 147 [vs_0, vi v_1].toArray w fun e w' => (e = .returned (.bool r) ∧ Ok u m0 S w') := by
 unfold slices_Contains_int_int at hF
 refine en (slices_Contains_int_int_R u m0 S) r Tryz.func147 rfl rfl rfl (by rintro a w ⟨ok, hd, hrv⟩; exact c_ret2 [.t 4 (.bool r)] hd rfl hrv ⟨rfl, ok⟩) fun fin a E => sg <| aw E rfl fun a E => sg ?_
 refine mv E rfl fun a E => mv E rfl fun a E => ?_
 obtain ⟨r1, e2, hF⟩ := bnd hF
 refine l_call E go_164 rfl (slices_Index_int_int_w N _ s_0 hs_0 v_1 rv_1 e2 hG ok) rfl rfl ?_
 rintro _ w ⟨⟨rfl, ok⟩, r3⟩
 refine ⟨_, rfl, fun a E => ?_⟩
 refine lw E (y_geq rfl rfl) fun a E => aw E rfl fun a E => wp_ret ?_
 exact fin hF ⟨ok, E.d, ⟨rv_t E rfl, trivial⟩⟩
def condition_permitted_R (u : World) (m0 : Mem) (S : Segs) (r : Bool) (a : Act) (w : World) : Prop :=
 Ok u m0 S w ∧ a.defers = [] ∧ RVs Tryz.prog a w [.t 4 (.bool r)]
theorem condition_permitted_w (N : Nat) (operand_0 : Int) (roperand_0 : InR .i64 operand_0) (mod_1 : Int) (rmod_1 : InR .i64 mod_1) {r : Bool} (hF : condition_permitted N operand_0 mod_1 = some r) (hG : Glob u) (ok : Ok u m0 S w) :
  Calls Tryz.prog 116 [vi operand_0, vi mod_1].toArray w fun e w' => (e = .returned (.bool r) ∧ Ok u m0 S w') := by
 unfold condition_permitted at hF
 refine en (condition_permitted_R u m0 S) r Tryz.func116 rfl rfl rfl (by rintro a w ⟨ok, hd, hrv⟩; exact c_ret2 [.t 4 (.bool r)] hd rfl hrv ⟨rfl, ok⟩) fun fin a E => sg <| aw E rfl fun a E => wp_seq <| wp_seq ?_
 refine c_region <| mv E rfl fun a E => wn <| wp_block <| wp_seq <| sg ?_
 refine lw E (y_eql rfl rfl) fun a E => aw E rfl fun a E => ?_
 obtain ⟨o1, hJ, hF⟩ := bnd hF
 refine c_mono (Q' := fun e a w => e = .normal ∧ Ok u m0 (S) w ∧ Env 21 a [(1, vi mod_1), (5, vi operand_0), (6, vb o1)]) ?_ ?_
 ·replace hF := hJ
  clear hJ
  refine cf E rfl hF (fun hc2 hF => ?_) fun hc2 hF => ?_
  ·refine wp_skip ?_
   obtain rfl := sj hF
   exact ⟨rfl, ⟨ok, E.keep [1, 5, 6]⟩⟩
  refine c_region <| lw E (y_eql rfl rfl) fun a E => av E rfl fun a E => wpList_nil ?_
  obtain rfl := sj hF
  exact ⟨rfl, ⟨ok, E.keep [1, 5, 6]⟩⟩
 clear hJ
 intro e a w hO
 obtain ⟨rfl, ok, E⟩ := hO
 refine t_norm <| cf E rfl hF (fun hc3 hF => ?_) fun hc3 hF => ?_
 ·refine sg <| l_slit (R := (pI .i64)) (xo := [.const (vi 2), .const (vi 3), .const (vi 4), .const (vi 5), .const (vi 6), .const (vi 10), .const (vi 20), .const (vi 25), .const (vi 50), .const (vi 100)]) (xs := ([2, 3, 4, 5, 6, 10, 20, 25, 50, 100] : List (Int))) E ok sl_72 zero_3 rfl ⟨⟨_, rfl, rfl, (pI_mk (ir 2))⟩, ⟨_, rfl, rfl, (pI_mk (ir 3))⟩, ⟨_, rfl, rfl, (pI_mk (ir 4))⟩, ⟨_, rfl, rfl, (pI_mk (ir 5))⟩, ⟨_, rfl, rfl, (pI_mk (ir 6))⟩, ⟨_, rfl, rfl, (pI_mk (ir 10))⟩, ⟨_, rfl, rfl, (pI_mk (ir 20))⟩, ⟨_, rfl, rfl, (pI_mk (ir 25))⟩, ⟨_, rfl, rfl, (pI_mk (ir 50))⟩, ⟨_, rfl, rfl, (pI_mk (ir 100))⟩, trivial⟩ rfl rfl rfl rfl fun c4 M5 a w E ok h6 => mv E rfl fun a E => ?_
  obtain ⟨r12, e13, hF⟩ := bnd hF
  obtain ⟨m7, hle9, ok8, hfz10⟩ := (ok.frs 0 rfl).freeze
  have h11 := ORow.froz (mI .i64) h6 hle9 hfz10 (by decide)
  refine l_call E go_147 rfl (slices_Contains_int_int_w N _ ([2, 3, 4, 5, 6, 10, 20, 25, 50, 100] : List (Int)) h11 mod_1 rmod_1 e13 hG ok8) rfl rfl ?_
  rintro _ w ⟨rfl, okz⟩
  replace ok := (Ok.thawAt 0 rfl ok hle9 hfz10 okz)
  refine ⟨_, rfl, fun a E => ?_⟩
  refine aw E rfl fun a E => wp_ret <| b_ret <| t_ret ?_
  exact fin hF ⟨ok.drop, E.d, ⟨rv_t E rfl, trivial⟩⟩
 refine wp_seq <| sg <| lw E (y_eql rfl rfl) fun a E => aw E rfl fun a E => ?_
 obtain ⟨o14, hJ, hF⟩ := bnd hF
 refine c_mono (Q' := fun e a w => e = .normal ∧ Ok u m0 (S) w ∧ Env 21 a [(1, vi mod_1), (12, vb o14)]) ?_ ?_
 ·replace hF := hJ
  clear hJ
  refine cf E rfl hF (fun hc15 hF => ?_) fun hc15 hF => ?_
  ·refine wp_skip ?_
   obtain rfl := sj hF
   exact ⟨rfl, ⟨ok, E.keep [1, 12]⟩⟩
  refine c_region <| lw E (y_eql rfl rfl) fun a E => av E rfl fun a E => wpList_nil ?_
  obtain rfl := sj hF
  exact ⟨rfl, ⟨ok, E.keep [1, 12]⟩⟩
 clear hJ
 intro e a w hO
 obtain ⟨rfl, ok, E⟩ := hO
 refine t_norm <| cf E rfl hF (fun hc16 hF => ?_) fun hc16 hF => ?_
 rotate_left
 ·refine wp_skip <| b_norm <| t_norm <| sg <| aw E rfl fun a E => ?_
  refine wp_ret ?_
  exact fin hF ⟨ok, E.d, ⟨rv_t E rfl, trivial⟩⟩
 refine sg <| mv E rfl fun a E => lw E (y_eql rfl rfl) fun a E => mv E rfl fun a E => bsplit (mod_1 == 10) (fun hc17 => ?_) (fun hc17 => ?_)
 ·replace hF := cond_t hc17 hF
  replace E := E.upd 17 hc17 rfl
  refine ls E fun a E => ls E fun a E => pt E rfl rfl fun a E => aw E rfl fun a E => wp_ret <| b_ret ?_
  refine t_ret ?_
  exact fin hF ⟨ok, E.d, ⟨rv_t E rfl, trivial⟩⟩
 replace hF := cond_f hc17 hF
 replace E := E.upd 17 hc17 rfl
 refine mv E rfl fun a E => lw E (y_eql rfl rfl) fun a E => pf E rfl rfl fun a E => aw E rfl fun a E => wp_ret <| b_ret ?_
 refine t_ret ?_
 exact fin hF ⟨ok, E.d, ⟨rv_t E rfl, trivial⟩⟩
def condition_greatest_R (u : World) (m0 : Mem) (S : Segs) (r : Int) (a : Act) (w : World) : Prop :=
 Ok u m0 S w ∧ a.defers = [] ∧ RVs Tryz.prog a w [.t 2 (.int .i64 r)] ∧ InR .i64 r
theorem condition_greatest_w (N : Nat) (operand_0 : Int) (roperand_0 : InR .i64 operand_0) {r : Int} (hF : condition_greatest N operand_0 = some r) (hG : Glob u) (ok : Ok u m0 S w) :
  Calls Tryz.prog 117 [vi operand_0].toArray w fun e w' => (e = .returned (.int .i64 r) ∧ Ok u m0 S w') ∧ InR .i64 r := by
 unfold condition_greatest at hF
 refine en (condition_greatest_R u m0 S) r Tryz.func117 rfl rfl rfl (by rintro a w ⟨ok, hd, hrv, h0⟩; exact c_ret2 [.t 2 (.int .i64 r)] hd rfl hrv ⟨⟨rfl, ok⟩, h0⟩) fun fin a E => sg <| aw E rfl fun a E => wp_seq <| wp_seq ?_
 refine c_region <| mv E rfl fun a E => lw E (y_eql rfl rfl) fun a E => mv E rfl fun a E => bsplit (operand_0 == 3) (fun hc1 => ?_) (fun hc1 => ?_)
 ·replace hF := cond_t hc1 hF
  replace E := E.upd 5 hc1 rfl
  refine ls E fun a E => ls E fun a E => pt E rfl rfl fun a E => wn <| c_if E rfl (fun _ => ?_) (fun h => by cases h)
  refine sg <| aw E rfl fun a E => wp_ret <| t_ret ?_
  exact fin hF ⟨ok, E.d, ⟨rv_t E rfl, trivial⟩, (ir 6)⟩
 replace hF := cond_f hc1 hF
 replace E := E.upd 5 hc1 rfl
 refine mv E rfl fun a E => lw E (y_eql rfl rfl) fun a E => pf E rfl rfl fun a E => wn <| cf E rfl hF (fun hc2 hF => ?_) fun hc2 hF => ?_
 ·refine sg <| aw E rfl fun a E => wp_ret <| t_ret ?_
  exact fin hF ⟨ok, E.d, ⟨rv_t E rfl, trivial⟩, (ir 6)⟩
 refine wp_skip <| t_norm <| sg <| aw E rfl fun a E => wp_ret ?_
 exact fin hF ⟨ok, E.d, ⟨rv_t E rfl, trivial⟩, (ir 100)⟩
def condition_proper_R (u : World) (m0 : Mem) (S : Segs) (r : Bool) (a : Act) (w : World) : Prop :=
 Ok u m0 S w ∧ a.defers = [] ∧ RVs Tryz.prog a w [.t 2 (.bool r)]
theorem condition_proper_w (N : Nat) (vr_0 : List Value) (r_0 : Relation) (hr_0 : pRelation m0 vr_0 r_0) {r : Bool} (hF : condition_proper N r_0 = some r) (hG : Glob u) (ok : Ok u m0 S w) :
  Calls Tryz.prog 82 [.agg vr_0.toArray].toArray w fun e w' => (e = .returned (.bool r) ∧ Ok u m0 S w') := by
 obtain ⟨c3, rfl, r1, r2, h4⟩ := hr_0
 unfold condition_proper at hF
 refine en (condition_proper_R u m0 S) r Tryz.func82 rfl rfl rfl (by rintro a w ⟨ok, hd, hrv⟩; exact c_ret2 [.t 2 (.bool r)] hd rfl hrv ⟨rfl, ok⟩) fun fin a E => sg <| l_box E ok rfl rfl rfl fun b5 a w E ok => aw E rfl fun a E => wp_seq ?_
 refine sg <| fv E fo_69_0 rfl fun a E => ld E ok one_3 0 rfl rfl rfl fun a E => lw E (y_lss rfl rfl) fun a E => mv E rfl fun a E => bsplit (decide (r_0.Operand < 1)) (fun hc6 => ?_) (fun hc6 => ?_)
 ·replace hF := cond_t hc6 hF
  replace E := E.upd 8 hc6 rfl
  refine ls E fun a E => ls E fun a E => ls E fun a E => pt E rfl rfl fun a E => mv E rfl fun a E => ls E fun a E => ls E fun a E => ls E fun a E => ?_
  refine ls E fun a E => ls E fun a E => ls E fun a E => ls E fun a E => ls E fun a E => ls E fun a E => ls E fun a E => ls E fun a E => ?_
  refine pt E rfl rfl fun a E => mv E rfl fun a E => ls E fun a E => ls E fun a E => ls E fun a E => ls E fun a E => pt E rfl rfl fun a E => mv E rfl fun a E => ?_
  refine ls E fun a E => ls E fun a E => ls E fun a E => ls E fun a E => pt E rfl rfl fun a E => wn <| c_if E rfl (fun _ => ?_) (fun h => by cases h)
  refine sg <| aw E rfl fun a E => wp_ret <| t_ret ?_
  exact fin hF ⟨ok.drop, E.d, ⟨rv_t E rfl, trivial⟩⟩
 replace hF := cond_f hc6 hF
 replace E := E.upd 8 hc6 rfl
 refine fv E fo_69_0 rfl fun a E => ld E ok one_3 0 rfl rfl rfl fun a E => lw E (y_gtr rfl rfl) fun a E => pf E rfl rfl fun a E => mv E rfl fun a E => bsplit (decide (r_0.Operand > 6)) (fun hc7 => ?_) (fun hc7 => ?_)
 ·replace hF := cond_t hc7 hF
  replace E := E.upd 13 hc7 rfl
  refine ls E fun a E => ls E fun a E => ls E fun a E => ls E fun a E => ls E fun a E => ls E fun a E => ls E fun a E => ls E fun a E => ?_
  refine ls E fun a E => ls E fun a E => ls E fun a E => pt E rfl rfl fun a E => mv E rfl fun a E => ls E fun a E => ls E fun a E => ls E fun a E => ?_
  refine ls E fun a E => pt E rfl rfl fun a E => mv E rfl fun a E => ls E fun a E => ls E fun a E => ls E fun a E => ls E fun a E => pt E rfl rfl fun a E => ?_
  refine wn <| c_if E rfl (fun _ => ?_) (fun h => by cases h)
  refine sg <| aw E rfl fun a E => wp_ret <| t_ret ?_
  exact fin hF ⟨ok.drop, E.d, ⟨rv_t E rfl, trivial⟩⟩
 replace hF := cond_f hc7 hF
 replace E := E.upd 13 hc7 rfl
 refine fv E fo_69_1 rfl fun a E => ld E ok one_3 0 rfl rfl rfl fun a E => lw E (y_neq rfl rfl) fun a E => mv E rfl fun a E => bsplit (r_0.Mod != 0) (fun hc8 => ?_) (fun hc8 => ?_)
 rotate_left
 ·as_aux_lemma =>
   replace hF := cond_f hc8 hF
   replace E := E.upd 17 hc8 rfl
   refine ls E fun a E => ls E fun a E => ls E fun a E => ls E fun a E => ls E fun a E => ls E fun a E => pf E rfl rfl fun a E => pf E rfl rfl fun a E => ?_
   refine mv E rfl fun a E => fv E fo_69_3 rfl fun a E => ld E ok one_67 0 rfl rfl rfl fun a E => lv E ok (y_lenL sl_67 h4 rfl) fun a E => lw E (y_lss rfl rfl) fun a E => pf E rfl rfl fun a E => mv E rfl fun a E => bsplit (decide ((r_0.Spans.length : Int) < 1)) (fun hc40 => ?_) (fun hc40 => ?_)
   ·replace hF := cond_t hc40 hF
    replace E := E.upd 32 hc40 rfl
    refine ls E fun a E => ls E fun a E => ls E fun a E => ls E fun a E => pt E rfl rfl fun a E => wn <| c_if E rfl (fun _ => ?_) (fun h => by cases h)
    refine sg <| aw E rfl fun a E => wp_ret <| t_ret ?_
    exact fin hF ⟨ok.drop, E.d, ⟨rv_t E rfl, trivial⟩⟩
   replace hF := cond_f hc40 hF
   replace E := E.upd 32 hc40 rfl
   refine fv E fo_69_3 rfl fun a E => ld E ok one_67 0 rfl rfl rfl fun a E => lv E ok (y_lenL sl_67 h4 rfl) fun a E => lw E (y_gtr rfl rfl) fun a E => pf E rfl rfl fun a E => wn <| cf E rfl hF (fun hc41 hF => ?_) fun hc41 hF => ?_
   ·refine sg <| aw E rfl fun a E => wp_ret <| t_ret ?_
    exact fin hF ⟨ok.drop, E.d, ⟨rv_t E rfl, trivial⟩⟩
   refine wp_skip <| t_norm <| wp_seq <| sg <| fv E fo_69_3 rfl fun a E => ld E ok one_67 0 rfl rfl rfl fun a E => lv E ok (y_lenL sl_67 h4 rfl) fun a E => ?_
   refine mv E rfl fun a E => wn <| wp_block ?_
   obtain ⟨o43, hL, hF⟩ := bnd hF
   refine c_loop _ (fun (s : Int) a w => Ok u m0 ([(b5, oc 69 [vi r_0.Operand, vi r_0.Mod, vb r_0.Not, c3])] :: S) w ∧ Env 64 a [(1, vp b5), (39, c3), (40, (vi (r_0.Spans.length : Int))), (41, vi s)] ∧ InR .i64 s) (fun (b : (Unit ⊕ Bool)) e a w => (Sum.elim (fun b66 => e = (.exit 0) ∧ Ok u m0 ([(b5, oc 69 [vi r_0.Operand, vi r_0.Mod, vb r_0.Not, c3])] :: S) w ∧ Env 64 a []) (fun b67 => e = .ret ∧ condition_proper_R u m0 S b67 a w)) b) ?_ ?_ N _ a w hL ⟨ok, E.keep [1, 39, 40, 41], (ir 0)⟩
   rotate_left
   ·intro e a w _ hO
    rcases o43 with o43 | o43
    rotate_left
    ·replace hF := elim_r hF
     obtain ⟨rfl, hret⟩ := hO
     refine b_ret <| t_ret ?_
     exact fin hF hret
    replace hF := elim_l hF
    obtain ⟨rfl, ok, E⟩ := hO
    refine b_hit <| t_norm <| sg <| aw E rfl fun a E => wp_ret ?_
    exact fin hF ⟨ok.drop, E.d, ⟨rv_t E rfl, trivial⟩⟩
   rintro x_45 a w r ⟨ok, E, r46⟩ hF
   replace hF : condition_proper_b2 N r_0 x_45 = some r := hF
   unfold condition_proper_b2 at hF
   refine sg <| lw E (y_lss rfl rfl) fun a E => wn <| wp_seq <| cf E rfl hF (fun hc47 hF => ?_) fun hc47 hF => ?_
   rotate_left
   ·refine wp_exit <| t_exit ?_
    obtain rfl := sj hF
    exact so (sl ⟨rfl, ⟨ok, E.keep []⟩⟩)
   refine wp_skip <| t_norm <| wp_seq <| wp_block <| sg ?_
   obtain ⟨x48, e49, hF⟩ := bnd hF
   obtain ⟨b50, o51, es52, hl53, rr54, at55, yy56⟩ := idxAt sl_67 h4 e49 (P := Tryz.prog) (X := .tmp 39) (I := .tmp 41) (kd := .i64) (ev_of E rfl) (ev_of E rfl)
   obtain ⟨rfl, r57, r58⟩ := rr54
   refine lv E ok (yy56 _ _) fun a E => lv E ok (y_loadAgg (cs := [vi x48.From, vi x48.To]) agg_126 rfl rfl (Holds.ro at55)) fun a E => l_alloc E ok zero_126 rfl rfl fun b59 a w E ok => l_storeB E ok 0 rfl rfl rfl inf_126 rfl rfl ⟨rfl, rfl, trivial⟩ rfl rfl fun w ok => wn <| wp_seq <| c_draw (by kernel_rfl) (by kernel_rfl) ok ?_
   refine qv E (y_fieldAddr fo_126_0 rfl) fun a E => qv E (y_load one_3 rfl (Holds.own 0 rfl rfl)) fun a E => qv E (y_lss rfl rfl) fun a E => qv E (y_move rfl) fun a E => bsplit (decide (x48.From < 0)) (fun hc60 => ?_) (fun hc60 => ?_)
   ·replace hF := cond_t hc60 hF
    replace E := E.upd 48 hc60 rfl
    refine qs E fun a E => qs E fun a E => qs E fun a E => qs E fun a E => qs E fun a E => qv E (y_pickT rfl rfl) fun a E => qv E (y_move rfl) fun a E => qs E fun a E => ?_
    refine qs E fun a E => qs E fun a E => qs E fun a E => qs E fun a E => qs E fun a E => qv E (y_pickT rfl rfl) fun a E => wpQuiet_nil ?_
    intro w ok
    refine t_norm <| c_if E rfl (fun _ => ?_) (fun h => by cases h)
    refine sg <| aw E rfl fun a E => wp_ret <| b_ret <| t_ret ?_
    obtain rfl := sj hF
    exact so (sr ⟨rfl, ⟨ok.drop.drop, E.d, ⟨rv_t E rfl, trivial⟩⟩⟩)
   replace hF := cond_f hc60 hF
   replace E := E.upd 48 hc60 rfl
   refine qv E (y_fieldAddr fo_126_0 rfl) fun a E => qv E (y_load one_3 rfl (Holds.own 0 rfl rfl)) fun a E => qv E (y_fieldAddr fo_126_1 rfl) fun a E => qv E (y_load one_3 rfl (Holds.own 0 rfl rfl)) fun a E => qv E (y_gtr rfl rfl) fun a E => qv E (y_pickF rfl rfl) fun a E => qv E (y_move rfl) fun a E => bsplit (decide (x48.From > x48.To)) (fun hc61 => ?_) (fun hc61 => ?_)
   ·replace hF := cond_t hc61 hF
    replace E := E.upd 55 hc61 rfl
    refine qs E fun a E => qs E fun a E => qs E fun a E => qs E fun a E => qs E fun a E => qs E fun a E => qv E (y_pickT rfl rfl) fun a E => wpQuiet_nil ?_
    intro w ok
    refine t_norm <| c_if E rfl (fun _ => ?_) (fun h => by cases h)
    refine sg <| aw E rfl fun a E => wp_ret <| b_ret <| t_ret ?_
    obtain rfl := sj hF
    exact so (sr ⟨rfl, ⟨ok.drop.drop, E.d, ⟨rv_t E rfl, trivial⟩⟩⟩)
   replace hF := cond_f hc61 hF
   replace E := E.upd 55 hc61 rfl
   refine qv E (y_fieldAddr fo_126_1 rfl) fun a E => qv E (y_load one_3 rfl (Holds.own 0 rfl rfl)) fun a E => qv E (y_fieldAddr fo_69_0 rfl) fun a E => qv E (y_load one_3 rfl (Holds.own 1 rfl rfl)) fun a E => ?_
   obtain ⟨r62, e63, hF⟩ := bnd hF
   obtain ⟨_, _, ⟨_, _⟩, r64⟩ := Go.X.Calls.get (condition_greatest_w N r_0.Operand r1 e63 hG ok)
   refine q_call E go_117 rfl (fun w ok => (condition_greatest_w N r_0.Operand r1 e63 hG ok).mono (fun _ _ h => h.1)) rfl rfl fun a E => qv E (y_gtr rfl rfl) fun a E => qv E (y_pickF rfl rfl) fun a E => wpQuiet_nil ?_
   intro w ok
   refine t_norm <| cf E rfl hF (fun hc65 hF => ?_) fun hc65 hF => ?_
   rotate_left
   ·refine wp_skip <| b_norm <| t_norm <| c_region <| lw E (y_add rfl rfl (InR.inc r46 (pL_InR h4) hc47)) fun a E => mv E rfl fun a E => wpList_nil ?_
    obtain rfl := sj hF
    exact step_n ⟨(ok.pk 2 [1] rfl (by decide)), E.keep [1, 39, 40, 41], (InR.inc r46 (pL_InR h4) hc47)⟩
   refine sg <| aw E rfl fun a E => wp_ret <| b_ret <| t_ret ?_
   obtain rfl := sj hF
   exact so (sr ⟨rfl, ⟨ok.drop.drop, E.d, ⟨rv_t E rfl, trivial⟩⟩⟩)
 replace hF := cond_t hc8 hF
 replace E := E.upd 17 hc8 rfl
 refine fv E fo_69_0 rfl fun a E => ld E ok one_3 0 rfl rfl rfl fun a E => fv E fo_69_1 rfl fun a E => ld E ok one_3 0 rfl rfl rfl fun a E => ?_
 obtain ⟨r9, e10, hF⟩ := bnd hF
 refine lc E go_116 rfl (condition_permitted_w N r_0.Operand r1 r_0.Mod r2 e10 hG ok) fun w ok a E => lw E (y_not rfl) fun a E => pt E rfl rfl fun a E => pf E rfl rfl fun a E => mv E rfl fun a E => bsplit (!r9) (fun hc11 => ?_) (fun hc11 => ?_)
 ·replace hF := cond_t hc11 hF
  replace E := E.upd 26 hc11 rfl
  refine ls E fun a E => ls E fun a E => ls E fun a E => ls E fun a E => pt E rfl rfl fun a E => mv E rfl fun a E => ls E fun a E => ls E fun a E => ?_
  refine ls E fun a E => ls E fun a E => pt E rfl rfl fun a E => wn <| c_if E rfl (fun _ => ?_) (fun h => by cases h)
  refine sg <| aw E rfl fun a E => wp_ret <| t_ret ?_
  exact fin hF ⟨ok.drop, E.d, ⟨rv_t E rfl, trivial⟩⟩
 replace hF := cond_f hc11 hF
 replace E := E.upd 26 hc11 rfl
 refine fv E fo_69_3 rfl fun a E => ld E ok one_67 0 rfl rfl rfl fun a E => lv E ok (y_lenL sl_67 h4 rfl) fun a E => lw E (y_lss rfl rfl) fun a E => pf E rfl rfl fun a E => mv E rfl fun a E => bsplit (decide ((r_0.Spans.length : Int) < 1)) (fun hc12 => ?_) (fun hc12 => ?_)
 ·replace hF := cond_t hc12 hF
  replace E := E.upd 32 hc12 rfl
  refine ls E fun a E => ls E fun a E => ls E fun a E => ls E fun a E => pt E rfl rfl fun a E => wn <| c_if E rfl (fun _ => ?_) (fun h => by cases h)
  refine sg <| aw E rfl fun a E => wp_ret <| t_ret ?_
  exact fin hF ⟨ok.drop, E.d, ⟨rv_t E rfl, trivial⟩⟩
 replace hF := cond_f hc12 hF
 replace E := E.upd 32 hc12 rfl
 refine fv E fo_69_3 rfl fun a E => ld E ok one_67 0 rfl rfl rfl fun a E => lv E ok (y_lenL sl_67 h4 rfl) fun a E => lw E (y_gtr rfl rfl) fun a E => pf E rfl rfl fun a E => wn <| cf E rfl hF (fun hc13 hF => ?_) fun hc13 hF => ?_
 ·refine sg <| aw E rfl fun a E => wp_ret <| t_ret ?_
  exact fin hF ⟨ok.drop, E.d, ⟨rv_t E rfl, trivial⟩⟩
 refine wp_skip <| t_norm <| wp_seq <| sg <| fv E fo_69_3 rfl fun a E => ld E ok one_67 0 rfl rfl rfl fun a E => lv E ok (y_lenL sl_67 h4 rfl) fun a E => ?_
 refine mv E rfl fun a E => wn <| wp_block ?_
 obtain ⟨o15, hL, hF⟩ := bnd hF
 refine c_loop _ (fun (s : Int) a w => Ok u m0 ([(b5, oc 69 [vi r_0.Operand, vi r_0.Mod, vb r_0.Not, c3])] :: S) w ∧ Env 64 a [(1, vp b5), (39, c3), (40, (vi (r_0.Spans.length : Int))), (41, vi s)] ∧ InR .i64 s) (fun (b : (Unit ⊕ Bool)) e a w => (Sum.elim (fun b38 => e = (.exit 0) ∧ Ok u m0 ([(b5, oc 69 [vi r_0.Operand, vi r_0.Mod, vb r_0.Not, c3])] :: S) w ∧ Env 64 a []) (fun b39 => e = .ret ∧ condition_proper_R u m0 S b39 a w)) b) ?_ ?_ N _ a w hL ⟨ok, E.keep [1, 39, 40, 41], (ir 0)⟩
 rotate_left
 ·intro e a w _ hO
  rcases o15 with o15 | o15
  rotate_left
  ·replace hF := elim_r hF
   obtain ⟨rfl, hret⟩ := hO
   refine b_ret <| t_ret ?_
   exact fin hF hret
  replace hF := elim_l hF
  obtain ⟨rfl, ok, E⟩ := hO
  refine b_hit <| t_norm <| sg <| aw E rfl fun a E => wp_ret ?_
  exact fin hF ⟨ok.drop, E.d, ⟨rv_t E rfl, trivial⟩⟩
 rintro x_17 a w r ⟨ok, E, r18⟩ hF
 replace hF : condition_proper_b1 N r_0 x_17 = some r := hF
 unfold condition_proper_b1 at hF
 refine sg <| lw E (y_lss rfl rfl) fun a E => wn <| wp_seq <| cf E rfl hF (fun hc19 hF => ?_) fun hc19 hF => ?_
 rotate_left
 ·refine wp_exit <| t_exit ?_
  obtain rfl := sj hF
  exact so (sl ⟨rfl, ⟨ok, E.keep []⟩⟩)
 refine wp_skip <| t_norm <| wp_seq <| wp_block <| sg ?_
 obtain ⟨x20, e21, hF⟩ := bnd hF
 obtain ⟨b22, o23, es24, hl25, rr26, at27, yy28⟩ := idxAt sl_67 h4 e21 (P := Tryz.prog) (X := .tmp 39) (I := .tmp 41) (kd := .i64) (ev_of E rfl) (ev_of E rfl)
 obtain ⟨rfl, r29, r30⟩ := rr26
 refine lv E ok (yy28 _ _) fun a E => lv E ok (y_loadAgg (cs := [vi x20.From, vi x20.To]) agg_126 rfl rfl (Holds.ro at27)) fun a E => l_alloc E ok zero_126 rfl rfl fun b31 a w E ok => l_storeB E ok 0 rfl rfl rfl inf_126 rfl rfl ⟨rfl, rfl, trivial⟩ rfl rfl fun w ok => wn <| wp_seq <| c_draw (by kernel_rfl) (by kernel_rfl) ok ?_
 refine qv E (y_fieldAddr fo_126_0 rfl) fun a E => qv E (y_load one_3 rfl (Holds.own 0 rfl rfl)) fun a E => qv E (y_lss rfl rfl) fun a E => qv E (y_move rfl) fun a E => bsplit (decide (x20.From < 0)) (fun hc32 => ?_) (fun hc32 => ?_)
 ·replace hF := cond_t hc32 hF
  replace E := E.upd 48 hc32 rfl
  refine qs E fun a E => qs E fun a E => qs E fun a E => qs E fun a E => qs E fun a E => qv E (y_pickT rfl rfl) fun a E => qv E (y_move rfl) fun a E => qs E fun a E => ?_
  refine qs E fun a E => qs E fun a E => qs E fun a E => qs E fun a E => qs E fun a E => qv E (y_pickT rfl rfl) fun a E => wpQuiet_nil ?_
  intro w ok
  refine t_norm <| c_if E rfl (fun _ => ?_) (fun h => by cases h)
  refine sg <| aw E rfl fun a E => wp_ret <| b_ret <| t_ret ?_
  obtain rfl := sj hF
  exact so (sr ⟨rfl, ⟨ok.drop.drop, E.d, ⟨rv_t E rfl, trivial⟩⟩⟩)
 replace hF := cond_f hc32 hF
 replace E := E.upd 48 hc32 rfl
 refine qv E (y_fieldAddr fo_126_0 rfl) fun a E => qv E (y_load one_3 rfl (Holds.own 0 rfl rfl)) fun a E => qv E (y_fieldAddr fo_126_1 rfl) fun a E => qv E (y_load one_3 rfl (Holds.own 0 rfl rfl)) fun a E => qv E (y_gtr rfl rfl) fun a E => qv E (y_pickF rfl rfl) fun a E => qv E (y_move rfl) fun a E => bsplit (decide (x20.From > x20.To)) (fun hc33 => ?_) (fun hc33 => ?_)
 ·replace hF := cond_t hc33 hF
  replace E := E.upd 55 hc33 rfl
  refine qs E fun a E => qs E fun a E => qs E fun a E => qs E fun a E => qs E fun a E => qs E fun a E => qv E (y_pickT rfl rfl) fun a E => wpQuiet_nil ?_
  intro w ok
  refine t_norm <| c_if E rfl (fun _ => ?_) (fun h => by cases h)
  refine sg <| aw E rfl fun a E => wp_ret <| b_ret <| t_ret ?_
  obtain rfl := sj hF
  exact so (sr ⟨rfl, ⟨ok.drop.drop, E.d, ⟨rv_t E rfl, trivial⟩⟩⟩)
 replace hF := cond_f hc33 hF
 replace E := E.upd 55 hc33 rfl
 refine qv E (y_fieldAddr fo_126_1 rfl) fun a E => qv E (y_load one_3 rfl (Holds.own 0 rfl rfl)) fun a E => qv E (y_fieldAddr fo_69_0 rfl) fun a E => qv E (y_load one_3 rfl (Holds.own 1 rfl rfl)) fun a E => ?_
 obtain ⟨r34, e35, hF⟩ := bnd hF
 obtain ⟨_, _, ⟨_, _⟩, r36⟩ := Go.X.Calls.get (condition_greatest_w N r_0.Operand r1 e35 hG ok)
 refine q_call E go_117 rfl (fun w ok => (condition_greatest_w N r_0.Operand r1 e35 hG ok).mono (fun _ _ h => h.1)) rfl rfl fun a E => qv E (y_gtr rfl rfl) fun a E => qv E (y_pickF rfl rfl) fun a E => wpQuiet_nil ?_
 intro w ok
 refine t_norm <| cf E rfl hF (fun hc37 hF => ?_) fun hc37 hF => ?_
 rotate_left
 ·refine wp_skip <| b_norm <| t_norm <| c_region <| lw E (y_add rfl rfl (InR.inc r18 (pL_InR h4) hc19)) fun a E => mv E rfl fun a E => wpList_nil ?_
  obtain rfl := sj hF
  exact step_n ⟨(ok.pk 2 [1] rfl (by decide)), E.keep [1, 39, 40, 41], (InR.inc r18 (pL_InR h4) hc19)⟩
 refine sg <| aw E rfl fun a E => wp_ret <| b_ret <| t_ret ?_
 obtain rfl := sj hF
 exact so (sr ⟨rfl, ⟨ok.drop.drop, E.d, ⟨rv_t E rfl, trivial⟩⟩⟩)
def condition_Valid_1_R (u : World) (m0 : Mem) (S : Segs) (r : Bool) (a : Act) (w : World) : Prop :=
 Ok u m0 S w ∧ a.defers = [] ∧ RVs Tryz.prog a w [.t 2 (.bool r)]
theorem condition_Valid_1_w (N : Nat) (vr_0 : List Value) (r_0 : Relation) (hr_0 : pRelation m0 vr_0 r_0) {r : Bool} (hF : condition_Valid_1 N r_0 = some r) (hG : Glob u) (ok : Ok u m0 S w) :
  Calls Tryz.prog 81 [.agg vr_0.toArray].toArray w fun e w' => (e = .returned (.bool r) ∧ Ok u m0 S w') := by
 obtain ⟨c3, rfl, r1, r2, h4⟩ := hr_0
 unfold condition_Valid_1 at hF
 refine en (condition_Valid_1_R u m0 S) r Tryz.func81 rfl rfl rfl (by rintro a w ⟨ok, hd, hrv⟩; exact c_ret2 [.t 2 (.bool r)] hd rfl hrv ⟨rfl, ok⟩) fun fin a E => sg <| l_box E ok rfl rfl rfl fun b5 a w E ok => aw E rfl fun a E => wp_seq ?_
 refine c_region <| lv E ok (y_loadAgg (cs := [vi r_0.Operand, vi r_0.Mod, vb r_0.Not, c3]) agg_69 rfl rfl (Holds.own 0 rfl rfl)) fun a E => ?_
 obtain ⟨r6, e7, hF⟩ := bnd hF
 refine lc E go_82 rfl (condition_proper_w N _ r_0 ⟨_, rfl, r1, r2, h4⟩ e7 hG ok) fun w ok a E => lw E (y_not rfl) fun a E => aw E rfl fun a E => wp_ret ?_
 exact fin hF ⟨ok.drop, E.d, ⟨rv_t E rfl, trivial⟩⟩
def slices_IndexFunc_api_Relation_api_Relation__81_R (u : World) (m0 : Mem) (S : Segs) (r : Int) (a : Act) (w : World) : Prop :=
 Ok u m0 S w ∧ a.defers = [] ∧ RVs Tryz.prog a w [.t 4 (.int .i64 r)] ∧ InR .i64 r
theorem slices_IndexFunc_api_Relation_api_Relation__81_w (N : Nat) (vs_0 : Value) (s_0 : List (Relation)) (hs_0 : (pL 4 pRelation) m0 [vs_0] s_0) {r : Int} (hF : slices_IndexFunc_api_Relation_api_Relation__81 N s_0 = some r) (hG : Glob u) (ok : Ok u m0 S w) :
  Calls Tryz.prog 106 [vs_0, .func (.func 81) #[] #[]].toArray w fun e w' => (e = .returned (.int .i64 r) ∧ Ok u m0 S w') ∧ InR .i64 r := by
 unfold slices_IndexFunc_api_Relation_api_Relation__81 at hF
 refine en (slices_IndexFunc_api_Relation_api_Relation__81_R u m0 S) r Tryz.func106 rfl rfl rfl (by rintro a w ⟨ok, hd, hrv, h0⟩; exact c_ret2 [.t 4 (.int .i64 r)] hd rfl hrv ⟨⟨rfl, ok⟩, h0⟩) fun fin a E => sg <| aw E rfl fun a E => wp_seq <| wp_seq ?_
 refine c_region <| mv E rfl fun a E => lv E ok (y_lenL sl_66 hs_0 rfl) fun a E => mv E rfl fun a E => wn <| wp_block ?_
 obtain ⟨o2, hL, hF⟩ := bnd hF
 refine c_loop _ (fun (s : Int) a w => Ok u m0 (S) w ∧ Env 19 a [(0, vs_0), (1, (Value.func (.func 81) #[] #[])), (7, (vi (s_0.length : Int))), (8, vi s)] ∧ InR .i64 s) (fun (b : (Unit ⊕ Int)) e a w => (Sum.elim (fun b23 => e = (.exit 0) ∧ Ok u m0 (S) w ∧ Env 19 a []) (fun b24 => e = .ret ∧ slices_IndexFunc_api_Relation_api_Relation__81_R u m0 S b24 a w)) b) ?_ ?_ N _ a w hL ⟨ok, E.keep [0, 1, 7, 8], (ir 0)⟩
 rotate_left
 ·intro e a w _ hO
  rcases o2 with o2 | o2
  rotate_left
  ·replace hF := elim_r hF
   obtain ⟨rfl, hret⟩ := hO
   refine b_ret <| t_ret ?_
   exact fin hF hret
  replace hF := elim_l hF
  obtain ⟨rfl, ok, E⟩ := hO
  refine b_hit <| t_norm <| sg <| aw E rfl fun a E => wp_ret ?_
  exact fin hF ⟨ok, E.d, ⟨rv_t E rfl, trivial⟩, (ir (-1))⟩
 rintro x_4 a w r ⟨ok, E, r5⟩ hF
 replace hF : slices_IndexFunc_api_Relation_api_Relation__81_b1 N s_0 x_4 = some r := hF
 unfold slices_IndexFunc_api_Relation_api_Relation__81_b1 at hF
 refine sg <| lw E (y_lss rfl rfl) fun a E => wn <| wp_seq <| cf E rfl hF (fun hc6 hF => ?_) fun hc6 hF => ?_
 rotate_left
 ·refine wp_exit <| t_exit ?_
  obtain rfl := sj hF
  exact so (sl ⟨rfl, ⟨ok, E.keep []⟩⟩)
 refine wp_skip <| t_norm <| wp_seq <| wp_block <| sg <| mv E rfl fun a E => av E rfl fun a E => ?_
 refine wn <| sg <| mv E rfl fun a E => mv E rfl fun a E => mv E rfl fun a E => ?_
 obtain ⟨x7, e8, hF⟩ := bnd hF
 obtain ⟨b9, o10, es11, hl12, rr13, at14, yy15⟩ := idxAt sl_66 hs_0 e8 (P := Tryz.prog) (X := .tmp 12) (I := .tmp 13) (kd := .i64) (ev_of E rfl) (ev_of E rfl)
 obtain ⟨c18, rfl, r16, r17, h19⟩ := rr13
 refine lv E ok (yy15 _ _) fun a E => lv E ok (y_loadAgg (cs := [vi x7.Operand, vi x7.Mod, vb x7.Not, c18]) agg_69 rfl rfl (Holds.ro at14)) fun a E => ?_
 obtain ⟨r20, e21, hF⟩ := bnd hF
 refine l_callv E rfl go_81 rfl (condition_Valid_1_w N _ x7 ⟨_, rfl, r16, r17, h19⟩ e21 hG ok) rfl rfl ?_
 rintro _ w ⟨rfl, ok⟩
 refine ⟨_, rfl, fun a E => ?_⟩
 refine wn <| cf E rfl hF (fun hc22 hF => ?_) fun hc22 hF => ?_
 rotate_left
 ·refine wp_skip <| b_norm <| t_norm <| c_region <| lw E (y_add rfl rfl (InR.inc r5 (pL_InR hs_0) hc6)) fun a E => mv E rfl fun a E => wpList_nil ?_
  obtain rfl := sj hF
  exact step_n ⟨ok, E.keep [0, 1, 7, 8], (InR.inc r5 (pL_InR hs_0) hc6)⟩
 refine sg <| mv E rfl fun a E => aw E rfl fun a E => wp_ret <| b_ret ?_
 refine t_ret ?_
 obtain rfl := sj hF
 exact so (sr ⟨rfl, ⟨ok, E.d, ⟨rv_t E rfl, trivial⟩, r5⟩⟩)
def slices_ContainsFunc_api_Relation_api_Relation__81_R (u : World) (m0 : Mem) (S : Segs) (r : Bool) (a : Act) (w : World) : Prop :=
 Ok u m0 S w ∧ a.defers = [] ∧ RVs Tryz.prog a w [.t 4 (.bool r)]
theorem slices_ContainsFunc_api_Relation_api_Relation__81_w (N : Nat) (vs_0 : Value) (s_0 : List (Relation)) (hs_0 : (pL 4 pRelation) m0 [vs_0] s_0) {r : Bool} (hF : slices_ContainsFunc_api_Relation_api_Relation__81 N s_0 = some r) (hG : Glob u) (ok : Ok u m0 S w) :
  Calls Tryz.prog 69 [vs_0, .func (.func 81) #[] #[]].toArray w fun e w' => (e = .returned (.bool r) ∧ Ok u m0 S w') := by
 unfold slices_ContainsFunc_api_Relation_api_Relation__81 at hF
 refine en (slices_ContainsFunc_api_Relation_api_Relation__81_R u m0 S) r Tryz.func69 rfl rfl rfl (by rintro a w ⟨ok, hd, hrv⟩; exact c_ret2 [.t 4 (.bool r)] hd rfl hrv ⟨rfl, ok⟩) fun fin a E => sg <| aw E rfl fun a E => sg ?_
 refine mv E rfl fun a E => mv E rfl fun a E => ?_
 obtain ⟨r1, e2, hF⟩ := bnd hF
 refine l_call E go_106 rfl (slices_IndexFunc_api_Relation_api_Relation__81_w N _ s_0 hs_0 e2 hG ok) rfl rfl ?_
 rintro _ w ⟨⟨rfl, ok⟩, r3⟩
 refine ⟨_, rfl, fun a E => ?_⟩
 refine lw E (y_geq rfl rfl) fun a E => aw E rfl fun a E => wp_ret ?_
 exact fin hF ⟨ok, E.d, ⟨rv_t E rfl, trivial⟩⟩
def condition_Valid_R (u : World) (m0 : Mem) (S : Segs) (r : Bool) (a : Act) (w : World) : Prop :=
 Ok u m0 S w ∧ a.defers = [] ∧ RVs Tryz.prog a w [.t 2 (.bool r)]
theorem condition_Valid_w (N : Nat) (vc_0 : Value) (c_0 : List (List (Relation))) (hc_0 : (pL 1 (pL 4 pRelation)) m0 [vc_0] c_0) {r : Bool} (hF : condition_Valid N c_0 = some r) (hG : Glob u) (ok : Ok u m0 S w) :
  Calls Tryz.prog 37 [vc_0].toArray w fun e w' => (e = .returned (.bool r) ∧ Ok u m0 S w') := by
 unfold condition_Valid at hF
 refine en (condition_Valid_R u m0 S) r Tryz.func37 rfl rfl rfl (by rintro a w ⟨ok, hd, hrv⟩; exact c_ret2 [.t 2 (.bool r)] hd rfl hrv ⟨rfl, ok⟩) fun fin a E => sg <| aw E rfl fun a E => sg ?_
 refine aw E rfl fun a E => wp_seq <| sg <| mv E rfl fun a E => lv E ok (y_lenL sl_23 hc_0 rfl) fun a E => ?_
 refine mv E rfl fun a E => wn <| wp_block ?_
 obtain ⟨o3, hL, hF⟩ := bnd hF
 refine c_loop _ (fun (s : Int × Int) a w => Ok u m0 (S) w ∧ Env 31 a [(0, vc_0), (3, vi s.1), (6, vc_0), (7, (vi (c_0.length : Int))), (8, vi s.2)] ∧ InR .i64 s.1 ∧ InR .i64 s.2) (fun (b : (Int ⊕ Bool)) e a w => (Sum.elim (fun b28 => e = (.exit 0) ∧ Ok u m0 (S) w ∧ Env 31 a [(0, vc_0), (3, vi b28)] ∧ InR .i64 b28) (fun b30 => e = .ret ∧ condition_Valid_R u m0 S b30 a w)) b) ?_ ?_ N _ a w hL ⟨ok, E.keep [0, 3, 6, 7, 8], (ir 0), (ir 0)⟩
 rotate_left
 ·intro e a w _ hO
  rcases o3 with o3 | o3
  rotate_left
  ·replace hF := elim_r hF
   obtain ⟨rfl, hret⟩ := hO
   refine b_ret <| t_ret ?_
   exact fin hF hret
  replace hF := elim_l hF
  obtain ⟨rfl, ok, E, r26⟩ := hO
  refine b_hit <| t_norm <| sg <| mv E rfl fun a E => lv E ok (y_lenL sl_23 hc_0 rfl) fun a E => lw E (y_gtr rfl rfl) fun a E => mv E rfl fun a E => ?_
  refine bsplit (decide ((c_0.length : Int) > 0)) (fun hc27 => ?_) (fun hc27 => ?_)
  ·replace hF := cond_t hc27 hF
   replace E := E.upd 27 hc27 rfl
   refine mv E rfl fun a E => lw E (y_leq rfl rfl) fun a E => pt E rfl rfl fun a E => aw E rfl fun a E => wp_ret ?_
   exact fin hF ⟨ok, E.d, ⟨rv_t E rfl, trivial⟩⟩
  replace hF := cond_f hc27 hF
  replace E := E.upd 27 hc27 rfl
  refine ls E fun a E => ls E fun a E => pf E rfl rfl fun a E => aw E rfl fun a E => wp_ret ?_
  exact fin hF ⟨ok, E.d, ⟨rv_t E rfl, trivial⟩⟩
 rintro ⟨n_6, x_7⟩ a w r ⟨ok, E, r8, r9⟩ hF
 replace hF : condition_Valid_b1 N c_0 n_6 x_7 = some r := hF
 unfold condition_Valid_b1 at hF
 refine sg <| lw E (y_lss rfl rfl) fun a E => wn <| wp_seq <| cf E rfl hF (fun hc10 hF => ?_) fun hc10 hF => ?_
 rotate_left
 ·refine wp_exit <| t_exit ?_
  obtain rfl := sj hF
  exact so (sl ⟨rfl, ⟨ok, E.keep [0, 3], r8⟩⟩)
 refine wp_skip <| t_norm <| wp_seq <| wp_block <| sg ?_
 obtain ⟨x11, e12, hF⟩ := bnd hF
 obtain ⟨b13, o14, es15, hl16, rr17, at18, yy19⟩ := idxAt sl_23 hc_0 e12 (P := Tryz.prog) (X := .tmp 6) (I := .tmp 8) (kd := .i64) (ev_of E rfl) (ev_of E rfl)
 obtain ⟨c20, rfl, h21⟩ := pL_cell rr17
 refine lv E ok (yy19 _ _) fun a E => lv E ok (y_load one_66 rfl (Holds.ro at18)) fun a E => aw E rfl fun a E => wp_seq <| sg ?_
 refine mv E rfl fun a E => lv E ok (y_lenL sl_66 h21 rfl) fun a E => lw E (y_eql rfl rfl) fun a E => mv E rfl fun a E => bsplit ((x11.length : Int) == 0) (fun hc22 => ?_) (fun hc22 => ?_)
 ·replace hF := cond_t hc22 hF
  replace E := E.upd 15 hc22 rfl
  refine ls E fun a E => ls E fun a E => pt E rfl rfl fun a E => wn <| c_if E rfl (fun _ => ?_) (fun h => by cases h)
  refine sg <| aw E rfl fun a E => wp_ret <| t_ret <| b_ret ?_
  refine t_ret ?_
  obtain rfl := sj hF
  exact so (sr ⟨rfl, ⟨ok, E.d, ⟨rv_t E rfl, trivial⟩⟩⟩)
 replace hF := cond_f hc22 hF
 replace E := E.upd 15 hc22 rfl
 refine mv E rfl fun a E => ?_
 obtain ⟨r23, e24, hF⟩ := bnd hF
 refine lc E go_69 rfl (slices_ContainsFunc_api_Relation_api_Relation__81_w N _ x11 h21 e24 hG ok) fun w ok a E => pf E rfl rfl fun a E => wn <| cf E rfl hF (fun hc25 hF => ?_) fun hc25 hF => ?_
 ·refine sg <| aw E rfl fun a E => wp_ret <| t_ret <| b_ret ?_
  refine t_ret ?_
  obtain rfl := sj hF
  exact so (sr ⟨rfl, ⟨ok, E.d, ⟨rv_t E rfl, trivial⟩⟩⟩)
 refine wp_skip <| t_norm <| c_region <| mv E rfl fun a E => mv E rfl fun a E => lv E ok (y_lenL sl_66 h21 rfl) fun a E => lw E (y_addw rfl rfl) fun a E => av E rfl fun a E => ?_
 refine wpList_nil <| b_norm <| t_norm <| c_region <| lw E (y_add rfl rfl (InR.inc r9 (pL_InR hc_0) hc10)) fun a E => mv E rfl fun a E => wpList_nil ?_
 obtain rfl := sj hF
 exact step_n ⟨ok, E.keep [0, 3, 6, 7, 8], (InR.wrap _ _), (InR.inc r9 (pL_InR hc_0) hc10)⟩
def decide_greatest_R (u : World) (m0 : Mem) (S : Segs) (r : Int) (a : Act) (w : World) : Prop :=
 Ok u m0 S w ∧ a.defers = [] ∧ RVs Tryz.prog a w [.t 2 (.int .i64 r)] ∧ InR .i64 r
theorem decide_greatest_w (N : Nat) (vr_0 : List Value) (r_0 : Relation) (hr_0 : pRelation m0 vr_0 r_0) {r : Int} (hF : decide_greatest N r_0 = some r) (hG : Glob u) (ok : Ok u m0 S w) :
  Calls Tryz.prog 38 [.agg vr_0.toArray].toArray w fun e w' => (e = .returned (.int .i64 r) ∧ Ok u m0 S w') ∧ InR .i64 r := by
 obtain ⟨c3, rfl, r1, r2, h4⟩ := hr_0
 unfold decide_greatest at hF
 refine en (decide_greatest_R u m0 S) r Tryz.func38 rfl rfl rfl (by rintro a w ⟨ok, hd, hrv, h0⟩; exact c_ret2 [.t 2 (.int .i64 r)] hd rfl hrv ⟨⟨rfl, ok⟩, h0⟩) fun fin a E => sg <| l_box E ok rfl rfl rfl fun b5 a w E ok => aw E rfl fun a E => wp_seq ?_
 refine c_region <| aw E rfl fun a E => wp_seq <| sg <| fv E fo_69_3 rfl fun a E => ?_
 refine ld E ok one_67 0 rfl rfl rfl fun a E => lv E ok (y_lenL sl_67 h4 rfl) fun a E => mv E rfl fun a E => wn <| wp_block ?_
 obtain ⟨o8, hL, hF⟩ := bnd hF
 refine c_loop _ (fun (s : Int × Int) a w => Ok u m0 ([(b5, oc 69 [vi r_0.Operand, vi r_0.Mod, vb r_0.Not, c3])] :: S) w ∧ Env 19 a [(3, vi s.1), (7, c3), (8, (vi (r_0.Spans.length : Int))), (9, vi s.2)] ∧ InR .i64 s.1 ∧ InR .i64 s.2) (fun (b : Int) e a w => e = (.exit 0) ∧ Ok u m0 ([(b5, oc 69 [vi r_0.Operand, vi r_0.Mod, vb r_0.Not, c3])] :: S) w ∧ Env 19 a [(3, vi b)] ∧ InR .i64 b) ?_ ?_ N _ a w hL ⟨ok, E.keep [3, 7, 8, 9], (ir 0), (ir 0)⟩
 rotate_left
 ·intro e a w _ hO
  obtain ⟨rfl, ok, E, r28⟩ := hO
  refine b_hit <| t_norm <| sg <| mv E rfl fun a E => aw E rfl fun a E => ?_
  refine wp_ret ?_
  exact fin hF ⟨ok.drop, E.d, ⟨rv_t E rfl, trivial⟩, r28⟩
 rintro ⟨n_11, x_12⟩ a w r ⟨ok, E, r13, r14⟩ hF
 replace hF : decide_greatest_b1 N r_0 n_11 x_12 = some r := hF
 unfold decide_greatest_b1 at hF
 refine sg <| lw E (y_lss rfl rfl) fun a E => wn <| wp_seq <| cf E rfl hF (fun hc15 hF => ?_) fun hc15 hF => ?_
 rotate_left
 ·refine wp_exit <| t_exit ?_
  obtain rfl := sj hF
  exact so (⟨rfl, ⟨ok, E.keep [3], r13⟩⟩)
 refine wp_skip <| t_norm <| wp_seq <| wp_block <| sg ?_
 obtain ⟨x16, e17, hF⟩ := bnd hF
 obtain ⟨b18, o19, es20, hl21, rr22, at23, yy24⟩ := idxAt sl_67 h4 e17 (P := Tryz.prog) (X := .tmp 7) (I := .tmp 9) (kd := .i64) (ev_of E rfl) (ev_of E rfl)
 obtain ⟨rfl, r25, r26⟩ := rr22
 refine lv E ok (yy24 _ _) fun a E => lv E ok (y_loadAgg (cs := [vi x16.From, vi x16.To]) agg_126 rfl rfl (Holds.ro at23)) fun a E => l_alloc E ok zero_126 rfl rfl fun b27 a w E ok => l_storeB E ok 0 rfl rfl rfl inf_126 rfl rfl ⟨rfl, rfl, trivial⟩ rfl rfl fun w ok => wn <| c_region <| mv E rfl fun a E => ?_
 refine fv E fo_126_1 rfl fun a E => ld E ok one_3 0 rfl rfl rfl fun a E => lw E (y_max rfl rfl) fun a E => av E rfl fun a E => wpList_nil <| b_norm <| t_norm <| c_region ?_
 refine lw E (y_add rfl rfl (InR.inc r14 (pL_InR h4) hc15)) fun a E => mv E rfl fun a E => wpList_nil ?_
 obtain rfl := sj hF
 exact step_n ⟨(ok.pk 2 [1] rfl (by decide)), E.keep [3, 7, 8, 9], (InR.max r13 r26), (InR.inc r14 (pL_InR h4) hc15)⟩
def decide_Weight_R (u : World) (m0 : Mem) (S : Segs) (r : Int × Int) (a : Act) (w : World) : Prop :=
 Ok u m0 S w ∧ a.defers = [] ∧ RVs Tryz.prog a w [.t 2 (.int .i64 r.1), .t 3 (.int .i64 r.2)] ∧ InR .i64 r.1 ∧ InR .i64 r.2
theorem decide_Weight_w (N : Nat) (vc_0 : Value) (c_0 : List (List (Relation))) (hc_0 : (pL 1 (pL 4 pRelation)) m0 [vc_0] c_0) {r : Int × Int} (hF : decide_Weight N c_0 = some r) (hG : Glob u) (ok : Ok u m0 S w) :
  Calls Tryz.prog 12 [vc_0].toArray w fun e w' => (e = .returned (.tuple [(.int .i64 r.1), (.int .i64 r.2)].toArray) ∧ Ok u m0 S w') ∧ InR .i64 r.1 ∧ InR .i64 r.2 := by
 unfold decide_Weight at hF
 refine en (decide_Weight_R u m0 S) r Tryz.func12 rfl rfl rfl (by rintro a w ⟨ok, hd, hrv, h0, h1⟩; exact c_ret2 [.t 2 (.int .i64 r.1), .t 3 (.int .i64 r.2)] hd rfl hrv ⟨⟨rfl, ok⟩, h0, h1⟩) fun fin a E => sg <| av E rfl fun a E => aw E rfl fun a E => wp_seq ?_
 refine sg <| mv E rfl fun a E => ?_
 obtain ⟨r1, e2, hF⟩ := bnd hF
 refine lc E go_37 rfl (condition_Valid_w N _ c_0 hc_0 e2 hG ok) fun w ok a E => lw E (y_not rfl) fun a E => wn <| cf E rfl hF (fun hc3 hF => ?_) fun hc3 hF => ?_
 ·refine sg <| av E rfl fun a E => aw E rfl fun a E => wp_ret <| t_ret ?_
  exact fin hF ⟨ok, E.d, ⟨rv_t E rfl, rv_t E rfl, trivial⟩, (ir 0), (ir 1)⟩
 refine wp_skip <| t_norm <| sg <| aw E rfl fun a E => wp_seq ?_
 refine sg <| mv E rfl fun a E => lv E ok (y_lenL sl_23 hc_0 rfl) fun a E => mv E rfl fun a E => wn <| wp_block ?_
 obtain ⟨o6, hL, hF⟩ := bnd hF
 refine c_loop _ (fun (s : Int × Int) a w => Ok u m0 (S) w ∧ Env 45 a [(4, vi s.1), (13, vc_0), (14, (vi (c_0.length : Int))), (15, vi s.2)] ∧ InR .i64 s.1 ∧ InR .i64 s.2) (fun (b : Int) e a w => e = (.exit 0) ∧ Ok u m0 (S) w ∧ Env 45 a [(4, vi b)] ∧ InR .i64 b) ?_ ?_ N _ a w hL ⟨ok, E.keep [4, 13, 14, 15], (ir 1), (ir 0)⟩
 rotate_left
 ·intro e a w _ hO
  obtain ⟨rfl, ok, E, r62⟩ := hO
  refine b_hit <| t_norm <| sg <| mv E rfl fun a E => av E rfl fun a E => av E rfl fun a E => wpList_nil ?_
  refine t_norm <| wp_ret ?_
  exact fin hF ⟨ok, E.d, ⟨rv_t E rfl, rv_t E rfl, trivial⟩, r62, (ir 0)⟩
 rintro ⟨weight_9, x_10⟩ a w r ⟨ok, E, r11, r12⟩ hF
 replace hF : decide_Weight_b1 N c_0 weight_9 x_10 = some r := hF
 unfold decide_Weight_b1 at hF
 refine sg <| lw E (y_lss rfl rfl) fun a E => wn <| wp_seq <| cf E rfl hF (fun hc13 hF => ?_) fun hc13 hF => ?_
 rotate_left
 ·refine wp_exit <| t_exit ?_
  obtain rfl := sj hF
  exact so (⟨rfl, ⟨ok, E.keep [4], r11⟩⟩)
 refine wp_skip <| t_norm <| wp_seq <| wp_block <| sg ?_
 obtain ⟨x14, e15, hF⟩ := bnd hF
 obtain ⟨b16, o17, es18, hl19, rr20, at21, yy22⟩ := idxAt sl_23 hc_0 e15 (P := Tryz.prog) (X := .tmp 13) (I := .tmp 15) (kd := .i64) (ev_of E rfl) (ev_of E rfl)
 obtain ⟨c23, rfl, h24⟩ := pL_cell rr20
 refine lv E ok (yy22 _ _) fun a E => lv E ok (y_load one_66 rfl (Holds.ro at21)) fun a E => aw E rfl fun a E => sg <| mv E rfl fun a E => ?_
 refine lv E ok (y_lenL sl_66 h24 rfl) fun a E => mv E rfl fun a E => wn <| wp_block ?_
 obtain ⟨o27, hL, hF⟩ := bnd hF
 refine c_loop _ (fun (s : Int × Int) a w => Ok u m0 (S) w ∧ Env 45 a [(4, vi s.1), (13, vc_0), (14, (vi (c_0.length : Int))), (15, vi x_10), (19, c23), (20, (vi (x14.length : Int))), (21, vi s.2)] ∧ InR .i64 s.1 ∧ InR .i64 s.2) (fun (b : Int) e a w => e = (.exit 2) ∧ Ok u m0 (S) w ∧ Env 45 a [(4, vi b), (13, vc_0), (14, (vi (c_0.length : Int))), (15, vi x_10)] ∧ InR .i64 b) ?_ ?_ N _ a w hL ⟨ok, E.keep [4, 13, 14, 15, 19, 20, 21], r11, (ir 0)⟩
 rotate_left
 ·intro e a w _ hO
  obtain ⟨rfl, ok, E, r60⟩ := hO
  refine b_hit <| b_norm <| t_norm <| c_region <| lw E (y_add rfl rfl (InR.inc r12 (pL_InR hc_0) hc13)) fun a E => mv E rfl fun a E => wpList_nil ?_
  obtain rfl := sj hF
  exact step_n ⟨ok, E.keep [4, 13, 14, 15], r60, (InR.inc r12 (pL_InR hc_0) hc13)⟩
 rintro ⟨weight_30, x_31⟩ a w r ⟨ok, E, r32, r33⟩ hF
 replace hF : decide_Weight_b2 N x14 weight_30 x_31 = some r := hF
 unfold decide_Weight_b2 at hF
 refine sg <| lw E (y_lss rfl rfl) fun a E => wn <| wp_seq <| cf E rfl hF (fun hc34 hF => ?_) fun hc34 hF => ?_
 rotate_left
 ·refine wp_exit <| t_exit ?_
  obtain rfl := sj hF
  exact so (⟨rfl, ⟨ok, E.keep [4, 13, 14, 15], r32⟩⟩)
 refine wp_skip <| t_norm <| wp_seq <| wp_block <| sg ?_
 obtain ⟨x35, e36, hF⟩ := bnd hF
 obtain ⟨b37, o38, es39, hl40, rr41, at42, yy43⟩ := idxAt sl_66 h24 e36 (P := Tryz.prog) (X := .tmp 19) (I := .tmp 21) (kd := .i64) (ev_of E rfl) (ev_of E rfl)
 obtain ⟨c46, rfl, r44, r45, h47⟩ := rr41
 refine lv E ok (yy43 _ _) fun a E => lv E ok (y_loadAgg (cs := [vi x35.Operand, vi x35.Mod, vb x35.Not, c46]) agg_69 rfl rfl (Holds.ro at42)) fun a E => l_alloc E ok zero_69 rfl rfl fun b48 a w E ok => l_storeB E ok 0 rfl rfl rfl inf_69 rfl rfl ⟨rfl, rfl, rfl, (pL_one h47), trivial⟩ rfl rfl fun w ok => wn <| sg ?_
 refine fv E fo_69_1 rfl fun a E => ld E ok one_3 0 rfl rfl rfl fun a E => aw E rfl fun a E => wp_seq <| sg ?_
 refine mv E rfl fun a E => lw E (y_eql rfl rfl) fun a E => wn ?_
 obtain ⟨o49, hJ, hF⟩ := bnd hF
 refine c_mono (Q' := fun e a w => e = .normal ∧ Ok u m0 ([(b48, oc 69 [vi x35.Operand, vi x35.Mod, vb x35.Not, c46])] :: S) w ∧ Env 45 a [(4, vi weight_30), (8, vp b48), (9, vi o49), (13, vc_0), (14, (vi (c_0.length : Int))), (15, vi x_10), (19, c23), (20, (vi (x14.length : Int))), (21, vi x_31)] ∧ InR .i64 o49) ?_ ?_
 ·replace hF := hJ
  clear hJ
  refine cf E rfl hF (fun hc51 hF => ?_) fun hc51 hF => ?_
  rotate_left
  ·refine wp_skip ?_
   obtain rfl := sj hF
   exact ⟨rfl, ⟨ok, E.keep [4, 8, 9, 13, 14, 15, 19, 20, 21], r45⟩⟩
  refine c_region <| lv E ok (y_loadAgg (cs := [vi x35.Operand, vi x35.Mod, vb x35.Not, c46]) agg_69 rfl rfl (Holds.own 0 rfl rfl)) fun a E => ?_
  obtain ⟨r52, e53, hF⟩ := bnd hF
  refine l_call E go_38 rfl (decide_greatest_w N _ x35 ⟨_, rfl, r44, r45, h47⟩ e53 hG ok) rfl rfl ?_
  rintro _ w ⟨⟨rfl, ok⟩, r54⟩
  refine ⟨_, rfl, fun a E => ?_⟩
  refine lw E (y_addw rfl rfl) fun a E => av E rfl fun a E => wpList_nil ?_
  obtain rfl := sj hF
  exact ⟨rfl, ⟨ok, E.keep [4, 8, 9, 13, 14, 15, 19, 20, 21], (InR.wrap _ _)⟩⟩
 clear hJ
 intro e a w hO
 obtain ⟨rfl, ok, E, r55⟩ := hO
 refine t_norm <| wp_seq <| sg <| fv E fo_69_0 rfl fun a E => ld E ok one_3 0 rfl rfl rfl fun a E => lw E (y_eql rfl rfl) fun a E => wpList_nil ?_
 refine t_norm ?_
 obtain ⟨o56, hJ, hF⟩ := bnd hF
 refine c_mono (Q' := fun e a w => e = .normal ∧ Ok u m0 ([(b48, oc 69 [vi x35.Operand, vi x35.Mod, vb x35.Not, c46])] :: S) w ∧ Env 45 a [(4, vi weight_30), (9, vi o56), (13, vc_0), (14, (vi (c_0.length : Int))), (15, vi x_10), (19, c23), (20, (vi (x14.length : Int))), (21, vi x_31)] ∧ InR .i64 o56) ?_ ?_
 ·replace hF := hJ
  clear hJ
  refine cf E rfl hF (fun hc58 hF => ?_) fun hc58 hF => ?_
  rotate_left
  ·refine wp_skip ?_
   obtain rfl := sj hF
   exact ⟨rfl, ⟨ok, E.keep [4, 9, 13, 14, 15, 19, 20, 21], r55⟩⟩
  refine c_region <| mv E rfl fun a E => mv E rfl fun a E => lw E (y_mulw rfl rfl) fun a E => av E rfl fun a E => wpList_nil ?_
  obtain rfl := sj hF
  exact ⟨rfl, ⟨ok, E.keep [4, 9, 13, 14, 15, 19, 20, 21], (InR.wrap _ _)⟩⟩
 clear hJ
 intro e a w hO
 obtain ⟨rfl, ok, E, r59⟩ := hO
 refine t_norm <| c_region <| mv E rfl fun a E => mv E rfl fun a E => lw E (y_mulw rfl rfl) fun a E => lw E (y_min rfl rfl) fun a E => av E rfl fun a E => wpList_nil ?_
 refine b_norm <| t_norm <| c_region <| lw E (y_add rfl rfl (InR.inc r33 (pL_InR h24) hc34)) fun a E => mv E rfl fun a E => wpList_nil ?_
 obtain rfl := sj hF
 exact step_n ⟨(ok.pk 1 [] rfl (by decide)), E.keep [4, 13, 14, 15, 19, 20, 21], (InR.min (InR.wrap _ _) (ir 1000000)), (InR.inc r33 (pL_InR h24) hc34)⟩
def decide_valid_R (u : World) (m0 : Mem) (S : Segs) (r : Bool) (a : Act) (w : World) : Prop :=
 Ok u m0 S w ∧ a.defers = [] ∧ RVs Tryz.prog a w [.t 2 (.bool r)]
theorem decide_valid_w (N : Nat) (vl_0 : Value) (l_0 : List (List (List (Relation)))) (hl_0 : (pL 1 (pL 1 (pL 4 pRelation))) m0 [vl_0] l_0) {r : Bool} (hF : decide_valid N l_0 = some r) (hG : Glob u) (ok : Ok u m0 S w) :
  Calls Tryz.prog 60 [vl_0].toArray w fun e w' => (e = .returned (.bool r) ∧ Ok u m0 S w') := by
 unfold decide_valid at hF
 refine en (decide_valid_R u m0 S) r Tryz.func60 rfl rfl rfl (by rintro a w ⟨ok, hd, hrv⟩; exact c_ret2 [.t 2 (.bool r)] hd rfl hrv ⟨rfl, ok⟩) fun fin a E => sg <| aw E rfl fun a E => wp_seq <| wp_seq ?_
 refine c_region <| mv E rfl fun a E => lv E ok (y_lenL sl_26 hl_0 rfl) fun a E => mv E rfl fun a E => wn <| wp_block ?_
 obtain ⟨o2, hL, hF⟩ := bnd hF
 refine c_loop _ (fun (s : Int) a w => Ok u m0 (S) w ∧ Env 18 a [(0, vl_0), (5, vl_0), (6, (vi (l_0.length : Int))), (7, vi s)] ∧ InR .i64 s) (fun (b : (Unit ⊕ Bool)) e a w => (Sum.elim (fun b21 => e = (.exit 0) ∧ Ok u m0 (S) w ∧ Env 18 a [(0, vl_0)]) (fun b22 => e = .ret ∧ decide_valid_R u m0 S b22 a w)) b) ?_ ?_ N _ a w hL ⟨ok, E.keep [0, 5, 6, 7], (ir 0)⟩
 rotate_left
 ·intro e a w _ hO
  rcases o2 with o2 | o2
  rotate_left
  ·replace hF := elim_r hF
   obtain ⟨rfl, hret⟩ := hO
   refine b_ret <| t_ret ?_
   exact fin hF hret
  replace hF := elim_l hF
  obtain ⟨rfl, ok, E⟩ := hO
  refine b_hit <| t_norm <| sg <| mv E rfl fun a E => lv E ok (y_lenL sl_26 hl_0 rfl) fun a E => lw E (y_leq rfl rfl) fun a E => av E rfl fun a E => ?_
  refine wn <| wp_ret ?_
  exact fin hF ⟨ok, E.d, ⟨rv_t E rfl, trivial⟩⟩
 rintro x_4 a w r ⟨ok, E, r5⟩ hF
 replace hF : decide_valid_b1 N l_0 x_4 = some r := hF
 unfold decide_valid_b1 at hF
 refine sg <| lw E (y_lss rfl rfl) fun a E => wn <| wp_seq <| cf E rfl hF (fun hc6 hF => ?_) fun hc6 hF => ?_
 rotate_left
 ·refine wp_exit <| t_exit ?_
  obtain rfl := sj hF
  exact so (sl ⟨rfl, ⟨ok, E.keep [0]⟩⟩)
 refine wp_skip <| t_norm <| wp_seq <| wp_block <| sg ?_
 obtain ⟨x7, e8, hF⟩ := bnd hF
 obtain ⟨b9, o10, es11, hl12, rr13, at14, yy15⟩ := idxAt sl_26 hl_0 e8 (P := Tryz.prog) (X := .tmp 5) (I := .tmp 7) (kd := .i64) (ev_of E rfl) (ev_of E rfl)
 obtain ⟨c16, rfl, h17⟩ := pL_cell rr13
 refine lv E ok (yy15 _ _) fun a E => lv E ok (y_load one_23 rfl (Holds.ro at14)) fun a E => aw E rfl fun a E => sg <| mv E rfl fun a E => ?_
 obtain ⟨r18, e19, hF⟩ := bnd hF
 refine lc E go_37 rfl (condition_Valid_w N _ x7 h17 e19 hG ok) fun w ok a E => lw E (y_not rfl) fun a E => wn <| cf E rfl hF (fun hc20 hF => ?_) fun hc20 hF => ?_
 rotate_left
 ·refine wp_skip <| b_norm <| t_norm <| c_region <| lw E (y_add rfl rfl (InR.inc r5 (pL_InR hl_0) hc6)) fun a E => mv E rfl fun a E => wpList_nil ?_
  obtain rfl := sj hF
  exact step_n ⟨ok, E.keep [0, 5, 6, 7], (InR.inc r5 (pL_InR hl_0) hc6)⟩
 refine sg <| aw E rfl fun a E => wp_ret <| b_ret <| t_ret ?_
 obtain rfl := sj hF
 exact so (sr ⟨rfl, ⟨ok, E.d, ⟨rv_t E rfl, trivial⟩⟩⟩)
def decide_relations_R (u : World) (m0 : Mem) (S : Segs) (r : (List (Relation))) (a : Act) (w : World) : Prop :=
 ∃ m1 v0, m0.le m1 ∧ Ok u m1 S w ∧ a.defers = [] ∧ RVs Tryz.prog a w [.t 2 v0] ∧ (pL 4 pRelation) m1 [v0] r
theorem decide_relations_w (N : Nat) (vc_0 : Value) (c_0 : List (List (Relation))) (hc_0 : (pL 1 (pL 4 pRelation)) m0 [vc_0] c_0) {r : (List (Relation))} (hF : decide_relations N c_0 = some r) (hG : Glob u) (ok : Ok u m0 S w) :
  Calls Tryz.prog 47 [vc_0].toArray w fun e w' => ∃ m1 v0, e = .returned v0 ∧ m0.le m1 ∧ Ok u m1 S w' ∧ (pL 4 pRelation) m1 [v0] r := by
 have le_m0 := Mem.le.refl m0
 unfold decide_relations at hF
 refine en (decide_relations_R u m0 S) r Tryz.func47 rfl rfl rfl (by rintro a w ⟨m1, v0, hle, ok, hd, hrv, h0⟩; exact c_ret2 [.t 2 v0] hd rfl hrv ⟨m1, v0, rfl, hle, ok, h0⟩) fun fin a E => sg <| aw E rfl fun a E => sg ?_
 refine aw E rfl fun a E => wp_seq <| sg <| mv E rfl fun a E => lv E ok (y_lenL sl_23 hc_0 rfl) fun a E => ?_
 refine mv E rfl fun a E => wn <| wp_block ?_
 obtain ⟨M6, ok, h7⟩ := nilrow (e := 69) (k := 4) (R := pRelation) ok
 obtain ⟨o8, hL, hF⟩ := bnd hF
 refine c_loop _ (fun (s : (List (Relation)) × Int) a w => ∃ c9 M10, Ok u m0 (M10 :: S) w ∧ Env 17 a [(3, c9), (6, vc_0), (7, (vi (c_0.length : Int))), (8, vi s.2)] ∧ ORow 69 4 pRelation m0 c9 s.1 M10 ∧ InR .i64 s.2) (fun (b : ((List (Relation)))) e a w => e = (.exit 0) ∧ ∃ c41 M42, Ok u m0 (M42 :: S) w ∧ Env 17 a [(3, c41)] ∧ ORow 69 4 pRelation m0 c41 b M42) ?_ ?_ N _ a w hL ⟨(Value.slice none 0 0), M6, ok, E.keep [3, 6, 7, 8], h7, (ir 0)⟩
 rotate_left
 ·intro e a w _ hO
  obtain ⟨rfl, c36, M37, ok, E, h38⟩ := hO
  refine b_hit <| t_norm <| sg <| mv E rfl fun a E => aw E rfl fun a E => ?_
  refine wp_ret ?_
  obtain ⟨m39, hle, ok, hfz⟩ := (ok.frs 0 rfl).freeze
  have h40 := ORow.froz mRelation h38 hle hfz (by decide)
  have le_m0 := le_m0.trans hle
  have hc_0 := (mL (mL mRelation)).up hle hc_0
  exact fin hF ⟨m39, c36, le_m0, ok, E.d, ⟨rv_t E rfl, trivial⟩, h40⟩
 rintro ⟨l_13, x_14⟩ a w r ⟨c15, M16, ok, E, h17, r18⟩ hF
 replace hF : decide_relations_b1 N c_0 l_13 x_14 = some r := hF
 unfold decide_relations_b1 at hF
 refine sg <| lw E (y_lss rfl rfl) fun a E => wn <| wp_seq <| cf E rfl hF (fun hc19 hF => ?_) fun hc19 hF => ?_
 rotate_left
 ·refine wp_exit <| t_exit ?_
  obtain rfl := sj hF
  exact so (⟨rfl, ⟨c15, M16, ok, E.keep [3], h17⟩⟩)
 refine wp_skip <| t_norm <| wp_seq <| wp_block <| sg ?_
 obtain ⟨x20, e21, hF⟩ := bnd hF
 obtain ⟨b22, o23, es24, hl25, rr26, at27, yy28⟩ := idxAt sl_23 hc_0 e21 (P := Tryz.prog) (X := .tmp 6) (I := .tmp 8) (kd := .i64) (ev_of E rfl) (ev_of E rfl)
 obtain ⟨c29, rfl, h30⟩ := pL_cell rr26
 refine lv E ok (yy28 _ _) fun a E => lv E ok (y_load one_66 rfl (Holds.ro at27)) fun a E => aw E rfl fun a E => c_region <| mv E rfl fun a E => mv E rfl fun a E => ?_
 obtain ⟨l31, e32, hF⟩ := bnd hF
 refine l_app (R := pRelation) E ok 0 mRelation sl_66 Tryz.underlying66 rfl h17 (SrcOK.ofL h30 ok) e32 ⟨_, zero_69, rfl⟩ rfl rfl rfl rfl fun c33 M34 a w E ok h35 => av E rfl fun a E => wpList_nil <| b_norm <| t_norm <| c_region <| lw E (y_add rfl rfl (InR.inc r18 (pL_InR hc_0) hc19)) fun a E => mv E rfl fun a E => ?_
 refine wpList_nil ?_
 obtain rfl := sj hF
 exact step_n ⟨c33, M34, ok, E.keep [3, 6, 7, 8], h35, (InR.inc r18 (pL_InR hc_0) hc19)⟩
def decide_reduced_R (u : World) (m0 : Mem) (S : Segs) (r : Int) (a : Act) (w : World) : Prop :=
 Ok u m0 S w ∧ a.defers = [] ∧ RVs Tryz.prog a w [.t 4 (.int .i64 r)] ∧ InR .i64 r
theorem decide_reduced_w (N : Nat) (vr_0 : List Value) (r_0 : Relation) (hr_0 : pRelation m0 vr_0 r_0) (n_1 : Int) (rn_1 : InR .i64 n_1) {r : Int} (hF : decide_reduced N r_0 n_1 = some r) (hG : Glob u) (ok : Ok u m0 S w) :
  Calls Tryz.prog 120 [.agg vr_0.toArray, vi n_1].toArray w fun e w' => (e = .returned (.int .i64 r) ∧ Ok u m0 S w') ∧ InR .i64 r := by
 obtain ⟨c3, rfl, r1, r2, h4⟩ := hr_0
 unfold decide_reduced at hF
 refine en (decide_reduced_R u m0 S) r Tryz.func120 rfl rfl rfl (by rintro a w ⟨ok, hd, hrv, h0⟩; exact c_ret2 [.t 4 (.int .i64 r)] hd rfl hrv ⟨⟨rfl, ok⟩, h0⟩) fun fin a E => sg <| l_box E ok rfl rfl rfl fun b5 a w E ok => aw E rfl fun a E => wp_seq ?_
 refine sg <| fv E fo_69_1 rfl fun a E => ld E ok one_3 0 rfl rfl rfl fun a E => lw E (y_neq rfl rfl) fun a E => wn <| cf E rfl hF (fun hc6 hF => ?_) fun hc6 hF => ?_
 ·refine sg <| mv E rfl fun a E => fv E fo_69_1 rfl fun a E => ld E ok one_3 0 rfl rfl rfl fun a E => ?_
  obtain ⟨q7, e8, hF⟩ := bnd hF
  refine lw E (y_rm rfl rfl e8) fun a E => aw E rfl fun a E => wp_ret <| t_ret ?_
  exact fin hF ⟨ok.drop, E.d, ⟨rv_t E rfl, trivial⟩, (rm_InR e8 rn_1)⟩
 refine wp_skip <| t_norm <| sg <| mv E rfl fun a E => lv E ok (y_loadAgg (cs := [vi r_0.Operand, vi r_0.Mod, vb r_0.Not, c3]) agg_69 rfl rfl (Holds.own 0 rfl rfl)) fun a E => ?_
 obtain ⟨r9, e10, hF⟩ := bnd hF
 refine l_call E go_38 rfl (decide_greatest_w N _ r_0 ⟨_, rfl, r1, r2, h4⟩ e10 hG ok) rfl rfl ?_
 rintro _ w ⟨⟨rfl, ok⟩, r11⟩
 refine ⟨_, rfl, fun a E => ?_⟩
 refine lw E (y_addw rfl rfl) fun a E => lw E (y_min rfl rfl) fun a E => aw E rfl fun a E => wp_ret ?_
 exact fin hF ⟨ok.drop, E.d, ⟨rv_t E rfl, trivial⟩, (InR.min rn_1 (InR.wrap _ _))⟩
theorem strconv_ItoaT_w {u : World} {m0 : Mem} {S : Segs} {w : World} (N : Nat) (p0_0 : Int) (rp0_0 : InR .i64 p0_0) {r : (List UInt8)} (hF : strconv_ItoaT N p0_0 = some r) (hG : Glob u) (hTb : Tab u) (ok : Ok u m0 S w) :
  Calls Tryz.prog 122 [vi p0_0].toArray w fun e w' => (e = .returned (.string (bs r)) ∧ Ok u m0 S w') ∧ r.length ≤ LIMS := lib_ItoaT Tryz.laysM171 hTb p0_0 rp0_0 hF ok
def decide_onWhole_R (u : World) (m0 : Mem) (S : Segs) (r : Bool) (a : Act) (w : World) : Prop :=
 Ok u m0 S w ∧ a.defers = [] ∧ RVs Tryz.prog a w [.t 2 (.bool r)]
theorem decide_onWhole_w (N : Nat) (vr_0 : List Value) (r_0 : Relation) (hr_0 : pRelation m0 vr_0 r_0) {r : Bool} (hF : decide_onWhole N r_0 = some r) (hG : Glob u) (ok : Ok u m0 S w) :
  Calls Tryz.prog 123 [.agg vr_0.toArray].toArray w fun e w' => (e = .returned (.bool r) ∧ Ok u m0 S w') := by
 obtain ⟨c3, rfl, r1, r2, h4⟩ := hr_0
 unfold decide_onWhole at hF
 refine en (decide_onWhole_R u m0 S) r Tryz.func123 rfl rfl rfl (by rintro a w ⟨ok, hd, hrv⟩; exact c_ret2 [.t 2 (.bool r)] hd rfl hrv ⟨rfl, ok⟩) fun fin a E => sg <| l_box E ok rfl rfl rfl fun b5 a w E ok => aw E rfl fun a E => wp_seq ?_
 refine c_region <| fv E fo_69_0 rfl fun a E => ld E ok one_3 0 rfl rfl rfl fun a E => lw E (y_eql rfl rfl) fun a E => mv E rfl fun a E => bsplit (r_0.Operand == 2) (fun hc6 => ?_) (fun hc6 => ?_)
 ·replace hF := cond_t hc6 hF
  replace E := E.upd 6 hc6 rfl
  refine ls E fun a E => ls E fun a E => ls E fun a E => pt E rfl rfl fun a E => aw E rfl fun a E => wp_ret ?_
  exact fin hF ⟨ok.drop, E.d, ⟨rv_t E rfl, trivial⟩⟩
 replace hF := cond_f hc6 hF
 replace E := E.upd 6 hc6 rfl
 refine fv E fo_69_0 rfl fun a E => ld E ok one_3 0 rfl rfl rfl fun a E => lw E (y_eql rfl rfl) fun a E => pf E rfl rfl fun a E => aw E rfl fun a E => wp_ret ?_
 exact fin hF ⟨ok.drop, E.d, ⟨rv_t E rfl, trivial⟩⟩
def decide_keep_R (u : World) (m0 : Mem) (S : Segs) (r : (List (Part))) (a : Act) (w : World) : Prop :=
 ∃ m1 v0 M0, m0.le m1 ∧ Ok u m1 (M0 :: S) w ∧ a.defers = [] ∧ RVs Tryz.prog a w [.t 4 v0] ∧ ORow 181 2 pPart m1 v0 r M0
theorem decide_keep_w (N : Nat) (vl_0 : Value) (l_0 : List (Part)) {Ml_0 : List (Nat × Obj)} (hl_0 : ORow 181 2 pPart m0 vl_0 l_0 Ml_0) (vp_1 : List Value) (p_1 : Part) (hp_1 : pPart m0 vp_1 p_1) {r : (List (Part))} (hF : decide_keep N l_0 p_1 = some r) (hG : Glob u) (ok : Ok u m0 (Ml_0 :: S) w) :
  Calls Tryz.prog 124 [vl_0, .agg vp_1.toArray].toArray w fun e w' => ∃ m1 v0 M0, e = .returned v0 ∧ m0.le m1 ∧ Ok u m1 (M0 :: S) w' ∧ ORow 181 2 pPart m1 v0 r M0 := by
 obtain ⟨rfl, r1, l2⟩ := hp_1
 have le_m0 := Mem.le.refl m0
 unfold decide_keep at hF
 refine en (decide_keep_R u m0 S) r Tryz.func124 rfl rfl rfl (by rintro a w ⟨m1, v0, M0, hle, ok, hd, hrv, h0⟩; exact c_ret2 [.t 4 v0] hd rfl hrv ⟨m1, v0, M0, rfl, hle, ok, h0⟩) fun fin a E => sg <| l_box E ok rfl rfl rfl fun b3 a w E ok => aw E rfl fun a E => wp_seq ?_
 refine sg <| mv E rfl fun a E => lv E ok (y_lenR sl_173 hl_0 rfl) fun a E => mv E rfl fun a E => wn <| wp_block ?_
 obtain ⟨o5, hL, hF⟩ := bnd hF
 refine c_loop _ (fun (s : Int) a w => Ok u m0 ([(b3, oc 181 [vu p_1.bits, vs p_1.text])] :: Ml_0 :: S) w ∧ Env 33 a [(0, vl_0), (3, vp b3), (7, vl_0), (8, (vi (l_0.length : Int))), (9, vi s)] ∧ InR .i64 s) (fun (b : (Unit ⊕ ((List (Part))))) e a w => (Sum.elim (fun b33 => e = (.exit 0) ∧ Ok u m0 ([(b3, oc 181 [vu p_1.bits, vs p_1.text])] :: Ml_0 :: S) w ∧ Env 33 a [(0, vl_0), (3, vp b3)]) (fun b34 => e = .ret ∧ decide_keep_R u m0 S b34 a w)) b) ?_ ?_ N _ a w hL ⟨ok, E.keep [0, 3, 7, 8, 9], (ir 0)⟩
 rotate_left
 ·intro e a w _ hO
  rcases o5 with o5 | o5
  rotate_left
  ·replace hF := elim_r hF
   obtain ⟨rfl, hret⟩ := hO
   refine b_ret <| t_ret ?_
   exact fin hF hret
  replace hF := elim_l hF
  obtain ⟨rfl, ok, E⟩ := hO
  refine b_hit <| t_norm <| sg <| mv E rfl fun a E => lv E ok (y_loadAgg (cs := [vu p_1.bits, vs p_1.text]) agg_181 rfl rfl (Holds.own 0 rfl rfl)) fun a E => l_slit (R := pPart) (xo := [.tmp 30]) (xs := ([p_1] : List (Part))) E ok sl_173 zero_181 rfl ⟨⟨_, rfl, rfl, ⟨rfl, r1, l2⟩⟩, trivial⟩ rfl rfl rfl rfl fun c25 M26 a w E ok h27 => ?_
  obtain ⟨l28, e29, hF⟩ := bnd hF
  refine l_app (R := pPart) E ok 2 mPart sl_173 Tryz.underlying173 rfl hl_0 (SrcOK.ofRow h27 0 rfl ok) e29 ⟨_, zero_181, rfl⟩ rfl rfl rfl rfl fun c30 M31 a w E ok h32 => aw E rfl fun a E => wp_ret ?_
  exact fin hF ⟨m0, c30, M31, le_m0, ok.drop.drop, E.d, ⟨rv_t E rfl, trivial⟩, h32⟩
 rintro x_7 a w r ⟨ok, E, r8⟩ hF
 replace hF : decide_keep_b1 N l_0 p_1 x_7 = some r := hF
 unfold decide_keep_b1 at hF
 refine sg <| lw E (y_lss rfl rfl) fun a E => wn <| wp_seq <| cf E rfl hF (fun hc9 hF => ?_) fun hc9 hF => ?_
 rotate_left
 ·refine wp_exit <| t_exit ?_
  obtain rfl := sj hF
  exact so (sl ⟨rfl, ⟨ok, E.keep [0, 3]⟩⟩)
 refine wp_skip <| t_norm <| wp_seq <| wp_block <| sg ?_
 obtain ⟨x10, e11, hF⟩ := bnd hF
 obtain ⟨b12, o13, hp14, yy15⟩ := orowAt sl_173 hl_0 e11 (P := Tryz.prog) (X := .tmp 7) (I := .tmp 9) (kd := .i64) (ev_of E rfl) (ev_of E rfl)
 refine lv E ok (yy15 _ _) fun a E => ?_
 obtain ⟨es16, hl17, rr18, hh19⟩ := orowGet hl_0 e11 hp14 (by decide)
 obtain ⟨rfl, r20, l21⟩ := rr18
 refine lv E ok (y_loadAgg (cs := [vu x10.bits, vs x10.text]) agg_181 rfl rfl (hh19 _ _ _ 1 rfl)) fun a E => l_alloc E ok zero_181 rfl rfl fun b22 a w E ok => l_storeB E ok 0 rfl rfl rfl inf_181 rfl rfl ⟨rfl, rfl, trivial⟩ rfl rfl fun w ok => wn <| sg <| fv E fo_181_0 rfl fun a E => ?_
 refine ld E ok one_178 0 rfl rfl rfl fun a E => fv E fo_181_0 rfl fun a E => ld E ok one_178 1 rfl rfl rfl fun a E => lw E (y_eql rfl rfl) fun a E => mv E rfl fun a E => bsplit (x10.bits == p_1.bits) (fun hc23 => ?_) (fun hc23 => ?_)
 rotate_left
 ·replace hF := cond_f hc23 hF
  replace E := E.upd 18 hc23 rfl
  refine ls E fun a E => ls E fun a E => ls E fun a E => ls E fun a E => ls E fun a E => ls E fun a E => ls E fun a E => pf E rfl rfl fun a E => ?_
  refine wn <| c_if E rfl (fun h => by cases h) (fun _ => ?_)
  refine wp_skip <| b_norm <| t_norm <| c_region <| lw E (y_add rfl rfl (InR.inc r8 (ORow.InR hl_0) hc9)) fun a E => mv E rfl fun a E => wpList_nil ?_
  obtain rfl := sj hF
  exact step_n ⟨(ok.pk 3 [1, 2] rfl (by decide)), E.keep [0, 3, 7, 8, 9], (InR.inc r8 (ORow.InR hl_0) hc9)⟩
 replace hF := cond_t hc23 hF
 replace E := E.upd 18 hc23 rfl
 refine fv E fo_181_1 rfl fun a E => ld E ok one_9 0 rfl rfl rfl fun a E => lw E (y_slen Tryz.underlying9 rfl) fun a E => fv E fo_181_1 rfl fun a E => ld E ok one_9 1 rfl rfl rfl fun a E => lw E (y_slen Tryz.underlying9 rfl) fun a E => lw E (y_eql rfl rfl) fun a E => pt E rfl rfl fun a E => ?_
 refine wn <| cf E rfl hF (fun hc24 hF => ?_) fun hc24 hF => ?_
 rotate_left
 ·refine wp_skip <| b_norm <| t_norm <| c_region <| lw E (y_add rfl rfl (InR.inc r8 (ORow.InR hl_0) hc9)) fun a E => mv E rfl fun a E => wpList_nil ?_
  obtain rfl := sj hF
  exact step_n ⟨(ok.pk 3 [1, 2] rfl (by decide)), E.keep [0, 3, 7, 8, 9], (InR.inc r8 (ORow.InR hl_0) hc9)⟩
 refine sg <| mv E rfl fun a E => aw E rfl fun a E => wp_ret <| b_ret ?_
 refine t_ret ?_
 obtain rfl := sj hF
 exact so (sr ⟨rfl, ⟨m0, vl_0, Ml_0, le_m0, ok.drop.drop, E.d, ⟨rv_t E rfl, trivial⟩, hl_0⟩⟩)
def decide_tracker_holds_R (u : World) (m0 : Mem) (S : Segs) (r : Bool) (a : Act) (w : World) : Prop :=
 Ok u m0 S w ∧ a.defers = [] ∧ RVs Tryz.prog a w [.t 4 (.bool r)]
theorem decide_tracker_holds_w (N : Nat) (vt_0 : List Value) (t_0 : Tracker) (ht_0 : pTracker m0 vt_0 t_0) (vr_1 : List Value) (r_1 : Relation) (hr_1 : pRelation m0 vr_1 r_1) {r : Bool} (hF : decide_tracker_holds N t_0 r_1 = some r) (hG : Glob u) (ok : Ok u m0 S w) :
  Calls Tryz.prog 54 [.agg vt_0.toArray, .agg vr_1.toArray].toArray w fun e w' => (e = .returned (.bool r) ∧ Ok u m0 S w') := by
 obtain ⟨rfl, r1, r2⟩ := ht_0
 obtain ⟨c5, rfl, r3, r4, h6⟩ := hr_1
 unfold decide_tracker_holds at hF
 refine en (decide_tracker_holds_R u m0 S) r Tryz.func54 rfl rfl rfl (by rintro a w ⟨ok, hd, hrv⟩; exact c_ret2 [.t 4 (.bool r)] hd rfl hrv ⟨rfl, ok⟩) fun fin a E => sg <| l_box E ok rfl rfl rfl fun b7 a w E ok => l_box E ok rfl rfl rfl fun b8 a w E ok => aw E rfl fun a E => ?_
 refine wp_seq <| sg <| fv E fo_69_0 rfl fun a E => ld E ok one_3 0 rfl rfl rfl fun a E => lw E (y_eql rfl rfl) fun a E => mv E rfl fun a E => bsplit (r_1.Operand == 1) (fun hc9 => ?_) (fun hc9 => ?_)
 rotate_left
 ·as_aux_lemma =>
   replace hF := cond_f hc9 hF
   replace E := E.upd 10 hc9 rfl
   refine ls E fun a E => ls E fun a E => ls E fun a E => pf E rfl rfl fun a E => wn <| c_if E rfl (fun h => by cases h) (fun _ => ?_)
   refine wp_skip <| t_norm <| wp_seq <| sg <| fv E fo_69_3 rfl fun a E => ld E ok one_67 0 rfl rfl rfl fun a E => lv E ok (y_lenL sl_67 h6 rfl) fun a E => ?_
   refine mv E rfl fun a E => wn <| wp_block ?_
   obtain ⟨o34, hL, hF⟩ := bnd hF
   refine c_loop _ (fun (s : Int) a w => Ok u m0 ([(b8, oc 69 [vi r_1.Operand, vi r_1.Mod, vb r_1.Not, c5])] :: [(b7, oc 86 [vi t_0.a, vi t_0.b])] :: S) w ∧ Env 42 a [(2, vp b7), (3, vp b8), (18, c5), (19, (vi (r_1.Spans.length : Int))), (20, vi s)] ∧ InR .i64 s) (fun (b : (Unit ⊕ Bool)) e a w => (Sum.elim (fun b53 => e = (.exit 0) ∧ Ok u m0 ([(b8, oc 69 [vi r_1.Operand, vi r_1.Mod, vb r_1.Not, c5])] :: [(b7, oc 86 [vi t_0.a, vi t_0.b])] :: S) w ∧ Env 42 a [(3, vp b8)]) (fun b54 => e = .ret ∧ decide_tracker_holds_R u m0 S b54 a w)) b) ?_ ?_ N _ a w hL ⟨ok, E.keep [2, 3, 18, 19, 20], (ir 0)⟩
   rotate_left
   ·intro e a w _ hO
    rcases o34 with o34 | o34
    rotate_left
    ·replace hF := elim_r hF
     obtain ⟨rfl, hret⟩ := hO
     refine b_ret <| t_ret ?_
     exact fin hF hret
    replace hF := elim_l hF
    obtain ⟨rfl, ok, E⟩ := hO
    refine b_hit <| t_norm <| sg <| fv E fo_69_2 rfl fun a E => ld E ok one_4 0 rfl rfl rfl fun a E => av E rfl fun a E => wpList_nil ?_
    refine t_norm <| wp_ret ?_
    exact fin hF ⟨ok.drop.drop, E.d, ⟨rv_t E rfl, trivial⟩⟩
   rintro x_36 a w r ⟨ok, E, r37⟩ hF
   replace hF : decide_tracker_holds_b2 N t_0 r_1 x_36 = some r := hF
   unfold decide_tracker_holds_b2 at hF
   refine sg <| lw E (y_lss rfl rfl) fun a E => wn <| wp_seq <| cf E rfl hF (fun hc38 hF => ?_) fun hc38 hF => ?_
   rotate_left
   ·refine wp_exit <| t_exit ?_
    obtain rfl := sj hF
    exact so (sl ⟨rfl, ⟨ok, E.keep [3]⟩⟩)
   refine wp_skip <| t_norm <| wp_seq <| wp_block <| sg ?_
   obtain ⟨x39, e40, hF⟩ := bnd hF
   obtain ⟨b41, o42, es43, hl44, rr45, at46, yy47⟩ := idxAt sl_67 h6 e40 (P := Tryz.prog) (X := .tmp 18) (I := .tmp 20) (kd := .i64) (ev_of E rfl) (ev_of E rfl)
   obtain ⟨rfl, r48, r49⟩ := rr45
   refine lv E ok (yy47 _ _) fun a E => lv E ok (y_loadAgg (cs := [vi x39.From, vi x39.To]) agg_126 rfl rfl (Holds.ro at46)) fun a E => l_alloc E ok zero_126 rfl rfl fun b50 a w E ok => l_storeB E ok 0 rfl rfl rfl inf_126 rfl rfl ⟨rfl, rfl, trivial⟩ rfl rfl fun w ok => wn <| sg ?_
   refine fv E fo_86_0 rfl fun a E => ld E ok one_3 2 rfl rfl rfl fun a E => fv E fo_126_0 rfl fun a E => ld E ok one_3 0 rfl rfl rfl fun a E => lw E (y_geq rfl rfl) fun a E => mv E rfl fun a E => bsplit (decide (t_0.a ≥ x39.From)) (fun hc51 => ?_) (fun hc51 => ?_)
   rotate_left
   ·replace hF := cond_f hc51 hF
    replace E := E.upd 29 hc51 rfl
    refine ls E fun a E => ls E fun a E => ls E fun a E => ls E fun a E => ls E fun a E => pf E rfl rfl fun a E => wn ?_
    refine c_if E rfl (fun h => by cases h) (fun _ => ?_)
    refine wp_skip <| b_norm <| t_norm <| c_region <| lw E (y_add rfl rfl (InR.inc r37 (pL_InR h6) hc38)) fun a E => mv E rfl fun a E => wpList_nil ?_
    obtain rfl := sj hF
    exact step_n ⟨(ok.pk 3 [1, 2] rfl (by decide)), E.keep [2, 3, 18, 19, 20], (InR.inc r37 (pL_InR h6) hc38)⟩
   replace hF := cond_t hc51 hF
   replace E := E.upd 29 hc51 rfl
   refine fv E fo_86_0 rfl fun a E => ld E ok one_3 2 rfl rfl rfl fun a E => fv E fo_126_1 rfl fun a E => ld E ok one_3 0 rfl rfl rfl fun a E => lw E (y_leq rfl rfl) fun a E => pt E rfl rfl fun a E => wn ?_
   refine cf E rfl hF (fun hc52 hF => ?_) fun hc52 hF => ?_
   rotate_left
   ·refine wp_skip <| b_norm <| t_norm <| c_region <| lw E (y_add rfl rfl (InR.inc r37 (pL_InR h6) hc38)) fun a E => mv E rfl fun a E => wpList_nil ?_
    obtain rfl := sj hF
    exact step_n ⟨(ok.pk 3 [1, 2] rfl (by decide)), E.keep [2, 3, 18, 19, 20], (InR.inc r37 (pL_InR h6) hc38)⟩
   refine sg <| fv E fo_69_2 rfl fun a E => ld E ok one_4 1 rfl rfl rfl fun a E => lw E (y_not rfl) fun a E => aw E rfl fun a E => ?_
   refine wp_ret <| b_ret <| t_ret ?_
   obtain rfl := sj hF
   exact so (sr ⟨rfl, ⟨ok.drop.drop.drop, E.d, ⟨rv_t E rfl, trivial⟩⟩⟩)
 replace hF := cond_t hc9 hF
 replace E := E.upd 10 hc9 rfl
 refine fv E fo_86_1 rfl fun a E => ld E ok one_3 1 rfl rfl rfl fun a E => lw E (y_eql rfl rfl) fun a E => pt E rfl rfl fun a E => wn <| cf E rfl hF (fun hc10 hF => ?_) fun hc10 hF => ?_
 ·refine sg <| fv E fo_69_2 rfl fun a E => ld E ok one_4 0 rfl rfl rfl fun a E => aw E rfl fun a E => wp_ret ?_
  refine t_ret ?_
  exact fin hF ⟨ok.drop.drop, E.d, ⟨rv_t E rfl, trivial⟩⟩
 refine wp_skip <| t_norm <| wp_seq <| sg <| fv E fo_69_3 rfl fun a E => ld E ok one_67 0 rfl rfl rfl fun a E => lv E ok (y_lenL sl_67 h6 rfl) fun a E => ?_
 refine mv E rfl fun a E => wn <| wp_block ?_
 obtain ⟨o12, hL, hF⟩ := bnd hF
 refine c_loop _ (fun (s : Int) a w => Ok u m0 ([(b8, oc 69 [vi r_1.Operand, vi r_1.Mod, vb r_1.Not, c5])] :: [(b7, oc 86 [vi t_0.a, vi t_0.b])] :: S) w ∧ Env 42 a [(2, vp b7), (3, vp b8), (18, c5), (19, (vi (r_1.Spans.length : Int))), (20, vi s)] ∧ InR .i64 s) (fun (b : (Unit ⊕ Bool)) e a w => (Sum.elim (fun b31 => e = (.exit 0) ∧ Ok u m0 ([(b8, oc 69 [vi r_1.Operand, vi r_1.Mod, vb r_1.Not, c5])] :: [(b7, oc 86 [vi t_0.a, vi t_0.b])] :: S) w ∧ Env 42 a [(3, vp b8)]) (fun b32 => e = .ret ∧ decide_tracker_holds_R u m0 S b32 a w)) b) ?_ ?_ N _ a w hL ⟨ok, E.keep [2, 3, 18, 19, 20], (ir 0)⟩
 rotate_left
 ·intro e a w _ hO
  rcases o12 with o12 | o12
  rotate_left
  ·replace hF := elim_r hF
   obtain ⟨rfl, hret⟩ := hO
   refine b_ret <| t_ret ?_
   exact fin hF hret
  replace hF := elim_l hF
  obtain ⟨rfl, ok, E⟩ := hO
  refine b_hit <| t_norm <| sg <| fv E fo_69_2 rfl fun a E => ld E ok one_4 0 rfl rfl rfl fun a E => av E rfl fun a E => wpList_nil ?_
  refine t_norm <| wp_ret ?_
  exact fin hF ⟨ok.drop.drop, E.d, ⟨rv_t E rfl, trivial⟩⟩
 rintro x_14 a w r ⟨ok, E, r15⟩ hF
 replace hF : decide_tracker_holds_b1 N t_0 r_1 x_14 = some r := hF
 unfold decide_tracker_holds_b1 at hF
 refine sg <| lw E (y_lss rfl rfl) fun a E => wn <| wp_seq <| cf E rfl hF (fun hc16 hF => ?_) fun hc16 hF => ?_
 rotate_left
 ·refine wp_exit <| t_exit ?_
  obtain rfl := sj hF
  exact so (sl ⟨rfl, ⟨ok, E.keep [3]⟩⟩)
 refine wp_skip <| t_norm <| wp_seq <| wp_block <| sg ?_
 obtain ⟨x17, e18, hF⟩ := bnd hF
 obtain ⟨b19, o20, es21, hl22, rr23, at24, yy25⟩ := idxAt sl_67 h6 e18 (P := Tryz.prog) (X := .tmp 18) (I := .tmp 20) (kd := .i64) (ev_of E rfl) (ev_of E rfl)
 obtain ⟨rfl, r26, r27⟩ := rr23
 refine lv E ok (yy25 _ _) fun a E => lv E ok (y_loadAgg (cs := [vi x17.From, vi x17.To]) agg_126 rfl rfl (Holds.ro at24)) fun a E => l_alloc E ok zero_126 rfl rfl fun b28 a w E ok => l_storeB E ok 0 rfl rfl rfl inf_126 rfl rfl ⟨rfl, rfl, trivial⟩ rfl rfl fun w ok => wn <| sg ?_
 refine fv E fo_86_0 rfl fun a E => ld E ok one_3 2 rfl rfl rfl fun a E => fv E fo_126_0 rfl fun a E => ld E ok one_3 0 rfl rfl rfl fun a E => lw E (y_geq rfl rfl) fun a E => mv E rfl fun a E => bsplit (decide (t_0.a ≥ x17.From)) (fun hc29 => ?_) (fun hc29 => ?_)
 rotate_left
 ·replace hF := cond_f hc29 hF
  replace E := E.upd 29 hc29 rfl
  refine ls E fun a E => ls E fun a E => ls E fun a E => ls E fun a E => ls E fun a E => pf E rfl rfl fun a E => wn ?_
  refine c_if E rfl (fun h => by cases h) (fun _ => ?_)
  refine wp_skip <| b_norm <| t_norm <| c_region <| lw E (y_add rfl rfl (InR.inc r15 (pL_InR h6) hc16)) fun a E => mv E rfl fun a E => wpList_nil ?_
  obtain rfl := sj hF
  exact step_n ⟨(ok.pk 3 [1, 2] rfl (by decide)), E.keep [2, 3, 18, 19, 20], (InR.inc r15 (pL_InR h6) hc16)⟩
 replace hF := cond_t hc29 hF
 replace E := E.upd 29 hc29 rfl
 refine fv E fo_86_0 rfl fun a E => ld E ok one_3 2 rfl rfl rfl fun a E => fv E fo_126_1 rfl fun a E => ld E ok one_3 0 rfl rfl rfl fun a E => lw E (y_leq rfl rfl) fun a E => pt E rfl rfl fun a E => wn ?_
 refine cf E rfl hF (fun hc30 hF => ?_) fun hc30 hF => ?_
 rotate_left
 ·refine wp_skip <| b_norm <| t_norm <| c_region <| lw E (y_add rfl rfl (InR.inc r15 (pL_InR h6) hc16)) fun a E => mv E rfl fun a E => wpList_nil ?_
  obtain rfl := sj hF
  exact step_n ⟨(ok.pk 3 [1, 2] rfl (by decide)), E.keep [2, 3, 18, 19, 20], (InR.inc r15 (pL_InR h6) hc16)⟩
 refine sg <| fv E fo_69_2 rfl fun a E => ld E ok one_4 1 rfl rfl rfl fun a E => lw E (y_not rfl) fun a E => aw E rfl fun a E => ?_
 refine wp_ret <| b_ret <| t_ret ?_
 obtain rfl := sj hF
 exact so (sr ⟨rfl, ⟨ok.drop.drop.drop, E.d, ⟨rv_t E rfl, trivial⟩⟩⟩)
def decide_classes_bits_R (u : World) (m0 : Mem) (S : Segs) (pb0 : Nat) (x0 : Classes) (c1 : Value) (c3 : Value) (M4 : List (Nat × Obj)) (c6 : Value) (M7 : List (Nat × Obj)) (r : Int) (a : Act) (w : World) : Prop :=
 Ok u m0 ([(pb0, oc 175 [c1, c3, c6])] :: M4 :: M7 :: S) w ∧ a.defers = [] ∧ RVs Tryz.prog a w [.t 6 (.int .u64 r)] ∧ InR .u64 r
theorem decide_classes_bits_w (N : Nat) (behind_1 : Bool) (vtrackers_2 : Value) (trackers_2 : List (Tracker)) (htrackers_2 : (pL 2 pTracker) m0 [vtrackers_2] trackers_2) {pb0 : Nat} {c1 : Value} {c3 : Value} {M4 : List (Nat × Obj)} {c6 : Value} {M7 : List (Nat × Obj)} (x0 : Classes) (h2 : (pL 4 pRelation) m0 [c1] x0.l) (h5 : ORow 181 2 pPart m0 c3 x0.wholes M4) (h8 : ORow 181 2 pPart m0 c6 x0.fraction M7) {r : Int} (hF : decide_classes_bits N behind_1 trackers_2 x0 = some r) (hG : Glob u) (ok : Ok u m0 ([(pb0, oc 175 [c1, c3, c6])] :: M4 :: M7 :: S) w) :
  Calls Tryz.prog 125 [vp pb0, vb behind_1, vtrackers_2].toArray w fun e w' => (e = .returned (.int .u64 r) ∧ Ok u m0 ([(pb0, oc 175 [c1, c3, c6])] :: M4 :: M7 :: S) w') ∧ InR .u64 r := by
 unfold decide_classes_bits at hF
 refine en (decide_classes_bits_R u m0 S pb0 x0 c1 c3 M4 c6 M7) r Tryz.func125 rfl rfl rfl (by rintro a w ⟨ok, hd, hrv, h0⟩; exact c_ret2 [.t 6 (.int .u64 r)] hd rfl hrv ⟨⟨rfl, ok⟩, h0⟩) fun fin a E => sg <| aw E rfl fun a E => sg ?_
 refine aw E rfl fun a E => wp_seq <| sg <| mv E rfl fun a E => lw E (y_nilCheck rfl) fun a E => ?_
 refine fv E fo_175_0 rfl fun a E => ld E ok one_66 0 rfl rfl rfl fun a E => lv E ok (y_lenL sl_66 h2 rfl) fun a E => mv E rfl fun a E => wn <| wp_block ?_
 obtain ⟨o11, hL, hF⟩ := bnd hF
 refine c_loop _ (fun (s : Int × Int) a w => Ok u m0 ([(pb0, oc 175 [c1, c3, c6])] :: M4 :: M7 :: S) w ∧ Env 38 a [(1, vb behind_1), (2, vtrackers_2), (7, vu s.1), (13, c1), (14, (vi (x0.l.length : Int))), (15, vi s.2)] ∧ InR .u64 s.1 ∧ InR .i64 s.2) (fun (b : Int) e a w => e = (.exit 0) ∧ Ok u m0 ([(pb0, oc 175 [c1, c3, c6])] :: M4 :: M7 :: S) w ∧ Env 38 a [(7, vu b)] ∧ InR .u64 b) ?_ ?_ N _ a w hL ⟨ok, E.keep [1, 2, 7, 13, 14, 15], (show InR .u64 (0) by decide), (ir 0)⟩
 rotate_left
 ·intro e a w _ hO
  obtain ⟨rfl, ok, E, r52⟩ := hO
  refine b_hit <| t_norm <| sg <| mv E rfl fun a E => aw E rfl fun a E => ?_
  refine wp_ret ?_
  exact fin hF ⟨ok, E.d, ⟨rv_t E rfl, trivial⟩, r52⟩
 rintro ⟨b_14, x_15⟩ a w r ⟨ok, E, r16, r17⟩ hF
 replace hF : decide_classes_bits_b1 N behind_1 trackers_2 x0 b_14 x_15 = some r := hF
 unfold decide_classes_bits_b1 at hF
 refine sg <| lw E (y_lss rfl rfl) fun a E => wn <| wp_seq <| cf E rfl hF (fun hc18 hF => ?_) fun hc18 hF => ?_
 rotate_left
 ·refine wp_exit <| t_exit ?_
  obtain rfl := sj hF
  exact so (⟨rfl, ⟨ok, E.keep [7], r16⟩⟩)
 refine wp_skip <| t_norm <| wp_seq <| wp_block <| sg <| mv E rfl fun a E => ?_
 obtain ⟨x19, e20, hF⟩ := bnd hF
 obtain ⟨b21, o22, es23, hl24, rr25, at26, yy27⟩ := idxAt sl_66 h2 e20 (P := Tryz.prog) (X := .tmp 13) (I := .tmp 15) (kd := .i64) (ev_of E rfl) (ev_of E rfl)
 obtain ⟨c30, rfl, r28, r29, h31⟩ := rr25
 refine lv E ok (yy27 _ _) fun a E => lv E ok (y_loadAgg (cs := [vi x19.Operand, vi x19.Mod, vb x19.Not, c30]) agg_69 rfl rfl (Holds.ro at26)) fun a E => l_alloc E ok zero_69 rfl rfl fun b32 a w E ok => av E rfl fun a E => l_storeB E ok 0 rfl rfl rfl inf_69 rfl rfl ⟨rfl, rfl, rfl, (pL_one h31), trivial⟩ rfl rfl fun w ok => wn <| wp_seq ?_
 refine c_draw (by kernel_rfl) (by kernel_rfl) ok <| qv E (y_loadAgg (cs := [vi x19.Operand, vi x19.Mod, vb x19.Not, c30]) agg_69 rfl rfl (Holds.own 0 rfl rfl)) fun a E => ?_
 obtain ⟨r33, e34, hF⟩ := bnd hF
 refine q_call E go_123 rfl (fun w ok => (decide_onWhole_w N _ x19 ⟨_, rfl, r28, r29, h31⟩ e34 hG ok).mono (fun _ _ h => h)) rfl rfl fun a E => qv E (y_move rfl) fun a E => qv E (y_bneq Tryz.underlying4 rfl rfl) fun a E => qv E (y_move rfl) fun a E => bsplit (r33 != behind_1) (fun hc35 => ?_) (fun hc35 => ?_)
 rotate_left
 ·replace hF := cond_f hc35 hF
  replace E := E.upd 24 hc35 rfl
  refine qs E fun a E => qs E fun a E => qs E fun a E => qs E fun a E => qs E fun a E => qs E fun a E => qv E (y_pickF rfl rfl) fun a E => wpQuiet_nil ?_
  intro w ok
  refine t_norm <| c_if E rfl (fun h => by cases h) (fun _ => ?_)
  refine wp_skip <| b_norm <| t_norm <| c_region <| lw E (y_add rfl rfl (InR.inc r17 (pL_InR h2) hc18)) fun a E => mv E rfl fun a E => wpList_nil ?_
  obtain rfl := sj hF
  exact step_n ⟨(ok.pk 4 [1, 2, 3] rfl (by decide)), E.keep [1, 2, 7, 13, 14, 15], r16, (InR.inc r17 (pL_InR h2) hc18)⟩
 replace hF := cond_t hc35 hF
 replace E := E.upd 24 hc35 rfl
 refine qv E (y_move rfl) fun a E => qv E (y_move rfl) fun a E => ?_
 obtain ⟨x36, e37, hF⟩ := bnd hF
 obtain ⟨b38, o39, es40, hl41, rr42, at43, yy44⟩ := idxAt sl_176 htrackers_2 e37 (P := Tryz.prog) (X := .tmp 25) (I := .tmp 26) (kd := .i64) (ev_of E rfl) (ev_of E rfl)
 obtain ⟨rfl, r45, r46⟩ := rr42
 refine qv E (yy44 _ _) fun a E => qv E (y_loadAgg (cs := [vi x36.a, vi x36.b]) agg_86 rfl rfl (Holds.ro at43)) fun a E => qv E (y_loadAgg (cs := [vi x19.Operand, vi x19.Mod, vb x19.Not, c30]) agg_69 rfl rfl (Holds.own 0 rfl rfl)) fun a E => ?_
 obtain ⟨r47, e48, hF⟩ := bnd hF
 refine q_call E go_54 rfl (fun w ok => (decide_tracker_holds_w N _ x36 ⟨rfl, r45, r46⟩ _ x19 ⟨_, rfl, r28, r29, h31⟩ e48 hG ok).mono (fun _ _ h => h)) rfl rfl fun a E => qv E (y_pickT rfl rfl) fun a E => wpQuiet_nil ?_
 intro w ok
 refine t_norm <| cf E rfl hF (fun hc49 hF => ?_) fun hc49 hF => ?_
 rotate_left
 ·refine wp_skip <| b_norm <| t_norm <| c_region <| lw E (y_add rfl rfl (InR.inc r17 (pL_InR h2) hc18)) fun a E => mv E rfl fun a E => wpList_nil ?_
  obtain rfl := sj hF
  exact step_n ⟨(ok.pk 4 [1, 2, 3] rfl (by decide)), E.keep [1, 2, 7, 13, 14, 15], r16, (InR.inc r17 (pL_InR h2) hc18)⟩
 refine c_region <| mv E rfl fun a E => mv E rfl fun a E => ?_
 obtain ⟨q50, e51, hF⟩ := bnd hF
 refine lv E ok (y_shl rfl rfl e51) fun a E => lw E (y_bits .or (by decide) rfl rfl) fun a E => av E rfl fun a E => wpList_nil <| b_norm <| t_norm <| c_region <| lw E (y_add rfl rfl (InR.inc r17 (pL_InR h2) hc18)) fun a E => ?_
 refine mv E rfl fun a E => wpList_nil ?_
 obtain rfl := sj hF
 exact step_n ⟨(ok.pk 4 [1, 2, 3] rfl (by decide)), E.keep [1, 2, 7, 13, 14, 15], (ibits_InR .or .u64 b_14 q50), (InR.inc r17 (pL_InR h2) hc18)⟩
def decide_tracker_read_R (u : World) (m0 : Mem) (S : Segs) (r : Tracker) (a : Act) (w : World) : Prop :=
 ∃ m1 v0, m0.le m1 ∧ Ok u m1 S w ∧ a.defers = [] ∧ RVs Tryz.prog a w [.c 8 86 (.agg v0.toArray)] ∧ pTracker m1 v0 r
theorem decide_tracker_read_w (N : Nat) (vt_0 : List Value) (t_0 : Tracker) (ht_0 : pTracker m0 vt_0 t_0) (vr_1 : List Value) (r_1 : Relation) (hr_1 : pRelation m0 vr_1 r_1) (behind_2 : Bool) (digit_3 : Int) (rdigit_3 : InR .i64 digit_3) {r : Tracker} (hF : decide_tracker_read N t_0 r_1 behind_2 digit_3 = some r) (hG : Glob u) (ok : Ok u m0 S w) :
  Calls Tryz.prog 88 [.agg vt_0.toArray, .agg vr_1.toArray, vb behind_2, vi digit_3].toArray w fun e w' => ∃ m1 v0, e = .returned (.agg v0.toArray) ∧ m0.le m1 ∧ Ok u m1 S w' ∧ pTracker m1 v0 r := by
 obtain ⟨rfl, r1, r2⟩ := ht_0
 obtain ⟨c5, rfl, r3, r4, h6⟩ := hr_1
 have le_m0 := Mem.le.refl m0
 unfold decide_tracker_read at hF
 refine en (decide_tracker_read_R u m0 S) r Tryz.func88 rfl rfl rfl (by rintro a w ⟨m1, v0, hle, ok, hd, hrv, h0⟩; exact c_ret2 [.c 8 86 (.agg v0.toArray)] hd rfl hrv ⟨m1, v0, rfl, hle, ok, h0⟩) fun fin a E => sg <| l_box E ok rfl rfl rfl fun b7 a w E ok => l_box E ok rfl rfl rfl fun b8 a w E ok => l_alloc E ok zero_86 rfl rfl fun b9 a w E ok => wn ?_
 refine wp_seq <| sg <| fv E fo_69_0 rfl fun a E => ld E ok one_3 1 rfl rfl rfl fun a E => wn <| wp_block ?_
 refine wp_seq <| sg <| lw E (y_eql rfl rfl) fun a E => aw E rfl fun a E => ?_
 obtain ⟨o10, hJ, hF⟩ := bnd hF
 refine c_mono (Q' := fun e a w => e = .normal ∧ Ok u m0 ([(b9, oc 86 [vi 0, vi 0])] :: [(b8, oc 69 [vi r_1.Operand, vi r_1.Mod, vb r_1.Not, c5])] :: [(b7, oc 86 [vi t_0.a, vi t_0.b])] :: S) w ∧ Env 75 a [(2, vb behind_2), (3, vi digit_3), (4, vp b7), (5, vp b8), (8, vp b9), (10, vi r_1.Operand), (11, vb o10)]) ?_ ?_
 ·replace hF := hJ
  clear hJ
  refine cf E rfl hF (fun hc11 hF => ?_) fun hc11 hF => ?_
  ·refine wp_skip ?_
   obtain rfl := sj hF
   exact ⟨rfl, ⟨ok, E.keep [2, 3, 4, 5, 8, 10, 11]⟩⟩
  refine c_region <| lw E (y_eql rfl rfl) fun a E => av E rfl fun a E => wpList_nil ?_
  obtain rfl := sj hF
  exact ⟨rfl, ⟨ok, E.keep [2, 3, 4, 5, 8, 10, 11]⟩⟩
 clear hJ
 intro e a w hO
 obtain ⟨rfl, ok, E⟩ := hO
 refine t_norm <| cf E rfl hF (fun hc12 hF => ?_) fun hc12 hF => ?_
 ·as_aux_lemma =>
   refine sg <| mv E rfl fun a E => lw E (y_not rfl) fun a E => wn <| cf E rfl hF (fun hc13 hF => ?_) fun hc13 hF => ?_
   ·refine c_region <| lv E ok (y_loadAgg (cs := [vi r_1.Operand, vi r_1.Mod, vb r_1.Not, c5]) agg_69 rfl rfl (Holds.own 1 rfl rfl)) fun a E => fv E fo_86_0 rfl fun a E => ld E ok one_3 2 rfl rfl rfl fun a E => lw E (y_mulw rfl rfl) fun a E => mv E rfl fun a E => lw E (y_addw rfl rfl) fun a E => ?_
    obtain ⟨r14, e15, hF⟩ := bnd hF
    refine l_call E go_120 rfl (decide_reduced_w N _ r_1 ⟨_, rfl, r3, r4, h6⟩ (IntKind.wrap .i64 ((IntKind.wrap .i64 ((10 : Int) * t_0.a)) + digit_3)) (InR.wrap _ _) e15 hG ok) rfl rfl ?_
    rintro _ w ⟨⟨rfl, ok⟩, r16⟩
    refine ⟨_, rfl, fun a E => ?_⟩
    refine fv E fo_86_0 rfl fun a E => l_storeB E ok 2 rfl rfl rfl inf_3 rfl rfl ⟨rfl, trivial⟩ rfl rfl fun w ok => wpList_nil <| b_norm <| t_norm <| sg <| lv E ok (y_loadAgg (cs := [vi r14, vi t_0.b]) agg_86 rfl rfl (Holds.own 2 rfl rfl)) fun a E => ?_
    refine l_storeB E ok 0 rfl rfl rfl inf_86 rfl rfl ⟨rfl, rfl, trivial⟩ rfl rfl fun w ok => wn <| wp_ret ?_
    exact fin hF ⟨m0, [vi r14, vi t_0.b], le_m0, ok.drop.drop.drop, E.d, ⟨rv_c (cs := [vi r14, vi t_0.b]) E ok rfl agg_86 rfl (Holds.own 0 rfl rfl), trivial⟩, ⟨rfl, r16, r2⟩⟩
   refine sg <| mv E rfl fun a E => lw E (y_neq rfl rfl) fun a E => mv E rfl fun a E => bsplit (digit_3 != 0) (fun hc17 => ?_) (fun hc17 => ?_)
   rotate_left
   ·replace hF := cond_f hc17 hF
    replace E := E.upd 26 hc17 rfl
    refine ls E fun a E => ls E fun a E => ls E fun a E => pf E rfl rfl fun a E => wn <| c_if E rfl (fun h => by cases h) (fun _ => ?_)
    refine wp_skip <| b_norm <| t_norm <| sg <| lv E ok (y_loadAgg (cs := [vi t_0.a, vi t_0.b]) agg_86 rfl rfl (Holds.own 2 rfl rfl)) fun a E => l_storeB E ok 0 rfl rfl rfl inf_86 rfl rfl ⟨rfl, rfl, trivial⟩ rfl rfl fun w ok => wpList_nil ?_
    refine t_norm <| wp_ret ?_
    exact fin hF ⟨m0, [vi t_0.a, vi t_0.b], le_m0, ok.drop.drop.drop, E.d, ⟨rv_c (cs := [vi t_0.a, vi t_0.b]) E ok rfl agg_86 rfl (Holds.own 0 rfl rfl), trivial⟩, ⟨rfl, r1, r2⟩⟩
   replace hF := cond_t hc17 hF
   replace E := E.upd 26 hc17 rfl
   refine fv E fo_69_0 rfl fun a E => ld E ok one_3 1 rfl rfl rfl fun a E => lw E (y_eql rfl rfl) fun a E => pt E rfl rfl fun a E => wn <| cf E rfl hF (fun hc18 hF => ?_) fun hc18 hF => ?_
   rotate_left
   ·refine wp_skip <| b_norm <| t_norm <| sg <| lv E ok (y_loadAgg (cs := [vi t_0.a, vi t_0.b]) agg_86 rfl rfl (Holds.own 2 rfl rfl)) fun a E => l_storeB E ok 0 rfl rfl rfl inf_86 rfl rfl ⟨rfl, rfl, trivial⟩ rfl rfl fun w ok => wpList_nil ?_
    refine t_norm <| wp_ret ?_
    exact fin hF ⟨m0, [vi t_0.a, vi t_0.b], le_m0, ok.drop.drop.drop, E.d, ⟨rv_c (cs := [vi t_0.a, vi t_0.b]) E ok rfl agg_86 rfl (Holds.own 0 rfl rfl), trivial⟩, ⟨rfl, r1, r2⟩⟩
   refine c_region <| fv E fo_86_1 rfl fun a E => l_storeB E ok 2 rfl rfl rfl inf_3 rfl rfl ⟨rfl, trivial⟩ rfl rfl fun w ok => wpList_nil <| b_norm <| t_norm <| sg ?_
   refine lv E ok (y_loadAgg (cs := [vi t_0.a, vi 1]) agg_86 rfl rfl (Holds.own 2 rfl rfl)) fun a E => l_storeB E ok 0 rfl rfl rfl inf_86 rfl rfl ⟨rfl, rfl, trivial⟩ rfl rfl fun w ok => wn <| wp_ret ?_
   exact fin hF ⟨m0, [vi t_0.a, vi 1], le_m0, ok.drop.drop.drop, E.d, ⟨rv_c (cs := [vi t_0.a, vi 1]) E ok rfl agg_86 rfl (Holds.own 0 rfl rfl), trivial⟩, ⟨rfl, r1, (ir 1)⟩⟩
 refine wp_seq <| sg <| lw E (y_eql rfl rfl) fun a E => aw E rfl fun a E => ?_
 obtain ⟨o19, hJ, hF⟩ := bnd hF
 refine c_mono (Q' := fun e a w => e = .normal ∧ Ok u m0 ([(b9, oc 86 [vi 0, vi 0])] :: [(b8, oc 69 [vi r_1.Operand, vi r_1.Mod, vb r_1.Not, c5])] :: [(b7, oc 86 [vi t_0.a, vi t_0.b])] :: S) w ∧ Env 75 a [(2, vb behind_2), (3, vi digit_3), (4, vp b7), (5, vp b8), (8, vp b9), (10, vi r_1.Operand), (32, vb o19)]) ?_ ?_
 ·replace hF := hJ
  clear hJ
  refine cf E rfl hF (fun hc20 hF => ?_) fun hc20 hF => ?_
  ·refine wp_skip ?_
   obtain rfl := sj hF
   exact ⟨rfl, ⟨ok, E.keep [2, 3, 4, 5, 8, 10, 32]⟩⟩
  refine c_region <| lw E (y_eql rfl rfl) fun a E => av E rfl fun a E => wpList_nil ?_
  obtain rfl := sj hF
  exact ⟨rfl, ⟨ok, E.keep [2, 3, 4, 5, 8, 10, 32]⟩⟩
 clear hJ
 intro e a w hO
 obtain ⟨rfl, ok, E⟩ := hO
 refine t_norm <| cf E rfl hF (fun hc21 hF => ?_) fun hc21 hF => ?_
 ·as_aux_lemma =>
   refine sg <| mv E rfl fun a E => wn <| cf E rfl hF (fun hc22 hF => ?_) fun hc22 hF => ?_
   rotate_left
   ·refine wp_skip <| b_norm <| t_norm <| sg <| lv E ok (y_loadAgg (cs := [vi t_0.a, vi t_0.b]) agg_86 rfl rfl (Holds.own 2 rfl rfl)) fun a E => l_storeB E ok 0 rfl rfl rfl inf_86 rfl rfl ⟨rfl, rfl, trivial⟩ rfl rfl fun w ok => wpList_nil ?_
    refine t_norm <| wp_ret ?_
    exact fin hF ⟨m0, [vi t_0.a, vi t_0.b], le_m0, ok.drop.drop.drop, E.d, ⟨rv_c (cs := [vi t_0.a, vi t_0.b]) E ok rfl agg_86 rfl (Holds.own 0 rfl rfl), trivial⟩, ⟨rfl, r1, r2⟩⟩
   refine sg <| lv E ok (y_loadAgg (cs := [vi r_1.Operand, vi r_1.Mod, vb r_1.Not, c5]) agg_69 rfl rfl (Holds.own 1 rfl rfl)) fun a E => fv E fo_86_1 rfl fun a E => ld E ok one_3 2 rfl rfl rfl fun a E => lw E (y_addw rfl rfl) fun a E => ?_
   obtain ⟨r23, e24, hF⟩ := bnd hF
   refine l_call E go_120 rfl (decide_reduced_w N _ r_1 ⟨_, rfl, r3, r4, h6⟩ (IntKind.wrap .i64 (t_0.b + 1)) (InR.wrap _ _) e24 hG ok) rfl rfl ?_
   rintro _ w ⟨⟨rfl, ok⟩, r25⟩
   refine ⟨_, rfl, fun a E => ?_⟩
   refine fv E fo_86_1 rfl fun a E => l_storeB E ok 2 rfl rfl rfl inf_3 rfl rfl ⟨rfl, trivial⟩ rfl rfl fun w ok => wn <| sg <| mv E rfl fun a E => lw E (y_neq rfl rfl) fun a E => ?_
   refine mv E rfl fun a E => bsplit (digit_3 != 0) (fun hc26 => ?_) (fun hc26 => ?_)
   ·replace hF := cond_t hc26 hF
    replace E := E.upd 44 hc26 rfl
    refine ls E fun a E => ls E fun a E => ls E fun a E => pt E rfl rfl fun a E => wn <| c_if E rfl (fun _ => ?_) (fun h => by cases h)
    refine c_region <| fv E fo_86_1 rfl fun a E => ld E ok one_3 2 rfl rfl rfl fun a E => fv E fo_86_0 rfl fun a E => l_storeB E ok 2 rfl rfl rfl inf_3 rfl rfl ⟨rfl, trivial⟩ rfl rfl fun w ok => wpList_nil <| b_norm <| t_norm ?_
    refine sg <| lv E ok (y_loadAgg (cs := [vi r23, vi r23]) agg_86 rfl rfl (Holds.own 2 rfl rfl)) fun a E => l_storeB E ok 0 rfl rfl rfl inf_86 rfl rfl ⟨rfl, rfl, trivial⟩ rfl rfl fun w ok => wn <| wp_ret ?_
    exact fin hF ⟨m0, [vi r23, vi r23], le_m0, ok.drop.drop.drop, E.d, ⟨rv_c (cs := [vi r23, vi r23]) E ok rfl agg_86 rfl (Holds.own 0 rfl rfl), trivial⟩, ⟨rfl, r25, r25⟩⟩
   replace hF := cond_f hc26 hF
   replace E := E.upd 44 hc26 rfl
   refine fv E fo_69_0 rfl fun a E => ld E ok one_3 1 rfl rfl rfl fun a E => lw E (y_eql rfl rfl) fun a E => pf E rfl rfl fun a E => wn <| cf E rfl hF (fun hc27 hF => ?_) fun hc27 hF => ?_
   rotate_left
   ·refine wp_skip <| b_norm <| t_norm <| sg <| lv E ok (y_loadAgg (cs := [vi t_0.a, vi r23]) agg_86 rfl rfl (Holds.own 2 rfl rfl)) fun a E => l_storeB E ok 0 rfl rfl rfl inf_86 rfl rfl ⟨rfl, rfl, trivial⟩ rfl rfl fun w ok => wpList_nil ?_
    refine t_norm <| wp_ret ?_
    exact fin hF ⟨m0, [vi t_0.a, vi r23], le_m0, ok.drop.drop.drop, E.d, ⟨rv_c (cs := [vi t_0.a, vi r23]) E ok rfl agg_86 rfl (Holds.own 0 rfl rfl), trivial⟩, ⟨rfl, r1, r25⟩⟩
   refine c_region <| fv E fo_86_1 rfl fun a E => ld E ok one_3 2 rfl rfl rfl fun a E => fv E fo_86_0 rfl fun a E => l_storeB E ok 2 rfl rfl rfl inf_3 rfl rfl ⟨rfl, trivial⟩ rfl rfl fun w ok => wpList_nil <| b_norm <| t_norm ?_
   refine sg <| lv E ok (y_loadAgg (cs := [vi r23, vi r23]) agg_86 rfl rfl (Holds.own 2 rfl rfl)) fun a E => l_storeB E ok 0 rfl rfl rfl inf_86 rfl rfl ⟨rfl, rfl, trivial⟩ rfl rfl fun w ok => wn <| wp_ret ?_
   exact fin hF ⟨m0, [vi r23, vi r23], le_m0, ok.drop.drop.drop, E.d, ⟨rv_c (cs := [vi r23, vi r23]) E ok rfl agg_86 rfl (Holds.own 0 rfl rfl), trivial⟩, ⟨rfl, r25, r25⟩⟩
 refine wp_seq <| sg <| lw E (y_eql rfl rfl) fun a E => aw E rfl fun a E => ?_
 obtain ⟨o28, hJ, hF⟩ := bnd hF
 refine c_mono (Q' := fun e a w => e = .normal ∧ Ok u m0 ([(b9, oc 86 [vi 0, vi 0])] :: [(b8, oc 69 [vi r_1.Operand, vi r_1.Mod, vb r_1.Not, c5])] :: [(b7, oc 86 [vi t_0.a, vi t_0.b])] :: S) w ∧ Env 75 a [(2, vb behind_2), (3, vi digit_3), (4, vp b7), (5, vp b8), (8, vp b9), (52, vb o28)]) ?_ ?_
 ·replace hF := hJ
  clear hJ
  refine cf E rfl hF (fun hc29 hF => ?_) fun hc29 hF => ?_
  ·refine wp_skip ?_
   obtain rfl := sj hF
   exact ⟨rfl, ⟨ok, E.keep [2, 3, 4, 5, 8, 52]⟩⟩
  refine c_region <| lw E (y_eql rfl rfl) fun a E => av E rfl fun a E => wpList_nil ?_
  obtain rfl := sj hF
  exact ⟨rfl, ⟨ok, E.keep [2, 3, 4, 5, 8, 52]⟩⟩
 clear hJ
 intro e a w hO
 obtain ⟨rfl, ok, E⟩ := hO
 refine t_norm <| cf E rfl hF (fun hc30 hF => ?_) fun hc30 hF => ?_
 rotate_left
 ·refine wp_skip <| b_norm <| t_norm <| sg <| lv E ok (y_loadAgg (cs := [vi t_0.a, vi t_0.b]) agg_86 rfl rfl (Holds.own 2 rfl rfl)) fun a E => l_storeB E ok 0 rfl rfl rfl inf_86 rfl rfl ⟨rfl, rfl, trivial⟩ rfl rfl fun w ok => wpList_nil ?_
  refine t_norm <| wp_ret ?_
  exact fin hF ⟨m0, [vi t_0.a, vi t_0.b], le_m0, ok.drop.drop.drop, E.d, ⟨rv_c (cs := [vi t_0.a, vi t_0.b]) E ok rfl agg_86 rfl (Holds.own 0 rfl rfl), trivial⟩, ⟨rfl, r1, r2⟩⟩
 refine sg <| mv E rfl fun a E => wn <| cf E rfl hF (fun hc31 hF => ?_) fun hc31 hF => ?_
 rotate_left
 ·refine wp_skip <| b_norm <| t_norm <| sg <| lv E ok (y_loadAgg (cs := [vi t_0.a, vi t_0.b]) agg_86 rfl rfl (Holds.own 2 rfl rfl)) fun a E => l_storeB E ok 0 rfl rfl rfl inf_86 rfl rfl ⟨rfl, rfl, trivial⟩ rfl rfl fun w ok => wpList_nil ?_
  refine t_norm <| wp_ret ?_
  exact fin hF ⟨m0, [vi t_0.a, vi t_0.b], le_m0, ok.drop.drop.drop, E.d, ⟨rv_c (cs := [vi t_0.a, vi t_0.b]) E ok rfl agg_86 rfl (Holds.own 0 rfl rfl), trivial⟩, ⟨rfl, r1, r2⟩⟩
 refine sg <| lv E ok (y_loadAgg (cs := [vi r_1.Operand, vi r_1.Mod, vb r_1.Not, c5]) agg_69 rfl rfl (Holds.own 1 rfl rfl)) fun a E => fv E fo_86_1 rfl fun a E => ld E ok one_3 2 rfl rfl rfl fun a E => lw E (y_mulw rfl rfl) fun a E => mv E rfl fun a E => lw E (y_addw rfl rfl) fun a E => ?_
 obtain ⟨r32, e33, hF⟩ := bnd hF
 refine l_call E go_120 rfl (decide_reduced_w N _ r_1 ⟨_, rfl, r3, r4, h6⟩ (IntKind.wrap .i64 ((IntKind.wrap .i64 ((10 : Int) * t_0.b)) + digit_3)) (InR.wrap _ _) e33 hG ok) rfl rfl ?_
 rintro _ w ⟨⟨rfl, ok⟩, r34⟩
 refine ⟨_, rfl, fun a E => ?_⟩
 refine fv E fo_86_1 rfl fun a E => l_storeB E ok 2 rfl rfl rfl inf_3 rfl rfl ⟨rfl, trivial⟩ rfl rfl fun w ok => wn <| sg <| mv E rfl fun a E => lw E (y_neq rfl rfl) fun a E => ?_
 refine mv E rfl fun a E => bsplit (digit_3 != 0) (fun hc35 => ?_) (fun hc35 => ?_)
 ·replace hF := cond_t hc35 hF
  replace E := E.upd 66 hc35 rfl
  refine ls E fun a E => ls E fun a E => ls E fun a E => pt E rfl rfl fun a E => wn <| c_if E rfl (fun _ => ?_) (fun h => by cases h)
  refine c_region <| fv E fo_86_1 rfl fun a E => ld E ok one_3 2 rfl rfl rfl fun a E => fv E fo_86_0 rfl fun a E => l_storeB E ok 2 rfl rfl rfl inf_3 rfl rfl ⟨rfl, trivial⟩ rfl rfl fun w ok => wpList_nil <| b_norm <| t_norm ?_
  refine sg <| lv E ok (y_loadAgg (cs := [vi r32, vi r32]) agg_86 rfl rfl (Holds.own 2 rfl rfl)) fun a E => l_storeB E ok 0 rfl rfl rfl inf_86 rfl rfl ⟨rfl, rfl, trivial⟩ rfl rfl fun w ok => wn <| wp_ret ?_
  exact fin hF ⟨m0, [vi r32, vi r32], le_m0, ok.drop.drop.drop, E.d, ⟨rv_c (cs := [vi r32, vi r32]) E ok rfl agg_86 rfl (Holds.own 0 rfl rfl), trivial⟩, ⟨rfl, r34, r34⟩⟩
 replace hF := cond_f hc35 hF
 replace E := E.upd 66 hc35 rfl
 refine fv E fo_69_0 rfl fun a E => ld E ok one_3 1 rfl rfl rfl fun a E => lw E (y_eql rfl rfl) fun a E => pf E rfl rfl fun a E => wn <| cf E rfl hF (fun hc36 hF => ?_) fun hc36 hF => ?_
 rotate_left
 ·refine wp_skip <| b_norm <| t_norm <| sg <| lv E ok (y_loadAgg (cs := [vi t_0.a, vi r32]) agg_86 rfl rfl (Holds.own 2 rfl rfl)) fun a E => l_storeB E ok 0 rfl rfl rfl inf_86 rfl rfl ⟨rfl, rfl, trivial⟩ rfl rfl fun w ok => wpList_nil ?_
  refine t_norm <| wp_ret ?_
  exact fin hF ⟨m0, [vi t_0.a, vi r32], le_m0, ok.drop.drop.drop, E.d, ⟨rv_c (cs := [vi t_0.a, vi r32]) E ok rfl agg_86 rfl (Holds.own 0 rfl rfl), trivial⟩, ⟨rfl, r1, r34⟩⟩
 refine c_region <| fv E fo_86_1 rfl fun a E => ld E ok one_3 2 rfl rfl rfl fun a E => fv E fo_86_0 rfl fun a E => l_storeB E ok 2 rfl rfl rfl inf_3 rfl rfl ⟨rfl, trivial⟩ rfl rfl fun w ok => wpList_nil <| b_norm <| t_norm ?_
 refine sg <| lv E ok (y_loadAgg (cs := [vi r32, vi r32]) agg_86 rfl rfl (Holds.own 2 rfl rfl)) fun a E => l_storeB E ok 0 rfl rfl rfl inf_86 rfl rfl ⟨rfl, rfl, trivial⟩ rfl rfl fun w ok => wn <| wp_ret ?_
 exact fin hF ⟨m0, [vi r32, vi r32], le_m0, ok.drop.drop.drop, E.d, ⟨rv_c (cs := [vi r32, vi r32]) E ok rfl agg_86 rfl (Holds.own 0 rfl rfl), trivial⟩, ⟨rfl, r34, r34⟩⟩
def internal_strconv_FormatBool_R (u : World) (m0 : Mem) (S : Segs) (r : (List UInt8)) (a : Act) (w : World) : Prop :=
 Ok u m0 S w ∧ a.defers = [] ∧ RVs Tryz.prog a w [.t 2 (.string (bs r))] ∧ r.length ≤ LIMS
theorem internal_strconv_FormatBool_w (N : Nat) (b_0 : Bool) {r : (List UInt8)} (hF : internal_strconv_FormatBool N b_0 = some r) (hG : Glob u) (ok : Ok u m0 S w) :
  Calls Tryz.prog 166 [vb b_0].toArray w fun e w' => (e = .returned (.string (bs r)) ∧ Ok u m0 S w') ∧ r.length ≤ LIMS := by
 unfold internal_strconv_FormatBool at hF
 refine en (internal_strconv_FormatBool_R u m0 S) r Tryz.func166 rfl rfl rfl (by rintro a w ⟨ok, hd, hrv, h0⟩; exact c_ret2 [.t 2 (.string (bs r))] hd rfl hrv ⟨⟨rfl, ok⟩, h0⟩) fun fin a E => sg <| aw E rfl fun a E => wp_seq <| wp_seq ?_
 refine c_region <| mv E rfl fun a E => wn <| cf E rfl hF (fun hc1 hF => ?_) fun hc1 hF => ?_
 ·refine sg <| aw E rfl fun a E => wp_ret <| t_ret ?_
  exact fin hF ⟨ok, E.d, ⟨rv_t E rfl, trivial⟩, (show ([116, 114, 117, 101] : List UInt8).length ≤ LIMS by decide)⟩
 refine wp_skip <| t_norm <| sg <| aw E rfl fun a E => wp_ret ?_
 exact fin hF ⟨ok, E.d, ⟨rv_t E rfl, trivial⟩, (show ([102, 97, 108, 115, 101] : List UInt8).length ≤ LIMS by decide)⟩
def strconv_FormatBool_R (u : World) (m0 : Mem) (S : Segs) (r : (List UInt8)) (a : Act) (w : World) : Prop :=
 Ok u m0 S w ∧ a.defers = [] ∧ RVs Tryz.prog a w [.t 2 (.string (bs r))] ∧ r.length ≤ LIMS
theorem strconv_FormatBool_w (N : Nat) (b_0 : Bool) {r : (List UInt8)} (hF : strconv_FormatBool N b_0 = some r) (hG : Glob u) (ok : Ok u m0 S w) :
  Calls Tryz.prog 150 [vb b_0].toArray w fun e w' => (e = .returned (.string (bs r)) ∧ Ok u m0 S w') ∧ r.length ≤ LIMS := by
 unfold strconv_FormatBool at hF
 refine en (strconv_FormatBool_R u m0 S) r Tryz.func150 rfl rfl rfl (by rintro a w ⟨ok, hd, hrv, h0⟩; exact c_ret2 [.t 2 (.string (bs r))] hd rfl hrv ⟨⟨rfl, ok⟩, h0⟩) fun fin a E => sg <| aw E rfl fun a E => sg ?_
 refine mv E rfl fun a E => ?_
 obtain ⟨r1, e2, hF⟩ := bnd hF
 refine l_call E go_166 rfl (internal_strconv_FormatBool_w N b_0 e2 hG ok) rfl rfl ?_
 rintro _ w ⟨⟨rfl, ok⟩, l3⟩
 refine ⟨_, rfl, fun a E => ?_⟩
 refine aw E rfl fun a E => wp_ret ?_
 exact fin hF ⟨ok, E.d, ⟨rv_t E rfl, trivial⟩, l3⟩
end Go.Proofs.YtidfofhmnlhfjaaGreatDoor
namespace Go.Proofs.YtidfofhmnlhfjaaGreatDoor
open Go.X
def decide_classes_fractions_b4 (N : Nat) (x133 : State) (o154 : Classes) (x_204 : Int) (key_308 : List UInt8) (x_309 : Int) (x_310 : State) : Option (((List UInt8) × Int × State) ⊕ ((State × (List UInt8)))) :=
  bif (decide (x_309 < (o154.l.length : Int))) then
    (idx o154.l x_309).bind fun x319 =>
    (decide_onWhole N x319).bind fun r333 =>
    (show Option State from
      bif (!r333) then
        (show Option State from
          (idx x133.trackers x_309).bind fun x348 =>
          (decide_tracker_read N x348 x319 true x_204).bind fun r359 =>
          (idx x_310.trackers x_309).bind fun _x366 =>
          (setI x_310.trackers x_309 r359).bind fun l372 =>
          some (State.mk x_310.s l372 x_310.integer)).bind fun o342 =>
        some o342
      else
        some x_310).bind fun o335 =>
    (idx o335.trackers x_309).bind fun x406 =>
    (strconv_ItoaT N x406.a).bind fun r418 =>
    (cat ([32]) r418).bind fun s421 =>
    (cat s421 ([32])).bind fun s423 =>
    (idx o335.trackers x_309).bind fun x425 =>
    (strconv_ItoaT N x425.b).bind fun r437 =>
    (cat s423 r437).bind fun s440 =>
    (cat key_308 s440).bind fun s442 =>
    some (.inl (s442, (x_309 + 1), o335))
  else
    some (.inr (x_310, key_308))
def decide_classes_fractions_b3 (N : Nat) (x133 : State) (o154 : Classes) (next_203 : List (State)) (x_204 : Int) (known_205 : List (List UInt8 × Bool)) : Option (((List (State)) × Int × (List (List UInt8 × Bool))) ⊕ (((List (State)) × (List (List UInt8 × Bool))))) :=
  bif (decide (x_204 < 10)) then
    (show Option State from
      (strconv_ItoaT N x_204).bind fun r221 =>
      (cat x133.s r221).bind fun s224 =>
      (mk (o154.l.length : Int) ((Tracker.mk 0 0) : Tracker)).bind fun l226 =>
      bif x133.integer then
        some (State.mk s224 l226 (x_204 == 0))
      else
        some (State.mk s224 l226 false)).bind fun o215 =>
    (strconv_FormatBool N o215.integer).bind fun r289 =>
    (iter (fun s => decide_classes_fractions_b4 N x133 o154 x_204 s.1 s.2.1 s.2.2) N (r289, 0, o215)).bind fun o300 =>
    bif (!((mget known_205 o300.2).getD false)) then
      (mset known_205 o300.2 true).bind fun l455 =>
      (app next_203 ([o300.1] : List (State))).bind fun l464 =>
      some (.inl (l464, (x_204 + 1), l455))
    else
      some (.inl (next_203, (x_204 + 1), known_205))
  else
    some (.inr (next_203, known_205))
def decide_classes_fractions_b2 (N : Nat) (level_57 : List (State)) (next_112 : List (State)) (x_113 : Int) (x_114 : Classes) (known_115 : List (List UInt8 × Bool)) : Option (((List (State)) × Int × Classes × (List (List UInt8 × Bool))) ⊕ ((Classes × (List (State))))) :=
  bif (decide (x_113 < (level_57.length : Int))) then
    (idx level_57 x_113).bind fun x133 =>
    (decide_classes_bits N true x133.trackers x_114).bind fun r147 =>
    (show Option Int from
      bif (!x133.integer) then
        some (ibits .or .u64 r147 9223372036854775808)
      else
        some r147).bind fun o150 =>
    (show Option Classes from
      (decide_keep N x_114.fraction (Part.mk o150 x133.s)).bind fun r164 =>
      some (Classes.mk x_114.l x_114.wholes r164)).bind fun o154 =>
    (iter (fun s => decide_classes_fractions_b3 N x133 o154 s.1 s.2.1 s.2.2) N (next_112, 0, known_115)).bind fun o194 =>
    some (.inl (o194.1, (x_113 + 1), o154, o194.2))
  else
    some (.inr (x_114, next_112))
def decide_classes_fractions_b1 (N : Nat) (level_57 : List (State)) (n_58 : Int) (x_59 : Classes) : Option (((List (State)) × Int × Classes) ⊕ Classes) :=
  bif (decide (n_58 ≤ 6)) then
    (iter (fun s => decide_classes_fractions_b2 N level_57 s.1 s.2.1 s.2.2.1 s.2.2.2) N ([], 0, x_59, ([] : List (List UInt8 × Bool)))).bind fun o95 =>
    some (.inl (o95.2, (IntKind.wrap .i64 (n_58 + 1)), o95.1))
  else
    some (.inr x_59)
def decide_classes_fractions (N : Nat) (x0 : Classes) : Option Classes :=
  (mk (x0.l.length : Int) ((Tracker.mk 0 0) : Tracker)).bind fun l17 =>
  (iter (fun s => decide_classes_fractions_b1 N s.1 s.2.1 s.2.2) N (([(State.mk ([]) l17 true)] : List (State)), 0, x0)).bind fun o43 =>
  some o43
def decide_newClasses_b2 (N : Nat) (l_0 : List (Relation)) (x_27 : Int) (x_58 : Int) (trackers_59 : List (Tracker)) : Option ((Int × (List (Tracker))) ⊕ (((List (Tracker))))) :=
  bif (decide (x_58 < (l_0.length : Int))) then
    (idx l_0 x_58).bind fun x65 =>
    (decide_onWhole N x65).bind fun r79 =>
    bif r79 then
      (decide_reduced N x65 x_27).bind fun r82 =>
      (idx trackers_59 x_58).bind fun x85 =>
      (setI trackers_59 x_58 (Tracker.mk r82 x85.b)).bind fun l93 =>
      some (.inl ((x_58 + 1), l93))
    else
      some (.inl ((x_58 + 1), trackers_59))
  else
    some (.inr trackers_59)
def decide_newClasses_b1 (N : Nat) (l_0 : List (Relation)) (x_27 : Int) (x_28 : Classes) : Option ((Int × Classes) ⊕ Classes) :=
  bif (decide (x_27 < 1000)) then
    (strconv_ItoaT N x_27).bind fun r40 =>
    (mk (l_0.length : Int) ((Tracker.mk 0 0) : Tracker)).bind fun l43 =>
    (iter (fun s => decide_newClasses_b2 N l_0 x_27 s.1 s.2) N (0, l43)).bind fun o53 =>
    (show Option Classes from
      (decide_classes_bits N false o53 x_28).bind fun r112 =>
      (decide_keep N x_28.wholes (Part.mk r112 r40)).bind fun r115 =>
      some (Classes.mk x_28.l r115 x_28.fraction)).bind fun o100 =>
    some (.inl ((x_27 + 1), o100))
  else
    some (.inr x_28)
def decide_newClasses (N : Nat) (l_0 : List (Relation)) : Option (Option (Classes)) :=
  (iter (fun s => decide_newClasses_b1 N l_0 s.1 s.2) N (0, (Classes.mk l_0 ([]) ([])))).bind fun o16 =>
  (decide_classes_fractions N o16).bind fun r149 =>
  some (some r149)
def decide_classes_holds (N : Nat) (x_0 : Option (Classes)) (w_1 : Part) (f_2 : Part) (i_3 : Int) : Option Bool :=
  (x_0).bind fun y7 =>
  (idx y7.l i_3).bind fun x22 =>
  bif (x22.Operand == 1) then
    bif ((ibits .and .u64 f_2.bits 9223372036854775808) != 0) then
      some x22.Not
    else
      (decide_onWhole N x22).bind fun r38 =>
      bif r38 then
        (ishr .u64 w_1.bits i_3).bind fun q41 =>
        some ((ibits .and .u64 q41 1) == 1)
      else
        (ishr .u64 f_2.bits i_3).bind fun q43 =>
        some ((ibits .and .u64 q43 1) == 1)
  else
    (decide_onWhole N x22).bind fun r45 =>
    bif r45 then
      (ishr .u64 w_1.bits i_3).bind fun q48 =>
      some ((ibits .and .u64 q48 1) == 1)
    else
      (ishr .u64 f_2.bits i_3).bind fun q50 =>
      some ((ibits .and .u64 q50 1) == 1)
def decide_classes_first_1 (N : Nat) (i_0 : Int) (x0 : Option (Classes)) (x1 : Part) (x2 : Part) : Option Bool :=
  (decide_classes_holds N x0 x1 x2 i_0).bind fun r7 =>
  some r7
def decide_search_1_1 (N : Nat) (k_0 : Int) (x1 : List (Int)) (x2 : Int) (x3 : Option (Classes)) (x4 : Part) (x5 : Part) : Option Bool :=
  (show Option Bool from
    (idx x1 x2).bind fun x12 =>
    (decide_classes_first_1 N (IntKind.wrap .i64 (x12 + k_0)) x3 x4 x5).bind fun r23 =>
    some r23).bind fun o11 =>
  some o11
def decide_holds__97_b2 (N : Nat) (x1 : List (Int)) (x2 : Int) (x3 : Option (Classes)) (x4 : Part) (x5 : Part) (x22 : List (Relation)) (at_38 : Int) (all_39 : Bool) (x_40 : Int) : Option ((Int × Bool × Int) ⊕ ((Int × Bool))) :=
  bif (decide (x_40 < (x22.length : Int))) then
    bif all_39 then
      (decide_search_1_1 N at_38 x1 x2 x3 x4 x5).bind fun r45 =>
      some (.inl ((IntKind.wrap .i64 (at_38 + 1)), r45, (x_40 + 1)))
    else
      some (.inl ((IntKind.wrap .i64 (at_38 + 1)), false, (x_40 + 1)))
  else
    some (.inr (at_38, all_39))
def decide_holds__97_b1 (N : Nat) (c_0 : List (List (Relation))) (x1 : List (Int)) (x2 : Int) (x3 : Option (Classes)) (x4 : Part) (x5 : Part) (at_16 : Int) (found_17 : Bool) (x_18 : Int) : Option ((Int × Bool × Int) ⊕ Bool) :=
  bif (decide (x_18 < (c_0.length : Int))) then
    (idx c_0 x_18).bind fun x22 =>
    (iter (fun s => decide_holds__97_b2 N x1 x2 x3 x4 x5 x22 s.1 s.2.1 s.2.2) N (at_16, true, 0)).bind fun o35 =>
    bif found_17 then
      some (.inl (o35.1, true, (x_18 + 1)))
    else
      some (.inl (o35.1, o35.2, (x_18 + 1)))
  else
    some (.inr found_17)
def decide_holds__97 (N : Nat) (c_0 : List (List (Relation))) (x1 : List (Int)) (x2 : Int) (x3 : Option (Classes)) (x4 : Part) (x5 : Part) : Option Bool :=
  (iter (fun s => decide_holds__97_b1 N c_0 x1 x2 x3 x4 x5 s.1 s.2.1 s.2.2) N (0, false, 0)).bind fun o13 =>
  some o13
def decide_Disjoint_1 (_N : Nat) (l_0 : List (Bool)) : Option Bool :=
  (idx l_0 0).bind fun x1 =>
  bif x1 then
    (idx l_0 1).bind fun x11 =>
    some x11
  else
    some false
def decide_search_1__128_b1 (N : Nat) (x0 : Option (Classes)) (x1 : Part) (x2 : Part) (x3 : List (List (List (Relation)))) (x4 : List (Int)) (x_28 : Int) (conds_29 : List (Bool)) : Option ((Int × (List (Bool))) ⊕ (((List (Bool))))) :=
  bif (decide (x_28 < (x3.length : Int))) then
    (idx x3 x_28).bind fun x35 =>
    (show Option ((List (Bool))) from
      (decide_holds__97 N x35 x4 x_28 x0 x1 x2).bind fun r51 =>
      (idx conds_29 x_28).bind fun _x53 =>
      (setI conds_29 x_28 r51).bind fun l59 =>
      some l59).bind fun o47 =>
    some (.inl ((x_28 + 1), o47))
  else
    some (.inr conds_29)
def decide_search_1__128 (N : Nat) (x0 : Option (Classes)) (x1 : Part) (x2 : Part) (x3 : List (List (List (Relation)))) (x4 : List (Int)) : Option Bool :=
  (mk (x3.length : Int) (false : Bool)).bind fun l13 =>
  (iter (fun s => decide_search_1__128_b1 N x0 x1 x2 x3 x4 s.1 s.2) N (0, l13)).bind fun o23 =>
  (decide_Disjoint_1 N o23).bind fun r80 =>
  some r80
def decide_before_b1 (_N : Nat) (a_0 : List UInt8) (b_1 : List UInt8) (x_5 : Int) : Option (Int ⊕ ((Unit ⊕ Bool))) :=
  bif (decide (x_5 < (a_0.length : Int))) then
    (idx a_0 x_5).bind fun c8 =>
    (idx b_1 x_5).bind fun c10 =>
    bif ((c8.toNat : Int) != (c10.toNat : Int)) then
      (idx b_1 x_5).bind fun c13 =>
      bif ((c13.toNat : Int) == 46) then
        some (.inr (.inr true))
      else
        (idx a_0 x_5).bind fun c16 =>
        bif ((c16.toNat : Int) != 46) then
          (idx a_0 x_5).bind fun c19 =>
          (idx b_1 x_5).bind fun c21 =>
          some (.inr (.inr (decide ((c19.toNat : Int) < (c21.toNat : Int)))))
        else
          some (.inr (.inr false))
    else
      some (.inl (x_5 + 1))
  else
    some (.inr (.inl ()))
def decide_before (N : Nat) (a_0 : List UInt8) (b_1 : List UInt8) : Option Bool :=
  bif ((a_0.length : Int) != (b_1.length : Int)) then
    some (decide ((a_0.length : Int) < (b_1.length : Int)))
  else
    (iter (fun s => decide_before_b1 N a_0 b_1 s) N 0).bind fun o3 =>
    Sum.elim (fun _o3 =>
      some false)
    (fun o3 =>
      some o3) o3
def decide_classes_first__96_b2 (N : Nat) (x_0 : Option (Classes)) (x0 : List (List (List (Relation)))) (x1 : List (Int)) (x33 : Part) (y45 : Classes) (found_65 : List UInt8) (ok_66 : Bool) (x_67 : Int) : Option (((List UInt8) × Bool × Int) ⊕ (((List UInt8) × Bool))) :=
  bif (decide (x_67 < (y45.fraction.length : Int))) then
    (idx y45.fraction x_67).bind fun x71 =>
    (show Option ((List UInt8)) from
      bif (x71.text != ([])) then
        (cat ([46]) x71.text).bind fun s86 =>
        (cat x33.text s86).bind fun s88 =>
        some s88
      else
        some x33.text).bind fun o83 =>
    bif (!ok_66) then
      (decide_search_1__128 N x_0 x33 x71 x0 x1).bind fun r92 =>
      bif r92 then
        some (.inl (o83, true, (x_67 + 1)))
      else
        some (.inl (found_65, ok_66, (x_67 + 1)))
    else
      (decide_before N o83 found_65).bind fun r95 =>
      bif r95 then
        (decide_search_1__128 N x_0 x33 x71 x0 x1).bind fun r98 =>
        bif r98 then
          some (.inl (o83, true, (x_67 + 1)))
        else
          some (.inl (found_65, ok_66, (x_67 + 1)))
      else
        some (.inl (found_65, ok_66, (x_67 + 1)))
  else
    some (.inr (found_65, ok_66))
def decide_classes_first__96_b1 (N : Nat) (x_0 : Option (Classes)) (x0 : List (List (List (Relation)))) (x1 : List (Int)) (y7 : Classes) (found_27 : List UInt8) (ok_28 : Bool) (x_29 : Int) : Option (((List UInt8) × Bool × Int) ⊕ (((List UInt8) × Bool))) :=
  bif (decide (x_29 < (y7.wholes.length : Int))) then
    (idx y7.wholes x_29).bind fun x33 =>
    (x_0).bind fun y45 =>
    (iter (fun s => decide_classes_first__96_b2 N x_0 x0 x1 x33 y45 s.1 s.2.1 s.2.2) N (found_27, ok_28, 0)).bind fun o62 =>
    some (.inl (o62.1, o62.2, (x_29 + 1)))
  else
    some (.inr (found_27, ok_28))
def decide_classes_first__96 (N : Nat) (x_0 : Option (Classes)) (x0 : List (List (List (Relation)))) (x1 : List (Int)) : Option ((List UInt8) × Bool) :=
  (x_0).bind fun y7 =>
  (iter (fun s => decide_classes_first__96_b1 N x_0 x0 x1 y7 s.1 s.2.1 s.2.2) N ([], false, 0)).bind fun o24 =>
  some (o24.1, o24.2)
def decide_search__62_b1 (N : Nat) (l_0 : List (List (List (Relation)))) (all_28 : List (Relation)) (x_29 : Int) (x_30 : List (Int)) : Option (((List (Relation)) × Int × (List (Int))) ⊕ (((List (Int)) × (List (Relation))))) :=
  bif (decide (x_29 < (l_0.length : Int))) then
    (idx l_0 x_29).bind fun x40 =>
    (idx x_30 x_29).bind fun _x51 =>
    (setI x_30 x_29 (all_28.length : Int)).bind fun l57 =>
    (decide_relations N x40).bind fun r61 =>
    (app all_28 r61).bind fun l66 =>
    some (.inl (l66, (x_29 + 1), l57))
  else
    some (.inr (x_30, all_28))
def decide_search__62 (N : Nat) (l_0 : List (List (List (Relation)))) : Option ((List UInt8) × Bool) :=
  (mk (l_0.length : Int) (0 : Int)).bind fun l3 =>
  (iter (fun s => decide_search__62_b1 N l_0 s.1 s.2.1 s.2.2) N ([], 0, l3)).bind fun o19 =>
  (decide_newClasses N o19.2).bind fun r80 =>
  (decide_classes_first__96 N r80 l_0 o19.1).bind fun r85 =>
  some (r85.1, r85.2)
def decide_Disjoint_b1 (_N : Nat) (l_0 : List (Rule)) (conds_13 : List (List (List (Relation)))) (x_14 : Int) : Option (((List (List (List (Relation)))) × Int) ⊕ (((List (List (List (Relation))))))) :=
  bif (decide (x_14 < (l_0.length : Int))) then
    (idx l_0 x_14).bind fun x20 =>
    (app conds_13 ([x20.Cond] : List (List (List (Relation))))).bind fun l36 =>
    some (.inl (l36, (x_14 + 1)))
  else
    some (.inr conds_13)
def decide_Disjoint_b3 (N : Nat) (l_0 : List (Rule)) (o8 : ((List (List (List (Relation)))))) (x_55 : Int) (j_61 : Int) : Option (Int ⊕ ((Unit ⊕ (Int × Int × (List UInt8) × Int)))) :=
  bif (decide (j_61 < (l_0.length : Int))) then
    (show Option ((List UInt8) × Bool) from
      (idx o8 x_55).bind fun x66 =>
      (idx o8 j_61).bind fun x78 =>
      (decide_search__62 N ([x66, x78] : List (List (List (Relation))))).bind fun r98 =>
      some (r98.1, r98.2)).bind fun o64 =>
    bif o64.2 then
      some (.inr (.inr (x_55, j_61, o64.1, 19)))
    else
      some (.inl (j_61 + 1))
  else
    some (.inr (.inl ()))
def decide_Disjoint_b2 (N : Nat) (l_0 : List (Rule)) (o8 : ((List (List (List (Relation)))))) (x_55 : Int) : Option (Int ⊕ ((Unit ⊕ (Int × Int × (List UInt8) × Int)))) :=
  bif (decide (x_55 < (l_0.length : Int))) then
    (iter (fun s => decide_Disjoint_b3 N l_0 o8 x_55 s) N (x_55 + 1)).bind fun o59 =>
    Sum.elim (fun _o59 =>
      some (.inl (x_55 + 1)))
    (fun o59 =>
      some (.inr (.inr o59))) o59
  else
    some (.inr (.inl ()))
def decide_Disjoint (N : Nat) (l_0 : List (Rule)) : Option (Int × Int × (List UInt8) × Int) :=
  (iter (fun s => decide_Disjoint_b1 N l_0 s.1 s.2) N ([], 0)).bind fun o8 =>
  (decide_valid N o8).bind fun r49 =>
  bif (!r49) then
    some (0, 0, [], 1)
  else
    (iter (fun s => decide_Disjoint_b2 N l_0 o8 s) N 0).bind fun o53 =>
    Sum.elim (fun _o53 =>
      some (0, 0, [], 0))
    (fun o53 =>
      some o53) o53
def calqueref08_longest_b1 (_N : Nat) (s_0 : List UInt8) (from_1 : Int) (to_2 : Int) (n_4 : Int) : Option (Int ⊕ Int) :=
  bif (decide (n_4 < (s_0.length : Int))) then
    (idx s_0 n_4).bind fun c7 =>
    bif (decide ((c7.toNat : Int) ≥ from_1)) then
      (idx s_0 n_4).bind fun c10 =>
      bif (decide ((c10.toNat : Int) ≤ to_2)) then
        some (.inl (n_4 + 1))
      else
        some (.inr n_4)
    else
      some (.inr n_4)
  else
    some (.inr n_4)
def calqueref08_longest (N : Nat) (s_0 : List UInt8) (from_1 : Int) (to_2 : Int) : Option Int :=
  (iter (fun s => calqueref08_longest_b1 N s_0 from_1 to_2 s) N 0).bind fun o2 =>
  some o2
end Go.Proofs.YtidfofhmnlhfjaaGreatDoor
namespace Go.Proofs.YtidfofhmnlhfjaaGreatDoor
open Go.X
variable {u : World} {m0 : Mem} {S : Segs} {w : World}
set_option maxHeartbeats 4000000
set_option maxRecDepth 100000
def decide_classes_fractions_R (u : World) (m0 : Mem) (S : Segs) (pb0 : Nat) (x0 : Classes) (c1 : Value) (c3 : Value) (M4 : List (Nat × Obj)) (c6 : Value) (M7 : List (Nat × Obj)) (r : Classes) (a : Act) (w : World) : Prop :=
 ∃ m1 c9 c11 M12 c14 M15, m0.le m1 ∧ Ok u m1 ([(pb0, oc 175 [c9, c11, c14])] :: M12 :: M15 :: S) w ∧ a.defers = [] ∧ RVs Tryz.prog a w [] ∧ (pL 4 pRelation) m1 [c9] r.l ∧ ORow 181 2 pPart m1 c11 r.wholes M12 ∧ ORow 181 2 pPart m1 c14 r.fraction M15
theorem decide_classes_fractions_w (N : Nat) {pb0 : Nat} {c1 : Value} {c3 : Value} {M4 : List (Nat × Obj)} {c6 : Value} {M7 : List (Nat × Obj)} (x0 : Classes) (h2 : (pL 4 pRelation) m0 [c1] x0.l) (h5 : ORow 181 2 pPart m0 c3 x0.wholes M4) (h8 : ORow 181 2 pPart m0 c6 x0.fraction M7) {r : Classes} (hF : decide_classes_fractions N x0 = some r) (hG : Glob u) (hTb : Tab u) (ok : Ok u m0 ([(pb0, oc 175 [c1, c3, c6])] :: M4 :: M7 :: S) w) :
  Calls Tryz.prog 126 [vp pb0].toArray w fun e w' => ∃ m1 c9 c11 M12 c14 M15, e = .returned (.tuple [].toArray) ∧ m0.le m1 ∧ Ok u m1 ([(pb0, oc 175 [c9, c11, c14])] :: M12 :: M15 :: S) w' ∧ (pL 4 pRelation) m1 [c9] r.l ∧ ORow 181 2 pPart m1 c11 r.wholes M12 ∧ ORow 181 2 pPart m1 c14 r.fraction M15 := by
 have le_m0 := Mem.le.refl m0
 unfold decide_classes_fractions at hF
 refine en (decide_classes_fractions_R u m0 S pb0 x0 c1 c3 M4 c6 M7) r Tryz.func126 rfl rfl rfl (by rintro a w ⟨m1, c9, c11, M12, c14, M15, hle, ok, hd, hrv, h0, h1, h2⟩; exact c_ret2 [] hd rfl hrv ⟨m1, c9, c11, M12, c14, M15, rfl, hle, ok, h0, h1, h2⟩) fun fin a E => sg <| mv E rfl fun a E => lw E (y_nilCheck rfl) fun a E => fv E fo_175_0 rfl fun a E => ld E ok one_66 0 rfl rfl rfl fun a E => lv E ok (y_lenL sl_66 h2 rfl) fun a E => ?_
 obtain ⟨l17, e18, hF⟩ := bnd hF
 refine l_make (R := pTracker) E ok sl_176 zero_86 rfl ⟨rfl, (ir 0), (ir 0)⟩ rfl e18 rfl rfl fun c19 M20 a w E ok h21 => lw E (y_build (ps := [(0, .const (vs ([]))), (1, .tmp 19), (2, .const (vb true))]) (qs := [(0, [(vs ([]))]), (1, [c19]), (2, [vb true])]) (cs := [(vs ([])), c19, vb true]) zero_199 places_199 rfl ⟨rfl, rfl, rfl, ⟨rfl, (ORow.cells h21), rfl, ⟨rfl, rfl, rfl, trivial⟩⟩⟩ rfl) fun a E => ?_
 obtain ⟨m22, hle, ok, hfz⟩ := (ok.frs 0 rfl).freeze
 have h23 := ORow.froz mTracker h21 hle hfz (by decide)
 have le_m0 := le_m0.trans hle
 have h2 := (mL mRelation).up hle h2
 have h5 := ORow.up mPart hle h5
 have h8 := ORow.up mPart hle h8
 refine l_slit (R := pState) (xo := [.tmp 20]) (xs := ([(State.mk ([]) l17 true)] : List (State))) E ok sl_200 zero_199 rfl ⟨⟨_, rfl, rfl, ⟨_, rfl, (show ([] : List UInt8).length ≤ LIMS by decide), h23⟩⟩, trivial⟩ rfl rfl rfl rfl fun c24 M25 a w E ok h26 => aw E rfl fun a E => sg <| av E rfl fun a E => wpList_nil ?_
 refine t_norm <| wp_block ?_
 obtain ⟨o43, hL, hF⟩ := bnd hF
 refine c_loop _ (fun (s : (List (State)) × Int × Classes) a w => ∃ m44 c45 M46 c49 c51 M52 c54 M55, m22.le m44 ∧ Ok u m44 (M46 :: [(pb0, oc 175 [c49, c51, c54])] :: M52 :: M55 :: S) w ∧ Env 136 a [(0, vp pb0), (2, c45), (3, vi s.2.1)] ∧ ORow 199 3 pState m44 c45 s.1 M46 ∧ InR .i64 s.2.1 ∧ (pL 4 pRelation) m44 [c49] s.2.2.l ∧ ORow 181 2 pPart m44 c51 s.2.2.wholes M52 ∧ ORow 181 2 pPart m44 c54 s.2.2.fraction M55) (fun (b : Classes) e a w => e = (.exit 0) ∧ ∃ m522 c523 c525 M526 c528 M529, m22.le m522 ∧ Ok u m522 ([(pb0, oc 175 [c523, c525, c528])] :: M526 :: M529 :: S) w ∧ Env 136 a [] ∧ (pL 4 pRelation) m522 [c523] b.l ∧ ORow 181 2 pPart m522 c525 b.wholes M526 ∧ ORow 181 2 pPart m522 c528 b.fraction M529) ?_ ?_ N _ a w hL ⟨m22, c24, M25, c1, c3, M4, c6, M7, Mem.le.refl _, ok, E.keep [0, 2, 3], h26, (ir 0), h2, h5, h8⟩
 rotate_left
 ·intro e a w _ hO
  obtain ⟨rfl, m513, c514, c516, M517, c519, M520, hle, ok, E, h515, h518, h521⟩ := hO
  have le_m0 := le_m0.trans hle
  have h2 := (mL mRelation).up hle h2
  have h23 := (mL mTracker).up hle h23
  refine b_hit ?_
  exact fin hF ⟨m513, c514, c516, M517, c519, M520, le_m0, ok, E.d, trivial, h515, h518, h521⟩
 rintro ⟨level_57, n_58, x_59⟩ a w r ⟨m60, c61, M62, c65, c67, M68, c70, M71, hle, ok, E, h63, r64, h66, h69, h72⟩ hF
 replace hF : decide_classes_fractions_b1 N level_57 n_58 x_59 = some r := hF
 unfold decide_classes_fractions_b1 at hF
 have le_m22 := Mem.le.refl m22
 have le_m0 := le_m0.trans hle
 have le_m22 := le_m22.trans hle
 have h2 := (mL mRelation).up hle h2
 have h23 := (mL mTracker).up hle h23
 refine wp_seq <| sg <| mv E rfl fun a E => lw E (y_leq rfl rfl) fun a E => wn <| cf E rfl hF (fun hc73 hF => ?_) fun hc73 hF => ?_
 rotate_left
 ·refine wp_exit <| t_exit ?_
  obtain rfl := sj hF
  exact so (⟨rfl, ⟨m60, c65, c67, M68, c70, M71, le_m22, (ok.pk 4 [1, 2, 3] rfl (by decide)), E.keep [], h66, h69, h72⟩⟩)
 refine wp_skip <| t_norm <| wp_seq <| wp_block <| sg <| av E rfl fun a E => wpList_nil ?_
 refine t_norm <| sg <| l_makeMap kS (oneV pB) E ok rfl rfl fun c74 M75 a w E ok h76 => aw E rfl fun a E => wp_seq ?_
 refine sg <| mv E rfl fun a E => lv E ok (y_lenR sl_200 h63 rfl) fun a E => mv E rfl fun a E => wn <| wp_block ?_
 obtain ⟨M93, ok, h94⟩ := nilrow (e := 199) (k := 3) (R := pState) ok
 obtain ⟨o95, hL, hF⟩ := bnd hF
 refine c_loop _ (fun (s : (List (State)) × Int × Classes × (List (List UInt8 × Bool))) a w => ∃ m96 c97 M98 c101 c103 M104 c106 M107 c109 M110, m60.le m96 ∧ Ok u m96 (M98 :: M110 :: M62 :: [(pb0, oc 175 [c101, c103, c106])] :: M104 :: M107 :: S) w ∧ Env 136 a [(0, vp pb0), (3, vi n_58), (4, c97), (5, c109), (27, c61), (28, (vi (level_57.length : Int))), (29, vi s.2.1)] ∧ ORow 199 3 pState m96 c97 s.1 M98 ∧ InR .i64 s.2.1 ∧ (pL 4 pRelation) m96 [c101] s.2.2.1.l ∧ ORow 181 2 pPart m96 c103 s.2.2.1.wholes M104 ∧ ORow 181 2 pPart m96 c106 s.2.2.1.fraction M107 ∧ OMap kS (oneV pB) m96 c109 s.2.2.2 M110) (fun (b : (Classes × (List (State)))) e a w => e = (.exit 2) ∧ ∃ m501 c502 c504 M505 c507 M508 c510 M511, m60.le m501 ∧ Ok u m501 (M511 :: M62 :: [(pb0, oc 175 [c502, c504, c507])] :: M505 :: M508 :: S) w ∧ Env 136 a [(0, vp pb0), (3, vi n_58), (4, c510)] ∧ (pL 4 pRelation) m501 [c502] b.1.l ∧ ORow 181 2 pPart m501 c504 b.1.wholes M505 ∧ ORow 181 2 pPart m501 c507 b.1.fraction M508 ∧ ORow 199 3 pState m501 c510 b.2 M511) ?_ ?_ N _ a w hL ⟨m60, (Value.slice none 0 0), M93, c65, c67, M68, c70, M71, c74, M75, Mem.le.refl _, ok, E.keep [0, 3, 4, 5, 27, 28, 29], h94, (ir 0), h66, h69, h72, h76⟩
 rotate_left
 ·intro e a w _ hO
  obtain ⟨rfl, m489, c490, c492, M493, c495, M496, c498, M499, hle, ok, E, h491, h494, h497, h500⟩ := hO
  have le_m0 := le_m0.trans hle
  have le_m22 := le_m22.trans hle
  have h2 := (mL mRelation).up hle h2
  have h23 := (mL mTracker).up hle h23
  have h66 := (mL mRelation).up hle h66
  refine b_hit <| t_norm <| c_region <| mv E rfl fun a E => av E rfl fun a E => wpList_nil <| b_norm <| t_norm ?_
  refine c_region <| mv E rfl fun a E => lw E (y_addw rfl rfl) fun a E => av E rfl fun a E => wpList_nil ?_
  obtain rfl := sj hF
  exact step_n ⟨m489, c498, M499, c490, c492, M493, c495, M496, le_m22, (ok.pk 5 [0, 2, 3, 4] rfl (by decide)), E.keep [0, 2, 3], h500, (InR.wrap _ _), h491, h494, h497⟩
 rintro ⟨next_112, x_113, x_114, known_115⟩ a w r ⟨m116, c117, M118, c121, c123, M124, c126, M127, c129, M130, hle, ok, E, h119, r120, h122, h125, h128, h131⟩ hF
 replace hF : decide_classes_fractions_b2 N level_57 next_112 x_113 x_114 known_115 = some r := hF
 unfold decide_classes_fractions_b2 at hF
 have le_m60 := Mem.le.refl m60
 have le_m0 := le_m0.trans hle
 have le_m22 := le_m22.trans hle
 have le_m60 := le_m60.trans hle
 have h2 := (mL mRelation).up hle h2
 have h23 := (mL mTracker).up hle h23
 have h63 := ORow.up mState hle h63
 have h66 := (mL mRelation).up hle h66
 refine sg <| lw E (y_lss rfl rfl) fun a E => wn <| wp_seq <| cf E rfl hF (fun hc132 hF => ?_) fun hc132 hF => ?_
 rotate_left
 ·refine wp_exit <| t_exit ?_
  obtain rfl := sj hF
  exact so (⟨rfl, ⟨m116, c121, c123, M124, c126, M127, c117, M118, le_m60, (ok.pk 6 [0, 2, 3, 4, 5] rfl (by decide)), E.keep [0, 3, 4], h122, h125, h128, h119⟩⟩)
 refine wp_skip <| t_norm <| wp_seq <| wp_block <| sg ?_
 obtain ⟨x133, e134, hF⟩ := bnd hF
 obtain ⟨b135, o136, hp137, yy138⟩ := orowAt sl_200 h63 e134 (P := Tryz.prog) (X := .tmp 27) (I := .tmp 29) (kd := .i64) (ev_of E rfl) (ev_of E rfl)
 refine lv E ok (yy138 _ _) fun a E => ?_
 obtain ⟨es139, hl140, rr141, hh142⟩ := orowGet h63 e134 hp137 (by decide)
 obtain ⟨c144, rfl, l143, h145⟩ := rr141
 refine lv E ok (y_loadAgg (cs := [vs x133.s, c144, vb x133.integer]) agg_199 rfl rfl (hh142 _ _ _ 2 rfl)) fun a E => l_alloc E ok zero_199 rfl rfl fun b146 a w E ok => l_storeB E ok 0 rfl rfl rfl inf_199 rfl rfl ⟨rfl, (pL_one h145), rfl, trivial⟩ rfl rfl fun w ok => wn <| sg <| mv E rfl fun a E => ?_
 refine fv E fo_199_1 rfl fun a E => ld E ok one_176 0 rfl rfl rfl fun a E => ?_
 obtain ⟨r147, e148, hF⟩ := bnd hF
 replace ok : Ok u m116 ([(pb0, oc 175 [c121, c123, c126])] :: M124 :: M127 :: [(b146, oc 199 [vs x133.s, c144, vb x133.integer])] :: M118 :: M130 :: M62 :: S) w := (ok.pk 7 [4, 5, 6, 0, 1, 2, 3] rfl (by decide))
 refine l_call E go_125 rfl (decide_classes_bits_w N true _ x133.trackers h145 x_114 h122 h125 h128 e148 hG ok) rfl rfl ?_
 rintro _ w ⟨⟨rfl, ok⟩, r149⟩
 refine ⟨_, rfl, fun a E => ?_⟩
 refine aw E rfl fun a E => wp_seq <| sg <| fv E fo_199_2 rfl fun a E => ld E ok one_4 3 rfl rfl rfl fun a E => ?_
 refine lw E (y_not rfl) fun a E => wn ?_
 obtain ⟨o150, hJ, hF⟩ := bnd hF
 refine c_mono (Q' := fun e a w => e = .normal ∧ Ok u m116 ([(pb0, oc 175 [c121, c123, c126])] :: M124 :: M127 :: [(b146, oc 199 [vs x133.s, c144, vb x133.integer])] :: M118 :: M130 :: M62 :: S) w ∧ Env 136 a [(0, vp pb0), (3, vi n_58), (4, c117), (5, c129), (7, vp b146), (8, vu o150), (27, c61), (28, (vi (level_57.length : Int))), (29, vi x_113)] ∧ InR .u64 o150) ?_ ?_
 ·replace hF := hJ
  clear hJ
  refine cf E rfl hF (fun hc152 hF => ?_) fun hc152 hF => ?_
  rotate_left
  ·refine wp_skip ?_
   obtain rfl := sj hF
   exact ⟨rfl, ⟨ok, E.keep [0, 3, 4, 5, 7, 8, 27, 28, 29], r149⟩⟩
  refine c_region <| mv E rfl fun a E => lw E (y_bits .or (by decide) rfl rfl) fun a E => av E rfl fun a E => wpList_nil ?_
  obtain rfl := sj hF
  exact ⟨rfl, ⟨ok, E.keep [0, 3, 4, 5, 7, 8, 27, 28, 29], (ibits_InR .or .u64 r147 9223372036854775808)⟩⟩
 clear hJ
 intro e a w hO
 obtain ⟨rfl, ok, E, r153⟩ := hO
 refine t_norm <| wp_seq ?_
 obtain ⟨o154, hJ, hF⟩ := bnd hF
 refine c_mono (Q' := fun e a w => e = .normal ∧ ∃ m155 c156 c158 M159 c161 M162, m116.le m155 ∧ Ok u m155 ([(pb0, oc 175 [c156, c158, c161])] :: M159 :: M162 :: [(b146, oc 199 [vs x133.s, c144, vb x133.integer])] :: M118 :: M130 :: M62 :: S) w ∧ Env 136 a [(0, vp pb0), (3, vi n_58), (4, c117), (5, c129), (7, vp b146), (27, c61), (28, (vi (level_57.length : Int))), (29, vi x_113)] ∧ (pL 4 pRelation) m155 [c156] o154.l ∧ ORow 181 2 pPart m155 c158 o154.wholes M159 ∧ ORow 181 2 pPart m155 c161 o154.fraction M162) ?_ ?_
 ·replace hF := hJ
  clear hJ
  have le_m116 := Mem.le.refl m116
  obtain ⟨r164, e165, hF⟩ := bnd hF
  obtain rfl := sj hF
  refine k_begin [4, 7] (Cls u m116 ([(pb0, oc 175 [c121, c123, c126])] :: M124 :: [(b146, oc 199 [vs x133.s, c144, vb x133.integer])] :: M118 :: M130 :: M62 :: [])) (Cls u m116 (M124 :: [(b146, oc 199 [vs x133.s, c144, vb x133.integer])] :: M118 :: M130 :: M62 :: [])) (by kernel_rfl) ?_
  intro w hw
  replace ok := okdrew ok hw
  clear hw
  have h122_o := h122
  have h145_o := h145
  refine k_next (cl1 (cq le_m116 ok [0, 1, 3, 4, 5, 6] rfl) (cq le_m116 ok [1, 3, 4, 5, 6] rfl)) fun hT => kt 0 E rfl hT (y_move rfl) fun a E => kt 1 E rfl hT (y_move rfl) fun a E => kt 2 E rfl hT (y_nilCheck rfl) fun a E => kt 3 E rfl hT (y_fieldAddr fo_175_2 rfl) fun a E => k_takeN 4 E rfl (by kernel_rfl) nP hT (y_load one_173 rfl (Holds.cown 0 rfl rfl)) rfl rfl fun a E => kt 5 E rfl hT (y_move rfl) fun a E => kt 6 E rfl hT (y_fieldAddr fo_199_0 rfl) fun a E => ?_
  refine k_takeN 7 E rfl (by kernel_rfl) nP hT (y_load one_9 rfl (Holds.cown 2 rfl rfl)) rfl rfl fun a E => kt 8 E rfl hT (y_build (ps := [(0, .tmp 47), (1, .tmp 49)]) (qs := [(0, [vu o150]), (1, [vs x133.s])]) (cs := [vu o150, vs x133.s]) zero_181 places_181 rfl ⟨rfl, rfl, rfl, ⟨rfl, rfl, rfl, trivial⟩⟩ rfl) fun a E => k_all [9] (by kernel_rfl) rfl (one_c ?_)
  ·refine wpOp_of_list (o := _) rfl ?_
   replace ok : Ok u m116 (M127 :: [(pb0, oc 175 [c121, c123, c126])] :: M124 :: [(b146, oc 199 [vs x133.s, c144, vb x133.integer])] :: M118 :: M130 :: M62 :: S) w := (ok.pk 7 [2, 0, 1, 3, 4, 5, 6] rfl (by decide))
   refine l_call E go_124 rfl (decide_keep_w N _ x_114.fraction h128 _ (Part.mk o150 x133.s) ⟨rfl, r153, l143⟩ e165 hG ok) rfl rfl ?_
   rintro _ w ⟨m170, c171, M172, rfl, hle, ok, h173⟩
   have le_m0 := le_m0.trans hle
   have le_m22 := le_m22.trans hle
   have le_m60 := le_m60.trans hle
   have le_m116 := le_m116.trans hle
   have h2 := (mL mRelation).up hle h2
   have h23 := (mL mTracker).up hle h23
   have h63 := ORow.up mState hle h63
   have h66 := (mL mRelation).up hle h66
   have h119 := ORow.up mState hle h119
   have h122 := (mL mRelation).up hle h122
   have h125 := ORow.up mPart hle h125
   have h131 := OMap.up (monoOne mB) hle h131
   have h145 := (mL mTracker).up hle h145
   refine ⟨_, rfl, fun a E => ?_⟩
   refine wn <| k_next (cl1 (cq le_m116 ok [1, 2, 3, 4, 5, 6] rfl) (cq le_m116 ok [2, 3, 4, 5, 6] rfl)) fun hT => kt 10 E rfl hT (y_nilCheck rfl) fun a E => kt 11 E rfl hT (y_fieldAddr fo_175_2 rfl) fun a E => k_all [12] (by kernel_rfl) rfl (one_c ?_)
   ·refine wo rfl <| l_storeB E ok 1 rfl rfl rfl inf_173 (ORow.cells h173) rfl ⟨(ORow.one h173), trivial⟩ rfl rfl fun w ok => wn <| k_next (cl2 (by kernel_rfl) (cq le_m116 ok [2, 3, 4, 5, 6] rfl)) fun hT => k_done (by kernel_rfl) ?_
    exact ⟨rfl, ⟨m170, c121, c123, M124, c171, M172, le_m116, (ok.pk 7 [1, 2, 0, 3, 4, 5, 6] rfl (by decide)), E.keep [0, 3, 4, 5, 7, 27, 28, 29], h122, h125, h173⟩⟩
 clear hJ
 intro e a w hO
 obtain ⟨rfl, m174, c175, c177, M178, c180, M181, hle, ok, E, h176, h179, h182⟩ := hO
 have le_m0 := le_m0.trans hle
 have le_m22 := le_m22.trans hle
 have le_m60 := le_m60.trans hle
 have h2 := (mL mRelation).up hle h2
 have h23 := (mL mTracker).up hle h23
 have h63 := ORow.up mState hle h63
 have h66 := (mL mRelation).up hle h66
 have h119 := ORow.up mState hle h119
 have h122 := (mL mRelation).up hle h122
 have h131 := OMap.up (monoOne mB) hle h131
 have h145 := (mL mTracker).up hle h145
 refine t_norm <| sg <| mv E rfl fun a E => wn <| wp_block ?_
 obtain ⟨o194, hL, hF⟩ := bnd hF
 refine c_loop _ (fun (s : (List (State)) × Int × (List (List UInt8 × Bool))) a w => ∃ m195 c196 M197 c200 M201, m174.le m195 ∧ Ok u m195 ([(pb0, oc 175 [c175, c177, c180])] :: M178 :: M181 :: [(b146, oc 199 [vs x133.s, c144, vb x133.integer])] :: M197 :: M201 :: M62 :: S) w ∧ Env 136 a [(0, vp pb0), (3, vi n_58), (4, c196), (5, c200), (7, vp b146), (27, c61), (28, (vi (level_57.length : Int))), (29, vi x_113), (54, vi s.2.1)] ∧ ORow 199 3 pState m195 c196 s.1 M197 ∧ InR .i64 s.2.1 ∧ OMap kS (oneV pB) m195 c200 s.2.2 M201) (fun (b : ((List (State)) × (List (List UInt8 × Bool)))) e a w => e = (.exit 4) ∧ ∃ m482 c483 M484 c486 M487, m174.le m482 ∧ Ok u m482 ([(pb0, oc 175 [c175, c177, c180])] :: M178 :: M181 :: [(b146, oc 199 [vs x133.s, c144, vb x133.integer])] :: M484 :: M487 :: M62 :: S) w ∧ Env 136 a [(0, vp pb0), (3, vi n_58), (4, c483), (5, c486), (27, c61), (28, (vi (level_57.length : Int))), (29, vi x_113)] ∧ ORow 199 3 pState m482 c483 b.1 M484 ∧ OMap kS (oneV pB) m482 c486 b.2 M487) ?_ ?_ N _ a w hL ⟨m174, c117, M118, c129, M130, Mem.le.refl _, ok, E.keep [0, 3, 4, 5, 7, 27, 28, 29, 54], h119, (ir 0), h131⟩
 rotate_left
 ·intro e a w _ hO
  obtain ⟨rfl, m475, c476, M477, c479, M480, hle, ok, E, h478, h481⟩ := hO
  have le_m0 := le_m0.trans hle
  have le_m22 := le_m22.trans hle
  have le_m60 := le_m60.trans hle
  have h2 := (mL mRelation).up hle h2
  have h23 := (mL mTracker).up hle h23
  have h63 := ORow.up mState hle h63
  have h66 := (mL mRelation).up hle h66
  have h122 := (mL mRelation).up hle h122
  have h145 := (mL mTracker).up hle h145
  have h176 := (mL mRelation).up hle h176
  have h179 := ORow.up mPart hle h179
  have h182 := ORow.up mPart hle h182
  refine b_hit <| b_norm <| t_norm <| c_region <| lw E (y_add rfl rfl (InR.inc r120 (ORow.InR h63) hc132)) fun a E => mv E rfl fun a E => wpList_nil ?_
  obtain rfl := sj hF
  exact step_n ⟨m475, c476, M477, c175, c177, M178, c180, M181, c479, M480, le_m60, (ok.pk 7 [4, 5, 6, 0, 1, 2] rfl (by decide)), E.keep [0, 3, 4, 5, 27, 28, 29], h478, (InR.inc r120 (ORow.InR h63) hc132), h176, h179, h182, h481⟩
 rintro ⟨next_203, x_204, known_205⟩ a w r ⟨m206, c207, M208, c211, M212, hle, ok, E, h209, r210, h213⟩ hF
 replace hF : decide_classes_fractions_b3 N x133 o154 next_203 x_204 known_205 = some r := hF
 unfold decide_classes_fractions_b3 at hF
 have le_m174 := Mem.le.refl m174
 have le_m0 := le_m0.trans hle
 have le_m22 := le_m22.trans hle
 have le_m60 := le_m60.trans hle
 have le_m174 := le_m174.trans hle
 have h2 := (mL mRelation).up hle h2
 have h23 := (mL mTracker).up hle h23
 have h63 := ORow.up mState hle h63
 have h66 := (mL mRelation).up hle h66
 have h122 := (mL mRelation).up hle h122
 have h145 := (mL mTracker).up hle h145
 have h176 := (mL mRelation).up hle h176
 have h179 := ORow.up mPart hle h179
 have h182 := ORow.up mPart hle h182
 refine sg <| lw E (y_lss rfl rfl) fun a E => wn <| wp_seq <| cf E rfl hF (fun hc214 hF => ?_) fun hc214 hF => ?_
 rotate_left
 ·refine wp_exit <| t_exit ?_
  obtain rfl := sj hF
  exact so (⟨rfl, ⟨m206, c207, M208, c211, M212, le_m174, ok, E.keep [0, 3, 4, 5, 27, 28, 29], h209, h213⟩⟩)
 refine wp_skip <| t_norm <| wp_seq <| wp_block <| sg <| mv E rfl fun a E => av E rfl fun a E => ?_
 refine wn <| wp_seq ?_
 obtain ⟨o215, hJ, hF⟩ := bnd hF
 refine c_mono (Q' := fun e a w => e = .normal ∧ ∃ b220 c217 M218, Ok u m206 ([(b220, oc 199 [vs o215.s, c217, vb o215.integer])] :: M218 :: [(pb0, oc 175 [c175, c177, c180])] :: M178 :: M181 :: [(b146, oc 199 [vs x133.s, c144, vb x133.integer])] :: M208 :: M212 :: M62 :: S) w ∧ Env 136 a [(0, vp pb0), (3, vi n_58), (4, c207), (5, c211), (7, vp b146), (9, vi x_204), (10, vp b220), (27, c61), (28, (vi (level_57.length : Int))), (29, vi x_113), (54, vi x_204)] ∧ o215.s.length ≤ LIMS ∧ ORow 86 2 pTracker m206 c217 o215.trackers M218) ?_ ?_
 rotate_left
 ·as_aux_lemma =>
   clear hJ
   intro e a w hO
   obtain ⟨rfl, b288, c285, M286, ok, E, l284, h287⟩ := hO
   refine t_norm <| sg <| fv E fo_199_2 rfl fun a E => ld E ok one_4 0 rfl rfl rfl fun a E => ?_
   obtain ⟨r289, e290, hF⟩ := bnd hF
   refine l_call E go_150 rfl (strconv_FormatBool_w N o215.integer e290 hG ok) rfl rfl ?_
   rintro _ w ⟨⟨rfl, ok⟩, l291⟩
   refine ⟨_, rfl, fun a E => ?_⟩
   refine aw E rfl fun a E => wp_seq <| sg <| mv E rfl fun a E => lw E (y_nilCheck rfl) fun a E => ?_
   refine fv E fo_175_0 rfl fun a E => ld E ok one_66 2 rfl rfl rfl fun a E => lv E ok (y_lenL sl_66 h176 rfl) fun a E => mv E rfl fun a E => wn <| wp_block ?_
   obtain ⟨o300, hL, hF⟩ := bnd hF
   refine c_loop _ (fun (s : (List UInt8) × Int × State) a w => ∃ m301 c305 M306, m206.le m301 ∧ Ok u m301 ([(b288, oc 199 [vs s.2.2.s, c305, vb s.2.2.integer])] :: M306 :: [(pb0, oc 175 [c175, c177, c180])] :: M178 :: M181 :: [(b146, oc 199 [vs x133.s, c144, vb x133.integer])] :: M208 :: M212 :: M62 :: S) w ∧ Env 136 a [(0, vp pb0), (3, vi n_58), (4, c207), (5, c211), (7, vp b146), (9, vi x_204), (10, vp b288), (11, vs s.1), (27, c61), (28, (vi (level_57.length : Int))), (29, vi x_113), (54, vi x_204), (81, c175), (82, (vi (o154.l.length : Int))), (83, vi s.2.1)] ∧ s.1.length ≤ LIMS ∧ InR .i64 s.2.1 ∧ s.2.2.s.length ≤ LIMS ∧ ORow 86 2 pTracker m301 c305 s.2.2.trackers M306) (fun (b : (State × (List UInt8))) e a w => e = (.exit 6) ∧ ∃ m469 c471 M472, m206.le m469 ∧ Ok u m469 ([(b288, oc 199 [vs b.1.s, c471, vb b.1.integer])] :: M472 :: [(pb0, oc 175 [c175, c177, c180])] :: M178 :: M181 :: [(b146, oc 199 [vs x133.s, c144, vb x133.integer])] :: M208 :: M212 :: M62 :: S) w ∧ Env 136 a [(0, vp pb0), (3, vi n_58), (4, c207), (5, c211), (7, vp b146), (10, vp b288), (11, vs b.2), (27, c61), (28, (vi (level_57.length : Int))), (29, vi x_113), (54, vi x_204)] ∧ b.1.s.length ≤ LIMS ∧ ORow 86 2 pTracker m469 c471 b.1.trackers M472 ∧ b.2.length ≤ LIMS) ?_ ?_ N _ a w hL ⟨m206, c285, M286, Mem.le.refl _, ok, E.keep [0, 3, 4, 5, 7, 9, 10, 11, 27, 28, 29, 54, 81, 82, 83], l291, (ir 0), l284, h287⟩
   rotate_left
   ·as_aux_lemma =>
     intro e a w _ hO
     obtain ⟨rfl, m444, c446, M447, hle, ok, E, l445, h448, l449⟩ := hO
     have le_m0 := le_m0.trans hle
     have le_m22 := le_m22.trans hle
     have le_m60 := le_m60.trans hle
     have le_m174 := le_m174.trans hle
     have h2 := (mL mRelation).up hle h2
     have h23 := (mL mTracker).up hle h23
     have h63 := ORow.up mState hle h63
     have h66 := (mL mRelation).up hle h66
     have h122 := (mL mRelation).up hle h122
     have h145 := (mL mTracker).up hle h145
     have h176 := (mL mRelation).up hle h176
     have h179 := ORow.up mPart hle h179
     have h182 := ORow.up mPart hle h182
     have h209 := ORow.up mState hle h209
     have h213 := OMap.up (monoOne mB) hle h213
     refine b_hit <| t_norm <| sg <| mv E rfl fun a E => mv E rfl fun a E => ?_
     obtain ⟨xv450, h451, yy452, yy453⟩ := mlook (P := Tryz.prog) (mo := .tmp 123) (ko := .tmp 124) (zx := (false : Bool)) ok 7 (keyR_str Tryz.underlying9) Tryz.underlying201 h213 rfl (ev_of E rfl) (ev_of E rfl) ⟨rfl, l449⟩ zeroV_4 pB_mk
     obtain rfl := pB_inv h451
     refine lv E ok (yy452 _) fun a E => lw E (y_not rfl) fun a E => wn <| cf E rfl hF (fun hc454 hF => ?_) fun hc454 hF => ?_
     rotate_left
     ·refine wp_skip <| b_norm <| t_norm <| c_region <| lw E (y_add rfl rfl (InR.inc r210 (ir 10) hc214)) fun a E => mv E rfl fun a E => wpList_nil ?_
      obtain rfl := sj hF
      exact step_n ⟨m444, c207, M208, c211, M212, le_m174, (ok.pk 9 [2, 3, 4, 5, 6, 7, 8] rfl (by decide)), E.keep [0, 3, 4, 5, 7, 27, 28, 29, 54], h209, (InR.inc r210 (ir 10) hc214), h213⟩
     refine sg <| mv E rfl fun a E => mv E rfl fun a E => ?_
     obtain ⟨l455, e456, hF⟩ := bnd hF
     refine l_mset (.inl rfl) E ok 7 (keyR_str Tryz.underlying9) Tryz.underlying201 h213 rfl rfl rfl rfl ⟨rfl, l449⟩ pB_mk e456 rfl fun M457 w ok h458 => wn <| c_region <| mv E rfl fun a E => lv E ok (y_loadAgg (cs := [vs o300.1.s, c446, vb o300.1.integer]) agg_199 rfl rfl (Holds.own 0 rfl rfl)) fun a E => ?_
     obtain ⟨m459, hle, ok, hfz⟩ := (ok.frs 1 rfl).freeze
     have h460 := ORow.froz mTracker h448 hle hfz (by decide)
     have le_m0 := le_m0.trans hle
     have le_m22 := le_m22.trans hle
     have le_m60 := le_m60.trans hle
     have le_m174 := le_m174.trans hle
     have h2 := (mL mRelation).up hle h2
     have h23 := (mL mTracker).up hle h23
     have h63 := ORow.up mState hle h63
     have h66 := (mL mRelation).up hle h66
     have h122 := (mL mRelation).up hle h122
     have h145 := (mL mTracker).up hle h145
     have h176 := (mL mRelation).up hle h176
     have h179 := ORow.up mPart hle h179
     have h182 := ORow.up mPart hle h182
     have h209 := ORow.up mState hle h209
     have h458 := OMap.up (monoOne mB) hle h458
     refine l_slit (R := pState) (xo := [.tmp 130]) (xs := ([o300.1] : List (State))) E ok sl_200 zero_199 rfl ⟨⟨_, rfl, rfl, ⟨_, rfl, l445, h460⟩⟩, trivial⟩ rfl rfl rfl rfl fun c461 M462 a w E ok h463 => ?_
     obtain ⟨l464, e465, hF⟩ := bnd hF
     refine l_app (R := pState) E ok 6 mState sl_200 Tryz.underlying200 rfl h209 (SrcOK.ofRow h463 0 rfl ok) e465 ⟨_, zero_199, rfl⟩ rfl rfl rfl rfl fun c466 M467 a w E ok h468 => av E rfl fun a E => wpList_nil <| b_norm <| t_norm <| c_region <| lw E (y_add rfl rfl (InR.inc r210 (ir 10) hc214)) fun a E => mv E rfl fun a E => ?_
     refine wpList_nil ?_
     obtain rfl := sj hF
     exact step_n ⟨m459, c466, M467, c211, M457, le_m174, (ok.pk 9 [2, 3, 4, 5, 6, 7, 8] rfl (by decide)), E.keep [0, 3, 4, 5, 7, 27, 28, 29, 54], h468, (InR.inc r210 (ir 10) hc214), h458⟩
   rintro ⟨key_308, x_309, x_310⟩ a w r ⟨m311, c315, M316, hle, ok, E, l312, r313, l314, h317⟩ hF
   replace hF : decide_classes_fractions_b4 N x133 o154 x_204 key_308 x_309 x_310 = some r := hF
   unfold decide_classes_fractions_b4 at hF
   have le_m206 := Mem.le.refl m206
   have le_m0 := le_m0.trans hle
   have le_m22 := le_m22.trans hle
   have le_m60 := le_m60.trans hle
   have le_m174 := le_m174.trans hle
   have le_m206 := le_m206.trans hle
   have h2 := (mL mRelation).up hle h2
   have h23 := (mL mTracker).up hle h23
   have h63 := ORow.up mState hle h63
   have h66 := (mL mRelation).up hle h66
   have h122 := (mL mRelation).up hle h122
   have h145 := (mL mTracker).up hle h145
   have h176 := (mL mRelation).up hle h176
   have h179 := ORow.up mPart hle h179
   have h182 := ORow.up mPart hle h182
   have h209 := ORow.up mState hle h209
   have h213 := OMap.up (monoOne mB) hle h213
   refine sg <| lw E (y_lss rfl rfl) fun a E => wn <| wp_seq <| cf E rfl hF (fun hc318 hF => ?_) fun hc318 hF => ?_
   rotate_left
   ·refine wp_exit <| t_exit ?_
    obtain rfl := sj hF
    exact so (⟨rfl, ⟨m311, c315, M316, le_m206, ok, E.keep [0, 3, 4, 5, 7, 10, 11, 27, 28, 29, 54], l314, h317, l312⟩⟩)
   refine wp_skip <| t_norm <| wp_seq <| wp_block <| sg <| mv E rfl fun a E => ?_
   obtain ⟨x319, e320, hF⟩ := bnd hF
   obtain ⟨b321, o322, es323, hl324, rr325, at326, yy327⟩ := idxAt sl_66 h176 e320 (P := Tryz.prog) (X := .tmp 81) (I := .tmp 83) (kd := .i64) (ev_of E rfl) (ev_of E rfl)
   obtain ⟨c330, rfl, r328, r329, h331⟩ := rr325
   refine lv E ok (yy327 _ _) fun a E => lv E ok (y_loadAgg (cs := [vi x319.Operand, vi x319.Mod, vb x319.Not, c330]) agg_69 rfl rfl (Holds.ro at326)) fun a E => l_alloc E ok zero_69 rfl rfl fun b332 a w E ok => av E rfl fun a E => l_storeB E ok 0 rfl rfl rfl inf_69 rfl rfl ⟨rfl, rfl, rfl, (pL_one h331), trivial⟩ rfl rfl fun w ok => wn <| wp_seq ?_
   refine sg <| lv E ok (y_loadAgg (cs := [vi x319.Operand, vi x319.Mod, vb x319.Not, c330]) agg_69 rfl rfl (Holds.own 0 rfl rfl)) fun a E => ?_
   obtain ⟨r333, e334, hF⟩ := bnd hF
   refine lc E go_123 rfl (decide_onWhole_w N _ x319 ⟨_, rfl, r328, r329, h331⟩ e334 hG ok) fun w ok a E => lw E (y_not rfl) fun a E => wn ?_
   obtain ⟨o335, hJ, hF⟩ := bnd hF
   refine c_mono (Q' := fun e a w => e = .normal ∧ ∃ m336 c338 M339, m311.le m336 ∧ Ok u m336 ([(b332, oc 69 [vi x319.Operand, vi x319.Mod, vb x319.Not, c330])] :: [(b288, oc 199 [vs o335.s, c338, vb o335.integer])] :: M339 :: [(pb0, oc 175 [c175, c177, c180])] :: M178 :: M181 :: [(b146, oc 199 [vs x133.s, c144, vb x133.integer])] :: M208 :: M212 :: M62 :: S) w ∧ Env 136 a [(0, vp pb0), (3, vi n_58), (4, c207), (5, c211), (7, vp b146), (9, vi x_204), (10, vp b288), (11, vs key_308), (12, vi x_309), (27, c61), (28, (vi (level_57.length : Int))), (29, vi x_113), (54, vi x_204), (81, c175), (82, (vi (o154.l.length : Int))), (83, vi x_309)] ∧ o335.s.length ≤ LIMS ∧ ORow 86 2 pTracker m336 c338 o335.trackers M339) ?_ ?_
   rotate_left
   ·clear hJ
    intro e a w hO
    obtain ⟨rfl, m401, c403, M404, hle, ok, E, l402, h405⟩ := hO
    have le_m0 := le_m0.trans hle
    have le_m22 := le_m22.trans hle
    have le_m60 := le_m60.trans hle
    have le_m174 := le_m174.trans hle
    have le_m206 := le_m206.trans hle
    have h2 := (mL mRelation).up hle h2
    have h23 := (mL mTracker).up hle h23
    have h63 := ORow.up mState hle h63
    have h66 := (mL mRelation).up hle h66
    have h122 := (mL mRelation).up hle h122
    have h145 := (mL mTracker).up hle h145
    have h176 := (mL mRelation).up hle h176
    have h179 := ORow.up mPart hle h179
    have h182 := ORow.up mPart hle h182
    have h209 := ORow.up mState hle h209
    have h213 := OMap.up (monoOne mB) hle h213
    have h331 := (mL mSpan).up hle h331
    have at326 := At.up hle at326
    refine t_norm <| c_draw (by kernel_rfl) (by kernel_rfl) ok <| qv E (y_move rfl) fun a E => qv E (y_fieldAddr fo_199_1 rfl) fun a E => qv E (y_load one_176 rfl (Holds.own 1 rfl rfl)) fun a E => qv E (y_move rfl) fun a E => ?_
    obtain ⟨x406, e407, hF⟩ := bnd hF
    obtain ⟨b408, o409, hp410, yy411⟩ := orowAt sl_176 h405 e407 (P := Tryz.prog) (X := .tmp 105) (I := .tmp 106) (kd := .i64) (ev_of E rfl) (ev_of E rfl)
    refine qv E (yy411 _ _) fun a E => qv E (y_fieldAddr fo_86_0 rfl) fun a E => ?_
    obtain ⟨es412, hl413, rr414, hh415⟩ := orowGet h405 e407 hp410 (by decide)
    obtain ⟨rfl, r416, r417⟩ := rr414
    refine qv E (y_load one_3 rfl (Holds.sub 0 1 (hh415 _ _ _ 2 rfl))) fun a E => ?_
    obtain ⟨r418, e419, hF⟩ := bnd hF
    obtain ⟨_, _, ⟨_, _⟩, l420⟩ := Go.X.Calls.get (strconv_ItoaT_w N x406.a r416 e419 hG hTb ok)
    refine q_call E go_122 rfl (fun w ok => (strconv_ItoaT_w N x406.a r416 e419 hG hTb ok).mono (fun _ _ h => h.1)) rfl rfl fun a E => ?_
    obtain ⟨s421, e422, hF⟩ := bnd hF
    refine qv E (y_cat rfl rfl e422) fun a E => ?_
    obtain ⟨s423, e424, hF⟩ := bnd hF
    refine qv E (y_cat rfl rfl e424) fun a E => qv E (y_fieldAddr fo_199_1 rfl) fun a E => qv E (y_load one_176 rfl (Holds.own 1 rfl rfl)) fun a E => qv E (y_move rfl) fun a E => ?_
    obtain ⟨x425, e426, hF⟩ := bnd hF
    obtain ⟨b427, o428, hp429, yy430⟩ := orowAt sl_176 h405 e426 (P := Tryz.prog) (X := .tmp 114) (I := .tmp 115) (kd := .i64) (ev_of E rfl) (ev_of E rfl)
    refine qv E (yy430 _ _) fun a E => qv E (y_fieldAddr fo_86_1 rfl) fun a E => ?_
    obtain ⟨es431, hl432, rr433, hh434⟩ := orowGet h405 e426 hp429 (by decide)
    obtain ⟨rfl, r435, r436⟩ := rr433
    refine qv E (y_load one_3 rfl (Holds.sub 1 1 (hh434 _ _ _ 2 rfl))) fun a E => ?_
    obtain ⟨r437, e438, hF⟩ := bnd hF
    obtain ⟨_, _, ⟨_, _⟩, l439⟩ := Go.X.Calls.get (strconv_ItoaT_w N x425.b r436 e438 hG hTb ok)
    refine q_call E go_122 rfl (fun w ok => (strconv_ItoaT_w N x425.b r436 e438 hG hTb ok).mono (fun _ _ h => h.1)) rfl rfl fun a E => ?_
    obtain ⟨s440, e441, hF⟩ := bnd hF
    refine qv E (y_cat rfl rfl e441) fun a E => ?_
    obtain ⟨s442, e443, hF⟩ := bnd hF
    refine qv E (y_cat rfl rfl e443) fun a E => qv E (y_assign rfl) fun a E => wpQuiet_nil ?_
    intro w ok
    refine b_norm <| t_norm <| c_region <| lw E (y_add rfl rfl (InR.inc r313 (pL_InR h176) hc318)) fun a E => mv E rfl fun a E => wpList_nil ?_
    obtain rfl := sj hF
    exact step_n ⟨m401, c403, M404, le_m206, (ok.pk 10 [1, 2, 3, 4, 5, 6, 7, 8, 9] rfl (by decide)), E.keep [0, 3, 4, 5, 7, 9, 10, 11, 27, 28, 29, 54, 81, 82, 83], (cat_len e443), (InR.inc r313 (pL_InR h176) hc318), l402, h405⟩
   replace hF := hJ
   clear hJ
   have le_m311 := Mem.le.refl m311
   refine cf E rfl hF (fun hc341 hF => ?_) fun hc341 hF => ?_
   rotate_left
   ·refine wp_skip ?_
    obtain rfl := sj hF
    exact ⟨rfl, ⟨m311, c315, M316, le_m311, ok, E.keep [0, 3, 4, 5, 7, 9, 10, 11, 12, 27, 28, 29, 54, 81, 82, 83], l314, h317⟩⟩
   obtain ⟨o342, hJ, hF⟩ := bnd hF
   refine c_mono (Q' := fun e a w => e = .normal ∧ ∃ m343 c345 M346, m311.le m343 ∧ Ok u m343 ([(b332, oc 69 [vi x319.Operand, vi x319.Mod, vb x319.Not, c330])] :: [(b288, oc 199 [vs o342.s, c345, vb o342.integer])] :: M346 :: [(pb0, oc 175 [c175, c177, c180])] :: M178 :: M181 :: [(b146, oc 199 [vs x133.s, c144, vb x133.integer])] :: M208 :: M212 :: M62 :: S) w ∧ Env 136 a [(0, vp pb0), (3, vi n_58), (4, c207), (5, c211), (7, vp b146), (9, vi x_204), (10, vp b288), (11, vs key_308), (12, vi x_309), (27, c61), (28, (vi (level_57.length : Int))), (29, vi x_113), (54, vi x_204), (81, c175), (82, (vi (o154.l.length : Int))), (83, vi x_309)] ∧ o342.s.length ≤ LIMS ∧ ORow 86 2 pTracker m343 c345 o342.trackers M346) ?_ ?_
   rotate_left
   ·clear hJ
    intro e a w hO
    obtain ⟨rfl, m396, c398, M399, hle, ok, E, l397, h400⟩ := hO
    have le_m0 := le_m0.trans hle
    have le_m22 := le_m22.trans hle
    have le_m60 := le_m60.trans hle
    have le_m174 := le_m174.trans hle
    have le_m206 := le_m206.trans hle
    have le_m311 := le_m311.trans hle
    have h2 := (mL mRelation).up hle h2
    have h23 := (mL mTracker).up hle h23
    have h63 := ORow.up mState hle h63
    have h66 := (mL mRelation).up hle h66
    have h122 := (mL mRelation).up hle h122
    have h145 := (mL mTracker).up hle h145
    have h176 := (mL mRelation).up hle h176
    have h179 := ORow.up mPart hle h179
    have h182 := ORow.up mPart hle h182
    have h209 := ORow.up mState hle h209
    have h213 := OMap.up (monoOne mB) hle h213
    have h331 := (mL mSpan).up hle h331
    have at326 := At.up hle at326
    obtain rfl := sj hF
    exact ⟨rfl, ⟨m396, c398, M399, le_m311, ok, E.keep [0, 3, 4, 5, 7, 9, 10, 11, 12, 27, 28, 29, 54, 81, 82, 83], l397, h400⟩⟩
   replace hF := hJ
   clear hJ
   obtain ⟨x348, e349, hF⟩ := bnd hF
   obtain ⟨r359, e360, hF⟩ := bnd hF
   obtain ⟨x366, e367, hF⟩ := bnd hF
   obtain ⟨l372, e373, hF⟩ := bnd hF
   obtain rfl := sj hF
   refine k_begin [1, 4, 7, 8] (Cls u m311 ([(b332, oc 69 [vi x319.Operand, vi x319.Mod, vb x319.Not, c330])] :: [(b288, oc 199 [vs x_310.s, c315, vb x_310.integer])] :: [(pb0, oc 175 [c175, c177, c180])] :: M178 :: M181 :: [(b146, oc 199 [vs x133.s, c144, vb x133.integer])] :: M208 :: M212 :: M62 :: [])) (Cls u m311 ([(b332, oc 69 [vi x319.Operand, vi x319.Mod, vb x319.Not, c330])] :: [(pb0, oc 175 [c175, c177, c180])] :: M178 :: M181 :: [(b146, oc 199 [vs x133.s, c144, vb x133.integer])] :: M208 :: M212 :: M62 :: [])) (by kernel_rfl) ?_
   intro w hw
   replace ok := okdrew ok hw
   clear hw
   have h145_o := h145
   have h331_o := h331
   refine k_next (cl1 (cq le_m311 ok [0, 1, 3, 4, 5, 6, 7, 8, 9] rfl) (cq le_m311 ok [0, 3, 4, 5, 6, 7, 8, 9] rfl)) fun hT => kt 0 E rfl hT (y_fieldAddr fo_199_1 rfl) fun a E => k_takeN 1 E rfl (by kernel_rfl) nP hT (y_load one_176 rfl (Holds.cown 1 rfl rfl)) rfl rfl fun a E => kt 2 E rfl hT (y_move rfl) fun a E => kt 3 E rfl hT (y_fieldAddr fo_199_1 rfl) fun a E => k_takeN 4 E rfl (by kernel_rfl) nP hT (y_load one_176 rfl (Holds.cown 5 rfl rfl)) rfl rfl fun a E => kt 5 E rfl hT (y_move rfl) fun a E => ?_
   obtain ⟨b376, o377, es378, hl379, rr380, at381, yy382⟩ := idxAt sl_176 h145 e349 (P := Tryz.prog) (X := .tmp 95) (I := .tmp 96) (kd := .i64) (ev_of E rfl) (ev_of E rfl)
   obtain ⟨rfl, r383, r384⟩ := rr380
   refine kt 6 E rfl hT (yy382 _ _) fun a E => k_takeN 7 E rfl (by kernel_rfl) nP hT (y_loadAgg (cs := [vi x348.a, vi x348.b]) agg_86 rfl rfl (Holds.cro at381)) rfl rfl fun a E => k_takeN 8 E rfl (by kernel_rfl) nP hT (y_loadAgg (cs := [vi x319.Operand, vi x319.Mod, vb x319.Not, c330]) agg_69 rfl rfl (Holds.cown 0 rfl rfl)) rfl rfl fun a E => kt 9 E rfl hT (y_move rfl) fun a E => k_all [10] (by kernel_rfl) rfl (one_c ?_)
   ·refine wo rfl <| l_call E go_88 rfl (decide_tracker_read_w N _ x348 ⟨rfl, r383, r384⟩ _ x319 ⟨_, rfl, r328, r329, h331⟩ true x_204 r210 e360 hG ok) rfl rfl ?_
    rintro _ w ⟨m385, vs386, rfl, hle, ok, h387⟩
    have le_m0 := le_m0.trans hle
    have le_m22 := le_m22.trans hle
    have le_m60 := le_m60.trans hle
    have le_m174 := le_m174.trans hle
    have le_m206 := le_m206.trans hle
    have le_m311 := le_m311.trans hle
    have h2 := (mL mRelation).up hle h2
    have h23 := (mL mTracker).up hle h23
    have h63 := ORow.up mState hle h63
    have h66 := (mL mRelation).up hle h66
    have h122 := (mL mRelation).up hle h122
    have h145 := (mL mTracker).up hle h145
    have h176 := (mL mRelation).up hle h176
    have h179 := ORow.up mPart hle h179
    have h182 := ORow.up mPart hle h182
    have h209 := ORow.up mState hle h209
    have h213 := OMap.up (monoOne mB) hle h213
    have h317 := ORow.up mTracker hle h317
    have h331 := (mL mSpan).up hle h331
    have at326 := At.up hle at326
    have at381 := At.up hle at381
    obtain ⟨rfl, r388, r389⟩ := h387
    refine ⟨_, rfl, fun a E => ?_⟩
    refine wn <| k_next (cl1 (cq le_m311 ok [0, 1, 3, 4, 5, 6, 7, 8, 9] rfl) (cq le_m311 ok [0, 3, 4, 5, 6, 7, 8, 9] rfl)) fun hT => ?_
    obtain ⟨b390, o391, hp392, yy393⟩ := orowAt sl_176 h317 e367 (P := Tryz.prog) (X := .tmp 92) (I := .tmp 93) (kd := .i64) (ev_of E rfl) (ev_of E rfl)
    refine kt 11 E rfl hT (yy393 _ _) fun a E => k_all [12] (by kernel_rfl) rfl (one_c ?_)
    ·refine wo rfl <| l_storeRow (R := pTracker) E ok 2 rfl h317 e367 hp392 rfl rfl inf_86 rfl rfl rfl ⟨rfl, rfl, trivial⟩ ⟨rfl, r388, r389⟩ e373 rfl fun M394 w ok h395 => wn <| k_next (cl2 (by kernel_rfl) (cq le_m311 ok [0, 3, 4, 5, 6, 7, 8, 9] rfl)) fun hT => k_done (by kernel_rfl) ?_
     exact ⟨rfl, ⟨m385, c315, M394, le_m311, ok, E.keep [0, 3, 4, 5, 7, 9, 10, 11, 12, 27, 28, 29, 54, 81, 82, 83], l314, h395⟩⟩
 replace hF := hJ
 clear hJ
 obtain ⟨r221, e222, hF⟩ := bnd hF
 obtain ⟨s224, e225, hF⟩ := bnd hF
 obtain ⟨l226, e227, hF⟩ := bnd hF
 refine bsplit x133.integer (fun hc231 => ?_) (fun hc231 => ?_)
 ·as_aux_lemma =>
   replace hF := cond_t hc231 hF
   obtain rfl := sj hF
   refine k_begin [] (Cls u m206 ([(pb0, oc 175 [c175, c177, c180])] :: M178 :: M181 :: [(b146, oc 199 [vs x133.s, c144, vb x133.integer])] :: M208 :: M212 :: M62 :: [])) (Cls u m206 ([(pb0, oc 175 [c175, c177, c180])] :: M178 :: M181 :: [(b146, oc 199 [vs x133.s, c144, vb x133.integer])] :: M208 :: M212 :: M62 :: [])) (by kernel_rfl) ?_
   intro w hw
   replace ok := okdrew ok hw
   clear hw
   have le_m206 := Mem.le.refl m206
   refine k_next (cl1 (cq le_m206 ok [0, 1, 2, 3, 4, 5, 6] rfl) (cq le_m206 ok [0, 1, 2, 3, 4, 5, 6] rfl)) fun hT => kt 0 E rfl hT (y_fieldAddr fo_199_0 rfl) fun a E => kt 1 E rfl hT (y_load one_9 rfl (Holds.cown 3 rfl rfl)) fun a E => kt 2 E rfl hT (y_move rfl) fun a E => kt 5 E rfl hT (y_move rfl) fun a E => kt 6 E rfl hT (y_nilCheck rfl) fun a E => kt 7 E rfl hT (y_fieldAddr fo_175_0 rfl) fun a E => kt 8 E rfl hT (y_load one_66 rfl (Holds.cown 0 rfl rfl)) fun a E => ?_
   refine kt 9 E rfl hT (y_lenL sl_66 h176 rfl) fun a E => kt 11 E rfl hT (y_fieldAddr fo_199_2 rfl) fun a E => kt 12 E rfl hT (y_load one_4 rfl (Holds.cown 3 rfl rfl)) fun a E => k_all [3, 10, 18] (by kernel_rfl) rfl (all_c ?_ (all_c ?_ (all_c ?_ (all_n))))
   ·refine wo rfl <| l_call E go_122 rfl (strconv_ItoaT_w N x_204 r210 e222 hG hTb ok) rfl rfl ?_
    rintro _ w ⟨⟨rfl, ok⟩, l233⟩
    refine ⟨_, rfl, fun a E => ?_⟩
    refine wn <| k_next (cl1 (cq le_m206 ok [0, 1, 2, 3, 4, 5, 6] rfl) (cq le_m206 ok [0, 1, 2, 3, 4, 5, 6] rfl)) fun hT => kt 4 E rfl hT (y_cat rfl rfl e225) fun a E => kt 13 E rfl hT (y_move rfl) fun a E => ?_
    replace E := E.upd 70 hc231 rfl
    refine kt 14 E rfl hT (y_move rfl) fun a E => kt 15 E rfl hT (y_eql rfl rfl) fun a E => kt 16 E rfl hT (y_pickT rfl rfl) fun a E => k_all [10, 18] (by kernel_rfl) rfl (all_c ?_ (all_c ?_ (all_n)))
    ·refine wo rfl <| l_make (R := pTracker) E ok sl_176 zero_86 rfl ⟨rfl, (ir 0), (ir 0)⟩ rfl e227 rfl rfl fun c234 M235 a w E ok h236 => wn <| k_next (cl1 (cq le_m206 ok [1, 2, 3, 4, 5, 6, 7] rfl) (cq le_m206 ok [1, 2, 3, 4, 5, 6, 7] rfl)) fun hT => kt 17 E rfl hT (y_build (ps := [(0, .tmp 61), (1, .tmp 67), (2, .tmp 73)]) (qs := [(0, [vs s224]), (1, [c234]), (2, [(vb (x_204 == 0))])]) (cs := [vs s224, c234, (vb (x_204 == 0))]) zero_199 places_199 rfl ⟨rfl, rfl, rfl, ⟨rfl, (ORow.cells h236), rfl, ⟨rfl, rfl, rfl, trivial⟩⟩⟩ rfl) fun a E => k_all [18] (by kernel_rfl) rfl (one_c ?_)
     ·refine wo rfl <| l_alloc E ok zero_199 rfl rfl fun b237 a w E ok => wn <| k_next (cl1 (cq le_m206 ok [2, 3, 4, 5, 6, 7, 8] rfl) (cq le_m206 ok [2, 3, 4, 5, 6, 7, 8] rfl)) fun hT => k_all [19] (by kernel_rfl) rfl (one_c ?_)
      ·refine wo rfl <| l_storeB E ok 0 rfl rfl rfl inf_199 rfl rfl ⟨rfl, (ORow.one h236), rfl, trivial⟩ rfl rfl fun w ok => wn <| k_next (cl1 (cq le_m206 ok [2, 3, 4, 5, 6, 7, 8] rfl) (cq le_m206 ok [2, 3, 4, 5, 6, 7, 8] rfl)) fun hT => k_done (by kernel_rfl) ?_
       exact ⟨rfl, ⟨b237, c234, M235, ok, E.keep [0, 3, 4, 5, 7, 9, 10, 27, 28, 29, 54], (cat_len e225), h236⟩⟩
    refine wo rfl <| l_alloc E ok zero_199 rfl rfl fun b238 a w E ok => wn <| k_next (cl1 (cq le_m206 ok [1, 2, 3, 4, 5, 6, 7] rfl) (cq le_m206 ok [1, 2, 3, 4, 5, 6, 7] rfl)) fun hT => k_all [10] (by kernel_rfl) rfl (one_c ?_)
    ·refine wo rfl <| l_make (R := pTracker) E ok sl_176 zero_86 rfl ⟨rfl, (ir 0), (ir 0)⟩ rfl e227 rfl rfl fun c239 M240 a w E ok h241 => wn <| k_next (cl1 (cq le_m206 ok [2, 3, 4, 5, 6, 7, 8] rfl) (cq le_m206 ok [2, 3, 4, 5, 6, 7, 8] rfl)) fun hT => kt 17 E rfl hT (y_build (ps := [(0, .tmp 61), (1, .tmp 67), (2, .tmp 73)]) (qs := [(0, [vs s224]), (1, [c239]), (2, [(vb (x_204 == 0))])]) (cs := [vs s224, c239, (vb (x_204 == 0))]) zero_199 places_199 rfl ⟨rfl, rfl, rfl, ⟨rfl, (ORow.cells h241), rfl, ⟨rfl, rfl, rfl, trivial⟩⟩⟩ rfl) fun a E => k_all [19] (by kernel_rfl) rfl (one_c ?_)
     ·refine wo rfl <| l_storeB E ok 1 rfl rfl rfl inf_199 rfl rfl ⟨rfl, (ORow.one h241), rfl, trivial⟩ rfl rfl fun w ok => wn <| k_next (cl1 (cq le_m206 ok [2, 3, 4, 5, 6, 7, 8] rfl) (cq le_m206 ok [2, 3, 4, 5, 6, 7, 8] rfl)) fun hT => k_done (by kernel_rfl) ?_
      exact ⟨rfl, ⟨b238, c239, M240, (ok.pk 9 [1, 0, 2, 3, 4, 5, 6, 7, 8] rfl (by decide)), E.keep [0, 3, 4, 5, 7, 9, 10, 27, 28, 29, 54], (cat_len e225), h241⟩⟩
   ·refine wo rfl <| l_make (R := pTracker) E ok sl_176 zero_86 rfl ⟨rfl, (ir 0), (ir 0)⟩ rfl e227 rfl rfl fun c242 M243 a w E ok h244 => wn <| k_next (cl1 (cq le_m206 ok [1, 2, 3, 4, 5, 6, 7] rfl) (cq le_m206 ok [1, 2, 3, 4, 5, 6, 7] rfl)) fun hT => k_all [3, 18] (by kernel_rfl) rfl (all_c ?_ (all_c ?_ (all_n)))
    ·refine wo rfl <| l_call E go_122 rfl (strconv_ItoaT_w N x_204 r210 e222 hG hTb ok) rfl rfl ?_
     rintro _ w ⟨⟨rfl, ok⟩, l245⟩
     refine ⟨_, rfl, fun a E => ?_⟩
     refine wn <| k_next (cl1 (cq le_m206 ok [1, 2, 3, 4, 5, 6, 7] rfl) (cq le_m206 ok [1, 2, 3, 4, 5, 6, 7] rfl)) fun hT => kt 4 E rfl hT (y_cat rfl rfl e225) fun a E => kt 13 E rfl hT (y_move rfl) fun a E => ?_
     replace E := E.upd 70 hc231 rfl
     refine kt 14 E rfl hT (y_move rfl) fun a E => kt 15 E rfl hT (y_eql rfl rfl) fun a E => kt 16 E rfl hT (y_pickT rfl rfl) fun a E => kt 17 E rfl hT (y_build (ps := [(0, .tmp 61), (1, .tmp 67), (2, .tmp 73)]) (qs := [(0, [vs s224]), (1, [c242]), (2, [(vb (x_204 == 0))])]) (cs := [vs s224, c242, (vb (x_204 == 0))]) zero_199 places_199 rfl ⟨rfl, rfl, rfl, ⟨rfl, (ORow.cells h244), rfl, ⟨rfl, rfl, rfl, trivial⟩⟩⟩ rfl) fun a E => k_all [18] (by kernel_rfl) rfl (one_c ?_)
     ·refine wo rfl <| l_alloc E ok zero_199 rfl rfl fun b246 a w E ok => wn <| k_next (cl1 (cq le_m206 ok [2, 3, 4, 5, 6, 7, 8] rfl) (cq le_m206 ok [2, 3, 4, 5, 6, 7, 8] rfl)) fun hT => k_all [19] (by kernel_rfl) rfl (one_c ?_)
      ·refine wo rfl <| l_storeB E ok 0 rfl rfl rfl inf_199 rfl rfl ⟨rfl, (ORow.one h244), rfl, trivial⟩ rfl rfl fun w ok => wn <| k_next (cl1 (cq le_m206 ok [2, 3, 4, 5, 6, 7, 8] rfl) (cq le_m206 ok [2, 3, 4, 5, 6, 7, 8] rfl)) fun hT => k_done (by kernel_rfl) ?_
       exact ⟨rfl, ⟨b246, c242, M243, ok, E.keep [0, 3, 4, 5, 7, 9, 10, 27, 28, 29, 54], (cat_len e225), h244⟩⟩
    refine wo rfl <| l_alloc E ok zero_199 rfl rfl fun b247 a w E ok => wn <| k_next (cl1 (cq le_m206 ok [2, 3, 4, 5, 6, 7, 8] rfl) (cq le_m206 ok [2, 3, 4, 5, 6, 7, 8] rfl)) fun hT => k_all [3] (by kernel_rfl) rfl (one_c ?_)
    ·refine wo rfl <| l_call E go_122 rfl (strconv_ItoaT_w N x_204 r210 e222 hG hTb ok) rfl rfl ?_
     rintro _ w ⟨⟨rfl, ok⟩, l248⟩
     refine ⟨_, rfl, fun a E => ?_⟩
     refine wn <| k_next (cl1 (cq le_m206 ok [2, 3, 4, 5, 6, 7, 8] rfl) (cq le_m206 ok [2, 3, 4, 5, 6, 7, 8] rfl)) fun hT => kt 4 E rfl hT (y_cat rfl rfl e225) fun a E => kt 13 E rfl hT (y_move rfl) fun a E => ?_
     replace E := E.upd 70 hc231 rfl
     refine kt 14 E rfl hT (y_move rfl) fun a E => kt 15 E rfl hT (y_eql rfl rfl) fun a E => kt 16 E rfl hT (y_pickT rfl rfl) fun a E => kt 17 E rfl hT (y_build (ps := [(0, .tmp 61), (1, .tmp 67), (2, .tmp 73)]) (qs := [(0, [vs s224]), (1, [c242]), (2, [(vb (x_204 == 0))])]) (cs := [vs s224, c242, (vb (x_204 == 0))]) zero_199 places_199 rfl ⟨rfl, rfl, rfl, ⟨rfl, (ORow.cells h244), rfl, ⟨rfl, rfl, rfl, trivial⟩⟩⟩ rfl) fun a E => k_all [19] (by kernel_rfl) rfl (one_c ?_)
     ·refine wo rfl <| l_storeB E ok 0 rfl rfl rfl inf_199 rfl rfl ⟨rfl, (ORow.one h244), rfl, trivial⟩ rfl rfl fun w ok => wn <| k_next (cl1 (cq le_m206 ok [2, 3, 4, 5, 6, 7, 8] rfl) (cq le_m206 ok [2, 3, 4, 5, 6, 7, 8] rfl)) fun hT => k_done (by kernel_rfl) ?_
      exact ⟨rfl, ⟨b247, c242, M243, ok, E.keep [0, 3, 4, 5, 7, 9, 10, 27, 28, 29, 54], (cat_len e225), h244⟩⟩
   refine wo rfl <| l_alloc E ok zero_199 rfl rfl fun b249 a w E ok => wn <| k_next (cl1 (cq le_m206 ok [1, 2, 3, 4, 5, 6, 7] rfl) (cq le_m206 ok [1, 2, 3, 4, 5, 6, 7] rfl)) fun hT => k_all [3, 10] (by kernel_rfl) rfl (all_c ?_ (all_c ?_ (all_n)))
   ·refine wo rfl <| l_call E go_122 rfl (strconv_ItoaT_w N x_204 r210 e222 hG hTb ok) rfl rfl ?_
    rintro _ w ⟨⟨rfl, ok⟩, l250⟩
    refine ⟨_, rfl, fun a E => ?_⟩
    refine wn <| k_next (cl1 (cq le_m206 ok [1, 2, 3, 4, 5, 6, 7] rfl) (cq le_m206 ok [1, 2, 3, 4, 5, 6, 7] rfl)) fun hT => kt 4 E rfl hT (y_cat rfl rfl e225) fun a E => kt 13 E rfl hT (y_move rfl) fun a E => ?_
    replace E := E.upd 70 hc231 rfl
    refine kt 14 E rfl hT (y_move rfl) fun a E => kt 15 E rfl hT (y_eql rfl rfl) fun a E => kt 16 E rfl hT (y_pickT rfl rfl) fun a E => k_all [10] (by kernel_rfl) rfl (one_c ?_)
    ·refine wo rfl <| l_make (R := pTracker) E ok sl_176 zero_86 rfl ⟨rfl, (ir 0), (ir 0)⟩ rfl e227 rfl rfl fun c251 M252 a w E ok h253 => wn <| k_next (cl1 (cq le_m206 ok [2, 3, 4, 5, 6, 7, 8] rfl) (cq le_m206 ok [2, 3, 4, 5, 6, 7, 8] rfl)) fun hT => kt 17 E rfl hT (y_build (ps := [(0, .tmp 61), (1, .tmp 67), (2, .tmp 73)]) (qs := [(0, [vs s224]), (1, [c251]), (2, [(vb (x_204 == 0))])]) (cs := [vs s224, c251, (vb (x_204 == 0))]) zero_199 places_199 rfl ⟨rfl, rfl, rfl, ⟨rfl, (ORow.cells h253), rfl, ⟨rfl, rfl, rfl, trivial⟩⟩⟩ rfl) fun a E => k_all [19] (by kernel_rfl) rfl (one_c ?_)
     ·refine wo rfl <| l_storeB E ok 1 rfl rfl rfl inf_199 rfl rfl ⟨rfl, (ORow.one h253), rfl, trivial⟩ rfl rfl fun w ok => wn <| k_next (cl1 (cq le_m206 ok [2, 3, 4, 5, 6, 7, 8] rfl) (cq le_m206 ok [2, 3, 4, 5, 6, 7, 8] rfl)) fun hT => k_done (by kernel_rfl) ?_
      exact ⟨rfl, ⟨b249, c251, M252, (ok.pk 9 [1, 0, 2, 3, 4, 5, 6, 7, 8] rfl (by decide)), E.keep [0, 3, 4, 5, 7, 9, 10, 27, 28, 29, 54], (cat_len e225), h253⟩⟩
   refine wo rfl <| l_make (R := pTracker) E ok sl_176 zero_86 rfl ⟨rfl, (ir 0), (ir 0)⟩ rfl e227 rfl rfl fun c254 M255 a w E ok h256 => wn <| k_next (cl1 (cq le_m206 ok [2, 3, 4, 5, 6, 7, 8] rfl) (cq le_m206 ok [2, 3, 4, 5, 6, 7, 8] rfl)) fun hT => k_all [3] (by kernel_rfl) rfl (one_c ?_)
   ·refine wo rfl <| l_call E go_122 rfl (strconv_ItoaT_w N x_204 r210 e222 hG hTb ok) rfl rfl ?_
    rintro _ w ⟨⟨rfl, ok⟩, l257⟩
    refine ⟨_, rfl, fun a E => ?_⟩
    refine wn <| k_next (cl1 (cq le_m206 ok [2, 3, 4, 5, 6, 7, 8] rfl) (cq le_m206 ok [2, 3, 4, 5, 6, 7, 8] rfl)) fun hT => kt 4 E rfl hT (y_cat rfl rfl e225) fun a E => kt 13 E rfl hT (y_move rfl) fun a E => ?_
    replace E := E.upd 70 hc231 rfl
    refine kt 14 E rfl hT (y_move rfl) fun a E => kt 15 E rfl hT (y_eql rfl rfl) fun a E => kt 16 E rfl hT (y_pickT rfl rfl) fun a E => kt 17 E rfl hT (y_build (ps := [(0, .tmp 61), (1, .tmp 67), (2, .tmp 73)]) (qs := [(0, [vs s224]), (1, [c254]), (2, [(vb (x_204 == 0))])]) (cs := [vs s224, c254, (vb (x_204 == 0))]) zero_199 places_199 rfl ⟨rfl, rfl, rfl, ⟨rfl, (ORow.cells h256), rfl, ⟨rfl, rfl, rfl, trivial⟩⟩⟩ rfl) fun a E => k_all [19] (by kernel_rfl) rfl (one_c ?_)
    ·refine wo rfl <| l_storeB E ok 1 rfl rfl rfl inf_199 rfl rfl ⟨rfl, (ORow.one h256), rfl, trivial⟩ rfl rfl fun w ok => wn <| k_next (cl1 (cq le_m206 ok [2, 3, 4, 5, 6, 7, 8] rfl) (cq le_m206 ok [2, 3, 4, 5, 6, 7, 8] rfl)) fun hT => k_done (by kernel_rfl) ?_
     exact ⟨rfl, ⟨b249, c254, M255, (ok.pk 9 [1, 0, 2, 3, 4, 5, 6, 7, 8] rfl (by decide)), E.keep [0, 3, 4, 5, 7, 9, 10, 27, 28, 29, 54], (cat_len e225), h256⟩⟩
 replace hF := cond_f hc231 hF
 obtain rfl := sj hF
 refine k_begin [] (Cls u m206 ([(pb0, oc 175 [c175, c177, c180])] :: M178 :: M181 :: [(b146, oc 199 [vs x133.s, c144, vb x133.integer])] :: M208 :: M212 :: M62 :: [])) (Cls u m206 ([(pb0, oc 175 [c175, c177, c180])] :: M178 :: M181 :: [(b146, oc 199 [vs x133.s, c144, vb x133.integer])] :: M208 :: M212 :: M62 :: [])) (by kernel_rfl) ?_
 intro w hw
 replace ok := okdrew ok hw
 clear hw
 have le_m206 := Mem.le.refl m206
 refine k_next (cl1 (cq le_m206 ok [0, 1, 2, 3, 4, 5, 6] rfl) (cq le_m206 ok [0, 1, 2, 3, 4, 5, 6] rfl)) fun hT => kt 0 E rfl hT (y_fieldAddr fo_199_0 rfl) fun a E => kt 1 E rfl hT (y_load one_9 rfl (Holds.cown 3 rfl rfl)) fun a E => kt 2 E rfl hT (y_move rfl) fun a E => kt 5 E rfl hT (y_move rfl) fun a E => kt 6 E rfl hT (y_nilCheck rfl) fun a E => kt 7 E rfl hT (y_fieldAddr fo_175_0 rfl) fun a E => kt 8 E rfl hT (y_load one_66 rfl (Holds.cown 0 rfl rfl)) fun a E => ?_
 refine kt 9 E rfl hT (y_lenL sl_66 h176 rfl) fun a E => kt 11 E rfl hT (y_fieldAddr fo_199_2 rfl) fun a E => kt 12 E rfl hT (y_load one_4 rfl (Holds.cown 3 rfl rfl)) fun a E => k_all [3, 10, 18] (by kernel_rfl) rfl (all_c ?_ (all_c ?_ (all_c ?_ (all_n))))
 ·refine wo rfl <| l_call E go_122 rfl (strconv_ItoaT_w N x_204 r210 e222 hG hTb ok) rfl rfl ?_
  rintro _ w ⟨⟨rfl, ok⟩, l259⟩
  refine ⟨_, rfl, fun a E => ?_⟩
  refine wn <| k_next (cl1 (cq le_m206 ok [0, 1, 2, 3, 4, 5, 6] rfl) (cq le_m206 ok [0, 1, 2, 3, 4, 5, 6] rfl)) fun hT => kt 4 E rfl hT (y_cat rfl rfl e225) fun a E => kt 13 E rfl hT (y_move rfl) fun a E => ?_
  replace E := E.upd 70 hc231 rfl
  refine k_skip 14 false E rfl (by kernel_rfl) nP hT rfl rfl fun a E => k_skip 15 false E rfl (by kernel_rfl) nP hT rfl rfl fun a E => kt 16 E rfl hT (y_pickF rfl rfl) fun a E => k_all [10, 18] (by kernel_rfl) rfl (all_c ?_ (all_c ?_ (all_n)))
  ·refine wo rfl <| l_make (R := pTracker) E ok sl_176 zero_86 rfl ⟨rfl, (ir 0), (ir 0)⟩ rfl e227 rfl rfl fun c260 M261 a w E ok h262 => wn <| k_next (cl1 (cq le_m206 ok [1, 2, 3, 4, 5, 6, 7] rfl) (cq le_m206 ok [1, 2, 3, 4, 5, 6, 7] rfl)) fun hT => kt 17 E rfl hT (y_build (ps := [(0, .tmp 61), (1, .tmp 67), (2, .tmp 73)]) (qs := [(0, [vs s224]), (1, [c260]), (2, [vb false])]) (cs := [vs s224, c260, vb false]) zero_199 places_199 rfl ⟨rfl, rfl, rfl, ⟨rfl, (ORow.cells h262), rfl, ⟨rfl, rfl, rfl, trivial⟩⟩⟩ rfl) fun a E => k_all [18] (by kernel_rfl) rfl (one_c ?_)
   ·refine wo rfl <| l_alloc E ok zero_199 rfl rfl fun b263 a w E ok => wn <| k_next (cl1 (cq le_m206 ok [2, 3, 4, 5, 6, 7, 8] rfl) (cq le_m206 ok [2, 3, 4, 5, 6, 7, 8] rfl)) fun hT => k_all [19] (by kernel_rfl) rfl (one_c ?_)
    ·refine wo rfl <| l_storeB E ok 0 rfl rfl rfl inf_199 rfl rfl ⟨rfl, (ORow.one h262), rfl, trivial⟩ rfl rfl fun w ok => wn <| k_next (cl1 (cq le_m206 ok [2, 3, 4, 5, 6, 7, 8] rfl) (cq le_m206 ok [2, 3, 4, 5, 6, 7, 8] rfl)) fun hT => k_done (by kernel_rfl) ?_
     exact ⟨rfl, ⟨b263, c260, M261, ok, E.keep [0, 3, 4, 5, 7, 9, 10, 27, 28, 29, 54], (cat_len e225), h262⟩⟩
  refine wo rfl <| l_alloc E ok zero_199 rfl rfl fun b264 a w E ok => wn <| k_next (cl1 (cq le_m206 ok [1, 2, 3, 4, 5, 6, 7] rfl) (cq le_m206 ok [1, 2, 3, 4, 5, 6, 7] rfl)) fun hT => k_all [10] (by kernel_rfl) rfl (one_c ?_)
  ·refine wo rfl <| l_make (R := pTracker) E ok sl_176 zero_86 rfl ⟨rfl, (ir 0), (ir 0)⟩ rfl e227 rfl rfl fun c265 M266 a w E ok h267 => wn <| k_next (cl1 (cq le_m206 ok [2, 3, 4, 5, 6, 7, 8] rfl) (cq le_m206 ok [2, 3, 4, 5, 6, 7, 8] rfl)) fun hT => kt 17 E rfl hT (y_build (ps := [(0, .tmp 61), (1, .tmp 67), (2, .tmp 73)]) (qs := [(0, [vs s224]), (1, [c265]), (2, [vb false])]) (cs := [vs s224, c265, vb false]) zero_199 places_199 rfl ⟨rfl, rfl, rfl, ⟨rfl, (ORow.cells h267), rfl, ⟨rfl, rfl, rfl, trivial⟩⟩⟩ rfl) fun a E => k_all [19] (by kernel_rfl) rfl (one_c ?_)
   ·refine wo rfl <| l_storeB E ok 1 rfl rfl rfl inf_199 rfl rfl ⟨rfl, (ORow.one h267), rfl, trivial⟩ rfl rfl fun w ok => wn <| k_next (cl1 (cq le_m206 ok [2, 3, 4, 5, 6, 7, 8] rfl) (cq le_m206 ok [2, 3, 4, 5, 6, 7, 8] rfl)) fun hT => k_done (by kernel_rfl) ?_
    exact ⟨rfl, ⟨b264, c265, M266, (ok.pk 9 [1, 0, 2, 3, 4, 5, 6, 7, 8] rfl (by decide)), E.keep [0, 3, 4, 5, 7, 9, 10, 27, 28, 29, 54], (cat_len e225), h267⟩⟩
 ·refine wo rfl <| l_make (R := pTracker) E ok sl_176 zero_86 rfl ⟨rfl, (ir 0), (ir 0)⟩ rfl e227 rfl rfl fun c268 M269 a w E ok h270 => wn <| k_next (cl1 (cq le_m206 ok [1, 2, 3, 4, 5, 6, 7] rfl) (cq le_m206 ok [1, 2, 3, 4, 5, 6, 7] rfl)) fun hT => k_all [3, 18] (by kernel_rfl) rfl (all_c ?_ (all_c ?_ (all_n)))
  ·refine wo rfl <| l_call E go_122 rfl (strconv_ItoaT_w N x_204 r210 e222 hG hTb ok) rfl rfl ?_
   rintro _ w ⟨⟨rfl, ok⟩, l271⟩
   refine ⟨_, rfl, fun a E => ?_⟩
   refine wn <| k_next (cl1 (cq le_m206 ok [1, 2, 3, 4, 5, 6, 7] rfl) (cq le_m206 ok [1, 2, 3, 4, 5, 6, 7] rfl)) fun hT => kt 4 E rfl hT (y_cat rfl rfl e225) fun a E => kt 13 E rfl hT (y_move rfl) fun a E => ?_
   replace E := E.upd 70 hc231 rfl
   refine k_skip 14 false E rfl (by kernel_rfl) nP hT rfl rfl fun a E => k_skip 15 false E rfl (by kernel_rfl) nP hT rfl rfl fun a E => kt 16 E rfl hT (y_pickF rfl rfl) fun a E => kt 17 E rfl hT (y_build (ps := [(0, .tmp 61), (1, .tmp 67), (2, .tmp 73)]) (qs := [(0, [vs s224]), (1, [c268]), (2, [vb false])]) (cs := [vs s224, c268, vb false]) zero_199 places_199 rfl ⟨rfl, rfl, rfl, ⟨rfl, (ORow.cells h270), rfl, ⟨rfl, rfl, rfl, trivial⟩⟩⟩ rfl) fun a E => k_all [18] (by kernel_rfl) rfl (one_c ?_)
   ·refine wo rfl <| l_alloc E ok zero_199 rfl rfl fun b272 a w E ok => wn <| k_next (cl1 (cq le_m206 ok [2, 3, 4, 5, 6, 7, 8] rfl) (cq le_m206 ok [2, 3, 4, 5, 6, 7, 8] rfl)) fun hT => k_all [19] (by kernel_rfl) rfl (one_c ?_)
    ·refine wo rfl <| l_storeB E ok 0 rfl rfl rfl inf_199 rfl rfl ⟨rfl, (ORow.one h270), rfl, trivial⟩ rfl rfl fun w ok => wn <| k_next (cl1 (cq le_m206 ok [2, 3, 4, 5, 6, 7, 8] rfl) (cq le_m206 ok [2, 3, 4, 5, 6, 7, 8] rfl)) fun hT => k_done (by kernel_rfl) ?_
     exact ⟨rfl, ⟨b272, c268, M269, ok, E.keep [0, 3, 4, 5, 7, 9, 10, 27, 28, 29, 54], (cat_len e225), h270⟩⟩
  refine wo rfl <| l_alloc E ok zero_199 rfl rfl fun b273 a w E ok => wn <| k_next (cl1 (cq le_m206 ok [2, 3, 4, 5, 6, 7, 8] rfl) (cq le_m206 ok [2, 3, 4, 5, 6, 7, 8] rfl)) fun hT => k_all [3] (by kernel_rfl) rfl (one_c ?_)
  ·refine wo rfl <| l_call E go_122 rfl (strconv_ItoaT_w N x_204 r210 e222 hG hTb ok) rfl rfl ?_
   rintro _ w ⟨⟨rfl, ok⟩, l274⟩
   refine ⟨_, rfl, fun a E => ?_⟩
   refine wn <| k_next (cl1 (cq le_m206 ok [2, 3, 4, 5, 6, 7, 8] rfl) (cq le_m206 ok [2, 3, 4, 5, 6, 7, 8] rfl)) fun hT => kt 4 E rfl hT (y_cat rfl rfl e225) fun a E => kt 13 E rfl hT (y_move rfl) fun a E => ?_
   replace E := E.upd 70 hc231 rfl
   refine k_skip 14 false E rfl (by kernel_rfl) nP hT rfl rfl fun a E => k_skip 15 false E rfl (by kernel_rfl) nP hT rfl rfl fun a E => kt 16 E rfl hT (y_pickF rfl rfl) fun a E => kt 17 E rfl hT (y_build (ps := [(0, .tmp 61), (1, .tmp 67), (2, .tmp 73)]) (qs := [(0, [vs s224]), (1, [c268]), (2, [vb false])]) (cs := [vs s224, c268, vb false]) zero_199 places_199 rfl ⟨rfl, rfl, rfl, ⟨rfl, (ORow.cells h270), rfl, ⟨rfl, rfl, rfl, trivial⟩⟩⟩ rfl) fun a E => k_all [19] (by kernel_rfl) rfl (one_c ?_)
   ·refine wo rfl <| l_storeB E ok 0 rfl rfl rfl inf_199 rfl rfl ⟨rfl, (ORow.one h270), rfl, trivial⟩ rfl rfl fun w ok => wn <| k_next (cl1 (cq le_m206 ok [2, 3, 4, 5, 6, 7, 8] rfl) (cq le_m206 ok [2, 3, 4, 5, 6, 7, 8] rfl)) fun hT => k_done (by kernel_rfl) ?_
    exact ⟨rfl, ⟨b273, c268, M269, ok, E.keep [0, 3, 4, 5, 7, 9, 10, 27, 28, 29, 54], (cat_len e225), h270⟩⟩
 refine wo rfl <| l_alloc E ok zero_199 rfl rfl fun b275 a w E ok => wn <| k_next (cl1 (cq le_m206 ok [1, 2, 3, 4, 5, 6, 7] rfl) (cq le_m206 ok [1, 2, 3, 4, 5, 6, 7] rfl)) fun hT => k_all [3, 10] (by kernel_rfl) rfl (all_c ?_ (all_c ?_ (all_n)))
 ·refine wo rfl <| l_call E go_122 rfl (strconv_ItoaT_w N x_204 r210 e222 hG hTb ok) rfl rfl ?_
  rintro _ w ⟨⟨rfl, ok⟩, l276⟩
  refine ⟨_, rfl, fun a E => ?_⟩
  refine wn <| k_next (cl1 (cq le_m206 ok [1, 2, 3, 4, 5, 6, 7] rfl) (cq le_m206 ok [1, 2, 3, 4, 5, 6, 7] rfl)) fun hT => kt 4 E rfl hT (y_cat rfl rfl e225) fun a E => kt 13 E rfl hT (y_move rfl) fun a E => ?_
  replace E := E.upd 70 hc231 rfl
  refine k_skip 14 false E rfl (by kernel_rfl) nP hT rfl rfl fun a E => k_skip 15 false E rfl (by kernel_rfl) nP hT rfl rfl fun a E => kt 16 E rfl hT (y_pickF rfl rfl) fun a E => k_all [10] (by kernel_rfl) rfl (one_c ?_)
  ·refine wo rfl <| l_make (R := pTracker) E ok sl_176 zero_86 rfl ⟨rfl, (ir 0), (ir 0)⟩ rfl e227 rfl rfl fun c277 M278 a w E ok h279 => wn <| k_next (cl1 (cq le_m206 ok [2, 3, 4, 5, 6, 7, 8] rfl) (cq le_m206 ok [2, 3, 4, 5, 6, 7, 8] rfl)) fun hT => kt 17 E rfl hT (y_build (ps := [(0, .tmp 61), (1, .tmp 67), (2, .tmp 73)]) (qs := [(0, [vs s224]), (1, [c277]), (2, [vb false])]) (cs := [vs s224, c277, vb false]) zero_199 places_199 rfl ⟨rfl, rfl, rfl, ⟨rfl, (ORow.cells h279), rfl, ⟨rfl, rfl, rfl, trivial⟩⟩⟩ rfl) fun a E => k_all [19] (by kernel_rfl) rfl (one_c ?_)
   ·refine wo rfl <| l_storeB E ok 1 rfl rfl rfl inf_199 rfl rfl ⟨rfl, (ORow.one h279), rfl, trivial⟩ rfl rfl fun w ok => wn <| k_next (cl1 (cq le_m206 ok [2, 3, 4, 5, 6, 7, 8] rfl) (cq le_m206 ok [2, 3, 4, 5, 6, 7, 8] rfl)) fun hT => k_done (by kernel_rfl) ?_
    exact ⟨rfl, ⟨b275, c277, M278, (ok.pk 9 [1, 0, 2, 3, 4, 5, 6, 7, 8] rfl (by decide)), E.keep [0, 3, 4, 5, 7, 9, 10, 27, 28, 29, 54], (cat_len e225), h279⟩⟩
 refine wo rfl <| l_make (R := pTracker) E ok sl_176 zero_86 rfl ⟨rfl, (ir 0), (ir 0)⟩ rfl e227 rfl rfl fun c280 M281 a w E ok h282 => wn <| k_next (cl1 (cq le_m206 ok [2, 3, 4, 5, 6, 7, 8] rfl) (cq le_m206 ok [2, 3, 4, 5, 6, 7, 8] rfl)) fun hT => k_all [3] (by kernel_rfl) rfl (one_c ?_)
 ·refine wo rfl <| l_call E go_122 rfl (strconv_ItoaT_w N x_204 r210 e222 hG hTb ok) rfl rfl ?_
  rintro _ w ⟨⟨rfl, ok⟩, l283⟩
  refine ⟨_, rfl, fun a E => ?_⟩
  refine wn <| k_next (cl1 (cq le_m206 ok [2, 3, 4, 5, 6, 7, 8] rfl) (cq le_m206 ok [2, 3, 4, 5, 6, 7, 8] rfl)) fun hT => kt 4 E rfl hT (y_cat rfl rfl e225) fun a E => kt 13 E rfl hT (y_move rfl) fun a E => ?_
  replace E := E.upd 70 hc231 rfl
  refine k_skip 14 false E rfl (by kernel_rfl) nP hT rfl rfl fun a E => k_skip 15 false E rfl (by kernel_rfl) nP hT rfl rfl fun a E => kt 16 E rfl hT (y_pickF rfl rfl) fun a E => kt 17 E rfl hT (y_build (ps := [(0, .tmp 61), (1, .tmp 67), (2, .tmp 73)]) (qs := [(0, [vs s224]), (1, [c280]), (2, [vb false])]) (cs := [vs s224, c280, vb false]) zero_199 places_199 rfl ⟨rfl, rfl, rfl, ⟨rfl, (ORow.cells h282), rfl, ⟨rfl, rfl, rfl, trivial⟩⟩⟩ rfl) fun a E => k_all [19] (by kernel_rfl) rfl (one_c ?_)
  ·refine wo rfl <| l_storeB E ok 1 rfl rfl rfl inf_199 rfl rfl ⟨rfl, (ORow.one h282), rfl, trivial⟩ rfl rfl fun w ok => wn <| k_next (cl1 (cq le_m206 ok [2, 3, 4, 5, 6, 7, 8] rfl) (cq le_m206 ok [2, 3, 4, 5, 6, 7, 8] rfl)) fun hT => k_done (by kernel_rfl) ?_
   exact ⟨rfl, ⟨b275, c280, M281, (ok.pk 9 [1, 0, 2, 3, 4, 5, 6, 7, 8] rfl (by decide)), E.keep [0, 3, 4, 5, 7, 9, 10, 27, 28, 29, 54], (cat_len e225), h282⟩⟩
def decide_newClasses_R (u : World) (m0 : Mem) (S : Segs) (r : (Option (Classes))) (a : Act) (w : World) : Prop :=
 ∃ m1 v0, m0.le m1 ∧ Ok u m1 (S) w ∧ a.defers = [] ∧ RVs Tryz.prog a w [.t 2 v0] ∧ (pP 3 pClasses) m1 [v0] r
theorem decide_newClasses_w (N : Nat) (vl_0 : Value) (l_0 : List (Relation)) (hl_0 : (pL 4 pRelation) m0 [vl_0] l_0) {r : (Option (Classes))} (hF : decide_newClasses N l_0 = some r) (hG : Glob u) (hTb : Tab u) (ok : Ok u m0 (S) w) :
  Calls Tryz.prog 94 [vl_0].toArray w fun e w' => ∃ m1 v0, e = .returned v0 ∧ m0.le m1 ∧ Ok u m1 (S) w' ∧ (pP 3 pClasses) m1 [v0] r := by
 have le_m0 := Mem.le.refl m0
 unfold decide_newClasses at hF
 refine en (decide_newClasses_R u m0 S) r Tryz.func94 rfl rfl rfl (by rintro a w ⟨m1, v0, hle, ok, hd, hrv, h0⟩; exact c_ret2 [.t 2 v0] hd rfl hrv ⟨m1, v0, rfl, hle, ok, h0⟩) fun fin a E => sg <| aw E rfl fun a E => sg ?_
 refine mv E rfl fun a E => lw E (y_build (ps := [(0, .tmp 9)]) (qs := [(0, [vl_0])]) (cs := [vl_0, (Value.slice none 0 0), (Value.slice none 0 0)]) zero_175 places_175 rfl ⟨rfl, (pL_cells hl_0), rfl, trivial⟩ rfl) fun a E => l_box E ok rfl rfl rfl fun b1 a w E ok => aw E rfl fun a E => wp_seq <| wp_seq ?_
 refine c_region <| mv E rfl fun a E => wn <| wp_block ?_
 obtain ⟨M12, ok, h13⟩ := nilrow (e := 181) (k := 2) (R := pPart) ok
 obtain ⟨M14, ok, h15⟩ := nilrow (e := 181) (k := 2) (R := pPart) ok
 obtain ⟨o16, hL, hF⟩ := bnd hF
 refine c_loop _ (fun (s : Int × Classes) a w => ∃ m17 c19 c21 M22 c24 M25, m0.le m17 ∧ Ok u m17 (M25 :: M22 :: [(b1, oc 175 [c19, c21, c24])] :: S) w ∧ Env 54 a [(0, vl_0), (3, vp b1), (12, vi s.1)] ∧ InR .i64 s.1 ∧ (pL 4 pRelation) m17 [c19] s.2.l ∧ ORow 181 2 pPart m17 c21 s.2.wholes M22 ∧ ORow 181 2 pPart m17 c24 s.2.fraction M25) (fun (b : Classes) e a w => e = (.exit 0) ∧ ∃ m166 c167 c169 M170 c172 M173, m0.le m166 ∧ Ok u m166 (M173 :: M170 :: [(b1, oc 175 [c167, c169, c172])] :: S) w ∧ Env 54 a [(3, vp b1)] ∧ (pL 4 pRelation) m166 [c167] b.l ∧ ORow 181 2 pPart m166 c169 b.wholes M170 ∧ ORow 181 2 pPart m166 c172 b.fraction M173) ?_ ?_ N _ a w hL ⟨m0, vl_0, (Value.slice none 0 0), M12, (Value.slice none 0 0), M14, Mem.le.refl _, ok, E.keep [0, 3, 12], (ir 0), hl_0, h13, h15⟩
 rotate_left
 ·intro e a w _ hO
  obtain ⟨rfl, m140, c141, c143, M144, c146, M147, hle, ok, E, h142, h145, h148⟩ := hO
  have le_m0 := le_m0.trans hle
  have hl_0 := (mL mRelation).up hle hl_0
  refine b_hit <| t_norm <| sg <| mv E rfl fun a E => ?_
  obtain ⟨r149, e150, hF⟩ := bnd hF
  replace ok : Ok u m140 ([(b1, oc 175 [c141, c143, c146])] :: M144 :: M147 :: S) w := (ok.pk 3 [2, 1, 0] rfl (by decide))
  refine l_call E go_126 rfl (decide_classes_fractions_w N o16 h142 h145 h148 e150 hG hTb ok) rfl rfl ?_
  rintro _ w ⟨m151, c152, c154, M155, c157, M158, rfl, hle, ok, h153, h156, h159⟩
  have le_m0 := le_m0.trans hle
  have hl_0 := (mL mRelation).up hle hl_0
  have h142 := (mL mRelation).up hle h142
  refine ⟨_, rfl, fun a E => ?_⟩
  refine wn <| sg <| mv E rfl fun a E => aw E rfl fun a E => ?_
  refine wp_ret ?_
  obtain ⟨m160, hle, ok, hfz⟩ := (ok.frs 1 rfl).freeze
  have h161 := ORow.froz mPart h156 hle hfz (by decide)
  have le_m0 := le_m0.trans hle
  have hl_0 := (mL mRelation).up hle hl_0
  have h142 := (mL mRelation).up hle h142
  have h153 := (mL mRelation).up hle h153
  have h159 := ORow.up mPart hle h159
  obtain ⟨m162, hle, ok, hfz⟩ := (ok.frs 1 rfl).freeze
  have h163 := ORow.froz mPart h159 hle hfz (by decide)
  have le_m0 := le_m0.trans hle
  have hl_0 := (mL mRelation).up hle hl_0
  have h142 := (mL mRelation).up hle h142
  have h153 := (mL mRelation).up hle h153
  have h161 := (mL mPart).up hle h161
  have hbx := (show pClasses m162 [c152, c154, c157] r149 from ⟨_, _, _, rfl, h153, h161, h163⟩)
  obtain ⟨m164, hle, ok, hfz⟩ := (ok.frs 0 rfl).freeze
  have h165 := pP_froz mClasses hbx hle hfz rfl
  clear hbx
  have le_m0 := le_m0.trans hle
  have hl_0 := (mL mRelation).up hle hl_0
  have h142 := (mL mRelation).up hle h142
  have h153 := (mL mRelation).up hle h153
  have h161 := (mL mPart).up hle h161
  have h163 := (mL mPart).up hle h163
  exact fin hF ⟨m164, vp b1, le_m0, ok, E.d, ⟨rv_t E rfl, trivial⟩, h165⟩
 rintro ⟨x_27, x_28⟩ a w r ⟨m29, c31, c33, M34, c36, M37, hle, ok, E, r30, h32, h35, h38⟩ hF
 replace hF : decide_newClasses_b1 N l_0 x_27 x_28 = some r := hF
 unfold decide_newClasses_b1 at hF
 have le_m0 := le_m0.trans hle
 have hl_0 := (mL mRelation).up hle hl_0
 refine sg <| lw E (y_lss rfl rfl) fun a E => wn <| wp_seq <| cf E rfl hF (fun hc39 hF => ?_) fun hc39 hF => ?_
 rotate_left
 ·refine wp_exit <| t_exit ?_
  obtain rfl := sj hF
  exact so (⟨rfl, ⟨m29, c31, c33, M34, c36, M37, le_m0, ok, E.keep [3], h32, h35, h38⟩⟩)
 refine wp_skip <| t_norm <| wp_seq <| wp_block <| sg <| mv E rfl fun a E => av E rfl fun a E => ?_
 refine wn <| sg <| mv E rfl fun a E => ?_
 obtain ⟨r40, e41, hF⟩ := bnd hF
 refine l_call E go_122 rfl (strconv_ItoaT_w N x_27 r30 e41 hG hTb ok) rfl rfl ?_
 rintro _ w ⟨⟨rfl, ok⟩, l42⟩
 refine ⟨_, rfl, fun a E => ?_⟩
 refine aw E rfl fun a E => sg <| mv E rfl fun a E => lv E ok (y_lenL sl_66 hl_0 rfl) fun a E => ?_
 obtain ⟨l43, e44, hF⟩ := bnd hF
 refine l_make (R := pTracker) E ok sl_176 zero_86 rfl ⟨rfl, (ir 0), (ir 0)⟩ rfl e44 rfl rfl fun c45 M46 a w E ok h47 => aw E rfl fun a E => wp_seq <| sg <| mv E rfl fun a E => ?_
 refine lv E ok (y_lenL sl_66 hl_0 rfl) fun a E => mv E rfl fun a E => wn <| wp_block ?_
 obtain ⟨o53, hL, hF⟩ := bnd hF
 refine c_loop _ (fun (s : Int × (List (Tracker))) a w => ∃ c55 M56, Ok u m29 (M56 :: M37 :: M34 :: [(b1, oc 175 [c31, c33, c36])] :: S) w ∧ Env 54 a [(0, vl_0), (3, vp b1), (4, vi x_27), (5, vs r40), (6, c55), (12, vi x_27), (20, vl_0), (21, (vi (l_0.length : Int))), (22, vi s.1)] ∧ InR .i64 s.1 ∧ ORow 86 2 pTracker m29 c55 s.2 M56) (fun (b : ((List (Tracker)))) e a w => e = (.exit 2) ∧ ∃ c137 M138, Ok u m29 (M138 :: M37 :: M34 :: [(b1, oc 175 [c31, c33, c36])] :: S) w ∧ Env 54 a [(0, vl_0), (3, vp b1), (5, vs r40), (6, c137), (12, vi x_27)] ∧ ORow 86 2 pTracker m29 c137 b M138) ?_ ?_ N _ a w hL ⟨c45, M46, ok, E.keep [0, 3, 4, 5, 6, 12, 20, 21, 22], (ir 0), h47⟩
 ·rintro ⟨x_58, trackers_59⟩ a w r ⟨c61, M62, ok, E, r60, h63⟩ hF
  replace hF : decide_newClasses_b2 N l_0 x_27 x_58 trackers_59 = some r := hF
  unfold decide_newClasses_b2 at hF
  refine sg <| lw E (y_lss rfl rfl) fun a E => wn <| wp_seq <| cf E rfl hF (fun hc64 hF => ?_) fun hc64 hF => ?_
  rotate_left
  ·refine wp_exit <| t_exit ?_
   obtain rfl := sj hF
   exact so (⟨rfl, ⟨c61, M62, ok, E.keep [0, 3, 5, 6, 12], h63⟩⟩)
  refine wp_skip <| t_norm <| wp_seq <| wp_block <| sg <| mv E rfl fun a E => ?_
  obtain ⟨x65, e66, hF⟩ := bnd hF
  obtain ⟨b67, o68, es69, hl70, rr71, at72, yy73⟩ := idxAt sl_66 hl_0 e66 (P := Tryz.prog) (X := .tmp 20) (I := .tmp 22) (kd := .i64) (ev_of E rfl) (ev_of E rfl)
  obtain ⟨c76, rfl, r74, r75, h77⟩ := rr71
  refine lv E ok (yy73 _ _) fun a E => lv E ok (y_loadAgg (cs := [vi x65.Operand, vi x65.Mod, vb x65.Not, c76]) agg_69 rfl rfl (Holds.ro at72)) fun a E => l_alloc E ok zero_69 rfl rfl fun b78 a w E ok => av E rfl fun a E => l_storeB E ok 0 rfl rfl rfl inf_69 rfl rfl ⟨rfl, rfl, rfl, (pL_one h77), trivial⟩ rfl rfl fun w ok => wn <| wp_seq ?_
  refine c_region <| lv E ok (y_loadAgg (cs := [vi x65.Operand, vi x65.Mod, vb x65.Not, c76]) agg_69 rfl rfl (Holds.own 0 rfl rfl)) fun a E => ?_
  obtain ⟨r79, e80, hF⟩ := bnd hF
  refine lc E go_123 rfl (decide_onWhole_w N _ x65 ⟨_, rfl, r74, r75, h77⟩ e80 hG ok) fun w ok a E => wn <| cf E rfl hF (fun hc81 hF => ?_) fun hc81 hF => ?_
  rotate_left
  ·refine wp_skip <| b_norm <| t_norm <| c_region <| lw E (y_add rfl rfl (InR.inc r60 (pL_InR hl_0) hc64)) fun a E => mv E rfl fun a E => wpList_nil ?_
   obtain rfl := sj hF
   exact step_n ⟨c61, M62, (ok.pk 5 [1, 2, 3, 4] rfl (by decide)), E.keep [0, 3, 4, 5, 6, 12, 20, 21, 22], (InR.inc r60 (pL_InR hl_0) hc64), h63⟩
  refine c_region <| mv E rfl fun a E => mv E rfl fun a E => lv E ok (y_loadAgg (cs := [vi x65.Operand, vi x65.Mod, vb x65.Not, c76]) agg_69 rfl rfl (Holds.own 0 rfl rfl)) fun a E => mv E rfl fun a E => ?_
  obtain ⟨r82, e83, hF⟩ := bnd hF
  refine l_call E go_120 rfl (decide_reduced_w N _ x65 ⟨_, rfl, r74, r75, h77⟩ x_27 r30 e83 hG ok) rfl rfl ?_
  rintro _ w ⟨⟨rfl, ok⟩, r84⟩
  refine ⟨_, rfl, fun a E => ?_⟩
  obtain ⟨x85, e86, hF⟩ := bnd hF
  obtain ⟨b87, o88, hp89, yy90⟩ := orowAt sl_176 h63 e86 (P := Tryz.prog) (X := .tmp 29) (I := .tmp 30) (kd := .i64) (ev_of E rfl) (ev_of E rfl)
  refine lv E ok (yy90 _ _) fun a E => fv E fo_86_0 rfl fun a E => ?_
  obtain ⟨l93, e94, hF⟩ := bnd hF
  refine l_storeRowF (R := pTracker) (f := 0) E ok 1 rfl h63 e86 hp89 rfl rfl rfl inf_3 rfl rfl rfl ⟨rfl, trivial⟩ (fun es _ h => by obtain ⟨rfl, r91, r92⟩ := h; exact ⟨rfl, r84, r92⟩) e94 rfl fun M95 w ok h96 => wpList_nil <| b_norm <| t_norm <| c_region <| lw E (y_add rfl rfl (InR.inc r60 (pL_InR hl_0) hc64)) fun a E => mv E rfl fun a E => wpList_nil ?_
  obtain rfl := sj hF
  exact step_n ⟨c61, M95, (ok.pk 5 [1, 2, 3, 4] rfl (by decide)), E.keep [0, 3, 4, 5, 6, 12, 20, 21, 22], (InR.inc r60 (pL_InR hl_0) hc64), h96⟩
 intro e a w _ hO
 obtain ⟨rfl, c97, M98, ok, E, h99⟩ := hO
 refine b_hit <| t_norm ?_
 obtain ⟨o100, hJ, hF⟩ := bnd hF
 refine c_mono (Q' := fun e a w => e = .normal ∧ ∃ m101 c102 c104 M105 c107 M108, m29.le m101 ∧ Ok u m101 (M108 :: M105 :: [(b1, oc 175 [c102, c104, c107])] :: S) w ∧ Env 54 a [(0, vl_0), (3, vp b1), (12, vi x_27)] ∧ (pL 4 pRelation) m101 [c102] o100.l ∧ ORow 181 2 pPart m101 c104 o100.wholes M105 ∧ ORow 181 2 pPart m101 c107 o100.fraction M108) ?_ ?_
 rotate_left
 ·clear hJ
  intro e a w hO
  obtain ⟨rfl, m128, c129, c131, M132, c134, M135, hle, ok, E, h130, h133, h136⟩ := hO
  have le_m0 := le_m0.trans hle
  have hl_0 := (mL mRelation).up hle hl_0
  have h32 := (mL mRelation).up hle h32
  refine b_norm <| t_norm <| c_region <| lw E (y_add rfl rfl (InR.inc r30 (ir 1000) hc39)) fun a E => mv E rfl fun a E => wpList_nil ?_
  obtain rfl := sj hF
  exact step_n ⟨m128, c129, c131, M132, c134, M135, le_m0, ok, E.keep [0, 3, 12], (InR.inc r30 (ir 1000) hc39), h130, h133, h136⟩
 replace hF := hJ
 clear hJ
 have le_m29 := Mem.le.refl m29
 obtain ⟨r112, e113, hF⟩ := bnd hF
 obtain ⟨r115, e116, hF⟩ := bnd hF
 obtain rfl := sj hF
 refine k_begin [4] (Cls u m29 (M37 :: [(b1, oc 175 [c31, c33, c36])] :: [])) (Cls u m29 (M37 :: [])) (by kernel_rfl) ?_
 intro w hw
 replace ok := okdrew ok hw
 clear hw
 have h32_o := h32
 refine k_next (cl1 (cq le_m29 ok [1, 3] rfl) (cq le_m29 ok [1] rfl)) fun hT => kt 0 E rfl hT (y_move rfl) fun a E => kt 1 E rfl hT (y_move rfl) fun a E => kt 2 E rfl hT (y_nilCheck rfl) fun a E => kt 3 E rfl hT (y_fieldAddr fo_175_1 rfl) fun a E => k_takeN 4 E rfl (by kernel_rfl) nP hT (y_load one_173 rfl (Holds.cown 1 rfl rfl)) rfl rfl fun a E => kt 5 E rfl hT (y_move rfl) fun a E => kt 6 E rfl hT (y_move rfl) fun a E => ?_
 refine kt 8 E rfl hT (y_move rfl) fun a E => k_all [7] (by kernel_rfl) rfl (one_c ?_)
 ·refine wpOp_of_list (o := _) rfl ?_
  obtain ⟨m121, hle, ok, hfz⟩ := (ok.frs 0 rfl).freeze
  have h122 := ORow.froz mTracker h99 hle hfz (by decide)
  have le_m0 := le_m0.trans hle
  have le_m29 := le_m29.trans hle
  have hl_0 := (mL mRelation).up hle hl_0
  have h32 := (mL mRelation).up hle h32
  have h35 := ORow.up mPart hle h35
  have h38 := ORow.up mPart hle h38
  replace ok : Ok u m121 ([(b1, oc 175 [c31, c33, c36])] :: M34 :: M37 :: S) w := (ok.pk 3 [2, 1, 0] rfl (by decide))
  refine l_call E go_125 rfl (decide_classes_bits_w N false _ o53 h122 x_28 h32 h35 h38 e113 hG ok) rfl rfl ?_
  rintro _ w ⟨⟨rfl, ok⟩, r123⟩
  refine ⟨_, rfl, fun a E => ?_⟩
  refine wn <| k_next (cl1 (cq le_m29 ok [2, 0] rfl) (cq le_m29 ok [2] rfl)) fun hT => kt 9 E rfl hT (y_build (ps := [(0, .tmp 44), (1, .tmp 45)]) (qs := [(0, [vu r112]), (1, [vs r40])]) (cs := [vu r112, vs r40]) zero_181 places_181 rfl ⟨rfl, rfl, rfl, ⟨rfl, rfl, rfl, trivial⟩⟩ rfl) fun a E => k_all [10] (by kernel_rfl) rfl (one_c ?_)
  ·refine wpOp_of_list (o := _) rfl ?_
   replace ok : Ok u m121 (M34 :: [(b1, oc 175 [c31, c33, c36])] :: M37 :: S) w := (ok.pk 3 [1, 0, 2] rfl (by decide))
   refine l_call E go_124 rfl (decide_keep_w N _ x_28.wholes h35 _ (Part.mk r112 r40) ⟨rfl, r123, l42⟩ e116 hG ok) rfl rfl ?_
   rintro _ w ⟨m124, c125, M126, rfl, hle, ok, h127⟩
   have le_m0 := le_m0.trans hle
   have le_m29 := le_m29.trans hle
   have hl_0 := (mL mRelation).up hle hl_0
   have h32 := (mL mRelation).up hle h32
   have h38 := ORow.up mPart hle h38
   have h122 := (mL mTracker).up hle h122
   refine ⟨_, rfl, fun a E => ?_⟩
   refine wn <| k_next (cl1 (cq le_m29 ok [2, 1] rfl) (cq le_m29 ok [2] rfl)) fun hT => kt 11 E rfl hT (y_nilCheck rfl) fun a E => kt 12 E rfl hT (y_fieldAddr fo_175_1 rfl) fun a E => k_all [13] (by kernel_rfl) rfl (one_c ?_)
   ·refine wo rfl <| l_storeB E ok 1 rfl rfl rfl inf_173 (ORow.cells h127) rfl ⟨(ORow.one h127), trivial⟩ rfl rfl fun w ok => wn <| k_next (cl2 (by kernel_rfl) (cq le_m29 ok [2] rfl)) fun hT => k_done (by kernel_rfl) ?_
    exact ⟨rfl, ⟨m124, c31, c125, M126, c36, M37, le_m29, (ok.pk 3 [2, 0, 1] rfl (by decide)), E.keep [0, 3, 12], h32, h127, h38⟩⟩
def decide_classes_holds_R (u : World) (m0 : Mem) (S : Segs) (r : Bool) (a : Act) (w : World) : Prop :=
 Ok u m0 S w ∧ a.defers = [] ∧ RVs Tryz.prog a w [.t 8 (.bool r)]
theorem decide_classes_holds_w (N : Nat) (vx_0 : Value) (x_0 : Option (Classes)) (hx_0 : (pP 3 pClasses) m0 [vx_0] x_0) (vw_1 : List Value) (w_1 : Part) (hw_1 : pPart m0 vw_1 w_1) (vf_2 : List Value) (f_2 : Part) (hf_2 : pPart m0 vf_2 f_2) (i_3 : Int) (ri_3 : InR .i64 i_3) {r : Bool} (hF : decide_classes_holds N x_0 w_1 f_2 i_3 = some r) (hG : Glob u) (ok : Ok u m0 S w) :
  Calls Tryz.prog 129 [vx_0, .agg vw_1.toArray, .agg vf_2.toArray, vi i_3].toArray w fun e w' => (e = .returned (.bool r) ∧ Ok u m0 S w') := by
 obtain ⟨rfl, r1, l2⟩ := hw_1
 obtain ⟨rfl, r3, l4⟩ := hf_2
 unfold decide_classes_holds at hF
 refine en (decide_classes_holds_R u m0 S) r Tryz.func129 rfl rfl rfl (by rintro a w ⟨ok, hd, hrv⟩; exact c_ret2 [.t 8 (.bool r)] hd rfl hrv ⟨rfl, ok⟩) fun fin a E => sg <| l_box E ok rfl rfl rfl fun b5 a w E ok => l_box E ok rfl rfl rfl fun b6 a w E ok => aw E rfl fun a E => ?_
 refine sg <| mv E rfl fun a E => ?_
 obtain ⟨y7, e8, hF⟩ := bnd hF
 obtain ⟨b9, o10, es11, hv12, hl13, hR14, at15⟩ := pP_some hx_0 e8
 obtain ⟨c16, c18, c20, rfl, h17, h19, h21⟩ := hR14
 refine lv E ok (y_nilCheckV hv12 rfl) fun a E => fv E fo_175_0 rfl fun a E => lv E ok (y_load one_66 rfl (Holds.ro (At.sub 0 1 at15))) fun a E => mv E rfl fun a E => ?_
 obtain ⟨x22, e23, hF⟩ := bnd hF
 obtain ⟨b24, o25, es26, hl27, rr28, at29, yy30⟩ := idxAt sl_66 h17 e23 (P := Tryz.prog) (X := .tmp 13) (I := .tmp 14) (kd := .i64) (ev_of E rfl) (ev_of E rfl)
 obtain ⟨c33, rfl, r31, r32, h34⟩ := rr28
 refine lv E ok (yy30 _ _) fun a E => lv E ok (y_loadAgg (cs := [vi x22.Operand, vi x22.Mod, vb x22.Not, c33]) agg_69 rfl rfl (Holds.ro at29)) fun a E => l_alloc E ok zero_69 rfl rfl fun b35 a w E ok => l_storeB E ok 0 rfl rfl rfl inf_69 rfl rfl ⟨rfl, rfl, rfl, (pL_one h34), trivial⟩ rfl rfl fun w ok => wn <| wp_seq <| wp_block ?_
 refine sg <| fv E fo_69_0 rfl fun a E => ld E ok one_3 0 rfl rfl rfl fun a E => lw E (y_eql rfl rfl) fun a E => mv E rfl fun a E => bsplit (x22.Operand == 1) (fun hc36 => ?_) (fun hc36 => ?_)
 rotate_left
 ·replace hF := cond_f hc36 hF
  replace E := E.upd 21 hc36 rfl
  refine ls E fun a E => ls E fun a E => ls E fun a E => ls E fun a E => pf E rfl rfl fun a E => aw E rfl fun a E => ?_
  refine c_if E rfl (fun h => by cases h) (fun _ => ?_)
  refine sg <| lv E ok (y_loadAgg (cs := [vi x22.Operand, vi x22.Mod, vb x22.Not, c33]) agg_69 rfl rfl (Holds.own 0 rfl rfl)) fun a E => ?_
  obtain ⟨r45, e46, hF⟩ := bnd hF
  refine lc E go_123 rfl (decide_onWhole_w N _ x22 ⟨_, rfl, r31, r32, h34⟩ e46 hG ok) fun w ok a E => aw E rfl fun a E => cf E rfl hF (fun hc47 hF => ?_) fun hc47 hF => ?_
  ·refine sg <| fv E fo_181_0 rfl fun a E => ld E ok one_178 2 rfl rfl rfl fun a E => mv E rfl fun a E => ?_
   obtain ⟨q48, e49, hF⟩ := bnd hF
   refine lw E (y_shr rfl rfl e49) fun a E => lw E (y_bits .and (by decide) rfl rfl) fun a E => lw E (y_eql rfl rfl) fun a E => aw E rfl fun a E => wp_ret <| b_ret ?_
   refine t_ret ?_
   exact fin hF ⟨ok.drop.drop.drop, E.d, ⟨rv_t E rfl, trivial⟩⟩
  refine wp_skip <| b_norm <| t_norm <| sg <| fv E fo_181_0 rfl fun a E => ld E ok one_178 1 rfl rfl rfl fun a E => mv E rfl fun a E => ?_
  obtain ⟨q50, e51, hF⟩ := bnd hF
  refine lw E (y_shr rfl rfl e51) fun a E => lw E (y_bits .and (by decide) rfl rfl) fun a E => lw E (y_eql rfl rfl) fun a E => aw E rfl fun a E => wp_ret ?_
  exact fin hF ⟨ok.drop.drop.drop, E.d, ⟨rv_t E rfl, trivial⟩⟩
 replace hF := cond_t hc36 hF
 replace E := E.upd 21 hc36 rfl
 refine fv E fo_181_0 rfl fun a E => ld E ok one_178 1 rfl rfl rfl fun a E => lw E (y_bits .and (by decide) rfl rfl) fun a E => lw E (y_neq rfl rfl) fun a E => pt E rfl rfl fun a E => aw E rfl fun a E => ?_
 refine cf E rfl hF (fun hc37 hF => ?_) fun hc37 hF => ?_
 ·refine sg <| fv E fo_69_2 rfl fun a E => ld E ok one_4 0 rfl rfl rfl fun a E => aw E rfl fun a E => wp_ret ?_
  refine b_ret <| t_ret ?_
  exact fin hF ⟨ok.drop.drop.drop, E.d, ⟨rv_t E rfl, trivial⟩⟩
 refine sg <| lv E ok (y_loadAgg (cs := [vi x22.Operand, vi x22.Mod, vb x22.Not, c33]) agg_69 rfl rfl (Holds.own 0 rfl rfl)) fun a E => ?_
 obtain ⟨r38, e39, hF⟩ := bnd hF
 refine lc E go_123 rfl (decide_onWhole_w N _ x22 ⟨_, rfl, r31, r32, h34⟩ e39 hG ok) fun w ok a E => aw E rfl fun a E => cf E rfl hF (fun hc40 hF => ?_) fun hc40 hF => ?_
 ·refine sg <| fv E fo_181_0 rfl fun a E => ld E ok one_178 2 rfl rfl rfl fun a E => mv E rfl fun a E => ?_
  obtain ⟨q41, e42, hF⟩ := bnd hF
  refine lw E (y_shr rfl rfl e42) fun a E => lw E (y_bits .and (by decide) rfl rfl) fun a E => lw E (y_eql rfl rfl) fun a E => aw E rfl fun a E => wp_ret <| b_ret ?_
  refine t_ret ?_
  exact fin hF ⟨ok.drop.drop.drop, E.d, ⟨rv_t E rfl, trivial⟩⟩
 refine wp_skip <| b_norm <| t_norm <| sg <| fv E fo_181_0 rfl fun a E => ld E ok one_178 1 rfl rfl rfl fun a E => mv E rfl fun a E => ?_
 obtain ⟨q43, e44, hF⟩ := bnd hF
 refine lw E (y_shr rfl rfl e44) fun a E => lw E (y_bits .and (by decide) rfl rfl) fun a E => lw E (y_eql rfl rfl) fun a E => aw E rfl fun a E => wp_ret ?_
 exact fin hF ⟨ok.drop.drop.drop, E.d, ⟨rv_t E rfl, trivial⟩⟩
def decide_classes_first_1_R (u : World) (m0 : Mem) (S : Segs) (pb0 : Nat) (pb1 : Nat) (pb2 : Nat) (x0 : Option (Classes)) (c1 : Value) (x1 : Part) (x2 : Part) (r : Bool) (a : Act) (w : World) : Prop :=
 Ok u m0 ([(pb0, oc 143 [c1])] :: [(pb1, oc 181 [vu x1.bits, vs x1.text])] :: [(pb2, oc 181 [vu x2.bits, vs x2.text])] :: S) w ∧ a.defers = [] ∧ RVs Tryz.prog a w [.t 5 (.bool r)]
theorem decide_classes_first_1_w (N : Nat) (i_0 : Int) (ri_0 : InR .i64 i_0) {pb0 : Nat} {c1 : Value} (x0 : Option (Classes)) (h2 : (pP 3 pClasses) m0 [c1] x0) {pb1 : Nat} (x1 : Part) (r3 : InR .u64 x1.bits) (l4 : x1.text.length ≤ LIMS) {pb2 : Nat} (x2 : Part) (r5 : InR .u64 x2.bits) (l6 : x2.text.length ≤ LIMS) {r : Bool} (hF : decide_classes_first_1 N i_0 x0 x1 x2 = some r) (hG : Glob u) (ok : Ok u m0 ([(pb0, oc 143 [c1])] :: [(pb1, oc 181 [vu x1.bits, vs x1.text])] :: [(pb2, oc 181 [vu x2.bits, vs x2.text])] :: S) w) :
  Calls Tryz.prog 128 [vi i_0, vp pb0, vp pb1, vp pb2].toArray w fun e w' => (e = .returned (.bool r) ∧ Ok u m0 ([(pb0, oc 143 [c1])] :: [(pb1, oc 181 [vu x1.bits, vs x1.text])] :: [(pb2, oc 181 [vu x2.bits, vs x2.text])] :: S) w') := by
 unfold decide_classes_first_1 at hF
 refine en (decide_classes_first_1_R u m0 S pb0 pb1 pb2 x0 c1 x1 x2) r Tryz.func128 rfl rfl rfl (by rintro a w ⟨ok, hd, hrv⟩; exact c_ret2 [.t 5 (.bool r)] hd rfl hrv ⟨rfl, ok⟩) fun fin a E => sg <| aw E rfl fun a E => sg ?_
 refine ld E ok one_143 0 rfl rfl rfl fun a E => lv E ok (y_loadAgg (cs := [vu x1.bits, vs x1.text]) agg_181 rfl rfl (Holds.own 1 rfl rfl)) fun a E => lv E ok (y_loadAgg (cs := [vu x2.bits, vs x2.text]) agg_181 rfl rfl (Holds.own 2 rfl rfl)) fun a E => mv E rfl fun a E => ?_
 obtain ⟨r7, e8, hF⟩ := bnd hF
 refine lc E go_129 rfl (decide_classes_holds_w N _ x0 h2 _ x1 ⟨rfl, r3, l4⟩ _ x2 ⟨rfl, r5, l6⟩ i_0 ri_0 e8 hG ok) fun w ok a E => aw E rfl fun a E => wp_ret ?_
 exact fin hF ⟨ok, E.d, ⟨rv_t E rfl, trivial⟩⟩
def decide_search_1_1_R (u : World) (m0 : Mem) (S : Segs) (pb0 : Nat) (pb1 : Nat) (pb2 : Nat) (pb3 : Nat) (pb4 : Nat) (pb5 : Nat) (x1 : List (Int)) (c1 : Value) (M2 : List (Nat × Obj)) (x2 : Int) (x3 : Option (Classes)) (c5 : Value) (x4 : Part) (x5 : Part) (r : Bool) (a : Act) (w : World) : Prop :=
 Ok u m0 ([(pb0, oc 94 [(Value.func (.func 128) #[] #[.pointer (some ⟨pb3, 0, none⟩), .pointer (some ⟨pb4, 0, none⟩), .pointer (some ⟨pb5, 0, none⟩)])])] :: [(pb1, oc 72 [c1])] :: M2 :: [(pb2, oc 3 [vi x2])] :: [(pb3, oc 143 [c5])] :: [(pb4, oc 181 [vu x4.bits, vs x4.text])] :: [(pb5, oc 181 [vu x5.bits, vs x5.text])] :: S) w ∧ a.defers = [] ∧ RVs Tryz.prog a w [.t 5 (.bool r)]
theorem decide_search_1_1_w (N : Nat) (k_0 : Int) (rk_0 : InR .i64 k_0) {pb0 : Nat} {pb1 : Nat} {c1 : Value} {M2 : List (Nat × Obj)} (x1 : List (Int)) (h3 : ORow 3 1 (pI .i64) m0 c1 x1 M2) {pb2 : Nat} (x2 : Int) (r4 : InR .i64 x2) {pb3 : Nat} {c5 : Value} (x3 : Option (Classes)) (h6 : (pP 3 pClasses) m0 [c5] x3) {pb4 : Nat} (x4 : Part) (r7 : InR .u64 x4.bits) (l8 : x4.text.length ≤ LIMS) {pb5 : Nat} (x5 : Part) (r9 : InR .u64 x5.bits) (l10 : x5.text.length ≤ LIMS) {r : Bool} (hF : decide_search_1_1 N k_0 x1 x2 x3 x4 x5 = some r) (hG : Glob u) (ok : Ok u m0 ([(pb0, oc 94 [(Value.func (.func 128) #[] #[.pointer (some ⟨pb3, 0, none⟩), .pointer (some ⟨pb4, 0, none⟩), .pointer (some ⟨pb5, 0, none⟩)])])] :: [(pb1, oc 72 [c1])] :: M2 :: [(pb2, oc 3 [vi x2])] :: [(pb3, oc 143 [c5])] :: [(pb4, oc 181 [vu x4.bits, vs x4.text])] :: [(pb5, oc 181 [vu x5.bits, vs x5.text])] :: S) w) :
  Calls Tryz.prog 97 [vi k_0, vp pb0, vp pb1, vp pb2].toArray w fun e w' => (e = .returned (.bool r) ∧ Ok u m0 ([(pb0, oc 94 [(Value.func (.func 128) #[] #[.pointer (some ⟨pb3, 0, none⟩), .pointer (some ⟨pb4, 0, none⟩), .pointer (some ⟨pb5, 0, none⟩)])])] :: [(pb1, oc 72 [c1])] :: M2 :: [(pb2, oc 3 [vi x2])] :: [(pb3, oc 143 [c5])] :: [(pb4, oc 181 [vu x4.bits, vs x4.text])] :: [(pb5, oc 181 [vu x5.bits, vs x5.text])] :: S) w') := by
 have le_m0 := Mem.le.refl m0
 unfold decide_search_1_1 at hF
 refine en (decide_search_1_1_R u m0 S pb0 pb1 pb2 pb3 pb4 pb5 x1 c1 M2 x2 x3 c5 x4 x5) r Tryz.func97 rfl rfl rfl (by rintro a w ⟨ok, hd, hrv⟩; exact c_ret2 [.t 5 (.bool r)] hd rfl hrv ⟨rfl, ok⟩) fun fin a E => sg <| aw E rfl fun a E => wp_seq ?_
 obtain ⟨o11, hJ, hF⟩ := bnd hF
 refine c_mono (Q' := fun e a w => e = .normal ∧ Ok u m0 ([(pb0, oc 94 [(Value.func (.func 128) #[] #[.pointer (some ⟨pb3, 0, none⟩), .pointer (some ⟨pb4, 0, none⟩), .pointer (some ⟨pb5, 0, none⟩)])])] :: [(pb1, oc 72 [c1])] :: M2 :: [(pb2, oc 3 [vi x2])] :: [(pb3, oc 143 [c5])] :: [(pb4, oc 181 [vu x4.bits, vs x4.text])] :: [(pb5, oc 181 [vu x5.bits, vs x5.text])] :: S) w ∧ Env 14 a [(5, vb o11)]) ?_ ?_
 rotate_left
 ·clear hJ
  intro e a w hO
  obtain ⟨rfl, ok, E⟩ := hO
  refine t_norm <| wp_ret ?_
  exact fin hF ⟨ok, E.d, ⟨rv_t E rfl, trivial⟩⟩
 replace hF := hJ
 clear hJ
 obtain ⟨x12, e13, hF⟩ := bnd hF
 obtain ⟨r23, e24, hF⟩ := bnd hF
 obtain rfl := sj hF
 refine k_begin [] (Cls u m0 ([(pb0, oc 94 [(Value.func (.func 128) #[] #[.pointer (some ⟨pb3, 0, none⟩), .pointer (some ⟨pb4, 0, none⟩), .pointer (some ⟨pb5, 0, none⟩)])])] :: [(pb1, oc 72 [c1])] :: M2 :: [(pb2, oc 3 [vi x2])] :: [(pb3, oc 143 [c5])] :: [(pb4, oc 181 [vu x4.bits, vs x4.text])] :: [(pb5, oc 181 [vu x5.bits, vs x5.text])] :: [])) (Cls u m0 ([(pb0, oc 94 [(Value.func (.func 128) #[] #[.pointer (some ⟨pb3, 0, none⟩), .pointer (some ⟨pb4, 0, none⟩), .pointer (some ⟨pb5, 0, none⟩)])])] :: [(pb1, oc 72 [c1])] :: M2 :: [(pb2, oc 3 [vi x2])] :: [(pb3, oc 143 [c5])] :: [(pb4, oc 181 [vu x4.bits, vs x4.text])] :: [(pb5, oc 181 [vu x5.bits, vs x5.text])] :: [])) (by kernel_rfl) ?_
 intro w hw
 replace ok := okdrew ok hw
 clear hw
 refine k_next (cl1 (cq le_m0 ok [0, 1, 2, 3, 4, 5, 6] rfl) (cq le_m0 ok [0, 1, 2, 3, 4, 5, 6] rfl)) fun hT => kt 0 E rfl hT (y_load one_94 rfl (Holds.cown 0 rfl rfl)) fun a E => kt 1 E rfl hT (y_load one_72 rfl (Holds.cown 1 rfl rfl)) fun a E => kt 2 E rfl hT (y_load one_3 rfl (Holds.cown 3 rfl rfl)) fun a E => ?_
 obtain ⟨b25, o26, hp27, yy28⟩ := orowAt sl_72 h3 e13 (P := Tryz.prog) (X := .tmp 7) (I := .tmp 8) (kd := .i64) (ev_of E rfl) (ev_of E rfl)
 refine kt 3 E rfl hT (yy28 _ _) fun a E => ?_
 obtain ⟨es29, hl30, rr31, hh32⟩ := orowGet h3 e13 hp27 (by decide)
 obtain ⟨rfl, r33⟩ := rr31
 refine kt 4 E rfl hT (y_load one_3 rfl (Holds.crow hh32 2 rfl)) fun a E => kt 5 E rfl hT (y_move rfl) fun a E => kt 6 E rfl hT (y_addw rfl rfl) fun a E => k_all [7] (by kernel_rfl) rfl (one_c ?_)
 ·refine wpOp_of_list (o := _) rfl ?_
  replace ok : Ok u m0 ([(pb3, oc 143 [c5])] :: [(pb4, oc 181 [vu x4.bits, vs x4.text])] :: [(pb5, oc 181 [vu x5.bits, vs x5.text])] :: [(pb0, oc 94 [(Value.func (.func 128) #[] #[.pointer (some ⟨pb3, 0, none⟩), .pointer (some ⟨pb4, 0, none⟩), .pointer (some ⟨pb5, 0, none⟩)])])] :: [(pb1, oc 72 [c1])] :: M2 :: [(pb2, oc 3 [vi x2])] :: S) w := (ok.pk 7 [4, 5, 6, 0, 1, 2, 3] rfl (by decide))
  refine l_callc E rfl go_128 rfl (decide_classes_first_1_w N (IntKind.wrap .i64 (x12 + k_0)) (InR.wrap _ _) x3 h6 x4 r7 l8 x5 r9 l10 e24 hG ok) rfl rfl ?_
  rintro _ w ⟨rfl, ok⟩
  refine ⟨_, rfl, fun a E => ?_⟩
  refine wn <| k_next (cl1 (cq le_m0 ok [3, 4, 5, 6, 0, 1, 2] rfl) (cq le_m0 ok [3, 4, 5, 6, 0, 1, 2] rfl)) fun hT => kt 8 E rfl hT (y_assign rfl) fun a E => k_done (by kernel_rfl) ?_
  exact ⟨rfl, ⟨(ok.pk 7 [3, 4, 5, 6, 0, 1, 2] rfl (by decide)), E.keep [5]⟩⟩
def decide_holds__97_R (u : World) (m0 : Mem) (S : Segs) (pb0 : Nat) (pb1 : Nat) (pb2 : Nat) (pb3 : Nat) (pb4 : Nat) (pb5 : Nat) (x1 : List (Int)) (c1 : Value) (M2 : List (Nat × Obj)) (x2 : Int) (x3 : Option (Classes)) (c5 : Value) (x4 : Part) (x5 : Part) (r : Bool) (a : Act) (w : World) : Prop :=
 Ok u m0 ([(pb0, oc 94 [(Value.func (.func 128) #[] #[.pointer (some ⟨pb3, 0, none⟩), .pointer (some ⟨pb4, 0, none⟩), .pointer (some ⟨pb5, 0, none⟩)])])] :: [(pb1, oc 72 [c1])] :: M2 :: [(pb2, oc 3 [vi x2])] :: [(pb3, oc 143 [c5])] :: [(pb4, oc 181 [vu x4.bits, vs x4.text])] :: [(pb5, oc 181 [vu x5.bits, vs x5.text])] :: S) w ∧ a.defers = [] ∧ RVs Tryz.prog a w [.t 4 (.bool r)]
theorem decide_holds__97_w (N : Nat) (vc_0 : Value) (c_0 : List (List (Relation))) (hc_0 : (pL 1 (pL 4 pRelation)) m0 [vc_0] c_0) {pb0 : Nat} {pb1 : Nat} {c1 : Value} {M2 : List (Nat × Obj)} (x1 : List (Int)) (h3 : ORow 3 1 (pI .i64) m0 c1 x1 M2) {pb2 : Nat} (x2 : Int) (r4 : InR .i64 x2) {pb3 : Nat} {c5 : Value} (x3 : Option (Classes)) (h6 : (pP 3 pClasses) m0 [c5] x3) {pb4 : Nat} (x4 : Part) (r7 : InR .u64 x4.bits) (l8 : x4.text.length ≤ LIMS) {pb5 : Nat} (x5 : Part) (r9 : InR .u64 x5.bits) (l10 : x5.text.length ≤ LIMS) {r : Bool} (hF : decide_holds__97 N c_0 x1 x2 x3 x4 x5 = some r) (hG : Glob u) (ok : Ok u m0 ([(pb0, oc 94 [(Value.func (.func 128) #[] #[.pointer (some ⟨pb3, 0, none⟩), .pointer (some ⟨pb4, 0, none⟩), .pointer (some ⟨pb5, 0, none⟩)])])] :: [(pb1, oc 72 [c1])] :: M2 :: [(pb2, oc 3 [vi x2])] :: [(pb3, oc 143 [c5])] :: [(pb4, oc 181 [vu x4.bits, vs x4.text])] :: [(pb5, oc 181 [vu x5.bits, vs x5.text])] :: S) w) :
  Calls Tryz.prog 52 [vc_0, Value.func (.func 97) #[] #[.pointer (some ⟨pb0, 0, none⟩), .pointer (some ⟨pb1, 0, none⟩), .pointer (some ⟨pb2, 0, none⟩)]].toArray w fun e w' => (e = .returned (.bool r) ∧ Ok u m0 ([(pb0, oc 94 [(Value.func (.func 128) #[] #[.pointer (some ⟨pb3, 0, none⟩), .pointer (some ⟨pb4, 0, none⟩), .pointer (some ⟨pb5, 0, none⟩)])])] :: [(pb1, oc 72 [c1])] :: M2 :: [(pb2, oc 3 [vi x2])] :: [(pb3, oc 143 [c5])] :: [(pb4, oc 181 [vu x4.bits, vs x4.text])] :: [(pb5, oc 181 [vu x5.bits, vs x5.text])] :: S) w') := by
 unfold decide_holds__97 at hF
 refine en (decide_holds__97_R u m0 S pb0 pb1 pb2 pb3 pb4 pb5 x1 c1 M2 x2 x3 c5 x4 x5) r Tryz.func52 rfl rfl rfl (by rintro a w ⟨ok, hd, hrv⟩; exact c_ret2 [.t 4 (.bool r)] hd rfl hrv ⟨rfl, ok⟩) fun fin a E => sg <| aw E rfl fun a E => sg ?_
 refine aw E rfl fun a E => sg <| aw E rfl fun a E => ?_
 refine wp_seq <| sg <| mv E rfl fun a E => lv E ok (y_lenL sl_23 hc_0 rfl) fun a E => mv E rfl fun a E => wn ?_
 refine wp_block ?_
 obtain ⟨o13, hL, hF⟩ := bnd hF
 refine c_loop _ (fun (s : Int × Bool × Int) a w => Ok u m0 ([(pb0, oc 94 [(Value.func (.func 128) #[] #[.pointer (some ⟨pb3, 0, none⟩), .pointer (some ⟨pb4, 0, none⟩), .pointer (some ⟨pb5, 0, none⟩)])])] :: [(pb1, oc 72 [c1])] :: M2 :: [(pb2, oc 3 [vi x2])] :: [(pb3, oc 143 [c5])] :: [(pb4, oc 181 [vu x4.bits, vs x4.text])] :: [(pb5, oc 181 [vu x5.bits, vs x5.text])] :: S) w ∧ Env 35 a [(1, (Value.func (.func 97) #[] #[.pointer (some ⟨pb0, 0, none⟩), .pointer (some ⟨pb1, 0, none⟩), .pointer (some ⟨pb2, 0, none⟩)])), (5, vi s.1), (6, vb s.2.1), (10, vc_0), (11, (vi (c_0.length : Int))), (12, vi s.2.2)] ∧ InR .i64 s.1 ∧ InR .i64 s.2.2) (fun (b : Bool) e a w => e = (.exit 0) ∧ Ok u m0 ([(pb0, oc 94 [(Value.func (.func 128) #[] #[.pointer (some ⟨pb3, 0, none⟩), .pointer (some ⟨pb4, 0, none⟩), .pointer (some ⟨pb5, 0, none⟩)])])] :: [(pb1, oc 72 [c1])] :: M2 :: [(pb2, oc 3 [vi x2])] :: [(pb3, oc 143 [c5])] :: [(pb4, oc 181 [vu x4.bits, vs x4.text])] :: [(pb5, oc 181 [vu x5.bits, vs x5.text])] :: S) w ∧ Env 35 a [(6, vb b)]) ?_ ?_ N _ a w hL ⟨ok, E.keep [1, 5, 6, 10, 11, 12], (ir 0), (ir 0)⟩
 rotate_left
 ·intro e a w _ hO
  obtain ⟨rfl, ok, E⟩ := hO
  refine b_hit <| t_norm <| sg <| mv E rfl fun a E => aw E rfl fun a E => ?_
  refine wp_ret ?_
  exact fin hF ⟨ok, E.d, ⟨rv_t E rfl, trivial⟩⟩
 rintro ⟨at_16, found_17, x_18⟩ a w r ⟨ok, E, r19, r20⟩ hF
 replace hF : decide_holds__97_b1 N c_0 x1 x2 x3 x4 x5 at_16 found_17 x_18 = some r := hF
 unfold decide_holds__97_b1 at hF
 refine sg <| lw E (y_lss rfl rfl) fun a E => wn <| wp_seq <| cf E rfl hF (fun hc21 hF => ?_) fun hc21 hF => ?_
 rotate_left
 ·refine wp_exit <| t_exit ?_
  obtain rfl := sj hF
  exact so (⟨rfl, ⟨ok, E.keep [6]⟩⟩)
 refine wp_skip <| t_norm <| wp_seq <| wp_block <| sg ?_
 obtain ⟨x22, e23, hF⟩ := bnd hF
 obtain ⟨b24, o25, es26, hl27, rr28, at29, yy30⟩ := idxAt sl_23 hc_0 e23 (P := Tryz.prog) (X := .tmp 10) (I := .tmp 12) (kd := .i64) (ev_of E rfl) (ev_of E rfl)
 obtain ⟨c31, rfl, h32⟩ := pL_cell rr28
 refine lv E ok (yy30 _ _) fun a E => lv E ok (y_load one_66 rfl (Holds.ro at29)) fun a E => aw E rfl fun a E => sg <| av E rfl fun a E => ?_
 refine wn <| wp_seq <| sg <| mv E rfl fun a E => lv E ok (y_lenL sl_66 h32 rfl) fun a E => mv E rfl fun a E => ?_
 refine wn <| wp_block ?_
 obtain ⟨o35, hL, hF⟩ := bnd hF
 refine c_loop _ (fun (s : Int × Bool × Int) a w => Ok u m0 ([(pb0, oc 94 [(Value.func (.func 128) #[] #[.pointer (some ⟨pb3, 0, none⟩), .pointer (some ⟨pb4, 0, none⟩), .pointer (some ⟨pb5, 0, none⟩)])])] :: [(pb1, oc 72 [c1])] :: M2 :: [(pb2, oc 3 [vi x2])] :: [(pb3, oc 143 [c5])] :: [(pb4, oc 181 [vu x4.bits, vs x4.text])] :: [(pb5, oc 181 [vu x5.bits, vs x5.text])] :: S) w ∧ Env 35 a [(1, (Value.func (.func 97) #[] #[.pointer (some ⟨pb0, 0, none⟩), .pointer (some ⟨pb1, 0, none⟩), .pointer (some ⟨pb2, 0, none⟩)])), (5, vi s.1), (6, vb found_17), (9, vb s.2.1), (10, vc_0), (11, (vi (c_0.length : Int))), (12, vi x_18), (17, (vi (x22.length : Int))), (18, vi s.2.2)] ∧ InR .i64 s.1 ∧ InR .i64 s.2.2) (fun (b : (Int × Bool)) e a w => e = (.exit 2) ∧ Ok u m0 ([(pb0, oc 94 [(Value.func (.func 128) #[] #[.pointer (some ⟨pb3, 0, none⟩), .pointer (some ⟨pb4, 0, none⟩), .pointer (some ⟨pb5, 0, none⟩)])])] :: [(pb1, oc 72 [c1])] :: M2 :: [(pb2, oc 3 [vi x2])] :: [(pb3, oc 143 [c5])] :: [(pb4, oc 181 [vu x4.bits, vs x4.text])] :: [(pb5, oc 181 [vu x5.bits, vs x5.text])] :: S) w ∧ Env 35 a [(1, (Value.func (.func 97) #[] #[.pointer (some ⟨pb0, 0, none⟩), .pointer (some ⟨pb1, 0, none⟩), .pointer (some ⟨pb2, 0, none⟩)])), (5, vi b.1), (6, vb found_17), (9, vb b.2), (10, vc_0), (11, (vi (c_0.length : Int))), (12, vi x_18)] ∧ InR .i64 b.1) ?_ ?_ N _ a w hL ⟨ok, E.keep [1, 5, 6, 9, 10, 11, 12, 17, 18], r19, (ir 0)⟩
 rotate_left
 ·intro e a w _ hO
  obtain ⟨rfl, ok, E, r47⟩ := hO
  refine b_hit <| t_norm <| c_region <| mv E rfl fun a E => mv E rfl fun a E => bsplit found_17 (fun hc48 => ?_) (fun hc48 => ?_)
  ·replace hF := cond_t hc48 hF
   replace E := E.upd 30 hc48 rfl
   refine ls E fun a E => pt E rfl rfl fun a E => av E rfl fun a E => wpList_nil <| b_norm <| t_norm <| c_region <| lw E (y_add rfl rfl (InR.inc r20 (pL_InR hc_0) hc21)) fun a E => ?_
   refine mv E rfl fun a E => wpList_nil ?_
   obtain rfl := sj hF
   exact step_n ⟨ok, E.keep [1, 5, 6, 10, 11, 12], r47, (InR.inc r20 (pL_InR hc_0) hc21)⟩
  replace hF := cond_f hc48 hF
  replace E := E.upd 30 hc48 rfl
  refine mv E rfl fun a E => pf E rfl rfl fun a E => av E rfl fun a E => wpList_nil <| b_norm <| t_norm <| c_region <| lw E (y_add rfl rfl (InR.inc r20 (pL_InR hc_0) hc21)) fun a E => ?_
  refine mv E rfl fun a E => wpList_nil ?_
  obtain rfl := sj hF
  exact step_n ⟨ok, E.keep [1, 5, 6, 10, 11, 12], r47, (InR.inc r20 (pL_InR hc_0) hc21)⟩
 rintro ⟨at_38, all_39, x_40⟩ a w r ⟨ok, E, r41, r42⟩ hF
 replace hF : decide_holds__97_b2 N x1 x2 x3 x4 x5 x22 at_38 all_39 x_40 = some r := hF
 unfold decide_holds__97_b2 at hF
 refine sg <| lw E (y_lss rfl rfl) fun a E => wn <| wp_seq <| cf E rfl hF (fun hc43 hF => ?_) fun hc43 hF => ?_
 rotate_left
 ·refine wp_exit <| t_exit ?_
  obtain rfl := sj hF
  exact so (⟨rfl, ⟨ok, E.keep [1, 5, 6, 9, 10, 11, 12], r41⟩⟩)
 refine wp_skip <| t_norm <| wp_seq <| wp_block <| sg <| mv E rfl fun a E => mv E rfl fun a E => ?_
 refine bsplit all_39 (fun hc44 => ?_) (fun hc44 => ?_)
 rotate_left
 ·replace hF := cond_f hc44 hF
  replace E := E.upd 21 hc44 rfl
  refine ls E fun a E => ls E fun a E => ls E fun a E => pf E rfl rfl fun a E => aw E rfl fun a E => c_region ?_
  refine mv E rfl fun a E => lw E (y_addw rfl rfl) fun a E => av E rfl fun a E => wpList_nil <| b_norm <| t_norm <| c_region <| lw E (y_add rfl rfl (InR.inc r42 (pL_InR h32) hc43)) fun a E => ?_
  refine mv E rfl fun a E => wpList_nil ?_
  obtain rfl := sj hF
  exact step_n ⟨ok, E.keep [1, 5, 6, 9, 10, 11, 12, 17, 18], (InR.wrap _ _), (InR.inc r42 (pL_InR h32) hc43)⟩
 replace hF := cond_t hc44 hF
 replace E := E.upd 21 hc44 rfl
 refine mv E rfl fun a E => mv E rfl fun a E => ?_
 obtain ⟨r45, e46, hF⟩ := bnd hF
 refine l_callc E rfl go_97 rfl (decide_search_1_1_w N at_38 r41 x1 h3 x2 r4 x3 h6 x4 r7 l8 x5 r9 l10 e46 hG ok) rfl rfl ?_
 rintro _ w ⟨rfl, ok⟩
 refine ⟨_, rfl, fun a E => ?_⟩
 refine pt E rfl rfl fun a E => aw E rfl fun a E => c_region <| mv E rfl fun a E => lw E (y_addw rfl rfl) fun a E => av E rfl fun a E => ?_
 refine wpList_nil <| b_norm <| t_norm <| c_region <| lw E (y_add rfl rfl (InR.inc r42 (pL_InR h32) hc43)) fun a E => mv E rfl fun a E => wpList_nil ?_
 obtain rfl := sj hF
 exact step_n ⟨ok, E.keep [1, 5, 6, 9, 10, 11, 12, 17, 18], (InR.wrap _ _), (InR.inc r42 (pL_InR h32) hc43)⟩
def decide_Disjoint_1_R (u : World) (m0 : Mem) (S : Segs) (r : Bool) (a : Act) (w : World) : Prop :=
 Ok u m0 S w ∧ a.defers = [] ∧ RVs Tryz.prog a w [.t 2 (.bool r)]
theorem decide_Disjoint_1_w (N : Nat) (vl_0 : Value) (l_0 : List (Bool)) (hl_0 : (pL 1 pB) m0 [vl_0] l_0) {r : Bool} (hF : decide_Disjoint_1 N l_0 = some r) (hG : Glob u) (ok : Ok u m0 S w) :
  Calls Tryz.prog 62 [vl_0].toArray w fun e w' => (e = .returned (.bool r) ∧ Ok u m0 S w') := by
 unfold decide_Disjoint_1 at hF
 refine en (decide_Disjoint_1_R u m0 S) r Tryz.func62 rfl rfl rfl (by rintro a w ⟨ok, hd, hrv⟩; exact c_ret2 [.t 2 (.bool r)] hd rfl hrv ⟨rfl, ok⟩) fun fin a E => sg <| aw E rfl fun a E => sg ?_
 refine mv E rfl fun a E => ?_
 obtain ⟨x1, e2, hF⟩ := bnd hF
 obtain ⟨b3, o4, es5, hl6, rr7, at8, yy9⟩ := idxAt sl_32 hl_0 e2 (P := Tryz.prog) (X := .tmp 3) (I := .const (vi 0)) (kd := .i64) (ev_of E rfl) (ev_of E rfl)
 obtain rfl := rr7
 refine lv E ok (yy9 _ _) fun a E => lv E ok (y_load one_4 rfl (Holds.ro at8)) fun a E => mv E rfl fun a E => bsplit x1 (fun hc10 => ?_) (fun hc10 => ?_)
 rotate_left
 ·replace hF := cond_f hc10 hF
  replace E := E.upd 6 hc10 rfl
  refine ls E fun a E => ls E fun a E => ls E fun a E => pf E rfl rfl fun a E => aw E rfl fun a E => wp_ret ?_
  exact fin hF ⟨ok, E.d, ⟨rv_t E rfl, trivial⟩⟩
 replace hF := cond_t hc10 hF
 replace E := E.upd 6 hc10 rfl
 refine mv E rfl fun a E => ?_
 obtain ⟨x11, e12, hF⟩ := bnd hF
 obtain ⟨b13, o14, es15, hl16, rr17, at18, yy19⟩ := idxAt sl_32 hl_0 e12 (P := Tryz.prog) (X := .tmp 7) (I := .const (vi 1)) (kd := .i64) (ev_of E rfl) (ev_of E rfl)
 obtain rfl := rr17
 refine lv E ok (yy19 _ _) fun a E => lv E ok (y_load one_4 rfl (Holds.ro at18)) fun a E => pt E rfl rfl fun a E => aw E rfl fun a E => wp_ret ?_
 exact fin hF ⟨ok, E.d, ⟨rv_t E rfl, trivial⟩⟩
def decide_search_1__128_R (u : World) (m0 : Mem) (S : Segs) (pb0 : Nat) (pb1 : Nat) (pb2 : Nat) (pb3 : Nat) (pb4 : Nat) (pb5 : Nat) (x0 : Option (Classes)) (c1 : Value) (x1 : Part) (x2 : Part) (x3 : List (List (List (Relation)))) (c7 : Value) (x4 : List (Int)) (c9 : Value) (M10 : List (Nat × Obj)) (r : Bool) (a : Act) (w : World) : Prop :=
 Ok u m0 ([(pb0, oc 143 [c1])] :: [(pb1, oc 181 [vu x1.bits, vs x1.text])] :: [(pb2, oc 181 [vu x2.bits, vs x2.text])] :: [(pb3, oc 26 [c7])] :: [(pb4, oc 72 [c9])] :: M10 :: [(pb5, oc 109 [(Value.func (.func 62) #[] #[])])] :: S) w ∧ a.defers = [] ∧ RVs Tryz.prog a w [.t 5 (.bool r)]
theorem decide_search_1__128_w (N : Nat) {pb0 : Nat} {c1 : Value} (x0 : Option (Classes)) (h2 : (pP 3 pClasses) m0 [c1] x0) {pb1 : Nat} (x1 : Part) (r3 : InR .u64 x1.bits) (l4 : x1.text.length ≤ LIMS) {pb2 : Nat} (x2 : Part) (r5 : InR .u64 x2.bits) (l6 : x2.text.length ≤ LIMS) {pb3 : Nat} {c7 : Value} (x3 : List (List (List (Relation)))) (h8 : (pL 1 (pL 1 (pL 4 pRelation))) m0 [c7] x3) {pb4 : Nat} {c9 : Value} {M10 : List (Nat × Obj)} (x4 : List (Int)) (h11 : ORow 3 1 (pI .i64) m0 c9 x4 M10) {pb5 : Nat} {r : Bool} (hF : decide_search_1__128 N x0 x1 x2 x3 x4 = some r) (hG : Glob u) (ok : Ok u m0 ([(pb0, oc 143 [c1])] :: [(pb1, oc 181 [vu x1.bits, vs x1.text])] :: [(pb2, oc 181 [vu x2.bits, vs x2.text])] :: [(pb3, oc 26 [c7])] :: [(pb4, oc 72 [c9])] :: M10 :: [(pb5, oc 109 [(Value.func (.func 62) #[] #[])])] :: S) w) :
  Calls Tryz.prog 96 [Value.func (.func 128) #[] #[.pointer (some ⟨pb0, 0, none⟩), .pointer (some ⟨pb1, 0, none⟩), .pointer (some ⟨pb2, 0, none⟩)], vp pb3, vp pb4, vp pb5].toArray w fun e w' => (e = .returned (.bool r) ∧ Ok u m0 ([(pb0, oc 143 [c1])] :: [(pb1, oc 181 [vu x1.bits, vs x1.text])] :: [(pb2, oc 181 [vu x2.bits, vs x2.text])] :: [(pb3, oc 26 [c7])] :: [(pb4, oc 72 [c9])] :: M10 :: [(pb5, oc 109 [(Value.func (.func 62) #[] #[])])] :: S) w') := by
 have le_m0 := Mem.le.refl m0
 unfold decide_search_1__128 at hF
 refine en (decide_search_1__128_R u m0 S pb0 pb1 pb2 pb3 pb4 pb5 x0 c1 x1 x2 x3 c7 x4 c9 M10) r Tryz.func96 rfl rfl rfl (by rintro a w ⟨ok, hd, hrv⟩; exact c_ret2 [.t 5 (.bool r)] hd rfl hrv ⟨rfl, ok⟩) fun fin a E => sg <| l_box E ok rfl rfl rfl fun b12 a w E ok => aw E rfl fun a E => wp_seq ?_
 refine c_region <| ld E ok one_26 4 rfl rfl rfl fun a E => lv E ok (y_lenL sl_26 h8 rfl) fun a E => ?_
 obtain ⟨l13, e14, hF⟩ := bnd hF
 refine l_make (R := pB) E ok sl_32 zero_4 rfl pB_mk rfl e14 rfl rfl fun c15 M16 a w E ok h17 => aw E rfl fun a E => wp_seq <| sg <| ld E ok one_26 5 rfl rfl rfl fun a E => ?_
 refine lv E ok (y_lenL sl_26 h8 rfl) fun a E => mv E rfl fun a E => wn <| wp_block ?_
 obtain ⟨o23, hL, hF⟩ := bnd hF
 refine c_loop _ (fun (s : Int × (List (Bool))) a w => ∃ c25 M26, Ok u m0 (M26 :: [(b12, oc 94 [(Value.func (.func 128) #[] #[.pointer (some ⟨pb0, 0, none⟩), .pointer (some ⟨pb1, 0, none⟩), .pointer (some ⟨pb2, 0, none⟩)])])] :: [(pb0, oc 143 [c1])] :: [(pb1, oc 181 [vu x1.bits, vs x1.text])] :: [(pb2, oc 181 [vu x2.bits, vs x2.text])] :: [(pb3, oc 26 [c7])] :: [(pb4, oc 72 [c9])] :: M10 :: [(pb5, oc 109 [(Value.func (.func 62) #[] #[])])] :: S) w ∧ Env 29 a [(2, vp pb4), (3, vp pb5), (4, vp b12), (6, c25), (12, c7), (13, (vi (x3.length : Int))), (14, vi s.1)] ∧ InR .i64 s.1 ∧ ORow 4 1 pB m0 c25 s.2 M26) (fun (b : ((List (Bool)))) e a w => e = (.exit 0) ∧ ∃ c82 M83, Ok u m0 (M83 :: [(b12, oc 94 [(Value.func (.func 128) #[] #[.pointer (some ⟨pb0, 0, none⟩), .pointer (some ⟨pb1, 0, none⟩), .pointer (some ⟨pb2, 0, none⟩)])])] :: [(pb0, oc 143 [c1])] :: [(pb1, oc 181 [vu x1.bits, vs x1.text])] :: [(pb2, oc 181 [vu x2.bits, vs x2.text])] :: [(pb3, oc 26 [c7])] :: [(pb4, oc 72 [c9])] :: M10 :: [(pb5, oc 109 [(Value.func (.func 62) #[] #[])])] :: S) w ∧ Env 29 a [(3, vp pb5), (6, c82)] ∧ ORow 4 1 pB m0 c82 b M83) ?_ ?_ N _ a w hL ⟨c15, M16, ok, E.keep [2, 3, 4, 6, 12, 13, 14], (ir 0), h17⟩
 rotate_left
 ·intro e a w _ hO
  obtain ⟨rfl, c72, M73, ok, E, h74⟩ := hO
  refine b_hit <| t_norm <| sg <| ld E ok one_109 8 rfl rfl rfl fun a E => mv E rfl fun a E => ?_
  obtain ⟨r80, e81, hF⟩ := bnd hF
  obtain ⟨m75, hle77, ok76, hfz78⟩ := (ok.frs 0 rfl).freeze
  have h79 := ORow.froz mB h74 hle77 hfz78 (by decide)
  refine l_callv E rfl go_62 rfl (decide_Disjoint_1_w N _ o23 h79 e81 hG ok76) rfl rfl ?_
  rintro _ w ⟨rfl, okz⟩
  replace ok := (Ok.thawAt 0 rfl ok hle77 hfz78 okz)
  refine ⟨_, rfl, fun a E => ?_⟩
  refine aw E rfl fun a E => wp_ret ?_
  exact fin hF ⟨ok.drop.drop, E.d, ⟨rv_t E rfl, trivial⟩⟩
 rintro ⟨x_28, conds_29⟩ a w r ⟨c31, M32, ok, E, r30, h33⟩ hF
 replace hF : decide_search_1__128_b1 N x0 x1 x2 x3 x4 x_28 conds_29 = some r := hF
 unfold decide_search_1__128_b1 at hF
 refine sg <| lw E (y_lss rfl rfl) fun a E => wn <| wp_seq <| cf E rfl hF (fun hc34 hF => ?_) fun hc34 hF => ?_
 rotate_left
 ·refine wp_exit <| t_exit ?_
  obtain rfl := sj hF
  exact so (⟨rfl, ⟨c31, M32, ok, E.keep [3, 6], h33⟩⟩)
 refine wp_skip <| t_norm <| wp_seq <| wp_block <| sg <| mv E rfl fun a E => ?_
 obtain ⟨x35, e36, hF⟩ := bnd hF
 obtain ⟨b37, o38, es39, hl40, rr41, at42, yy43⟩ := idxAt sl_26 h8 e36 (P := Tryz.prog) (X := .tmp 12) (I := .tmp 14) (kd := .i64) (ev_of E rfl) (ev_of E rfl)
 obtain ⟨c44, rfl, h45⟩ := pL_cell rr41
 refine lv E ok (yy43 _ _) fun a E => lv E ok (y_load one_23 rfl (Holds.ro at42)) fun a E => l_alloc E ok zero_3 rfl rfl fun b46 a w E ok => l_storeB E ok 0 rfl rfl rfl inf_3 rfl rfl ⟨rfl, trivial⟩ rfl rfl fun w ok => aw E rfl fun a E => ?_
 obtain ⟨o47, hJ, hF⟩ := bnd hF
 refine c_mono (Q' := fun e a w => e = .normal ∧ ∃ c48 M49, Ok u m0 ([(b46, oc 3 [vi x_28])] :: M49 :: [(b12, oc 94 [(Value.func (.func 128) #[] #[.pointer (some ⟨pb0, 0, none⟩), .pointer (some ⟨pb1, 0, none⟩), .pointer (some ⟨pb2, 0, none⟩)])])] :: [(pb0, oc 143 [c1])] :: [(pb1, oc 181 [vu x1.bits, vs x1.text])] :: [(pb2, oc 181 [vu x2.bits, vs x2.text])] :: [(pb3, oc 26 [c7])] :: [(pb4, oc 72 [c9])] :: M10 :: [(pb5, oc 109 [(Value.func (.func 62) #[] #[])])] :: S) w ∧ Env 29 a [(2, vp pb4), (3, vp pb5), (4, vp b12), (6, c48), (12, c7), (13, (vi (x3.length : Int))), (14, vi x_28)] ∧ ORow 4 1 pB m0 c48 o47 M49) ?_ ?_
 rotate_left
 ·clear hJ
  intro e a w hO
  obtain ⟨rfl, c69, M70, ok, E, h71⟩ := hO
  refine b_norm <| t_norm <| c_region <| lw E (y_add rfl rfl (InR.inc r30 (pL_InR h8) hc34)) fun a E => mv E rfl fun a E => wpList_nil ?_
  obtain rfl := sj hF
  exact step_n ⟨c69, M70, (ok.pk 10 [1, 2, 3, 4, 5, 6, 7, 8, 9] rfl (by decide)), E.keep [2, 3, 4, 6, 12, 13, 14], (InR.inc r30 (pL_InR h8) hc34), h71⟩
 replace hF := hJ
 clear hJ
 obtain ⟨r51, e52, hF⟩ := bnd hF
 obtain ⟨x53, e54, hF⟩ := bnd hF
 obtain ⟨l59, e60, hF⟩ := bnd hF
 obtain rfl := sj hF
 refine k_begin [] (Cls u m0 ([(b46, oc 3 [vi x_28])] :: [(b12, oc 94 [(Value.func (.func 128) #[] #[.pointer (some ⟨pb0, 0, none⟩), .pointer (some ⟨pb1, 0, none⟩), .pointer (some ⟨pb2, 0, none⟩)])])] :: [(pb0, oc 143 [c1])] :: [(pb1, oc 181 [vu x1.bits, vs x1.text])] :: [(pb2, oc 181 [vu x2.bits, vs x2.text])] :: [(pb3, oc 26 [c7])] :: [(pb4, oc 72 [c9])] :: M10 :: [(pb5, oc 109 [(Value.func (.func 62) #[] #[])])] :: [])) (Cls u m0 ([(b46, oc 3 [vi x_28])] :: [(b12, oc 94 [(Value.func (.func 128) #[] #[.pointer (some ⟨pb0, 0, none⟩), .pointer (some ⟨pb1, 0, none⟩), .pointer (some ⟨pb2, 0, none⟩)])])] :: [(pb0, oc 143 [c1])] :: [(pb1, oc 181 [vu x1.bits, vs x1.text])] :: [(pb2, oc 181 [vu x2.bits, vs x2.text])] :: [(pb3, oc 26 [c7])] :: [(pb4, oc 72 [c9])] :: M10 :: [(pb5, oc 109 [(Value.func (.func 62) #[] #[])])] :: [])) (by kernel_rfl) ?_
 intro w hw
 replace ok := okdrew ok hw
 clear hw
 refine k_next (cl1 (cq le_m0 ok [0, 2, 3, 4, 5, 6, 7, 8, 9] rfl) (cq le_m0 ok [0, 2, 3, 4, 5, 6, 7, 8, 9] rfl)) fun hT => kt 0 E rfl hT (y_move rfl) fun a E => kt 1 E rfl hT (y_load one_3 rfl (Holds.cown 0 rfl rfl)) fun a E => kt 2 E rfl hT (y_move rfl) fun a E => kt 3 E rfl hT (y_makeFunc (caps := [.tmp 4, .tmp 2, .tmp 7]) rfl) fun a E => k_all [4] (by kernel_rfl) rfl (one_c ?_)
 ·refine wpOp_of_list (o := _) rfl ?_
  replace ok : Ok u m0 ([(b12, oc 94 [(Value.func (.func 128) #[] #[.pointer (some ⟨pb0, 0, none⟩), .pointer (some ⟨pb1, 0, none⟩), .pointer (some ⟨pb2, 0, none⟩)])])] :: [(pb4, oc 72 [c9])] :: M10 :: [(b46, oc 3 [vi x_28])] :: [(pb0, oc 143 [c1])] :: [(pb1, oc 181 [vu x1.bits, vs x1.text])] :: [(pb2, oc 181 [vu x2.bits, vs x2.text])] :: M32 :: [(pb3, oc 26 [c7])] :: [(pb5, oc 109 [(Value.func (.func 62) #[] #[])])] :: S) w := (ok.pk 10 [2, 7, 8, 0, 3, 4, 5, 1, 6, 9] rfl (by decide))
  refine lc E go_52 rfl (decide_holds__97_w N _ x35 h45 x4 h11 x_28 r30 x0 h2 x1 r3 l4 x2 r5 l6 e52 hG ok) fun w ok a E => wn <| k_next (cl1 (cq le_m0 ok [3, 0, 4, 5, 6, 8, 1, 2, 9] rfl) (cq le_m0 ok [3, 0, 4, 5, 6, 8, 1, 2, 9] rfl)) fun hT => ?_
  obtain ⟨b63, o64, hp65, yy66⟩ := orowAt sl_32 h33 e54 (P := Tryz.prog) (X := .tmp 19) (I := .tmp 20) (kd := .i64) (ev_of E rfl) (ev_of E rfl)
  refine kt 5 E rfl hT (yy66 _ _) fun a E => k_all [6] (by kernel_rfl) rfl (one_c ?_)
  ·refine wo rfl <| l_storeRow (R := pB) E ok 7 rfl h33 e54 hp65 rfl rfl inf_4 rfl rfl rfl ⟨rfl, trivial⟩ pB_mk e60 rfl fun M67 w ok h68 => wn <| k_next (cl1 (cq le_m0 ok [3, 0, 4, 5, 6, 8, 1, 2, 9] rfl) (cq le_m0 ok [3, 0, 4, 5, 6, 8, 1, 2, 9] rfl)) fun hT => k_done (by kernel_rfl) ?_
   exact ⟨rfl, ⟨c31, M67, (ok.pk 10 [3, 7, 0, 4, 5, 6, 8, 1, 2, 9] rfl (by decide)), E.keep [2, 3, 4, 6, 12, 13, 14], h68⟩⟩
def decide_before_R (u : World) (m0 : Mem) (S : Segs) (r : Bool) (a : Act) (w : World) : Prop :=
 Ok u m0 S w ∧ a.defers = [] ∧ RVs Tryz.prog a w [.t 4 (.bool r)]
theorem decide_before_w (N : Nat) (a_0 : List UInt8) (la_0 : a_0.length ≤ LIMS) (b_1 : List UInt8) (lb_1 : b_1.length ≤ LIMS) {r : Bool} (hF : decide_before N a_0 b_1 = some r) (hG : Glob u) (ok : Ok u m0 S w) :
  Calls Tryz.prog 127 [vs a_0, vs b_1].toArray w fun e w' => (e = .returned (.bool r) ∧ Ok u m0 S w') := by
 unfold decide_before at hF
 refine en (decide_before_R u m0 S) r Tryz.func127 rfl rfl rfl (by rintro a w ⟨ok, hd, hrv⟩; exact c_ret2 [.t 4 (.bool r)] hd rfl hrv ⟨rfl, ok⟩) fun fin a E => sg <| aw E rfl fun a E => wp_seq <| wp_seq ?_
 refine c_region <| mv E rfl fun a E => lw E (y_slen Tryz.underlying9 rfl) fun a E => mv E rfl fun a E => lw E (y_slen Tryz.underlying9 rfl) fun a E => lw E (y_neq rfl rfl) fun a E => wn ?_
 refine cf E rfl hF (fun hc1 hF => ?_) fun hc1 hF => ?_
 ·refine sg <| mv E rfl fun a E => lw E (y_slen Tryz.underlying9 rfl) fun a E => mv E rfl fun a E => lw E (y_slen Tryz.underlying9 rfl) fun a E => lw E (y_lss rfl rfl) fun a E => av E rfl fun a E => ?_
  refine wn <| wp_ret <| t_ret ?_
  exact fin hF ⟨ok, E.d, ⟨rv_t E rfl, trivial⟩⟩
 refine wp_skip <| t_norm <| wp_seq <| sg <| mv E rfl fun a E => lw E (y_slen Tryz.underlying9 rfl) fun a E => mv E rfl fun a E => ?_
 refine wn <| wp_block ?_
 obtain ⟨o3, hL, hF⟩ := bnd hF
 refine c_loop _ (fun (s : Int) a w => Ok u m0 (S) w ∧ Env 48 a [(0, vs a_0), (1, vs b_1), (17, (vi (a_0.length : Int))), (18, vi s)] ∧ InR .i64 s) (fun (b : (Unit ⊕ Bool)) e a w => (Sum.elim (fun b23 => e = (.exit 0) ∧ Ok u m0 (S) w ∧ Env 48 a []) (fun b24 => e = .ret ∧ decide_before_R u m0 S b24 a w)) b) ?_ ?_ N _ a w hL ⟨ok, E.keep [0, 1, 17, 18], (ir 0)⟩
 rotate_left
 ·intro e a w _ hO
  rcases o3 with o3 | o3
  rotate_left
  ·replace hF := elim_r hF
   obtain ⟨rfl, hret⟩ := hO
   refine b_ret <| t_ret ?_
   exact fin hF hret
  replace hF := elim_l hF
  obtain ⟨rfl, ok, E⟩ := hO
  refine b_hit <| t_norm <| sg <| aw E rfl fun a E => wp_ret ?_
  exact fin hF ⟨ok, E.d, ⟨rv_t E rfl, trivial⟩⟩
 rintro x_5 a w r ⟨ok, E, r6⟩ hF
 replace hF : decide_before_b1 N a_0 b_1 x_5 = some r := hF
 unfold decide_before_b1 at hF
 refine sg <| lw E (y_lss rfl rfl) fun a E => wn <| wp_seq <| cf E rfl hF (fun hc7 hF => ?_) fun hc7 hF => ?_
 rotate_left
 ·refine wp_exit <| t_exit ?_
  obtain rfl := sj hF
  exact so (sl ⟨rfl, ⟨ok, E.keep []⟩⟩)
 refine wp_skip <| t_norm <| wp_seq <| wp_block <| sg <| mv E rfl fun a E => av E rfl fun a E => ?_
 refine wn <| wp_seq <| c_draw (by kernel_rfl) (by kernel_rfl) ok <| qv E (y_move rfl) fun a E => qv E (y_move rfl) fun a E => ?_
 obtain ⟨c8, e9, hF⟩ := bnd hF
 refine qv E (y_index Tryz.underlying9 rfl rfl e9) fun a E => qv E (y_move rfl) fun a E => qv E (y_move rfl) fun a E => ?_
 obtain ⟨c10, e11, hF⟩ := bnd hF
 refine qv E (y_index Tryz.underlying9 rfl rfl e11) fun a E => qv E (y_neq rfl rfl) fun a E => wpQuiet_nil ?_
 intro w ok
 refine t_norm <| cf E rfl hF (fun hc12 hF => ?_) fun hc12 hF => ?_
 rotate_left
 ·refine wp_skip <| b_norm <| t_norm <| c_region <| lw E (y_add rfl rfl (InR.inc r6 (InR.len la_0) hc7)) fun a E => mv E rfl fun a E => wpList_nil ?_
  obtain rfl := sj hF
  exact step_n ⟨ok, E.keep [0, 1, 17, 18], (InR.inc r6 (InR.len la_0) hc7)⟩
 refine wp_seq <| c_draw (by kernel_rfl) (by kernel_rfl) ok <| qv E (y_move rfl) fun a E => qv E (y_move rfl) fun a E => ?_
 obtain ⟨c13, e14, hF⟩ := bnd hF
 refine qv E (y_index Tryz.underlying9 rfl rfl e14) fun a E => qv E (y_eql rfl rfl) fun a E => qv E (y_move rfl) fun a E => bsplit ((c13.toNat : Int) == 46) (fun hc15 => ?_) (fun hc15 => ?_)
 ·replace hF := cond_t hc15 hF
  replace E := E.upd 32 hc15 rfl
  refine qs E fun a E => qs E fun a E => qs E fun a E => qs E fun a E => qs E fun a E => qs E fun a E => qs E fun a E => qs E fun a E => ?_
  refine qs E fun a E => qs E fun a E => qs E fun a E => qs E fun a E => qs E fun a E => qv E (y_pickT rfl rfl) fun a E => qv E (y_assign rfl) fun a E => wpQuiet_nil ?_
  intro w ok
  refine t_norm <| wp_ret <| b_ret <| t_ret ?_
  obtain rfl := sj hF
  exact so (sr ⟨rfl, ⟨ok, E.d, ⟨rv_t E rfl, trivial⟩⟩⟩)
 replace hF := cond_f hc15 hF
 replace E := E.upd 32 hc15 rfl
 refine qv E (y_move rfl) fun a E => qv E (y_move rfl) fun a E => ?_
 obtain ⟨c16, e17, hF⟩ := bnd hF
 refine qv E (y_index Tryz.underlying9 rfl rfl e17) fun a E => qv E (y_neq rfl rfl) fun a E => qv E (y_move rfl) fun a E => bsplit ((c16.toNat : Int) != 46) (fun hc18 => ?_) (fun hc18 => ?_)
 rotate_left
 ·replace hF := cond_f hc18 hF
  replace E := E.upd 37 hc18 rfl
  refine qs E fun a E => qs E fun a E => qs E fun a E => qs E fun a E => qs E fun a E => qs E fun a E => qs E fun a E => qv E (y_pickF rfl rfl) fun a E => ?_
  refine qv E (y_pickF rfl rfl) fun a E => qv E (y_assign rfl) fun a E => wpQuiet_nil ?_
  intro w ok
  refine t_norm <| wp_ret <| b_ret <| t_ret ?_
  obtain rfl := sj hF
  exact so (sr ⟨rfl, ⟨ok, E.d, ⟨rv_t E rfl, trivial⟩⟩⟩)
 replace hF := cond_t hc18 hF
 replace E := E.upd 37 hc18 rfl
 refine qv E (y_move rfl) fun a E => qv E (y_move rfl) fun a E => ?_
 obtain ⟨c19, e20, hF⟩ := bnd hF
 refine qv E (y_index Tryz.underlying9 rfl rfl e20) fun a E => qv E (y_move rfl) fun a E => qv E (y_move rfl) fun a E => ?_
 obtain ⟨c21, e22, hF⟩ := bnd hF
 refine qv E (y_index Tryz.underlying9 rfl rfl e22) fun a E => qv E (y_lss rfl rfl) fun a E => qv E (y_pickT rfl rfl) fun a E => qv E (y_pickF rfl rfl) fun a E => qv E (y_assign rfl) fun a E => wpQuiet_nil ?_
 intro w ok
 refine t_norm <| wp_ret <| b_ret <| t_ret ?_
 obtain rfl := sj hF
 exact so (sr ⟨rfl, ⟨ok, E.d, ⟨rv_t E rfl, trivial⟩⟩⟩)
def decide_classes_first__96_R (u : World) (m0 : Mem) (S : Segs) (pb0 : Nat) (pb1 : Nat) (pb2 : Nat) (x0 : List (List (List (Relation)))) (c1 : Value) (x1 : List (Int)) (c3 : Value) (M4 : List (Nat × Obj)) (r : (List UInt8) × Bool) (a : Act) (w : World) : Prop :=
 Ok u m0 ([(pb0, oc 26 [c1])] :: [(pb1, oc 72 [c3])] :: M4 :: [(pb2, oc 109 [(Value.func (.func 62) #[] #[])])] :: S) w ∧ a.defers = [] ∧ RVs Tryz.prog a w [.t 4 (.string (bs r.1)), .t 5 (.bool r.2)] ∧ r.1.length ≤ LIMS
theorem decide_classes_first__96_w (N : Nat) (vx_0 : Value) (x_0 : Option (Classes)) (hx_0 : (pP 3 pClasses) m0 [vx_0] x_0) {pb0 : Nat} {c1 : Value} (x0 : List (List (List (Relation)))) (h2 : (pL 1 (pL 1 (pL 4 pRelation))) m0 [c1] x0) {pb1 : Nat} {c3 : Value} {M4 : List (Nat × Obj)} (x1 : List (Int)) (h5 : ORow 3 1 (pI .i64) m0 c3 x1 M4) {pb2 : Nat} {r : (List UInt8) × Bool} (hF : decide_classes_first__96 N x_0 x0 x1 = some r) (hG : Glob u) (ok : Ok u m0 ([(pb0, oc 26 [c1])] :: [(pb1, oc 72 [c3])] :: M4 :: [(pb2, oc 109 [(Value.func (.func 62) #[] #[])])] :: S) w) :
  Calls Tryz.prog 95 [vx_0, Value.func (.func 96) #[] #[.pointer (some ⟨pb0, 0, none⟩), .pointer (some ⟨pb1, 0, none⟩), .pointer (some ⟨pb2, 0, none⟩)]].toArray w fun e w' => (e = .returned (.tuple [(.string (bs r.1)), (.bool r.2)].toArray) ∧ Ok u m0 ([(pb0, oc 26 [c1])] :: [(pb1, oc 72 [c3])] :: M4 :: [(pb2, oc 109 [(Value.func (.func 62) #[] #[])])] :: S) w') ∧ r.1.length ≤ LIMS := by
 unfold decide_classes_first__96 at hF
 refine en (decide_classes_first__96_R u m0 S pb0 pb1 pb2 x0 c1 x1 c3 M4) r Tryz.func95 rfl rfl rfl (by rintro a w ⟨ok, hd, hrv, h0⟩; exact c_ret2 [.t 4 (.string (bs r.1)), .t 5 (.bool r.2)] hd rfl hrv ⟨⟨rfl, ok⟩, h0⟩) fun fin a E => sg <| l_boxC (cs := [vx_0]) E ok rfl (pP_cells hx_0) rfl rfl fun b6 a w E ok => av E rfl fun a E => aw E rfl fun a E => ?_
 refine sg <| av E rfl fun a E => aw E rfl fun a E => wp_seq <| wp_seq ?_
 refine c_region <| ld E ok one_143 0 rfl rfl rfl fun a E => ?_
 obtain ⟨y7, e8, hF⟩ := bnd hF
 obtain ⟨b9, o10, es11, hv12, hl13, hR14, at15⟩ := pP_some hx_0 e8
 obtain ⟨c16, c18, c20, rfl, h17, h19, h21⟩ := hR14
 refine lv E ok (y_nilCheckV hv12 rfl) fun a E => fv E fo_175_1 rfl fun a E => lv E ok (y_load one_173 rfl (Holds.ro (At.sub 1 1 at15))) fun a E => lv E ok (y_lenL sl_173 h19 rfl) fun a E => mv E rfl fun a E => wn <| wp_block ?_
 obtain ⟨o24, hL, hF⟩ := bnd hF
 refine c_loop _ (fun (s : (List UInt8) × Bool × Int) a w => Ok u m0 ([(b6, oc 143 [vx_0])] :: [(pb0, oc 26 [c1])] :: [(pb1, oc 72 [c3])] :: M4 :: [(pb2, oc 109 [(Value.func (.func 62) #[] #[])])] :: S) w ∧ Env 58 a [(1, (Value.func (.func 96) #[] #[.pointer (some ⟨pb0, 0, none⟩), .pointer (some ⟨pb1, 0, none⟩), .pointer (some ⟨pb2, 0, none⟩)])), (2, vp b6), (6, vs s.1), (7, vb s.2.1), (16, c18), (17, (vi (y7.wholes.length : Int))), (18, vi s.2.2)] ∧ s.1.length ≤ LIMS ∧ InR .i64 s.2.2) (fun (b : ((List UInt8) × Bool)) e a w => e = (.exit 0) ∧ Ok u m0 ([(b6, oc 143 [vx_0])] :: [(pb0, oc 26 [c1])] :: [(pb1, oc 72 [c3])] :: M4 :: [(pb2, oc 109 [(Value.func (.func 62) #[] #[])])] :: S) w ∧ Env 58 a [(6, vs b.1), (7, vb b.2)] ∧ b.1.length ≤ LIMS) ?_ ?_ N _ a w hL ⟨ok, E.keep [1, 2, 6, 7, 16, 17, 18], (show ([] : List UInt8).length ≤ LIMS by decide), (ir 0)⟩
 rotate_left
 ·intro e a w _ hO
  obtain ⟨rfl, ok, E, l103⟩ := hO
  refine b_hit <| t_norm <| sg <| mv E rfl fun a E => mv E rfl fun a E => av E rfl fun a E => av E rfl fun a E => ?_
  refine wn <| wp_ret ?_
  exact fin hF ⟨ok.drop, E.d, ⟨rv_t E rfl, rv_t E rfl, trivial⟩, l103⟩
 rintro ⟨found_27, ok_28, x_29⟩ a w r ⟨ok, E, l30, r31⟩ hF
 replace hF : decide_classes_first__96_b1 N x_0 x0 x1 y7 found_27 ok_28 x_29 = some r := hF
 unfold decide_classes_first__96_b1 at hF
 refine sg <| lw E (y_lss rfl rfl) fun a E => wn <| wp_seq <| cf E rfl hF (fun hc32 hF => ?_) fun hc32 hF => ?_
 rotate_left
 ·refine wp_exit <| t_exit ?_
  obtain rfl := sj hF
  exact so (⟨rfl, ⟨ok, E.keep [6, 7], l30⟩⟩)
 refine wp_skip <| t_norm <| wp_seq <| wp_block <| sg ?_
 obtain ⟨x33, e34, hF⟩ := bnd hF
 obtain ⟨b35, o36, es37, hl38, rr39, at40, yy41⟩ := idxAt sl_173 h19 e34 (P := Tryz.prog) (X := .tmp 16) (I := .tmp 18) (kd := .i64) (ev_of E rfl) (ev_of E rfl)
 obtain ⟨rfl, r42, l43⟩ := rr39
 refine lv E ok (yy41 _ _) fun a E => lv E ok (y_loadAgg (cs := [vu x33.bits, vs x33.text]) agg_181 rfl rfl (Holds.ro at40)) fun a E => l_alloc E ok zero_181 rfl rfl fun b44 a w E ok => l_storeB E ok 0 rfl rfl rfl inf_181 rfl rfl ⟨rfl, rfl, trivial⟩ rfl rfl fun w ok => wn <| sg ?_
 refine ld E ok one_143 1 rfl rfl rfl fun a E => ?_
 obtain ⟨y45, e46, hF⟩ := bnd hF
 obtain ⟨b47, o48, es49, hv50, hl51, hR52, at53⟩ := pP_some hx_0 e46
 obtain ⟨c54, c56, c58, rfl, h55, h57, h59⟩ := hR52
 refine lv E ok (y_nilCheckV hv50 rfl) fun a E => fv E fo_175_2 rfl fun a E => lv E ok (y_load one_173 rfl (Holds.ro (At.sub 2 1 at53))) fun a E => lv E ok (y_lenL sl_173 h59 rfl) fun a E => mv E rfl fun a E => wn <| wp_block ?_
 obtain ⟨o62, hL, hF⟩ := bnd hF
 refine c_loop _ (fun (s : (List UInt8) × Bool × Int) a w => Ok u m0 ([(b44, oc 181 [vu x33.bits, vs x33.text])] :: [(b6, oc 143 [vx_0])] :: [(pb0, oc 26 [c1])] :: [(pb1, oc 72 [c3])] :: M4 :: [(pb2, oc 109 [(Value.func (.func 62) #[] #[])])] :: S) w ∧ Env 58 a [(1, (Value.func (.func 96) #[] #[.pointer (some ⟨pb0, 0, none⟩), .pointer (some ⟨pb1, 0, none⟩), .pointer (some ⟨pb2, 0, none⟩)])), (2, vp b6), (6, vs s.1), (7, vb s.2.1), (9, vp b44), (16, c18), (17, (vi (y7.wholes.length : Int))), (18, vi x_29), (25, c58), (26, (vi (y45.fraction.length : Int))), (27, vi s.2.2)] ∧ s.1.length ≤ LIMS ∧ InR .i64 s.2.2) (fun (b : ((List UInt8) × Bool)) e a w => e = (.exit 2) ∧ Ok u m0 ([(b44, oc 181 [vu x33.bits, vs x33.text])] :: [(b6, oc 143 [vx_0])] :: [(pb0, oc 26 [c1])] :: [(pb1, oc 72 [c3])] :: M4 :: [(pb2, oc 109 [(Value.func (.func 62) #[] #[])])] :: S) w ∧ Env 58 a [(1, (Value.func (.func 96) #[] #[.pointer (some ⟨pb0, 0, none⟩), .pointer (some ⟨pb1, 0, none⟩), .pointer (some ⟨pb2, 0, none⟩)])), (2, vp b6), (6, vs b.1), (7, vb b.2), (16, c18), (17, (vi (y7.wholes.length : Int))), (18, vi x_29)] ∧ b.1.length ≤ LIMS) ?_ ?_ N _ a w hL ⟨ok, E.keep [1, 2, 6, 7, 9, 16, 17, 18, 25, 26, 27], l30, (ir 0)⟩
 rotate_left
 ·intro e a w _ hO
  obtain ⟨rfl, ok, E, l101⟩ := hO
  refine b_hit <| b_norm <| t_norm <| c_region <| lw E (y_add rfl rfl (InR.inc r31 (pL_InR h19) hc32)) fun a E => mv E rfl fun a E => wpList_nil ?_
  obtain rfl := sj hF
  exact step_n ⟨(ok.pk 6 [1, 2, 3, 4, 5] rfl (by decide)), E.keep [1, 2, 6, 7, 16, 17, 18], l101, (InR.inc r31 (pL_InR h19) hc32)⟩
 rintro ⟨found_65, ok_66, x_67⟩ a w r ⟨ok, E, l68, r69⟩ hF
 replace hF : decide_classes_first__96_b2 N x_0 x0 x1 x33 y45 found_65 ok_66 x_67 = some r := hF
 unfold decide_classes_first__96_b2 at hF
 refine sg <| lw E (y_lss rfl rfl) fun a E => wn <| wp_seq <| cf E rfl hF (fun hc70 hF => ?_) fun hc70 hF => ?_
 rotate_left
 ·refine wp_exit <| t_exit ?_
  obtain rfl := sj hF
  exact so (⟨rfl, ⟨ok, E.keep [1, 2, 6, 7, 16, 17, 18], l68⟩⟩)
 refine wp_skip <| t_norm <| wp_seq <| wp_block <| sg ?_
 obtain ⟨x71, e72, hF⟩ := bnd hF
 obtain ⟨b73, o74, es75, hl76, rr77, at78, yy79⟩ := idxAt sl_173 h59 e72 (P := Tryz.prog) (X := .tmp 25) (I := .tmp 27) (kd := .i64) (ev_of E rfl) (ev_of E rfl)
 obtain ⟨rfl, r80, l81⟩ := rr77
 refine lv E ok (yy79 _ _) fun a E => lv E ok (y_loadAgg (cs := [vu x71.bits, vs x71.text]) agg_181 rfl rfl (Holds.ro at78)) fun a E => l_alloc E ok zero_181 rfl rfl fun b82 a w E ok => l_storeB E ok 0 rfl rfl rfl inf_181 rfl rfl ⟨rfl, rfl, trivial⟩ rfl rfl fun w ok => wn <| sg ?_
 refine fv E fo_181_1 rfl fun a E => ld E ok one_9 1 rfl rfl rfl fun a E => aw E rfl fun a E => wp_seq <| sg ?_
 refine fv E fo_181_1 rfl fun a E => ld E ok one_9 0 rfl rfl rfl fun a E => lw E (y_sneq rfl rfl) fun a E => wn ?_
 obtain ⟨o83, hJ, hF⟩ := bnd hF
 refine c_mono (Q' := fun e a w => e = .normal ∧ Ok u m0 ([(b82, oc 181 [vu x71.bits, vs x71.text])] :: [(b44, oc 181 [vu x33.bits, vs x33.text])] :: [(b6, oc 143 [vx_0])] :: [(pb0, oc 26 [c1])] :: [(pb1, oc 72 [c3])] :: M4 :: [(pb2, oc 109 [(Value.func (.func 62) #[] #[])])] :: S) w ∧ Env 58 a [(1, (Value.func (.func 96) #[] #[.pointer (some ⟨pb0, 0, none⟩), .pointer (some ⟨pb1, 0, none⟩), .pointer (some ⟨pb2, 0, none⟩)])), (2, vp b6), (6, vs found_65), (7, vb ok_66), (9, vp b44), (11, vp b82), (12, vs o83), (16, c18), (17, (vi (y7.wholes.length : Int))), (18, vi x_29), (25, c58), (26, (vi (y45.fraction.length : Int))), (27, vi x_67)] ∧ o83.length ≤ LIMS) ?_ ?_
 ·replace hF := hJ
  clear hJ
  refine cf E rfl hF (fun hc85 hF => ?_) fun hc85 hF => ?_
  rotate_left
  ·refine wp_skip ?_
   obtain rfl := sj hF
   exact ⟨rfl, ⟨ok, E.keep [1, 2, 6, 7, 9, 11, 12, 16, 17, 18, 25, 26, 27], l43⟩⟩
  refine c_region <| mv E rfl fun a E => fv E fo_181_1 rfl fun a E => ld E ok one_9 0 rfl rfl rfl fun a E => ?_
  obtain ⟨s86, e87, hF⟩ := bnd hF
  refine lw E (y_cat rfl rfl e87) fun a E => ?_
  obtain ⟨s88, e89, hF⟩ := bnd hF
  refine lw E (y_cat rfl rfl e89) fun a E => av E rfl fun a E => wpList_nil ?_
  obtain rfl := sj hF
  exact ⟨rfl, ⟨ok, E.keep [1, 2, 6, 7, 9, 11, 12, 16, 17, 18, 25, 26, 27], (cat_len e89)⟩⟩
 clear hJ
 intro e a w hO
 obtain ⟨rfl, ok, E, l90⟩ := hO
 refine t_norm <| sg <| mv E rfl fun a E => lw E (y_not rfl) fun a E => mv E rfl fun a E => bsplit (!ok_66) (fun hc91 => ?_) (fun hc91 => ?_)
 ·replace hF := cond_t hc91 hF
  replace E := E.upd 43 hc91 rfl
  refine ls E fun a E => ls E fun a E => ls E fun a E => pt E rfl rfl fun a E => mv E rfl fun a E => mv E rfl fun a E => lv E ok (y_makeFunc (caps := [.tmp 2, .tmp 9, .tmp 11]) rfl) fun a E => ?_
  obtain ⟨r92, e93, hF⟩ := bnd hF
  replace ok : Ok u m0 ([(b6, oc 143 [vx_0])] :: [(b44, oc 181 [vu x33.bits, vs x33.text])] :: [(b82, oc 181 [vu x71.bits, vs x71.text])] :: [(pb0, oc 26 [c1])] :: [(pb1, oc 72 [c3])] :: M4 :: [(pb2, oc 109 [(Value.func (.func 62) #[] #[])])] :: S) w := (ok.pk 7 [2, 1, 0, 3, 4, 5, 6] rfl (by decide))
  refine l_callc E rfl go_96 rfl (decide_search_1__128_w N x_0 hx_0 x33 r42 l43 x71 r80 l81 x0 h2 x1 h5 e93 hG ok) rfl rfl ?_
  rintro _ w ⟨rfl, ok⟩
  refine ⟨_, rfl, fun a E => ?_⟩
  refine pt E rfl rfl fun a E => wn <| cf E rfl hF (fun hc94 hF => ?_) fun hc94 hF => ?_
  rotate_left
  ·refine wp_skip <| b_norm <| t_norm <| c_region <| lw E (y_add rfl rfl (InR.inc r69 (pL_InR h59) hc70)) fun a E => mv E rfl fun a E => wpList_nil ?_
   obtain rfl := sj hF
   exact step_n ⟨(ok.pk 7 [1, 0, 3, 4, 5, 6] rfl (by decide)), E.keep [1, 2, 6, 7, 9, 16, 17, 18, 25, 26, 27], l68, (InR.inc r69 (pL_InR h59) hc70)⟩
  refine c_region <| mv E rfl fun a E => av E rfl fun a E => av E rfl fun a E => wpList_nil <| b_norm <| t_norm <| c_region ?_
  refine lw E (y_add rfl rfl (InR.inc r69 (pL_InR h59) hc70)) fun a E => mv E rfl fun a E => wpList_nil ?_
  obtain rfl := sj hF
  exact step_n ⟨(ok.pk 7 [1, 0, 3, 4, 5, 6] rfl (by decide)), E.keep [1, 2, 6, 7, 9, 16, 17, 18, 25, 26, 27], l90, (InR.inc r69 (pL_InR h59) hc70)⟩
 replace hF := cond_f hc91 hF
 replace E := E.upd 43 hc91 rfl
 refine mv E rfl fun a E => mv E rfl fun a E => ?_
 obtain ⟨r95, e96, hF⟩ := bnd hF
 refine lc E go_127 rfl (decide_before_w N o83 l90 found_65 l68 e96 hG ok) fun w ok a E => pf E rfl rfl fun a E => mv E rfl fun a E => bsplit r95 (fun hc97 => ?_) (fun hc97 => ?_)
 rotate_left
 ·replace hF := cond_f hc97 hF
  replace E := E.upd 48 hc97 rfl
  refine ls E fun a E => ls E fun a E => ls E fun a E => pf E rfl rfl fun a E => wn <| c_if E rfl (fun h => by cases h) (fun _ => ?_)
  refine wp_skip <| b_norm <| t_norm <| c_region <| lw E (y_add rfl rfl (InR.inc r69 (pL_InR h59) hc70)) fun a E => mv E rfl fun a E => wpList_nil ?_
  obtain rfl := sj hF
  exact step_n ⟨(ok.pk 7 [1, 2, 3, 4, 5, 6] rfl (by decide)), E.keep [1, 2, 6, 7, 9, 16, 17, 18, 25, 26, 27], l68, (InR.inc r69 (pL_InR h59) hc70)⟩
 replace hF := cond_t hc97 hF
 replace E := E.upd 48 hc97 rfl
 refine mv E rfl fun a E => lv E ok (y_makeFunc (caps := [.tmp 2, .tmp 9, .tmp 11]) rfl) fun a E => ?_
 obtain ⟨r98, e99, hF⟩ := bnd hF
 replace ok : Ok u m0 ([(b6, oc 143 [vx_0])] :: [(b44, oc 181 [vu x33.bits, vs x33.text])] :: [(b82, oc 181 [vu x71.bits, vs x71.text])] :: [(pb0, oc 26 [c1])] :: [(pb1, oc 72 [c3])] :: M4 :: [(pb2, oc 109 [(Value.func (.func 62) #[] #[])])] :: S) w := (ok.pk 7 [2, 1, 0, 3, 4, 5, 6] rfl (by decide))
 refine l_callc E rfl go_96 rfl (decide_search_1__128_w N x_0 hx_0 x33 r42 l43 x71 r80 l81 x0 h2 x1 h5 e99 hG ok) rfl rfl ?_
 rintro _ w ⟨rfl, ok⟩
 refine ⟨_, rfl, fun a E => ?_⟩
 refine pt E rfl rfl fun a E => wn <| cf E rfl hF (fun hc100 hF => ?_) fun hc100 hF => ?_
 rotate_left
 ·refine wp_skip <| b_norm <| t_norm <| c_region <| lw E (y_add rfl rfl (InR.inc r69 (pL_InR h59) hc70)) fun a E => mv E rfl fun a E => wpList_nil ?_
  obtain rfl := sj hF
  exact step_n ⟨(ok.pk 7 [1, 0, 3, 4, 5, 6] rfl (by decide)), E.keep [1, 2, 6, 7, 9, 16, 17, 18, 25, 26, 27], l68, (InR.inc r69 (pL_InR h59) hc70)⟩
 refine c_region <| mv E rfl fun a E => av E rfl fun a E => av E rfl fun a E => wpList_nil <| b_norm <| t_norm <| c_region ?_
 refine lw E (y_add rfl rfl (InR.inc r69 (pL_InR h59) hc70)) fun a E => mv E rfl fun a E => wpList_nil ?_
 obtain rfl := sj hF
 exact step_n ⟨(ok.pk 7 [1, 0, 3, 4, 5, 6] rfl (by decide)), E.keep [1, 2, 6, 7, 9, 16, 17, 18, 25, 26, 27], l90, (InR.inc r69 (pL_InR h59) hc70)⟩
def decide_search__62_R (u : World) (m0 : Mem) (S : Segs) (r : (List UInt8) × Bool) (a : Act) (w : World) : Prop :=
 Ok u m0 S w ∧ a.defers = [] ∧ RVs Tryz.prog a w [.t 4 (.string (bs r.1)), .t 5 (.bool r.2)] ∧ r.1.length ≤ LIMS
theorem decide_search__62_w (N : Nat) (vl_0 : Value) (l_0 : List (List (List (Relation)))) (hl_0 : (pL 1 (pL 1 (pL 4 pRelation))) m0 [vl_0] l_0) {r : (List UInt8) × Bool} (hF : decide_search__62 N l_0 = some r) (hG : Glob u) (hTb : Tab u) (ok : Ok u m0 S w) :
  Calls Tryz.prog 61 [vl_0, .func (.func 62) #[] #[]].toArray w fun e w' => (e = .returned (.tuple [(.string (bs r.1)), (.bool r.2)].toArray) ∧ Ok u m0 S w') ∧ r.1.length ≤ LIMS := by
 have hb0 := ok.base
 have le_m0 := Mem.le.refl m0
 unfold decide_search__62 at hF
 refine en (decide_search__62_R u m0 S) r Tryz.func61 rfl rfl rfl (by rintro a w ⟨ok, hd, hrv, h0⟩; exact c_ret2 [.t 4 (.string (bs r.1)), .t 5 (.bool r.2)] hd rfl hrv ⟨⟨rfl, ok⟩, h0⟩) fun fin a E => sg <| l_boxC (cs := [vl_0]) E ok rfl (pL_cells hl_0) rfl rfl fun b1 a w E ok => l_box E ok rfl rfl rfl fun b2 a w E ok => av E rfl fun a E => av E rfl fun a E => wpList_nil ?_
 refine t_norm <| sg <| aw E rfl fun a E => sg ?_
 refine ld E ok one_26 1 rfl rfl rfl fun a E => lv E ok (y_lenL sl_26 hl_0 rfl) fun a E => ?_
 obtain ⟨l3, e4, hF⟩ := bnd hF
 refine l_make (R := (pI .i64)) E ok sl_72 zero_3 rfl (pI_mk (ir 0)) rfl e4 rfl rfl fun c5 M6 a w E ok h7 => l_alloc E ok zero_72 rfl rfl fun b8 a w E ok => l_storeB E ok 0 rfl rfl rfl inf_72 (ORow.cells h7) rfl ⟨(ORow.one h7), trivial⟩ rfl rfl fun w ok => wn <| wp_seq <| sg ?_
 refine ld E ok one_26 3 rfl rfl rfl fun a E => lv E ok (y_lenL sl_26 hl_0 rfl) fun a E => mv E rfl fun a E => wn <| wp_block ?_
 obtain ⟨M17, ok, h18⟩ := nilrow (e := 69) (k := 4) (R := pRelation) ok
 obtain ⟨o19, hL, hF⟩ := bnd hF
 refine c_loop _ (fun (s : (List (Relation)) × Int × (List (Int))) a w => ∃ m20 c21 M22 c25 M26, m0.le m20 ∧ Ok u m20 (M22 :: [(b8, oc 72 [c25])] :: M26 :: [(b2, oc 109 [(Value.func (.func 62) #[] #[])])] :: [(b1, oc 26 [vl_0])] :: S) w ∧ Env 36 a [(2, vp b1), (3, vp b2), (6, c21), (7, vp b8), (13, vl_0), (14, (vi (l_0.length : Int))), (15, vi s.2.1)] ∧ ORow 69 4 pRelation m20 c21 s.1 M22 ∧ InR .i64 s.2.1 ∧ ORow 3 1 (pI .i64) m20 c25 s.2.2 M26) (fun (b : ((List (Int)) × (List (Relation)))) e a w => e = (.exit 0) ∧ ∃ m88 c89 M90 c92 M93, m0.le m88 ∧ Ok u m88 (M93 :: [(b8, oc 72 [c89])] :: M90 :: [(b2, oc 109 [(Value.func (.func 62) #[] #[])])] :: [(b1, oc 26 [vl_0])] :: S) w ∧ Env 36 a [(2, vp b1), (3, vp b2), (6, c92), (7, vp b8)] ∧ ORow 3 1 (pI .i64) m88 c89 b.1 M90 ∧ ORow 69 4 pRelation m88 c92 b.2 M93) ?_ ?_ N _ a w hL ⟨m0, (Value.slice none 0 0), M17, c5, M6, Mem.le.refl _, ok, E.keep [2, 3, 6, 7, 13, 14, 15], h18, (ir 0), h7⟩
 rotate_left
 ·intro e a w _ hO
  obtain ⟨rfl, m71, c72, M73, c75, M76, hle, ok, E, h74, h77⟩ := hO
  have le_m0 := le_m0.trans hle
  have hl_0 := (mL (mL (mL mRelation))).up hle hl_0
  refine b_hit <| t_norm <| sg <| mv E rfl fun a E => ?_
  obtain ⟨m78, hle, ok, hfz⟩ := (ok.frs 0 rfl).freeze
  have h79 := ORow.froz mRelation h77 hle hfz (by decide)
  have le_m0 := le_m0.trans hle
  have hl_0 := (mL (mL (mL mRelation))).up hle hl_0
  have h74 := ORow.up (mI .i64) hle h74
  obtain ⟨r80, e81, hF⟩ := bnd hF
  refine l_call E go_94 rfl (decide_newClasses_w N _ o19.2 h79 e81 hG hTb ok) rfl rfl ?_
  rintro _ w ⟨m82, c83, rfl, hle, ok, h84⟩
  have le_m0 := le_m0.trans hle
  have hl_0 := (mL (mL (mL mRelation))).up hle hl_0
  have h74 := ORow.up (mI .i64) hle h74
  have h79 := (mL mRelation).up hle h79
  refine ⟨_, rfl, fun a E => ?_⟩
  refine lv E ok (y_makeFunc (caps := [.tmp 2, .tmp 7, .tmp 3]) rfl) fun a E => ?_
  obtain ⟨r85, e86, hF⟩ := bnd hF
  replace ok : Ok u m82 ([(b1, oc 26 [vl_0])] :: [(b8, oc 72 [c72])] :: M73 :: [(b2, oc 109 [(Value.func (.func 62) #[] #[])])] :: S) w := (ok.pk 4 [3, 0, 1, 2] rfl (by decide))
  refine l_call E go_95 rfl (decide_classes_first__96_w N _ r80 h84 l_0 hl_0 o19.1 h74 e86 hG ok) rfl rfl ?_
  rintro _ w ⟨⟨rfl, ok⟩, l87⟩
  refine ⟨_, rfl, fun a E => ?_⟩
  refine lw E (y_extract rfl rfl) fun a E => lw E (y_extract rfl rfl) fun a E => av E rfl fun a E => aw E rfl fun a E => wp_ret ?_
  exact fin hF ⟨(ok.drop.drop.drop.drop).down hb0 le_m0, E.d, ⟨rv_t E rfl, rv_t E rfl, trivial⟩, l87⟩
 rintro ⟨all_28, x_29, x_30⟩ a w r ⟨m31, c32, M33, c36, M37, hle, ok, E, h34, r35, h38⟩ hF
 replace hF : decide_search__62_b1 N l_0 all_28 x_29 x_30 = some r := hF
 unfold decide_search__62_b1 at hF
 have le_m0 := le_m0.trans hle
 have hl_0 := (mL (mL (mL mRelation))).up hle hl_0
 refine sg <| lw E (y_lss rfl rfl) fun a E => wn <| wp_seq <| cf E rfl hF (fun hc39 hF => ?_) fun hc39 hF => ?_
 rotate_left
 ·refine wp_exit <| t_exit ?_
  obtain rfl := sj hF
  exact so (⟨rfl, ⟨m31, c36, M37, c32, M33, le_m0, ok, E.keep [2, 3, 6, 7], h38, h34⟩⟩)
 refine wp_skip <| t_norm <| wp_seq <| wp_block <| sg <| mv E rfl fun a E => ?_
 obtain ⟨x40, e41, hF⟩ := bnd hF
 obtain ⟨b42, o43, es44, hl45, rr46, at47, yy48⟩ := idxAt sl_26 hl_0 e41 (P := Tryz.prog) (X := .tmp 13) (I := .tmp 15) (kd := .i64) (ev_of E rfl) (ev_of E rfl)
 obtain ⟨c49, rfl, h50⟩ := pL_cell rr46
 refine lv E ok (yy48 _ _) fun a E => lv E ok (y_load one_23 rfl (Holds.ro at47)) fun a E => av E rfl fun a E => aw E rfl fun a E => sg ?_
 refine ld E ok one_72 1 rfl rfl rfl fun a E => mv E rfl fun a E => mv E rfl fun a E => lv E ok (y_lenR sl_66 h34 rfl) fun a E => ?_
 obtain ⟨x51, e52, hF⟩ := bnd hF
 obtain ⟨b53, o54, hp55, yy56⟩ := orowAt sl_72 h38 e52 (P := Tryz.prog) (X := .tmp 20) (I := .tmp 21) (kd := .i64) (ev_of E rfl) (ev_of E rfl)
 refine lv E ok (yy56 _ _) fun a E => ?_
 obtain ⟨l57, e58, hF⟩ := bnd hF
 refine l_storeRow (R := (pI .i64)) E ok 2 rfl h38 e52 hp55 rfl rfl inf_3 rfl rfl rfl ⟨rfl, trivial⟩ (pI_mk (ORow.InR h34)) e58 rfl fun M59 w ok h60 => wn <| c_region <| mv E rfl fun a E => mv E rfl fun a E => ?_
 obtain ⟨r61, e62, hF⟩ := bnd hF
 refine l_call E go_47 rfl (decide_relations_w N _ x40 h50 e62 hG ok) rfl rfl ?_
 rintro _ w ⟨m63, c64, rfl, hle, ok, h65⟩
 have le_m0 := le_m0.trans hle
 have hl_0 := (mL (mL (mL mRelation))).up hle hl_0
 have h34 := ORow.up mRelation hle h34
 have h50 := (mL (mL mRelation)).up hle h50
 have at47 := At.up hle at47
 have h60 := ORow.up (mI .i64) hle h60
 refine ⟨_, rfl, fun a E => ?_⟩
 obtain ⟨l66, e67, hF⟩ := bnd hF
 refine l_app (R := pRelation) E ok 0 mRelation sl_66 Tryz.underlying66 rfl h34 (SrcOK.ofL h65 ok) e67 ⟨_, zero_69, rfl⟩ rfl rfl rfl rfl fun c68 M69 a w E ok h70 => av E rfl fun a E => wpList_nil <| b_norm <| t_norm <| c_region <| lw E (y_add rfl rfl (InR.inc r35 (pL_InR hl_0) hc39)) fun a E => mv E rfl fun a E => ?_
 refine wpList_nil ?_
 obtain rfl := sj hF
 exact step_n ⟨m63, c68, M69, c36, M59, le_m0, ok, E.keep [2, 3, 6, 7, 13, 14, 15], h70, (InR.inc r35 (pL_InR hl_0) hc39), h60⟩
def decide_Disjoint_R (u : World) (m0 : Mem) (S : Segs) (r : Int × Int × (List UInt8) × Int) (a : Act) (w : World) : Prop :=
 Ok u m0 S w ∧ a.defers = [] ∧ RVs Tryz.prog a w [.t 2 (.int .i64 r.1), .t 3 (.int .i64 r.2.1), .t 4 (.string (bs r.2.2.1)), .t 5 (.int .i64 r.2.2.2)] ∧ InR .i64 r.1 ∧ InR .i64 r.2.1 ∧ r.2.2.1.length ≤ LIMS ∧ InR .i64 r.2.2.2
theorem decide_Disjoint_w (N : Nat) (vl_0 : Value) (l_0 : List (Rule)) (hl_0 : (pL 2 pRule) m0 [vl_0] l_0) {r : Int × Int × (List UInt8) × Int} (hF : decide_Disjoint N l_0 = some r) (hG : Glob u) (hTb : Tab u) (ok : Ok u m0 S w) :
  Calls Tryz.prog 19 [vl_0].toArray w fun e w' => (e = .returned (.tuple [(.int .i64 r.1), (.int .i64 r.2.1), (.string (bs r.2.2.1)), (.int .i64 r.2.2.2)].toArray) ∧ Ok u m0 S w') ∧ InR .i64 r.1 ∧ InR .i64 r.2.1 ∧ r.2.2.1.length ≤ LIMS ∧ InR .i64 r.2.2.2 := by
 have le_m0 := Mem.le.refl m0
 unfold decide_Disjoint at hF
 refine en (decide_Disjoint_R u m0 S) r Tryz.func19 rfl rfl rfl (by rintro a w ⟨ok, hd, hrv, h0, h1, h2, h3⟩; exact c_ret2 [.t 2 (.int .i64 r.1), .t 3 (.int .i64 r.2.1), .t 4 (.string (bs r.2.2.1)), .t 5 (.int .i64 r.2.2.2)] hd rfl hrv ⟨⟨rfl, ok⟩, h0, h1, h2, h3⟩) fun fin a E => sg <| av E rfl fun a E => av E rfl fun a E => av E rfl fun a E => av E rfl fun a E => wpList_nil ?_
 refine t_norm <| sg <| aw E rfl fun a E => wp_seq <| wp_seq ?_
 refine c_region <| mv E rfl fun a E => lv E ok (y_lenL sl_43 hl_0 rfl) fun a E => mv E rfl fun a E => wn <| wp_block ?_
 obtain ⟨M6, ok, h7⟩ := nilrow (e := 23) (k := 1) (R := (pL 1 (pL 4 pRelation))) ok
 obtain ⟨o8, hL, hF⟩ := bnd hF
 refine c_loop _ (fun (s : (List (List (List (Relation)))) × Int) a w => ∃ c9 M10, Ok u m0 (M10 :: S) w ∧ Env 59 a [(0, vl_0), (6, c9), (13, vl_0), (14, (vi (l_0.length : Int))), (15, vi s.2)] ∧ ORow 23 1 (pL 1 (pL 4 pRelation)) m0 c9 s.1 M10 ∧ InR .i64 s.2) (fun (b : ((List (List (List (Relation)))))) e a w => e = (.exit 0) ∧ ∃ c136 M137, Ok u m0 (M137 :: S) w ∧ Env 59 a [(0, vl_0), (6, c136)] ∧ ORow 23 1 (pL 1 (pL 4 pRelation)) m0 c136 b M137) ?_ ?_ N _ a w hL ⟨(Value.slice none 0 0), M6, ok, E.keep [0, 6, 13, 14, 15], h7, (ir 0)⟩
 ·rintro ⟨conds_13, x_14⟩ a w r ⟨c15, M16, ok, E, h17, r18⟩ hF
  replace hF : decide_Disjoint_b1 N l_0 conds_13 x_14 = some r := hF
  unfold decide_Disjoint_b1 at hF
  refine sg <| lw E (y_lss rfl rfl) fun a E => wn <| wp_seq <| cf E rfl hF (fun hc19 hF => ?_) fun hc19 hF => ?_
  rotate_left
  ·refine wp_exit <| t_exit ?_
   obtain rfl := sj hF
   exact so (⟨rfl, ⟨c15, M16, ok, E.keep [0, 6], h17⟩⟩)
  refine wp_skip <| t_norm <| wp_seq <| wp_block <| sg ?_
  obtain ⟨x20, e21, hF⟩ := bnd hF
  obtain ⟨b22, o23, es24, hl25, rr26, at27, yy28⟩ := idxAt sl_43 hl_0 e21 (P := Tryz.prog) (X := .tmp 13) (I := .tmp 15) (kd := .i64) (ev_of E rfl) (ev_of E rfl)
  obtain ⟨c30, rfl, l29, h31⟩ := rr26
  refine lv E ok (yy28 _ _) fun a E => lv E ok (y_loadAgg (cs := [vs x20.Class, c30]) agg_45 rfl rfl (Holds.ro at27)) fun a E => l_alloc E ok zero_45 rfl rfl fun b32 a w E ok => l_storeB E ok 0 rfl rfl rfl inf_45 rfl rfl ⟨rfl, (pL_one h31), trivial⟩ rfl rfl fun w ok => wn <| c_region <| mv E rfl fun a E => ?_
  refine fv E fo_45_1 rfl fun a E => ld E ok one_23 0 rfl rfl rfl fun a E => l_slit (R := (pL 1 (pL 4 pRelation))) (xo := [.tmp 21]) (xs := ([x20.Cond] : List (List (List (Relation))))) E ok sl_26 zero_23 rfl ⟨⟨_, (pL_cells h31), rfl, h31⟩, trivial⟩ rfl rfl rfl rfl fun c33 M34 a w E ok h35 => ?_
  obtain ⟨l36, e37, hF⟩ := bnd hF
  refine l_app (R := (pL 1 (pL 4 pRelation))) E ok 2 (mL (mL mRelation)) sl_26 Tryz.underlying26 rfl h17 (SrcOK.ofRow h35 0 rfl ok) e37 ⟨_, zero_23, rfl⟩ rfl rfl rfl rfl fun c38 M39 a w E ok h40 => av E rfl fun a E => wpList_nil <| b_norm <| t_norm <| c_region <| lw E (y_add rfl rfl (InR.inc r18 (pL_InR hl_0) hc19)) fun a E => mv E rfl fun a E => ?_
  refine wpList_nil ?_
  obtain rfl := sj hF
  exact step_n ⟨c38, M39, (ok.pk 3 [2] rfl (by decide)), E.keep [0, 6, 13, 14, 15], h40, (InR.inc r18 (pL_InR hl_0) hc19)⟩
 intro e a w _ hO
 obtain ⟨rfl, c41, M42, ok, E, h43⟩ := hO
 refine b_hit <| t_norm <| wp_seq <| sg <| mv E rfl fun a E => ?_
 obtain ⟨r49, e50, hF⟩ := bnd hF
 obtain ⟨m44, hle46, ok45, hfz47⟩ := (ok.frs 0 rfl).freeze
 have h48 := ORow.froz (mL (mL mRelation)) h43 hle46 hfz47 (by decide)
 refine l_call E go_60 rfl (decide_valid_w N _ o8 h48 e50 hG ok45) rfl rfl ?_
 rintro _ w ⟨rfl, okz⟩
 replace ok := (Ok.thawAt 0 rfl ok hle46 hfz47 okz)
 refine ⟨_, rfl, fun a E => ?_⟩
 refine lw E (y_not rfl) fun a E => wn <| cf E rfl hF (fun hc51 hF => ?_) fun hc51 hF => ?_
 ·refine sg <| av E rfl fun a E => av E rfl fun a E => av E rfl fun a E => aw E rfl fun a E => ?_
  refine wp_ret <| t_ret ?_
  exact fin hF ⟨ok.drop, E.d, ⟨rv_t E rfl, rv_t E rfl, rv_t E rfl, rv_t E rfl, trivial⟩, (ir 0), (ir 0), (show ([] : List UInt8).length ≤ LIMS by decide), (ir 1)⟩
 refine wp_skip <| t_norm <| wp_seq <| sg <| mv E rfl fun a E => lv E ok (y_lenL sl_43 hl_0 rfl) fun a E => mv E rfl fun a E => ?_
 refine wn <| wp_block ?_
 obtain ⟨o53, hL, hF⟩ := bnd hF
 refine c_loop _ (fun (s : Int) a w => Ok u m0 (M42 :: S) w ∧ Env 59 a [(0, vl_0), (6, c41), (29, (vi (l_0.length : Int))), (30, vi s)] ∧ InR .i64 s) (fun (b : (Unit ⊕ (Int × Int × (List UInt8) × Int))) e a w => (Sum.elim (fun b134 => e = (.exit 2) ∧ Ok u m0 (M42 :: S) w ∧ Env 59 a []) (fun b135 => e = .ret ∧ decide_Disjoint_R u m0 S b135 a w)) b) ?_ ?_ N _ a w hL ⟨ok, E.keep [0, 6, 29, 30], (ir 0)⟩
 rotate_left
 ·intro e a w _ hO
  rcases o53 with o53 | o53
  rotate_left
  ·replace hF := elim_r hF
   obtain ⟨rfl, hret⟩ := hO
   refine b_ret <| t_ret ?_
   exact fin hF hret
  replace hF := elim_l hF
  obtain ⟨rfl, ok, E⟩ := hO
  refine b_hit <| t_norm <| sg <| av E rfl fun a E => av E rfl fun a E => av E rfl fun a E => av E rfl fun a E => ?_
  refine wn <| wp_ret ?_
  exact fin hF ⟨ok.drop, E.d, ⟨rv_t E rfl, rv_t E rfl, rv_t E rfl, rv_t E rfl, trivial⟩, (ir 0), (ir 0), (show ([] : List UInt8).length ≤ LIMS by decide), (ir 0)⟩
 rintro x_55 a w r ⟨ok, E, r56⟩ hF
 replace hF : decide_Disjoint_b2 N l_0 o8 x_55 = some r := hF
 unfold decide_Disjoint_b2 at hF
 refine sg <| lw E (y_lss rfl rfl) fun a E => wn <| wp_seq <| cf E rfl hF (fun hc57 hF => ?_) fun hc57 hF => ?_
 rotate_left
 ·refine wp_exit <| t_exit ?_
  obtain rfl := sj hF
  exact so (sl ⟨rfl, ⟨ok, E.keep []⟩⟩)
 refine wp_skip <| t_norm <| wp_seq <| wp_block <| sg <| mv E rfl fun a E => av E rfl fun a E => ?_
 refine wn <| sg <| mv E rfl fun a E => lw E (y_add rfl rfl (InR.inc r56 (pL_InR hl_0) hc57)) fun a E => av E rfl fun a E => wpList_nil ?_
 refine t_norm <| wp_block ?_
 obtain ⟨o59, hL, hF⟩ := bnd hF
 refine c_loop _ (fun (s : Int) a w => Ok u m0 (M42 :: S) w ∧ Env 59 a [(0, vl_0), (6, c41), (9, vi x_55), (10, vi s), (29, (vi (l_0.length : Int))), (30, vi x_55)] ∧ InR .i64 s) (fun (b : (Unit ⊕ (Int × Int × (List UInt8) × Int))) e a w => (Sum.elim (fun b132 => e = (.exit 4) ∧ Ok u m0 (M42 :: S) w ∧ Env 59 a [(0, vl_0), (6, c41), (29, (vi (l_0.length : Int))), (30, vi x_55)]) (fun b133 => e = .ret ∧ decide_Disjoint_R u m0 S b133 a w)) b) ?_ ?_ N _ a w hL ⟨ok, E.keep [0, 6, 9, 10, 29, 30], (InR.inc r56 (pL_InR hl_0) hc57)⟩
 rotate_left
 ·intro e a w _ hO
  rcases o59 with o59 | o59
  rotate_left
  ·replace hF := elim_r hF
   obtain ⟨rfl, hret⟩ := hO
   refine b_ret <| b_ret <| t_ret ?_
   obtain rfl := sj hF
   exact so (sr ⟨rfl, hret⟩)
  replace hF := elim_l hF
  obtain ⟨rfl, ok, E⟩ := hO
  refine b_hit <| b_norm <| t_norm <| c_region <| lw E (y_add rfl rfl (InR.inc r56 (pL_InR hl_0) hc57)) fun a E => mv E rfl fun a E => wpList_nil ?_
  obtain rfl := sj hF
  exact step_n ⟨ok, E.keep [0, 6, 29, 30], (InR.inc r56 (pL_InR hl_0) hc57)⟩
 rintro j_61 a w r ⟨ok, E, r62⟩ hF
 replace hF : decide_Disjoint_b3 N l_0 o8 x_55 j_61 = some r := hF
 unfold decide_Disjoint_b3 at hF
 refine wp_seq <| sg <| mv E rfl fun a E => mv E rfl fun a E => lv E ok (y_lenL sl_43 hl_0 rfl) fun a E => lw E (y_lss rfl rfl) fun a E => wpList_nil ?_
 refine t_norm <| cf E rfl hF (fun hc63 hF => ?_) fun hc63 hF => ?_
 rotate_left
 ·refine wp_exit <| t_exit ?_
  obtain rfl := sj hF
  exact so (sl ⟨rfl, ⟨ok, E.keep [0, 6, 29, 30]⟩⟩)
 refine wp_skip <| t_norm <| wp_seq <| wp_block <| wp_seq ?_
 obtain ⟨o64, hJ, hF⟩ := bnd hF
 refine c_mono (Q' := fun e a w => e = .normal ∧ Ok u m0 (M42 :: S) w ∧ Env 59 a [(0, vl_0), (6, c41), (9, vi x_55), (10, vi j_61), (11, vs o64.1), (12, vb o64.2), (29, (vi (l_0.length : Int))), (30, vi x_55)] ∧ o64.1.length ≤ LIMS) ?_ ?_
 rotate_left
 ·clear hJ
  intro e a w hO
  obtain ⟨rfl, ok, E, l130⟩ := hO
  refine t_norm <| sg <| mv E rfl fun a E => wn <| cf E rfl hF (fun hc131 hF => ?_) fun hc131 hF => ?_
  rotate_left
  ·refine wp_skip <| b_norm <| t_norm <| c_region <| mv E rfl fun a E => lw E (y_add rfl rfl (InR.inc r62 (pL_InR hl_0) hc63)) fun a E => av E rfl fun a E => wpList_nil ?_
   obtain rfl := sj hF
   exact step_n ⟨ok, E.keep [0, 6, 9, 10, 29, 30], (InR.inc r62 (pL_InR hl_0) hc63)⟩
  refine sg <| mv E rfl fun a E => mv E rfl fun a E => mv E rfl fun a E => av E rfl fun a E => av E rfl fun a E => av E rfl fun a E => ?_
  refine aw E rfl fun a E => wp_ret <| b_ret <| t_ret ?_
  obtain rfl := sj hF
  exact so (sr ⟨rfl, ⟨ok.drop, E.d, ⟨rv_t E rfl, rv_t E rfl, rv_t E rfl, rv_t E rfl, trivial⟩, r56, r62, l130, (ir 19)⟩⟩)
 replace hF := hJ
 clear hJ
 obtain ⟨x66, e67, hF⟩ := bnd hF
 obtain ⟨x78, e79, hF⟩ := bnd hF
 obtain ⟨r98, e99, hF⟩ := bnd hF
 obtain rfl := sj hF
 refine k_begin [] (Cls u m0 (M42 :: [])) (Cls u m0 (M42 :: [])) (by kernel_rfl) ?_
 intro w hw
 replace ok := okdrew ok hw
 clear hw
 refine k_next (cl1 (cq le_m0 ok [0] rfl) (cq le_m0 ok [0] rfl)) fun hT => kt 0 E rfl hT (y_move rfl) fun a E => kt 1 E rfl hT (y_move rfl) fun a E => ?_
 obtain ⟨b101, o102, hp103, yy104⟩ := orowAt sl_26 h43 e67 (P := Tryz.prog) (X := .tmp 42) (I := .tmp 43) (kd := .i64) (ev_of E rfl) (ev_of E rfl)
 refine kt 2 E rfl hT (yy104 _ _) fun a E => ?_
 obtain ⟨es105, hl106, rr107, hh108⟩ := orowGet h43 e67 hp103 (by decide)
 obtain ⟨c109, rfl, h110⟩ := pL_cell rr107
 refine kt 3 E rfl hT (y_load one_23 rfl (Holds.crow hh108 0 rfl)) fun a E => kt 4 E rfl hT (y_move rfl) fun a E => kt 5 E rfl hT (y_move rfl) fun a E => ?_
 obtain ⟨b111, o112, hp113, yy114⟩ := orowAt sl_26 h43 e79 (P := Tryz.prog) (X := .tmp 46) (I := .tmp 47) (kd := .i64) (ev_of E rfl) (ev_of E rfl)
 refine kt 6 E rfl hT (yy114 _ _) fun a E => ?_
 obtain ⟨es115, hl116, rr117, hh118⟩ := orowGet h43 e79 hp113 (by decide)
 obtain ⟨c119, rfl, h120⟩ := pL_cell rr117
 refine kt 7 E rfl hT (y_load one_23 rfl (Holds.crow hh118 0 rfl)) fun a E => k_all [8] (by kernel_rfl) rfl (one_c ?_)
 ·refine wo rfl <| l_slit (R := (pL 1 (pL 4 pRelation))) (xo := [.tmp 45, .tmp 49]) (xs := ([x66, x78] : List (List (List (Relation))))) E ok sl_26 zero_23 rfl ⟨⟨_, (pL_cells h110), rfl, h110⟩, ⟨_, (pL_cells h120), rfl, h120⟩, trivial⟩ rfl rfl rfl rfl fun c121 M122 a w E ok h123 => wn <| k_next (cl1 (cq le_m0 ok [1] rfl) (cq le_m0 ok [1] rfl)) fun hT => k_all [9] (by kernel_rfl) rfl (one_c ?_)
  ·refine wpOp_of_list (o := _) rfl ?_
   obtain ⟨m124, hle126, ok125, hfz127⟩ := (ok.frs 0 rfl).freeze
   have h128 := ORow.froz (mL (mL mRelation)) h123 hle126 hfz127 (by decide)
   refine l_call E go_61 rfl (decide_search__62_w N _ ([x66, x78] : List (List (List (Relation)))) h128 e99 hG hTb ok125) rfl rfl ?_
   rintro _ w ⟨⟨rfl, okz⟩, l129⟩
   replace ok := (Ok.thawAt 0 rfl ok hle126 hfz127 okz)
   refine ⟨_, rfl, fun a E => ?_⟩
   refine wn <| k_next (cl1 (cq le_m0 ok [1] rfl) (cq le_m0 ok [1] rfl)) fun hT => kt 10 E rfl hT (y_move rfl) fun a E => kt 11 E rfl hT (y_extract rfl rfl) fun a E => kt 12 E rfl hT (y_extract rfl rfl) fun a E => kt 13 E rfl hT (y_assign rfl) fun a E => kt 14 E rfl hT (y_assign rfl) fun a E => ?_
   refine k_done (by kernel_rfl) ?_
   exact ⟨rfl, ⟨(ok.pk 2 [1] rfl (by decide)), E.keep [0, 6, 9, 10, 11, 12, 29, 30], l129⟩⟩
def calqueref08_longest_R (u : World) (m0 : Mem) (S : Segs) (r : Int) (a : Act) (w : World) : Prop :=
 Ok u m0 S w ∧ a.defers = [] ∧ RVs Tryz.prog a w [.t 6 (.int .i64 r)] ∧ InR .i64 r
theorem calqueref08_longest_w (N : Nat) (s_0 : List UInt8) (ls_0 : s_0.length ≤ LIMS) (from_1 : Int) (rfrom_1 : InR .u8 from_1) (to_2 : Int) (rto_2 : InR .u8 to_2) {r : Int} (hF : calqueref08_longest N s_0 from_1 to_2 = some r) (hG : Glob u) (ok : Ok u m0 S w) :
  Calls Tryz.prog 163 [vs s_0, Value.int .u8 from_1, Value.int .u8 to_2].toArray w fun e w' => (e = .returned (.int .i64 r) ∧ Ok u m0 S w') ∧ InR .i64 r := by
 unfold calqueref08_longest at hF
 refine en (calqueref08_longest_R u m0 S) r Tryz.func163 rfl rfl rfl (by rintro a w ⟨ok, hd, hrv, h0⟩; exact c_ret2 [.t 6 (.int .i64 r)] hd rfl hrv ⟨⟨rfl, ok⟩, h0⟩) fun fin a E => sg <| aw E rfl fun a E => sg ?_
 refine aw E rfl fun a E => wp_seq <| wp_block ?_
 obtain ⟨o2, hL, hF⟩ := bnd hF
 refine c_loop _ (fun (s : Int) a w => Ok u m0 (S) w ∧ Env 29 a [(0, vs s_0), (1, (Value.int .u8 from_1)), (2, (Value.int .u8 to_2)), (7, vi s)] ∧ InR .i64 s) (fun (b : Int) e a w => e = (.exit 0) ∧ Ok u m0 (S) w ∧ Env 29 a [(7, vi b)] ∧ InR .i64 b) ?_ ?_ N _ a w hL ⟨ok, E.keep [0, 1, 2, 7], (ir 0)⟩
 rotate_left
 ·intro e a w _ hO
  obtain ⟨rfl, ok, E, r13⟩ := hO
  refine b_hit <| t_norm <| sg <| mv E rfl fun a E => aw E rfl fun a E => ?_
  refine wp_ret ?_
  exact fin hF ⟨ok, E.d, ⟨rv_t E rfl, trivial⟩, r13⟩
 rintro n_4 a w r ⟨ok, E, r5⟩ hF
 replace hF : calqueref08_longest_b1 N s_0 from_1 to_2 n_4 = some r := hF
 unfold calqueref08_longest_b1 at hF
 refine wp_seq <| sg <| mv E rfl fun a E => mv E rfl fun a E => lw E (y_slen Tryz.underlying9 rfl) fun a E => lw E (y_lss rfl rfl) fun a E => mv E rfl fun a E => ?_
 refine bsplit (decide (n_4 < (s_0.length : Int))) (fun hc6 => ?_) (fun hc6 => ?_)
 rotate_left
 ·replace hF := cond_f hc6 hF
  replace E := E.upd 12 hc6 rfl
  refine ls E fun a E => ls E fun a E => ls E fun a E => ls E fun a E => ls E fun a E => pf E rfl rfl fun a E => mv E rfl fun a E => ls E fun a E => ?_
  refine ls E fun a E => ls E fun a E => ls E fun a E => ls E fun a E => pf E rfl rfl fun a E => wn <| c_if E rfl (fun h => by cases h) (fun _ => ?_)
  refine wp_exit <| t_exit ?_
  obtain rfl := sj hF
  exact so (⟨rfl, ⟨ok, E.keep [7], r5⟩⟩)
 replace hF := cond_t hc6 hF
 replace E := E.upd 12 hc6 rfl
 refine mv E rfl fun a E => mv E rfl fun a E => ?_
 obtain ⟨c7, e8, hF⟩ := bnd hF
 refine lv E ok (y_index Tryz.underlying9 rfl rfl e8) fun a E => mv E rfl fun a E => lw E (y_geq rfl rfl) fun a E => pt E rfl rfl fun a E => mv E rfl fun a E => bsplit (decide ((c7.toNat : Int) ≥ from_1)) (fun hc9 => ?_) (fun hc9 => ?_)
 rotate_left
 ·replace hF := cond_f hc9 hF
  replace E := E.upd 19 hc9 rfl
  refine ls E fun a E => ls E fun a E => ls E fun a E => ls E fun a E => ls E fun a E => pf E rfl rfl fun a E => wn ?_
  refine c_if E rfl (fun h => by cases h) (fun _ => ?_)
  refine wp_exit <| t_exit ?_
  obtain rfl := sj hF
  exact so (⟨rfl, ⟨ok, E.keep [7], r5⟩⟩)
 replace hF := cond_t hc9 hF
 replace E := E.upd 19 hc9 rfl
 refine mv E rfl fun a E => mv E rfl fun a E => ?_
 obtain ⟨c10, e11, hF⟩ := bnd hF
 refine lv E ok (y_index Tryz.underlying9 rfl rfl e11) fun a E => mv E rfl fun a E => lw E (y_leq rfl rfl) fun a E => pt E rfl rfl fun a E => wn <| cf E rfl hF (fun hc12 hF => ?_) fun hc12 hF => ?_
 rotate_left
 ·refine wp_exit <| t_exit ?_
  obtain rfl := sj hF
  exact so (⟨rfl, ⟨ok, E.keep [7], r5⟩⟩)
 refine wp_skip <| t_norm <| wp_block <| c_region <| mv E rfl fun a E => lw E (y_add rfl rfl (InR.inc r5 (InR.len ls_0) hc6)) fun a E => av E rfl fun a E => wpList_nil ?_
 refine b_norm ?_
 obtain rfl := sj hF
 exact step_n ⟨ok, E.keep [0, 1, 2, 7], (InR.inc r5 (InR.len ls_0) hc6)⟩
end Go.Proofs.YtidfofhmnlhfjaaGreatDoor
