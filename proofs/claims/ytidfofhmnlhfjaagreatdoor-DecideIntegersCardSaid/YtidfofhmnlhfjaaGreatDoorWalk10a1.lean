/- The walks of this part: the model's run of each function yields what the plain function says. Printed by gen8.py. -/
import Derived.Test.YtidfofhmnlhfjaaGreatDoorExt10a1
import Derived.Test.YtidfofhmnlhfjaaGreatDoorChecked
import Derived.Test.YtidfofhmnlhfjaaGreatDoorShelf
set_option linter.unusedVariables false
namespace Go.Proofs.YtidfofhmnlhfjaaGreatDoor
open Go.X

/-- The variable internal/bytealg.MaxLen holds a number. -/
def Glob (u : World) : Prop := ∃ mx, u.cell? ⟨0, 0, none⟩ = some (.int .i64 mx)

/-- The table of the powers of ten. -/
def Tab (u : World) : Prop := Lib.TabIs Tryz.prog u "internal/strconv.uint64pow10" .u64 Lib.pow10Tab

def pSpan : Rp Span := fun _ cs x => cs = [.int .i64 x.From, .int .i64 x.To] ∧ InR .i64 x.From ∧ InR .i64 x.To
theorem mSpan : Mono pSpan := ⟨fun _ h => by
  obtain ⟨e, h0, h1⟩ := h
  exact ⟨e, h0, h1⟩, fun h => by
  obtain ⟨rfl, h0, h1⟩ := h
  exact ⟨rfl, rfl, trivial⟩⟩

def pRelation : Rp Relation := fun m cs x => ∃ c3, cs = [.int .i64 x.Operand, .int .i64 x.Mod, .bool x.Not, c3] ∧ InR .i64 x.Operand ∧ InR .i64 x.Mod ∧ (pL 2 pSpan) m [c3] x.Spans
theorem mRelation : Mono pRelation := ⟨fun hm h => by
  obtain ⟨c3, e, h0, h1, h3⟩ := h
  exact ⟨c3, e, h0, h1, (mL mSpan).up hm h3⟩, fun h => by
  obtain ⟨c3, rfl, h0, h1, h3⟩ := h
  exact ⟨rfl, rfl, rfl, ((mL mSpan).one h3).1, trivial⟩⟩

def pRule : Rp Rule := fun m cs x => ∃ c1, cs = [.string (bs x.Class), c1] ∧ x.Class.length ≤ LIMS ∧ (pL 1 (pL 4 pRelation)) m [c1] x.Cond
theorem mRule : Mono pRule := ⟨fun hm h => by
  obtain ⟨c1, e, h0, h1⟩ := h
  exact ⟨c1, e, h0, (mL (mL mRelation)).up hm h1⟩, fun h => by
  obtain ⟨c1, rfl, h0, h1⟩ := h
  exact ⟨rfl, ((mL (mL mRelation)).one h1).1, trivial⟩⟩

def pPart : Rp Part := fun _ cs x => cs = [.int .u64 x.bits, .string (bs x.text)] ∧ InR .u64 x.bits ∧ x.text.length ≤ LIMS
theorem mPart : Mono pPart := ⟨fun _ h => by
  obtain ⟨e, h0, h1⟩ := h
  exact ⟨e, h0, h1⟩, fun h => by
  obtain ⟨rfl, h0, h1⟩ := h
  exact ⟨rfl, rfl, trivial⟩⟩

def pClasses : Rp Classes := fun m cs x => ∃ c0 c1 c2, cs = [c0, c1, c2] ∧ (pL 4 pRelation) m [c0] x.l ∧ (pL 2 pPart) m [c1] x.wholes ∧ (pL 2 pPart) m [c2] x.fraction
theorem mClasses : Mono pClasses := ⟨fun hm h => by
  obtain ⟨c0, c1, c2, e, h0, h1, h2⟩ := h
  exact ⟨c0, c1, c2, e, (mL mRelation).up hm h0, (mL mPart).up hm h1, (mL mPart).up hm h2⟩, fun h => by
  obtain ⟨c0, c1, c2, rfl, h0, h1, h2⟩ := h
  exact ⟨((mL mRelation).one h0).1, ((mL mPart).one h1).1, ((mL mPart).one h2).1, trivial⟩⟩

def pTracker : Rp Tracker := fun _ cs x => cs = [.int .i64 x.a, .int .i64 x.b] ∧ InR .i64 x.a ∧ InR .i64 x.b
theorem mTracker : Mono pTracker := ⟨fun _ h => by
  obtain ⟨e, h0, h1⟩ := h
  exact ⟨e, h0, h1⟩, fun h => by
  obtain ⟨rfl, h0, h1⟩ := h
  exact ⟨rfl, rfl, trivial⟩⟩

def pState : Rp State := fun m cs x => ∃ c1, cs = [.string (bs x.s), c1, .bool x.integer] ∧ x.s.length ≤ LIMS ∧ (pL 2 pTracker) m [c1] x.trackers
theorem mState : Mono pState := ⟨fun hm h => by
  obtain ⟨c1, e, h0, h1⟩ := h
  exact ⟨c1, e, h0, (mL mTracker).up hm h1⟩, fun h => by
  obtain ⟨c1, rfl, h0, h1⟩ := h
  exact ⟨rfl, ((mL mTracker).one h1).1, rfl, trivial⟩⟩

def pWord : Rp Word := fun _ cs x => cs = [.string (bs x.text), .int .i64 x.at_] ∧ x.text.length ≤ LIMS ∧ InR .i64 x.at_
theorem mWord : Mono pWord := ⟨fun _ h => by
  obtain ⟨e, h0, h1⟩ := h
  exact ⟨e, h0, h1⟩, fun h => by
  obtain ⟨rfl, h0, h1⟩ := h
  exact ⟨rfl, rfl, trivial⟩⟩

def pParser : Rp Parser := fun _ cs x => cs = [.string (bs x.s), .int .i64 x.to_, .string (bs x.w.text), .int .i64 x.w.at_, .int .i64 x.at_, .int .i64 x.e] ∧ x.s.length ≤ LIMS ∧ InR .i64 x.to_ ∧ x.w.text.length ≤ LIMS ∧ InR .i64 x.w.at_ ∧ InR .i64 x.at_ ∧ InR .i64 x.e
theorem mParser : Mono pParser := ⟨fun _ h => by
  obtain ⟨e, h0, h1, h2, h3, h4, h5⟩ := h
  exact ⟨e, h0, h1, h2, h3, h4, h5⟩, fun h => by
  obtain ⟨rfl, h0, h1, h2, h3, h4, h5⟩ := h
  exact ⟨rfl, rfl, rfl, rfl, rfl, rfl, trivial⟩⟩

def pNumber : Rp Number := fun _ cs x => cs = [.bool x.Neg, .string (bs x.Whole), .string (bs x.Frac)] ∧ x.Whole.length ≤ LIMS ∧ x.Frac.length ≤ LIMS
theorem mNumber : Mono pNumber := ⟨fun _ h => by
  obtain ⟨e, h1, h2⟩ := h
  exact ⟨e, h1, h2⟩, fun h => by
  obtain ⟨rfl, h1, h2⟩ := h
  exact ⟨rfl, rfl, rfl, trivial⟩⟩

theorem agg_117 : aggB Tryz.prog 117 3 = true := by kernel_rfl
theorem agg_126 : aggB Tryz.prog 126 2 = true := by kernel_rfl
theorem agg_163 : aggB Tryz.prog 163 2 = true := by kernel_rfl
theorem agg_181 : aggB Tryz.prog 181 2 = true := by kernel_rfl
theorem agg_199 : aggB Tryz.prog 199 3 = true := by kernel_rfl
theorem agg_45 : aggB Tryz.prog 45 2 = true := by kernel_rfl
theorem agg_69 : aggB Tryz.prog 69 4 = true := by kernel_rfl
theorem agg_86 : aggB Tryz.prog 86 2 = true := by kernel_rfl
theorem fo_117_0 : fieldOffB Tryz.prog 117 0 0 = true := by kernel_rfl
theorem fo_117_1 : fieldOffB Tryz.prog 117 1 1 = true := by kernel_rfl
theorem fo_117_2 : fieldOffB Tryz.prog 117 2 2 = true := by kernel_rfl
theorem fo_126_0 : fieldOffB Tryz.prog 126 0 0 = true := by kernel_rfl
theorem fo_126_1 : fieldOffB Tryz.prog 126 1 1 = true := by kernel_rfl
theorem fo_163_0 : fieldOffB Tryz.prog 163 0 0 = true := by kernel_rfl
theorem fo_163_1 : fieldOffB Tryz.prog 163 1 1 = true := by kernel_rfl
theorem fo_165_0 : fieldOffB Tryz.prog 165 0 0 = true := by kernel_rfl
theorem fo_165_1 : fieldOffB Tryz.prog 165 1 1 = true := by kernel_rfl
theorem fo_165_2 : fieldOffB Tryz.prog 165 2 2 = true := by kernel_rfl
theorem fo_165_3 : fieldOffB Tryz.prog 165 3 4 = true := by kernel_rfl
theorem fo_165_4 : fieldOffB Tryz.prog 165 4 5 = true := by kernel_rfl
theorem fo_175_0 : fieldOffB Tryz.prog 175 0 0 = true := by kernel_rfl
theorem fo_175_1 : fieldOffB Tryz.prog 175 1 1 = true := by kernel_rfl
theorem fo_175_2 : fieldOffB Tryz.prog 175 2 2 = true := by kernel_rfl
theorem fo_181_0 : fieldOffB Tryz.prog 181 0 0 = true := by kernel_rfl
theorem fo_181_1 : fieldOffB Tryz.prog 181 1 1 = true := by kernel_rfl
theorem fo_199_0 : fieldOffB Tryz.prog 199 0 0 = true := by kernel_rfl
theorem fo_199_1 : fieldOffB Tryz.prog 199 1 1 = true := by kernel_rfl
theorem fo_199_2 : fieldOffB Tryz.prog 199 2 2 = true := by kernel_rfl
theorem fo_45_1 : fieldOffB Tryz.prog 45 1 1 = true := by kernel_rfl
theorem fo_69_0 : fieldOffB Tryz.prog 69 0 0 = true := by kernel_rfl
theorem fo_69_1 : fieldOffB Tryz.prog 69 1 1 = true := by kernel_rfl
theorem fo_69_2 : fieldOffB Tryz.prog 69 2 2 = true := by kernel_rfl
theorem fo_69_3 : fieldOffB Tryz.prog 69 3 3 = true := by kernel_rfl
theorem fo_86_0 : fieldOffB Tryz.prog 86 0 0 = true := by kernel_rfl
theorem fo_86_1 : fieldOffB Tryz.prog 86 1 1 = true := by kernel_rfl
theorem go_101 : goB Tryz.prog 101 = true := by kernel_rfl
theorem go_102 : goB Tryz.prog 102 = true := by kernel_rfl
theorem go_103 : goB Tryz.prog 103 = true := by kernel_rfl
theorem go_106 : goB Tryz.prog 106 = true := by kernel_rfl
theorem go_109 : goB Tryz.prog 109 = true := by kernel_rfl
theorem go_110 : goB Tryz.prog 110 = true := by kernel_rfl
theorem go_111 : goB Tryz.prog 111 = true := by kernel_rfl
theorem go_112 : goB Tryz.prog 112 = true := by kernel_rfl
theorem go_113 : goB Tryz.prog 113 = true := by kernel_rfl
theorem go_114 : goB Tryz.prog 114 = true := by kernel_rfl
theorem go_115 : goB Tryz.prog 115 = true := by kernel_rfl
theorem go_116 : goB Tryz.prog 116 = true := by kernel_rfl
theorem go_117 : goB Tryz.prog 117 = true := by kernel_rfl
theorem go_12 : goB Tryz.prog 12 = true := by kernel_rfl
theorem go_120 : goB Tryz.prog 120 = true := by kernel_rfl
theorem go_122 : goB Tryz.prog 122 = true := by kernel_rfl
theorem go_123 : goB Tryz.prog 123 = true := by kernel_rfl
theorem go_124 : goB Tryz.prog 124 = true := by kernel_rfl
theorem go_125 : goB Tryz.prog 125 = true := by kernel_rfl
theorem go_126 : goB Tryz.prog 126 = true := by kernel_rfl
theorem go_127 : goB Tryz.prog 127 = true := by kernel_rfl
theorem go_128 : goB Tryz.prog 128 = true := by kernel_rfl
theorem go_129 : goB Tryz.prog 129 = true := by kernel_rfl
theorem go_142 : goB Tryz.prog 142 = true := by kernel_rfl
theorem go_143 : goB Tryz.prog 143 = true := by kernel_rfl
theorem go_144 : goB Tryz.prog 144 = true := by kernel_rfl
theorem go_145 : goB Tryz.prog 145 = true := by kernel_rfl
theorem go_146 : goB Tryz.prog 146 = true := by kernel_rfl
theorem go_147 : goB Tryz.prog 147 = true := by kernel_rfl
theorem go_150 : goB Tryz.prog 150 = true := by kernel_rfl
theorem go_163 : goB Tryz.prog 163 = true := by kernel_rfl
theorem go_164 : goB Tryz.prog 164 = true := by kernel_rfl
theorem go_166 : goB Tryz.prog 166 = true := by kernel_rfl
theorem go_19 : goB Tryz.prog 19 = true := by kernel_rfl
theorem go_33 : goB Tryz.prog 33 = true := by kernel_rfl
theorem go_35 : goB Tryz.prog 35 = true := by kernel_rfl
theorem go_36 : goB Tryz.prog 36 = true := by kernel_rfl
theorem go_37 : goB Tryz.prog 37 = true := by kernel_rfl
theorem go_38 : goB Tryz.prog 38 = true := by kernel_rfl
theorem go_47 : goB Tryz.prog 47 = true := by kernel_rfl
theorem go_52 : goB Tryz.prog 52 = true := by kernel_rfl
theorem go_54 : goB Tryz.prog 54 = true := by kernel_rfl
theorem go_60 : goB Tryz.prog 60 = true := by kernel_rfl
theorem go_61 : goB Tryz.prog 61 = true := by kernel_rfl
theorem go_62 : goB Tryz.prog 62 = true := by kernel_rfl
theorem go_69 : goB Tryz.prog 69 = true := by kernel_rfl
theorem go_77 : goB Tryz.prog 77 = true := by kernel_rfl
theorem go_80 : goB Tryz.prog 80 = true := by kernel_rfl
theorem go_81 : goB Tryz.prog 81 = true := by kernel_rfl
theorem go_82 : goB Tryz.prog 82 = true := by kernel_rfl
theorem go_88 : goB Tryz.prog 88 = true := by kernel_rfl
theorem go_94 : goB Tryz.prog 94 = true := by kernel_rfl
theorem go_95 : goB Tryz.prog 95 = true := by kernel_rfl
theorem go_96 : goB Tryz.prog 96 = true := by kernel_rfl
theorem go_97 : goB Tryz.prog 97 = true := by kernel_rfl
set_option maxRecDepth 100000 in
theorem inf_117 : ∃ i, Tryz.prog.info? 117 = some i ∧ i.size = 3 := ⟨_, rfl, by kernel_rfl⟩
set_option maxRecDepth 100000 in
theorem inf_126 : ∃ i, Tryz.prog.info? 126 = some i ∧ i.size = 2 := ⟨_, rfl, by kernel_rfl⟩
set_option maxRecDepth 100000 in
theorem inf_163 : ∃ i, Tryz.prog.info? 163 = some i ∧ i.size = 2 := ⟨_, rfl, by kernel_rfl⟩
set_option maxRecDepth 100000 in
theorem inf_165 : ∃ i, Tryz.prog.info? 165 = some i ∧ i.size = 6 := ⟨_, rfl, by kernel_rfl⟩
set_option maxRecDepth 100000 in
theorem inf_173 : ∃ i, Tryz.prog.info? 173 = some i ∧ i.size = 1 := ⟨_, rfl, by kernel_rfl⟩
set_option maxRecDepth 100000 in
theorem inf_181 : ∃ i, Tryz.prog.info? 181 = some i ∧ i.size = 2 := ⟨_, rfl, by kernel_rfl⟩
set_option maxRecDepth 100000 in
theorem inf_199 : ∃ i, Tryz.prog.info? 199 = some i ∧ i.size = 3 := ⟨_, rfl, by kernel_rfl⟩
set_option maxRecDepth 100000 in
theorem inf_27 : ∃ i, Tryz.prog.info? 27 = some i ∧ i.size = 1 := ⟨_, rfl, by kernel_rfl⟩
set_option maxRecDepth 100000 in
theorem inf_3 : ∃ i, Tryz.prog.info? 3 = some i ∧ i.size = 1 := ⟨_, rfl, by kernel_rfl⟩
set_option maxRecDepth 100000 in
theorem inf_4 : ∃ i, Tryz.prog.info? 4 = some i ∧ i.size = 1 := ⟨_, rfl, by kernel_rfl⟩
set_option maxRecDepth 100000 in
theorem inf_45 : ∃ i, Tryz.prog.info? 45 = some i ∧ i.size = 2 := ⟨_, rfl, by kernel_rfl⟩
set_option maxRecDepth 100000 in
theorem inf_66 : ∃ i, Tryz.prog.info? 66 = some i ∧ i.size = 1 := ⟨_, rfl, by kernel_rfl⟩
set_option maxRecDepth 100000 in
theorem inf_67 : ∃ i, Tryz.prog.info? 67 = some i ∧ i.size = 1 := ⟨_, rfl, by kernel_rfl⟩
set_option maxRecDepth 100000 in
theorem inf_69 : ∃ i, Tryz.prog.info? 69 = some i ∧ i.size = 4 := ⟨_, rfl, by kernel_rfl⟩
set_option maxRecDepth 100000 in
theorem inf_72 : ∃ i, Tryz.prog.info? 72 = some i ∧ i.size = 1 := ⟨_, rfl, by kernel_rfl⟩
set_option maxRecDepth 100000 in
theorem inf_86 : ∃ i, Tryz.prog.info? 86 = some i ∧ i.size = 2 := ⟨_, rfl, by kernel_rfl⟩
set_option maxRecDepth 100000 in
theorem inf_9 : ∃ i, Tryz.prog.info? 9 = some i ∧ i.size = 1 := ⟨_, rfl, by kernel_rfl⟩
theorem one_109 : oneB Tryz.prog 109 = true := by kernel_rfl
theorem one_143 : oneB Tryz.prog 143 = true := by kernel_rfl
theorem one_173 : oneB Tryz.prog 173 = true := by kernel_rfl
theorem one_176 : oneB Tryz.prog 176 = true := by kernel_rfl
theorem one_178 : oneB Tryz.prog 178 = true := by kernel_rfl
theorem one_23 : oneB Tryz.prog 23 = true := by kernel_rfl
theorem one_26 : oneB Tryz.prog 26 = true := by kernel_rfl
theorem one_27 : oneB Tryz.prog 27 = true := by kernel_rfl
theorem one_3 : oneB Tryz.prog 3 = true := by kernel_rfl
theorem one_4 : oneB Tryz.prog 4 = true := by kernel_rfl
theorem one_66 : oneB Tryz.prog 66 = true := by kernel_rfl
theorem one_67 : oneB Tryz.prog 67 = true := by kernel_rfl
theorem one_72 : oneB Tryz.prog 72 = true := by kernel_rfl
theorem one_9 : oneB Tryz.prog 9 = true := by kernel_rfl
theorem one_94 : oneB Tryz.prog 94 = true := by kernel_rfl
theorem places_117 : placesB Tryz.prog 117 = some [(0, 1), (1, 1), (2, 1)] := by kernel_rfl
theorem places_126 : placesB Tryz.prog 126 = some [(0, 1), (1, 1)] := by kernel_rfl
theorem places_163 : placesB Tryz.prog 163 = some [(0, 1), (1, 1)] := by kernel_rfl
theorem places_165 : placesB Tryz.prog 165 = some [(0, 1), (1, 1), (2, 2), (4, 1), (5, 1)] := by kernel_rfl
theorem places_175 : placesB Tryz.prog 175 = some [(0, 1), (1, 1), (2, 1)] := by kernel_rfl
theorem places_181 : placesB Tryz.prog 181 = some [(0, 1), (1, 1)] := by kernel_rfl
theorem places_199 : placesB Tryz.prog 199 = some [(0, 1), (1, 1), (2, 1)] := by kernel_rfl
theorem places_45 : placesB Tryz.prog 45 = some [(0, 1), (1, 1)] := by kernel_rfl
theorem sl_173 : SlT Tryz.prog 173 181 2 := SlT.of (by kernel_rfl)
theorem sl_176 : SlT Tryz.prog 176 86 2 := SlT.of (by kernel_rfl)
theorem sl_200 : SlT Tryz.prog 200 199 3 := SlT.of (by kernel_rfl)
theorem sl_23 : SlT Tryz.prog 23 66 1 := SlT.of (by kernel_rfl)
theorem sl_26 : SlT Tryz.prog 26 23 1 := SlT.of (by kernel_rfl)
theorem sl_32 : SlT Tryz.prog 32 4 1 := SlT.of (by kernel_rfl)
theorem sl_43 : SlT Tryz.prog 43 45 2 := SlT.of (by kernel_rfl)
theorem sl_66 : SlT Tryz.prog 66 69 4 := SlT.of (by kernel_rfl)
theorem sl_67 : SlT Tryz.prog 67 126 2 := SlT.of (by kernel_rfl)
theorem sl_72 : SlT Tryz.prog 72 3 1 := SlT.of (by kernel_rfl)
theorem zeroV_4 : zeroV Tryz.prog 4 = some (Value.bool false) := by kernel_rfl
theorem zero_117 : zeroB Tryz.prog 117 = some [(Value.bool false), (Value.string (bs ([]))), (Value.string (bs ([])))] := by kernel_rfl
theorem zero_126 : zeroB Tryz.prog 126 = some [(Value.int .i64 0), (Value.int .i64 0)] := by kernel_rfl
theorem zero_163 : zeroB Tryz.prog 163 = some [(Value.string (bs ([]))), (Value.int .i64 0)] := by kernel_rfl
theorem zero_165 : zeroB Tryz.prog 165 = some [(Value.string (bs ([]))), (Value.int .i64 0), (Value.string (bs ([]))), (Value.int .i64 0), (Value.int .i64 0), (Value.int .i64 0)] := by kernel_rfl
theorem zero_175 : zeroB Tryz.prog 175 = some [(Value.slice none 0 0), (Value.slice none 0 0), (Value.slice none 0 0)] := by kernel_rfl
theorem zero_181 : zeroB Tryz.prog 181 = some [(Value.int .u64 0), (Value.string (bs ([])))] := by kernel_rfl
theorem zero_199 : zeroB Tryz.prog 199 = some [(Value.string (bs ([]))), (Value.slice none 0 0), (Value.bool false)] := by kernel_rfl
theorem zero_23 : zeroB Tryz.prog 23 = some [(Value.slice none 0 0)] := by kernel_rfl
theorem zero_3 : zeroB Tryz.prog 3 = some [(Value.int .i64 0)] := by kernel_rfl
theorem zero_4 : zeroB Tryz.prog 4 = some [(Value.bool false)] := by kernel_rfl
theorem zero_45 : zeroB Tryz.prog 45 = some [(Value.string (bs ([]))), (Value.slice none 0 0)] := by kernel_rfl
theorem zero_66 : zeroB Tryz.prog 66 = some [(Value.slice none 0 0)] := by kernel_rfl
theorem zero_69 : zeroB Tryz.prog 69 = some [(Value.int .i64 0), (Value.int .i64 0), (Value.bool false), (Value.slice none 0 0)] := by kernel_rfl
theorem zero_72 : zeroB Tryz.prog 72 = some [(Value.slice none 0 0)] := by kernel_rfl
theorem zero_86 : zeroB Tryz.prog 86 = some [(Value.int .i64 0), (Value.int .i64 0)] := by kernel_rfl

def slices_Index_int_int_R (u : World) (m0 : Mem) (S : Segs) (r : Int) (a : Act) (w : World) : Prop :=
  Ok u m0 S w ∧ a.defers = [] ∧ RVs Tryz.prog a w [.t 4 (.int .i64 r)] ∧ InR .i64 r
set_option maxHeartbeats 4000000 in
set_option maxRecDepth 100000 in
theorem slices_Index_int_int_w {u : World} {m0 : Mem} {S : Segs} {w : World} (N : Nat) (vs_0 : Value) (s_0 : List (Int)) (hs_0 : (pL 1 (pI .i64)) m0 [vs_0] s_0) (v_1 : Int) (rv_1 : InR .i64 v_1) {r : Int} (hF : slices_Index_int_int N s_0 v_1 = some r) (hG : Glob u) (ok : Ok u m0 S w) :
    Calls Tryz.prog 164 [vs_0, Value.int .i64 v_1].toArray w fun e w' => (e = .returned (.int .i64 r) ∧ Ok u m0 S w') ∧ InR .i64 r := by
  have hb0 := ok.base
  have le_m0 := Mem.le.refl m0
  unfold slices_Index_int_int at hF
  have fin : ∀ a w, slices_Index_int_int_R u m0 S r a w → bodyPost Tryz.prog Tryz.f164 (fun e w' => (e = .returned (.int .i64 r) ∧ Ok u m0 S w') ∧ InR .i64 r) .ret a w := by
    intro a w h
    obtain ⟨ok, hd, hrv, h0⟩ := h
    exact c_ret2 [.t 4 (.int .i64 r)] hd rfl hrv ⟨⟨rfl, ok⟩, h0⟩
  refine enter Tryz.func164 rfl rfl rfl fun a E => sg <| lv E ok (y_assign rfl) fun a E => wn <| wp_seq <| wp_seq ?_
  refine c_region <| lv E ok (y_move rfl) fun a E => lv E ok (y_lenL sl_72 hs_0 rfl) fun a E => lv E ok (y_move rfl) fun a E => wn <| wp_block ?_
  obtain ⟨o2, hL, hF⟩ := bnd hF
  refine c_loop _ (fun (s : Int) a w => Ok u m0 (S) w ∧ Env 19 a [(0, vs_0), (1, (Value.int .i64 v_1)), (7, (Value.int .i64 (s_0.length : Int))), (8, (Value.int .i64 s))] ∧ InR .i64 s) (fun (b : (Unit ⊕ Int)) e a w => (Sum.elim (fun b18 => e = (.exit 0) ∧ Ok u m0 (S) w ∧ Env 19 a []) (fun b19 => e = .ret ∧ slices_Index_int_int_R u m0 S b19 a w)) b) ?_ ?_ N _ a w hL ⟨ok, E.keep [0, 1, 7, 8], (show InR .i64 (0) by decide)⟩
  rotate_left
  · intro e a w _ hO
    rcases o2 with o2 | o2
    rotate_left
    · replace hF := elim_r hF
      obtain ⟨rfl, hret⟩ := hO
      refine b_ret <| t_ret ?_
      obtain rfl := sj hF
      exact fin _ _ hret
    replace hF := elim_l hF
    obtain ⟨rfl, ok, E⟩ := hO
    refine b_hit <| t_norm <| sg <| lv E ok (y_assign rfl) fun a E => wn <| wp_ret ?_
    have hret : slices_Index_int_int_R u m0 S (-1) a w := ⟨ok, E.d, ⟨rv_t E rfl, trivial⟩, (show InR .i64 (-1) by decide)⟩
    obtain rfl := sj hF
    exact fin _ _ hret
  rintro x_4 a w r ⟨ok, E, r5⟩ hF
  replace hF : slices_Index_int_int_b1 N s_0 v_1 x_4 = some r := hF
  unfold slices_Index_int_int_b1 at hF
  refine sg <| lv E ok (y_lss rfl rfl) fun a E => wn <| wp_seq <| c_if E rfl (fun hc6 => ?_) (fun hc6 => ?_)
  rotate_left
  · replace hF := cond_f hc6 hF
    refine wp_exit <| t_exit ?_
    obtain rfl := sj hF
    exact step_o (by nofun) (sl ⟨rfl, ⟨ok, E.keep []⟩⟩)
  replace hF := cond_t hc6 hF
  refine wp_skip <| t_norm <| wp_seq <| wp_block <| sg <| lv E ok (y_move rfl) fun a E => lv E ok (y_assign rfl) fun a E => ?_
  refine wn <| sg <| lv E ok (y_move rfl) fun a E => lv E ok (y_move rfl) fun a E => lv E ok (y_move rfl) fun a E => ?_
  obtain ⟨x7, e8, hF⟩ := bnd hF
  obtain ⟨b9, o10, es11, hl12, rr13, at14, yy15⟩ := idxAt sl_72 hs_0 e8 (P := Tryz.prog) (X := .tmp 12) (I := .tmp 13) (kd := .i64) (ev_of E rfl) (ev_of E rfl)
  obtain ⟨rfl, r16⟩ := rr13
  refine lv E ok (yy15 _ _) fun a E => lv E ok (y_load one_3 rfl (Holds.ro at14)) fun a E => lv E ok (y_eql rfl rfl) fun a E => wn <| c_if E rfl (fun hc17 => ?_) (fun hc17 => ?_)
  rotate_left
  · replace hF := cond_f hc17 hF
    refine wp_skip <| b_norm <| t_norm <| c_region <| lv E ok (y_add rfl rfl (InR.inc r5 (pL_InR hs_0) hc6)) fun a E => lv E ok (y_move rfl) fun a E => wpList_nil ?_
    obtain rfl := sj hF
    exact step_n ⟨ok, E.keep [0, 1, 7, 8], (InR.inc r5 (pL_InR hs_0) hc6)⟩
  replace hF := cond_t hc17 hF
  refine sg <| lv E ok (y_move rfl) fun a E => lv E ok (y_assign rfl) fun a E => wn <| wp_ret <| b_ret ?_
  refine t_ret ?_
  have hret : slices_Index_int_int_R u m0 S x_4 a w := ⟨ok, E.d, ⟨rv_t E rfl, trivial⟩, r5⟩
  obtain rfl := sj hF
  exact step_o (by nofun) (sr ⟨rfl, hret⟩)

def slices_Contains_int_int_R (u : World) (m0 : Mem) (S : Segs) (r : Bool) (a : Act) (w : World) : Prop :=
  Ok u m0 S w ∧ a.defers = [] ∧ RVs Tryz.prog a w [.t 4 (.bool r)]
set_option maxHeartbeats 4000000 in
set_option maxRecDepth 100000 in
theorem slices_Contains_int_int_w {u : World} {m0 : Mem} {S : Segs} {w : World} (N : Nat) (vs_0 : Value) (s_0 : List (Int)) (hs_0 : (pL 1 (pI .i64)) m0 [vs_0] s_0) (v_1 : Int) (rv_1 : InR .i64 v_1) {r : Bool} (hF : slices_Contains_int_int N s_0 v_1 = some r) (hG : Glob u) (ok : Ok u m0 S w) :
    Calls Tryz.prog 147 [vs_0, Value.int .i64 v_1].toArray w fun e w' => (e = .returned (.bool r) ∧ Ok u m0 S w') := by
  have hb0 := ok.base
  have le_m0 := Mem.le.refl m0
  unfold slices_Contains_int_int at hF
  have fin : ∀ a w, slices_Contains_int_int_R u m0 S r a w → bodyPost Tryz.prog Tryz.f147 (fun e w' => (e = .returned (.bool r) ∧ Ok u m0 S w')) .ret a w := by
    intro a w h
    obtain ⟨ok, hd, hrv⟩ := h
    exact c_ret2 [.t 4 (.bool r)] hd rfl hrv ⟨rfl, ok⟩
  refine enter Tryz.func147 rfl rfl rfl fun a E => sg <| lv E ok (y_assign rfl) fun a E => wn <| sg ?_
  refine lv E ok (y_move rfl) fun a E => lv E ok (y_move rfl) fun a E => ?_
  obtain ⟨r1, e2, hF⟩ := bnd hF
  refine l_call E go_164 rfl (slices_Index_int_int_w N _ s_0 hs_0 v_1 rv_1 e2 hG ok) rfl rfl ?_
  rintro _ w ⟨⟨rfl, ok⟩, r3⟩
  refine ⟨_, rfl, fun a E => ?_⟩
  refine lv E ok (y_geq rfl rfl) fun a E => lv E ok (y_assign rfl) fun a E => wn <| wp_ret ?_
  have hret : slices_Contains_int_int_R u m0 S (decide (r1 ≥ 0)) a w := ⟨ok, E.d, ⟨rv_t E rfl, trivial⟩⟩
  obtain rfl := sj hF
  exact fin _ _ hret

def condition_permitted_R (u : World) (m0 : Mem) (S : Segs) (r : Bool) (a : Act) (w : World) : Prop :=
  Ok u m0 S w ∧ a.defers = [] ∧ RVs Tryz.prog a w [.t 4 (.bool r)]
set_option maxHeartbeats 4000000 in
set_option maxRecDepth 100000 in
theorem condition_permitted_w {u : World} {m0 : Mem} {S : Segs} {w : World} (N : Nat) (operand_0 : Int) (roperand_0 : InR .i64 operand_0) (mod_1 : Int) (rmod_1 : InR .i64 mod_1) {r : Bool} (hF : condition_permitted N operand_0 mod_1 = some r) (hG : Glob u) (ok : Ok u m0 S w) :
    Calls Tryz.prog 116 [Value.int .i64 operand_0, Value.int .i64 mod_1].toArray w fun e w' => (e = .returned (.bool r) ∧ Ok u m0 S w') := by
  have hb0 := ok.base
  have le_m0 := Mem.le.refl m0
  unfold condition_permitted at hF
  have fin : ∀ a w, condition_permitted_R u m0 S r a w → bodyPost Tryz.prog Tryz.f116 (fun e w' => (e = .returned (.bool r) ∧ Ok u m0 S w')) .ret a w := by
    intro a w h
    obtain ⟨ok, hd, hrv⟩ := h
    exact c_ret2 [.t 4 (.bool r)] hd rfl hrv ⟨rfl, ok⟩
  refine enter Tryz.func116 rfl rfl rfl fun a E => sg <| lv E ok (y_assign rfl) fun a E => wn <| wp_seq <| wp_seq ?_
  refine c_region <| lv E ok (y_move rfl) fun a E => wn <| wp_block <| wp_seq <| sg ?_
  refine lv E ok (y_eql rfl rfl) fun a E => lv E ok (y_assign rfl) fun a E => wn ?_
  obtain ⟨o1, hJ, hF⟩ := bnd hF
  refine c_mono (Q' := fun e a w => e = .normal ∧ Ok u m0 (S) w ∧ Env 21 a [(1, (Value.int .i64 mod_1)), (5, (Value.int .i64 operand_0)), (6, (Value.bool o1))]) ?_ ?_
  · replace hF := hJ
    clear hJ
    refine c_if E rfl (fun hc2 => ?_) (fun hc2 => ?_)
    · replace hF := cond_t hc2 hF
      refine wp_skip ?_
      obtain rfl := sj hF
      exact ⟨rfl, ⟨ok, E.keep [1, 5, 6]⟩⟩
    replace hF := cond_f hc2 hF
    refine c_region <| lv E ok (y_eql rfl rfl) fun a E => lv E ok (y_assign rfl) fun a E => wpList_nil ?_
    obtain rfl := sj hF
    exact ⟨rfl, ⟨ok, E.keep [1, 5, 6]⟩⟩
  clear hJ
  intro e a w hO
  obtain ⟨rfl, ok, E⟩ := hO
  refine t_norm <| c_if E rfl (fun hc3 => ?_) (fun hc3 => ?_)
  · replace hF := cond_t hc3 hF
    refine sg <| l_slit (R := (pI .i64)) (xo := [.const (Value.int .i64 2), .const (Value.int .i64 3), .const (Value.int .i64 4), .const (Value.int .i64 5), .const (Value.int .i64 6), .const (Value.int .i64 10), .const (Value.int .i64 20), .const (Value.int .i64 25), .const (Value.int .i64 50), .const (Value.int .i64 100)]) (xs := ([2, 3, 4, 5, 6, 10, 20, 25, 50, 100] : List (Int))) E ok sl_72 zero_3 rfl ⟨⟨_, rfl, rfl, (pI_mk (show InR .i64 (2) by decide))⟩, ⟨_, rfl, rfl, (pI_mk (show InR .i64 (3) by decide))⟩, ⟨_, rfl, rfl, (pI_mk (show InR .i64 (4) by decide))⟩, ⟨_, rfl, rfl, (pI_mk (show InR .i64 (5) by decide))⟩, ⟨_, rfl, rfl, (pI_mk (show InR .i64 (6) by decide))⟩, ⟨_, rfl, rfl, (pI_mk (show InR .i64 (10) by decide))⟩, ⟨_, rfl, rfl, (pI_mk (show InR .i64 (20) by decide))⟩, ⟨_, rfl, rfl, (pI_mk (show InR .i64 (25) by decide))⟩, ⟨_, rfl, rfl, (pI_mk (show InR .i64 (50) by decide))⟩, ⟨_, rfl, rfl, (pI_mk (show InR .i64 (100) by decide))⟩, trivial⟩ rfl rfl rfl rfl fun c4 M5 a w E ok h6 => lv E ok (y_move rfl) fun a E => ?_
    obtain ⟨r12, e13, hF⟩ := bnd hF
    obtain ⟨m7, hle9, ok8, hfz10⟩ := (ok.frs 0 rfl).freeze
    have h11 := ORow.froz (mI .i64) h6 hle9 hfz10 (by decide)
    refine l_call E go_147 rfl (slices_Contains_int_int_w N _ ([2, 3, 4, 5, 6, 10, 20, 25, 50, 100] : List (Int)) h11 mod_1 rmod_1 e13 hG ok8) rfl rfl ?_
    rintro _ w ⟨rfl, okz⟩
    replace ok := (Ok.thawAt 0 rfl ok hle9 hfz10 okz)
    refine ⟨_, rfl, fun a E => ?_⟩
    refine lv E ok (y_assign rfl) fun a E => wn <| wp_ret <| b_ret <| t_ret ?_
    have hret : condition_permitted_R u m0 S r12 a w := ⟨ok.drop, E.d, ⟨rv_t E rfl, trivial⟩⟩
    obtain rfl := sj hF
    exact fin _ _ hret
  replace hF := cond_f hc3 hF
  refine wp_seq <| sg <| lv E ok (y_eql rfl rfl) fun a E => lv E ok (y_assign rfl) fun a E => wn ?_
  obtain ⟨o14, hJ, hF⟩ := bnd hF
  refine c_mono (Q' := fun e a w => e = .normal ∧ Ok u m0 (S) w ∧ Env 21 a [(1, (Value.int .i64 mod_1)), (12, (Value.bool o14))]) ?_ ?_
  · replace hF := hJ
    clear hJ
    refine c_if E rfl (fun hc15 => ?_) (fun hc15 => ?_)
    · replace hF := cond_t hc15 hF
      refine wp_skip ?_
      obtain rfl := sj hF
      exact ⟨rfl, ⟨ok, E.keep [1, 12]⟩⟩
    replace hF := cond_f hc15 hF
    refine c_region <| lv E ok (y_eql rfl rfl) fun a E => lv E ok (y_assign rfl) fun a E => wpList_nil ?_
    obtain rfl := sj hF
    exact ⟨rfl, ⟨ok, E.keep [1, 12]⟩⟩
  clear hJ
  intro e a w hO
  obtain ⟨rfl, ok, E⟩ := hO
  refine t_norm <| c_if E rfl (fun hc16 => ?_) (fun hc16 => ?_)
  rotate_left
  · replace hF := cond_f hc16 hF
    refine wp_skip <| b_norm <| t_norm <| sg <| lv E ok (y_assign rfl) fun a E => wn ?_
    refine wp_ret ?_
    have hret : condition_permitted_R u m0 S false a w := ⟨ok, E.d, ⟨rv_t E rfl, trivial⟩⟩
    obtain rfl := sj hF
    exact fin _ _ hret
  replace hF := cond_t hc16 hF
  refine sg <| lv E ok (y_move rfl) fun a E => lv E ok (y_eql rfl rfl) fun a E => lv E ok (y_move rfl) fun a E => bsplit (mod_1 == 10) (fun hc17 => ?_) (fun hc17 => ?_)
  · replace hF := cond_t hc17 hF
    replace E := E.upd 17 hc17 rfl
    refine ls E fun a E => ls E fun a E => lv E ok (y_pickT rfl rfl) fun a E => lv E ok (y_assign rfl) fun a E => wn <| wp_ret <| b_ret ?_
    refine t_ret ?_
    have hret : condition_permitted_R u m0 S true a w := ⟨ok, E.d, ⟨rv_t E rfl, trivial⟩⟩
    obtain rfl := sj hF
    exact fin _ _ hret
  replace hF := cond_f hc17 hF
  replace E := E.upd 17 hc17 rfl
  refine lv E ok (y_move rfl) fun a E => lv E ok (y_eql rfl rfl) fun a E => lv E ok (y_pickF rfl rfl) fun a E => lv E ok (y_assign rfl) fun a E => wn <| wp_ret <| b_ret ?_
  refine t_ret ?_
  have hret : condition_permitted_R u m0 S (mod_1 == 100) a w := ⟨ok, E.d, ⟨rv_t E rfl, trivial⟩⟩
  obtain rfl := sj hF
  exact fin _ _ hret

def condition_greatest_R (u : World) (m0 : Mem) (S : Segs) (r : Int) (a : Act) (w : World) : Prop :=
  Ok u m0 S w ∧ a.defers = [] ∧ RVs Tryz.prog a w [.t 2 (.int .i64 r)] ∧ InR .i64 r
set_option maxHeartbeats 4000000 in
set_option maxRecDepth 100000 in
theorem condition_greatest_w {u : World} {m0 : Mem} {S : Segs} {w : World} (N : Nat) (operand_0 : Int) (roperand_0 : InR .i64 operand_0) {r : Int} (hF : condition_greatest N operand_0 = some r) (hG : Glob u) (ok : Ok u m0 S w) :
    Calls Tryz.prog 117 [Value.int .i64 operand_0].toArray w fun e w' => (e = .returned (.int .i64 r) ∧ Ok u m0 S w') ∧ InR .i64 r := by
  have hb0 := ok.base
  have le_m0 := Mem.le.refl m0
  unfold condition_greatest at hF
  have fin : ∀ a w, condition_greatest_R u m0 S r a w → bodyPost Tryz.prog Tryz.f117 (fun e w' => (e = .returned (.int .i64 r) ∧ Ok u m0 S w') ∧ InR .i64 r) .ret a w := by
    intro a w h
    obtain ⟨ok, hd, hrv, h0⟩ := h
    exact c_ret2 [.t 2 (.int .i64 r)] hd rfl hrv ⟨⟨rfl, ok⟩, h0⟩
  refine enter Tryz.func117 rfl rfl rfl fun a E => sg <| lv E ok (y_assign rfl) fun a E => wn <| wp_seq <| wp_seq ?_
  refine c_region <| lv E ok (y_move rfl) fun a E => lv E ok (y_eql rfl rfl) fun a E => lv E ok (y_move rfl) fun a E => bsplit (operand_0 == 3) (fun hc1 => ?_) (fun hc1 => ?_)
  · replace hF := cond_t hc1 hF
    replace E := E.upd 5 hc1 rfl
    refine ls E fun a E => ls E fun a E => lv E ok (y_pickT rfl rfl) fun a E => wn <| c_if E rfl (fun _ => ?_) (fun h => by cases h)
    refine sg <| lv E ok (y_assign rfl) fun a E => wn <| wp_ret <| t_ret ?_
    have hret : condition_greatest_R u m0 S 6 a w := ⟨ok, E.d, ⟨rv_t E rfl, trivial⟩, (show InR .i64 (6) by decide)⟩
    obtain rfl := sj hF
    exact fin _ _ hret
  replace hF := cond_f hc1 hF
  replace E := E.upd 5 hc1 rfl
  refine lv E ok (y_move rfl) fun a E => lv E ok (y_eql rfl rfl) fun a E => lv E ok (y_pickF rfl rfl) fun a E => wn <| c_if E rfl (fun hc2 => ?_) (fun hc2 => ?_)
  · replace hF := cond_t hc2 hF
    refine sg <| lv E ok (y_assign rfl) fun a E => wn <| wp_ret <| t_ret ?_
    have hret : condition_greatest_R u m0 S 6 a w := ⟨ok, E.d, ⟨rv_t E rfl, trivial⟩, (show InR .i64 (6) by decide)⟩
    obtain rfl := sj hF
    exact fin _ _ hret
  replace hF := cond_f hc2 hF
  refine wp_skip <| t_norm <| sg <| lv E ok (y_assign rfl) fun a E => wn <| wp_ret ?_
  have hret : condition_greatest_R u m0 S 100 a w := ⟨ok, E.d, ⟨rv_t E rfl, trivial⟩, (show InR .i64 (100) by decide)⟩
  obtain rfl := sj hF
  exact fin _ _ hret

def condition_proper_R (u : World) (m0 : Mem) (S : Segs) (r : Bool) (a : Act) (w : World) : Prop :=
  Ok u m0 S w ∧ a.defers = [] ∧ RVs Tryz.prog a w [.t 2 (.bool r)]
set_option maxHeartbeats 4000000 in
set_option maxRecDepth 100000 in
theorem condition_proper_w {u : World} {m0 : Mem} {S : Segs} {w : World} (N : Nat) (vr_0 : List Value) (r_0 : Relation) (hr_0 : pRelation m0 vr_0 r_0) {r : Bool} (hF : condition_proper N r_0 = some r) (hG : Glob u) (ok : Ok u m0 S w) :
    Calls Tryz.prog 82 [.agg vr_0.toArray].toArray w fun e w' => (e = .returned (.bool r) ∧ Ok u m0 S w') := by
  obtain ⟨c3, rfl, r1, r2, h4⟩ := hr_0
  have hb0 := ok.base
  have le_m0 := Mem.le.refl m0
  unfold condition_proper at hF
  have fin : ∀ a w, condition_proper_R u m0 S r a w → bodyPost Tryz.prog Tryz.f82 (fun e w' => (e = .returned (.bool r) ∧ Ok u m0 S w')) .ret a w := by
    intro a w h
    obtain ⟨ok, hd, hrv⟩ := h
    exact c_ret2 [.t 2 (.bool r)] hd rfl hrv ⟨rfl, ok⟩
  refine enter Tryz.func82 rfl rfl rfl fun a E => sg <| l_box E ok rfl rfl rfl fun b5 a w E ok => lv E ok (y_assign rfl) fun a E => wn <| wp_seq ?_
  refine sg <| lv E ok (y_fieldAddr fo_69_0 rfl) fun a E => lv E ok (y_load one_3 rfl (Holds.own 0 rfl rfl)) fun a E => lv E ok (y_lss rfl rfl) fun a E => lv E ok (y_move rfl) fun a E => bsplit (decide (r_0.Operand < 1)) (fun hc6 => ?_) (fun hc6 => ?_)
  · replace hF := cond_t hc6 hF
    replace E := E.upd 8 hc6 rfl
    refine ls E fun a E => ls E fun a E => ls E fun a E => lv E ok (y_pickT rfl rfl) fun a E => lv E ok (y_move rfl) fun a E => ls E fun a E => ls E fun a E => ls E fun a E => ?_
    refine ls E fun a E => ls E fun a E => ls E fun a E => ls E fun a E => ls E fun a E => ls E fun a E => ls E fun a E => ls E fun a E => ?_
    refine lv E ok (y_pickT rfl rfl) fun a E => lv E ok (y_move rfl) fun a E => ls E fun a E => ls E fun a E => ls E fun a E => ls E fun a E => lv E ok (y_pickT rfl rfl) fun a E => lv E ok (y_move rfl) fun a E => ?_
    refine ls E fun a E => ls E fun a E => ls E fun a E => ls E fun a E => lv E ok (y_pickT rfl rfl) fun a E => wn <| c_if E rfl (fun _ => ?_) (fun h => by cases h)
    refine sg <| lv E ok (y_assign rfl) fun a E => wn <| wp_ret <| t_ret ?_
    have hret : condition_proper_R u m0 S false a w := ⟨ok.drop, E.d, ⟨rv_t E rfl, trivial⟩⟩
    obtain rfl := sj hF
    exact fin _ _ hret
  replace hF := cond_f hc6 hF
  replace E := E.upd 8 hc6 rfl
  refine lv E ok (y_fieldAddr fo_69_0 rfl) fun a E => lv E ok (y_load one_3 rfl (Holds.own 0 rfl rfl)) fun a E => lv E ok (y_gtr rfl rfl) fun a E => lv E ok (y_pickF rfl rfl) fun a E => lv E ok (y_move rfl) fun a E => bsplit (decide (r_0.Operand > 6)) (fun hc7 => ?_) (fun hc7 => ?_)
  · replace hF := cond_t hc7 hF
    replace E := E.upd 13 hc7 rfl
    refine ls E fun a E => ls E fun a E => ls E fun a E => ls E fun a E => ls E fun a E => ls E fun a E => ls E fun a E => ls E fun a E => ?_
    refine ls E fun a E => ls E fun a E => ls E fun a E => lv E ok (y_pickT rfl rfl) fun a E => lv E ok (y_move rfl) fun a E => ls E fun a E => ls E fun a E => ls E fun a E => ?_
    refine ls E fun a E => lv E ok (y_pickT rfl rfl) fun a E => lv E ok (y_move rfl) fun a E => ls E fun a E => ls E fun a E => ls E fun a E => ls E fun a E => lv E ok (y_pickT rfl rfl) fun a E => ?_
    refine wn <| c_if E rfl (fun _ => ?_) (fun h => by cases h)
    refine sg <| lv E ok (y_assign rfl) fun a E => wn <| wp_ret <| t_ret ?_
    have hret : condition_proper_R u m0 S false a w := ⟨ok.drop, E.d, ⟨rv_t E rfl, trivial⟩⟩
    obtain rfl := sj hF
    exact fin _ _ hret
  replace hF := cond_f hc7 hF
  replace E := E.upd 13 hc7 rfl
  refine lv E ok (y_fieldAddr fo_69_1 rfl) fun a E => lv E ok (y_load one_3 rfl (Holds.own 0 rfl rfl)) fun a E => lv E ok (y_neq rfl rfl) fun a E => lv E ok (y_move rfl) fun a E => bsplit (r_0.Mod != 0) (fun hc8 => ?_) (fun hc8 => ?_)
  rotate_left
  · as_aux_lemma =>
      replace hF := cond_f hc8 hF
      replace E := E.upd 17 hc8 rfl
      refine ls E fun a E => ls E fun a E => ls E fun a E => ls E fun a E => ls E fun a E => ls E fun a E => lv E ok (y_pickF rfl rfl) fun a E => lv E ok (y_pickF rfl rfl) fun a E => ?_
      refine lv E ok (y_move rfl) fun a E => lv E ok (y_fieldAddr fo_69_3 rfl) fun a E => lv E ok (y_load one_67 rfl (Holds.own 0 rfl rfl)) fun a E => lv E ok (y_lenL sl_67 h4 rfl) fun a E => lv E ok (y_lss rfl rfl) fun a E => lv E ok (y_pickF rfl rfl) fun a E => lv E ok (y_move rfl) fun a E => bsplit (decide ((r_0.Spans.length : Int) < 1)) (fun hc40 => ?_) (fun hc40 => ?_)
      · replace hF := cond_t hc40 hF
        replace E := E.upd 32 hc40 rfl
        refine ls E fun a E => ls E fun a E => ls E fun a E => ls E fun a E => lv E ok (y_pickT rfl rfl) fun a E => wn <| c_if E rfl (fun _ => ?_) (fun h => by cases h)
        refine sg <| lv E ok (y_assign rfl) fun a E => wn <| wp_ret <| t_ret ?_
        have hret : condition_proper_R u m0 S false a w := ⟨ok.drop, E.d, ⟨rv_t E rfl, trivial⟩⟩
        obtain rfl := sj hF
        exact fin _ _ hret
      replace hF := cond_f hc40 hF
      replace E := E.upd 32 hc40 rfl
      refine lv E ok (y_fieldAddr fo_69_3 rfl) fun a E => lv E ok (y_load one_67 rfl (Holds.own 0 rfl rfl)) fun a E => lv E ok (y_lenL sl_67 h4 rfl) fun a E => lv E ok (y_gtr rfl rfl) fun a E => lv E ok (y_pickF rfl rfl) fun a E => wn <| c_if E rfl (fun hc41 => ?_) (fun hc41 => ?_)
      · replace hF := cond_t hc41 hF
        refine sg <| lv E ok (y_assign rfl) fun a E => wn <| wp_ret <| t_ret ?_
        have hret : condition_proper_R u m0 S false a w := ⟨ok.drop, E.d, ⟨rv_t E rfl, trivial⟩⟩
        obtain rfl := sj hF
        exact fin _ _ hret
      replace hF := cond_f hc41 hF
      refine wp_skip <| t_norm <| wp_seq <| sg <| lv E ok (y_fieldAddr fo_69_3 rfl) fun a E => lv E ok (y_load one_67 rfl (Holds.own 0 rfl rfl)) fun a E => lv E ok (y_lenL sl_67 h4 rfl) fun a E => ?_
      refine lv E ok (y_move rfl) fun a E => wn <| wp_block ?_
      obtain ⟨o43, hL, hF⟩ := bnd hF
      refine c_loop _ (fun (s : Int) a w => Ok u m0 ([(b5, Obj.cells [(Value.int .i64 r_0.Operand), (Value.int .i64 r_0.Mod), (Value.bool r_0.Not), c3].toArray 69 (0, 0))] :: S) w ∧ Env 64 a [(1, (Value.pointer (some ⟨b5, 0, none⟩))), (39, c3), (40, (Value.int .i64 (r_0.Spans.length : Int))), (41, (Value.int .i64 s))] ∧ InR .i64 s) (fun (b : (Unit ⊕ Bool)) e a w => (Sum.elim (fun b66 => e = (.exit 0) ∧ Ok u m0 ([(b5, Obj.cells [(Value.int .i64 r_0.Operand), (Value.int .i64 r_0.Mod), (Value.bool r_0.Not), c3].toArray 69 (0, 0))] :: S) w ∧ Env 64 a []) (fun b67 => e = .ret ∧ condition_proper_R u m0 S b67 a w)) b) ?_ ?_ N _ a w hL ⟨ok, E.keep [1, 39, 40, 41], (show InR .i64 (0) by decide)⟩
      rotate_left
      · intro e a w _ hO
        rcases o43 with o43 | o43
        rotate_left
        · replace hF := elim_r hF
          obtain ⟨rfl, hret⟩ := hO
          refine b_ret <| t_ret ?_
          obtain rfl := sj hF
          exact fin _ _ hret
        replace hF := elim_l hF
        obtain ⟨rfl, ok, E⟩ := hO
        refine b_hit <| t_norm <| sg <| lv E ok (y_assign rfl) fun a E => wn <| wp_ret ?_
        have hret : condition_proper_R u m0 S true a w := ⟨ok.drop, E.d, ⟨rv_t E rfl, trivial⟩⟩
        obtain rfl := sj hF
        exact fin _ _ hret
      rintro x_45 a w r ⟨ok, E, r46⟩ hF
      replace hF : condition_proper_b2 N r_0 x_45 = some r := hF
      unfold condition_proper_b2 at hF
      refine sg <| lv E ok (y_lss rfl rfl) fun a E => wn <| wp_seq <| c_if E rfl (fun hc47 => ?_) (fun hc47 => ?_)
      rotate_left
      · replace hF := cond_f hc47 hF
        refine wp_exit <| t_exit ?_
        obtain rfl := sj hF
        exact step_o (by nofun) (sl ⟨rfl, ⟨ok, E.keep []⟩⟩)
      replace hF := cond_t hc47 hF
      refine wp_skip <| t_norm <| wp_seq <| wp_block <| sg ?_
      obtain ⟨x48, e49, hF⟩ := bnd hF
      obtain ⟨b50, o51, es52, hl53, rr54, at55, yy56⟩ := idxAt sl_67 h4 e49 (P := Tryz.prog) (X := .tmp 39) (I := .tmp 41) (kd := .i64) (ev_of E rfl) (ev_of E rfl)
      obtain ⟨rfl, r57, r58⟩ := rr54
      refine lv E ok (yy56 _ _) fun a E => lv E ok (y_loadAgg (cs := [(Value.int .i64 x48.From), (Value.int .i64 x48.To)]) agg_126 rfl rfl (Holds.ro at55)) fun a E => l_alloc E ok zero_126 rfl rfl fun b59 a w E ok => l_storeB E ok 0 rfl rfl rfl inf_126 rfl rfl ⟨rfl, rfl, trivial⟩ rfl rfl fun w ok => wn <| wp_seq <| c_draw (by kernel_rfl) (by kernel_rfl) ok ?_
      refine qv E (y_fieldAddr fo_126_0 rfl) fun a E => qv E (y_load one_3 rfl (Holds.own 0 rfl rfl)) fun a E => qv E (y_lss rfl rfl) fun a E => qv E (y_move rfl) fun a E => bsplit (decide (x48.From < 0)) (fun hc60 => ?_) (fun hc60 => ?_)
      · replace hF := cond_t hc60 hF
        replace E := E.upd 48 hc60 rfl
        refine qs E fun a E => qs E fun a E => qs E fun a E => qs E fun a E => qs E fun a E => qv E (y_pickT rfl rfl) fun a E => qv E (y_move rfl) fun a E => qs E fun a E => ?_
        refine qs E fun a E => qs E fun a E => qs E fun a E => qs E fun a E => qs E fun a E => qv E (y_pickT rfl rfl) fun a E => wpQuiet_nil ?_
        intro w ok
        refine t_norm <| c_if E rfl (fun _ => ?_) (fun h => by cases h)
        refine sg <| lv E ok (y_assign rfl) fun a E => wn <| wp_ret <| b_ret <| t_ret ?_
        have hret : condition_proper_R u m0 S false a w := ⟨ok.drop.drop, E.d, ⟨rv_t E rfl, trivial⟩⟩
        obtain rfl := sj hF
        exact step_o (by nofun) (sr ⟨rfl, hret⟩)
      replace hF := cond_f hc60 hF
      replace E := E.upd 48 hc60 rfl
      refine qv E (y_fieldAddr fo_126_0 rfl) fun a E => qv E (y_load one_3 rfl (Holds.own 0 rfl rfl)) fun a E => qv E (y_fieldAddr fo_126_1 rfl) fun a E => qv E (y_load one_3 rfl (Holds.own 0 rfl rfl)) fun a E => qv E (y_gtr rfl rfl) fun a E => qv E (y_pickF rfl rfl) fun a E => qv E (y_move rfl) fun a E => bsplit (decide (x48.From > x48.To)) (fun hc61 => ?_) (fun hc61 => ?_)
      · replace hF := cond_t hc61 hF
        replace E := E.upd 55 hc61 rfl
        refine qs E fun a E => qs E fun a E => qs E fun a E => qs E fun a E => qs E fun a E => qs E fun a E => qv E (y_pickT rfl rfl) fun a E => wpQuiet_nil ?_
        intro w ok
        refine t_norm <| c_if E rfl (fun _ => ?_) (fun h => by cases h)
        refine sg <| lv E ok (y_assign rfl) fun a E => wn <| wp_ret <| b_ret <| t_ret ?_
        have hret : condition_proper_R u m0 S false a w := ⟨ok.drop.drop, E.d, ⟨rv_t E rfl, trivial⟩⟩
        obtain rfl := sj hF
        exact step_o (by nofun) (sr ⟨rfl, hret⟩)
      replace hF := cond_f hc61 hF
      replace E := E.upd 55 hc61 rfl
      refine qv E (y_fieldAddr fo_126_1 rfl) fun a E => qv E (y_load one_3 rfl (Holds.own 0 rfl rfl)) fun a E => qv E (y_fieldAddr fo_69_0 rfl) fun a E => qv E (y_load one_3 rfl (Holds.own 1 rfl rfl)) fun a E => ?_
      obtain ⟨r62, e63, hF⟩ := bnd hF
      obtain ⟨_, _, ⟨_, _⟩, r64⟩ := Go.X.Calls.get (condition_greatest_w N r_0.Operand r1 e63 hG ok)
      refine q_call E go_117 rfl (fun w ok => (condition_greatest_w N r_0.Operand r1 e63 hG ok).mono (fun _ _ h => h.1)) rfl rfl fun a E => qv E (y_gtr rfl rfl) fun a E => qv E (y_pickF rfl rfl) fun a E => wpQuiet_nil ?_
      intro w ok
      refine t_norm <| c_if E rfl (fun hc65 => ?_) (fun hc65 => ?_)
      rotate_left
      · replace hF := cond_f hc65 hF
        refine wp_skip <| b_norm <| t_norm <| c_region <| lv E ok (y_add rfl rfl (InR.inc r46 (pL_InR h4) hc47)) fun a E => lv E ok (y_move rfl) fun a E => wpList_nil ?_
        obtain rfl := sj hF
        exact step_n ⟨(ok.pk 2 [1] rfl (by decide)), E.keep [1, 39, 40, 41], (InR.inc r46 (pL_InR h4) hc47)⟩
      replace hF := cond_t hc65 hF
      refine sg <| lv E ok (y_assign rfl) fun a E => wn <| wp_ret <| b_ret <| t_ret ?_
      have hret : condition_proper_R u m0 S false a w := ⟨ok.drop.drop, E.d, ⟨rv_t E rfl, trivial⟩⟩
      obtain rfl := sj hF
      exact step_o (by nofun) (sr ⟨rfl, hret⟩)
  replace hF := cond_t hc8 hF
  replace E := E.upd 17 hc8 rfl
  refine lv E ok (y_fieldAddr fo_69_0 rfl) fun a E => lv E ok (y_load one_3 rfl (Holds.own 0 rfl rfl)) fun a E => lv E ok (y_fieldAddr fo_69_1 rfl) fun a E => lv E ok (y_load one_3 rfl (Holds.own 0 rfl rfl)) fun a E => ?_
  obtain ⟨r9, e10, hF⟩ := bnd hF
  refine l_call E go_116 rfl (condition_permitted_w N r_0.Operand r1 r_0.Mod r2 e10 hG ok) rfl rfl ?_
  rintro _ w ⟨rfl, ok⟩
  refine ⟨_, rfl, fun a E => ?_⟩
  refine lv E ok (y_not rfl) fun a E => lv E ok (y_pickT rfl rfl) fun a E => lv E ok (y_pickF rfl rfl) fun a E => lv E ok (y_move rfl) fun a E => bsplit (!r9) (fun hc11 => ?_) (fun hc11 => ?_)
  · replace hF := cond_t hc11 hF
    replace E := E.upd 26 hc11 rfl
    refine ls E fun a E => ls E fun a E => ls E fun a E => ls E fun a E => lv E ok (y_pickT rfl rfl) fun a E => lv E ok (y_move rfl) fun a E => ls E fun a E => ls E fun a E => ?_
    refine ls E fun a E => ls E fun a E => lv E ok (y_pickT rfl rfl) fun a E => wn <| c_if E rfl (fun _ => ?_) (fun h => by cases h)
    refine sg <| lv E ok (y_assign rfl) fun a E => wn <| wp_ret <| t_ret ?_
    have hret : condition_proper_R u m0 S false a w := ⟨ok.drop, E.d, ⟨rv_t E rfl, trivial⟩⟩
    obtain rfl := sj hF
    exact fin _ _ hret
  replace hF := cond_f hc11 hF
  replace E := E.upd 26 hc11 rfl
  refine lv E ok (y_fieldAddr fo_69_3 rfl) fun a E => lv E ok (y_load one_67 rfl (Holds.own 0 rfl rfl)) fun a E => lv E ok (y_lenL sl_67 h4 rfl) fun a E => lv E ok (y_lss rfl rfl) fun a E => lv E ok (y_pickF rfl rfl) fun a E => lv E ok (y_move rfl) fun a E => bsplit (decide ((r_0.Spans.length : Int) < 1)) (fun hc12 => ?_) (fun hc12 => ?_)
  · replace hF := cond_t hc12 hF
    replace E := E.upd 32 hc12 rfl
    refine ls E fun a E => ls E fun a E => ls E fun a E => ls E fun a E => lv E ok (y_pickT rfl rfl) fun a E => wn <| c_if E rfl (fun _ => ?_) (fun h => by cases h)
    refine sg <| lv E ok (y_assign rfl) fun a E => wn <| wp_ret <| t_ret ?_
    have hret : condition_proper_R u m0 S false a w := ⟨ok.drop, E.d, ⟨rv_t E rfl, trivial⟩⟩
    obtain rfl := sj hF
    exact fin _ _ hret
  replace hF := cond_f hc12 hF
  replace E := E.upd 32 hc12 rfl
  refine lv E ok (y_fieldAddr fo_69_3 rfl) fun a E => lv E ok (y_load one_67 rfl (Holds.own 0 rfl rfl)) fun a E => lv E ok (y_lenL sl_67 h4 rfl) fun a E => lv E ok (y_gtr rfl rfl) fun a E => lv E ok (y_pickF rfl rfl) fun a E => wn <| c_if E rfl (fun hc13 => ?_) (fun hc13 => ?_)
  · replace hF := cond_t hc13 hF
    refine sg <| lv E ok (y_assign rfl) fun a E => wn <| wp_ret <| t_ret ?_
    have hret : condition_proper_R u m0 S false a w := ⟨ok.drop, E.d, ⟨rv_t E rfl, trivial⟩⟩
    obtain rfl := sj hF
    exact fin _ _ hret
  replace hF := cond_f hc13 hF
  refine wp_skip <| t_norm <| wp_seq <| sg <| lv E ok (y_fieldAddr fo_69_3 rfl) fun a E => lv E ok (y_load one_67 rfl (Holds.own 0 rfl rfl)) fun a E => lv E ok (y_lenL sl_67 h4 rfl) fun a E => ?_
  refine lv E ok (y_move rfl) fun a E => wn <| wp_block ?_
  obtain ⟨o15, hL, hF⟩ := bnd hF
  refine c_loop _ (fun (s : Int) a w => Ok u m0 ([(b5, Obj.cells [(Value.int .i64 r_0.Operand), (Value.int .i64 r_0.Mod), (Value.bool r_0.Not), c3].toArray 69 (0, 0))] :: S) w ∧ Env 64 a [(1, (Value.pointer (some ⟨b5, 0, none⟩))), (39, c3), (40, (Value.int .i64 (r_0.Spans.length : Int))), (41, (Value.int .i64 s))] ∧ InR .i64 s) (fun (b : (Unit ⊕ Bool)) e a w => (Sum.elim (fun b38 => e = (.exit 0) ∧ Ok u m0 ([(b5, Obj.cells [(Value.int .i64 r_0.Operand), (Value.int .i64 r_0.Mod), (Value.bool r_0.Not), c3].toArray 69 (0, 0))] :: S) w ∧ Env 64 a []) (fun b39 => e = .ret ∧ condition_proper_R u m0 S b39 a w)) b) ?_ ?_ N _ a w hL ⟨ok, E.keep [1, 39, 40, 41], (show InR .i64 (0) by decide)⟩
  rotate_left
  · intro e a w _ hO
    rcases o15 with o15 | o15
    rotate_left
    · replace hF := elim_r hF
      obtain ⟨rfl, hret⟩ := hO
      refine b_ret <| t_ret ?_
      obtain rfl := sj hF
      exact fin _ _ hret
    replace hF := elim_l hF
    obtain ⟨rfl, ok, E⟩ := hO
    refine b_hit <| t_norm <| sg <| lv E ok (y_assign rfl) fun a E => wn <| wp_ret ?_
    have hret : condition_proper_R u m0 S true a w := ⟨ok.drop, E.d, ⟨rv_t E rfl, trivial⟩⟩
    obtain rfl := sj hF
    exact fin _ _ hret
  rintro x_17 a w r ⟨ok, E, r18⟩ hF
  replace hF : condition_proper_b1 N r_0 x_17 = some r := hF
  unfold condition_proper_b1 at hF
  refine sg <| lv E ok (y_lss rfl rfl) fun a E => wn <| wp_seq <| c_if E rfl (fun hc19 => ?_) (fun hc19 => ?_)
  rotate_left
  · replace hF := cond_f hc19 hF
    refine wp_exit <| t_exit ?_
    obtain rfl := sj hF
    exact step_o (by nofun) (sl ⟨rfl, ⟨ok, E.keep []⟩⟩)
  replace hF := cond_t hc19 hF
  refine wp_skip <| t_norm <| wp_seq <| wp_block <| sg ?_
  obtain ⟨x20, e21, hF⟩ := bnd hF
  obtain ⟨b22, o23, es24, hl25, rr26, at27, yy28⟩ := idxAt sl_67 h4 e21 (P := Tryz.prog) (X := .tmp 39) (I := .tmp 41) (kd := .i64) (ev_of E rfl) (ev_of E rfl)
  obtain ⟨rfl, r29, r30⟩ := rr26
  refine lv E ok (yy28 _ _) fun a E => lv E ok (y_loadAgg (cs := [(Value.int .i64 x20.From), (Value.int .i64 x20.To)]) agg_126 rfl rfl (Holds.ro at27)) fun a E => l_alloc E ok zero_126 rfl rfl fun b31 a w E ok => l_storeB E ok 0 rfl rfl rfl inf_126 rfl rfl ⟨rfl, rfl, trivial⟩ rfl rfl fun w ok => wn <| wp_seq <| c_draw (by kernel_rfl) (by kernel_rfl) ok ?_
  refine qv E (y_fieldAddr fo_126_0 rfl) fun a E => qv E (y_load one_3 rfl (Holds.own 0 rfl rfl)) fun a E => qv E (y_lss rfl rfl) fun a E => qv E (y_move rfl) fun a E => bsplit (decide (x20.From < 0)) (fun hc32 => ?_) (fun hc32 => ?_)
  · replace hF := cond_t hc32 hF
    replace E := E.upd 48 hc32 rfl
    refine qs E fun a E => qs E fun a E => qs E fun a E => qs E fun a E => qs E fun a E => qv E (y_pickT rfl rfl) fun a E => qv E (y_move rfl) fun a E => qs E fun a E => ?_
    refine qs E fun a E => qs E fun a E => qs E fun a E => qs E fun a E => qs E fun a E => qv E (y_pickT rfl rfl) fun a E => wpQuiet_nil ?_
    intro w ok
    refine t_norm <| c_if E rfl (fun _ => ?_) (fun h => by cases h)
    refine sg <| lv E ok (y_assign rfl) fun a E => wn <| wp_ret <| b_ret <| t_ret ?_
    have hret : condition_proper_R u m0 S false a w := ⟨ok.drop.drop, E.d, ⟨rv_t E rfl, trivial⟩⟩
    obtain rfl := sj hF
    exact step_o (by nofun) (sr ⟨rfl, hret⟩)
  replace hF := cond_f hc32 hF
  replace E := E.upd 48 hc32 rfl
  refine qv E (y_fieldAddr fo_126_0 rfl) fun a E => qv E (y_load one_3 rfl (Holds.own 0 rfl rfl)) fun a E => qv E (y_fieldAddr fo_126_1 rfl) fun a E => qv E (y_load one_3 rfl (Holds.own 0 rfl rfl)) fun a E => qv E (y_gtr rfl rfl) fun a E => qv E (y_pickF rfl rfl) fun a E => qv E (y_move rfl) fun a E => bsplit (decide (x20.From > x20.To)) (fun hc33 => ?_) (fun hc33 => ?_)
  · replace hF := cond_t hc33 hF
    replace E := E.upd 55 hc33 rfl
    refine qs E fun a E => qs E fun a E => qs E fun a E => qs E fun a E => qs E fun a E => qs E fun a E => qv E (y_pickT rfl rfl) fun a E => wpQuiet_nil ?_
    intro w ok
    refine t_norm <| c_if E rfl (fun _ => ?_) (fun h => by cases h)
    refine sg <| lv E ok (y_assign rfl) fun a E => wn <| wp_ret <| b_ret <| t_ret ?_
    have hret : condition_proper_R u m0 S false a w := ⟨ok.drop.drop, E.d, ⟨rv_t E rfl, trivial⟩⟩
    obtain rfl := sj hF
    exact step_o (by nofun) (sr ⟨rfl, hret⟩)
  replace hF := cond_f hc33 hF
  replace E := E.upd 55 hc33 rfl
  refine qv E (y_fieldAddr fo_126_1 rfl) fun a E => qv E (y_load one_3 rfl (Holds.own 0 rfl rfl)) fun a E => qv E (y_fieldAddr fo_69_0 rfl) fun a E => qv E (y_load one_3 rfl (Holds.own 1 rfl rfl)) fun a E => ?_
  obtain ⟨r34, e35, hF⟩ := bnd hF
  obtain ⟨_, _, ⟨_, _⟩, r36⟩ := Go.X.Calls.get (condition_greatest_w N r_0.Operand r1 e35 hG ok)
  refine q_call E go_117 rfl (fun w ok => (condition_greatest_w N r_0.Operand r1 e35 hG ok).mono (fun _ _ h => h.1)) rfl rfl fun a E => qv E (y_gtr rfl rfl) fun a E => qv E (y_pickF rfl rfl) fun a E => wpQuiet_nil ?_
  intro w ok
  refine t_norm <| c_if E rfl (fun hc37 => ?_) (fun hc37 => ?_)
  rotate_left
  · replace hF := cond_f hc37 hF
    refine wp_skip <| b_norm <| t_norm <| c_region <| lv E ok (y_add rfl rfl (InR.inc r18 (pL_InR h4) hc19)) fun a E => lv E ok (y_move rfl) fun a E => wpList_nil ?_
    obtain rfl := sj hF
    exact step_n ⟨(ok.pk 2 [1] rfl (by decide)), E.keep [1, 39, 40, 41], (InR.inc r18 (pL_InR h4) hc19)⟩
  replace hF := cond_t hc37 hF
  refine sg <| lv E ok (y_assign rfl) fun a E => wn <| wp_ret <| b_ret <| t_ret ?_
  have hret : condition_proper_R u m0 S false a w := ⟨ok.drop.drop, E.d, ⟨rv_t E rfl, trivial⟩⟩
  obtain rfl := sj hF
  exact step_o (by nofun) (sr ⟨rfl, hret⟩)

def condition_Valid_1_R (u : World) (m0 : Mem) (S : Segs) (r : Bool) (a : Act) (w : World) : Prop :=
  Ok u m0 S w ∧ a.defers = [] ∧ RVs Tryz.prog a w [.t 2 (.bool r)]
set_option maxHeartbeats 4000000 in
set_option maxRecDepth 100000 in
theorem condition_Valid_1_w {u : World} {m0 : Mem} {S : Segs} {w : World} (N : Nat) (vr_0 : List Value) (r_0 : Relation) (hr_0 : pRelation m0 vr_0 r_0) {r : Bool} (hF : condition_Valid_1 N r_0 = some r) (hG : Glob u) (ok : Ok u m0 S w) :
    Calls Tryz.prog 81 [.agg vr_0.toArray].toArray w fun e w' => (e = .returned (.bool r) ∧ Ok u m0 S w') := by
  obtain ⟨c3, rfl, r1, r2, h4⟩ := hr_0
  have hb0 := ok.base
  have le_m0 := Mem.le.refl m0
  unfold condition_Valid_1 at hF
  have fin : ∀ a w, condition_Valid_1_R u m0 S r a w → bodyPost Tryz.prog Tryz.f81 (fun e w' => (e = .returned (.bool r) ∧ Ok u m0 S w')) .ret a w := by
    intro a w h
    obtain ⟨ok, hd, hrv⟩ := h
    exact c_ret2 [.t 2 (.bool r)] hd rfl hrv ⟨rfl, ok⟩
  refine enter Tryz.func81 rfl rfl rfl fun a E => sg <| l_box E ok rfl rfl rfl fun b5 a w E ok => lv E ok (y_assign rfl) fun a E => wn <| wp_seq ?_
  refine c_region <| lv E ok (y_loadAgg (cs := [(Value.int .i64 r_0.Operand), (Value.int .i64 r_0.Mod), (Value.bool r_0.Not), c3]) agg_69 rfl rfl (Holds.own 0 rfl rfl)) fun a E => ?_
  obtain ⟨r6, e7, hF⟩ := bnd hF
  refine l_call E go_82 rfl (condition_proper_w N _ r_0 ⟨_, rfl, r1, r2, h4⟩ e7 hG ok) rfl rfl ?_
  rintro _ w ⟨rfl, ok⟩
  refine ⟨_, rfl, fun a E => ?_⟩
  refine lv E ok (y_not rfl) fun a E => lv E ok (y_assign rfl) fun a E => wn <| wp_ret ?_
  have hret : condition_Valid_1_R u m0 S (!r6) a w := ⟨ok.drop, E.d, ⟨rv_t E rfl, trivial⟩⟩
  obtain rfl := sj hF
  exact fin _ _ hret

def slices_IndexFunc_api_Relation_api_Relation__81_R (u : World) (m0 : Mem) (S : Segs) (r : Int) (a : Act) (w : World) : Prop :=
  Ok u m0 S w ∧ a.defers = [] ∧ RVs Tryz.prog a w [.t 4 (.int .i64 r)] ∧ InR .i64 r
set_option maxHeartbeats 4000000 in
set_option maxRecDepth 100000 in
theorem slices_IndexFunc_api_Relation_api_Relation__81_w {u : World} {m0 : Mem} {S : Segs} {w : World} (N : Nat) (vs_0 : Value) (s_0 : List (Relation)) (hs_0 : (pL 4 pRelation) m0 [vs_0] s_0) {r : Int} (hF : slices_IndexFunc_api_Relation_api_Relation__81 N s_0 = some r) (hG : Glob u) (ok : Ok u m0 S w) :
    Calls Tryz.prog 106 [vs_0, .func (.func 81) #[] #[]].toArray w fun e w' => (e = .returned (.int .i64 r) ∧ Ok u m0 S w') ∧ InR .i64 r := by
  have hb0 := ok.base
  have le_m0 := Mem.le.refl m0
  unfold slices_IndexFunc_api_Relation_api_Relation__81 at hF
  have fin : ∀ a w, slices_IndexFunc_api_Relation_api_Relation__81_R u m0 S r a w → bodyPost Tryz.prog Tryz.f106 (fun e w' => (e = .returned (.int .i64 r) ∧ Ok u m0 S w') ∧ InR .i64 r) .ret a w := by
    intro a w h
    obtain ⟨ok, hd, hrv, h0⟩ := h
    exact c_ret2 [.t 4 (.int .i64 r)] hd rfl hrv ⟨⟨rfl, ok⟩, h0⟩
  refine enter Tryz.func106 rfl rfl rfl fun a E => sg <| lv E ok (y_assign rfl) fun a E => wn <| wp_seq <| wp_seq ?_
  refine c_region <| lv E ok (y_move rfl) fun a E => lv E ok (y_lenL sl_66 hs_0 rfl) fun a E => lv E ok (y_move rfl) fun a E => wn <| wp_block ?_
  obtain ⟨o2, hL, hF⟩ := bnd hF
  refine c_loop _ (fun (s : Int) a w => Ok u m0 (S) w ∧ Env 19 a [(0, vs_0), (1, (Value.func (.func 81) #[] #[])), (7, (Value.int .i64 (s_0.length : Int))), (8, (Value.int .i64 s))] ∧ InR .i64 s) (fun (b : (Unit ⊕ Int)) e a w => (Sum.elim (fun b23 => e = (.exit 0) ∧ Ok u m0 (S) w ∧ Env 19 a []) (fun b24 => e = .ret ∧ slices_IndexFunc_api_Relation_api_Relation__81_R u m0 S b24 a w)) b) ?_ ?_ N _ a w hL ⟨ok, E.keep [0, 1, 7, 8], (show InR .i64 (0) by decide)⟩
  rotate_left
  · intro e a w _ hO
    rcases o2 with o2 | o2
    rotate_left
    · replace hF := elim_r hF
      obtain ⟨rfl, hret⟩ := hO
      refine b_ret <| t_ret ?_
      obtain rfl := sj hF
      exact fin _ _ hret
    replace hF := elim_l hF
    obtain ⟨rfl, ok, E⟩ := hO
    refine b_hit <| t_norm <| sg <| lv E ok (y_assign rfl) fun a E => wn <| wp_ret ?_
    have hret : slices_IndexFunc_api_Relation_api_Relation__81_R u m0 S (-1) a w := ⟨ok, E.d, ⟨rv_t E rfl, trivial⟩, (show InR .i64 (-1) by decide)⟩
    obtain rfl := sj hF
    exact fin _ _ hret
  rintro x_4 a w r ⟨ok, E, r5⟩ hF
  replace hF : slices_IndexFunc_api_Relation_api_Relation__81_b1 N s_0 x_4 = some r := hF
  unfold slices_IndexFunc_api_Relation_api_Relation__81_b1 at hF
  refine sg <| lv E ok (y_lss rfl rfl) fun a E => wn <| wp_seq <| c_if E rfl (fun hc6 => ?_) (fun hc6 => ?_)
  rotate_left
  · replace hF := cond_f hc6 hF
    refine wp_exit <| t_exit ?_
    obtain rfl := sj hF
    exact step_o (by nofun) (sl ⟨rfl, ⟨ok, E.keep []⟩⟩)
  replace hF := cond_t hc6 hF
  refine wp_skip <| t_norm <| wp_seq <| wp_block <| sg <| lv E ok (y_move rfl) fun a E => lv E ok (y_assign rfl) fun a E => ?_
  refine wn <| sg <| lv E ok (y_move rfl) fun a E => lv E ok (y_move rfl) fun a E => lv E ok (y_move rfl) fun a E => ?_
  obtain ⟨x7, e8, hF⟩ := bnd hF
  obtain ⟨b9, o10, es11, hl12, rr13, at14, yy15⟩ := idxAt sl_66 hs_0 e8 (P := Tryz.prog) (X := .tmp 12) (I := .tmp 13) (kd := .i64) (ev_of E rfl) (ev_of E rfl)
  obtain ⟨c18, rfl, r16, r17, h19⟩ := rr13
  refine lv E ok (yy15 _ _) fun a E => lv E ok (y_loadAgg (cs := [(Value.int .i64 x7.Operand), (Value.int .i64 x7.Mod), (Value.bool x7.Not), c18]) agg_69 rfl rfl (Holds.ro at14)) fun a E => ?_
  obtain ⟨r20, e21, hF⟩ := bnd hF
  refine l_callv E rfl go_81 rfl (condition_Valid_1_w N _ x7 ⟨_, rfl, r16, r17, h19⟩ e21 hG ok) rfl rfl ?_
  rintro _ w ⟨rfl, ok⟩
  refine ⟨_, rfl, fun a E => ?_⟩
  refine wn <| c_if E rfl (fun hc22 => ?_) (fun hc22 => ?_)
  rotate_left
  · replace hF := cond_f hc22 hF
    refine wp_skip <| b_norm <| t_norm <| c_region <| lv E ok (y_add rfl rfl (InR.inc r5 (pL_InR hs_0) hc6)) fun a E => lv E ok (y_move rfl) fun a E => wpList_nil ?_
    obtain rfl := sj hF
    exact step_n ⟨ok, E.keep [0, 1, 7, 8], (InR.inc r5 (pL_InR hs_0) hc6)⟩
  replace hF := cond_t hc22 hF
  refine sg <| lv E ok (y_move rfl) fun a E => lv E ok (y_assign rfl) fun a E => wn <| wp_ret <| b_ret ?_
  refine t_ret ?_
  have hret : slices_IndexFunc_api_Relation_api_Relation__81_R u m0 S x_4 a w := ⟨ok, E.d, ⟨rv_t E rfl, trivial⟩, r5⟩
  obtain rfl := sj hF
  exact step_o (by nofun) (sr ⟨rfl, hret⟩)

def slices_ContainsFunc_api_Relation_api_Relation__81_R (u : World) (m0 : Mem) (S : Segs) (r : Bool) (a : Act) (w : World) : Prop :=
  Ok u m0 S w ∧ a.defers = [] ∧ RVs Tryz.prog a w [.t 4 (.bool r)]
set_option maxHeartbeats 4000000 in
set_option maxRecDepth 100000 in
theorem slices_ContainsFunc_api_Relation_api_Relation__81_w {u : World} {m0 : Mem} {S : Segs} {w : World} (N : Nat) (vs_0 : Value) (s_0 : List (Relation)) (hs_0 : (pL 4 pRelation) m0 [vs_0] s_0) {r : Bool} (hF : slices_ContainsFunc_api_Relation_api_Relation__81 N s_0 = some r) (hG : Glob u) (ok : Ok u m0 S w) :
    Calls Tryz.prog 69 [vs_0, .func (.func 81) #[] #[]].toArray w fun e w' => (e = .returned (.bool r) ∧ Ok u m0 S w') := by
  have hb0 := ok.base
  have le_m0 := Mem.le.refl m0
  unfold slices_ContainsFunc_api_Relation_api_Relation__81 at hF
  have fin : ∀ a w, slices_ContainsFunc_api_Relation_api_Relation__81_R u m0 S r a w → bodyPost Tryz.prog Tryz.f69 (fun e w' => (e = .returned (.bool r) ∧ Ok u m0 S w')) .ret a w := by
    intro a w h
    obtain ⟨ok, hd, hrv⟩ := h
    exact c_ret2 [.t 4 (.bool r)] hd rfl hrv ⟨rfl, ok⟩
  refine enter Tryz.func69 rfl rfl rfl fun a E => sg <| lv E ok (y_assign rfl) fun a E => wn <| sg ?_
  refine lv E ok (y_move rfl) fun a E => lv E ok (y_move rfl) fun a E => ?_
  obtain ⟨r1, e2, hF⟩ := bnd hF
  refine l_call E go_106 rfl (slices_IndexFunc_api_Relation_api_Relation__81_w N _ s_0 hs_0 e2 hG ok) rfl rfl ?_
  rintro _ w ⟨⟨rfl, ok⟩, r3⟩
  refine ⟨_, rfl, fun a E => ?_⟩
  refine lv E ok (y_geq rfl rfl) fun a E => lv E ok (y_assign rfl) fun a E => wn <| wp_ret ?_
  have hret : slices_ContainsFunc_api_Relation_api_Relation__81_R u m0 S (decide (r1 ≥ 0)) a w := ⟨ok, E.d, ⟨rv_t E rfl, trivial⟩⟩
  obtain rfl := sj hF
  exact fin _ _ hret

def condition_Valid_R (u : World) (m0 : Mem) (S : Segs) (r : Bool) (a : Act) (w : World) : Prop :=
  Ok u m0 S w ∧ a.defers = [] ∧ RVs Tryz.prog a w [.t 2 (.bool r)]
set_option maxHeartbeats 4000000 in
set_option maxRecDepth 100000 in
theorem condition_Valid_w {u : World} {m0 : Mem} {S : Segs} {w : World} (N : Nat) (vc_0 : Value) (c_0 : List (List (Relation))) (hc_0 : (pL 1 (pL 4 pRelation)) m0 [vc_0] c_0) {r : Bool} (hF : condition_Valid N c_0 = some r) (hG : Glob u) (ok : Ok u m0 S w) :
    Calls Tryz.prog 37 [vc_0].toArray w fun e w' => (e = .returned (.bool r) ∧ Ok u m0 S w') := by
  have hb0 := ok.base
  have le_m0 := Mem.le.refl m0
  unfold condition_Valid at hF
  have fin : ∀ a w, condition_Valid_R u m0 S r a w → bodyPost Tryz.prog Tryz.f37 (fun e w' => (e = .returned (.bool r) ∧ Ok u m0 S w')) .ret a w := by
    intro a w h
    obtain ⟨ok, hd, hrv⟩ := h
    exact c_ret2 [.t 2 (.bool r)] hd rfl hrv ⟨rfl, ok⟩
  refine enter Tryz.func37 rfl rfl rfl fun a E => sg <| lv E ok (y_assign rfl) fun a E => wn <| sg ?_
  refine lv E ok (y_assign rfl) fun a E => wn <| wp_seq <| sg <| lv E ok (y_move rfl) fun a E => lv E ok (y_lenL sl_23 hc_0 rfl) fun a E => ?_
  refine lv E ok (y_move rfl) fun a E => wn <| wp_block ?_
  obtain ⟨o3, hL, hF⟩ := bnd hF
  refine c_loop _ (fun (s : Int × Int) a w => Ok u m0 (S) w ∧ Env 31 a [(0, vc_0), (3, (Value.int .i64 s.1)), (6, vc_0), (7, (Value.int .i64 (c_0.length : Int))), (8, (Value.int .i64 s.2))] ∧ InR .i64 s.1 ∧ InR .i64 s.2) (fun (b : (Int ⊕ Bool)) e a w => (Sum.elim (fun b28 => e = (.exit 0) ∧ Ok u m0 (S) w ∧ Env 31 a [(0, vc_0), (3, (Value.int .i64 b28))] ∧ InR .i64 b28) (fun b30 => e = .ret ∧ condition_Valid_R u m0 S b30 a w)) b) ?_ ?_ N _ a w hL ⟨ok, E.keep [0, 3, 6, 7, 8], (show InR .i64 (0) by decide), (show InR .i64 (0) by decide)⟩
  rotate_left
  · intro e a w _ hO
    rcases o3 with o3 | o3
    rotate_left
    · replace hF := elim_r hF
      obtain ⟨rfl, hret⟩ := hO
      refine b_ret <| t_ret ?_
      obtain rfl := sj hF
      exact fin _ _ hret
    replace hF := elim_l hF
    obtain ⟨rfl, ok, E, r26⟩ := hO
    refine b_hit <| t_norm <| sg <| lv E ok (y_move rfl) fun a E => lv E ok (y_lenL sl_23 hc_0 rfl) fun a E => lv E ok (y_gtr rfl rfl) fun a E => lv E ok (y_move rfl) fun a E => ?_
    refine bsplit (decide ((c_0.length : Int) > 0)) (fun hc27 => ?_) (fun hc27 => ?_)
    · replace hF := cond_t hc27 hF
      replace E := E.upd 27 hc27 rfl
      refine lv E ok (y_move rfl) fun a E => lv E ok (y_leq rfl rfl) fun a E => lv E ok (y_pickT rfl rfl) fun a E => lv E ok (y_assign rfl) fun a E => wn <| wp_ret ?_
      have hret : condition_Valid_R u m0 S (decide (o3 ≤ 6)) a w := ⟨ok, E.d, ⟨rv_t E rfl, trivial⟩⟩
      obtain rfl := sj hF
      exact fin _ _ hret
    replace hF := cond_f hc27 hF
    replace E := E.upd 27 hc27 rfl
    refine ls E fun a E => ls E fun a E => lv E ok (y_pickF rfl rfl) fun a E => lv E ok (y_assign rfl) fun a E => wn <| wp_ret ?_
    have hret : condition_Valid_R u m0 S false a w := ⟨ok, E.d, ⟨rv_t E rfl, trivial⟩⟩
    obtain rfl := sj hF
    exact fin _ _ hret
  rintro ⟨n_6, x_7⟩ a w r ⟨ok, E, r8, r9⟩ hF
  replace hF : condition_Valid_b1 N c_0 n_6 x_7 = some r := hF
  unfold condition_Valid_b1 at hF
  refine sg <| lv E ok (y_lss rfl rfl) fun a E => wn <| wp_seq <| c_if E rfl (fun hc10 => ?_) (fun hc10 => ?_)
  rotate_left
  · replace hF := cond_f hc10 hF
    refine wp_exit <| t_exit ?_
    obtain rfl := sj hF
    exact step_o (by nofun) (sl ⟨rfl, ⟨ok, E.keep [0, 3], r8⟩⟩)
  replace hF := cond_t hc10 hF
  refine wp_skip <| t_norm <| wp_seq <| wp_block <| sg ?_
  obtain ⟨x11, e12, hF⟩ := bnd hF
  obtain ⟨b13, o14, es15, hl16, rr17, at18, yy19⟩ := idxAt sl_23 hc_0 e12 (P := Tryz.prog) (X := .tmp 6) (I := .tmp 8) (kd := .i64) (ev_of E rfl) (ev_of E rfl)
  obtain ⟨c20, rfl, h21⟩ := pL_cell rr17
  refine lv E ok (yy19 _ _) fun a E => lv E ok (y_load one_66 rfl (Holds.ro at18)) fun a E => lv E ok (y_assign rfl) fun a E => wn <| wp_seq <| sg ?_
  refine lv E ok (y_move rfl) fun a E => lv E ok (y_lenL sl_66 h21 rfl) fun a E => lv E ok (y_eql rfl rfl) fun a E => lv E ok (y_move rfl) fun a E => bsplit ((x11.length : Int) == 0) (fun hc22 => ?_) (fun hc22 => ?_)
  · replace hF := cond_t hc22 hF
    replace E := E.upd 15 hc22 rfl
    refine ls E fun a E => ls E fun a E => lv E ok (y_pickT rfl rfl) fun a E => wn <| c_if E rfl (fun _ => ?_) (fun h => by cases h)
    refine sg <| lv E ok (y_assign rfl) fun a E => wn <| wp_ret <| t_ret <| b_ret ?_
    refine t_ret ?_
    have hret : condition_Valid_R u m0 S false a w := ⟨ok, E.d, ⟨rv_t E rfl, trivial⟩⟩
    obtain rfl := sj hF
    exact step_o (by nofun) (sr ⟨rfl, hret⟩)
  replace hF := cond_f hc22 hF
  replace E := E.upd 15 hc22 rfl
  refine lv E ok (y_move rfl) fun a E => ?_
  obtain ⟨r23, e24, hF⟩ := bnd hF
  refine l_call E go_69 rfl (slices_ContainsFunc_api_Relation_api_Relation__81_w N _ x11 h21 e24 hG ok) rfl rfl ?_
  rintro _ w ⟨rfl, ok⟩
  refine ⟨_, rfl, fun a E => ?_⟩
  refine lv E ok (y_pickF rfl rfl) fun a E => wn <| c_if E rfl (fun hc25 => ?_) (fun hc25 => ?_)
  · replace hF := cond_t hc25 hF
    refine sg <| lv E ok (y_assign rfl) fun a E => wn <| wp_ret <| t_ret <| b_ret ?_
    refine t_ret ?_
    have hret : condition_Valid_R u m0 S false a w := ⟨ok, E.d, ⟨rv_t E rfl, trivial⟩⟩
    obtain rfl := sj hF
    exact step_o (by nofun) (sr ⟨rfl, hret⟩)
  replace hF := cond_f hc25 hF
  refine wp_skip <| t_norm <| c_region <| lv E ok (y_move rfl) fun a E => lv E ok (y_move rfl) fun a E => lv E ok (y_lenL sl_66 h21 rfl) fun a E => lv E ok (y_addw rfl rfl) fun a E => lv E ok (y_assign rfl) fun a E => ?_
  refine wpList_nil <| b_norm <| t_norm <| c_region <| lv E ok (y_add rfl rfl (InR.inc r9 (pL_InR hc_0) hc10)) fun a E => lv E ok (y_move rfl) fun a E => wpList_nil ?_
  obtain rfl := sj hF
  exact step_n ⟨ok, E.keep [0, 3, 6, 7, 8], (InR.wrap _ _), (InR.inc r9 (pL_InR hc_0) hc10)⟩

def decide_greatest_R (u : World) (m0 : Mem) (S : Segs) (r : Int) (a : Act) (w : World) : Prop :=
  Ok u m0 S w ∧ a.defers = [] ∧ RVs Tryz.prog a w [.t 2 (.int .i64 r)] ∧ InR .i64 r
set_option maxHeartbeats 4000000 in
set_option maxRecDepth 100000 in
theorem decide_greatest_w {u : World} {m0 : Mem} {S : Segs} {w : World} (N : Nat) (vr_0 : List Value) (r_0 : Relation) (hr_0 : pRelation m0 vr_0 r_0) {r : Int} (hF : decide_greatest N r_0 = some r) (hG : Glob u) (ok : Ok u m0 S w) :
    Calls Tryz.prog 38 [.agg vr_0.toArray].toArray w fun e w' => (e = .returned (.int .i64 r) ∧ Ok u m0 S w') ∧ InR .i64 r := by
  obtain ⟨c3, rfl, r1, r2, h4⟩ := hr_0
  have hb0 := ok.base
  have le_m0 := Mem.le.refl m0
  unfold decide_greatest at hF
  have fin : ∀ a w, decide_greatest_R u m0 S r a w → bodyPost Tryz.prog Tryz.f38 (fun e w' => (e = .returned (.int .i64 r) ∧ Ok u m0 S w') ∧ InR .i64 r) .ret a w := by
    intro a w h
    obtain ⟨ok, hd, hrv, h0⟩ := h
    exact c_ret2 [.t 2 (.int .i64 r)] hd rfl hrv ⟨⟨rfl, ok⟩, h0⟩
  refine enter Tryz.func38 rfl rfl rfl fun a E => sg <| l_box E ok rfl rfl rfl fun b5 a w E ok => lv E ok (y_assign rfl) fun a E => wn <| wp_seq ?_
  refine c_region <| lv E ok (y_assign rfl) fun a E => wn <| wp_seq <| sg <| lv E ok (y_fieldAddr fo_69_3 rfl) fun a E => ?_
  refine lv E ok (y_load one_67 rfl (Holds.own 0 rfl rfl)) fun a E => lv E ok (y_lenL sl_67 h4 rfl) fun a E => lv E ok (y_move rfl) fun a E => wn <| wp_block ?_
  obtain ⟨o8, hL, hF⟩ := bnd hF
  refine c_loop _ (fun (s : Int × Int) a w => Ok u m0 ([(b5, Obj.cells [(Value.int .i64 r_0.Operand), (Value.int .i64 r_0.Mod), (Value.bool r_0.Not), c3].toArray 69 (0, 0))] :: S) w ∧ Env 19 a [(3, (Value.int .i64 s.1)), (7, c3), (8, (Value.int .i64 (r_0.Spans.length : Int))), (9, (Value.int .i64 s.2))] ∧ InR .i64 s.1 ∧ InR .i64 s.2) (fun (b : Int) e a w => e = (.exit 0) ∧ Ok u m0 ([(b5, Obj.cells [(Value.int .i64 r_0.Operand), (Value.int .i64 r_0.Mod), (Value.bool r_0.Not), c3].toArray 69 (0, 0))] :: S) w ∧ Env 19 a [(3, (Value.int .i64 b))] ∧ InR .i64 b) ?_ ?_ N _ a w hL ⟨ok, E.keep [3, 7, 8, 9], (show InR .i64 (0) by decide), (show InR .i64 (0) by decide)⟩
  rotate_left
  · intro e a w _ hO
    obtain ⟨rfl, ok, E, r28⟩ := hO
    refine b_hit <| t_norm <| sg <| lv E ok (y_move rfl) fun a E => lv E ok (y_assign rfl) fun a E => wn ?_
    refine wp_ret ?_
    have hret : decide_greatest_R u m0 S o8 a w := ⟨ok.drop, E.d, ⟨rv_t E rfl, trivial⟩, r28⟩
    obtain rfl := sj hF
    exact fin _ _ hret
  rintro ⟨n_11, x_12⟩ a w r ⟨ok, E, r13, r14⟩ hF
  replace hF : decide_greatest_b1 N r_0 n_11 x_12 = some r := hF
  unfold decide_greatest_b1 at hF
  refine sg <| lv E ok (y_lss rfl rfl) fun a E => wn <| wp_seq <| c_if E rfl (fun hc15 => ?_) (fun hc15 => ?_)
  rotate_left
  · replace hF := cond_f hc15 hF
    refine wp_exit <| t_exit ?_
    obtain rfl := sj hF
    exact step_o (by nofun) (⟨rfl, ⟨ok, E.keep [3], r13⟩⟩)
  replace hF := cond_t hc15 hF
  refine wp_skip <| t_norm <| wp_seq <| wp_block <| sg ?_
  obtain ⟨x16, e17, hF⟩ := bnd hF
  obtain ⟨b18, o19, es20, hl21, rr22, at23, yy24⟩ := idxAt sl_67 h4 e17 (P := Tryz.prog) (X := .tmp 7) (I := .tmp 9) (kd := .i64) (ev_of E rfl) (ev_of E rfl)
  obtain ⟨rfl, r25, r26⟩ := rr22
  refine lv E ok (yy24 _ _) fun a E => lv E ok (y_loadAgg (cs := [(Value.int .i64 x16.From), (Value.int .i64 x16.To)]) agg_126 rfl rfl (Holds.ro at23)) fun a E => l_alloc E ok zero_126 rfl rfl fun b27 a w E ok => l_storeB E ok 0 rfl rfl rfl inf_126 rfl rfl ⟨rfl, rfl, trivial⟩ rfl rfl fun w ok => wn <| c_region <| lv E ok (y_move rfl) fun a E => ?_
  refine lv E ok (y_fieldAddr fo_126_1 rfl) fun a E => lv E ok (y_load one_3 rfl (Holds.own 0 rfl rfl)) fun a E => lv E ok (y_max rfl rfl) fun a E => lv E ok (y_assign rfl) fun a E => wpList_nil <| b_norm <| t_norm <| c_region ?_
  refine lv E ok (y_add rfl rfl (InR.inc r14 (pL_InR h4) hc15)) fun a E => lv E ok (y_move rfl) fun a E => wpList_nil ?_
  obtain rfl := sj hF
  exact step_n ⟨(ok.pk 2 [1] rfl (by decide)), E.keep [3, 7, 8, 9], (InR.max r13 r26), (InR.inc r14 (pL_InR h4) hc15)⟩

def decide_Weight_R (u : World) (m0 : Mem) (S : Segs) (r : Int × Int) (a : Act) (w : World) : Prop :=
  Ok u m0 S w ∧ a.defers = [] ∧ RVs Tryz.prog a w [.t 2 (.int .i64 r.1), .t 3 (.int .i64 r.2)] ∧ InR .i64 r.1 ∧ InR .i64 r.2
set_option maxHeartbeats 4000000 in
set_option maxRecDepth 100000 in
theorem decide_Weight_w {u : World} {m0 : Mem} {S : Segs} {w : World} (N : Nat) (vc_0 : Value) (c_0 : List (List (Relation))) (hc_0 : (pL 1 (pL 4 pRelation)) m0 [vc_0] c_0) {r : Int × Int} (hF : decide_Weight N c_0 = some r) (hG : Glob u) (ok : Ok u m0 S w) :
    Calls Tryz.prog 12 [vc_0].toArray w fun e w' => (e = .returned (.tuple [(.int .i64 r.1), (.int .i64 r.2)].toArray) ∧ Ok u m0 S w') ∧ InR .i64 r.1 ∧ InR .i64 r.2 := by
  have hb0 := ok.base
  have le_m0 := Mem.le.refl m0
  unfold decide_Weight at hF
  have fin : ∀ a w, decide_Weight_R u m0 S r a w → bodyPost Tryz.prog Tryz.f12 (fun e w' => (e = .returned (.tuple [(.int .i64 r.1), (.int .i64 r.2)].toArray) ∧ Ok u m0 S w') ∧ InR .i64 r.1 ∧ InR .i64 r.2) .ret a w := by
    intro a w h
    obtain ⟨ok, hd, hrv, h0, h1⟩ := h
    exact c_ret2 [.t 2 (.int .i64 r.1), .t 3 (.int .i64 r.2)] hd rfl hrv ⟨⟨rfl, ok⟩, h0, h1⟩
  refine enter Tryz.func12 rfl rfl rfl fun a E => sg <| lv E ok (y_assign rfl) fun a E => lv E ok (y_assign rfl) fun a E => wn <| wp_seq ?_
  refine sg <| lv E ok (y_move rfl) fun a E => ?_
  obtain ⟨r1, e2, hF⟩ := bnd hF
  refine l_call E go_37 rfl (condition_Valid_w N _ c_0 hc_0 e2 hG ok) rfl rfl ?_
  rintro _ w ⟨rfl, ok⟩
  refine ⟨_, rfl, fun a E => ?_⟩
  refine lv E ok (y_not rfl) fun a E => wn <| c_if E rfl (fun hc3 => ?_) (fun hc3 => ?_)
  · replace hF := cond_t hc3 hF
    refine sg <| lv E ok (y_assign rfl) fun a E => lv E ok (y_assign rfl) fun a E => wn <| wp_ret <| t_ret ?_
    have hret : decide_Weight_R u m0 S (0, 1) a w := ⟨ok, E.d, ⟨rv_t E rfl, rv_t E rfl, trivial⟩, (show InR .i64 (0) by decide), (show InR .i64 (1) by decide)⟩
    obtain rfl := sj hF
    exact fin _ _ hret
  replace hF := cond_f hc3 hF
  refine wp_skip <| t_norm <| sg <| lv E ok (y_assign rfl) fun a E => wn <| wp_seq ?_
  refine sg <| lv E ok (y_move rfl) fun a E => lv E ok (y_lenL sl_23 hc_0 rfl) fun a E => lv E ok (y_move rfl) fun a E => wn <| wp_block ?_
  obtain ⟨o6, hL, hF⟩ := bnd hF
  refine c_loop _ (fun (s : Int × Int) a w => Ok u m0 (S) w ∧ Env 45 a [(4, (Value.int .i64 s.1)), (13, vc_0), (14, (Value.int .i64 (c_0.length : Int))), (15, (Value.int .i64 s.2))] ∧ InR .i64 s.1 ∧ InR .i64 s.2) (fun (b : Int) e a w => e = (.exit 0) ∧ Ok u m0 (S) w ∧ Env 45 a [(4, (Value.int .i64 b))] ∧ InR .i64 b) ?_ ?_ N _ a w hL ⟨ok, E.keep [4, 13, 14, 15], (show InR .i64 (1) by decide), (show InR .i64 (0) by decide)⟩
  rotate_left
  · intro e a w _ hO
    obtain ⟨rfl, ok, E, r62⟩ := hO
    refine b_hit <| t_norm <| sg <| lv E ok (y_move rfl) fun a E => lv E ok (y_assign rfl) fun a E => lv E ok (y_assign rfl) fun a E => wpList_nil ?_
    refine t_norm <| wp_ret ?_
    have hret : decide_Weight_R u m0 S (o6, 0) a w := ⟨ok, E.d, ⟨rv_t E rfl, rv_t E rfl, trivial⟩, r62, (show InR .i64 (0) by decide)⟩
    obtain rfl := sj hF
    exact fin _ _ hret
  rintro ⟨weight_9, x_10⟩ a w r ⟨ok, E, r11, r12⟩ hF
  replace hF : decide_Weight_b1 N c_0 weight_9 x_10 = some r := hF
  unfold decide_Weight_b1 at hF
  refine sg <| lv E ok (y_lss rfl rfl) fun a E => wn <| wp_seq <| c_if E rfl (fun hc13 => ?_) (fun hc13 => ?_)
  rotate_left
  · replace hF := cond_f hc13 hF
    refine wp_exit <| t_exit ?_
    obtain rfl := sj hF
    exact step_o (by nofun) (⟨rfl, ⟨ok, E.keep [4], r11⟩⟩)
  replace hF := cond_t hc13 hF
  refine wp_skip <| t_norm <| wp_seq <| wp_block <| sg ?_
  obtain ⟨x14, e15, hF⟩ := bnd hF
  obtain ⟨b16, o17, es18, hl19, rr20, at21, yy22⟩ := idxAt sl_23 hc_0 e15 (P := Tryz.prog) (X := .tmp 13) (I := .tmp 15) (kd := .i64) (ev_of E rfl) (ev_of E rfl)
  obtain ⟨c23, rfl, h24⟩ := pL_cell rr20
  refine lv E ok (yy22 _ _) fun a E => lv E ok (y_load one_66 rfl (Holds.ro at21)) fun a E => lv E ok (y_assign rfl) fun a E => wn <| sg <| lv E ok (y_move rfl) fun a E => ?_
  refine lv E ok (y_lenL sl_66 h24 rfl) fun a E => lv E ok (y_move rfl) fun a E => wn <| wp_block ?_
  obtain ⟨o27, hL, hF⟩ := bnd hF
  refine c_loop _ (fun (s : Int × Int) a w => Ok u m0 (S) w ∧ Env 45 a [(4, (Value.int .i64 s.1)), (13, vc_0), (14, (Value.int .i64 (c_0.length : Int))), (15, (Value.int .i64 x_10)), (19, c23), (20, (Value.int .i64 (x14.length : Int))), (21, (Value.int .i64 s.2))] ∧ InR .i64 s.1 ∧ InR .i64 s.2) (fun (b : Int) e a w => e = (.exit 2) ∧ Ok u m0 (S) w ∧ Env 45 a [(4, (Value.int .i64 b)), (13, vc_0), (14, (Value.int .i64 (c_0.length : Int))), (15, (Value.int .i64 x_10))] ∧ InR .i64 b) ?_ ?_ N _ a w hL ⟨ok, E.keep [4, 13, 14, 15, 19, 20, 21], r11, (show InR .i64 (0) by decide)⟩
  rotate_left
  · intro e a w _ hO
    obtain ⟨rfl, ok, E, r60⟩ := hO
    refine b_hit <| b_norm <| t_norm <| c_region <| lv E ok (y_add rfl rfl (InR.inc r12 (pL_InR hc_0) hc13)) fun a E => lv E ok (y_move rfl) fun a E => wpList_nil ?_
    obtain rfl := sj hF
    exact step_n ⟨ok, E.keep [4, 13, 14, 15], r60, (InR.inc r12 (pL_InR hc_0) hc13)⟩
  rintro ⟨weight_30, x_31⟩ a w r ⟨ok, E, r32, r33⟩ hF
  replace hF : decide_Weight_b2 N x14 weight_30 x_31 = some r := hF
  unfold decide_Weight_b2 at hF
  refine sg <| lv E ok (y_lss rfl rfl) fun a E => wn <| wp_seq <| c_if E rfl (fun hc34 => ?_) (fun hc34 => ?_)
  rotate_left
  · replace hF := cond_f hc34 hF
    refine wp_exit <| t_exit ?_
    obtain rfl := sj hF
    exact step_o (by nofun) (⟨rfl, ⟨ok, E.keep [4, 13, 14, 15], r32⟩⟩)
  replace hF := cond_t hc34 hF
  refine wp_skip <| t_norm <| wp_seq <| wp_block <| sg ?_
  obtain ⟨x35, e36, hF⟩ := bnd hF
  obtain ⟨b37, o38, es39, hl40, rr41, at42, yy43⟩ := idxAt sl_66 h24 e36 (P := Tryz.prog) (X := .tmp 19) (I := .tmp 21) (kd := .i64) (ev_of E rfl) (ev_of E rfl)
  obtain ⟨c46, rfl, r44, r45, h47⟩ := rr41
  refine lv E ok (yy43 _ _) fun a E => lv E ok (y_loadAgg (cs := [(Value.int .i64 x35.Operand), (Value.int .i64 x35.Mod), (Value.bool x35.Not), c46]) agg_69 rfl rfl (Holds.ro at42)) fun a E => l_alloc E ok zero_69 rfl rfl fun b48 a w E ok => l_storeB E ok 0 rfl rfl rfl inf_69 rfl rfl ⟨rfl, rfl, rfl, (pL_one h47), trivial⟩ rfl rfl fun w ok => wn <| sg ?_
  refine lv E ok (y_fieldAddr fo_69_1 rfl) fun a E => lv E ok (y_load one_3 rfl (Holds.own 0 rfl rfl)) fun a E => lv E ok (y_assign rfl) fun a E => wn <| wp_seq <| sg ?_
  refine lv E ok (y_move rfl) fun a E => lv E ok (y_eql rfl rfl) fun a E => wn ?_
  obtain ⟨o49, hJ, hF⟩ := bnd hF
  refine c_mono (Q' := fun e a w => e = .normal ∧ Ok u m0 ([(b48, Obj.cells [(Value.int .i64 x35.Operand), (Value.int .i64 x35.Mod), (Value.bool x35.Not), c46].toArray 69 (0, 0))] :: S) w ∧ Env 45 a [(4, (Value.int .i64 weight_30)), (8, (Value.pointer (some ⟨b48, 0, none⟩))), (9, (Value.int .i64 o49)), (13, vc_0), (14, (Value.int .i64 (c_0.length : Int))), (15, (Value.int .i64 x_10)), (19, c23), (20, (Value.int .i64 (x14.length : Int))), (21, (Value.int .i64 x_31))] ∧ InR .i64 o49) ?_ ?_
  · replace hF := hJ
    clear hJ
    refine c_if E rfl (fun hc51 => ?_) (fun hc51 => ?_)
    rotate_left
    · replace hF := cond_f hc51 hF
      refine wp_skip ?_
      obtain rfl := sj hF
      exact ⟨rfl, ⟨ok, E.keep [4, 8, 9, 13, 14, 15, 19, 20, 21], r45⟩⟩
    replace hF := cond_t hc51 hF
    refine c_region <| lv E ok (y_loadAgg (cs := [(Value.int .i64 x35.Operand), (Value.int .i64 x35.Mod), (Value.bool x35.Not), c46]) agg_69 rfl rfl (Holds.own 0 rfl rfl)) fun a E => ?_
    obtain ⟨r52, e53, hF⟩ := bnd hF
    refine l_call E go_38 rfl (decide_greatest_w N _ x35 ⟨_, rfl, r44, r45, h47⟩ e53 hG ok) rfl rfl ?_
    rintro _ w ⟨⟨rfl, ok⟩, r54⟩
    refine ⟨_, rfl, fun a E => ?_⟩
    refine lv E ok (y_addw rfl rfl) fun a E => lv E ok (y_assign rfl) fun a E => wpList_nil ?_
    obtain rfl := sj hF
    exact ⟨rfl, ⟨ok, E.keep [4, 8, 9, 13, 14, 15, 19, 20, 21], (InR.wrap _ _)⟩⟩
  clear hJ
  intro e a w hO
  obtain ⟨rfl, ok, E, r55⟩ := hO
  refine t_norm <| wp_seq <| sg <| lv E ok (y_fieldAddr fo_69_0 rfl) fun a E => lv E ok (y_load one_3 rfl (Holds.own 0 rfl rfl)) fun a E => lv E ok (y_eql rfl rfl) fun a E => wpList_nil ?_
  refine t_norm ?_
  obtain ⟨o56, hJ, hF⟩ := bnd hF
  refine c_mono (Q' := fun e a w => e = .normal ∧ Ok u m0 ([(b48, Obj.cells [(Value.int .i64 x35.Operand), (Value.int .i64 x35.Mod), (Value.bool x35.Not), c46].toArray 69 (0, 0))] :: S) w ∧ Env 45 a [(4, (Value.int .i64 weight_30)), (9, (Value.int .i64 o56)), (13, vc_0), (14, (Value.int .i64 (c_0.length : Int))), (15, (Value.int .i64 x_10)), (19, c23), (20, (Value.int .i64 (x14.length : Int))), (21, (Value.int .i64 x_31))] ∧ InR .i64 o56) ?_ ?_
  · replace hF := hJ
    clear hJ
    refine c_if E rfl (fun hc58 => ?_) (fun hc58 => ?_)
    rotate_left
    · replace hF := cond_f hc58 hF
      refine wp_skip ?_
      obtain rfl := sj hF
      exact ⟨rfl, ⟨ok, E.keep [4, 9, 13, 14, 15, 19, 20, 21], r55⟩⟩
    replace hF := cond_t hc58 hF
    refine c_region <| lv E ok (y_move rfl) fun a E => lv E ok (y_move rfl) fun a E => lv E ok (y_mulw rfl rfl) fun a E => lv E ok (y_assign rfl) fun a E => wpList_nil ?_
    obtain rfl := sj hF
    exact ⟨rfl, ⟨ok, E.keep [4, 9, 13, 14, 15, 19, 20, 21], (InR.wrap _ _)⟩⟩
  clear hJ
  intro e a w hO
  obtain ⟨rfl, ok, E, r59⟩ := hO
  refine t_norm <| c_region <| lv E ok (y_move rfl) fun a E => lv E ok (y_move rfl) fun a E => lv E ok (y_mulw rfl rfl) fun a E => lv E ok (y_min rfl rfl) fun a E => lv E ok (y_assign rfl) fun a E => wpList_nil ?_
  refine b_norm <| t_norm <| c_region <| lv E ok (y_add rfl rfl (InR.inc r33 (pL_InR h24) hc34)) fun a E => lv E ok (y_move rfl) fun a E => wpList_nil ?_
  obtain rfl := sj hF
  exact step_n ⟨(ok.pk 1 [] rfl (by decide)), E.keep [4, 13, 14, 15, 19, 20, 21], (InR.min (InR.wrap _ _) (show InR .i64 (1000000) by decide)), (InR.inc r33 (pL_InR h24) hc34)⟩

def decide_valid_R (u : World) (m0 : Mem) (S : Segs) (r : Bool) (a : Act) (w : World) : Prop :=
  Ok u m0 S w ∧ a.defers = [] ∧ RVs Tryz.prog a w [.t 2 (.bool r)]
set_option maxHeartbeats 4000000 in
set_option maxRecDepth 100000 in
theorem decide_valid_w {u : World} {m0 : Mem} {S : Segs} {w : World} (N : Nat) (vl_0 : Value) (l_0 : List (List (List (Relation)))) (hl_0 : (pL 1 (pL 1 (pL 4 pRelation))) m0 [vl_0] l_0) {r : Bool} (hF : decide_valid N l_0 = some r) (hG : Glob u) (ok : Ok u m0 S w) :
    Calls Tryz.prog 60 [vl_0].toArray w fun e w' => (e = .returned (.bool r) ∧ Ok u m0 S w') := by
  have hb0 := ok.base
  have le_m0 := Mem.le.refl m0
  unfold decide_valid at hF
  have fin : ∀ a w, decide_valid_R u m0 S r a w → bodyPost Tryz.prog Tryz.f60 (fun e w' => (e = .returned (.bool r) ∧ Ok u m0 S w')) .ret a w := by
    intro a w h
    obtain ⟨ok, hd, hrv⟩ := h
    exact c_ret2 [.t 2 (.bool r)] hd rfl hrv ⟨rfl, ok⟩
  refine enter Tryz.func60 rfl rfl rfl fun a E => sg <| lv E ok (y_assign rfl) fun a E => wn <| wp_seq <| wp_seq ?_
  refine c_region <| lv E ok (y_move rfl) fun a E => lv E ok (y_lenL sl_26 hl_0 rfl) fun a E => lv E ok (y_move rfl) fun a E => wn <| wp_block ?_
  obtain ⟨o2, hL, hF⟩ := bnd hF
  refine c_loop _ (fun (s : Int) a w => Ok u m0 (S) w ∧ Env 18 a [(0, vl_0), (5, vl_0), (6, (Value.int .i64 (l_0.length : Int))), (7, (Value.int .i64 s))] ∧ InR .i64 s) (fun (b : (Unit ⊕ Bool)) e a w => (Sum.elim (fun b21 => e = (.exit 0) ∧ Ok u m0 (S) w ∧ Env 18 a [(0, vl_0)]) (fun b22 => e = .ret ∧ decide_valid_R u m0 S b22 a w)) b) ?_ ?_ N _ a w hL ⟨ok, E.keep [0, 5, 6, 7], (show InR .i64 (0) by decide)⟩
  rotate_left
  · intro e a w _ hO
    rcases o2 with o2 | o2
    rotate_left
    · replace hF := elim_r hF
      obtain ⟨rfl, hret⟩ := hO
      refine b_ret <| t_ret ?_
      obtain rfl := sj hF
      exact fin _ _ hret
    replace hF := elim_l hF
    obtain ⟨rfl, ok, E⟩ := hO
    refine b_hit <| t_norm <| sg <| lv E ok (y_move rfl) fun a E => lv E ok (y_lenL sl_26 hl_0 rfl) fun a E => lv E ok (y_leq rfl rfl) fun a E => lv E ok (y_assign rfl) fun a E => ?_
    refine wn <| wp_ret ?_
    have hret : decide_valid_R u m0 S (decide ((l_0.length : Int) ≤ 10)) a w := ⟨ok, E.d, ⟨rv_t E rfl, trivial⟩⟩
    obtain rfl := sj hF
    exact fin _ _ hret
  rintro x_4 a w r ⟨ok, E, r5⟩ hF
  replace hF : decide_valid_b1 N l_0 x_4 = some r := hF
  unfold decide_valid_b1 at hF
  refine sg <| lv E ok (y_lss rfl rfl) fun a E => wn <| wp_seq <| c_if E rfl (fun hc6 => ?_) (fun hc6 => ?_)
  rotate_left
  · replace hF := cond_f hc6 hF
    refine wp_exit <| t_exit ?_
    obtain rfl := sj hF
    exact step_o (by nofun) (sl ⟨rfl, ⟨ok, E.keep [0]⟩⟩)
  replace hF := cond_t hc6 hF
  refine wp_skip <| t_norm <| wp_seq <| wp_block <| sg ?_
  obtain ⟨x7, e8, hF⟩ := bnd hF
  obtain ⟨b9, o10, es11, hl12, rr13, at14, yy15⟩ := idxAt sl_26 hl_0 e8 (P := Tryz.prog) (X := .tmp 5) (I := .tmp 7) (kd := .i64) (ev_of E rfl) (ev_of E rfl)
  obtain ⟨c16, rfl, h17⟩ := pL_cell rr13
  refine lv E ok (yy15 _ _) fun a E => lv E ok (y_load one_23 rfl (Holds.ro at14)) fun a E => lv E ok (y_assign rfl) fun a E => wn <| sg <| lv E ok (y_move rfl) fun a E => ?_
  obtain ⟨r18, e19, hF⟩ := bnd hF
  refine l_call E go_37 rfl (condition_Valid_w N _ x7 h17 e19 hG ok) rfl rfl ?_
  rintro _ w ⟨rfl, ok⟩
  refine ⟨_, rfl, fun a E => ?_⟩
  refine lv E ok (y_not rfl) fun a E => wn <| c_if E rfl (fun hc20 => ?_) (fun hc20 => ?_)
  rotate_left
  · replace hF := cond_f hc20 hF
    refine wp_skip <| b_norm <| t_norm <| c_region <| lv E ok (y_add rfl rfl (InR.inc r5 (pL_InR hl_0) hc6)) fun a E => lv E ok (y_move rfl) fun a E => wpList_nil ?_
    obtain rfl := sj hF
    exact step_n ⟨ok, E.keep [0, 5, 6, 7], (InR.inc r5 (pL_InR hl_0) hc6)⟩
  replace hF := cond_t hc20 hF
  refine sg <| lv E ok (y_assign rfl) fun a E => wn <| wp_ret <| b_ret <| t_ret ?_
  have hret : decide_valid_R u m0 S false a w := ⟨ok, E.d, ⟨rv_t E rfl, trivial⟩⟩
  obtain rfl := sj hF
  exact step_o (by nofun) (sr ⟨rfl, hret⟩)

def decide_relations_R (u : World) (m0 : Mem) (S : Segs) (r : (List (Relation))) (a : Act) (w : World) : Prop :=
  ∃ m1 v0, m0.le m1 ∧ Ok u m1 S w ∧ a.defers = [] ∧ RVs Tryz.prog a w [.t 2 v0] ∧ (pL 4 pRelation) m1 [v0] r
set_option maxHeartbeats 4000000 in
set_option maxRecDepth 100000 in
theorem decide_relations_w {u : World} {m0 : Mem} {S : Segs} {w : World} (N : Nat) (vc_0 : Value) (c_0 : List (List (Relation))) (hc_0 : (pL 1 (pL 4 pRelation)) m0 [vc_0] c_0) {r : (List (Relation))} (hF : decide_relations N c_0 = some r) (hG : Glob u) (ok : Ok u m0 S w) :
    Calls Tryz.prog 47 [vc_0].toArray w fun e w' => ∃ m1 v0, e = .returned v0 ∧ m0.le m1 ∧ Ok u m1 S w' ∧ (pL 4 pRelation) m1 [v0] r := by
  have le_m0 := Mem.le.refl m0
  unfold decide_relations at hF
  have fin : ∀ a w, decide_relations_R u m0 S r a w → bodyPost Tryz.prog Tryz.f47 (fun e w' => ∃ m1 v0, e = .returned v0 ∧ m0.le m1 ∧ Ok u m1 S w' ∧ (pL 4 pRelation) m1 [v0] r) .ret a w := by
    intro a w h
    obtain ⟨m1, v0, hle, ok, hd, hrv, h0⟩ := h
    exact c_ret2 [.t 2 v0] hd rfl hrv ⟨m1, v0, rfl, hle, ok, h0⟩
  refine enter Tryz.func47 rfl rfl rfl fun a E => sg <| lv E ok (y_assign rfl) fun a E => wn <| sg ?_
  refine lv E ok (y_assign rfl) fun a E => wn <| wp_seq <| sg <| lv E ok (y_move rfl) fun a E => lv E ok (y_lenL sl_23 hc_0 rfl) fun a E => ?_
  refine lv E ok (y_move rfl) fun a E => wn <| wp_block ?_
  obtain ⟨M6, ok, h7⟩ := nilrow (e := 69) (k := 4) (R := pRelation) ok
  obtain ⟨o8, hL, hF⟩ := bnd hF
  refine c_loop _ (fun (s : (List (Relation)) × Int) a w => ∃ c9 M10, Ok u m0 (M10 :: S) w ∧ Env 17 a [(3, c9), (6, vc_0), (7, (Value.int .i64 (c_0.length : Int))), (8, (Value.int .i64 s.2))] ∧ ORow 69 4 pRelation m0 c9 s.1 M10 ∧ InR .i64 s.2) (fun (b : ((List (Relation)))) e a w => e = (.exit 0) ∧ ∃ c41 M42, Ok u m0 (M42 :: S) w ∧ Env 17 a [(3, c41)] ∧ ORow 69 4 pRelation m0 c41 b M42) ?_ ?_ N _ a w hL ⟨(Value.slice none 0 0), M6, ok, E.keep [3, 6, 7, 8], h7, (show InR .i64 (0) by decide)⟩
  rotate_left
  · intro e a w _ hO
    obtain ⟨rfl, c36, M37, ok, E, h38⟩ := hO
    refine b_hit <| t_norm <| sg <| lv E ok (y_move rfl) fun a E => lv E ok (y_assign rfl) fun a E => wn ?_
    refine wp_ret ?_
    obtain ⟨m39, hle, ok, hfz⟩ := (ok.frs 0 rfl).freeze
    have h40 := ORow.froz mRelation h38 hle hfz (by decide)
    have le_m0 := le_m0.trans hle
    have hc_0 := (mL (mL mRelation)).up hle hc_0
    have hret : decide_relations_R u m0 S o8 a w := ⟨m39, c36, le_m0, ok, E.d, ⟨rv_t E rfl, trivial⟩, h40⟩
    obtain rfl := sj hF
    exact fin _ _ hret
  rintro ⟨l_13, x_14⟩ a w r ⟨c15, M16, ok, E, h17, r18⟩ hF
  replace hF : decide_relations_b1 N c_0 l_13 x_14 = some r := hF
  unfold decide_relations_b1 at hF
  refine sg <| lv E ok (y_lss rfl rfl) fun a E => wn <| wp_seq <| c_if E rfl (fun hc19 => ?_) (fun hc19 => ?_)
  rotate_left
  · replace hF := cond_f hc19 hF
    refine wp_exit <| t_exit ?_
    obtain rfl := sj hF
    exact step_o (by nofun) (⟨rfl, ⟨c15, M16, ok, E.keep [3], h17⟩⟩)
  replace hF := cond_t hc19 hF
  refine wp_skip <| t_norm <| wp_seq <| wp_block <| sg ?_
  obtain ⟨x20, e21, hF⟩ := bnd hF
  obtain ⟨b22, o23, es24, hl25, rr26, at27, yy28⟩ := idxAt sl_23 hc_0 e21 (P := Tryz.prog) (X := .tmp 6) (I := .tmp 8) (kd := .i64) (ev_of E rfl) (ev_of E rfl)
  obtain ⟨c29, rfl, h30⟩ := pL_cell rr26
  refine lv E ok (yy28 _ _) fun a E => lv E ok (y_load one_66 rfl (Holds.ro at27)) fun a E => lv E ok (y_assign rfl) fun a E => wn <| c_region <| lv E ok (y_move rfl) fun a E => lv E ok (y_move rfl) fun a E => ?_
  obtain ⟨l31, e32, hF⟩ := bnd hF
  refine l_app (R := pRelation) E ok 0 mRelation sl_66 Tryz.underlying66 rfl h17 (SrcOK.ofL h30 ok) e32 ⟨_, zero_69, rfl⟩ rfl rfl rfl rfl fun c33 M34 a w E ok h35 => lv E ok (y_assign rfl) fun a E => wpList_nil <| b_norm <| t_norm <| c_region <| lv E ok (y_add rfl rfl (InR.inc r18 (pL_InR hc_0) hc19)) fun a E => lv E ok (y_move rfl) fun a E => ?_
  refine wpList_nil ?_
  obtain rfl := sj hF
  exact step_n ⟨c33, M34, ok, E.keep [3, 6, 7, 8], h35, (InR.inc r18 (pL_InR hc_0) hc19)⟩

def decide_reduced_R (u : World) (m0 : Mem) (S : Segs) (r : Int) (a : Act) (w : World) : Prop :=
  Ok u m0 S w ∧ a.defers = [] ∧ RVs Tryz.prog a w [.t 4 (.int .i64 r)] ∧ InR .i64 r
set_option maxHeartbeats 4000000 in
set_option maxRecDepth 100000 in
theorem decide_reduced_w {u : World} {m0 : Mem} {S : Segs} {w : World} (N : Nat) (vr_0 : List Value) (r_0 : Relation) (hr_0 : pRelation m0 vr_0 r_0) (n_1 : Int) (rn_1 : InR .i64 n_1) {r : Int} (hF : decide_reduced N r_0 n_1 = some r) (hG : Glob u) (ok : Ok u m0 S w) :
    Calls Tryz.prog 120 [.agg vr_0.toArray, Value.int .i64 n_1].toArray w fun e w' => (e = .returned (.int .i64 r) ∧ Ok u m0 S w') ∧ InR .i64 r := by
  obtain ⟨c3, rfl, r1, r2, h4⟩ := hr_0
  have hb0 := ok.base
  have le_m0 := Mem.le.refl m0
  unfold decide_reduced at hF
  have fin : ∀ a w, decide_reduced_R u m0 S r a w → bodyPost Tryz.prog Tryz.f120 (fun e w' => (e = .returned (.int .i64 r) ∧ Ok u m0 S w') ∧ InR .i64 r) .ret a w := by
    intro a w h
    obtain ⟨ok, hd, hrv, h0⟩ := h
    exact c_ret2 [.t 4 (.int .i64 r)] hd rfl hrv ⟨⟨rfl, ok⟩, h0⟩
  refine enter Tryz.func120 rfl rfl rfl fun a E => sg <| l_box E ok rfl rfl rfl fun b5 a w E ok => lv E ok (y_assign rfl) fun a E => wn <| wp_seq ?_
  refine sg <| lv E ok (y_fieldAddr fo_69_1 rfl) fun a E => lv E ok (y_load one_3 rfl (Holds.own 0 rfl rfl)) fun a E => lv E ok (y_neq rfl rfl) fun a E => wn <| c_if E rfl (fun hc6 => ?_) (fun hc6 => ?_)
  · replace hF := cond_t hc6 hF
    refine sg <| lv E ok (y_move rfl) fun a E => lv E ok (y_fieldAddr fo_69_1 rfl) fun a E => lv E ok (y_load one_3 rfl (Holds.own 0 rfl rfl)) fun a E => ?_
    obtain ⟨q7, e8, hF⟩ := bnd hF
    refine lv E ok (y_rm rfl rfl e8) fun a E => lv E ok (y_assign rfl) fun a E => wn <| wp_ret <| t_ret ?_
    have hret : decide_reduced_R u m0 S q7 a w := ⟨ok.drop, E.d, ⟨rv_t E rfl, trivial⟩, (rm_InR e8 rn_1)⟩
    obtain rfl := sj hF
    exact fin _ _ hret
  replace hF := cond_f hc6 hF
  refine wp_skip <| t_norm <| sg <| lv E ok (y_move rfl) fun a E => lv E ok (y_loadAgg (cs := [(Value.int .i64 r_0.Operand), (Value.int .i64 r_0.Mod), (Value.bool r_0.Not), c3]) agg_69 rfl rfl (Holds.own 0 rfl rfl)) fun a E => ?_
  obtain ⟨r9, e10, hF⟩ := bnd hF
  refine l_call E go_38 rfl (decide_greatest_w N _ r_0 ⟨_, rfl, r1, r2, h4⟩ e10 hG ok) rfl rfl ?_
  rintro _ w ⟨⟨rfl, ok⟩, r11⟩
  refine ⟨_, rfl, fun a E => ?_⟩
  refine lv E ok (y_addw rfl rfl) fun a E => lv E ok (y_min rfl rfl) fun a E => lv E ok (y_assign rfl) fun a E => wn <| wp_ret ?_
  have hret : decide_reduced_R u m0 S (min n_1 (IntKind.wrap .i64 (r9 + 1))) a w := ⟨ok.drop, E.d, ⟨rv_t E rfl, trivial⟩, (InR.min rn_1 (InR.wrap _ _))⟩
  obtain rfl := sj hF
  exact fin _ _ hret

theorem strconv_ItoaT_w {u : World} {m0 : Mem} {S : Segs} {w : World} (N : Nat) (p0_0 : Int) (rp0_0 : InR .i64 p0_0) {r : (List UInt8)} (hF : strconv_ItoaT N p0_0 = some r) (hG : Glob u) (hTb : Tab u) (ok : Ok u m0 S w) :
    Calls Tryz.prog 122 [Value.int .i64 p0_0].toArray w fun e w' => (e = .returned (.string (bs r)) ∧ Ok u m0 S w') ∧ r.length ≤ LIMS := lib_ItoaT Tryz.laysM171 hTb p0_0 rp0_0 hF ok

def decide_onWhole_R (u : World) (m0 : Mem) (S : Segs) (r : Bool) (a : Act) (w : World) : Prop :=
  Ok u m0 S w ∧ a.defers = [] ∧ RVs Tryz.prog a w [.t 2 (.bool r)]
set_option maxHeartbeats 4000000 in
set_option maxRecDepth 100000 in
theorem decide_onWhole_w {u : World} {m0 : Mem} {S : Segs} {w : World} (N : Nat) (vr_0 : List Value) (r_0 : Relation) (hr_0 : pRelation m0 vr_0 r_0) {r : Bool} (hF : decide_onWhole N r_0 = some r) (hG : Glob u) (ok : Ok u m0 S w) :
    Calls Tryz.prog 123 [.agg vr_0.toArray].toArray w fun e w' => (e = .returned (.bool r) ∧ Ok u m0 S w') := by
  obtain ⟨c3, rfl, r1, r2, h4⟩ := hr_0
  have hb0 := ok.base
  have le_m0 := Mem.le.refl m0
  unfold decide_onWhole at hF
  have fin : ∀ a w, decide_onWhole_R u m0 S r a w → bodyPost Tryz.prog Tryz.f123 (fun e w' => (e = .returned (.bool r) ∧ Ok u m0 S w')) .ret a w := by
    intro a w h
    obtain ⟨ok, hd, hrv⟩ := h
    exact c_ret2 [.t 2 (.bool r)] hd rfl hrv ⟨rfl, ok⟩
  refine enter Tryz.func123 rfl rfl rfl fun a E => sg <| l_box E ok rfl rfl rfl fun b5 a w E ok => lv E ok (y_assign rfl) fun a E => wn <| wp_seq ?_
  refine c_region <| lv E ok (y_fieldAddr fo_69_0 rfl) fun a E => lv E ok (y_load one_3 rfl (Holds.own 0 rfl rfl)) fun a E => lv E ok (y_eql rfl rfl) fun a E => lv E ok (y_move rfl) fun a E => bsplit (r_0.Operand == 2) (fun hc6 => ?_) (fun hc6 => ?_)
  · replace hF := cond_t hc6 hF
    replace E := E.upd 6 hc6 rfl
    refine ls E fun a E => ls E fun a E => ls E fun a E => lv E ok (y_pickT rfl rfl) fun a E => lv E ok (y_assign rfl) fun a E => wn <| wp_ret ?_
    have hret : decide_onWhole_R u m0 S true a w := ⟨ok.drop, E.d, ⟨rv_t E rfl, trivial⟩⟩
    obtain rfl := sj hF
    exact fin _ _ hret
  replace hF := cond_f hc6 hF
  replace E := E.upd 6 hc6 rfl
  refine lv E ok (y_fieldAddr fo_69_0 rfl) fun a E => lv E ok (y_load one_3 rfl (Holds.own 0 rfl rfl)) fun a E => lv E ok (y_eql rfl rfl) fun a E => lv E ok (y_pickF rfl rfl) fun a E => lv E ok (y_assign rfl) fun a E => wn <| wp_ret ?_
  have hret : decide_onWhole_R u m0 S (r_0.Operand == 1) a w := ⟨ok.drop, E.d, ⟨rv_t E rfl, trivial⟩⟩
  obtain rfl := sj hF
  exact fin _ _ hret

def decide_keep_R (u : World) (m0 : Mem) (S : Segs) (r : (List (Part))) (a : Act) (w : World) : Prop :=
  ∃ m1 v0 M0, m0.le m1 ∧ Ok u m1 (M0 :: S) w ∧ a.defers = [] ∧ RVs Tryz.prog a w [.t 4 v0] ∧ ORow 181 2 pPart m1 v0 r M0
set_option maxHeartbeats 4000000 in
set_option maxRecDepth 100000 in
theorem decide_keep_w {u : World} {m0 : Mem} {S : Segs} {w : World} (N : Nat) (vl_0 : Value) (l_0 : List (Part)) {Ml_0 : List (Nat × Obj)} (hl_0 : ORow 181 2 pPart m0 vl_0 l_0 Ml_0) (vp_1 : List Value) (p_1 : Part) (hp_1 : pPart m0 vp_1 p_1) {r : (List (Part))} (hF : decide_keep N l_0 p_1 = some r) (hG : Glob u) (ok : Ok u m0 (Ml_0 :: S) w) :
    Calls Tryz.prog 124 [vl_0, .agg vp_1.toArray].toArray w fun e w' => ∃ m1 v0 M0, e = .returned v0 ∧ m0.le m1 ∧ Ok u m1 (M0 :: S) w' ∧ ORow 181 2 pPart m1 v0 r M0 := by
  obtain ⟨rfl, r1, l2⟩ := hp_1
  have le_m0 := Mem.le.refl m0
  unfold decide_keep at hF
  have fin : ∀ a w, decide_keep_R u m0 S r a w → bodyPost Tryz.prog Tryz.f124 (fun e w' => ∃ m1 v0 M0, e = .returned v0 ∧ m0.le m1 ∧ Ok u m1 (M0 :: S) w' ∧ ORow 181 2 pPart m1 v0 r M0) .ret a w := by
    intro a w h
    obtain ⟨m1, v0, M0, hle, ok, hd, hrv, h0⟩ := h
    exact c_ret2 [.t 4 v0] hd rfl hrv ⟨m1, v0, M0, rfl, hle, ok, h0⟩
  refine enter Tryz.func124 rfl rfl rfl fun a E => sg <| l_box E ok rfl rfl rfl fun b3 a w E ok => lv E ok (y_assign rfl) fun a E => wn <| wp_seq ?_
  refine sg <| lv E ok (y_move rfl) fun a E => lv E ok (y_lenR sl_173 hl_0 rfl) fun a E => lv E ok (y_move rfl) fun a E => wn <| wp_block ?_
  obtain ⟨o5, hL, hF⟩ := bnd hF
  refine c_loop _ (fun (s : Int) a w => Ok u m0 ([(b3, Obj.cells [(Value.int .u64 p_1.bits), (Value.string (bs p_1.text))].toArray 181 (0, 0))] :: Ml_0 :: S) w ∧ Env 33 a [(0, vl_0), (3, (Value.pointer (some ⟨b3, 0, none⟩))), (7, vl_0), (8, (Value.int .i64 (l_0.length : Int))), (9, (Value.int .i64 s))] ∧ InR .i64 s) (fun (b : (Unit ⊕ ((List (Part))))) e a w => (Sum.elim (fun b33 => e = (.exit 0) ∧ Ok u m0 ([(b3, Obj.cells [(Value.int .u64 p_1.bits), (Value.string (bs p_1.text))].toArray 181 (0, 0))] :: Ml_0 :: S) w ∧ Env 33 a [(0, vl_0), (3, (Value.pointer (some ⟨b3, 0, none⟩)))]) (fun b34 => e = .ret ∧ decide_keep_R u m0 S b34 a w)) b) ?_ ?_ N _ a w hL ⟨ok, E.keep [0, 3, 7, 8, 9], (show InR .i64 (0) by decide)⟩
  rotate_left
  · intro e a w _ hO
    rcases o5 with o5 | o5
    rotate_left
    · replace hF := elim_r hF
      obtain ⟨rfl, hret⟩ := hO
      refine b_ret <| t_ret ?_
      obtain rfl := sj hF
      exact fin _ _ hret
    replace hF := elim_l hF
    obtain ⟨rfl, ok, E⟩ := hO
    refine b_hit <| t_norm <| sg <| lv E ok (y_move rfl) fun a E => lv E ok (y_loadAgg (cs := [(Value.int .u64 p_1.bits), (Value.string (bs p_1.text))]) agg_181 rfl rfl (Holds.own 0 rfl rfl)) fun a E => l_slit (R := pPart) (xo := [.tmp 30]) (xs := ([p_1] : List (Part))) E ok sl_173 zero_181 rfl ⟨⟨_, rfl, rfl, ⟨rfl, r1, l2⟩⟩, trivial⟩ rfl rfl rfl rfl fun c25 M26 a w E ok h27 => ?_
    obtain ⟨l28, e29, hF⟩ := bnd hF
    refine l_app (R := pPart) E ok 2 mPart sl_173 Tryz.underlying173 rfl hl_0 (SrcOK.ofRow h27 0 rfl ok) e29 ⟨_, zero_181, rfl⟩ rfl rfl rfl rfl fun c30 M31 a w E ok h32 => lv E ok (y_assign rfl) fun a E => wn <| wp_ret ?_
    have hret : decide_keep_R u m0 S l28 a w := ⟨m0, c30, M31, le_m0, ok.drop.drop, E.d, ⟨rv_t E rfl, trivial⟩, h32⟩
    obtain rfl := sj hF
    exact fin _ _ hret
  rintro x_7 a w r ⟨ok, E, r8⟩ hF
  replace hF : decide_keep_b1 N l_0 p_1 x_7 = some r := hF
  unfold decide_keep_b1 at hF
  refine sg <| lv E ok (y_lss rfl rfl) fun a E => wn <| wp_seq <| c_if E rfl (fun hc9 => ?_) (fun hc9 => ?_)
  rotate_left
  · replace hF := cond_f hc9 hF
    refine wp_exit <| t_exit ?_
    obtain rfl := sj hF
    exact step_o (by nofun) (sl ⟨rfl, ⟨ok, E.keep [0, 3]⟩⟩)
  replace hF := cond_t hc9 hF
  refine wp_skip <| t_norm <| wp_seq <| wp_block <| sg ?_
  obtain ⟨x10, e11, hF⟩ := bnd hF
  obtain ⟨b12, o13, hp14, yy15⟩ := orowAt sl_173 hl_0 e11 (P := Tryz.prog) (X := .tmp 7) (I := .tmp 9) (kd := .i64) (ev_of E rfl) (ev_of E rfl)
  refine lv E ok (yy15 _ _) fun a E => ?_
  obtain ⟨es16, hl17, rr18, hh19⟩ := orowGet hl_0 e11 hp14 (by decide)
  obtain ⟨rfl, r20, l21⟩ := rr18
  refine lv E ok (y_loadAgg (cs := [(Value.int .u64 x10.bits), (Value.string (bs x10.text))]) agg_181 rfl rfl (hh19 _ _ _ 1 rfl)) fun a E => l_alloc E ok zero_181 rfl rfl fun b22 a w E ok => l_storeB E ok 0 rfl rfl rfl inf_181 rfl rfl ⟨rfl, rfl, trivial⟩ rfl rfl fun w ok => wn <| sg <| lv E ok (y_fieldAddr fo_181_0 rfl) fun a E => ?_
  refine lv E ok (y_load one_178 rfl (Holds.own 0 rfl rfl)) fun a E => lv E ok (y_fieldAddr fo_181_0 rfl) fun a E => lv E ok (y_load one_178 rfl (Holds.own 1 rfl rfl)) fun a E => lv E ok (y_eql rfl rfl) fun a E => lv E ok (y_move rfl) fun a E => bsplit (x10.bits == p_1.bits) (fun hc23 => ?_) (fun hc23 => ?_)
  rotate_left
  · replace hF := cond_f hc23 hF
    replace E := E.upd 18 hc23 rfl
    refine ls E fun a E => ls E fun a E => ls E fun a E => ls E fun a E => ls E fun a E => ls E fun a E => ls E fun a E => lv E ok (y_pickF rfl rfl) fun a E => ?_
    refine wn <| c_if E rfl (fun h => by cases h) (fun _ => ?_)
    refine wp_skip <| b_norm <| t_norm <| c_region <| lv E ok (y_add rfl rfl (InR.inc r8 (ORow.InR hl_0) hc9)) fun a E => lv E ok (y_move rfl) fun a E => wpList_nil ?_
    obtain rfl := sj hF
    exact step_n ⟨(ok.pk 3 [1, 2] rfl (by decide)), E.keep [0, 3, 7, 8, 9], (InR.inc r8 (ORow.InR hl_0) hc9)⟩
  replace hF := cond_t hc23 hF
  replace E := E.upd 18 hc23 rfl
  refine lv E ok (y_fieldAddr fo_181_1 rfl) fun a E => lv E ok (y_load one_9 rfl (Holds.own 0 rfl rfl)) fun a E => lv E ok (y_slen Tryz.underlying9 rfl) fun a E => lv E ok (y_fieldAddr fo_181_1 rfl) fun a E => lv E ok (y_load one_9 rfl (Holds.own 1 rfl rfl)) fun a E => lv E ok (y_slen Tryz.underlying9 rfl) fun a E => lv E ok (y_eql rfl rfl) fun a E => lv E ok (y_pickT rfl rfl) fun a E => ?_
  refine wn <| c_if E rfl (fun hc24 => ?_) (fun hc24 => ?_)
  rotate_left
  · replace hF := cond_f hc24 hF
    refine wp_skip <| b_norm <| t_norm <| c_region <| lv E ok (y_add rfl rfl (InR.inc r8 (ORow.InR hl_0) hc9)) fun a E => lv E ok (y_move rfl) fun a E => wpList_nil ?_
    obtain rfl := sj hF
    exact step_n ⟨(ok.pk 3 [1, 2] rfl (by decide)), E.keep [0, 3, 7, 8, 9], (InR.inc r8 (ORow.InR hl_0) hc9)⟩
  replace hF := cond_t hc24 hF
  refine sg <| lv E ok (y_move rfl) fun a E => lv E ok (y_assign rfl) fun a E => wn <| wp_ret <| b_ret ?_
  refine t_ret ?_
  have hret : decide_keep_R u m0 S l_0 a w := ⟨m0, vl_0, Ml_0, le_m0, ok.drop.drop, E.d, ⟨rv_t E rfl, trivial⟩, hl_0⟩
  obtain rfl := sj hF
  exact step_o (by nofun) (sr ⟨rfl, hret⟩)

def decide_tracker_holds_R (u : World) (m0 : Mem) (S : Segs) (r : Bool) (a : Act) (w : World) : Prop :=
  Ok u m0 S w ∧ a.defers = [] ∧ RVs Tryz.prog a w [.t 4 (.bool r)]
set_option maxHeartbeats 4000000 in
set_option maxRecDepth 100000 in
theorem decide_tracker_holds_w {u : World} {m0 : Mem} {S : Segs} {w : World} (N : Nat) (vt_0 : List Value) (t_0 : Tracker) (ht_0 : pTracker m0 vt_0 t_0) (vr_1 : List Value) (r_1 : Relation) (hr_1 : pRelation m0 vr_1 r_1) {r : Bool} (hF : decide_tracker_holds N t_0 r_1 = some r) (hG : Glob u) (ok : Ok u m0 S w) :
    Calls Tryz.prog 54 [.agg vt_0.toArray, .agg vr_1.toArray].toArray w fun e w' => (e = .returned (.bool r) ∧ Ok u m0 S w') := by
  obtain ⟨rfl, r1, r2⟩ := ht_0
  obtain ⟨c5, rfl, r3, r4, h6⟩ := hr_1
  have hb0 := ok.base
  have le_m0 := Mem.le.refl m0
  unfold decide_tracker_holds at hF
  have fin : ∀ a w, decide_tracker_holds_R u m0 S r a w → bodyPost Tryz.prog Tryz.f54 (fun e w' => (e = .returned (.bool r) ∧ Ok u m0 S w')) .ret a w := by
    intro a w h
    obtain ⟨ok, hd, hrv⟩ := h
    exact c_ret2 [.t 4 (.bool r)] hd rfl hrv ⟨rfl, ok⟩
  refine enter Tryz.func54 rfl rfl rfl fun a E => sg <| l_box E ok rfl rfl rfl fun b7 a w E ok => l_box E ok rfl rfl rfl fun b8 a w E ok => lv E ok (y_assign rfl) fun a E => wn ?_
  refine wp_seq <| sg <| lv E ok (y_fieldAddr fo_69_0 rfl) fun a E => lv E ok (y_load one_3 rfl (Holds.own 0 rfl rfl)) fun a E => lv E ok (y_eql rfl rfl) fun a E => lv E ok (y_move rfl) fun a E => bsplit (r_1.Operand == 1) (fun hc9 => ?_) (fun hc9 => ?_)
  rotate_left
  · as_aux_lemma =>
      replace hF := cond_f hc9 hF
      replace E := E.upd 10 hc9 rfl
      refine ls E fun a E => ls E fun a E => ls E fun a E => lv E ok (y_pickF rfl rfl) fun a E => wn <| c_if E rfl (fun h => by cases h) (fun _ => ?_)
      refine wp_skip <| t_norm <| wp_seq <| sg <| lv E ok (y_fieldAddr fo_69_3 rfl) fun a E => lv E ok (y_load one_67 rfl (Holds.own 0 rfl rfl)) fun a E => lv E ok (y_lenL sl_67 h6 rfl) fun a E => ?_
      refine lv E ok (y_move rfl) fun a E => wn <| wp_block ?_
      obtain ⟨o34, hL, hF⟩ := bnd hF
      refine c_loop _ (fun (s : Int) a w => Ok u m0 ([(b8, Obj.cells [(Value.int .i64 r_1.Operand), (Value.int .i64 r_1.Mod), (Value.bool r_1.Not), c5].toArray 69 (0, 0))] :: [(b7, Obj.cells [(Value.int .i64 t_0.a), (Value.int .i64 t_0.b)].toArray 86 (0, 0))] :: S) w ∧ Env 42 a [(2, (Value.pointer (some ⟨b7, 0, none⟩))), (3, (Value.pointer (some ⟨b8, 0, none⟩))), (18, c5), (19, (Value.int .i64 (r_1.Spans.length : Int))), (20, (Value.int .i64 s))] ∧ InR .i64 s) (fun (b : (Unit ⊕ Bool)) e a w => (Sum.elim (fun b53 => e = (.exit 0) ∧ Ok u m0 ([(b8, Obj.cells [(Value.int .i64 r_1.Operand), (Value.int .i64 r_1.Mod), (Value.bool r_1.Not), c5].toArray 69 (0, 0))] :: [(b7, Obj.cells [(Value.int .i64 t_0.a), (Value.int .i64 t_0.b)].toArray 86 (0, 0))] :: S) w ∧ Env 42 a [(3, (Value.pointer (some ⟨b8, 0, none⟩)))]) (fun b54 => e = .ret ∧ decide_tracker_holds_R u m0 S b54 a w)) b) ?_ ?_ N _ a w hL ⟨ok, E.keep [2, 3, 18, 19, 20], (show InR .i64 (0) by decide)⟩
      rotate_left
      · intro e a w _ hO
        rcases o34 with o34 | o34
        rotate_left
        · replace hF := elim_r hF
          obtain ⟨rfl, hret⟩ := hO
          refine b_ret <| t_ret ?_
          obtain rfl := sj hF
          exact fin _ _ hret
        replace hF := elim_l hF
        obtain ⟨rfl, ok, E⟩ := hO
        refine b_hit <| t_norm <| sg <| lv E ok (y_fieldAddr fo_69_2 rfl) fun a E => lv E ok (y_load one_4 rfl (Holds.own 0 rfl rfl)) fun a E => lv E ok (y_assign rfl) fun a E => wpList_nil ?_
        refine t_norm <| wp_ret ?_
        have hret : decide_tracker_holds_R u m0 S r_1.Not a w := ⟨ok.drop.drop, E.d, ⟨rv_t E rfl, trivial⟩⟩
        obtain rfl := sj hF
        exact fin _ _ hret
      rintro x_36 a w r ⟨ok, E, r37⟩ hF
      replace hF : decide_tracker_holds_b2 N t_0 r_1 x_36 = some r := hF
      unfold decide_tracker_holds_b2 at hF
      refine sg <| lv E ok (y_lss rfl rfl) fun a E => wn <| wp_seq <| c_if E rfl (fun hc38 => ?_) (fun hc38 => ?_)
      rotate_left
      · replace hF := cond_f hc38 hF
        refine wp_exit <| t_exit ?_
        obtain rfl := sj hF
        exact step_o (by nofun) (sl ⟨rfl, ⟨ok, E.keep [3]⟩⟩)
      replace hF := cond_t hc38 hF
      refine wp_skip <| t_norm <| wp_seq <| wp_block <| sg ?_
      obtain ⟨x39, e40, hF⟩ := bnd hF
      obtain ⟨b41, o42, es43, hl44, rr45, at46, yy47⟩ := idxAt sl_67 h6 e40 (P := Tryz.prog) (X := .tmp 18) (I := .tmp 20) (kd := .i64) (ev_of E rfl) (ev_of E rfl)
      obtain ⟨rfl, r48, r49⟩ := rr45
      refine lv E ok (yy47 _ _) fun a E => lv E ok (y_loadAgg (cs := [(Value.int .i64 x39.From), (Value.int .i64 x39.To)]) agg_126 rfl rfl (Holds.ro at46)) fun a E => l_alloc E ok zero_126 rfl rfl fun b50 a w E ok => l_storeB E ok 0 rfl rfl rfl inf_126 rfl rfl ⟨rfl, rfl, trivial⟩ rfl rfl fun w ok => wn <| sg ?_
      refine lv E ok (y_fieldAddr fo_86_0 rfl) fun a E => lv E ok (y_load one_3 rfl (Holds.own 2 rfl rfl)) fun a E => lv E ok (y_fieldAddr fo_126_0 rfl) fun a E => lv E ok (y_load one_3 rfl (Holds.own 0 rfl rfl)) fun a E => lv E ok (y_geq rfl rfl) fun a E => lv E ok (y_move rfl) fun a E => bsplit (decide (t_0.a ≥ x39.From)) (fun hc51 => ?_) (fun hc51 => ?_)
      rotate_left
      · replace hF := cond_f hc51 hF
        replace E := E.upd 29 hc51 rfl
        refine ls E fun a E => ls E fun a E => ls E fun a E => ls E fun a E => ls E fun a E => lv E ok (y_pickF rfl rfl) fun a E => wn ?_
        refine c_if E rfl (fun h => by cases h) (fun _ => ?_)
        refine wp_skip <| b_norm <| t_norm <| c_region <| lv E ok (y_add rfl rfl (InR.inc r37 (pL_InR h6) hc38)) fun a E => lv E ok (y_move rfl) fun a E => wpList_nil ?_
        obtain rfl := sj hF
        exact step_n ⟨(ok.pk 3 [1, 2] rfl (by decide)), E.keep [2, 3, 18, 19, 20], (InR.inc r37 (pL_InR h6) hc38)⟩
      replace hF := cond_t hc51 hF
      replace E := E.upd 29 hc51 rfl
      refine lv E ok (y_fieldAddr fo_86_0 rfl) fun a E => lv E ok (y_load one_3 rfl (Holds.own 2 rfl rfl)) fun a E => lv E ok (y_fieldAddr fo_126_1 rfl) fun a E => lv E ok (y_load one_3 rfl (Holds.own 0 rfl rfl)) fun a E => lv E ok (y_leq rfl rfl) fun a E => lv E ok (y_pickT rfl rfl) fun a E => wn ?_
      refine c_if E rfl (fun hc52 => ?_) (fun hc52 => ?_)
      rotate_left
      · replace hF := cond_f hc52 hF
        refine wp_skip <| b_norm <| t_norm <| c_region <| lv E ok (y_add rfl rfl (InR.inc r37 (pL_InR h6) hc38)) fun a E => lv E ok (y_move rfl) fun a E => wpList_nil ?_
        obtain rfl := sj hF
        exact step_n ⟨(ok.pk 3 [1, 2] rfl (by decide)), E.keep [2, 3, 18, 19, 20], (InR.inc r37 (pL_InR h6) hc38)⟩
      replace hF := cond_t hc52 hF
      refine sg <| lv E ok (y_fieldAddr fo_69_2 rfl) fun a E => lv E ok (y_load one_4 rfl (Holds.own 1 rfl rfl)) fun a E => lv E ok (y_not rfl) fun a E => lv E ok (y_assign rfl) fun a E => wn ?_
      refine wp_ret <| b_ret <| t_ret ?_
      have hret : decide_tracker_holds_R u m0 S (!r_1.Not) a w := ⟨ok.drop.drop.drop, E.d, ⟨rv_t E rfl, trivial⟩⟩
      obtain rfl := sj hF
      exact step_o (by nofun) (sr ⟨rfl, hret⟩)
  replace hF := cond_t hc9 hF
  replace E := E.upd 10 hc9 rfl
  refine lv E ok (y_fieldAddr fo_86_1 rfl) fun a E => lv E ok (y_load one_3 rfl (Holds.own 1 rfl rfl)) fun a E => lv E ok (y_eql rfl rfl) fun a E => lv E ok (y_pickT rfl rfl) fun a E => wn <| c_if E rfl (fun hc10 => ?_) (fun hc10 => ?_)
  · replace hF := cond_t hc10 hF
    refine sg <| lv E ok (y_fieldAddr fo_69_2 rfl) fun a E => lv E ok (y_load one_4 rfl (Holds.own 0 rfl rfl)) fun a E => lv E ok (y_assign rfl) fun a E => wn <| wp_ret ?_
    refine t_ret ?_
    have hret : decide_tracker_holds_R u m0 S r_1.Not a w := ⟨ok.drop.drop, E.d, ⟨rv_t E rfl, trivial⟩⟩
    obtain rfl := sj hF
    exact fin _ _ hret
  replace hF := cond_f hc10 hF
  refine wp_skip <| t_norm <| wp_seq <| sg <| lv E ok (y_fieldAddr fo_69_3 rfl) fun a E => lv E ok (y_load one_67 rfl (Holds.own 0 rfl rfl)) fun a E => lv E ok (y_lenL sl_67 h6 rfl) fun a E => ?_
  refine lv E ok (y_move rfl) fun a E => wn <| wp_block ?_
  obtain ⟨o12, hL, hF⟩ := bnd hF
  refine c_loop _ (fun (s : Int) a w => Ok u m0 ([(b8, Obj.cells [(Value.int .i64 r_1.Operand), (Value.int .i64 r_1.Mod), (Value.bool r_1.Not), c5].toArray 69 (0, 0))] :: [(b7, Obj.cells [(Value.int .i64 t_0.a), (Value.int .i64 t_0.b)].toArray 86 (0, 0))] :: S) w ∧ Env 42 a [(2, (Value.pointer (some ⟨b7, 0, none⟩))), (3, (Value.pointer (some ⟨b8, 0, none⟩))), (18, c5), (19, (Value.int .i64 (r_1.Spans.length : Int))), (20, (Value.int .i64 s))] ∧ InR .i64 s) (fun (b : (Unit ⊕ Bool)) e a w => (Sum.elim (fun b31 => e = (.exit 0) ∧ Ok u m0 ([(b8, Obj.cells [(Value.int .i64 r_1.Operand), (Value.int .i64 r_1.Mod), (Value.bool r_1.Not), c5].toArray 69 (0, 0))] :: [(b7, Obj.cells [(Value.int .i64 t_0.a), (Value.int .i64 t_0.b)].toArray 86 (0, 0))] :: S) w ∧ Env 42 a [(3, (Value.pointer (some ⟨b8, 0, none⟩)))]) (fun b32 => e = .ret ∧ decide_tracker_holds_R u m0 S b32 a w)) b) ?_ ?_ N _ a w hL ⟨ok, E.keep [2, 3, 18, 19, 20], (show InR .i64 (0) by decide)⟩
  rotate_left
  · intro e a w _ hO
    rcases o12 with o12 | o12
    rotate_left
    · replace hF := elim_r hF
      obtain ⟨rfl, hret⟩ := hO
      refine b_ret <| t_ret ?_
      obtain rfl := sj hF
      exact fin _ _ hret
    replace hF := elim_l hF
    obtain ⟨rfl, ok, E⟩ := hO
    refine b_hit <| t_norm <| sg <| lv E ok (y_fieldAddr fo_69_2 rfl) fun a E => lv E ok (y_load one_4 rfl (Holds.own 0 rfl rfl)) fun a E => lv E ok (y_assign rfl) fun a E => wpList_nil ?_
    refine t_norm <| wp_ret ?_
    have hret : decide_tracker_holds_R u m0 S r_1.Not a w := ⟨ok.drop.drop, E.d, ⟨rv_t E rfl, trivial⟩⟩
    obtain rfl := sj hF
    exact fin _ _ hret
  rintro x_14 a w r ⟨ok, E, r15⟩ hF
  replace hF : decide_tracker_holds_b1 N t_0 r_1 x_14 = some r := hF
  unfold decide_tracker_holds_b1 at hF
  refine sg <| lv E ok (y_lss rfl rfl) fun a E => wn <| wp_seq <| c_if E rfl (fun hc16 => ?_) (fun hc16 => ?_)
  rotate_left
  · replace hF := cond_f hc16 hF
    refine wp_exit <| t_exit ?_
    obtain rfl := sj hF
    exact step_o (by nofun) (sl ⟨rfl, ⟨ok, E.keep [3]⟩⟩)
  replace hF := cond_t hc16 hF
  refine wp_skip <| t_norm <| wp_seq <| wp_block <| sg ?_
  obtain ⟨x17, e18, hF⟩ := bnd hF
  obtain ⟨b19, o20, es21, hl22, rr23, at24, yy25⟩ := idxAt sl_67 h6 e18 (P := Tryz.prog) (X := .tmp 18) (I := .tmp 20) (kd := .i64) (ev_of E rfl) (ev_of E rfl)
  obtain ⟨rfl, r26, r27⟩ := rr23
  refine lv E ok (yy25 _ _) fun a E => lv E ok (y_loadAgg (cs := [(Value.int .i64 x17.From), (Value.int .i64 x17.To)]) agg_126 rfl rfl (Holds.ro at24)) fun a E => l_alloc E ok zero_126 rfl rfl fun b28 a w E ok => l_storeB E ok 0 rfl rfl rfl inf_126 rfl rfl ⟨rfl, rfl, trivial⟩ rfl rfl fun w ok => wn <| sg ?_
  refine lv E ok (y_fieldAddr fo_86_0 rfl) fun a E => lv E ok (y_load one_3 rfl (Holds.own 2 rfl rfl)) fun a E => lv E ok (y_fieldAddr fo_126_0 rfl) fun a E => lv E ok (y_load one_3 rfl (Holds.own 0 rfl rfl)) fun a E => lv E ok (y_geq rfl rfl) fun a E => lv E ok (y_move rfl) fun a E => bsplit (decide (t_0.a ≥ x17.From)) (fun hc29 => ?_) (fun hc29 => ?_)
  rotate_left
  · replace hF := cond_f hc29 hF
    replace E := E.upd 29 hc29 rfl
    refine ls E fun a E => ls E fun a E => ls E fun a E => ls E fun a E => ls E fun a E => lv E ok (y_pickF rfl rfl) fun a E => wn ?_
    refine c_if E rfl (fun h => by cases h) (fun _ => ?_)
    refine wp_skip <| b_norm <| t_norm <| c_region <| lv E ok (y_add rfl rfl (InR.inc r15 (pL_InR h6) hc16)) fun a E => lv E ok (y_move rfl) fun a E => wpList_nil ?_
    obtain rfl := sj hF
    exact step_n ⟨(ok.pk 3 [1, 2] rfl (by decide)), E.keep [2, 3, 18, 19, 20], (InR.inc r15 (pL_InR h6) hc16)⟩
  replace hF := cond_t hc29 hF
  replace E := E.upd 29 hc29 rfl
  refine lv E ok (y_fieldAddr fo_86_0 rfl) fun a E => lv E ok (y_load one_3 rfl (Holds.own 2 rfl rfl)) fun a E => lv E ok (y_fieldAddr fo_126_1 rfl) fun a E => lv E ok (y_load one_3 rfl (Holds.own 0 rfl rfl)) fun a E => lv E ok (y_leq rfl rfl) fun a E => lv E ok (y_pickT rfl rfl) fun a E => wn ?_
  refine c_if E rfl (fun hc30 => ?_) (fun hc30 => ?_)
  rotate_left
  · replace hF := cond_f hc30 hF
    refine wp_skip <| b_norm <| t_norm <| c_region <| lv E ok (y_add rfl rfl (InR.inc r15 (pL_InR h6) hc16)) fun a E => lv E ok (y_move rfl) fun a E => wpList_nil ?_
    obtain rfl := sj hF
    exact step_n ⟨(ok.pk 3 [1, 2] rfl (by decide)), E.keep [2, 3, 18, 19, 20], (InR.inc r15 (pL_InR h6) hc16)⟩
  replace hF := cond_t hc30 hF
  refine sg <| lv E ok (y_fieldAddr fo_69_2 rfl) fun a E => lv E ok (y_load one_4 rfl (Holds.own 1 rfl rfl)) fun a E => lv E ok (y_not rfl) fun a E => lv E ok (y_assign rfl) fun a E => wn ?_
  refine wp_ret <| b_ret <| t_ret ?_
  have hret : decide_tracker_holds_R u m0 S (!r_1.Not) a w := ⟨ok.drop.drop.drop, E.d, ⟨rv_t E rfl, trivial⟩⟩
  obtain rfl := sj hF
  exact step_o (by nofun) (sr ⟨rfl, hret⟩)

def decide_classes_bits_R (u : World) (m0 : Mem) (S : Segs) (pb0 : Nat) (x0 : Classes) (c1 : Value) (c3 : Value) (M4 : List (Nat × Obj)) (c6 : Value) (M7 : List (Nat × Obj)) (r : Int) (a : Act) (w : World) : Prop :=
  Ok u m0 ([(pb0, Obj.cells [c1, c3, c6].toArray 175 (0, 0))] :: M4 :: M7 :: S) w ∧ a.defers = [] ∧ RVs Tryz.prog a w [.t 6 (.int .u64 r)] ∧ InR .u64 r
set_option maxHeartbeats 4000000 in
set_option maxRecDepth 100000 in
theorem decide_classes_bits_w {u : World} {m0 : Mem} {S : Segs} {w : World} (N : Nat) (behind_1 : Bool) (vtrackers_2 : Value) (trackers_2 : List (Tracker)) (htrackers_2 : (pL 2 pTracker) m0 [vtrackers_2] trackers_2) {pb0 : Nat} {c1 : Value} {c3 : Value} {M4 : List (Nat × Obj)} {c6 : Value} {M7 : List (Nat × Obj)} (x0 : Classes) (h2 : (pL 4 pRelation) m0 [c1] x0.l) (h5 : ORow 181 2 pPart m0 c3 x0.wholes M4) (h8 : ORow 181 2 pPart m0 c6 x0.fraction M7) {r : Int} (hF : decide_classes_bits N behind_1 trackers_2 x0 = some r) (hG : Glob u) (ok : Ok u m0 ([(pb0, Obj.cells [c1, c3, c6].toArray 175 (0, 0))] :: M4 :: M7 :: S) w) :
    Calls Tryz.prog 125 [Value.pointer (some ⟨pb0, 0, none⟩), Value.bool behind_1, vtrackers_2].toArray w fun e w' => (e = .returned (.int .u64 r) ∧ Ok u m0 ([(pb0, Obj.cells [c1, c3, c6].toArray 175 (0, 0))] :: M4 :: M7 :: S) w') ∧ InR .u64 r := by
  have hb0 := ok.base
  have le_m0 := Mem.le.refl m0
  unfold decide_classes_bits at hF
  have fin : ∀ a w, decide_classes_bits_R u m0 S pb0 x0 c1 c3 M4 c6 M7 r a w → bodyPost Tryz.prog Tryz.f125 (fun e w' => (e = .returned (.int .u64 r) ∧ Ok u m0 ([(pb0, Obj.cells [c1, c3, c6].toArray 175 (0, 0))] :: M4 :: M7 :: S) w') ∧ InR .u64 r) .ret a w := by
    intro a w h
    obtain ⟨ok, hd, hrv, h0⟩ := h
    exact c_ret2 [.t 6 (.int .u64 r)] hd rfl hrv ⟨⟨rfl, ok⟩, h0⟩
  refine enter Tryz.func125 rfl rfl rfl fun a E => sg <| lv E ok (y_assign rfl) fun a E => wn <| sg ?_
  refine lv E ok (y_assign rfl) fun a E => wn <| wp_seq <| sg <| lv E ok (y_move rfl) fun a E => lv E ok (y_nilCheck rfl) fun a E => ?_
  refine lv E ok (y_fieldAddr fo_175_0 rfl) fun a E => lv E ok (y_load one_66 rfl (Holds.own 0 rfl rfl)) fun a E => lv E ok (y_lenL sl_66 h2 rfl) fun a E => lv E ok (y_move rfl) fun a E => wn <| wp_block ?_
  obtain ⟨o11, hL, hF⟩ := bnd hF
  refine c_loop _ (fun (s : Int × Int) a w => Ok u m0 ([(pb0, Obj.cells [c1, c3, c6].toArray 175 (0, 0))] :: M4 :: M7 :: S) w ∧ Env 38 a [(1, (Value.bool behind_1)), (2, vtrackers_2), (7, (Value.int .u64 s.1)), (13, c1), (14, (Value.int .i64 (x0.l.length : Int))), (15, (Value.int .i64 s.2))] ∧ InR .u64 s.1 ∧ InR .i64 s.2) (fun (b : Int) e a w => e = (.exit 0) ∧ Ok u m0 ([(pb0, Obj.cells [c1, c3, c6].toArray 175 (0, 0))] :: M4 :: M7 :: S) w ∧ Env 38 a [(7, (Value.int .u64 b))] ∧ InR .u64 b) ?_ ?_ N _ a w hL ⟨ok, E.keep [1, 2, 7, 13, 14, 15], (show InR .u64 (0) by decide), (show InR .i64 (0) by decide)⟩
  rotate_left
  · intro e a w _ hO
    obtain ⟨rfl, ok, E, r52⟩ := hO
    refine b_hit <| t_norm <| sg <| lv E ok (y_move rfl) fun a E => lv E ok (y_assign rfl) fun a E => wn ?_
    refine wp_ret ?_
    have hret : decide_classes_bits_R u m0 S pb0 x0 c1 c3 M4 c6 M7 o11 a w := ⟨ok, E.d, ⟨rv_t E rfl, trivial⟩, r52⟩
    obtain rfl := sj hF
    exact fin _ _ hret
  rintro ⟨b_14, x_15⟩ a w r ⟨ok, E, r16, r17⟩ hF
  replace hF : decide_classes_bits_b1 N behind_1 trackers_2 x0 b_14 x_15 = some r := hF
  unfold decide_classes_bits_b1 at hF
  refine sg <| lv E ok (y_lss rfl rfl) fun a E => wn <| wp_seq <| c_if E rfl (fun hc18 => ?_) (fun hc18 => ?_)
  rotate_left
  · replace hF := cond_f hc18 hF
    refine wp_exit <| t_exit ?_
    obtain rfl := sj hF
    exact step_o (by nofun) (⟨rfl, ⟨ok, E.keep [7], r16⟩⟩)
  replace hF := cond_t hc18 hF
  refine wp_skip <| t_norm <| wp_seq <| wp_block <| sg <| lv E ok (y_move rfl) fun a E => ?_
  obtain ⟨x19, e20, hF⟩ := bnd hF
  obtain ⟨b21, o22, es23, hl24, rr25, at26, yy27⟩ := idxAt sl_66 h2 e20 (P := Tryz.prog) (X := .tmp 13) (I := .tmp 15) (kd := .i64) (ev_of E rfl) (ev_of E rfl)
  obtain ⟨c30, rfl, r28, r29, h31⟩ := rr25
  refine lv E ok (yy27 _ _) fun a E => lv E ok (y_loadAgg (cs := [(Value.int .i64 x19.Operand), (Value.int .i64 x19.Mod), (Value.bool x19.Not), c30]) agg_69 rfl rfl (Holds.ro at26)) fun a E => l_alloc E ok zero_69 rfl rfl fun b32 a w E ok => lv E ok (y_assign rfl) fun a E => l_storeB E ok 0 rfl rfl rfl inf_69 rfl rfl ⟨rfl, rfl, rfl, (pL_one h31), trivial⟩ rfl rfl fun w ok => wn <| wp_seq ?_
  refine c_draw (by kernel_rfl) (by kernel_rfl) ok <| qv E (y_loadAgg (cs := [(Value.int .i64 x19.Operand), (Value.int .i64 x19.Mod), (Value.bool x19.Not), c30]) agg_69 rfl rfl (Holds.own 0 rfl rfl)) fun a E => ?_
  obtain ⟨r33, e34, hF⟩ := bnd hF
  refine q_call E go_123 rfl (fun w ok => (decide_onWhole_w N _ x19 ⟨_, rfl, r28, r29, h31⟩ e34 hG ok).mono (fun _ _ h => h)) rfl rfl fun a E => qv E (y_move rfl) fun a E => qv E (y_bneq Tryz.underlying4 rfl rfl) fun a E => qv E (y_move rfl) fun a E => bsplit (r33 != behind_1) (fun hc35 => ?_) (fun hc35 => ?_)
  rotate_left
  · replace hF := cond_f hc35 hF
    replace E := E.upd 24 hc35 rfl
    refine qs E fun a E => qs E fun a E => qs E fun a E => qs E fun a E => qs E fun a E => qs E fun a E => qv E (y_pickF rfl rfl) fun a E => wpQuiet_nil ?_
    intro w ok
    refine t_norm <| c_if E rfl (fun h => by cases h) (fun _ => ?_)
    refine wp_skip <| b_norm <| t_norm <| c_region <| lv E ok (y_add rfl rfl (InR.inc r17 (pL_InR h2) hc18)) fun a E => lv E ok (y_move rfl) fun a E => wpList_nil ?_
    obtain rfl := sj hF
    exact step_n ⟨(ok.pk 4 [1, 2, 3] rfl (by decide)), E.keep [1, 2, 7, 13, 14, 15], r16, (InR.inc r17 (pL_InR h2) hc18)⟩
  replace hF := cond_t hc35 hF
  replace E := E.upd 24 hc35 rfl
  refine qv E (y_move rfl) fun a E => qv E (y_move rfl) fun a E => ?_
  obtain ⟨x36, e37, hF⟩ := bnd hF
  obtain ⟨b38, o39, es40, hl41, rr42, at43, yy44⟩ := idxAt sl_176 htrackers_2 e37 (P := Tryz.prog) (X := .tmp 25) (I := .tmp 26) (kd := .i64) (ev_of E rfl) (ev_of E rfl)
  obtain ⟨rfl, r45, r46⟩ := rr42
  refine qv E (yy44 _ _) fun a E => qv E (y_loadAgg (cs := [(Value.int .i64 x36.a), (Value.int .i64 x36.b)]) agg_86 rfl rfl (Holds.ro at43)) fun a E => qv E (y_loadAgg (cs := [(Value.int .i64 x19.Operand), (Value.int .i64 x19.Mod), (Value.bool x19.Not), c30]) agg_69 rfl rfl (Holds.own 0 rfl rfl)) fun a E => ?_
  obtain ⟨r47, e48, hF⟩ := bnd hF
  refine q_call E go_54 rfl (fun w ok => (decide_tracker_holds_w N _ x36 ⟨rfl, r45, r46⟩ _ x19 ⟨_, rfl, r28, r29, h31⟩ e48 hG ok).mono (fun _ _ h => h)) rfl rfl fun a E => qv E (y_pickT rfl rfl) fun a E => wpQuiet_nil ?_
  intro w ok
  refine t_norm <| c_if E rfl (fun hc49 => ?_) (fun hc49 => ?_)
  rotate_left
  · replace hF := cond_f hc49 hF
    refine wp_skip <| b_norm <| t_norm <| c_region <| lv E ok (y_add rfl rfl (InR.inc r17 (pL_InR h2) hc18)) fun a E => lv E ok (y_move rfl) fun a E => wpList_nil ?_
    obtain rfl := sj hF
    exact step_n ⟨(ok.pk 4 [1, 2, 3] rfl (by decide)), E.keep [1, 2, 7, 13, 14, 15], r16, (InR.inc r17 (pL_InR h2) hc18)⟩
  replace hF := cond_t hc49 hF
  refine c_region <| lv E ok (y_move rfl) fun a E => lv E ok (y_move rfl) fun a E => ?_
  obtain ⟨q50, e51, hF⟩ := bnd hF
  refine lv E ok (y_shl rfl rfl e51) fun a E => lv E ok (y_bits .or (by decide) rfl rfl) fun a E => lv E ok (y_assign rfl) fun a E => wpList_nil <| b_norm <| t_norm <| c_region <| lv E ok (y_add rfl rfl (InR.inc r17 (pL_InR h2) hc18)) fun a E => ?_
  refine lv E ok (y_move rfl) fun a E => wpList_nil ?_
  obtain rfl := sj hF
  exact step_n ⟨(ok.pk 4 [1, 2, 3] rfl (by decide)), E.keep [1, 2, 7, 13, 14, 15], (ibits_InR .or .u64 b_14 q50), (InR.inc r17 (pL_InR h2) hc18)⟩

def decide_tracker_read_R (u : World) (m0 : Mem) (S : Segs) (r : Tracker) (a : Act) (w : World) : Prop :=
  ∃ m1 v0, m0.le m1 ∧ Ok u m1 S w ∧ a.defers = [] ∧ RVs Tryz.prog a w [.c 8 86 (.agg v0.toArray)] ∧ pTracker m1 v0 r
set_option maxHeartbeats 4000000 in
set_option maxRecDepth 100000 in
theorem decide_tracker_read_w {u : World} {m0 : Mem} {S : Segs} {w : World} (N : Nat) (vt_0 : List Value) (t_0 : Tracker) (ht_0 : pTracker m0 vt_0 t_0) (vr_1 : List Value) (r_1 : Relation) (hr_1 : pRelation m0 vr_1 r_1) (behind_2 : Bool) (digit_3 : Int) (rdigit_3 : InR .i64 digit_3) {r : Tracker} (hF : decide_tracker_read N t_0 r_1 behind_2 digit_3 = some r) (hG : Glob u) (ok : Ok u m0 S w) :
    Calls Tryz.prog 88 [.agg vt_0.toArray, .agg vr_1.toArray, Value.bool behind_2, Value.int .i64 digit_3].toArray w fun e w' => ∃ m1 v0, e = .returned (.agg v0.toArray) ∧ m0.le m1 ∧ Ok u m1 S w' ∧ pTracker m1 v0 r := by
  obtain ⟨rfl, r1, r2⟩ := ht_0
  obtain ⟨c5, rfl, r3, r4, h6⟩ := hr_1
  have le_m0 := Mem.le.refl m0
  unfold decide_tracker_read at hF
  have fin : ∀ a w, decide_tracker_read_R u m0 S r a w → bodyPost Tryz.prog Tryz.f88 (fun e w' => ∃ m1 v0, e = .returned (.agg v0.toArray) ∧ m0.le m1 ∧ Ok u m1 S w' ∧ pTracker m1 v0 r) .ret a w := by
    intro a w h
    obtain ⟨m1, v0, hle, ok, hd, hrv, h0⟩ := h
    exact c_ret2 [.c 8 86 (.agg v0.toArray)] hd rfl hrv ⟨m1, v0, rfl, hle, ok, h0⟩
  refine enter Tryz.func88 rfl rfl rfl fun a E => sg <| l_box E ok rfl rfl rfl fun b7 a w E ok => l_box E ok rfl rfl rfl fun b8 a w E ok => l_alloc E ok zero_86 rfl rfl fun b9 a w E ok => wn ?_
  refine wp_seq <| sg <| lv E ok (y_fieldAddr fo_69_0 rfl) fun a E => lv E ok (y_load one_3 rfl (Holds.own 1 rfl rfl)) fun a E => wn <| wp_block ?_
  refine wp_seq <| sg <| lv E ok (y_eql rfl rfl) fun a E => lv E ok (y_assign rfl) fun a E => wn ?_
  obtain ⟨o10, hJ, hF⟩ := bnd hF
  refine c_mono (Q' := fun e a w => e = .normal ∧ Ok u m0 ([(b9, Obj.cells [(Value.int .i64 0), (Value.int .i64 0)].toArray 86 (0, 0))] :: [(b8, Obj.cells [(Value.int .i64 r_1.Operand), (Value.int .i64 r_1.Mod), (Value.bool r_1.Not), c5].toArray 69 (0, 0))] :: [(b7, Obj.cells [(Value.int .i64 t_0.a), (Value.int .i64 t_0.b)].toArray 86 (0, 0))] :: S) w ∧ Env 75 a [(2, (Value.bool behind_2)), (3, (Value.int .i64 digit_3)), (4, (Value.pointer (some ⟨b7, 0, none⟩))), (5, (Value.pointer (some ⟨b8, 0, none⟩))), (8, (Value.pointer (some ⟨b9, 0, none⟩))), (10, (Value.int .i64 r_1.Operand)), (11, (Value.bool o10))]) ?_ ?_
  · replace hF := hJ
    clear hJ
    refine c_if E rfl (fun hc11 => ?_) (fun hc11 => ?_)
    · replace hF := cond_t hc11 hF
      refine wp_skip ?_
      obtain rfl := sj hF
      exact ⟨rfl, ⟨ok, E.keep [2, 3, 4, 5, 8, 10, 11]⟩⟩
    replace hF := cond_f hc11 hF
    refine c_region <| lv E ok (y_eql rfl rfl) fun a E => lv E ok (y_assign rfl) fun a E => wpList_nil ?_
    obtain rfl := sj hF
    exact ⟨rfl, ⟨ok, E.keep [2, 3, 4, 5, 8, 10, 11]⟩⟩
  clear hJ
  intro e a w hO
  obtain ⟨rfl, ok, E⟩ := hO
  refine t_norm <| c_if E rfl (fun hc12 => ?_) (fun hc12 => ?_)
  · as_aux_lemma =>
      replace hF := cond_t hc12 hF
      refine sg <| lv E ok (y_move rfl) fun a E => lv E ok (y_not rfl) fun a E => wn <| c_if E rfl (fun hc13 => ?_) (fun hc13 => ?_)
      · replace hF := cond_t hc13 hF
        refine c_region <| lv E ok (y_loadAgg (cs := [(Value.int .i64 r_1.Operand), (Value.int .i64 r_1.Mod), (Value.bool r_1.Not), c5]) agg_69 rfl rfl (Holds.own 1 rfl rfl)) fun a E => lv E ok (y_fieldAddr fo_86_0 rfl) fun a E => lv E ok (y_load one_3 rfl (Holds.own 2 rfl rfl)) fun a E => lv E ok (y_mulw rfl rfl) fun a E => lv E ok (y_move rfl) fun a E => lv E ok (y_addw rfl rfl) fun a E => ?_
        obtain ⟨r14, e15, hF⟩ := bnd hF
        refine l_call E go_120 rfl (decide_reduced_w N _ r_1 ⟨_, rfl, r3, r4, h6⟩ (IntKind.wrap .i64 ((IntKind.wrap .i64 ((10 : Int) * t_0.a)) + digit_3)) (InR.wrap _ _) e15 hG ok) rfl rfl ?_
        rintro _ w ⟨⟨rfl, ok⟩, r16⟩
        refine ⟨_, rfl, fun a E => ?_⟩
        refine lv E ok (y_fieldAddr fo_86_0 rfl) fun a E => l_storeB E ok 2 rfl rfl rfl inf_3 rfl rfl ⟨rfl, trivial⟩ rfl rfl fun w ok => wpList_nil <| b_norm <| t_norm <| sg <| lv E ok (y_loadAgg (cs := [(Value.int .i64 r14), (Value.int .i64 t_0.b)]) agg_86 rfl rfl (Holds.own 2 rfl rfl)) fun a E => ?_
        refine l_storeB E ok 0 rfl rfl rfl inf_86 rfl rfl ⟨rfl, rfl, trivial⟩ rfl rfl fun w ok => wn <| wp_ret ?_
        have hret : decide_tracker_read_R u m0 S (Tracker.mk r14 t_0.b) a w := ⟨m0, [(Value.int .i64 r14), (Value.int .i64 t_0.b)], le_m0, ok.drop.drop.drop, E.d, ⟨rv_c (cs := [(Value.int .i64 r14), (Value.int .i64 t_0.b)]) E ok rfl agg_86 rfl (Holds.own 0 rfl rfl), trivial⟩, ⟨rfl, r16, r2⟩⟩
        obtain rfl := sj hF
        exact fin _ _ hret
      replace hF := cond_f hc13 hF
      refine sg <| lv E ok (y_move rfl) fun a E => lv E ok (y_neq rfl rfl) fun a E => lv E ok (y_move rfl) fun a E => bsplit (digit_3 != 0) (fun hc17 => ?_) (fun hc17 => ?_)
      rotate_left
      · replace hF := cond_f hc17 hF
        replace E := E.upd 26 hc17 rfl
        refine ls E fun a E => ls E fun a E => ls E fun a E => lv E ok (y_pickF rfl rfl) fun a E => wn <| c_if E rfl (fun h => by cases h) (fun _ => ?_)
        refine wp_skip <| b_norm <| t_norm <| sg <| lv E ok (y_loadAgg (cs := [(Value.int .i64 t_0.a), (Value.int .i64 t_0.b)]) agg_86 rfl rfl (Holds.own 2 rfl rfl)) fun a E => l_storeB E ok 0 rfl rfl rfl inf_86 rfl rfl ⟨rfl, rfl, trivial⟩ rfl rfl fun w ok => wpList_nil ?_
        refine t_norm <| wp_ret ?_
        have hret : decide_tracker_read_R u m0 S t_0 a w := ⟨m0, [(Value.int .i64 t_0.a), (Value.int .i64 t_0.b)], le_m0, ok.drop.drop.drop, E.d, ⟨rv_c (cs := [(Value.int .i64 t_0.a), (Value.int .i64 t_0.b)]) E ok rfl agg_86 rfl (Holds.own 0 rfl rfl), trivial⟩, ⟨rfl, r1, r2⟩⟩
        obtain rfl := sj hF
        exact fin _ _ hret
      replace hF := cond_t hc17 hF
      replace E := E.upd 26 hc17 rfl
      refine lv E ok (y_fieldAddr fo_69_0 rfl) fun a E => lv E ok (y_load one_3 rfl (Holds.own 1 rfl rfl)) fun a E => lv E ok (y_eql rfl rfl) fun a E => lv E ok (y_pickT rfl rfl) fun a E => wn <| c_if E rfl (fun hc18 => ?_) (fun hc18 => ?_)
      rotate_left
      · replace hF := cond_f hc18 hF
        refine wp_skip <| b_norm <| t_norm <| sg <| lv E ok (y_loadAgg (cs := [(Value.int .i64 t_0.a), (Value.int .i64 t_0.b)]) agg_86 rfl rfl (Holds.own 2 rfl rfl)) fun a E => l_storeB E ok 0 rfl rfl rfl inf_86 rfl rfl ⟨rfl, rfl, trivial⟩ rfl rfl fun w ok => wpList_nil ?_
        refine t_norm <| wp_ret ?_
        have hret : decide_tracker_read_R u m0 S t_0 a w := ⟨m0, [(Value.int .i64 t_0.a), (Value.int .i64 t_0.b)], le_m0, ok.drop.drop.drop, E.d, ⟨rv_c (cs := [(Value.int .i64 t_0.a), (Value.int .i64 t_0.b)]) E ok rfl agg_86 rfl (Holds.own 0 rfl rfl), trivial⟩, ⟨rfl, r1, r2⟩⟩
        obtain rfl := sj hF
        exact fin _ _ hret
      replace hF := cond_t hc18 hF
      refine c_region <| lv E ok (y_fieldAddr fo_86_1 rfl) fun a E => l_storeB E ok 2 rfl rfl rfl inf_3 rfl rfl ⟨rfl, trivial⟩ rfl rfl fun w ok => wpList_nil <| b_norm <| t_norm <| sg ?_
      refine lv E ok (y_loadAgg (cs := [(Value.int .i64 t_0.a), (Value.int .i64 1)]) agg_86 rfl rfl (Holds.own 2 rfl rfl)) fun a E => l_storeB E ok 0 rfl rfl rfl inf_86 rfl rfl ⟨rfl, rfl, trivial⟩ rfl rfl fun w ok => wn <| wp_ret ?_
      have hret : decide_tracker_read_R u m0 S (Tracker.mk t_0.a 1) a w := ⟨m0, [(Value.int .i64 t_0.a), (Value.int .i64 1)], le_m0, ok.drop.drop.drop, E.d, ⟨rv_c (cs := [(Value.int .i64 t_0.a), (Value.int .i64 1)]) E ok rfl agg_86 rfl (Holds.own 0 rfl rfl), trivial⟩, ⟨rfl, r1, (show InR .i64 (1) by decide)⟩⟩
      obtain rfl := sj hF
      exact fin _ _ hret
  replace hF := cond_f hc12 hF
  refine wp_seq <| sg <| lv E ok (y_eql rfl rfl) fun a E => lv E ok (y_assign rfl) fun a E => wn ?_
  obtain ⟨o19, hJ, hF⟩ := bnd hF
  refine c_mono (Q' := fun e a w => e = .normal ∧ Ok u m0 ([(b9, Obj.cells [(Value.int .i64 0), (Value.int .i64 0)].toArray 86 (0, 0))] :: [(b8, Obj.cells [(Value.int .i64 r_1.Operand), (Value.int .i64 r_1.Mod), (Value.bool r_1.Not), c5].toArray 69 (0, 0))] :: [(b7, Obj.cells [(Value.int .i64 t_0.a), (Value.int .i64 t_0.b)].toArray 86 (0, 0))] :: S) w ∧ Env 75 a [(2, (Value.bool behind_2)), (3, (Value.int .i64 digit_3)), (4, (Value.pointer (some ⟨b7, 0, none⟩))), (5, (Value.pointer (some ⟨b8, 0, none⟩))), (8, (Value.pointer (some ⟨b9, 0, none⟩))), (10, (Value.int .i64 r_1.Operand)), (32, (Value.bool o19))]) ?_ ?_
  · replace hF := hJ
    clear hJ
    refine c_if E rfl (fun hc20 => ?_) (fun hc20 => ?_)
    · replace hF := cond_t hc20 hF
      refine wp_skip ?_
      obtain rfl := sj hF
      exact ⟨rfl, ⟨ok, E.keep [2, 3, 4, 5, 8, 10, 32]⟩⟩
    replace hF := cond_f hc20 hF
    refine c_region <| lv E ok (y_eql rfl rfl) fun a E => lv E ok (y_assign rfl) fun a E => wpList_nil ?_
    obtain rfl := sj hF
    exact ⟨rfl, ⟨ok, E.keep [2, 3, 4, 5, 8, 10, 32]⟩⟩
  clear hJ
  intro e a w hO
  obtain ⟨rfl, ok, E⟩ := hO
  refine t_norm <| c_if E rfl (fun hc21 => ?_) (fun hc21 => ?_)
  · as_aux_lemma =>
      replace hF := cond_t hc21 hF
      refine sg <| lv E ok (y_move rfl) fun a E => wn <| c_if E rfl (fun hc22 => ?_) (fun hc22 => ?_)
      rotate_left
      · replace hF := cond_f hc22 hF
        refine wp_skip <| b_norm <| t_norm <| sg <| lv E ok (y_loadAgg (cs := [(Value.int .i64 t_0.a), (Value.int .i64 t_0.b)]) agg_86 rfl rfl (Holds.own 2 rfl rfl)) fun a E => l_storeB E ok 0 rfl rfl rfl inf_86 rfl rfl ⟨rfl, rfl, trivial⟩ rfl rfl fun w ok => wpList_nil ?_
        refine t_norm <| wp_ret ?_
        have hret : decide_tracker_read_R u m0 S t_0 a w := ⟨m0, [(Value.int .i64 t_0.a), (Value.int .i64 t_0.b)], le_m0, ok.drop.drop.drop, E.d, ⟨rv_c (cs := [(Value.int .i64 t_0.a), (Value.int .i64 t_0.b)]) E ok rfl agg_86 rfl (Holds.own 0 rfl rfl), trivial⟩, ⟨rfl, r1, r2⟩⟩
        obtain rfl := sj hF
        exact fin _ _ hret
      replace hF := cond_t hc22 hF
      refine sg <| lv E ok (y_loadAgg (cs := [(Value.int .i64 r_1.Operand), (Value.int .i64 r_1.Mod), (Value.bool r_1.Not), c5]) agg_69 rfl rfl (Holds.own 1 rfl rfl)) fun a E => lv E ok (y_fieldAddr fo_86_1 rfl) fun a E => lv E ok (y_load one_3 rfl (Holds.own 2 rfl rfl)) fun a E => lv E ok (y_addw rfl rfl) fun a E => ?_
      obtain ⟨r23, e24, hF⟩ := bnd hF
      refine l_call E go_120 rfl (decide_reduced_w N _ r_1 ⟨_, rfl, r3, r4, h6⟩ (IntKind.wrap .i64 (t_0.b + 1)) (InR.wrap _ _) e24 hG ok) rfl rfl ?_
      rintro _ w ⟨⟨rfl, ok⟩, r25⟩
      refine ⟨_, rfl, fun a E => ?_⟩
      refine lv E ok (y_fieldAddr fo_86_1 rfl) fun a E => l_storeB E ok 2 rfl rfl rfl inf_3 rfl rfl ⟨rfl, trivial⟩ rfl rfl fun w ok => wn <| sg <| lv E ok (y_move rfl) fun a E => lv E ok (y_neq rfl rfl) fun a E => ?_
      refine lv E ok (y_move rfl) fun a E => bsplit (digit_3 != 0) (fun hc26 => ?_) (fun hc26 => ?_)
      · replace hF := cond_t hc26 hF
        replace E := E.upd 44 hc26 rfl
        refine ls E fun a E => ls E fun a E => ls E fun a E => lv E ok (y_pickT rfl rfl) fun a E => wn <| c_if E rfl (fun _ => ?_) (fun h => by cases h)
        refine c_region <| lv E ok (y_fieldAddr fo_86_1 rfl) fun a E => lv E ok (y_load one_3 rfl (Holds.own 2 rfl rfl)) fun a E => lv E ok (y_fieldAddr fo_86_0 rfl) fun a E => l_storeB E ok 2 rfl rfl rfl inf_3 rfl rfl ⟨rfl, trivial⟩ rfl rfl fun w ok => wpList_nil <| b_norm <| t_norm ?_
        refine sg <| lv E ok (y_loadAgg (cs := [(Value.int .i64 r23), (Value.int .i64 r23)]) agg_86 rfl rfl (Holds.own 2 rfl rfl)) fun a E => l_storeB E ok 0 rfl rfl rfl inf_86 rfl rfl ⟨rfl, rfl, trivial⟩ rfl rfl fun w ok => wn <| wp_ret ?_
        have hret : decide_tracker_read_R u m0 S (Tracker.mk r23 r23) a w := ⟨m0, [(Value.int .i64 r23), (Value.int .i64 r23)], le_m0, ok.drop.drop.drop, E.d, ⟨rv_c (cs := [(Value.int .i64 r23), (Value.int .i64 r23)]) E ok rfl agg_86 rfl (Holds.own 0 rfl rfl), trivial⟩, ⟨rfl, r25, r25⟩⟩
        obtain rfl := sj hF
        exact fin _ _ hret
      replace hF := cond_f hc26 hF
      replace E := E.upd 44 hc26 rfl
      refine lv E ok (y_fieldAddr fo_69_0 rfl) fun a E => lv E ok (y_load one_3 rfl (Holds.own 1 rfl rfl)) fun a E => lv E ok (y_eql rfl rfl) fun a E => lv E ok (y_pickF rfl rfl) fun a E => wn <| c_if E rfl (fun hc27 => ?_) (fun hc27 => ?_)
      rotate_left
      · replace hF := cond_f hc27 hF
        refine wp_skip <| b_norm <| t_norm <| sg <| lv E ok (y_loadAgg (cs := [(Value.int .i64 t_0.a), (Value.int .i64 r23)]) agg_86 rfl rfl (Holds.own 2 rfl rfl)) fun a E => l_storeB E ok 0 rfl rfl rfl inf_86 rfl rfl ⟨rfl, rfl, trivial⟩ rfl rfl fun w ok => wpList_nil ?_
        refine t_norm <| wp_ret ?_
        have hret : decide_tracker_read_R u m0 S (Tracker.mk t_0.a r23) a w := ⟨m0, [(Value.int .i64 t_0.a), (Value.int .i64 r23)], le_m0, ok.drop.drop.drop, E.d, ⟨rv_c (cs := [(Value.int .i64 t_0.a), (Value.int .i64 r23)]) E ok rfl agg_86 rfl (Holds.own 0 rfl rfl), trivial⟩, ⟨rfl, r1, r25⟩⟩
        obtain rfl := sj hF
        exact fin _ _ hret
      replace hF := cond_t hc27 hF
      refine c_region <| lv E ok (y_fieldAddr fo_86_1 rfl) fun a E => lv E ok (y_load one_3 rfl (Holds.own 2 rfl rfl)) fun a E => lv E ok (y_fieldAddr fo_86_0 rfl) fun a E => l_storeB E ok 2 rfl rfl rfl inf_3 rfl rfl ⟨rfl, trivial⟩ rfl rfl fun w ok => wpList_nil <| b_norm <| t_norm ?_
      refine sg <| lv E ok (y_loadAgg (cs := [(Value.int .i64 r23), (Value.int .i64 r23)]) agg_86 rfl rfl (Holds.own 2 rfl rfl)) fun a E => l_storeB E ok 0 rfl rfl rfl inf_86 rfl rfl ⟨rfl, rfl, trivial⟩ rfl rfl fun w ok => wn <| wp_ret ?_
      have hret : decide_tracker_read_R u m0 S (Tracker.mk r23 r23) a w := ⟨m0, [(Value.int .i64 r23), (Value.int .i64 r23)], le_m0, ok.drop.drop.drop, E.d, ⟨rv_c (cs := [(Value.int .i64 r23), (Value.int .i64 r23)]) E ok rfl agg_86 rfl (Holds.own 0 rfl rfl), trivial⟩, ⟨rfl, r25, r25⟩⟩
      obtain rfl := sj hF
      exact fin _ _ hret
  replace hF := cond_f hc21 hF
  refine wp_seq <| sg <| lv E ok (y_eql rfl rfl) fun a E => lv E ok (y_assign rfl) fun a E => wn ?_
  obtain ⟨o28, hJ, hF⟩ := bnd hF
  refine c_mono (Q' := fun e a w => e = .normal ∧ Ok u m0 ([(b9, Obj.cells [(Value.int .i64 0), (Value.int .i64 0)].toArray 86 (0, 0))] :: [(b8, Obj.cells [(Value.int .i64 r_1.Operand), (Value.int .i64 r_1.Mod), (Value.bool r_1.Not), c5].toArray 69 (0, 0))] :: [(b7, Obj.cells [(Value.int .i64 t_0.a), (Value.int .i64 t_0.b)].toArray 86 (0, 0))] :: S) w ∧ Env 75 a [(2, (Value.bool behind_2)), (3, (Value.int .i64 digit_3)), (4, (Value.pointer (some ⟨b7, 0, none⟩))), (5, (Value.pointer (some ⟨b8, 0, none⟩))), (8, (Value.pointer (some ⟨b9, 0, none⟩))), (52, (Value.bool o28))]) ?_ ?_
  · replace hF := hJ
    clear hJ
    refine c_if E rfl (fun hc29 => ?_) (fun hc29 => ?_)
    · replace hF := cond_t hc29 hF
      refine wp_skip ?_
      obtain rfl := sj hF
      exact ⟨rfl, ⟨ok, E.keep [2, 3, 4, 5, 8, 52]⟩⟩
    replace hF := cond_f hc29 hF
    refine c_region <| lv E ok (y_eql rfl rfl) fun a E => lv E ok (y_assign rfl) fun a E => wpList_nil ?_
    obtain rfl := sj hF
    exact ⟨rfl, ⟨ok, E.keep [2, 3, 4, 5, 8, 52]⟩⟩
  clear hJ
  intro e a w hO
  obtain ⟨rfl, ok, E⟩ := hO
  refine t_norm <| c_if E rfl (fun hc30 => ?_) (fun hc30 => ?_)
  rotate_left
  · replace hF := cond_f hc30 hF
    refine wp_skip <| b_norm <| t_norm <| sg <| lv E ok (y_loadAgg (cs := [(Value.int .i64 t_0.a), (Value.int .i64 t_0.b)]) agg_86 rfl rfl (Holds.own 2 rfl rfl)) fun a E => l_storeB E ok 0 rfl rfl rfl inf_86 rfl rfl ⟨rfl, rfl, trivial⟩ rfl rfl fun w ok => wpList_nil ?_
    refine t_norm <| wp_ret ?_
    have hret : decide_tracker_read_R u m0 S t_0 a w := ⟨m0, [(Value.int .i64 t_0.a), (Value.int .i64 t_0.b)], le_m0, ok.drop.drop.drop, E.d, ⟨rv_c (cs := [(Value.int .i64 t_0.a), (Value.int .i64 t_0.b)]) E ok rfl agg_86 rfl (Holds.own 0 rfl rfl), trivial⟩, ⟨rfl, r1, r2⟩⟩
    obtain rfl := sj hF
    exact fin _ _ hret
  replace hF := cond_t hc30 hF
  refine sg <| lv E ok (y_move rfl) fun a E => wn <| c_if E rfl (fun hc31 => ?_) (fun hc31 => ?_)
  rotate_left
  · replace hF := cond_f hc31 hF
    refine wp_skip <| b_norm <| t_norm <| sg <| lv E ok (y_loadAgg (cs := [(Value.int .i64 t_0.a), (Value.int .i64 t_0.b)]) agg_86 rfl rfl (Holds.own 2 rfl rfl)) fun a E => l_storeB E ok 0 rfl rfl rfl inf_86 rfl rfl ⟨rfl, rfl, trivial⟩ rfl rfl fun w ok => wpList_nil ?_
    refine t_norm <| wp_ret ?_
    have hret : decide_tracker_read_R u m0 S t_0 a w := ⟨m0, [(Value.int .i64 t_0.a), (Value.int .i64 t_0.b)], le_m0, ok.drop.drop.drop, E.d, ⟨rv_c (cs := [(Value.int .i64 t_0.a), (Value.int .i64 t_0.b)]) E ok rfl agg_86 rfl (Holds.own 0 rfl rfl), trivial⟩, ⟨rfl, r1, r2⟩⟩
    obtain rfl := sj hF
    exact fin _ _ hret
  replace hF := cond_t hc31 hF
  refine sg <| lv E ok (y_loadAgg (cs := [(Value.int .i64 r_1.Operand), (Value.int .i64 r_1.Mod), (Value.bool r_1.Not), c5]) agg_69 rfl rfl (Holds.own 1 rfl rfl)) fun a E => lv E ok (y_fieldAddr fo_86_1 rfl) fun a E => lv E ok (y_load one_3 rfl (Holds.own 2 rfl rfl)) fun a E => lv E ok (y_mulw rfl rfl) fun a E => lv E ok (y_move rfl) fun a E => lv E ok (y_addw rfl rfl) fun a E => ?_
  obtain ⟨r32, e33, hF⟩ := bnd hF
  refine l_call E go_120 rfl (decide_reduced_w N _ r_1 ⟨_, rfl, r3, r4, h6⟩ (IntKind.wrap .i64 ((IntKind.wrap .i64 ((10 : Int) * t_0.b)) + digit_3)) (InR.wrap _ _) e33 hG ok) rfl rfl ?_
  rintro _ w ⟨⟨rfl, ok⟩, r34⟩
  refine ⟨_, rfl, fun a E => ?_⟩
  refine lv E ok (y_fieldAddr fo_86_1 rfl) fun a E => l_storeB E ok 2 rfl rfl rfl inf_3 rfl rfl ⟨rfl, trivial⟩ rfl rfl fun w ok => wn <| sg <| lv E ok (y_move rfl) fun a E => lv E ok (y_neq rfl rfl) fun a E => ?_
  refine lv E ok (y_move rfl) fun a E => bsplit (digit_3 != 0) (fun hc35 => ?_) (fun hc35 => ?_)
  · replace hF := cond_t hc35 hF
    replace E := E.upd 66 hc35 rfl
    refine ls E fun a E => ls E fun a E => ls E fun a E => lv E ok (y_pickT rfl rfl) fun a E => wn <| c_if E rfl (fun _ => ?_) (fun h => by cases h)
    refine c_region <| lv E ok (y_fieldAddr fo_86_1 rfl) fun a E => lv E ok (y_load one_3 rfl (Holds.own 2 rfl rfl)) fun a E => lv E ok (y_fieldAddr fo_86_0 rfl) fun a E => l_storeB E ok 2 rfl rfl rfl inf_3 rfl rfl ⟨rfl, trivial⟩ rfl rfl fun w ok => wpList_nil <| b_norm <| t_norm ?_
    refine sg <| lv E ok (y_loadAgg (cs := [(Value.int .i64 r32), (Value.int .i64 r32)]) agg_86 rfl rfl (Holds.own 2 rfl rfl)) fun a E => l_storeB E ok 0 rfl rfl rfl inf_86 rfl rfl ⟨rfl, rfl, trivial⟩ rfl rfl fun w ok => wn <| wp_ret ?_
    have hret : decide_tracker_read_R u m0 S (Tracker.mk r32 r32) a w := ⟨m0, [(Value.int .i64 r32), (Value.int .i64 r32)], le_m0, ok.drop.drop.drop, E.d, ⟨rv_c (cs := [(Value.int .i64 r32), (Value.int .i64 r32)]) E ok rfl agg_86 rfl (Holds.own 0 rfl rfl), trivial⟩, ⟨rfl, r34, r34⟩⟩
    obtain rfl := sj hF
    exact fin _ _ hret
  replace hF := cond_f hc35 hF
  replace E := E.upd 66 hc35 rfl
  refine lv E ok (y_fieldAddr fo_69_0 rfl) fun a E => lv E ok (y_load one_3 rfl (Holds.own 1 rfl rfl)) fun a E => lv E ok (y_eql rfl rfl) fun a E => lv E ok (y_pickF rfl rfl) fun a E => wn <| c_if E rfl (fun hc36 => ?_) (fun hc36 => ?_)
  rotate_left
  · replace hF := cond_f hc36 hF
    refine wp_skip <| b_norm <| t_norm <| sg <| lv E ok (y_loadAgg (cs := [(Value.int .i64 t_0.a), (Value.int .i64 r32)]) agg_86 rfl rfl (Holds.own 2 rfl rfl)) fun a E => l_storeB E ok 0 rfl rfl rfl inf_86 rfl rfl ⟨rfl, rfl, trivial⟩ rfl rfl fun w ok => wpList_nil ?_
    refine t_norm <| wp_ret ?_
    have hret : decide_tracker_read_R u m0 S (Tracker.mk t_0.a r32) a w := ⟨m0, [(Value.int .i64 t_0.a), (Value.int .i64 r32)], le_m0, ok.drop.drop.drop, E.d, ⟨rv_c (cs := [(Value.int .i64 t_0.a), (Value.int .i64 r32)]) E ok rfl agg_86 rfl (Holds.own 0 rfl rfl), trivial⟩, ⟨rfl, r1, r34⟩⟩
    obtain rfl := sj hF
    exact fin _ _ hret
  replace hF := cond_t hc36 hF
  refine c_region <| lv E ok (y_fieldAddr fo_86_1 rfl) fun a E => lv E ok (y_load one_3 rfl (Holds.own 2 rfl rfl)) fun a E => lv E ok (y_fieldAddr fo_86_0 rfl) fun a E => l_storeB E ok 2 rfl rfl rfl inf_3 rfl rfl ⟨rfl, trivial⟩ rfl rfl fun w ok => wpList_nil <| b_norm <| t_norm ?_
  refine sg <| lv E ok (y_loadAgg (cs := [(Value.int .i64 r32), (Value.int .i64 r32)]) agg_86 rfl rfl (Holds.own 2 rfl rfl)) fun a E => l_storeB E ok 0 rfl rfl rfl inf_86 rfl rfl ⟨rfl, rfl, trivial⟩ rfl rfl fun w ok => wn <| wp_ret ?_
  have hret : decide_tracker_read_R u m0 S (Tracker.mk r32 r32) a w := ⟨m0, [(Value.int .i64 r32), (Value.int .i64 r32)], le_m0, ok.drop.drop.drop, E.d, ⟨rv_c (cs := [(Value.int .i64 r32), (Value.int .i64 r32)]) E ok rfl agg_86 rfl (Holds.own 0 rfl rfl), trivial⟩, ⟨rfl, r34, r34⟩⟩
  obtain rfl := sj hF
  exact fin _ _ hret

def internal_strconv_FormatBool_R (u : World) (m0 : Mem) (S : Segs) (r : (List UInt8)) (a : Act) (w : World) : Prop :=
  Ok u m0 S w ∧ a.defers = [] ∧ RVs Tryz.prog a w [.t 2 (.string (bs r))] ∧ r.length ≤ LIMS
set_option maxHeartbeats 4000000 in
set_option maxRecDepth 100000 in
theorem internal_strconv_FormatBool_w {u : World} {m0 : Mem} {S : Segs} {w : World} (N : Nat) (b_0 : Bool) {r : (List UInt8)} (hF : internal_strconv_FormatBool N b_0 = some r) (hG : Glob u) (ok : Ok u m0 S w) :
    Calls Tryz.prog 166 [Value.bool b_0].toArray w fun e w' => (e = .returned (.string (bs r)) ∧ Ok u m0 S w') ∧ r.length ≤ LIMS := by
  have hb0 := ok.base
  have le_m0 := Mem.le.refl m0
  unfold internal_strconv_FormatBool at hF
  have fin : ∀ a w, internal_strconv_FormatBool_R u m0 S r a w → bodyPost Tryz.prog Tryz.f166 (fun e w' => (e = .returned (.string (bs r)) ∧ Ok u m0 S w') ∧ r.length ≤ LIMS) .ret a w := by
    intro a w h
    obtain ⟨ok, hd, hrv, h0⟩ := h
    exact c_ret2 [.t 2 (.string (bs r))] hd rfl hrv ⟨⟨rfl, ok⟩, h0⟩
  refine enter Tryz.func166 rfl rfl rfl fun a E => sg <| lv E ok (y_assign rfl) fun a E => wn <| wp_seq <| wp_seq ?_
  refine c_region <| lv E ok (y_move rfl) fun a E => wn <| c_if E rfl (fun hc1 => ?_) (fun hc1 => ?_)
  · replace hF := cond_t hc1 hF
    refine sg <| lv E ok (y_assign rfl) fun a E => wn <| wp_ret <| t_ret ?_
    have hret : internal_strconv_FormatBool_R u m0 S ([116, 114, 117, 101]) a w := ⟨ok, E.d, ⟨rv_t E rfl, trivial⟩, (show ([116, 114, 117, 101] : List UInt8).length ≤ LIMS by decide)⟩
    obtain rfl := sj hF
    exact fin _ _ hret
  replace hF := cond_f hc1 hF
  refine wp_skip <| t_norm <| sg <| lv E ok (y_assign rfl) fun a E => wn <| wp_ret ?_
  have hret : internal_strconv_FormatBool_R u m0 S ([102, 97, 108, 115, 101]) a w := ⟨ok, E.d, ⟨rv_t E rfl, trivial⟩, (show ([102, 97, 108, 115, 101] : List UInt8).length ≤ LIMS by decide)⟩
  obtain rfl := sj hF
  exact fin _ _ hret

def strconv_FormatBool_R (u : World) (m0 : Mem) (S : Segs) (r : (List UInt8)) (a : Act) (w : World) : Prop :=
  Ok u m0 S w ∧ a.defers = [] ∧ RVs Tryz.prog a w [.t 2 (.string (bs r))] ∧ r.length ≤ LIMS
set_option maxHeartbeats 4000000 in
set_option maxRecDepth 100000 in
theorem strconv_FormatBool_w {u : World} {m0 : Mem} {S : Segs} {w : World} (N : Nat) (b_0 : Bool) {r : (List UInt8)} (hF : strconv_FormatBool N b_0 = some r) (hG : Glob u) (ok : Ok u m0 S w) :
    Calls Tryz.prog 150 [Value.bool b_0].toArray w fun e w' => (e = .returned (.string (bs r)) ∧ Ok u m0 S w') ∧ r.length ≤ LIMS := by
  have hb0 := ok.base
  have le_m0 := Mem.le.refl m0
  unfold strconv_FormatBool at hF
  have fin : ∀ a w, strconv_FormatBool_R u m0 S r a w → bodyPost Tryz.prog Tryz.f150 (fun e w' => (e = .returned (.string (bs r)) ∧ Ok u m0 S w') ∧ r.length ≤ LIMS) .ret a w := by
    intro a w h
    obtain ⟨ok, hd, hrv, h0⟩ := h
    exact c_ret2 [.t 2 (.string (bs r))] hd rfl hrv ⟨⟨rfl, ok⟩, h0⟩
  refine enter Tryz.func150 rfl rfl rfl fun a E => sg <| lv E ok (y_assign rfl) fun a E => wn <| sg ?_
  refine lv E ok (y_move rfl) fun a E => ?_
  obtain ⟨r1, e2, hF⟩ := bnd hF
  refine l_call E go_166 rfl (internal_strconv_FormatBool_w N b_0 e2 hG ok) rfl rfl ?_
  rintro _ w ⟨⟨rfl, ok⟩, l3⟩
  refine ⟨_, rfl, fun a E => ?_⟩
  refine lv E ok (y_assign rfl) fun a E => wn <| wp_ret ?_
  have hret : strconv_FormatBool_R u m0 S r1 a w := ⟨ok, E.d, ⟨rv_t E rfl, trivial⟩, l3⟩
  obtain rfl := sj hF
  exact fin _ _ hret

end Go.Proofs.YtidfofhmnlhfjaaGreatDoor
