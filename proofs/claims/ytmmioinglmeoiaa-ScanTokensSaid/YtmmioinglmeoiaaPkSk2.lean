/- Texts of this proof, put together by pack.py: what its declarations name. -/
import Derived.Test.YtmmioinglmeoiaaPkSk1
import Derived.Test.YtmmioinglmeoiaaChecked
import Derived.Test.YtmmioinglmeoiaaProg
import Derived.Test.YtmmioinglmeoiaaRows
set_option linter.unusedVariables false
namespace Go.Proofs.Ytmmioinglmeoiaa
open Go.X
def Glob (u : World) : Prop := ∃ mx, u.cell? ⟨0, 0, none⟩ = some (.int .i64 mx)
def pRange : Rp Range := fun _ cs x => cs = [.int .u8 x.From, .int .u8 x.To] ∧ InR .u8 x.From ∧ InR .u8 x.To
theorem mRange : Mono pRange := ⟨fun _ h => by
  obtain ⟨e, h0, h1⟩ := h
  exact ⟨e, h0, h1⟩, fun h => by
  obtain ⟨rfl, h0, h1⟩ := h
  exact ⟨rfl, rfl, trivial⟩⟩
def pItem : Rp Item := fun m cs x => ∃ c1, cs = [.string (bs x.Text), c1, .bool x.Not, .int .i64 x.Least, .int .i64 x.Most] ∧ x.Text.length ≤ LIMS ∧ (pL 2 pRange) m [c1] x.Ranges ∧ InR .i64 x.Least ∧ InR .i64 x.Most
theorem mItem : Mono pItem := ⟨fun hm h => by
  obtain ⟨c1, e, h0, h1, h3, h4⟩ := h
  exact ⟨c1, e, h0, (mL mRange).up hm h1, h3, h4⟩, fun h => by
  obtain ⟨c1, rfl, h0, h1, h3, h4⟩ := h
  exact ⟨rfl, ((mL mRange).one h1).1, rfl, rfl, rfl, trivial⟩⟩
def pRule : Rp Rule := fun m cs x => ∃ c1, cs = [.string (bs x.Kind), c1, .string (bs x.Next)] ∧ x.Kind.length ≤ LIMS ∧ (pL 5 pItem) m [c1] x.Items ∧ x.Next.length ≤ LIMS
theorem mRule : Mono pRule := ⟨fun hm h => by
  obtain ⟨c1, e, h0, h1, h2⟩ := h
  exact ⟨c1, e, h0, (mL mItem).up hm h1, h2⟩, fun h => by
  obtain ⟨c1, rfl, h0, h1, h2⟩ := h
  exact ⟨rfl, ((mL mItem).one h1).1, rfl, trivial⟩⟩
def pState : Rp State := fun m cs x => ∃ c1, cs = [.string (bs x.Name), c1] ∧ x.Name.length ≤ LIMS ∧ (pL 3 pRule) m [c1] x.Rules
theorem mState : Mono pState := ⟨fun hm h => by
  obtain ⟨c1, e, h0, h1⟩ := h
  exact ⟨c1, e, h0, (mL mRule).up hm h1⟩, fun h => by
  obtain ⟨c1, rfl, h0, h1⟩ := h
  exact ⟨rfl, ((mL mRule).one h1).1, trivial⟩⟩
def pToken : Rp Token := fun _ cs x => cs = [.string (bs x.Kind), .string (bs x.Text), .int .i64 x.From] ∧ x.Kind.length ≤ LIMS ∧ x.Text.length ≤ LIMS ∧ InR .i64 x.From
theorem mToken : Mono pToken := ⟨fun _ h => by
  obtain ⟨e, h0, h1, h2⟩ := h
  exact ⟨e, h0, h1, h2⟩, fun h => by
  obtain ⟨rfl, h0, h1, h2⟩ := h
  exact ⟨rfl, rfl, rfl, trivial⟩⟩
theorem agg_56 : aggB Try.prog 56 3 = true := by kernel_rfl
theorem agg_78 : aggB Try.prog 78 2 = true := by kernel_rfl
theorem agg_80 : aggB Try.prog 80 3 = true := by kernel_rfl
theorem agg_96 : aggB Try.prog 96 5 = true := by kernel_rfl
theorem agg_99 : aggB Try.prog 99 2 = true := by kernel_rfl
theorem art_150 : ArT Try.prog 150 4 256 1 := ArT.of (by kernel_rfl)
theorem art_155 : ArT Try.prog 155 3 2 1 := ArT.of (by kernel_rfl)
theorem eqg_155 : Try.prog.eqGuardType Try.prog.depth 155 = false := by kernel_rfl
theorem fo_113_0 : fieldOffB Try.prog 113 0 0 = true := by kernel_rfl
theorem fo_113_1 : fieldOffB Try.prog 113 1 1 = true := by kernel_rfl
theorem fo_126_0 : fieldOffB Try.prog 126 0 0 = true := by kernel_rfl
theorem fo_133_0 : fieldOffB Try.prog 133 0 0 = true := by kernel_rfl
theorem fo_133_1 : fieldOffB Try.prog 133 1 1 = true := by kernel_rfl
theorem fo_133_2 : fieldOffB Try.prog 133 2 2 = true := by kernel_rfl
theorem fo_56_0 : fieldOffB Try.prog 56 0 0 = true := by kernel_rfl
theorem fo_56_1 : fieldOffB Try.prog 56 1 1 = true := by kernel_rfl
theorem fo_56_2 : fieldOffB Try.prog 56 2 2 = true := by kernel_rfl
theorem fo_78_0 : fieldOffB Try.prog 78 0 0 = true := by kernel_rfl
theorem fo_78_1 : fieldOffB Try.prog 78 1 1 = true := by kernel_rfl
theorem fo_80_0 : fieldOffB Try.prog 80 0 0 = true := by kernel_rfl
theorem fo_80_1 : fieldOffB Try.prog 80 1 1 = true := by kernel_rfl
theorem fo_80_2 : fieldOffB Try.prog 80 2 2 = true := by kernel_rfl
theorem fo_96_0 : fieldOffB Try.prog 96 0 0 = true := by kernel_rfl
theorem fo_96_1 : fieldOffB Try.prog 96 1 1 = true := by kernel_rfl
theorem fo_96_2 : fieldOffB Try.prog 96 2 2 = true := by kernel_rfl
theorem fo_96_3 : fieldOffB Try.prog 96 3 3 = true := by kernel_rfl
theorem fo_96_4 : fieldOffB Try.prog 96 4 4 = true := by kernel_rfl
theorem fo_99_0 : fieldOffB Try.prog 99 0 0 = true := by kernel_rfl
theorem fo_99_1 : fieldOffB Try.prog 99 1 1 = true := by kernel_rfl
theorem go_12 : goB Try.prog 12 = true := by kernel_rfl
theorem go_15 : goB Try.prog 15 = true := by kernel_rfl
theorem go_17 : goB Try.prog 17 = true := by kernel_rfl
theorem go_21 : goB Try.prog 21 = true := by kernel_rfl
theorem go_29 : goB Try.prog 29 = true := by kernel_rfl
theorem go_31 : goB Try.prog 31 = true := by kernel_rfl
theorem go_32 : goB Try.prog 32 = true := by kernel_rfl
theorem go_36 : goB Try.prog 36 = true := by kernel_rfl
theorem go_37 : goB Try.prog 37 = true := by kernel_rfl
theorem go_38 : goB Try.prog 38 = true := by kernel_rfl
theorem go_41 : goB Try.prog 41 = true := by kernel_rfl
theorem go_42 : goB Try.prog 42 = true := by kernel_rfl
theorem go_43 : goB Try.prog 43 = true := by kernel_rfl
theorem go_44 : goB Try.prog 44 = true := by kernel_rfl
theorem go_46 : goB Try.prog 46 = true := by kernel_rfl
theorem go_47 : goB Try.prog 47 = true := by kernel_rfl
theorem go_48 : goB Try.prog 48 = true := by kernel_rfl
theorem go_50 : goB Try.prog 50 = true := by kernel_rfl
theorem go_51 : goB Try.prog 51 = true := by kernel_rfl
theorem go_52 : goB Try.prog 52 = true := by kernel_rfl
theorem go_56 : goB Try.prog 56 = true := by kernel_rfl
theorem go_57 : goB Try.prog 57 = true := by kernel_rfl
theorem go_59 : goB Try.prog 59 = true := by kernel_rfl
theorem go_60 : goB Try.prog 60 = true := by kernel_rfl
theorem go_62 : goB Try.prog 62 = true := by kernel_rfl
theorem go_63 : goB Try.prog 63 = true := by kernel_rfl
theorem go_64 : goB Try.prog 64 = true := by kernel_rfl
theorem go_66 : goB Try.prog 66 = true := by kernel_rfl
theorem go_67 : goB Try.prog 67 = true := by kernel_rfl
theorem go_68 : goB Try.prog 68 = true := by kernel_rfl
theorem go_69 : goB Try.prog 69 = true := by kernel_rfl
theorem go_72 : goB Try.prog 72 = true := by kernel_rfl
theorem go_75 : goB Try.prog 75 = true := by kernel_rfl
theorem go_76 : goB Try.prog 76 = true := by kernel_rfl
theorem go_78 : goB Try.prog 78 = true := by kernel_rfl
theorem go_79 : goB Try.prog 79 = true := by kernel_rfl
theorem go_81 : goB Try.prog 81 = true := by kernel_rfl
theorem go_86 : goB Try.prog 86 = true := by kernel_rfl
theorem go_88 : goB Try.prog 88 = true := by kernel_rfl
set_option maxRecDepth 100000 in
theorem inf_110 : ∃ i, Try.prog.info? 110 = some i ∧ i.size = 1 := ⟨_, rfl, by kernel_rfl⟩
set_option maxRecDepth 100000 in
theorem inf_111 : ∃ i, Try.prog.info? 111 = some i ∧ i.size = 1 := ⟨_, rfl, by kernel_rfl⟩
set_option maxRecDepth 100000 in
theorem inf_113 : ∃ i, Try.prog.info? 113 = some i ∧ i.size = 2 := ⟨_, rfl, by kernel_rfl⟩
set_option maxRecDepth 100000 in
theorem inf_131 : ∃ i, Try.prog.info? 131 = some i ∧ i.size = 1 := ⟨_, rfl, by kernel_rfl⟩
set_option maxRecDepth 100000 in
theorem inf_136 : ∃ i, Try.prog.info? 136 = some i ∧ i.size = 1 := ⟨_, rfl, by kernel_rfl⟩
set_option maxRecDepth 100000 in
theorem inf_3 : ∃ i, Try.prog.info? 3 = some i ∧ i.size = 1 := ⟨_, rfl, by kernel_rfl⟩
set_option maxRecDepth 100000 in
theorem inf_4 : ∃ i, Try.prog.info? 4 = some i ∧ i.size = 1 := ⟨_, rfl, by kernel_rfl⟩
set_option maxRecDepth 100000 in
theorem inf_56 : ∃ i, Try.prog.info? 56 = some i ∧ i.size = 3 := ⟨_, rfl, by kernel_rfl⟩
set_option maxRecDepth 100000 in
theorem inf_60 : ∃ i, Try.prog.info? 60 = some i ∧ i.size = 1 := ⟨_, rfl, by kernel_rfl⟩
set_option maxRecDepth 100000 in
theorem inf_76 : ∃ i, Try.prog.info? 76 = some i ∧ i.size = 1 := ⟨_, rfl, by kernel_rfl⟩
set_option maxRecDepth 100000 in
theorem inf_78 : ∃ i, Try.prog.info? 78 = some i ∧ i.size = 2 := ⟨_, rfl, by kernel_rfl⟩
set_option maxRecDepth 100000 in
theorem inf_80 : ∃ i, Try.prog.info? 80 = some i ∧ i.size = 3 := ⟨_, rfl, by kernel_rfl⟩
set_option maxRecDepth 100000 in
theorem inf_9 : ∃ i, Try.prog.info? 9 = some i ∧ i.size = 1 := ⟨_, rfl, by kernel_rfl⟩
set_option maxRecDepth 100000 in
theorem inf_94 : ∃ i, Try.prog.info? 94 = some i ∧ i.size = 1 := ⟨_, rfl, by kernel_rfl⟩
set_option maxRecDepth 100000 in
theorem inf_96 : ∃ i, Try.prog.info? 96 = some i ∧ i.size = 5 := ⟨_, rfl, by kernel_rfl⟩
set_option maxRecDepth 100000 in
theorem inf_99 : ∃ i, Try.prog.info? 99 = some i ∧ i.size = 2 := ⟨_, rfl, by kernel_rfl⟩
set_option maxRecDepth 100000 in
theorem infx_113 : ∃ i, Try.prog.info? 113 = some i := ⟨_, rfl⟩
theorem lies_113 : liesAt Try.prog Try.prog.depth 113 (2 / Try.prog.cellsOf 113) 0 113 1 = true := by kernel_rfl
theorem one_107 : oneB Try.prog 107 = true := by kernel_rfl
theorem one_110 : oneB Try.prog 110 = true := by kernel_rfl
theorem one_111 : oneB Try.prog 111 = true := by kernel_rfl
theorem one_130 : oneB Try.prog 130 = true := by kernel_rfl
theorem one_131 : oneB Try.prog 131 = true := by kernel_rfl
theorem one_134 : oneB Try.prog 134 = true := by kernel_rfl
theorem one_136 : oneB Try.prog 136 = true := by kernel_rfl
theorem one_3 : oneB Try.prog 3 = true := by kernel_rfl
theorem one_30 : oneB Try.prog 30 = true := by kernel_rfl
theorem one_4 : oneB Try.prog 4 = true := by kernel_rfl
theorem one_5 : oneB Try.prog 5 = true := by kernel_rfl
theorem one_60 : oneB Try.prog 60 = true := by kernel_rfl
theorem one_76 : oneB Try.prog 76 = true := by kernel_rfl
theorem one_9 : oneB Try.prog 9 = true := by kernel_rfl
theorem one_94 : oneB Try.prog 94 = true := by kernel_rfl
theorem places_126 : placesB Try.prog 126 = some [(0, 1)] := by kernel_rfl
theorem places_133 : placesB Try.prog 133 = some [(0, 1), (1, 1), (2, 1)] := by kernel_rfl
theorem places_56 : placesB Try.prog 56 = some [(0, 1), (1, 1), (2, 1)] := by kernel_rfl
theorem places_78 : placesB Try.prog 78 = some [(0, 1), (1, 1)] := by kernel_rfl
theorem places_80 : placesB Try.prog 80 = some [(0, 1), (1, 1), (2, 1)] := by kernel_rfl
theorem places_96 : placesB Try.prog 96 = some [(0, 1), (1, 1), (2, 1), (3, 1), (4, 1)] := by kernel_rfl
theorem places_99 : placesB Try.prog 99 = some [(0, 1), (1, 1)] := by kernel_rfl
theorem sl_107 : SlT Try.prog 107 136 1 := SlT.of (by kernel_rfl)
theorem sl_111 : SlT Try.prog 111 5 1 := SlT.of (by kernel_rfl)
theorem sl_131 : SlT Try.prog 131 134 1 := SlT.of (by kernel_rfl)
theorem sl_134 : SlT Try.prog 134 107 1 := SlT.of (by kernel_rfl)
theorem sl_30 : SlT Try.prog 30 78 2 := SlT.of (by kernel_rfl)
theorem sl_41 : SlT Try.prog 41 56 3 := SlT.of (by kernel_rfl)
theorem sl_60 : SlT Try.prog 60 96 5 := SlT.of (by kernel_rfl)
theorem sl_76 : SlT Try.prog 76 80 3 := SlT.of (by kernel_rfl)
theorem sl_94 : SlT Try.prog 94 99 2 := SlT.of (by kernel_rfl)
theorem zeroV_3 : zeroV Try.prog 3 = some (Value.int .i64 0) := by kernel_rfl
theorem zeroV_4 : zeroV Try.prog 4 = some (Value.bool false) := by kernel_rfl
theorem zero_107 : zeroB Try.prog 107 = some [(Value.slice none 0 0)] := by kernel_rfl
theorem zero_113 : zeroB Try.prog 113 = some [(Value.pointer none), (Value.slice none 0 0)] := by kernel_rfl
theorem zero_126 : zeroB Try.prog 126 = some [(Value.string (bs ([])))] := by kernel_rfl
theorem zero_133 : zeroB Try.prog 133 = some [(Value.slice none 0 0), (Value.slice none 0 0), (Value.map none)] := by kernel_rfl
theorem zero_134 : zeroB Try.prog 134 = some [(Value.slice none 0 0)] := by kernel_rfl
theorem zero_136 : zeroB Try.prog 136 = some [(Value.pointer none)] := by kernel_rfl
theorem zero_150 : zeroB Try.prog 150 = some (List.map Value.bool (List.replicate 256 false)) := by kernel_rfl
theorem zero_155 : zeroB Try.prog 155 = some [(Value.int .i64 0), (Value.int .i64 0)] := by kernel_rfl
theorem zero_3 : zeroB Try.prog 3 = some [(Value.int .i64 0)] := by kernel_rfl
theorem zero_5 : zeroB Try.prog 5 = some [(Value.int .u8 0)] := by kernel_rfl
theorem zero_56 : zeroB Try.prog 56 = some [(Value.string (bs ([]))), (Value.string (bs ([]))), (Value.int .i64 0)] := by kernel_rfl
theorem zero_78 : zeroB Try.prog 78 = some [(Value.string (bs ([]))), (Value.slice none 0 0)] := by kernel_rfl
theorem zero_80 : zeroB Try.prog 80 = some [(Value.string (bs ([]))), (Value.slice none 0 0), (Value.string (bs ([])))] := by kernel_rfl
theorem zero_96 : zeroB Try.prog 96 = some [(Value.string (bs ([]))), (Value.slice none 0 0), (Value.bool false), (Value.int .i64 0), (Value.int .i64 0)] := by kernel_rfl
theorem zero_99 : zeroB Try.prog 99 = some [(Value.int .u8 0), (Value.int .u8 0)] := by kernel_rfl
def oState_78 : Ro (State) := fun m cs x M => ∃ c1, cs = [.string (bs x.Name), c1] ∧ x.Name.length ≤ LIMS ∧ ORow 80 3 pRule m c1 x.Rules M
theorem oState_78_up : MonoO oState_78 := ⟨fun hm h => by
  obtain ⟨c1, e, h0, h1⟩ := h
  exact ⟨c1, e, h0, h1.up mRule hm⟩⟩
theorem oState_78_fz : FrozO oState_78 pState := ⟨fun h hle hf => by
  obtain ⟨c1, e, h0, h1⟩ := h
  exact ⟨c1, e, h0, h1.froz mRule hle hf (by decide)⟩⟩
theorem strings_copyCheck_new {u : World} {m : Mem} {S : Segs} {w : World} {b : Nat} {v : Value} (ok : Ok u m ([(b, Obj.cells [(Value.pointer none), v].toArray 113 (0, 0))] :: S) w) :
    Calls Try.prog 62 [.pointer (some ⟨b, 0, none⟩)].toArray w fun e w' => e = .returned (.tuple [].toArray) ∧ Ok u m ([(b, Obj.cells [(Value.pointer (some ⟨b, 0, none⟩)), v].toArray 113 (0, 0))] :: S) w' := by
  have fin : ∀ a w, (a.defers = [] ∧ Ok u m ([(b, Obj.cells [(Value.pointer (some ⟨b, 0, none⟩)), v].toArray 113 (0, 0))] :: S) w) → bodyPost Try.prog Try.f62 (fun e w' => e = .returned (.tuple [].toArray) ∧ Ok u m ([(b, Obj.cells [(Value.pointer (some ⟨b, 0, none⟩)), v].toArray 113 (0, 0))] :: S) w') .ret a w := fun a w h => c_ret2 [] h.1 rfl trivial ⟨rfl, h.2⟩
  refine enter Try.func62 rfl rfl rfl fun a E => sg <| lv E ok (y_move rfl) fun a E => lv E ok (y_nilCheck rfl) fun a E => lv E ok (y_fieldAddr fo_113_0 rfl) fun a E => lv E ok (y_load one_110 rfl (Holds.own 0 rfl rfl)) fun a E => lv E ok (y_qnil Try.underlying110 rfl rfl) fun a E => ?_
  refine wn <| c_if E rfl (fun _ => ?_) (fun h => by cases h)
  refine c_region <| lv E ok (y_move rfl) fun a E => lv E ok (y_move rfl) fun a E => lv E ok (y_toUnsafe Try.underlying110 Try.underlying151 inf_113 (by decide) (shape_own (c := [(Value.pointer none), v]) 0 rfl) (Nat.le_of_ble_eq_true rfl) rfl) fun a E => lv E ok (y_noEscape Try.func77 (by kernel_rfl) (by kernel_rfl) (by kernel_rfl) (by kernel_rfl) rfl) fun a E => lv E ok (y_fromUnsafe Try.underlying151 Try.underlying110 infx_113 (shape_own (c := [(Value.pointer none), v]) 0 rfl) lies_113 rfl) fun a E => lv E ok (y_nilCheck rfl) fun a E => lv E ok (y_fieldAddr fo_113_0 rfl) fun a E => ?_
  refine l_storeB E ok 0 rfl rfl rfl inf_110 rfl rfl ⟨rfl, trivial⟩ rfl rfl fun w ok => wpList_nil ?_
  exact fin _ _ ⟨E.d, ok⟩
theorem strings_copyCheck_used {u : World} {m : Mem} {S : Segs} {w : World} {b : Nat} {v : Value} (ok : Ok u m ([(b, Obj.cells [(Value.pointer (some ⟨b, 0, none⟩)), v].toArray 113 (0, 0))] :: S) w) :
    Calls Try.prog 62 [.pointer (some ⟨b, 0, none⟩)].toArray w fun e w' => e = .returned (.tuple [].toArray) ∧ Ok u m ([(b, Obj.cells [(Value.pointer (some ⟨b, 0, none⟩)), v].toArray 113 (0, 0))] :: S) w' := by
  have fin : ∀ a w, (a.defers = [] ∧ Ok u m ([(b, Obj.cells [(Value.pointer (some ⟨b, 0, none⟩)), v].toArray 113 (0, 0))] :: S) w) → bodyPost Try.prog Try.f62 (fun e w' => e = .returned (.tuple [].toArray) ∧ Ok u m ([(b, Obj.cells [(Value.pointer (some ⟨b, 0, none⟩)), v].toArray 113 (0, 0))] :: S) w') .ret a w := fun a w h => c_ret2 [] h.1 rfl trivial ⟨rfl, h.2⟩
  refine enter Try.func62 rfl rfl rfl fun a E => sg <| lv E ok (y_move rfl) fun a E => lv E ok (y_nilCheck rfl) fun a E => lv E ok (y_fieldAddr fo_113_0 rfl) fun a E => lv E ok (y_load one_110 rfl (Holds.own 0 rfl rfl)) fun a E => lv E ok (y_qnil Try.underlying110 rfl rfl) fun a E => ?_
  refine wn <| c_if E rfl (fun h => by cases h) (fun _ => ?_)
  refine sg <| lv E ok (y_move rfl) fun a E => lv E ok (y_nilCheck rfl) fun a E => lv E ok (y_fieldAddr fo_113_0 rfl) fun a E => lv E ok (y_load one_110 rfl (Holds.own 0 rfl rfl)) fun a E => lv E ok (y_move rfl) fun a E => lv E ok (y_sameptr Try.underlying110 infx_113 rfl rfl) fun a E => ?_
  refine wn <| c_if E rfl (fun h => by cases h) (fun _ => ?_)
  refine wp_skip ?_
  exact fin _ _ ⟨E.d, ok⟩
theorem strings_copyCheck_w {u : World} {m : Mem} {S : Segs} {w : World} {b : Nat} {a v : Value} (ha : BAd b a) (ok : Ok u m ([(b, Obj.cells [a, v].toArray 113 (0, 0))] :: S) w) :
    Calls Try.prog 62 [.pointer (some ⟨b, 0, none⟩)].toArray w fun e w' => e = .returned (.tuple [].toArray) ∧ Ok u m ([(b, Obj.cells [(Value.pointer (some ⟨b, 0, none⟩)), v].toArray 113 (0, 0))] :: S) w' := by
  rcases ha with rfl | rfl
  · exact strings_copyCheck_new ok
  · exact strings_copyCheck_used ok
def strings_Builder_WriteString_R (u : World) (m0 : Mem) (S : Segs) (pb0 : Nat) (x0 : Builder) (c1 : Value) (c3 : Value) (M4 : List (Nat × Obj)) (r : Int × Unit × Builder) (a : Act) (w : World) : Prop :=
  ∃ c6 c8 M9, Ok u m0 ([(pb0, Obj.cells [c6, c8].toArray 113 (0, 0))] :: M9 :: S) w ∧ a.defers = [] ∧ RVs Try.prog a w [.t 4 (.int .i64 r.1), .t 5 .nilIface] ∧ InR .i64 r.1 ∧ BAd pb0 c6 ∧ ORow 5 1 (pI .u8) m0 c8 r.2.2.buf M9
set_option maxHeartbeats 4000000 in
set_option maxRecDepth 100000 in
theorem strings_Builder_WriteString_w {u : World} {m0 : Mem} {S : Segs} {w : World} (N : Nat) (s_1 : List UInt8) (ls_1 : s_1.length ≤ LIMS) {pb0 : Nat} {c1 : Value} {c3 : Value} {M4 : List (Nat × Obj)} (x0 : Builder) (h2 : BAd pb0 c1) (h5 : ORow 5 1 (pI .u8) m0 c3 x0.buf M4) {r : Int × Unit × Builder} (hF : strings_Builder_WriteString N s_1 x0 = some r) (hG : Glob u) (ok : Ok u m0 ([(pb0, Obj.cells [c1, c3].toArray 113 (0, 0))] :: M4 :: S) w) :
    Calls Try.prog 46 [Value.pointer (some ⟨pb0, 0, none⟩), Value.string (bs s_1)].toArray w fun e w' => ∃ c6 c8 M9, (e = .returned (.tuple [(.int .i64 r.1), .nilIface].toArray) ∧ Ok u m0 ([(pb0, Obj.cells [c6, c8].toArray 113 (0, 0))] :: M9 :: S) w') ∧ InR .i64 r.1 ∧ BAd pb0 c6 ∧ ORow 5 1 (pI .u8) m0 c8 r.2.2.buf M9 := by
  have hb0 := ok.base
  have le_m0 := Mem.le.refl m0
  unfold strings_Builder_WriteString at hF
  have fin : ∀ a w, strings_Builder_WriteString_R u m0 S pb0 x0 c1 c3 M4 r a w → bodyPost Try.prog Try.f46 (fun e w' => ∃ c6 c8 M9, (e = .returned (.tuple [(.int .i64 r.1), .nilIface].toArray) ∧ Ok u m0 ([(pb0, Obj.cells [c6, c8].toArray 113 (0, 0))] :: M9 :: S) w') ∧ InR .i64 r.1 ∧ BAd pb0 c6 ∧ ORow 5 1 (pI .u8) m0 c8 r.2.2.buf M9) .ret a w := by
    intro a w h
    obtain ⟨c6, c8, M9, ok, hd, hrv, h0, h1, h2⟩ := h
    exact c_ret2 [.t 4 (.int .i64 r.1), .t 5 .nilIface] hd rfl hrv ⟨c6, c8, M9, ⟨rfl, ok⟩, h0, h1, h2⟩
  refine enter Try.func46 rfl rfl rfl fun a E => sg <| lv E ok (y_assign rfl) fun a E => lv E ok (y_assign rfl) fun a E => wn <| wp_seq ?_
  refine c_region <| lv E ok (y_move rfl) fun a E => l_call E go_62 rfl (strings_copyCheck_w h2 ok) rfl rfl ?_
  rintro _ w ⟨rfl, ok⟩
  refine ⟨_, rfl, fun a E => ?_⟩
  refine wn <| sg <| lv E ok (y_move rfl) fun a E => lv E ok (y_move rfl) fun a E => lv E ok (y_nilCheck rfl) fun a E => lv E ok (y_fieldAddr fo_113_1 rfl) fun a E => ?_
  refine lv E ok (y_load one_111 rfl (Holds.own 0 rfl rfl)) fun a E => lv E ok (y_move rfl) fun a E => ?_
  obtain ⟨l11, e12, hF⟩ := bnd hF
  refine l_appS E ok 1 sl_111 Try.underlying9 rfl h5 e12 ⟨_, zero_5, rfl⟩ rfl rfl rfl rfl fun c13 M14 a w E ok h15 => lv E ok (y_nilCheck rfl) fun a E => lv E ok (y_fieldAddr fo_113_1 rfl) fun a E => l_storeB E ok 0 rfl rfl rfl inf_111 (ORow.cells h15) rfl ⟨(ORow.one h15), trivial⟩ rfl rfl fun w ok => wn <| sg ?_
  refine lv E ok (y_move rfl) fun a E => lv E ok (y_slen Try.underlying9 rfl) fun a E => lv E ok (y_assign rfl) fun a E => lv E ok (y_assign rfl) fun a E => wn <| wp_ret ?_
  have hret : strings_Builder_WriteString_R u m0 S pb0 x0 c1 c3 M4 ((s_1.length : Int), (), (Builder.mk () l11)) a w := ⟨(Value.pointer (some ⟨pb0, 0, none⟩)), c13, M14, ok, E.d, ⟨rv_t E rfl, rv_t E rfl, trivial⟩, (InR.len ls_1), (.inr rfl), h15⟩
  obtain rfl := sj hF
  exact fin _ _ hret
def strings_Builder_WriteByte_R (u : World) (m0 : Mem) (S : Segs) (pb0 : Nat) (x0 : Builder) (c1 : Value) (c3 : Value) (M4 : List (Nat × Obj)) (r : Unit × Builder) (a : Act) (w : World) : Prop :=
  ∃ c6 c8 M9, Ok u m0 ([(pb0, Obj.cells [c6, c8].toArray 113 (0, 0))] :: M9 :: S) w ∧ a.defers = [] ∧ RVs Try.prog a w [.t 4 .nilIface] ∧ BAd pb0 c6 ∧ ORow 5 1 (pI .u8) m0 c8 r.2.buf M9
set_option maxHeartbeats 4000000 in
set_option maxRecDepth 100000 in
theorem strings_Builder_WriteByte_w {u : World} {m0 : Mem} {S : Segs} {w : World} (N : Nat) (c_1 : Int) (rc_1 : InR .u8 c_1) {pb0 : Nat} {c1 : Value} {c3 : Value} {M4 : List (Nat × Obj)} (x0 : Builder) (h2 : BAd pb0 c1) (h5 : ORow 5 1 (pI .u8) m0 c3 x0.buf M4) {r : Unit × Builder} (hF : strings_Builder_WriteByte N c_1 x0 = some r) (hG : Glob u) (ok : Ok u m0 ([(pb0, Obj.cells [c1, c3].toArray 113 (0, 0))] :: M4 :: S) w) :
    Calls Try.prog 63 [Value.pointer (some ⟨pb0, 0, none⟩), Value.int .u8 c_1].toArray w fun e w' => ∃ c6 c8 M9, (e = .returned .nilIface ∧ Ok u m0 ([(pb0, Obj.cells [c6, c8].toArray 113 (0, 0))] :: M9 :: S) w') ∧ BAd pb0 c6 ∧ ORow 5 1 (pI .u8) m0 c8 r.2.buf M9 := by
  have hb0 := ok.base
  have le_m0 := Mem.le.refl m0
  unfold strings_Builder_WriteByte at hF
  have fin : ∀ a w, strings_Builder_WriteByte_R u m0 S pb0 x0 c1 c3 M4 r a w → bodyPost Try.prog Try.f63 (fun e w' => ∃ c6 c8 M9, (e = .returned .nilIface ∧ Ok u m0 ([(pb0, Obj.cells [c6, c8].toArray 113 (0, 0))] :: M9 :: S) w') ∧ BAd pb0 c6 ∧ ORow 5 1 (pI .u8) m0 c8 r.2.buf M9) .ret a w := by
    intro a w h
    obtain ⟨c6, c8, M9, ok, hd, hrv, h0, h1⟩ := h
    exact c_ret2 [.t 4 .nilIface] hd rfl hrv ⟨c6, c8, M9, ⟨rfl, ok⟩, h0, h1⟩
  refine enter Try.func63 rfl rfl rfl fun a E => sg <| lv E ok (y_assign rfl) fun a E => wn <| sg ?_
  refine lv E ok (y_move rfl) fun a E => l_call E go_62 rfl (strings_copyCheck_w h2 ok) rfl rfl ?_
  rintro _ w ⟨rfl, ok⟩
  refine ⟨_, rfl, fun a E => ?_⟩
  refine wn <| sg <| lv E ok (y_move rfl) fun a E => lv E ok (y_move rfl) fun a E => lv E ok (y_nilCheck rfl) fun a E => lv E ok (y_fieldAddr fo_113_1 rfl) fun a E => ?_
  refine lv E ok (y_load one_111 rfl (Holds.own 0 rfl rfl)) fun a E => lv E ok (y_move rfl) fun a E => l_slit (R := (pI .u8)) (xo := [.tmp 12]) (xs := ([c_1] : List (Int))) E ok sl_111 zero_5 rfl ⟨⟨_, rfl, rfl, (pI_mk rc_1)⟩, trivial⟩ rfl rfl rfl rfl fun c11 M12 a w E ok h13 => ?_
  obtain ⟨l14, e15, hF⟩ := bnd hF
  refine l_app (R := (pI .u8)) E ok 2 (mI .u8) sl_111 Try.underlying111 rfl h5 (SrcOK.ofRow h13 0 rfl ok) e15 ⟨_, zero_5, rfl⟩ rfl rfl rfl rfl fun c16 M17 a w E ok h18 => lv E ok (y_nilCheck rfl) fun a E => lv E ok (y_fieldAddr fo_113_1 rfl) fun a E => l_storeB E ok 1 rfl rfl rfl inf_111 (ORow.cells h18) rfl ⟨(ORow.one h18), trivial⟩ rfl rfl fun w ok => wn <| sg ?_
  refine lv E ok (y_assign rfl) fun a E => wn <| wp_ret ?_
  have hret : strings_Builder_WriteByte_R u m0 S pb0 x0 c1 c3 M4 ((), (Builder.mk () l14)) a w := ⟨(Value.pointer (some ⟨pb0, 0, none⟩)), c16, M17, ok.drop, E.d, ⟨rv_t E rfl, trivial⟩, (.inr rfl), h18⟩
  obtain rfl := sj hF
  exact fin _ _ hret
def scan_mark_R (u : World) (m0 : Mem) (S : Segs) (r : (List UInt8) × Bool) (a : Act) (w : World) : Prop :=
  Ok u m0 S w ∧ a.defers = [] ∧ RVs Try.prog a w [.t 2 (.string (bs r.1)), .t 3 (.bool r.2)] ∧ r.1.length ≤ LIMS
set_option maxHeartbeats 4000000 in
set_option maxRecDepth 100000 in
theorem scan_mark_w {u : World} {m0 : Mem} {S : Segs} {w : World} (N : Nat) (vx_0 : List Value) (x_0 : Item) (hx_0 : pItem m0 vx_0 x_0) {r : (List UInt8) × Bool} (hF : scan_mark N x_0 = some r) (hG : Glob u) (ok : Ok u m0 S w) :
    Calls Try.prog 67 [.agg vx_0.toArray].toArray w fun e w' => (e = .returned (.tuple [(.string (bs r.1)), (.bool r.2)].toArray) ∧ Ok u m0 S w') ∧ r.1.length ≤ LIMS := by
  obtain ⟨c2, rfl, l1, h3, r4, r5⟩ := hx_0
  have hb0 := ok.base
  have le_m0 := Mem.le.refl m0
  unfold scan_mark at hF
  have fin : ∀ a w, scan_mark_R u m0 S r a w → bodyPost Try.prog Try.f67 (fun e w' => (e = .returned (.tuple [(.string (bs r.1)), (.bool r.2)].toArray) ∧ Ok u m0 S w') ∧ r.1.length ≤ LIMS) .ret a w := by
    intro a w h
    obtain ⟨ok, hd, hrv, h0⟩ := h
    exact c_ret2 [.t 2 (.string (bs r.1)), .t 3 (.bool r.2)] hd rfl hrv ⟨⟨rfl, ok⟩, h0⟩
  refine enter Try.func67 rfl rfl rfl fun a E => sg <| l_box E ok rfl rfl rfl fun b6 a w E ok => lv E ok (y_assign rfl) fun a E => lv E ok (y_assign rfl) fun a E => wn ?_
  refine wp_seq <| sg <| lv E ok (y_fieldAddr fo_96_3 rfl) fun a E => lv E ok (y_load one_3 rfl (Holds.own 0 rfl rfl)) fun a E => lv E ok (y_fieldAddr fo_96_4 rfl) fun a E => lv E ok (y_load one_3 rfl (Holds.own 0 rfl rfl)) fun a E => lv E ok (y_buildA (ps := [(0, .tmp 5), (1, .tmp 7)]) (qs := [(0, [(Value.int .i64 x_0.Least)]), (1, [(Value.int .i64 x_0.Most)])]) (cs := [(Value.int .i64 x_0.Least), (Value.int .i64 x_0.Most)]) zero_155 art_155 rfl ⟨rfl, rfl, rfl, ⟨rfl, rfl, rfl, trivial⟩⟩ rfl) fun a E => ?_
  refine wn <| wp_block <| sg <| lv E ok (y_buildA (ps := [(0, .const (Value.int .i64 1)), (1, .const (Value.int .i64 1))]) (qs := [(0, [(Value.int .i64 1)]), (1, [(Value.int .i64 1)])]) (cs := [(Value.int .i64 1), (Value.int .i64 1)]) zero_155 art_155 rfl ⟨rfl, rfl, rfl, ⟨rfl, rfl, rfl, trivial⟩⟩ rfl) fun a E => lv E ok (y_aeql eqg_155 (eqv_array (is := [0, 1]) Try.underlying155 inf_3 (by kernel_rfl) rfl (eqis_step (part_one one_3 rfl) (part_one one_3 rfl) (eqv_int Try.underlying3) (eqis_last (part_one one_3 rfl) (part_one one_3 rfl) (eqv_int Try.underlying3)))) rfl rfl) fun a E => lv E ok (y_assign rfl) fun a E => ?_
  refine wn <| c_if E rfl (fun hc7 => ?_) (fun hc7 => ?_)
  · replace hF := cond_t hc7 hF
    refine sg <| lv E ok (y_assign rfl) fun a E => lv E ok (y_assign rfl) fun a E => wn <| wp_ret <| b_ret ?_
    refine t_ret ?_
    have hret : scan_mark_R u m0 S ([], true) a w := ⟨ok.drop, E.d, ⟨rv_t E rfl, rv_t E rfl, trivial⟩, (show ([] : List UInt8).length ≤ LIMS by decide)⟩
    obtain rfl := sj hF
    exact fin _ _ hret
  replace hF := cond_f hc7 hF
  refine sg <| lv E ok (y_buildA (ps := [(0, .const (Value.int .i64 0)), (1, .const (Value.int .i64 1))]) (qs := [(0, [(Value.int .i64 0)]), (1, [(Value.int .i64 1)])]) (cs := [(Value.int .i64 0), (Value.int .i64 1)]) zero_155 art_155 rfl ⟨rfl, rfl, rfl, ⟨rfl, rfl, rfl, trivial⟩⟩ rfl) fun a E => lv E ok (y_aeql eqg_155 (eqv_array (is := [0, 1]) Try.underlying155 inf_3 (by kernel_rfl) rfl (eqis_step (part_one one_3 rfl) (part_one one_3 rfl) (eqv_int Try.underlying3) (eqis_last (part_one one_3 rfl) (part_one one_3 rfl) (eqv_int Try.underlying3)))) rfl rfl) fun a E => lv E ok (y_assign rfl) fun a E => wn <| c_if E rfl (fun hc8 => ?_) (fun hc8 => ?_)
  · replace hF := cond_t hc8 hF
    refine sg <| lv E ok (y_assign rfl) fun a E => lv E ok (y_assign rfl) fun a E => wn <| wp_ret <| b_ret ?_
    refine t_ret ?_
    have hret : scan_mark_R u m0 S ([63], true) a w := ⟨ok.drop, E.d, ⟨rv_t E rfl, rv_t E rfl, trivial⟩, (show ([63] : List UInt8).length ≤ LIMS by decide)⟩
    obtain rfl := sj hF
    exact fin _ _ hret
  replace hF := cond_f hc8 hF
  refine sg <| lv E ok (y_buildA (ps := [(0, .const (Value.int .i64 0)), (1, .const (Value.int .i64 (-1)))]) (qs := [(0, [(Value.int .i64 0)]), (1, [(Value.int .i64 (-1))])]) (cs := [(Value.int .i64 0), (Value.int .i64 (-1))]) zero_155 art_155 rfl ⟨rfl, rfl, rfl, ⟨rfl, rfl, rfl, trivial⟩⟩ rfl) fun a E => lv E ok (y_aeql eqg_155 (eqv_array (is := [0, 1]) Try.underlying155 inf_3 (by kernel_rfl) rfl (eqis_step (part_one one_3 rfl) (part_one one_3 rfl) (eqv_int Try.underlying3) (eqis_last (part_one one_3 rfl) (part_one one_3 rfl) (eqv_int Try.underlying3)))) rfl rfl) fun a E => lv E ok (y_assign rfl) fun a E => wn <| c_if E rfl (fun hc9 => ?_) (fun hc9 => ?_)
  · replace hF := cond_t hc9 hF
    refine sg <| lv E ok (y_assign rfl) fun a E => lv E ok (y_assign rfl) fun a E => wn <| wp_ret <| b_ret ?_
    refine t_ret ?_
    have hret : scan_mark_R u m0 S ([42], true) a w := ⟨ok.drop, E.d, ⟨rv_t E rfl, rv_t E rfl, trivial⟩, (show ([42] : List UInt8).length ≤ LIMS by decide)⟩
    obtain rfl := sj hF
    exact fin _ _ hret
  replace hF := cond_f hc9 hF
  refine sg <| lv E ok (y_buildA (ps := [(0, .const (Value.int .i64 1)), (1, .const (Value.int .i64 (-1)))]) (qs := [(0, [(Value.int .i64 1)]), (1, [(Value.int .i64 (-1))])]) (cs := [(Value.int .i64 1), (Value.int .i64 (-1))]) zero_155 art_155 rfl ⟨rfl, rfl, rfl, ⟨rfl, rfl, rfl, trivial⟩⟩ rfl) fun a E => lv E ok (y_aeql eqg_155 (eqv_array (is := [0, 1]) Try.underlying155 inf_3 (by kernel_rfl) rfl (eqis_step (part_one one_3 rfl) (part_one one_3 rfl) (eqv_int Try.underlying3) (eqis_last (part_one one_3 rfl) (part_one one_3 rfl) (eqv_int Try.underlying3)))) rfl rfl) fun a E => lv E ok (y_assign rfl) fun a E => wn <| c_if E rfl (fun hc10 => ?_) (fun hc10 => ?_)
  · replace hF := cond_t hc10 hF
    refine sg <| lv E ok (y_assign rfl) fun a E => lv E ok (y_assign rfl) fun a E => wn <| wp_ret <| b_ret ?_
    refine t_ret ?_
    have hret : scan_mark_R u m0 S ([43], true) a w := ⟨ok.drop, E.d, ⟨rv_t E rfl, rv_t E rfl, trivial⟩, (show ([43] : List UInt8).length ≤ LIMS by decide)⟩
    obtain rfl := sj hF
    exact fin _ _ hret
  replace hF := cond_f hc10 hF
  refine wp_skip <| b_norm <| t_norm <| sg <| lv E ok (y_assign rfl) fun a E => lv E ok (y_assign rfl) fun a E => wpList_nil ?_
  refine t_norm <| wp_ret ?_
  have hret : scan_mark_R u m0 S ([], false) a w := ⟨ok.drop, E.d, ⟨rv_t E rfl, rv_t E rfl, trivial⟩, (show ([] : List UInt8).length ≤ LIMS by decide)⟩
  obtain rfl := sj hF
  exact fin _ _ hret
def scan_hex_R (u : World) (m0 : Mem) (S : Segs) (r : (List UInt8)) (a : Act) (w : World) : Prop :=
  Ok u m0 S w ∧ a.defers = [] ∧ RVs Try.prog a w [.t 2 (.string (bs r))] ∧ r.length ≤ LIMS
set_option maxHeartbeats 4000000 in
set_option maxRecDepth 100000 in
theorem scan_hex_w {u : World} {m0 : Mem} {S : Segs} {w : World} (N : Nat) (c_0 : Int) (rc_0 : InR .u8 c_0) {r : (List UInt8)} (hF : scan_hex N c_0 = some r) (hG : Glob u) (ok : Ok u m0 S w) :
    Calls Try.prog 88 [Value.int .u8 c_0].toArray w fun e w' => (e = .returned (.string (bs r)) ∧ Ok u m0 S w') ∧ r.length ≤ LIMS := by
  have hb0 := ok.base
  have le_m0 := Mem.le.refl m0
  unfold scan_hex at hF
  have fin : ∀ a w, scan_hex_R u m0 S r a w → bodyPost Try.prog Try.f88 (fun e w' => (e = .returned (.string (bs r)) ∧ Ok u m0 S w') ∧ r.length ≤ LIMS) .ret a w := by
    intro a w h
    obtain ⟨ok, hd, hrv, h0⟩ := h
    exact c_ret2 [.t 2 (.string (bs r))] hd rfl hrv ⟨⟨rfl, ok⟩, h0⟩
  refine enter Try.func88 rfl rfl rfl fun a E => sg <| lv E ok (y_assign rfl) fun a E => wn <| wp_seq ?_
  obtain ⟨o1, hJ, hF⟩ := bnd hF
  refine c_mono (Q' := fun e a w => e = .normal ∧ Ok u m0 (S) w ∧ Env 12 a [(2, (Value.string (bs o1)))] ∧ o1.length ≤ LIMS) ?_ ?_
  rotate_left
  · clear hJ
    intro e a w hO
    obtain ⟨rfl, ok, E, l17⟩ := hO
    refine t_norm <| wp_ret ?_
    have hret : scan_hex_R u m0 S o1 a w := ⟨ok, E.d, ⟨rv_t E rfl, trivial⟩, l17⟩
    obtain rfl := sj hF
    exact fin _ _ hret
  replace hF := hJ
  clear hJ
  obtain ⟨c3, e4, hF⟩ := bnd hF
  obtain ⟨q5, e6, hF⟩ := bnd hF
  obtain ⟨c7, e8, hF⟩ := bnd hF
  obtain ⟨s12, e13, hF⟩ := bnd hF
  obtain rfl := sj hF
  refine k_begin [] (Cls u m0 ([])) (Cls u m0 ([])) (by kernel_rfl) ?_
  intro w hw
  replace ok := okdrew ok hw
  clear hw
  refine k_next (cl1 ⟨m0, _, le_m0, ok, trivial⟩ ⟨m0, _, le_m0, ok, trivial⟩) fun hT => kt 0 E rfl hT (y_move rfl) fun a E => kt 1 E rfl hT (y_quo rfl rfl (by decide)) fun a E => kt 2 E rfl hT (y_index Try.underlying9 rfl rfl e4) fun a E => kt 3 E rfl hT (y_move rfl) fun a E => kt 4 E rfl hT (y_rm rfl rfl e6) fun a E => kt 5 E rfl hT (y_index Try.underlying9 rfl rfl e8) fun a E => k_all [6] (by kernel_rfl) rfl (one_c ?_)
  · refine wpOp_of_list (o := _) rfl <| l_slit (R := (pI .u8)) (xo := [.tmp 5, .tmp 8]) (xs := ([(c3.toNat : Int), (c7.toNat : Int)] : List (Int))) E ok sl_111 zero_5 rfl ⟨⟨_, rfl, rfl, (pI_mk (InR.byte c3))⟩, ⟨_, rfl, rfl, (pI_mk (InR.byte c7))⟩, trivial⟩ rfl rfl rfl rfl fun c14 M15 a w E ok h16 => wn <| k_next (cl1 ⟨m0, _, le_m0, ok, trivial⟩ ⟨m0, _, le_m0, ok, trivial⟩) fun hT => k_all [7] (by kernel_rfl) rfl (one_c ?_)
    · refine wpOp_of_list (o := _) rfl <| lv E ok (y_bstr Try.underlying111 Try.underlying5 Try.underlying9 rfl (BR.ofRow h16 0 rfl)) fun a E => wn <| k_next (cl1 ⟨m0, _, le_m0, ok, trivial⟩ ⟨m0, _, le_m0, ok, trivial⟩) fun hT => kt 8 E rfl hT (y_cat rfl rfl e13) fun a E => kt 9 E rfl hT (y_assign rfl) fun a E => k_done (by kernel_rfl) ?_
      exact ⟨rfl, ⟨(ok.pk 1 [] rfl (by decide)), E.keep [2], (cat_len e13)⟩⟩
def scan_quoted_R (u : World) (m0 : Mem) (S : Segs) (r : (List UInt8)) (a : Act) (w : World) : Prop :=
  Ok u m0 S w ∧ a.defers = [] ∧ RVs Try.prog a w [.t 2 (.string (bs r))] ∧ r.length ≤ LIMS
set_option maxHeartbeats 4000000 in
set_option maxRecDepth 100000 in
theorem scan_quoted_w {u : World} {m0 : Mem} {S : Segs} {w : World} (N : Nat) (c_0 : Int) (rc_0 : InR .u8 c_0) {r : (List UInt8)} (hF : scan_quoted N c_0 = some r) (hG : Glob u) (ok : Ok u m0 S w) :
    Calls Try.prog 78 [Value.int .u8 c_0].toArray w fun e w' => (e = .returned (.string (bs r)) ∧ Ok u m0 S w') ∧ r.length ≤ LIMS := by
  have hb0 := ok.base
  have le_m0 := Mem.le.refl m0
  unfold scan_quoted at hF
  have fin : ∀ a w, scan_quoted_R u m0 S r a w → bodyPost Try.prog Try.f78 (fun e w' => (e = .returned (.string (bs r)) ∧ Ok u m0 S w') ∧ r.length ≤ LIMS) .ret a w := by
    intro a w h
    obtain ⟨ok, hd, hrv, h0⟩ := h
    exact c_ret2 [.t 2 (.string (bs r))] hd rfl hrv ⟨⟨rfl, ok⟩, h0⟩
  refine enter Try.func78 rfl rfl rfl fun a E => sg <| lv E ok (y_assign rfl) fun a E => wn <| wp_seq <| wp_block ?_
  refine sg <| lv E ok (y_move rfl) fun a E => lv E ok (y_lss rfl rfl) fun a E => lv E ok (y_move rfl) fun a E => bsplit (decide (c_0 < 32)) (fun hc1 => ?_) (fun hc1 => ?_)
  · replace hF := cond_t hc1 hF
    replace E := E.upd 6 hc1 rfl
    refine ls E fun a E => ls E fun a E => lv E ok (y_pickT rfl rfl) fun a E => lv E ok (y_assign rfl) fun a E => wn <| c_if E rfl (fun _ => ?_) (fun h => by cases h)
    refine sg <| lv E ok (y_move rfl) fun a E => ?_
    obtain ⟨r2, e3, hF⟩ := bnd hF
    refine l_call E go_88 rfl (scan_hex_w N c_0 rc_0 e3 hG ok) rfl rfl ?_
    rintro _ w ⟨⟨rfl, ok⟩, l4⟩
    refine ⟨_, rfl, fun a E => ?_⟩
    refine lv E ok (y_assign rfl) fun a E => wn <| wp_ret <| b_ret <| t_ret ?_
    have hret : scan_quoted_R u m0 S r2 a w := ⟨ok, E.d, ⟨rv_t E rfl, trivial⟩, l4⟩
    obtain rfl := sj hF
    exact fin _ _ hret
  replace hF := cond_f hc1 hF
  replace E := E.upd 6 hc1 rfl
  refine lv E ok (y_move rfl) fun a E => lv E ok (y_gtr rfl rfl) fun a E => lv E ok (y_pickF rfl rfl) fun a E => lv E ok (y_assign rfl) fun a E => wn <| c_if E rfl (fun hc5 => ?_) (fun hc5 => ?_)
  · replace hF := cond_t hc5 hF
    refine sg <| lv E ok (y_move rfl) fun a E => ?_
    obtain ⟨r6, e7, hF⟩ := bnd hF
    refine l_call E go_88 rfl (scan_hex_w N c_0 rc_0 e7 hG ok) rfl rfl ?_
    rintro _ w ⟨⟨rfl, ok⟩, l8⟩
    refine ⟨_, rfl, fun a E => ?_⟩
    refine lv E ok (y_assign rfl) fun a E => wn <| wp_ret <| b_ret <| t_ret ?_
    have hret : scan_quoted_R u m0 S r6 a w := ⟨ok, E.d, ⟨rv_t E rfl, trivial⟩, l8⟩
    obtain rfl := sj hF
    exact fin _ _ hret
  replace hF := cond_f hc5 hF
  refine sg <| lv E ok (y_move rfl) fun a E => lv E ok (y_eql rfl rfl) fun a E => lv E ok (y_move rfl) fun a E => bsplit (c_0 == 34) (fun hc9 => ?_) (fun hc9 => ?_)
  · replace hF := cond_t hc9 hF
    replace E := E.upd 15 hc9 rfl
    refine ls E fun a E => ls E fun a E => lv E ok (y_pickT rfl rfl) fun a E => lv E ok (y_assign rfl) fun a E => wn <| c_if E rfl (fun _ => ?_) (fun h => by cases h)
    refine sg <| lv E ok (y_move rfl) fun a E => l_slit (R := (pI .u8)) (xo := [.tmp 19]) (xs := ([c_0] : List (Int))) E ok sl_111 zero_5 rfl ⟨⟨_, rfl, rfl, (pI_mk rc_0)⟩, trivial⟩ rfl rfl rfl rfl fun c10 M11 a w E ok h12 => lv E ok (y_bstr Try.underlying111 Try.underlying5 Try.underlying9 rfl (BR.ofRow h12 0 rfl)) fun a E => ?_
    obtain ⟨s13, e14, hF⟩ := bnd hF
    refine lv E ok (y_cat rfl rfl e14) fun a E => lv E ok (y_assign rfl) fun a E => wn <| wp_ret <| b_ret <| t_ret ?_
    have hret : scan_quoted_R u m0 S s13 a w := ⟨ok.drop, E.d, ⟨rv_t E rfl, trivial⟩, (cat_len e14)⟩
    obtain rfl := sj hF
    exact fin _ _ hret
  replace hF := cond_f hc9 hF
  replace E := E.upd 15 hc9 rfl
  refine lv E ok (y_move rfl) fun a E => lv E ok (y_eql rfl rfl) fun a E => lv E ok (y_pickF rfl rfl) fun a E => lv E ok (y_assign rfl) fun a E => wn <| c_if E rfl (fun hc15 => ?_) (fun hc15 => ?_)
  rotate_left
  · replace hF := cond_f hc15 hF
    refine wp_skip <| b_norm <| t_norm <| sg <| lv E ok (y_move rfl) fun a E => l_slit (R := (pI .u8)) (xo := [.tmp 23]) (xs := ([c_0] : List (Int))) E ok sl_111 zero_5 rfl ⟨⟨_, rfl, rfl, (pI_mk rc_0)⟩, trivial⟩ rfl rfl rfl rfl fun c21 M22 a w E ok h23 => lv E ok (y_bstr Try.underlying111 Try.underlying5 Try.underlying9 rfl (BR.ofRow h23 0 rfl)) fun a E => ?_
    refine lv E ok (y_assign rfl) fun a E => wn <| wp_ret ?_
    have hret : scan_quoted_R u m0 S (bytesOf ([c_0] : List (Int))) a w := ⟨ok.drop, E.d, ⟨rv_t E rfl, trivial⟩, (Nat.le_trans (Nat.le_of_eq bytesOf_len) h23.form.2)⟩
    obtain rfl := sj hF
    exact fin _ _ hret
  replace hF := cond_t hc15 hF
  refine sg <| lv E ok (y_move rfl) fun a E => l_slit (R := (pI .u8)) (xo := [.tmp 19]) (xs := ([c_0] : List (Int))) E ok sl_111 zero_5 rfl ⟨⟨_, rfl, rfl, (pI_mk rc_0)⟩, trivial⟩ rfl rfl rfl rfl fun c16 M17 a w E ok h18 => lv E ok (y_bstr Try.underlying111 Try.underlying5 Try.underlying9 rfl (BR.ofRow h18 0 rfl)) fun a E => ?_
  obtain ⟨s19, e20, hF⟩ := bnd hF
  refine lv E ok (y_cat rfl rfl e20) fun a E => lv E ok (y_assign rfl) fun a E => wn <| wp_ret <| b_ret <| t_ret ?_
  have hret : scan_quoted_R u m0 S s19 a w := ⟨ok.drop, E.d, ⟨rv_t E rfl, trivial⟩, (cat_len e20)⟩
  obtain rfl := sj hF
  exact fin _ _ hret
theorem strings_IndexByte_w {u : World} {m0 : Mem} {S : Segs} {w : World} (N : Nat) (p0_0 : List UInt8) (lp0_0 : p0_0.length ≤ LIMS) (p1_1 : Int) (rp1_1 : InR .u8 p1_1) {r : Int} (hF : strings_IndexByte N p0_0 p1_1 = some r) (hG : Glob u) (ok : Ok u m0 S w) :
    Calls Try.prog 86 [Value.string (bs p0_0), Value.int .u8 p1_1].toArray w fun e w' => (e = .returned (.int .i64 r) ∧ Ok u m0 S w') ∧ InR .i64 r := lib_IndexByte Try.lays137 p0_0 p1_1 hF lp0_0 ok
def scan_bracketed_R (u : World) (m0 : Mem) (S : Segs) (r : (List UInt8)) (a : Act) (w : World) : Prop :=
  Ok u m0 S w ∧ a.defers = [] ∧ RVs Try.prog a w [.t 2 (.string (bs r))] ∧ r.length ≤ LIMS
set_option maxHeartbeats 4000000 in
set_option maxRecDepth 100000 in
theorem scan_bracketed_w {u : World} {m0 : Mem} {S : Segs} {w : World} (N : Nat) (c_0 : Int) (rc_0 : InR .u8 c_0) {r : (List UInt8)} (hF : scan_bracketed N c_0 = some r) (hG : Glob u) (ok : Ok u m0 S w) :
    Calls Try.prog 79 [Value.int .u8 c_0].toArray w fun e w' => (e = .returned (.string (bs r)) ∧ Ok u m0 S w') ∧ r.length ≤ LIMS := by
  have hb0 := ok.base
  have le_m0 := Mem.le.refl m0
  unfold scan_bracketed at hF
  have fin : ∀ a w, scan_bracketed_R u m0 S r a w → bodyPost Try.prog Try.f79 (fun e w' => (e = .returned (.string (bs r)) ∧ Ok u m0 S w') ∧ r.length ≤ LIMS) .ret a w := by
    intro a w h
    obtain ⟨ok, hd, hrv, h0⟩ := h
    exact c_ret2 [.t 2 (.string (bs r))] hd rfl hrv ⟨⟨rfl, ok⟩, h0⟩
  refine enter Try.func79 rfl rfl rfl fun a E => sg <| lv E ok (y_assign rfl) fun a E => wn <| wp_seq <| wp_block ?_
  refine sg <| lv E ok (y_move rfl) fun a E => lv E ok (y_leq rfl rfl) fun a E => lv E ok (y_move rfl) fun a E => bsplit (decide (c_0 ≤ 32)) (fun hc1 => ?_) (fun hc1 => ?_)
  · replace hF := cond_t hc1 hF
    replace E := E.upd 6 hc1 rfl
    refine ls E fun a E => ls E fun a E => lv E ok (y_pickT rfl rfl) fun a E => lv E ok (y_assign rfl) fun a E => wn <| c_if E rfl (fun _ => ?_) (fun h => by cases h)
    refine sg <| lv E ok (y_move rfl) fun a E => ?_
    obtain ⟨r2, e3, hF⟩ := bnd hF
    refine l_call E go_88 rfl (scan_hex_w N c_0 rc_0 e3 hG ok) rfl rfl ?_
    rintro _ w ⟨⟨rfl, ok⟩, l4⟩
    refine ⟨_, rfl, fun a E => ?_⟩
    refine lv E ok (y_assign rfl) fun a E => wn <| wp_ret <| b_ret <| t_ret ?_
    have hret : scan_bracketed_R u m0 S r2 a w := ⟨ok, E.d, ⟨rv_t E rfl, trivial⟩, l4⟩
    obtain rfl := sj hF
    exact fin _ _ hret
  replace hF := cond_f hc1 hF
  replace E := E.upd 6 hc1 rfl
  refine lv E ok (y_move rfl) fun a E => lv E ok (y_gtr rfl rfl) fun a E => lv E ok (y_pickF rfl rfl) fun a E => lv E ok (y_assign rfl) fun a E => wn <| c_if E rfl (fun hc5 => ?_) (fun hc5 => ?_)
  · replace hF := cond_t hc5 hF
    refine sg <| lv E ok (y_move rfl) fun a E => ?_
    obtain ⟨r6, e7, hF⟩ := bnd hF
    refine l_call E go_88 rfl (scan_hex_w N c_0 rc_0 e7 hG ok) rfl rfl ?_
    rintro _ w ⟨⟨rfl, ok⟩, l8⟩
    refine ⟨_, rfl, fun a E => ?_⟩
    refine lv E ok (y_assign rfl) fun a E => wn <| wp_ret <| b_ret <| t_ret ?_
    have hret : scan_bracketed_R u m0 S r6 a w := ⟨ok, E.d, ⟨rv_t E rfl, trivial⟩, l8⟩
    obtain rfl := sj hF
    exact fin _ _ hret
  replace hF := cond_f hc5 hF
  refine sg <| lv E ok (y_move rfl) fun a E => ?_
  obtain ⟨r9, e10, hF⟩ := bnd hF
  refine l_call E go_86 rfl (strings_IndexByte_w N ([91, 93, 94, 45, 92]) (show ([91, 93, 94, 45, 92] : List UInt8).length ≤ LIMS by decide) c_0 rc_0 e10 hG ok) rfl rfl ?_
  rintro _ w ⟨⟨rfl, ok⟩, r11⟩
  refine ⟨_, rfl, fun a E => ?_⟩
  refine lv E ok (y_geq rfl rfl) fun a E => lv E ok (y_assign rfl) fun a E => wn <| c_if E rfl (fun hc12 => ?_) (fun hc12 => ?_)
  rotate_left
  · replace hF := cond_f hc12 hF
    refine wp_skip <| b_norm <| t_norm <| sg <| lv E ok (y_move rfl) fun a E => l_slit (R := (pI .u8)) (xo := [.tmp 20]) (xs := ([c_0] : List (Int))) E ok sl_111 zero_5 rfl ⟨⟨_, rfl, rfl, (pI_mk rc_0)⟩, trivial⟩ rfl rfl rfl rfl fun c18 M19 a w E ok h20 => lv E ok (y_bstr Try.underlying111 Try.underlying5 Try.underlying9 rfl (BR.ofRow h20 0 rfl)) fun a E => ?_
    refine lv E ok (y_assign rfl) fun a E => wn <| wp_ret ?_
    have hret : scan_bracketed_R u m0 S (bytesOf ([c_0] : List (Int))) a w := ⟨ok.drop, E.d, ⟨rv_t E rfl, trivial⟩, (Nat.le_trans (Nat.le_of_eq bytesOf_len) h20.form.2)⟩
    obtain rfl := sj hF
    exact fin _ _ hret
  replace hF := cond_t hc12 hF
  refine sg <| lv E ok (y_move rfl) fun a E => l_slit (R := (pI .u8)) (xo := [.tmp 16]) (xs := ([c_0] : List (Int))) E ok sl_111 zero_5 rfl ⟨⟨_, rfl, rfl, (pI_mk rc_0)⟩, trivial⟩ rfl rfl rfl rfl fun c13 M14 a w E ok h15 => lv E ok (y_bstr Try.underlying111 Try.underlying5 Try.underlying9 rfl (BR.ofRow h15 0 rfl)) fun a E => ?_
  obtain ⟨s16, e17, hF⟩ := bnd hF
  refine lv E ok (y_cat rfl rfl e17) fun a E => lv E ok (y_assign rfl) fun a E => wn <| wp_ret <| b_ret <| t_ret ?_
  have hret : scan_bracketed_R u m0 S s16 a w := ⟨ok.drop, E.d, ⟨rv_t E rfl, trivial⟩, (cat_len e17)⟩
  obtain rfl := sj hF
  exact fin _ _ hret
def scan_item_R (u : World) (m0 : Mem) (S : Segs) (pb0 : Nat) (x0 : Builder) (c6 : Value) (c8 : Value) (M9 : List (Nat × Obj)) (r : Builder) (a : Act) (w : World) : Prop :=
  ∃ c11 c13 M14, Ok u m0 ([(pb0, Obj.cells [c11, c13].toArray 113 (0, 0))] :: M14 :: S) w ∧ a.defers = [] ∧ RVs Try.prog a w [] ∧ BAd pb0 c11 ∧ ORow 5 1 (pI .u8) m0 c13 r.buf M14
set_option maxHeartbeats 4000000 in
set_option maxRecDepth 100000 in
theorem scan_item_w {u : World} {m0 : Mem} {S : Segs} {w : World} (N : Nat) (vx_1 : List Value) (x_1 : Item) (hx_1 : pItem m0 vx_1 x_1) {pb0 : Nat} {c6 : Value} {c8 : Value} {M9 : List (Nat × Obj)} (x0 : Builder) (h7 : BAd pb0 c6) (h10 : ORow 5 1 (pI .u8) m0 c8 x0.buf M9) {r : Builder} (hF : scan_item N x_1 x0 = some r) (hG : Glob u) (ok : Ok u m0 ([(pb0, Obj.cells [c6, c8].toArray 113 (0, 0))] :: M9 :: S) w) :
    Calls Try.prog 64 [Value.pointer (some ⟨pb0, 0, none⟩), .agg vx_1.toArray].toArray w fun e w' => ∃ c11 c13 M14, (e = .returned (.tuple [].toArray) ∧ Ok u m0 ([(pb0, Obj.cells [c11, c13].toArray 113 (0, 0))] :: M14 :: S) w') ∧ BAd pb0 c11 ∧ ORow 5 1 (pI .u8) m0 c13 r.buf M14 := by
  obtain ⟨c2, rfl, l1, h3, r4, r5⟩ := hx_1
  have hb0 := ok.base
  have le_m0 := Mem.le.refl m0
  unfold scan_item at hF
  have fin : ∀ a w, scan_item_R u m0 S pb0 x0 c6 c8 M9 r a w → bodyPost Try.prog Try.f64 (fun e w' => ∃ c11 c13 M14, (e = .returned (.tuple [].toArray) ∧ Ok u m0 ([(pb0, Obj.cells [c11, c13].toArray 113 (0, 0))] :: M14 :: S) w') ∧ BAd pb0 c11 ∧ ORow 5 1 (pI .u8) m0 c13 r.buf M14) .ret a w := by
    intro a w h
    obtain ⟨c11, c13, M14, ok, hd, hrv, h0, h1⟩ := h
    exact c_ret2 [] hd rfl hrv ⟨c11, c13, M14, ⟨rfl, ok⟩, h0, h1⟩
  refine enter Try.func64 rfl rfl rfl fun a E => sg <| l_box E ok rfl rfl rfl fun b16 a w E ok => wn <| sg ?_
  refine lv E ok (y_loadAgg (cs := [(Value.string (bs x_1.Text)), c2, (Value.bool x_1.Not), (Value.int .i64 x_1.Least), (Value.int .i64 x_1.Most)]) agg_96 rfl rfl (Holds.own 0 rfl rfl)) fun a E => ?_
  obtain ⟨r17, e18, hF⟩ := bnd hF
  refine l_call E go_67 rfl (scan_mark_w N _ x_1 ⟨_, rfl, l1, h3, r4, r5⟩ e18 hG ok) rfl rfl ?_
  rintro _ w ⟨⟨rfl, ok⟩, l19⟩
  refine ⟨_, rfl, fun a E => ?_⟩
  refine lv E ok (y_move rfl) fun a E => lv E ok (y_extract rfl rfl) fun a E => lv E ok (y_extract rfl rfl) fun a E => lv E ok (y_assign rfl) fun a E => lv E ok (y_assign rfl) fun a E => wn <| wp_seq ?_
  refine sg <| lv E ok (y_fieldAddr fo_96_0 rfl) fun a E => lv E ok (y_load one_9 rfl (Holds.own 0 rfl rfl)) fun a E => lv E ok (y_sneq rfl rfl) fun a E => wn <| c_if E rfl (fun hc20 => ?_) (fun hc20 => ?_)
  · as_aux_lemma =>
      replace hF := cond_t hc20 hF
      refine sg <| lv E ok (y_move rfl) fun a E => ?_
      obtain ⟨r21, e22, hF⟩ := bnd hF
      replace ok : Ok u m0 ([(pb0, Obj.cells [c6, c8].toArray 113 (0, 0))] :: M9 :: [(b16, Obj.cells [(Value.string (bs x_1.Text)), c2, (Value.bool x_1.Not), (Value.int .i64 x_1.Least), (Value.int .i64 x_1.Most)].toArray 96 (0, 0))] :: S) w := (ok.pk 3 [1, 2, 0] rfl (by decide))
      refine l_call E go_63 rfl (strings_Builder_WriteByte_w N 34 (show InR .u8 (34) by decide) (Builder.mk () x0.buf) h7 h10 e22 hG ok) rfl rfl ?_
      rintro _ w ⟨c23, c25, M26, ⟨rfl, ok⟩, h24, h27⟩
      refine ⟨_, rfl, fun a E => ?_⟩
      refine wn <| wp_seq <| sg <| lv E ok (y_fieldAddr fo_96_0 rfl) fun a E => lv E ok (y_load one_9 rfl (Holds.own 2 rfl rfl)) fun a E => lv E ok (y_slen Try.underlying9 rfl) fun a E => ?_
      refine lv E ok (y_move rfl) fun a E => wn <| wp_block ?_
      obtain ⟨o35, hL, hF⟩ := bnd hF
      refine c_loop _ (fun (s : Int × Builder) a w => ∃ c37 c39 M40, Ok u m0 ([(pb0, Obj.cells [c37, c39].toArray 113 (0, 0))] :: M40 :: [(b16, Obj.cells [(Value.string (bs x_1.Text)), c2, (Value.bool x_1.Not), (Value.int .i64 x_1.Least), (Value.int .i64 x_1.Most)].toArray 96 (0, 0))] :: S) w ∧ Env 71 a [(0, (Value.pointer (some ⟨pb0, 0, none⟩))), (3, (Value.pointer (some ⟨b16, 0, none⟩))), (4, (Value.string (bs r17.1))), (21, (Value.int .i64 (x_1.Text.length : Int))), (22, (Value.int .i64 s.1))] ∧ InR .i64 s.1 ∧ BAd pb0 c37 ∧ ORow 5 1 (pI .u8) m0 c39 s.2.buf M40) (fun (b : Builder) e a w => e = (.exit 0) ∧ ∃ c79 c81 M82, Ok u m0 ([(pb0, Obj.cells [c79, c81].toArray 113 (0, 0))] :: M82 :: [(b16, Obj.cells [(Value.string (bs x_1.Text)), c2, (Value.bool x_1.Not), (Value.int .i64 x_1.Least), (Value.int .i64 x_1.Most)].toArray 96 (0, 0))] :: S) w ∧ Env 71 a [(0, (Value.pointer (some ⟨pb0, 0, none⟩))), (4, (Value.string (bs r17.1)))] ∧ BAd pb0 c79 ∧ ORow 5 1 (pI .u8) m0 c81 b.buf M82) ?_ ?_ N _ a w hL ⟨c23, c25, M26, ok, E.keep [0, 3, 4, 21, 22], (show InR .i64 (0) by decide), h24, h27⟩
      rotate_left
      · intro e a w _ hO
        obtain ⟨rfl, c64, c66, M67, ok, E, h65, h68⟩ := hO
        refine b_hit <| t_norm <| sg <| lv E ok (y_move rfl) fun a E => lv E ok (y_move rfl) fun a E => ?_
        obtain ⟨s69, e70, hF⟩ := bnd hF
        refine lv E ok (y_cat rfl rfl e70) fun a E => ?_
        obtain ⟨r71, e72, hF⟩ := bnd hF
        refine l_call E go_46 rfl (strings_Builder_WriteString_w N s69 (cat_len e70) (Builder.mk () o35.buf) h65 h68 e72 hG ok) rfl rfl ?_
        rintro _ w ⟨c74, c76, M77, ⟨rfl, ok⟩, r73, h75, h78⟩
        refine ⟨_, rfl, fun a E => ?_⟩
        refine wn <| wp_ret <| t_ret ?_
        have hret : scan_item_R u m0 S pb0 x0 c6 c8 M9 (Builder.mk () r71.2.2.buf) a w := ⟨c74, c76, M77, (ok.pk 3 [0, 1] rfl (by decide)), E.d, trivial, h75, h78⟩
        obtain rfl := sj hF
        exact fin _ _ hret
      rintro ⟨x_42, x_43⟩ a w r ⟨c45, c47, M48, ok, E, r44, h46, h49⟩ hF
      replace hF : scan_item_b1 N x_1 x_42 x_43 = some r := hF
      unfold scan_item_b1 at hF
      refine sg <| lv E ok (y_lss rfl rfl) fun a E => wn <| wp_seq <| c_if E rfl (fun hc50 => ?_) (fun hc50 => ?_)
      rotate_left
      · replace hF := cond_f hc50 hF
        refine wp_exit <| t_exit ?_
        obtain rfl := sj hF
        exact step_o (by nofun) (⟨rfl, ⟨c45, c47, M48, ok, E.keep [0, 4], h46, h49⟩⟩)
      replace hF := cond_t hc50 hF
      refine wp_skip <| t_norm <| wp_seq <| wp_block <| sg <| lv E ok (y_move rfl) fun a E => lv E ok (y_assign rfl) fun a E => ?_
      refine wn <| c_region <| lv E ok (y_move rfl) fun a E => lv E ok (y_fieldAddr fo_96_0 rfl) fun a E => lv E ok (y_load one_9 rfl (Holds.own 2 rfl rfl)) fun a E => lv E ok (y_move rfl) fun a E => ?_
      obtain ⟨c51, e52, hF⟩ := bnd hF
      refine lv E ok (y_index Try.underlying9 rfl rfl e52) fun a E => ?_
      obtain ⟨r53, e54, hF⟩ := bnd hF
      refine l_call E go_78 rfl (scan_quoted_w N (c51.toNat : Int) (InR.byte c51) e54 hG ok) rfl rfl ?_
      rintro _ w ⟨⟨rfl, ok⟩, l55⟩
      refine ⟨_, rfl, fun a E => ?_⟩
      obtain ⟨r56, e57, hF⟩ := bnd hF
      refine l_call E go_46 rfl (strings_Builder_WriteString_w N r53 l55 (Builder.mk () x_43.buf) h46 h49 e57 hG ok) rfl rfl ?_
      rintro _ w ⟨c59, c61, M62, ⟨rfl, ok⟩, r58, h60, h63⟩
      refine ⟨_, rfl, fun a E => ?_⟩
      refine wpList_nil <| b_norm <| t_norm <| c_region <| lv E ok (y_add rfl rfl (InR.inc r44 (InR.len l1) hc50)) fun a E => lv E ok (y_move rfl) fun a E => wpList_nil ?_
      obtain rfl := sj hF
      exact step_n ⟨c59, c61, M62, ok, E.keep [0, 3, 4, 21, 22], (InR.inc r44 (InR.len l1) hc50), h60, h63⟩
  replace hF := cond_f hc20 hF
  refine wp_skip <| t_norm <| sg <| lv E ok (y_move rfl) fun a E => ?_
  obtain ⟨r84, e85, hF⟩ := bnd hF
  replace ok : Ok u m0 ([(pb0, Obj.cells [c6, c8].toArray 113 (0, 0))] :: M9 :: [(b16, Obj.cells [(Value.string (bs x_1.Text)), c2, (Value.bool x_1.Not), (Value.int .i64 x_1.Least), (Value.int .i64 x_1.Most)].toArray 96 (0, 0))] :: S) w := (ok.pk 3 [1, 2, 0] rfl (by decide))
  refine l_call E go_63 rfl (strings_Builder_WriteByte_w N 91 (show InR .u8 (91) by decide) (Builder.mk () x0.buf) h7 h10 e85 hG ok) rfl rfl ?_
  rintro _ w ⟨c86, c88, M89, ⟨rfl, ok⟩, h87, h90⟩
  refine ⟨_, rfl, fun a E => ?_⟩
  refine wn <| wp_seq <| sg <| lv E ok (y_fieldAddr fo_96_2 rfl) fun a E => lv E ok (y_load one_4 rfl (Holds.own 2 rfl rfl)) fun a E => wpList_nil ?_
  refine t_norm ?_
  obtain ⟨o91, hJ, hF⟩ := bnd hF
  refine c_mono (Q' := fun e a w => e = .normal ∧ ∃ c92 c94 M95, Ok u m0 ([(pb0, Obj.cells [c92, c94].toArray 113 (0, 0))] :: M95 :: [(b16, Obj.cells [(Value.string (bs x_1.Text)), c2, (Value.bool x_1.Not), (Value.int .i64 x_1.Least), (Value.int .i64 x_1.Most)].toArray 96 (0, 0))] :: S) w ∧ Env 71 a [(0, (Value.pointer (some ⟨pb0, 0, none⟩))), (3, (Value.pointer (some ⟨b16, 0, none⟩))), (4, (Value.string (bs r17.1)))] ∧ BAd pb0 c92 ∧ ORow 5 1 (pI .u8) m0 c94 o91.buf M95) ?_ ?_
  · replace hF := hJ
    clear hJ
    refine c_if E rfl (fun hc97 => ?_) (fun hc97 => ?_)
    rotate_left
    · replace hF := cond_f hc97 hF
      refine wp_skip ?_
      obtain rfl := sj hF
      exact ⟨rfl, ⟨c86, c88, M89, ok, E.keep [0, 3, 4], h87, h90⟩⟩
    replace hF := cond_t hc97 hF
    refine c_region <| lv E ok (y_move rfl) fun a E => ?_
    obtain ⟨r98, e99, hF⟩ := bnd hF
    refine l_call E go_63 rfl (strings_Builder_WriteByte_w N 94 (show InR .u8 (94) by decide) (Builder.mk () r84.2.buf) h87 h90 e99 hG ok) rfl rfl ?_
    rintro _ w ⟨c100, c102, M103, ⟨rfl, ok⟩, h101, h104⟩
    refine ⟨_, rfl, fun a E => ?_⟩
    refine wpList_nil ?_
    obtain rfl := sj hF
    exact ⟨rfl, ⟨c100, c102, M103, ok, E.keep [0, 3, 4], h101, h104⟩⟩
  clear hJ
  intro e a w hO
  obtain ⟨rfl, c105, c107, M108, ok, E, h106, h109⟩ := hO
  refine t_norm <| wp_seq <| sg <| lv E ok (y_fieldAddr fo_96_1 rfl) fun a E => lv E ok (y_load one_94 rfl (Holds.own 2 rfl rfl)) fun a E => lv E ok (y_lenL sl_94 h3 rfl) fun a E => lv E ok (y_move rfl) fun a E => ?_
  refine wn <| wp_block ?_
  obtain ⟨o117, hL, hF⟩ := bnd hF
  refine c_loop _ (fun (s : Int × Builder) a w => ∃ c119 c121 M122, Ok u m0 ([(pb0, Obj.cells [c119, c121].toArray 113 (0, 0))] :: M122 :: [(b16, Obj.cells [(Value.string (bs x_1.Text)), c2, (Value.bool x_1.Not), (Value.int .i64 x_1.Least), (Value.int .i64 x_1.Most)].toArray 96 (0, 0))] :: S) w ∧ Env 71 a [(0, (Value.pointer (some ⟨pb0, 0, none⟩))), (4, (Value.string (bs r17.1))), (44, c2), (45, (Value.int .i64 (x_1.Ranges.length : Int))), (46, (Value.int .i64 s.1))] ∧ InR .i64 s.1 ∧ BAd pb0 c119 ∧ ORow 5 1 (pI .u8) m0 c121 s.2.buf M122) (fun (b : Builder) e a w => e = (.exit 2) ∧ ∃ c185 c187 M188, Ok u m0 ([(pb0, Obj.cells [c185, c187].toArray 113 (0, 0))] :: M188 :: [(b16, Obj.cells [(Value.string (bs x_1.Text)), c2, (Value.bool x_1.Not), (Value.int .i64 x_1.Least), (Value.int .i64 x_1.Most)].toArray 96 (0, 0))] :: S) w ∧ Env 71 a [(0, (Value.pointer (some ⟨pb0, 0, none⟩))), (4, (Value.string (bs r17.1)))] ∧ BAd pb0 c185 ∧ ORow 5 1 (pI .u8) m0 c187 b.buf M188) ?_ ?_ N _ a w hL ⟨c105, c107, M108, ok, E.keep [0, 4, 44, 45, 46], (show InR .i64 (0) by decide), h106, h109⟩
  rotate_left
  · intro e a w _ hO
    obtain ⟨rfl, c170, c172, M173, ok, E, h171, h174⟩ := hO
    refine b_hit <| t_norm <| c_region <| lv E ok (y_move rfl) fun a E => lv E ok (y_move rfl) fun a E => ?_
    obtain ⟨s175, e176, hF⟩ := bnd hF
    refine lv E ok (y_cat rfl rfl e176) fun a E => ?_
    obtain ⟨r177, e178, hF⟩ := bnd hF
    refine l_call E go_46 rfl (strings_Builder_WriteString_w N s175 (cat_len e176) (Builder.mk () o117.buf) h171 h174 e178 hG ok) rfl rfl ?_
    rintro _ w ⟨c180, c182, M183, ⟨rfl, ok⟩, r179, h181, h184⟩
    refine ⟨_, rfl, fun a E => ?_⟩
    refine wpList_nil ?_
    have hret : scan_item_R u m0 S pb0 x0 c6 c8 M9 (Builder.mk () r177.2.2.buf) a w := ⟨c180, c182, M183, (ok.pk 3 [0, 1] rfl (by decide)), E.d, trivial, h181, h184⟩
    obtain rfl := sj hF
    exact fin _ _ hret
  rintro ⟨x_124, x_125⟩ a w r ⟨c127, c129, M130, ok, E, r126, h128, h131⟩ hF
  replace hF : scan_item_b2 N x_1 x_124 x_125 = some r := hF
  unfold scan_item_b2 at hF
  refine sg <| lv E ok (y_lss rfl rfl) fun a E => wn <| wp_seq <| c_if E rfl (fun hc132 => ?_) (fun hc132 => ?_)
  rotate_left
  · replace hF := cond_f hc132 hF
    refine wp_exit <| t_exit ?_
    obtain rfl := sj hF
    exact step_o (by nofun) (⟨rfl, ⟨c127, c129, M130, ok, E.keep [0, 4], h128, h131⟩⟩)
  replace hF := cond_t hc132 hF
  refine wp_skip <| t_norm <| wp_seq <| wp_block <| sg ?_
  obtain ⟨x133, e134, hF⟩ := bnd hF
  obtain ⟨b135, o136, es137, hl138, rr139, at140, yy141⟩ := idxAt sl_94 h3 e134 (P := Try.prog) (X := .tmp 44) (I := .tmp 46) (kd := .i64) (ev_of E rfl) (ev_of E rfl)
  obtain ⟨rfl, r142, r143⟩ := rr139
  refine lv E ok (yy141 _ _) fun a E => lv E ok (y_loadAgg (cs := [(Value.int .u8 x133.From), (Value.int .u8 x133.To)]) agg_99 rfl rfl (Holds.ro at140)) fun a E => l_alloc E ok zero_99 rfl rfl fun b144 a w E ok => l_storeB E ok 0 rfl rfl rfl inf_99 rfl rfl ⟨rfl, rfl, trivial⟩ rfl rfl fun w ok => wn <| sg ?_
  refine lv E ok (y_move rfl) fun a E => lv E ok (y_fieldAddr fo_99_0 rfl) fun a E => lv E ok (y_load one_5 rfl (Holds.own 0 rfl rfl)) fun a E => ?_
  obtain ⟨r145, e146, hF⟩ := bnd hF
  refine l_call E go_79 rfl (scan_bracketed_w N x133.From r142 e146 hG ok) rfl rfl ?_
  rintro _ w ⟨⟨rfl, ok⟩, l147⟩
  refine ⟨_, rfl, fun a E => ?_⟩
  obtain ⟨r148, e149, hF⟩ := bnd hF
  replace ok : Ok u m0 ([(pb0, Obj.cells [c127, c129].toArray 113 (0, 0))] :: M130 :: [(b144, Obj.cells [(Value.int .u8 x133.From), (Value.int .u8 x133.To)].toArray 99 (0, 0))] :: [(b16, Obj.cells [(Value.string (bs x_1.Text)), c2, (Value.bool x_1.Not), (Value.int .i64 x_1.Least), (Value.int .i64 x_1.Most)].toArray 96 (0, 0))] :: S) w := (ok.pk 4 [1, 2, 0, 3] rfl (by decide))
  refine l_call E go_46 rfl (strings_Builder_WriteString_w N r145 l147 (Builder.mk () x_125.buf) h128 h131 e149 hG ok) rfl rfl ?_
  rintro _ w ⟨c151, c153, M154, ⟨rfl, ok⟩, r150, h152, h155⟩
  refine ⟨_, rfl, fun a E => ?_⟩
  refine wn <| sg <| lv E ok (y_fieldAddr fo_99_1 rfl) fun a E => lv E ok (y_load one_5 rfl (Holds.own 2 rfl rfl)) fun a E => lv E ok (y_fieldAddr fo_99_0 rfl) fun a E => lv E ok (y_load one_5 rfl (Holds.own 2 rfl rfl)) fun a E => ?_
  refine lv E ok (y_neq rfl rfl) fun a E => wn <| c_if E rfl (fun hc156 => ?_) (fun hc156 => ?_)
  rotate_left
  · replace hF := cond_f hc156 hF
    refine wp_skip <| b_norm <| t_norm <| c_region <| lv E ok (y_add rfl rfl (InR.inc r126 (pL_InR h3) hc132)) fun a E => lv E ok (y_move rfl) fun a E => wpList_nil ?_
    obtain rfl := sj hF
    exact step_n ⟨c151, c153, M154, (ok.pk 4 [0, 1, 3] rfl (by decide)), E.keep [0, 4, 44, 45, 46], (InR.inc r126 (pL_InR h3) hc132), h152, h155⟩
  replace hF := cond_t hc156 hF
  refine c_region <| lv E ok (y_move rfl) fun a E => lv E ok (y_fieldAddr fo_99_1 rfl) fun a E => lv E ok (y_load one_5 rfl (Holds.own 2 rfl rfl)) fun a E => ?_
  obtain ⟨r157, e158, hF⟩ := bnd hF
  refine l_call E go_79 rfl (scan_bracketed_w N x133.To r143 e158 hG ok) rfl rfl ?_
  rintro _ w ⟨⟨rfl, ok⟩, l159⟩
  refine ⟨_, rfl, fun a E => ?_⟩
  obtain ⟨s160, e161, hF⟩ := bnd hF
  refine lv E ok (y_cat rfl rfl e161) fun a E => ?_
  obtain ⟨r162, e163, hF⟩ := bnd hF
  refine l_call E go_46 rfl (strings_Builder_WriteString_w N s160 (cat_len e161) (Builder.mk () r148.2.2.buf) h152 h155 e163 hG ok) rfl rfl ?_
  rintro _ w ⟨c165, c167, M168, ⟨rfl, ok⟩, r164, h166, h169⟩
  refine ⟨_, rfl, fun a E => ?_⟩
  refine wpList_nil <| b_norm <| t_norm <| c_region <| lv E ok (y_add rfl rfl (InR.inc r126 (pL_InR h3) hc132)) fun a E => lv E ok (y_move rfl) fun a E => wpList_nil ?_
  obtain rfl := sj hF
  exact step_n ⟨c165, c167, M168, (ok.pk 4 [0, 1, 3] rfl (by decide)), E.keep [0, 4, 44, 45, 46], (InR.inc r126 (pL_InR h3) hc132), h166, h169⟩
def scan_line_R (u : World) (m0 : Mem) (S : Segs) (r : (List UInt8)) (a : Act) (w : World) : Prop :=
  Ok u m0 S w ∧ a.defers = [] ∧ RVs Try.prog a w [.t 2 (.string (bs r))] ∧ r.length ≤ LIMS
set_option maxHeartbeats 4000000 in
set_option maxRecDepth 100000 in
theorem scan_line_w {u : World} {m0 : Mem} {S : Segs} {w : World} (N : Nat) (vr_0 : List Value) (r_0 : Rule) (hr_0 : pRule m0 vr_0 r_0) {r : (List UInt8)} (hF : scan_line N r_0 = some r) (hG : Glob u) (ok : Ok u m0 S w) :
    Calls Try.prog 47 [.agg vr_0.toArray].toArray w fun e w' => (e = .returned (.string (bs r)) ∧ Ok u m0 S w') ∧ r.length ≤ LIMS := by
  obtain ⟨c2, rfl, l1, h3, l4⟩ := hr_0
  have hb0 := ok.base
  have le_m0 := Mem.le.refl m0
  unfold scan_line at hF
  have fin : ∀ a w, scan_line_R u m0 S r a w → bodyPost Try.prog Try.f47 (fun e w' => (e = .returned (.string (bs r)) ∧ Ok u m0 S w') ∧ r.length ≤ LIMS) .ret a w := by
    intro a w h
    obtain ⟨ok, hd, hrv, h0⟩ := h
    exact c_ret2 [.t 2 (.string (bs r))] hd rfl hrv ⟨⟨rfl, ok⟩, h0⟩
  refine enter Try.func47 rfl rfl rfl fun a E => sg <| l_box E ok rfl rfl rfl fun b5 a w E ok => lv E ok (y_assign rfl) fun a E => wn <| wp_seq ?_
  refine c_region <| l_alloc E ok zero_113 rfl rfl fun b6 a w E ok => wn <| sg <| lv E ok (y_fieldAddr fo_80_0 rfl) fun a E => lv E ok (y_load one_9 rfl (Holds.own 1 rfl rfl)) fun a E => ?_
  obtain ⟨M7, ok, h8⟩ := nilrow (e := 5) (k := 1) (R := (pI .u8)) ok
  obtain ⟨r9, e10, hF⟩ := bnd hF
  replace ok : Ok u m0 ([(b6, Obj.cells [(Value.pointer none), (Value.slice none 0 0)].toArray 113 (0, 0))] :: M7 :: [(b5, Obj.cells [(Value.string (bs r_0.Kind)), c2, (Value.string (bs r_0.Next))].toArray 80 (0, 0))] :: S) w := (ok.pk 3 [1, 0, 2] rfl (by decide))
  refine l_call E go_46 rfl (strings_Builder_WriteString_w N r_0.Kind l1 (Builder.mk () ([])) (.inl rfl) h8 e10 hG ok) rfl rfl ?_
  rintro _ w ⟨c12, c14, M15, ⟨rfl, ok⟩, r11, h13, h16⟩
  refine ⟨_, rfl, fun a E => ?_⟩
  refine wn <| wp_seq <| sg <| lv E ok (y_fieldAddr fo_80_1 rfl) fun a E => lv E ok (y_load one_60 rfl (Holds.own 2 rfl rfl)) fun a E => lv E ok (y_lenL sl_60 h3 rfl) fun a E => ?_
  refine lv E ok (y_move rfl) fun a E => wn <| wp_block ?_
  obtain ⟨o24, hL, hF⟩ := bnd hF
  refine c_loop _ (fun (s : Int × Builder) a w => ∃ c26 c28 M29, Ok u m0 ([(b6, Obj.cells [c26, c28].toArray 113 (0, 0))] :: M29 :: [(b5, Obj.cells [(Value.string (bs r_0.Kind)), c2, (Value.string (bs r_0.Next))].toArray 80 (0, 0))] :: S) w ∧ Env 28 a [(1, (Value.pointer (some ⟨b5, 0, none⟩))), (3, (Value.pointer (some ⟨b6, 0, none⟩))), (10, c2), (11, (Value.int .i64 (r_0.Items.length : Int))), (12, (Value.int .i64 s.1))] ∧ InR .i64 s.1 ∧ BAd b6 c26 ∧ ORow 5 1 (pI .u8) m0 c28 s.2.buf M29) (fun (b : Builder) e a w => e = (.exit 0) ∧ ∃ c87 c89 M90, Ok u m0 ([(b6, Obj.cells [c87, c89].toArray 113 (0, 0))] :: M90 :: [(b5, Obj.cells [(Value.string (bs r_0.Kind)), c2, (Value.string (bs r_0.Next))].toArray 80 (0, 0))] :: S) w ∧ Env 28 a [(1, (Value.pointer (some ⟨b5, 0, none⟩))), (3, (Value.pointer (some ⟨b6, 0, none⟩)))] ∧ BAd b6 c87 ∧ ORow 5 1 (pI .u8) m0 c89 b.buf M90) ?_ ?_ N _ a w hL ⟨c12, c14, M15, ok, E.keep [1, 3, 10, 11, 12], (show InR .i64 (0) by decide), h13, h16⟩
  rotate_left
  · intro e a w _ hO
    obtain ⟨rfl, c69, c71, M72, ok, E, h70, h73⟩ := hO
    refine b_hit <| t_norm <| wp_seq <| sg <| lv E ok (y_fieldAddr fo_80_2 rfl) fun a E => lv E ok (y_load one_9 rfl (Holds.own 2 rfl rfl)) fun a E => lv E ok (y_sneq rfl rfl) fun a E => ?_
    refine wn <| c_if E rfl (fun hc74 => ?_) (fun hc74 => ?_)
    rotate_left
    · replace hF := cond_f hc74 hF
      refine wp_skip <| t_norm <| sg <| l_call E go_48 rfl (bld_String Try.lays169 Try.Builder_Extra_169 h73 ok) rfl rfl ?_
      rintro _ w ⟨⟨rfl, ok⟩, l86⟩
      refine ⟨_, rfl, fun a E => ?_⟩
      refine lv E ok (y_assign rfl) fun a E => wn <| wp_ret ?_
      have hret : scan_line_R u m0 S (bytesOf o24.buf) a w := ⟨ok.drop, E.d, ⟨rv_t E rfl, trivial⟩, l86⟩
      obtain rfl := sj hF
      exact fin _ _ hret
    replace hF := cond_t hc74 hF
    refine c_region <| lv E ok (y_fieldAddr fo_80_2 rfl) fun a E => lv E ok (y_load one_9 rfl (Holds.own 2 rfl rfl)) fun a E => ?_
    obtain ⟨s75, e76, hF⟩ := bnd hF
    refine lv E ok (y_cat rfl rfl e76) fun a E => ?_
    obtain ⟨r77, e78, hF⟩ := bnd hF
    refine l_call E go_46 rfl (strings_Builder_WriteString_w N s75 (cat_len e76) (Builder.mk () o24.buf) h70 h73 e78 hG ok) rfl rfl ?_
    rintro _ w ⟨c80, c82, M83, ⟨rfl, ok⟩, r79, h81, h84⟩
    refine ⟨_, rfl, fun a E => ?_⟩
    refine wn <| sg <| l_call E go_48 rfl (bld_String Try.lays169 Try.Builder_Extra_169 h84 ok) rfl rfl ?_
    rintro _ w ⟨⟨rfl, ok⟩, l85⟩
    refine ⟨_, rfl, fun a E => ?_⟩
    refine lv E ok (y_assign rfl) fun a E => wn <| wp_ret ?_
    have hret : scan_line_R u m0 S (bytesOf r77.2.2.buf) a w := ⟨ok.drop, E.d, ⟨rv_t E rfl, trivial⟩, l85⟩
    obtain rfl := sj hF
    exact fin _ _ hret
  rintro ⟨x_31, x_32⟩ a w r ⟨c34, c36, M37, ok, E, r33, h35, h38⟩ hF
  replace hF : scan_line_b1 N r_0 x_31 x_32 = some r := hF
  unfold scan_line_b1 at hF
  refine sg <| lv E ok (y_lss rfl rfl) fun a E => wn <| wp_seq <| c_if E rfl (fun hc39 => ?_) (fun hc39 => ?_)
  rotate_left
  · replace hF := cond_f hc39 hF
    refine wp_exit <| t_exit ?_
    obtain rfl := sj hF
    exact step_o (by nofun) (⟨rfl, ⟨c34, c36, M37, ok, E.keep [1, 3], h35, h38⟩⟩)
  replace hF := cond_t hc39 hF
  refine wp_skip <| t_norm <| wp_seq <| wp_block <| sg ?_
  obtain ⟨x40, e41, hF⟩ := bnd hF
  obtain ⟨b42, o43, es44, hl45, rr46, at47, yy48⟩ := idxAt sl_60 h3 e41 (P := Try.prog) (X := .tmp 10) (I := .tmp 12) (kd := .i64) (ev_of E rfl) (ev_of E rfl)
  obtain ⟨c50, rfl, l49, h51, r52, r53⟩ := rr46
  refine lv E ok (yy48 _ _) fun a E => lv E ok (y_loadAgg (cs := [(Value.string (bs x40.Text)), c50, (Value.bool x40.Not), (Value.int .i64 x40.Least), (Value.int .i64 x40.Most)]) agg_96 rfl rfl (Holds.ro at47)) fun a E => l_alloc E ok zero_96 rfl rfl fun b54 a w E ok => l_storeB E ok 0 rfl rfl rfl inf_96 rfl rfl ⟨rfl, (pL_one h51), rfl, rfl, rfl, trivial⟩ rfl rfl fun w ok => wn <| sg ?_
  obtain ⟨r55, e56, hF⟩ := bnd hF
  replace ok : Ok u m0 ([(b6, Obj.cells [c34, c36].toArray 113 (0, 0))] :: M37 :: [(b54, Obj.cells [(Value.string (bs x40.Text)), c50, (Value.bool x40.Not), (Value.int .i64 x40.Least), (Value.int .i64 x40.Most)].toArray 96 (0, 0))] :: [(b5, Obj.cells [(Value.string (bs r_0.Kind)), c2, (Value.string (bs r_0.Next))].toArray 80 (0, 0))] :: S) w := (ok.pk 4 [1, 2, 0, 3] rfl (by decide))
  refine l_call E go_63 rfl (strings_Builder_WriteByte_w N 32 (show InR .u8 (32) by decide) (Builder.mk () x_32.buf) h35 h38 e56 hG ok) rfl rfl ?_
  rintro _ w ⟨c57, c59, M60, ⟨rfl, ok⟩, h58, h61⟩
  refine ⟨_, rfl, fun a E => ?_⟩
  refine wn <| c_region <| lv E ok (y_loadAgg (cs := [(Value.string (bs x40.Text)), c50, (Value.bool x40.Not), (Value.int .i64 x40.Least), (Value.int .i64 x40.Most)]) agg_96 rfl rfl (Holds.own 2 rfl rfl)) fun a E => ?_
  obtain ⟨r62, e63, hF⟩ := bnd hF
  refine l_call E go_64 rfl (scan_item_w N _ x40 ⟨_, rfl, l49, h51, r52, r53⟩ (Builder.mk () r55.2.buf) h58 h61 e63 hG ok) rfl rfl ?_
  rintro _ w ⟨c64, c66, M67, ⟨rfl, ok⟩, h65, h68⟩
  refine ⟨_, rfl, fun a E => ?_⟩
  refine wpList_nil <| b_norm <| t_norm <| c_region <| lv E ok (y_add rfl rfl (InR.inc r33 (pL_InR h3) hc39)) fun a E => lv E ok (y_move rfl) fun a E => wpList_nil ?_
  obtain rfl := sj hF
  exact step_n ⟨c64, c66, M67, (ok.pk 4 [0, 1, 3] rfl (by decide)), E.keep [1, 3, 10, 11, 12], (InR.inc r33 (pL_InR h3) hc39), h65, h68⟩
def scan_text_R (u : World) (m0 : Mem) (S : Segs) (r : (List UInt8)) (a : Act) (w : World) : Prop :=
  Ok u m0 S w ∧ a.defers = [] ∧ RVs Try.prog a w [.t 2 (.string (bs r))] ∧ r.length ≤ LIMS
set_option maxHeartbeats 4000000 in
set_option maxRecDepth 100000 in
theorem scan_text_w {u : World} {m0 : Mem} {S : Segs} {w : World} (N : Nat) (vs_0 : Value) (s_0 : List (State)) (hs_0 : (pL 2 pState) m0 [vs_0] s_0) {r : (List UInt8)} (hF : scan_text N s_0 = some r) (hG : Glob u) (ok : Ok u m0 S w) :
    Calls Try.prog 29 [vs_0].toArray w fun e w' => (e = .returned (.string (bs r)) ∧ Ok u m0 S w') ∧ r.length ≤ LIMS := by
  have hb0 := ok.base
  have le_m0 := Mem.le.refl m0
  unfold scan_text at hF
  have fin : ∀ a w, scan_text_R u m0 S r a w → bodyPost Try.prog Try.f29 (fun e w' => (e = .returned (.string (bs r)) ∧ Ok u m0 S w') ∧ r.length ≤ LIMS) .ret a w := by
    intro a w h
    obtain ⟨ok, hd, hrv, h0⟩ := h
    exact c_ret2 [.t 2 (.string (bs r))] hd rfl hrv ⟨⟨rfl, ok⟩, h0⟩
  refine enter Try.func29 rfl rfl rfl fun a E => sg <| lv E ok (y_assign rfl) fun a E => wn <| sg ?_
  refine l_alloc E ok zero_113 rfl rfl fun b1 a w E ok => wn <| wp_seq <| sg <| lv E ok (y_move rfl) fun a E => lv E ok (y_lenL sl_30 hs_0 rfl) fun a E => ?_
  refine lv E ok (y_move rfl) fun a E => wn <| wp_block ?_
  obtain ⟨M9, ok, h10⟩ := nilrow (e := 5) (k := 1) (R := (pI .u8)) ok
  obtain ⟨o11, hL, hF⟩ := bnd hF
  refine c_loop _ (fun (s : Int × Builder) a w => ∃ c13 c15 M16, Ok u m0 (M16 :: [(b1, Obj.cells [c13, c15].toArray 113 (0, 0))] :: S) w ∧ Env 33 a [(3, (Value.pointer (some ⟨b1, 0, none⟩))), (8, vs_0), (9, (Value.int .i64 (s_0.length : Int))), (10, (Value.int .i64 s.1))] ∧ InR .i64 s.1 ∧ BAd b1 c13 ∧ ORow 5 1 (pI .u8) m0 c15 s.2.buf M16) (fun (b : Builder) e a w => e = (.exit 0) ∧ ∃ c118 c120 M121, Ok u m0 (M121 :: [(b1, Obj.cells [c118, c120].toArray 113 (0, 0))] :: S) w ∧ Env 33 a [(3, (Value.pointer (some ⟨b1, 0, none⟩)))] ∧ BAd b1 c118 ∧ ORow 5 1 (pI .u8) m0 c120 b.buf M121) ?_ ?_ N _ a w hL ⟨(Value.pointer none), (Value.slice none 0 0), M9, ok, E.keep [3, 8, 9, 10], (show InR .i64 (0) by decide), (.inl rfl), h10⟩
  rotate_left
  · intro e a w _ hO
    obtain ⟨rfl, c112, c114, M115, ok, E, h113, h116⟩ := hO
    refine b_hit <| t_norm <| sg ?_
    replace ok : Ok u m0 ([(b1, Obj.cells [c112, c114].toArray 113 (0, 0))] :: M115 :: S) w := (ok.pk 2 [1, 0] rfl (by decide))
    refine l_call E go_48 rfl (bld_String Try.lays169 Try.Builder_Extra_169 h116 ok) rfl rfl ?_
    rintro _ w ⟨⟨rfl, ok⟩, l117⟩
    refine ⟨_, rfl, fun a E => ?_⟩
    refine lv E ok (y_assign rfl) fun a E => wn <| wp_ret ?_
    have hret : scan_text_R u m0 S (bytesOf o11.buf) a w := ⟨ok, E.d, ⟨rv_t E rfl, trivial⟩, l117⟩
    obtain rfl := sj hF
    exact fin _ _ hret
  rintro ⟨x_18, x_19⟩ a w r ⟨c21, c23, M24, ok, E, r20, h22, h25⟩ hF
  replace hF : scan_text_b1 N s_0 x_18 x_19 = some r := hF
  unfold scan_text_b1 at hF
  refine sg <| lv E ok (y_lss rfl rfl) fun a E => wn <| wp_seq <| c_if E rfl (fun hc26 => ?_) (fun hc26 => ?_)
  rotate_left
  · replace hF := cond_f hc26 hF
    refine wp_exit <| t_exit ?_
    obtain rfl := sj hF
    exact step_o (by nofun) (⟨rfl, ⟨c21, c23, M24, ok, E.keep [3], h22, h25⟩⟩)
  replace hF := cond_t hc26 hF
  refine wp_skip <| t_norm <| wp_seq <| wp_block <| sg ?_
  obtain ⟨x27, e28, hF⟩ := bnd hF
  obtain ⟨b29, o30, es31, hl32, rr33, at34, yy35⟩ := idxAt sl_30 hs_0 e28 (P := Try.prog) (X := .tmp 8) (I := .tmp 10) (kd := .i64) (ev_of E rfl) (ev_of E rfl)
  obtain ⟨c37, rfl, l36, h38⟩ := rr33
  refine lv E ok (yy35 _ _) fun a E => lv E ok (y_loadAgg (cs := [(Value.string (bs x27.Name)), c37]) agg_78 rfl rfl (Holds.ro at34)) fun a E => l_alloc E ok zero_78 rfl rfl fun b39 a w E ok => l_storeB E ok 0 rfl rfl rfl inf_78 rfl rfl ⟨rfl, (pL_one h38), trivial⟩ rfl rfl fun w ok => wn <| sg ?_
  refine lv E ok (y_fieldAddr fo_78_0 rfl) fun a E => lv E ok (y_load one_9 rfl (Holds.own 0 rfl rfl)) fun a E => ?_
  obtain ⟨s40, e41, hF⟩ := bnd hF
  refine lv E ok (y_cat rfl rfl e41) fun a E => ?_
  obtain ⟨s42, e43, hF⟩ := bnd hF
  refine lv E ok (y_cat rfl rfl e43) fun a E => ?_
  obtain ⟨r44, e45, hF⟩ := bnd hF
  replace ok : Ok u m0 ([(b1, Obj.cells [c21, c23].toArray 113 (0, 0))] :: M24 :: [(b39, Obj.cells [(Value.string (bs x27.Name)), c37].toArray 78 (0, 0))] :: S) w := (ok.pk 3 [2, 1, 0] rfl (by decide))
  refine l_call E go_46 rfl (strings_Builder_WriteString_w N s42 (cat_len e43) (Builder.mk () x_19.buf) h22 h25 e45 hG ok) rfl rfl ?_
  rintro _ w ⟨c47, c49, M50, ⟨rfl, ok⟩, r46, h48, h51⟩
  refine ⟨_, rfl, fun a E => ?_⟩
  refine wn <| sg <| lv E ok (y_fieldAddr fo_78_1 rfl) fun a E => lv E ok (y_load one_76 rfl (Holds.own 2 rfl rfl)) fun a E => lv E ok (y_lenL sl_76 h38 rfl) fun a E => lv E ok (y_move rfl) fun a E => ?_
  refine wn <| wp_block ?_
  obtain ⟨o59, hL, hF⟩ := bnd hF
  refine c_loop _ (fun (s : Int × Builder) a w => ∃ c61 c63 M64, Ok u m0 ([(b1, Obj.cells [c61, c63].toArray 113 (0, 0))] :: M64 :: [(b39, Obj.cells [(Value.string (bs x27.Name)), c37].toArray 78 (0, 0))] :: S) w ∧ Env 33 a [(3, (Value.pointer (some ⟨b1, 0, none⟩))), (8, vs_0), (9, (Value.int .i64 (s_0.length : Int))), (10, (Value.int .i64 x_18)), (20, c37), (21, (Value.int .i64 (x27.Rules.length : Int))), (22, (Value.int .i64 s.1))] ∧ InR .i64 s.1 ∧ BAd b1 c61 ∧ ORow 5 1 (pI .u8) m0 c63 s.2.buf M64) (fun (b : Builder) e a w => e = (.exit 2) ∧ ∃ c107 c109 M110, Ok u m0 ([(b1, Obj.cells [c107, c109].toArray 113 (0, 0))] :: M110 :: [(b39, Obj.cells [(Value.string (bs x27.Name)), c37].toArray 78 (0, 0))] :: S) w ∧ Env 33 a [(3, (Value.pointer (some ⟨b1, 0, none⟩))), (8, vs_0), (9, (Value.int .i64 (s_0.length : Int))), (10, (Value.int .i64 x_18))] ∧ BAd b1 c107 ∧ ORow 5 1 (pI .u8) m0 c109 b.buf M110) ?_ ?_ N _ a w hL ⟨c47, c49, M50, ok, E.keep [3, 8, 9, 10, 20, 21, 22], (show InR .i64 (0) by decide), h48, h51⟩
  rotate_left
  · intro e a w _ hO
    obtain ⟨rfl, c102, c104, M105, ok, E, h103, h106⟩ := hO
    refine b_hit <| b_norm <| t_norm <| c_region <| lv E ok (y_add rfl rfl (InR.inc r20 (pL_InR hs_0) hc26)) fun a E => lv E ok (y_move rfl) fun a E => wpList_nil ?_
    obtain rfl := sj hF
    exact step_n ⟨c102, c104, M105, (ok.pk 3 [1, 0] rfl (by decide)), E.keep [3, 8, 9, 10], (InR.inc r20 (pL_InR hs_0) hc26), h103, h106⟩
  rintro ⟨x_66, x_67⟩ a w r ⟨c69, c71, M72, ok, E, r68, h70, h73⟩ hF
  replace hF : scan_text_b2 N x27 x_66 x_67 = some r := hF
  unfold scan_text_b2 at hF
  refine sg <| lv E ok (y_lss rfl rfl) fun a E => wn <| wp_seq <| c_if E rfl (fun hc74 => ?_) (fun hc74 => ?_)
  rotate_left
  · replace hF := cond_f hc74 hF
    refine wp_exit <| t_exit ?_
    obtain rfl := sj hF
    exact step_o (by nofun) (⟨rfl, ⟨c69, c71, M72, ok, E.keep [3, 8, 9, 10], h70, h73⟩⟩)
  replace hF := cond_t hc74 hF
  refine wp_skip <| t_norm <| wp_seq <| wp_block <| sg ?_
  obtain ⟨x75, e76, hF⟩ := bnd hF
  obtain ⟨b77, o78, es79, hl80, rr81, at82, yy83⟩ := idxAt sl_76 h38 e76 (P := Try.prog) (X := .tmp 20) (I := .tmp 22) (kd := .i64) (ev_of E rfl) (ev_of E rfl)
  obtain ⟨c85, rfl, l84, h86, l87⟩ := rr81
  refine lv E ok (yy83 _ _) fun a E => lv E ok (y_loadAgg (cs := [(Value.string (bs x75.Kind)), c85, (Value.string (bs x75.Next))]) agg_80 rfl rfl (Holds.ro at82)) fun a E => l_alloc E ok zero_80 rfl rfl fun b88 a w E ok => l_storeB E ok 0 rfl rfl rfl inf_80 rfl rfl ⟨rfl, (pL_one h86), rfl, trivial⟩ rfl rfl fun w ok => wn <| c_region <| lv E ok (y_loadAgg (cs := [(Value.string (bs x75.Kind)), c85, (Value.string (bs x75.Next))]) agg_80 rfl rfl (Holds.own 0 rfl rfl)) fun a E => ?_
  obtain ⟨r89, e90, hF⟩ := bnd hF
  refine l_call E go_47 rfl (scan_line_w N _ x75 ⟨_, rfl, l84, h86, l87⟩ e90 hG ok) rfl rfl ?_
  rintro _ w ⟨⟨rfl, ok⟩, l91⟩
  refine ⟨_, rfl, fun a E => ?_⟩
  obtain ⟨s92, e93, hF⟩ := bnd hF
  refine lv E ok (y_cat rfl rfl e93) fun a E => ?_
  obtain ⟨r94, e95, hF⟩ := bnd hF
  replace ok : Ok u m0 ([(b1, Obj.cells [c69, c71].toArray 113 (0, 0))] :: M72 :: [(b88, Obj.cells [(Value.string (bs x75.Kind)), c85, (Value.string (bs x75.Next))].toArray 80 (0, 0))] :: [(b39, Obj.cells [(Value.string (bs x27.Name)), c37].toArray 78 (0, 0))] :: S) w := (ok.pk 4 [1, 2, 0, 3] rfl (by decide))
  refine l_call E go_46 rfl (strings_Builder_WriteString_w N s92 (cat_len e93) (Builder.mk () x_67.buf) h70 h73 e95 hG ok) rfl rfl ?_
  rintro _ w ⟨c97, c99, M100, ⟨rfl, ok⟩, r96, h98, h101⟩
  refine ⟨_, rfl, fun a E => ?_⟩
  refine wpList_nil <| b_norm <| t_norm <| c_region <| lv E ok (y_add rfl rfl (InR.inc r68 (pL_InR h38) hc74)) fun a E => lv E ok (y_move rfl) fun a E => wpList_nil ?_
  obtain rfl := sj hF
  exact step_n ⟨c97, c99, M100, (ok.pk 4 [0, 1, 3] rfl (by decide)), E.keep [3, 8, 9, 10, 20, 21, 22], (InR.inc r68 (pL_InR h38) hc74), h98, h101⟩
def scan_word_R (u : World) (m0 : Mem) (S : Segs) (r : Bool) (a : Act) (w : World) : Prop :=
  Ok u m0 S w ∧ a.defers = [] ∧ RVs Try.prog a w [.t 2 (.bool r)]
set_option maxHeartbeats 4000000 in
set_option maxRecDepth 100000 in
theorem scan_word_w {u : World} {m0 : Mem} {S : Segs} {w : World} (N : Nat) (s_0 : List UInt8) (ls_0 : s_0.length ≤ LIMS) {r : Bool} (hF : scan_word N s_0 = some r) (hG : Glob u) (ok : Ok u m0 S w) :
    Calls Try.prog 31 [Value.string (bs s_0)].toArray w fun e w' => (e = .returned (.bool r) ∧ Ok u m0 S w') := by
  have hb0 := ok.base
  have le_m0 := Mem.le.refl m0
  unfold scan_word at hF
  have fin : ∀ a w, scan_word_R u m0 S r a w → bodyPost Try.prog Try.f31 (fun e w' => (e = .returned (.bool r) ∧ Ok u m0 S w')) .ret a w := by
    intro a w h
    obtain ⟨ok, hd, hrv⟩ := h
    exact c_ret2 [.t 2 (.bool r)] hd rfl hrv ⟨rfl, ok⟩
  refine enter Try.func31 rfl rfl rfl fun a E => sg <| lv E ok (y_assign rfl) fun a E => wn <| wp_seq <| wp_seq ?_
  refine c_region <| lv E ok (y_move rfl) fun a E => lv E ok (y_slen Try.underlying9 rfl) fun a E => lv E ok (y_move rfl) fun a E => wn <| wp_block ?_
  obtain ⟨o2, hL, hF⟩ := bnd hF
  refine c_loop _ (fun (s : Int) a w => Ok u m0 (S) w ∧ Env 28 a [(0, (Value.string (bs s_0))), (5, (Value.int .i64 (s_0.length : Int))), (6, (Value.int .i64 s))] ∧ InR .i64 s) (fun (b : (Unit ⊕ Bool)) e a w => (Sum.elim (fun b14 => e = (.exit 0) ∧ Ok u m0 (S) w ∧ Env 28 a [(0, (Value.string (bs s_0)))]) (fun b15 => e = .ret ∧ scan_word_R u m0 S b15 a w)) b) ?_ ?_ N _ a w hL ⟨ok, E.keep [0, 5, 6], (show InR .i64 (0) by decide)⟩
  rotate_left
  · intro e a w _ hO
    rcases o2 with o2 | o2
    rotate_left
    · replace hF := elim_r hF
      obtain ⟨rfl, hret⟩ := hO
      refine b_ret <| t_ret ?_
      obtain rfl := sj hF
      exact fin _ _ hret
    replace hF := elim_l hF
    obtain ⟨rfl, ok, E⟩ := hO
    refine b_hit <| t_norm <| sg <| lv E ok (y_move rfl) fun a E => lv E ok (y_slen Try.underlying9 rfl) fun a E => lv E ok (y_geq rfl rfl) fun a E => lv E ok (y_move rfl) fun a E => ?_
    refine bsplit (decide ((s_0.length : Int) ≥ 1)) (fun hc13 => ?_) (fun hc13 => ?_)
    · replace hF := cond_t hc13 hF
      replace E := E.upd 23 hc13 rfl
      refine lv E ok (y_move rfl) fun a E => lv E ok (y_slen Try.underlying9 rfl) fun a E => lv E ok (y_leq rfl rfl) fun a E => lv E ok (y_pickT rfl rfl) fun a E => lv E ok (y_assign rfl) fun a E => wn <| wp_ret ?_
      have hret : scan_word_R u m0 S (decide ((s_0.length : Int) ≤ 16)) a w := ⟨ok, E.d, ⟨rv_t E rfl, trivial⟩⟩
      obtain rfl := sj hF
      exact fin _ _ hret
    replace hF := cond_f hc13 hF
    replace E := E.upd 23 hc13 rfl
    refine ls E fun a E => ls E fun a E => ls E fun a E => lv E ok (y_pickF rfl rfl) fun a E => lv E ok (y_assign rfl) fun a E => wn <| wp_ret ?_
    have hret : scan_word_R u m0 S false a w := ⟨ok, E.d, ⟨rv_t E rfl, trivial⟩⟩
    obtain rfl := sj hF
    exact fin _ _ hret
  rintro x_4 a w r ⟨ok, E, r5⟩ hF
  replace hF : scan_word_b1 N s_0 x_4 = some r := hF
  unfold scan_word_b1 at hF
  refine sg <| lv E ok (y_lss rfl rfl) fun a E => wn <| wp_seq <| c_if E rfl (fun hc6 => ?_) (fun hc6 => ?_)
  rotate_left
  · replace hF := cond_f hc6 hF
    refine wp_exit <| t_exit ?_
    obtain rfl := sj hF
    exact step_o (by nofun) (sl ⟨rfl, ⟨ok, E.keep [0]⟩⟩)
  replace hF := cond_t hc6 hF
  refine wp_skip <| t_norm <| wp_seq <| wp_block <| sg <| lv E ok (y_move rfl) fun a E => lv E ok (y_assign rfl) fun a E => ?_
  refine wn <| sg <| lv E ok (y_move rfl) fun a E => lv E ok (y_move rfl) fun a E => ?_
  obtain ⟨c7, e8, hF⟩ := bnd hF
  refine lv E ok (y_index Try.underlying9 rfl rfl e8) fun a E => lv E ok (y_lss rfl rfl) fun a E => lv E ok (y_move rfl) fun a E => bsplit (decide ((c7.toNat : Int) < 97)) (fun hc9 => ?_) (fun hc9 => ?_)
  · replace hF := cond_t hc9 hF
    replace E := E.upd 13 hc9 rfl
    refine ls E fun a E => ls E fun a E => ls E fun a E => ls E fun a E => lv E ok (y_pickT rfl rfl) fun a E => wn <| c_if E rfl (fun _ => ?_) (fun h => by cases h)
    refine sg <| lv E ok (y_assign rfl) fun a E => wn <| wp_ret <| b_ret <| t_ret ?_
    have hret : scan_word_R u m0 S false a w := ⟨ok, E.d, ⟨rv_t E rfl, trivial⟩⟩
    obtain rfl := sj hF
    exact step_o (by nofun) (sr ⟨rfl, hret⟩)
  replace hF := cond_f hc9 hF
  replace E := E.upd 13 hc9 rfl
  refine lv E ok (y_move rfl) fun a E => lv E ok (y_move rfl) fun a E => ?_
  obtain ⟨c10, e11, hF⟩ := bnd hF
  refine lv E ok (y_index Try.underlying9 rfl rfl e11) fun a E => lv E ok (y_gtr rfl rfl) fun a E => lv E ok (y_pickF rfl rfl) fun a E => wn <| c_if E rfl (fun hc12 => ?_) (fun hc12 => ?_)
  rotate_left
  · replace hF := cond_f hc12 hF
    refine wp_skip <| b_norm <| t_norm <| c_region <| lv E ok (y_add rfl rfl (InR.inc r5 (InR.len ls_0) hc6)) fun a E => lv E ok (y_move rfl) fun a E => wpList_nil ?_
    obtain rfl := sj hF
    exact step_n ⟨ok, E.keep [0, 5, 6], (InR.inc r5 (InR.len ls_0) hc6)⟩
  replace hF := cond_t hc12 hF
  refine sg <| lv E ok (y_assign rfl) fun a E => wn <| wp_ret <| b_ret <| t_ret ?_
  have hret : scan_word_R u m0 S false a w := ⟨ok, E.d, ⟨rv_t E rfl, trivial⟩⟩
  obtain rfl := sj hF
  exact step_o (by nofun) (sr ⟨rfl, hret⟩)
def scan_proper_1_R (u : World) (m0 : Mem) (S : Segs) (r : Bool) (a : Act) (w : World) : Prop :=
  Ok u m0 S w ∧ a.defers = [] ∧ RVs Try.prog a w [.t 2 (.bool r)]
set_option maxHeartbeats 4000000 in
set_option maxRecDepth 100000 in
theorem scan_proper_1_w {u : World} {m0 : Mem} {S : Segs} {w : World} (N : Nat) (vr_0 : List Value) (r_0 : Range) (hr_0 : pRange m0 vr_0 r_0) {r : Bool} (hF : scan_proper_1 N r_0 = some r) (hG : Glob u) (ok : Ok u m0 S w) :
    Calls Try.prog 69 [.agg vr_0.toArray].toArray w fun e w' => (e = .returned (.bool r) ∧ Ok u m0 S w') := by
  obtain ⟨rfl, r1, r2⟩ := hr_0
  have hb0 := ok.base
  have le_m0 := Mem.le.refl m0
  unfold scan_proper_1 at hF
  have fin : ∀ a w, scan_proper_1_R u m0 S r a w → bodyPost Try.prog Try.f69 (fun e w' => (e = .returned (.bool r) ∧ Ok u m0 S w')) .ret a w := by
    intro a w h
    obtain ⟨ok, hd, hrv⟩ := h
    exact c_ret2 [.t 2 (.bool r)] hd rfl hrv ⟨rfl, ok⟩
  refine enter Try.func69 rfl rfl rfl fun a E => sg <| l_box E ok rfl rfl rfl fun b3 a w E ok => lv E ok (y_assign rfl) fun a E => wn <| wp_seq ?_
  refine c_region <| lv E ok (y_fieldAddr fo_99_0 rfl) fun a E => lv E ok (y_load one_5 rfl (Holds.own 0 rfl rfl)) fun a E => lv E ok (y_fieldAddr fo_99_1 rfl) fun a E => lv E ok (y_load one_5 rfl (Holds.own 0 rfl rfl)) fun a E => lv E ok (y_gtr rfl rfl) fun a E => lv E ok (y_assign rfl) fun a E => wpList_nil ?_
  refine t_norm <| wp_ret ?_
  have hret : scan_proper_1_R u m0 S (decide (r_0.From > r_0.To)) a w := ⟨ok.drop, E.d, ⟨rv_t E rfl, trivial⟩⟩
  obtain rfl := sj hF
  exact fin _ _ hret
def slices_IndexFunc_scan_Range_scan_Range__69_R (u : World) (m0 : Mem) (S : Segs) (r : Int) (a : Act) (w : World) : Prop :=
  Ok u m0 S w ∧ a.defers = [] ∧ RVs Try.prog a w [.t 4 (.int .i64 r)] ∧ InR .i64 r
set_option maxHeartbeats 4000000 in
set_option maxRecDepth 100000 in
theorem slices_IndexFunc_scan_Range_scan_Range__69_w {u : World} {m0 : Mem} {S : Segs} {w : World} (N : Nat) (vs_0 : Value) (s_0 : List (Range)) (hs_0 : (pL 2 pRange) m0 [vs_0] s_0) {r : Int} (hF : slices_IndexFunc_scan_Range_scan_Range__69 N s_0 = some r) (hG : Glob u) (ok : Ok u m0 S w) :
    Calls Try.prog 81 [vs_0, .func (.func 69) #[] #[]].toArray w fun e w' => (e = .returned (.int .i64 r) ∧ Ok u m0 S w') ∧ InR .i64 r := by
  have hb0 := ok.base
  have le_m0 := Mem.le.refl m0
  unfold slices_IndexFunc_scan_Range_scan_Range__69 at hF
  have fin : ∀ a w, slices_IndexFunc_scan_Range_scan_Range__69_R u m0 S r a w → bodyPost Try.prog Try.f81 (fun e w' => (e = .returned (.int .i64 r) ∧ Ok u m0 S w') ∧ InR .i64 r) .ret a w := by
    intro a w h
    obtain ⟨ok, hd, hrv, h0⟩ := h
    exact c_ret2 [.t 4 (.int .i64 r)] hd rfl hrv ⟨⟨rfl, ok⟩, h0⟩
  refine enter Try.func81 rfl rfl rfl fun a E => sg <| lv E ok (y_assign rfl) fun a E => wn <| wp_seq <| wp_seq ?_
  refine c_region <| lv E ok (y_move rfl) fun a E => lv E ok (y_lenL sl_94 hs_0 rfl) fun a E => lv E ok (y_move rfl) fun a E => wn <| wp_block ?_
  obtain ⟨o2, hL, hF⟩ := bnd hF
  refine c_loop _ (fun (s : Int) a w => Ok u m0 (S) w ∧ Env 19 a [(0, vs_0), (1, (Value.func (.func 69) #[] #[])), (7, (Value.int .i64 (s_0.length : Int))), (8, (Value.int .i64 s))] ∧ InR .i64 s) (fun (b : (Unit ⊕ Int)) e a w => (Sum.elim (fun b21 => e = (.exit 0) ∧ Ok u m0 (S) w ∧ Env 19 a []) (fun b22 => e = .ret ∧ slices_IndexFunc_scan_Range_scan_Range__69_R u m0 S b22 a w)) b) ?_ ?_ N _ a w hL ⟨ok, E.keep [0, 1, 7, 8], (show InR .i64 (0) by decide)⟩
  rotate_left
  · intro e a w _ hO
    rcases o2 with o2 | o2
    rotate_left
    · replace hF := elim_r hF
      obtain ⟨rfl, hret⟩ := hO
      refine b_ret <| t_ret ?_
      obtain rfl := sj hF
      exact fin _ _ hret
    replace hF := elim_l hF
    obtain ⟨rfl, ok, E⟩ := hO
    refine b_hit <| t_norm <| sg <| lv E ok (y_assign rfl) fun a E => wn <| wp_ret ?_
    have hret : slices_IndexFunc_scan_Range_scan_Range__69_R u m0 S (-1) a w := ⟨ok, E.d, ⟨rv_t E rfl, trivial⟩, (show InR .i64 (-1) by decide)⟩
    obtain rfl := sj hF
    exact fin _ _ hret
  rintro x_4 a w r ⟨ok, E, r5⟩ hF
  replace hF : slices_IndexFunc_scan_Range_scan_Range__69_b1 N s_0 x_4 = some r := hF
  unfold slices_IndexFunc_scan_Range_scan_Range__69_b1 at hF
  refine sg <| lv E ok (y_lss rfl rfl) fun a E => wn <| wp_seq <| c_if E rfl (fun hc6 => ?_) (fun hc6 => ?_)
  rotate_left
  · replace hF := cond_f hc6 hF
    refine wp_exit <| t_exit ?_
    obtain rfl := sj hF
    exact step_o (by nofun) (sl ⟨rfl, ⟨ok, E.keep []⟩⟩)
  replace hF := cond_t hc6 hF
  refine wp_skip <| t_norm <| wp_seq <| wp_block <| sg <| lv E ok (y_move rfl) fun a E => lv E ok (y_assign rfl) fun a E => ?_
  refine wn <| sg <| lv E ok (y_move rfl) fun a E => lv E ok (y_move rfl) fun a E => lv E ok (y_move rfl) fun a E => ?_
  obtain ⟨x7, e8, hF⟩ := bnd hF
  obtain ⟨b9, o10, es11, hl12, rr13, at14, yy15⟩ := idxAt sl_94 hs_0 e8 (P := Try.prog) (X := .tmp 12) (I := .tmp 13) (kd := .i64) (ev_of E rfl) (ev_of E rfl)
  obtain ⟨rfl, r16, r17⟩ := rr13
  refine lv E ok (yy15 _ _) fun a E => lv E ok (y_loadAgg (cs := [(Value.int .u8 x7.From), (Value.int .u8 x7.To)]) agg_99 rfl rfl (Holds.ro at14)) fun a E => ?_
  obtain ⟨r18, e19, hF⟩ := bnd hF
  refine l_callv E rfl go_69 rfl (scan_proper_1_w N _ x7 ⟨rfl, r16, r17⟩ e19 hG ok) rfl rfl ?_
  rintro _ w ⟨rfl, ok⟩
  refine ⟨_, rfl, fun a E => ?_⟩
  refine wn <| c_if E rfl (fun hc20 => ?_) (fun hc20 => ?_)
  rotate_left
  · replace hF := cond_f hc20 hF
    refine wp_skip <| b_norm <| t_norm <| c_region <| lv E ok (y_add rfl rfl (InR.inc r5 (pL_InR hs_0) hc6)) fun a E => lv E ok (y_move rfl) fun a E => wpList_nil ?_
    obtain rfl := sj hF
    exact step_n ⟨ok, E.keep [0, 1, 7, 8], (InR.inc r5 (pL_InR hs_0) hc6)⟩
  replace hF := cond_t hc20 hF
  refine sg <| lv E ok (y_move rfl) fun a E => lv E ok (y_assign rfl) fun a E => wn <| wp_ret <| b_ret ?_
  refine t_ret ?_
  have hret : slices_IndexFunc_scan_Range_scan_Range__69_R u m0 S x_4 a w := ⟨ok, E.d, ⟨rv_t E rfl, trivial⟩, r5⟩
  obtain rfl := sj hF
  exact step_o (by nofun) (sr ⟨rfl, hret⟩)
def slices_ContainsFunc_scan_Range_scan_Range__69_R (u : World) (m0 : Mem) (S : Segs) (r : Bool) (a : Act) (w : World) : Prop :=
  Ok u m0 S w ∧ a.defers = [] ∧ RVs Try.prog a w [.t 4 (.bool r)]
set_option maxHeartbeats 4000000 in
set_option maxRecDepth 100000 in
theorem slices_ContainsFunc_scan_Range_scan_Range__69_w {u : World} {m0 : Mem} {S : Segs} {w : World} (N : Nat) (vs_0 : Value) (s_0 : List (Range)) (hs_0 : (pL 2 pRange) m0 [vs_0] s_0) {r : Bool} (hF : slices_ContainsFunc_scan_Range_scan_Range__69 N s_0 = some r) (hG : Glob u) (ok : Ok u m0 S w) :
    Calls Try.prog 68 [vs_0, .func (.func 69) #[] #[]].toArray w fun e w' => (e = .returned (.bool r) ∧ Ok u m0 S w') := by
  have hb0 := ok.base
  have le_m0 := Mem.le.refl m0
  unfold slices_ContainsFunc_scan_Range_scan_Range__69 at hF
  have fin : ∀ a w, slices_ContainsFunc_scan_Range_scan_Range__69_R u m0 S r a w → bodyPost Try.prog Try.f68 (fun e w' => (e = .returned (.bool r) ∧ Ok u m0 S w')) .ret a w := by
    intro a w h
    obtain ⟨ok, hd, hrv⟩ := h
    exact c_ret2 [.t 4 (.bool r)] hd rfl hrv ⟨rfl, ok⟩
  refine enter Try.func68 rfl rfl rfl fun a E => sg <| lv E ok (y_assign rfl) fun a E => wn <| sg ?_
  refine lv E ok (y_move rfl) fun a E => lv E ok (y_move rfl) fun a E => ?_
  obtain ⟨r1, e2, hF⟩ := bnd hF
  refine l_call E go_81 rfl (slices_IndexFunc_scan_Range_scan_Range__69_w N _ s_0 hs_0 e2 hG ok) rfl rfl ?_
  rintro _ w ⟨⟨rfl, ok⟩, r3⟩
  refine ⟨_, rfl, fun a E => ?_⟩
  refine lv E ok (y_geq rfl rfl) fun a E => lv E ok (y_assign rfl) fun a E => wn <| wp_ret ?_
  have hret : slices_ContainsFunc_scan_Range_scan_Range__69_R u m0 S (decide (r1 ≥ 0)) a w := ⟨ok, E.d, ⟨rv_t E rfl, trivial⟩⟩
  obtain rfl := sj hF
  exact fin _ _ hret
def scan_proper_R (u : World) (m0 : Mem) (S : Segs) (r : Bool) (a : Act) (w : World) : Prop :=
  Ok u m0 S w ∧ a.defers = [] ∧ RVs Try.prog a w [.t 2 (.bool r)]
set_option maxHeartbeats 4000000 in
set_option maxRecDepth 100000 in
theorem scan_proper_w {u : World} {m0 : Mem} {S : Segs} {w : World} (N : Nat) (vx_0 : List Value) (x_0 : Item) (hx_0 : pItem m0 vx_0 x_0) {r : Bool} (hF : scan_proper N x_0 = some r) (hG : Glob u) (ok : Ok u m0 S w) :
    Calls Try.prog 52 [.agg vx_0.toArray].toArray w fun e w' => (e = .returned (.bool r) ∧ Ok u m0 S w') := by
  obtain ⟨c2, rfl, l1, h3, r4, r5⟩ := hx_0
  have hb0 := ok.base
  have le_m0 := Mem.le.refl m0
  unfold scan_proper at hF
  have fin : ∀ a w, scan_proper_R u m0 S r a w → bodyPost Try.prog Try.f52 (fun e w' => (e = .returned (.bool r) ∧ Ok u m0 S w')) .ret a w := by
    intro a w h
    obtain ⟨ok, hd, hrv⟩ := h
    exact c_ret2 [.t 2 (.bool r)] hd rfl hrv ⟨rfl, ok⟩
  refine enter Try.func52 rfl rfl rfl fun a E => sg <| l_box E ok rfl rfl rfl fun b6 a w E ok => lv E ok (y_assign rfl) fun a E => wn <| wp_seq ?_
  refine sg <| lv E ok (y_loadAgg (cs := [(Value.string (bs x_0.Text)), c2, (Value.bool x_0.Not), (Value.int .i64 x_0.Least), (Value.int .i64 x_0.Most)]) agg_96 rfl rfl (Holds.own 0 rfl rfl)) fun a E => ?_
  obtain ⟨r7, e8, hF⟩ := bnd hF
  refine l_call E go_67 rfl (scan_mark_w N _ x_0 ⟨_, rfl, l1, h3, r4, r5⟩ e8 hG ok) rfl rfl ?_
  rintro _ w ⟨⟨rfl, ok⟩, l9⟩
  refine ⟨_, rfl, fun a E => ?_⟩
  refine lv E ok (y_move rfl) fun a E => lv E ok (y_extract rfl rfl) fun a E => lv E ok (y_extract rfl rfl) fun a E => lv E ok (y_assign rfl) fun a E => lv E ok (y_assign rfl) fun a E => wn <| wp_seq ?_
  refine c_region <| lv E ok (y_move rfl) fun a E => lv E ok (y_not rfl) fun a E => wn <| c_if E rfl (fun hc10 => ?_) (fun hc10 => ?_)
  · replace hF := cond_t hc10 hF
    refine sg <| lv E ok (y_assign rfl) fun a E => wn <| wp_ret <| t_ret ?_
    have hret : scan_proper_R u m0 S false a w := ⟨ok.drop, E.d, ⟨rv_t E rfl, trivial⟩⟩
    obtain rfl := sj hF
    exact fin _ _ hret
  replace hF := cond_f hc10 hF
  refine wp_skip <| t_norm <| wp_seq <| sg <| lv E ok (y_fieldAddr fo_96_0 rfl) fun a E => lv E ok (y_load one_9 rfl (Holds.own 0 rfl rfl)) fun a E => lv E ok (y_sneq rfl rfl) fun a E => ?_
  refine wn <| c_if E rfl (fun hc11 => ?_) (fun hc11 => ?_)
  · replace hF := cond_t hc11 hF
    refine sg <| lv E ok (y_fieldAddr fo_96_0 rfl) fun a E => lv E ok (y_load one_9 rfl (Holds.own 0 rfl rfl)) fun a E => lv E ok (y_slen Try.underlying9 rfl) fun a E => lv E ok (y_leq rfl rfl) fun a E => lv E ok (y_move rfl) fun a E => bsplit (decide ((x_0.Text.length : Int) ≤ 40)) (fun hc12 => ?_) (fun hc12 => ?_)
    rotate_left
    · replace hF := cond_f hc12 hF
      replace E := E.upd 19 hc12 rfl
      refine ls E fun a E => ls E fun a E => ls E fun a E => ls E fun a E => lv E ok (y_pickF rfl rfl) fun a E => lv E ok (y_move rfl) fun a E => ls E fun a E => ls E fun a E => ?_
      refine ls E fun a E => lv E ok (y_pickF rfl rfl) fun a E => lv E ok (y_assign rfl) fun a E => wn <| wp_ret <| t_ret ?_
      have hret : scan_proper_R u m0 S false a w := ⟨ok.drop, E.d, ⟨rv_t E rfl, trivial⟩⟩
      obtain rfl := sj hF
      exact fin _ _ hret
    replace hF := cond_t hc12 hF
    replace E := E.upd 19 hc12 rfl
    refine lv E ok (y_fieldAddr fo_96_1 rfl) fun a E => lv E ok (y_load one_94 rfl (Holds.own 0 rfl rfl)) fun a E => lv E ok (y_lenL sl_94 h3 rfl) fun a E => lv E ok (y_eql rfl rfl) fun a E => lv E ok (y_pickT rfl rfl) fun a E => lv E ok (y_move rfl) fun a E => bsplit ((x_0.Ranges.length : Int) == 0) (fun hc13 => ?_) (fun hc13 => ?_)
    · replace hF := cond_t hc13 hF
      replace E := E.upd 25 hc13 rfl
      refine lv E ok (y_fieldAddr fo_96_2 rfl) fun a E => lv E ok (y_load one_4 rfl (Holds.own 0 rfl rfl)) fun a E => lv E ok (y_not rfl) fun a E => lv E ok (y_pickT rfl rfl) fun a E => lv E ok (y_assign rfl) fun a E => wn <| wp_ret ?_
      refine t_ret ?_
      have hret : scan_proper_R u m0 S (!x_0.Not) a w := ⟨ok.drop, E.d, ⟨rv_t E rfl, trivial⟩⟩
      obtain rfl := sj hF
      exact fin _ _ hret
    replace hF := cond_f hc13 hF
    replace E := E.upd 25 hc13 rfl
    refine ls E fun a E => ls E fun a E => ls E fun a E => lv E ok (y_pickF rfl rfl) fun a E => lv E ok (y_assign rfl) fun a E => wn <| wp_ret ?_
    refine t_ret ?_
    have hret : scan_proper_R u m0 S false a w := ⟨ok.drop, E.d, ⟨rv_t E rfl, trivial⟩⟩
    obtain rfl := sj hF
    exact fin _ _ hret
  replace hF := cond_f hc11 hF
  refine wp_skip <| t_norm <| sg <| lv E ok (y_fieldAddr fo_96_1 rfl) fun a E => lv E ok (y_load one_94 rfl (Holds.own 0 rfl rfl)) fun a E => lv E ok (y_lenL sl_94 h3 rfl) fun a E => lv E ok (y_geq rfl rfl) fun a E => ?_
  refine lv E ok (y_move rfl) fun a E => bsplit (decide ((x_0.Ranges.length : Int) ≥ 1)) (fun hc14 => ?_) (fun hc14 => ?_)
  rotate_left
  · replace hF := cond_f hc14 hF
    replace E := E.upd 34 hc14 rfl
    refine ls E fun a E => ls E fun a E => ls E fun a E => ls E fun a E => lv E ok (y_pickF rfl rfl) fun a E => lv E ok (y_move rfl) fun a E => ls E fun a E => ls E fun a E => ?_
    refine ls E fun a E => ls E fun a E => lv E ok (y_pickF rfl rfl) fun a E => lv E ok (y_assign rfl) fun a E => wn <| wp_ret ?_
    have hret : scan_proper_R u m0 S false a w := ⟨ok.drop, E.d, ⟨rv_t E rfl, trivial⟩⟩
    obtain rfl := sj hF
    exact fin _ _ hret
  replace hF := cond_t hc14 hF
  replace E := E.upd 34 hc14 rfl
  refine lv E ok (y_fieldAddr fo_96_1 rfl) fun a E => lv E ok (y_load one_94 rfl (Holds.own 0 rfl rfl)) fun a E => lv E ok (y_lenL sl_94 h3 rfl) fun a E => lv E ok (y_leq rfl rfl) fun a E => lv E ok (y_pickT rfl rfl) fun a E => lv E ok (y_move rfl) fun a E => bsplit (decide ((x_0.Ranges.length : Int) ≤ 20)) (fun hc15 => ?_) (fun hc15 => ?_)
  rotate_left
  · replace hF := cond_f hc15 hF
    replace E := E.upd 40 hc15 rfl
    refine ls E fun a E => ls E fun a E => ls E fun a E => ls E fun a E => lv E ok (y_pickF rfl rfl) fun a E => lv E ok (y_assign rfl) fun a E => wn ?_
    refine wp_ret ?_
    have hret : scan_proper_R u m0 S false a w := ⟨ok.drop, E.d, ⟨rv_t E rfl, trivial⟩⟩
    obtain rfl := sj hF
    exact fin _ _ hret
  replace hF := cond_t hc15 hF
  replace E := E.upd 40 hc15 rfl
  refine lv E ok (y_fieldAddr fo_96_1 rfl) fun a E => lv E ok (y_load one_94 rfl (Holds.own 0 rfl rfl)) fun a E => ?_
  obtain ⟨r16, e17, hF⟩ := bnd hF
  refine l_call E go_68 rfl (slices_ContainsFunc_scan_Range_scan_Range__69_w N _ x_0.Ranges h3 e17 hG ok) rfl rfl ?_
  rintro _ w ⟨rfl, ok⟩
  refine ⟨_, rfl, fun a E => ?_⟩
  refine lv E ok (y_not rfl) fun a E => lv E ok (y_pickT rfl rfl) fun a E => lv E ok (y_assign rfl) fun a E => wn <| wp_ret ?_
  have hret : scan_proper_R u m0 S (!r16) a w := ⟨ok.drop, E.d, ⟨rv_t E rfl, trivial⟩⟩
  obtain rfl := sj hF
  exact fin _ _ hret
def scan_sound_1_R (u : World) (m0 : Mem) (S : Segs) (r : Bool) (a : Act) (w : World) : Prop :=
  Ok u m0 S w ∧ a.defers = [] ∧ RVs Try.prog a w [.t 2 (.bool r)]
set_option maxHeartbeats 4000000 in
set_option maxRecDepth 100000 in
theorem scan_sound_1_w {u : World} {m0 : Mem} {S : Segs} {w : World} (N : Nat) (vx_0 : List Value) (x_0 : Item) (hx_0 : pItem m0 vx_0 x_0) {r : Bool} (hF : scan_sound_1 N x_0 = some r) (hG : Glob u) (ok : Ok u m0 S w) :
    Calls Try.prog 51 [.agg vx_0.toArray].toArray w fun e w' => (e = .returned (.bool r) ∧ Ok u m0 S w') := by
  obtain ⟨c2, rfl, l1, h3, r4, r5⟩ := hx_0
  have hb0 := ok.base
  have le_m0 := Mem.le.refl m0
  unfold scan_sound_1 at hF
  have fin : ∀ a w, scan_sound_1_R u m0 S r a w → bodyPost Try.prog Try.f51 (fun e w' => (e = .returned (.bool r) ∧ Ok u m0 S w')) .ret a w := by
    intro a w h
    obtain ⟨ok, hd, hrv⟩ := h
    exact c_ret2 [.t 2 (.bool r)] hd rfl hrv ⟨rfl, ok⟩
  refine enter Try.func51 rfl rfl rfl fun a E => sg <| l_box E ok rfl rfl rfl fun b6 a w E ok => lv E ok (y_assign rfl) fun a E => wn <| wp_seq ?_
  refine c_region <| lv E ok (y_loadAgg (cs := [(Value.string (bs x_0.Text)), c2, (Value.bool x_0.Not), (Value.int .i64 x_0.Least), (Value.int .i64 x_0.Most)]) agg_96 rfl rfl (Holds.own 0 rfl rfl)) fun a E => ?_
  obtain ⟨r7, e8, hF⟩ := bnd hF
  refine l_call E go_52 rfl (scan_proper_w N _ x_0 ⟨_, rfl, l1, h3, r4, r5⟩ e8 hG ok) rfl rfl ?_
  rintro _ w ⟨rfl, ok⟩
  refine ⟨_, rfl, fun a E => ?_⟩
  refine lv E ok (y_not rfl) fun a E => lv E ok (y_assign rfl) fun a E => wn <| wp_ret ?_
  have hret : scan_sound_1_R u m0 S (!r7) a w := ⟨ok.drop, E.d, ⟨rv_t E rfl, trivial⟩⟩
  obtain rfl := sj hF
  exact fin _ _ hret
def slices_IndexFunc_scan_Item_scan_Item__51_R (u : World) (m0 : Mem) (S : Segs) (r : Int) (a : Act) (w : World) : Prop :=
  Ok u m0 S w ∧ a.defers = [] ∧ RVs Try.prog a w [.t 4 (.int .i64 r)] ∧ InR .i64 r
set_option maxHeartbeats 4000000 in
set_option maxRecDepth 100000 in
theorem slices_IndexFunc_scan_Item_scan_Item__51_w {u : World} {m0 : Mem} {S : Segs} {w : World} (N : Nat) (vs_0 : Value) (s_0 : List (Item)) (hs_0 : (pL 5 pItem) m0 [vs_0] s_0) {r : Int} (hF : slices_IndexFunc_scan_Item_scan_Item__51 N s_0 = some r) (hG : Glob u) (ok : Ok u m0 S w) :
    Calls Try.prog 66 [vs_0, .func (.func 51) #[] #[]].toArray w fun e w' => (e = .returned (.int .i64 r) ∧ Ok u m0 S w') ∧ InR .i64 r := by
  have hb0 := ok.base
  have le_m0 := Mem.le.refl m0
  unfold slices_IndexFunc_scan_Item_scan_Item__51 at hF
  have fin : ∀ a w, slices_IndexFunc_scan_Item_scan_Item__51_R u m0 S r a w → bodyPost Try.prog Try.f66 (fun e w' => (e = .returned (.int .i64 r) ∧ Ok u m0 S w') ∧ InR .i64 r) .ret a w := by
    intro a w h
    obtain ⟨ok, hd, hrv, h0⟩ := h
    exact c_ret2 [.t 4 (.int .i64 r)] hd rfl hrv ⟨⟨rfl, ok⟩, h0⟩
  refine enter Try.func66 rfl rfl rfl fun a E => sg <| lv E ok (y_assign rfl) fun a E => wn <| wp_seq <| wp_seq ?_
  refine c_region <| lv E ok (y_move rfl) fun a E => lv E ok (y_lenL sl_60 hs_0 rfl) fun a E => lv E ok (y_move rfl) fun a E => wn <| wp_block ?_
  obtain ⟨o2, hL, hF⟩ := bnd hF
  refine c_loop _ (fun (s : Int) a w => Ok u m0 (S) w ∧ Env 19 a [(0, vs_0), (1, (Value.func (.func 51) #[] #[])), (7, (Value.int .i64 (s_0.length : Int))), (8, (Value.int .i64 s))] ∧ InR .i64 s) (fun (b : (Unit ⊕ Int)) e a w => (Sum.elim (fun b24 => e = (.exit 0) ∧ Ok u m0 (S) w ∧ Env 19 a []) (fun b25 => e = .ret ∧ slices_IndexFunc_scan_Item_scan_Item__51_R u m0 S b25 a w)) b) ?_ ?_ N _ a w hL ⟨ok, E.keep [0, 1, 7, 8], (show InR .i64 (0) by decide)⟩
  rotate_left
  · intro e a w _ hO
    rcases o2 with o2 | o2
    rotate_left
    · replace hF := elim_r hF
      obtain ⟨rfl, hret⟩ := hO
      refine b_ret <| t_ret ?_
      obtain rfl := sj hF
      exact fin _ _ hret
    replace hF := elim_l hF
    obtain ⟨rfl, ok, E⟩ := hO
    refine b_hit <| t_norm <| sg <| lv E ok (y_assign rfl) fun a E => wn <| wp_ret ?_
    have hret : slices_IndexFunc_scan_Item_scan_Item__51_R u m0 S (-1) a w := ⟨ok, E.d, ⟨rv_t E rfl, trivial⟩, (show InR .i64 (-1) by decide)⟩
    obtain rfl := sj hF
    exact fin _ _ hret
  rintro x_4 a w r ⟨ok, E, r5⟩ hF
  replace hF : slices_IndexFunc_scan_Item_scan_Item__51_b1 N s_0 x_4 = some r := hF
  unfold slices_IndexFunc_scan_Item_scan_Item__51_b1 at hF
  refine sg <| lv E ok (y_lss rfl rfl) fun a E => wn <| wp_seq <| c_if E rfl (fun hc6 => ?_) (fun hc6 => ?_)
  rotate_left
  · replace hF := cond_f hc6 hF
    refine wp_exit <| t_exit ?_
    obtain rfl := sj hF
    exact step_o (by nofun) (sl ⟨rfl, ⟨ok, E.keep []⟩⟩)
  replace hF := cond_t hc6 hF
  refine wp_skip <| t_norm <| wp_seq <| wp_block <| sg <| lv E ok (y_move rfl) fun a E => lv E ok (y_assign rfl) fun a E => ?_
  refine wn <| sg <| lv E ok (y_move rfl) fun a E => lv E ok (y_move rfl) fun a E => lv E ok (y_move rfl) fun a E => ?_
  obtain ⟨x7, e8, hF⟩ := bnd hF
  obtain ⟨b9, o10, es11, hl12, rr13, at14, yy15⟩ := idxAt sl_60 hs_0 e8 (P := Try.prog) (X := .tmp 12) (I := .tmp 13) (kd := .i64) (ev_of E rfl) (ev_of E rfl)
  obtain ⟨c17, rfl, l16, h18, r19, r20⟩ := rr13
  refine lv E ok (yy15 _ _) fun a E => lv E ok (y_loadAgg (cs := [(Value.string (bs x7.Text)), c17, (Value.bool x7.Not), (Value.int .i64 x7.Least), (Value.int .i64 x7.Most)]) agg_96 rfl rfl (Holds.ro at14)) fun a E => ?_
  obtain ⟨r21, e22, hF⟩ := bnd hF
  refine l_callv E rfl go_51 rfl (scan_sound_1_w N _ x7 ⟨_, rfl, l16, h18, r19, r20⟩ e22 hG ok) rfl rfl ?_
  rintro _ w ⟨rfl, ok⟩
  refine ⟨_, rfl, fun a E => ?_⟩
  refine wn <| c_if E rfl (fun hc23 => ?_) (fun hc23 => ?_)
  rotate_left
  · replace hF := cond_f hc23 hF
    refine wp_skip <| b_norm <| t_norm <| c_region <| lv E ok (y_add rfl rfl (InR.inc r5 (pL_InR hs_0) hc6)) fun a E => lv E ok (y_move rfl) fun a E => wpList_nil ?_
    obtain rfl := sj hF
    exact step_n ⟨ok, E.keep [0, 1, 7, 8], (InR.inc r5 (pL_InR hs_0) hc6)⟩
  replace hF := cond_t hc23 hF
  refine sg <| lv E ok (y_move rfl) fun a E => lv E ok (y_assign rfl) fun a E => wn <| wp_ret <| b_ret ?_
  refine t_ret ?_
  have hret : slices_IndexFunc_scan_Item_scan_Item__51_R u m0 S x_4 a w := ⟨ok, E.d, ⟨rv_t E rfl, trivial⟩, r5⟩
  obtain rfl := sj hF
  exact step_o (by nofun) (sr ⟨rfl, hret⟩)
def slices_ContainsFunc_scan_Item_scan_Item__51_R (u : World) (m0 : Mem) (S : Segs) (r : Bool) (a : Act) (w : World) : Prop :=
  Ok u m0 S w ∧ a.defers = [] ∧ RVs Try.prog a w [.t 4 (.bool r)]
set_option maxHeartbeats 4000000 in
set_option maxRecDepth 100000 in
theorem slices_ContainsFunc_scan_Item_scan_Item__51_w {u : World} {m0 : Mem} {S : Segs} {w : World} (N : Nat) (vs_0 : Value) (s_0 : List (Item)) (hs_0 : (pL 5 pItem) m0 [vs_0] s_0) {r : Bool} (hF : slices_ContainsFunc_scan_Item_scan_Item__51 N s_0 = some r) (hG : Glob u) (ok : Ok u m0 S w) :
    Calls Try.prog 50 [vs_0, .func (.func 51) #[] #[]].toArray w fun e w' => (e = .returned (.bool r) ∧ Ok u m0 S w') := by
  have hb0 := ok.base
  have le_m0 := Mem.le.refl m0
  unfold slices_ContainsFunc_scan_Item_scan_Item__51 at hF
  have fin : ∀ a w, slices_ContainsFunc_scan_Item_scan_Item__51_R u m0 S r a w → bodyPost Try.prog Try.f50 (fun e w' => (e = .returned (.bool r) ∧ Ok u m0 S w')) .ret a w := by
    intro a w h
    obtain ⟨ok, hd, hrv⟩ := h
    exact c_ret2 [.t 4 (.bool r)] hd rfl hrv ⟨rfl, ok⟩
  refine enter Try.func50 rfl rfl rfl fun a E => sg <| lv E ok (y_assign rfl) fun a E => wn <| sg ?_
  refine lv E ok (y_move rfl) fun a E => lv E ok (y_move rfl) fun a E => ?_
  obtain ⟨r1, e2, hF⟩ := bnd hF
  refine l_call E go_66 rfl (slices_IndexFunc_scan_Item_scan_Item__51_w N _ s_0 hs_0 e2 hG ok) rfl rfl ?_
  rintro _ w ⟨⟨rfl, ok⟩, r3⟩
  refine ⟨_, rfl, fun a E => ?_⟩
  refine lv E ok (y_geq rfl rfl) fun a E => lv E ok (y_assign rfl) fun a E => wn <| wp_ret ?_
  have hret : slices_ContainsFunc_scan_Item_scan_Item__51_R u m0 S (decide (r1 ≥ 0)) a w := ⟨ok, E.d, ⟨rv_t E rfl, trivial⟩⟩
  obtain rfl := sj hF
  exact fin _ _ hret
def scan_sound_R (u : World) (m0 : Mem) (S : Segs) (r : Bool) (a : Act) (w : World) : Prop :=
  Ok u m0 S w ∧ a.defers = [] ∧ RVs Try.prog a w [.t 2 (.bool r)]
set_option maxHeartbeats 4000000 in
set_option maxRecDepth 100000 in
theorem scan_sound_w {u : World} {m0 : Mem} {S : Segs} {w : World} (N : Nat) (vr_0 : List Value) (r_0 : Rule) (hr_0 : pRule m0 vr_0 r_0) {r : Bool} (hF : scan_sound N r_0 = some r) (hG : Glob u) (ok : Ok u m0 S w) :
    Calls Try.prog 32 [.agg vr_0.toArray].toArray w fun e w' => (e = .returned (.bool r) ∧ Ok u m0 S w') := by
  obtain ⟨c2, rfl, l1, h3, l4⟩ := hr_0
  have hb0 := ok.base
  have le_m0 := Mem.le.refl m0
  unfold scan_sound at hF
  have fin : ∀ a w, scan_sound_R u m0 S r a w → bodyPost Try.prog Try.f32 (fun e w' => (e = .returned (.bool r) ∧ Ok u m0 S w')) .ret a w := by
    intro a w h
    obtain ⟨ok, hd, hrv⟩ := h
    exact c_ret2 [.t 2 (.bool r)] hd rfl hrv ⟨rfl, ok⟩
  refine enter Try.func32 rfl rfl rfl fun a E => sg <| l_box E ok rfl rfl rfl fun b5 a w E ok => lv E ok (y_assign rfl) fun a E => wn <| wp_seq ?_
  refine c_region <| lv E ok (y_fieldAddr fo_80_0 rfl) fun a E => lv E ok (y_load one_9 rfl (Holds.own 0 rfl rfl)) fun a E => ?_
  obtain ⟨r6, e7, hF⟩ := bnd hF
  refine l_call E go_31 rfl (scan_word_w N r_0.Kind l1 e7 hG ok) rfl rfl ?_
  rintro _ w ⟨rfl, ok⟩
  refine ⟨_, rfl, fun a E => ?_⟩
  refine lv E ok (y_move rfl) fun a E => bsplit r6 (fun hc8 => ?_) (fun hc8 => ?_)
  rotate_left
  · replace hF := cond_f hc8 hF
    replace E := E.upd 6 hc8 rfl
    refine ls E fun a E => ls E fun a E => ls E fun a E => ls E fun a E => ls E fun a E => ls E fun a E => ls E fun a E => ls E fun a E => ?_
    refine lv E ok (y_pickF rfl rfl) fun a E => lv E ok (y_move rfl) fun a E => ls E fun a E => ls E fun a E => ls E fun a E => ls E fun a E => lv E ok (y_pickF rfl rfl) fun a E => lv E ok (y_move rfl) fun a E => ?_
    refine ls E fun a E => ls E fun a E => ls E fun a E => ls E fun a E => lv E ok (y_pickF rfl rfl) fun a E => lv E ok (y_move rfl) fun a E => ls E fun a E => ls E fun a E => ?_
    refine ls E fun a E => ls E fun a E => lv E ok (y_pickF rfl rfl) fun a E => lv E ok (y_assign rfl) fun a E => wn <| wp_ret ?_
    have hret : scan_sound_R u m0 S false a w := ⟨ok.drop, E.d, ⟨rv_t E rfl, trivial⟩⟩
    obtain rfl := sj hF
    exact fin _ _ hret
  replace hF := cond_t hc8 hF
  replace E := E.upd 6 hc8 rfl
  refine lv E ok (y_fieldAddr fo_80_2 rfl) fun a E => lv E ok (y_load one_9 rfl (Holds.own 0 rfl rfl)) fun a E => lv E ok (y_seql rfl rfl) fun a E => lv E ok (y_move rfl) fun a E => bsplit (r_0.Next == ([])) (fun hc9 => ?_) (fun hc9 => ?_)
  · replace hF := cond_t hc9 hF
    replace E := E.upd 10 hc9 rfl
    refine ls E fun a E => ls E fun a E => ls E fun a E => lv E ok (y_pickT rfl rfl) fun a E => lv E ok (y_pickT rfl rfl) fun a E => lv E ok (y_move rfl) fun a E => lv E ok (y_fieldAddr fo_80_1 rfl) fun a E => lv E ok (y_load one_60 rfl (Holds.own 0 rfl rfl)) fun a E => ?_
    refine lv E ok (y_lenL sl_60 h3 rfl) fun a E => lv E ok (y_geq rfl rfl) fun a E => lv E ok (y_pickT rfl rfl) fun a E => lv E ok (y_move rfl) fun a E => bsplit (decide ((r_0.Items.length : Int) ≥ 1)) (fun hc10 => ?_) (fun hc10 => ?_)
    rotate_left
    · replace hF := cond_f hc10 hF
      replace E := E.upd 22 hc10 rfl
      refine ls E fun a E => ls E fun a E => ls E fun a E => ls E fun a E => lv E ok (y_pickF rfl rfl) fun a E => lv E ok (y_move rfl) fun a E => ls E fun a E => ls E fun a E => ?_
      refine ls E fun a E => ls E fun a E => lv E ok (y_pickF rfl rfl) fun a E => lv E ok (y_assign rfl) fun a E => wn <| wp_ret ?_
      have hret : scan_sound_R u m0 S false a w := ⟨ok.drop, E.d, ⟨rv_t E rfl, trivial⟩⟩
      obtain rfl := sj hF
      exact fin _ _ hret
    replace hF := cond_t hc10 hF
    replace E := E.upd 22 hc10 rfl
    refine lv E ok (y_fieldAddr fo_80_1 rfl) fun a E => lv E ok (y_load one_60 rfl (Holds.own 0 rfl rfl)) fun a E => lv E ok (y_lenL sl_60 h3 rfl) fun a E => lv E ok (y_leq rfl rfl) fun a E => lv E ok (y_pickT rfl rfl) fun a E => lv E ok (y_move rfl) fun a E => bsplit (decide ((r_0.Items.length : Int) ≤ 20)) (fun hc11 => ?_) (fun hc11 => ?_)
    rotate_left
    · replace hF := cond_f hc11 hF
      replace E := E.upd 28 hc11 rfl
      refine ls E fun a E => ls E fun a E => ls E fun a E => ls E fun a E => lv E ok (y_pickF rfl rfl) fun a E => lv E ok (y_assign rfl) fun a E => wn ?_
      refine wp_ret ?_
      have hret : scan_sound_R u m0 S false a w := ⟨ok.drop, E.d, ⟨rv_t E rfl, trivial⟩⟩
      obtain rfl := sj hF
      exact fin _ _ hret
    replace hF := cond_t hc11 hF
    replace E := E.upd 28 hc11 rfl
    refine lv E ok (y_fieldAddr fo_80_1 rfl) fun a E => lv E ok (y_load one_60 rfl (Holds.own 0 rfl rfl)) fun a E => ?_
    obtain ⟨r12, e13, hF⟩ := bnd hF
    refine l_call E go_50 rfl (slices_ContainsFunc_scan_Item_scan_Item__51_w N _ r_0.Items h3 e13 hG ok) rfl rfl ?_
    rintro _ w ⟨rfl, ok⟩
    refine ⟨_, rfl, fun a E => ?_⟩
    refine lv E ok (y_not rfl) fun a E => lv E ok (y_pickT rfl rfl) fun a E => lv E ok (y_assign rfl) fun a E => wn <| wp_ret ?_
    have hret : scan_sound_R u m0 S (!r12) a w := ⟨ok.drop, E.d, ⟨rv_t E rfl, trivial⟩⟩
    obtain rfl := sj hF
    exact fin _ _ hret
  replace hF := cond_f hc9 hF
  replace E := E.upd 10 hc9 rfl
  refine lv E ok (y_fieldAddr fo_80_2 rfl) fun a E => lv E ok (y_load one_9 rfl (Holds.own 0 rfl rfl)) fun a E => ?_
  obtain ⟨r14, e15, hF⟩ := bnd hF
  refine l_call E go_31 rfl (scan_word_w N r_0.Next l4 e15 hG ok) rfl rfl ?_
  rintro _ w ⟨rfl, ok⟩
  refine ⟨_, rfl, fun a E => ?_⟩
  refine lv E ok (y_pickF rfl rfl) fun a E => lv E ok (y_pickT rfl rfl) fun a E => lv E ok (y_move rfl) fun a E => bsplit r14 (fun hc16 => ?_) (fun hc16 => ?_)
  rotate_left
  · replace hF := cond_f hc16 hF
    replace E := E.upd 16 hc16 rfl
    refine ls E fun a E => ls E fun a E => ls E fun a E => ls E fun a E => lv E ok (y_pickF rfl rfl) fun a E => lv E ok (y_move rfl) fun a E => ls E fun a E => ls E fun a E => ?_
    refine ls E fun a E => ls E fun a E => lv E ok (y_pickF rfl rfl) fun a E => lv E ok (y_move rfl) fun a E => ls E fun a E => ls E fun a E => ls E fun a E => ls E fun a E => ?_
    refine lv E ok (y_pickF rfl rfl) fun a E => lv E ok (y_assign rfl) fun a E => wn <| wp_ret ?_
    have hret : scan_sound_R u m0 S false a w := ⟨ok.drop, E.d, ⟨rv_t E rfl, trivial⟩⟩
    obtain rfl := sj hF
    exact fin _ _ hret
  replace hF := cond_t hc16 hF
  replace E := E.upd 16 hc16 rfl
  refine lv E ok (y_fieldAddr fo_80_1 rfl) fun a E => lv E ok (y_load one_60 rfl (Holds.own 0 rfl rfl)) fun a E => lv E ok (y_lenL sl_60 h3 rfl) fun a E => lv E ok (y_geq rfl rfl) fun a E => lv E ok (y_pickT rfl rfl) fun a E => lv E ok (y_move rfl) fun a E => bsplit (decide ((r_0.Items.length : Int) ≥ 1)) (fun hc17 => ?_) (fun hc17 => ?_)
  rotate_left
  · replace hF := cond_f hc17 hF
    replace E := E.upd 22 hc17 rfl
    refine ls E fun a E => ls E fun a E => ls E fun a E => ls E fun a E => lv E ok (y_pickF rfl rfl) fun a E => lv E ok (y_move rfl) fun a E => ls E fun a E => ls E fun a E => ?_
    refine ls E fun a E => ls E fun a E => lv E ok (y_pickF rfl rfl) fun a E => lv E ok (y_assign rfl) fun a E => wn <| wp_ret ?_
    have hret : scan_sound_R u m0 S false a w := ⟨ok.drop, E.d, ⟨rv_t E rfl, trivial⟩⟩
    obtain rfl := sj hF
    exact fin _ _ hret
  replace hF := cond_t hc17 hF
  replace E := E.upd 22 hc17 rfl
  refine lv E ok (y_fieldAddr fo_80_1 rfl) fun a E => lv E ok (y_load one_60 rfl (Holds.own 0 rfl rfl)) fun a E => lv E ok (y_lenL sl_60 h3 rfl) fun a E => lv E ok (y_leq rfl rfl) fun a E => lv E ok (y_pickT rfl rfl) fun a E => lv E ok (y_move rfl) fun a E => bsplit (decide ((r_0.Items.length : Int) ≤ 20)) (fun hc18 => ?_) (fun hc18 => ?_)
  rotate_left
  · replace hF := cond_f hc18 hF
    replace E := E.upd 28 hc18 rfl
    refine ls E fun a E => ls E fun a E => ls E fun a E => ls E fun a E => lv E ok (y_pickF rfl rfl) fun a E => lv E ok (y_assign rfl) fun a E => wn ?_
    refine wp_ret ?_
    have hret : scan_sound_R u m0 S false a w := ⟨ok.drop, E.d, ⟨rv_t E rfl, trivial⟩⟩
    obtain rfl := sj hF
    exact fin _ _ hret
  replace hF := cond_t hc18 hF
  replace E := E.upd 28 hc18 rfl
  refine lv E ok (y_fieldAddr fo_80_1 rfl) fun a E => lv E ok (y_load one_60 rfl (Holds.own 0 rfl rfl)) fun a E => ?_
  obtain ⟨r19, e20, hF⟩ := bnd hF
  refine l_call E go_50 rfl (slices_ContainsFunc_scan_Item_scan_Item__51_w N _ r_0.Items h3 e20 hG ok) rfl rfl ?_
  rintro _ w ⟨rfl, ok⟩
  refine ⟨_, rfl, fun a E => ?_⟩
  refine lv E ok (y_not rfl) fun a E => lv E ok (y_pickT rfl rfl) fun a E => lv E ok (y_assign rfl) fun a E => wn <| wp_ret ?_
  have hret : scan_sound_R u m0 S (!r19) a w := ⟨ok.drop, E.d, ⟨rv_t E rfl, trivial⟩⟩
  obtain rfl := sj hF
  exact fin _ _ hret
def scan_Valid_R (u : World) (m0 : Mem) (S : Segs) (r : Bool) (a : Act) (w : World) : Prop :=
  Ok u m0 S w ∧ a.defers = [] ∧ RVs Try.prog a w [.t 2 (.bool r)]
set_option maxHeartbeats 4000000 in
set_option maxRecDepth 100000 in
theorem scan_Valid_w {u : World} {m0 : Mem} {S : Segs} {w : World} (N : Nat) (vs_0 : Value) (s_0 : List (State)) (hs_0 : (pL 2 pState) m0 [vs_0] s_0) {r : Bool} (hF : scan_Valid N s_0 = some r) (hG : Glob u) (ok : Ok u m0 S w) :
    Calls Try.prog 15 [vs_0].toArray w fun e w' => (e = .returned (.bool r) ∧ Ok u m0 S w') := by
  have hb0 := ok.base
  have le_m0 := Mem.le.refl m0
  unfold scan_Valid at hF
  have fin : ∀ a w, scan_Valid_R u m0 S r a w → bodyPost Try.prog Try.f15 (fun e w' => (e = .returned (.bool r) ∧ Ok u m0 S w')) .ret a w := by
    intro a w h
    obtain ⟨ok, hd, hrv⟩ := h
    exact c_ret2 [.t 2 (.bool r)] hd rfl hrv ⟨rfl, ok⟩
  refine enter Try.func15 rfl rfl rfl fun a E => sg <| lv E ok (y_assign rfl) fun a E => wn <| wp_seq <| wp_seq ?_
  refine c_region <| lv E ok (y_move rfl) fun a E => lv E ok (y_lenL sl_30 hs_0 rfl) fun a E => lv E ok (y_lss rfl rfl) fun a E => lv E ok (y_move rfl) fun a E => bsplit (decide ((s_0.length : Int) < 1)) (fun hc1 => ?_) (fun hc1 => ?_)
  · replace hF := cond_t hc1 hF
    replace E := E.upd 13 hc1 rfl
    refine ls E fun a E => ls E fun a E => ls E fun a E => lv E ok (y_pickT rfl rfl) fun a E => wn <| c_if E rfl (fun _ => ?_) (fun h => by cases h)
    refine sg <| lv E ok (y_assign rfl) fun a E => wn <| wp_ret <| t_ret ?_
    have hret : scan_Valid_R u m0 S false a w := ⟨ok, E.d, ⟨rv_t E rfl, trivial⟩⟩
    obtain rfl := sj hF
    exact fin _ _ hret
  replace hF := cond_f hc1 hF
  replace E := E.upd 13 hc1 rfl
  refine lv E ok (y_move rfl) fun a E => lv E ok (y_lenL sl_30 hs_0 rfl) fun a E => lv E ok (y_gtr rfl rfl) fun a E => lv E ok (y_pickF rfl rfl) fun a E => wn <| c_if E rfl (fun hc2 => ?_) (fun hc2 => ?_)
  · replace hF := cond_t hc2 hF
    refine sg <| lv E ok (y_assign rfl) fun a E => wn <| wp_ret <| t_ret ?_
    have hret : scan_Valid_R u m0 S false a w := ⟨ok, E.d, ⟨rv_t E rfl, trivial⟩⟩
    obtain rfl := sj hF
    exact fin _ _ hret
  replace hF := cond_f hc2 hF
  refine wp_skip <| t_norm <| sg <| l_makeMap kS (oneV pB) E ok rfl rfl fun c3 M4 a w E ok h5 => lv E ok (y_assign rfl) fun a E => wn ?_
  refine wp_seq <| sg <| lv E ok (y_move rfl) fun a E => lv E ok (y_lenL sl_30 hs_0 rfl) fun a E => lv E ok (y_move rfl) fun a E => wn ?_
  refine wp_block ?_
  obtain ⟨o11, hL, hF⟩ := bnd hF
  refine c_loop _ (fun (s : Int × (List (List UInt8 × Bool))) a w => ∃ c13 M14, Ok u m0 (M14 :: S) w ∧ Env 85 a [(0, vs_0), (3, c13), (19, vs_0), (20, (Value.int .i64 (s_0.length : Int))), (21, (Value.int .i64 s.1))] ∧ InR .i64 s.1 ∧ OMap kS (oneV pB) m0 c13 s.2 M14) (fun (b : (((List (List UInt8 × Bool))) ⊕ Bool)) e a w => (Sum.elim (fun b108 => e = (.exit 0) ∧ ∃ c109 M110, Ok u m0 (M110 :: S) w ∧ Env 85 a [(0, vs_0), (3, c109)] ∧ OMap kS (oneV pB) m0 c109 b108 M110) (fun b112 => e = .ret ∧ scan_Valid_R u m0 S b112 a w)) b) ?_ ?_ N _ a w hL ⟨c3, M4, ok, E.keep [0, 3, 19, 20, 21], (show InR .i64 (0) by decide), h5⟩
  · as_aux_lemma =>
      rintro ⟨x_16, names_17⟩ a w r ⟨c19, M20, ok, E, r18, h21⟩ hF
      replace hF : scan_Valid_b1 N s_0 x_16 names_17 = some r := hF
      unfold scan_Valid_b1 at hF
      refine sg <| lv E ok (y_lss rfl rfl) fun a E => wn <| wp_seq <| c_if E rfl (fun hc22 => ?_) (fun hc22 => ?_)
      rotate_left
      · replace hF := cond_f hc22 hF
        refine wp_exit <| t_exit ?_
        obtain rfl := sj hF
        exact step_o (by nofun) (sl ⟨rfl, ⟨c19, M20, ok, E.keep [0, 3], h21⟩⟩)
      replace hF := cond_t hc22 hF
      refine wp_skip <| t_norm <| wp_seq <| wp_block <| sg ?_
      obtain ⟨x23, e24, hF⟩ := bnd hF
      obtain ⟨b25, o26, es27, hl28, rr29, at30, yy31⟩ := idxAt sl_30 hs_0 e24 (P := Try.prog) (X := .tmp 19) (I := .tmp 21) (kd := .i64) (ev_of E rfl) (ev_of E rfl)
      obtain ⟨c33, rfl, l32, h34⟩ := rr29
      refine lv E ok (yy31 _ _) fun a E => lv E ok (y_loadAgg (cs := [(Value.string (bs x23.Name)), c33]) agg_78 rfl rfl (Holds.ro at30)) fun a E => l_alloc E ok zero_78 rfl rfl fun b35 a w E ok => l_storeB E ok 0 rfl rfl rfl inf_78 rfl rfl ⟨rfl, (pL_one h34), trivial⟩ rfl rfl fun w ok => wn <| wp_seq <| wp_seq ?_
      refine c_region <| lv E ok (y_fieldAddr fo_78_0 rfl) fun a E => lv E ok (y_load one_9 rfl (Holds.own 0 rfl rfl)) fun a E => ?_
      obtain ⟨r36, e37, hF⟩ := bnd hF
      refine l_call E go_31 rfl (scan_word_w N x23.Name l32 e37 hG ok) rfl rfl ?_
      rintro _ w ⟨rfl, ok⟩
      refine ⟨_, rfl, fun a E => ?_⟩
      refine lv E ok (y_not rfl) fun a E => lv E ok (y_move rfl) fun a E => bsplit (!r36) (fun hc38 => ?_) (fun hc38 => ?_)
      · replace hF := cond_t hc38 hF
        replace E := E.upd 29 hc38 rfl
        refine ls E fun a E => ls E fun a E => ls E fun a E => ls E fun a E => lv E ok (y_pickT rfl rfl) fun a E => lv E ok (y_move rfl) fun a E => ls E fun a E => ls E fun a E => ?_
        refine ls E fun a E => ls E fun a E => lv E ok (y_pickT rfl rfl) fun a E => lv E ok (y_move rfl) fun a E => ls E fun a E => ls E fun a E => ls E fun a E => ls E fun a E => ?_
        refine lv E ok (y_pickT rfl rfl) fun a E => wn <| c_if E rfl (fun _ => ?_) (fun h => by cases h)
        refine sg <| lv E ok (y_assign rfl) fun a E => wn <| wp_ret <| t_ret <| b_ret ?_
        refine t_ret ?_
        have hret : scan_Valid_R u m0 S false a w := ⟨ok.drop.drop, E.d, ⟨rv_t E rfl, trivial⟩⟩
        obtain rfl := sj hF
        exact step_o (by nofun) (sr ⟨rfl, hret⟩)
      replace hF := cond_f hc38 hF
      replace E := E.upd 29 hc38 rfl
      refine lv E ok (y_move rfl) fun a E => lv E ok (y_fieldAddr fo_78_0 rfl) fun a E => lv E ok (y_load one_9 rfl (Holds.own 0 rfl rfl)) fun a E => ?_
      obtain ⟨xv39, h40, yy41, yy42⟩ := mlook (P := Try.prog) (mo := .tmp 30) (ko := .tmp 32) (zx := (false : Bool)) ok 1 (keyR_str Try.underlying9) Try.underlying82 h21 rfl (ev_of E rfl) (ev_of E rfl) ⟨rfl, l32⟩ zeroV_4 pB_mk
      obtain rfl := pB_inv h40
      refine lv E ok (yy41 _) fun a E => lv E ok (y_pickF rfl rfl) fun a E => lv E ok (y_move rfl) fun a E => bsplit ((mget names_17 x23.Name).getD false) (fun hc43 => ?_) (fun hc43 => ?_)
      · replace hF := cond_t hc43 hF
        replace E := E.upd 35 hc43 rfl
        refine ls E fun a E => ls E fun a E => ls E fun a E => ls E fun a E => lv E ok (y_pickT rfl rfl) fun a E => lv E ok (y_move rfl) fun a E => ls E fun a E => ls E fun a E => ?_
        refine ls E fun a E => ls E fun a E => lv E ok (y_pickT rfl rfl) fun a E => wn <| c_if E rfl (fun _ => ?_) (fun h => by cases h)
        refine sg <| lv E ok (y_assign rfl) fun a E => wn <| wp_ret <| t_ret <| b_ret ?_
        refine t_ret ?_
        have hret : scan_Valid_R u m0 S false a w := ⟨ok.drop.drop, E.d, ⟨rv_t E rfl, trivial⟩⟩
        obtain rfl := sj hF
        exact step_o (by nofun) (sr ⟨rfl, hret⟩)
      replace hF := cond_f hc43 hF
      replace E := E.upd 35 hc43 rfl
      refine lv E ok (y_fieldAddr fo_78_1 rfl) fun a E => lv E ok (y_load one_76 rfl (Holds.own 0 rfl rfl)) fun a E => lv E ok (y_lenL sl_76 h34 rfl) fun a E => lv E ok (y_lss rfl rfl) fun a E => lv E ok (y_pickF rfl rfl) fun a E => lv E ok (y_move rfl) fun a E => bsplit (decide ((x23.Rules.length : Int) < 1)) (fun hc44 => ?_) (fun hc44 => ?_)
      · replace hF := cond_t hc44 hF
        replace E := E.upd 41 hc44 rfl
        refine ls E fun a E => ls E fun a E => ls E fun a E => ls E fun a E => lv E ok (y_pickT rfl rfl) fun a E => wn <| c_if E rfl (fun _ => ?_) (fun h => by cases h)
        refine sg <| lv E ok (y_assign rfl) fun a E => wn <| wp_ret <| t_ret <| b_ret ?_
        refine t_ret ?_
        have hret : scan_Valid_R u m0 S false a w := ⟨ok.drop.drop, E.d, ⟨rv_t E rfl, trivial⟩⟩
        obtain rfl := sj hF
        exact step_o (by nofun) (sr ⟨rfl, hret⟩)
      replace hF := cond_f hc44 hF
      replace E := E.upd 41 hc44 rfl
      refine lv E ok (y_fieldAddr fo_78_1 rfl) fun a E => lv E ok (y_load one_76 rfl (Holds.own 0 rfl rfl)) fun a E => lv E ok (y_lenL sl_76 h34 rfl) fun a E => lv E ok (y_gtr rfl rfl) fun a E => lv E ok (y_pickF rfl rfl) fun a E => wn <| c_if E rfl (fun hc45 => ?_) (fun hc45 => ?_)
      · replace hF := cond_t hc45 hF
        refine sg <| lv E ok (y_assign rfl) fun a E => wn <| wp_ret <| t_ret <| b_ret ?_
        refine t_ret ?_
        have hret : scan_Valid_R u m0 S false a w := ⟨ok.drop.drop, E.d, ⟨rv_t E rfl, trivial⟩⟩
        obtain rfl := sj hF
        exact step_o (by nofun) (sr ⟨rfl, hret⟩)
      replace hF := cond_f hc45 hF
      refine wp_skip <| t_norm <| c_region <| lv E ok (y_move rfl) fun a E => lv E ok (y_fieldAddr fo_78_0 rfl) fun a E => lv E ok (y_load one_9 rfl (Holds.own 0 rfl rfl)) fun a E => ?_
      obtain ⟨l46, e47, hF⟩ := bnd hF
      refine l_mset (.inl rfl) E ok 1 (keyR_str Try.underlying9) Try.underlying82 h21 rfl rfl rfl rfl ⟨rfl, l32⟩ pB_mk e47 rfl fun M48 w ok h49 => wpList_nil <| b_norm <| t_norm <| c_region <| lv E ok (y_add rfl rfl (InR.inc r18 (pL_InR hs_0) hc22)) fun a E => lv E ok (y_move rfl) fun a E => wpList_nil ?_
      obtain rfl := sj hF
      exact step_n ⟨c19, M48, (ok.pk 2 [1] rfl (by decide)), E.keep [0, 3, 19, 20, 21], (InR.inc r18 (pL_InR hs_0) hc22), h49⟩
  intro e a w _ hO
  rcases o11 with o11 | o11
  rotate_left
  · replace hF := elim_r hF
    obtain ⟨rfl, hret⟩ := hO
    refine b_ret <| t_ret ?_
    obtain rfl := sj hF
    exact fin _ _ hret
  replace hF := elim_l hF
  obtain ⟨rfl, c50, M51, ok, E, h52⟩ := hO
  refine b_hit <| t_norm <| wp_seq <| sg <| lv E ok (y_move rfl) fun a E => lv E ok (y_lenL sl_30 hs_0 rfl) fun a E => lv E ok (y_move rfl) fun a E => ?_
  refine wn <| wp_block ?_
  obtain ⟨o54, hL, hF⟩ := bnd hF
  refine c_loop _ (fun (s : Int) a w => Ok u m0 (M51 :: S) w ∧ Env 85 a [(0, vs_0), (3, c50), (51, vs_0), (52, (Value.int .i64 (s_0.length : Int))), (53, (Value.int .i64 s))] ∧ InR .i64 s) (fun (b : (Unit ⊕ Bool)) e a w => (Sum.elim (fun b106 => e = (.exit 2) ∧ Ok u m0 (M51 :: S) w ∧ Env 85 a [(0, vs_0)]) (fun b107 => e = .ret ∧ scan_Valid_R u m0 S b107 a w)) b) ?_ ?_ N _ a w hL ⟨ok, E.keep [0, 3, 51, 52, 53], (show InR .i64 (0) by decide)⟩
  rotate_left
  · intro e a w _ hO
    rcases o54 with o54 | o54
    rotate_left
    · replace hF := elim_r hF
      obtain ⟨rfl, hret⟩ := hO
      refine b_ret <| t_ret ?_
      obtain rfl := sj hF
      exact fin _ _ hret
    replace hF := elim_l hF
    obtain ⟨rfl, ok, E⟩ := hO
    refine b_hit <| t_norm <| sg <| lv E ok (y_move rfl) fun a E => ?_
    obtain ⟨r103, e104, hF⟩ := bnd hF
    refine l_call E go_29 rfl (scan_text_w N _ s_0 hs_0 e104 hG ok) rfl rfl ?_
    rintro _ w ⟨⟨rfl, ok⟩, l105⟩
    refine ⟨_, rfl, fun a E => ?_⟩
    refine lv E ok (y_slen Try.underlying9 rfl) fun a E => lv E ok (y_leq rfl rfl) fun a E => lv E ok (y_assign rfl) fun a E => wn <| wp_ret ?_
    have hret : scan_Valid_R u m0 S (decide ((r103.length : Int) ≤ 8000)) a w := ⟨ok.drop, E.d, ⟨rv_t E rfl, trivial⟩⟩
    obtain rfl := sj hF
    exact fin _ _ hret
  rintro x_56 a w r ⟨ok, E, r57⟩ hF
  replace hF : scan_Valid_b2 N s_0 o11 x_56 = some r := hF
  unfold scan_Valid_b2 at hF
  refine sg <| lv E ok (y_lss rfl rfl) fun a E => wn <| wp_seq <| c_if E rfl (fun hc58 => ?_) (fun hc58 => ?_)
  rotate_left
  · replace hF := cond_f hc58 hF
    refine wp_exit <| t_exit ?_
    obtain rfl := sj hF
    exact step_o (by nofun) (sl ⟨rfl, ⟨ok, E.keep [0]⟩⟩)
  replace hF := cond_t hc58 hF
  refine wp_skip <| t_norm <| wp_seq <| wp_block <| sg ?_
  obtain ⟨x59, e60, hF⟩ := bnd hF
  obtain ⟨b61, o62, es63, hl64, rr65, at66, yy67⟩ := idxAt sl_30 hs_0 e60 (P := Try.prog) (X := .tmp 51) (I := .tmp 53) (kd := .i64) (ev_of E rfl) (ev_of E rfl)
  obtain ⟨c69, rfl, l68, h70⟩ := rr65
  refine lv E ok (yy67 _ _) fun a E => lv E ok (y_loadAgg (cs := [(Value.string (bs x59.Name)), c69]) agg_78 rfl rfl (Holds.ro at66)) fun a E => l_alloc E ok zero_78 rfl rfl fun b71 a w E ok => l_storeB E ok 0 rfl rfl rfl inf_78 rfl rfl ⟨rfl, (pL_one h70), trivial⟩ rfl rfl fun w ok => wn <| sg ?_
  refine lv E ok (y_fieldAddr fo_78_1 rfl) fun a E => lv E ok (y_load one_76 rfl (Holds.own 0 rfl rfl)) fun a E => lv E ok (y_lenL sl_76 h70 rfl) fun a E => lv E ok (y_move rfl) fun a E => wn <| wp_block ?_
  obtain ⟨o73, hL, hF⟩ := bnd hF
  refine c_loop _ (fun (s : Int) a w => Ok u m0 ([(b71, Obj.cells [(Value.string (bs x59.Name)), c69].toArray 78 (0, 0))] :: M51 :: S) w ∧ Env 85 a [(0, vs_0), (3, c50), (51, vs_0), (52, (Value.int .i64 (s_0.length : Int))), (53, (Value.int .i64 x_56)), (58, c69), (59, (Value.int .i64 (x59.Rules.length : Int))), (60, (Value.int .i64 s))] ∧ InR .i64 s) (fun (b : (Unit ⊕ Bool)) e a w => (Sum.elim (fun b101 => e = (.exit 4) ∧ Ok u m0 ([(b71, Obj.cells [(Value.string (bs x59.Name)), c69].toArray 78 (0, 0))] :: M51 :: S) w ∧ Env 85 a [(0, vs_0), (3, c50), (51, vs_0), (52, (Value.int .i64 (s_0.length : Int))), (53, (Value.int .i64 x_56))]) (fun b102 => e = .ret ∧ scan_Valid_R u m0 S b102 a w)) b) ?_ ?_ N _ a w hL ⟨ok, E.keep [0, 3, 51, 52, 53, 58, 59, 60], (show InR .i64 (0) by decide)⟩
  rotate_left
  · intro e a w _ hO
    rcases o73 with o73 | o73
    rotate_left
    · replace hF := elim_r hF
      obtain ⟨rfl, hret⟩ := hO
      refine b_ret <| b_ret <| t_ret ?_
      obtain rfl := sj hF
      exact step_o (by nofun) (sr ⟨rfl, hret⟩)
    replace hF := elim_l hF
    obtain ⟨rfl, ok, E⟩ := hO
    refine b_hit <| b_norm <| t_norm <| c_region <| lv E ok (y_add rfl rfl (InR.inc r57 (pL_InR hs_0) hc58)) fun a E => lv E ok (y_move rfl) fun a E => wpList_nil ?_
    obtain rfl := sj hF
    exact step_n ⟨(ok.pk 2 [1] rfl (by decide)), E.keep [0, 3, 51, 52, 53], (InR.inc r57 (pL_InR hs_0) hc58)⟩
  rintro x_75 a w r ⟨ok, E, r76⟩ hF
  replace hF : scan_Valid_b3 N o11 x59 x_75 = some r := hF
  unfold scan_Valid_b3 at hF
  refine sg <| lv E ok (y_lss rfl rfl) fun a E => wn <| wp_seq <| c_if E rfl (fun hc77 => ?_) (fun hc77 => ?_)
  rotate_left
  · replace hF := cond_f hc77 hF
    refine wp_exit <| t_exit ?_
    obtain rfl := sj hF
    exact step_o (by nofun) (sl ⟨rfl, ⟨ok, E.keep [0, 3, 51, 52, 53]⟩⟩)
  replace hF := cond_t hc77 hF
  refine wp_skip <| t_norm <| wp_seq <| wp_block <| sg ?_
  obtain ⟨x78, e79, hF⟩ := bnd hF
  obtain ⟨b80, o81, es82, hl83, rr84, at85, yy86⟩ := idxAt sl_76 h70 e79 (P := Try.prog) (X := .tmp 58) (I := .tmp 60) (kd := .i64) (ev_of E rfl) (ev_of E rfl)
  obtain ⟨c88, rfl, l87, h89, l90⟩ := rr84
  refine lv E ok (yy86 _ _) fun a E => lv E ok (y_loadAgg (cs := [(Value.string (bs x78.Kind)), c88, (Value.string (bs x78.Next))]) agg_80 rfl rfl (Holds.ro at85)) fun a E => l_alloc E ok zero_80 rfl rfl fun b91 a w E ok => l_storeB E ok 0 rfl rfl rfl inf_80 rfl rfl ⟨rfl, (pL_one h89), rfl, trivial⟩ rfl rfl fun w ok => wn <| sg ?_
  refine lv E ok (y_loadAgg (cs := [(Value.string (bs x78.Kind)), c88, (Value.string (bs x78.Next))]) agg_80 rfl rfl (Holds.own 0 rfl rfl)) fun a E => ?_
  obtain ⟨r92, e93, hF⟩ := bnd hF
  refine l_call E go_32 rfl (scan_sound_w N _ x78 ⟨_, rfl, l87, h89, l90⟩ e93 hG ok) rfl rfl ?_
  rintro _ w ⟨rfl, ok⟩
  refine ⟨_, rfl, fun a E => ?_⟩
  refine lv E ok (y_not rfl) fun a E => lv E ok (y_move rfl) fun a E => bsplit (!r92) (fun hc94 => ?_) (fun hc94 => ?_)
  · replace hF := cond_t hc94 hF
    replace E := E.upd 67 hc94 rfl
    refine ls E fun a E => ls E fun a E => ls E fun a E => ls E fun a E => ls E fun a E => ls E fun a E => ls E fun a E => ls E fun a E => ?_
    refine ls E fun a E => ls E fun a E => lv E ok (y_pickT rfl rfl) fun a E => wn <| c_if E rfl (fun _ => ?_) (fun h => by cases h)
    refine sg <| lv E ok (y_assign rfl) fun a E => wn <| wp_ret <| b_ret <| t_ret ?_
    have hret : scan_Valid_R u m0 S false a w := ⟨ok.drop.drop.drop, E.d, ⟨rv_t E rfl, trivial⟩⟩
    obtain rfl := sj hF
    exact step_o (by nofun) (sr ⟨rfl, hret⟩)
  replace hF := cond_f hc94 hF
  replace E := E.upd 67 hc94 rfl
  refine lv E ok (y_fieldAddr fo_80_2 rfl) fun a E => lv E ok (y_load one_9 rfl (Holds.own 0 rfl rfl)) fun a E => lv E ok (y_sneq rfl rfl) fun a E => lv E ok (y_move rfl) fun a E => bsplit (x78.Next != ([])) (fun hc95 => ?_) (fun hc95 => ?_)
  rotate_left
  · replace hF := cond_f hc95 hF
    replace E := E.upd 71 hc95 rfl
    refine ls E fun a E => ls E fun a E => ls E fun a E => ls E fun a E => ls E fun a E => lv E ok (y_pickF rfl rfl) fun a E => lv E ok (y_pickF rfl rfl) fun a E => wpList_nil ?_
    refine t_norm <| c_if E rfl (fun h => by cases h) (fun _ => ?_)
    refine wp_skip <| b_norm <| t_norm <| c_region <| lv E ok (y_add rfl rfl (InR.inc r76 (pL_InR h70) hc77)) fun a E => lv E ok (y_move rfl) fun a E => wpList_nil ?_
    obtain rfl := sj hF
    exact step_n ⟨(ok.pk 3 [1, 2] rfl (by decide)), E.keep [0, 3, 51, 52, 53, 58, 59, 60], (InR.inc r76 (pL_InR h70) hc77)⟩
  replace hF := cond_t hc95 hF
  replace E := E.upd 71 hc95 rfl
  refine lv E ok (y_move rfl) fun a E => lv E ok (y_fieldAddr fo_80_2 rfl) fun a E => lv E ok (y_load one_9 rfl (Holds.own 0 rfl rfl)) fun a E => ?_
  obtain ⟨xv96, h97, yy98, yy99⟩ := mlook (P := Try.prog) (mo := .tmp 72) (ko := .tmp 74) (zx := (false : Bool)) ok 2 (keyR_str Try.underlying9) Try.underlying82 h52 rfl (ev_of E rfl) (ev_of E rfl) ⟨rfl, l90⟩ zeroV_4 pB_mk
  obtain rfl := pB_inv h97
  refine lv E ok (yy98 _) fun a E => lv E ok (y_not rfl) fun a E => lv E ok (y_pickT rfl rfl) fun a E => lv E ok (y_pickF rfl rfl) fun a E => wn <| c_if E rfl (fun hc100 => ?_) (fun hc100 => ?_)
  rotate_left
  · replace hF := cond_f hc100 hF
    refine wp_skip <| b_norm <| t_norm <| c_region <| lv E ok (y_add rfl rfl (InR.inc r76 (pL_InR h70) hc77)) fun a E => lv E ok (y_move rfl) fun a E => wpList_nil ?_
    obtain rfl := sj hF
    exact step_n ⟨(ok.pk 3 [1, 2] rfl (by decide)), E.keep [0, 3, 51, 52, 53, 58, 59, 60], (InR.inc r76 (pL_InR h70) hc77)⟩
  replace hF := cond_t hc100 hF
  refine sg <| lv E ok (y_assign rfl) fun a E => wn <| wp_ret <| b_ret <| t_ret ?_
  have hret : scan_Valid_R u m0 S false a w := ⟨ok.drop.drop.drop, E.d, ⟨rv_t E rfl, trivial⟩⟩
  obtain rfl := sj hF
  exact step_o (by nofun) (sr ⟨rfl, hret⟩)
def scan_Print_R (u : World) (m0 : Mem) (S : Segs) (r : (List UInt8) × Int) (a : Act) (w : World) : Prop :=
  Ok u m0 S w ∧ a.defers = [] ∧ RVs Try.prog a w [.t 2 (.string (bs r.1)), .t 3 (.int .i64 r.2)] ∧ r.1.length ≤ LIMS ∧ InR .i64 r.2
set_option maxHeartbeats 4000000 in
set_option maxRecDepth 100000 in
theorem scan_Print_w {u : World} {m0 : Mem} {S : Segs} {w : World} (N : Nat) (vs_0 : Value) (s_0 : List (State)) (hs_0 : (pL 2 pState) m0 [vs_0] s_0) {r : (List UInt8) × Int} (hF : scan_Print N s_0 = some r) (hG : Glob u) (ok : Ok u m0 S w) :
    Calls Try.prog 12 [vs_0].toArray w fun e w' => (e = .returned (.tuple [(.string (bs r.1)), (.int .i64 r.2)].toArray) ∧ Ok u m0 S w') ∧ r.1.length ≤ LIMS ∧ InR .i64 r.2 := by
  have hb0 := ok.base
  have le_m0 := Mem.le.refl m0
  unfold scan_Print at hF
  have fin : ∀ a w, scan_Print_R u m0 S r a w → bodyPost Try.prog Try.f12 (fun e w' => (e = .returned (.tuple [(.string (bs r.1)), (.int .i64 r.2)].toArray) ∧ Ok u m0 S w') ∧ r.1.length ≤ LIMS ∧ InR .i64 r.2) .ret a w := by
    intro a w h
    obtain ⟨ok, hd, hrv, h0, h1⟩ := h
    exact c_ret2 [.t 2 (.string (bs r.1)), .t 3 (.int .i64 r.2)] hd rfl hrv ⟨⟨rfl, ok⟩, h0, h1⟩
  refine enter Try.func12 rfl rfl rfl fun a E => sg <| lv E ok (y_assign rfl) fun a E => lv E ok (y_assign rfl) fun a E => wn <| wp_seq ?_
  refine sg <| lv E ok (y_move rfl) fun a E => ?_
  obtain ⟨r1, e2, hF⟩ := bnd hF
  refine l_call E go_15 rfl (scan_Valid_w N _ s_0 hs_0 e2 hG ok) rfl rfl ?_
  rintro _ w ⟨rfl, ok⟩
  refine ⟨_, rfl, fun a E => ?_⟩
  refine lv E ok (y_not rfl) fun a E => wn <| c_if E rfl (fun hc3 => ?_) (fun hc3 => ?_)
  · replace hF := cond_t hc3 hF
    refine sg <| lv E ok (y_assign rfl) fun a E => lv E ok (y_assign rfl) fun a E => wn <| wp_ret <| t_ret ?_
    have hret : scan_Print_R u m0 S ([], 1) a w := ⟨ok, E.d, ⟨rv_t E rfl, rv_t E rfl, trivial⟩, (show ([] : List UInt8).length ≤ LIMS by decide), (show InR .i64 (1) by decide)⟩
    obtain rfl := sj hF
    exact fin _ _ hret
  replace hF := cond_f hc3 hF
  refine wp_skip <| t_norm <| sg <| lv E ok (y_move rfl) fun a E => ?_
  obtain ⟨r4, e5, hF⟩ := bnd hF
  refine l_call E go_29 rfl (scan_text_w N _ s_0 hs_0 e5 hG ok) rfl rfl ?_
  rintro _ w ⟨⟨rfl, ok⟩, l6⟩
  refine ⟨_, rfl, fun a E => ?_⟩
  refine lv E ok (y_assign rfl) fun a E => lv E ok (y_assign rfl) fun a E => wn <| wp_ret ?_
  have hret : scan_Print_R u m0 S (r4, 0) a w := ⟨ok, E.d, ⟨rv_t E rfl, rv_t E rfl, trivial⟩, l6, (show InR .i64 (0) by decide)⟩
  obtain rfl := sj hF
  exact fin _ _ hret
theorem strings_Cut_w {u : World} {m0 : Mem} {S : Segs} {w : World} (N : Nat) (p0_0 : List UInt8) (lp0_0 : p0_0.length ≤ LIMS) (p1_1 : List UInt8) (lp1_1 : p1_1.length ≤ LIMS) {r : (List UInt8) × (List UInt8) × Bool} (hF : strings_Cut N p0_0 p1_1 = some r) (hG : Glob u) (ok : Ok u m0 S w) :
    Calls Try.prog 36 [Value.string (bs p0_0), Value.string (bs p1_1)].toArray w fun e w' => (e = .returned (.tuple [(.string (bs r.1)), (.string (bs r.2.1)), (.bool r.2.2)].toArray) ∧ Ok u m0 S w') ∧ r.1.length ≤ LIMS ∧ r.2.1.length ≤ LIMS := by
  obtain ⟨mx, hmx⟩ := hG
  exact lib_Cut Try.lays145 hmx p0_0 p1_1 hF lp0_0 ok
theorem strings_CutPrefix_w {u : World} {m0 : Mem} {S : Segs} {w : World} (N : Nat) (p0_0 : List UInt8) (lp0_0 : p0_0.length ≤ LIMS) (p1_1 : List UInt8) (lp1_1 : p1_1.length ≤ LIMS) {r : (List UInt8) × Bool} (hF : strings_CutPrefix N p0_0 p1_1 = some r) (hG : Glob u) (ok : Ok u m0 S w) :
    Calls Try.prog 37 [Value.string (bs p0_0), Value.string (bs p1_1)].toArray w fun e w' => (e = .returned (.tuple [(.string (bs r.1)), (.bool r.2)].toArray) ∧ Ok u m0 S w') ∧ r.1.length ≤ LIMS := lib_CutPrefix Try.lays103 p0_0 p1_1 hF lp0_0 ok
def scan_reader_cut_R (u : World) (m0 : Mem) (S : Segs) (pb0 : Nat) (x0 : Reader) (r : Bool × Reader) (a : Act) (w : World) : Prop :=
  Ok u m0 ([(pb0, Obj.cells [(Value.string (bs r.2.s))].toArray 126 (0, 0))] :: S) w ∧ a.defers = [] ∧ RVs Try.prog a w [.t 4 (.bool r.1)] ∧ r.2.s.length ≤ LIMS
set_option maxHeartbeats 4000000 in
set_option maxRecDepth 100000 in
theorem scan_reader_cut_w {u : World} {m0 : Mem} {S : Segs} {w : World} (N : Nat) (prefix_1 : List UInt8) (lprefix_1 : prefix_1.length ≤ LIMS) {pb0 : Nat} (x0 : Reader) (l1 : x0.s.length ≤ LIMS) {r : Bool × Reader} (hF : scan_reader_cut N prefix_1 x0 = some r) (hG : Glob u) (ok : Ok u m0 ([(pb0, Obj.cells [(Value.string (bs x0.s))].toArray 126 (0, 0))] :: S) w) :
    Calls Try.prog 56 [Value.pointer (some ⟨pb0, 0, none⟩), Value.string (bs prefix_1)].toArray w fun e w' => (e = .returned (.bool r.1) ∧ Ok u m0 ([(pb0, Obj.cells [(Value.string (bs r.2.s))].toArray 126 (0, 0))] :: S) w') ∧ r.2.s.length ≤ LIMS := by
  have hb0 := ok.base
  have le_m0 := Mem.le.refl m0
  unfold scan_reader_cut at hF
  have fin : ∀ a w, scan_reader_cut_R u m0 S pb0 x0 r a w → bodyPost Try.prog Try.f56 (fun e w' => (e = .returned (.bool r.1) ∧ Ok u m0 ([(pb0, Obj.cells [(Value.string (bs r.2.s))].toArray 126 (0, 0))] :: S) w') ∧ r.2.s.length ≤ LIMS) .ret a w := by
    intro a w h
    obtain ⟨ok, hd, hrv, h0⟩ := h
    exact c_ret2 [.t 4 (.bool r.1)] hd rfl hrv ⟨⟨rfl, ok⟩, h0⟩
  refine enter Try.func56 rfl rfl rfl fun a E => sg <| lv E ok (y_assign rfl) fun a E => wn <| sg ?_
  refine lv E ok (y_move rfl) fun a E => lv E ok (y_nilCheck rfl) fun a E => lv E ok (y_fieldAddr fo_126_0 rfl) fun a E => lv E ok (y_load one_9 rfl (Holds.own 0 rfl rfl)) fun a E => lv E ok (y_move rfl) fun a E => ?_
  obtain ⟨r3, e4, hF⟩ := bnd hF
  refine l_call E go_37 rfl (strings_CutPrefix_w N x0.s l1 prefix_1 lprefix_1 e4 hG ok) rfl rfl ?_
  rintro _ w ⟨⟨rfl, ok⟩, l5⟩
  refine ⟨_, rfl, fun a E => ?_⟩
  refine lv E ok (y_move rfl) fun a E => lv E ok (y_extract rfl rfl) fun a E => lv E ok (y_extract rfl rfl) fun a E => lv E ok (y_assign rfl) fun a E => lv E ok (y_assign rfl) fun a E => wn <| wp_seq ?_
  refine sg <| lv E ok (y_move rfl) fun a E => wn <| c_if E rfl (fun hc6 => ?_) (fun hc6 => ?_)
  rotate_left
  · replace hF := cond_f hc6 hF
    refine wp_skip <| t_norm <| sg <| lv E ok (y_move rfl) fun a E => lv E ok (y_assign rfl) fun a E => wn ?_
    refine wp_ret ?_
    have hret : scan_reader_cut_R u m0 S pb0 x0 (r3.2, x0) a w := ⟨ok, E.d, ⟨rv_t E rfl, trivial⟩, l1⟩
    obtain rfl := sj hF
    exact fin _ _ hret
  replace hF := cond_t hc6 hF
  refine c_region <| lv E ok (y_move rfl) fun a E => lv E ok (y_move rfl) fun a E => lv E ok (y_nilCheck rfl) fun a E => lv E ok (y_fieldAddr fo_126_0 rfl) fun a E => l_storeB E ok 0 rfl rfl rfl inf_9 rfl rfl ⟨rfl, trivial⟩ rfl rfl fun w ok => wn ?_
  refine sg <| lv E ok (y_move rfl) fun a E => lv E ok (y_assign rfl) fun a E => wn <| wp_ret ?_
  have hret : scan_reader_cut_R u m0 S pb0 x0 (r3.2, (Reader.mk r3.1)) a w := ⟨ok, E.d, ⟨rv_t E rfl, trivial⟩, l5⟩
  obtain rfl := sj hF
  exact fin _ _ hret
def scan_reader_one_R (u : World) (m0 : Mem) (S : Segs) (pb0 : Nat) (x0 : Reader) (r : Int × Reader) (a : Act) (w : World) : Prop :=
  Ok u m0 ([(pb0, Obj.cells [(Value.string (bs r.2.s))].toArray 126 (0, 0))] :: S) w ∧ a.defers = [] ∧ RVs Try.prog a w [.t 2 (.int .u8 r.1)] ∧ InR .u8 r.1 ∧ r.2.s.length ≤ LIMS
set_option maxHeartbeats 4000000 in
set_option maxRecDepth 100000 in
theorem scan_reader_one_w {u : World} {m0 : Mem} {S : Segs} {w : World} (N : Nat) {pb0 : Nat} (x0 : Reader) (l1 : x0.s.length ≤ LIMS) {r : Int × Reader} (hF : scan_reader_one N x0 = some r) (hG : Glob u) (ok : Ok u m0 ([(pb0, Obj.cells [(Value.string (bs x0.s))].toArray 126 (0, 0))] :: S) w) :
    Calls Try.prog 72 [Value.pointer (some ⟨pb0, 0, none⟩)].toArray w fun e w' => (e = .returned (.int .u8 r.1) ∧ Ok u m0 ([(pb0, Obj.cells [(Value.string (bs r.2.s))].toArray 126 (0, 0))] :: S) w') ∧ InR .u8 r.1 ∧ r.2.s.length ≤ LIMS := by
  have hb0 := ok.base
  have le_m0 := Mem.le.refl m0
  unfold scan_reader_one at hF
  have fin : ∀ a w, scan_reader_one_R u m0 S pb0 x0 r a w → bodyPost Try.prog Try.f72 (fun e w' => (e = .returned (.int .u8 r.1) ∧ Ok u m0 ([(pb0, Obj.cells [(Value.string (bs r.2.s))].toArray 126 (0, 0))] :: S) w') ∧ InR .u8 r.1 ∧ r.2.s.length ≤ LIMS) .ret a w := by
    intro a w h
    obtain ⟨ok, hd, hrv, h0, h1⟩ := h
    exact c_ret2 [.t 2 (.int .u8 r.1)] hd rfl hrv ⟨⟨rfl, ok⟩, h0, h1⟩
  refine enter Try.func72 rfl rfl rfl fun a E => sg <| lv E ok (y_assign rfl) fun a E => wn <| sg ?_
  refine lv E ok (y_move rfl) fun a E => lv E ok (y_nilCheck rfl) fun a E => lv E ok (y_fieldAddr fo_126_0 rfl) fun a E => lv E ok (y_load one_9 rfl (Holds.own 0 rfl rfl)) fun a E => ?_
  obtain ⟨c3, e4, hF⟩ := bnd hF
  refine lv E ok (y_index Try.underlying9 rfl rfl e4) fun a E => lv E ok (y_assign rfl) fun a E => wn <| sg <| lv E ok (y_move rfl) fun a E => lv E ok (y_move rfl) fun a E => ?_
  refine lv E ok (y_nilCheck rfl) fun a E => lv E ok (y_fieldAddr fo_126_0 rfl) fun a E => lv E ok (y_load one_9 rfl (Holds.own 0 rfl rfl)) fun a E => ?_
  obtain ⟨s5, e6, hF⟩ := bnd hF
  refine lv E ok (y_sslice Try.underlying9 e6 rfl ⟨_, rfl⟩ rfl) fun a E => lv E ok (y_nilCheck rfl) fun a E => lv E ok (y_fieldAddr fo_126_0 rfl) fun a E => l_storeB E ok 0 rfl rfl rfl inf_9 rfl rfl ⟨rfl, trivial⟩ rfl rfl fun w ok => wn <| wp_seq <| wp_seq ?_
  refine c_region <| lv E ok (y_move rfl) fun a E => lv E ok (y_neq rfl rfl) fun a E => lv E ok (y_move rfl) fun a E => bsplit ((c3.toNat : Int) != 92) (fun hc7 => ?_) (fun hc7 => ?_)
  · replace hF := cond_t hc7 hF
    replace E := E.upd 20 hc7 rfl
    refine ls E fun a E => ls E fun a E => ls E fun a E => ls E fun a E => ls E fun a E => lv E ok (y_pickT rfl rfl) fun a E => wn ?_
    refine c_if E rfl (fun _ => ?_) (fun h => by cases h)
    refine sg <| lv E ok (y_move rfl) fun a E => lv E ok (y_assign rfl) fun a E => wn <| wp_ret <| t_ret ?_
    have hret : scan_reader_one_R u m0 S pb0 x0 ((c3.toNat : Int), (Reader.mk s5)) a w := ⟨ok, E.d, ⟨rv_t E rfl, trivial⟩, (InR.byte c3), (Nat.le_trans (slc_len e6) l1)⟩
    obtain rfl := sj hF
    exact fin _ _ hret
  replace hF := cond_f hc7 hF
  replace E := E.upd 20 hc7 rfl
  refine lv E ok (y_move rfl) fun a E => lv E ok (y_nilCheck rfl) fun a E => lv E ok (y_fieldAddr fo_126_0 rfl) fun a E => lv E ok (y_load one_9 rfl (Holds.own 0 rfl rfl)) fun a E => lv E ok (y_seql rfl rfl) fun a E => lv E ok (y_pickF rfl rfl) fun a E => wn ?_
  refine c_if E rfl (fun hc8 => ?_) (fun hc8 => ?_)
  · replace hF := cond_t hc8 hF
    refine sg <| lv E ok (y_move rfl) fun a E => lv E ok (y_assign rfl) fun a E => wn <| wp_ret <| t_ret ?_
    have hret : scan_reader_one_R u m0 S pb0 x0 ((c3.toNat : Int), (Reader.mk s5)) a w := ⟨ok, E.d, ⟨rv_t E rfl, trivial⟩, (InR.byte c3), (Nat.le_trans (slc_len e6) l1)⟩
    obtain rfl := sj hF
    exact fin _ _ hret
  replace hF := cond_f hc8 hF
  refine wp_skip <| t_norm <| sg <| lv E ok (y_move rfl) fun a E => lv E ok (y_nilCheck rfl) fun a E => lv E ok (y_fieldAddr fo_126_0 rfl) fun a E => lv E ok (y_load one_9 rfl (Holds.own 0 rfl rfl)) fun a E => ?_
  obtain ⟨c9, e10, hF⟩ := bnd hF
  refine lv E ok (y_index Try.underlying9 rfl rfl e10) fun a E => lv E ok (y_assign rfl) fun a E => wn <| sg <| lv E ok (y_move rfl) fun a E => lv E ok (y_move rfl) fun a E => ?_
  refine lv E ok (y_nilCheck rfl) fun a E => lv E ok (y_fieldAddr fo_126_0 rfl) fun a E => lv E ok (y_load one_9 rfl (Holds.own 0 rfl rfl)) fun a E => ?_
  obtain ⟨s11, e12, hF⟩ := bnd hF
  refine lv E ok (y_sslice Try.underlying9 e12 rfl ⟨_, rfl⟩ rfl) fun a E => lv E ok (y_nilCheck rfl) fun a E => lv E ok (y_fieldAddr fo_126_0 rfl) fun a E => l_storeB E ok 0 rfl rfl rfl inf_9 rfl rfl ⟨rfl, trivial⟩ rfl rfl fun w ok => wn <| wp_seq <| wp_seq ?_
  refine c_region <| lv E ok (y_move rfl) fun a E => lv E ok (y_neq rfl rfl) fun a E => lv E ok (y_move rfl) fun a E => bsplit ((c9.toNat : Int) != 120) (fun hc13 => ?_) (fun hc13 => ?_)
  · replace hF := cond_t hc13 hF
    replace E := E.upd 43 hc13 rfl
    refine ls E fun a E => ls E fun a E => ls E fun a E => ls E fun a E => ls E fun a E => ls E fun a E => lv E ok (y_pickT rfl rfl) fun a E => wpList_nil ?_
    refine t_norm <| c_if E rfl (fun _ => ?_) (fun h => by cases h)
    refine sg <| lv E ok (y_move rfl) fun a E => lv E ok (y_assign rfl) fun a E => wn <| wp_ret <| t_ret ?_
    have hret : scan_reader_one_R u m0 S pb0 x0 ((c9.toNat : Int), (Reader.mk s11)) a w := ⟨ok, E.d, ⟨rv_t E rfl, trivial⟩, (InR.byte c9), (Nat.le_trans (slc_len e12) (Nat.le_trans (slc_len e6) l1))⟩
    obtain rfl := sj hF
    exact fin _ _ hret
  replace hF := cond_f hc13 hF
  replace E := E.upd 43 hc13 rfl
  refine lv E ok (y_move rfl) fun a E => lv E ok (y_nilCheck rfl) fun a E => lv E ok (y_fieldAddr fo_126_0 rfl) fun a E => lv E ok (y_load one_9 rfl (Holds.own 0 rfl rfl)) fun a E => lv E ok (y_slen Try.underlying9 rfl) fun a E => lv E ok (y_lss rfl rfl) fun a E => lv E ok (y_pickF rfl rfl) fun a E => wpList_nil ?_
  refine t_norm <| c_if E rfl (fun hc14 => ?_) (fun hc14 => ?_)
  · replace hF := cond_t hc14 hF
    refine sg <| lv E ok (y_move rfl) fun a E => lv E ok (y_assign rfl) fun a E => wn <| wp_ret <| t_ret ?_
    have hret : scan_reader_one_R u m0 S pb0 x0 ((c9.toNat : Int), (Reader.mk s11)) a w := ⟨ok, E.d, ⟨rv_t E rfl, trivial⟩, (InR.byte c9), (Nat.le_trans (slc_len e12) (Nat.le_trans (slc_len e6) l1))⟩
    obtain rfl := sj hF
    exact fin _ _ hret
  replace hF := cond_f hc14 hF
  refine wp_skip <| t_norm <| wp_seq <| c_draw (by kernel_rfl) (by kernel_rfl) ok <| qv E (y_move rfl) fun a E => qv E (y_nilCheck rfl) fun a E => qv E (y_fieldAddr fo_126_0 rfl) fun a E => qv E (y_load one_9 rfl (Holds.own 0 rfl rfl)) fun a E => ?_
  obtain ⟨c15, e16, hF⟩ := bnd hF
  refine qv E (y_index Try.underlying9 rfl rfl e16) fun a E => ?_
  obtain ⟨r17, e18, hF⟩ := bnd hF
  obtain ⟨_, _, ⟨_, _⟩, r19⟩ := Go.X.Calls.get (strings_IndexByte_w N ([48, 49, 50, 51, 52, 53, 54, 55, 56, 57, 97, 98, 99, 100, 101, 102]) (show ([48, 49, 50, 51, 52, 53, 54, 55, 56, 57, 97, 98, 99, 100, 101, 102] : List UInt8).length ≤ LIMS by decide) (c15.toNat : Int) (InR.byte c15) e18 hG ok)
  refine q_call E go_86 rfl (fun w ok => (strings_IndexByte_w N ([48, 49, 50, 51, 52, 53, 54, 55, 56, 57, 97, 98, 99, 100, 101, 102]) (show ([48, 49, 50, 51, 52, 53, 54, 55, 56, 57, 97, 98, 99, 100, 101, 102] : List UInt8).length ≤ LIMS by decide) (c15.toNat : Int) (InR.byte c15) e18 hG ok).mono (fun _ _ h => h.1)) rfl rfl fun a E => qv E (y_mulw rfl rfl) fun a E => qv E (y_move rfl) fun a E => qv E (y_nilCheck rfl) fun a E => qv E (y_fieldAddr fo_126_0 rfl) fun a E => qv E (y_load one_9 rfl (Holds.own 0 rfl rfl)) fun a E => ?_
  obtain ⟨c20, e21, hF⟩ := bnd hF
  refine qv E (y_index Try.underlying9 rfl rfl e21) fun a E => ?_
  obtain ⟨r22, e23, hF⟩ := bnd hF
  obtain ⟨_, _, ⟨_, _⟩, r24⟩ := Go.X.Calls.get (strings_IndexByte_w N ([48, 49, 50, 51, 52, 53, 54, 55, 56, 57, 97, 98, 99, 100, 101, 102]) (show ([48, 49, 50, 51, 52, 53, 54, 55, 56, 57, 97, 98, 99, 100, 101, 102] : List UInt8).length ≤ LIMS by decide) (c20.toNat : Int) (InR.byte c20) e23 hG ok)
  refine q_call E go_86 rfl (fun w ok => (strings_IndexByte_w N ([48, 49, 50, 51, 52, 53, 54, 55, 56, 57, 97, 98, 99, 100, 101, 102]) (show ([48, 49, 50, 51, 52, 53, 54, 55, 56, 57, 97, 98, 99, 100, 101, 102] : List UInt8).length ≤ LIMS by decide) (c20.toNat : Int) (InR.byte c20) e23 hG ok).mono (fun _ _ h => h.1)) rfl rfl fun a E => qv E (y_addw rfl rfl) fun a E => qv E (y_assign rfl) fun a E => wpQuiet_nil ?_
  intro w ok
  refine t_norm <| sg <| lv E ok (y_move rfl) fun a E => lv E ok (y_move rfl) fun a E => lv E ok (y_nilCheck rfl) fun a E => lv E ok (y_fieldAddr fo_126_0 rfl) fun a E => lv E ok (y_load one_9 rfl (Holds.own 0 rfl rfl)) fun a E => ?_
  obtain ⟨s25, e26, hF⟩ := bnd hF
  refine lv E ok (y_sslice Try.underlying9 e26 rfl ⟨_, rfl⟩ rfl) fun a E => lv E ok (y_nilCheck rfl) fun a E => lv E ok (y_fieldAddr fo_126_0 rfl) fun a E => l_storeB E ok 0 rfl rfl rfl inf_9 rfl rfl ⟨rfl, trivial⟩ rfl rfl fun w ok => wn <| sg ?_
  refine lv E ok (y_move rfl) fun a E => lv E ok (y_conv Try.underlying3 Try.underlying5 rfl) fun a E => lv E ok (y_assign rfl) fun a E => wn <| wp_ret ?_
  have hret : scan_reader_one_R u m0 S pb0 x0 ((IntKind.wrap .u8 (IntKind.wrap .i64 ((IntKind.wrap .i64 ((16 : Int) * r17)) + r22))), (Reader.mk s25)) a w := ⟨ok, E.d, ⟨rv_t E rfl, trivial⟩, (InR.wrap _ _), (Nat.le_trans (slc_len e26) (Nat.le_trans (slc_len e12) (Nat.le_trans (slc_len e6) l1)))⟩
  obtain rfl := sj hF
  exact fin _ _ hret
def scan_reader_item_R (u : World) (m0 : Mem) (S : Segs) (pb0 : Nat) (x0 : Reader) (r : Item × Reader) (a : Act) (w : World) : Prop :=
  ∃ m1 v0, m0.le m1 ∧ Ok u m1 ([(pb0, Obj.cells [(Value.string (bs r.2.s))].toArray 126 (0, 0))] :: S) w ∧ a.defers = [] ∧ RVs Try.prog a w [.c 2 96 (.agg v0.toArray)] ∧ pItem m1 v0 r.1 ∧ r.2.s.length ≤ LIMS
set_option maxHeartbeats 4000000 in
set_option maxRecDepth 100000 in
theorem scan_reader_item_w {u : World} {m0 : Mem} {S : Segs} {w : World} (N : Nat) {pb0 : Nat} (x0 : Reader) (l1 : x0.s.length ≤ LIMS) {r : Item × Reader} (hF : scan_reader_item N x0 = some r) (hG : Glob u) (ok : Ok u m0 ([(pb0, Obj.cells [(Value.string (bs x0.s))].toArray 126 (0, 0))] :: S) w) :
    Calls Try.prog 57 [Value.pointer (some ⟨pb0, 0, none⟩)].toArray w fun e w' => ∃ m1 v0, e = .returned (.agg v0.toArray) ∧ m0.le m1 ∧ Ok u m1 ([(pb0, Obj.cells [(Value.string (bs r.2.s))].toArray 126 (0, 0))] :: S) w' ∧ pItem m1 v0 r.1 ∧ r.2.s.length ≤ LIMS := by
  have le_m0 := Mem.le.refl m0
  unfold scan_reader_item at hF
  have fin : ∀ a w, scan_reader_item_R u m0 S pb0 x0 r a w → bodyPost Try.prog Try.f57 (fun e w' => ∃ m1 v0, e = .returned (.agg v0.toArray) ∧ m0.le m1 ∧ Ok u m1 ([(pb0, Obj.cells [(Value.string (bs r.2.s))].toArray 126 (0, 0))] :: S) w' ∧ pItem m1 v0 r.1 ∧ r.2.s.length ≤ LIMS) .ret a w := by
    intro a w h
    obtain ⟨m1, v0, hle, ok, hd, hrv, h0, h1⟩ := h
    exact c_ret2 [.c 2 96 (.agg v0.toArray)] hd rfl hrv ⟨m1, v0, rfl, hle, ok, h0, h1⟩
  refine enter Try.func57 rfl rfl rfl fun a E => sg <| l_alloc E ok zero_96 rfl rfl fun b3 a w E ok => wn <| sg ?_
  refine lv E ok (y_build (ps := [(3, .const (Value.int .i64 1)), (4, .const (Value.int .i64 1))]) (qs := [(3, [(Value.int .i64 1)]), (4, [(Value.int .i64 1)])]) (cs := [(Value.string (bs ([]))), (Value.slice none 0 0), (Value.bool false), (Value.int .i64 1), (Value.int .i64 1)]) zero_96 places_96 rfl ⟨rfl, rfl, rfl, ⟨rfl, rfl, rfl, trivial⟩⟩ rfl) fun a E => l_alloc E ok zero_96 rfl rfl fun b4 a w E ok => l_storeB E ok 0 rfl rfl rfl inf_96 rfl rfl ⟨rfl, rfl, rfl, rfl, rfl, trivial⟩ rfl rfl fun w ok => wn <| wp_seq <| sg ?_
  refine lv E ok (y_move rfl) fun a E => ?_
  obtain ⟨r5, e6, hF⟩ := bnd hF
  replace ok : Ok u m0 ([(pb0, Obj.cells [(Value.string (bs x0.s))].toArray 126 (0, 0))] :: [(b4, Obj.cells [(Value.string (bs ([]))), (Value.slice none 0 0), (Value.bool false), (Value.int .i64 1), (Value.int .i64 1)].toArray 96 (0, 0))] :: [(b3, Obj.cells [(Value.string (bs ([]))), (Value.slice none 0 0), (Value.bool false), (Value.int .i64 0), (Value.int .i64 0)].toArray 96 (0, 0))] :: S) w := (ok.pk 3 [2, 0, 1] rfl (by decide))
  refine l_call E go_56 rfl (scan_reader_cut_w N ([91]) (show ([91] : List UInt8).length ≤ LIMS by decide) x0 l1 e6 hG ok) rfl rfl ?_
  rintro _ w ⟨⟨rfl, ok⟩, l7⟩
  refine ⟨_, rfl, fun a E => ?_⟩
  refine wn ?_
  obtain ⟨o8, hJ, hF⟩ := bnd hF
  refine c_mono (Q' := fun e a w => e = .normal ∧ ∃ c11 M12, Ok u m0 (M12 :: [(pb0, Obj.cells [(Value.string (bs o8.1.s))].toArray 126 (0, 0))] :: [(b4, Obj.cells [(Value.string (bs o8.2.Text)), c11, (Value.bool o8.2.Not), (Value.int .i64 o8.2.Least), (Value.int .i64 o8.2.Most)].toArray 96 (0, 0))] :: [(b3, Obj.cells [(Value.string (bs ([]))), (Value.slice none 0 0), (Value.bool false), (Value.int .i64 0), (Value.int .i64 0)].toArray 96 (0, 0))] :: S) w ∧ Env 82 a [(0, (Value.pointer (some ⟨pb0, 0, none⟩))), (2, (Value.pointer (some ⟨b3, 0, none⟩))), (3, (Value.pointer (some ⟨b4, 0, none⟩)))] ∧ o8.1.s.length ≤ LIMS ∧ o8.2.Text.length ≤ LIMS ∧ ORow 99 2 pRange m0 c11 o8.2.Ranges M12 ∧ InR .i64 o8.2.Least ∧ InR .i64 o8.2.Most) ?_ ?_
  rotate_left
  · as_aux_lemma =>
      clear hJ
      intro e a w hO
      obtain ⟨rfl, c148, M149, ok, E, l146, l147, h150, r151, r152⟩ := hO
      refine t_norm <| wp_seq <| wp_block <| sg <| lv E ok (y_move rfl) fun a E => ?_
      obtain ⟨r153, e154, hF⟩ := bnd hF
      replace ok : Ok u m0 ([(pb0, Obj.cells [(Value.string (bs o8.1.s))].toArray 126 (0, 0))] :: M149 :: [(b4, Obj.cells [(Value.string (bs o8.2.Text)), c148, (Value.bool o8.2.Not), (Value.int .i64 o8.2.Least), (Value.int .i64 o8.2.Most)].toArray 96 (0, 0))] :: [(b3, Obj.cells [(Value.string (bs ([]))), (Value.slice none 0 0), (Value.bool false), (Value.int .i64 0), (Value.int .i64 0)].toArray 96 (0, 0))] :: S) w := (ok.pk 4 [1, 0, 2, 3] rfl (by decide))
      refine l_call E go_56 rfl (scan_reader_cut_w N ([63]) (show ([63] : List UInt8).length ≤ LIMS by decide) o8.1 l146 e154 hG ok) rfl rfl ?_
      rintro _ w ⟨⟨rfl, ok⟩, l155⟩
      refine ⟨_, rfl, fun a E => ?_⟩
      refine lv E ok (y_assign rfl) fun a E => wn <| c_if E rfl (fun hc156 => ?_) (fun hc156 => ?_)
      · replace hF := cond_t hc156 hF
        refine c_region <| lv E ok (y_fieldAddr fo_96_3 rfl) fun a E => l_storeB E ok 2 rfl rfl rfl inf_3 rfl rfl ⟨rfl, trivial⟩ rfl rfl fun w ok => lv E ok (y_fieldAddr fo_96_4 rfl) fun a E => l_storeB E ok 2 rfl rfl rfl inf_3 rfl rfl ⟨rfl, trivial⟩ rfl rfl fun w ok => wpList_nil <| b_norm <| t_norm ?_
        refine sg <| lv E ok (y_loadAgg (cs := [(Value.string (bs o8.2.Text)), c148, (Value.bool o8.2.Not), (Value.int .i64 0), (Value.int .i64 1)]) agg_96 rfl rfl (Holds.own 2 rfl rfl)) fun a E => l_storeB E ok 3 rfl rfl rfl inf_96 rfl rfl ⟨rfl, (ORow.one h150), rfl, rfl, rfl, trivial⟩ rfl rfl fun w ok => wn <| wp_ret ?_
        obtain ⟨m157, hle, ok, hfz⟩ := (ok.frs 1 rfl).freeze
        have h158 := ORow.froz mRange h150 hle hfz (by decide)
        have le_m0 := le_m0.trans hle
        have hret : scan_reader_item_R u m0 S pb0 x0 ((Item.mk o8.2.Text o8.2.Ranges o8.2.Not 0 1), r153.2) a w := ⟨m157, [(Value.string (bs o8.2.Text)), c148, (Value.bool o8.2.Not), (Value.int .i64 0), (Value.int .i64 1)], le_m0, (ok.pk 3 [0] rfl (by decide)), E.d, ⟨rv_c (cs := [(Value.string (bs o8.2.Text)), c148, (Value.bool o8.2.Not), (Value.int .i64 0), (Value.int .i64 1)]) E ok rfl agg_96 rfl (Holds.own 2 rfl rfl), trivial⟩, ⟨_, rfl, l147, h158, (show InR .i64 (0) by decide), (show InR .i64 (1) by decide)⟩, l155⟩
        obtain rfl := sj hF
        exact fin _ _ hret
      replace hF := cond_f hc156 hF
      refine sg <| lv E ok (y_move rfl) fun a E => ?_
      obtain ⟨r159, e160, hF⟩ := bnd hF
      refine l_call E go_56 rfl (scan_reader_cut_w N ([42]) (show ([42] : List UInt8).length ≤ LIMS by decide) r153.2 l155 e160 hG ok) rfl rfl ?_
      rintro _ w ⟨⟨rfl, ok⟩, l161⟩
      refine ⟨_, rfl, fun a E => ?_⟩
      refine lv E ok (y_assign rfl) fun a E => wn <| c_if E rfl (fun hc162 => ?_) (fun hc162 => ?_)
      · replace hF := cond_t hc162 hF
        refine c_region <| lv E ok (y_fieldAddr fo_96_3 rfl) fun a E => l_storeB E ok 2 rfl rfl rfl inf_3 rfl rfl ⟨rfl, trivial⟩ rfl rfl fun w ok => lv E ok (y_fieldAddr fo_96_4 rfl) fun a E => l_storeB E ok 2 rfl rfl rfl inf_3 rfl rfl ⟨rfl, trivial⟩ rfl rfl fun w ok => wpList_nil <| b_norm <| t_norm ?_
        refine sg <| lv E ok (y_loadAgg (cs := [(Value.string (bs o8.2.Text)), c148, (Value.bool o8.2.Not), (Value.int .i64 0), (Value.int .i64 (-1))]) agg_96 rfl rfl (Holds.own 2 rfl rfl)) fun a E => l_storeB E ok 3 rfl rfl rfl inf_96 rfl rfl ⟨rfl, (ORow.one h150), rfl, rfl, rfl, trivial⟩ rfl rfl fun w ok => wn <| wp_ret ?_
        obtain ⟨m163, hle, ok, hfz⟩ := (ok.frs 1 rfl).freeze
        have h164 := ORow.froz mRange h150 hle hfz (by decide)
        have le_m0 := le_m0.trans hle
        have hret : scan_reader_item_R u m0 S pb0 x0 ((Item.mk o8.2.Text o8.2.Ranges o8.2.Not 0 (-1)), r159.2) a w := ⟨m163, [(Value.string (bs o8.2.Text)), c148, (Value.bool o8.2.Not), (Value.int .i64 0), (Value.int .i64 (-1))], le_m0, (ok.pk 3 [0] rfl (by decide)), E.d, ⟨rv_c (cs := [(Value.string (bs o8.2.Text)), c148, (Value.bool o8.2.Not), (Value.int .i64 0), (Value.int .i64 (-1))]) E ok rfl agg_96 rfl (Holds.own 2 rfl rfl), trivial⟩, ⟨_, rfl, l147, h164, (show InR .i64 (0) by decide), (show InR .i64 (-1) by decide)⟩, l161⟩
        obtain rfl := sj hF
        exact fin _ _ hret
      replace hF := cond_f hc162 hF
      refine sg <| lv E ok (y_move rfl) fun a E => ?_
      obtain ⟨r165, e166, hF⟩ := bnd hF
      refine l_call E go_56 rfl (scan_reader_cut_w N ([43]) (show ([43] : List UInt8).length ≤ LIMS by decide) r159.2 l161 e166 hG ok) rfl rfl ?_
      rintro _ w ⟨⟨rfl, ok⟩, l167⟩
      refine ⟨_, rfl, fun a E => ?_⟩
      refine lv E ok (y_assign rfl) fun a E => wn <| c_if E rfl (fun hc168 => ?_) (fun hc168 => ?_)
      rotate_left
      · replace hF := cond_f hc168 hF
        refine wp_skip <| b_norm <| t_norm <| sg <| lv E ok (y_loadAgg (cs := [(Value.string (bs o8.2.Text)), c148, (Value.bool o8.2.Not), (Value.int .i64 o8.2.Least), (Value.int .i64 o8.2.Most)]) agg_96 rfl rfl (Holds.own 2 rfl rfl)) fun a E => l_storeB E ok 3 rfl rfl rfl inf_96 rfl rfl ⟨rfl, (ORow.one h150), rfl, rfl, rfl, trivial⟩ rfl rfl fun w ok => wpList_nil ?_
        refine t_norm <| wp_ret ?_
        obtain ⟨m171, hle, ok, hfz⟩ := (ok.frs 1 rfl).freeze
        have h172 := ORow.froz mRange h150 hle hfz (by decide)
        have le_m0 := le_m0.trans hle
        have hret : scan_reader_item_R u m0 S pb0 x0 (o8.2, r165.2) a w := ⟨m171, [(Value.string (bs o8.2.Text)), c148, (Value.bool o8.2.Not), (Value.int .i64 o8.2.Least), (Value.int .i64 o8.2.Most)], le_m0, (ok.pk 3 [0] rfl (by decide)), E.d, ⟨rv_c (cs := [(Value.string (bs o8.2.Text)), c148, (Value.bool o8.2.Not), (Value.int .i64 o8.2.Least), (Value.int .i64 o8.2.Most)]) E ok rfl agg_96 rfl (Holds.own 2 rfl rfl), trivial⟩, ⟨_, rfl, l147, h172, r151, r152⟩, l167⟩
        obtain rfl := sj hF
        exact fin _ _ hret
      replace hF := cond_t hc168 hF
      refine c_region <| lv E ok (y_fieldAddr fo_96_3 rfl) fun a E => l_storeB E ok 2 rfl rfl rfl inf_3 rfl rfl ⟨rfl, trivial⟩ rfl rfl fun w ok => lv E ok (y_fieldAddr fo_96_4 rfl) fun a E => l_storeB E ok 2 rfl rfl rfl inf_3 rfl rfl ⟨rfl, trivial⟩ rfl rfl fun w ok => wpList_nil <| b_norm <| t_norm ?_
      refine sg <| lv E ok (y_loadAgg (cs := [(Value.string (bs o8.2.Text)), c148, (Value.bool o8.2.Not), (Value.int .i64 1), (Value.int .i64 (-1))]) agg_96 rfl rfl (Holds.own 2 rfl rfl)) fun a E => l_storeB E ok 3 rfl rfl rfl inf_96 rfl rfl ⟨rfl, (ORow.one h150), rfl, rfl, rfl, trivial⟩ rfl rfl fun w ok => wn <| wp_ret ?_
      obtain ⟨m169, hle, ok, hfz⟩ := (ok.frs 1 rfl).freeze
      have h170 := ORow.froz mRange h150 hle hfz (by decide)
      have le_m0 := le_m0.trans hle
      have hret : scan_reader_item_R u m0 S pb0 x0 ((Item.mk o8.2.Text o8.2.Ranges o8.2.Not 1 (-1)), r165.2) a w := ⟨m169, [(Value.string (bs o8.2.Text)), c148, (Value.bool o8.2.Not), (Value.int .i64 1), (Value.int .i64 (-1))], le_m0, (ok.pk 3 [0] rfl (by decide)), E.d, ⟨rv_c (cs := [(Value.string (bs o8.2.Text)), c148, (Value.bool o8.2.Not), (Value.int .i64 1), (Value.int .i64 (-1))]) E ok rfl agg_96 rfl (Holds.own 2 rfl rfl), trivial⟩, ⟨_, rfl, l147, h170, (show InR .i64 (1) by decide), (show InR .i64 (-1) by decide)⟩, l167⟩
      obtain rfl := sj hF
      exact fin _ _ hret
  replace hF := hJ
  clear hJ
  refine c_if E rfl (fun hc16 => ?_) (fun hc16 => ?_)
  rotate_left
  · as_aux_lemma =>
      replace hF := cond_f hc16 hF
      refine sg <| lv E ok (y_move rfl) fun a E => ?_
      obtain ⟨r99, e100, hF⟩ := bnd hF
      refine l_call E go_56 rfl (scan_reader_cut_w N ([34]) (show ([34] : List UInt8).length ≤ LIMS by decide) r5.2 l7 e100 hG ok) rfl rfl ?_
      rintro _ w ⟨⟨rfl, ok⟩, l101⟩
      refine ⟨_, rfl, fun a E => ?_⟩
      refine wn <| sg <| lv E ok (y_assign rfl) fun a E => wn <| wp_seq ?_
      refine wp_block ?_
      obtain ⟨M106, ok, h107⟩ := nilrow (e := 5) (k := 1) (R := (pI .u8)) ok
      obtain ⟨o108, hL, hF⟩ := bnd hF
      refine c_loop _ (fun (s : (List (Int)) × Reader) a w => ∃ c109 M110, Ok u m0 (M110 :: [(pb0, Obj.cells [(Value.string (bs s.2.s))].toArray 126 (0, 0))] :: [(b4, Obj.cells [(Value.string (bs ([]))), (Value.slice none 0 0), (Value.bool false), (Value.int .i64 1), (Value.int .i64 1)].toArray 96 (0, 0))] :: [(b3, Obj.cells [(Value.string (bs ([]))), (Value.slice none 0 0), (Value.bool false), (Value.int .i64 0), (Value.int .i64 0)].toArray 96 (0, 0))] :: S) w ∧ Env 82 a [(0, (Value.pointer (some ⟨pb0, 0, none⟩))), (2, (Value.pointer (some ⟨b3, 0, none⟩))), (3, (Value.pointer (some ⟨b4, 0, none⟩))), (6, c109)] ∧ ORow 5 1 (pI .u8) m0 c109 s.1 M110 ∧ s.2.s.length ≤ LIMS) (fun (b : (Reader × (List (Int)))) e a w => e = (.exit 2) ∧ ∃ c143 M144, Ok u m0 (M144 :: [(pb0, Obj.cells [(Value.string (bs b.1.s))].toArray 126 (0, 0))] :: [(b4, Obj.cells [(Value.string (bs ([]))), (Value.slice none 0 0), (Value.bool false), (Value.int .i64 1), (Value.int .i64 1)].toArray 96 (0, 0))] :: [(b3, Obj.cells [(Value.string (bs ([]))), (Value.slice none 0 0), (Value.bool false), (Value.int .i64 0), (Value.int .i64 0)].toArray 96 (0, 0))] :: S) w ∧ Env 82 a [(0, (Value.pointer (some ⟨pb0, 0, none⟩))), (2, (Value.pointer (some ⟨b3, 0, none⟩))), (3, (Value.pointer (some ⟨b4, 0, none⟩))), (6, c143)] ∧ b.1.s.length ≤ LIMS ∧ ORow 5 1 (pI .u8) m0 c143 b.2 M144) ?_ ?_ N _ a w hL ⟨(Value.slice none 0 0), M106, ok, E.keep [0, 2, 3, 6], h107, l101⟩
      rotate_left
      · intro e a w _ hO
        obtain ⟨rfl, c137, M138, ok, E, l136, h139⟩ := hO
        refine b_hit <| t_norm <| c_region <| lv E ok (y_move rfl) fun a E => lv E ok (y_bstr Try.underlying111 Try.underlying5 Try.underlying9 rfl (BR.ofRow h139 0 rfl)) fun a E => lv E ok (y_fieldAddr fo_96_0 rfl) fun a E => l_storeB E ok 2 rfl rfl rfl inf_9 rfl rfl ⟨rfl, trivial⟩ rfl rfl fun w ok => wpList_nil ?_
        obtain ⟨M140, ok, h141⟩ := nilrow (e := 99) (k := 2) (R := pRange) ok
        obtain rfl := sj hF
        exact ⟨rfl, ⟨(Value.slice none 0 0), M140, (ok.pk 5 [0, 2, 3, 4] rfl (by decide)), E.keep [0, 2, 3], l136, (Nat.le_trans (Nat.le_of_eq bytesOf_len) h139.form.2), h141, (show InR .i64 (1) by decide), (show InR .i64 (1) by decide)⟩⟩
      rintro ⟨b_113, x_114⟩ a w r ⟨c115, M116, ok, E, h117, l118⟩ hF
      replace hF : scan_reader_item_b2 N b_113 x_114 = some r := hF
      unfold scan_reader_item_b2 at hF
      refine wp_seq <| sg <| lv E ok (y_move rfl) fun a E => lv E ok (y_nilCheck rfl) fun a E => lv E ok (y_fieldAddr fo_126_0 rfl) fun a E => lv E ok (y_load one_9 rfl (Holds.own 1 rfl rfl)) fun a E => lv E ok (y_sneq rfl rfl) fun a E => ?_
      refine lv E ok (y_move rfl) fun a E => bsplit (x_114.s != ([])) (fun hc119 => ?_) (fun hc119 => ?_)
      rotate_left
      · replace hF := cond_f hc119 hF
        replace E := E.upd 53 hc119 rfl
        refine ls E fun a E => ls E fun a E => ls E fun a E => lv E ok (y_pickF rfl rfl) fun a E => wn <| c_if E rfl (fun h => by cases h) (fun _ => ?_)
        refine wp_exit <| t_exit ?_
        obtain rfl := sj hF
        exact step_o (by nofun) (⟨rfl, ⟨c115, M116, ok, E.keep [0, 2, 3, 6], l118, h117⟩⟩)
      replace hF := cond_t hc119 hF
      replace E := E.upd 53 hc119 rfl
      refine lv E ok (y_move rfl) fun a E => ?_
      obtain ⟨r120, e121, hF⟩ := bnd hF
      replace ok : Ok u m0 ([(pb0, Obj.cells [(Value.string (bs x_114.s))].toArray 126 (0, 0))] :: M116 :: [(b4, Obj.cells [(Value.string (bs ([]))), (Value.slice none 0 0), (Value.bool false), (Value.int .i64 1), (Value.int .i64 1)].toArray 96 (0, 0))] :: [(b3, Obj.cells [(Value.string (bs ([]))), (Value.slice none 0 0), (Value.bool false), (Value.int .i64 0), (Value.int .i64 0)].toArray 96 (0, 0))] :: S) w := (ok.pk 4 [1, 0, 2, 3] rfl (by decide))
      refine l_call E go_56 rfl (scan_reader_cut_w N ([34]) (show ([34] : List UInt8).length ≤ LIMS by decide) x_114 l118 e121 hG ok) rfl rfl ?_
      rintro _ w ⟨⟨rfl, ok⟩, l122⟩
      refine ⟨_, rfl, fun a E => ?_⟩
      refine lv E ok (y_not rfl) fun a E => lv E ok (y_pickT rfl rfl) fun a E => wn <| c_if E rfl (fun hc123 => ?_) (fun hc123 => ?_)
      rotate_left
      · replace hF := cond_f hc123 hF
        refine wp_exit <| t_exit ?_
        obtain rfl := sj hF
        exact step_o (by nofun) (⟨rfl, ⟨c115, M116, (ok.pk 4 [1, 0, 2, 3] rfl (by decide)), E.keep [0, 2, 3, 6], l122, h117⟩⟩)
      replace hF := cond_t hc123 hF
      refine wp_skip <| t_norm <| wp_block <| c_region <| lv E ok (y_move rfl) fun a E => lv E ok (y_move rfl) fun a E => ?_
      obtain ⟨r124, e125, hF⟩ := bnd hF
      refine l_call E go_72 rfl (scan_reader_one_w N r120.2 l122 e125 hG ok) rfl rfl ?_
      rintro _ w ⟨⟨rfl, ok⟩, r126, l127⟩
      refine ⟨_, rfl, fun a E => ?_⟩
      refine l_slit (R := (pI .u8)) (xo := [.tmp 60]) (xs := ([r124.1] : List (Int))) E ok sl_111 zero_5 rfl ⟨⟨_, rfl, rfl, (pI_mk r126)⟩, trivial⟩ rfl rfl rfl rfl fun c128 M129 a w E ok h130 => ?_
      obtain ⟨l131, e132, hF⟩ := bnd hF
      refine l_app (R := (pI .u8)) E ok 2 (mI .u8) sl_111 Try.underlying111 rfl h117 (SrcOK.ofRow h130 0 rfl ok) e132 ⟨_, zero_5, rfl⟩ rfl rfl rfl rfl fun c133 M134 a w E ok h135 => lv E ok (y_assign rfl) fun a E => wpList_nil <| b_norm ?_
      obtain rfl := sj hF
      exact step_n ⟨c133, M134, (ok.pk 5 [2, 1, 3, 4] rfl (by decide)), E.keep [0, 2, 3, 6], h135, l127⟩
  replace hF := cond_t hc16 hF
  refine sg <| lv E ok (y_move rfl) fun a E => ?_
  obtain ⟨r17, e18, hF⟩ := bnd hF
  refine l_call E go_56 rfl (scan_reader_cut_w N ([94]) (show ([94] : List UInt8).length ≤ LIMS by decide) r5.2 l7 e18 hG ok) rfl rfl ?_
  rintro _ w ⟨⟨rfl, ok⟩, l19⟩
  refine ⟨_, rfl, fun a E => ?_⟩
  refine lv E ok (y_fieldAddr fo_96_2 rfl) fun a E => l_storeB E ok 1 rfl rfl rfl inf_4 rfl rfl ⟨rfl, trivial⟩ rfl rfl fun w ok => wn <| wp_block ?_
  obtain ⟨M27, ok, h28⟩ := nilrow (e := 99) (k := 2) (R := pRange) ok
  obtain ⟨o29, hL, hF⟩ := bnd hF
  refine c_loop _ (fun (s : Reader × Item) a w => ∃ c32 M33, Ok u m0 (M33 :: [(pb0, Obj.cells [(Value.string (bs s.1.s))].toArray 126 (0, 0))] :: [(b4, Obj.cells [(Value.string (bs s.2.Text)), c32, (Value.bool s.2.Not), (Value.int .i64 s.2.Least), (Value.int .i64 s.2.Most)].toArray 96 (0, 0))] :: [(b3, Obj.cells [(Value.string (bs ([]))), (Value.slice none 0 0), (Value.bool false), (Value.int .i64 0), (Value.int .i64 0)].toArray 96 (0, 0))] :: S) w ∧ Env 82 a [(0, (Value.pointer (some ⟨pb0, 0, none⟩))), (2, (Value.pointer (some ⟨b3, 0, none⟩))), (3, (Value.pointer (some ⟨b4, 0, none⟩)))] ∧ s.1.s.length ≤ LIMS ∧ s.2.Text.length ≤ LIMS ∧ ORow 99 2 pRange m0 c32 s.2.Ranges M33 ∧ InR .i64 s.2.Least ∧ InR .i64 s.2.Most) (fun (b : (Item × Reader)) e a w => e = (.exit 0) ∧ ∃ c93 M94, Ok u m0 (M94 :: [(pb0, Obj.cells [(Value.string (bs b.2.s))].toArray 126 (0, 0))] :: [(b4, Obj.cells [(Value.string (bs b.1.Text)), c93, (Value.bool b.1.Not), (Value.int .i64 b.1.Least), (Value.int .i64 b.1.Most)].toArray 96 (0, 0))] :: [(b3, Obj.cells [(Value.string (bs ([]))), (Value.slice none 0 0), (Value.bool false), (Value.int .i64 0), (Value.int .i64 0)].toArray 96 (0, 0))] :: S) w ∧ Env 82 a [(0, (Value.pointer (some ⟨pb0, 0, none⟩))), (2, (Value.pointer (some ⟨b3, 0, none⟩))), (3, (Value.pointer (some ⟨b4, 0, none⟩)))] ∧ b.1.Text.length ≤ LIMS ∧ ORow 99 2 pRange m0 c93 b.1.Ranges M94 ∧ InR .i64 b.1.Least ∧ InR .i64 b.1.Most ∧ b.2.s.length ≤ LIMS) ?_ ?_ N _ a w hL ⟨(Value.slice none 0 0), M27, ok, E.keep [0, 2, 3], l19, (Nat.zero_le _), h28, (show InR .i64 (1) by decide), (show InR .i64 (1) by decide)⟩
  rotate_left
  · intro e a w _ hO
    obtain ⟨rfl, c86, M87, ok, E, l85, h88, r89, r90, l91⟩ := hO
    refine b_hit ?_
    obtain rfl := sj hF
    exact ⟨rfl, ⟨c86, M87, ok, E.keep [0, 2, 3], l91, l85, h88, r89, r90⟩⟩
  rintro ⟨x_37, x_38⟩ a w r ⟨c41, M42, ok, E, l39, l40, h43, r44, r45⟩ hF
  replace hF : scan_reader_item_b1 N x_37 x_38 = some r := hF
  unfold scan_reader_item_b1 at hF
  refine wp_seq <| sg <| lv E ok (y_move rfl) fun a E => lv E ok (y_nilCheck rfl) fun a E => lv E ok (y_fieldAddr fo_126_0 rfl) fun a E => lv E ok (y_load one_9 rfl (Holds.own 1 rfl rfl)) fun a E => lv E ok (y_sneq rfl rfl) fun a E => ?_
  refine lv E ok (y_move rfl) fun a E => bsplit (x_37.s != ([])) (fun hc46 => ?_) (fun hc46 => ?_)
  rotate_left
  · replace hF := cond_f hc46 hF
    replace E := E.upd 18 hc46 rfl
    refine ls E fun a E => ls E fun a E => ls E fun a E => lv E ok (y_pickF rfl rfl) fun a E => wn <| c_if E rfl (fun h => by cases h) (fun _ => ?_)
    refine wp_exit <| t_exit ?_
    obtain rfl := sj hF
    exact step_o (by nofun) (⟨rfl, ⟨c41, M42, ok, E.keep [0, 2, 3], l40, h43, r44, r45, l39⟩⟩)
  replace hF := cond_t hc46 hF
  replace E := E.upd 18 hc46 rfl
  refine lv E ok (y_move rfl) fun a E => ?_
  obtain ⟨r47, e48, hF⟩ := bnd hF
  replace ok : Ok u m0 ([(pb0, Obj.cells [(Value.string (bs x_37.s))].toArray 126 (0, 0))] :: M42 :: [(b4, Obj.cells [(Value.string (bs x_38.Text)), c41, (Value.bool x_38.Not), (Value.int .i64 x_38.Least), (Value.int .i64 x_38.Most)].toArray 96 (0, 0))] :: [(b3, Obj.cells [(Value.string (bs ([]))), (Value.slice none 0 0), (Value.bool false), (Value.int .i64 0), (Value.int .i64 0)].toArray 96 (0, 0))] :: S) w := (ok.pk 4 [1, 0, 2, 3] rfl (by decide))
  refine l_call E go_56 rfl (scan_reader_cut_w N ([93]) (show ([93] : List UInt8).length ≤ LIMS by decide) x_37 l39 e48 hG ok) rfl rfl ?_
  rintro _ w ⟨⟨rfl, ok⟩, l49⟩
  refine ⟨_, rfl, fun a E => ?_⟩
  refine lv E ok (y_not rfl) fun a E => lv E ok (y_pickT rfl rfl) fun a E => wn <| c_if E rfl (fun hc50 => ?_) (fun hc50 => ?_)
  rotate_left
  · replace hF := cond_f hc50 hF
    refine wp_exit <| t_exit ?_
    obtain rfl := sj hF
    exact step_o (by nofun) (⟨rfl, ⟨c41, M42, (ok.pk 4 [1, 0, 2, 3] rfl (by decide)), E.keep [0, 2, 3], l40, h43, r44, r45, l49⟩⟩)
  replace hF := cond_t hc50 hF
  refine wp_skip <| t_norm <| wp_block <| sg <| lv E ok (y_move rfl) fun a E => ?_
  obtain ⟨r51, e52, hF⟩ := bnd hF
  refine l_call E go_72 rfl (scan_reader_one_w N r47.2 l49 e52 hG ok) rfl rfl ?_
  rintro _ w ⟨⟨rfl, ok⟩, r53, l54⟩
  refine ⟨_, rfl, fun a E => ?_⟩
  refine lv E ok (y_assign rfl) fun a E => wn <| sg <| lv E ok (y_move rfl) fun a E => lv E ok (y_assign rfl) fun a E => wpList_nil ?_
  refine t_norm <| wp_seq <| sg <| lv E ok (y_move rfl) fun a E => lv E ok (y_nilCheck rfl) fun a E => lv E ok (y_fieldAddr fo_126_0 rfl) fun a E => lv E ok (y_load one_9 rfl (Holds.own 0 rfl rfl)) fun a E => ?_
  refine lv E ok (y_slen Try.underlying9 rfl) fun a E => lv E ok (y_gtr rfl rfl) fun a E => lv E ok (y_move rfl) fun a E => bsplit (decide ((r51.2.s.length : Int) > 1)) (fun hc55 => ?_) (fun hc55 => ?_)
  rotate_left
  · replace hF := cond_f hc55 hF
    replace E := E.upd 32 hc55 rfl
    refine ls E fun a E => ls E fun a E => lv E ok (y_pickF rfl rfl) fun a E => wn <| c_if E rfl (fun h => by cases h) (fun _ => ?_)
    refine wp_skip <| t_norm <| c_region <| lv E ok (y_fieldAddr fo_96_1 rfl) fun a E => lv E ok (y_load one_94 rfl (Holds.own 2 rfl rfl)) fun a E => lv E ok (y_move rfl) fun a E => lv E ok (y_move rfl) fun a E => lv E ok (y_build (ps := [(0, .tmp 40), (1, .tmp 41)]) (qs := [(0, [(Value.int .u8 r51.1)]), (1, [(Value.int .u8 r51.1)])]) (cs := [(Value.int .u8 r51.1), (Value.int .u8 r51.1)]) zero_99 places_99 rfl ⟨rfl, rfl, rfl, ⟨rfl, rfl, rfl, trivial⟩⟩ rfl) fun a E => ?_
    refine l_slit (R := pRange) (xo := [.tmp 42]) (xs := ([(Range.mk r51.1 r51.1)] : List (Range))) E ok sl_94 zero_99 rfl ⟨⟨_, rfl, rfl, ⟨rfl, r53, r53⟩⟩, trivial⟩ rfl rfl rfl rfl fun c77 M78 a w E ok h79 => ?_
    obtain ⟨l80, e81, hF⟩ := bnd hF
    refine l_app (R := pRange) E ok 2 mRange sl_94 Try.underlying94 rfl h43 (SrcOK.ofRow h79 0 rfl ok) e81 ⟨_, zero_99, rfl⟩ rfl rfl rfl rfl fun c82 M83 a w E ok h84 => lv E ok (y_fieldAddr fo_96_1 rfl) fun a E => l_storeB E ok 3 rfl rfl rfl inf_94 (ORow.cells h84) rfl ⟨(ORow.one h84), trivial⟩ rfl rfl fun w ok => wpList_nil <| b_norm ?_
    obtain rfl := sj hF
    exact step_n ⟨c82, M83, (ok.pk 5 [2, 1, 3, 4] rfl (by decide)), E.keep [0, 2, 3], l54, l40, h84, r44, r45⟩
  replace hF := cond_t hc55 hF
  replace E := E.upd 32 hc55 rfl
  refine lv E ok (y_move rfl) fun a E => ?_
  obtain ⟨r56, e57, hF⟩ := bnd hF
  refine l_call E go_56 rfl (scan_reader_cut_w N ([45]) (show ([45] : List UInt8).length ≤ LIMS by decide) r51.2 l54 e57 hG ok) rfl rfl ?_
  rintro _ w ⟨⟨rfl, ok⟩, l58⟩
  refine ⟨_, rfl, fun a E => ?_⟩
  refine lv E ok (y_pickT rfl rfl) fun a E => wn ?_
  obtain ⟨o59, hJ, hF⟩ := bnd hF
  refine c_mono (Q' := fun e a w => e = .normal ∧ Ok u m0 ([(pb0, Obj.cells [(Value.string (bs o59.2.s))].toArray 126 (0, 0))] :: M42 :: [(b4, Obj.cells [(Value.string (bs x_38.Text)), c41, (Value.bool x_38.Not), (Value.int .i64 x_38.Least), (Value.int .i64 x_38.Most)].toArray 96 (0, 0))] :: [(b3, Obj.cells [(Value.string (bs ([]))), (Value.slice none 0 0), (Value.bool false), (Value.int .i64 0), (Value.int .i64 0)].toArray 96 (0, 0))] :: S) w ∧ Env 82 a [(0, (Value.pointer (some ⟨pb0, 0, none⟩))), (2, (Value.pointer (some ⟨b3, 0, none⟩))), (3, (Value.pointer (some ⟨b4, 0, none⟩))), (4, (Value.int .u8 r51.1)), (5, (Value.int .u8 o59.1))] ∧ InR .u8 o59.1 ∧ o59.2.s.length ≤ LIMS) ?_ ?_
  · replace hF := hJ
    clear hJ
    refine c_if E rfl (fun hc62 => ?_) (fun hc62 => ?_)
    rotate_left
    · replace hF := cond_f hc62 hF
      refine wp_skip ?_
      obtain rfl := sj hF
      exact ⟨rfl, ⟨ok, E.keep [0, 2, 3, 4, 5], r53, l58⟩⟩
    replace hF := cond_t hc62 hF
    refine c_region <| lv E ok (y_move rfl) fun a E => ?_
    obtain ⟨r63, e64, hF⟩ := bnd hF
    refine l_call E go_72 rfl (scan_reader_one_w N r56.2 l58 e64 hG ok) rfl rfl ?_
    rintro _ w ⟨⟨rfl, ok⟩, r65, l66⟩
    refine ⟨_, rfl, fun a E => ?_⟩
    refine lv E ok (y_assign rfl) fun a E => wpList_nil ?_
    obtain rfl := sj hF
    exact ⟨rfl, ⟨ok, E.keep [0, 2, 3, 4, 5], r65, l66⟩⟩
  clear hJ
  intro e a w hO
  obtain ⟨rfl, ok, E, r67, l68⟩ := hO
  refine t_norm <| c_region <| lv E ok (y_fieldAddr fo_96_1 rfl) fun a E => lv E ok (y_load one_94 rfl (Holds.own 2 rfl rfl)) fun a E => lv E ok (y_move rfl) fun a E => lv E ok (y_move rfl) fun a E => lv E ok (y_build (ps := [(0, .tmp 40), (1, .tmp 41)]) (qs := [(0, [(Value.int .u8 r51.1)]), (1, [(Value.int .u8 o59.1)])]) (cs := [(Value.int .u8 r51.1), (Value.int .u8 o59.1)]) zero_99 places_99 rfl ⟨rfl, rfl, rfl, ⟨rfl, rfl, rfl, trivial⟩⟩ rfl) fun a E => l_slit (R := pRange) (xo := [.tmp 42]) (xs := ([(Range.mk r51.1 o59.1)] : List (Range))) E ok sl_94 zero_99 rfl ⟨⟨_, rfl, rfl, ⟨rfl, r53, r67⟩⟩, trivial⟩ rfl rfl rfl rfl fun c69 M70 a w E ok h71 => ?_
  obtain ⟨l72, e73, hF⟩ := bnd hF
  refine l_app (R := pRange) E ok 2 mRange sl_94 Try.underlying94 rfl h43 (SrcOK.ofRow h71 0 rfl ok) e73 ⟨_, zero_99, rfl⟩ rfl rfl rfl rfl fun c74 M75 a w E ok h76 => lv E ok (y_fieldAddr fo_96_1 rfl) fun a E => l_storeB E ok 3 rfl rfl rfl inf_94 (ORow.cells h76) rfl ⟨(ORow.one h76), trivial⟩ rfl rfl fun w ok => wpList_nil <| b_norm ?_
  obtain rfl := sj hF
  exact step_n ⟨c74, M75, (ok.pk 5 [2, 1, 3, 4] rfl (by decide)), E.keep [0, 2, 3], l68, l40, h76, r44, r45⟩
def scan_rule_R (u : World) (m0 : Mem) (S : Segs) (r : Rule × Bool) (a : Act) (w : World) : Prop :=
  ∃ m1 v0, m0.le m1 ∧ Ok u m1 S w ∧ a.defers = [] ∧ RVs Try.prog a w [.c 2 80 (.agg v0.toArray), .t 3 (.bool r.2)] ∧ pRule m1 v0 r.1
set_option maxHeartbeats 4000000 in
set_option maxRecDepth 100000 in
theorem scan_rule_w {u : World} {m0 : Mem} {S : Segs} {w : World} (N : Nat) (s_0 : List UInt8) (ls_0 : s_0.length ≤ LIMS) {r : Rule × Bool} (hF : scan_rule N s_0 = some r) (hG : Glob u) (ok : Ok u m0 S w) :
    Calls Try.prog 38 [Value.string (bs s_0)].toArray w fun e w' => ∃ m1 v0, e = .returned (.tuple [(.agg v0.toArray), (.bool r.2)].toArray) ∧ m0.le m1 ∧ Ok u m1 S w' ∧ pRule m1 v0 r.1 := by
  have le_m0 := Mem.le.refl m0
  unfold scan_rule at hF
  have fin : ∀ a w, scan_rule_R u m0 S r a w → bodyPost Try.prog Try.f38 (fun e w' => ∃ m1 v0, e = .returned (.tuple [(.agg v0.toArray), (.bool r.2)].toArray) ∧ m0.le m1 ∧ Ok u m1 S w' ∧ pRule m1 v0 r.1) .ret a w := by
    intro a w h
    obtain ⟨m1, v0, hle, ok, hd, hrv, h0⟩ := h
    exact c_ret2 [.c 2 80 (.agg v0.toArray), .t 3 (.bool r.2)] hd rfl hrv ⟨m1, v0, rfl, hle, ok, h0⟩
  refine enter Try.func38 rfl rfl rfl fun a E => sg <| l_alloc E ok zero_80 rfl rfl fun b1 a w E ok => lv E ok (y_assign rfl) fun a E => wn <| wp_seq ?_
  refine c_region <| lv E ok (y_move rfl) fun a E => ?_
  obtain ⟨r2, e3, hF⟩ := bnd hF
  refine l_call E go_36 rfl (strings_Cut_w N s_0 ls_0 ([32]) (show ([32] : List UInt8).length ≤ LIMS by decide) e3 hG ok) rfl rfl ?_
  rintro _ w ⟨⟨rfl, ok⟩, l4, l5⟩
  refine ⟨_, rfl, fun a E => ?_⟩
  refine lv E ok (y_move rfl) fun a E => lv E ok (y_extract rfl rfl) fun a E => lv E ok (y_extract rfl rfl) fun a E => lv E ok (y_extract rfl rfl) fun a E => lv E ok (y_assign rfl) fun a E => lv E ok (y_assign rfl) fun a E => lv E ok (y_assign rfl) fun a E => wpList_nil ?_
  refine t_norm <| sg <| lv E ok (y_move rfl) fun a E => lv E ok (y_build (ps := [(0, .tmp 15)]) (qs := [(0, [(Value.string (bs r2.1))])]) (cs := [(Value.string (bs r2.1)), (Value.slice none 0 0), (Value.string (bs ([])))]) zero_80 places_80 rfl ⟨rfl, rfl, rfl, trivial⟩ rfl) fun a E => l_alloc E ok zero_80 rfl rfl fun b6 a w E ok => l_storeB E ok 0 rfl rfl rfl inf_80 rfl rfl ⟨rfl, rfl, rfl, trivial⟩ rfl rfl fun w ok => wpList_nil ?_
  refine t_norm <| sg <| lv E ok (y_move rfl) fun a E => lv E ok (y_build (ps := [(0, .tmp 17)]) (qs := [(0, [(Value.string (bs r2.2.1))])]) (cs := [(Value.string (bs r2.2.1))]) zero_126 places_126 rfl ⟨rfl, rfl, rfl, trivial⟩ rfl) fun a E => l_box E ok rfl rfl rfl fun b7 a w E ok => lv E ok (y_assign rfl) fun a E => wpList_nil ?_
  refine t_norm <| wp_seq <| wp_block ?_
  obtain ⟨M17, ok, h18⟩ := nilrow (e := 96) (k := 5) (R := pItem) ok
  obtain ⟨o19, hL, hF⟩ := bnd hF
  refine c_loop _ (fun (s : Reader × Rule) a w => ∃ m20 c23 M24, m0.le m20 ∧ Ok u m20 (M24 :: [(b7, Obj.cells [(Value.string (bs s.1.s))].toArray 126 (0, 0))] :: [(b6, Obj.cells [(Value.string (bs s.2.Kind)), c23, (Value.string (bs s.2.Next))].toArray 80 (0, 0))] :: [(b1, Obj.cells [(Value.string (bs ([]))), (Value.slice none 0 0), (Value.string (bs ([])))].toArray 80 (0, 0))] :: S) w ∧ Env 56 a [(0, (Value.string (bs s_0))), (2, (Value.pointer (some ⟨b1, 0, none⟩))), (7, (Value.pointer (some ⟨b6, 0, none⟩))), (8, (Value.pointer (some ⟨b7, 0, none⟩)))] ∧ s.1.s.length ≤ LIMS ∧ s.2.Kind.length ≤ LIMS ∧ ORow 96 5 pItem m20 c23 s.2.Items M24 ∧ s.2.Next.length ≤ LIMS) (fun (b : (Rule × Reader)) e a w => e = (.exit 0) ∧ ∃ m119 c121 M122, m0.le m119 ∧ Ok u m119 (M122 :: [(b7, Obj.cells [(Value.string (bs b.2.s))].toArray 126 (0, 0))] :: [(b6, Obj.cells [(Value.string (bs b.1.Kind)), c121, (Value.string (bs b.1.Next))].toArray 80 (0, 0))] :: [(b1, Obj.cells [(Value.string (bs ([]))), (Value.slice none 0 0), (Value.string (bs ([])))].toArray 80 (0, 0))] :: S) w ∧ Env 56 a [(0, (Value.string (bs s_0))), (2, (Value.pointer (some ⟨b1, 0, none⟩))), (7, (Value.pointer (some ⟨b6, 0, none⟩)))] ∧ b.1.Kind.length ≤ LIMS ∧ ORow 96 5 pItem m119 c121 b.1.Items M122 ∧ b.1.Next.length ≤ LIMS ∧ b.2.s.length ≤ LIMS) ?_ ?_ N _ a w hL ⟨m0, (Value.slice none 0 0), M17, Mem.le.refl _, ok, E.keep [0, 2, 7, 8], l5, l4, h18, (Nat.zero_le _)⟩
  rotate_left
  · as_aux_lemma =>
      intro e a w _ hO
      obtain ⟨rfl, m94, c96, M97, hle, ok, E, l95, h98, l99, l100⟩ := hO
      have le_m0 := le_m0.trans hle
      refine b_hit <| t_norm <| wp_seq ?_
      obtain ⟨m101, hle, ok, hfz⟩ := (ok.frs 0 rfl).freeze
      have h102 := ORow.froz mItem h98 hle hfz (by decide)
      have le_m0 := le_m0.trans hle
      obtain ⟨o103, hJ, hF⟩ := bnd hF
      refine c_mono (Q' := fun e a w => e = .normal ∧ ∃ c105, Ok u m101 ([(b7, Obj.cells [(Value.string (bs o19.2.s))].toArray 126 (0, 0))] :: [(b6, Obj.cells [(Value.string (bs o19.1.Kind)), c96, (Value.string (bs o19.1.Next))].toArray 80 (0, 0))] :: [(b1, Obj.cells [(Value.string (bs o103.2.Kind)), c105, (Value.string (bs o103.2.Next))].toArray 80 (0, 0))] :: S) w ∧ Env 56 a [(2, (Value.pointer (some ⟨b1, 0, none⟩))), (3, (Value.bool o103.1))] ∧ o103.2.Kind.length ≤ LIMS ∧ (pL 5 pItem) m101 [c105] o103.2.Items ∧ o103.2.Next.length ≤ LIMS) ?_ ?_
      rotate_left
      · clear hJ
        intro e a w hO
        obtain ⟨rfl, c116, ok, E, l115, h117, l118⟩ := hO
        refine t_norm <| wp_ret ?_
        have hret : scan_rule_R u m0 S (o103.2, o103.1) a w := ⟨m101, [(Value.string (bs o103.2.Kind)), c116, (Value.string (bs o103.2.Next))], le_m0, ok.drop.drop.drop, E.d, ⟨rv_c (cs := [(Value.string (bs o103.2.Kind)), c116, (Value.string (bs o103.2.Next))]) E ok rfl agg_80 rfl (Holds.own 2 rfl rfl), rv_t E rfl, trivial⟩, ⟨_, rfl, l115, h117, l118⟩⟩
        obtain rfl := sj hF
        exact fin _ _ hret
      replace hF := hJ
      clear hJ
      obtain ⟨r108, e109, hF⟩ := bnd hF
      refine bsplit r108 (fun hc110 => ?_) (fun hc110 => ?_)
      rotate_left
      · replace hF := cond_f hc110 hF
        obtain rfl := sj hF
        refine k_begin [0] (Cls u m101 ([(b7, Obj.cells [(Value.string (bs o19.2.s))].toArray 126 (0, 0))] :: [(b6, Obj.cells [(Value.string (bs o19.1.Kind)), c96, (Value.string (bs o19.1.Next))].toArray 80 (0, 0))] :: [(b1, Obj.cells [(Value.string (bs ([]))), (Value.slice none 0 0), (Value.string (bs ([])))].toArray 80 (0, 0))] :: [])) (Cls u m101 ([(b7, Obj.cells [(Value.string (bs o19.2.s))].toArray 126 (0, 0))] :: [(b6, Obj.cells [(Value.string (bs o19.1.Kind)), c96, (Value.string (bs o19.1.Next))].toArray 80 (0, 0))] :: [])) (by kernel_rfl) ?_
        intro w hw
        replace ok := okdrew ok hw
        clear hw
        have le_m101 := Mem.le.refl m101
        refine k_next (cl1 ⟨m101, _, le_m101, ok, ⟨memAt 0 rfl, memAt 1 rfl, memAt 2 rfl, trivial⟩⟩ ⟨m101, _, le_m101, ok, ⟨memAt 0 rfl, memAt 1 rfl, trivial⟩⟩) fun hT => k_takeN 0 E rfl (by kernel_rfl) nP hT (y_loadAgg (cs := [(Value.string (bs o19.1.Kind)), c96, (Value.string (bs o19.1.Next))]) agg_80 rfl rfl (Holds.cown 1 rfl rfl)) rfl rfl fun a E => kt 1 E rfl hT (y_loadAgg (cs := [(Value.string (bs o19.1.Kind)), c96, (Value.string (bs o19.1.Next))]) agg_80 rfl rfl (Holds.cown 1 rfl rfl)) fun a E => k_all [2] (by kernel_rfl) rfl (one_c ?_)
        · refine wpOp_of_list (o := _) rfl <| l_call E go_32 rfl (scan_sound_w N _ o19.1 ⟨_, rfl, l95, h102, l99⟩ e109 hG ok) rfl rfl ?_
          rintro _ w ⟨rfl, ok⟩
          refine ⟨_, rfl, fun a E => ?_⟩
          refine wn <| k_next (cl1 ⟨m101, _, le_m101, ok, ⟨memAt 0 rfl, memAt 1 rfl, memAt 2 rfl, trivial⟩⟩ ⟨m101, _, le_m101, ok, ⟨memAt 0 rfl, memAt 1 rfl, trivial⟩⟩) fun hT => kt 3 E rfl hT (y_move rfl) fun a E => ?_
          replace E := E.upd 50 hc110 rfl
          refine k_skip 4 false E rfl (by kernel_rfl) nP hT rfl rfl fun a E => k_skip 5 false E rfl (by kernel_rfl) nP hT rfl rfl fun a E => k_skip 6 false E rfl (by kernel_rfl) nP hT rfl rfl fun a E => k_skip 7 false E rfl (by kernel_rfl) nP hT rfl rfl fun a E => kt 8 E rfl hT (y_pickF rfl rfl) fun a E => k_all [9] (by kernel_rfl) rfl (one_c ?_)
          · refine wpOp_of_list (o := _) rfl <| l_storeB E ok 2 rfl rfl rfl inf_80 rfl rfl ⟨rfl, (pL_one h102), rfl, trivial⟩ rfl rfl fun w ok => wn <| k_next (cl2 (by kernel_rfl) ⟨m101, _, le_m101, ok, ⟨memAt 0 rfl, memAt 1 rfl, trivial⟩⟩) fun hT => kt 10 E rfl hT (y_assign rfl) fun a E => k_done (by kernel_rfl) ?_
            exact ⟨rfl, ⟨c96, ok, E.keep [2, 3], l95, h102, l99⟩⟩
      replace hF := cond_t hc110 hF
      obtain ⟨r111, e112, hF⟩ := bnd hF
      obtain rfl := sj hF
      refine k_begin [0] (Cls u m101 ([(b7, Obj.cells [(Value.string (bs o19.2.s))].toArray 126 (0, 0))] :: [(b6, Obj.cells [(Value.string (bs o19.1.Kind)), c96, (Value.string (bs o19.1.Next))].toArray 80 (0, 0))] :: [(b1, Obj.cells [(Value.string (bs ([]))), (Value.slice none 0 0), (Value.string (bs ([])))].toArray 80 (0, 0))] :: [])) (Cls u m101 ([(b7, Obj.cells [(Value.string (bs o19.2.s))].toArray 126 (0, 0))] :: [(b6, Obj.cells [(Value.string (bs o19.1.Kind)), c96, (Value.string (bs o19.1.Next))].toArray 80 (0, 0))] :: [])) (by kernel_rfl) ?_
      intro w hw
      replace ok := okdrew ok hw
      clear hw
      have le_m101 := Mem.le.refl m101
      refine k_next (cl1 ⟨m101, _, le_m101, ok, ⟨memAt 0 rfl, memAt 1 rfl, memAt 2 rfl, trivial⟩⟩ ⟨m101, _, le_m101, ok, ⟨memAt 0 rfl, memAt 1 rfl, trivial⟩⟩) fun hT => k_takeN 0 E rfl (by kernel_rfl) nP hT (y_loadAgg (cs := [(Value.string (bs o19.1.Kind)), c96, (Value.string (bs o19.1.Next))]) agg_80 rfl rfl (Holds.cown 1 rfl rfl)) rfl rfl fun a E => kt 1 E rfl hT (y_loadAgg (cs := [(Value.string (bs o19.1.Kind)), c96, (Value.string (bs o19.1.Next))]) agg_80 rfl rfl (Holds.cown 1 rfl rfl)) fun a E => k_all [2] (by kernel_rfl) rfl (one_c ?_)
      · refine wpOp_of_list (o := _) rfl <| l_call E go_32 rfl (scan_sound_w N _ o19.1 ⟨_, rfl, l95, h102, l99⟩ e109 hG ok) rfl rfl ?_
        rintro _ w ⟨rfl, ok⟩
        refine ⟨_, rfl, fun a E => ?_⟩
        refine wn <| k_next (cl1 ⟨m101, _, le_m101, ok, ⟨memAt 0 rfl, memAt 1 rfl, memAt 2 rfl, trivial⟩⟩ ⟨m101, _, le_m101, ok, ⟨memAt 0 rfl, memAt 1 rfl, trivial⟩⟩) fun hT => kt 3 E rfl hT (y_move rfl) fun a E => ?_
        replace E := E.upd 50 hc110 rfl
        refine kt 4 E rfl hT (y_loadAgg (cs := [(Value.string (bs o19.1.Kind)), c96, (Value.string (bs o19.1.Next))]) agg_80 rfl rfl (Holds.cown 1 rfl rfl)) fun a E => kt 6 E rfl hT (y_move rfl) fun a E => k_all [5] (by kernel_rfl) rfl (one_c ?_)
        · refine wpOp_of_list (o := _) rfl <| l_call E go_47 rfl (scan_line_w N _ o19.1 ⟨_, rfl, l95, h102, l99⟩ e112 hG ok) rfl rfl ?_
          rintro _ w ⟨⟨rfl, ok⟩, l114⟩
          refine ⟨_, rfl, fun a E => ?_⟩
          refine wn <| k_next (cl1 ⟨m101, _, le_m101, ok, ⟨memAt 0 rfl, memAt 1 rfl, memAt 2 rfl, trivial⟩⟩ ⟨m101, _, le_m101, ok, ⟨memAt 0 rfl, memAt 1 rfl, trivial⟩⟩) fun hT => kt 7 E rfl hT (y_seql rfl rfl) fun a E => kt 8 E rfl hT (y_pickT rfl rfl) fun a E => k_all [9] (by kernel_rfl) rfl (one_c ?_)
          · refine wpOp_of_list (o := _) rfl <| l_storeB E ok 2 rfl rfl rfl inf_80 rfl rfl ⟨rfl, (pL_one h102), rfl, trivial⟩ rfl rfl fun w ok => wn <| k_next (cl2 (by kernel_rfl) ⟨m101, _, le_m101, ok, ⟨memAt 0 rfl, memAt 1 rfl, trivial⟩⟩) fun hT => kt 10 E rfl hT (y_assign rfl) fun a E => k_done (by kernel_rfl) ?_
            exact ⟨rfl, ⟨c96, ok, E.keep [2, 3], l95, h102, l99⟩⟩
  rintro ⟨x_27, x_28⟩ a w r ⟨m29, c32, M33, hle, ok, E, l30, l31, h34, l35⟩ hF
  replace hF : scan_rule_b1 N x_27 x_28 = some r := hF
  unfold scan_rule_b1 at hF
  have le_m0 := le_m0.trans hle
  refine wp_seq <| sg <| lv E ok (y_move rfl) fun a E => lv E ok (y_nilCheck rfl) fun a E => lv E ok (y_fieldAddr fo_126_0 rfl) fun a E => lv E ok (y_load one_9 rfl (Holds.own 1 rfl rfl)) fun a E => lv E ok (y_sneq rfl rfl) fun a E => ?_
  refine lv E ok (y_move rfl) fun a E => bsplit (x_27.s != ([])) (fun hc36 => ?_) (fun hc36 => ?_)
  rotate_left
  · replace hF := cond_f hc36 hF
    replace E := E.upd 25 hc36 rfl
    refine ls E fun a E => ls E fun a E => ls E fun a E => ls E fun a E => lv E ok (y_pickF rfl rfl) fun a E => wn <| c_if E rfl (fun h => by cases h) (fun _ => ?_)
    refine wp_exit <| t_exit ?_
    obtain rfl := sj hF
    exact step_o (by nofun) (⟨rfl, ⟨m29, c32, M33, le_m0, ok, E.keep [0, 2, 7], l31, h34, l35, l30⟩⟩)
  replace hF := cond_t hc36 hF
  replace E := E.upd 25 hc36 rfl
  refine lv E ok (y_fieldAddr fo_80_1 rfl) fun a E => lv E ok (y_load one_60 rfl (Holds.own 2 rfl rfl)) fun a E => lv E ok (y_lenR sl_60 h34 rfl) fun a E => lv E ok (y_leq rfl rfl) fun a E => lv E ok (y_pickT rfl rfl) fun a E => wn <| c_if E rfl (fun hc37 => ?_) (fun hc37 => ?_)
  rotate_left
  · replace hF := cond_f hc37 hF
    refine wp_exit <| t_exit ?_
    obtain rfl := sj hF
    exact step_o (by nofun) (⟨rfl, ⟨m29, c32, M33, le_m0, ok, E.keep [0, 2, 7], l31, h34, l35, l30⟩⟩)
  replace hF := cond_t hc37 hF
  refine wp_skip <| t_norm <| wp_block <| wp_seq <| sg <| lv E ok (y_move rfl) fun a E => ?_
  obtain ⟨r38, e39, hF⟩ := bnd hF
  replace ok : Ok u m29 ([(b7, Obj.cells [(Value.string (bs x_27.s))].toArray 126 (0, 0))] :: M33 :: [(b6, Obj.cells [(Value.string (bs x_28.Kind)), c32, (Value.string (bs x_28.Next))].toArray 80 (0, 0))] :: [(b1, Obj.cells [(Value.string (bs ([]))), (Value.slice none 0 0), (Value.string (bs ([])))].toArray 80 (0, 0))] :: S) w := (ok.pk 4 [1, 0, 2, 3] rfl (by decide))
  refine l_call E go_56 rfl (scan_reader_cut_w N ([45, 62, 32]) (show ([45, 62, 32] : List UInt8).length ≤ LIMS by decide) x_27 l30 e39 hG ok) rfl rfl ?_
  rintro _ w ⟨⟨rfl, ok⟩, l40⟩
  refine ⟨_, rfl, fun a E => ?_⟩
  refine wn <| c_if E rfl (fun hc41 => ?_) (fun hc41 => ?_)
  · replace hF := cond_t hc41 hF
    refine sg <| lv E ok (y_move rfl) fun a E => lv E ok (y_nilCheck rfl) fun a E => lv E ok (y_fieldAddr fo_126_0 rfl) fun a E => lv E ok (y_load one_9 rfl (Holds.own 0 rfl rfl)) fun a E => lv E ok (y_fieldAddr fo_80_2 rfl) fun a E => l_storeB E ok 2 rfl rfl rfl inf_9 rfl rfl ⟨rfl, trivial⟩ rfl rfl fun w ok => ?_
    refine wn <| wp_exit <| t_exit <| b_miss rfl ?_
    obtain rfl := sj hF
    exact step_o (by nofun) (⟨rfl, ⟨m29, c32, M33, le_m0, (ok.pk 4 [1, 0, 2, 3] rfl (by decide)), E.keep [0, 2, 7], l31, h34, l40, l40⟩⟩)
  replace hF := cond_f hc41 hF
  refine wp_skip <| t_norm <| wp_seq ?_
  obtain ⟨o42, hJ, hF⟩ := bnd hF
  refine c_mono (Q' := fun e a w => e = .normal ∧ ∃ m43 c46 M47, m29.le m43 ∧ Ok u m43 ([(b7, Obj.cells [(Value.string (bs o42.1.s))].toArray 126 (0, 0))] :: M47 :: [(b6, Obj.cells [(Value.string (bs o42.2.Kind)), c46, (Value.string (bs o42.2.Next))].toArray 80 (0, 0))] :: [(b1, Obj.cells [(Value.string (bs ([]))), (Value.slice none 0 0), (Value.string (bs ([])))].toArray 80 (0, 0))] :: S) w ∧ Env 56 a [(0, (Value.string (bs s_0))), (2, (Value.pointer (some ⟨b1, 0, none⟩))), (7, (Value.pointer (some ⟨b6, 0, none⟩))), (8, (Value.pointer (some ⟨b7, 0, none⟩)))] ∧ o42.1.s.length ≤ LIMS ∧ o42.2.Kind.length ≤ LIMS ∧ ORow 96 5 pItem m43 c46 o42.2.Items M47 ∧ o42.2.Next.length ≤ LIMS) ?_ ?_
  rotate_left
  · clear hJ
    intro e a w hO
    obtain ⟨rfl, m84, c87, M88, hle, ok, E, l85, l86, h89, l90⟩ := hO
    have le_m0 := le_m0.trans hle
    refine t_norm <| c_region <| lv E ok (y_move rfl) fun a E => ?_
    obtain ⟨r91, e92, hF⟩ := bnd hF
    refine l_call E go_56 rfl (scan_reader_cut_w N ([32]) (show ([32] : List UInt8).length ≤ LIMS by decide) o42.1 l85 e92 hG ok) rfl rfl ?_
    rintro _ w ⟨⟨rfl, ok⟩, l93⟩
    refine ⟨_, rfl, fun a E => ?_⟩
    refine wpList_nil <| b_norm ?_
    obtain rfl := sj hF
    exact step_n ⟨m84, c87, M88, le_m0, (ok.pk 4 [1, 0, 2, 3] rfl (by decide)), E.keep [0, 2, 7, 8], l93, l86, h89, l90⟩
  replace hF := hJ
  clear hJ
  have le_m29 := Mem.le.refl m29
  obtain ⟨r50, e51, hF⟩ := bnd hF
  obtain ⟨l64, e65, hF⟩ := bnd hF
  obtain rfl := sj hF
  refine k_begin [1] (Cls u m29 ([(b6, Obj.cells [(Value.string (bs x_28.Kind)), c32, (Value.string (bs x_28.Next))].toArray 80 (0, 0))] :: [(b1, Obj.cells [(Value.string (bs ([]))), (Value.slice none 0 0), (Value.string (bs ([])))].toArray 80 (0, 0))] :: [])) (Cls u m29 ([(b1, Obj.cells [(Value.string (bs ([]))), (Value.slice none 0 0), (Value.string (bs ([])))].toArray 80 (0, 0))] :: [])) (by kernel_rfl) ?_
  intro w hw
  replace ok := okdrew ok hw
  clear hw
  refine k_next (cl1 ⟨m29, _, le_m29, ok, ⟨memAt 2 rfl, memAt 3 rfl, trivial⟩⟩ ⟨m29, _, le_m29, ok, ⟨memAt 3 rfl, trivial⟩⟩) fun hT => kt 0 E rfl hT (y_fieldAddr fo_80_1 rfl) fun a E => k_takeN 1 E rfl (by kernel_rfl) nP hT (y_load one_60 rfl (Holds.cown 0 rfl rfl)) rfl rfl fun a E => kt 2 E rfl hT (y_move rfl) fun a E => k_all [3] (by kernel_rfl) rfl (one_c ?_)
  · refine wpOp_of_list (o := _) rfl <| l_call E go_57 rfl (scan_reader_item_w N r38.2 l40 e51 hG ok) rfl rfl ?_
    rintro _ w ⟨m69, vs70, rfl, hle, ok, h71, l72⟩
    have le_m0 := le_m0.trans hle
    have le_m29 := le_m29.trans hle
    have h34 := ORow.up mItem hle h34
    obtain ⟨c74, rfl, l73, h75, r76, r77⟩ := h71
    refine ⟨_, rfl, fun a E => ?_⟩
    refine wn <| k_next (cl1 ⟨m69, _, le_m29, ok, ⟨memAt 2 rfl, memAt 3 rfl, trivial⟩⟩ ⟨m69, _, le_m29, ok, ⟨memAt 3 rfl, trivial⟩⟩) fun hT => k_all [4] (by kernel_rfl) rfl (one_c ?_)
    · refine wpOp_of_list (o := _) rfl <| l_slit (R := pItem) (xo := [.tmp 41]) (xs := ([r50.1] : List (Item))) E ok sl_60 zero_96 rfl ⟨⟨_, rfl, rfl, ⟨_, rfl, l73, h75, r76, r77⟩⟩, trivial⟩ rfl rfl rfl rfl fun c78 M79 a w E ok h80 => wn <| k_next (cl1 ⟨m69, _, le_m29, ok, ⟨memAt 3 rfl, memAt 4 rfl, trivial⟩⟩ ⟨m69, _, le_m29, ok, ⟨memAt 4 rfl, trivial⟩⟩) fun hT => k_all [5] (by kernel_rfl) rfl (one_c ?_)
      · refine wpOp_of_list (o := _) rfl <| l_app (R := pItem) E ok 2 mItem sl_60 Try.underlying60 rfl h34 (SrcOK.ofRow h80 0 rfl ok) e65 ⟨_, zero_96, rfl⟩ rfl rfl rfl rfl fun c81 M82 a w E ok h83 => wn <| k_next (cl1 ⟨m69, _, le_m29, ok, ⟨memAt 3 rfl, memAt 4 rfl, trivial⟩⟩ ⟨m69, _, le_m29, ok, ⟨memAt 4 rfl, trivial⟩⟩) fun hT => kt 6 E rfl hT (y_fieldAddr fo_80_1 rfl) fun a E => k_all [7] (by kernel_rfl) rfl (one_c ?_)
        · refine wpOp_of_list (o := _) rfl <| l_storeB E ok 3 rfl rfl rfl inf_60 (ORow.cells h83) rfl ⟨(ORow.one h83), trivial⟩ rfl rfl fun w ok => wn <| k_next (cl2 (by kernel_rfl) ⟨m69, _, le_m29, ok, ⟨memAt 4 rfl, trivial⟩⟩) fun hT => k_done (by kernel_rfl) ?_
          exact ⟨rfl, ⟨m69, c81, M82, le_m29, (ok.pk 5 [1, 2, 3, 4] rfl (by decide)), E.keep [0, 2, 7, 8], l72, l31, h83, l35⟩⟩
end Go.Proofs.Ytmmioinglmeoiaa
namespace Go.Proofs.Ytmmioinglmeoiaa
open Go.X
def scan_Parse_b1 (N : Nat) (s_17 : List UInt8) (script_18 : List (State)) (at_19 : Int) : Option (((List UInt8) × (List (State)) × Int) ⊕ ((((List (State))) ⊕ ((List (State)) × Int × Int)))) :=
  bif (s_17 != ([])) then
    (strings_Cut N s_17 ([10])).bind fun r27 =>
    (strings_CutPrefix N r27.1 ([115, 116, 97, 116, 101, 32])).bind fun r31 =>
    (scan_rule N r27.1).bind fun r34 =>
    bif (!r27.2.2) then
      some (.inr (.inr ([], at_19, 3)))
    else
      bif r31.2 then
        (scan_word N r31.1).bind fun r46 =>
        bif r46 then
          (app script_18 [(State.mk r31.1 ([]))]).bind fun l52 =>
          some (.inl (r27.2.1, l52, (IntKind.wrap .i64 (at_19 + 1))))
        else
          bif r34.2 then
            bif (decide ((script_18.length : Int) > 0)) then
              (idx script_18 ((script_18.length : Int) - 1)).bind fun x59 =>
              (show Option ((List (State))) from
                (app x59.Rules ([r34.1] : List (Rule))).bind fun l86 =>
                some (script_18.set ((script_18.length : Int) - 1).toNat (State.mk x59.Name l86))).bind fun o65 =>
              some (.inl (r27.2.1, o65, (IntKind.wrap .i64 (at_19 + 1))))
            else
              some (.inr (.inr ([], at_19, 3)))
          else
            some (.inr (.inr ([], at_19, 3)))
      else
        bif r34.2 then
          bif (decide ((script_18.length : Int) > 0)) then
            (idx script_18 ((script_18.length : Int) - 1)).bind fun x128 =>
            (show Option ((List (State))) from
              (app x128.Rules ([r34.1] : List (Rule))).bind fun l155 =>
              some (script_18.set ((script_18.length : Int) - 1).toNat (State.mk x128.Name l155))).bind fun o134 =>
            some (.inl (r27.2.1, o134, (IntKind.wrap .i64 (at_19 + 1))))
          else
            some (.inr (.inr ([], at_19, 3)))
        else
          some (.inr (.inr ([], at_19, 3)))
  else
    some (.inr (.inl script_18))
def scan_Parse (N : Nat) (s_0 : List UInt8) : Option ((List (State)) × Int × Int) :=
  (iter (fun s => scan_Parse_b1 N s.1 s.2.1 s.2.2) N (s_0, [], 0)).bind fun o10 =>
  Sum.elim (fun o10 =>
    (scan_Valid N o10).bind fun r204 =>
    bif (!r204) then
      some ([], 0, 1)
    else
      some (o10, 0, 0))
  (fun o10 =>
    some o10) o10
def scan_class_1 (_N : Nat) (r_0 : Range) (x0 : Int) : Option Bool :=
  bif (decide ((IntKind.wrap .u8 x0) ≥ r_0.From)) then
    some (decide ((IntKind.wrap .u8 x0) ≤ r_0.To))
  else
    some false
def slices_IndexFunc_scan_Range_scan_Range__76_b1 (N : Nat) (s_0 : List (Range)) (x0 : Int) (x_5 : Int) : Option (Int ⊕ ((Unit ⊕ Int))) :=
  bif (decide (x_5 < (s_0.length : Int))) then
    (idx s_0 x_5).bind fun x8 =>
    (scan_class_1 N x8 x0).bind fun r19 =>
    bif r19 then
      some (.inr (.inr x_5))
    else
      some (.inl (x_5 + 1))
  else
    some (.inr (.inl ()))
def slices_IndexFunc_scan_Range_scan_Range__76 (N : Nat) (s_0 : List (Range)) (x0 : Int) : Option Int :=
  (iter (fun s => slices_IndexFunc_scan_Range_scan_Range__76_b1 N s_0 x0 s) N 0).bind fun o3 =>
  Sum.elim (fun _o3 =>
    some (-1))
  (fun o3 =>
    some o3) o3
def slices_ContainsFunc_scan_Range_scan_Range__76 (N : Nat) (s_0 : List (Range)) (x0 : Int) : Option Bool :=
  (slices_IndexFunc_scan_Range_scan_Range__76 N s_0 x0).bind fun r2 =>
  some (decide (r2 ≥ 0))
def scan_class_b1 (N : Nat) (x_0 : Item) (x_14 : Int) (x_15 : List Bool) : Option ((Int × (List Bool)) ⊕ (((List Bool)))) :=
  bif (decide (x_14 < 256)) then
    (show Option ((List Bool)) from
      (slices_ContainsFunc_scan_Range_scan_Range__76 N x_0.Ranges x_14).bind fun r22 =>
      (idx x_15 x_14).bind fun _x24 =>
      (setI x_15 x_14 (x_0.Not != r22)).bind fun z26 =>
      some z26).bind fun o20 =>
    some (.inl ((x_14 + 1), o20))
  else
    some (.inr x_15)
def scan_class (N : Nat) (x_0 : Item) : Option (Option (List Bool)) :=
  (iter (fun s => scan_class_b1 N x_0 s.1 s.2) N (0, (List.replicate 256 false))).bind fun o11 =>
  some (some o11)
def scan_classes_b1 (N : Nat) (items_0 : List (Item)) (x_17 : Int) (out_18 : List (Option (List Bool))) : Option ((Int × (List (Option (List Bool)))) ⊕ (((List (Option (List Bool)))))) :=
  bif (decide (x_17 < (items_0.length : Int))) then
    (idx items_0 x_17).bind fun x25 =>
    bif (x25.Text == ([])) then
      (scan_class N x25).bind fun r41 =>
      (idx out_18 x_17).bind fun _x46 =>
      (setI out_18 x_17 r41).bind fun l52 =>
      some (.inl ((x_17 + 1), l52))
    else
      some (.inl ((x_17 + 1), out_18))
  else
    some (.inr out_18)
def scan_classes (N : Nat) (items_0 : List (Item)) : Option (List (Option (List Bool))) :=
  (mk (items_0.length : Int) (none : Option (List Bool))).bind fun l1 =>
  (iter (fun s => scan_classes_b1 N items_0 s.1 s.2) N (0, l1)).bind fun o11 =>
  some o11
def scan_lexerOf_b2 (N : Nat) (x49 : State) (row_98 : List (List (Option (List Bool)))) (x_99 : Int) : Option (((List (List (Option (List Bool)))) × Int) ⊕ (((List (List (Option (List Bool))))))) :=
  bif (decide (x_99 < (x49.Rules.length : Int))) then
    (idx x49.Rules x_99).bind fun x106 =>
    (scan_classes N x106.Items).bind fun r120 =>
    (app row_98 ([r120] : List (List (Option (List Bool))))).bind fun l128 =>
    some (.inl (l128, (x_99 + 1)))
  else
    some (.inr row_98)
def scan_lexerOf_b1 (N : Nat) (s_0 : List (State)) (x_36 : Int) (x_37 : Lexer) : Option ((Int × Lexer) ⊕ Lexer) :=
  bif (decide (x_36 < (s_0.length : Int))) then
    (idx s_0 x_36).bind fun x49 =>
    (show Option Lexer from
      (mset x_37.states x49.Name x_36).bind fun l71 =>
      some (Lexer.mk x_37.script x_37.bits l71)).bind fun o62 =>
    (iter (fun s => scan_lexerOf_b2 N x49 s.1 s.2) N ([], 0)).bind fun o92 =>
    (app o62.bits ([o92] : List (List (List (Option (List Bool)))))).bind fun l142 =>
    some (.inl ((x_36 + 1), (Lexer.mk o62.script l142 o62.states)))
  else
    some (.inr x_37)
def scan_lexerOf (N : Nat) (s_0 : List (State)) : Option Lexer :=
  (iter (fun s => scan_lexerOf_b1 N s_0 s.1 s.2) N (0, (Lexer.mk s_0 ([]) ([] : List (List UInt8 × Int))))).bind fun o25 =>
  some o25
def scan_take_b1 (N : Nat) (x_0 : Item) (bits_1 : Option (List Bool)) (s_2 : List UInt8) (n_12 : Int) (count_13 : Int) : Option ((Int × Int) ⊕ (((Int × Int) ⊕ (Int × Bool)))) :=
  bif (decide (x_0.Most < 0)) then
    bif (x_0.Text != ([])) then
      (slc s_2 n_12 (s_2.length : Int)).bind fun s18 =>
      (strings_HasPrefix N s18 x_0.Text).bind fun r20 =>
      bif r20 then
        some (.inl ((IntKind.wrap .i64 (n_12 + (x_0.Text.length : Int))), (IntKind.wrap .i64 (count_13 + 1))))
      else
        bif (x_0.Text == ([])) then
          bif (decide (n_12 < (s_2.length : Int))) then
            (idx s_2 n_12).bind fun c25 =>
            (bits_1).bind fun y27 =>
            (idx y27 (c25.toNat : Int)).bind fun x37 =>
            bif x37 then
              some (.inl ((n_12 + 1), (IntKind.wrap .i64 (count_13 + 1))))
            else
              some (.inr (.inr (n_12, (decide (count_13 ≥ x_0.Least)))))
          else
            some (.inr (.inr (n_12, (decide (count_13 ≥ x_0.Least)))))
        else
          some (.inr (.inr (n_12, (decide (count_13 ≥ x_0.Least)))))
    else
      bif (x_0.Text == ([])) then
        bif (decide (n_12 < (s_2.length : Int))) then
          (idx s_2 n_12).bind fun c42 =>
          (bits_1).bind fun y44 =>
          (idx y44 (c42.toNat : Int)).bind fun x54 =>
          bif x54 then
            some (.inl ((n_12 + 1), (IntKind.wrap .i64 (count_13 + 1))))
          else
            some (.inr (.inr (n_12, (decide (count_13 ≥ x_0.Least)))))
        else
          some (.inr (.inr (n_12, (decide (count_13 ≥ x_0.Least)))))
      else
        some (.inr (.inr (n_12, (decide (count_13 ≥ x_0.Least)))))
  else
    bif (decide (count_13 < x_0.Most)) then
      bif (x_0.Text != ([])) then
        (slc s_2 n_12 (s_2.length : Int)).bind fun s59 =>
        (strings_HasPrefix N s59 x_0.Text).bind fun r61 =>
        bif r61 then
          some (.inl ((IntKind.wrap .i64 (n_12 + (x_0.Text.length : Int))), (count_13 + 1)))
        else
          bif (x_0.Text == ([])) then
            bif (decide (n_12 < (s_2.length : Int))) then
              (idx s_2 n_12).bind fun c66 =>
              (bits_1).bind fun y68 =>
              (idx y68 (c66.toNat : Int)).bind fun x78 =>
              bif x78 then
                some (.inl ((n_12 + 1), (count_13 + 1)))
              else
                some (.inr (.inr (n_12, (decide (count_13 ≥ x_0.Least)))))
            else
              some (.inr (.inr (n_12, (decide (count_13 ≥ x_0.Least)))))
          else
            some (.inr (.inr (n_12, (decide (count_13 ≥ x_0.Least)))))
      else
        bif (x_0.Text == ([])) then
          bif (decide (n_12 < (s_2.length : Int))) then
            (idx s_2 n_12).bind fun c83 =>
            (bits_1).bind fun y85 =>
            (idx y85 (c83.toNat : Int)).bind fun x95 =>
            bif x95 then
              some (.inl ((n_12 + 1), (count_13 + 1)))
            else
              some (.inr (.inr (n_12, (decide (count_13 ≥ x_0.Least)))))
          else
            some (.inr (.inr (n_12, (decide (count_13 ≥ x_0.Least)))))
        else
          some (.inr (.inr (n_12, (decide (count_13 ≥ x_0.Least)))))
    else
      some (.inr (.inl (n_12, count_13)))
def scan_take (N : Nat) (x_0 : Item) (bits_1 : Option (List Bool)) (s_2 : List UInt8) : Option (Int × Bool) :=
  (iter (fun s => scan_take_b1 N x_0 bits_1 s_2 s.1 s.2) N (0, 0)).bind fun o9 =>
  Sum.elim (fun o9 =>
    some (o9.1, (decide (o9.2 ≥ x_0.Least))))
  (fun o9 =>
    some o9) o9
def scan_match_b1 (N : Nat) (items_0 : List (Item)) (bits_1 : List (Option (List Bool))) (s_2 : List UInt8) (n_6 : Int) (x_7 : Int) : Option ((Int × Int) ⊕ ((Int ⊕ (Int × Bool)))) :=
  bif (decide (x_7 < (items_0.length : Int))) then
    (idx items_0 x_7).bind fun x11 =>
    (idx bits_1 x_7).bind fun x26 =>
    (slc s_2 n_6 (s_2.length : Int)).bind fun s37 =>
    (scan_take N x11 x26 s37).bind fun r39 =>
    bif (!r39.2) then
      some (.inr (.inr (0, false)))
    else
      some (.inl ((IntKind.wrap .i64 (n_6 + r39.1)), (x_7 + 1)))
  else
    some (.inr (.inl n_6))
def scan_match (N : Nat) (items_0 : List (Item)) (bits_1 : List (Option (List Bool))) (s_2 : List UInt8) : Option (Int × Bool) :=
  (iter (fun s => scan_match_b1 N items_0 bits_1 s_2 s.1 s.2) N (0, 0)).bind fun o3 =>
  Sum.elim (fun o3 =>
    some (o3, true))
  (fun o3 =>
    some o3) o3
def scan_lexer_step_b1 (N : Nat) (s_2 : List UInt8) (at_3 : Int) (x0 : Lexer) (x10 : State) (state_27 : Int) (x_28 : Int) : Option ((Int × Int) ⊕ ((Unit ⊕ (Token × Int × Bool)))) :=
  bif (decide (x_28 < (x10.Rules.length : Int))) then
    (idx x10.Rules x_28).bind fun x32 =>
    (idx x0.bits state_27).bind fun x46 =>
    (idx x46 x_28).bind fun x58 =>
    (slc s_2 at_3 (s_2.length : Int)).bind fun s69 =>
    (scan_match N x32.Items x58 s69).bind fun r71 =>
    bif (!r71.2) then
      some (.inl (state_27, (x_28 + 1)))
    else
      bif (r71.1 == 0) then
        some (.inl (state_27, (x_28 + 1)))
      else
        (show Option Int from
          bif (x32.Next != ([])) then
            some ((mget x0.states x32.Next).getD 0)
          else
            some state_27).bind fun o76 =>
        (show Option (Int × Token) from
          (slc s_2 at_3 (IntKind.wrap .i64 (at_3 + r71.1))).bind fun s90 =>
          some (o76, (Token.mk x32.Kind s90 at_3))).bind fun o85 =>
        some (.inr (.inr (o85.2, o85.1, true)))
  else
    some (.inr (.inl ()))
def scan_lexer_step (N : Nat) (state_1 : Int) (s_2 : List UInt8) (at_3 : Int) (x0 : Lexer) : Option (Token × Int × Bool) :=
  (idx x0.script state_1).bind fun x10 =>
  (iter (fun s => scan_lexer_step_b1 N s_2 at_3 x0 x10 s.1 s.2) N (state_1, 0)).bind fun o24 =>
  Sum.elim (fun _o24 =>
    some ((Token.mk ([]) ([]) 0), 0, false))
  (fun o24 =>
    some o24) o24
def scan_Tokens_b1 (N : Nat) (s_1 : List UInt8) (r5 : Lexer) (l_33 : List (Token)) (at_34 : Int) (state_35 : Int) : Option (((List (Token)) × Int × Int) ⊕ ((((List (Token))) ⊕ ((List (Token)) × Int × Int)))) :=
  bif (decide (at_34 < (s_1.length : Int))) then
    (scan_lexer_step N state_35 s_1 at_34 r5).bind fun r43 =>
    bif (!r43.2.2) then
      some (.inr (.inr ([], at_34, 3)))
    else
      (app l_33 ([r43.1] : List (Token))).bind fun l57 =>
      some (.inl (l57, (IntKind.wrap .i64 (at_34 + (r43.1.Text.length : Int))), r43.2.1))
  else
    some (.inr (.inl l_33))
def scan_Tokens (N : Nat) (script_0 : List (State)) (s_1 : List UInt8) : Option ((List (Token)) × Int × Int) :=
  (scan_Valid N script_0).bind fun r1 =>
  bif (!r1) then
    some ([], 0, 1)
  else
    bif (decide ((s_1.length : Int) > 200000)) then
      some ([], 200000, 6)
    else
      (scan_lexerOf N script_0).bind fun r5 =>
      (iter (fun s => scan_Tokens_b1 N s_1 r5 s.1 s.2.1 s.2.2) N ([], 0, 0)).bind fun o26 =>
      Sum.elim (fun o26 =>
        some (o26, 0, 0))
      (fun o26 =>
        some o26) o26
def calquelaw44_awake (N : Nat) : Option Bool :=
  (scan_Parse N ([115, 116, 97, 116, 101, 32, 109, 97, 105, 110, 10, 115, 107, 105, 112, 32, 91, 92, 120, 50, 48, 92, 120, 48, 97, 93, 43, 10, 110, 97, 109, 101, 32, 91, 97, 45, 122, 93, 43, 10, 115, 116, 114, 105, 110, 103, 32, 34, 92, 34, 34, 32, 91, 94, 34, 93, 42, 32, 34, 92, 34, 34, 10])).bind fun r1 =>
  (scan_Tokens N r1.1 ([97, 98, 32, 34, 120, 34])).bind fun r8 =>
  (scan_Print N r1.1).bind fun r15 =>
  bif (r1.2.2 == 0) then
    bif (r8.2.2 == 0) then
      bif (r15.2 == 0) then
        bif (r15.1 == ([115, 116, 97, 116, 101, 32, 109, 97, 105, 110, 10, 115, 107, 105, 112, 32, 91, 92, 120, 50, 48, 92, 120, 48, 97, 93, 43, 10, 110, 97, 109, 101, 32, 91, 97, 45, 122, 93, 43, 10, 115, 116, 114, 105, 110, 103, 32, 34, 92, 34, 34, 32, 91, 94, 34, 93, 42, 32, 34, 92, 34, 34, 10])) then
          bif ((r8.1.length : Int) == 3) then
            (idx r8.1 2).bind fun x24 =>
            bif (x24.Kind == ([115, 116, 114, 105, 110, 103])) then
              (idx r8.1 2).bind fun x37 =>
              bif (x37.Text == ([34, 120, 34])) then
                (idx r8.1 2).bind fun x50 =>
                some (x50.From == 3)
              else
                some false
            else
              some false
          else
            some false
        else
          some false
      else
        some false
    else
      some false
  else
    some false
end Go.Proofs.Ytmmioinglmeoiaa
