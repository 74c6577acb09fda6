/- The walks of this part: the model's run of each function yields what the plain function says. Printed by gen.py. -/
import Derived.Test.YtnmiodonophfbaaDoorExt16t
import Derived.Test.YtnmiodonophfbaaDoorChecked
import Derived.Test.YtnmiodonophfbaaDoorShelf
set_option linter.unusedVariables false
namespace Go.Proofs.YtnmiodonophfbaaDoor
open Go.X

/-- The variable internal/bytealg.MaxLen holds a number. -/
def Glob (u : World) : Prop := ∃ mx, u.cell? ⟨0, 0, none⟩ = some (.int .i64 mx)

theorem go_45 : goB Tryd.prog 45 = true := by kernel_rfl
theorem go_46 : goB Tryd.prog 46 = true := by kernel_rfl
theorem go_59 : goB Tryd.prog 59 = true := by kernel_rfl
theorem go_60 : goB Tryd.prog 60 = true := by kernel_rfl

theorem strings_IndexByte_w {u : World} {m0 : Mem} {S : Segs} {w : World} (N : Nat) (p0_0 : List UInt8) (lp0_0 : p0_0.length ≤ LIMS) (p1_1 : Int) (rp1_1 : InR .u8 p1_1) {r : Int} (hF : strings_IndexByte N p0_0 p1_1 = some r) (hG : Glob u) (ok : Ok u m0 S w) :
    Calls Tryd.prog 59 [Value.string (bs p0_0), Value.int .u8 p1_1].toArray w fun e w' => (e = .returned (.int .i64 r) ∧ Ok u m0 S w') ∧ InR .i64 r := lib_IndexByte Tryd.lays137 p0_0 p1_1 hF lp0_0 ok

def unicode_utf8_ValidRune_R (u : World) (m0 : Mem) (S : Segs) (r : Bool) (a : Act) (w : World) : Prop :=
  Ok u m0 S w ∧ a.defers = [] ∧ RVs Tryd.prog a w [.t 2 (.bool r)]
set_option maxHeartbeats 4000000 in
set_option maxRecDepth 100000 in
theorem unicode_utf8_ValidRune_w {u : World} {m0 : Mem} {S : Segs} {w : World} (N : Nat) (r_0 : Int) (rr_0 : InR .i32 r_0) {r : Bool} (hF : unicode_utf8_ValidRune N r_0 = some r) (hG : Glob u) (ok : Ok u m0 S w) :
    Calls Tryd.prog 60 [Value.int .i32 r_0].toArray w fun e w' => (e = .returned (.bool r) ∧ Ok u m0 S w') := by
  have hb0 := ok.base
  have le_m0 := Mem.le.refl m0
  unfold unicode_utf8_ValidRune at hF
  have fin : ∀ a w, unicode_utf8_ValidRune_R u m0 S r a w → bodyPost Tryd.prog Tryd.f60 (fun e w' => (e = .returned (.bool r) ∧ Ok u m0 S w')) .ret a w := by
    intro a w h
    obtain ⟨ok, hd, hrv⟩ := h
    exact c_ret2 [.t 2 (.bool r)] hd rfl hrv ⟨rfl, ok⟩
  refine enter Tryd.func60 rfl rfl rfl fun a E => ?_
  refine wp_seq ?_
  refine c_region ?_
  refine l_val E ok (y_assign rfl) rfl rfl fun a E => ?_
  refine wpList_nil ?_
  refine t_norm ?_
  refine wp_seq ?_
  refine wp_block ?_
  refine wp_seq ?_
  refine c_region ?_
  refine l_val E ok (y_move rfl) rfl rfl fun a E => ?_
  refine l_val E ok (y_leq rfl rfl) rfl rfl fun a E => ?_
  refine l_val E ok (y_move rfl) rfl rfl fun a E => ?_
  refine bsplit (decide ((0 : Int) ≤ r_0)) (fun hc1 => ?_) (fun hc1 => ?_)
  rotate_left
  · replace hF := cond_f hc1 hF
    replace E := E.upd 6 hc1 rfl
    refine l_skip E rfl rfl fun a E => ?_
    refine l_skip E rfl rfl fun a E => ?_
    refine l_val E ok (y_pickF rfl rfl) rfl rfl fun a E => ?_
    refine l_val E ok (y_assign rfl) rfl rfl fun a E => ?_
    refine wpList_nil ?_
    refine t_norm ?_
    refine c_if E rfl (fun h => by cases h) (fun _ => ?_)
    refine wp_seq ?_
    refine c_region ?_
    refine l_val E ok (y_move rfl) rfl rfl fun a E => ?_
    refine l_val E ok (y_lss rfl rfl) rfl rfl fun a E => ?_
    refine l_val E ok (y_move rfl) rfl rfl fun a E => ?_
    refine bsplit (decide ((57343 : Int) < r_0)) (fun hc5 => ?_) (fun hc5 => ?_)
    rotate_left
    · replace hF := cond_f hc5 hF
      replace E := E.upd 13 hc5 rfl
      refine l_skip E rfl rfl fun a E => ?_
      refine l_skip E rfl rfl fun a E => ?_
      refine l_val E ok (y_pickF rfl rfl) rfl rfl fun a E => ?_
      refine l_val E ok (y_assign rfl) rfl rfl fun a E => ?_
      refine wpList_nil ?_
      refine t_norm ?_
      refine c_if E rfl (fun h => by cases h) (fun _ => ?_)
      refine wp_skip ?_
      refine b_norm ?_
      refine t_norm ?_
      refine wp_seq ?_
      refine c_region ?_
      refine l_val E ok (y_assign rfl) rfl rfl fun a E => ?_
      refine wpList_nil ?_
      refine t_norm ?_
      refine wp_ret ?_
      have hret : unicode_utf8_ValidRune_R u m0 S false a w := ⟨ok, E.d, ⟨rv_t E rfl, trivial⟩⟩
      obtain rfl := Option.some.inj hF
      exact fin _ _ hret
    replace hF := cond_t hc5 hF
    replace E := E.upd 13 hc5 rfl
    refine l_val E ok (y_move rfl) rfl rfl fun a E => ?_
    refine l_val E ok (y_leq rfl rfl) rfl rfl fun a E => ?_
    refine l_val E ok (y_pickT rfl rfl) rfl rfl fun a E => ?_
    refine l_val E ok (y_assign rfl) rfl rfl fun a E => ?_
    refine wpList_nil ?_
    refine t_norm ?_
    refine c_if E rfl (fun hc6 => ?_) (fun hc6 => ?_)
    · replace hF := cond_t hc6 hF
      refine wp_seq ?_
      refine c_region ?_
      refine l_val E ok (y_assign rfl) rfl rfl fun a E => ?_
      refine wpList_nil ?_
      refine t_norm ?_
      refine wp_ret ?_
      refine b_ret ?_
      refine t_ret ?_
      have hret : unicode_utf8_ValidRune_R u m0 S true a w := ⟨ok, E.d, ⟨rv_t E rfl, trivial⟩⟩
      obtain rfl := Option.some.inj hF
      exact fin _ _ hret
    replace hF := cond_f hc6 hF
    refine wp_skip ?_
    refine b_norm ?_
    refine t_norm ?_
    refine wp_seq ?_
    refine c_region ?_
    refine l_val E ok (y_assign rfl) rfl rfl fun a E => ?_
    refine wpList_nil ?_
    refine t_norm ?_
    refine wp_ret ?_
    have hret : unicode_utf8_ValidRune_R u m0 S false a w := ⟨ok, E.d, ⟨rv_t E rfl, trivial⟩⟩
    obtain rfl := Option.some.inj hF
    exact fin _ _ hret
  replace hF := cond_t hc1 hF
  replace E := E.upd 6 hc1 rfl
  refine l_val E ok (y_move rfl) rfl rfl fun a E => ?_
  refine l_val E ok (y_lss rfl rfl) rfl rfl fun a E => ?_
  refine l_val E ok (y_pickT rfl rfl) rfl rfl fun a E => ?_
  refine l_val E ok (y_assign rfl) rfl rfl fun a E => ?_
  refine wpList_nil ?_
  refine t_norm ?_
  refine c_if E rfl (fun hc2 => ?_) (fun hc2 => ?_)
  · replace hF := cond_t hc2 hF
    refine wp_seq ?_
    refine c_region ?_
    refine l_val E ok (y_assign rfl) rfl rfl fun a E => ?_
    refine wpList_nil ?_
    refine t_norm ?_
    refine wp_ret ?_
    refine b_ret ?_
    refine t_ret ?_
    have hret : unicode_utf8_ValidRune_R u m0 S true a w := ⟨ok, E.d, ⟨rv_t E rfl, trivial⟩⟩
    obtain rfl := Option.some.inj hF
    exact fin _ _ hret
  replace hF := cond_f hc2 hF
  refine wp_seq ?_
  refine c_region ?_
  refine l_val E ok (y_move rfl) rfl rfl fun a E => ?_
  refine l_val E ok (y_lss rfl rfl) rfl rfl fun a E => ?_
  refine l_val E ok (y_move rfl) rfl rfl fun a E => ?_
  refine bsplit (decide ((57343 : Int) < r_0)) (fun hc3 => ?_) (fun hc3 => ?_)
  rotate_left
  · replace hF := cond_f hc3 hF
    replace E := E.upd 13 hc3 rfl
    refine l_skip E rfl rfl fun a E => ?_
    refine l_skip E rfl rfl fun a E => ?_
    refine l_val E ok (y_pickF rfl rfl) rfl rfl fun a E => ?_
    refine l_val E ok (y_assign rfl) rfl rfl fun a E => ?_
    refine wpList_nil ?_
    refine t_norm ?_
    refine c_if E rfl (fun h => by cases h) (fun _ => ?_)
    refine wp_skip ?_
    refine b_norm ?_
    refine t_norm ?_
    refine wp_seq ?_
    refine c_region ?_
    refine l_val E ok (y_assign rfl) rfl rfl fun a E => ?_
    refine wpList_nil ?_
    refine t_norm ?_
    refine wp_ret ?_
    have hret : unicode_utf8_ValidRune_R u m0 S false a w := ⟨ok, E.d, ⟨rv_t E rfl, trivial⟩⟩
    obtain rfl := Option.some.inj hF
    exact fin _ _ hret
  replace hF := cond_t hc3 hF
  replace E := E.upd 13 hc3 rfl
  refine l_val E ok (y_move rfl) rfl rfl fun a E => ?_
  refine l_val E ok (y_leq rfl rfl) rfl rfl fun a E => ?_
  refine l_val E ok (y_pickT rfl rfl) rfl rfl fun a E => ?_
  refine l_val E ok (y_assign rfl) rfl rfl fun a E => ?_
  refine wpList_nil ?_
  refine t_norm ?_
  refine c_if E rfl (fun hc4 => ?_) (fun hc4 => ?_)
  · replace hF := cond_t hc4 hF
    refine wp_seq ?_
    refine c_region ?_
    refine l_val E ok (y_assign rfl) rfl rfl fun a E => ?_
    refine wpList_nil ?_
    refine t_norm ?_
    refine wp_ret ?_
    refine b_ret ?_
    refine t_ret ?_
    have hret : unicode_utf8_ValidRune_R u m0 S true a w := ⟨ok, E.d, ⟨rv_t E rfl, trivial⟩⟩
    obtain rfl := Option.some.inj hF
    exact fin _ _ hret
  replace hF := cond_f hc4 hF
  refine wp_skip ?_
  refine b_norm ?_
  refine t_norm ?_
  refine wp_seq ?_
  refine c_region ?_
  refine l_val E ok (y_assign rfl) rfl rfl fun a E => ?_
  refine wpList_nil ?_
  refine t_norm ?_
  refine wp_ret ?_
  have hret : unicode_utf8_ValidRune_R u m0 S false a w := ⟨ok, E.d, ⟨rv_t E rfl, trivial⟩⟩
  obtain rfl := Option.some.inj hF
  exact fin _ _ hret

def strings_IndexRune_R (u : World) (m0 : Mem) (S : Segs) (r : Int) (a : Act) (w : World) : Prop :=
  Ok u m0 S w ∧ a.defers = [] ∧ RVs Tryd.prog a w [.t 4 (.int .i64 r)] ∧ InR .i64 r
set_option maxHeartbeats 4000000 in
set_option maxRecDepth 100000 in
theorem strings_IndexRune_w {u : World} {m0 : Mem} {S : Segs} {w : World} (N : Nat) (s_0 : List UInt8) (ls_0 : s_0.length ≤ LIMS) (r_1 : Int) (rr_1 : InR .i32 r_1) {r : Int} (hF : strings_IndexRune N s_0 r_1 = some r) (hG : Glob u) (ok : Ok u m0 S w) :
    Calls Tryd.prog 45 [Value.string (bs s_0), Value.int .i32 r_1].toArray w fun e w' => (e = .returned (.int .i64 r) ∧ Ok u m0 S w') ∧ InR .i64 r := by
  have hb0 := ok.base
  have le_m0 := Mem.le.refl m0
  unfold strings_IndexRune at hF
  have fin : ∀ a w, strings_IndexRune_R u m0 S r a w → bodyPost Tryd.prog Tryd.f45 (fun e w' => (e = .returned (.int .i64 r) ∧ Ok u m0 S w') ∧ InR .i64 r) .ret a w := by
    intro a w h
    obtain ⟨ok, hd, hrv, h0⟩ := h
    exact c_ret2 [.t 4 (.int .i64 r)] hd rfl hrv ⟨⟨rfl, ok⟩, h0⟩
  refine enter Tryd.func45 rfl rfl rfl fun a E => ?_
  refine wp_seq ?_
  refine c_region ?_
  refine l_val E ok (y_assign rfl) rfl rfl fun a E => ?_
  refine wpList_nil ?_
  refine t_norm ?_
  refine wp_block ?_
  refine wp_seq ?_
  refine c_region ?_
  refine l_val E ok (y_move rfl) rfl rfl fun a E => ?_
  refine l_val E ok (y_leq rfl rfl) rfl rfl fun a E => ?_
  refine l_val E ok (y_move rfl) rfl rfl fun a E => ?_
  refine bsplit (decide ((0 : Int) ≤ r_1)) (fun hc1 => ?_) (fun hc1 => ?_)
  rotate_left
  · as_aux_lemma =>
      replace hF := cond_f hc1 hF
      replace E := E.upd 163 hc1 rfl
      refine l_skip E rfl rfl fun a E => ?_
      refine l_skip E rfl rfl fun a E => ?_
      refine l_val E ok (y_pickF rfl rfl) rfl rfl fun a E => ?_
      refine l_val E ok (y_assign rfl) rfl rfl fun a E => ?_
      refine wpList_nil ?_
      refine t_norm ?_
      refine c_if E rfl (fun h => by cases h) (fun _ => ?_)
      refine wp_seq ?_
      refine c_region ?_
      refine l_val E ok (y_move rfl) rfl rfl fun a E => ?_
      refine l_val E ok (y_eql rfl rfl) rfl rfl fun a E => ?_
      refine l_val E ok (y_assign rfl) rfl rfl fun a E => ?_
      refine wpList_nil ?_
      refine t_norm ?_
      refine c_if E rfl (fun hc54 => ?_) (fun hc54 => ?_)
      · as_aux_lemma =>
          replace hF := cond_t hc54 hF
          refine wp_seq ?_
          refine wp_seq ?_
          refine c_region ?_
          refine l_val E ok (y_move rfl) rfl rfl fun a E => ?_
          refine l_range E ok Tryd.underlying9 rfl rfl rfl fun b55 a w E ok => ?_
          refine wpList_nil ?_
          refine t_norm ?_
          refine wp_block ?_
          obtain ⟨o56, hL, hF⟩ := bnd hF
          refine c_loop _ (fun (s : Nat) a w => Ok u m0 ([(b55, Obj.stringIter (bs s_0) s)] :: S) w ∧ Env 187 a [(175, (Value.pointer (some ⟨b55, 0, none⟩)))]) (fun (b : (Nat ⊕ Int)) e a w => (Sum.elim (fun b60 => e = (.exit 9) ∧ Ok u m0 ([(b55, Obj.stringIter (bs s_0) b60)] :: S) w ∧ Env 187 a []) (fun b61 => e = .ret ∧ strings_IndexRune_R u m0 S b61 a w)) b) ?_ ?_ N _ a w hL ⟨ok, E.keep [175]⟩
          rotate_left
          · intro e a w _ hO
            rcases o56 with o56 | o56
            rotate_left
            · replace hF := elim_r hF
              obtain ⟨rfl, hret⟩ := hO
              refine b_ret ?_
              refine t_ret ?_
              refine b_ret ?_
              obtain rfl := Option.some.inj hF
              exact fin _ _ hret
            replace hF := elim_l hF
            obtain ⟨rfl, ok, E⟩ := hO
            refine b_hit ?_
            refine t_norm ?_
            refine wp_seq ?_
            refine c_region ?_
            refine l_val E ok (y_assign rfl) rfl rfl fun a E => ?_
            refine wpList_nil ?_
            refine t_norm ?_
            refine wp_ret ?_
            refine b_ret ?_
            have hret : strings_IndexRune_R u m0 S (-1) a w := ⟨ok.drop, E.d, ⟨rv_t E rfl, trivial⟩, (show InR .i64 (-1) by decide)⟩
            obtain rfl := Option.some.inj hF
            exact fin _ _ hret
          rintro x_57 a w r ⟨ok, E⟩ hF
          replace hF : strings_IndexRune_b4 N s_0 x_57 = some r := hF
          unfold strings_IndexRune_b4 at hF
          refine wp_seq ?_
          refine c_region ?_
          refine bsplit (decide (x_57 < s_0.length)) (fun hc58 => ?_) (fun hc58 => ?_)
          rotate_left
          · replace hF := cond_f hc58 hF
            refine l_nextF E ok 0 rfl rfl hc58 rfl rfl fun a E => ?_
            refine l_val E ok (y_extract rfl rfl) rfl rfl fun a E => ?_
            refine wpList_nil ?_
            refine t_norm ?_
            refine wp_seq ?_
            refine c_if E rfl (fun h => by cases h) (fun _ => ?_)
            refine wp_exit ?_
            refine t_exit ?_
            obtain rfl := Option.some.inj hF
            exact step_o (by nofun) (sl ⟨rfl, ⟨ok, E.keep []⟩⟩)
          replace hF := cond_t hc58 hF
          refine l_nextT E ok 0 rfl rfl hc58 rfl rfl fun a w E ok => ?_
          refine l_val E ok (y_extract rfl rfl) rfl rfl fun a E => ?_
          refine wpList_nil ?_
          refine t_norm ?_
          refine wp_seq ?_
          refine c_if E rfl (fun _ => ?_) (fun h => by cases h)
          refine wp_skip ?_
          refine t_norm ?_
          refine wp_block ?_
          refine wp_seq ?_
          refine c_region ?_
          refine l_val E ok (y_extract rfl rfl) rfl rfl fun a E => ?_
          refine l_val E ok (y_extract rfl rfl) rfl rfl fun a E => ?_
          refine l_val E ok (y_assign rfl) rfl rfl fun a E => ?_
          refine l_val E ok (y_assign rfl) rfl rfl fun a E => ?_
          refine wpList_nil ?_
          refine t_norm ?_
          refine wp_seq ?_
          refine c_region ?_
          refine l_val E ok (y_move rfl) rfl rfl fun a E => ?_
          refine l_val E ok (y_eql rfl rfl) rfl rfl fun a E => ?_
          refine wpList_nil ?_
          refine t_norm ?_
          refine c_if E rfl (fun hc59 => ?_) (fun hc59 => ?_)
          rotate_left
          · replace hF := cond_f hc59 hF
            refine wp_skip ?_
            refine b_norm ?_
            obtain rfl := Option.some.inj hF
            exact step_n ⟨ok, E.keep [175]⟩
          replace hF := cond_t hc59 hF
          refine wp_seq ?_
          refine c_region ?_
          refine l_val E ok (y_move rfl) rfl rfl fun a E => ?_
          refine l_val E ok (y_assign rfl) rfl rfl fun a E => ?_
          refine wpList_nil ?_
          refine t_norm ?_
          refine wp_ret ?_
          refine b_ret ?_
          have hret : strings_IndexRune_R u m0 S (x_57 : Int) a w := ⟨ok.drop, E.d, ⟨rv_t E rfl, trivial⟩, (InR.len (Nat.le_trans (Nat.le_of_lt (of_decide_eq_true hc58)) ls_0))⟩
          obtain rfl := Option.some.inj hF
          exact step_o (by nofun) (sr ⟨rfl, hret⟩)
      replace hF := cond_f hc54 hF
      refine wp_seq ?_
      refine c_region ?_
      refine l_val E ok (y_move rfl) rfl rfl fun a E => ?_
      obtain ⟨r62, e63, hF⟩ := bnd hF
      refine l_call E go_60 rfl (unicode_utf8_ValidRune_w N r_1 rr_1 e63 hG ok) rfl rfl ?_
      rintro _ w ⟨rfl, ok⟩
      refine ⟨_, rfl, fun a E => ?_⟩
      refine l_val E ok (y_not rfl) rfl rfl fun a E => ?_
      refine l_val E ok (y_assign rfl) rfl rfl fun a E => ?_
      refine wpList_nil ?_
      refine t_norm ?_
      refine c_if E rfl (fun hc64 => ?_) (fun hc64 => ?_)
      · replace hF := cond_t hc64 hF
        refine wp_seq ?_
        refine c_region ?_
        refine l_val E ok (y_assign rfl) rfl rfl fun a E => ?_
        refine wpList_nil ?_
        refine t_norm ?_
        refine wp_ret ?_
        refine b_ret ?_
        have hret : strings_IndexRune_R u m0 S (-1) a w := ⟨ok, E.d, ⟨rv_t E rfl, trivial⟩, (show InR .i64 (-1) by decide)⟩
        obtain rfl := Option.some.inj hF
        exact fin _ _ hret
      replace hF := cond_f hc64 hF
      refine wp_scope_straight ?_
      refine wp_seq ?_
      refine c_region ?_
      refine l_val E ok (y_move rfl) rfl rfl fun a E => ?_
      refine l_val E ok (y_runestr Tryd.underlying21 Tryd.underlying9 rfl) rfl rfl fun a E => ?_
      refine l_val E ok (y_assign rfl) rfl rfl fun a E => ?_
      refine wpList_nil ?_
      refine t_norm ?_
      refine wp_seq ?_
      refine c_region ?_
      refine l_val E ok (y_move rfl) rfl rfl fun a E => ?_
      refine l_val E ok (y_slen Tryd.underlying9 rfl) rfl rfl fun a E => ?_
      refine l_val E ok (y_subw rfl rfl) rfl rfl fun a E => ?_
      refine l_val E ok (y_assign rfl) rfl rfl fun a E => ?_
      refine wpList_nil ?_
      refine t_norm ?_
      refine wp_seq ?_
      refine c_region ?_
      refine l_val E ok (y_move rfl) rfl rfl fun a E => ?_
      refine l_val E ok (y_assign rfl) rfl rfl fun a E => ?_
      refine wpList_nil ?_
      refine t_norm ?_
      refine wp_seq ?_
      refine c_region ?_
      refine l_val E ok (y_assign rfl) rfl rfl fun a E => ?_
      refine wpList_nil ?_
      refine t_norm ?_
      refine wp_seq ?_
      refine wp_block ?_
      obtain ⟨o66, hL, hF⟩ := bnd hF
      refine c_loop _ (fun (s : Int) a w => Ok u m0 (S) w ∧ Env 187 a [(0, (Value.string (bs s_0))), (7, (Value.string (bs (runeStr r_1)))), (8, (Value.int .i64 (IntKind.wrap .i64 (((runeStr r_1).length : Int) - 1)))), (9, (Value.int .i64 s))] ∧ InR .i64 s) (fun (b : (Unit ⊕ Int)) e a w => (Sum.elim (fun b100 => e = (.exit 1) ∧ Ok u m0 (S) w ∧ Env 187 a []) (fun b101 => e = .ret ∧ strings_IndexRune_R u m0 S b101 a w)) b) ?_ ?_ N _ a w hL ⟨ok, E.keep [0, 7, 8, 9], (InR.wrap _ _)⟩
      rotate_left
      · intro e a w _ hO
        rcases o66 with o66 | o66
        rotate_left
        · replace hF := elim_r hF
          obtain ⟨rfl, hret⟩ := hO
          refine b_ret ?_
          refine t_ret ?_
          refine s_ret ?_
          refine b_ret ?_
          obtain rfl := Option.some.inj hF
          exact fin _ _ hret
        replace hF := elim_l hF
        obtain ⟨rfl, ok, E⟩ := hO
        refine b_hit ?_
        refine t_norm ?_
        refine wp_seq ?_
        refine wp_seq ?_
        refine c_region ?_
        refine l_val E ok (y_assign rfl) rfl rfl fun a E => ?_
        refine wpList_nil ?_
        refine t_norm ?_
        refine wp_ret ?_
        refine t_ret ?_
        refine s_ret ?_
        refine b_ret ?_
        have hret : strings_IndexRune_R u m0 S (-1) a w := ⟨ok, E.d, ⟨rv_t E rfl, trivial⟩, (show InR .i64 (-1) by decide)⟩
        obtain rfl := Option.some.inj hF
        exact fin _ _ hret
      rintro i_68 a w r ⟨ok, E, r69⟩ hF
      replace hF : strings_IndexRune_b5 N s_0 r_1 i_68 = some r := hF
      unfold strings_IndexRune_b5 at hF
      refine wp_seq ?_
      refine wp_seq ?_
      refine c_region ?_
      refine l_val E ok (y_move rfl) rfl rfl fun a E => ?_
      refine l_val E ok (y_move rfl) rfl rfl fun a E => ?_
      refine l_val E ok (y_slen Tryd.underlying9 rfl) rfl rfl fun a E => ?_
      refine l_val E ok (y_lss rfl rfl) rfl rfl fun a E => ?_
      refine wpList_nil ?_
      refine t_norm ?_
      refine c_if E rfl (fun hc70 => ?_) (fun hc70 => ?_)
      rotate_left
      · replace hF := cond_f hc70 hF
        refine wp_exit ?_
        refine t_exit ?_
        obtain rfl := Option.some.inj hF
        exact step_o (by nofun) (sl ⟨rfl, ⟨ok, E.keep []⟩⟩)
      replace hF := cond_t hc70 hF
      refine wp_skip ?_
      refine t_norm ?_
      refine wp_block ?_
      refine wp_scope_straight ?_
      refine wp_seq ?_
      refine wp_seq ?_
      refine c_draw (by kernel_rfl) (by kernel_rfl) ok ?_
      refine q_val E (y_move rfl) rfl rfl fun a E => ?_
      refine q_val E (y_move rfl) rfl rfl fun a E => ?_
      obtain ⟨c71, e72, hF⟩ := bnd hF
      refine q_val E (y_index Tryd.underlying9 rfl rfl e72) rfl rfl fun a E => ?_
      refine q_val E (y_move rfl) rfl rfl fun a E => ?_
      refine q_val E (y_move rfl) rfl rfl fun a E => ?_
      obtain ⟨c73, e74, hF⟩ := bnd hF
      refine q_val E (y_index Tryd.underlying9 rfl rfl e74) rfl rfl fun a E => ?_
      refine q_val E (y_neq rfl rfl) rfl rfl fun a E => ?_
      refine wpQuiet_nil ?_
      intro w ok
      refine t_norm ?_
      obtain ⟨o75, hJ, hF⟩ := bnd hF
      refine c_mono (Q' := fun e a w => (Sum.elim (fun b76 => e = .normal ∧ Ok u m0 (S) w ∧ Env 187 a [(0, (Value.string (bs s_0))), (7, (Value.string (bs (runeStr r_1)))), (8, (Value.int .i64 (IntKind.wrap .i64 (((runeStr r_1).length : Int) - 1)))), (9, (Value.int .i64 b76))] ∧ InR .i64 b76) (fun b78 => e = .ret ∧ strings_IndexRune_R u m0 S b78 a w)) o75) ?_ ?_
      · replace hF := hJ
        clear hJ
        refine c_if E rfl (fun hc79 => ?_) (fun hc79 => ?_)
        rotate_left
        · replace hF := cond_f hc79 hF
          refine wp_skip ?_
          obtain rfl := Option.some.inj hF
          exact (sl ⟨rfl, ⟨ok, E.keep [0, 7, 8, 9], r69⟩⟩)
        replace hF := cond_t hc79 hF
        refine wp_seq ?_
        refine c_draw (by kernel_rfl) (by kernel_rfl) ok ?_
        refine q_val E (y_move rfl) rfl rfl fun a E => ?_
        refine q_val E (y_move rfl) rfl rfl fun a E => ?_
        refine q_val E (y_add rfl rfl (InR.inc r69 (InR.len ls_0) hc70)) rfl rfl fun a E => ?_
        obtain ⟨s80, e81, hF⟩ := bnd hF
        refine q_val E (y_sslice Tryd.underlying9 e81 rfl ⟨_, rfl⟩ rfl) rfl rfl fun a E => ?_
        refine q_val E (y_move rfl) rfl rfl fun a E => ?_
        refine q_val E (y_move rfl) rfl rfl fun a E => ?_
        obtain ⟨c82, e83, hF⟩ := bnd hF
        refine q_val E (y_index Tryd.underlying9 rfl rfl e83) rfl rfl fun a E => ?_
        obtain ⟨r84, e85, hF⟩ := bnd hF
        obtain ⟨_, _, ⟨_, _⟩, r86⟩ := Go.X.Calls.get (strings_IndexByte_w N s80 (Nat.le_trans (slc_len e81) ls_0) (c82.toNat : Int) (InR.byte c82) e85 hG ok)
        refine q_call E go_59 rfl (fun w ok => (strings_IndexByte_w N s80 (Nat.le_trans (slc_len e81) ls_0) (c82.toNat : Int) (InR.byte c82) e85 hG ok).mono (fun _ _ h => h.1)) rfl rfl fun a E => ?_
        refine q_val E (y_assign rfl) rfl rfl fun a E => ?_
        refine wpQuiet_nil ?_
        intro w ok
        refine t_norm ?_
        refine wp_seq ?_
        refine wp_seq ?_
        refine c_region ?_
        refine l_val E ok (y_move rfl) rfl rfl fun a E => ?_
        refine l_val E ok (y_lss rfl rfl) rfl rfl fun a E => ?_
        refine wpList_nil ?_
        refine t_norm ?_
        refine c_if E rfl (fun hc87 => ?_) (fun hc87 => ?_)
        · replace hF := cond_t hc87 hF
          refine wp_seq ?_
          refine c_region ?_
          refine l_val E ok (y_assign rfl) rfl rfl fun a E => ?_
          refine wpList_nil ?_
          refine t_norm ?_
          refine wp_ret ?_
          refine t_ret ?_
          have hret : strings_IndexRune_R u m0 S (-1) a w := ⟨ok, E.d, ⟨rv_t E rfl, trivial⟩, (show InR .i64 (-1) by decide)⟩
          obtain rfl := Option.some.inj hF
          exact (sr ⟨rfl, hret⟩)
        replace hF := cond_f hc87 hF
        refine wp_skip ?_
        refine t_norm ?_
        refine c_region ?_
        refine l_val E ok (y_move rfl) rfl rfl fun a E => ?_
        refine l_val E ok (y_move rfl) rfl rfl fun a E => ?_
        refine l_val E ok (y_addw rfl rfl) rfl rfl fun a E => ?_
        refine l_val E ok (y_addw rfl rfl) rfl rfl fun a E => ?_
        refine l_val E ok (y_assign rfl) rfl rfl fun a E => ?_
        refine wpList_nil ?_
        obtain rfl := Option.some.inj hF
        exact (sl ⟨rfl, ⟨ok, E.keep [0, 7, 8, 9], (InR.wrap _ _)⟩⟩)
      clear hJ
      intro e a w hO
      rcases o75 with o75 | o75
      rotate_left
      · replace hF := elim_r hF
        obtain ⟨rfl, hret⟩ := hO
        refine t_ret ?_
        refine s_ret ?_
        refine b_ret ?_
        obtain rfl := Option.some.inj hF
        exact step_o (by nofun) (sr ⟨rfl, hret⟩)
      replace hF := elim_l hF
      obtain ⟨rfl, ok, E, r88⟩ := hO
      refine t_norm ?_
      refine wp_seq ?_
      refine wp_seq ?_
      refine c_region ?_
      refine l_val E ok (y_assign rfl) rfl rfl fun a E => ?_
      refine wpList_nil ?_
      refine t_norm ?_
      refine wp_block ?_
      obtain ⟨o90, hL, hF⟩ := bnd hF
      refine c_loop _ (fun (s : Int) a w => Ok u m0 (S) w ∧ Env 187 a [(0, (Value.string (bs s_0))), (7, (Value.string (bs (runeStr r_1)))), (8, (Value.int .i64 (IntKind.wrap .i64 (((runeStr r_1).length : Int) - 1)))), (9, (Value.int .i64 o75)), (12, (Value.int .i64 s))] ∧ InR .i64 s) (fun (b : Unit) e a w => e = (.exit 3) ∧ Ok u m0 (S) w ∧ Env 187 a [(8, (Value.int .i64 (IntKind.wrap .i64 (((runeStr r_1).length : Int) - 1)))), (9, (Value.int .i64 o75))]) ?_ ?_ N _ a w hL ⟨ok, E.keep [0, 7, 8, 9, 12], (show InR .i64 (1) by decide)⟩
      rotate_left
      · intro e a w _ hO
        obtain ⟨rfl, ok, E⟩ := hO
        refine b_hit ?_
        refine t_norm ?_
        refine wp_seq ?_
        refine wp_seq ?_
        refine c_region ?_
        refine l_val E ok (y_move rfl) rfl rfl fun a E => ?_
        refine l_val E ok (y_move rfl) rfl rfl fun a E => ?_
        refine l_val E ok (y_subw rfl rfl) rfl rfl fun a E => ?_
        refine l_val E ok (y_assign rfl) rfl rfl fun a E => ?_
        refine wpList_nil ?_
        refine t_norm ?_
        refine wp_ret ?_
        refine t_ret ?_
        refine s_ret ?_
        refine b_ret ?_
        have hret : strings_IndexRune_R u m0 S (IntKind.wrap .i64 (o75 - (IntKind.wrap .i64 (((runeStr r_1).length : Int) - 1)))) a w := ⟨ok, E.d, ⟨rv_t E rfl, trivial⟩, (InR.wrap _ _)⟩
        obtain rfl := Option.some.inj hF
        exact step_o (by nofun) (sr ⟨rfl, hret⟩)
      rintro j_92 a w r ⟨ok, E, r93⟩ hF
      replace hF : strings_IndexRune_b6 N s_0 r_1 o75 j_92 = some r := hF
      unfold strings_IndexRune_b6 at hF
      refine wp_seq ?_
      refine wp_seq ?_
      refine c_region ?_
      refine l_val E ok (y_move rfl) rfl rfl fun a E => ?_
      refine l_val E ok (y_move rfl) rfl rfl fun a E => ?_
      refine l_val E ok (y_slen Tryd.underlying9 rfl) rfl rfl fun a E => ?_
      refine l_val E ok (y_lss rfl rfl) rfl rfl fun a E => ?_
      refine wpList_nil ?_
      refine t_norm ?_
      refine c_if E rfl (fun hc94 => ?_) (fun hc94 => ?_)
      rotate_left
      · replace hF := cond_f hc94 hF
        refine wp_exit ?_
        refine t_exit ?_
        obtain rfl := Option.some.inj hF
        exact step_o (by nofun) (⟨rfl, ⟨ok, E.keep [8, 9]⟩⟩)
      replace hF := cond_t hc94 hF
      refine wp_skip ?_
      refine t_norm ?_
      refine wp_seq ?_
      refine wp_block ?_
      refine wp_seq ?_
      refine c_draw (by kernel_rfl) (by kernel_rfl) ok ?_
      refine q_val E (y_move rfl) rfl rfl fun a E => ?_
      refine q_val E (y_move rfl) rfl rfl fun a E => ?_
      refine q_val E (y_move rfl) rfl rfl fun a E => ?_
      refine q_val E (y_subw rfl rfl) rfl rfl fun a E => ?_
      obtain ⟨c95, e96, hF⟩ := bnd hF
      refine q_val E (y_index Tryd.underlying9 rfl rfl e96) rfl rfl fun a E => ?_
      refine q_val E (y_move rfl) rfl rfl fun a E => ?_
      refine q_val E (y_move rfl) rfl rfl fun a E => ?_
      refine q_val E (y_move rfl) rfl rfl fun a E => ?_
      refine q_val E (y_subw rfl rfl) rfl rfl fun a E => ?_
      obtain ⟨c97, e98, hF⟩ := bnd hF
      refine q_val E (y_index Tryd.underlying9 rfl rfl e98) rfl rfl fun a E => ?_
      refine q_val E (y_neq rfl rfl) rfl rfl fun a E => ?_
      refine wpQuiet_nil ?_
      intro w ok
      refine t_norm ?_
      refine c_if E rfl (fun hc99 => ?_) (fun hc99 => ?_)
      · replace hF := cond_t hc99 hF
        cases hF
      replace hF := cond_f hc99 hF
      refine wp_skip ?_
      refine b_norm ?_
      refine t_norm ?_
      refine c_region ?_
      refine l_val E ok (y_move rfl) rfl rfl fun a E => ?_
      refine l_val E ok (y_add rfl rfl (InR.inc r93 (InR.len (runeStr_len _)) hc94)) rfl rfl fun a E => ?_
      refine l_val E ok (y_assign rfl) rfl rfl fun a E => ?_
      refine wpList_nil ?_
      obtain rfl := Option.some.inj hF
      exact step_n ⟨ok, E.keep [0, 7, 8, 9, 12], (InR.inc r93 (InR.len (runeStr_len _)) hc94)⟩
  replace hF := cond_t hc1 hF
  replace E := E.upd 163 hc1 rfl
  refine l_val E ok (y_move rfl) rfl rfl fun a E => ?_
  refine l_val E ok (y_lss rfl rfl) rfl rfl fun a E => ?_
  refine l_val E ok (y_pickT rfl rfl) rfl rfl fun a E => ?_
  refine l_val E ok (y_assign rfl) rfl rfl fun a E => ?_
  refine wpList_nil ?_
  refine t_norm ?_
  refine c_if E rfl (fun hc2 => ?_) (fun hc2 => ?_)
  · replace hF := cond_t hc2 hF
    refine wp_seq ?_
    refine c_region ?_
    refine l_val E ok (y_move rfl) rfl rfl fun a E => ?_
    refine l_val E ok (y_move rfl) rfl rfl fun a E => ?_
    refine l_val E ok (y_conv Tryd.underlying21 Tryd.underlying5 rfl) rfl rfl fun a E => ?_
    obtain ⟨r3, e4, hF⟩ := bnd hF
    refine l_call E go_59 rfl (strings_IndexByte_w N s_0 ls_0 (IntKind.wrap .u8 r_1) (InR.wrap _ _) e4 hG ok) rfl rfl ?_
    rintro _ w ⟨⟨rfl, ok⟩, r5⟩
    refine ⟨_, rfl, fun a E => ?_⟩
    refine l_val E ok (y_assign rfl) rfl rfl fun a E => ?_
    refine wpList_nil ?_
    refine t_norm ?_
    refine wp_ret ?_
    refine b_ret ?_
    have hret : strings_IndexRune_R u m0 S r3 a w := ⟨ok, E.d, ⟨rv_t E rfl, trivial⟩, r5⟩
    obtain rfl := Option.some.inj hF
    exact fin _ _ hret
  replace hF := cond_f hc2 hF
  refine wp_seq ?_
  refine c_region ?_
  refine l_val E ok (y_move rfl) rfl rfl fun a E => ?_
  refine l_val E ok (y_eql rfl rfl) rfl rfl fun a E => ?_
  refine l_val E ok (y_assign rfl) rfl rfl fun a E => ?_
  refine wpList_nil ?_
  refine t_norm ?_
  refine c_if E rfl (fun hc6 => ?_) (fun hc6 => ?_)
  · as_aux_lemma =>
      replace hF := cond_t hc6 hF
      refine wp_seq ?_
      refine wp_seq ?_
      refine c_region ?_
      refine l_val E ok (y_move rfl) rfl rfl fun a E => ?_
      refine l_range E ok Tryd.underlying9 rfl rfl rfl fun b7 a w E ok => ?_
      refine wpList_nil ?_
      refine t_norm ?_
      refine wp_block ?_
      obtain ⟨o8, hL, hF⟩ := bnd hF
      refine c_loop _ (fun (s : Nat) a w => Ok u m0 ([(b7, Obj.stringIter (bs s_0) s)] :: S) w ∧ Env 187 a [(175, (Value.pointer (some ⟨b7, 0, none⟩)))]) (fun (b : (Nat ⊕ Int)) e a w => (Sum.elim (fun b12 => e = (.exit 9) ∧ Ok u m0 ([(b7, Obj.stringIter (bs s_0) b12)] :: S) w ∧ Env 187 a []) (fun b13 => e = .ret ∧ strings_IndexRune_R u m0 S b13 a w)) b) ?_ ?_ N _ a w hL ⟨ok, E.keep [175]⟩
      rotate_left
      · intro e a w _ hO
        rcases o8 with o8 | o8
        rotate_left
        · replace hF := elim_r hF
          obtain ⟨rfl, hret⟩ := hO
          refine b_ret ?_
          refine t_ret ?_
          refine b_ret ?_
          obtain rfl := Option.some.inj hF
          exact fin _ _ hret
        replace hF := elim_l hF
        obtain ⟨rfl, ok, E⟩ := hO
        refine b_hit ?_
        refine t_norm ?_
        refine wp_seq ?_
        refine c_region ?_
        refine l_val E ok (y_assign rfl) rfl rfl fun a E => ?_
        refine wpList_nil ?_
        refine t_norm ?_
        refine wp_ret ?_
        refine b_ret ?_
        have hret : strings_IndexRune_R u m0 S (-1) a w := ⟨ok.drop, E.d, ⟨rv_t E rfl, trivial⟩, (show InR .i64 (-1) by decide)⟩
        obtain rfl := Option.some.inj hF
        exact fin _ _ hret
      rintro x_9 a w r ⟨ok, E⟩ hF
      replace hF : strings_IndexRune_b1 N s_0 x_9 = some r := hF
      unfold strings_IndexRune_b1 at hF
      refine wp_seq ?_
      refine c_region ?_
      refine bsplit (decide (x_9 < s_0.length)) (fun hc10 => ?_) (fun hc10 => ?_)
      rotate_left
      · replace hF := cond_f hc10 hF
        refine l_nextF E ok 0 rfl rfl hc10 rfl rfl fun a E => ?_
        refine l_val E ok (y_extract rfl rfl) rfl rfl fun a E => ?_
        refine wpList_nil ?_
        refine t_norm ?_
        refine wp_seq ?_
        refine c_if E rfl (fun h => by cases h) (fun _ => ?_)
        refine wp_exit ?_
        refine t_exit ?_
        obtain rfl := Option.some.inj hF
        exact step_o (by nofun) (sl ⟨rfl, ⟨ok, E.keep []⟩⟩)
      replace hF := cond_t hc10 hF
      refine l_nextT E ok 0 rfl rfl hc10 rfl rfl fun a w E ok => ?_
      refine l_val E ok (y_extract rfl rfl) rfl rfl fun a E => ?_
      refine wpList_nil ?_
      refine t_norm ?_
      refine wp_seq ?_
      refine c_if E rfl (fun _ => ?_) (fun h => by cases h)
      refine wp_skip ?_
      refine t_norm ?_
      refine wp_block ?_
      refine wp_seq ?_
      refine c_region ?_
      refine l_val E ok (y_extract rfl rfl) rfl rfl fun a E => ?_
      refine l_val E ok (y_extract rfl rfl) rfl rfl fun a E => ?_
      refine l_val E ok (y_assign rfl) rfl rfl fun a E => ?_
      refine l_val E ok (y_assign rfl) rfl rfl fun a E => ?_
      refine wpList_nil ?_
      refine t_norm ?_
      refine wp_seq ?_
      refine c_region ?_
      refine l_val E ok (y_move rfl) rfl rfl fun a E => ?_
      refine l_val E ok (y_eql rfl rfl) rfl rfl fun a E => ?_
      refine wpList_nil ?_
      refine t_norm ?_
      refine c_if E rfl (fun hc11 => ?_) (fun hc11 => ?_)
      rotate_left
      · replace hF := cond_f hc11 hF
        refine wp_skip ?_
        refine b_norm ?_
        obtain rfl := Option.some.inj hF
        exact step_n ⟨ok, E.keep [175]⟩
      replace hF := cond_t hc11 hF
      refine wp_seq ?_
      refine c_region ?_
      refine l_val E ok (y_move rfl) rfl rfl fun a E => ?_
      refine l_val E ok (y_assign rfl) rfl rfl fun a E => ?_
      refine wpList_nil ?_
      refine t_norm ?_
      refine wp_ret ?_
      refine b_ret ?_
      have hret : strings_IndexRune_R u m0 S (x_9 : Int) a w := ⟨ok.drop, E.d, ⟨rv_t E rfl, trivial⟩, (InR.len (Nat.le_trans (Nat.le_of_lt (of_decide_eq_true hc10)) ls_0))⟩
      obtain rfl := Option.some.inj hF
      exact step_o (by nofun) (sr ⟨rfl, hret⟩)
  replace hF := cond_f hc6 hF
  refine wp_seq ?_
  refine c_region ?_
  refine l_val E ok (y_move rfl) rfl rfl fun a E => ?_
  obtain ⟨r14, e15, hF⟩ := bnd hF
  refine l_call E go_60 rfl (unicode_utf8_ValidRune_w N r_1 rr_1 e15 hG ok) rfl rfl ?_
  rintro _ w ⟨rfl, ok⟩
  refine ⟨_, rfl, fun a E => ?_⟩
  refine l_val E ok (y_not rfl) rfl rfl fun a E => ?_
  refine l_val E ok (y_assign rfl) rfl rfl fun a E => ?_
  refine wpList_nil ?_
  refine t_norm ?_
  refine c_if E rfl (fun hc16 => ?_) (fun hc16 => ?_)
  · replace hF := cond_t hc16 hF
    refine wp_seq ?_
    refine c_region ?_
    refine l_val E ok (y_assign rfl) rfl rfl fun a E => ?_
    refine wpList_nil ?_
    refine t_norm ?_
    refine wp_ret ?_
    refine b_ret ?_
    have hret : strings_IndexRune_R u m0 S (-1) a w := ⟨ok, E.d, ⟨rv_t E rfl, trivial⟩, (show InR .i64 (-1) by decide)⟩
    obtain rfl := Option.some.inj hF
    exact fin _ _ hret
  replace hF := cond_f hc16 hF
  refine wp_scope_straight ?_
  refine wp_seq ?_
  refine c_region ?_
  refine l_val E ok (y_move rfl) rfl rfl fun a E => ?_
  refine l_val E ok (y_runestr Tryd.underlying21 Tryd.underlying9 rfl) rfl rfl fun a E => ?_
  refine l_val E ok (y_assign rfl) rfl rfl fun a E => ?_
  refine wpList_nil ?_
  refine t_norm ?_
  refine wp_seq ?_
  refine c_region ?_
  refine l_val E ok (y_move rfl) rfl rfl fun a E => ?_
  refine l_val E ok (y_slen Tryd.underlying9 rfl) rfl rfl fun a E => ?_
  refine l_val E ok (y_subw rfl rfl) rfl rfl fun a E => ?_
  refine l_val E ok (y_assign rfl) rfl rfl fun a E => ?_
  refine wpList_nil ?_
  refine t_norm ?_
  refine wp_seq ?_
  refine c_region ?_
  refine l_val E ok (y_move rfl) rfl rfl fun a E => ?_
  refine l_val E ok (y_assign rfl) rfl rfl fun a E => ?_
  refine wpList_nil ?_
  refine t_norm ?_
  refine wp_seq ?_
  refine c_region ?_
  refine l_val E ok (y_assign rfl) rfl rfl fun a E => ?_
  refine wpList_nil ?_
  refine t_norm ?_
  refine wp_seq ?_
  refine wp_block ?_
  obtain ⟨o18, hL, hF⟩ := bnd hF
  refine c_loop _ (fun (s : Int) a w => Ok u m0 (S) w ∧ Env 187 a [(0, (Value.string (bs s_0))), (7, (Value.string (bs (runeStr r_1)))), (8, (Value.int .i64 (IntKind.wrap .i64 (((runeStr r_1).length : Int) - 1)))), (9, (Value.int .i64 s))] ∧ InR .i64 s) (fun (b : (Unit ⊕ Int)) e a w => (Sum.elim (fun b52 => e = (.exit 1) ∧ Ok u m0 (S) w ∧ Env 187 a []) (fun b53 => e = .ret ∧ strings_IndexRune_R u m0 S b53 a w)) b) ?_ ?_ N _ a w hL ⟨ok, E.keep [0, 7, 8, 9], (InR.wrap _ _)⟩
  rotate_left
  · intro e a w _ hO
    rcases o18 with o18 | o18
    rotate_left
    · replace hF := elim_r hF
      obtain ⟨rfl, hret⟩ := hO
      refine b_ret ?_
      refine t_ret ?_
      refine s_ret ?_
      refine b_ret ?_
      obtain rfl := Option.some.inj hF
      exact fin _ _ hret
    replace hF := elim_l hF
    obtain ⟨rfl, ok, E⟩ := hO
    refine b_hit ?_
    refine t_norm ?_
    refine wp_seq ?_
    refine wp_seq ?_
    refine c_region ?_
    refine l_val E ok (y_assign rfl) rfl rfl fun a E => ?_
    refine wpList_nil ?_
    refine t_norm ?_
    refine wp_ret ?_
    refine t_ret ?_
    refine s_ret ?_
    refine b_ret ?_
    have hret : strings_IndexRune_R u m0 S (-1) a w := ⟨ok, E.d, ⟨rv_t E rfl, trivial⟩, (show InR .i64 (-1) by decide)⟩
    obtain rfl := Option.some.inj hF
    exact fin _ _ hret
  rintro i_20 a w r ⟨ok, E, r21⟩ hF
  replace hF : strings_IndexRune_b2 N s_0 r_1 i_20 = some r := hF
  unfold strings_IndexRune_b2 at hF
  refine wp_seq ?_
  refine wp_seq ?_
  refine c_region ?_
  refine l_val E ok (y_move rfl) rfl rfl fun a E => ?_
  refine l_val E ok (y_move rfl) rfl rfl fun a E => ?_
  refine l_val E ok (y_slen Tryd.underlying9 rfl) rfl rfl fun a E => ?_
  refine l_val E ok (y_lss rfl rfl) rfl rfl fun a E => ?_
  refine wpList_nil ?_
  refine t_norm ?_
  refine c_if E rfl (fun hc22 => ?_) (fun hc22 => ?_)
  rotate_left
  · replace hF := cond_f hc22 hF
    refine wp_exit ?_
    refine t_exit ?_
    obtain rfl := Option.some.inj hF
    exact step_o (by nofun) (sl ⟨rfl, ⟨ok, E.keep []⟩⟩)
  replace hF := cond_t hc22 hF
  refine wp_skip ?_
  refine t_norm ?_
  refine wp_block ?_
  refine wp_scope_straight ?_
  refine wp_seq ?_
  refine wp_seq ?_
  refine c_draw (by kernel_rfl) (by kernel_rfl) ok ?_
  refine q_val E (y_move rfl) rfl rfl fun a E => ?_
  refine q_val E (y_move rfl) rfl rfl fun a E => ?_
  obtain ⟨c23, e24, hF⟩ := bnd hF
  refine q_val E (y_index Tryd.underlying9 rfl rfl e24) rfl rfl fun a E => ?_
  refine q_val E (y_move rfl) rfl rfl fun a E => ?_
  refine q_val E (y_move rfl) rfl rfl fun a E => ?_
  obtain ⟨c25, e26, hF⟩ := bnd hF
  refine q_val E (y_index Tryd.underlying9 rfl rfl e26) rfl rfl fun a E => ?_
  refine q_val E (y_neq rfl rfl) rfl rfl fun a E => ?_
  refine wpQuiet_nil ?_
  intro w ok
  refine t_norm ?_
  obtain ⟨o27, hJ, hF⟩ := bnd hF
  refine c_mono (Q' := fun e a w => (Sum.elim (fun b28 => e = .normal ∧ Ok u m0 (S) w ∧ Env 187 a [(0, (Value.string (bs s_0))), (7, (Value.string (bs (runeStr r_1)))), (8, (Value.int .i64 (IntKind.wrap .i64 (((runeStr r_1).length : Int) - 1)))), (9, (Value.int .i64 b28))] ∧ InR .i64 b28) (fun b30 => e = .ret ∧ strings_IndexRune_R u m0 S b30 a w)) o27) ?_ ?_
  · replace hF := hJ
    clear hJ
    refine c_if E rfl (fun hc31 => ?_) (fun hc31 => ?_)
    rotate_left
    · replace hF := cond_f hc31 hF
      refine wp_skip ?_
      obtain rfl := Option.some.inj hF
      exact (sl ⟨rfl, ⟨ok, E.keep [0, 7, 8, 9], r21⟩⟩)
    replace hF := cond_t hc31 hF
    refine wp_seq ?_
    refine c_draw (by kernel_rfl) (by kernel_rfl) ok ?_
    refine q_val E (y_move rfl) rfl rfl fun a E => ?_
    refine q_val E (y_move rfl) rfl rfl fun a E => ?_
    refine q_val E (y_add rfl rfl (InR.inc r21 (InR.len ls_0) hc22)) rfl rfl fun a E => ?_
    obtain ⟨s32, e33, hF⟩ := bnd hF
    refine q_val E (y_sslice Tryd.underlying9 e33 rfl ⟨_, rfl⟩ rfl) rfl rfl fun a E => ?_
    refine q_val E (y_move rfl) rfl rfl fun a E => ?_
    refine q_val E (y_move rfl) rfl rfl fun a E => ?_
    obtain ⟨c34, e35, hF⟩ := bnd hF
    refine q_val E (y_index Tryd.underlying9 rfl rfl e35) rfl rfl fun a E => ?_
    obtain ⟨r36, e37, hF⟩ := bnd hF
    obtain ⟨_, _, ⟨_, _⟩, r38⟩ := Go.X.Calls.get (strings_IndexByte_w N s32 (Nat.le_trans (slc_len e33) ls_0) (c34.toNat : Int) (InR.byte c34) e37 hG ok)
    refine q_call E go_59 rfl (fun w ok => (strings_IndexByte_w N s32 (Nat.le_trans (slc_len e33) ls_0) (c34.toNat : Int) (InR.byte c34) e37 hG ok).mono (fun _ _ h => h.1)) rfl rfl fun a E => ?_
    refine q_val E (y_assign rfl) rfl rfl fun a E => ?_
    refine wpQuiet_nil ?_
    intro w ok
    refine t_norm ?_
    refine wp_seq ?_
    refine wp_seq ?_
    refine c_region ?_
    refine l_val E ok (y_move rfl) rfl rfl fun a E => ?_
    refine l_val E ok (y_lss rfl rfl) rfl rfl fun a E => ?_
    refine wpList_nil ?_
    refine t_norm ?_
    refine c_if E rfl (fun hc39 => ?_) (fun hc39 => ?_)
    · replace hF := cond_t hc39 hF
      refine wp_seq ?_
      refine c_region ?_
      refine l_val E ok (y_assign rfl) rfl rfl fun a E => ?_
      refine wpList_nil ?_
      refine t_norm ?_
      refine wp_ret ?_
      refine t_ret ?_
      have hret : strings_IndexRune_R u m0 S (-1) a w := ⟨ok, E.d, ⟨rv_t E rfl, trivial⟩, (show InR .i64 (-1) by decide)⟩
      obtain rfl := Option.some.inj hF
      exact (sr ⟨rfl, hret⟩)
    replace hF := cond_f hc39 hF
    refine wp_skip ?_
    refine t_norm ?_
    refine c_region ?_
    refine l_val E ok (y_move rfl) rfl rfl fun a E => ?_
    refine l_val E ok (y_move rfl) rfl rfl fun a E => ?_
    refine l_val E ok (y_addw rfl rfl) rfl rfl fun a E => ?_
    refine l_val E ok (y_addw rfl rfl) rfl rfl fun a E => ?_
    refine l_val E ok (y_assign rfl) rfl rfl fun a E => ?_
    refine wpList_nil ?_
    obtain rfl := Option.some.inj hF
    exact (sl ⟨rfl, ⟨ok, E.keep [0, 7, 8, 9], (InR.wrap _ _)⟩⟩)
  clear hJ
  intro e a w hO
  rcases o27 with o27 | o27
  rotate_left
  · replace hF := elim_r hF
    obtain ⟨rfl, hret⟩ := hO
    refine t_ret ?_
    refine s_ret ?_
    refine b_ret ?_
    obtain rfl := Option.some.inj hF
    exact step_o (by nofun) (sr ⟨rfl, hret⟩)
  replace hF := elim_l hF
  obtain ⟨rfl, ok, E, r40⟩ := hO
  refine t_norm ?_
  refine wp_seq ?_
  refine wp_seq ?_
  refine c_region ?_
  refine l_val E ok (y_assign rfl) rfl rfl fun a E => ?_
  refine wpList_nil ?_
  refine t_norm ?_
  refine wp_block ?_
  obtain ⟨o42, hL, hF⟩ := bnd hF
  refine c_loop _ (fun (s : Int) a w => Ok u m0 (S) w ∧ Env 187 a [(0, (Value.string (bs s_0))), (7, (Value.string (bs (runeStr r_1)))), (8, (Value.int .i64 (IntKind.wrap .i64 (((runeStr r_1).length : Int) - 1)))), (9, (Value.int .i64 o27)), (12, (Value.int .i64 s))] ∧ InR .i64 s) (fun (b : Unit) e a w => e = (.exit 3) ∧ Ok u m0 (S) w ∧ Env 187 a [(8, (Value.int .i64 (IntKind.wrap .i64 (((runeStr r_1).length : Int) - 1)))), (9, (Value.int .i64 o27))]) ?_ ?_ N _ a w hL ⟨ok, E.keep [0, 7, 8, 9, 12], (show InR .i64 (1) by decide)⟩
  rotate_left
  · intro e a w _ hO
    obtain ⟨rfl, ok, E⟩ := hO
    refine b_hit ?_
    refine t_norm ?_
    refine wp_seq ?_
    refine wp_seq ?_
    refine c_region ?_
    refine l_val E ok (y_move rfl) rfl rfl fun a E => ?_
    refine l_val E ok (y_move rfl) rfl rfl fun a E => ?_
    refine l_val E ok (y_subw rfl rfl) rfl rfl fun a E => ?_
    refine l_val E ok (y_assign rfl) rfl rfl fun a E => ?_
    refine wpList_nil ?_
    refine t_norm ?_
    refine wp_ret ?_
    refine t_ret ?_
    refine s_ret ?_
    refine b_ret ?_
    have hret : strings_IndexRune_R u m0 S (IntKind.wrap .i64 (o27 - (IntKind.wrap .i64 (((runeStr r_1).length : Int) - 1)))) a w := ⟨ok, E.d, ⟨rv_t E rfl, trivial⟩, (InR.wrap _ _)⟩
    obtain rfl := Option.some.inj hF
    exact step_o (by nofun) (sr ⟨rfl, hret⟩)
  rintro j_44 a w r ⟨ok, E, r45⟩ hF
  replace hF : strings_IndexRune_b3 N s_0 r_1 o27 j_44 = some r := hF
  unfold strings_IndexRune_b3 at hF
  refine wp_seq ?_
  refine wp_seq ?_
  refine c_region ?_
  refine l_val E ok (y_move rfl) rfl rfl fun a E => ?_
  refine l_val E ok (y_move rfl) rfl rfl fun a E => ?_
  refine l_val E ok (y_slen Tryd.underlying9 rfl) rfl rfl fun a E => ?_
  refine l_val E ok (y_lss rfl rfl) rfl rfl fun a E => ?_
  refine wpList_nil ?_
  refine t_norm ?_
  refine c_if E rfl (fun hc46 => ?_) (fun hc46 => ?_)
  rotate_left
  · replace hF := cond_f hc46 hF
    refine wp_exit ?_
    refine t_exit ?_
    obtain rfl := Option.some.inj hF
    exact step_o (by nofun) (⟨rfl, ⟨ok, E.keep [8, 9]⟩⟩)
  replace hF := cond_t hc46 hF
  refine wp_skip ?_
  refine t_norm ?_
  refine wp_seq ?_
  refine wp_block ?_
  refine wp_seq ?_
  refine c_draw (by kernel_rfl) (by kernel_rfl) ok ?_
  refine q_val E (y_move rfl) rfl rfl fun a E => ?_
  refine q_val E (y_move rfl) rfl rfl fun a E => ?_
  refine q_val E (y_move rfl) rfl rfl fun a E => ?_
  refine q_val E (y_subw rfl rfl) rfl rfl fun a E => ?_
  obtain ⟨c47, e48, hF⟩ := bnd hF
  refine q_val E (y_index Tryd.underlying9 rfl rfl e48) rfl rfl fun a E => ?_
  refine q_val E (y_move rfl) rfl rfl fun a E => ?_
  refine q_val E (y_move rfl) rfl rfl fun a E => ?_
  refine q_val E (y_move rfl) rfl rfl fun a E => ?_
  refine q_val E (y_subw rfl rfl) rfl rfl fun a E => ?_
  obtain ⟨c49, e50, hF⟩ := bnd hF
  refine q_val E (y_index Tryd.underlying9 rfl rfl e50) rfl rfl fun a E => ?_
  refine q_val E (y_neq rfl rfl) rfl rfl fun a E => ?_
  refine wpQuiet_nil ?_
  intro w ok
  refine t_norm ?_
  refine c_if E rfl (fun hc51 => ?_) (fun hc51 => ?_)
  · replace hF := cond_t hc51 hF
    cases hF
  replace hF := cond_f hc51 hF
  refine wp_skip ?_
  refine b_norm ?_
  refine t_norm ?_
  refine c_region ?_
  refine l_val E ok (y_move rfl) rfl rfl fun a E => ?_
  refine l_val E ok (y_add rfl rfl (InR.inc r45 (InR.len (runeStr_len _)) hc46)) rfl rfl fun a E => ?_
  refine l_val E ok (y_assign rfl) rfl rfl fun a E => ?_
  refine wpList_nil ?_
  obtain rfl := Option.some.inj hF
  exact step_n ⟨ok, E.keep [0, 7, 8, 9, 12], (InR.inc r45 (InR.len (runeStr_len _)) hc46)⟩

def strings_shouldUseASCIISet_R (u : World) (m0 : Mem) (S : Segs) (r : Bool) (a : Act) (w : World) : Prop :=
  Ok u m0 S w ∧ a.defers = [] ∧ RVs Tryd.prog a w [.t 2 (.bool r)]
set_option maxHeartbeats 4000000 in
set_option maxRecDepth 100000 in
theorem strings_shouldUseASCIISet_w {u : World} {m0 : Mem} {S : Segs} {w : World} (N : Nat) (bufLen_0 : Int) (rbufLen_0 : InR .i64 bufLen_0) {r : Bool} (hF : strings_shouldUseASCIISet N bufLen_0 = some r) (hG : Glob u) (ok : Ok u m0 S w) :
    Calls Tryd.prog 46 [Value.int .i64 bufLen_0].toArray w fun e w' => (e = .returned (.bool r) ∧ Ok u m0 S w') := by
  have hb0 := ok.base
  have le_m0 := Mem.le.refl m0
  unfold strings_shouldUseASCIISet at hF
  have fin : ∀ a w, strings_shouldUseASCIISet_R u m0 S r a w → bodyPost Tryd.prog Tryd.f46 (fun e w' => (e = .returned (.bool r) ∧ Ok u m0 S w')) .ret a w := by
    intro a w h
    obtain ⟨ok, hd, hrv⟩ := h
    exact c_ret2 [.t 2 (.bool r)] hd rfl hrv ⟨rfl, ok⟩
  refine enter Tryd.func46 rfl rfl rfl fun a E => ?_
  refine wp_seq ?_
  refine c_region ?_
  refine l_val E ok (y_assign rfl) rfl rfl fun a E => ?_
  refine wpList_nil ?_
  refine t_norm ?_
  refine wp_seq ?_
  refine c_region ?_
  refine l_val E ok (y_move rfl) rfl rfl fun a E => ?_
  refine l_val E ok (y_gtr rfl rfl) rfl rfl fun a E => ?_
  refine l_val E ok (y_assign rfl) rfl rfl fun a E => ?_
  refine wpList_nil ?_
  refine t_norm ?_
  refine wp_ret ?_
  have hret : strings_shouldUseASCIISet_R u m0 S (decide (bufLen_0 > 8)) a w := ⟨ok, E.d, ⟨rv_t E rfl, trivial⟩⟩
  obtain rfl := Option.some.inj hF
  exact fin _ _ hret

def small_IndexAny_R (u : World) (m0 : Mem) (S : Segs) (r : Int) (a : Act) (w : World) : Prop :=
  Ok u m0 S w ∧ a.defers = [] ∧ RVs Tryd.prog a w [.t 4 (.int .i64 r)] ∧ InR .i64 r
set_option maxHeartbeats 4000000 in
set_option maxRecDepth 100000 in
theorem small_IndexAny_w {u : World} {m0 : Mem} {S : Segs} {w : World} (N : Nat) (s_0 : List UInt8) (ls_0 : s_0.length ≤ LIMS) (chars_1 : List UInt8) (lchars_1 : chars_1.length ≤ LIMS) {r : Int} (hF : small_IndexAny N s_0 chars_1 = some r) (hG : Glob u) (ok : Ok u m0 S w) :
    Calls Tryd.prog 37 [Value.string (bs s_0), Value.string (bs chars_1)].toArray w fun e w' => (e = .returned (.int .i64 r) ∧ Ok u m0 S w') ∧ InR .i64 r := by
  have hb0 := ok.base
  have le_m0 := Mem.le.refl m0
  unfold small_IndexAny at hF
  have fin : ∀ a w, small_IndexAny_R u m0 S r a w → bodyPost Tryd.prog Tryd.f37 (fun e w' => (e = .returned (.int .i64 r) ∧ Ok u m0 S w') ∧ InR .i64 r) .ret a w := by
    intro a w h
    obtain ⟨ok, hd, hrv, h0⟩ := h
    exact c_ret2 [.t 4 (.int .i64 r)] hd rfl hrv ⟨⟨rfl, ok⟩, h0⟩
  refine enter Tryd.func37 rfl rfl rfl fun a E => ?_
  refine wp_seq ?_
  refine c_region ?_
  refine l_val E ok (y_assign rfl) rfl rfl fun a E => ?_
  refine wpList_nil ?_
  refine t_norm ?_
  refine wp_seq ?_
  refine wp_seq ?_
  refine c_region ?_
  refine l_val E ok (y_move rfl) rfl rfl fun a E => ?_
  refine l_val E ok (y_seql rfl rfl) rfl rfl fun a E => ?_
  refine wpList_nil ?_
  refine t_norm ?_
  refine c_if E rfl (fun hc1 => ?_) (fun hc1 => ?_)
  · replace hF := cond_t hc1 hF
    refine wp_seq ?_
    refine c_region ?_
    refine l_val E ok (y_assign rfl) rfl rfl fun a E => ?_
    refine wpList_nil ?_
    refine t_norm ?_
    refine wp_ret ?_
    refine t_ret ?_
    have hret : small_IndexAny_R u m0 S (-1) a w := ⟨ok, E.d, ⟨rv_t E rfl, trivial⟩, (show InR .i64 (-1) by decide)⟩
    obtain rfl := Option.some.inj hF
    exact fin _ _ hret
  replace hF := cond_f hc1 hF
  refine wp_skip ?_
  refine t_norm ?_
  refine wp_seq ?_
  refine wp_seq ?_
  refine c_region ?_
  refine l_val E ok (y_move rfl) rfl rfl fun a E => ?_
  refine l_val E ok (y_slen Tryd.underlying9 rfl) rfl rfl fun a E => ?_
  refine l_val E ok (y_eql rfl rfl) rfl rfl fun a E => ?_
  refine wpList_nil ?_
  refine t_norm ?_
  refine c_if E rfl (fun hc2 => ?_) (fun hc2 => ?_)
  · replace hF := cond_t hc2 hF
    refine wp_seq ?_
    refine c_region ?_
    refine l_val E ok (y_move rfl) rfl rfl fun a E => ?_
    obtain ⟨c3, e4, hF⟩ := bnd hF
    refine l_val E ok (y_index Tryd.underlying9 rfl rfl e4) rfl rfl fun a E => ?_
    refine l_val E ok (y_convw Tryd.underlying5 Tryd.underlying21 rfl (InR.byte c3) (by decide)) rfl rfl fun a E => ?_
    refine l_val E ok (y_assign rfl) rfl rfl fun a E => ?_
    refine wpList_nil ?_
    refine t_norm ?_
    refine wp_seq ?_
    refine wp_seq ?_
    refine c_region ?_
    refine l_val E ok (y_move rfl) rfl rfl fun a E => ?_
    refine l_val E ok (y_geq rfl rfl) rfl rfl fun a E => ?_
    refine wpList_nil ?_
    refine t_norm ?_
    obtain ⟨o5, hJ, hF⟩ := bnd hF
    refine c_mono (Q' := fun e a w => e = .normal ∧ Ok u m0 (S) w ∧ Env 55 a [(0, (Value.string (bs s_0))), (5, (Value.int .i32 o5))] ∧ InR .i32 o5) ?_ ?_
    · replace hF := hJ
      clear hJ
      refine c_if E rfl (fun hc7 => ?_) (fun hc7 => ?_)
      rotate_left
      · replace hF := cond_f hc7 hF
        refine wp_skip ?_
        obtain rfl := Option.some.inj hF
        exact ⟨rfl, ⟨ok, E.keep [0, 5], (InR.widen (InR.byte c3) (by decide))⟩⟩
      replace hF := cond_t hc7 hF
      refine c_region ?_
      refine l_val E ok (y_assign rfl) rfl rfl fun a E => ?_
      refine wpList_nil ?_
      obtain rfl := Option.some.inj hF
      exact ⟨rfl, ⟨ok, E.keep [0, 5], (show InR .i32 (65533) by decide)⟩⟩
    clear hJ
    intro e a w hO
    obtain ⟨rfl, ok, E, r8⟩ := hO
    refine t_norm ?_
    refine wp_seq ?_
    refine c_region ?_
    refine l_val E ok (y_move rfl) rfl rfl fun a E => ?_
    refine l_val E ok (y_move rfl) rfl rfl fun a E => ?_
    obtain ⟨r9, e10, hF⟩ := bnd hF
    refine l_call E go_45 rfl (strings_IndexRune_w N s_0 ls_0 o5 r8 e10 hG ok) rfl rfl ?_
    rintro _ w ⟨⟨rfl, ok⟩, r11⟩
    refine ⟨_, rfl, fun a E => ?_⟩
    refine l_val E ok (y_assign rfl) rfl rfl fun a E => ?_
    refine wpList_nil ?_
    refine t_norm ?_
    refine wp_ret ?_
    refine t_ret ?_
    have hret : small_IndexAny_R u m0 S r9 a w := ⟨ok, E.d, ⟨rv_t E rfl, trivial⟩, r11⟩
    obtain rfl := Option.some.inj hF
    exact fin _ _ hret
  replace hF := cond_f hc2 hF
  refine wp_skip ?_
  refine t_norm ?_
  refine wp_seq ?_
  refine wp_seq ?_
  refine c_region ?_
  refine l_val E ok (y_move rfl) rfl rfl fun a E => ?_
  refine l_val E ok (y_slen Tryd.underlying9 rfl) rfl rfl fun a E => ?_
  obtain ⟨r12, e13, hF⟩ := bnd hF
  refine l_call E go_46 rfl (strings_shouldUseASCIISet_w N (s_0.length : Int) (InR.len ls_0) e13 hG ok) rfl rfl ?_
  rintro _ w ⟨rfl, ok⟩
  refine ⟨_, rfl, fun a E => ?_⟩
  refine wpList_nil ?_
  refine t_norm ?_
  obtain ⟨o14, hJ, hF⟩ := bnd hF
  refine c_mono (Q' := fun e a w => (Sum.elim (fun b15 => e = .normal ∧ Ok u m0 (S) w ∧ Env 55 a [(0, (Value.string (bs s_0))), (1, (Value.string (bs chars_1)))]) (fun b16 => e = .ret ∧ small_IndexAny_R u m0 S b16 a w)) o14) ?_ ?_
  · replace hF := hJ
    clear hJ
    refine c_if E rfl (fun hc17 => ?_) (fun hc17 => ?_)
    · replace hF := cond_t hc17 hF
      refine wp_seq ?_
      cases hF
    replace hF := cond_f hc17 hF
    refine wp_skip ?_
    obtain rfl := Option.some.inj hF
    exact (sl ⟨rfl, ⟨ok, E.keep [0, 1]⟩⟩)
  clear hJ
  intro e a w hO
  rcases o14 with o14 | o14
  rotate_left
  · replace hF := elim_r hF
    obtain ⟨rfl, hret⟩ := hO
    refine t_ret ?_
    obtain rfl := Option.some.inj hF
    exact fin _ _ hret
  replace hF := elim_l hF
  obtain ⟨rfl, ok, E⟩ := hO
  refine t_norm ?_
  refine wp_seq ?_
  refine wp_seq ?_
  refine c_region ?_
  refine l_val E ok (y_move rfl) rfl rfl fun a E => ?_
  refine l_range E ok Tryd.underlying9 rfl rfl rfl fun b18 a w E ok => ?_
  refine wpList_nil ?_
  refine t_norm ?_
  refine wp_block ?_
  obtain ⟨o19, hL, hF⟩ := bnd hF
  refine c_loop _ (fun (s : Nat) a w => Ok u m0 ([(b18, Obj.stringIter (bs s_0) s)] :: S) w ∧ Env 55 a [(1, (Value.string (bs chars_1))), (45, (Value.pointer (some ⟨b18, 0, none⟩)))]) (fun (b : (Nat ⊕ Int)) e a w => (Sum.elim (fun b26 => e = (.exit 2) ∧ Ok u m0 ([(b18, Obj.stringIter (bs s_0) b26)] :: S) w ∧ Env 55 a []) (fun b27 => e = .ret ∧ small_IndexAny_R u m0 S b27 a w)) b) ?_ ?_ N _ a w hL ⟨ok, E.keep [1, 45]⟩
  rotate_left
  · intro e a w _ hO
    rcases o19 with o19 | o19
    rotate_left
    · replace hF := elim_r hF
      obtain ⟨rfl, hret⟩ := hO
      refine b_ret ?_
      refine t_ret ?_
      obtain rfl := Option.some.inj hF
      exact fin _ _ hret
    replace hF := elim_l hF
    obtain ⟨rfl, ok, E⟩ := hO
    refine b_hit ?_
    refine t_norm ?_
    refine wp_seq ?_
    refine c_region ?_
    refine l_val E ok (y_assign rfl) rfl rfl fun a E => ?_
    refine wpList_nil ?_
    refine t_norm ?_
    refine wp_ret ?_
    have hret : small_IndexAny_R u m0 S (-1) a w := ⟨ok.drop, E.d, ⟨rv_t E rfl, trivial⟩, (show InR .i64 (-1) by decide)⟩
    obtain rfl := Option.some.inj hF
    exact fin _ _ hret
  rintro x_20 a w r ⟨ok, E⟩ hF
  replace hF : small_IndexAny_b1 N s_0 chars_1 x_20 = some r := hF
  unfold small_IndexAny_b1 at hF
  refine wp_seq ?_
  refine c_region ?_
  refine bsplit (decide (x_20 < s_0.length)) (fun hc21 => ?_) (fun hc21 => ?_)
  rotate_left
  · replace hF := cond_f hc21 hF
    refine l_nextF E ok 0 rfl rfl hc21 rfl rfl fun a E => ?_
    refine l_val E ok (y_extract rfl rfl) rfl rfl fun a E => ?_
    refine wpList_nil ?_
    refine t_norm ?_
    refine wp_seq ?_
    refine c_if E rfl (fun h => by cases h) (fun _ => ?_)
    refine wp_exit ?_
    refine t_exit ?_
    obtain rfl := Option.some.inj hF
    exact step_o (by nofun) (sl ⟨rfl, ⟨ok, E.keep []⟩⟩)
  replace hF := cond_t hc21 hF
  refine l_nextT E ok 0 rfl rfl hc21 rfl rfl fun a w E ok => ?_
  refine l_val E ok (y_extract rfl rfl) rfl rfl fun a E => ?_
  refine wpList_nil ?_
  refine t_norm ?_
  refine wp_seq ?_
  refine c_if E rfl (fun _ => ?_) (fun h => by cases h)
  refine wp_skip ?_
  refine t_norm ?_
  refine wp_block ?_
  refine wp_seq ?_
  refine c_region ?_
  refine l_val E ok (y_extract rfl rfl) rfl rfl fun a E => ?_
  refine l_val E ok (y_extract rfl rfl) rfl rfl fun a E => ?_
  refine l_val E ok (y_assign rfl) rfl rfl fun a E => ?_
  refine l_val E ok (y_assign rfl) rfl rfl fun a E => ?_
  refine wpList_nil ?_
  refine t_norm ?_
  refine wp_seq ?_
  refine c_region ?_
  refine l_val E ok (y_move rfl) rfl rfl fun a E => ?_
  refine l_val E ok (y_move rfl) rfl rfl fun a E => ?_
  obtain ⟨r22, e23, hF⟩ := bnd hF
  refine l_call E go_45 rfl (strings_IndexRune_w N chars_1 lchars_1 (runeAt s_0 x_20) (runeAt_InR _ _) e23 hG ok) rfl rfl ?_
  rintro _ w ⟨⟨rfl, ok⟩, r24⟩
  refine ⟨_, rfl, fun a E => ?_⟩
  refine l_val E ok (y_geq rfl rfl) rfl rfl fun a E => ?_
  refine wpList_nil ?_
  refine t_norm ?_
  refine c_if E rfl (fun hc25 => ?_) (fun hc25 => ?_)
  rotate_left
  · replace hF := cond_f hc25 hF
    refine wp_skip ?_
    refine b_norm ?_
    obtain rfl := Option.some.inj hF
    exact step_n ⟨ok, E.keep [1, 45]⟩
  replace hF := cond_t hc25 hF
  refine wp_seq ?_
  refine c_region ?_
  refine l_val E ok (y_move rfl) rfl rfl fun a E => ?_
  refine l_val E ok (y_assign rfl) rfl rfl fun a E => ?_
  refine wpList_nil ?_
  refine t_norm ?_
  refine wp_ret ?_
  refine b_ret ?_
  have hret : small_IndexAny_R u m0 S (x_20 : Int) a w := ⟨ok.drop, E.d, ⟨rv_t E rfl, trivial⟩, (InR.len (Nat.le_trans (Nat.le_of_lt (of_decide_eq_true hc21)) ls_0))⟩
  obtain rfl := Option.some.inj hF
  exact step_o (by nofun) (sr ⟨rfl, hret⟩)

end Go.Proofs.YtnmiodonophfbaaDoor
