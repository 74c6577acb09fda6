/- Closures, pointers to owned boxes, great arrays, pointers that read as data. -/
import Derived.Test.YtmmioinglmeoiaaLibL
import Derived.Laws.StructEq
import Derived.ChangeKeysEq
set_option linter.unusedVariables false
namespace Go.X

section
variable {P : Program} {C : World → Prop} {L : List (Nat × Value)} {ty : TypeId}
theorem evs_vals {ρ : Operand → Value} (E : ∀ {x v}, ev L x = some v → ρ x = v) : ∀ {xs : List Operand} {vs : List Value}, evs L xs = some vs → xs.map ρ = vs
  | [], _, h => by simpa [evs] using h
  | x :: xs, vs, h => by
    simp only [evs] at h
    cases hx : ev L x with
    | none => rw [hx] at h; cases h
    | some v =>
      cases hr : evs L xs with
      | none => rw [hx, hr] at h; cases h
      | some r =>
        rw [hx, hr] at h
        simp only [Option.some.injEq] at h
        subst h
        simp [E hx, evs_vals E hr]
theorem y_makeFunc {g : Nat} {caps : List Operand} {vs : List Value} (h : evs L caps = some vs) : Yields P C L (.makeFunc (.func g) #[] caps.toArray) ty (.func (.func g) #[] vs.toArray) := by
  intro ρ w dst pos after gd E ok
  have := evs_vals E h
  simp [execOp, Instr.makeFunc, this, go_sem]
theorem y_nilCheck {x : Operand} {a : Addr} (hx : ev L x = some (.pointer (some a))) : Yields P C L (.nilCheck x) ty (.pointer (some a)) := by
  intro ρ w dst pos after g E ok
  simp [execOp, E hx, go_sem]
end

section
variable {P : Program} {Q : Exit → Act → World → Prop} {n : Nat} {L : List (Nat × Value)} {l rest : List Oper} {a : Act} {w u : World} {m : Mem} {S : Segs} {d : Nat} {ty : TypeId} {pos : String} {after : Array Edge} {g : Option (Nat × Bool)}
/-- The call of a closure. -/
theorem l_callc {X : Operand} {f : Nat} {xs : List Operand} {ats : Array TypeId} {vs cs : List Value} {R : Ending → World → Prop} (E : Env n a L) (hX : ev L X = some (.func (.func f) #[] cs.toArray)) (hf : goB P f = true) (hx : evs L xs = some vs) (hc : Calls P f (vs ++ cs).toArray w R) (hg : want l L g = some true) (hd : Nat.blt d n = true)
    (K : ∀ e w', R e w' → ∃ v, e = .returned v ∧ ∀ a', Env n a' ((d, v) :: L) → wpList P l.toArray Q rest a' w') :
    wpList P l.toArray Q (⟨some d, .call { callee := .value X, args := xs.toArray, argTypes := ats }, ty, pos, after, g⟩ :: rest) a w := by
  refine wpList_step fun K' hK' => ?_
  rw [E.want (o := ⟨some d, _, ty, pos, after, g⟩) hg, if_pos rfl]
  unfold Oper.wp
  have hargs : xs.toArray.map a.eval = vs.toArray := by rw [List.map_toArray, E.evs hx]
  have : execOp a.eval ⟨some d, .call { callee := .value X, args := xs.toArray, argTypes := ats }, ty, pos, after, g⟩ = callFunc f (#[] ++ xs.toArray.map a.eval ++ cs.toArray) := by simp only [execOp, resolve, E.ev hX]; rfl
  rw [this, hargs, run_callFunc hf]
  have e2 : (#[] ++ vs.toArray ++ cs.toArray : Array Value) = (vs ++ cs).toArray := by simp
  rw [e2]
  simp only [Oper.upon]
  refine hc.mono fun e w' hr => ?_
  obtain ⟨v, rfl, h⟩ := K e w' hr
  exact hK' _ _ (h _ (E.put d v hd))
theorem q_callc {X : Operand} {f : Nat} {xs : List Operand} {ats : Array TypeId} {vs cs : List Value} {v : Value} {Q : Act → Prop} (E : Env n a L) (hX : ev L X = some (.func (.func f) #[] cs.toArray)) (hf : goB P f = true) (hx : evs L xs = some vs) (hc : ∀ w, Ok u m S w → Calls P f (vs ++ cs).toArray w fun e w' => e = .returned v ∧ Ok u m S w') (hg : want l L g = some true) (hd : Nat.blt d n = true)
    (K : ∀ a', Env n a' ((d, v) :: L) → wpQuiet P l.toArray (Ok u m S) Q rest a') :
    wpQuiet P l.toArray (Ok u m S) Q (⟨some d, .call { callee := .value X, args := xs.toArray, argTypes := ats }, ty, pos, after, g⟩ :: rest) a := by
  refine wpQuiet_step fun K' hK' => ?_
  rw [E.want (o := ⟨some d, _, ty, pos, after, g⟩) hg, if_pos rfl]
  refine ⟨v, fun w hw => ?_, hK' _ (K _ (E.put d v hd))⟩
  have hargs : xs.toArray.map a.eval = vs.toArray := by rw [List.map_toArray, E.evs hx]
  have : execOp a.eval ⟨some d, .call { callee := .value X, args := xs.toArray, argTypes := ats }, ty, pos, after, g⟩ = callFunc f (#[] ++ xs.toArray.map a.eval ++ cs.toArray) := by simp only [execOp, resolve, E.ev hX]; rfl
  unfold Oper.quietAt
  rw [this, hargs, run_callFunc hf]
  have e2 : (#[] ++ vs.toArray ++ cs.toArray : Array Value) = (vs ++ cs).toArray := by simp
  rw [e2]
  simp only [Oper.quietUpon]
  exact ⟨trivial, hc w hw⟩
/-- A call whose result nobody keeps. -/
theorem l_call0 {f : Nat} {xs : List Operand} {ats : Array TypeId} {vs : List Value} {R : Ending → World → Prop} (E : Env n a L) (hf : goB P f = true) (hx : evs L xs = some vs) (hc : Calls P f vs.toArray w R) (hg : want l L g = some true)
    (K : ∀ e w', R e w' → ∃ v, e = .returned v ∧ wpList P l.toArray Q rest a w') :
    wpList P l.toArray Q (⟨none, .call { callee := .value (.func f), args := xs.toArray, argTypes := ats }, ty, pos, after, g⟩ :: rest) a w := by
  refine wpList_step fun K' hK' => ?_
  rw [E.want (o := ⟨none, _, ty, pos, after, g⟩) hg, if_pos rfl]
  unfold Oper.wp
  have hargs : xs.toArray.map a.eval = vs.toArray := by rw [List.map_toArray, E.evs hx]
  have : execOp a.eval ⟨none, .call { callee := .value (.func f), args := xs.toArray, argTypes := ats }, ty, pos, after, g⟩ = callFunc f (#[] ++ xs.toArray.map a.eval ++ #[]) := rfl
  rw [this, hargs, run_callFunc hf]
  simp only [Array.empty_append, Array.append_empty, Oper.upon]
  refine hc.mono fun e w' hr => ?_
  obtain ⟨v, rfl, h⟩ := K e w' hr
  exact hK' _ _ h
end

/-! ### pointers that read as data -/
section
variable {α : Type} {k : Nat} {R : Rp α} {m m' : Mem} {v : Value}
/-- v points to what reads as x. -/
def pP {α : Type} (k : Nat) (R : Rp α) : Rp (Option α) := fun m cs x =>
  match x with
  | none => cs = [.pointer none]
  | some y => ∃ b o es, cs = [.pointer (some ⟨b, o, none⟩)] ∧ es.length = k ∧ At m b o es ∧ R m es y
theorem mP (M : Mono R) : Mono (pP k R) := ⟨fun {m m' cs x} hm h => by
  cases x with
  | none => exact h
  | some y =>
    obtain ⟨b, o, es, h1, h2, h3, h4⟩ := h
    exact ⟨b, o, es, h1, h2, h3.up hm, M.up hm h4⟩, fun {m cs x} h => by
  cases x with
  | none => rw [show cs = _ from h]; exact ⟨rfl, trivial⟩
  | some y =>
    obtain ⟨b, o, es, h1, _⟩ := h
    rw [h1]; exact ⟨rfl, trivial⟩⟩
theorem pP_nil : pP k R m [.pointer none] none := rfl
theorem pP_one {x : Option α} (h : pP k R m [v] x) : v.oneCell' = true := by
  cases x with
  | none => have := (List.cons.inj (show [v] = [.pointer none] from h)).1; subst this; rfl
  | some y =>
    obtain ⟨b, o, es, h1, _⟩ := h
    have := (List.cons.inj h1).1
    subst this; rfl
theorem pP_cells {x : Option α} (h : pP k R m [v] x) : v.cells.toList = [v] := by
  cases x with
  | none => have := (List.cons.inj (show [v] = [.pointer none] from h)).1; subst this; rfl
  | some y =>
    obtain ⟨b, o, es, h1, _⟩ := h
    have := (List.cons.inj h1).1
    subst this; rfl
theorem pP_cell {es : List Value} {x : Option α} (h : pP k R m es x) : ∃ v, es = [v] ∧ pP k R m [v] x := by
  cases x with
  | none => have e : es = _ := h; subst e; exact ⟨_, rfl, rfl⟩
  | some y =>
    obtain ⟨b, o, ds, h1, h2⟩ := h
    subst h1
    exact ⟨_, rfl, b, o, ds, rfl, h2⟩
theorem pP_some {x : Option α} {y : α} (h : pP k R m [v] x) (hx : x = some y) : ∃ b o es, v = .pointer (some ⟨b, o, none⟩) ∧ es.length = k ∧ R m es y ∧ At m b o es := by
  subst hx
  obtain ⟨b, o, es, h1, h2, h3, h4⟩ := h
  exact ⟨b, o, es, (List.cons.inj h1).1, h2, h4, h3⟩
/-- An own box, frozen: its pointer reads as data. -/
theorem pP_froz {b : Nat} {T : TypeId} {cs : List Value} {x : α} (M : Mono R) (hR : R m cs x) (hle : m.le m') (hf : ∀ p ∈ [(b, Obj.cells cs.toArray T (0, 0))], m' p.1 = some p.2) (hk : cs.length = k) : pP k R m' [.pointer (some ⟨b, 0, none⟩)] (some x) := by
  refine ⟨b, 0, cs, rfl, hk, fun j v hj => ?_, M.up hle hR⟩
  have := hf (b, Obj.cells cs.toArray T (0, 0)) (by simp)
  simp only at this
  simp [Mem.cell, this, hj]
section
variable {P : Program} {C : World → Prop} {L : List (Nat × Value)} {ty : TypeId}
theorem run_ptr_nil {t e : TypeId} {w : World} (ht : P.underlying t = some (.pointer e)) (q : Option Addr) : (Op.equal t (.pointer q) (.pointer none)).run P w = .ok q.isNone w := by
  cases q with
  | none => unfold Op.equal Op.maxDepth Op.equalIn; simp [run_underlying ht, go_sem]
  | some a => unfold Op.equal Op.maxDepth Op.equalIn; simp [run_underlying ht, go_sem]
theorem y_pnil {x y : Operand} {t t' e : TypeId} {z : Option α} {m : Mem} (ht : P.underlying t = some (.pointer e)) (h : pP k R m [v] z) (hx : ev L x = some v) (hy : ev L y = some (.pointer none)) :
    Yields P C L (.binOp .eql t x y t') ty (.bool z.isNone) := by
  intro ρ w dst pos after g E ok
  obtain ⟨q, rfl, hq⟩ : ∃ q, v = .pointer q ∧ q.isNone = z.isNone := by
    cases z with
    | none => have := (List.cons.inj (show [v] = [.pointer none] from h)).1; subst this; exact ⟨none, rfl, rfl⟩
    | some y =>
      obtain ⟨b, o, es, h1, _⟩ := h
      exact ⟨_, (List.cons.inj h1).1, rfl⟩
  have h2 : binOp .eql t (.pointer q) (.pointer none) = (do pure (.bool (← Op.equal t (.pointer q) (.pointer none)))) := rfl
  simp only [execOp, E hx, E hy, eqGuard, h2]
  have := run_ptr_nil (w := w) ht q
  cases q <;> simp_all [Result.andThen]
theorem y_pnnil {x y : Operand} {t t' e : TypeId} {z : Option α} {m : Mem} (ht : P.underlying t = some (.pointer e)) (h : pP k R m [v] z) (hx : ev L x = some v) (hy : ev L y = some (.pointer none)) :
    Yields P C L (.binOp .neq t x y t') ty (.bool z.isSome) := by
  intro ρ w dst pos after g E ok
  obtain ⟨q, rfl, hq⟩ : ∃ q, v = .pointer q ∧ q.isNone = z.isNone := by
    cases z with
    | none => have := (List.cons.inj (show [v] = [.pointer none] from h)).1; subst this; exact ⟨none, rfl, rfl⟩
    | some y =>
      obtain ⟨b, o, es, h1, _⟩ := h
      exact ⟨_, (List.cons.inj h1).1, rfl⟩
  have h2 : binOp .neq t (.pointer q) (.pointer none) = (do pure (.bool (!(← Op.equal t (.pointer q) (.pointer none))))) := rfl
  simp only [execOp, E hx, E hy, eqGuard, h2]
  have := run_ptr_nil (w := w) ht q
  cases q <;> cases z <;> simp_all [Result.andThen]
end
end

/-! ### great arrays of scalars, in a box of their own -/
/-- The array's cells read as xs, n of them, each of which is q. -/
def GAr {α : Type} (f : α → Value) (q : α → Prop) (n : Nat) (xs : List α) : Prop := xs.length = n ∧ ∀ x ∈ xs, q x
section
variable {P : Program} {C : World → Prop} {L : List (Nat × Value)} {ty : TypeId}
theorem idx_mem {α : Type} {xs : List α} {p : Int} {x : α} (h : idx xs p = some x) : x ∈ xs := by
  unfold idx at h
  split at h
  · exact List.mem_of_getElem? h
  · cases h
/-- An element's address in an array of n elements of one cell each. -/
theorem y_arAt' {α : Type} {f : α → Value} {q : α → Prop} {t e n b o : Nat} {xs : List α} {X I : Operand} {kd : IntKind} {p : Int} {x : α} (ht : ArT P t e n 1) (hl : xs.length = n) (hX : ev L X = some (.pointer (some ⟨b, o, none⟩))) (hI : ev L I = some (.int kd p)) (hi : idx xs p = some x) :
    Yields P C L (.indexAddr t X I) ty (.pointer (some ⟨b, o + p.toNat * 1, none⟩)) := by
  have := idx_range hi
  exact y_arAt ht hX hI this.1 (by omega)
end

/-! ### append: a string's bytes to a row of bytes -/
section
variable {α : Type} {e k : Nat} {R : Rp α} {m : Mem} {P : Program} {Q : Exit → Act → World → Prop} {n : Nat} {L : List (Nat × Value)} {l rest : List Oper} {a : Act} {w u : World} {S : Segs} {d : Nat} {ty : TypeId} {pos : String} {after : Array Edge} {g : Option (Nat × Bool)}
theorem run_appF {t t' : TypeId} {v sv : Value} {xs ys zs : List α} {Mx : List (Nat × Obj)} {i : Nat} (M : Mono R) (ok : Ok u m S w) (ht : SlT P t e k) (ht' : P.underlying t' = some .string) (hS : S[i]? = some Mx) (h : ORow e k R m v xs Mx) {news : List Value} (hnl : news.length = ys.length * k) (hnR : ∀ i y, ys[i]? = some y → R m ((news.drop (i * k)).take k) y) (hlenOf : ∀ w, (Builtin.lenOf sv).run P w = .ok ys.length w) (hfirst : ∀ w', (∀ b o, w'.cell? ⟨b, o, none⟩ = w.cell? ⟨b, o, none⟩) → (Builtin.firstCells k ys.length sv).run P w' = .ok news.toArray w') (hz : app xs ys = some zs) (hzv : ∃ z, zeroB P e = some z ∧ z.length = k) :
    ∃ v' Mx' w', (Builtin.append_ #[t, t'] ty #[v, sv]).run P w = .ok v' w' ∧ Ok u m (S.set i Mx') w' ∧ ORow e k R m v' zs Mx' := by
  unfold app at hz
  split at hz
  · rename_i hb
    simp only [Option.some.injEq] at hz
    subst hz
    have hil := (List.getElem?_eq_some_iff.1 hS).1
    obtain ⟨inf, hinf, hsz, hby, hk⟩ := ht.inf
    obtain ⟨z, hz, hzl⟩ := hzv
    obtain ⟨zv, hzr, hzc⟩ := zeroB_run (P := P) hz
    have hsize : ∀ w, (sizeOf e).run P w = .ok k w := fun w => by simp [sizeOf, typeInfo, hinf, hsz, go_sem]
    have hti : ∀ w, (typeInfo e).run P w = .ok inf w := fun w => by simp [typeInfo, hinf, go_sem]
    have hones : ∀ x ∈ news, Value.oneCell' x = true := by
      intro x hx
      obtain ⟨j, hj, rfl⟩ := List.mem_iff_getElem.1 hx
      have hjl : j / k < ys.length := by rw [Nat.div_lt_iff_lt_mul hk]; omega
      have h1 := M.one (hnR (j / k) ys[j / k] (by simp [hjl]))
      refine h1.all _ ?_
      rw [List.mem_iff_getElem?]
      refine ⟨j % k, ?_⟩
      rw [List.getElem?_take_of_lt (Nat.mod_lt _ hk), List.getElem?_drop]
      have : j / k * k + j % k = j := by rw [Nat.mul_comm]; exact Nat.div_add_mod j k
      rw [this]; simp [hj]
    -- the elements of the row that comes out, in a list of cells whose front is the old ones and then the new ones
    have elems : ∀ (c c' : List Value) (o o' : Nat), (∀ i x, xs[i]? = some x → R m ((c.drop (o + i * k)).take k) x) → (∀ i, i < xs.length → (c'.drop (o' + i * k)).take k = (c.drop (o + i * k)).take k) →
        (∀ i, i < ys.length → (c'.drop (o' + (xs.length + i) * k)).take k = (news.drop (i * k)).take k) → ∀ i x, (xs ++ ys)[i]? = some x → R m ((c'.drop (o' + i * k)).take k) x := by
      intro c c' o o' h7 ha hb i x hi
      by_cases hlt : i < xs.length
      · rw [List.getElem?_append_left hlt] at hi
        rw [ha i hlt]; exact h7 i x hi
      · rw [List.getElem?_append_right (by omega)] at hi
        have hl2 := (List.getElem?_eq_some_iff.1 hi).1
        have := hb (i - xs.length) hl2
        rw [show xs.length + (i - xs.length) = i from by omega] at this
        rw [this]; exact hnR _ _ hi
    obtain ⟨⟨base, cap, hv⟩, hxl⟩ := h.form
    subst hv
    by_cases hroom : xs.length + ys.length ≤ cap
    · -- there is room
      rcases h with ⟨hv, rfl, rfl⟩ | ⟨b, o, cap', c, hv, rfl, h3, h4, h5, h6, h7⟩
      · simp only [Value.slice.injEq] at hv
        obtain ⟨rfl, _, rfl⟩ := hv
        have hy : ys = [] := List.eq_nil_of_length_eq_zero (by simpa using hroom)
        subst hy
        have hn : news = [] := List.eq_nil_of_length_eq_zero (by simpa using hnl)
        rw [hn] at hfirst
        refine ⟨.slice none 0 0, [], w, ?_, by rw [set_same hS]; exact ok, by simpa using ORow.nil⟩
        have hf := hfirst w (fun _ _ => rfl)
        simp only [List.length_nil] at hf
        simp [Builtin.append_, run_underlying ht.und, run_underlying ht', hlenOf, hsize, hf, Result.andThen]
      · simp only [Value.slice.injEq] at hv
        obtain ⟨rfl, _, rfl⟩ := hv
        have hle : o + xs.length * k + news.length ≤ c.length := by
          have : (xs.length + ys.length) * k ≤ cap * k := Nat.mul_le_mul_right _ hroom
          rw [Nat.add_mul] at this; omega
        have key : ∀ T', Ok u m ([(b, Obj.cells c.toArray e (0, 0))] :: T') w → ∃ w', (storeCells ⟨b, o + xs.length * k, none⟩ news).run P w = .ok () w' ∧ Ok u m ([(b, Obj.cells (wr c (o + xs.length * k) news).toArray e (0, 0))] :: T') w' := by
          intro T' ok'
          have := run_storeCells (P := P) news (o + xs.length * k) 0 c w hones (by omega) ok'
          simpa using this
        obtain ⟨w', hr, _⟩ := key _ (ok.frs i hS)
        refine ⟨.slice (some ⟨b, o, none⟩) (xs.length + ys.length) cap, [(b, Obj.cells (wr c (o + xs.length * k) news).toArray e (0, 0))], w', ?_, ?_, ?_⟩
        · have hf := hfirst w (fun _ _ => rfl)
          simp [Builtin.append_, run_underlying ht.und, run_underlying ht', hlenOf, hsize, hf, hroom, addr_add, hr, Result.andThen]
        · refine Ok.setSeg i S _ _ w w' hS (fun T' ok' => ?_) ok
          obtain ⟨w'', hr', ok''⟩ := key T' ok'
          rw [hr] at hr'; cases hr'; exact ok''
        · refine .inr ⟨b, o, cap, _, by simp, rfl, by simpa using hroom, h4, by rw [wr_length]; exact h5, by simp; unfold LIM at hb; unfold LIMS; omega, elems c _ o o h7 (fun i hi => ?_) (fun i hi => ?_)⟩
          · refine wr_take news c _ _ _ hle (.inl ?_)
            have : (i + 1) * k ≤ xs.length * k := Nat.mul_le_mul_right _ (by omega)
            rw [Nat.add_mul] at this; omega
          · have h9 : (i + 1) * k ≤ ys.length * k := Nat.mul_le_mul_right _ (by omega)
            rw [Nat.add_mul] at h9
            apply List.ext_getElem?
            intro j
            by_cases hj : j < k
            · rw [List.getElem?_take_of_lt hj, List.getElem?_take_of_lt hj, List.getElem?_drop, List.getElem?_drop, wr_get news c _ _ hle, Nat.add_mul, if_pos (by omega)]
              congr 1; omega
            · rw [List.getElem?_eq_none (by simp; omega), List.getElem?_eq_none (by simp; omega)]
    · -- a new block
      have hbytes : (xs.length + ys.length) * inf.bytes ≤ 140737488355328 := by
        have : (xs.length + ys.length) * inf.bytes ≤ 4294967296 * 32768 := Nat.mul_le_mul hb hby
        omega
      have hfit := growslice_fits (need := xs.length + ys.length) (old := cap) (bytes := inf.bytes) (by omega) hbytes
      have holds : SrcOK k R m w (.slice base xs.length cap) xs := SrcOK.ofRow h i (by simp [segAt, hS]) ok
      obtain ⟨oad, ocap, olds, ho1, ho2, ho3, ho4⟩ := holds.first (P := P)
      have hb' := hb
      unfold LIM at hb'
      have e48 : ¬ (281474976710656 < Builtin.nextslicecap (xs.length + ys.length) cap * inf.bytes) := by omega
      have hfo := ho4 w.drew (fun _ _ => rfl)
      have hfn := hfirst w.drew (fun _ _ => rfl)
      have hge := grownCap_ge w (xs.length + ys.length) cap e
      have hcm := grownCap_le_maxLen w (xs.length + ys.length) cap e (by unfold LIM at hb; unfold maxLen; omega)
      have hzs : zv.cells.size = k := by rw [← hzl, ← hzc]; simp
      refine ⟨.slice (some ⟨w.heap.size, 0, none⟩) (xs.length + ys.length) (grownCap w (xs.length + ys.length) cap e), [(w.heap.size, Obj.cells (olds ++ news ++ (Builtin.zeroCells zv.cells (grownCap w (xs.length + ys.length) cap e - (xs.length + ys.length))).toList).toArray e (0, 0))], w.drew.alloc (.cells (olds ++ news ++ (Builtin.zeroCells zv.cells (grownCap w (xs.length + ys.length) cap e - (xs.length + ys.length))).toList).toArray e (0, 0)), ?_, ?_, ?_⟩
      · have hn : ¬ (xs.length + ys.length ≤ cap) := hroom
        simp [Builtin.append_, run_underlying ht.und, run_underlying ht', hlenOf, hsize, hti, hn, e48, hzr, Question.forced, hfo, hfn, newRow, grownCap, Result.andThen]
        rw [if_neg (by omega)]
        congr 3
        simp [← Array.toList_inj]
      · exact Ok.replace ((ok.draw (w.drawn + 1)).alloc _) hil
      · refine .inr ⟨_, 0, _, _, by simp, rfl, by simpa using hge, hcm, ?_, by simp; unfold LIM at hb; unfold LIMS; omega, elems olds _ 0 0 (fun i x hi => by simpa using ho3 i x hi) (fun i hi => ?_) (fun i hi => ?_)⟩
        · simp only [List.length_append, ho2, hnl, Array.length_toList, size_zeroCells, hzs]
          rw [← Nat.add_mul, ← Nat.add_mul]; simp; apply Nat.mul_le_mul_right; omega
        · have h9 : (i + 1) * k ≤ xs.length * k := Nat.mul_le_mul_right _ (by omega)
          rw [Nat.add_mul] at h9
          rw [List.append_assoc]
          apply List.ext_getElem?
          intro j
          by_cases hj : j < k
          · rw [List.getElem?_take_of_lt hj, List.getElem?_take_of_lt hj, List.getElem?_drop, List.getElem?_drop, List.getElem?_append_left (by omega)]
          · rw [List.getElem?_eq_none (by simp; omega), List.getElem?_eq_none (by simp; omega)]
        · have h9 : (i + 1) * k ≤ ys.length * k := Nat.mul_le_mul_right _ (by omega)
          rw [Nat.add_mul] at h9
          rw [List.append_assoc]
          apply List.ext_getElem?
          intro j
          by_cases hj : j < k
          · rw [List.getElem?_take_of_lt hj, List.getElem?_take_of_lt hj, List.getElem?_drop, List.getElem?_drop, Nat.add_mul, List.getElem?_append_right (by omega), List.getElem?_append_left (by omega)]
            congr 1; omega
          · rw [List.getElem?_eq_none (by simp; omega), List.getElem?_eq_none (by simp; omega)]
  · cases hz

/-- A string's bytes as integers. -/
def ints (s : List UInt8) : List Int := s.map fun c => (c.toNat : Int)
theorem run_appS {t t' : TypeId} {v : Value} {xs zs : List Int} {s : List UInt8} {Mx : List (Nat × Obj)} {i : Nat} (ok : Ok u m S w) (ht : SlT P t e 1) (ht' : P.underlying t' = some .string) (hS : S[i]? = some Mx) (h : ORow e 1 (pI .u8) m v xs Mx) (hz : app xs (ints s) = some zs) (hzv : ∃ z, zeroB P e = some z ∧ z.length = 1) :
    ∃ v' Mx' w', (Builtin.append_ #[t, t'] ty #[v, .string (bs s)]).run P w = .ok v' w' ∧ Ok u m (S.set i Mx') w' ∧ ORow e 1 (pI .u8) m v' zs Mx' := by
  refine run_appF (news := s.map fun c => .int .u8 c.toNat) (mI .u8) ok ht ht' hS h (by simp [ints]) (fun i y hi => ?_) (fun w => ?_) (fun w' _ => ?_) hz hzv
  · simp only [ints, List.getElem?_map, Option.map_eq_some_iff] at hi
    obtain ⟨c, hc, rfl⟩ := hi
    obtain ⟨hlt, rfl⟩ := List.getElem?_eq_some_iff.1 hc
    refine ⟨?_, InR.byte _⟩
    simp only [Nat.mul_one]
    rw [List.drop_eq_getElem_cons (by simpa using hlt)]
    simp
  · simp [Builtin.lenOf, ints, bs_size, go_sem]
  · have e1 : (bs s).extract 0 s.length = bs s := by
      have : s.length = (bs s).size := rfl
      rw [this]; exact ByteArray.extract_zero_size
    simp only [Builtin.firstCells, ints, List.length_map, e1, Sem.run_pure]
    simp [bs]
theorem l_appS {t t' : TypeId} {x y : Operand} {v : Value} {xs zs : List Int} {s : List UInt8} {Mx : List (Nat × Obj)} (E : Env n a L) (ok : Ok u m S w) (i : Nat) (ht : SlT P t e 1) (ht' : P.underlying t' = some .string) (hS : S[i]? = some Mx) (h : ORow e 1 (pI .u8) m v xs Mx) (hz : app xs (ints s) = some zs) (hzv : ∃ z, zeroB P e = some z ∧ z.length = 1)
    (hx : ev L x = some v) (hy : ev L y = some (.string (bs s))) (hg : want l L g = some true) (hd : Nat.blt d n = true)
    (K : ∀ v' Mx' a' w', Env n a' ((d, v') :: L) → Ok u m (S.set i Mx') w' → ORow e 1 (pI .u8) m v' zs Mx' → wpList P l.toArray Q rest a' w') :
    wpList P l.toArray Q (⟨some d, .call { callee := .builtin .append, args := #[x, y], argTypes := #[t, t'] }, ty, pos, after, g⟩ :: rest) a w := by
  obtain ⟨v', Mx', w', hr, ok', hrow⟩ := run_appS (ty := ty) ok ht ht' hS h hz hzv
  refine l_op (v := v') (w' := w') E hg hd ?_ (fun a' E' => K _ _ _ _ E' ok' hrow)
  unfold execOp
  simp only [resolve, invoke, builtin, Sem.run_bind, Sem.run_pure, Result.andThen_ok, List.map_toArray, List.map_cons, List.map_nil, E.ev hx, E.ev hy, hr]
end

/-! ### == on structs and arrays -/
section
variable {P : Program} {d : Nat} {t : TypeId}
def EqV (P : Program) (d : Nat) (t : TypeId) (v v' : Value) (b : Bool) : Prop := ∀ w, (Op.equalIn d t v v').run P w = .ok b w
def EqFs (P : Program) (d : Nat) (xs ys : Array Value) (fs : List Field) (b : Bool) : Prop := ∀ w, (Op.eqFields d xs ys fs).run P w = .ok b w
def EqIs (P : Program) (d : Nat) (e : TypeId) (c : Nat) (xs ys : Array Value) (is : List Nat) (b : Bool) : Prop := ∀ w, (Op.eqItems d e c xs ys is).run P w = .ok b w
theorem eqv_int {k k' : IntKind} {a b : Int} (h : P.underlying t = some (.int k')) : EqV P (d + 1) t (.int k a) (.int k b) (a == b) := fun w => run_equalIn_int w d t k k' a b h
theorem eqv_bool {a b : Bool} (h : P.underlying t = some .bool) : EqV P (d + 1) t (.bool a) (.bool b) (a == b) := fun w => run_equalIn_bool w d t a b h
theorem eqv_str {a b : List UInt8} (h : P.underlying t = some .string) : EqV P (d + 1) t (.string (bs a)) (.string (bs b)) (a == b) := fun w => by
  have := run_equalIn_string w d t (bs a) (bs b) h
  rwa [bs_toList, bs_toList] at this
theorem part_one {cs : Array Value} {off : Nat} {v : Value} (ht : oneB P t = true) (h : cs[off]? = some v) (w : World) : (part t cs off).run P w = .ok v w := by
  unfold oneB at ht
  cases hu : P.underlying t with
  | none => rw [hu] at ht; simp at ht
  | some d =>
    have ha : (isAgg t).run P w = .ok false w := by
      rw [hu] at ht
      cases d <;> simp at ht <;> simp [isAgg, run_underlying hu, go_sem]
    simp [part, ha, h, Result.andThen]
theorem part_agg {cs : Array Value} {off n : Nat} {xs : List Value} (ht : aggB P t n = true) (h : cs.extract off (off + n) = xs.toArray) (w : World) : (part t cs off).run P w = .ok (.agg xs.toArray) w := by
  unfold aggB at ht
  cases hu : P.underlying t with
  | none => rw [hu] at ht; simp at ht
  | some d =>
    cases hi : P.info? t with
    | none => rw [hu, hi] at ht; cases d <;> simp at ht
    | some i =>
      have hs : (sizeOf t).run P w = .ok i.size w := by simp [sizeOf, typeInfo, hi, go_sem]
      have ha : (isAgg t).run P w = .ok true w ∧ i.size = n := by
        rw [hu, hi] at ht
        cases d <;> simp at ht <;> exact ⟨by simp [isAgg, run_underlying hu, go_sem], ht⟩
      simp [part, ha.1, hs, ha.2, h, Result.andThen]
theorem eqfs_nil {xs ys : Array Value} : EqFs P d xs ys [] true := fun w => by simp [Op.eqFields, go_sem]
theorem eqfs_step {xs ys : Array Value} {f : Field} {fs : List Field} {v v' : Value} {b b' : Bool} (hn : f.name ≠ "_") (h1 : ∀ w, (part f.type xs f.offset).run P w = .ok v w) (h2 : ∀ w, (part f.type ys f.offset).run P w = .ok v' w) (h : EqV P d f.type v v' b) (k : EqFs P d xs ys fs b') : EqFs P d xs ys (f :: fs) (b && b') := fun w => by
  simp only [Op.eqFields, if_pos hn, Sem.run_bind, h1 w, h2 w, h w, Result.andThen_ok]
  cases b
  · simp [go_sem]
  · simpa using k w
theorem eqfs_last {xs ys : Array Value} {f : Field} {v v' : Value} {b : Bool} (hn : f.name ≠ "_") (h1 : ∀ w, (part f.type xs f.offset).run P w = .ok v w) (h2 : ∀ w, (part f.type ys f.offset).run P w = .ok v' w) (h : EqV P d f.type v v' b) : EqFs P d xs ys [f] b := by
  have := eqfs_step hn h1 h2 h eqfs_nil
  simpa using this
theorem eqv_struct {xs ys : Array Value} {fs : List Field} {b : Bool} (hu : P.underlying t = some (.struct fs.toArray)) (hp : P.stoodInHeld t = false) (h : EqFs P d xs ys fs b) : EqV P (d + 1) t (.agg xs) (.agg ys) b := fun w => by
  have e : P.fieldsOf t = fs.toArray := by simp [Program.fieldsOf, hu]
  rw [run_equalIn_struct w d t xs ys (by rw [e]; exact hu) hp, e]
  exact h w
theorem eqis_nil {e : TypeId} {c : Nat} {xs ys : Array Value} : EqIs P d e c xs ys [] true := fun w => by simp [Op.eqItems, go_sem]
theorem eqis_step {e : TypeId} {c i : Nat} {is : List Nat} {xs ys : Array Value} {v v' : Value} {b b' : Bool} (h1 : ∀ w, (part e xs (i * c)).run P w = .ok v w) (h2 : ∀ w, (part e ys (i * c)).run P w = .ok v' w) (h : EqV P d e v v' b) (k : EqIs P d e c xs ys is b') : EqIs P d e c xs ys (i :: is) (b && b') := fun w => by
  simp only [Op.eqItems, Sem.run_bind, h1 w, h2 w, h w, Result.andThen_ok]
  cases b
  · simp [go_sem]
  · simpa using k w
theorem eqis_last {e : TypeId} {c i : Nat} {xs ys : Array Value} {v v' : Value} {b : Bool} (h1 : ∀ w, (part e xs (i * c)).run P w = .ok v w) (h2 : ∀ w, (part e ys (i * c)).run P w = .ok v' w) (h : EqV P d e v v' b) : EqIs P d e c xs ys [i] b := by
  have := eqis_step h1 h2 h eqis_nil
  simpa using this
theorem eqv_array {xs ys : Array Value} {n e c : Nat} {b : Bool} {is : List Nat} (hu : P.underlying t = some (.array n e)) (hi : ∃ i, P.info? e = some i ∧ i.size = c) (hc : P.cellsOf e = c) (hr : List.range n = is) (h : EqIs P d e c xs ys is b) : EqV P (d + 1) t (.agg xs) (.agg ys) b := fun w => by
  obtain ⟨i, hi, _⟩ := hi
  rw [run_equalIn_array w d xs ys hu hi, hr, hc]
  exact h w
section
variable {C : World → Prop} {L : List (Nat × Value)} {ty : TypeId}
theorem y_aeql {x y : Operand} {xs ys : Array Value} {t' : TypeId} {b : Bool} (hg : P.eqGuardType P.depth t = false) (h : EqV P 10000 t (.agg xs) (.agg ys) b) (hx : ev L x = some (.agg xs)) (hy : ev L y = some (.agg ys)) : Yields P C L (.binOp .eql t x y t') ty (.bool b) := by
  intro ρ w dst pos after g E ok
  simp only [execOp, E hx, E hy, Sem.run_bind, run_eqGuard_agg w _ t x y xs ys hg, Result.andThen_ok, run_eql_struct, h w, Sem.run_pure]
theorem y_aneq {x y : Operand} {xs ys : Array Value} {t' : TypeId} {b : Bool} (hg : P.eqGuardType P.depth t = false) (h : EqV P 10000 t (.agg xs) (.agg ys) b) (hx : ev L x = some (.agg xs)) (hy : ev L y = some (.agg ys)) : Yields P C L (.binOp .neq t x y t') ty (.bool (!b)) := by
  intro ρ w dst pos after g E ok
  simp only [execOp, E hx, E hy, Sem.run_bind, run_eqGuard_agg w _ t x y xs ys hg, Result.andThen_ok, run_neq_struct, h w, Sem.run_pure]
end
end
end Go.X
