/- A grid: rows of eleven integers that are parts of one array; and a slice expression with three indexes. -/
import Derived.Test.YtmmioinglmeoiaaLibK
namespace Go.X

section
variable {P : Program} {C : World → Prop} {L : List (Nat × Value)} {ty : TypeId}
/-- A part of a slice, its capacity bounded. -/
theorem y_slice3 {t e k b o len cap lo hi mx : Nat} {X A B M : Operand} {ka kb kc : IntKind} (ht : SlT P t e k) (hX : ev L X = some (.slice (some ⟨b, o, none⟩) len cap))
    (hA : ev L A = some (.int ka lo)) (hB : ev L B = some (.int kb hi)) (hM : ev L M = some (.int kc mx)) (h1 : lo ≤ hi) (h2 : hi ≤ mx) (h3 : mx ≤ cap) (h4 : lo < mx) :
    Yields P C L (.slice t X (some A) (some B) (some M)) ty (.slice (some ⟨b, o + lo * k, none⟩) (hi - lo) (mx - lo)) := by
  intro ρ w dst pos after g E ok
  obtain ⟨i, hinf, hsz, _, _⟩ := ht.inf
  have hsz' : (sizeOf e).run P w = .ok k w := by simp [sizeOf, typeInfo, hinf, hsz, go_sem]
  have b1 : (Instr.sliceBounds true len cap (some (.int ka lo)) (some (.int kb hi)) (some (.int kc mx))).run P w = .ok (lo, hi, mx) w := by
    unfold Instr.sliceBounds
    have g1 : (lo : Int) ≤ (hi : Int) := by omega
    have g2 : (hi : Int) ≤ (mx : Int) := by omega
    have g3 : (mx : Int) ≤ (cap : Int) := by omega
    simp [Instr.sliceBound, asIntOf, h1, h2, g3, go_sem]
  have hne : ¬ mx = lo := by omega
  simp only [execOp, Instr.sliceAt, E hX, E hA, E hB, E hM, Sem.run_bind, run_underlying ht.und, Result.andThen_ok, Instr.slice, Option.map_some, b1, hsz', Sem.run_pure]
  simp [hne, addr_add]
end

theorem y_indexX {P : Program} {C : World → Prop} {L : List (Nat × Value)} {ty : TypeId} {t e k b o len cap p : Nat} {X I : Operand} {kd : IntKind} (ht : SlT P t e k) (hX : ev L X = some (.slice (some ⟨b, o, none⟩) len cap)) (hI : ev L I = some (.int kd (p : Int))) (hp : p < len) :
    Yields P C L (.indexAddr t X I) ty (.pointer (some ⟨b, o + p * k, none⟩)) := by
  intro ρ w dst pos after g' E ok
  obtain ⟨i, hinf, hsz, _, _⟩ := ht.inf
  have hs : (sizeOf e).run P w = .ok k w := by simp [sizeOf, typeInfo, hinf, hsz, go_sem]
  simp only [execOp, E hX, E hI, Instr.indexAt, asIntOf]
  simp [run_underlying ht.und, hp, hs, addr_add, Result.andThen, go_sem]

/-- v is a slice of rows of eleven integers, which are parts of one array that the call owns; it reads as g. -/
def OGrid (m : Mem) (v : Value) (g : List (List Int)) (Mx : List (Nat × Obj)) : Prop :=
  ∃ bo b c T, v = .slice (some ⟨bo, 0, none⟩) g.length g.length ∧ Mx = [(b, Obj.cells (List.toArray c) T (0, 0))] ∧ g.length ≤ LIM ∧ c.length = g.length * 11 ∧
    ∀ i row, g[i]? = some row → row.length = 11 ∧ m.cell ⟨bo, i, none⟩ = some (.slice (some ⟨b, i * 11, none⟩) 11 11) ∧ ∀ j x, row[j]? = some x → c[i * 11 + j]? = some (.int .i64 x) ∧ InR .i64 x

/-- The value of row p. -/
def GRow (rv : Value) (p : Int) (Mx : List (Nat × Obj)) : Prop := ∃ b c T, rv = .slice (some ⟨b, p.toNat * 11, none⟩) 11 11 ∧ Mx = [(b, Obj.cells (List.toArray c) T (0, 0))]
/-- The place of element q of row p. -/
def GCell (p q : Int) (Mx : List (Nat × Obj)) (b o : Nat) : Prop := ∃ c T, Mx = [(b, Obj.cells (List.toArray c) T (0, 0))] ∧ o = p.toNat * 11 + q.toNat * 1

section
variable {m m' : Mem} {v : Value} {g : List (List Int)} {Mx : List (Nat × Obj)} {P : Program} {u w : World} {S : Segs}
theorem OGrid.up (hm : m.le m') (h : OGrid m v g Mx) : OGrid m' v g Mx := by
  obtain ⟨bo, b, c, T, h1, h2, h3, h4, h5⟩ := h
  refine ⟨bo, b, c, T, h1, h2, h3, h4, fun i row hi => ?_⟩
  obtain ⟨e1, e2, e3⟩ := h5 i row hi
  exact ⟨e1, hm.cell e2, e3⟩
theorem OGrid.cells (h : OGrid m v g Mx) : v.cells.toList = [v] := by obtain ⟨_, _, _, _, rfl, _⟩ := h; rfl
theorem OGrid.one (h : OGrid m v g Mx) : v.oneCell' = true := by obtain ⟨_, _, _, _, rfl, _⟩ := h; rfl

theorem OGrid.froz (h : OGrid m v g Mx) (hle : m.le m') (hf : ∀ p ∈ Mx, m' p.1 = some p.2) : pL 1 (pL 1 (pI .i64)) m' [v] g := by
  obtain ⟨bo, b, c, T, rfl, rfl, h3, h4, h5⟩ := h
  have hb := hf (b, Obj.cells c.toArray T (0, 0)) (by simp)
  simp only at hb
  refine ⟨_, g.length, rfl, Nat.le_refl _, by unfold LIM at h3; unfold maxLen; omega, by unfold LIM at h3; unfold LIMS; omega, fun _ => ⟨bo, 0, rfl, fun i row hi => ?_⟩⟩
  obtain ⟨e1, e2, e3⟩ := h5 i row hi
  refine ⟨[.slice (some ⟨b, i * 11, none⟩) 11 11], rfl, ?_, ?_⟩
  · intro j y hj
    cases j with
    | zero => simp at hj; subst hj; simpa using hle.cell e2
    | succ j => simp at hj
  · refine ⟨_, 11, by rw [e1], by omega, by unfold maxLen; omega, by unfold LIMS; omega, fun _ => ⟨b, i * 11, rfl, fun j x hj => ?_⟩⟩
    obtain ⟨g1, g2⟩ := e3 j x hj
    refine ⟨[.int .i64 x], rfl, ?_, ⟨rfl, g2⟩⟩
    intro l y hl
    cases l with
    | zero => simp at hl; subst hl; simp [Mem.cell, hb, g1]
    | succ l => simp at hl

theorem gridAt {L : List (Nat × Value)} {kd : IntKind} {p : Int} {row : List Int} {t e : TypeId} (ht : SlT P t e 1) (h : OGrid m v g Mx) (hi : idx g p = some row) {X I : Operand} (hX : ev L X = some v) (hI : ev L I = some (.int kd p)) :
    ∃ bo o rv, GRow rv p Mx ∧ row.length = 11 ∧ At m bo o [rv] ∧ ∀ C ty, Yields P C L (.indexAddr t X I) ty (.pointer (some ⟨bo, o, none⟩)) := by
  obtain ⟨bo, b, c, T, rfl, rfl, h3, h4, h5⟩ := h
  unfold idx at hi
  split at hi
  · rename_i h0
    obtain ⟨hlt, _⟩ := List.getElem?_eq_some_iff.1 hi
    obtain ⟨e1, e2, e3⟩ := h5 _ _ hi
    refine ⟨bo, p.toNat, _, ⟨b, c, T, rfl, rfl⟩, e1, ?_, ?_⟩
    · intro j y hj
      cases j with
      | zero => simp at hj; subst hj; simpa using e2
      | succ j => simp at hj
    · intro C ty ρ w dst pos after g' E ok
      obtain ⟨i, hinf, hsz, _, _⟩ := ht.inf
      have hs : (sizeOf e).run P w = .ok 1 w := by simp [sizeOf, typeInfo, hinf, hsz, go_sem]
      have hb : p < (g.length : Int) := by omega
      simp only [execOp, E hX, E hI, Instr.indexAt, asIntOf]
      simp [run_underlying ht.und, h0, hb, hs, addr_add, Result.andThen, go_sem]
  · cases hi

theorem growAt {L : List (Nat × Value)} {kd : IntKind} {p q : Int} {rv : Value} {row : List Int} {x : Int} {t e : TypeId} (ht : SlT P t e 1) (h : GRow rv p Mx) (hl : row.length = 11) (hi : idx row q = some x) {X I : Operand} (hX : ev L X = some rv) (hI : ev L I = some (.int kd q)) :
    ∃ b o, GCell p q Mx b o ∧ ∀ C ty, Yields P C L (.indexAddr t X I) ty (.pointer (some ⟨b, o, none⟩)) := by
  obtain ⟨b, c, T, rfl, rfl⟩ := h
  unfold idx at hi
  split at hi
  · rename_i h0
    obtain ⟨hlt, _⟩ := List.getElem?_eq_some_iff.1 hi
    refine ⟨b, _, ⟨c, T, rfl, rfl⟩, ?_⟩
    intro C ty ρ w dst pos after g' E ok
    obtain ⟨i, hinf, hsz, _, _⟩ := ht.inf
    have hs : (sizeOf e).run P w = .ok 1 w := by simp [sizeOf, typeInfo, hinf, hsz, go_sem]
    have hb : q < ((11 : Nat) : Int) := by omega
    have hb' : q < 11 := by omega
    simp only [execOp, E hX, E hI, Instr.indexAt, asIntOf]
    simp [run_underlying ht.und, h0, hb', hs, addr_add, Result.andThen, go_sem]
  · cases hi

theorem GRow.cells {rv : Value} {p : Int} (h : GRow rv p Mx) : rv.cells.toList = [rv] := by obtain ⟨_, _, _, rfl, _⟩ := h; rfl

variable {Q : Exit → Act → World → Prop} {n : Nat} {L : List (Nat × Value)} {l rest : List Oper} {a : Act} {d : Nat} {ty : TypeId} {pos : String} {after : Array Edge} {gd : Option (Nat × Bool)}
theorem l_makeX {k : Nat} {e t : TypeId} {x : Operand} {kd : IntKind} {j : Nat} {z : List Value} (E : Env n a L) (ok : Ok u m S w) (ht : SlT P t e k) (hz : zeroB P e = some z) (hzl : z.length = k) (hx : ev L x = some (.int kd (j : Int))) (hj : j ≤ LIM)
    (hg : want l L gd = some true) (hd : Nat.blt d n = true)
    (K : ∀ b a' w', Env n a' ((d, .slice (some ⟨b, 0, none⟩) j j) :: L) → Ok u m ([(b, Obj.cells (reps z j).toArray e (0, 0))] :: S) w' → wpList P l.toArray Q rest a' w') :
    wpList P l.toArray Q (⟨some d, .makeSlice t x x, ty, pos, after, gd⟩ :: rest) a w := by
  obtain ⟨i, hinf, hsz, hby, hk⟩ := ht.inf
  obtain ⟨zv, hzr, hzc⟩ := zeroB_run (P := P) hz
  refine l_op (v := .slice (some ⟨w.heap.size, 0, none⟩) j j) (w' := w.alloc (.cells (reps z j).toArray e)) E hg hd ?_ (fun a' E' => K _ _ _ E' (ok.alloc _))
  have hw : IntKind.i64.wrap (j : Int) = j := wrap_of (by rw [inR_i64]; unfold LIM at hj; omega)
  have hti : (typeInfo e).run P w = .ok i w := by simp [typeInfo, hinf, go_sem]
  have hsz' : (sizeOf e).run P w = .ok k w := by simp [sizeOf, typeInfo, hinf, hsz, go_sem]
  have hbj : i.bytes * j ≤ 32768 * 4294967296 := Nat.mul_le_mul hby hj
  have hl1 : ¬ (281474976710656 < (i.bytes : Int) * (j : Int)) := by
    have : ((i.bytes * j : Nat) : Int) ≤ ((32768 * 4294967296 : Nat) : Int) := Int.ofNat_le.2 hbj
    rw [Int.natCast_mul] at this
    omega
  have hroom : ¬ (roomBytes < j * i.bytes) := by
    rw [Nat.mul_comm]; unfold roomBytes; omega
  have hsize : zv.cells.size = k := by rw [← hzl, ← hzc]; simp
  have hrow : j * k ≠ 0 → ((Array.range (j * k)).map fun i => zv.cells[i % zv.cells.size]!) = (reps z j).toArray := by
    intro _
    rw [← reps_eq z j, hzl, hsize]
    apply Array.ext'
    simp only [Array.toList_map, Array.toList_range]
    apply List.map_congr_left
    intro i _
    rw [← hzc]
    simp [getElem!_def]
  simp only [execOp, E.ev hx, Instr.makeSlice, Sem.run_bind, run_underlying ht.und, Result.andThen_ok, asInt, asIntOf, Sem.run_pure, hti, hw, Int.toNat_natCast]
  have c1 : ((decide ((j : Int) < 0) || decide ((i.bytes : Int) * (j : Int) > 2 ^ 48)) || decide ((j : Int) < 0) || decide ((j : Int) > (j : Int))) = false := by
    simp only [Bool.or_eq_false_iff, decide_eq_false_iff_not]
    refine ⟨⟨⟨by omega, by simpa using hl1⟩, by omega⟩, by omega⟩
  by_cases hjk : j * k = 0
  · have h0 : j = 0 := by
      rcases Nat.mul_eq_zero.1 hjk with h | h
      · exact h
      · omega
    have e1 : ((Array.range (j * k)).map fun x => (#[] : Array Value)[x % (#[] : Array Value).size]!) = (reps z j).toArray := by subst h0; simp [reps]
    simp only [c1, Bool.false_eq_true, if_false, askRoom, gt_iff_lt, hroom, Sem.run_bind, Sem.run_pure, Result.andThen_ok, hsz', hjk, if_true]
    rw [hjk] at e1
    simp only [newRow, Sem.run_bind, Sem.run_pure, run_newObj, Result.andThen_ok, e1]
  · simp only [c1, Bool.false_eq_true, if_false, askRoom, gt_iff_lt, hroom, Sem.run_bind, Sem.run_pure, Result.andThen_ok, hsz', hjk, hzr, hrow hjk, newRow, run_newObj]

theorem l_storeG {t : TypeId} {x y : Operand} {b o : Nat} {p q z x0 : Int} {row row' : List Int} {g' : List (List Int)} (E : Env n a L) (ok : Ok u m S w) (k : Nat) (hS : S[k]? = some Mx) (h : OGrid m v g Mx)
    (h1 : idx g p = some row) (h2 : idx row q = some x0) (hp : GCell p q Mx b o) (hx : ev L x = some (.pointer (some ⟨b, o, none⟩))) (hy : ev L y = some (.int .i64 z)) (hz : InR .i64 z) (hi : ∃ i, P.info? t = some i ∧ i.size = 1)
    (h3 : setI row q z = some row') (h4 : setI g p row' = some g') (hg : want l L gd = some true)
    (K : ∀ Mx' w', Ok u m (S.set k Mx') w' → OGrid m v g' Mx' → wpList P l.toArray Q rest a w') :
    wpList P l.toArray Q (⟨none, .store t x y, ty, pos, after, gd⟩ :: rest) a w := by
  obtain ⟨bo, b', c, T, rfl, rfl, g3, g4, g5⟩ := h
  obtain ⟨c', T', hM, rfl⟩ := hp
  simp only [List.cons.injEq, Prod.mk.injEq, Obj.cells.injEq, and_true] at hM
  obtain ⟨rfl, _, _⟩ := hM
  have e1 := idx_range h1
  have e2 := idx_get h1
  have e3 := idx_range h2
  have e4 := setI_range h3
  have e5 := setI_range h4
  obtain ⟨r1, r2, r3⟩ := g5 _ _ e2
  have hlt : p.toNat * 11 + q.toNat * 1 < c.length := by
    rw [g4]
    have := Nat.mul_le_mul_right 11 (show p.toNat + 1 ≤ g.length by omega)
    omega
  refine l_storeB (v := .int .i64 z) (vs := [.int .i64 z]) E ok k hS hx hy hi rfl rfl ⟨rfl, trivial⟩ (Nat.ble_eq_true_of_le (by simp only [List.length_cons, List.length_nil]; omega)) hg fun w' ok' => K _ w' ok' ?_
  have e5l : g'.length = g.length := by rw [e5.2.2]; simp
  refine ⟨bo, b', _, T, ?_, rfl, by omega, by rw [wr_length, g4, e5l], fun i rw_ hi' => ?_⟩
  · rw [e5l]
  · have hwr : ∀ j, (wr c (p.toNat * 11 + q.toNat * 1) [.int .i64 z])[j]? = if j = p.toNat * 11 + q.toNat then some (.int .i64 z) else c[j]? := by
      intro j
      rw [wr_get _ _ _ _ (by simp only [List.length_cons, List.length_nil]; omega)]
      by_cases hj : j = p.toNat * 11 + q.toNat
      · subst hj; simp
      · rw [if_neg hj, if_neg (by simp; omega)]
    by_cases hip : i = p.toNat
    · subst hip
      rw [e5.2.2, List.getElem?_set_self e5.2.1] at hi'
      cases hi'
      refine ⟨by rw [e4.2.2]; simp [r1], r2, fun j x hj => ?_⟩
      rw [hwr]
      rw [e4.2.2] at hj
      by_cases hjq : j = q.toNat
      · subst hjq
        rw [List.getElem?_set_self e4.2.1] at hj
        cases hj
        rw [if_pos (by omega)]
        exact ⟨rfl, hz⟩
      · rw [List.getElem?_set_ne (by omega)] at hj
        rw [if_neg (by omega)]
        exact r3 j x hj
    · rw [e5.2.2, List.getElem?_set_ne (by omega)] at hi'
      obtain ⟨q1, q2, q3⟩ := g5 _ _ hi'
      refine ⟨q1, q2, fun j x hj => ?_⟩
      rw [hwr, if_neg ?_]
      · exact q3 j x hj
      · have hj' : j < 11 := by rw [← q1]; exact (List.getElem?_eq_some_iff.1 hj).1
        have := e3.2
        omega

/-- A cell that holds any value. -/
def pV : Rp Value := fun _ cs x => cs = [x] ∧ x.oneCell' = true
/-- What grid hands back. -/
def grid (n : Int) : Option (List (List Int)) := if 0 ≤ n ∧ n * 11 ≤ LIM then some (List.replicate n.toNat (List.replicate 11 0)) else none
end
end Go.X
