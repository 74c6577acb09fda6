/- Rows that are made, written out, appended to. -/
import Derived.Test.YtmmioinglmeoiaaLibE
namespace Go.X

section
variable {α : Type} {e k : Nat} {R : Rp α} {m : Mem} {P : Program} {Q : Exit → Act → World → Prop} {n : Nat} {L : List (Nat × Value)} {l rest : List Oper} {a : Act} {w u : World} {S : Segs} {d : Nat} {ty : TypeId} {pos : String} {after : Array Edge} {g : Option (Nat × Bool)}

/-- n copies of the cells z, one behind the other. -/
def reps (z : List Value) : Nat → List Value
  | 0 => []
  | j + 1 => z ++ reps z j
theorem reps_length (z : List Value) : ∀ j, (reps z j).length = j * z.length
  | 0 => by simp [reps]
  | j + 1 => by simp [reps, reps_length z j, Nat.add_mul]; omega
theorem reps_get (z : List Value) : ∀ (j i : Nat), i < j → ((reps z j).drop (i * z.length)).take z.length = z
  | 0, i, h => absurd h (Nat.not_lt_zero _)
  | j + 1, 0, _ => by simp [reps]
  | j + 1, i + 1, h => by
    rw [reps, Nat.add_mul, Nat.one_mul, Nat.add_comm (i * z.length), ← List.drop_drop, List.drop_left]
    exact reps_get z j i (by omega)
theorem reps_eq (z : List Value) (j : Nat) : ((List.range (j * z.length)).map fun i => z[i % z.length]!) = reps z j := by
  induction j with
  | zero => simp [reps]
  | succ j ih =>
    rw [reps, Nat.add_mul, Nat.one_mul, Nat.add_comm, List.range_add, List.map_append, List.map_map]
    congr 1
    · apply List.ext_getElem?
      intro i
      by_cases hi : i < z.length
      · simp [hi, Nat.mod_eq_of_lt hi]
      · simp [hi]
    · rw [← ih]
      apply List.map_congr_left
      intro i _
      simp [Function.comp, Nat.add_mod_left]

/-- e's zero value has the cells z. -/
theorem zeroB_run {t : TypeId} {z : List Value} (hz : zeroB P t = some z) : ∃ v, (∀ w, (zeroValue t).run P w = .ok v w) ∧ v.cells.toList = z := by
  unfold zeroB at hz
  cases hi : P.info? t with
  | none => rw [hi] at hz; cases hz
  | some i =>
    rw [hi] at hz
    simp only at hz
    cases hv : i.zero with
    | none => rw [hv] at hz; cases hz
    | some v =>
      rw [hv] at hz
      simp only [Option.map_some, Option.some.injEq] at hz
      exact ⟨v, fun w => by simp [zeroValue, typeInfo, hi, hv, go_sem], hz⟩

theorem ORow.made {z : List Value} {x : α} {b j : Nat} (hz : z.length = k) (hR : R m z x) (hj : j ≤ LIM) : ORow e k R m (.slice (some ⟨b, 0, none⟩) j j) (List.replicate j x) [(b, Obj.cells (reps z j).toArray e (0, 0))] := by
  refine .inr ⟨b, 0, j, reps z j, by simp, rfl, by simp, ?_, ?_, ?_, fun i y hi => ?_⟩
  · unfold maxLen; unfold LIM at hj; omega
  · rw [reps_length, hz]; simp
  · unfold LIM at hj; unfold LIMS; simp; omega
  · have hlt := (List.getElem?_eq_some_iff.1 hi).1
    simp at hlt
    rw [List.getElem?_replicate] at hi
    simp [hlt] at hi
    subst hi
    have := reps_get z j i hlt
    rw [hz] at this
    simp only [Nat.zero_add, this]; exact hR

theorem l_make {t : TypeId} {x : Operand} {kd : IntKind} {p : Int} {z : List Value} {zx : α} {xs : List α} (E : Env n a L) (ok : Ok u m S w) (ht : SlT P t e k) (hz : zeroB P e = some z) (hzl : z.length = k) (hR : R m z zx) (hx : ev L x = some (.int kd p)) (hm : mk p zx = some xs)
    (hg : want l L g = some true) (hd : Nat.blt d n = true)
    (K : ∀ v Mx a' w', Env n a' ((d, v) :: L) → Ok u m (Mx :: S) w' → ORow e k R m v xs Mx → wpList P l.toArray Q rest a' w') :
    wpList P l.toArray Q (⟨some d, .makeSlice t x x, ty, pos, after, g⟩ :: rest) a w := by
  unfold mk at hm
  split at hm
  · rename_i hb
    obtain ⟨h0, h1⟩ := hb
    simp only [Option.some.injEq] at hm
    subst hm
    obtain ⟨i, hinf, hsz, hby, hk⟩ := ht.inf
    obtain ⟨zv, hzr, hzc⟩ := zeroB_run (P := P) hz
    obtain ⟨j, rfl⟩ := Int.eq_ofNat_of_zero_le h0
    have hj : j ≤ LIM := by omega
    simp only [Int.toNat_natCast] at K
    refine l_op (v := .slice (some ⟨w.heap.size, 0, none⟩) j j) (w' := w.alloc (.cells (reps z j).toArray e)) E hg hd ?_ (fun a' E' => K _ _ _ _ E' (ok.alloc _) (ORow.made hzl hR hj))
    have hw : IntKind.i64.wrap (j : Int) = j := wrap_of (by rw [inR_i64]; unfold LIM at hj; omega)
    have hti : (typeInfo e).run P w = .ok i w := by simp [typeInfo, hinf, go_sem]
    have hsz' : (sizeOf e).run P w = .ok k w := by simp [sizeOf, typeInfo, hinf, hsz, go_sem]
    have hbj : i.bytes * j ≤ 32768 * 4294967296 := Nat.mul_le_mul hby hj
    have hl1 : ¬ (281474976710656 < (i.bytes : Int) * (j : Int)) := by
      have : ((i.bytes * j : Nat) : Int) ≤ ((32768 * 4294967296 : Nat) : Int) := Int.ofNat_le.2 hbj
      rw [Int.natCast_mul] at this
      omega
    have hroom : ¬ (roomBytes < j * i.bytes) := by
      rw [Nat.mul_comm]; unfold roomBytes; omega
    have hsize : zv.cells.size = k := by rw [← hzl, ← hzc]; simp
    have hrow : j * k ≠ 0 → ((Array.range (j * k)).map fun i => zv.cells[i % zv.cells.size]!) = (reps z j).toArray := by
      intro _
      rw [← reps_eq z j, hzl, hsize]
      apply Array.ext'
      simp only [Array.toList_map, Array.toList_range]
      apply List.map_congr_left
      intro i _
      rw [← hzc]
      simp [getElem!_def]
    simp only [execOp, E.ev hx, Instr.makeSlice, Sem.run_bind, run_underlying ht.und, Result.andThen_ok, asInt, asIntOf, Sem.run_pure, hti, hw, Int.toNat_natCast]
    have c1 : ((decide ((j : Int) < 0) || decide ((i.bytes : Int) * (j : Int) > 2 ^ 48)) || decide ((j : Int) < 0) || decide ((j : Int) > (j : Int))) = false := by
      simp only [Bool.or_eq_false_iff, decide_eq_false_iff_not]
      refine ⟨⟨⟨by omega, by simpa using hl1⟩, by omega⟩, by omega⟩
    by_cases hjk : j * k = 0
    · have h0 : j = 0 := by
        rcases Nat.mul_eq_zero.1 hjk with h | h
        · exact h
        · omega
      have e1 : ((Array.range (j * k)).map fun x => (#[] : Array Value)[x % (#[] : Array Value).size]!) = (reps z j).toArray := by subst h0; simp [reps]
      simp only [c1, Bool.false_eq_true, if_false, askRoom, gt_iff_lt, hroom, Sem.run_bind, Sem.run_pure, Result.andThen_ok, hsz', hjk, if_true]
      rw [hjk] at e1
      simp only [newRow, Sem.run_bind, Sem.run_pure, run_newObj, Result.andThen_ok, e1]
    · simp only [c1, Bool.false_eq_true, if_false, askRoom, gt_iff_lt, hroom, Sem.run_bind, Sem.run_pure, Result.andThen_ok, hsz', hjk, hzr, hrow hjk, newRow, run_newObj]
  · cases hm

/-- The cells of a slice's elements as they can be read now. -/
def SrcOK (k : Nat) (R : Rp α) (m : Mem) (w : World) (v : Value) (ys : List α) : Prop :=
  ∃ (ad : Option Addr) (cap : Nat) (news : List Value), v = .slice ad ys.length cap ∧ news.length = ys.length * k ∧ (∀ i y, ys[i]? = some y → R m ((news.drop (i * k)).take k) y) ∧
    (ys = [] ∨ ∃ b o, ad = some ⟨b, o, none⟩ ∧ ∀ j x, news[j]? = some x → w.cell? ⟨b, o + j, none⟩ = some x)

theorem choose_lt {β : Type} [Inhabited β] {n : Nat} {p : Nat → β → Prop} (h : ∀ i, i < n → ∃ x, p i x) : ∃ f : Nat → β, ∀ i, i < n → p i (f i) := by
  classical
  refine ⟨fun i => if hi : i < n then Classical.choose (h i hi) else default, fun i hi => ?_⟩
  simp only [dif_pos hi]
  exact Classical.choose_spec (h i hi)

/-- Blocks of k cells, one behind the other. -/
def blk (k : Nat) (f : Nat → List Value) (n : Nat) : List Value := (List.range (n * k)).map fun j => (f (j / k)).getD (j % k) undef
theorem blk_length (k : Nat) (f : Nat → List Value) (n : Nat) : (blk k f n).length = n * k := by simp [blk]
theorem blk_at {k : Nat} {f : Nat → List Value} {n i r : Nat} (hi : i < n) (hr : r < k) : (blk k f n)[i * k + r]? = some ((f i).getD r undef) := by
  have h1 : i * k + r < n * k := by
    have : (i + 1) * k ≤ n * k := Nat.mul_le_mul_right _ (by omega)
    rw [Nat.add_mul] at this; omega
  have h2 : (i * k + r) / k = i := by
    rw [Nat.mul_comm, Nat.mul_add_div (by omega), Nat.div_eq_of_lt hr]; omega
  have h3 : (i * k + r) % k = r := by
    rw [Nat.mul_comm, Nat.mul_add_mod, Nat.mod_eq_of_lt hr]
  simp [blk, h1, h2, h3]
theorem blk_take {k : Nat} {f : Nat → List Value} {n i : Nat} (hi : i < n) (hl : (f i).length = k) : ((blk k f n).drop (i * k)).take k = f i := by
  apply List.ext_getElem?
  intro r
  by_cases hr : r < k
  · rw [List.getElem?_take_of_lt hr, List.getElem?_drop, blk_at hi hr]
    have : r < (f i).length := by omega
    simp [this]
  · rw [List.getElem?_eq_none (by simp; omega), List.getElem?_eq_none (by omega)]
theorem blk_inv {k : Nat} {f : Nat → List Value} {n j : Nat} {x : Value} (h : (blk k f n)[j]? = some x) : ∃ i r, i < n ∧ r < k ∧ j = i * k + r := by
  have hlt := (List.getElem?_eq_some_iff.1 h).1
  rw [blk_length] at hlt
  have hk : 0 < k := by
    rcases Nat.eq_zero_or_pos k with h0 | h0
    · subst h0; simp at hlt
    · exact h0
  refine ⟨j / k, j % k, ?_, Nat.mod_lt _ hk, ?_⟩
  · exact (Nat.div_lt_iff_lt_mul hk).2 hlt
  · rw [Nat.mul_comm]; exact (Nat.div_add_mod j k).symm

/-- A slice that reads in the view can be read. -/
theorem SrcOK.ofL {v : Value} {ys : List α} (h : pL k R m [v] ys) (ok : Ok u m S w) : SrcOK k R m w v ys := by
  obtain ⟨ad, cap, h1, h2, h3, h3', h4⟩ := h
  have hv : v = .slice ad ys.length cap := (List.cons.inj h1).1
  by_cases h0 : ys.length = 0
  · have : ys = [] := List.eq_nil_of_length_eq_zero h0
    subst this
    exact ⟨ad, cap, [], hv, by simp, by simp, .inl rfl⟩
  · obtain ⟨b, o, rfl, h5⟩ := h4 h0
    have each : ∀ i, i < ys.length → ∃ es, es.length = k ∧ (∀ y, ys[i]? = some y → R m es y) ∧ At m b (o + i * k) es := by
      intro i hi
      obtain ⟨es, e1, e2, e3⟩ := h5 i ys[i] (by simp [hi])
      exact ⟨es, e1, fun y hy => by simp [hi] at hy; subst hy; exact e3, e2⟩
    obtain ⟨f, hf⟩ := choose_lt each
    refine ⟨_, cap, blk k f ys.length, hv, blk_length _ _ _, fun i y hi => ?_, .inr ⟨b, o, rfl, fun j x hj => ?_⟩⟩
    · have hlt := (List.getElem?_eq_some_iff.1 hi).1
      rw [blk_take hlt (hf i hlt).1]
      exact (hf i hlt).2.1 y hi
    · obtain ⟨i, r, hi, hr, rfl⟩ := blk_inv hj
      rw [blk_at hi hr] at hj
      have h6 : r < (f i).length := by rw [(hf i hi).1]; exact hr
      simp [h6] at hj
      have := (hf i hi).2.2 r x (by simp [h6, hj])
      rw [← Nat.add_assoc]
      exact ok.cell this

/-- A row that the call owns can be read. -/
theorem SrcOK.ofRow {v : Value} {ys : List α} {Mx : List (Nat × Obj)} (h : ORow e k R m v ys Mx) (j : Nat) (hS : segAt S j = Mx) (ok : Ok u m S w) : SrcOK k R m w v ys := by
  rcases h with ⟨rfl, rfl, _⟩ | ⟨b, o, cap, c, rfl, rfl, h3, h4, h5, h6, h7⟩
  · exact ⟨none, 0, [], rfl, by simp, by simp, .inl rfl⟩
  · have hle : ys.length * k ≤ cap * k := Nat.mul_le_mul_right _ h3
    have hlen : ((c.drop o).take (ys.length * k)).length = ys.length * k := by simp; omega
    refine ⟨_, cap, (c.drop o).take (ys.length * k), rfl, hlen, fun i y hi => ?_, .inr ⟨b, o, rfl, fun j' x hj => ?_⟩⟩
    · have hlt := (List.getElem?_eq_some_iff.1 hi).1
      have h8 : (i + 1) * k ≤ ys.length * k := Nat.mul_le_mul_right _ (by omega)
      rw [Nat.add_mul] at h8
      rw [List.drop_take, List.take_take, List.drop_drop, Nat.min_eq_left (by omega)]
      exact h7 i y hi
    · exact Holds.own j hS (by rw [hlen]) w ok _ _ hj

theorem SrcOK.first {v : Value} {ys : List α} (h : SrcOK k R m w v ys) : ∃ (ad : Option Addr) (cap : Nat) (news : List Value), v = .slice ad ys.length cap ∧ news.length = ys.length * k ∧ (∀ i y, ys[i]? = some y → R m ((news.drop (i * k)).take k) y) ∧
    ∀ w', (∀ b o, w'.cell? ⟨b, o, none⟩ = w.cell? ⟨b, o, none⟩) → (Builtin.firstCells k ys.length v).run P w' = .ok news.toArray w' := by
  obtain ⟨ad, cap, news, rfl, h1, h2, h3⟩ := h
  refine ⟨ad, cap, news, rfl, h1, h2, fun w' hw => ?_⟩
  rcases h3 with rfl | ⟨b, o, rfl, h4⟩
  · have hn : news = [] := List.eq_nil_of_length_eq_zero (by simpa using h1)
    subst hn
    cases ad with
    | none => simp [Builtin.firstCells, go_sem]
    | some x => simp [Builtin.firstCells, loadCells, loadCellsFrom, go_sem]
  · have := run_loadCells (P := P) (w := w') (b := b) (o := o) news 0 #[] (fun j x hj => by rw [hw]; exact h4 j x hj)
    simpa [Builtin.firstCells, loadCells, ← h1] using this

theorem wr_append (c vs : List Value) (o : Nat) (h : o + vs.length ≤ c.length) : wr c o vs = c.take o ++ vs ++ c.drop (o + vs.length) := by
  apply List.ext_getElem?
  intro j
  rw [wr_get vs c o j h, List.append_assoc]
  by_cases h1 : j < o
  · rw [if_neg (by omega), List.getElem?_append_left (by simp; omega), List.getElem?_take_of_lt h1]
  · rw [List.getElem?_append_right (by simp; omega)]
    have e : (c.take o).length = o := by simp; omega
    rw [e]
    by_cases h2 : j < o + vs.length
    · rw [if_pos ⟨by omega, h2⟩, List.getElem?_append_left (by omega)]
    · rw [if_neg (by omega), List.getElem?_append_right (by omega), List.getElem?_drop]
      congr 1; omega

theorem set_same {S : Segs} {i : Nat} {s : List (Nat × Obj)} (h : S[i]? = some s) : S.set i s = S := by
  apply List.ext_getElem?
  intro j
  by_cases hj : i = j
  · subst hj; rw [List.getElem?_set_self (List.getElem?_eq_some_iff.1 h).1, h]
  · rw [List.getElem?_set_ne hj]

theorem Ok.replace {s' : List (Nat × Obj)} {i : Nat} (ok : Ok u m (s' :: S) w) (hi : i < S.length) : Ok u m (S.set i s') w := by
  have h1 : S.flatten.Perm ((S[i]?).getD [] ++ (S.eraseIdx i).flatten) := by
    have := Ok.front_perm i S hi
    simpa [Ok.front] using this
  have ok2 : Ok u m ((S[i]?).getD [] :: s' :: S.eraseIdx i) w := ok.perm (by
    simp only [List.flatten_cons]
    refine (h1.append_left s').trans ?_
    rw [← List.append_assoc, ← List.append_assoc]
    exact (List.perm_append_comm).append_right _)
  refine ok2.drop.perm ?_
  have := Ok.front_perm i (S.set i s') (by simpa using hi)
  simp only [Ok.front, List.getElem?_set_self hi, Option.getD_some, List.eraseIdx_set_eq] at this
  exact this.symm

/-- append: to a row that the call owns. -/
theorem run_app {t t' : TypeId} {v sv : Value} {xs ys zs : List α} {Mx : List (Nat × Obj)} {i : Nat} (M : Mono R) (ok : Ok u m S w) (ht : SlT P t e k) (ht' : P.underlying t' = some (.slice e)) (hS : S[i]? = some Mx) (h : ORow e k R m v xs Mx) (hs : SrcOK k R m w sv ys) (hz : app xs ys = some zs) (hzv : ∃ z, zeroB P e = some z ∧ z.length = k) :
    ∃ v' Mx' w', (Builtin.append_ #[t, t'] ty #[v, sv]).run P w = .ok v' w' ∧ Ok u m (S.set i Mx') w' ∧ ORow e k R m v' zs Mx' := by
  unfold app at hz
  split at hz
  · rename_i hb
    simp only [Option.some.injEq] at hz
    subst hz
    have hil := (List.getElem?_eq_some_iff.1 hS).1
    obtain ⟨inf, hinf, hsz, hby, hk⟩ := ht.inf
    obtain ⟨z, hz, hzl⟩ := hzv
    obtain ⟨zv, hzr, hzc⟩ := zeroB_run (P := P) hz
    obtain ⟨sad, scap, news, rfl, hnl, hnR, hfirst⟩ := hs.first (P := P)
    have hsize : ∀ w, (sizeOf e).run P w = .ok k w := fun w => by simp [sizeOf, typeInfo, hinf, hsz, go_sem]
    have hti : ∀ w, (typeInfo e).run P w = .ok inf w := fun w => by simp [typeInfo, hinf, go_sem]
    have hones : ∀ x ∈ news, Value.oneCell' x = true := by
      intro x hx
      obtain ⟨j, hj, rfl⟩ := List.mem_iff_getElem.1 hx
      have hjl : j / k < ys.length := by rw [Nat.div_lt_iff_lt_mul hk]; omega
      have h1 := M.one (hnR (j / k) ys[j / k] (by simp [hjl]))
      refine h1.all _ ?_
      rw [List.mem_iff_getElem?]
      refine ⟨j % k, ?_⟩
      rw [List.getElem?_take_of_lt (Nat.mod_lt _ hk), List.getElem?_drop]
      have : j / k * k + j % k = j := by rw [Nat.mul_comm]; exact Nat.div_add_mod j k
      rw [this]; simp [hj]
    -- the elements of the row that comes out, in a list of cells whose front is the old ones and then the new ones
    have elems : ∀ (c c' : List Value) (o o' : Nat), (∀ i x, xs[i]? = some x → R m ((c.drop (o + i * k)).take k) x) → (∀ i, i < xs.length → (c'.drop (o' + i * k)).take k = (c.drop (o + i * k)).take k) →
        (∀ i, i < ys.length → (c'.drop (o' + (xs.length + i) * k)).take k = (news.drop (i * k)).take k) → ∀ i x, (xs ++ ys)[i]? = some x → R m ((c'.drop (o' + i * k)).take k) x := by
      intro c c' o o' h7 ha hb i x hi
      by_cases hlt : i < xs.length
      · rw [List.getElem?_append_left hlt] at hi
        rw [ha i hlt]; exact h7 i x hi
      · rw [List.getElem?_append_right (by omega)] at hi
        have hl2 := (List.getElem?_eq_some_iff.1 hi).1
        have := hb (i - xs.length) hl2
        rw [show xs.length + (i - xs.length) = i from by omega] at this
        rw [this]; exact hnR _ _ hi
    obtain ⟨⟨base, cap, hv⟩, hxl⟩ := h.form
    subst hv
    by_cases hroom : xs.length + ys.length ≤ cap
    · -- there is room
      rcases h with ⟨hv, rfl, rfl⟩ | ⟨b, o, cap', c, hv, rfl, h3, h4, h5, h6, h7⟩
      · simp only [Value.slice.injEq] at hv
        obtain ⟨rfl, _, rfl⟩ := hv
        have hy : ys = [] := List.eq_nil_of_length_eq_zero (by simpa using hroom)
        subst hy
        have hn : news = [] := List.eq_nil_of_length_eq_zero (by simpa using hnl)
        subst hn
        refine ⟨.slice none 0 0, [], w, ?_, by rw [set_same hS]; exact ok, by simpa using ORow.nil⟩
        have hf := hfirst w (fun _ _ => rfl)
        simp only [List.length_nil] at hf
        simp [Builtin.append_, run_underlying ht.und, run_underlying ht', Builtin.lenOf, hsize, hf, Result.andThen]
      · simp only [Value.slice.injEq] at hv
        obtain ⟨rfl, _, rfl⟩ := hv
        have hle : o + xs.length * k + news.length ≤ c.length := by
          have : (xs.length + ys.length) * k ≤ cap * k := Nat.mul_le_mul_right _ hroom
          rw [Nat.add_mul] at this; omega
        have key : ∀ T', Ok u m ([(b, Obj.cells c.toArray e (0, 0))] :: T') w → ∃ w', (storeCells ⟨b, o + xs.length * k, none⟩ news).run P w = .ok () w' ∧ Ok u m ([(b, Obj.cells (wr c (o + xs.length * k) news).toArray e (0, 0))] :: T') w' := by
          intro T' ok'
          have := run_storeCells (P := P) news (o + xs.length * k) 0 c w hones (by omega) ok'
          simpa using this
        obtain ⟨w', hr, _⟩ := key _ (ok.frs i hS)
        refine ⟨.slice (some ⟨b, o, none⟩) (xs.length + ys.length) cap, [(b, Obj.cells (wr c (o + xs.length * k) news).toArray e (0, 0))], w', ?_, ?_, ?_⟩
        · have hf := hfirst w (fun _ _ => rfl)
          simp [Builtin.append_, run_underlying ht.und, run_underlying ht', Builtin.lenOf, hsize, hf, hroom, addr_add, hr, Result.andThen]
        · refine Ok.setSeg i S _ _ w w' hS (fun T' ok' => ?_) ok
          obtain ⟨w'', hr', ok''⟩ := key T' ok'
          rw [hr] at hr'; cases hr'; exact ok''
        · refine .inr ⟨b, o, cap, _, by simp, rfl, by simpa using hroom, h4, by rw [wr_length]; exact h5, by simp; unfold LIM at hb; unfold LIMS; omega, elems c _ o o h7 (fun i hi => ?_) (fun i hi => ?_)⟩
          · refine wr_take news c _ _ _ hle (.inl ?_)
            have : (i + 1) * k ≤ xs.length * k := Nat.mul_le_mul_right _ (by omega)
            rw [Nat.add_mul] at this; omega
          · have h9 : (i + 1) * k ≤ ys.length * k := Nat.mul_le_mul_right _ (by omega)
            rw [Nat.add_mul] at h9
            apply List.ext_getElem?
            intro j
            by_cases hj : j < k
            · rw [List.getElem?_take_of_lt hj, List.getElem?_take_of_lt hj, List.getElem?_drop, List.getElem?_drop, wr_get news c _ _ hle, Nat.add_mul, if_pos (by omega)]
              congr 1; omega
            · rw [List.getElem?_eq_none (by simp; omega), List.getElem?_eq_none (by simp; omega)]
    · -- a new block
      have hbytes : (xs.length + ys.length) * inf.bytes ≤ 140737488355328 := by
        have : (xs.length + ys.length) * inf.bytes ≤ 4294967296 * 32768 := Nat.mul_le_mul hb hby
        omega
      have hfit := growslice_fits (need := xs.length + ys.length) (old := cap) (bytes := inf.bytes) (by omega) hbytes
      have holds : SrcOK k R m w (.slice base xs.length cap) xs := SrcOK.ofRow h i (by simp [segAt, hS]) ok
      obtain ⟨oad, ocap, olds, ho1, ho2, ho3, ho4⟩ := holds.first (P := P)
      have hb' := hb
      unfold LIM at hb'
      have e48 : ¬ (281474976710656 < Builtin.nextslicecap (xs.length + ys.length) cap * inf.bytes) := by omega
      have hfo := ho4 w.drew (fun _ _ => rfl)
      have hfn := hfirst w.drew (fun _ _ => rfl)
      have hge := grownCap_ge w (xs.length + ys.length) cap e
      have hcm := grownCap_le_maxLen w (xs.length + ys.length) cap e (by unfold LIM at hb; unfold maxLen; omega)
      have hzs : zv.cells.size = k := by rw [← hzl, ← hzc]; simp
      refine ⟨.slice (some ⟨w.heap.size, 0, none⟩) (xs.length + ys.length) (grownCap w (xs.length + ys.length) cap e), [(w.heap.size, Obj.cells (olds ++ news ++ (Builtin.zeroCells zv.cells (grownCap w (xs.length + ys.length) cap e - (xs.length + ys.length))).toList).toArray e (0, 0))], w.drew.alloc (.cells (olds ++ news ++ (Builtin.zeroCells zv.cells (grownCap w (xs.length + ys.length) cap e - (xs.length + ys.length))).toList).toArray e (0, 0)), ?_, ?_, ?_⟩
      · have hn : ¬ (xs.length + ys.length ≤ cap) := hroom
        simp [Builtin.append_, run_underlying ht.und, run_underlying ht', Builtin.lenOf, hsize, hti, hn, e48, hzr, Question.forced, hfo, hfn, newRow, grownCap, Result.andThen]
        rw [if_neg (by omega)]
        congr 3
        simp [← Array.toList_inj]
      · exact Ok.replace ((ok.draw (w.drawn + 1)).alloc _) hil
      · refine .inr ⟨_, 0, _, _, by simp, rfl, by simpa using hge, hcm, ?_, by simp; unfold LIM at hb; unfold LIMS; omega, elems olds _ 0 0 (fun i x hi => by simpa using ho3 i x hi) (fun i hi => ?_) (fun i hi => ?_)⟩
        · simp only [List.length_append, ho2, hnl, Array.length_toList, size_zeroCells, hzs]
          rw [← Nat.add_mul, ← Nat.add_mul]; simp; apply Nat.mul_le_mul_right; omega
        · have h9 : (i + 1) * k ≤ xs.length * k := Nat.mul_le_mul_right _ (by omega)
          rw [Nat.add_mul] at h9
          rw [List.append_assoc]
          apply List.ext_getElem?
          intro j
          by_cases hj : j < k
          · rw [List.getElem?_take_of_lt hj, List.getElem?_take_of_lt hj, List.getElem?_drop, List.getElem?_drop, List.getElem?_append_left (by omega)]
          · rw [List.getElem?_eq_none (by simp; omega), List.getElem?_eq_none (by simp; omega)]
        · have h9 : (i + 1) * k ≤ ys.length * k := Nat.mul_le_mul_right _ (by omega)
          rw [Nat.add_mul] at h9
          rw [List.append_assoc]
          apply List.ext_getElem?
          intro j
          by_cases hj : j < k
          · rw [List.getElem?_take_of_lt hj, List.getElem?_take_of_lt hj, List.getElem?_drop, List.getElem?_drop, Nat.add_mul, List.getElem?_append_right (by omega), List.getElem?_append_left (by omega)]
            congr 1; omega
          · rw [List.getElem?_eq_none (by simp; omega), List.getElem?_eq_none (by simp; omega)]
  · cases hz
end
end Go.X
