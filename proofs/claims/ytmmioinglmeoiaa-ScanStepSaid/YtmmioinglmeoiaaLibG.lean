/- Literals (of slices and structs), append, stores into owned rows: as operations. -/
import Derived.Test.YtmmioinglmeoiaaLibF
namespace Go.X

theorem fold_wr : ∀ (vs : List Value) (i off : Nat) (c : List Value), (vs.zipIdx i).foldl (fun (cs : Array Value) (p : Value × Nat) => cs.setIfInBounds (off + p.2) p.1) c.toArray = (wr c (off + i) vs).toArray
  | [], i, off, c => by simp [wr]
  | v :: vs, i, off, c => by
    simp only [List.zipIdx_cons, List.foldl_cons, List.setIfInBounds_toArray, wr]
    rw [fold_wr vs (i + 1) off (c.set (off + i) v)]
    rfl

/-- The list form of 'fill'. -/
def fl (c : List Value) : List (Nat × List Value) → List Value
  | [] => c
  | (off, vs) :: ps => fl (wr c off vs) ps

def flOK (place : Nat → Option (Nat × Nat)) (n : Nat) : List (Nat × List Value) → List (Nat × Value) → Prop
  | [], [] => True
  | (off, vs) :: ps, (i, v) :: qs => place i = some (off, vs.length) ∧ v.cells.toList = vs ∧ Nat.ble (off + vs.length) n = true ∧ flOK place n ps qs
  | _, _ => False

theorem fill_fl (place : Nat → Option (Nat × Nat)) : ∀ (ps : List (Nat × List Value)) (qs : List (Nat × Value)) (c : List Value), flOK place c.length ps qs → Instr.fill place c.toArray qs = some (fl c ps).toArray
  | [], [], c, _ => rfl
  | (off, vs) :: ps, (i, v) :: qs, c, h => by
    obtain ⟨h1, h2, h3, h4⟩ := h
    have hsz : v.cells.size = vs.length := by rw [← h2]; simp
    have h3' := Nat.le_of_ble_eq_true h3
    unfold Instr.fill
    rw [h1]
    have hc : (v.cells.size ≠ vs.length || off + v.cells.size > c.toArray.size) = false := by
      simp [hsz]; omega
    simp only [hc, Bool.false_eq_true, if_false]
    have e : v.cells.zipIdx.foldl (fun cs x => cs.setIfInBounds (off + x.2) x.1) c.toArray = (wr c off vs).toArray := by
      have := fold_wr vs 0 off c
      rw [Nat.add_zero] at this
      rw [← this, ← h2, ← Array.foldl_toList, Array.toList_zipIdx]
    rw [e]
    exact fill_fl place ps qs _ (by rw [wr_length]; exact h4)
  | [], _ :: _, _, h => h.elim
  | _ :: _, [], _, h => h.elim

def placesB (P : Program) (t : TypeId) : Option (List (Nat × Nat)) :=
  match P.underlying t with
  | some (.struct fs) => fs.toList.mapM fun f => (P.info? f.type).map fun i => (f.offset, i.size)
  | _ => none

section
variable {P : Program} {C : World → Prop} {L : List (Nat × Value)} {ty : TypeId}

theorem run_places {w : World} : ∀ (fs : List Field) (pl : List (Nat × Nat)), (fs.mapM fun f => (P.info? f.type).map fun i => (f.offset, i.size)) = some pl →
    (fs.mapM fun (f : Field) => do pure (f.offset, ← sizeOf f.type) : Sem (List (Nat × Nat))).run P w = .ok pl w
  | [], pl, h => by simp at h; subst h; simp only [List.mapM_nil, Sem.run_pure]
  | f :: fs, pl, h => by
    simp only [List.mapM_cons] at h
    cases hi : P.info? f.type with
    | none => rw [hi] at h; simp at h
    | some i =>
      rw [hi] at h
      cases hr : (fs.mapM fun f => (P.info? f.type).map fun i => (f.offset, i.size)) with
      | none => rw [hr] at h; simp at h
      | some r =>
        rw [hr] at h
        simp at h
        subst h
        have ih := run_places (w := w) fs r hr
        have hs : (sizeOf f.type).run P w = .ok i.size w := by simp [sizeOf, typeInfo, hi, go_sem]
        simp only [List.mapM_cons, Sem.run_bind, hs, Result.andThen_ok, Sem.run_pure, ih]

/-- A struct literal. -/
theorem y_build {t : TypeId} {ps : List (Nat × Operand)} {vs : List Value} {pl : List (Nat × Nat)} {z cs : List Value} {qs : List (Nat × List Value)} (hz : zeroB P t = some z) (hp : placesB P t = some pl) (hx : evs L (ps.map (·.2)) = some vs)
    (hok : flOK (fun i => pl[i]?) z.length qs ((ps.map (·.1)).zip vs)) (hcs : fl z qs = cs) : Yields P C L (.build t ps.toArray) ty (.agg cs.toArray) := by
  intro ρ w dst pos after g E ok
  obtain ⟨zv, hzr, hzc⟩ := zeroB_run (P := P) hz
  subst hcs
  unfold placesB at hp
  cases hu : P.underlying t with
  | none => rw [hu] at hp; cases hp
  | some d =>
    rw [hu] at hp
    cases d <;> simp only [reduceCtorEq] at hp
    rename_i fs
    have hpr := run_places (w := w) fs.toList pl hp
    have hzs : zv.cells = z.toArray := by rw [← hzc]
    have hvals : ∀ (ps : List (Nat × Operand)) (vs : List Value), evs L (ps.map (·.2)) = some vs → ps.map (fun (x : Nat × Operand) => (x.1, ρ x.2)) = (ps.map (·.1)).zip vs := by
      intro ps
      induction ps with
      | nil => intro vs h; simp [evs] at h; subst h; rfl
      | cons p ps ih =>
        intro vs h
        simp only [List.map_cons, evs] at h
        cases h1 : ev L p.2 with
        | none => rw [h1] at h; cases h
        | some v =>
          cases h2 : evs L (ps.map (·.2)) with
          | none => rw [h1, h2] at h; cases h
          | some r =>
            rw [h1, h2] at h
            simp only [Option.some.injEq] at h
            subst h
            simp [E h1, ih r h2]
    have hf := fill_fl (fun i => pl[i]?) qs _ z hok
    rw [← hvals ps vs hx] at hf
    have hmap : (fs.mapM fun (f : Field) => do pure (f.offset, ← sizeOf f.type) : Sem (Array (Nat × Nat))).run P w = .ok pl.toArray w := by
      rw [← Array.toArray_toList (xs := fs), List.mapM_toArray, Sem.run_map, hpr]
      rfl
    have hf' : Instr.fill (fun i => pl.toArray[i]?) z.toArray (ps.map fun x => (x.1, ρ x.2)) = some (fl z qs).toArray := by
      rw [← hf]; congr 1; funext i; simp
    simp only [execOp, Instr.build, Sem.run_bind, hzr, Result.andThen_ok, run_underlying hu, hmap, hzs, List.map_toArray]
    simp only [hf', Sem.run_pure, Result.andThen_ok]
end

def enum : Nat → List Operand → List (Nat × Operand)
  | _, [] => []
  | i, x :: xs => (i, x) :: enum (i + 1) xs

/-- Values that read, one by one, as the elements of a list. -/
def Lits {α : Type} (k : Nat) (R : Rp α) (m : Mem) : List Value → List α → Prop
  | [], [] => True
  | v :: vs, x :: xs => (∃ cs, v.cells.toList = cs ∧ cs.length = k ∧ R m cs x) ∧ Lits k R m vs xs
  | _, _ => False

theorem Lits.len {α : Type} {k : Nat} {R : Rp α} {m : Mem} : ∀ {vs : List Value} {xs : List α}, Lits k R m vs xs → vs.length = xs.length
  | [], [], _ => rfl
  | _ :: _, _ :: _, h => by simp [Lits.len h.2]
  | [], _ :: _, h => h.elim
  | _ :: _, [], h => h.elim

def catc (vs : List Value) : List Value := vs.flatMap fun v => v.cells.toList

theorem Lits.clen {α : Type} {k : Nat} {R : Rp α} {m : Mem} : ∀ {vs : List Value} {xs : List α}, Lits k R m vs xs → (catc vs).length = xs.length * k
  | [], [], _ => by simp [catc]
  | v :: vs, x :: xs, h => by
    have := Lits.clen h.2
    obtain ⟨cs, rfl, h1, _⟩ := h.1
    simp only [catc, List.flatMap_cons, List.length_append, List.length_cons, Nat.add_mul] at *
    omega
  | [], _ :: _, h => h.elim
  | _ :: _, [], h => h.elim

theorem Lits.all {α : Type} {k : Nat} {R : Rp α} {m : Mem} : ∀ {vs : List Value} {xs : List α}, Lits k R m vs xs → ∀ v ∈ vs, v.cells.toList.length = k
  | [], [], _, _, h => by cases h
  | x :: vs, _ :: _, h, v, hv => by
    rcases List.mem_cons.1 hv with rfl | hv
    · obtain ⟨cs, rfl, h1, _⟩ := h.1; exact h1
    · exact Lits.all h.2 v hv
  | [], _ :: _, h, _, _ => h.elim
  | _ :: _, [], h, _, _ => h.elim

theorem Lits.get {α : Type} {k : Nat} {R : Rp α} {m : Mem} : ∀ {vs : List Value} {xs : List α}, Lits k R m vs xs → ∀ i x, xs[i]? = some x → R m (((catc vs).drop (i * k)).take k) x
  | [], [], _, i, x, hi => by simp at hi
  | v :: vs, x :: xs, h, 0, y, hi => by
    simp at hi; subst hi
    obtain ⟨cs, rfl, h1, h2⟩ := h.1
    simp only [catc, List.flatMap_cons, Nat.zero_mul, List.drop_zero]
    rw [← h1, List.take_left]; exact h2
  | v :: vs, x :: xs, h, i + 1, y, hi => by
    obtain ⟨cs, rfl, h1, h2⟩ := h.1
    simp only [catc, List.flatMap_cons]
    rw [Nat.add_mul, Nat.one_mul, Nat.add_comm (i * k), ← List.drop_drop, show List.drop k (v.cells.toList ++ List.flatMap (fun v => v.cells.toList) vs) = catc vs from by rw [← h1, List.drop_left]; rfl]
    exact Lits.get h.2 i y (by simpa using hi)
  | [], _ :: _, h, _, _, _ => h.elim
  | _ :: _, [], h, _, _, _ => h.elim

section
variable {α : Type} {e k : Nat} {R : Rp α} {m : Mem} {P : Program} {Q : Exit → Act → World → Prop} {n : Nat} {L : List (Nat × Value)} {l rest : List Oper} {a : Act} {w u : World} {S : Segs} {d : Nat} {ty : TypeId} {pos : String} {after : Array Edge} {g : Option (Nat × Bool)}

theorem fill_enum : ∀ (vs : List Value) (i : Nat) (c : List Value), (∀ v ∈ vs, v.cells.toList.length = k) → i * k + vs.length * k = c.length →
    Instr.fill (fun i => some (i * k, k)) c.toArray ((List.range' i vs.length).zip vs) = some (c.take (i * k) ++ catc vs).toArray
  | [], i, c, _, hl => by
    simp only [List.length_nil, List.range'_zero, List.zip_nil_left, Instr.fill, catc, List.flatMap_nil, List.append_nil]
    rw [List.take_of_length_le (by simp at hl; omega)]
  | v :: vs, i, c, hk, hl => by
    have hv := hk v (by simp)
    have hvs : v.cells.size = k := by simpa using hv
    simp only [List.length_cons, Nat.add_mul, Nat.one_mul] at hl
    simp only [List.length_cons, List.range'_succ, List.zip_cons_cons, Instr.fill]
    have hc : (v.cells.size ≠ k || i * k + v.cells.size > c.toArray.size) = false := by simp [hvs]; omega
    simp only [hc, Bool.false_eq_true, if_false]
    have e1 : v.cells.zipIdx.foldl (fun cs x => cs.setIfInBounds (i * k + x.2) x.1) c.toArray = (wr c (i * k) v.cells.toList).toArray := by
      have := fold_wr v.cells.toList 0 (i * k) c
      rw [Nat.add_zero] at this
      rw [← this, ← Array.foldl_toList, Array.toList_zipIdx]
    rw [e1, fill_enum vs (i + 1) _ (fun x hx => hk x (by simp [hx])) (by rw [wr_length, Nat.add_mul]; omega)]
    congr 2
    simp only [catc, List.flatMap_cons]
    rw [← List.append_assoc]
    congr 1
    rw [wr_append c v.cells.toList (i * k) (by omega), Nat.add_mul, Nat.one_mul]
    rw [List.take_append_of_le_length (by simp; omega), List.take_of_length_le (by simp; omega)]

/-- A slice literal, all of whose elements are written. -/
theorem l_slit {t : TypeId} {xo : List Operand} {vs : List Value} {xs : List α} {len : Nat} {z : List Value} (E : Env n a L) (ok : Ok u m S w) (ht : SlT P t e k) (hz : zeroB P e = some z) (hx : evs L xo = some vs) (hl : Lits k R m vs xs) (hlen : vs.length = len) (hsm : Nat.ble (len * k) 16777216 = true)
    (hg : want l L g = some true) (hd : Nat.blt d n = true)
    (K : ∀ v Mx a' w', Env n a' ((d, v) :: L) → Ok u m (Mx :: S) w' → ORow e k R m v xs Mx → wpList P l.toArray Q rest a' w') :
    wpList P l.toArray Q (⟨some d, .buildSlice t len (enum 0 xo).toArray, ty, pos, after, g⟩ :: rest) a w := by
  obtain ⟨i, hinf, hsz, hby, hk⟩ := ht.inf
  obtain ⟨zv, hzr, hzc⟩ := zeroB_run (P := P) hz
  have hsm' := Nat.le_of_ble_eq_true hsm
  have hxl := hl.len
  have hcl := hl.clen
  have hall : ∀ v ∈ vs, v.cells.toList.length = k := hl.all
  have hlk : len ≤ len * k := Nat.le_mul_of_pos_right _ hk
  subst hlen
  have hrow : ORow e k R m (.slice (some ⟨w.heap.size, 0, none⟩) vs.length vs.length) xs [(w.heap.size, Obj.cells (catc vs).toArray e (0, 0))] := by
    refine .inr ⟨_, 0, vs.length, catc vs, by rw [hxl], rfl, by omega, by unfold maxLen; omega, by rw [hcl, hxl]; simp, by unfold LIMS; omega, fun i x hi => ?_⟩
    simpa using hl.get i x hi
  refine l_op (v := .slice (some ⟨w.heap.size, 0, none⟩) vs.length vs.length) (w' := w.alloc (.cells (catc vs).toArray e)) E hg hd ?_ (fun a' E' => K _ _ _ _ E' (ok.alloc _) hrow)
  have hsz' : (sizeOf e).run P w = .ok k w := by simp [sizeOf, typeInfo, hinf, hsz, go_sem]
  have hens : ∀ (xo : List Operand) (i : Nat) (vs : List Value), evs L xo = some vs → (enum i xo).map (fun (x : Nat × Operand) => (x.1, a.eval x.2)) = (List.range' i vs.length).zip vs := by
    intro xo
    induction xo with
    | nil => intro i vs h; simp [evs] at h; subst h; rfl
    | cons x xo ih =>
      intro i vs h
      simp only [evs] at h
      cases h1 : ev L x with
      | none => rw [h1] at h; cases h
      | some v =>
        cases h2 : evs L xo with
        | none => rw [h1, h2] at h; cases h
        | some r =>
          rw [h1, h2] at h
          simp only [Option.some.injEq] at h
          subst h
          simp [enum, E.ev h1, ih (i + 1) r h2, List.range'_succ]
  have hbig : ¬ (vs.length * k > 2 ^ 24) := by omega
  have hfill : ∀ c : List Value, c.length = vs.length * k → Instr.fill (fun i => some (i * k, k)) c.toArray ((enum 0 xo).map (fun (x : Nat × Operand) => (x.1, a.eval x.2))) = some (catc vs).toArray := by
    intro c hc
    rw [hens xo 0 vs hx, fill_enum vs 0 c hall (by omega)]
    simp
  have hf2 : ∀ z : Array Value, Instr.fill (fun i => some (i * k, k)) ((Array.range (vs.length * k)).map (z[· % z.size]!)) ((enum 0 xo).map (fun (x : Nat × Operand) => (x.1, a.eval x.2))) = some (catc vs).toArray := by
    intro z
    have := hfill ((List.range (vs.length * k)).map (z[· % z.size]!)) (by simp)
    rw [← this]
    congr 1
    simp [← Array.toList_inj]
  by_cases h0 : vs.length * k = 0
  · have := hf2 #[]
    simp only [execOp, Instr.buildSlice, Sem.run_bind, run_underlying ht.und, Result.andThen_ok, hsz', if_false, h0, if_true, List.map_toArray, Sem.run_pure, show ¬ (0 > 2 ^ 24) from by omega]
    rw [h0] at this
    simp only [this, newRow, Sem.run_bind, run_newObj, Result.andThen_ok, Sem.run_pure]
  · simp only [execOp, Instr.buildSlice, Sem.run_bind, run_underlying ht.und, Result.andThen_ok, hsz', hbig, if_false, h0, List.map_toArray, Sem.run_pure, hzr, hf2, newRow, run_newObj]

/-- append. -/
theorem l_app {t t' : TypeId} {x y : Operand} {v sv : Value} {xs ys zs : List α} {Mx : List (Nat × Obj)} (E : Env n a L) (ok : Ok u m S w) (i : Nat) (M : Mono R) (ht : SlT P t e k) (ht' : P.underlying t' = some (.slice e)) (hS : S[i]? = some Mx) (h : ORow e k R m v xs Mx) (hs : SrcOK k R m w sv ys) (hz : app xs ys = some zs) (hzv : ∃ z, zeroB P e = some z ∧ z.length = k)
    (hx : ev L x = some v) (hy : ev L y = some sv) (hg : want l L g = some true) (hd : Nat.blt d n = true)
    (K : ∀ v' Mx' a' w', Env n a' ((d, v') :: L) → Ok u m (S.set i Mx') w' → ORow e k R m v' zs Mx' → wpList P l.toArray Q rest a' w') :
    wpList P l.toArray Q (⟨some d, .call { callee := .builtin .append, args := #[x, y], argTypes := #[t, t'] }, ty, pos, after, g⟩ :: rest) a w := by
  obtain ⟨v', Mx', w', hr, ok', hrow⟩ := run_app (ty := ty) M ok ht ht' hS h hs hz hzv
  refine l_op (v := v') (w' := w') E hg hd ?_ (fun a' E' => K _ _ _ _ E' ok' hrow)
  unfold execOp
  simp only [resolve, invoke, builtin, Sem.run_bind, Sem.run_pure, Result.andThen_ok, List.map_toArray, List.map_cons, List.map_nil, E.ev hx, E.ev hy, hr]

/-- A store into an element of an owned row. -/
theorem l_storeRow {t : TypeId} {x y : Operand} {b o sz : Nat} {v sv : Value} {xs ys : List α} {x0 x' : α} {p : Int} {Mx : List (Nat × Obj)} {svs : List Value} (E : Env n a L) (ok : Ok u m S w) (i : Nat) (hS : S[i]? = some Mx) (h : ORow e k R m v xs Mx) (hi : idx xs p = some x0) (hp : RowPtr k v p Mx b o)
    (hx : ev L x = some (.pointer (some ⟨b, o, none⟩))) (hy : ev L y = some sv) (hinf : ∃ i, P.info? t = some i ∧ i.size = sz) (hsv : sv.cells.toList = svs) (hsz : svs.length = sz) (hk : sz = k) (h1 : allOne svs) (hR : R m svs x') (hset : setI xs p x' = some ys) (hg : want l L g = some true)
    (K : ∀ Mx' w', Ok u m (S.set i Mx') w' → ORow e k R m v ys Mx' → wpList P l.toArray Q rest a w') :
    wpList P l.toArray Q (⟨none, .store t x y, ty, pos, after, g⟩ :: rest) a w := by
  obtain ⟨inf, hi1, hi2⟩ := hinf
  subst hsv
  have hlen : sv.cells.toList.length = k := by rw [← hk, ← hsz]
  have hsz' : sv.cells.size = sz := by rw [← hsz]; simp
  obtain ⟨c, rfl, hle, hrow⟩ := h.set hi hp hlen hR
  have hys : ys = xs.set p.toNat x' := by
    unfold setI at hset
    split at hset
    · exact (Option.some.inj hset).symm
    · cases hset
  subst hys
  have key : ∀ T', Ok u m ([(b, Obj.cells c.toArray e (0, 0))] :: T') w → ∃ w', (storeCells ⟨b, o, none⟩ sv.cells.toList).run P w = .ok () w' ∧ Ok u m ([(b, Obj.cells (wr c o sv.cells.toList).toArray e (0, 0))] :: T') w' := by
    intro T' ok'
    have := run_storeCells (P := P) sv.cells.toList o 0 c w h1.all (by omega) ok'
    simpa using this
  obtain ⟨w', hr, _⟩ := key _ (ok.frs i hS)
  refine l_op0 (w' := w') E hg ?_ (K _ w' (Ok.setSeg i S _ _ w w' hS (fun T' ok' => ?_) ok) hrow)
  · have hs' : (sizeOf t).run P w = .ok sv.cells.size w := by rw [hsz']; simp [sizeOf, typeInfo, hi1, hi2, go_sem]
    simp only [execOp, E.ev hx, E.ev hy, Instr.storeAt, Instr.sureAddr, storeVar, Sem.run_bind, Sem.run_pure, hs', Result.andThen_ok, ne_eq, not_true_eq_false, if_false, hr]
  · obtain ⟨w'', hr', ok''⟩ := key T' ok'
    rw [hr] at hr'; cases hr'; exact ok''
end

section
variable {P : Program} {C : World → Prop} {L : List (Nat × Value)} {ty : TypeId}
theorem y_lenR {α : Type} {e k : Nat} {R : Rp α} {m : Mem} {v : Value} {xs : List α} {Mx : List (Nat × Obj)} {t : TypeId} {X : Operand} (ht : SlT P t e k) (h : ORow e k R m v xs Mx) (hX : ev L X = some v) :
    Yields P C L (.call { callee := .builtin .len, args := #[X], argTypes := #[t] }) ty (.int .i64 xs.length) := by
  obtain ⟨⟨a, cap, rfl⟩, _⟩ := h.form
  exact y_len ht.und hX
end
end Go.X
namespace Go.X
theorem sb_of {n : Nat} {a : Act} {L : List (Nat × Value)} (_ : Env n a L) {x : Option Operand} {p d : Int} (h : SB L x p d) : SB L x p d := h
end Go.X
