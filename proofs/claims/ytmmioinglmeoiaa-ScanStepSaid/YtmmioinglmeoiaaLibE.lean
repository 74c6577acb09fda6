/- Rows of memory that the call owns: slices that it makes, fills, appends to; and what it does with them. -/
import Derived.Test.YtmmioinglmeoiaaLibD
import Derived.Lib.Strings
namespace Go.X

/-- v is a slice whose array the call owns (segment Mx); it reads as xs. -/
def ORow {α : Type} (e k : Nat) (R : Rp α) (m : Mem) (v : Value) (xs : List α) (Mx : List (Nat × Obj)) : Prop :=
  (v = .slice none 0 0 ∧ xs = [] ∧ Mx = []) ∨
  ∃ b o cap c, v = .slice (some ⟨b, o, none⟩) xs.length cap ∧ Mx = [(b, Obj.cells (List.toArray c) e (0, 0))] ∧ xs.length ≤ cap ∧ cap ≤ maxLen ∧ o + cap * k ≤ c.length ∧ xs.length ≤ LIMS ∧
    ∀ i x, xs[i]? = some x → R m ((c.drop (o + i * k)).take k) x

section
variable {α : Type} {e k : Nat} {R : Rp α} {m m' : Mem} {v : Value} {xs : List α} {Mx : List (Nat × Obj)} {P : Program} {u w : World} {S : Segs}

theorem ORow.up (M : Mono R) (hm : m.le m') (h : ORow e k R m v xs Mx) : ORow e k R m' v xs Mx := by
  rcases h with h | ⟨b, o, cap, c, h1, h2, h3, h4, h5, h6, h7⟩
  · exact .inl h
  · exact .inr ⟨b, o, cap, c, h1, h2, h3, h4, h5, h6, fun i x hi => M.up hm (h7 i x hi)⟩

theorem ORow.nil : ORow e k R m (.slice none 0 0) ([] : List α) [] := .inl ⟨rfl, rfl, rfl⟩
theorem Ok.addnil (ok : Ok u m S w) : Ok u m ([] :: S) w := ⟨ok.os, ok.out, ok.tape, ok.ro, by simpa using ok.own, by simpa using ok.nd, ok.base⟩
theorem ORow.form (h : ORow e k R m v xs Mx) : (∃ a cap, v = .slice a xs.length cap) ∧ xs.length ≤ LIMS := by
  rcases h with ⟨rfl, rfl, _⟩ | ⟨b, o, cap, c, h1, _, _, _, _, h6, _⟩
  · exact ⟨⟨none, 0, rfl⟩, Nat.zero_le _⟩
  · exact ⟨⟨_, _, h1⟩, h6⟩
theorem ORow.cells (h : ORow e k R m v xs Mx) : v.cells.toList = [v] := by obtain ⟨⟨a, cap, rfl⟩, _⟩ := h.form; rfl
theorem ORow.one (h : ORow e k R m v xs Mx) : v.oneCell' = true := by obtain ⟨⟨a, cap, rfl⟩, _⟩ := h.form; rfl
theorem ORow.InR (h : ORow e k R m v xs Mx) : InR .i64 (xs.length : Int) := InR.len h.form.2

/-- The row frozen: it reads in the view. -/
theorem ORow.froz (M : Mono R) (h : ORow e k R m v xs Mx) (hle : m.le m') (hf : ∀ p ∈ Mx, m' p.1 = some p.2) (hk : 0 < k) : pL k R m' [v] xs := by
  rcases h with ⟨rfl, rfl, _⟩ | ⟨b, o, cap, c, rfl, rfl, h3, h4, h5, h6, h7⟩
  · exact pL_nil
  · refine ⟨_, cap, rfl, h3, h4, h6, fun _ => ⟨b, o, rfl, fun i x hi => ⟨_, ?_, ?_, M.up hle (h7 i x hi)⟩⟩⟩
    · have hlt := (List.getElem?_eq_some_iff.1 hi).1
      have : (i + 1) * k ≤ cap * k := Nat.mul_le_mul_right _ (by omega)
      rw [Nat.add_mul] at this
      simp; omega
    · intro j y hj
      have hlt : j < k := by
        rcases Nat.lt_or_ge j k with h1 | h1
        · exact h1
        · have : ((c.drop (o + i * k)).take k)[j]? = none := List.getElem?_eq_none (by simp; omega)
          rw [this] at hj; cases hj
      rw [List.getElem?_take_of_lt hlt, List.getElem?_drop] at hj
      have := hf (b, Obj.cells c.toArray e (0, 0)) (by simp)
      simp only at this
      simp [Mem.cell, this, hj]

theorem Ok.thaw {m1 : Mem} {w' : World} {s : List (Nat × Obj)} (ok : Ok u m (s :: S) w) (hle : m.le m1) (hf : ∀ p ∈ s, m1 p.1 = some p.2) (ok' : Ok u m1 S w') : Ok u m (s :: S) w' := by
  have hd := ok.nd
  simp only [List.flatten_cons] at hd
  obtain ⟨hd1, _, _⟩ := List.pairwise_append.1 hd
  refine ⟨ok'.os, ok'.out, ok'.tape, fun b o hb => ok'.ro b o (hle b o hb), fun p hp => ?_, ?_, ok.base⟩
  · simp only [List.flatten_cons, List.mem_append] at hp
    rcases hp with hp | hp
    · exact ⟨ok'.ro _ _ (hf p hp), (ok.own p (by simp [hp])).2⟩
    · exact (ok'.down ok.base hle).own p hp
  · simp only [List.flatten_cons]
    refine List.pairwise_append.2 ⟨hd1, ok'.nd, fun p hp q hq e => ?_⟩
    have h1 := hf p hp
    have h2 := (ok'.own q hq).2
    rw [e, h2] at h1
    cases h1

/-- The k-th segment to the front; those before it behind it. -/
theorem Ok.frs (k : Nat) {s : List (Nat × Obj)} (ok : Ok u m S w) (h : S[k]? = some s) : Ok u m (s :: S.eraseIdx k) w := by
  refine ok.perm ?_
  have := Ok.front_perm k S (List.getElem?_eq_some_iff.1 h).1
  simpa [Ok.front, h] using this

def sel (S : Segs) : List Nat → Segs → Segs
  | [], T => T
  | k :: ks, T => segAt S k :: sel S ks T

theorem sel_eq (S : Segs) (ks : List Nat) (T : Segs) : sel S ks T = ks.map (segAt S) ++ T := by
  induction ks with
  | nil => rfl
  | cons k ks ih => simp [sel, ih]

theorem sel_sub : ∀ (n : Nat) (ks : List Nat) (S : Segs), ks.Nodup → (∀ k ∈ ks, k < n) → n ≤ S.length → ∃ R : List (Nat × Obj), S.flatten.Perm (R ++ (sel S ks (S.drop n)).flatten) := by
  intro n ks S hnd hlt hn
  have key : ∀ (ks : List Nat) (pre : Segs), ks.Nodup → (∀ k ∈ ks, k < pre.length) → ∃ R : List (Nat × Obj), pre.flatten.Perm (R ++ (ks.map fun k => (pre[k]?).getD []).flatten) := by
    intro ks
    induction ks with
    | nil => intro pre _ _; exact ⟨pre.flatten, by simp⟩
    | cons k ks ih =>
      intro pre hnd hlt
      obtain ⟨hk, hnd'⟩ := List.nodup_cons.1 hnd
      have hkl := hlt k (by simp)
      -- replace segment k by nothing
      obtain ⟨R, hR⟩ := ih (pre.set k []) hnd' (fun j hj => by simpa using hlt j (by simp [hj]))
      refine ⟨R, ?_⟩
      have e1 : (ks.map fun j => ((pre.set k [])[j]?).getD []) = ks.map fun j => (pre[j]?).getD [] := by
        apply List.map_congr_left
        intro j hj
        have : k ≠ j := fun h => hk (h ▸ hj)
        rw [List.getElem?_set_ne this]
      rw [e1] at hR
      have h1 : pre.flatten.Perm ((pre[k]?).getD [] ++ (pre.eraseIdx k).flatten) := by
        have := Ok.front_perm k pre hkl
        simpa [Ok.front] using this
      have h2 : (pre.set k []).flatten.Perm (pre.eraseIdx k).flatten := by
        have := Ok.front_perm k (pre.set k []) (by simpa using hkl)
        simp only [Ok.front, List.getElem?_set_self hkl, Option.getD_some, List.flatten_cons, List.nil_append, List.eraseIdx_set_eq] at this
        exact this
      refine h1.trans ?_
      refine ((h2.symm.trans hR).append_left _).trans ?_
      simp only [List.map_cons, List.flatten_cons]
      rw [← List.append_assoc, ← List.append_assoc]
      exact (List.perm_append_comm).append_right _
  obtain ⟨R, hR⟩ := key ks (S.take n) hnd (fun k hk => by simp; have := hlt k hk; omega)
  refine ⟨R, ?_⟩
  have e : (ks.map fun k => ((S.take n)[k]?).getD []) = ks.map (segAt S) := by
    apply List.map_congr_left
    intro j hj
    simp [segAt, List.getElem?_take_of_lt (hlt j hj)]
  rw [e] at hR
  rw [sel_eq, List.flatten_append, ← List.append_assoc]
  conv => lhs; rw [← List.take_append_drop n S, List.flatten_append]
  exact hR.append_right _

/-- Of the first n segments those that are named, in that order; the others are let go. -/
theorem Ok.pk (n : Nat) (ks : List Nat) (ok : Ok u m S w) (hn : Nat.ble n S.length = true) (hk : (ks.Nodup ∧ ∀ k ∈ ks, k < n)) : Ok u m (sel S ks (S.drop n)) w := by
  obtain ⟨R, hR⟩ := sel_sub n ks S hk.1 hk.2 (Nat.le_of_ble_eq_true hn)
  have ok2 : Ok u m (R :: sel S ks (S.drop n)) w := ok.perm (by simpa using hR)
  exact ok2.drop

/-- An index into an owned row. -/
def RowPtr (k : Nat) (v : Value) (p : Int) (Mx : List (Nat × Obj)) (b o : Nat) : Prop :=
  ∃ o' cap c len e, v = .slice (some ⟨b, o', none⟩) len cap ∧ Mx = [(b, Obj.cells (List.toArray c) e (0, 0))] ∧ 0 ≤ p ∧ o = o' + p.toNat * k

theorem orowAt {L : List (Nat × Value)} {kd : IntKind} {p : Int} {x : α} {t : TypeId} (ht : SlT P t e k) (h : ORow e k R m v xs Mx) (hi : idx xs p = some x) {X I : Operand} (hX : ev L X = some v) (hI : ev L I = some (.int kd p)) :
    ∃ b o, RowPtr k v p Mx b o ∧ ∀ C ty, Yields P C L (.indexAddr t X I) ty (.pointer (some ⟨b, o, none⟩)) := by
  unfold idx at hi
  split at hi
  · rename_i h0
    obtain ⟨hlt, _⟩ := List.getElem?_eq_some_iff.1 hi
    rcases h with ⟨rfl, rfl, _⟩ | ⟨b, o, cap, c, rfl, rfl, h3, h4, h5, h6, h7⟩
    · simp at hlt
    · refine ⟨b, o + p.toNat * k, ⟨o, cap, c, _, e, rfl, rfl, h0, rfl⟩, ?_⟩
      intro C ty ρ w dst pos after g E ok
      obtain ⟨i, hinf, hsz, _, _⟩ := ht.inf
      have hs : (sizeOf e).run P w = .ok k w := by simp [sizeOf, typeInfo, hinf, hsz, go_sem]
      have hb : p < (xs.length : Int) := by omega
      simp only [execOp, E hX, E hI, Instr.indexAt, asIntOf]
      simp [run_underlying ht.und, h0, hb, hs, addr_add, Result.andThen, go_sem]
  · cases hi

/-- What the owned row holds at an index. -/
theorem orowGet {p : Int} {x : α} {b o : Nat} (h : ORow e k R m v xs Mx) (hi : idx xs p = some x) (hp : RowPtr k v p Mx b o) (hk : 0 < k) :
    ∃ es, es.length = k ∧ R m es x ∧ ∀ (u : World) (m : Mem) (S : Segs) (j : Nat), segAt S j = Mx → Holds (Ok u m S) b o es := by
  unfold idx at hi
  split at hi
  · rename_i h0
    obtain ⟨hlt, _⟩ := List.getElem?_eq_some_iff.1 hi
    obtain ⟨o1, cap1, c1, l1, e1, hv, hM, _, rfl⟩ := hp
    rcases h with ⟨rfl, rfl, _⟩ | ⟨b', o', cap, c, rfl, rfl, h3, h4, h5, h6, h7⟩
    · simp at hlt
    · simp only [Value.slice.injEq, Option.some.injEq, Addr.mk.injEq, and_true] at hv
      obtain ⟨⟨rfl, rfl⟩, rfl, rfl⟩ := hv
      have hlen : ((c.drop (o' + p.toNat * k)).take k).length = k := by
        have : (p.toNat + 1) * k ≤ cap * k := Nat.mul_le_mul_right _ (by omega)
        rw [Nat.add_mul] at this
        simp; omega
      refine ⟨_, hlen, h7 _ _ hi, fun u m S j hS => Holds.own j hS (by rw [hlen])⟩
  · cases hi

theorem wr_length : ∀ (vs : List Value) (c : List Value) (o : Nat), (wr c o vs).length = c.length
  | [], _, _ => rfl
  | v :: vs, c, o => by simp [wr, wr_length vs]

theorem wr_get : ∀ (vs : List Value) (c : List Value) (o j : Nat), o + vs.length ≤ c.length → (wr c o vs)[j]? = if o ≤ j ∧ j < o + vs.length then vs[j - o]? else c[j]?
  | [], c, o, j, _ => by simp [wr]; omega
  | v :: vs, c, o, j, h => by
    simp only [List.length_cons] at h
    rw [wr, wr_get vs _ _ _ (by simp; omega)]
    by_cases h1 : j = o
    · subst h1
      have h2 : ¬ (j + 1 ≤ j ∧ j < j + 1 + vs.length) := by omega
      have h3 : j ≤ j ∧ j < j + (vs.length + 1) := by omega
      have h4 : j < c.length := by omega
      simp [h2, h3, h4]
    · rw [List.getElem?_set_ne (fun h => h1 h.symm)]
      by_cases h2 : o + 1 ≤ j ∧ j < o + 1 + vs.length
      · have h3 : o ≤ j ∧ j < o + (v :: vs).length := by simp; omega
        rw [if_pos h2, if_pos h3, show j - o = (j - (o + 1)) + 1 from by omega]
        simp
      · have h3 : ¬ (o ≤ j ∧ j < o + (v :: vs).length) := by simp; omega
        rw [if_neg h2, if_neg h3]

theorem wr_take (vs : List Value) (c : List Value) (o a n : Nat) (h : o + vs.length ≤ c.length) (hd : a + n ≤ o ∨ o + vs.length ≤ a) : ((wr c o vs).drop a).take n = (c.drop a).take n := by
  apply List.ext_getElem?
  intro j
  by_cases hj : j < n
  · rw [List.getElem?_take_of_lt hj, List.getElem?_take_of_lt hj, List.getElem?_drop, List.getElem?_drop, wr_get vs c o _ h, if_neg (by omega)]
  · rw [List.getElem?_eq_none (by simp; omega), List.getElem?_eq_none (by simp; omega)]

theorem wr_self (vs : List Value) (c : List Value) (o : Nat) (h : o + vs.length ≤ c.length) : ((wr c o vs).drop o).take vs.length = vs := by
  apply List.ext_getElem?
  intro j
  by_cases hj : j < vs.length
  · rw [List.getElem?_take_of_lt hj, List.getElem?_drop, wr_get vs c o _ h, if_pos (by omega)]
    congr 1; omega
  · rw [List.getElem?_eq_none (by simp; omega), List.getElem?_eq_none (by omega)]

/-- The row behind a store. -/
theorem ORow.set {p : Int} {x x' : α} {b o : Nat} {vs : List Value} (h : ORow e k R m v xs Mx) (hi : idx xs p = some x) (hp : RowPtr k v p Mx b o) (hl : vs.length = k) (hR : R m vs x') :
    ∃ c, Mx = [(b, Obj.cells (List.toArray c) e (0, 0))] ∧ o + vs.length ≤ c.length ∧ ORow e k R m v (xs.set p.toNat x') [(b, Obj.cells (wr c o vs).toArray e (0, 0))] := by
  unfold idx at hi
  split at hi
  · rename_i h0
    obtain ⟨hlt, _⟩ := List.getElem?_eq_some_iff.1 hi
    obtain ⟨o1, cap1, c1, l1, e1, hv, hM, _, rfl⟩ := hp
    rcases h with ⟨rfl, rfl, _⟩ | ⟨b', o', cap, c, rfl, rfl, h3, h4, h5, h6, h7⟩
    · simp at hlt
    · simp only [Value.slice.injEq, Option.some.injEq, Addr.mk.injEq, and_true] at hv
      obtain ⟨⟨rfl, rfl⟩, rfl, rfl⟩ := hv
      have hle : o' + p.toNat * k + vs.length ≤ c.length := by
        have : (p.toNat + 1) * k ≤ cap * k := Nat.mul_le_mul_right _ (by omega)
        rw [Nat.add_mul] at this
        omega
      refine ⟨c, rfl, hle, .inr ⟨b', o', cap, _, by simp, rfl, by simpa using h3, h4, by rw [wr_length]; exact h5, by simpa using h6, fun i y hy => ?_⟩⟩
      by_cases hip : i = p.toNat
      · subst hip
        rw [List.getElem?_set_self hlt] at hy
        cases hy
        have := wr_self vs c (o' + p.toNat * k) hle
        rw [hl] at this
        rw [this]; exact hR
      · rw [List.getElem?_set_ne (fun h => hip h.symm)] at hy
        rw [wr_take vs c _ _ _ hle]
        · exact h7 i y hy
        · rcases Nat.lt_or_ge i p.toNat with h8 | h8
          · left
            have : (i + 1) * k ≤ p.toNat * k := Nat.mul_le_mul_right _ (by omega)
            rw [Nat.add_mul] at this
            omega
          · right
            have : (p.toNat + 1) * k ≤ i * k := Nat.mul_le_mul_right _ (by omega)
            rw [Nat.add_mul] at this
            omega
  · cases hi

/-- A bound of a slice expression: written, or left to its default. -/
def SB (L : List (Nat × Value)) (x : Option Operand) (p dflt : Int) : Prop :=
  match x with
  | none => p = dflt
  | some y => ∃ kd, ev L y = some (.int kd p)

/-- A part of the row. -/
theorem ORow.slice {lo hi : Int} {ys : List α} {L : List (Nat × Value)} {t : TypeId} (ht : SlT P t e k) (h : ORow e k R m v xs Mx) (hs : slc xs lo hi = some ys) {X : Operand} {lov hiv : Option Operand}
    (hX : ev L X = some v) (hl : SB L lov lo 0) (hh : SB L hiv hi xs.length) :
    ∃ v', ORow e k R m v' ys Mx ∧ ∀ C ty, Yields P C L (.slice t X lov hiv none) ty v' := by
  have hlo : ∀ x, lov = some x → ∃ kd, ev L x = some (.int kd lo) := fun x hx => by subst hx; exact hl
  have hlo0 : lov = none → lo = 0 := fun hx => by subst hx; exact hl
  have hhi : ∀ x, hiv = some x → ∃ kd, ev L x = some (.int kd hi) := fun x hx => by subst hx; exact hh
  have hhi0 : hiv = none → hi = xs.length := fun hx => by subst hx; exact hh
  clear hl hh
  unfold slc at hs
  split at hs
  · rename_i hb
    obtain ⟨h1, h2, h3⟩ := hb
    simp only [Option.some.injEq] at hs
    subst hs
    obtain ⟨i, hinf, hsz, _, _⟩ := ht.inf
    have hlen : ((xs.drop lo.toNat).take (hi - lo).toNat).length = (hi - lo).toNat := by simp; omega
    -- the run, whatever the row's form
    have run : ∀ (a : Option Addr) (cap : Nat), v = .slice a xs.length cap → xs.length ≤ cap → ∀ C ty, Yields P C L (.slice t X lov hiv none) ty (.slice (if cap = lo.toNat then a else a.map (·.add (lo.toNat * k))) (hi.toNat - lo.toNat) (cap - lo.toNat)) := by
      intro a cap hv hc C ty ρ w dst pos after g E ok
      subst hv
      have hsz' : (sizeOf e).run P w = .ok k w := by simp [sizeOf, typeInfo, hinf, hsz, go_sem]
      have b1 : (Instr.sliceBounds true xs.length cap (lov.map ρ) (hiv.map ρ) none).run P w = .ok (lo.toNat, hi.toNat, cap) w := by
        unfold Instr.sliceBounds
        have hh : hi ≤ (cap : Int) := by omega
        have hh0 : 0 ≤ hi := by omega
        cases hiv with
        | none =>
          have := hhi0 rfl; subst this
          cases lov with
          | none => have := hlo0 rfl; subst this; simp [go_sem]
          | some y =>
            obtain ⟨kd, hy⟩ := hlo y rfl
            simp [E hy, Instr.sliceBound, asIntOf, h1, h2, go_sem]
        | some z =>
          obtain ⟨kd', hz⟩ := hhi z rfl
          cases lov with
          | none => have := hlo0 rfl; subst this; simp [E hz, Instr.sliceBound, asIntOf, hh, hh0, go_sem]
          | some y =>
            obtain ⟨kd, hy⟩ := hlo y rfl
            simp [E hz, E hy, Instr.sliceBound, asIntOf, hh, hh0, h1, go_sem]
            intro h; omega
      simp only [execOp, Instr.sliceAt, E hX, Sem.run_bind, run_underlying ht.und, Result.andThen_ok, Instr.slice, Option.map_none, b1, hsz', Sem.run_pure]
    rcases h with ⟨rfl, rfl, rfl⟩ | ⟨b, o, cap, c, rfl, rfl, g3, g4, g5, g6, g7⟩
    · have hl0 : lo = 0 := by simp at h3; omega
      have hh0 : hi = 0 := by simp at h3; omega
      subst hl0; subst hh0
      refine ⟨_, ?_, run none 0 rfl (Nat.le_refl _)⟩
      simp
      exact ORow.nil
    · refine ⟨_, ?_, run _ cap rfl g3⟩
      have hlc : lo.toNat ≤ cap := by omega
      have hmul : o + lo.toNat * k + (cap - lo.toNat) * k = o + cap * k := by
        have : (lo.toNat + (cap - lo.toNat)) * k = cap * k := by congr 1; omega
        rw [Nat.add_mul] at this; omega
      by_cases hcl : cap = lo.toNat
      · -- nothing is left behind
        have hx : xs.length = lo.toNat := by omega
        have hh : hi.toNat = lo.toNat := by omega
        refine .inr ⟨b, o, cap - lo.toNat, c, ?_, rfl, by rw [hlen]; omega, by omega, by rw [hcl]; simp; omega, by rw [hlen]; omega, fun i x hi' => ?_⟩
        · simp [hcl, hh, hlen]; omega
        · have := (List.getElem?_eq_some_iff.1 hi').1
          rw [hlen] at this; omega
      · refine .inr ⟨b, o + lo.toNat * k, cap - lo.toNat, c, ?_, rfl, by rw [hlen]; omega, by omega, by omega, by rw [hlen]; omega, fun i x hi' => ?_⟩
        · simp [hcl, hlen, addr_add]; omega
        · have hlt := (List.getElem?_eq_some_iff.1 hi').1
          rw [hlen] at hlt
          rw [List.getElem?_take_of_lt hlt, List.getElem?_drop] at hi'
          have := g7 _ _ hi'
          rw [Nat.add_mul] at this
          rwa [← Nat.add_assoc] at this
  · cases hs

theorem nilrow (ok : Ok u m S w) : ∃ Mx, Ok u m (Mx :: S) w ∧ ORow e k R m (.slice none 0 0) ([] : List α) Mx := ⟨[], ok.addnil, ORow.nil⟩

theorem Ok.thawAt {m1 : Mem} {w' : World} {s : List (Nat × Obj)} (k : Nat) (hs : S[k]? = some s) (ok : Ok u m S w) (hle : m.le m1) (hf : ∀ p ∈ s, m1 p.1 = some p.2) (ok' : Ok u m1 (S.eraseIdx k) w') : Ok u m S w' := by
  have h := (ok.frs k hs).thaw hle hf ok'
  refine h.perm ?_
  have := Ok.front_perm k S (List.getElem?_eq_some_iff.1 hs).1
  simp only [Ok.front, hs, Option.getD_some] at this
  exact this.symm
theorem Holds.sub {C : World → Prop} {b o : Nat} {cs : List Value} (k n : Nat) (h : Holds C b o cs) : Holds C b (o + k) ((cs.drop k).take n) := by
  intro w hw j x hj
  have hlt : j < n := by
    rcases Nat.lt_or_ge j n with h1 | h1
    · exact h1
    · have : ((cs.drop k).take n)[j]? = none := List.getElem?_eq_none (by simp; omega)
      rw [this] at hj; cases hj
  rw [List.getElem?_take_of_lt hlt, List.getElem?_drop] at hj
  have := h w hw (k + j) x hj
  rwa [← Nat.add_assoc] at this

/-- A part of a slice that reads in the view. -/
theorem pL_slice {lo hi : Int} {ys : List α} {L : List (Nat × Value)} {t : TypeId} (ht : SlT P t e k) (h : pL k R m [v] xs) (hs : slc xs lo hi = some ys) {X : Operand} {lov hiv : Option Operand}
    (hX : ev L X = some v) (hl : SB L lov lo 0) (hh : SB L hiv hi xs.length) :
    ∃ v', pL k R m [v'] ys ∧ ∀ C ty, Yields P C L (.slice t X lov hiv none) ty v' := by
  have hlo : ∀ x, lov = some x → ∃ kd, ev L x = some (.int kd lo) := fun x hx => by subst hx; exact hl
  have hlo0 : lov = none → lo = 0 := fun hx => by subst hx; exact hl
  have hhi : ∀ x, hiv = some x → ∃ kd, ev L x = some (.int kd hi) := fun x hx => by subst hx; exact hh
  have hhi0 : hiv = none → hi = xs.length := fun hx => by subst hx; exact hh
  clear hl hh
  unfold slc at hs
  split at hs
  · rename_i hb
    obtain ⟨h1, h2, h3⟩ := hb
    simp only [Option.some.injEq] at hs
    subst hs
    obtain ⟨i, hinf, hsz, _, _⟩ := ht.inf
    have hlen : ((xs.drop lo.toNat).take (hi - lo).toNat).length = (hi - lo).toNat := by simp; omega
    obtain ⟨a, cap, hv0, g3, g4, g5, g6⟩ := h
    have hv : v = .slice a xs.length cap := (List.cons.inj hv0).1
    subst hv
    refine ⟨.slice (if cap = lo.toNat then a else a.map (·.add (lo.toNat * k))) (hi.toNat - lo.toNat) (cap - lo.toNat), ?_, ?_⟩
    · refine ⟨_, cap - lo.toNat, by rw [hlen, show hi.toNat - lo.toNat = (hi - lo).toNat from by omega], by rw [hlen]; omega, by omega, by rw [hlen]; omega, fun hne => ?_⟩
      rw [hlen] at hne
      obtain ⟨b, o, rfl, g7⟩ := g6 (by omega)
      have hcl : ¬ cap = lo.toNat := by omega
      refine ⟨b, o + lo.toNat * k, by simp [hcl, addr_add], fun i x hi' => ?_⟩
      have hlt := (List.getElem?_eq_some_iff.1 hi').1
      rw [hlen] at hlt
      rw [List.getElem?_take_of_lt hlt, List.getElem?_drop] at hi'
      obtain ⟨es, e1, e2, e3⟩ := g7 _ _ hi'
      rw [Nat.add_mul, ← Nat.add_assoc] at e2
      exact ⟨es, e1, e2, e3⟩
    · intro C ty ρ w dst pos after g E ok
      have hsz' : (sizeOf e).run P w = .ok k w := by simp [sizeOf, typeInfo, hinf, hsz, go_sem]
      have b1 : (Instr.sliceBounds true xs.length cap (lov.map ρ) (hiv.map ρ) none).run P w = .ok (lo.toNat, hi.toNat, cap) w := by
        unfold Instr.sliceBounds
        have hh : hi ≤ (cap : Int) := by omega
        have hh0 : 0 ≤ hi := by omega
        cases hiv with
        | none =>
          have := hhi0 rfl; subst this
          cases lov with
          | none => have := hlo0 rfl; subst this; simp [go_sem]
          | some y =>
            obtain ⟨kd, hy⟩ := hlo y rfl
            simp [E hy, Instr.sliceBound, asIntOf, h1, h2, go_sem]
        | some z =>
          obtain ⟨kd', hz⟩ := hhi z rfl
          cases lov with
          | none => have := hlo0 rfl; subst this; simp [E hz, Instr.sliceBound, asIntOf, hh, hh0, go_sem]
          | some y =>
            obtain ⟨kd, hy⟩ := hlo y rfl
            simp [E hz, E hy, Instr.sliceBound, asIntOf, hh, hh0, h1, go_sem]
            intro h; omega
      simp only [execOp, Instr.sliceAt, E hX, Sem.run_bind, run_underlying ht.und, Result.andThen_ok, Instr.slice, Option.map_none, b1, hsz', Sem.run_pure]
  · cases hs

/-- A part of a string. -/
theorem y_sslice {lo hi : Int} {s r : List UInt8} {L : List (Nat × Value)} {t ty : TypeId} {C : World → Prop} {X : Operand} {lov hiv : Option Operand} (ht : P.underlying t = some .string) (hs : slc s lo hi = some r)
    (hX : ev L X = some (.string (bs s))) (hl : SB L lov lo 0) (hh : SB L hiv hi s.length) : Yields P C L (.slice t X lov hiv none) ty (.string (bs r)) := by
  have hlo : ∀ x, lov = some x → ∃ kd, ev L x = some (.int kd lo) := fun x hx => by subst hx; exact hl
  have hlo0 : lov = none → lo = 0 := fun hx => by subst hx; exact hl
  have hhi : ∀ x, hiv = some x → ∃ kd, ev L x = some (.int kd hi) := fun x hx => by subst hx; exact hh
  have hhi0 : hiv = none → hi = s.length := fun hx => by subst hx; exact hh
  clear hl hh
  unfold slc at hs
  split at hs
  · rename_i hb
    obtain ⟨h1, h2, h3⟩ := hb
    simp only [Option.some.injEq] at hs
    subst hs
    intro ρ w dst pos after g E ok
    have b1 : (Instr.sliceBounds false s.length s.length (lov.map ρ) (hiv.map ρ) none).run P w = .ok (lo.toNat, hi.toNat, s.length) w := by
      unfold Instr.sliceBounds
      have hh0 : 0 ≤ hi := by omega
      cases hiv with
      | none =>
        have := hhi0 rfl; subst this
        cases lov with
        | none => have := hlo0 rfl; subst this; simp [go_sem]
        | some y =>
          obtain ⟨kd, hy⟩ := hlo y rfl
          simp [E hy, Instr.sliceBound, asIntOf, h1, h2, go_sem]
      | some z =>
        obtain ⟨kd', hz⟩ := hhi z rfl
        cases lov with
        | none => have := hlo0 rfl; subst this; simp [E hz, Instr.sliceBound, asIntOf, h3, hh0, go_sem]
        | some y =>
          obtain ⟨kd, hy⟩ := hlo y rfl
          simp [E hz, E hy, Instr.sliceBound, asIntOf, h3, hh0, h1, go_sem]
          intro h; omega
    have e : (bs s).extract lo.toNat hi.toNat = bs ((s.drop lo.toNat).take (hi - lo).toNat) := by
      rw [Lib.extract_eq]
      show _ = ByteArray.mk _
      congr 3
      omega
    simp only [execOp, Instr.sliceAt, E hX, Sem.run_bind, run_underlying ht, Result.andThen_ok, Instr.slice, Option.map_none, Option.isSome_none, Bool.false_eq_true, if_false, bs_size, b1, Sem.run_pure, e]
  · cases hs
theorem slc_len {α : Type} {xs ys : List α} {lo hi : Int} (h : slc xs lo hi = some ys) : ys.length ≤ xs.length := by
  unfold slc at h
  split at h
  · simp only [Option.some.injEq] at h; subst h; simp; omega
  · cases h
end
end Go.X
