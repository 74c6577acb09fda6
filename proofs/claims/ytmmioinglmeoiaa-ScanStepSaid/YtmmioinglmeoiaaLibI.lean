/- Regions that draw their order and hold calls that make memory: quiet operations first, then whichever comes. -/
import Derived.Test.YtmmioinglmeoiaaLibG
import Derived.OrdersHeld
namespace Go.X

/-- The worlds that come up within a region: what the view held, and these segments, are as they were. -/
def inS : Segs → Segs → Prop
  | [], _ => True
  | s :: B, S => s ∈ S ∧ inS B S
theorem inS.mem : ∀ {B S : Segs}, inS B S → ∀ s ∈ B, s ∈ S
  | [], _, _, _, h => by cases h
  | x :: B, S, h, s, hs => by
    rcases List.mem_cons.1 hs with rfl | hs
    · exact h.1
    · exact h.2.mem s hs
theorem memAt {S : Segs} (k : Nat) {s : List (Nat × Obj)} (h : S[k]? = some s) : s ∈ S := List.mem_of_getElem? h

def Cls (u : World) (m : Mem) (B : Segs) (w : World) : Prop := ∃ m' S', m.le m' ∧ Ok u m' S' w ∧ inS B S'

theorem Holds.cro {u : World} {m : Mem} {B : Segs} {b o : Nat} {cs : List Value} (h : At m b o cs) : Holds (Cls u m B) b o cs := by
  rintro w ⟨m', S', hle, ok, _⟩ j v hj
  exact ok.cell ((h.up hle) j v hj)
theorem Holds.crow {u : World} {m : Mem} {B : Segs} {b o : Nat} {cs : List Value} {Mx : List (Nat × Obj)} (hh : ∀ (u : World) (m : Mem) (S : Segs) (j : Nat), segAt S j = Mx → Holds (Ok u m S) b o cs) (k : Nat) (h : B[k]? = some Mx) : Holds (Cls u m B) b o cs := by
  rintro w ⟨m', S', hle, ok, hB⟩ j v hj
  obtain ⟨i, hi⟩ := List.mem_iff_getElem?.1 (hB.mem _ (memAt k h))
  exact hh u m' S' i (by simp [segAt, hi]) w ok j v hj
theorem Holds.cown {u : World} {m : Mem} {B : Segs} {b o : Nat} {c : List Value} {T : TypeId} {f : Nat × Nat} {cs : List Value} (k : Nat) (h : B[k]? = some [(b, .cells c.toArray T f)]) (hc : (c.drop o).take cs.length = cs) : Holds (Cls u m B) b o cs := by
  rintro w ⟨m', S', hle, ok, hB⟩ j v hj
  obtain ⟨i, hi⟩ := List.mem_iff_getElem?.1 (hB.mem _ (memAt k h))
  exact Holds.own (T := T) (f := f) i (by simp [segAt, hi]) hc w ok j v hj

section
variable {P : Program} {Q : Exit → Act → World → Prop} {n : Nat} {L : List (Nat × Value)} {l : List Oper} {a : Act} {w : World} {C : World → Prop}

theorem h_begin {id : Nat} (hm : P.follows .mixedOrders = true) (h : ∀ w', w' = { w with drawn := w.drawn + 1 } → wpAnyH P .any l.toArray Q C l.toArray.size (Array.replicate l.toArray.size false) a w') : (Code.region id l.toArray true).wp P Q a w :=
  wp_region_held hm (h _ rfl)

theorem h_take {fuel d : Nat} (i : Nat) {op : Op} {ty : TypeId} {pos : String} {after : Array Edge} {g : Option (Nat × Bool)} {v : Value} {listed : Array Bool} (E : Env n a L) (hi : l[i]? = some ⟨some d, op, ty, pos, after, g⟩)
    (hs : Region.noSelect l.toArray = true) (hf : Region.free .any l.toArray listed i = true) (hr : (Region.ready .any l.toArray listed).contains i = true)
    (hQ : ∀ c a w, ¬ Q (.panic c) a w) (hC : C w) (y : Yields P C L op ty v) (hg : want l L g = some true) (hd : Nat.blt d n = true)
    (K : ∀ a', Env n a' ((d, v) :: L) → wpAnyH P .any l.toArray Q C fuel (listed.setIfInBounds i true) a' w) : wpAnyH P .any l.toArray Q C (fuel + 1) listed a w := by
  refine wpAnyH_take (oi := ⟨some d, op, ty, pos, after, g⟩) (v := v) (by simpa using hi) hs hf hr (fun c a w h => (hQ _ _ _ h).elim) ?_ hC (K _ (E.put d v hd))
  exact .inl ⟨E.want (o := ⟨some d, op, ty, pos, after, g⟩) hg, fun w hw => y a.eval w _ _ _ _ (fun h => E.ev h) hw⟩

theorem h_skip {fuel d : Nat} (i : Nat) {op : Op} {ty : TypeId} {pos : String} {after : Array Edge} {g : Option (Nat × Bool)} {listed : Array Bool} (E : Env n a L) (hi : l[i]? = some ⟨some d, op, ty, pos, after, g⟩)
    (hs : Region.noSelect l.toArray = true) (hf : Region.free .any l.toArray listed i = true) (hr : (Region.ready .any l.toArray listed).contains i = true)
    (hQ : ∀ c a w, ¬ Q (.panic c) a w) (hC : C w) (hg : want l L g = some false) (hd : Nat.blt d n = true)
    (K : ∀ a', Env n a' ((d, undef) :: L) → wpAnyH P .any l.toArray Q C fuel (listed.setIfInBounds i true) a' w) : wpAnyH P .any l.toArray Q C (fuel + 1) listed a w := by
  refine wpAnyH_take (oi := ⟨some d, op, ty, pos, after, g⟩) (v := undef) (by simpa using hi) hs hf hr (fun c a w h => (hQ _ _ _ h).elim) ?_ hC (K _ (E.put d undef hd))
  exact .inr ⟨E.want (o := ⟨some d, op, ty, pos, after, g⟩) hg, rfl⟩

theorem all_n {p : Nat → Prop} : ∀ i ∈ ([] : List Nat), p i := fun _ h => by cases h
theorem all_c {p : Nat → Prop} {j : Nat} {rs : List Nat} (h : p j) (h' : ∀ i ∈ rs, p i) : ∀ i ∈ j :: rs, p i := by
  intro i hi
  rcases List.mem_cons.1 hi with rfl | hi
  · exact h
  · exact h' i hi

theorem h_all {fuel : Nat} {listed : Array Bool} (rs : List Nat) (hr : Region.ready .any l.toArray listed = rs) (hne : rs ≠ [])
    (h : ∀ i ∈ rs, wpOp P l.toArray Q i (fun a' w' => C w' ∧ wpAnyH P .any l.toArray Q C fuel (listed.setIfInBounds i true) a' w') a w) : wpAnyH P .any l.toArray Q C (fuel + 1) listed a w :=
  wpAnyH_all hr hne h

theorem wpOp_of_list {i : Nat} {o : Oper} {K : Act → World → Prop} (hi : l[i]? = some o) (h : wpList P l.toArray (Exit.then K Q) [o] a w) : wpOp P l.toArray Q i K a w := by
  unfold wpOp
  have hi' : l.toArray[i]? = some o := by simpa using hi
  simp only [hi']
  unfold wpList at h
  split
  · rename_i hw
    rw [if_pos hw] at h
    refine h.imp (fun h => ?_) (fun h => ⟨h.1, h.2⟩)
    unfold Oper.wp at *
    generalize (execOp a.eval o).run P w = r at *
    cases r with
    | ok nx w' =>
      cases nx <;> simp only [Oper.upon] at h ⊢ <;> first
        | exact h
        | exact Calls.mono h (fun e w'' he => by cases e <;> exact he)
        | exact Rows.mono h (fun _ _ he => he)
    | halt x w' => cases x <;> simp only [Oper.upon] at h ⊢ <;> exact h
  · rename_i hw
    rw [if_neg hw] at h
    exact h

theorem h_done {listed : Array Bool} {fuel : Nat} (hr : Region.ready .any l.toArray listed = []) (h : Q .normal a w) : wpAnyH P .any l.toArray Q C fuel listed a w := wpAnyH_done hr h fuel
end
end Go.X
namespace Go.X
theorem okdrew {u w w' : World} {m : Mem} {S : Segs} (ok : Ok u m S w) (h : w' = { w with drawn := w.drawn + 1 }) : Ok u m S w' := by subst h; exact ok.draw _
end Go.X

/-! ### the same, with a class of worlds for each operation: where all stores wait for a load, the load's class need not hold behind them -/
namespace Go.X
def waits (ops : Array Oper) (j i : Nat) : Bool := match ops[j]? with | some o => o.after.any fun e => Region.binds .any e && e.on == i | none => false
def gone (ops : Array Oper) (hs : List Nat) (k : Nat) : Bool := hs.any fun j => waits ops j k
def wpAnyK (P : Program) (ops : Array Oper) (Q : Exit → Act → World → Prop) (S : Nat → World → Prop) : Nat → Array Bool → List Nat → Act → World → Prop
  | 0, listed, _, a, w => Region.ready .any ops listed = [] ∧ Q .normal a w
  | fuel + 1, listed, hs, a, w =>
    (Region.ready .any ops listed = [] → Q .normal a w) ∧
    ∀ i ∈ Region.ready .any ops listed, wpOp P ops Q i (fun a' w' => (∀ k, gone ops (i :: hs) k = false → S k w') ∧ wpAnyK P ops Q S fuel (listed.setIfInBounds i true) (i :: hs) a' w') a w

section
variable {P : Program} {ops : Array Oper} {Q : Exit → Act → World → Prop} {S : Nat → World → Prop}
theorem wpAny_of_K : ∀ (fuel : Nat) (listed : Array Bool) (hs : List Nat) (a : Act) (w : World), wpAnyK P ops Q S fuel listed hs a w → wpAny P .any ops Q fuel listed a w
  | 0, _, _, _, _, h => h
  | fuel + 1, _, _, _, _, h => ⟨h.1, fun i hi => wpOp_mono (fun a' w' h' => wpAny_of_K fuel _ _ a' w' h'.2) (h.2 i hi)⟩

theorem gone_cons {j : Nat} {hs : List Nat} {k : Nat} : gone ops (j :: hs) k = false ↔ waits ops j k = false ∧ gone ops hs k = false := by
  unfold gone; simp
theorem wpAnyK_mono : ∀ (fuel : Nat) (listed : Array Bool) (hs hs' : List Nat) (a : Act) (w : World), (∀ k, gone ops hs' k = false → gone ops hs k = false) → wpAnyK P ops Q S fuel listed hs a w → wpAnyK P ops Q S fuel listed hs' a w
  | 0, _, _, _, _, _, _, h => h
  | fuel + 1, _, _, _, _, _, hg, h => ⟨h.1, fun i hi => wpOp_mono (fun a' w' h' => ⟨fun k hk => h'.1 k (gone_cons.2 ⟨(gone_cons.1 hk).1, hg k (gone_cons.1 hk).2⟩), wpAnyK_mono fuel _ _ _ a' w' (fun k hk => gone_cons.2 ⟨(gone_cons.1 hk).1, hg k (gone_cons.1 hk).2⟩) h'.2⟩) (h.2 i hi)⟩

theorem waits_false {j i : Nat} {oj : Oper} (hj : ops[j]? = some oj) (h : ∀ e ∈ oj.after, Region.binds .any e = true → e.on ≠ i) : waits ops j i = false := by
  unfold waits
  simp only [hj]
  rw [Array.any_eq_false]
  intro k hk
  have := h oj.after[k] (Array.getElem_mem hk)
  cases hb : Region.binds .any oj.after[k] with
  | false => simp
  | true => simpa using this hb

theorem wpAnyK_first {i : Nat} {oi : Oper} {v : Value} (hi : ops[i]? = some oi) (hsel : ∀ (j : Nat) (o : Oper) cs b, ops[j]? = some o → o.op ≠ .select cs b)
    (hQ : ∀ c a w, Q (.panic c) (a.put oi.dst v) w → Q (.panic c) a w) :
    ∀ (fuel : Nat) (listed : Array Bool) (hs : List Nat) (a : Act) (w : World),
      (∀ j oj, ops[j]? = some oj → j ≠ i → listed.getD j true = false → (∀ e ∈ oj.after, Region.binds .any e = true → e.on ≠ i) → oi.apart ops oj = true) →
      i ∈ Region.ready .any ops listed → YieldsIf P ops (S i) oi v a → gone ops hs i = false → (∀ k, gone ops hs k = false → S k w) →
      wpAnyK P ops Q S fuel (listed.setIfInBounds i true) hs (a.put oi.dst v) w → wpAnyK P ops Q S (fuel + 1) listed hs a w := by
  intro fuel
  induction fuel with
  | zero =>
    intro listed hs a w _ hr hy hg hT H
    refine ⟨fun h => (by rw [h] at hr; cases hr), fun j hj => ?_⟩
    by_cases hji : j = i
    · subst hji; exact hy.wpOp hi (hT _ hg) ⟨fun k hk => hT k (gone_cons.1 hk).2, wpAnyK_mono _ _ _ _ _ _ (fun k hk => (gone_cons.1 hk).2) H⟩
    · have := ready_mono hj hji
      rw [H.1] at this
      cases this
  | succ fuel ih =>
    intro listed hs a w hfree hr hy hg hT H
    refine ⟨fun h => (by rw [h] at hr; cases hr), fun j hj => ?_⟩
    by_cases hji : j = i
    · subst hji; exact hy.wpOp hi (hT _ hg) ⟨fun k hk => hT k (gone_cons.1 hk).2, wpAnyK_mono _ _ _ _ _ _ (fun k hk => (gone_cons.1 hk).2) H⟩
    · have h1 := H.2 j (ready_mono hj hji)
      obtain ⟨hjun, oj, hoj, hall⟩ := mem_ready.1 hj
      have hnot : ∀ e ∈ oj.after, Region.binds .any e = true → e.on ≠ i := fun e he hb heq => by
        have h1 := hall e he hb
        have h0 := (mem_ready.1 hr).1
        rw [heq] at h1
        rcases Nat.lt_or_ge i listed.size with h' | h'
        · simp [h'] at h0 h1; rw [h0] at h1; cases h1
        · simp [Array.getElem?_eq_none h'] at h1
      have hw := waits_false hoj hnot
      have h2 := wpOp_putIf hoj (hfree j oj hoj hji hjun hnot) (fun cs b => hsel i oi cs b hi) (fun cs b => hsel j oj cs b hoj) hQ hy h1
      have hfree' : ∀ k ok, ops[k]? = some ok → k ≠ i → (listed.setIfInBounds j true).getD k true = false →
          (∀ e ∈ ok.after, Region.binds .any e = true → e.on ≠ i) → oi.apart ops ok = true := fun k ok hk hki hun hno => by
        refine hfree k ok hk hki ?_ hno
        by_cases hjk : j = k
        · subst hjk; exact hjun
        · rw [getD_set_ne true hjk] at hun; exact hun
      refine wpOp_mono (fun a' w' h3 => ⟨h3.2.1, ih (listed.setIfInBounds j true) (j :: hs) a' w' hfree' (ready_mono hr (Ne.symm hji)) h3.1 (gone_cons.2 ⟨hw, hg⟩) h3.2.1 ?_⟩) h2
      rw [Array.setIfInBounds_comm _ _ hji]
      exact h3.2.2

/-- Two classes: 'lo' names the operations whose class is the narrow one. -/
def Cl2 (lo : List Nat) (C1 C2 : World → Prop) (k : Nat) (w : World) : Prop := bif lo.contains k then C1 w else C2 w
theorem cl1 {lo : List Nat} {C1 C2 : World → Prop} {w : World} {g : Nat → Bool} (h1 : C1 w) (h2 : C2 w) : ∀ k, g k = false → Cl2 lo C1 C2 k w := fun k _ => by
  unfold Cl2; cases lo.contains k
  · exact h2
  · exact h1
theorem cl2 {lo : List Nat} {C1 C2 : World → Prop} {w : World} {g : Nat → Bool} (hg : lo.all g = true) (h2 : C2 w) : ∀ k, g k = false → Cl2 lo C1 C2 k w := fun k hk => by
  unfold Cl2
  cases hc : lo.contains k with
  | false => exact h2
  | true =>
    rw [List.all_eq_true] at hg
    have := hg k (by simpa using hc)
    rw [hk] at this; cases this
theorem nP {p : List PanicEntry → Act → World → Prop} : ∀ c a w, ¬ (Exit.panic c = .normal ∧ p c a w) := fun _ _ _ h => by cases h.1
end

section
variable {P : Program} {Q : Exit → Act → World → Prop} {n : Nat} {L : List (Nat × Value)} {l : List Oper} {a : Act} {w : World} {lo : List Nat} {C1 C2 : World → Prop}
/-- what a take asks of the operations: one check -/
def takeB (l : List Oper) (listed : Array Bool) (hs lo : List Nat) (i : Nat) (narrow : Bool) : Bool :=
  Region.noSelect l.toArray && Region.free .any l.toArray listed i && (Region.ready .any l.toArray listed).contains i && !gone l.toArray hs i && (lo.contains i == narrow)

theorem k_begin {id : Nat} (lo : List Nat) (C1 C2 : World → Prop) (hm : P.follows .mixedOrders = true) (h : ∀ w', w' = { w with drawn := w.drawn + 1 } → (∀ k, gone l.toArray [] k = false → Cl2 lo C1 C2 k w') ∧ wpAnyK P l.toArray Q (Cl2 lo C1 C2) l.toArray.size (Array.replicate l.toArray.size false) [] a w') : (Code.region id l.toArray true).wp P Q a w :=
  wp_region_any hm (wpAny_of_K _ _ _ _ _ (h _ rfl).2)
theorem k_next {p q : Prop} (h : p) (k : p → q) : p ∧ q := ⟨h, k h⟩

/-- a quiet operation whose class is the wide one -/
theorem k_take {fuel d : Nat} {hs : List Nat} (i : Nat) {op : Op} {ty : TypeId} {pos : String} {after : Array Edge} {g : Option (Nat × Bool)} {v : Value} {listed : Array Bool} (E : Env n a L) (hi : l[i]? = some ⟨some d, op, ty, pos, after, g⟩)
    (hb : takeB l listed hs lo i false = true) (hQ : ∀ c a w, ¬ Q (.panic c) a w) (hT : ∀ k, gone l.toArray hs k = false → Cl2 lo C1 C2 k w) (y : Yields P C2 L op ty v) (hg : want l L g = some true) (hd : Nat.blt d n = true)
    (K : ∀ a', Env n a' ((d, v) :: L) → wpAnyK P l.toArray Q (Cl2 lo C1 C2) fuel (listed.setIfInBounds i true) hs a' w) : wpAnyK P l.toArray Q (Cl2 lo C1 C2) (fuel + 1) listed hs a w := by
  simp only [takeB, Bool.and_eq_true, Bool.not_eq_true', beq_iff_eq] at hb
  obtain ⟨⟨⟨⟨h1, h2⟩, h3⟩, h4⟩, h5⟩ := hb
  have hi' : l.toArray[i]? = some ⟨some d, op, ty, pos, after, g⟩ := by simpa using hi
  refine wpAnyK_first (v := v) hi' (Region.noSelect_spec h1) (fun c a w h => (hQ _ _ _ h).elim) fuel listed hs a w (Region.free_spec hi' h2) (by simpa using h3) ?_ h4 hT (K _ (E.put d v hd))
  refine .inl ⟨E.want (o := ⟨some d, op, ty, pos, after, g⟩) hg, fun w hw => y a.eval w _ _ _ _ (fun h => E.ev h) ?_⟩
  unfold Cl2 at hw
  rw [h5] at hw
  exact hw
/-- .. or the narrow one -/
theorem k_takeN {fuel d : Nat} {hs : List Nat} (i : Nat) {op : Op} {ty : TypeId} {pos : String} {after : Array Edge} {g : Option (Nat × Bool)} {v : Value} {listed : Array Bool} (E : Env n a L) (hi : l[i]? = some ⟨some d, op, ty, pos, after, g⟩)
    (hb : takeB l listed hs lo i true = true) (hQ : ∀ c a w, ¬ Q (.panic c) a w) (hT : ∀ k, gone l.toArray hs k = false → Cl2 lo C1 C2 k w) (y : Yields P C1 L op ty v) (hg : want l L g = some true) (hd : Nat.blt d n = true)
    (K : ∀ a', Env n a' ((d, v) :: L) → wpAnyK P l.toArray Q (Cl2 lo C1 C2) fuel (listed.setIfInBounds i true) hs a' w) : wpAnyK P l.toArray Q (Cl2 lo C1 C2) (fuel + 1) listed hs a w := by
  simp only [takeB, Bool.and_eq_true, Bool.not_eq_true', beq_iff_eq] at hb
  obtain ⟨⟨⟨⟨h1, h2⟩, h3⟩, h4⟩, h5⟩ := hb
  have hi' : l.toArray[i]? = some ⟨some d, op, ty, pos, after, g⟩ := by simpa using hi
  refine wpAnyK_first (v := v) hi' (Region.noSelect_spec h1) (fun c a w h => (hQ _ _ _ h).elim) fuel listed hs a w (Region.free_spec hi' h2) (by simpa using h3) ?_ h4 hT (K _ (E.put d v hd))
  refine .inl ⟨E.want (o := ⟨some d, op, ty, pos, after, g⟩) hg, fun w hw => y a.eval w _ _ _ _ (fun h => E.ev h) ?_⟩
  unfold Cl2 at hw
  rw [h5] at hw
  exact hw
theorem k_skip {fuel d : Nat} {hs : List Nat} (i : Nat) (nw : Bool) {op : Op} {ty : TypeId} {pos : String} {after : Array Edge} {g : Option (Nat × Bool)} {listed : Array Bool} (E : Env n a L) (hi : l[i]? = some ⟨some d, op, ty, pos, after, g⟩)
    (hb : takeB l listed hs lo i nw = true) (hQ : ∀ c a w, ¬ Q (.panic c) a w) (hT : ∀ k, gone l.toArray hs k = false → Cl2 lo C1 C2 k w) (hg : want l L g = some false) (hd : Nat.blt d n = true)
    (K : ∀ a', Env n a' ((d, undef) :: L) → wpAnyK P l.toArray Q (Cl2 lo C1 C2) fuel (listed.setIfInBounds i true) hs a' w) : wpAnyK P l.toArray Q (Cl2 lo C1 C2) (fuel + 1) listed hs a w := by
  simp only [takeB, Bool.and_eq_true, Bool.not_eq_true', beq_iff_eq] at hb
  obtain ⟨⟨⟨⟨h1, h2⟩, h3⟩, h4⟩, h5⟩ := hb
  have hi' : l.toArray[i]? = some ⟨some d, op, ty, pos, after, g⟩ := by simpa using hi
  refine wpAnyK_first (v := undef) hi' (Region.noSelect_spec h1) (fun c a w h => (hQ _ _ _ h).elim) fuel listed hs a w (Region.free_spec hi' h2) (by simpa using h3) ?_ h4 hT (K _ (E.put d undef hd))
  exact .inr ⟨E.want (o := ⟨some d, op, ty, pos, after, g⟩) hg, rfl⟩
theorem k_all {fuel : Nat} {hs : List Nat} {listed : Array Bool} (rs : List Nat) (hr : Region.ready .any l.toArray listed = rs) (hne : rs.isEmpty = false)
    (h : ∀ i ∈ rs, wpOp P l.toArray Q i (fun a' w' => (∀ k, gone l.toArray (i :: hs) k = false → Cl2 lo C1 C2 k w') ∧ wpAnyK P l.toArray Q (Cl2 lo C1 C2) fuel (listed.setIfInBounds i true) (i :: hs) a' w') a w) : wpAnyK P l.toArray Q (Cl2 lo C1 C2) (fuel + 1) listed hs a w :=
  ⟨(fun h0 => by rw [h0] at hr; subst hr; cases hne), hr ▸ h⟩
theorem k_done {listed : Array Bool} {fuel : Nat} {hs : List Nat} (hr : Region.ready .any l.toArray listed = []) (h : Q .normal a w) : wpAnyK P l.toArray Q (Cl2 lo C1 C2) fuel listed hs a w := by
  cases fuel with
  | zero => exact ⟨hr, h⟩
  | succ fuel => exact ⟨fun _ => h, by rw [hr]; simp⟩
theorem one_c {p : Nat → Prop} {j : Nat} (h : p j) : ∀ i ∈ [j], p i := all_c h all_n
end
end Go.X
