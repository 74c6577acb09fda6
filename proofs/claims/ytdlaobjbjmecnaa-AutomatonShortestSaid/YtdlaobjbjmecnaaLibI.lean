/- Regions that draw their order and hold calls that make memory: quiet operations first, then whichever comes. -/
import Derived.Test.YtdlaobjbjmecnaaLibG
import Derived.OrdersHeld
namespace Go.X

/-- The worlds that come up within a region: what the view held, and these segments, are as they were. -/
def inS : Segs → Segs → Prop
  | [], _ => True
  | s :: B, S => s ∈ S ∧ inS B S
theorem inS.mem : ∀ {B S : Segs}, inS B S → ∀ s ∈ B, s ∈ S
  | [], _, _, _, h => by cases h
  | x :: B, S, h, s, hs => by
    rcases List.mem_cons.1 hs with rfl | hs
    · exact h.1
    · exact h.2.mem s hs
theorem memAt {S : Segs} (k : Nat) {s : List (Nat × Obj)} (h : S[k]? = some s) : s ∈ S := List.mem_of_getElem? h

def Cls (u : World) (m : Mem) (B : Segs) (w : World) : Prop := ∃ m' S', m.le m' ∧ Ok u m' S' w ∧ inS B S'

theorem Holds.cro {u : World} {m : Mem} {B : Segs} {b o : Nat} {cs : List Value} (h : At m b o cs) : Holds (Cls u m B) b o cs := by
  rintro w ⟨m', S', hle, ok, _⟩ j v hj
  exact ok.cell ((h.up hle) j v hj)
theorem Holds.cown {u : World} {m : Mem} {B : Segs} {b o : Nat} {c : List Value} {T : TypeId} {f : Nat × Nat} {cs : List Value} (k : Nat) (h : B[k]? = some [(b, .cells c.toArray T f)]) (hc : (c.drop o).take cs.length = cs) : Holds (Cls u m B) b o cs := by
  rintro w ⟨m', S', hle, ok, hB⟩ j v hj
  obtain ⟨i, hi⟩ := List.mem_iff_getElem?.1 (hB.mem _ (memAt k h))
  exact Holds.own (T := T) (f := f) i (by simp [segAt, hi]) hc w ok j v hj

section
variable {P : Program} {Q : Exit → Act → World → Prop} {n : Nat} {L : List (Nat × Value)} {l : List Oper} {a : Act} {w : World} {C : World → Prop}

theorem h_begin {id : Nat} (hm : P.follows .mixedOrders = true) (h : ∀ w', w' = { w with drawn := w.drawn + 1 } → wpAnyH P .any l.toArray Q C l.toArray.size (Array.replicate l.toArray.size false) a w') : (Code.region id l.toArray true).wp P Q a w :=
  wp_region_held hm (h _ rfl)

theorem h_take {fuel d : Nat} (i : Nat) {op : Op} {ty : TypeId} {pos : String} {after : Array Edge} {g : Option (Nat × Bool)} {v : Value} {listed : Array Bool} (E : Env n a L) (hi : l[i]? = some ⟨some d, op, ty, pos, after, g⟩)
    (hs : Region.noSelect l.toArray = true) (hf : Region.free .any l.toArray listed i = true) (hr : (Region.ready .any l.toArray listed).contains i = true)
    (hQ : ∀ c a w, ¬ Q (.panic c) a w) (hC : C w) (y : Yields P C L op ty v) (hg : want l L g = some true) (hd : Nat.blt d n = true)
    (K : ∀ a', Env n a' ((d, v) :: L) → wpAnyH P .any l.toArray Q C fuel (listed.setIfInBounds i true) a' w) : wpAnyH P .any l.toArray Q C (fuel + 1) listed a w := by
  refine wpAnyH_take (oi := ⟨some d, op, ty, pos, after, g⟩) (v := v) (by simpa using hi) hs hf hr (fun c a w h => (hQ _ _ _ h).elim) ?_ hC (K _ (E.put d v hd))
  exact .inl ⟨E.want (o := ⟨some d, op, ty, pos, after, g⟩) hg, fun w hw => y a.eval w _ _ _ _ (fun h => E.ev h) hw⟩

theorem h_skip {fuel d : Nat} (i : Nat) {op : Op} {ty : TypeId} {pos : String} {after : Array Edge} {g : Option (Nat × Bool)} {listed : Array Bool} (E : Env n a L) (hi : l[i]? = some ⟨some d, op, ty, pos, after, g⟩)
    (hs : Region.noSelect l.toArray = true) (hf : Region.free .any l.toArray listed i = true) (hr : (Region.ready .any l.toArray listed).contains i = true)
    (hQ : ∀ c a w, ¬ Q (.panic c) a w) (hC : C w) (hg : want l L g = some false) (hd : Nat.blt d n = true)
    (K : ∀ a', Env n a' ((d, undef) :: L) → wpAnyH P .any l.toArray Q C fuel (listed.setIfInBounds i true) a' w) : wpAnyH P .any l.toArray Q C (fuel + 1) listed a w := by
  refine wpAnyH_take (oi := ⟨some d, op, ty, pos, after, g⟩) (v := undef) (by simpa using hi) hs hf hr (fun c a w h => (hQ _ _ _ h).elim) ?_ hC (K _ (E.put d undef hd))
  exact .inr ⟨E.want (o := ⟨some d, op, ty, pos, after, g⟩) hg, rfl⟩

theorem all_n {p : Nat → Prop} : ∀ i ∈ ([] : List Nat), p i := fun _ h => by cases h
theorem all_c {p : Nat → Prop} {j : Nat} {rs : List Nat} (h : p j) (h' : ∀ i ∈ rs, p i) : ∀ i ∈ j :: rs, p i := by
  intro i hi
  rcases List.mem_cons.1 hi with rfl | hi
  · exact h
  · exact h' i hi

theorem h_all {fuel : Nat} {listed : Array Bool} (rs : List Nat) (hr : Region.ready .any l.toArray listed = rs) (hne : rs ≠ [])
    (h : ∀ i ∈ rs, wpOp P l.toArray Q i (fun a' w' => C w' ∧ wpAnyH P .any l.toArray Q C fuel (listed.setIfInBounds i true) a' w') a w) : wpAnyH P .any l.toArray Q C (fuel + 1) listed a w :=
  wpAnyH_all hr hne h

theorem wpOp_of_list {i : Nat} {o : Oper} {K : Act → World → Prop} (hi : l[i]? = some o) (h : wpList P l.toArray (Exit.then K Q) [o] a w) : wpOp P l.toArray Q i K a w := by
  unfold wpOp
  have hi' : l.toArray[i]? = some o := by simpa using hi
  simp only [hi']
  unfold wpList at h
  split
  · rename_i hw
    rw [if_pos hw] at h
    refine h.imp (fun h => ?_) (fun h => ⟨h.1, h.2⟩)
    unfold Oper.wp at *
    generalize (execOp a.eval o).run P w = r at *
    cases r with
    | ok nx w' =>
      cases nx <;> simp only [Oper.upon] at h ⊢ <;> first
        | exact h
        | exact Calls.mono h (fun e w'' he => by cases e <;> exact he)
        | exact Rows.mono h (fun _ _ he => he)
    | halt x w' => cases x <;> simp only [Oper.upon] at h ⊢ <;> exact h
  · rename_i hw
    rw [if_neg hw] at h
    exact h

theorem h_done {listed : Array Bool} {fuel : Nat} (hr : Region.ready .any l.toArray listed = []) (h : Q .normal a w) : wpAnyH P .any l.toArray Q C fuel listed a w := wpAnyH_done hr h fuel
end
end Go.X
namespace Go.X
theorem okdrew {u w w' : World} {m : Mem} {S : Segs} (ok : Ok u m S w) (h : w' = { w with drawn := w.drawn + 1 }) : Ok u m S w' := by subst h; exact ok.draw _
end Go.X
