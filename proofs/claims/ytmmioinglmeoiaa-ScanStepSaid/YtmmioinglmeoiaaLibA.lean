/- A small program logic of our own over the model's walk: a ghost view 'm' of memory that no longer changes, a list 'S' of memory that the call still owns, and the known slots 'L' of a frame. -/
import Derived.WalkKit
import Derived.Deep.Quiet
namespace Go.X

/-! ### memory: a ghost view of the blocks that no longer change, and the blocks that are still owned -/
abbrev Mem := Nat → Option Obj

def Mem.cell (m : Mem) (a : Addr) : Option Value :=
  match m a.block with
  | some (.cells c _ _) => if a.spot.isSome then none else c[a.off]?
  | _ => none

def Mem.le (m m' : Mem) : Prop := ∀ b o, m b = some o → m' b = some o
theorem Mem.le.refl (m : Mem) : m.le m := fun _ _ h => h
theorem Mem.le.trans {a b c : Mem} (h : a.le b) (k : b.le c) : a.le c := fun x o hx => k x o (h x o hx)
theorem Mem.le.cell {m m' : Mem} (h : m.le m') {a : Addr} {v : Value} (hc : m.cell a = some v) : m'.cell a = some v := by
  unfold Mem.cell at *
  cases hb : m a.block with
  | none => rw [hb] at hc; cases hc
  | some o => rw [h _ _ hb]; rw [hb] at hc; exact hc

abbrev Segs := List (List (Nat × Obj))

structure Ok (u : World) (m : Mem) (S : Segs) (w : World) : Prop where
  os : w.os = u.os
  out : w.output = u.output
  tape : w.tape = u.tape
  ro : ∀ b o, m b = some o → w.heap[b]? = some o
  own : ∀ p, p ∈ S.flatten → w.heap[p.1]? = some p.2 ∧ m p.1 = none
  nd : S.flatten.Pairwise (fun p q => p.1 ≠ q.1)
  base : ∀ b o, u.heap[b]? = some o → m b = some o

namespace Ok
variable {u w : World} {m : Mem} {S : Segs}

theorem draw (h : Ok u m S w) (n : Nat) : Ok u m S { w with drawn := n } := ⟨h.os, h.out, h.tape, h.ro, h.own, h.nd, h.base⟩

theorem cell (h : Ok u m S w) {a : Addr} {v : Value} (hc : m.cell a = some v) : w.cell? a = some v := by
  unfold Mem.cell at hc
  unfold World.cell?
  cases hb : m a.block with
  | none => rw [hb] at hc; cases hc
  | some o => rw [h.ro _ _ hb]; rw [hb] at hc; exact hc

theorem fresh (h : Ok u m S w) : m w.heap.size = none := by
  cases hb : m w.heap.size with
  | none => rfl
  | some o => have := h.ro _ _ hb; simp at this

theorem ids_lt (h : Ok u m S w) {p : Nat × Obj} (hp : p ∈ S.flatten) : p.1 < w.heap.size := by
  have := (h.own p hp).1
  exact (Array.getElem?_eq_some_iff.1 this).1

theorem alloc (h : Ok u m S w) (o : Obj) : Ok u m ([(w.heap.size, o)] :: S) { w with heap := w.heap.push o } := by
  refine ⟨h.os, h.out, h.tape, fun b x hb => ?_, fun p hp => ?_, ?_, h.base⟩
  · have h1 := h.ro b x hb
    have hlt := (Array.getElem?_eq_some_iff.1 h1).1
    simp only [Array.getElem?_push]
    rw [if_neg (by omega)]
    exact h1
  · simp only [List.flatten_cons, List.cons_append, List.nil_append, List.mem_cons] at hp
    rcases hp with rfl | hp
    · exact ⟨by simp, h.fresh⟩
    · have hlt := h.ids_lt hp
      refine ⟨?_, (h.own p hp).2⟩
      simp only [Array.getElem?_push]
      rw [if_neg (by omega)]
      exact (h.own p hp).1
  · simp only [List.flatten_cons, List.cons_append, List.nil_append]
    refine List.pairwise_cons.2 ⟨fun q hq => ?_, h.nd⟩
    have hlt := h.ids_lt hq
    simp only
    omega

theorem drop {s : List (Nat × Obj)} (h : Ok u m (s :: S) w) : Ok u m S w := by
  refine ⟨h.os, h.out, h.tape, h.ro, fun p hp => h.own p ?_, ?_, h.base⟩
  · simp only [List.flatten_cons, List.mem_append]; exact .inr hp
  · have := h.nd
    simp only [List.flatten_cons] at this
    exact (List.pairwise_append.1 this).2.1

theorem perm {S' : Segs} (h : Ok u m S w) (hp : S.flatten.Perm S'.flatten) : Ok u m S' w :=
  ⟨h.os, h.out, h.tape, h.ro, fun p hm => h.own p (hp.mem_iff.2 hm), (hp.pairwise_iff (fun {a b} (hab : a.1 ≠ b.1) => hab.symm)).1 h.nd, h.base⟩

theorem swap {s t : List (Nat × Obj)} (h : Ok u m (s :: t :: S) w) : Ok u m (t :: s :: S) w :=
  h.perm (by simp only [List.flatten_cons]; rw [← List.append_assoc, ← List.append_assoc]; exact (List.perm_append_comm).append_right _)

/-- Segment number k to the front. -/
def front (k : Nat) (S : Segs) : Segs := (S[k]?).getD [] :: S.eraseIdx k

theorem front_perm : ∀ (k : Nat) (S : Segs), k < S.length → S.flatten.Perm (front k S).flatten
  | _, [], h => absurd h (Nat.not_lt_zero _)
  | 0, s :: S, _ => by simp [front]
  | k + 1, s :: S, h => by
    have ih := front_perm k S (by simpa using h)
    simp only [front, List.getElem?_cons_succ, List.eraseIdx_cons_succ, List.flatten_cons] at *
    refine (ih.append_left s).trans ?_
    rw [← List.append_assoc, ← List.append_assoc]
    exact (List.perm_append_comm).append_right _

theorem fr (k : Nat) (h : Ok u m S w) (hk : Nat.blt k S.length = true) : Ok u m (front k S) w :=
  h.perm (front_perm k S (by simpa [Nat.blt, Nat.succ_le_iff] using hk))

/-- Owned memory that will not change any more joins the view. -/
theorem freeze {s : List (Nat × Obj)} (h : Ok u m (s :: S) w) : ∃ m', m.le m' ∧ Ok u m' S w ∧ ∀ p ∈ s, m' p.1 = some p.2 := by
  classical
  have hn : ∀ p ∈ s, w.heap[p.1]? = some p.2 ∧ m p.1 = none := fun p hp => h.own p (by simp [hp])
  have hd := h.nd
  simp only [List.flatten_cons] at hd
  obtain ⟨_, hd2, hd3⟩ := List.pairwise_append.1 hd
  refine ⟨fun b => if (∃ p ∈ s, p.1 = b) then w.heap[b]? else m b, fun b o hb => ?_, ⟨h.os, h.out, h.tape, fun b o hb => ?_, fun p hp => ⟨(h.own p (by simp only [List.flatten_cons, List.mem_append]; exact .inr hp)).1, ?_⟩, hd2, fun b o hb => ?_⟩, fun p hp => ?_⟩
  · have : ¬ ∃ p ∈ s, p.1 = b := fun ⟨p, hp, e⟩ => by subst e; rw [(hn p hp).2] at hb; cases hb
    simp only [this, if_false]; exact hb
  · by_cases hc : ∃ p ∈ s, p.1 = b
    · simp only [hc, if_true] at hb; exact hb
    · simp only [hc, if_false] at hb; exact h.ro b o hb
  · have : ¬ ∃ q ∈ s, q.1 = p.1 := fun ⟨q, hq, e⟩ => hd3 q hq p hp e
    simp only [this, if_false]
    exact (h.own p (by simp only [List.flatten_cons, List.mem_append]; exact .inr hp)).2
  · have hb' := h.base b o hb
    have : ¬ ∃ p ∈ s, p.1 = b := fun ⟨p, hp, e⟩ => by subst e; rw [(hn p hp).2] at hb'; cases hb'
    simp only [this, if_false]; exact hb'
  · have : ∃ q ∈ s, q.1 = p.1 := ⟨p, hp, rfl⟩
    simp only [this, if_true]; exact (hn p hp).1

theorem ownCell {b : Nat} {c : Array Value} {T : TypeId} {f : Nat × Nat} (h : Ok u m ([(b, .cells c T f)] :: S) w) : w.heap[b]? = some (.cells c T f) :=
  (h.own (b, .cells c T f) (by simp)).1

theorem setObj {b : Nat} {o o' : Obj} (h : Ok u m ([(b, o)] :: S) w) {w' : World} (h1 : w'.os = w.os) (h2 : w'.output = w.output) (h3 : w'.tape = w.tape)
    (hb : w'.heap[b]? = some o') (hne : ∀ k, k ≠ b → w'.heap[k]? = w.heap[k]?) : Ok u m ([(b, o')] :: S) w' := by
  have hd := h.nd
  simp only [List.flatten_cons, List.cons_append, List.nil_append] at hd
  obtain ⟨hd1, hd2⟩ := List.pairwise_cons.1 hd
  refine ⟨h1.trans h.os, h2.trans h.out, h3.trans h.tape, fun k x hk => ?_, fun p hp => ?_, ?_, h.base⟩
  · have hkb : k ≠ b := fun e => by
      have := (h.own (b, o) (by simp)).2
      simp only at this
      rw [e, this] at hk; cases hk
    rw [hne k hkb]; exact h.ro k x hk
  · simp only [List.flatten_cons, List.cons_append, List.nil_append, List.mem_cons] at hp
    rcases hp with rfl | hp
    · exact ⟨hb, (h.own (b, o) (by simp)).2⟩
    · have hpb : p.1 ≠ b := (hd1 p hp).symm
      rw [hne _ hpb]
      exact h.own p (by simp only [List.flatten_cons, List.cons_append, List.nil_append, List.mem_cons]; exact .inr hp)
  · simp only [List.flatten_cons, List.cons_append, List.nil_append]
    exact List.pairwise_cons.2 ⟨fun q hq => hd1 q hq, hd2⟩

theorem setCell {b off : Nat} {c : Array Value} {T : TypeId} {f : Nat × Nat} (h : Ok u m ([(b, .cells c T f)] :: S) w) (v : Value) :
    Ok u m ([(b, .cells (c.setIfInBounds off v) T f)] :: S) (w.setCell ⟨b, off, none⟩ v) := by
  refine h.setObj rfl rfl rfl ?_ fun k hk => ?_
  · simp [World.setCell, Array.getElem?_modify, h.ownCell]
  · simp [World.setCell, Array.getElem?_modify, hk.symm]

end Ok

/-! ### the frame: the slots that are known -/
def look : List (Nat × Value) → Nat → Option Value
  | [], _ => none
  | (j, v) :: L, i => bif Nat.beq j i then some v else look L i

structure Env (n : Nat) (a : Act) (L : List (Nat × Value)) : Prop where
  d : a.defers = []
  sz : a.tmps.size = n
  get : ∀ i v, look L i = some v → a.tmps[i]? = some v

theorem Env.put {n : Nat} {a : Act} {L : List (Nat × Value)} (E : Env n a L) (d : Nat) (v : Value) (hd : Nat.blt d n = true) : Env n (a.put (some d) v) ((d, v) :: L) := by
  refine ⟨E.d, by simp [Act.put, E.sz], fun i x hx => ?_⟩
  simp only [Act.put]
  have hlt : d < a.tmps.size := by rw [E.sz]; simpa [Nat.blt, Nat.succ_le_iff] using hd
  simp only [look] at hx
  by_cases e : d = i
  · subst e
    simp at hx
    subst hx
    simp [hlt]
  · have : Nat.beq d i = false := by
      cases hb : Nat.beq d i with
      | false => rfl
      | true => exact absurd (Nat.eq_of_beq_eq_true hb) e
    rw [this] at hx
    rw [Array.getElem?_setIfInBounds_ne e]
    exact E.get i x hx

/-- Only these slots are still of interest. -/
def keep (L : List (Nat × Value)) : List Nat → List (Nat × Value)
  | [] => []
  | i :: is => match look L i with | some v => (i, v) :: keep L is | none => keep L is

theorem look_keep (L : List (Nat × Value)) : ∀ (is : List Nat) (i : Nat) (v : Value), look (keep L is) i = some v → look L i = some v
  | [], _, _, h => by simp [keep, look] at h
  | j :: is, i, v, h => by
    simp only [keep] at h
    cases hj : look L j with
    | none => rw [hj] at h; exact look_keep L is i v h
    | some x =>
      rw [hj] at h
      simp only [look] at h
      cases hb : Nat.beq j i with
      | false => rw [hb] at h; exact look_keep L is i v h
      | true =>
        rw [hb] at h
        rw [← Nat.eq_of_beq_eq_true hb, hj]
        exact h

theorem Env.keep {n : Nat} {a : Act} {L : List (Nat × Value)} (E : Env n a L) (is : List Nat) : Env n a (X.keep L is) :=
  ⟨E.d, E.sz, fun i v h => E.get i v (look_keep L is i v h)⟩

def ev (L : List (Nat × Value)) : Operand → Option Value
  | .tmp t => look L t
  | .const v => some v
  | .global g => some (.pointer (some ⟨g, 0, none⟩))
  | .func f => some (.func (.func f) #[] #[])

theorem Env.ev {n : Nat} {a : Act} {L : List (Nat × Value)} (E : Env n a L) {x : Operand} {v : Value} (h : X.ev L x = some v) : a.eval x = v := by
  cases x with
  | tmp t => have := E.get t v h; simp [Act.eval, this]
  | const v => simpa [X.ev, Act.eval] using h
  | global g => simpa [X.ev, Act.eval] using h
  | func f => simpa [X.ev, Act.eval] using h

def evs (L : List (Nat × Value)) : List Operand → Option (List Value)
  | [] => some []
  | x :: xs => match ev L x, evs L xs with
    | some v, some vs => some (v :: vs)
    | _, _ => none

theorem Env.evs {n : Nat} {a : Act} {L : List (Nat × Value)} (E : Env n a L) : ∀ {xs : List Operand} {vs : List Value}, X.evs L xs = some vs → xs.map a.eval = vs
  | [], _, h => by simpa [X.evs] using h
  | x :: xs, vs, h => by
    simp only [X.evs] at h
    cases hx : X.ev L x with
    | none => rw [hx] at h; cases h
    | some v =>
      cases hr : X.evs L xs with
      | none => rw [hx, hr] at h; cases h
      | some r =>
        rw [hx, hr] at h
        simp only [Option.some.injEq] at h
        subst h
        simp [E.ev hx, E.evs hr]

/-- May the operation run? (its guard) -/
def dstAt : List Oper → Nat → Option Nat
  | [], _ => none
  | o :: _, 0 => o.dst
  | _ :: os, i + 1 => dstAt os i

theorem dstAt_eq : ∀ (l : List Oper) (i : Nat), dstAt l i = (l[i]?).bind (·.dst)
  | [], i => by simp [dstAt]
  | o :: l, 0 => by simp [dstAt]
  | o :: l, i + 1 => by simp [dstAt, dstAt_eq l i]

def want (l : List Oper) (L : List (Nat × Value)) : Option (Nat × Bool) → Option Bool
  | none => some true
  | some (j, b) => match dstAt l j with
    | some d => match look L d with
      | some (.bool c) => some (c == b)
      | some (.tuple _) => some false
      | _ => none
    | none => none

theorem Env.want {n : Nat} {a : Act} {L : List (Nat × Value)} (E : Env n a L) {l : List Oper} {o : Oper} {b : Bool} (h : X.want l L o.guard = some b) : Region.wanted o (yielded l.toArray a.tmps) = b := by
  unfold Region.wanted
  cases hg : o.guard with
  | none => rw [hg] at h; simpa [X.want] using h
  | some g =>
    obtain ⟨j, c⟩ := g
    rw [hg] at h
    simp only [X.want] at h
    simp only [yielded]
    rw [List.getElem?_toArray, ← dstAt_eq]
    cases hd : dstAt l j with
    | none => rw [hd] at h; cases h
    | some d =>
      rw [hd] at h
      simp only at h
      cases hl : look L d with
      | none => rw [hl] at h; cases h
      | some v =>
        rw [hl] at h
        simp only [Option.bind_some, E.get d v hl]
        cases v <;> simp at h <;> subst h <;> simp

/-! ### one operation -/
variable {P : Program} {Q : Exit → Act → World → Prop}

/-- In a world of this kind the operation yields v and leaves the world alone. -/
def Yields (P : Program) (C : World → Prop) (L : List (Nat × Value)) (op : Op) (ty : TypeId) (v : Value) : Prop :=
  ∀ (ρ : Operand → Value) (w : World) (dst : Option Tmp) (pos : String) (after : Array Edge) (g : Option (Nat × Bool)), (∀ {x v}, ev L x = some v → ρ x = v) → C w → (execOp ρ ⟨dst, op, ty, pos, after, g⟩).run P w = .ok (.value v) w

theorem l_val {n : Nat} {L : List (Nat × Value)} {l rest : List Oper} {a : Act} {w : World} {C : World → Prop} {d : Nat} {op : Op} {ty : TypeId} {pos : String} {after : Array Edge} {g : Option (Nat × Bool)} {v : Value}
    (E : Env n a L) (ok : C w) (y : Yields P C L op ty v) (hg : want l L g = some true) (hd : Nat.blt d n = true)
    (K : ∀ a', Env n a' ((d, v) :: L) → wpList P l.toArray Q rest a' w) : wpList P l.toArray Q (⟨some d, op, ty, pos, after, g⟩ :: rest) a w := by
  refine wpList_step fun K' hK' => ?_
  rw [E.want (o := ⟨some d, op, ty, pos, after, g⟩) hg, if_pos rfl]
  unfold Oper.wp
  rw [y a.eval w _ _ _ _ (fun h => E.ev h) ok]
  exact hK' _ _ (K _ (E.put d v hd))

theorem l_val0 {n : Nat} {L : List (Nat × Value)} {l rest : List Oper} {a : Act} {w : World} {C : World → Prop} {op : Op} {ty : TypeId} {pos : String} {after : Array Edge} {g : Option (Nat × Bool)} {v : Value}
    (E : Env n a L) (ok : C w) (y : Yields P C L op ty v) (hg : want l L g = some true)
    (K : wpList P l.toArray Q rest a w) : wpList P l.toArray Q (⟨none, op, ty, pos, after, g⟩ :: rest) a w := by
  refine wpList_step fun K' hK' => ?_
  rw [E.want (o := ⟨none, op, ty, pos, after, g⟩) hg, if_pos rfl]
  unfold Oper.wp
  rw [y a.eval w _ _ _ _ (fun h => E.ev h) ok]
  exact hK' _ _ K

theorem l_skip {n : Nat} {L : List (Nat × Value)} {l rest : List Oper} {a : Act} {w : World} {d : Nat} {op : Op} {ty : TypeId} {pos : String} {after : Array Edge} {g : Option (Nat × Bool)}
    (E : Env n a L) (hg : want l L g = some false) (hd : Nat.blt d n = true)
    (K : ∀ a', Env n a' ((d, undef) :: L) → wpList P l.toArray Q rest a' w) : wpList P l.toArray Q (⟨some d, op, ty, pos, after, g⟩ :: rest) a w := by
  refine wpList_step fun K' hK' => ?_
  rw [E.want (o := ⟨some d, op, ty, pos, after, g⟩) hg, if_neg (by simp)]
  exact hK' _ _ (K _ (E.put d undef hd))

/-- .. and the same in a region that draws its order. -/
theorem q_val {n : Nat} {L : List (Nat × Value)} {l rest : List Oper} {a : Act} {C : World → Prop} {d : Nat} {op : Op} {ty : TypeId} {pos : String} {after : Array Edge} {g : Option (Nat × Bool)} {v : Value} {Q : Act → Prop}
    (E : Env n a L) (y : Yields P C L op ty v) (hg : want l L g = some true) (hd : Nat.blt d n = true)
    (K : ∀ a', Env n a' ((d, v) :: L) → wpQuiet P l.toArray C Q rest a') : wpQuiet P l.toArray C Q (⟨some d, op, ty, pos, after, g⟩ :: rest) a := by
  refine wpQuiet_step fun K' hK' => ?_
  rw [E.want (o := ⟨some d, op, ty, pos, after, g⟩) hg, if_pos rfl]
  refine ⟨v, fun w hw => ?_, hK' _ (K _ (E.put d v hd))⟩
  unfold Oper.quietAt
  rw [y a.eval w _ _ _ _ (fun h => E.ev h) hw]
  exact ⟨rfl, rfl⟩

theorem q_skip {n : Nat} {L : List (Nat × Value)} {l rest : List Oper} {a : Act} {C : World → Prop} {d : Nat} {op : Op} {ty : TypeId} {pos : String} {after : Array Edge} {g : Option (Nat × Bool)} {Q : Act → Prop}
    (E : Env n a L) (hg : want l L g = some false) (hd : Nat.blt d n = true)
    (K : ∀ a', Env n a' ((d, undef) :: L) → wpQuiet P l.toArray C Q rest a') : wpQuiet P l.toArray C Q (⟨some d, op, ty, pos, after, g⟩ :: rest) a := by
  refine wpQuiet_step fun K' hK' => ?_
  rw [E.want (o := ⟨some d, op, ty, pos, after, g⟩) hg, if_neg (by simp)]
  exact hK' _ (K _ (E.put d undef hd))

end Go.X
