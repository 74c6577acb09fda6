/- Rows of the call's own whose elements hold rows of the call's own. -/
import Derived.Test.YtmmioinglmeoiaaLibTZ
namespace Go.X

/-- Raw cells. -/
def pRaw : Rp (List Value) := fun _ cs x => cs = x ∧ allOne x
theorem mRaw : Mono pRaw := ⟨fun _ h => h, fun h => h.1 ▸ h.2⟩
/-- How an element reads that holds rows of the call's own (blocks M). -/
abbrev Ro (α : Type) := Mem → List Value → α → List (Nat × Obj) → Prop
structure MonoO {α : Type} (R : Ro α) : Prop where
  up : ∀ {m m' : Mem} {cs : List Value} {x : α} {M : List (Nat × Obj)}, m.le m' → R m cs x M → R m' cs x M
/-- Frozen, such an element reads as data. -/
structure FrozO {α : Type} (R : Ro α) (R' : Rp α) : Prop where
  fz : ∀ {m m' : Mem} {cs : List Value} {x : α} {M : List (Nat × Obj)}, R m cs x M → m.le m' → (∀ p ∈ M, m' p.1 = some p.2) → R' m' cs x

structure NEl {α : Type} (R : Ro α) (m : Mem) (cs : List (List Value)) (xs : List α) (ms : List (List (Nat × Obj))) : Prop where
  l1 : cs.length = xs.length
  l2 : ms.length = xs.length
  el : ∀ {i : Nat} {c : List Value} {x : α} {M : List (Nat × Obj)}, cs[i]? = some c → xs[i]? = some x → ms[i]? = some M → R m c x M

/-- v is a slice whose array the call owns, with what the elements hold. -/
def NRow {α : Type} (e k : Nat) (R : Ro α) (m : Mem) (v : Value) (xs : List α) (Mx : List (Nat × Obj)) : Prop :=
  ∃ cs ms M1, ORow e k pRaw m v cs M1 ∧ Mx = M1 ++ ms.flatten ∧ NEl R m cs xs ms
/-- All but the element at p. -/
def NHole {α : Type} (R : Ro α) (m : Mem) (cs : List (List Value)) (xs : List α) (p : Int) (Mr : List (Nat × Obj)) : Prop :=
  ∃ ms : List (List (Nat × Obj)), cs.length = xs.length ∧ ms.length = xs.length ∧ Mr = (ms.set p.toNat []).flatten ∧ ∀ {i : Nat} {c : List Value} {x : α} {M : List (Nat × Obj)}, i ≠ p.toNat → cs[i]? = some c → xs[i]? = some x → ms[i]? = some M → R m c x M

section
variable {α : Type} {e k : Nat} {R : Ro α} {R' : Rp α} {m m' : Mem} {v : Value} {xs : List α} {Mx M1 Mi Mr : List (Nat × Obj)} {P : Program} {u w : World} {S : Segs} {x x' : α} {p : Int} {b o : Nat} {cs : List (List Value)} {c c' : List Value}

theorem some_at {β : Type} {l : List β} {i : Nat} (h : i < l.length) : ∃ x, l[i]? = some x := ⟨_, List.getElem?_eq_getElem h⟩
theorem NRow.up (M : MonoO R) (hm : m.le m') (h : NRow e k R m v xs Mx) : NRow e k R m' v xs Mx := by
  obtain ⟨cs, ms, M1, h1, h2, h3⟩ := h
  exact ⟨cs, ms, M1, h1.up mRaw hm, h2, h3.l1, h3.l2, fun a b c => M.up hm (h3.el a b c)⟩
theorem NHole.up (M : MonoO R) (hm : m.le m') (h : NHole R m cs xs p Mr) : NHole R m' cs xs p Mr := by
  obtain ⟨ms, h1, h2, h3, h4⟩ := h
  exact ⟨ms, h1, h2, h3, fun a b c d => M.up hm (h4 a b c d)⟩
theorem NRow.nil : NRow e k R m (.slice none 0 0) ([] : List α) [] := ⟨[], [], [], ORow.nil, rfl, rfl, rfl, fun h => by simp at h⟩
theorem nilrowN (ok : Ok u m S w) : ∃ Mx, Ok u m (Mx :: S) w ∧ NRow e k R m (.slice none 0 0) ([] : List α) Mx := ⟨[], ok.addnil, NRow.nil⟩
theorem NRow.form (h : NRow e k R m v xs Mx) : (∃ a cap, v = .slice a xs.length cap) ∧ xs.length ≤ LIMS := by
  obtain ⟨cs, ms, M1, h1, h2, h3⟩ := h
  obtain ⟨⟨a, cap, h⟩, hl⟩ := h1.form
  rw [h3.l1] at h hl
  exact ⟨⟨a, cap, h⟩, hl⟩
theorem NRow.cells (h : NRow e k R m v xs Mx) : v.cells.toList = [v] := by obtain ⟨⟨a, cap, rfl⟩, _⟩ := h.form; rfl
theorem NRow.one (h : NRow e k R m v xs Mx) : v.oneCell' = true := by obtain ⟨⟨a, cap, rfl⟩, _⟩ := h.form; rfl
theorem NRow.InR (h : NRow e k R m v xs Mx) : InR .i64 (xs.length : Int) := InR.len h.form.2
theorem y_lenN {C : World → Prop} {L : List (Nat × Value)} {t ty : TypeId} {X : Operand} (ht : SlT P t e k) (h : NRow e k R m v xs Mx) (hX : ev L X = some v) :
    Yields P C L (.call { callee := .builtin .len, args := #[X], argTypes := #[t] }) ty (.int .i64 xs.length) := by
  obtain ⟨cs, ms, M1, h1, h2, h3⟩ := h
  rw [← h3.l1]
  exact y_lenR ht h1 hX

/-- The row frozen. -/
theorem NRow.froz (M : FrozO R R') (h : NRow e k R m v xs Mx) (hle : m.le m') (hf : ∀ p ∈ Mx, m' p.1 = some p.2) (hk : 0 < k) : pL k R' m' [v] xs := by
  obtain ⟨cs, ms, M1, h1, rfl, h3⟩ := h
  obtain ⟨a, cap, g1, g2, g3, g4, g5⟩ := h1.froz mRaw hle (fun p hp => hf p (List.mem_append_left _ hp)) hk
  rw [h3.l1] at g1 g2 g4 g5
  refine ⟨a, cap, g1, g2, g3, g4, fun hn => ?_⟩
  obtain ⟨b, o, g6, g7⟩ := g5 hn
  refine ⟨b, o, g6, fun i x hi => ?_⟩
  have hlt := (List.getElem?_eq_some_iff.1 hi).1
  obtain ⟨c, hc⟩ := some_at (l := cs) (i := i) (by rw [h3.l1]; exact hlt)
  obtain ⟨M2, hM⟩ := some_at (l := ms) (i := i) (by rw [h3.l2]; exact hlt)
  obtain ⟨es, e1, e2, rfl, _⟩ := g7 i _ hc
  refine ⟨_, e1, e2, M.fz (h3.el hc hi hM) hle fun p hp => hf p (List.mem_append_right _ (List.mem_flatten.2 ⟨_, List.mem_of_getElem? hM, hp⟩))⟩

theorem idx_nat {β : Type} {ys : List β} {y : β} (h : idx ys p = some y) : ys[p.toNat]? = some y ∧ 0 ≤ p := by
  unfold idx at h
  split at h
  · exact ⟨h, by assumption⟩
  · cases h
theorem idx_of {β : Type} {ys : List β} {y : β} (h : ys[p.toNat]? = some y) (h0 : 0 ≤ p) : idx ys p = some y := by unfold idx; rw [if_pos h0]; exact h
theorem idx_set {β : Type} {ys : List β} {y y' : β} (h : idx ys p = some y) : idx (ys.set p.toNat y') p = some y' := by
  obtain ⟨h1, h0⟩ := idx_nat h
  exact idx_of (List.getElem?_set_self (List.getElem?_eq_some_iff.1 h1).1) h0
theorem setI_idx {β : Type} {ys : List β} {y y' : β} (h : idx ys p = some y) : setI ys p y' = some (ys.set p.toNat y') := by
  obtain ⟨h1, h0⟩ := idx_nat h
  unfold setI
  rw [if_pos ⟨h0, (List.getElem?_eq_some_iff.1 h1).1⟩]
theorem set_idx {β : Type} {ys : List β} {y : β} (h : idx ys p = some y) : ys.set p.toNat y = ys := by
  obtain ⟨h1, _⟩ := idx_nat h
  apply List.ext_getElem?
  intro j
  by_cases hj : p.toNat = j
  · subst hj; rw [List.getElem?_set_self (List.getElem?_eq_some_iff.1 h1).1, h1]
  · rw [List.getElem?_set_ne hj]

theorem perm_hole {β : Type} : ∀ (ms : List (List β)) (i : Nat) (M : List β), ms[i]? = some M → ms.flatten.Perm (M ++ (ms.set i []).flatten)
  | [], _, _, h => by simp at h
  | M0 :: ms, 0, M, h => by simp at h; subst h; simp
  | M0 :: ms, i + 1, M, h => by
    have := perm_hole ms i M (by simpa using h)
    simp only [List.flatten_cons, List.set_cons_succ]
    refine (this.append_left M0).trans ?_
    rw [← List.append_assoc, ← List.append_assoc]
    exact (List.perm_append_comm).append_right _
theorem Ok.swap2 {A B : List (Nat × Obj)} (ok : Ok u m (A :: B :: S) w) : Ok u m (B :: A :: S) w := ok.perm (by
  simp only [List.flatten_cons]
  rw [← List.append_assoc, ← List.append_assoc]
  exact (List.perm_append_comm).append_right _)
theorem Ok.split2 {A B : List (Nat × Obj)} (ok : Ok u m ((A ++ B) :: S) w) : Ok u m (A :: B :: S) w := ok.perm (by simp)
theorem Ok.join2 {A B : List (Nat × Obj)} (ok : Ok u m (A :: B :: S) w) : Ok u m ((A ++ B) :: S) w := ok.perm (by simp)

/-- A pointer to an element, by the slice's value alone. -/
def NPtr (k : Nat) (v : Value) (p : Int) (b o : Nat) : Prop := ∃ o' len cap, v = .slice (some ⟨b, o', none⟩) len cap ∧ 0 ≤ p ∧ o = o' + p.toNat * k
theorem NPtr.row {β : Type} {Rr : Rp β} {ys : List β} (hp : NPtr k v p b o) (h : ORow e k Rr m v ys M1) : RowPtr k v p M1 b o := by
  obtain ⟨o', len, cap, rfl, h0, ho⟩ := hp
  rcases h with ⟨h, _, _⟩ | ⟨b', o2, cap', c, h, hM, _⟩
  · cases h
  · simp only [Value.slice.injEq, Option.some.injEq, Addr.mk.injEq, and_true] at h
    obtain ⟨⟨rfl, rfl⟩, _, _⟩ := h
    exact ⟨o', cap, c, len, e, rfl, hM, h0, ho⟩
theorem rawAt {L : List (Nat × Value)} {kd : IntKind} {t : TypeId} (ht : SlT P t e k) (h : ORow e k pRaw m v cs M1) (hi : idx cs p = some c) {X I : Operand} (hX : ev L X = some v) (hI : ev L I = some (.int kd p)) :
    ∃ b o, NPtr k v p b o ∧ ∀ C ty, Yields P C L (.indexAddr t X I) ty (.pointer (some ⟨b, o, none⟩)) := by
  obtain ⟨b, o, ⟨o', cap, c2, len, e', hv, _, g0, ho⟩, hy⟩ := orowAt ht h hi hX hI
  exact ⟨b, o, ⟨o', len, cap, hv, g0, ho⟩, hy⟩
theorem NHole.InR (h : ORow e k pRaw m v cs M1) (hh : NHole R m cs xs p Mr) : X.InR .i64 (xs.length : Int) := by
  obtain ⟨ms, g1, _⟩ := hh
  rw [← g1]; exact ORow.InR h
theorem y_lenH {C : World → Prop} {L : List (Nat × Value)} {t ty : TypeId} {X : Operand} (ht : SlT P t e k) (h : ORow e k pRaw m v cs M1) (hh : NHole R m cs xs p Mr) (hX : ev L X = some v) :
    Yields P C L (.call { callee := .builtin .len, args := #[X], argTypes := #[t] }) ty (.int .i64 xs.length) := by
  obtain ⟨ms, g1, _⟩ := hh
  rw [← g1]
  exact y_lenR ht h hX
theorem nrowAt {L : List (Nat × Value)} {kd : IntKind} {t : TypeId} (ht : SlT P t e k) (h : NRow e k R m v xs Mx) (hi : idx xs p = some x) {X I : Operand} (hX : ev L X = some v) (hI : ev L I = some (.int kd p)) :
    ∃ b o, NPtr k v p b o ∧ ∀ C ty, Yields P C L (.indexAddr t X I) ty (.pointer (some ⟨b, o, none⟩)) := by
  obtain ⟨cs, ms, M1, h1, rfl, h3⟩ := h
  obtain ⟨hx, h0⟩ := idx_nat hi
  have hlt := (List.getElem?_eq_some_iff.1 hx).1
  obtain ⟨c, hc⟩ := some_at (l := cs) (i := p.toNat) (by rw [h3.l1]; exact hlt)
  obtain ⟨b, o, ⟨o', cap, c2, len, e', hv, _, g0, ho⟩, hy⟩ := orowAt ht h1 (idx_of hc h0) hX hI
  exact ⟨b, o, ⟨o', len, cap, hv, g0, ho⟩, hy⟩

/-- An element, taken out. -/
theorem NRow.open (h : NRow e k R m v xs Mx) (hi : idx xs p = some x) (ok : Ok u m (Mx :: S) w) :
    ∃ cs c M1 Mi Mr, Ok u m (M1 :: Mi :: Mr :: S) w ∧ ORow e k pRaw m v cs M1 ∧ idx cs p = some c ∧ R m c x Mi ∧ NHole R m cs xs p Mr := by
  obtain ⟨cs, ms, M1, h1, rfl, h3⟩ := h
  obtain ⟨hx, h0⟩ := idx_nat hi
  have hlt := (List.getElem?_eq_some_iff.1 hx).1
  obtain ⟨c, hc⟩ := some_at (l := cs) (i := p.toNat) (by rw [h3.l1]; exact hlt)
  obtain ⟨M2, hM⟩ := some_at (l := ms) (i := p.toNat) (by rw [h3.l2]; exact hlt)
  refine ⟨cs, c, M1, M2, (ms.set p.toNat []).flatten, ?_, h1, idx_of hc h0, h3.el hc hx hM, ms, h3.l1, h3.l2, rfl, fun _ a b c => h3.el a b c⟩
  refine ok.perm ?_
  simp only [List.flatten_cons, List.append_assoc]
  refine List.Perm.append_left _ ?_
  rw [← List.append_assoc]
  exact (perm_hole ms _ _ hM).append_right _
theorem NHole.set (h : NHole R m cs xs p Mr) : NHole R m (cs.set p.toNat c') xs p Mr := by
  obtain ⟨ms, h1, h2, h3, h4⟩ := h
  exact ⟨ms, by rw [List.length_set]; exact h1, h2, h3, fun a b c d => h4 a (by rw [List.getElem?_set_ne (fun e => a e.symm)] at b; exact b) c d⟩
/-- An element, put back. -/
theorem NRow.close (hi : idx xs p = some x) (ok : Ok u m (M1 :: Mi :: Mr :: S) w) (h1 : ORow e k pRaw m v cs M1) (hc : idx cs p = some c) (hR : R m c x' Mi) (hh : NHole R m cs xs p Mr) :
    ∃ Mx, Ok u m (Mx :: S) w ∧ NRow e k R m v (xs.set p.toNat x') Mx := by
  obtain ⟨ms, g1, g2, rfl, g4⟩ := hh
  obtain ⟨hx, h0⟩ := idx_nat hi
  have hlt := (List.getElem?_eq_some_iff.1 hx).1
  refine ⟨M1 ++ (ms.set p.toNat Mi).flatten, ?_, cs, ms.set p.toNat Mi, M1, h1, rfl, by rw [List.length_set]; exact g1, by rw [List.length_set, List.length_set]; exact g2, fun {i c2 x2 M2} a b d => ?_⟩
  · refine ok.perm ?_
    simp only [List.flatten_cons, List.append_assoc]
    refine List.Perm.append_left _ ?_
    rw [← List.append_assoc]
    refine List.Perm.append_right _ ?_
    have := perm_hole (ms.set p.toNat Mi) p.toNat Mi (List.getElem?_set_self (by rw [g2]; exact hlt))
    rw [List.set_set] at this
    exact this.symm
  · by_cases hj : i = p.toNat
    · subst hj
      rw [(idx_nat hc).1] at a
      rw [List.getElem?_set_self hlt] at b
      rw [List.getElem?_set_self (by rw [g2]; exact hlt)] at d
      cases a; cases b; cases d
      exact hR
    · rw [List.getElem?_set_ne (fun e => hj e.symm)] at b d
      exact g4 hj a b d
theorem NRow.close0 (hi : idx xs p = some x) (ok : Ok u m (M1 :: Mi :: Mr :: S) w) (h1 : ORow e k pRaw m v cs M1) (hc : idx cs p = some c) (hR : R m c x Mi) (hh : NHole R m cs xs p Mr) :
    ∃ Mx, Ok u m (Mx :: S) w ∧ NRow e k R m v xs Mx := by
  have := NRow.close hi ok h1 hc hR hh
  rwa [set_idx hi] at this
/-- What the row holds at the element that is taken out. -/
theorem rawGet (h : ORow e k pRaw m v cs M1) (hi : idx cs p = some c) (hp : NPtr k v p b o) (hk : 0 < k) :
    c.length = k ∧ ∀ (u : World) (m : Mem) (S : Segs) (j : Nat), segAt S j = M1 → Holds (Ok u m S) b o c := by
  obtain ⟨es, h1, ⟨rfl, _⟩, h3⟩ := orowGet h hi (hp.row h) hk
  exact ⟨h1, h3⟩
end

section
variable {α : Type} {e k : Nat} {R : Ro α} {m : Mem} {P : Program} {Q : Exit → Act → World → Prop} {n : Nat} {L : List (Nat × Value)} {l rest : List Oper} {a : Act} {w u : World} {S : Segs} {d : Nat} {ty : TypeId} {pos : String} {after : Array Edge} {g : Option (Nat × Bool)}

/-- append of one element, with what it holds. -/
theorem l_appN {t t' : TypeId} {X Y : Operand} {v sv : Value} {xs zs : List α} {y : α} {c : List Value} {Mx My : List (Nat × Obj)} (E : Env n a L) (ok : Ok u m (Mx :: My :: S) w) (ht : SlT P t e k) (ht' : P.underlying t' = some (.slice e)) (h : NRow e k R m v xs Mx)
    (hs : SrcOK k pRaw m w sv [c]) (hy : R m c y My) (hz : app xs [y] = some zs) (hzv : ∃ z, zeroB P e = some z ∧ z.length = k)
    (hX : ev L X = some v) (hY : ev L Y = some sv) (hg : want l L g = some true) (hd : Nat.blt d n = true)
    (K : ∀ v' Mx' a' w', Env n a' ((d, v') :: L) → Ok u m (Mx' :: S) w' → NRow e k R m v' zs Mx' → wpList P l.toArray Q rest a' w') :
    wpList P l.toArray Q (⟨some d, .call { callee := .builtin .append, args := #[X, Y], argTypes := #[t, t'] }, ty, pos, after, g⟩ :: rest) a w := by
  obtain ⟨cs, ms, M1, h1, rfl, h3⟩ := h
  have hzs : zs = xs ++ [y] ∧ app cs [c] = some (cs ++ [c]) := by
    unfold app at hz ⊢
    split at hz
    · rename_i hb
      simp only [Option.some.injEq] at hz
      exact ⟨hz.symm, if_pos (by simpa [h3.l1] using hb)⟩
    · cases hz
  obtain ⟨rfl, hcs⟩ := hzs
  have ok2 : Ok u m (M1 :: (ms.flatten ++ My) :: S) w := ok.perm (by simp)
  refine l_app (R := pRaw) E ok2 0 mRaw ht ht' rfl h1 hs hcs hzv hX hY hg hd fun v' Mx' a' w' E' ok' hr => ?_
  refine K v' (Mx' ++ (ms ++ [My]).flatten) a' w' E' ?_ ⟨cs ++ [c], ms ++ [My], Mx', hr, rfl, by simp [h3.l1], by simp [h3.l2], fun {i c2 x2 M2} ha hb hd => ?_⟩
  · have ok3 : Ok u m (Mx' :: (ms.flatten ++ My) :: S) w' := ok'
    exact ok3.perm (by simp)
  · by_cases hi : i < xs.length
    · rw [List.getElem?_append_left (by rw [h3.l1]; exact hi)] at ha
      rw [List.getElem?_append_left hi] at hb
      rw [List.getElem?_append_left (by rw [h3.l2]; exact hi)] at hd
      exact h3.el ha hb hd
    · have hl := (List.getElem?_eq_some_iff.1 hb).1
      simp only [List.length_append, List.length_cons, List.length_nil] at hl
      have hi' : i = xs.length := by omega
      subst hi'
      rw [List.getElem?_append_right (by rw [h3.l1]; exact Nat.le_refl _)] at ha
      rw [List.getElem?_append_right (Nat.le_refl _)] at hb
      rw [List.getElem?_append_right (by rw [h3.l2]; exact Nat.le_refl _)] at hd
      rw [h3.l1, Nat.sub_self] at ha
      rw [Nat.sub_self] at hb
      rw [h3.l2, Nat.sub_self] at hd
      simp only [List.getElem?_cons_zero, Option.some.injEq] at ha hb hd
      subst ha; subst hb; subst hd
      exact hy
/-- A store into the element that is taken out. -/
theorem l_storeN {t : TypeId} {X Y : Operand} {b o sz f q : Nat} {v sv : Value} {cs : List (List Value)} {c c' : List Value} {p : Int} {M1 : List (Nat × Obj)} {svs : List Value} (E : Env n a L) (ok : Ok u m S w) (i : Nat) (hS : S[i]? = some M1) (h : ORow e k pRaw m v cs M1) (hi : idx cs p = some c) (hp : NPtr k v p b o)
    (hX : ev L X = some (.pointer (some ⟨b, q, none⟩))) (hq : q = o + f) (hY : ev L Y = some sv) (hinf : ∃ i, P.info? t = some i ∧ i.size = sz) (hsv : sv.cells.toList = svs) (hsz : svs.length = sz) (hk : Nat.ble (f + sz) k = true) (h1 : allOne svs) (hc : wr c f svs = c') (h2 : allOne c') (hg : want l L g = some true)
    (K : ∀ M1' w', Ok u m (S.set i M1') w' → ORow e k pRaw m v (cs.set p.toNat c') M1' → idx (cs.set p.toNat c') p = some c' → wpList P l.toArray Q rest a w') :
    wpList P l.toArray Q (⟨none, .store t X Y, ty, pos, after, g⟩ :: rest) a w :=
  l_storeRowF (R := pRaw) (f := f) E ok i hS h hi (hp.row h) hX hq hY hinf hsv hsz hk h1 (fun es _ hes => by obtain ⟨rfl, _⟩ := hes; exact ⟨hc, h2⟩) (setI_idx hi) hg fun M1' w' ok' hr => K M1' w' ok' hr (idx_set hi)
end

/-! ### great arrays of flags -/
def pGB (n : Nat) : Rp (List Bool) := fun _ cs x => cs = List.map Value.bool x ∧ x.length = n
theorem allOne_flags : ∀ x : List Bool, allOne (List.map Value.bool x)
  | [] => trivial
  | _ :: x => ⟨rfl, allOne_flags x⟩
theorem mGB (n : Nat) : Mono (pGB n) := ⟨fun _ h => h, fun {m cs x} h => by rw [h.1]; exact allOne_flags x⟩
theorem setI_length {α : Type} {xs ys : List α} {p : Int} {y : α} {n : Nat} (h : setI xs p y = some ys) (hl : xs.length = n) : ys.length = n := by
  obtain ⟨_, _, rfl⟩ := setI_range h
  rw [List.length_set]; exact hl
theorem ga_le {xs : List Bool} {p : Int} {x : Bool} {n : Nat} (_hl : xs.length = n) (h : idx xs p = some x) : 0 + p.toNat * 1 + 1 ≤ (List.map Value.bool xs).length := by
  have := (List.getElem?_eq_some_iff.1 (idx_nat h).1).1
  rw [List.length_map]; omega
theorem ga_wr {xs ys : List Bool} {p : Int} {y : Bool} (h : setI xs p y = some ys) : wr (List.map Value.bool xs) (0 + p.toNat * 1) [Value.bool y] = List.map Value.bool ys := by
  have := wr_at (f := Value.bool) (pre := []) (post := []) (off := 0) rfl h
  simpa using this

/-! ### append, bounded by the bytes of the elements -/
def appw {α : Type} (B : Nat) (xs ys : List α) : Option (List α) := if (xs.length + ys.length) * B ≤ 140737488355328 ∧ xs.length + ys.length ≤ 140737488355328 then some (xs ++ ys) else none
def bytesB (P : Program) (e B : Nat) : Bool := match P.info? e with | some i => decide (i.bytes ≤ B) | none => true
theorem bytesB_of {P : Program} {e B : Nat} (h : bytesB P e B = true) : ∀ i, P.info? e = some i → i.bytes ≤ B := fun i hi => by
  unfold bytesB at h
  rw [hi] at h
  exact of_decide_eq_true h
section
variable {α : Type} {e k : Nat} {R : Rp α} {m : Mem} {P : Program} {Q : Exit → Act → World → Prop} {n : Nat} {L : List (Nat × Value)} {l rest : List Oper} {a : Act} {w u : World} {S : Segs} {d : Nat} {ty : TypeId} {pos : String} {after : Array Edge} {g : Option (Nat × Bool)}
/-- append: to a row that the call owns; bounded by the bytes of the elements. -/
theorem run_appw {B : Nat} {t t' : TypeId} {v sv : Value} {xs ys zs : List α} {Mx : List (Nat × Obj)} {i : Nat} (M : Mono R) (ok : Ok u m S w) (ht : SlT P t e k) (ht' : P.underlying t' = some (.slice e)) (hS : S[i]? = some Mx) (h : ORow e k R m v xs Mx) (hs : SrcOK k R m w sv ys) (hz : appw B xs ys = some zs) (hBy : ∀ i, P.info? e = some i → i.bytes ≤ B) (hzv : ∃ z, zeroB P e = some z ∧ z.length = k) :
    ∃ v' Mx' w', (Builtin.append_ #[t, t'] ty #[v, sv]).run P w = .ok v' w' ∧ Ok u m (S.set i Mx') w' ∧ ORow e k R m v' zs Mx' := by
  unfold appw at hz
  split at hz
  · rename_i hb0
    obtain ⟨hb1, hb⟩ := hb0
    simp only [Option.some.injEq] at hz
    subst hz
    have hil := (List.getElem?_eq_some_iff.1 hS).1
    obtain ⟨inf, hinf, hsz, hby, hk⟩ := ht.inf
    obtain ⟨z, hz, hzl⟩ := hzv
    obtain ⟨zv, hzr, hzc⟩ := zeroB_run (P := P) hz
    obtain ⟨sad, scap, news, rfl, hnl, hnR, hfirst⟩ := hs.first (P := P)
    have hsize : ∀ w, (sizeOf e).run P w = .ok k w := fun w => by simp [sizeOf, typeInfo, hinf, hsz, go_sem]
    have hti : ∀ w, (typeInfo e).run P w = .ok inf w := fun w => by simp [typeInfo, hinf, go_sem]
    have hones : ∀ x ∈ news, Value.oneCell' x = true := by
      intro x hx
      obtain ⟨j, hj, rfl⟩ := List.mem_iff_getElem.1 hx
      have hjl : j / k < ys.length := by rw [Nat.div_lt_iff_lt_mul hk]; omega
      have h1 := M.one (hnR (j / k) ys[j / k] (by simp [hjl]))
      refine h1.all _ ?_
      rw [List.mem_iff_getElem?]
      refine ⟨j % k, ?_⟩
      rw [List.getElem?_take_of_lt (Nat.mod_lt _ hk), List.getElem?_drop]
      have : j / k * k + j % k = j := by rw [Nat.mul_comm]; exact Nat.div_add_mod j k
      rw [this]; simp [hj]
    -- the elements of the row that comes out, in a list of cells whose front is the old ones and then the new ones
    have elems : ∀ (c c' : List Value) (o o' : Nat), (∀ i x, xs[i]? = some x → R m ((c.drop (o + i * k)).take k) x) → (∀ i, i < xs.length → (c'.drop (o' + i * k)).take k = (c.drop (o + i * k)).take k) →
        (∀ i, i < ys.length → (c'.drop (o' + (xs.length + i) * k)).take k = (news.drop (i * k)).take k) → ∀ i x, (xs ++ ys)[i]? = some x → R m ((c'.drop (o' + i * k)).take k) x := by
      intro c c' o o' h7 ha hb i x hi
      by_cases hlt : i < xs.length
      · rw [List.getElem?_append_left hlt] at hi
        rw [ha i hlt]; exact h7 i x hi
      · rw [List.getElem?_append_right (by omega)] at hi
        have hl2 := (List.getElem?_eq_some_iff.1 hi).1
        have := hb (i - xs.length) hl2
        rw [show xs.length + (i - xs.length) = i from by omega] at this
        rw [this]; exact hnR _ _ hi
    obtain ⟨⟨base, cap, hv⟩, hxl⟩ := h.form
    subst hv
    by_cases hroom : xs.length + ys.length ≤ cap
    · -- there is room
      rcases h with ⟨hv, rfl, rfl⟩ | ⟨b, o, cap', c, hv, rfl, h3, h4, h5, h6, h7⟩
      · simp only [Value.slice.injEq] at hv
        obtain ⟨rfl, _, rfl⟩ := hv
        have hy : ys = [] := List.eq_nil_of_length_eq_zero (by simpa using hroom)
        subst hy
        have hn : news = [] := List.eq_nil_of_length_eq_zero (by simpa using hnl)
        subst hn
        refine ⟨.slice none 0 0, [], w, ?_, by rw [set_same hS]; exact ok, by simpa using ORow.nil⟩
        have hf := hfirst w (fun _ _ => rfl)
        simp only [List.length_nil] at hf
        simp [Builtin.append_, run_underlying ht.und, run_underlying ht', Builtin.lenOf, hsize, hf, Result.andThen]
      · simp only [Value.slice.injEq] at hv
        obtain ⟨rfl, _, rfl⟩ := hv
        have hle : o + xs.length * k + news.length ≤ c.length := by
          have : (xs.length + ys.length) * k ≤ cap * k := Nat.mul_le_mul_right _ hroom
          rw [Nat.add_mul] at this; omega
        have key : ∀ T', Ok u m ([(b, Obj.cells c.toArray e (0, 0))] :: T') w → ∃ w', (storeCells ⟨b, o + xs.length * k, none⟩ news).run P w = .ok () w' ∧ Ok u m ([(b, Obj.cells (wr c (o + xs.length * k) news).toArray e (0, 0))] :: T') w' := by
          intro T' ok'
          have := run_storeCells (P := P) news (o + xs.length * k) 0 c w hones (by omega) ok'
          simpa using this
        obtain ⟨w', hr, _⟩ := key _ (ok.frs i hS)
        refine ⟨.slice (some ⟨b, o, none⟩) (xs.length + ys.length) cap, [(b, Obj.cells (wr c (o + xs.length * k) news).toArray e (0, 0))], w', ?_, ?_, ?_⟩
        · have hf := hfirst w (fun _ _ => rfl)
          simp [Builtin.append_, run_underlying ht.und, run_underlying ht', Builtin.lenOf, hsize, hf, hroom, addr_add, hr, Result.andThen]
        · refine Ok.setSeg i S _ _ w w' hS (fun T' ok' => ?_) ok
          obtain ⟨w'', hr', ok''⟩ := key T' ok'
          rw [hr] at hr'; cases hr'; exact ok''
        · refine .inr ⟨b, o, cap, _, by simp, rfl, by simpa using hroom, h4, by rw [wr_length]; exact h5, by simp; unfold LIMS; omega, elems c _ o o h7 (fun i hi => ?_) (fun i hi => ?_)⟩
          · refine wr_take news c _ _ _ hle (.inl ?_)
            have : (i + 1) * k ≤ xs.length * k := Nat.mul_le_mul_right _ (by omega)
            rw [Nat.add_mul] at this; omega
          · have h9 : (i + 1) * k ≤ ys.length * k := Nat.mul_le_mul_right _ (by omega)
            rw [Nat.add_mul] at h9
            apply List.ext_getElem?
            intro j
            by_cases hj : j < k
            · rw [List.getElem?_take_of_lt hj, List.getElem?_take_of_lt hj, List.getElem?_drop, List.getElem?_drop, wr_get news c _ _ hle, Nat.add_mul, if_pos (by omega)]
              congr 1; omega
            · rw [List.getElem?_eq_none (by simp; omega), List.getElem?_eq_none (by simp; omega)]
    · -- a new block
      have hbytes : (xs.length + ys.length) * inf.bytes ≤ 140737488355328 := Nat.le_trans (Nat.mul_le_mul_left _ (hBy _ hinf)) hb1
      have hfit := growslice_fits (need := xs.length + ys.length) (old := cap) (bytes := inf.bytes) (by omega) hbytes
      have holds : SrcOK k R m w (.slice base xs.length cap) xs := SrcOK.ofRow h i (by simp [segAt, hS]) ok
      obtain ⟨oad, ocap, olds, ho1, ho2, ho3, ho4⟩ := holds.first (P := P)
      have hb' := hb
      have e48 : ¬ (281474976710656 < Builtin.nextslicecap (xs.length + ys.length) cap * inf.bytes) := by omega
      have hfo := ho4 w.drew (fun _ _ => rfl)
      have hfn := hfirst w.drew (fun _ _ => rfl)
      have hge := grownCap_ge w (xs.length + ys.length) cap e
      have hcm := grownCap_le_maxLen w (xs.length + ys.length) cap e (by unfold maxLen; omega)
      have hzs : zv.cells.size = k := by rw [← hzl, ← hzc]; simp
      refine ⟨.slice (some ⟨w.heap.size, 0, none⟩) (xs.length + ys.length) (grownCap w (xs.length + ys.length) cap e), [(w.heap.size, Obj.cells (olds ++ news ++ (Builtin.zeroCells zv.cells (grownCap w (xs.length + ys.length) cap e - (xs.length + ys.length))).toList).toArray e (0, 0))], w.drew.alloc (.cells (olds ++ news ++ (Builtin.zeroCells zv.cells (grownCap w (xs.length + ys.length) cap e - (xs.length + ys.length))).toList).toArray e (0, 0)), ?_, ?_, ?_⟩
      · have hn : ¬ (xs.length + ys.length ≤ cap) := hroom
        simp [Builtin.append_, run_underlying ht.und, run_underlying ht', Builtin.lenOf, hsize, hti, hn, e48, hzr, Question.forced, hfo, hfn, newRow, grownCap, Result.andThen]
        rw [if_neg (by omega)]
        congr 3
        simp [← Array.toList_inj]
      · exact Ok.replace ((ok.draw (w.drawn + 1)).alloc _) hil
      · refine .inr ⟨_, 0, _, _, by simp, rfl, by simpa using hge, hcm, ?_, by simp; unfold LIMS; omega, elems olds _ 0 0 (fun i x hi => by simpa using ho3 i x hi) (fun i hi => ?_) (fun i hi => ?_)⟩
        · simp only [List.length_append, ho2, hnl, Array.length_toList, size_zeroCells, hzs]
          rw [← Nat.add_mul, ← Nat.add_mul]; simp; apply Nat.mul_le_mul_right; omega
        · have h9 : (i + 1) * k ≤ xs.length * k := Nat.mul_le_mul_right _ (by omega)
          rw [Nat.add_mul] at h9
          rw [List.append_assoc]
          apply List.ext_getElem?
          intro j
          by_cases hj : j < k
          · rw [List.getElem?_take_of_lt hj, List.getElem?_take_of_lt hj, List.getElem?_drop, List.getElem?_drop, List.getElem?_append_left (by omega)]
          · rw [List.getElem?_eq_none (by simp; omega), List.getElem?_eq_none (by simp; omega)]
        · have h9 : (i + 1) * k ≤ ys.length * k := Nat.mul_le_mul_right _ (by omega)
          rw [Nat.add_mul] at h9
          rw [List.append_assoc]
          apply List.ext_getElem?
          intro j
          by_cases hj : j < k
          · rw [List.getElem?_take_of_lt hj, List.getElem?_take_of_lt hj, List.getElem?_drop, List.getElem?_drop, Nat.add_mul, List.getElem?_append_right (by omega), List.getElem?_append_left (by omega)]
            congr 1; omega
          · rw [List.getElem?_eq_none (by simp; omega), List.getElem?_eq_none (by simp; omega)]
  · cases hz
theorem l_appw {B : Nat} {t t' : TypeId} {x y : Operand} {v sv : Value} {xs ys zs : List α} {Mx : List (Nat × Obj)} (E : Env n a L) (ok : Ok u m S w) (i : Nat) (M : Mono R) (ht : SlT P t e k) (ht' : P.underlying t' = some (.slice e)) (hS : S[i]? = some Mx) (h : ORow e k R m v xs Mx) (hs : SrcOK k R m w sv ys) (hz : appw B xs ys = some zs) (hBy : ∀ i, P.info? e = some i → i.bytes ≤ B) (hzv : ∃ z, zeroB P e = some z ∧ z.length = k)
    (hx : ev L x = some v) (hy : ev L y = some sv) (hg : want l L g = some true) (hd : Nat.blt d n = true)
    (K : ∀ v' Mx' a' w', Env n a' ((d, v') :: L) → Ok u m (S.set i Mx') w' → ORow e k R m v' zs Mx' → wpList P l.toArray Q rest a' w') :
    wpList P l.toArray Q (⟨some d, .call { callee := .builtin .append, args := #[x, y], argTypes := #[t, t'] }, ty, pos, after, g⟩ :: rest) a w := by
  obtain ⟨v', Mx', w', hr, ok', hrow⟩ := run_appw (ty := ty) M ok ht ht' hS h hs hz hBy hzv
  refine l_op (v := v') (w' := w') E hg hd ?_ (fun a' E' => K _ _ _ _ E' ok' hrow)
  unfold execOp
  simp only [resolve, invoke, builtin, Sem.run_bind, Sem.run_pure, Result.andThen_ok, List.map_toArray, List.map_cons, List.map_nil, E.ev hx, E.ev hy, hr]


end
end Go.X
