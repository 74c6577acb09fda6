/- More small words for the printed walks. -/
import Derived.Test.YtmmioinglmeoiaaLibC
import Derived.KernelRfl
namespace Go.X

theorem step_n {σ β : Type} {I : σ → Act → World → Prop} {O : β → Exit → Act → World → Prop} {s : σ} {a : Act} {w : World} (h : I s a w) : Step I O (.inl s) .normal a w := ⟨rfl, h⟩
theorem step_o {σ β : Type} {I : σ → Act → World → Prop} {O : β → Exit → Act → World → Prop} {b : β} {e : Exit} {a : Act} {w : World} (hne : e ≠ .normal) (h : O b e a w) : Step I O (.inr b) e a w := ⟨hne, h⟩
theorem sl {α β : Type} {f : α → Prop} {g : β → Prop} {x : α} (h : f x) : Sum.elim f g (.inl x) := h
theorem sr {α β : Type} {f : α → Prop} {g : β → Prop} {x : β} (h : g x) : Sum.elim f g (.inr x) := h
theorem elim_l {α β γ : Type} {f : α → Option γ} {g : β → Option γ} {x : α} {r : γ} (h : Sum.elim f g (.inl x) = some r) : f x = some r := h
theorem elim_r {α β γ : Type} {f : α → Option γ} {g : β → Option γ} {x : β} {r : γ} (h : Sum.elim f g (.inr x) = some r) : g x = some r := h

theorem pL_nil {α : Type} {n : Nat} {R : Rp α} {m : Mem} : pL n R m [.slice none 0 0] [] := ⟨none, 0, rfl, Nat.le_refl _, Nat.zero_le _, Nat.zero_le _, fun h => absurd rfl h⟩
theorem pL_one {α : Type} {n : Nat} {R : Rp α} {m : Mem} {v : Value} {xs : List α} (h : pL n R m [v] xs) : v.oneCell' = true := by
  obtain ⟨⟨a, cap, rfl⟩, _⟩ := pL_inv h; rfl
theorem pL_cells {α : Type} {n : Nat} {R : Rp α} {m : Mem} {v : Value} {xs : List α} (h : pL n R m [v] xs) : v.cells.toList = [v] := by
  obtain ⟨⟨a, cap, rfl⟩, _⟩ := pL_inv h; rfl
theorem At.sub {m : Mem} {b o : Nat} {cs : List Value} (k n : Nat) (h : At m b o cs) : At m b (o + k) ((cs.drop k).take n) := by
  intro j v hj
  have hlt : j < n := by
    rcases Nat.lt_or_ge j n with h1 | h1
    · exact h1
    · have : ((cs.drop k).take n)[j]? = none := List.getElem?_eq_none (by simp; omega)
      rw [this] at hj; cases hj
  rw [List.getElem?_take_of_lt hlt, List.getElem?_drop] at hj
  have := h (k + j) v hj
  rwa [← Nat.add_assoc] at this
theorem ev_of {n : Nat} {a : Act} {L : List (Nat × Value)} (_ : Env n a L) {x : Operand} {v : Value} (h : ev L x = some v) : ev L x = some v := h
theorem cat_len {a b r : List UInt8} (h : cat a b = some r) : r.length ≤ LIMS := by
  unfold cat at h
  split at h
  · rename_i hl; cases h; simpa using hl
  · cases h
theorem Ok.down {u : World} {m m' : Mem} {S : Segs} {w : World} (h : Ok u m' S w) (hb : ∀ b o, u.heap[b]? = some o → m b = some o) (hle : m.le m') : Ok u m S w :=
  ⟨h.os, h.out, h.tape, fun b o hb => h.ro b o (hle b o hb), fun p hp => ⟨(h.own p hp).1, by
    cases hm : m p.1 with
    | none => rfl
    | some o => have := hle _ _ hm; rw [(h.own p hp).2] at this; cases this⟩, h.nd, hb⟩

def RVs (P : Program) (a : Act) (w : World) : List RV → Prop
  | [] => True
  | r :: rs => r.ok P a w ∧ RVs P a w rs
theorem RVs.all {P : Program} {a : Act} {w : World} : ∀ {rs : List RV}, RVs P a w rs → ∀ r ∈ rs, r.ok P a w
  | [], _, _, h => by cases h
  | x :: rs, h, r, hr => by
    rcases List.mem_cons.1 hr with rfl | hr
    · exact h.1
    · exact RVs.all h.2 r hr
theorem rv_t {P : Program} {a : Act} {w : World} {n : Nat} {L : List (Nat × Value)} {i : Nat} {v : Value} (E : Env n a L) (h : look L i = some v) : RV.ok P a w (.t i v) := E.get i v h
theorem rv_c {P : Program} {u : World} {m : Mem} {S : Segs} {a : Act} {w : World} {n : Nat} {L : List (Nat × Value)} {i b o k : Nat} {t : TypeId} {cs : List Value} (E : Env n a L) (ok : Ok u m S w) (h : look L i = some (.pointer (some ⟨b, o, none⟩)))
    (ht : aggB P t k = true) (hk : cs.length = k) (hc : Holds (Ok u m S) b o cs) : RV.ok P a w (.c i t (.agg cs.toArray)) := by
  refine ⟨_, E.get i _ h, ?_⟩
  have y := y_loadAgg (P := P) (C := Ok u m S) (L := []) (ty := 0) (x := .const (.pointer (some ⟨b, o, none⟩))) ht rfl hk hc
  have := y (fun x => (ev [] x).getD undef) w none "" #[] none (fun {x v} hx => by rw [hx]; rfl) ok
  simp only [execOp, Instr.loadAt, ev, Option.getD_some, Instr.sureAddr, Sem.run_bind, Sem.run_pure, Result.andThen_ok] at this
  revert this
  generalize (loadVar t ⟨b, o, none⟩).run P w = r
  intro this
  cases r with
  | ok v w' => simp only [Result.andThen_ok, Result.ok.injEq, Next.value.injEq] at this; rw [this.1, this.2]
  | halt x w' => cases this
theorem c_ret2 {P : Program} {a : Act} {w : World} {fn : Func} {R : Ending → World → Prop} (rs : List RV) (hd : a.defers = []) (hr : fn.results = (rs.map RV.var).toArray) (h : RVs P a w rs) (hR : R (.returned (retV (rs.map RV.val))) w) : bodyPost P fn R .ret a w :=
  c_ret (n := a.tmps.size) (L := []) rs ⟨hd, rfl, fun i v hi => by simp [look] at hi⟩ hr h.all hR

theorem InR.widen {k k' : IntKind} {x : Int} (h : InR k x) (hk : (k'.min ≤ k.min ∧ k.max ≤ k'.max)) : InR k' x := ⟨Int.le_trans hk.1 h.1, Int.le_trans h.2 hk.2⟩
section
variable {P : Program} {C : World → Prop} {L : List (Nat × Value)} {ty : TypeId}
theorem y_convw {x : Operand} {k k' : IntKind} {p : Int} {s d : TypeId} {sd : TypeDesc} (hs : P.underlying s = some sd) (hd : P.underlying d = some (.int k')) (hx : ev L x = some (.int k p)) (hr : InR k p) (hk : (k'.min ≤ k.min ∧ k.max ≤ k'.max)) : Yields P C L (.convert s d x) ty (.int k' p) := by
  have := y_conv (P := P) (C := C) (ty := ty) hs hd hx
  rwa [wrap_of (hr.widen hk)] at this
end

theorem Ok.setSeg {u : World} {m : Mem} : ∀ (k : Nat) (S : Segs) (s s' : List (Nat × Obj)) (w w' : World), S[k]? = some s → (∀ T, Ok u m (s :: T) w → Ok u m (s' :: T) w') → Ok u m S w → Ok u m (S.set k s') w'
  | _, [], _, _, _, _, h, _, _ => by cases h
  | 0, x :: S, s, s', w, w', h, hk, ok => by
    simp only [List.getElem?_cons_zero, Option.some.injEq] at h
    subst h
    exact hk S ok
  | k + 1, x :: S, s, s', w, w', h, hk, ok => by
    simp only [List.getElem?_cons_succ] at h
    have hp : (x :: S).flatten.Perm (s :: (x :: S.eraseIdx k)).flatten := by
      have := Ok.front_perm (k + 1) (x :: S) (by have := (List.getElem?_eq_some_iff.1 h).1; simp; omega)
      simpa [Ok.front, h] using this
    have h2 := hk _ (ok.perm hp)
    refine h2.perm ?_
    have hlt := (List.getElem?_eq_some_iff.1 h).1
    have := Ok.front_perm (k + 1) (x :: S.set k s') (by simp; omega)
    have e : (S.set k s').eraseIdx k = S.eraseIdx k := by
      rw [List.eraseIdx_set_eq]
    simp only [Ok.front, List.getElem?_cons_succ, List.getElem?_set_self hlt, Option.getD_some, List.eraseIdx_cons_succ, e] at this
    exact this.symm

section
variable {P : Program} {Q : Exit → Act → World → Prop} {n : Nat} {L : List (Nat × Value)} {l rest : List Oper} {a : Act} {w u : World} {m : Mem} {S : Segs} {d : Nat} {ty : TypeId} {pos : String} {after : Array Edge} {g : Option (Nat × Bool)}
/-- A store into a block that the call owns, in its place among the segments. -/
theorem l_storeB {t : TypeId} {x y : Operand} {b o sz : Nat} {c vs : List Value} {T : TypeId} {v : Value} (E : Env n a L) (ok : Ok u m S w) (k : Nat) (hS : S[k]? = some [(b, .cells c.toArray T (0, 0))])
    (hx : ev L x = some (.pointer (some ⟨b, o, none⟩))) (hy : ev L y = some v) (hi : ∃ i, P.info? t = some i ∧ i.size = sz) (hv : v.cells.toList = vs) (hsz : vs.length = sz) (h1 : allOne vs) (hb : Nat.ble (o + vs.length) c.length = true) (hg : want l L g = some true)
    (K : ∀ w', Ok u m (S.set k [(b, .cells (wr c o vs).toArray T (0, 0))]) w' → wpList P l.toArray Q rest a w') :
    wpList P l.toArray Q (⟨none, .store t x y, ty, pos, after, g⟩ :: rest) a w := by
  obtain ⟨i, hi, hs⟩ := hi
  subst hv
  have hsz' : v.cells.size = sz := by rw [← hsz]; simp
  have hb' := Nat.le_of_ble_eq_true hb
  -- the world behind the stores
  have key : ∀ T', Ok u m ([(b, .cells c.toArray T (0, 0))] :: T') w → ∃ w', (storeCells ⟨b, o, none⟩ v.cells.toList).run P w = .ok () w' ∧ Ok u m ([(b, .cells (wr c o v.cells.toList).toArray T (0, 0))] :: T') w' := by
    intro T' ok'
    have := run_storeCells (P := P) v.cells.toList o 0 c w h1.all (by omega) ok'
    simpa using this
  have hp : S.flatten.Perm ([(b, Obj.cells c.toArray T (0, 0))] :: S.eraseIdx k).flatten := by
    have := Ok.front_perm k S (List.getElem?_eq_some_iff.1 hS).1
    simpa [Ok.front, hS] using this
  obtain ⟨w', hr, _⟩ := key _ (ok.perm hp)
  refine l_op0 (w' := w') E hg ?_ (K w' (Ok.setSeg k S _ _ w w' hS (fun T' ok' => ?_) ok))
  · have hs' : (sizeOf t).run P w = .ok v.cells.size w := by rw [hsz']; simp [sizeOf, typeInfo, hi, hs, go_sem]
    simp only [execOp, E.ev hx, E.ev hy, Instr.storeAt, Instr.sureAddr, storeVar, Sem.run_bind, Sem.run_pure, hs', Result.andThen_ok, ne_eq, not_true_eq_false, if_false, hr]
  · obtain ⟨w'', hr', ok''⟩ := key T' ok'
    rw [hr] at hr'
    cases hr'
    exact ok''
end
/-! ### division by what is not known to be other than zero -/
def qt (k : IntKind) (p q : Int) : Option Int := if q = 0 then none else some (k.wrap (p.tdiv q))
def rm (p q : Int) : Option Int := if q = 0 then none else some (p.tmod q)
theorem qt_InR {k : IntKind} {p q z : Int} (h : qt k p q = some z) : InR k z := by
  unfold qt at h
  split at h
  · cases h
  · cases h; exact InR.wrap _ _
theorem rm_InR {k : IntKind} {p q z : Int} (h : rm p q = some z) (hp : InR k p) : InR k z := by
  unfold rm at h
  split at h
  · cases h
  · cases h
    have h1 : k.min ≤ 0 := by cases k <;> decide
    have h2 : 0 ≤ k.max := by cases k <;> decide
    unfold InR at *
    rcases Int.le_total 0 p with h0 | h0
    · have a := Int.tmod_nonneg q h0
      have b := Int.natAbs_tmod p q
      have c := Nat.mod_le p.natAbs q.natAbs
      omega
    · have e : p.tmod q = -((-p).tmod q) := by rw [Int.neg_tmod]; omega
      have a := Int.tmod_nonneg q (show 0 ≤ -p by omega)
      have b := Int.natAbs_tmod (-p) q
      have c := Nat.mod_le (-p).natAbs q.natAbs
      omega
section
variable {P : Program} {C : World → Prop} {L : List (Nat × Value)} {ty : TypeId} {k : IntKind} {x y : Operand} {p q z : Int} {t t' : TypeId} (hx : ev L x = some (.int k p)) (hy : ev L y = some (.int k q))
include hx hy
theorem y_qt (h : qt k p q = some z) : Yields P C L (.binOp .quo t x y t') ty (.int k z) := by
  unfold qt at h
  split at h
  · cases h
  · next hq => cases h; exact y_quo hx hy hq
theorem y_rm (h : rm p q = some z) : Yields P C L (.binOp .rem t x y t') ty (.int k z) := by
  unfold rm at h
  split at h
  · cases h
  · next hq => cases h; exact y_rem hx hy hq
end
end Go.X
