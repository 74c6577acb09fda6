/- Linked records: a pointer that reads as the list of what the records hold (each record: k cells of data, then the pointer on). -/
import Derived.Test.YtmmioinglmeoiaaLibSA
import Derived.LaidEql
namespace Go.X
open Go.RowKit

def pKv {α : Type} (k : Nat) (R : Rp α) (m : Mem) : List α → List Value → Prop
  | [], cs => cs = [.pointer none]
  | x :: xs, cs => ∃ b o es v, cs = [.pointer (some ⟨b, o, none⟩)] ∧ es.length = k ∧ At m b o (es ++ [v]) ∧ (∃ c T, m b = some (.cells c T (0, 0))) ∧ R m es x ∧ pKv k R m xs [v]
def pK {α : Type} (k : Nat) (R : Rp α) : Rp (List α) := fun m cs xs => pKv k R m xs cs
/-- The first record and the rest. -/
def unc {α : Type} : List α → Option (α × List α)
  | [] => none
  | x :: xs => some (x, xs)
section
variable {α : Type} {k : Nat} {R : Rp α} {m m' : Mem} {v : Value}
theorem pKv_up (M : Mono R) (hm : m.le m') : ∀ (xs : List α) (cs : List Value), pKv k R m xs cs → pKv k R m' xs cs
  | [], _, h => h
  | _ :: xs, _, ⟨b, o, es, v, h1, h2, h3, ⟨c, T, h6⟩, h4, h5⟩ => ⟨b, o, es, v, h1, h2, h3.up hm, ⟨c, T, hm _ _ h6⟩, M.up hm h4, pKv_up M hm xs [v] h5⟩
theorem pKv_form : ∀ (xs : List α) (cs : List Value), pKv k R m xs cs → ∃ q, cs = [.pointer q] ∧ q.isNone = xs.isEmpty
  | [], _, h => ⟨none, h, rfl⟩
  | _ :: _, _, ⟨_, _, _, _, h1, _⟩ => ⟨_, h1, rfl⟩
theorem pK_ptr {xs : List α} (h : pK k R m [v] xs) : ∃ q, v = .pointer q ∧ q.isNone = xs.isEmpty := by
  obtain ⟨q, h1, h2⟩ := pKv_form xs _ h
  exact ⟨q, (List.cons.inj h1).1, h2⟩
theorem mK (M : Mono R) : Mono (pK k R) := ⟨fun {m m' cs x} hm h => pKv_up M hm x cs h, fun {m cs x} h => by
  obtain ⟨q, rfl, _⟩ := pKv_form x cs h
  exact ⟨rfl, trivial⟩⟩
theorem pK_nil : pK k R m [.pointer none] ([] : List α) := rfl
theorem pK_one {xs : List α} (h : pK k R m [v] xs) : v.oneCell' = true := by
  obtain ⟨q, rfl, _⟩ := pK_ptr h; rfl
theorem pK_cells {xs : List α} (h : pK k R m [v] xs) : v.cells.toList = [v] := by
  obtain ⟨q, rfl, _⟩ := pK_ptr h; rfl
theorem pK_cell {es : List Value} {xs : List α} (h : pK k R m es xs) : ∃ v, es = [v] ∧ pK k R m [v] xs := by
  obtain ⟨q, rfl, _⟩ := pKv_form xs es h
  exact ⟨_, rfl, h⟩
theorem pK_unc {xs : List α} {q : α × List α} (h : pK k R m [v] xs) (hq : unc xs = some q) : ∃ b o es v', v = .pointer (some ⟨b, o, none⟩) ∧ R m es q.1 ∧ pK k R m [v'] q.2 ∧ At m b o (es ++ [v']) := by
  cases xs with
  | nil => cases hq
  | cons x xs =>
    cases hq
    obtain ⟨b, o, es, v', h1, _, h3, _, h4, h5⟩ := h
    exact ⟨b, o, es, v', (List.cons.inj h1).1, h4, h5, h3⟩
/-- An own box, frozen: its pointer reads as a list. -/
theorem pK_froz {b : Nat} {T : TypeId} {es cs : List Value} {x : α} {xs : List α} (M : Mono R) (hR : R m es x) (hr : pK k R m [v] xs) (hc : es ++ [v] = cs) (hle : m.le m') (hf : ∀ p ∈ [(b, Obj.cells cs.toArray T (0, 0))], m' p.1 = some p.2) (hk : es.length = k) :
    pK k R m' [.pointer (some ⟨b, 0, none⟩)] (x :: xs) := by
  subst hc
  refine ⟨b, 0, es, v, rfl, hk, fun j v' hj => ?_, ⟨_, _, hf _ (List.mem_singleton.2 rfl)⟩, M.up hle hR, pKv_up M hle _ _ hr⟩
  have := hf _ (List.mem_singleton.2 rfl)
  simp only at this
  unfold Mem.cell
  rw [show (⟨b, 0 + j, none⟩ : Addr).block = b from rfl, this]
  simpa using hj
section
variable {P : Program} {C : World → Prop} {L : List (Nat × Value)} {ty : TypeId}
theorem y_knil {x y : Operand} {t t' e : TypeId} {z : List α} (ht : P.underlying t = some (.pointer e)) (h : pK k R m [v] z) (hx : ev L x = some v) (hy : ev L y = some (.pointer none)) :
    Yields P C L (.binOp .eql t x y t') ty (.bool z.isEmpty) := by
  intro ρ w dst pos after g E ok
  obtain ⟨q, rfl, hq⟩ := pK_ptr h
  have h2 : binOp .eql t (.pointer q) (.pointer none) = (do pure (.bool (← Op.equal t (.pointer q) (.pointer none)))) := rfl
  simp only [execOp, E hx, E hy, eqGuard, h2]
  have := run_ptr_nil (w := w) ht q
  cases q <;> simp_all [Result.andThen]
theorem y_knnil {x y : Operand} {t t' e : TypeId} {z : List α} (ht : P.underlying t = some (.pointer e)) (h : pK k R m [v] z) (hx : ev L x = some v) (hy : ev L y = some (.pointer none)) :
    Yields P C L (.binOp .neq t x y t') ty (.bool (!z.isEmpty)) := by
  intro ρ w dst pos after g E ok
  obtain ⟨q, rfl, hq⟩ := pK_ptr h
  have h2 : binOp .neq t (.pointer q) (.pointer none) = (do pure (.bool (!(← Op.equal t (.pointer q) (.pointer none))))) := rfl
  simp only [execOp, E hx, E hy, eqGuard, h2]
  have := run_ptr_nil (w := w) ht q
  cases q <;> cases z <;> simp_all [Result.andThen]
theorem y_nilCheckV {X : Operand} {b o : Nat} (hv : v = .pointer (some ⟨b, o, none⟩)) (hX : ev L X = some v) : Yields P C L (.nilCheck X) ty (.pointer (some ⟨b, o, none⟩)) := by
  subst hv
  exact y_nilCheck hX
end
end

/-! ### two such pointers -/
theorem pK_inj {α : Type} {k : Nat} {R : Rp α} {m : Mem} (hR : ∀ es x y, R m es x → R m es y → x = y) : ∀ (xs ys : List α) (cs : List Value), pKv k R m xs cs → pKv k R m ys cs → xs = ys
  | [], [], _, _, _ => rfl
  | [], _ :: _, _, h, ⟨_, _, _, _, h1, _⟩ => by rw [show _ = _ from h] at h1; simp at h1
  | _ :: _, [], _, ⟨_, _, _, _, h1, _⟩, h => by rw [show _ = _ from h] at h1; simp at h1
  | x :: xs, y :: ys, cs, ⟨b, o, es, v, h1, h2, h3, _, h4, h5⟩, ⟨b', o', es', v', g1, g2, g3, _, g4, g5⟩ => by
    rw [h1] at g1
    simp only [List.cons.injEq, Value.pointer.injEq, Option.some.injEq, Addr.mk.injEq, and_true] at g1
    obtain ⟨rfl, rfl⟩ := g1
    have e : es ++ [v] = es' ++ [v'] := by
      apply List.ext_getElem?
      intro j
      by_cases hj : j < k + 1
      · have a1 : (es ++ [v])[j]? = some ((es ++ [v])[j]'(by simp; omega)) := List.getElem?_eq_getElem _
        have a2 : (es' ++ [v'])[j]? = some ((es' ++ [v'])[j]'(by simp; omega)) := List.getElem?_eq_getElem _
        have b1 := h3 j _ a1
        have b2 := g3 j _ a2
        rw [b1] at b2
        rw [a1, a2]; exact b2
      · rw [List.getElem?_eq_none (by simp; omega), List.getElem?_eq_none (by simp; omega)]
    have e2 := List.append_inj' e rfl
    obtain ⟨rfl, e3⟩ := e2
    have e4 : v = v' := (List.cons.inj e3).1
    subst e4
    rw [hR es x y h4 g4, pK_inj hR xs ys [v] h5 g5]
theorem run_kequal {P : Program} {u w : World} {m : Mem} {S : Segs} {t e : TypeId} {j : TypeInfo} {α : Type} {k : Nat} {R : Rp α} {va vb : Value} {xs ys : List α} (ht : P.underlying t = some (.pointer e)) (hi : P.info? e = some j) (hj : j.size ≠ 0)
    (ha : pK k R m [va] xs) (hb : pK k R m [vb] ys) (ok : Ok u m S w) : ∃ c, (Op.equal t va vb).run P w = .ok c w ∧ (c = true ↔ va = vb) := by
  cases xs with
  | nil =>
    have ea : va = .pointer none := (List.cons.inj (show [va] = [.pointer none] from ha)).1
    subst ea
    obtain ⟨q, rfl, _⟩ := pK_ptr hb
    refine ⟨q.isNone, ?_, ?_⟩
    · unfold Op.equal Op.maxDepth Op.equalIn
      cases q <;> simp [run_underlying ht, go_sem]
    · cases q <;> simp
  | cons a xs =>
    obtain ⟨b1, o1, es1, v1, h1, _, _, ⟨c1, T1, k1⟩, _⟩ := ha
    have ea := (List.cons.inj h1).1
    subst ea
    cases ys with
    | nil =>
      have eb : vb = .pointer none := (List.cons.inj (show [vb] = [.pointer none] from hb)).1
      subst eb
      refine ⟨false, ?_, by simp⟩
      unfold Op.equal Op.maxDepth Op.equalIn
      simp [run_underlying ht, go_sem]
    | cons b ys =>
      obtain ⟨b2, o2, es2, v2, h2, _, _, ⟨c2, T2, k2⟩, _⟩ := hb
      have eb := (List.cons.inj h2).1
      subst eb
      by_cases hne : (⟨b1, o1, none⟩ : Addr) = ⟨b2, o2, none⟩
      · refine ⟨true, ?_, by simp [hne]⟩
        rw [hne]
        unfold Op.equal Op.maxDepth Op.equalIn
        simp [run_underlying ht, sizeOf, typeInfo, hi, run_sameAddr_same, go_sem]
      · refine ⟨false, ?_, by simp only [Bool.false_eq_true, false_iff, Value.pointer.injEq, Option.some.injEq]; exact hne⟩
        have := run_sameAddr_other (P := P) w hne (ok.ro _ _ k1) (ok.ro _ _ k2)
        unfold Op.equal Op.maxDepth Op.equalIn
        simp [run_underlying ht, sizeOf, typeInfo, hi, hj, this, go_sem]
theorem y_keq {P : Program} {u : World} {m : Mem} {S : Segs} {L : List (Nat × Value)} {t t' e : TypeId} {j : TypeInfo} {α : Type} {k : Nat} {R : Rp α} {va vb : Value} {xs ys : List α} {x y : Operand} (ht : P.underlying t = some (.pointer e)) (hi : P.info? e = some j) (hj : j.size ≠ 0)
    (ha : pK k R m [va] xs) (hb : pK k R m [vb] ys) (hx : ev L x = some va) (hy : ev L y = some vb) :
    ∃ c, (c = true ↔ va = vb) ∧ (∀ ty, Yields P (Ok u m S) L (.binOp .eql t x y t') ty (.bool c)) ∧ ∀ ty, Yields P (Ok u m S) L (.binOp .neq t x y t') ty (.bool (!c)) := by
  obtain ⟨c, hc⟩ : ∃ c : Bool, (c = true ↔ va = vb) := by
    by_cases h : va = vb
    · exact ⟨true, by simp [h]⟩
    · exact ⟨false, by simp [h]⟩
  have hrun : ∀ w, Ok u m S w → (Op.equal t va vb).run P w = .ok c w := fun w ok => by
    obtain ⟨c', h1, h2⟩ := run_kequal ht hi hj ha hb ok
    have : c' = c := by
      cases c <;> cases c' <;> simp_all
    rw [← this]; exact h1
  obtain ⟨qa, rfl, _⟩ := pK_ptr ha
  obtain ⟨qb, rfl, _⟩ := pK_ptr hb
  refine ⟨c, hc, fun ty => ?_, fun ty => ?_⟩
  · intro ρ w dst pos after g E ok
    have h2 : binOp .eql t (.pointer qa) (.pointer qb) = (do pure (.bool (← Op.equal t (.pointer qa) (.pointer qb)))) := rfl
    have := hrun w ok
    simp only [execOp, E hx, E hy, eqGuard, h2]
    simp [this, Result.andThen]
  · intro ρ w dst pos after g E ok
    have h2 : binOp .neq t (.pointer qa) (.pointer qb) = (do pure (.bool (!(← Op.equal t (.pointer qa) (.pointer qb))))) := rfl
    have := hrun w ok
    simp only [execOp, E hx, E hy, eqGuard, h2]
    simp [this, Result.andThen]
theorem pS_inj {m : Mem} : ∀ (es : List Value) (x y : List UInt8), pS m es x → pS m es y → x = y := fun es x y h1 h2 => by
  obtain ⟨rfl, _⟩ := h1
  obtain ⟨h3, _⟩ := h2
  have h4 := (List.cons.inj h3).1
  have h5 : bs x = bs y := by injection h4
  have := congrArg ByteArray.toList h5
  rwa [bs_toList, bs_toList] at this
theorem c_loopM {P : Program} {Q : Exit → Act → World → Prop} {c : Code} (I : Nat → Act → World → Prop)
    (round : ∀ n a w, I n a w → c.wp P (fun e a w => (e = .normal ∧ ∃ m, m < n ∧ I m a w) ∨ (e ≠ .normal ∧ Q e a w)) a w) : ∀ n a w, I n a w → (Code.loop c).wp P Q a w := by
  have key : ∀ k n a w, n < k → I n a w → Code.rounds P c Q k a w := by
    intro k
    induction k with
    | zero => intro n a w h; omega
    | succ k ih =>
      intro n a w hn h0
      refine wp_mono (round n a w h0) fun e a' w' h => ?_
      rcases h with ⟨rfl, m, hm, hI⟩ | ⟨hne, hq⟩
      · exact ih m a' w' (by omega) hI
      · cases e <;> first | exact absurd rfl hne | exact hq
  intro n a w h0
  exact wp_loop_rounds (n + 1) (key (n + 1) n a w (by omega) h0)

/-! ### an array of records in a box, read at a variable index -/
theorem flat_get {α β : Type} {f : α → List β} {k : Nat} (hk : ∀ x, (f x).length = k) : ∀ (xs : List α) (n j : Nat) (x : α), xs[n]? = some x → j < k → ((xs.map f).flatten)[n * k + j]? = (f x)[j]?
  | [], n, j, x, h, _ => by simp at h
  | y :: ys, 0, j, x, h, hj => by
    simp at h; subst h
    simp only [List.map_cons, List.flatten_cons, Nat.zero_mul, Nat.zero_add]
    rw [List.getElem?_append_left (by rw [hk]; exact hj)]
  | y :: ys, n + 1, j, x, h, hj => by
    simp only [List.getElem?_cons_succ] at h
    simp only [List.map_cons, List.flatten_cons]
    rw [List.getElem?_append_right (by rw [hk, Nat.add_mul]; omega), hk, show (n + 1) * k + j - k = n * k + j by rw [Nat.add_mul]; omega]
    exact flat_get hk ys n j x h hj
theorem Holds.idxK {α : Type} {C : World → Prop} {b o k : Nat} {xs : List α} {f : α → List Value} {p : Int} {x : α} (hk : ∀ x, (f x).length = k) (h : Holds C b o ((xs.map f).flatten)) (hi : X.idx xs p = some x) : Holds C b (o + p.toNat * k) (f x) := by
  intro w hw j v hj
  have hlt : j < k := by rw [← hk x]; exact (List.getElem?_eq_some_iff.1 hj).1
  have hx : xs[p.toNat]? = some x := by
    unfold X.idx at hi
    split at hi
    · exact hi
    · cases hi
  have := h w hw (p.toNat * k + j) v (by rw [flat_get hk xs p.toNat j x hx hlt]; exact hj)
  rwa [← Nat.add_assoc] at this

/-! ### bits -/
def ibits (op : BinOp) (k : IntKind) (a b : Int) : Int := bits op k a b
theorem ibits_InR (op : BinOp) (k : IntKind) (a b : Int) : InR k (ibits op k a b) := by
  unfold ibits bits
  split <;> exact InR.wrap _ _
theorem y_bits {P : Program} {C : World → Prop} {L : List (Nat × Value)} {ty t t' : TypeId} {x y : Operand} {k : IntKind} {a b : Int} (op : BinOp) (ho : op = .and ∨ op = .or ∨ op = .xor ∨ op = .andNot) (hx : ev L x = some (.int k a)) (hy : ev L y = some (.int k b)) :
    Yields P C L (.binOp op t x y t') ty (.int k (ibits op k a b)) := by
  intro ρ w dst pos after g E ok
  rcases ho with rfl | rfl | rfl | rfl <;> simp [execOp, E hx, E hy, binOp, eqGuard, Op.intBits, ibits, bits, go_sem]
end Go.X
