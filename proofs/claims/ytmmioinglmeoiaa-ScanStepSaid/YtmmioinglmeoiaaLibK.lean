/- Maps whose keys are structs or arrays of integers, bools and strings. -/
import Derived.Test.YtmmioinglmeoiaaLibJ
import Derived.DeepKeys4
namespace Go.X

def aggK {K : Type} (R : Rp K) (v : Value) (x : K) : Prop := ∃ (m : Mem) (cs : List Value), v = .agg cs.toArray ∧ R m cs x

theorem mapM_ex {α β : Type} {f : α → Option β} : ∀ {l : List α}, (∀ x ∈ l, ∃ y, f x = some y) → ∃ ys, l.mapM f = some ys
  | [], _ => ⟨[], rfl⟩
  | x :: l, h => by
    obtain ⟨y, hy⟩ := h x (List.mem_cons_self ..)
    obtain ⟨ys, hys⟩ := mapM_ex (l := l) fun z hz => h z (List.mem_cons_of_mem _ hz)
    exact ⟨y :: ys, by simp [List.mapM_cons, hy, hys]⟩

section
variable {P : Program} {d : Nat} {t e : TypeId} {q : IntKind}
theorem kl_int (ht : P.underlying t = some (.int q)) {n : Int} (h : InR q n) : ∃ l, P.keyLits (d + 1) t [.int q n] = some l :=
  ⟨[.int q n], by simp [Program.keyLits, ht, h.wf]⟩
theorem kl_bool (ht : P.underlying t = some .bool) (b : Bool) : ∃ l, P.keyLits (d + 1) t [.bool b] = some l :=
  ⟨[.bool b], by simp [Program.keyLits, ht]⟩
theorem kl_str (ht : P.underlying t = some .string) {s : List UInt8} (h : s.length ≤ LIMS) : ∃ l, P.keyLits (d + 1) t [.string (bs s)] = some l :=
  ⟨[.string s], by
    have hl : (bs s).size ≤ maxLen := by rw [bs_size]; unfold maxLen; unfold LIMS at h; omega
    have h3 : (bs s).data.toList = s := rfl
    simp [Program.keyLits, ht, hl, h3]⟩
theorem kl_arr {n : Nat} {α : Type} {f : α → Value} {xs : List α} {cs : List Value} (ht : P.underlying t = some (.array n e)) (hk : P.cellsOf e = 1) (hc : P.cellsOf t = n) (hcs : cs = xs.map f) (hx : xs.length = n)
    (h : ∀ x ∈ xs, ∃ l, P.keyLits d e [f x] = some l) : ∃ l, P.keyLits (d + 1) t cs = some l := by
  subst hcs
  have hm : ∃ ys, (List.range n).mapM (fun i => P.keyLits d e (((xs.map f).drop (i * P.cellsOf e)).take (P.cellsOf e))) = some ys := by
    refine mapM_ex fun i hi => ?_
    have hi' : i < xs.length := by rw [hx]; exact List.mem_range.1 hi
    rw [hk, Nat.mul_one, List.drop_eq_getElem_cons (by rw [List.length_map]; exact hi')]
    simp only [List.take_succ_cons, List.take_zero, List.getElem_map]
    exact h _ (List.getElem_mem hi')
  obtain ⟨ys, hys⟩ := hm
  refine ⟨ys.flatten, ?_⟩
  simp only [Program.keyLits, ht]
  rw [if_pos (by rw [List.length_map, hx, hc]), hys]; rfl
theorem kl_struct {fs : Array Field} {cs : List Value} (ht : P.underlying t = some (.struct fs)) (hc : P.cellsOf t = cs.length) (hb : fs.all (·.name != "_") = true)
    (h : ∀ f ∈ fs.toList, ∃ l, P.keyLits d f.type ((cs.drop f.offset).take (P.cellsOf f.type)) = some l) : ∃ l, P.keyLits (d + 1) t cs = some l := by
  obtain ⟨ys, hys⟩ := mapM_ex h
  refine ⟨ys.flatten, ?_⟩
  simp only [Program.keyLits, ht]
  rw [if_pos ⟨hc.symm, hb⟩, hys]; rfl

theorem keyR_agg {K : Type} {R : Rp K} {n : Nat} (hl : laidOutB P = true) (hrow : t < P.types.size) (hk : P.keyType t = true) (hsz : P.types.size + 2 ≤ 10000) (h2 : 2 ≤ P.types.size)
    (hw : (match P.underlying t with | some (.array _ _) | some (.struct _) => true | _ => false) = true) (hc : P.cellsOf t = n)
    (hlen : ∀ {m cs x}, R m cs x → cs.length = n) (hlit : ∀ {m cs x} (d : Nat), R m cs x → ∃ l, P.keyLits (d + 3) t cs = some l)
    (hinj : ∀ {m m' cs cs' x x'}, R m cs x → R m' cs' x' → (cs = cs' ↔ x = x')) : KeyR P t (aggK R) where
  keyed := Maps.Keyed.of_law (deep_law_laid hl (m := P.types.size + 1) hsz hrow hk hw)
  lit := fun {v k} ⟨m, cs, hv, hr⟩ => by
    obtain ⟨l, h⟩ := hlit (P.types.size - 2) hr
    rw [show P.types.size - 2 + 3 = P.types.size + 1 by omega] at h
    have hf : v.formed P t = true := by
      rw [hv]
      unfold Value.formed
      split at hw <;> simp_all [hlen hr]
    have hcs : v.cells.toList = cs := by rw [hv]; simp [Value.cells]
    refine ⟨.string (keyBytes l), ?_⟩
    unfold keyOf
    split at hw
    · next hu => rw [hu]; simp [hk, hf, hcs, h]
    · next hu => rw [hu]; simp [hk, hf, hcs, h]
    · cases hw
  inj := fun ⟨_, cs, h1, h2⟩ ⟨_, cs', h3, h4⟩ => by
    rw [h1, h3, ← hinj h2 h4]
    constructor
    · intro e; simpa using e
    · intro e; rw [e]
end
section
variable {K V : Type} [BEq K] [LawfulBEq K] {KR : Value → K → Prop} {R : Mem → Value → V → Prop} {P : Program} {kt et : TypeId} {m : Mem} {v : Value} {l : List (K × V)} {Mx : List (Nat × Obj)} {L : List (Nat × Value)} {u : World} {S : Segs} {ty : TypeId}
omit [BEq K] [LawfulBEq K] in
theorem OMap.InR (h : OMap KR R m v l Mx) : X.InR .i64 (l.length : Int) := by
  obtain ⟨_, _, _, _, _, _, h4, _⟩ := h
  rw [inR_i64]; unfold LIM at h4; omega
theorem y_mapLen {t : TypeId} {X : Operand} (i : Nat) (hS : S[i]? = some Mx) (ht : P.underlying t = some (.map kt et)) (h : OMap KR R m v l Mx) (hX : ev L X = some v) :
    Yields P (Ok u m S) L (.call { callee := .builtin .len, args := #[X], argTypes := #[t] }) ty (.int .i64 l.length) := by
  intro ρ w dst pos after g E ok
  obtain ⟨b, es, clock, rfl, rfl, hE, hlim, hd⟩ := h
  have hb : w.heap[b]? = some (.map es.toArray clock) := (ok.own (b, .map es.toArray clock) (mem_segAt (k := i) (by simp [segAt, hS]))).1
  have hget : (getObj b).run P w = .ok (.map es.toArray clock) w := by simp [getObj, Sem.run, hb]
  simp [E hX, Builtin.len_, goInt, run_underlying ht, hget, hE.len, Result.andThen, go_sem]
end
end Go.X
