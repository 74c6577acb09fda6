/- The pure law of AutomatonShortest: no program in sight. -/
import Derived.Test.YtdlaobjbjmecnaaPure09a
namespace Go.X
theorem mput_fresh {K V : Type} [BEq K] [LawfulBEq K] : ∀ (l : List (K × V)) (k : K) (x : V), k ∉ l.map (·.1) → mput l k x = l ++ [(k, x)]
  | [], _, _, _ => rfl
  | (k', y) :: r, k, x, h => by
    simp only [List.map_cons, List.mem_cons, not_or] at h
    simp only [mput]
    rw [if_neg (by simpa using h.1), mput_fresh r k x h.2]; rfl
theorem mget_isSome {K V : Type} [BEq K] [LawfulBEq K] (l : List (K × V)) (k : K) : (mget l k).isSome = true ↔ k ∈ l.map (·.1) := by
  unfold mget
  simp only [Option.isSome_map, List.find?_isSome, beq_iff_eq, List.mem_map]
  constructor
  · rintro ⟨p, h, e⟩; exact ⟨p, h, e.symm⟩
  · rintro ⟨p, h, e⟩; exact ⟨p, h, e.symm⟩
theorem mget_of {K V : Type} [BEq K] [LawfulBEq K] : ∀ (l : List (K × V)) {k : K} {x : V}, (l.map (·.1)).Nodup → (k, x) ∈ l → mget l k = some x
  | [], _, _, _, h => by cases h
  | (k', y) :: r, k, x, hn, h => by
    simp only [List.map_cons, List.nodup_cons] at hn
    unfold mget
    by_cases e : k = k'
    · subst e
      rcases List.mem_cons.1 h with h | h
      · cases h; simp
      · exact absurd (List.mem_map_of_mem (f := (·.1)) h) hn.1
    · rcases List.mem_cons.1 h with h | h
      · cases h; exact absurd rfl e
      · have := mget_of r hn.2 h
        unfold mget at this
        rw [List.find?_cons_of_neg (by simpa using e)]
        exact this
theorem nodup_le : ∀ (n : Nat) (l : List Nat), l.Nodup → (∀ x ∈ l, x < n) → l.length ≤ n
  | 0, l, _, h => by
    cases l with
    | nil => exact Nat.le_refl _
    | cons a r => exact absurd (h a (List.mem_cons_self ..)) (Nat.not_lt_zero a)
  | n + 1, l, hn, h => by
    by_cases hm : n ∈ l
    · have h1 := nodup_le n (l.erase n) (hn.erase n) fun x hx => by
        have := (hn.mem_erase_iff).1 hx
        have := h x this.2
        omega
      rw [List.length_erase_of_mem hm] at h1
      omega
    · have h1 := nodup_le n l hn fun x hx => by
        have := h x hx
        have : x ≠ n := fun e => hm (e ▸ hx)
        omega
      omega
theorem iter_from {σ β : Type} {body : σ → Option (σ ⊕ β)} (f : Nat → σ) (n : Nat) (s : σ) (b : β) (h0 : f 0 = s) (hs : ∀ i, i < n → body (f i) = some (.inl (f (i + 1)))) (hd : body (f n) = some (.inr b))
    (N : Nat) (hN : n < N) : iter body N s = some b := h0 ▸ iter_steps f n hs hd N hN
end Go.X
namespace Go.Proofs.Ytdlaobjbjmecnaa
open Go.X

/-! ### characters, words as numbers -/
def chr (c : Nat) : UInt8 := if c = 10 then 46 else UInt8.ofNat (48 + c)
theorem aChar (N : Nat) : ∀ c : Nat, c < 11 → ∃ r, automaton_character N (c : Int) = some r ∧ runeStr r = [chr c]
  | 0, _ => ⟨48, by kernel_rfl, by kernel_rfl⟩
  | 1, _ => ⟨49, by kernel_rfl, by kernel_rfl⟩
  | 2, _ => ⟨50, by kernel_rfl, by kernel_rfl⟩
  | 3, _ => ⟨51, by kernel_rfl, by kernel_rfl⟩
  | 4, _ => ⟨52, by kernel_rfl, by kernel_rfl⟩
  | 5, _ => ⟨53, by kernel_rfl, by kernel_rfl⟩
  | 6, _ => ⟨54, by kernel_rfl, by kernel_rfl⟩
  | 7, _ => ⟨55, by kernel_rfl, by kernel_rfl⟩
  | 8, _ => ⟨56, by kernel_rfl, by kernel_rfl⟩
  | 9, _ => ⟨57, by kernel_rfl, by kernel_rfl⟩
  | 10, _ => ⟨46, by kernel_rfl, by kernel_rfl⟩
  | n + 11, h => by omega
theorem rChar (N : Nat) : ∀ c : Nat, c < 11 → calqueref09_Character N (c : Int) = some [chr c]
  | 0, _ => by kernel_rfl
  | 1, _ => by kernel_rfl
  | 2, _ => by kernel_rfl
  | 3, _ => by kernel_rfl
  | 4, _ => by kernel_rfl
  | 5, _ => by kernel_rfl
  | 6, _ => by kernel_rfl
  | 7, _ => by kernel_rfl
  | 8, _ => by kernel_rfl
  | 9, _ => by kernel_rfl
  | 10, _ => by kernel_rfl
  | n + 11, h => by omega
theorem sym_chr : ∀ c : Nat, c < 11 → sym (chr c) = some c
  | 0, _ => by kernel_rfl
  | 1, _ => by kernel_rfl
  | 2, _ => by kernel_rfl
  | 3, _ => by kernel_rfl
  | 4, _ => by kernel_rfl
  | 5, _ => by kernel_rfl
  | 6, _ => by kernel_rfl
  | 7, _ => by kernel_rfl
  | 8, _ => by kernel_rfl
  | 9, _ => by kernel_rfl
  | 10, _ => by kernel_rfl
  | n + 11, h => by omega

def vstep (a : Nat) (b : UInt8) : Nat := a * 11 + (sym b).getD 0 + 1
def val (w : List UInt8) : Nat := w.foldl vstep 0
theorem val_snoc (w : List UInt8) (b : UInt8) : val (w ++ [b]) = val w * 11 + (sym b).getD 0 + 1 := by
  unfold val; rw [List.foldl_append]; rfl
theorem val_chr (w : List UInt8) {c : Nat} (h : c < 11) : val (w ++ [chr c]) = val w * 11 + c + 1 := by
  rw [val_snoc, sym_chr c h]; rfl
theorem sym_le (b : UInt8) : (sym b).getD 0 ≤ 10 := by
  cases h : sym b with
  | none => simp
  | some k => have := sym_lt h; simp; omega

theorem go_append (d : DFA) : ∀ (u : List UInt8) (s : Nat) (v : List UInt8), go d s (u ++ v) = (go d s u).bind fun t => go d t v
  | [], s, v => rfl
  | c :: u, s, v => by
    simp only [List.cons_append, go]
    cases sym c with
    | none => rfl
    | some k => exact go_append d u _ v
theorem go_snoc (d : DFA) (s : Nat) (u : List UInt8) (b : UInt8) : go d s (u ++ [b]) = (go d s u).bind fun t => (sym b).map fun k => stp d t k := by
  rw [go_append]
  congr 1; funext t
  simp only [go]
  cases sym b <;> rfl

/-! ### the search -/
abbrev Fo := List (Nat × List UInt8)
def addOne (d : DFA) (y : Nat × List UInt8) (F : Fo) (c : Nat) : Fo := if stp d y.1 c ∈ F.map (·.1) then F else F ++ [(stp d y.1 c, y.2 ++ [chr c])]
def addTo (d : DFA) (y : Nat × List UInt8) (F : Fo) : Nat → Fo
  | 0 => F
  | c + 1 => addOne d y (addTo d y F c) c
def G (d : DFA) : Nat → Fo
  | 0 => [(d.Start.toNat, [])]
  | i + 1 => match (G d i)[i]? with
    | none => G d i
    | some y => addTo d y (G d i) 11

structure Base (d : DFA) (F : Fo) : Prop where
  hd : F[0]? = some (d.Start.toNat, [])
  nod : (F.map (·.1)).Nodup
  lt : ∀ x ∈ F, x.1 < d.Next.length
  run : ∀ x ∈ F, go d d.Start.toNat x.2 = some x.1
  srt : F.Pairwise (fun x y => val x.2 < val y.2)
  len : ∀ x ∈ F, x.2.length < F.length

structure Mid (d : DFA) (i : Nat) (y : Nat × List UInt8) (c : Nat) (F : Fo) : Prop extends Base d F where
  yi : F[i]? = some y
  top : ∀ x ∈ F, val x.2 < 11 * val y.2 + c + 1
  cl : ∀ j z, j < i → F[j]? = some z → ∀ e, e < 11 → ∃ x ∈ F, x.1 = stp d z.1 e ∧ val x.2 ≤ 11 * val z.2 + e + 1
  cl' : ∀ e, e < c → ∃ x ∈ F, x.1 = stp d y.1 e ∧ val x.2 ≤ 11 * val y.2 + e + 1

structure Inv (d : DFA) (i : Nat) (F : Fo) : Prop extends Base d F where
  up : ∀ j y, i ≤ j → F[j]? = some y → ∀ x ∈ F, val x.2 < 11 * val y.2 + 1
  cl : ∀ j z, j < i → F[j]? = some z → ∀ e, e < 11 → ∃ x ∈ F, x.1 = stp d z.1 e ∧ val x.2 ≤ 11 * val z.2 + e + 1

theorem Base.add {d : DFA} (v : ValidP d) {F : Fo} (h : Base d F) {y : Nat × List UInt8} (hy : y ∈ F) {c : Nat} (hc : c < 11) (top : ∀ x ∈ F, val x.2 < 11 * val y.2 + c + 1) : Base d (addOne d y F c) := by
  unfold addOne
  split
  · exact h
  · next hn =>
    have hl : 0 < F.length := List.length_pos_of_mem hy
    refine ⟨?_, ?_, ?_, ?_, ?_, ?_⟩
    · rw [List.getElem?_append_left hl]; exact h.hd
    · rw [List.map_append, List.nodup_append]
      refine ⟨h.nod, by simp, ?_⟩
      intro a ha b hb
      simp only [List.map_cons, List.map_nil, List.mem_singleton] at hb
      subst hb
      intro e; subst e; exact hn ha
    · intro x hx
      rcases List.mem_append.1 hx with hx | hx
      · exact h.lt x hx
      · simp only [List.mem_singleton] at hx; subst hx
        obtain ⟨_, _, _, h3⟩ := v.step (h.lt y hy) hc
        exact h3
    · intro x hx
      rcases List.mem_append.1 hx with hx | hx
      · exact h.run x hx
      · simp only [List.mem_singleton] at hx; subst hx
        simp only []
        rw [go_snoc, h.run y hy, sym_chr c hc]; rfl
    · rw [List.pairwise_append]
      refine ⟨h.srt, by simp, ?_⟩
      intro a ha b hb
      simp only [List.mem_singleton] at hb; subst hb
      have := top a ha
      simp only []
      rw [val_chr _ hc]; omega
    · intro x hx
      rw [List.length_append]
      rcases List.mem_append.1 hx with hx | hx
      · have := h.len x hx; simp; omega
      · simp only [List.mem_singleton] at hx; subst hx
        have := h.len y hy
        simp; omega

theorem addOne_mem {d : DFA} {y : Nat × List UInt8} {F : Fo} {c : Nat} {x : Nat × List UInt8} (h : x ∈ F) : x ∈ addOne d y F c := by
  unfold addOne; split
  · exact h
  · exact List.mem_append_left _ h
theorem addOne_get {d : DFA} {y : Nat × List UInt8} {F : Fo} {c i : Nat} {x : Nat × List UInt8} (h : F[i]? = some x) : (addOne d y F c)[i]? = some x := by
  unfold addOne; split
  · exact h
  · rw [List.getElem?_append_left (List.getElem?_eq_some_iff.1 h).1]; exact h
theorem addOne_lt {d : DFA} {y : Nat × List UInt8} {F : Fo} {c i : Nat} (h : i < F.length) : (addOne d y F c)[i]? = F[i]? := by
  rw [List.getElem?_eq_getElem h]; exact addOne_get (List.getElem?_eq_getElem h)

theorem Mid.next {d : DFA} (v : ValidP d) {i c : Nat} {y : Nat × List UInt8} {F : Fo} (h : Mid d i y c F) (hc : c < 11) : Mid d i y (c + 1) (addOne d y F c) := by
  have hy : y ∈ F := List.mem_of_getElem? h.yi
  have hil : i < F.length := (List.getElem?_eq_some_iff.1 h.yi).1
  refine { toBase := h.toBase.add v hy hc h.top, yi := addOne_get h.yi, top := ?_, cl := ?_, cl' := ?_ }
  · intro x hx
    unfold addOne at hx
    split at hx
    · have := h.top x hx; omega
    · rcases List.mem_append.1 hx with hx | hx
      · have := h.top x hx; omega
      · simp only [List.mem_singleton] at hx; subst hx
        simp only []
        rw [val_chr _ hc]; omega
  · intro j z hj hz e he
    rw [addOne_lt (by omega)] at hz
    obtain ⟨x, h1, h2⟩ := h.cl j z hj hz e he
    exact ⟨x, addOne_mem h1, h2⟩
  · intro e he
    by_cases hec : e = c
    · subst hec
      by_cases hm : stp d y.1 e ∈ F.map (·.1)
      · obtain ⟨x, h1, h2⟩ := List.mem_map.1 hm
        refine ⟨x, addOne_mem h1, h2, ?_⟩
        have := h.top x h1; omega
      · refine ⟨(stp d y.1 e, y.2 ++ [chr e]), ?_, rfl, ?_⟩
        · unfold addOne; rw [if_neg hm]; simp
        · simp only []
          rw [val_chr _ hc]; omega
    · obtain ⟨x, h1, h2⟩ := h.cl' e (by omega)
      exact ⟨x, addOne_mem h1, h2⟩

theorem Mid.all {d : DFA} (v : ValidP d) {i : Nat} {y : Nat × List UInt8} {F : Fo} (h : Mid d i y 0 F) : ∀ c, c ≤ 11 → Mid d i y c (addTo d y F c)
  | 0, _ => h
  | c + 1, hc => (Mid.all v h c (by omega)).next v (by omega)

theorem Inv.mid {d : DFA} {i : Nat} {y : Nat × List UInt8} {F : Fo} (h : Inv d i F) (hy : F[i]? = some y) : Mid d i y 0 F :=
  { toBase := h.toBase, yi := hy, top := fun x hx => by have := h.up i y (Nat.le_refl _) hy x hx; omega, cl := h.cl, cl' := fun e he => by omega }

theorem Mid.inv {d : DFA} {i : Nat} {y : Nat × List UInt8} {F : Fo} (h : Mid d i y 11 F) : Inv d (i + 1) F := by
  refine { toBase := h.toBase, up := ?_, cl := ?_ }
  · intro j z hj hz x hx
    obtain ⟨hi, hi'⟩ := List.getElem?_eq_some_iff.1 h.yi
    obtain ⟨hj1, hj2⟩ := List.getElem?_eq_some_iff.1 hz
    have := List.pairwise_iff_getElem.1 h.srt i j hi hj1 (by omega)
    rw [hi', hj2] at this
    have := h.top x hx
    omega
  · intro j z hj hz e he
    by_cases hji : j = i
    · subst hji
      have : z = y := by have := h.yi; rw [hz] at this; exact Option.some.inj this
      subst this
      exact h.cl' e he
    · exact h.cl j z (by omega) hz e he

theorem inv_start {d : DFA} (v : ValidP d) : Inv d 0 [(d.Start.toNat, [])] := by
  refine { hd := rfl, nod := by simp, lt := ?_, run := ?_, srt := by simp, len := ?_, up := ?_, cl := ?_ }
  · intro x hx
    simp only [List.mem_singleton] at hx; subst hx
    have := v.hi; have := v.lo
    simp only []; omega
  · intro x hx
    simp only [List.mem_singleton] at hx; subst hx; rfl
  · intro x hx
    simp only [List.mem_singleton] at hx; subst hx; simp
  · intro j y _ hy x hx
    simp only [List.mem_singleton] at hx; subst hx
    show 0 < _
    omega
  · intro j z hj; omega

theorem inv_G {d : DFA} (v : ValidP d) : ∀ i, i ≤ (G d i).length → Inv d i (G d i)
  | 0, _ => inv_start v
  | i + 1, h => by
    simp only [G] at h ⊢
    cases hy : (G d i)[i]? with
    | none =>
      rw [hy] at h
      have := List.getElem?_eq_none_iff.1 hy
      simp only [] at h; omega
    | some y =>
      simp only []
      have hlt := (List.getElem?_eq_some_iff.1 hy).1
      exact ((Mid.all v ((inv_G v i (by omega)).mid hy) 11 (Nat.le_refl _))).inv

theorem Base.length_le {d : DFA} {F : Fo} (h : Base d F) : F.length ≤ d.Next.length := by
  have := nodup_le d.Next.length _ h.nod fun x hx => by
    obtain ⟨p, hp, rfl⟩ := List.mem_map.1 hx
    exact h.lt p hp
  simpa using this

/-- What the search knows: every word leads to a state that was looked at, or is not in front of a word that was not yet looked at. -/
theorem Inv.know {d : DFA} {i : Nat} {F : Fo} (h : Inv d i F) {w : List UInt8} {s : Nat} (hs : go d d.Start.toNat w = some s) :
    (∃ j x, j < i ∧ F[j]? = some x ∧ x.1 = s ∧ val x.2 ≤ val w) ∨ (∃ j x, i ≤ j ∧ F[j]? = some x ∧ val x.2 ≤ val w) := by
  have key : ∀ (n : Nat) (w : List UInt8), w.length = n → ∀ s, go d d.Start.toNat w = some s →
      (∃ j x, j < i ∧ F[j]? = some x ∧ x.1 = s ∧ val x.2 ≤ val w) ∨ (∃ j x, i ≤ j ∧ F[j]? = some x ∧ val x.2 ≤ val w) := by
    intro n
    induction n with
    | zero =>
      intro w hw s hs
      have := List.eq_nil_of_length_eq_zero hw
      subst this
      simp only [go] at hs
      cases hs
      by_cases h0 : 0 < i
      · exact .inl ⟨0, _, h0, h.hd, rfl, Nat.le_refl _⟩
      · exact .inr ⟨0, _, by omega, h.hd, Nat.le_refl _⟩
    | succ n ih =>
      intro w hw s hs
      have hne : w ≠ [] := by intro e; subst e; simp at hw
      obtain ⟨u, b, rfl⟩ : ∃ u b, w = u ++ [b] := ⟨w.dropLast, w.getLast hne, (List.dropLast_concat_getLast hne).symm⟩
      rw [go_snoc] at hs
      cases hu : go d d.Start.toNat u with
      | none => rw [hu] at hs; cases hs
      | some t =>
        rw [hu] at hs
        simp only [Option.bind_some] at hs
        cases hb : sym b with
        | none => rw [hb] at hs; cases hs
        | some k =>
          rw [hb] at hs
          cases hs
          have hk := sym_lt hb
          have hv : val (u ++ [b]) = val u * 11 + k + 1 := by rw [val_snoc, hb]; rfl
          rw [hv]
          rcases ih u (by simpa using hw) t hu with ⟨j, x, h1, h2, h3, h4⟩ | ⟨j, x, h1, h2, h3⟩
          · obtain ⟨y, g1, g2, g3⟩ := h.cl j x h1 h2 k hk
            obtain ⟨m, hm⟩ := List.getElem?_of_mem g1
            by_cases hmi : m < i
            · refine .inl ⟨m, y, hmi, hm, ?_, by omega⟩
              rw [g2, h3]
            · exact .inr ⟨m, y, by omega, hm, by omega⟩
          · exact .inr ⟨j, x, h1, h2, by omega⟩
  exact key _ w rfl s hs

/-- The search goes on at step i. -/
def goesOn (d : DFA) (i : Nat) : Prop := ∃ x, (G d i)[i]? = some x ∧ d.Accept[x.1]? = some false

theorem stops {d : DFA} (v : ValidP d) : ∃ k, k ≤ d.Next.length ∧ ¬ goesOn d k ∧ (∀ i, i < k → goesOn d i) ∧ Inv d k (G d k) := by
  have hle : ∀ i, (∀ j, j < i → goesOn d j) → i ≤ (G d i).length := by
    intro i
    induction i with
    | zero => intro _; omega
    | succ i ih =>
      intro h
      obtain ⟨x, hx, _⟩ := h i (Nat.lt_succ_self i)
      have hI := inv_G v i (ih fun j hj => h j (by omega))
      have hm := Mid.all v (hI.mid hx) 11 (Nat.le_refl _)
      simp only [G, hx]
      exact (List.getElem?_eq_some_iff.1 hm.yi).1
  have hno : ¬ ∀ i, i < d.Next.length + 1 → goesOn d i := by
    intro h
    have h1 := hle d.Next.length fun j hj => h j (by omega)
    have h2 := inv_G v _ h1
    have h3 := h2.length_le
    obtain ⟨x, hx, _⟩ := h d.Next.length (by omega)
    have := (List.getElem?_eq_some_iff.1 hx).1
    omega
  obtain ⟨k, h1, h2, h3⟩ := first_not hno
  exact ⟨k, by omega, h2, h3, inv_G v k (hle k h3)⟩

/-- What both answer. -/
def shortest (d : DFA) (k : Nat) : List UInt8 × Bool × Int := match (G d k)[k]? with
  | none => ([], false, 0)
  | some x => (x.2, true, 0)

/-! ### the reference's search -/
def fI (F : Fo) : List Int := F.map fun x => (x.1 : Int)
def fW (F : Fo) : List (List UInt8) := F.map (·.2)

theorem rIndex (N : Nat) (l : List Int) (n : Int) (hN : l.length < N) : ∃ r, calqueref09_index N l n = some r ∧ (r < 0 ↔ n ∉ l) := by
  have hnot : ∀ i (hi : i < l.length), l[i] = n → n ∈ l := fun i hi e => e ▸ List.getElem_mem hi
  unfold calqueref09_index
  by_cases h : ∀ i, i < l.length → l[i]? ≠ some n
  · have hm : n ∉ l := fun hm => by
      obtain ⟨i, hi⟩ := List.getElem?_of_mem hm
      exact h i (List.getElem?_eq_some_iff.1 hi).1 hi
    rw [iter_from (fun i => (i : Int)) l.length 0 (.inl ()) rfl ?_ ?_ N hN]
    · exact ⟨-1, rfl, by simp [hm]⟩
    · intro i hi
      simp only [calqueref09_index_b1]
      rw [cond_pos (by omega), idx_lt l hi]
      simp only [Option.bind_some]
      rw [cond_beq, if_neg (fun e => h i hi (by rw [List.getElem?_eq_getElem hi, e]))]
      rfl
    · simp only [calqueref09_index_b1]
      rw [cond_neg (by omega)]
  · obtain ⟨k, h1, h2, h3⟩ := first_not h
    have h2 : l[k]? = some n := by simpa using h2
    rw [iter_from (fun i => (i : Int)) k 0 (.inr (k : Int)) rfl ?_ ?_ N (by omega)]
    · refine ⟨(k : Int), rfl, ?_⟩
      have : n ∈ l := List.mem_of_getElem? h2
      constructor
      · intro h; omega
      · intro h; exact absurd this h
    · intro i hi
      simp only [calqueref09_index_b1]
      rw [cond_pos (by omega), idx_lt l (show i < l.length by omega)]
      simp only [Option.bind_some]
      rw [cond_beq, if_neg (fun e => h3 i hi (by rw [List.getElem?_eq_getElem (show i < l.length by omega), e]))]
      rfl
    · simp only [calqueref09_index_b1]
      rw [cond_pos (by omega), idx_nat, h2]
      simp only [Option.bind_some, beq_self_eq_true, cond_true]

theorem mem_fI (F : Fo) (n : Nat) : (n : Int) ∈ fI F ↔ n ∈ F.map (·.1) := by
  unfold fI
  simp only [List.mem_map]
  constructor
  · rintro ⟨x, h, e⟩; exact ⟨x, h, by omega⟩
  · rintro ⟨x, h, e⟩; exact ⟨x, h, by omega⟩

theorem rShort_in {d : DFA} (v : ValidP d) (N i : Nat) (hN : d.Next.length < N) {y : Nat × List UInt8} {F : Fo} (hI : Mid d i y 0 F) (hN' : 12 ≤ N) :
    iter (fun s => calqueref09_Shortest_b2 N d (i : Int) s.1 s.2.1 s.2.2) N (fI F, fW F, 0) = some (fI (addTo d y F 11), fW (addTo d y F 11)) := by
  refine iter_steps (fun c => (fI (addTo d y F c), fW (addTo d y F c), (c : Int))) 11 ?_ ?_ N (by omega)
  · intro c hc
    have hM := Mid.all v hI c (by omega)
    have hy : y ∈ addTo d y F c := List.mem_of_getElem? hM.yi
    have hlen := hM.length_le
    have hmost := v.most
    simp only [calqueref09_Shortest_b2]
    rw [cond_pos (by omega)]
    have e1 : (fI (addTo d y F c))[i]? = some (y.1 : Int) := by unfold fI; rw [List.getElem?_map, hM.yi]; rfl
    have e1' : (fW (addTo d y F c))[i]? = some y.2 := by unfold fW; rw [List.getElem?_map, hM.yi]; rfl
    rw [idx_nat, e1]
    simp only [Option.bind_some]
    obtain ⟨row, h1, h2, h3⟩ := v.step (hM.lt y hy) hc
    rw [idx_nat, h1]
    simp only [Option.bind_some]
    rw [idx_nat, h2]
    simp only [Option.bind_some]
    obtain ⟨r, hr, hr'⟩ := rIndex N (fI (addTo d y F c)) (stp d y.1 c : Int) (by unfold fI; rw [List.length_map]; omega)
    rw [hr]
    simp only [Option.bind_some]
    by_cases hm : stp d y.1 c ∈ (addTo d y F c).map (·.1)
    · rw [cond_neg (fun h => hr'.1 h ((mem_fI _ _).2 hm))]
      simp only [addTo]
      rw [addOne, if_pos hm]; rfl
    · rw [cond_pos (hr'.2 (fun h => hm ((mem_fI _ _).1 h)))]
      have ha : app (fI (addTo d y F c)) [(stp d y.1 c : Int)] = some (fI (addTo d y F (c + 1))) := by
        unfold app
        rw [if_pos (by unfold fI LIM; simp; omega)]
        simp only [addTo]
        rw [addOne, if_neg hm]; simp [fI]
      rw [ha]
      simp only [Option.bind_some]
      rw [idx_nat, e1']
      simp only [Option.bind_some]
      rw [rChar N c hc]
      simp only [Option.bind_some]
      have hyl := hM.len y hy
      rw [cat, if_pos (by unfold LIMS; simp; omega)]
      simp only [Option.bind_some]
      have hb : app (fW (addTo d y F c)) [y.2 ++ [chr c]] = some (fW (addTo d y F (c + 1))) := by
        unfold app
        rw [if_pos (by unfold fW LIM; simp; omega)]
        simp only [addTo]
        rw [addOne, if_neg hm]; simp [fW]
      rw [hb]
      rfl
  · simp only [calqueref09_Shortest_b2]
    rw [cond_neg (by omega)]

open Classical in
theorem rShort {d : DFA} (v : ValidP d) (N k : Nat) (hN : d.Next.length + 1 < N) (hN' : 12 ≤ N) (hk : k ≤ d.Next.length) (h1 : ¬ goesOn d k) (h2 : ∀ i, i < k → goesOn d i) (h3 : ∀ i, i ≤ k → Inv d i (G d i)) :
    calqueref09_Shortest N d = some (shortest d k) := by
  have hst : d.Start = (d.Start.toNat : Int) := (Int.toNat_of_nonneg v.lo).symm
  unfold calqueref09_Shortest
  rw [rValid N d hN' (by omega), decide_eq_true v]
  simp only [Option.bind_some, Bool.not_true, cond_false]
  have hb : iter (fun s => calqueref09_Shortest_b1 N d s.1 s.2.1 s.2.2) N ([d.Start], [[]], 0) = some (match (G d k)[k]? with | none => .inl () | some x => .inr (x.2, true, 0)) := by
    have := iter_steps (body := fun s : List Int × List (List UInt8) × Int => calqueref09_Shortest_b1 N d s.1 s.2.1 s.2.2) (fun i => (fI (G d i), fW (G d i), (i : Int))) k (b := match (G d k)[k]? with | none => .inl () | some x => .inr (x.2, true, 0)) ?_ ?_ N (by omega)
    · simp only [G, fI, fW, List.map_cons, List.map_nil] at this
      rw [hst]
      exact this
    · intro i hi
      obtain ⟨x, hx, hacc⟩ := h2 i hi
      have hI := h3 i (by omega)
      have hxl := (List.getElem?_eq_some_iff.1 hx).1
      simp only [calqueref09_Shortest_b1]
      rw [cond_pos (by unfold fI; rw [List.length_map]; omega), idx_nat, show (fI (G d i))[i]? = some (x.1 : Int) by unfold fI; rw [List.getElem?_map, hx]; rfl]
      simp only [Option.bind_some]
      rw [idx_nat, hacc]
      simp only [Option.bind_some, cond_false]
      rw [rShort_in v N i (by omega) (hI.mid hx) hN']
      simp only [Option.bind_some, G, hx]
      rfl
    · have hI := h3 k (Nat.le_refl _)
      simp only [calqueref09_Shortest_b1]
      cases hx : (G d k)[k]? with
      | none =>
        have := List.getElem?_eq_none_iff.1 hx
        rw [cond_neg (by unfold fI; rw [List.length_map]; omega)]
      | some x =>
        have hxl := (List.getElem?_eq_some_iff.1 hx).1
        rw [cond_pos (by unfold fI; rw [List.length_map]; omega), idx_nat, show (fI (G d k))[k]? = some (x.1 : Int) by unfold fI; rw [List.getElem?_map, hx]; rfl]
        simp only [Option.bind_some]
        have hlt : x.1 < d.Accept.length := by rw [v.acc]; exact hI.lt x (List.mem_of_getElem? hx)
        have : d.Accept[x.1] = true := by
          cases e : d.Accept[x.1] with
          | true => rfl
          | false => exact absurd ⟨x, hx, by rw [List.getElem?_eq_getElem hlt, e]⟩ h1
        rw [idx_lt _ hlt, this]
        simp only [Option.bind_some, cond_true]
        rw [idx_nat, show (fW (G d k))[k]? = some x.2 by unfold fW; rw [List.getElem?_map, hx]; rfl]
        rfl
  rw [hb]
  simp only [Option.bind_some, shortest]
  cases (G d k)[k]? <;> rfl

end Go.Proofs.Ytdlaobjbjmecnaa
