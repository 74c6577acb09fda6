/- A search in breadth over numbers, and the automaton that it numbers. -/
import Derived.Test.YtdlaobjbjmecnaaAut
namespace Go.X
/-- A loop that counts to n. -/
theorem iter_ind {σ β : Type} {body : σ → Option (σ ⊕ β)} (I : Nat → σ → Prop) (n : Nat) (Q : β → Prop) (hs : ∀ i s, i < n → I i s → ∃ s', body s = some (.inl s') ∧ I (i + 1) s') (hd : ∀ s, I n s → ∃ b, body s = some (.inr b) ∧ Q b) :
    ∀ N s, n < N → I 0 s → ∃ b, iter body N s = some b ∧ Q b := by
  have key : ∀ j k N s, k + j = n → j < N → I k s → ∃ b, iter body N s = some b ∧ Q b := by
    intro j
    induction j with
    | zero =>
      intro k N s hk hN hI
      obtain ⟨N, rfl⟩ : ∃ M, N = M + 1 := ⟨N - 1, by omega⟩
      have : k = n := by omega
      subst this
      obtain ⟨b, h1, h2⟩ := hd s hI
      exact ⟨b, by simp only [iter, h1], h2⟩
    | succ j ih =>
      intro k N s hk hN hI
      obtain ⟨N, rfl⟩ : ∃ M, N = M + 1 := ⟨N - 1, by omega⟩
      obtain ⟨s', h1, h2⟩ := hs k s (by omega) hI
      simp only [iter, h1]
      exact ih (k + 1) N s' (by omega) (by omega) h2
  exact fun N s hN hI => key n 0 N s (by omega) hN hI

/-- A loop whose measure falls. -/
theorem iter_meas {σ β : Type} {body : σ → Option (σ ⊕ β)} (I : σ → Prop) (μ : σ → Nat) (Q : β → Prop) (h : ∀ s, I s → (∃ s', body s = some (.inl s') ∧ I s' ∧ μ s' < μ s) ∨ ∃ b, body s = some (.inr b) ∧ Q b) :
    ∀ N s, μ s < N → I s → ∃ b, iter body N s = some b ∧ Q b := by
  intro N
  induction N with
  | zero => intro s hs; exact absurd hs (Nat.not_lt_zero _)
  | succ N ih =>
    intro s hs hI
    rcases h s hI with ⟨s', h1, h2, h3⟩ | ⟨b, h1, h2⟩
    · simp only [iter, h1]
      exact ih s' (by omega) h2
    · exact ⟨b, by simp only [iter, h1], h2⟩

def ints (F : List Nat) : List Int := F.map fun x : Nat => (x : Int)
theorem ints_len (F : List Nat) : (ints F).length = F.length := by simp [ints]
theorem ints_get {F : List Nat} {i y : Nat} (h : F[i]? = some y) : idx (ints F) (i : Int) = some (y : Int) := by
  rw [idx_nat]; simp [ints, h]
theorem ints_app {F : List Nat} {y : Nat} (h : F.length < 4294967296) : app (ints F) [(y : Int)] = some (ints (F ++ [y])) := by
  unfold app
  rw [if_pos (by rw [ints_len]; unfold LIM; simp; omega)]
  simp [ints]
theorem app_some {α : Type} {xs ys : List α} (h : xs.length + ys.length ≤ 4294967296) : app xs ys = some (xs ++ ys) := by
  unfold app; rw [if_pos (by unfold LIM; exact h)]
theorem mk_some {α : Type} {n : Nat} {z : α} (h : n ≤ 4294967296) : mk (n : Int) z = some (List.replicate n z) := by
  unfold mk; rw [if_pos (by unfold LIM; omega)]; simp
theorem grid_some {n : Nat} (h : n * 11 ≤ 4294967296) : Go.X.grid (n : Int) = some (List.replicate n (List.replicate 11 0)) := by
  unfold Go.X.grid; rw [if_pos (by unfold LIM; omega)]; simp
theorem setI_nat {α : Type} {xs : List α} {i : Nat} {x : α} (h : i < xs.length) : setI xs (i : Int) x = some (xs.set i x) := by
  unfold setI; rw [if_pos ⟨by omega, by simpa using h⟩]; simp
theorem get_set {α : Type} {xs : List α} {i j : Nat} {x : α} (h : i < xs.length) : (xs.set i x)[j]? = if j = i then some x else xs[j]? := by
  by_cases e : j = i
  · subst e; rw [if_pos rfl, List.getElem?_set_self h]
  · rw [if_neg e, List.getElem?_set_ne (fun e' => e e'.symm)]
theorem idx_some {α : Type} {xs : List α} {i : Nat} {x : α} (h : xs[i]? = some x) : idx xs (i : Int) = some x := by rw [idx_nat, h]
theorem get_lt {α : Type} {xs : List α} {i : Nat} {x : α} (h : xs[i]? = some x) : i < xs.length := (List.getElem?_eq_some_iff.1 h).1
end Go.X

namespace Go.Proofs.Ytdlaobjbjmecnaa
open Go.X

section
variable (succ : Nat → Nat → Nat) (key : Nat → Nat) (s0 : Nat) (okS : Nat → Prop)
/-- The found ones, behind a look at y's neighbour c. -/
def fnd (F : List Nat) (y c : Nat) : List Nat := if key (succ y c) ∈ F.map key then F else F ++ [succ y c]
/-- The search has looked at P places. -/
structure Sea (F : List Nat) (P : Nat) : Prop where
  nod : (F.map key).Nodup
  hd : F[0]? = some s0
  ok : ∀ a ∈ F, okS a
  cl : ∀ q, q < P → ∃ y, F[q / 11]? = some y ∧ key (succ y (q % 11)) ∈ F.map key
  nb : ∀ j z, 0 < j → F[j]? = some z → ∃ p y, p < P ∧ p < 11 * j ∧ F[p / 11]? = some y ∧ key (succ y (p % 11)) = key z ∧ ∀ q, q < p → ∃ y, F[q / 11]? = some y ∧ key (succ y (q % 11)) ∈ (F.take j).map key
def num (F : List Nat) (a : Nat) : Nat := (F.map key).idxOf (key a)
variable {succ key s0 okS}

theorem fnd_get {F : List Nat} {y c i x : Nat} (h : F[i]? = some x) : (fnd succ key F y c)[i]? = some x := by
  unfold fnd; split
  · exact h
  · rw [List.getElem?_append_left (get_lt h)]; exact h
theorem fnd_mem {F : List Nat} {y c k : Nat} (h : k ∈ F.map key) : k ∈ (fnd succ key F y c).map key := by
  unfold fnd; split
  · exact h
  · rw [List.map_append]; exact List.mem_append_left _ h
theorem fnd_new (F : List Nat) (y c : Nat) : key (succ y c) ∈ (fnd succ key F y c).map key := by
  unfold fnd; split
  · next h => exact h
  · rw [List.map_append]; exact List.mem_append_right _ (by simp)
theorem fnd_len (F : List Nat) (y c : Nat) : F.length ≤ (fnd succ key F y c).length := by
  unfold fnd; split <;> simp

theorem Sea.start (h : okS s0) : Sea succ key s0 okS [s0] 0 :=
  ⟨by simp, rfl, fun a ha => by simp only [List.mem_singleton] at ha; subst ha; exact h, fun q hq => absurd hq (Nat.not_lt_zero q), fun j z hj hz => by
    have := get_lt hz
    simp at this; omega⟩

theorem Sea.next {F : List Nat} {P y : Nat} (h : Sea succ key s0 okS F P) (hs : ∀ a c, okS a → c < 11 → okS (succ a c)) (hy : F[P / 11]? = some y) : Sea succ key s0 okS (fnd succ key F y (P % 11)) (P + 1) := by
  have hlt := get_lt hy
  have hym : y ∈ F := List.mem_of_getElem? hy
  refine ⟨?_, fnd_get h.hd, ?_, ?_, ?_⟩
  · unfold fnd; split
    · exact h.nod
    · next hn =>
      rw [List.map_append, List.nodup_append]
      refine ⟨h.nod, by simp, fun a ha b hb => ?_⟩
      simp only [List.map_cons, List.map_nil, List.mem_singleton] at hb
      subst hb
      intro e; subst e; exact hn ha
  · intro a ha
    unfold fnd at ha
    split at ha
    · exact h.ok a ha
    · rcases List.mem_append.1 ha with ha | ha
      · exact h.ok a ha
      · simp only [List.mem_singleton] at ha; subst ha
        exact hs y _ (h.ok y hym) (Nat.mod_lt _ (by omega))
  · intro q hq
    by_cases hqP : q = P
    · subst hqP
      exact ⟨y, fnd_get hy, fnd_new F y _⟩
    · obtain ⟨z, h1, h2⟩ := h.cl q (by omega)
      exact ⟨z, fnd_get h1, fnd_mem h2⟩
  · intro j z hj hz
    by_cases hjl : j < F.length
    · have hz' : F[j]? = some z := by
        have e : F[j]? = some F[j] := List.getElem?_eq_getElem hjl
        have := fnd_get (succ := succ) (key := key) (y := y) (c := P % 11) e
        rw [hz] at this
        rw [e, ← this]
      obtain ⟨p, y', h1, h2, h3, h4, h5⟩ := h.nb j z hj hz'
      refine ⟨p, y', by omega, h2, fnd_get h3, h4, fun q hq => ?_⟩
      obtain ⟨y'', h6, h7⟩ := h5 q hq
      refine ⟨y'', fnd_get h6, ?_⟩
      have : (fnd succ key F y (P % 11)).take j = F.take j := by
        unfold fnd; split
        · rfl
        · rw [List.take_append_of_le_length (by omega)]
      rw [this]; exact h7
    · unfold fnd at hz
      split at hz
      · have := get_lt hz; omega
      · next hn =>
        have hjl' : j = F.length := by have := get_lt hz; simp at this; omega
        subst hjl'
        rw [List.getElem?_append_right (Nat.le_refl _)] at hz
        simp at hz
        subst hz
        refine ⟨P, y, by omega, by omega, fnd_get hy, rfl, fun q hq => ?_⟩
        obtain ⟨z, h1, h2⟩ := h.cl q hq
        refine ⟨z, fnd_get h1, ?_⟩
        have : (fnd succ key F y (P % 11)).take F.length = F := by
          unfold fnd; rw [if_neg hn]; simp
        rw [this]; exact h2

theorem Sea.len_le {F : List Nat} {P B : Nat} (h : Sea succ key s0 okS F P) (hB : ∀ a, okS a → key a < B) : F.length ≤ B := by
  have := nodup_le B _ h.nod fun x hx => by
    obtain ⟨a, ha, rfl⟩ := List.mem_map.1 hx
    exact hB a (h.ok a ha)
  simpa using this

theorem num_lt {F : List Nat} {a : Nat} (h : key a ∈ F.map key) : num key F a < F.length := by
  have := List.idxOf_lt_length_of_mem h
  simpa [num] using this
theorem num_get {F : List Nat} {a : Nat} (h : key a ∈ F.map key) : ∃ z, F[num key F a]? = some z ∧ key z = key a := by
  have hl := num_lt h
  refine ⟨F[num key F a], List.getElem?_eq_getElem hl, ?_⟩
  have := List.getElem_idxOf (xs := F.map key) (x := key a) (by simpa [num] using hl)
  rw [List.getElem_map] at this
  exact this
theorem num_of {F : List Nat} (hn : (F.map key).Nodup) {a j z : Nat} (hz : F[j]? = some z) (he : key z = key a) : num key F a = j := by
  have hj := get_lt hz
  have h1 : key a ∈ F.map key := List.mem_map.2 ⟨z, List.mem_of_getElem? hz, he⟩
  obtain ⟨z', h2, h3⟩ := num_get h1
  have h4 := num_lt h1
  have e1 : (F.map key)[num key F a]? = some (key a) := by rw [List.getElem?_map, h2]; simp [h3]
  have e2 : (F.map key)[j]? = some (key a) := by rw [List.getElem?_map, hz]; simp [he]
  exact (List.getElem?_inj (by simpa using h4) hn).1 (e1.trans e2.symm)
theorem num_fnd {F : List Nat} {y c a : Nat} (h : key a ∈ F.map key) : num key (fnd succ key F y c) a = num key F a := by
  unfold fnd; split
  · rfl
  · unfold num
    rw [List.map_append, List.idxOf_append, if_pos h]
theorem num_take {F : List Nat} {a j : Nat} (h : key a ∈ (F.take j).map key) : num key F a < j := by
  have e : F = F.take j ++ F.drop j := (List.take_append_drop j F).symm
  have h1 : num key F a = num key (F.take j) a := by
    unfold num
    conv => lhs; rw [e, List.map_append]
    rw [List.idxOf_append, if_pos h]
  rw [h1]
  have := num_lt h
  have h2 : (F.take j).length ≤ j := List.length_take_le j F
  omega
/-- The number that a look finds: the place in the list, or the list's length for a new one. -/
theorem num_fnd_new {F : List Nat} {y c : Nat} (h : key (succ y c) ∉ F.map key) : num key (fnd succ key F y c) (succ y c) = F.length := by
  unfold fnd num
  rw [if_neg h, List.map_append, List.idxOf_append]
  rw [if_neg h]
  simp

/-- An automaton whose rows are the numbers that the search gave. -/
structure Found (F : List Nat) (R : DFA) : Prop where
  len : R.Next.length = F.length
  acc : R.Accept.length = F.length
  st : R.Start = 0
  rows : ∀ i y : Nat, F[i]? = some y → ∃ row : List Int, R.Next[i]? = some row ∧ row.length = 11 ∧ ∀ c, c < 11 → row[c]? = some (num key F (succ y c) : Int)

theorem Found.wf {F : List Nat} {R : DFA} (f : Found (succ := succ) (key := key) F R) (h : Sea succ key s0 okS F (11 * F.length)) (hl : F.length ≤ 5000000) : WF R := by
  have h0 := get_lt h.hd
  refine ⟨by rw [f.len]; omega, by rw [f.len]; exact hl, by rw [f.acc, f.len], by rw [f.st]; omega, by rw [f.st, f.len]; omega, fun i hi => ?_⟩
  rw [f.len] at hi
  have e : F[i]? = some F[i] := List.getElem?_eq_getElem hi
  obtain ⟨row, h1, h2, h3⟩ := f.rows i _ e
  refine ⟨row, h1, h2, fun c hc => ⟨_, h3 c hc, by omega, ?_⟩⟩
  obtain ⟨y, g1, g2⟩ := h.cl (11 * i + c) (by omega)
  rw [show (11 * i + c) / 11 = i by omega, e] at g1
  cases g1
  rw [show (11 * i + c) % 11 = c by omega] at g2
  have := num_lt g2
  rw [f.len]; omega

theorem Found.stp {F : List Nat} {R : DFA} (f : Found (succ := succ) (key := key) F R) {i y c : Nat} (hy : F[i]? = some y) (hc : c < 11) : Go.Proofs.Ytdlaobjbjmecnaa.stp R i c = num key F (succ y c) := by
  obtain ⟨row, h1, h2, h3⟩ := f.rows i y hy
  simp [Go.Proofs.Ytdlaobjbjmecnaa.stp, h1, h3 c hc]

theorem Found.to {F : List Nat} {R : DFA} (f : Found (succ := succ) (key := key) F R) (h : Sea succ key s0 okS F (11 * F.length)) {i y c : Nat} (hy : F[i]? = some y) (hc : c < 11) : ∃ z, F[Go.Proofs.Ytdlaobjbjmecnaa.stp R i c]? = some z ∧ key z = key (succ y c) := by
  rw [f.stp hy hc]
  have hi := get_lt hy
  obtain ⟨y', g1, g2⟩ := h.cl (11 * i + c) (by omega)
  rw [show (11 * i + c) / 11 = i by omega, hy] at g1
  cases g1
  rw [show (11 * i + c) % 11 = c by omega] at g2
  exact num_get g2

theorem Found.numbered {F : List Nat} {R : DFA} (f : Found (succ := succ) (key := key) F R) (h : Sea succ key s0 okS F (11 * F.length)) : Numbered R := by
  refine ⟨by show R.Start.toNat = 0; rw [f.st]; rfl, fun j hj hl => ?_⟩
  have hl : j < F.length := by rw [← f.len]; exact hl
  obtain ⟨p, y, h1, h2, h3, h4, h5⟩ := h.nb j F[j] hj (List.getElem?_eq_getElem hl)
  refine ⟨p, h2, ?_, fun q hq => ?_⟩
  · unfold pos
    rw [f.stp h3 (by omega)]
    exact num_of h.nod (List.getElem?_eq_getElem hl) h4.symm
  · obtain ⟨y', h6, h7⟩ := h5 q hq
    unfold pos
    rw [f.stp h6 (by omega)]
    exact num_take h7

/-- The states of what was found accept what the found ones accept, if acceptance is alike and neighbours of those with equal keys have equal keys. -/
theorem Found.sim {F : List Nat} {R : DFA} (f : Found (succ := succ) (key := key) F R) (h : Sea succ key s0 okS F (11 * F.length)) {d : DFA} {g : Nat → Nat} (ha : ∀ i y, F[i]? = some y → Acc R i = Acc d (g y))
    (hk : ∀ a b, okS a → okS b → key a = key b → Sim d (g a) d (g b)) (hs : ∀ a c, okS a → c < 11 → okS (succ a c)) (hg : ∀ a c, okS a → c < 11 → g (succ a c) = Go.Proofs.Ytdlaobjbjmecnaa.stp d (g a) c)
    {i y : Nat} (hy : F[i]? = some y) : Sim R i d (g y) := by
  refine sim_of (fun s t => ∃ y, F[s]? = some y ∧ Sim d (g y) d t) (fun s t ⟨y, h1, h2⟩ => ?_) (fun s t ⟨y, h1, h2⟩ c hc => ?_) ⟨y, hy, Sim.refl _ _⟩
  · rw [ha s y h1]; exact h2.acc
  · obtain ⟨z, h3, h4⟩ := f.to h h1 hc
    have hy := h.ok y (List.mem_of_getElem? h1)
    refine ⟨z, h3, (hk z _ (h.ok z (List.mem_of_getElem? h3)) (hs y c hy hc) h4).trans ?_⟩
    rw [hg y c hy hc]
    exact h2.step hc
end
end Go.Proofs.Ytdlaobjbjmecnaa
