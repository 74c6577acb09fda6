/- Chapter 44: sizes; the copies of scripts are the scripts. -/
import Derived.Test.YtmmioinglmeoiaaExt44c
import Derived.Test.YtmmioinglmeoiaaLibN
set_option linter.unusedVariables false
namespace Go.Proofs.Ytmmioinglmeoiaa
open Go.X

/-! ### loops -/
theorem iter_ind {σ β : Type} {body : σ → Option (σ ⊕ β)} (I : Nat → σ → Prop) (n : Nat) (Q : β → Prop) (hs : ∀ i s, i < n → I i s → ∃ s', body s = some (.inl s') ∧ I (i + 1) s') (hd : ∀ s, I n s → ∃ b, body s = some (.inr b) ∧ Q b) :
    ∀ N s, n < N → I 0 s → ∃ b, iter body N s = some b ∧ Q b := by
  have key : ∀ j k N s, k + j = n → j < N → I k s → ∃ b, iter body N s = some b ∧ Q b := by
    intro j
    induction j with
    | zero =>
      intro k N s hk hN hI
      obtain ⟨N, rfl⟩ : ∃ M, N = M + 1 := ⟨N - 1, by omega⟩
      have : k = n := by omega
      subst this
      obtain ⟨b, h1, h2⟩ := hd s hI
      exact ⟨b, by simp only [iter, h1], h2⟩
    | succ j ih =>
      intro k N s hk hN hI
      obtain ⟨N, rfl⟩ : ∃ M, N = M + 1 := ⟨N - 1, by omega⟩
      obtain ⟨s', h1, h2⟩ := hs k s (by omega) hI
      simp only [iter, h1]
      exact ih (k + 1) N s' (by omega) (by omega) h2
  exact fun N s hN hI => key n 0 N s (by omega) hN hI
theorem iter_meas {σ β : Type} {body : σ → Option (σ ⊕ β)} (I : σ → Prop) (μ : σ → Nat) (Q : β → Prop) (h : ∀ s, I s → (∃ s', body s = some (.inl s') ∧ I s' ∧ μ s' < μ s) ∨ ∃ b, body s = some (.inr b) ∧ Q b) :
    ∀ N s, μ s < N → I s → ∃ b, iter body N s = some b ∧ Q b := by
  intro N
  induction N with
  | zero => intro s hs; exact absurd hs (Nat.not_lt_zero _)
  | succ N ih =>
    intro s hs hI
    rcases h s hI with ⟨s', h1, h2, h3⟩ | ⟨b, h1, h2⟩
    · simp only [iter, h1]
      exact ih s' (by omega) h2
    · exact ⟨b, by simp only [iter, h1], h2⟩
/-- A loop that counts along a list and whose state is told by the place. -/
theorem iter_at {σ β : Type} {body : σ → Option (σ ⊕ β)} (f : Nat → σ) (n : Nat) (b : β) {s0 : σ} (h0 : f 0 = s0) (hs : ∀ i, i < n → body (f i) = some (.inl (f (i + 1)))) (hd : body (f n) = some (.inr b)) (N : Nat) (hN : n < N) : iter body N s0 = some b := by
  subst h0
  obtain ⟨b', h1, rfl⟩ := iter_ind (fun i s => s = f i) n (fun b' => b' = b) (fun i s hi h => by subst h; exact ⟨_, hs i hi, rfl⟩) (fun s h => by subst h; exact ⟨_, hd, rfl⟩) N (f 0) hN rfl
  exact h1

theorem iter_atB {σ β γ : Type} {body : σ → Option (σ ⊕ β)} {g : β → Option γ} (f : Nat → σ) (n : Nat) (b : β) {s0 : σ} (h0 : f 0 = s0) {N : Nat} (hN : n < N) (hs : ∀ i, i < n → body (f i) = some (.inl (f (i + 1)))) (hd : body (f n) = some (.inr b)) : (iter body N s0).bind g = g b := by
  rw [iter_at f n b h0 hs hd N hN]; rfl
theorem ix {α : Type} (l : List α) (k : Nat) : idx l (k : Int) = l[k]? := by unfold idx; rw [if_pos (by omega)]; simp
theorem ixg {α : Type} {l : List α} {k : Nat} {x : α} (h : l[k]? = some x) : idx l (k : Int) = some x := by rw [ix, h]
theorem at_lt {α : Type} {l : List α} {k : Nat} (h : k < l.length) : ∃ x, l[k]? = some x := ⟨_, List.getElem?_eq_getElem h⟩
theorem dk {k n : Nat} (h : k < n) : decide ((k : Int) < (n : Int)) = true := decide_eq_true (by omega)
theorem dn (n : Nat) : decide ((n : Int) < (n : Int)) = false := decide_eq_false (by omega)
theorem take1 {α : Type} {l : List α} {k : Nat} {x : α} (h : l[k]? = some x) : l.take k ++ [x] = l.take (k + 1) := by rw [List.take_add_one, h]; rfl
theorem app1 {α : Type} {xs ys : List α} (h : xs.length + ys.length ≤ 4294967296) : app xs ys = some (xs ++ ys) := by unfold app; rw [if_pos (by unfold LIM; exact h)]
theorem appw1 {α : Type} {B : Nat} {xs ys : List α} (h : (xs.length + ys.length) * B ≤ 140737488355328) (hB : 0 < B) : appw B xs ys = some (xs ++ ys) := by
  unfold appw
  refine if_pos ⟨h, Nat.le_trans (Nat.le_mul_of_pos_right _ hB) h⟩

/-! ### what the statement says of its arguments -/
def ItOk (x : Item) : Prop := x.Text.length ≤ reachBytes ∧ (x.Ranges.length * 2 ≤ reachBytes ∧ ∀ y ∈ x.Ranges, InR .u8 y.From ∧ InR .u8 y.To) ∧ InR .i64 x.Least ∧ InR .i64 x.Most
def RlOk (r : Rule) : Prop := r.Kind.length ≤ reachBytes ∧ (r.Items.length * 64 ≤ reachBytes ∧ ∀ y ∈ r.Items, ItOk y) ∧ r.Next.length ≤ reachBytes
def StOk (x : State) : Prop := x.Name.length ≤ reachBytes ∧ (x.Rules.length * 56 ≤ reachBytes ∧ ∀ y ∈ x.Rules, RlOk y)
def ScOk (s : List State) : Prop := s.length * 40 ≤ reachBytes ∧ ∀ y ∈ s, StOk y

def szI (x : Item) : Nat := x.Text.length + x.Ranges.length
def szL (l : List Item) : Nat := l.length + (l.map szI).sum
def szR (r : Rule) : Nat := r.Kind.length + r.Next.length + szL r.Items
def szS (x : State) : Nat := x.Name.length + (x.Rules.length + (x.Rules.map szR).sum)
def sz (s : List State) : Nat := s.length + (s.map szS).sum
theorem mem_sum {α : Type} {f : α → Nat} : ∀ {l : List α} {x : α}, x ∈ l → f x ≤ (l.map f).sum
  | y :: l, x, h => by
    simp only [List.map_cons, List.sum_cons]
    rcases List.mem_cons.1 h with rfl | h
    · omega
    · have := mem_sum (f := f) h; omega
def SzL (N : Nat) (l : List Item) : Prop := l.length < N ∧ ∀ x ∈ l, x.Text.length < N ∧ x.Ranges.length < N
def SzR (N : Nat) (r : Rule) : Prop := r.Kind.length < N ∧ r.Next.length < N ∧ SzL N r.Items
def SzS (N : Nat) (x : State) : Prop := x.Name.length < N ∧ x.Rules.length < N ∧ ∀ r ∈ x.Rules, SzR N r
def Sz (N : Nat) (s : List State) : Prop := s.length < N ∧ ∀ x ∈ s, SzS N x
theorem SzL.of {N : Nat} {l : List Item} (h : szL l < N) : SzL N l := by
  unfold szL at h
  refine ⟨by omega, fun x hx => ?_⟩
  have : x.Text.length + x.Ranges.length ≤ (l.map szI).sum := mem_sum (f := szI) hx
  omega
theorem SzR.of {N : Nat} {r : Rule} (h : szR r < N) : SzR N r := by
  unfold szR at h
  exact ⟨by omega, by omega, SzL.of (by omega)⟩
theorem SzS.of {N : Nat} {x : State} (h : szS x < N) : SzS N x := by
  unfold szS at h
  refine ⟨by omega, by omega, fun r hr => SzR.of ?_⟩
  have := mem_sum (f := szR) hr
  omega
theorem Sz.of {N : Nat} {s : List State} (h : sz s < N) : Sz N s := by
  unfold sz at h
  refine ⟨by omega, fun x hx => SzS.of ?_⟩
  have := mem_sum (f := szS) hx
  omega
theorem reach_le {n B : Nat} (h : n * B ≤ reachBytes) : n * B ≤ 140737488355328 := by unfold reachBytes at h; omega

/-! ### the copies -/
theorem items_b2_eq {N : Nat} {l : List Item} {i : Nat} {x : Item} (hi : l[i]? = some x) (hB : x.Ranges.length * 2 ≤ reachBytes) (hN : x.Ranges.length < N) :
    iter (fun s => calquelaw44_items_b2 N l i s.1 s.2) N ((0 : Int), (Item.mk x.Text ([]) x.Not x.Least x.Most)) = some x := by
  refine iter_at (fun k : Nat => ((k : Int), Item.mk x.Text (x.Ranges.take k) x.Not x.Least x.Most)) x.Ranges.length x rfl (fun k hk => ?_) ?_ N hN
  · obtain ⟨g, hg⟩ := at_lt hk
    simp only [calquelaw44_items_b2, ixg hi, Option.bind_some, dk hk, cond_true, ixg hg]
    rw [appw1 (by
      simp only [List.length_take, List.length_cons, List.length_nil]
      have := reach_le hB
      have : (min k x.Ranges.length + (0 + 1)) * 2 ≤ x.Ranges.length * 2 := Nat.mul_le_mul_right _ (by omega)
      omega) (by decide)]
    simp only [Option.bind_some, take1 hg]
    rfl
  · simp only [calquelaw44_items_b2, ixg hi, Option.bind_some, dn, cond_false, List.take_length]
theorem items_eq {N : Nat} {l : List Item} (h : l.length * 64 ≤ reachBytes ∧ ∀ x ∈ l, ItOk x) (hs : SzL N l) : calquelaw44_items N l = some l := by
  unfold calquelaw44_items
  refine (iter_atB (fun k : Nat => (l.take k, (k : Int))) l.length l rfl hs.1 (fun k hk => ?_) ?_).trans rfl
  · obtain ⟨x, hx⟩ := at_lt hk
    have hm := List.mem_of_getElem? hx
    simp only [calquelaw44_items_b1, dk hk, cond_true, ixg hx, Option.bind_some]
    rw [items_b2_eq hx (h.2 x hm).2.1.1 (hs.2 x hm).2]
    simp only [Option.bind_some]
    rw [appw1 (by
      simp only [List.length_take, List.length_cons, List.length_nil]
      have := reach_le h.1
      have : (min k l.length + (0 + 1)) * 64 ≤ l.length * 64 := Nat.mul_le_mul_right _ (by omega)
      omega) (by decide)]
    simp only [Option.bind_some, take1 hx]
    rfl
  · simp only [calquelaw44_items_b1, dn, cond_false, List.take_length]
theorem Own_eq {N : Nat} {s : List State} (h : ScOk s) (hs : Sz N s) : calquelaw44_Own N s = some s := by
  unfold calquelaw44_Own
  refine (iter_atB (fun k : Nat => (s.take k, (k : Int))) s.length s rfl hs.1 (fun k hk => ?_) ?_).trans rfl
  · obtain ⟨x, hx⟩ := at_lt hk
    have hm := List.mem_of_getElem? hx
    obtain ⟨hn, hr, hrl⟩ := h.2 x hm
    obtain ⟨_, gr, grl⟩ := hs.2 x hm
    simp only [calquelaw44_Own_b1, dk hk, cond_true, ixg hx, Option.bind_some]
    refine (iter_atB (fun j : Nat => ((j : Int), State.mk x.Name (x.Rules.take j))) x.Rules.length x rfl gr (fun j hj => ?_) ?_).trans ?_
    rotate_left 2
    · rw [appw1 (by
        simp only [List.length_take, List.length_cons, List.length_nil]
        have := reach_le h.1
        have : (min k s.length + (0 + 1)) * 40 ≤ s.length * 40 := Nat.mul_le_mul_right _ (by omega)
        omega) (by decide)]
      simp only [Option.bind_some, take1 hx]
      rfl
    · obtain ⟨r, hr'⟩ := at_lt hj
      have hrm := List.mem_of_getElem? hr'
      simp only [calquelaw44_Own_b2, dk hj, cond_true, ixg hx, ixg hr', Option.bind_some]
      rw [items_eq (hrl r hrm).2.1 (grl r hrm).2.2]
      simp only [Option.bind_some]
      rw [appw1 (by
        simp only [List.length_take, List.length_cons, List.length_nil]
        have := reach_le hr
        have : (min j x.Rules.length + (0 + 1)) * 56 ≤ x.Rules.length * 56 := Nat.mul_le_mul_right _ (by omega)
        omega) (by decide)]
      simp only [Option.bind_some, take1 hr']
      rfl
    · simp only [calquelaw44_Own_b2, ixg hx, Option.bind_some, dn, cond_false, List.take_length]
  · simp only [calquelaw44_Own_b1, dn, cond_false, List.take_length]

/-! ### Few has a result -/
theorem iter_ex {α : Type} {body : α × Int → Option ((α × Int) ⊕ α)} (n : Nat) (hs : ∀ a (i : Nat), i < n → ∃ a', body (a, i) = some (.inl (a', (i : Int) + 1))) (hd : ∀ a, ∃ b, body (a, n) = some (.inr b)) {N : Nat} (hN : n < N) (a : α) : ∃ b, iter body N (a, 0) = some b := by
  obtain ⟨b, h, _⟩ := iter_ind (fun i s => s.2 = (i : Int)) n (fun _ => True) (fun i s hi h => by
    obtain ⟨a, c⟩ := s
    simp only at h
    subst h
    obtain ⟨a', h⟩ := hs a i hi
    exact ⟨_, h, rfl⟩) (fun s h => by
    obtain ⟨a, c⟩ := s
    simp only at h
    subst h
    obtain ⟨b, h⟩ := hd a
    exact ⟨_, h, trivial⟩) N (a, 0) hN rfl
  exact ⟨b, h⟩
theorem Few_some {N : Nat} {s : List State} (hs : Sz N s) : ∃ b, calqueref44_Few N s = some b := by
  have h3 : ∀ (r : Rule), SzR N r → ∀ a : Int, ∃ b, iter (fun s' : Int × Int => calqueref44_Few_b3 N r s'.1 s'.2) N (a, 0) = some b := fun r hr a => by
    refine iter_ex r.Items.length (fun a m hm => ?_) (fun a => ?_) hr.2.2.1 a
    · obtain ⟨y, hy⟩ := at_lt hm
      simp only [calqueref44_Few_b3, dk hm, cond_true, ixg hy, Option.bind_some]
      exact ⟨_, rfl⟩
    · simp only [calqueref44_Few_b3, dn, cond_false]
      exact ⟨_, rfl⟩
  have h2 : ∀ (i : Nat) (x : State), s[i]? = some x → ∀ a : Int, ∃ b, iter (fun s' : Int × Int => calqueref44_Few_b2 N s i s'.1 s'.2) N (a, 0) = some b := fun i x hx a => by
    obtain ⟨_, gr, grl⟩ := hs.2 x (List.mem_of_getElem? hx)
    refine iter_ex x.Rules.length (fun a j hj => ?_) (fun a => ?_) gr a
    · obtain ⟨r, hr⟩ := at_lt hj
      simp only [calqueref44_Few_b2, ixg hx, Option.bind_some, dk hj, cond_true, ixg hr]
      obtain ⟨b, hb⟩ := h3 r (grl r (List.mem_of_getElem? hr)) (IntKind.wrap .i64 (a + (IntKind.wrap .i64 ((IntKind.wrap .i64 ((1 : Int) + (IntKind.wrap .i64 ((r.Kind.length : Int).tdiv 20)))) + (IntKind.wrap .i64 ((r.Next.length : Int).tdiv 20))))))
      exact ⟨b, by rw [hb]; rfl⟩
    · simp only [calqueref44_Few_b2, ixg hx, Option.bind_some, dn, cond_false]
      exact ⟨_, rfl⟩
  obtain ⟨b, hb⟩ := iter_ex (body := fun s' : Int × Int => calqueref44_Few_b1 N s s'.1 s'.2) s.length (fun a i hi => by
    obtain ⟨x, hx⟩ := at_lt hi
    obtain ⟨b, hb⟩ := h2 i x hx a
    simp only [calqueref44_Few_b1, dk hi, cond_true, hb, Option.bind_some, ixg hx]
    exact ⟨_, rfl⟩) (fun a => by
    simp only [calqueref44_Few_b1, dn, cond_false]
    exact ⟨_, rfl⟩) hs.1 0
  unfold calqueref44_Few
  exact ⟨_, by rw [hb]; rfl⟩
set_option maxRecDepth 100000 in
theorem awake_true (n : Nat) : calquelaw44_awake (n + 300) = some true := by kernel_rfl
end Go.Proofs.Ytmmioinglmeoiaa
