/- Texts of this proof, put together by pack.py: what its declarations name. -/
import Derived.Test.YtmmioinglmeoiaaPkSw3
import Derived.Test.YtmmioinglmeoiaaChecked
import Derived.Test.YtmmioinglmeoiaaProg
import Derived.Test.YtmmioinglmeoiaaRows
set_option linter.unusedVariables false
namespace Go.Proofs.Ytmmioinglmeoiaa
open Go.X
abbrev Str := List UInt8
def hexd (n : Nat) : UInt8 := UInt8.ofNat (if n < 10 then 48 + n else 87 + n)
def esc (br : Bool) (c : Nat) : Str :=
  if c = 92 ∨ (br = false ∧ c = 34) ∨ (br = true ∧ (c = 91 ∨ c = 93 ∨ c = 94 ∨ c = 45)) then [92, UInt8.ofNat c]
  else if c < 32 ∨ 126 < c ∨ (br = true ∧ c = 32) then [92, 120, hexd (c / 16), hexd (c % 16)]
  else [UInt8.ofNat c]
def okQ (N : Nat) (c : Nat) : Bool := scan_quoted N (c : Int) == some (esc false c) && (scan_bracketed N (c : Int) == some (esc true c) && (calqueref44_one N (c : Int) false == some (esc false c) && calqueref44_one N (c : Int) true == some (esc true c)))
set_option maxRecDepth 100000 in
theorem okQ_all (N : Nat) : ((List.range 256).all fun c => okQ N c) = true := by kernel_rfl
theorem okQ_at {N c : Nat} (h : c < 256) : okQ N c = true := List.all_eq_true.1 (okQ_all N) c (List.mem_range.2 h)
theorem quoted_eq {N c : Nat} (h : c < 256) : scan_quoted N (c : Int) = some (esc false c) := by
  have := okQ_at (N := N) h
  unfold okQ at this
  simp only [Bool.and_eq_true, beq_iff_eq] at this
  exact this.1
theorem bracketed_eq {N c : Nat} (h : c < 256) : scan_bracketed N (c : Int) = some (esc true c) := by
  have := okQ_at (N := N) h
  unfold okQ at this
  simp only [Bool.and_eq_true, beq_iff_eq] at this
  exact this.2.1
theorem esc_len (br : Bool) (c : Nat) : (esc br c).length ≤ 4 := by
  unfold esc
  split
  · simp
  · split <;> simp
def markT (x : Item) : Str :=
  if x.Least = 1 ∧ x.Most = 1 then [] else if x.Least = 0 ∧ x.Most = 1 then [63] else if x.Least = 0 ∧ x.Most = -1 then [42] else if x.Least = 1 ∧ x.Most = -1 then [43] else []
def markOk (x : Item) : Prop := (x.Least = 1 ∨ x.Least = 0) ∧ (x.Most = 1 ∨ x.Most = -1)
instance (x : Item) : Decidable (markOk x) := by unfold markOk; infer_instance
def rangeT (g : Range) : Str := esc true g.From.toNat ++ if g.To = g.From then [] else 45 :: esc true g.To.toNat
def bodyT (x : Item) : Str :=
  if x.Text = [] then [91] ++ (if x.Not then [94] else []) ++ x.Ranges.flatMap rangeT ++ [93] else [34] ++ x.Text.flatMap (fun c => esc false c.toNat) ++ [34]
def itemT (x : Item) : Str := bodyT x ++ markT x
def lineT (r : Rule) : Str := r.Kind ++ r.Items.flatMap (fun x => 32 :: itemT x) ++ if r.Next = [] then [] else [32, 45, 62, 32] ++ r.Next
def stateT (x : State) : Str := ([115, 116, 97, 116, 101, 32] ++ x.Name ++ [10]) ++ x.Rules.flatMap (fun r => lineT r ++ [10])
def textT (s : List State) : Str := s.flatMap stateT
def word (w : Str) : Bool := w.all (fun c => decide (97 ≤ c.toNat ∧ c.toNat ≤ 122)) && (decide (1 ≤ w.length) && decide (w.length ≤ 16))
def ItP (x : Item) : Prop := markOk x ∧ if x.Text = [] then (1 ≤ x.Ranges.length ∧ x.Ranges.length ≤ 20) ∧ ∀ g ∈ x.Ranges, g.From ≤ g.To else x.Text.length ≤ 40 ∧ x.Ranges = [] ∧ x.Not = false
def InB (x : Item) : Prop := ∀ g ∈ x.Ranges, InR .u8 g.From ∧ InR .u8 g.To
def RlP (r : Rule) : Prop := word r.Kind = true ∧ (1 ≤ r.Items.length ∧ r.Items.length ≤ 20) ∧ ∀ x ∈ r.Items, ItP x
theorem inr8 {x : Int} (h : InR .u8 x) : ∃ n : Nat, x = (n : Int) ∧ n < 256 ∧ x.toNat = n := by
  have := inR_u8.1 h
  exact ⟨x.toNat, by omega, by omega, rfl⟩
theorem u8lt (c : UInt8) : c.toNat < 256 := c.toNat_lt
theorem flat_le {α : Type} (f : α → Str) (B : Nat) : ∀ l : List α, (∀ x ∈ l, (f x).length ≤ B) → (l.flatMap f).length ≤ l.length * B
  | [], _ => by simp
  | x :: l, h => by
    simp only [List.flatMap_cons, List.length_append, List.length_cons, Nat.add_mul]
    have h1 := h x (by simp)
    have h2 := flat_le f B l (fun y hy => h y (by simp [hy]))
    omega
theorem rangeT_len (g : Range) : (rangeT g).length ≤ 9 := by
  unfold rangeT
  have := esc_len true g.From.toNat
  have := esc_len true g.To.toNat
  split <;> simp <;> omega
theorem markT_len (x : Item) : (markT x).length ≤ 1 := by
  unfold markT
  repeat' split
  all_goals decide
theorem bodyT_len {x : Item} (h : ItP x) : (bodyT x).length ≤ 200 := by
  unfold bodyT
  obtain ⟨_, h⟩ := h
  split
  · rename_i h0
    rw [if_pos h0] at h
    have := flat_le rangeT 9 x.Ranges (fun g _ => rangeT_len g)
    cases x.Not <;> simp [-List.length_flatMap] <;> omega
  · rename_i h0
    rw [if_neg h0] at h
    have := flat_le (fun c : UInt8 => esc false c.toNat) 4 x.Text (fun c _ => esc_len _ _)
    simp [-List.length_flatMap]; omega
theorem itemT_len {x : Item} (h : ItP x) : (itemT x).length ≤ 201 := by
  have := bodyT_len h
  have := markT_len x
  unfold itemT
  simp; omega
theorem word_len {w : Str} (h : word w = true) : 1 ≤ w.length ∧ w.length ≤ 16 := by
  unfold word at h
  simp only [Bool.and_eq_true, decide_eq_true_eq] at h
  exact h.2
theorem items_len {r : Rule} (h : RlP r) : (r.Items.flatMap (fun x => 32 :: itemT x)).length ≤ 4040 := by
  have := flat_le (fun x => 32 :: itemT x) 202 r.Items (fun x hx => by have := itemT_len (h.2.2 x hx); simp; omega)
  have := h.2.1
  omega
theorem lineT_len {r : Rule} (h : RlP r) (hn : r.Next.length ≤ 16) : (lineT r).length ≤ 4080 := by
  have := items_len h
  have := word_len h.1
  unfold lineT
  split <;> simp [-List.length_flatMap] <;> omega
def bld (l : Str) : Builder := ⟨(), ints l⟩
theorem ints_app (a b : Str) : ints a ++ ints b = ints (a ++ b) := by simp [ints]
theorem bytes_bld (l : Str) : bytesOf (ints l) = l := bytesOf_toNat l
theorem wstr {N : Nat} {l t : Str} (h : l.length + t.length ≤ 4294967296) : strings_Builder_WriteString N t (bld l) = some ((t.length : Int), (), bld (l ++ t)) := by
  unfold strings_Builder_WriteString bld
  rw [app1 (by simpa [ints] using h), ints_app]
  rfl
theorem wbyte {N : Nat} {l : Str} {c : Nat} (hc : c < 256) (h : l.length < 4294967296) : strings_Builder_WriteByte N (c : Int) (bld l) = some ((), bld (l ++ [UInt8.ofNat c])) := by
  unfold strings_Builder_WriteByte bld
  have e : ([(c : Int)] : List Int) = ints [UInt8.ofNat c] := by simp [ints]; omega
  rw [app1 (by simp [ints]; omega), e, ints_app]
  rfl
theorem bld_eta (b : Builder) : Builder.mk () b.buf = b := rfl
theorem beqd (a b : Int) : (a == b) = decide (a = b) := rfl
theorem mark_eq (N : Nat) (x : Item) : scan_mark N x = some (markT x, decide (markOk x)) := by
  unfold scan_mark markT markOk
  simp only [beqd]
  by_cases h1 : x.Least = 1 <;> by_cases h0 : x.Least = 0 <;> by_cases h2 : x.Most = 1 <;> by_cases h3 : x.Most = -1 <;> simp [h1, h0, h2, h3]
theorem cat1 {a b : Str} (h : a.length + b.length ≤ 1000000000) : cat a b = some (a ++ b) := by unfold cat; rw [if_pos (by unfold LIMS; omega)]
theorem take_flat {α : Type} (f : α → Str) {l : List α} {k : Nat} {x : α} (h : l[k]? = some x) : (l.take k).flatMap f ++ f x = (l.take (k + 1)).flatMap f := by
  rw [← take1 h]; simp
theorem take_le {α : Type} (f : α → Str) (B : Nat) (l : List α) (k : Nat) (h : ∀ x ∈ l, (f x).length ≤ B) : ((l.take k).flatMap f).length ≤ l.length * B := by
  have h1 := flat_le f B (l.take k) (fun x hx => h x (List.mem_of_mem_take hx))
  have h2 : (l.take k).length * B ≤ l.length * B := Nat.mul_le_mul_right _ (by simp; omega)
  omega
theorem scan_item_eq {N : Nat} {x : Item} (h : ItP x) (hb : InB x) {l : Str} (hl : l.length ≤ 1000000000) (hN : 100 ≤ N) : scan_item N x (bld l) = some (bld (l ++ itemT x)) := by
  unfold scan_item
  obtain ⟨hm, h⟩ := h
  simp only [mark_eq, Option.bind_some, bld_eta]
  have hml := markT_len x
  by_cases h0 : x.Text = []
  · rw [if_pos h0] at h
    have e0 : (x.Text != ([] : Str)) = false := by rw [h0]; rfl
    have fl := fun k => take_le rangeT 9 x.Ranges k (fun g _ => rangeT_len g)
    simp only [e0, cond_false]
    rw [show (91 : Int) = ((91 : Nat) : Int) from rfl, wbyte (by decide) (by omega)]
    simp only [Option.bind_some, bld_eta]
    have hnot : (bif x.Not then (strings_Builder_WriteByte N 94 (bld (l ++ [91]))).bind fun r98 => some r98.2 else some (bld (l ++ [91]))) = some (bld (l ++ [91] ++ if x.Not then [94] else [])) := by
      cases x.Not with
      | false => simp
      | true =>
        simp only [cond_true, if_true]
        rw [show (94 : Int) = ((94 : Nat) : Int) from rfl, wbyte (by decide) (by simp [-List.length_flatMap]; omega)]
        rfl
    have hnl : (if x.Not then ([94] : Str) else []).length ≤ 1 := by cases x.Not <;> decide
    rw [show UInt8.ofNat 91 = 91 from rfl] at *
    rw [hnot]
    simp only [Option.bind_some, bld_eta]
    refine (iter_atB (fun k : Nat => ((k : Int), bld (l ++ [91] ++ (if x.Not then [94] else []) ++ (x.Ranges.take k).flatMap rangeT))) x.Ranges.length (bld (l ++ [91] ++ (if x.Not then [94] else []) ++ x.Ranges.flatMap rangeT)) (by simp) (by omega) (fun k hk => ?_) ?_).trans ?_
    · obtain ⟨g, hg⟩ := at_lt hk
      obtain ⟨hf, ht⟩ := hb g (List.mem_of_getElem? hg)
      obtain ⟨f, hf1, hf2, hf3⟩ := inr8 hf
      obtain ⟨t, ht1, ht2, ht3⟩ := inr8 ht
      have := fl k
      have hef := esc_len true f
      have het := esc_len true t
      simp only [scan_item_b2, dk hk, cond_true, ixg hg, Option.bind_some, bld_eta]
      rw [hf1, bracketed_eq hf2]
      simp only [Option.bind_some]
      rw [wstr (by simp [-List.length_flatMap]; omega)]
      simp only [Option.bind_some, bld_eta]
      rw [← take_flat rangeT hg]
      by_cases he : g.To = g.From
      · have hr : rangeT g = esc true f := by unfold rangeT; rw [if_pos he, hf3, List.append_nil]
        have : (g.To != (f : Int)) = false := by rw [he, hf1]; simp
        rw [this, hr]
        simp
      · have hr : rangeT g = esc true f ++ 45 :: esc true t := by unfold rangeT; rw [if_neg he, hf3, ht3]
        have : (g.To != (f : Int)) = true := by rw [← hf1]; simpa using he
        rw [this, hr, ht1, bracketed_eq ht2]
        simp only [cond_true, Option.bind_some]
        rw [cat1 (by simp [-List.length_flatMap]; omega)]
        simp only [Option.bind_some]
        rw [wstr (by simp [-List.length_flatMap]; omega)]
        simp [bld_eta]
    · simp only [scan_item_b2, dn, cond_false, bld_eta, List.take_length]
    · rw [cat1 (by simp [-List.length_flatMap]; omega)]
      simp only [Option.bind_some, bld_eta]
      have := fl x.Ranges.length
      rw [List.take_length] at this
      rw [wstr (by simp [-List.length_flatMap]; omega)]
      simp only [Option.bind_some, bld_eta, itemT, bodyT, if_pos h0]
      simp
  · rw [if_neg h0] at h
    have e0 : (x.Text != ([] : Str)) = true := by simpa using h0
    have fl := fun k => take_le (fun c : UInt8 => esc false c.toNat) 4 x.Text k (fun c _ => esc_len _ _)
    simp only [e0, cond_true]
    rw [show (34 : Int) = ((34 : Nat) : Int) from rfl, wbyte (by decide) (by omega)]
    simp only [Option.bind_some, bld_eta]
    refine (iter_atB (fun k : Nat => ((k : Int), bld (l ++ [34] ++ (x.Text.take k).flatMap (fun c => esc false c.toNat)))) x.Text.length (bld (l ++ [34] ++ x.Text.flatMap (fun c => esc false c.toNat))) (by simp) (by omega) (fun k hk => ?_) ?_).trans ?_
    · obtain ⟨c, hc⟩ := at_lt hk
      have := fl k
      have hec := esc_len false c.toNat
      simp only [scan_item_b1, dk hk, cond_true, ixg hc, Option.bind_some, bld_eta]
      rw [quoted_eq (u8lt c)]
      simp only [Option.bind_some]
      rw [wstr (by simp [-List.length_flatMap]; omega)]
      simp only [Option.bind_some, bld_eta]
      rw [← take_flat (fun c : UInt8 => esc false c.toNat) hc]
      simp
    · simp only [scan_item_b1, dn, cond_false, bld_eta, List.take_length]
    · rw [cat1 (by simp [-List.length_flatMap]; omega)]
      simp only [Option.bind_some, bld_eta]
      have := fl x.Text.length
      rw [List.take_length] at this
      rw [wstr (by simp [-List.length_flatMap]; omega)]
      simp only [Option.bind_some, bld_eta, itemT, bodyT, if_neg h0]
      simp
theorem scan_line_eq {N : Nat} {r : Rule} (h : RlP r) (hn : r.Next.length ≤ 16) (hb : ∀ x ∈ r.Items, InB x) (hN : 100 ≤ N) : scan_line N r = some (lineT r) := by
  unfold scan_line
  have hk := word_len h.1
  have fl := fun k => take_le (fun x => 32 :: itemT x) 202 r.Items k (fun x hx => by have := itemT_len (h.2.2 x hx); simp; omega)
  have hI := h.2.1
  have e : Builder.mk () ([]) = bld [] := rfl
  rw [e, wstr (by simp [-List.length_flatMap]; omega)]
  simp only [Option.bind_some, bld_eta, List.nil_append]
  refine (iter_atB (fun k : Nat => ((k : Int), bld (r.Kind ++ (r.Items.take k).flatMap (fun x => 32 :: itemT x)))) r.Items.length (bld (r.Kind ++ r.Items.flatMap (fun x => 32 :: itemT x))) (by simp) (by omega) (fun k hk => ?_) ?_).trans ?_
  · obtain ⟨x, hx⟩ := at_lt hk
    have hm := List.mem_of_getElem? hx
    have := fl k
    simp only [scan_line_b1, dk hk, cond_true, ixg hx, Option.bind_some, bld_eta]
    rw [show (32 : Int) = ((32 : Nat) : Int) from rfl, wbyte (by decide) (by simp [-List.length_flatMap]; omega)]
    simp only [Option.bind_some, bld_eta]
    rw [scan_item_eq (h.2.2 x hm) (hb x hm) (by simp [-List.length_flatMap]; omega) hN]
    simp only [Option.bind_some, bld_eta]
    rw [← take_flat (fun x => 32 :: itemT x) hx]
    simp
  · simp only [scan_line_b1, dn, cond_false, bld_eta, List.take_length]
  · have := fl r.Items.length
    rw [List.take_length] at this
    unfold lineT
    by_cases h0 : r.Next = []
    · have e0 : (r.Next != ([] : Str)) = false := by rw [h0]; rfl
      simp only [e0, cond_false, if_pos h0, bld, bytes_bld]
      simp
    · have e0 : (r.Next != ([] : Str)) = true := by simpa using h0
      simp only [e0, cond_true, if_neg h0]
      rw [cat1 (by simp [-List.length_flatMap]; omega)]
      simp only [Option.bind_some, bld_eta]
      rw [wstr (by simp [-List.length_flatMap]; omega)]
      simp only [Option.bind_some, bld, bytes_bld]
end Go.Proofs.Ytmmioinglmeoiaa
namespace Go.Proofs.Ytmmioinglmeoiaa
open Go.X
structure Vs (s : List State) : Prop where
  len : 1 ≤ s.length ∧ s.length ≤ 20
  name : ∀ x ∈ s, word x.Name = true
  rules : ∀ x ∈ s, 1 ≤ x.Rules.length ∧ x.Rules.length ≤ 40
  rl : ∀ x ∈ s, ∀ r ∈ x.Rules, RlP r ∧ (r.Next = [] ∨ r.Next ∈ s.map State.Name)
  nd : (s.map State.Name).Nodup
theorem Vs.next {s : List State} (h : Vs s) {x : State} (hx : x ∈ s) {r : Rule} (hr : r ∈ x.Rules) : r.Next.length ≤ 16 := by
  rcases (h.rl x hx r hr).2 with h1 | h1
  · rw [h1]; decide
  · obtain ⟨y, hy, e⟩ := List.mem_map.1 h1
    rw [← e]; exact (word_len (h.name y hy)).2
theorem stateT_len {s : List State} (h : Vs s) {x : State} (hx : x ∈ s) : (stateT x).length ≤ 170000 := by
  unfold stateT
  have h1 := word_len (h.name x hx)
  have h2 := h.rules x hx
  have h3 := flat_le (fun r => lineT r ++ [10]) 4081 x.Rules (fun r hr => by have := lineT_len (h.rl x hx r hr).1 (h.next hx hr); simp; omega)
  simp [-List.length_flatMap]; omega
theorem scan_text_eq {N : Nat} {s : List State} (h : Vs s) (hb : ∀ x ∈ s, ∀ r ∈ x.Rules, ∀ y ∈ r.Items, InB y) (hN : 100 ≤ N) : scan_text N s = some (textT s) := by
  unfold scan_text
  have hl := h.len
  have fl := fun k => take_le stateT 170000 s k (fun x hx => stateT_len h hx)
  have e : Builder.mk () ([]) = bld [] := rfl
  rw [e]
  refine (iter_atB (fun k : Nat => ((k : Int), bld ((s.take k).flatMap stateT))) s.length (bld (textT s)) (by simp) (by omega) (fun k hk => ?_) ?_).trans ?_
  · obtain ⟨x, hx⟩ := at_lt hk
    have hm := List.mem_of_getElem? hx
    have h1 := word_len (h.name x hm)
    have h2 := h.rules x hm
    have := fl k
    have fl2 := fun j => take_le (fun r => lineT r ++ [10]) 4081 x.Rules j (fun r hr => by have := lineT_len (h.rl x hm r hr).1 (h.next hm hr); simp; omega)
    simp only [scan_text_b1, dk hk, cond_true, ixg hx, Option.bind_some, bld_eta]
    rw [cat1 (by simp; omega)]
    simp only [Option.bind_some]
    rw [cat1 (by simp; omega)]
    simp only [Option.bind_some]
    rw [wstr (by simp [-List.length_flatMap]; omega)]
    simp only [Option.bind_some, bld_eta]
    refine (iter_atB (fun j : Nat => ((j : Int), bld ((s.take k).flatMap stateT ++ ([115, 116, 97, 116, 101, 32] ++ x.Name ++ [10]) ++ (x.Rules.take j).flatMap (fun r => lineT r ++ [10])))) x.Rules.length (bld ((s.take (k + 1)).flatMap stateT)) (by simp) (by omega) (fun j hj => ?_) ?_).trans ?_
    · obtain ⟨r, hr⟩ := at_lt hj
      have hrm := List.mem_of_getElem? hr
      have hll := lineT_len (h.rl x hm r hrm).1 (h.next hm hrm)
      have := fl2 j
      simp only [scan_text_b2, dk hj, cond_true, ixg hr, Option.bind_some, bld_eta]
      rw [scan_line_eq (h.rl x hm r hrm).1 (h.next hm hrm) (hb x hm r hrm) hN]
      simp only [Option.bind_some]
      rw [cat1 (by simp; omega)]
      simp only [Option.bind_some]
      rw [wstr (by simp [-List.length_flatMap]; omega)]
      simp only [Option.bind_some, bld_eta]
      rw [← take_flat (fun r => lineT r ++ [10]) hr]
      simp
    · simp only [scan_text_b2, dn, cond_false, bld_eta, List.take_length]
      rw [← take_flat stateT hx]
      simp [stateT]
    · rfl
  · simp only [scan_text_b1, dn, cond_false, bld_eta, List.take_length]
    rfl
  · simp only [bld, bytes_bld]
end Go.Proofs.Ytmmioinglmeoiaa
namespace Go.Proofs.Ytmmioinglmeoiaa
open Go.X
def Tells (o : Option Bool) (P : Prop) : Prop := ∃ b, o = some b ∧ (b = true ↔ P)
theorem Tells.no {o : Option Bool} {P : Prop} (h : o = some false) (p : ¬P) : Tells o P := ⟨false, h, by simp [p]⟩
theorem Tells.iff {o : Option Bool} {P Q : Prop} (h : Tells o P) (e : P ↔ Q) : Tells o Q := by obtain ⟨b, h1, h2⟩ := h; exact ⟨b, h1, h2.trans e⟩
theorem Tells.same {o o' : Option Bool} {P : Prop} (h : Tells o P) (h' : Tells o' P) : o = o' := by
  obtain ⟨b, h1, h2⟩ := h
  obtain ⟨b', h3, h4⟩ := h'
  rw [h1, h3]
  cases b <;> cases b' <;> simp_all
theorem Tells.dec {P : Prop} [Decidable P] : Tells (some (decide P)) P := ⟨_, rfl, by simp⟩
theorem Tells.cases {o : Option Bool} {P : Prop} (h : Tells o P) : (o = some true ∧ P) ∨ (o = some false ∧ ¬P) := by
  obtain ⟨b, h1, h2⟩ := h
  cases b with
  | true => exact .inl ⟨h1, h2.1 rfl⟩
  | false => exact .inr ⟨h1, fun p => by simpa using h2.2 p⟩
theorem iter_allP {α : Type} {body : Int → Option (Int ⊕ (Unit ⊕ Bool))} (P : α → Prop) (xs : List α) {N : Nat} (hN : xs.length < N)
    (h1 : ∀ (k : Nat) x, xs[k]? = some x → (P x ∧ body k = some (.inl ((k : Int) + 1))) ∨ (¬P x ∧ body k = some (.inr (.inr false)))) (h2 : body xs.length = some (.inr (.inl ()))) :
    (iter body N 0 = some (.inl ()) ∧ ∀ x ∈ xs, P x) ∨ (iter body N 0 = some (.inr false) ∧ ¬∀ x ∈ xs, P x) := by
  classical
  have h := iter_allL (body := body) (fun x => decide (P x)) xs (fun k x hx => by
    rcases h1 k x hx with ⟨p, h⟩ | ⟨p, h⟩
    · rw [h]; simp [p]
    · rw [h]; simp [p]) h2 N hN
  by_cases hp : ∀ x ∈ xs, P x
  · refine .inl ⟨?_, hp⟩
    rw [h, if_pos (by simpa using hp)]
  · refine .inr ⟨?_, hp⟩
    rw [h, if_neg (by simpa using hp)]
theorem iter_indE {σ β : Type} {body : σ → Option (σ ⊕ β)} (I : Nat → σ → Prop) (n : Nat) (Q : β → Prop) (hs : ∀ i s, i < n → I i s → (∃ s', body s = some (.inl s') ∧ I (i + 1) s') ∨ ∃ b, body s = some (.inr b) ∧ Q b) (hd : ∀ s, I n s → ∃ b, body s = some (.inr b) ∧ Q b) :
    ∀ N s, n < N → I 0 s → ∃ b, iter body N s = some b ∧ Q b := by
  have key : ∀ j k N s, k + j = n → j < N → I k s → ∃ b, iter body N s = some b ∧ Q b := by
    intro j
    induction j with
    | zero =>
      intro k N s hk hN hI
      obtain ⟨N, rfl⟩ : ∃ M, N = M + 1 := ⟨N - 1, by omega⟩
      have : k = n := by omega
      subst this
      obtain ⟨b, h1, h2⟩ := hd s hI
      exact ⟨b, by simp only [iter, h1], h2⟩
    | succ j ih =>
      intro k N s hk hN hI
      obtain ⟨N, rfl⟩ : ∃ M, N = M + 1 := ⟨N - 1, by omega⟩
      rcases hs k s (by omega) hI with ⟨s', h1, h2⟩ | ⟨b, h1, h2⟩
      · simp only [iter, h1]
        exact ih (k + 1) N s' (by omega) (by omega) h2
      · exact ⟨b, by simp only [iter, h1], h2⟩
  exact fun N s hN hI => key n 0 N s (by omega) hN hI
theorem idxf {α : Type} {body : Int → Option (Int ⊕ (Unit ⊕ Int))} (xs : List α) (p : α → Bool) {N : Nat} (hN : xs.length < N)
    (h1 : ∀ (k : Nat) x, xs[k]? = some x → body k = some (if p x then .inr (.inr k) else .inl ((k : Int) + 1))) (h2 : body xs.length = some (.inr (.inl ()))) :
    ((iter body N 0).bind fun o => Sum.elim (fun _ => some (-1 : Int)) (fun o => some o) o) = some (match xs.findIdx? p with | some k => (k : Int) | none => -1) := by
  rw [iter_find xs p h1 h2 N hN]; exact find_any xs p
theorem word_end {w : Str} : Sum.elim (fun _ : Unit => bif (decide ((w.length : Int) ≥ 1)) then some (decide ((w.length : Int) ≤ 16)) else some false) (fun o2 : Bool => some o2) (if w.all (fun c => decide (97 ≤ c.toNat ∧ c.toNat ≤ 122)) then .inl () else .inr false) = some (word w) := by
  unfold word
  by_cases h : w.all (fun c => decide (97 ≤ c.toNat ∧ c.toNat ≤ 122)) = true
  · rw [if_pos h, h]
    simp only [Sum.elim_inl, Bool.true_and]
    by_cases h1 : 1 ≤ w.length
    · rw [decide_eq_true (show (w.length : Int) ≥ 1 by omega), decide_eq_true h1, cond_true, Bool.true_and]
      congr 1
      exact decide_eq_decide.2 (by omega)
    · rw [decide_eq_false (show ¬(w.length : Int) ≥ 1 by omega), decide_eq_false h1]; rfl
  · rw [if_neg h]
    simp only [Bool.not_eq_true] at h
    rw [h]; rfl
theorem word_step {w : Str} {k : Nat} {c : UInt8} (hc : w[k]? = some c) : (bif (decide ((k : Int) < (w.length : Int))) then
    (idx w k).bind fun c7 =>
    bif (decide ((c7.toNat : Int) < 97)) then
      some (.inr (.inr false))
    else
      (idx w k).bind fun c10 =>
      bif (decide ((c10.toNat : Int) > 122)) then
        some (.inr (.inr false))
      else
        some (.inl ((k : Int) + 1))
  else
    some (.inr (.inl ())) : Option (Int ⊕ (Unit ⊕ Bool))) = some (if decide (97 ≤ c.toNat ∧ c.toNat ≤ 122) then .inl ((k : Int) + 1) else .inr (.inr false)) := by
  simp only [dk (getlt hc), cond_true, ixg hc, Option.bind_some]
  by_cases h1 : c.toNat < 97
  · rw [decide_eq_true (show (c.toNat : Int) < 97 by omega), if_neg (by simp; omega)]; rfl
  · rw [decide_eq_false (show ¬(c.toNat : Int) < 97 by omega)]
    by_cases h2 : 122 < c.toNat
    · rw [decide_eq_true (show (c.toNat : Int) > 122 by omega), if_neg (by simp; omega)]; rfl
    · rw [decide_eq_false (show ¬(c.toNat : Int) > 122 by omega), if_pos (by simp; omega)]; rfl
theorem scan_word_eq {N : Nat} {w : Str} (hN : w.length < N) : scan_word N w = some (word w) := by
  unfold scan_word
  rw [iter_allL (fun c : UInt8 => decide (97 ≤ c.toNat ∧ c.toNat ≤ 122)) w (fun k c hc => word_step hc) (by simp only [scan_word_b1, dn, cond_false]) N hN]
  exact word_end
theorem lenb (n m : Nat) : decide ((n : Int) ≤ (m : Int)) = decide (n ≤ m) := decide_eq_decide.2 (by omega)
theorem leng (n m : Nat) : decide ((n : Int) ≥ (m : Int)) = decide (m ≤ n) := decide_eq_decide.2 (by omega)
theorem len0 {α : Type} (l : List α) : ((l.length : Int) == 0) = decide (l = []) := by
  cases l with
  | nil => rfl
  | cons x l => simp [beqd]; omega
theorem neN (w : Str) : (w != ([] : Str)) = !decide (w = []) := by cases w <;> simp
theorem scan_proper_eq {N : Nat} {x : Item} (hN : x.Ranges.length < N) : Tells (scan_proper N x) (ItP x) := by
  unfold scan_proper
  rw [mark_eq]
  simp only [Option.bind_some]
  by_cases hm : markOk x
  · rw [decide_eq_true hm]
    simp only [Bool.not_true, cond_false, neN, len0]
    unfold ItP
    by_cases h0 : x.Text = []
    · rw [if_pos h0, decide_eq_true h0]
      simp only [Bool.not_true, cond_false]
      rw [show (1 : Int) = ((1 : Nat) : Int) from rfl, show (20 : Int) = ((20 : Nat) : Int) from rfl, leng, lenb]
      by_cases h1 : 1 ≤ x.Ranges.length
      · by_cases h2 : x.Ranges.length ≤ 20
        · rw [decide_eq_true h1, decide_eq_true h2]
          simp only [cond_true]
          have e : slices_ContainsFunc_scan_Range_scan_Range__69 N x.Ranges = some (x.Ranges.any fun g => decide (g.From > g.To)) := by
            unfold slices_ContainsFunc_scan_Range_scan_Range__69 slices_IndexFunc_scan_Range_scan_Range__69
            have st : ∀ (k : Nat) g, x.Ranges[k]? = some g → slices_IndexFunc_scan_Range_scan_Range__69_b1 N x.Ranges k = some (if decide (g.From > g.To) then .inr (.inr (k : Int)) else .inl ((k : Int) + 1)) := fun k g hg => by
              simp only [slices_IndexFunc_scan_Range_scan_Range__69_b1, dk (getlt hg), cond_true, ixg hg, Option.bind_some, scan_proper_1]
              by_cases hd : g.From > g.To
              · rw [decide_eq_true hd]; rfl
              · rw [decide_eq_false hd]; rfl
            rw [idxf x.Ranges (fun g => decide (g.From > g.To)) hN st (by simp only [slices_IndexFunc_scan_Range_scan_Range__69_b1, dn, cond_false])]
            exact congrArg some (find_ge _ _)
          rw [e]
          refine ⟨_, rfl, ?_⟩
          simp [hm, h1, h2]
        · rw [decide_eq_true h1, decide_eq_false h2]
          exact .no rfl (fun h => h2 h.2.1.2)
      · rw [decide_eq_false h1]
        exact .no rfl (fun h => h1 h.2.1.1)
    · rw [if_neg h0, decide_eq_false h0]
      simp only [Bool.not_false, cond_true]
      rw [show (40 : Int) = ((40 : Nat) : Int) from rfl, lenb]
      by_cases h1 : x.Text.length ≤ 40
      · rw [decide_eq_true h1]
        simp only [cond_true]
        by_cases h2 : x.Ranges = []
        · rw [decide_eq_true h2]
          refine ⟨_, rfl, ?_⟩
          simp [hm, h1, h2]
        · rw [decide_eq_false h2]
          exact .no rfl (fun h => h2 h.2.2.1)
      · rw [decide_eq_false h1]
        exact .no rfl (fun h => h1 h.2.1)
  · rw [decide_eq_false hm]
    exact .no rfl (fun h => hm h.1)
theorem sound_items {N : Nat} {l : List Item} (hN : SzL N l) : Tells ((slices_ContainsFunc_scan_Item_scan_Item__51 N l).bind fun r12 => some (!r12)) (∀ x ∈ l, ItP x) := by
  classical
  have e : slices_ContainsFunc_scan_Item_scan_Item__51 N l = some (l.any fun x => decide (¬ItP x)) := by
    unfold slices_ContainsFunc_scan_Item_scan_Item__51 slices_IndexFunc_scan_Item_scan_Item__51
    have st : ∀ (k : Nat) x, l[k]? = some x → slices_IndexFunc_scan_Item_scan_Item__51_b1 N l k = some (if decide (¬ItP x) then .inr (.inr (k : Int)) else .inl ((k : Int) + 1)) := fun k x hx => by
      simp only [slices_IndexFunc_scan_Item_scan_Item__51_b1, dk (getlt hx), cond_true, ixg hx, Option.bind_some, scan_sound_1]
      rcases (scan_proper_eq (hN.2 x (List.mem_of_getElem? hx)).2).cases with ⟨h, p⟩ | ⟨h, p⟩
      · rw [h]; simp [p]
      · rw [h]; simp [p]
    rw [idxf l (fun x => decide (¬ItP x)) hN.1 st (by simp only [slices_IndexFunc_scan_Item_scan_Item__51_b1, dn, cond_false])]
    exact congrArg some (find_ge _ _)
  rw [e]
  refine ⟨_, rfl, ?_⟩
  simp
theorem scan_sound_eq {N : Nat} {r : Rule} (hN : SzR N r) : Tells (scan_sound N r) (RlP r ∧ (r.Next = [] ∨ word r.Next = true)) := by
  unfold scan_sound
  have hi := sound_items hN.2.2
  have e1 : (1 : Int) = ((1 : Nat) : Int) := rfl
  have e2 : (20 : Int) = ((20 : Nat) : Int) := rfl
  rw [scan_word_eq hN.1, scan_word_eq hN.2.1]
  simp only [Option.bind_some]
  rw [e1, e2, leng, lenb]
  have fin : ∀ (P : Prop), P → (P ↔ (r.Next = [] ∨ word r.Next = true)) → word r.Kind = true → Tells (bif decide (1 ≤ r.Items.length) then bif decide (r.Items.length ≤ 20) then (slices_ContainsFunc_scan_Item_scan_Item__51 N r.Items).bind fun r12 => some (!r12) else some false else some false) (RlP r ∧ (r.Next = [] ∨ word r.Next = true)) := fun P p hP hk => by
    by_cases h1 : 1 ≤ r.Items.length
    · by_cases h2 : r.Items.length ≤ 20
      · rw [decide_eq_true h1, decide_eq_true h2]
        simp only [cond_true]
        exact hi.iff ⟨fun h => ⟨⟨hk, ⟨h1, h2⟩, h⟩, hP.1 p⟩, fun h => h.1.2.2⟩
      · rw [decide_eq_true h1, decide_eq_false h2]
        exact .no rfl (fun h => h2 h.1.2.1.2)
    · rw [decide_eq_false h1]
      exact .no rfl (fun h => h1 h.1.2.1.1)
  cases hk : word r.Kind with
  | false => exact .no rfl (fun h => by have := h.1.1; rw [hk] at this; cases this)
  | true =>
    simp only [cond_true]
    by_cases h0 : r.Next = []
    · have e : (r.Next == ([] : Str)) = true := by simp [h0]
      rw [e]
      exact fin _ h0 ⟨fun h => .inl h, fun _ => h0⟩ hk
    · have e : (r.Next == ([] : Str)) = false := by simpa using h0
      rw [e]
      simp only [cond_false]
      have hw0 : word r.Next = true ∨ word r.Next = false := by cases word r.Next <;> simp
      rcases hw0.symm with hw | hw
      · rw [hw]; exact .no rfl (fun h => by rcases h.2 with h | h; exact h0 h; cases h)
      · have f := fin (word r.Next = true) hw ⟨fun h => .inr h, fun h => h.resolve_left h0⟩ hk
        rw [hw] at f ⊢
        exact f
end Go.Proofs.Ytmmioinglmeoiaa
namespace Go.Proofs.Ytmmioinglmeoiaa
open Go.X
theorem mget_map {s : List State} {n : Str} : mget (s.map fun x => (x.Name, true)) n = if n ∈ s.map State.Name then some true else none := by
  induction s with
  | nil => rfl
  | cons x s ih =>
    simp only [List.map_cons, mget, List.find?_cons, List.mem_cons] at ih ⊢
    by_cases h : n = x.Name
    · subst h; simp
    · have : (n == x.Name) = false := by simpa using h
      simp only [this, h, false_or]
      exact ih
theorem mset_new {s : List State} {n : Str} (h : n ∉ s.map State.Name) (hl : s.length ≤ 100) : mset (s.map fun x => (x.Name, true)) n true = some (s.map (fun x => (x.Name, true)) ++ [(n, true)]) := by
  unfold mset
  rw [if_pos (by unfold LIM; simp; omega), mput_new]
  intro p hp e
  obtain ⟨x, hx, rfl⟩ := List.mem_map.1 hp
  exact h (List.mem_map.2 ⟨x, hx, e⟩)
def A1 (s : List State) : Prop := (∀ x ∈ s, word x.Name = true ∧ 1 ≤ x.Rules.length ∧ x.Rules.length ≤ 40) ∧ (s.map State.Name).Nodup
def A2 (s : List State) : Prop := ∀ x ∈ s, ∀ r ∈ x.Rules, RlP r ∧ (r.Next = [] ∨ r.Next ∈ s.map State.Name)
theorem Vs_iff {s : List State} : Vs s ↔ (1 ≤ s.length ∧ s.length ≤ 20) ∧ A1 s ∧ A2 s :=
  ⟨fun h => ⟨h.len, ⟨fun x hx => ⟨h.name x hx, h.rules x hx⟩, h.nd⟩, h.rl⟩, fun ⟨h1, h2, h3⟩ => ⟨h1, fun x hx => (h2.1 x hx).1, fun x hx => (h2.1 x hx).2, h3, h2.2⟩⟩
theorem A1.take {s : List State} {k : Nat} {x : State} (hx : s[k]? = some x) : A1 (s.take (k + 1)) ↔ A1 (s.take k) ∧ (word x.Name = true ∧ 1 ≤ x.Rules.length ∧ x.Rules.length ≤ 40) ∧ x.Name ∉ (s.take k).map State.Name := by
  unfold A1
  rw [← take1 hx]
  simp only [List.mem_append, List.mem_singleton, List.map_append, List.map_cons, List.map_nil, List.nodup_append]
  constructor
  · rintro ⟨h1, h2, _, h3⟩
    exact ⟨⟨fun y hy => h1 y (.inl hy), h2⟩, h1 x (.inr rfl), fun h => h3 _ h _ rfl rfl⟩
  · rintro ⟨⟨h1, h2⟩, h3, h4⟩
    refine ⟨fun y hy => ?_, h2, by simp, fun a ha b hb e => ?_⟩
    · rcases hy with hy | rfl
      · exact h1 y hy
      · exact h3
    · subst hb; subst e; exact h4 ha
theorem A1.sub {s : List State} (k : Nat) (h : A1 s) : A1 (s.take k) :=
  ⟨fun x hx => h.1 x (List.mem_of_mem_take hx), h.2.sublist ((List.take_sublist _ _).map _)⟩
theorem scan_loop1 {N : Nat} {s : List State} (hs : Sz N s) (hl : s.length ≤ 20) :
    (iter (fun st : Int × List (Str × Bool) => scan_Valid_b1 N s st.1 st.2) N (0, []) = some (.inl (s.map fun x => (x.Name, true))) ∧ A1 s) ∨ (iter (fun st : Int × List (Str × Bool) => scan_Valid_b1 N s st.1 st.2) N (0, []) = some (.inr false) ∧ ¬A1 s) := by
  obtain ⟨b, h1, h2⟩ := iter_indE (body := fun st : Int × List (Str × Bool) => scan_Valid_b1 N s st.1 st.2) (fun i st => st = ((i : Int), (s.take i).map fun x => (x.Name, true)) ∧ A1 (s.take i)) s.length
    (fun b => (b = .inl (s.map fun x => (x.Name, true)) ∧ A1 s) ∨ (b = .inr false ∧ ¬A1 s)) (fun i st hi ⟨hst, hA⟩ => by
    subst hst
    obtain ⟨x, hx⟩ := at_lt hi
    have hz := hs.2 x (List.mem_of_getElem? hx)
    have bad : ¬A1 (s.take (i + 1)) → ∃ b : List (Str × Bool) ⊕ Bool, (some (.inr (.inr false)) : Option ((Int × List (Str × Bool)) ⊕ (List (Str × Bool) ⊕ Bool))) = some (.inr b) ∧ ((b = .inl (s.map fun x => (x.Name, true)) ∧ A1 s) ∨ (b = .inr false ∧ ¬A1 s)) := fun h => ⟨_, rfl, .inr ⟨rfl, fun g => h (g.sub _)⟩⟩
    rw [A1.take hx] at bad
    simp only [scan_Valid_b1, dk hi, cond_true, ixg hx, Option.bind_some, scan_word_eq hz.1]
    cases hw : word x.Name with
    | false => exact .inr (bad (fun h => by have := h.2.1.1; rw [hw] at this; cases this))
    | true =>
      simp only [Bool.not_true, cond_false, mget_map]
      by_cases hm : x.Name ∈ (s.take i).map State.Name
      · rw [if_pos hm]
        exact .inr (bad (fun h => h.2.2 hm))
      · rw [if_neg hm]
        simp only [Option.getD_none, cond_false]
        rw [show (1 : Int) = ((1 : Nat) : Int) from rfl, show (40 : Int) = ((40 : Nat) : Int) from rfl]
        by_cases h1 : x.Rules.length < 1
        · rw [decide_eq_true (by omega)]
          exact .inr (bad (fun h => by have := h.2.1.2.1; omega))
        · rw [decide_eq_false (by omega)]
          by_cases h2 : x.Rules.length > 40
          · rw [decide_eq_true (by omega)]
            exact .inr (bad (fun h => by have := h.2.1.2.2; omega))
          · rw [decide_eq_false (by omega)]
            simp only [cond_false]
            rw [mset_new hm (by simp; omega)]
            refine .inl ⟨_, rfl, ?_, ?_⟩
            · rw [← take1 hx]; simp
            · rw [A1.take hx]; exact ⟨hA, ⟨hw, by omega, by omega⟩, hm⟩) (fun st ⟨hst, hA⟩ => by
    subst hst
    rw [List.take_length] at hA ⊢
    exact ⟨_, by simp only [scan_Valid_b1, dn, cond_false], .inl ⟨rfl, hA⟩⟩) N (0, []) hs.1 ⟨by simp, by unfold A1; simp⟩
  rcases h2 with ⟨rfl, h⟩ | ⟨rfl, h⟩
  · exact .inl ⟨h1, h⟩
  · exact .inr ⟨h1, h⟩
theorem scan_rules {N : Nat} {s : List State} (hA : A1 s) {x : State} (hx : SzS N x) :
    (iter (fun st => scan_Valid_b3 N (s.map fun x => (x.Name, true)) x st) N 0 = some (.inl ()) ∧ ∀ r ∈ x.Rules, RlP r ∧ (r.Next = [] ∨ r.Next ∈ s.map State.Name)) ∨ (iter (fun st => scan_Valid_b3 N (s.map fun x => (x.Name, true)) x st) N 0 = some (.inr false) ∧ ¬∀ r ∈ x.Rules, RlP r ∧ (r.Next = [] ∨ r.Next ∈ s.map State.Name)) := by
  have hw : ∀ n ∈ s.map State.Name, word n = true := fun n hn => by
    obtain ⟨y, hy, rfl⟩ := List.mem_map.1 hn
    exact (hA.1 y hy).1
  refine iter_allP (fun r : Rule => RlP r ∧ (r.Next = [] ∨ r.Next ∈ s.map State.Name)) x.Rules hx.2.1 (fun k r hr => ?_) (by simp only [scan_Valid_b3, dn, cond_false])
  simp only [scan_Valid_b3, dk (getlt hr), cond_true, ixg hr, Option.bind_some, neN]
  rcases (scan_sound_eq (hx.2.2 r (List.mem_of_getElem? hr))).cases with ⟨h, p⟩ | ⟨h, p⟩
  · rw [h]
    simp only [Option.bind_some, Bool.not_true, cond_false]
    by_cases h0 : r.Next = []
    · rw [decide_eq_true h0]
      exact .inl ⟨⟨p.1, .inl h0⟩, rfl⟩
    · rw [decide_eq_false h0]
      simp only [Bool.not_false, cond_true, mget_map]
      by_cases hm : r.Next ∈ s.map State.Name
      · rw [if_pos hm]
        exact .inl ⟨⟨p.1, .inr hm⟩, rfl⟩
      · rw [if_neg hm]
        exact .inr ⟨fun h => by rcases h.2 with h | h; exact h0 h; exact hm h, rfl⟩
  · rw [h]
    refine .inr ⟨fun q => p ⟨q.1, ?_⟩, rfl⟩
    rcases q.2 with h | h
    · exact .inl h
    · exact .inr (hw _ h)
theorem scan_loop2 {N : Nat} {s : List State} (hA : A1 s) (hs : Sz N s) :
    (iter (fun st => scan_Valid_b2 N s (s.map fun x => (x.Name, true)) st) N 0 = some (.inl ()) ∧ A2 s) ∨ (iter (fun st => scan_Valid_b2 N s (s.map fun x => (x.Name, true)) st) N 0 = some (.inr false) ∧ ¬A2 s) := by
  refine iter_allP (fun x : State => ∀ r ∈ x.Rules, RlP r ∧ (r.Next = [] ∨ r.Next ∈ s.map State.Name)) s hs.1 (fun k x hx => ?_) (by simp only [scan_Valid_b2, dn, cond_false])
  simp only [scan_Valid_b2, dk (getlt hx), cond_true, ixg hx, Option.bind_some]
  rcases scan_rules hA (hs.2 x (List.mem_of_getElem? hx)) with ⟨h, p⟩ | ⟨h, p⟩
  · rw [h]; exact .inl ⟨p, rfl⟩
  · rw [h]; exact .inr ⟨p, rfl⟩
def Vl (s : List State) : Prop := Vs s ∧ (textT s).length ≤ 8000
def Sb (s : List State) : Prop := ∀ x ∈ s, ∀ r ∈ x.Rules, ∀ y ∈ r.Items, InB y
theorem ScOk.sb {s : List State} (h : ScOk s) : Sb s := fun x hx r hr y hy => (((h.2 x hx).2.2 r hr).2.1.2 y hy).2.1.2
theorem scan_Valid_eq {N : Nat} {s : List State} (hs : Sz N s) (hb : Sb s) (hN : 100 ≤ N) : Tells (scan_Valid N s) (Vl s) := by
  unfold scan_Valid
  by_cases h1 : s.length < 1
  · rw [decide_eq_true (by omega)]
    exact .no rfl (fun h => by have := h.1.len; omega)
  rw [decide_eq_false (by omega)]
  by_cases h2 : s.length > 20
  · rw [decide_eq_true (by omega)]
    exact .no rfl (fun h => by have := h.1.len; omega)
  rw [decide_eq_false (by omega)]
  simp only [cond_false]
  rcases scan_loop1 hs (by omega) with ⟨h, hA⟩ | ⟨h, hA⟩
  · rw [h]
    simp only [Option.bind_some, Sum.elim_inl]
    rcases scan_loop2 hA hs with ⟨h, hB⟩ | ⟨h, hB⟩
    · rw [h]
      simp only [Option.bind_some, Sum.elim_inl]
      have hv : Vs s := Vs_iff.2 ⟨by omega, hA, hB⟩
      rw [scan_text_eq hv hb hN]
      simp only [Option.bind_some]
      rw [show (8000 : Int) = ((8000 : Nat) : Int) from rfl, lenb]
      exact Tells.dec.iff ⟨fun h => ⟨hv, h⟩, fun h => h.2⟩
    · rw [h]
      exact .no rfl (fun h => hB (Vs_iff.1 h.1).2.2)
  · rw [h]
    exact .no rfl (fun h => hA (Vs_iff.1 h.1).2.1)
def fst (s : List State) (n : Str) : Int := match s.findIdx? (fun y => y.Name == n) with | some k => (k : Int) | none => -1
theorem fst_mem {s : List State} {n : Str} : (fst s n < 0) ↔ n ∉ s.map State.Name := by
  unfold fst
  cases h : s.findIdx? (fun y => y.Name == n) with
  | none =>
    have := List.findIdx?_eq_none_iff.1 h
    refine ⟨fun _ hm => ?_, fun _ => by decide⟩
    obtain ⟨y, hy, e⟩ := List.mem_map.1 hm
    have := this y hy
    simp [e] at this
  | some k =>
    obtain ⟨hk, h1, _⟩ := List.findIdx?_eq_some_iff_getElem.1 h
    refine ⟨fun h => by simp only at h; omega, fun hm => absurd (List.mem_map.2 ⟨s[k], List.getElem_mem hk, by simpa using h1⟩) hm⟩
end Go.Proofs.Ytmmioinglmeoiaa
namespace Go.Proofs.Ytmmioinglmeoiaa
open Go.X
def inCls (x : Item) (c : Nat) : Bool := x.Not != x.Ranges.any (fun g => decide (g.From ≤ (c : Int)) && decide ((c : Int) ≤ g.To))
def hit (x : Item) (s : Str) : Option Nat :=
  if x.Text = [] then (match s with | [] => none | c :: _ => if inCls x c.toNat then some 1 else none)
  else if x.Text.isPrefixOf s then some x.Text.length else none
def run (x : Item) : Nat → Str → Nat → Nat × Nat
  | 0, _, c => (0, c)
  | f + 1, s, c => if x.Most < 0 ∨ (c : Int) < x.Most then (match hit x s with | some k => (k + (run x f (s.drop k) (c + 1)).1, (run x f (s.drop k) (c + 1)).2) | none => (0, c)) else (0, c)
def runs : List Item → Str → Option Nat
  | [], _ => some 0
  | x :: l, s => if ((run x (s.length + 1) s 0).2 : Int) < x.Least then none else (runs l (s.drop (run x (s.length + 1) s 0).1)).map ((run x (s.length + 1) s 0).1 + ·)
def bitsOf (x : Item) : Option (List Bool) := if x.Text = [] then some ((List.range 256).map (inCls x)) else none
theorem hit_le {x : Item} {s : Str} {k : Nat} (h : hit x s = some k) : 1 ≤ k ∧ k ≤ s.length := by
  unfold hit at h
  split at h
  · cases s with
    | nil => cases h
    | cons c s =>
      simp only at h
      split at h
      · cases h; simp
      · cases h
  · rename_i h0
    split at h
    · rename_i hp
      cases h
      have := (List.isPrefixOf_iff_prefix.1 hp).length_le
      exact ⟨List.length_pos_iff.2 h0, this⟩
    · cases h
theorem run_le (x : Item) : ∀ (f : Nat) (s : Str) (c : Nat), (run x f s c).1 ≤ s.length := by
  intro f
  induction f with
  | zero => intro s c; simp [run]
  | succ f ih =>
    intro s c
    unfold run
    split
    · cases h : hit x s with
      | none => simp
      | some k =>
        have h1 := hit_le h
        have h2 := ih (s.drop k) (c + 1)
        simp only [List.length_drop] at h2 ⊢
        omega
    · simp
theorem runs_le : ∀ (l : List Item) (s : Str) (n : Nat), runs l s = some n → n ≤ s.length := by
  intro l
  induction l with
  | nil => intro s n h; simp [runs] at h; omega
  | cons x l ih =>
    intro s n h
    unfold runs at h
    split at h
    · cases h
    · cases hr : runs l (s.drop (run x (s.length + 1) s 0).1) with
      | none => rw [hr] at h; cases h
      | some m =>
        rw [hr] at h
        have h1 := ih _ _ hr
        have h2 := run_le x (s.length + 1) s 0
        simp only [Option.map_some, Option.some.injEq] at h
        simp only [List.length_drop] at h1
        omega
theorem wrap_u8 {c : Nat} (h : c < 256) : IntKind.wrap .u8 (c : Int) = (c : Int) := wrap_of (inR_u8.2 ⟨by omega, by omega⟩)
theorem scan_has_eq {N : Nat} {x : Item} {c : Nat} (hc : c < 256) (hN : x.Ranges.length < N) : slices_ContainsFunc_scan_Range_scan_Range__76 N x.Ranges (c : Int) = some (x.Ranges.any (fun g => decide (g.From ≤ (c : Int)) && decide ((c : Int) ≤ g.To))) := by
  unfold slices_ContainsFunc_scan_Range_scan_Range__76 slices_IndexFunc_scan_Range_scan_Range__76
  rw [idxf x.Ranges (fun g : Range => decide (g.From ≤ (c : Int)) && decide ((c : Int) ≤ g.To)) hN (fun k g hg => by
    simp only [slices_IndexFunc_scan_Range_scan_Range__76_b1, dk (getlt hg), cond_true, ixg hg, Option.bind_some, scan_class_1, wrap_u8 hc, ge_iff_le]
    cases decide (g.From ≤ (c : Int)) <;> cases decide ((c : Int) ≤ g.To) <;> rfl) (by simp only [slices_IndexFunc_scan_Range_scan_Range__76_b1, dn, cond_false])]
  rw [Option.bind_some]
  exact congrArg some (find_ge _ _)
theorem setI_app {α : Type} {l r : List α} {k : Nat} (h : l.length = k) (y z : α) : setI (l ++ y :: r) (k : Int) z = some (l ++ z :: r) := by
  unfold setI
  subst h
  rw [if_pos (by simp)]
  simp
theorem rep_split {α : Type} (z : α) {k n : Nat} (h : k < n) : List.replicate (n - k) z = z :: List.replicate (n - (k + 1)) z := by
  rw [show n - k = (n - (k + 1)) + 1 by omega, List.replicate_succ]
theorem scan_class_eq {N : Nat} {x : Item} (hN : x.Ranges.length < N) (h2 : 300 ≤ N) : scan_class N x = some (some ((List.range 256).map (inCls x))) := by
  unfold scan_class
  refine (iter_atB (fun k : Nat => ((k : Int), (List.range k).map (inCls x) ++ List.replicate (256 - k) false)) 256 ((List.range 256).map (inCls x)) rfl (by omega) (fun k hk => ?_) ?_).trans rfl
  · have e : decide ((k : Int) < 256) = true := decide_eq_true (by omega)
    simp only [scan_class_b1, e, cond_true, scan_has_eq hk hN, Option.bind_some]
    rw [rep_split false hk, ix]
    have hl : ((List.range k).map (inCls x)).length = k := by simp
    rw [List.getElem?_append_right (by omega), hl, Nat.sub_self]
    simp only [List.getElem?_cons_zero, Option.bind_some]
    rw [setI_app hl]
    simp only [Option.bind_some, List.range_succ, List.map_append, List.append_assoc]
    rfl
  · simp [scan_class_b1]
theorem scan_classes_eq {N : Nat} {l : List Item} (hs : SzL N l) (h2 : 300 ≤ N) (hl : l.length ≤ 1000000) : scan_classes N l = some (l.map bitsOf) := by
  unfold scan_classes
  unfold Go.X.mk
  rw [if_pos (by unfold LIM; omega)]
  simp only [Option.bind_some, Int.toNat_natCast]
  refine (iter_atB (fun k : Nat => ((k : Int), (l.take k).map bitsOf ++ List.replicate (l.length - k) none)) l.length (l.map bitsOf) (by simp) hs.1 (fun k hk => ?_) ?_).trans rfl
  · obtain ⟨x, hx⟩ := at_lt hk
    simp only [scan_classes_b1, dk hk, cond_true, ixg hx, Option.bind_some]
    have hl : ((l.take k).map bitsOf).length = k := by simp; omega
    rw [rep_split none hk, ← take1 hx]
    by_cases h0 : x.Text = []
    · have e : (x.Text == ([] : Str)) = true := by rw [h0]; rfl
      rw [e]
      simp only [cond_true, scan_class_eq (hs.2 x (List.mem_of_getElem? hx)).2 h2, Option.bind_some]
      rw [ix, List.getElem?_append_right (by omega), hl, Nat.sub_self]
      simp only [List.getElem?_cons_zero, Option.bind_some]
      rw [setI_app hl]
      simp [bitsOf, h0]
    · have e : (x.Text == ([] : Str)) = false := by simpa using h0
      rw [e]
      simp [bitsOf, h0]
  · simp [scan_classes_b1]
theorem slc_tail {α : Type} {s : List α} {n : Nat} (h : n ≤ s.length) : slc s (n : Int) (s.length : Int) = some (s.drop n) := by
  unfold slc
  rw [if_pos (by omega)]
  congr 1
  rw [Int.toNat_natCast, List.take_of_length_le]
  simp only [List.length_drop]
  omega
theorem slc_mid {α : Type} {s : List α} {a b : Nat} (h : a + b ≤ s.length) : slc s (a : Int) ((a : Int) + (b : Int)) = some ((s.drop a).take b) := by
  unfold slc
  rw [if_pos (by omega)]
  congr 2
  omega
theorem wrapN {n : Nat} (h : n ≤ 1000000000) : IntKind.wrap .i64 (n : Int) = (n : Int) := wrap_of (inR_i64.2 ⟨by omega, by omega⟩)
theorem drop_hd {s : Str} {n : Nat} (h : n < s.length) : ∃ c, s[n]? = some c ∧ s.drop n = c :: s.drop (n + 1) :=
  ⟨s[n], List.getElem?_eq_getElem h, by rw [List.drop_eq_getElem_cons h]⟩
theorem bits_at (x : Item) (c : UInt8) : idx ((List.range 256).map (inCls x)) (c.toNat : Int) = some (inCls x c.toNat) := by
  rw [ix]; simp [u8lt c]
theorem take_b1_eq {N : Nat} {x : Item} {s : Str} {n c : Nat} (hn : n ≤ s.length) (hl : s.length ≤ 1000000) (hc : c ≤ 1000000) :
    scan_take_b1 N x (bitsOf x) s n c = some (if x.Most < 0 ∨ (c : Int) < x.Most then (match hit x (s.drop n) with | some k => .inl (((n + k : Nat) : Int), ((c + 1 : Nat) : Int)) | none => .inr (.inr ((n : Int), decide ((c : Int) ≥ x.Least)))) else .inr (.inl ((n : Int), (c : Int)))) := by
  have hw : IntKind.wrap .i64 ((c + 1 : Nat) : Int) = ((c + 1 : Nat) : Int) := wrapN (by omega)
  have hw2 : ((c : Int) + 1) = ((c + 1 : Nat) : Int) := by omega
  by_cases h0 : x.Text = []
  · have e : (x.Text == ([] : Str)) = true := by rw [h0]; rfl
    have e2 : (x.Text != ([] : Str)) = false := by rw [h0]; rfl
    have hb : bitsOf x = some ((List.range 256).map (inCls x)) := by unfold bitsOf; rw [if_pos h0]
    have hh : hit x (s.drop n) = (match s.drop n with | [] => none | d :: _ => if inCls x d.toNat then some 1 else none) := by unfold hit; rw [if_pos h0]; cases s.drop n <;> rfl
    simp only [scan_take_b1, e, e2, cond_true, cond_false, hb, Option.bind_some, hw, hw2]
    have core : ∀ (A : Option ((Int × Int) ⊕ ((Int × Int) ⊕ (Int × Bool)))), A = some (match hit x (s.drop n) with | some k => .inl (((n + k : Nat) : Int), ((c + 1 : Nat) : Int)) | none => .inr (.inr ((n : Int), decide ((c : Int) ≥ x.Least)))) → (x.Most < 0 ∨ (c : Int) < x.Most) → A = some (if x.Most < 0 ∨ (c : Int) < x.Most then (match hit x (s.drop n) with | some k => .inl (((n + k : Nat) : Int), ((c + 1 : Nat) : Int)) | none => .inr (.inr ((n : Int), decide ((c : Int) ≥ x.Least)))) else .inr (.inl ((n : Int), (c : Int)))) := fun A h g => by rw [h, if_pos g]
    have inner : (bif decide ((n : Int) < (s.length : Int)) then
        (idx s n).bind fun c25 => (idx ((List.range 256).map (inCls x)) (c25.toNat : Int)).bind fun x37 =>
          bif x37 then some (.inl ((n : Int) + 1, ((c + 1 : Nat) : Int))) else some (.inr (.inr ((n : Int), decide ((c : Int) ≥ x.Least))))
        else some (.inr (.inr ((n : Int), decide ((c : Int) ≥ x.Least)))) : Option ((Int × Int) ⊕ ((Int × Int) ⊕ (Int × Bool)))) = some (match hit x (s.drop n) with | some k => .inl (((n + k : Nat) : Int), ((c + 1 : Nat) : Int)) | none => .inr (.inr ((n : Int), decide ((c : Int) ≥ x.Least)))) := by
      by_cases hlt : n < s.length
      · obtain ⟨d, hd, hdr⟩ := drop_hd hlt
        rw [hh, hdr, decide_eq_true (by omega)]
        simp only [cond_true, ixg hd, Option.bind_some, bits_at]
        cases inCls x d.toNat <;> rfl
      · rw [hh, List.drop_of_length_le (by omega), decide_eq_false (by omega)]
        rfl
    by_cases hm : x.Most < 0
    · rw [decide_eq_true hm]
      exact core _ inner (.inl hm)
    · rw [decide_eq_false hm]
      by_cases hm2 : (c : Int) < x.Most
      · rw [decide_eq_true hm2]
        exact core _ inner (.inr hm2)
      · rw [decide_eq_false hm2, if_neg (by omega)]
        rfl
  · have e : (x.Text == ([] : Str)) = false := by simpa using h0
    have e2 : (x.Text != ([] : Str)) = true := by simpa using h0
    have hh : hit x (s.drop n) = (if x.Text.isPrefixOf (s.drop n) then some x.Text.length else none) := by unfold hit; rw [if_neg h0]
    simp only [scan_take_b1, e, e2, cond_true, cond_false, slc_tail hn, Option.bind_some, hw, hw2, strings_HasPrefix, Lib.hasPrefix]
    have inner : (bif x.Text.isPrefixOf (s.drop n) then some (.inl (IntKind.wrap .i64 ((n : Int) + (x.Text.length : Int)), ((c + 1 : Nat) : Int))) else some (.inr (.inr ((n : Int), decide ((c : Int) ≥ x.Least)))) : Option ((Int × Int) ⊕ ((Int × Int) ⊕ (Int × Bool)))) = some (match hit x (s.drop n) with | some k => .inl (((n + k : Nat) : Int), ((c + 1 : Nat) : Int)) | none => .inr (.inr ((n : Int), decide ((c : Int) ≥ x.Least)))) := by
      rw [hh]
      cases hp : x.Text.isPrefixOf (s.drop n) with
      | true =>
        have := (List.isPrefixOf_iff_prefix.1 hp).length_le
        simp only [List.length_drop] at this
        simp only [cond_true, if_true]
        rw [show (n : Int) + (x.Text.length : Int) = ((n + x.Text.length : Nat) : Int) by omega, wrapN (by omega)]
      | false => simp
    by_cases hm : x.Most < 0
    · rw [decide_eq_true hm, if_pos (.inl hm)]
      exact inner
    · rw [decide_eq_false hm]
      by_cases hm2 : (c : Int) < x.Most
      · rw [decide_eq_true hm2, if_pos (.inr hm2)]
        exact inner
      · rw [decide_eq_false hm2, if_neg (by omega)]
        rfl
theorem scan_take_eq {N : Nat} {x : Item} {s : Str} (hl : s.length ≤ 1000000) (hN : s.length + 1 ≤ N) :
    scan_take N x (bitsOf x) s = some (((run x (s.length + 1) s 0).1 : Int), decide (((run x (s.length + 1) s 0).2 : Int) ≥ x.Least)) := by
  unfold scan_take
  have key : ∀ (f M n c : Nat), s.length - n < f → f ≤ M → n ≤ s.length → c ≤ n → ((iter (fun st : Int × Int => scan_take_b1 N x (bitsOf x) s st.1 st.2) M ((n : Int), (c : Int))).bind fun o9 =>
      Sum.elim (fun o9 : Int × Int => some (o9.1, (decide (o9.2 ≥ x.Least)))) (fun o9 : Int × Bool => some o9) o9) = some (((n + (run x f (s.drop n) c).1 : Nat) : Int), decide (((run x f (s.drop n) c).2 : Int) ≥ x.Least)) := by
    intro f
    induction f with
    | zero => intro M n c h; omega
    | succ f ih =>
      intro M n c hf hM hn hc
      obtain ⟨M, rfl⟩ : ∃ M', M = M' + 1 := ⟨M - 1, by omega⟩
      have hb := take_b1_eq (N := N) (x := x) (c := c) hn hl (by omega)
      unfold run
      by_cases hm : x.Most < 0 ∨ (c : Int) < x.Most
      · rw [if_pos hm] at hb ⊢
        cases hh : hit x (s.drop n) with
        | none =>
          rw [hh] at hb
          simp only [iter, hb, Option.bind_some, Sum.elim_inr]
          rfl
        | some k =>
          rw [hh] at hb
          have hk := hit_le hh
          simp only [List.length_drop] at hk
          simp only [iter, hb]
          have := ih M (n + k) (c + 1) (by omega) (by omega) (by omega) (by omega)
          rw [this]
          simp only [List.drop_drop, Nat.add_assoc]
      · rw [if_neg hm] at hb ⊢
        simp only [iter, hb, Option.bind_some, Sum.elim_inl]
        rfl
  have := key (s.length + 1) N 0 0 (by omega) hN (by omega) (by omega)
  simpa using this
theorem scan_match_eq {N : Nat} {l : List Item} {s : Str} (hs : l.length < N) (hl : s.length ≤ 1000000) (hN : s.length + 1 ≤ N) :
    scan_match N l (l.map bitsOf) s = some (match runs l s with | some n => ((n : Int), true) | none => (0, false)) := by
  unfold scan_match
  have key : ∀ (j k M n : Nat), k + j = l.length → j < M → n ≤ s.length → ((iter (fun st : Int × Int => scan_match_b1 N l (l.map bitsOf) s st.1 st.2) M ((n : Int), (k : Int))).bind fun o3 =>
      Sum.elim (fun o3 : Int => some (o3, true)) (fun o3 : Int × Bool => some o3) o3) = some (match runs (l.drop k) (s.drop n) with | some m => (((n + m : Nat) : Int), true) | none => (0, false)) := by
    intro j
    induction j with
    | zero =>
      intro k M n hk hM hn
      obtain ⟨M, rfl⟩ : ∃ M', M = M' + 1 := ⟨M - 1, by omega⟩
      obtain rfl : k = l.length := by omega
      simp only [iter, scan_match_b1, dn, cond_false, Option.bind_some, Sum.elim_inl, List.drop_length, runs]
      rfl
    | succ j ih =>
      intro k M n hk hM hn
      obtain ⟨M, rfl⟩ : ∃ M', M = M' + 1 := ⟨M - 1, by omega⟩
      have hkl : k < l.length := by omega
      obtain ⟨x, hx⟩ := at_lt hkl
      have hxe : l[k] = x := by rw [List.getElem?_eq_getElem hkl] at hx; exact Option.some.inj hx
      have hb : idx (l.map bitsOf) (k : Int) = some (bitsOf x) := by rw [ix, List.getElem?_map, hx]; rfl
      have ht := scan_take_eq (N := N) (x := x) (s := s.drop n) (by simp; omega) (by simp; omega)
      have hr := run_le x ((s.drop n).length + 1) (s.drop n) 0
      rw [List.drop_eq_getElem_cons hkl, hxe]
      simp only [runs]
      generalize hg : run x ((s.drop n).length + 1) (s.drop n) 0 = g at ht hr ⊢
      simp only [List.length_drop] at hr
      by_cases hc : (g.2 : Int) < x.Least
      · have hbd : scan_match_b1 N l (l.map bitsOf) s n k = some (.inr (.inr (0, false))) := by
          simp only [scan_match_b1, dk hkl, cond_true, ixg hx, hb, Option.bind_some, slc_tail hn, ht]
          rw [decide_eq_false (by omega)]
          rfl
        simp only [iter, hbd, if_pos hc]
        rfl
      · have hbd : scan_match_b1 N l (l.map bitsOf) s n k = some (.inl (((n + g.1 : Nat) : Int), ((k + 1 : Nat) : Int))) := by
          simp only [scan_match_b1, dk hkl, cond_true, ixg hx, hb, Option.bind_some, slc_tail hn, ht]
          rw [decide_eq_true (by omega)]
          simp only [Bool.not_true, cond_false]
          rw [show (n : Int) + (g.1 : Int) = ((n + g.1 : Nat) : Int) by omega, wrapN (by omega), show (k : Int) + 1 = ((k + 1 : Nat) : Int) by omega]
        simp only [iter, hbd, if_neg hc]
        have := ih (k + 1) M (n + g.1) (by omega) (by omega) (by omega)
        rw [this, List.drop_drop]
        cases runs (l.drop (k + 1)) (s.drop (n + g.1)) with
        | none => rfl
        | some m => simp only [Option.map_some, Nat.add_assoc]
  have := key l.length 0 N 0 (by omega) hs (by omega)
  simpa using this
end Go.Proofs.Ytmmioinglmeoiaa
namespace Go.Proofs.Ytmmioinglmeoiaa
open Go.X
def firstRule : List Rule → Str → Option (Rule × Nat)
  | [], _ => none
  | r :: rs, t => match runs r.Items t with | some n => if n = 0 then firstRule rs t else some (r, n) | none => firstRule rs t
theorem firstRule_of : ∀ {rs : List Rule} {t : Str} {r : Rule} {n : Nat}, firstRule rs t = some (r, n) → r ∈ rs ∧ 1 ≤ n ∧ n ≤ t.length := by
  intro rs
  induction rs with
  | nil => intro t r n h; cases h
  | cons q rs ih =>
    intro t r n h
    unfold firstRule at h
    cases hr : runs q.Items t with
    | none =>
      rw [hr] at h
      obtain ⟨h1, h2⟩ := ih h
      exact ⟨List.mem_cons_of_mem _ h1, h2⟩
    | some m =>
      rw [hr] at h
      simp only at h
      split at h
      · obtain ⟨h1, h2⟩ := ih h
        exact ⟨List.mem_cons_of_mem _ h1, h2⟩
      · cases h
        exact ⟨List.mem_cons_self .., by omega, runs_le _ _ _ hr⟩
def nextSt (s : List State) (st : Int) (r : Rule) : Int := if r.Next = [] then st else fst s r.Next
def prs : Nat → List State → List (Str × Int)
  | _, [] => []
  | k, x :: s => (x.Name, (k : Int)) :: prs (k + 1) s
theorem prs_app : ∀ (k : Nat) (s : List State) (x : State), prs k (s ++ [x]) = prs k s ++ [(x.Name, ((k + s.length : Nat) : Int))] := by
  intro k s
  induction s generalizing k with
  | nil => intro x; simp [prs]
  | cons y s ih =>
    intro x
    simp only [List.cons_append, prs, ih, List.length_cons]
    rw [show k + 1 + s.length = k + (s.length + 1) by omega]
theorem prs_get : ∀ (k : Nat) (s : List State) (n : Str), mget (prs k s) n = (s.findIdx? (fun y => y.Name == n)).map (fun i => ((k + i : Nat) : Int)) := by
  intro k s
  induction s generalizing k with
  | nil => intro n; rfl
  | cons y s ih =>
    intro n
    unfold mget at ih ⊢
    simp only [prs, List.find?_cons, List.findIdx?_cons]
    by_cases h : y.Name = n
    · subst h; simp
    · have e : (n == y.Name) = false := by simpa using fun h' => h h'.symm
      have e2 : (y.Name == n) = false := by simpa using h
      rw [e, e2]
      simp only [Bool.false_eq_true, if_false, ih, Option.map_map]
      congr 1
      funext i
      simp only [Function.comp]
      omega
theorem prs_key {k : Nat} {s : List State} {n : Str} (h : n ∉ s.map State.Name) : ∀ p ∈ prs k s, p.1 ≠ n := by
  induction s generalizing k with
  | nil => intro p hp; cases hp
  | cons y s ih =>
    intro p hp
    simp only [List.map_cons, List.mem_cons, not_or] at h
    rcases List.mem_cons.1 hp with rfl | hp
    · exact fun e => h.1 e.symm
    · exact ih h.2 p hp
theorem prs_len : ∀ (k : Nat) (s : List State), (prs k s).length = s.length := by
  intro k s
  induction s generalizing k with
  | nil => rfl
  | cons y s ih => simp [prs, ih]
def ltab (s : List State) : List (List (List (Option (List Bool)))) := s.map fun x => x.Rules.map fun r => r.Items.map bitsOf
theorem mput_new2 {l : List (Str × Int)} {n : Str} {v : Int} (h : ∀ p ∈ l, p.1 ≠ n) : mput l n v = l ++ [(n, v)] := by
  induction l with
  | nil => rfl
  | cons p l ih =>
    obtain ⟨a, b⟩ := p
    have e : (n == a) = false := by simpa using fun h' => h (a, b) (List.mem_cons_self ..) h'.symm
    unfold mput
    rw [e, ih fun q hq => h q (List.mem_cons_of_mem _ hq)]
    rfl
theorem lexerOf_eq {N : Nat} {s : List State} (hs : Sz N s) (hv : Vs s) (hN : 300 ≤ N) : scan_lexerOf N s = some (Lexer.mk s (ltab s) (prs 0 s)) := by
  unfold scan_lexerOf
  refine (iter_atB (fun k : Nat => ((k : Int), Lexer.mk s (ltab (s.take k)) (prs 0 (s.take k)))) s.length (Lexer.mk s (ltab s) (prs 0 s)) rfl hs.1 (fun k hk => ?_) ?_).trans rfl
  · obtain ⟨x, hx⟩ := at_lt hk
    have hm := List.mem_of_getElem? hx
    have hxe : s[k] = x := by rw [List.getElem?_eq_getElem hk] at hx; exact Option.some.inj hx
    have hl := hv.len
    have hr := hv.rules x hm
    have hnot : x.Name ∉ (s.take k).map State.Name := ((A1.take hx).1 ((Vs_iff.1 hv).2.1.sub (k + 1))).2.2
    simp only [scan_lexerOf_b1, dk hk, cond_true, ixg hx, Option.bind_some]
    have hset : mset (prs 0 (s.take k)) x.Name (k : Int) = some (prs 0 (s.take (k + 1))) := by
      unfold mset
      rw [if_pos (by rw [prs_len]; unfold LIM; simp; omega), mput_new2 (prs_key hnot), ← take1 hx, prs_app]
      rw [show 0 + (s.take k).length = k by simp; omega]
    rw [hset]
    simp only [Option.bind_some]
    have hrow : iter (fun st : List (List (Option (List Bool))) × Int => scan_lexerOf_b2 N x st.1 st.2) N ([], 0) = some (x.Rules.map fun r => r.Items.map bitsOf) := by
      refine iter_at (fun j : Nat => ((x.Rules.take j).map (fun r => r.Items.map bitsOf), (j : Int))) x.Rules.length _ rfl (fun j hj => ?_) ?_ N (hs.2 x hm).2.1
      · obtain ⟨r, hr'⟩ := at_lt hj
        have hrm := List.mem_of_getElem? hr'
        have hi := (hv.rl x hm r hrm).1.2.1
        simp only [scan_lexerOf_b2, dk hj, cond_true, ixg hr', Option.bind_some]
        rw [scan_classes_eq ((hs.2 x hm).2.2 r hrm).2.2 hN (by omega)]
        simp only [Option.bind_some]
        rw [app1 (by simp; omega), ← take1 hr']
        simp
      · simp [scan_lexerOf_b2]
    rw [hrow]
    simp only [Option.bind_some]
    rw [app1 (by simp [ltab]; omega), ← take1 hx]
    simp [ltab]
  · simp [scan_lexerOf_b1]
theorem states_get {s : List State} {n : Str} (h : n ∈ s.map State.Name) : (mget (prs 0 s) n).getD 0 = fst s n := by
  rw [prs_get]
  unfold fst
  cases hf : s.findIdx? (fun y => y.Name == n) with
  | none =>
    obtain ⟨y, hy, e⟩ := List.mem_map.1 h
    have := List.findIdx?_eq_none_iff.1 hf y hy
    simp [e] at this
  | some i => simp
def stepN (s : List State) (st : Nat) (t : Str) (at' : Nat) : Option (Token × Int) :=
  match s[st]? with
  | none => none
  | some x => match firstRule x.Rules (t.drop at') with
    | some (r, n) => some (Token.mk r.Kind ((t.drop at').take n) at', nextSt s st r)
    | none => none
theorem ltab_at {s : List State} {st : Nat} {x : State} (h : s[st]? = some x) : idx (ltab s) (st : Int) = some (x.Rules.map fun r => r.Items.map bitsOf) := by
  rw [ix]; unfold ltab; rw [List.getElem?_map, h]; rfl
theorem neE (w : Str) : (w != ([] : Str)) = !decide (w = []) := by by_cases h : w = [] <;> simp [h]
theorem lexer_step_eq {N : Nat} {s : List State} {t : Str} {st p : Nat} (hs : Sz N s) (hv : Vs s) (hst : st < s.length) (hp : p ≤ t.length) (ht : t.length ≤ 1000000) (hN : 300 ≤ N) (hN2 : t.length + 1 ≤ N) :
    scan_lexer_step N st t p (Lexer.mk s (ltab s) (prs 0 s)) = some (match stepN s st t p with | some (k, n) => (k, n, true) | none => (Token.mk [] [] 0, 0, false)) := by
  obtain ⟨x, hx⟩ := at_lt hst
  have hm := List.mem_of_getElem? hx
  unfold scan_lexer_step
  simp only [ixg hx, Option.bind_some]
  have key : ∀ (j k M : Nat), k + j = x.Rules.length → j < M → ((iter (fun a : Int × Int => scan_lexer_step_b1 N t p (Lexer.mk s (ltab s) (prs 0 s)) x a.1 a.2) M ((st : Int), (k : Int))).bind fun o24 =>
      Sum.elim (fun _o24 : Unit => some ((Token.mk ([]) ([]) 0), (0 : Int), false)) (fun o24 : Token × Int × Bool => some o24) o24) = some (match firstRule (x.Rules.drop k) (t.drop p) with | some (r, n) => (Token.mk r.Kind ((t.drop p).take n) p, nextSt s st r, true) | none => (Token.mk [] [] 0, 0, false)) := by
    intro j
    induction j with
    | zero =>
      intro k M hk hM
      obtain ⟨M, rfl⟩ : ∃ M', M = M' + 1 := ⟨M - 1, by omega⟩
      obtain rfl : k = x.Rules.length := by omega
      have hb : scan_lexer_step_b1 N t p (Lexer.mk s (ltab s) (prs 0 s)) x st x.Rules.length = some (.inr (.inl ())) := by simp only [scan_lexer_step_b1, dn, cond_false]
      simp only [iter, hb, List.drop_length, firstRule]
      rfl
    | succ j ih =>
      intro k M hk hM
      obtain ⟨M, rfl⟩ : ∃ M', M = M' + 1 := ⟨M - 1, by omega⟩
      have hkl : k < x.Rules.length := by omega
      obtain ⟨r, hr⟩ := at_lt hkl
      have hre : x.Rules[k] = r := by rw [List.getElem?_eq_getElem hkl] at hr; exact Option.some.inj hr
      have hrm := List.mem_of_getElem? hr
      have hz := ((hs.2 x hm).2.2 r hrm).2.2
      have hrow : idx (x.Rules.map fun r => r.Items.map bitsOf) (k : Int) = some (r.Items.map bitsOf) := by rw [ix, List.getElem?_map, hr]; rfl
      have hmt := scan_match_eq (N := N) (l := r.Items) (s := t.drop p) hz.1 (by simp; omega) (by simp; omega)
      have hnx := (hv.rl x hm r hrm).2
      rw [List.drop_eq_getElem_cons hkl, hre]
      unfold firstRule
      have hgo : scan_lexer_step_b1 N t p (Lexer.mk s (ltab s) (prs 0 s)) x st k = some (match runs r.Items (t.drop p) with | some n => if n = 0 then .inl ((st : Int), ((k + 1 : Nat) : Int)) else .inr (.inr (Token.mk r.Kind ((t.drop p).take n) p, nextSt s st r, true)) | none => .inl ((st : Int), ((k + 1 : Nat) : Int))) := by
        simp only [scan_lexer_step_b1, dk hkl, cond_true, ixg hr, Option.bind_some, ltab_at hx, hrow, slc_tail hp, hmt]
        cases hru : runs r.Items (t.drop p) with
        | none => rfl
        | some n =>
          have hle := runs_le _ _ _ hru
          simp only [List.length_drop] at hle
          simp only [Bool.not_true, cond_false]
          by_cases h0 : n = 0
          · subst h0; rfl
          · have e : (((n : Int)) == 0) = false := by rw [beq_eq_false_iff_ne]; omega
            rw [e, if_neg h0, neE]
            simp only [cond_false]
            rw [show (p : Int) + (n : Int) = ((p + n : Nat) : Int) by omega, wrapN (by omega), show ((p + n : Nat) : Int) = (p : Int) + (n : Int) by omega, slc_mid (by omega)]
            unfold nextSt
            by_cases h1 : r.Next = []
            · simp [h1]
            · have := states_get (hnx.resolve_left h1)
              simp [h1, this]
      cases hru : runs r.Items (t.drop p) with
      | none =>
        rw [hru] at hgo
        simp only [iter, hgo]
        exact ih (k + 1) M (by omega) (by omega)
      | some n =>
        rw [hru] at hgo
        by_cases h0 : n = 0
        · simp only [if_pos h0] at hgo ⊢
          simp only [iter, hgo]
          exact ih (k + 1) M (by omega) (by omega)
        · simp only [if_neg h0] at hgo ⊢
          simp only [iter, hgo]
          rfl
  have := key x.Rules.length 0 N (by omega) (hs.2 x hm).2.1
  refine this.trans ?_
  unfold stepN
  rw [hx, List.drop_zero]
  simp only
  cases firstRule x.Rules (t.drop p) with
  | none => rfl
  | some q => rfl
def stepR (s : List State) (st : Int) (t : Str) (p : Int) : Token × Int × Int :=
  if st < 0 ∨ st ≥ (s.length : Int) ∨ p < 0 ∨ p > (t.length : Int) then (Token.mk [] [] 0, 0, 2) else if p = (t.length : Int) then (Token.mk [] [] 0, 0, 8) else match stepN s st.toNat t p.toNat with | some (k, n) => (k, n, 0) | none => (Token.mk [] [] 0, 0, 3)
theorem scan_Step_ok {N : Nat} {s : List State} {t : Str} {st p : Int} (hs : Sz N s) (hb : Sb s) (hv : Vl s) (ht : t.length ≤ 1000000) (hN : 300 ≤ N) (hN2 : t.length + 1 ≤ N) :
    scan_Step N s st t p = some (stepR s st t p) := by
  unfold scan_Step
  rcases (scan_Valid_eq hs hb (by omega)).cases with ⟨h, _⟩ | ⟨_, h⟩
  rotate_left
  · exact absurd hv h
  rw [h]
  simp only [Option.bind_some, Bool.not_true, cond_false]
  by_cases g1 : st < 0
  · rw [decide_eq_true g1]; unfold stepR; rw [if_pos (.inl g1)]; rfl
  rw [decide_eq_false g1]
  by_cases g2 : st ≥ (s.length : Int)
  · rw [decide_eq_true g2]; unfold stepR; rw [if_pos (.inr (.inl g2))]; rfl
  rw [decide_eq_false g2]
  by_cases g3 : p < 0
  · rw [decide_eq_true g3]; unfold stepR; rw [if_pos (.inr (.inr (.inl g3)))]; rfl
  rw [decide_eq_false g3]
  by_cases g4 : p > (t.length : Int)
  · rw [decide_eq_true g4]; unfold stepR; rw [if_pos (.inr (.inr (.inr g4)))]; rfl
  rw [decide_eq_false g4]
  unfold stepR
  rw [if_neg (by omega), beqd]
  by_cases g5 : p = (t.length : Int)
  · rw [if_pos g5, decide_eq_true g5]; rfl
  rw [if_neg g5, decide_eq_false g5]
  obtain ⟨a, rfl⟩ : ∃ a : Nat, st = (a : Int) := ⟨st.toNat, by omega⟩
  obtain ⟨b, rfl⟩ : ∃ b : Nat, p = (b : Int) := ⟨p.toNat, by omega⟩
  simp only [cond_false, lexerOf_eq hs hv.1 hN, Option.bind_some, lexer_step_eq hs hv.1 (show a < s.length by omega) (show b ≤ t.length by omega) ht hN hN2, Int.toNat_natCast]
  cases stepN s a t b with
  | none => rfl
  | some q => rfl
def tks (s : List State) (t : Str) : Nat → Nat → Nat → (Nat ⊕ List Token)
  | 0, _, _ => .inr []
  | f + 1, p, st => if t.length ≤ p then .inr [] else match stepN s st t p with
    | some (k, n) => (match tks s t f (p + k.Text.length) n.toNat with | .inr l => .inr (k :: l) | .inl e => .inl e)
    | none => .inl p
theorem fst_range {s : List State} {n : Str} (h : n ∈ s.map State.Name) : 0 ≤ fst s n ∧ fst s n < (s.length : Int) := by
  have h1 : ¬fst s n < 0 := fun g => fst_mem.1 g h
  refine ⟨by omega, ?_⟩
  unfold fst at h1 ⊢
  cases hf : s.findIdx? (fun y => y.Name == n) with
  | none => rw [hf] at h1; simp only at h1 ⊢; omega
  | some k =>
    obtain ⟨hk, _⟩ := List.findIdx?_eq_some_iff_getElem.1 hf
    simp only; omega
theorem stepN_of {s : List State} (hv : Vs s) {st : Nat} {t : Str} {p : Nat} {k : Token} {n : Int} (h : stepN s st t p = some (k, n)) :
    k.From = (p : Int) ∧ 1 ≤ k.Text.length ∧ p + k.Text.length ≤ t.length ∧ k.Text = (t.drop p).take k.Text.length ∧ 0 ≤ n ∧ n < (s.length : Int) := by
  unfold stepN at h
  cases hx : s[st]? with
  | none => rw [hx] at h; cases h
  | some x =>
    rw [hx] at h
    simp only at h
    cases hf : firstRule x.Rules (t.drop p) with
    | none => rw [hf] at h; cases h
    | some q =>
      obtain ⟨r, m⟩ := q
      rw [hf] at h
      simp only [Option.some.injEq, Prod.mk.injEq] at h
      obtain ⟨rfl, rfl⟩ := h
      obtain ⟨h1, h2, h3⟩ := firstRule_of hf
      simp only [List.length_drop] at h3
      have hl : ((t.drop p).take m).length = m := by simp; omega
      have hm := List.mem_of_getElem? hx
      simp only [hl]
      refine ⟨trivial, h2, by omega, trivial, ?_⟩
      unfold nextSt
      split
      · have := getlt hx; omega
      · rename_i h0
        exact fst_range ((hv.rl x hm r h1).2.resolve_left h0)
theorem tks_eq {s : List State} {t : Str} {N : Nat} (hv : Vs s) (ht : t.length ≤ 1000000) (body : List Token × Int × Int → Option ((List Token × Int × Int) ⊕ (List Token ⊕ (List Token × Int × Int))))
    (h1 : ∀ (l : List Token) (p st : Nat), p < t.length → st < s.length → l.length ≤ p → body (l, (p : Int), (st : Int)) = some (match stepN s st t p with | some (k, n) => .inl (l ++ [k], ((p + k.Text.length : Nat) : Int), n) | none => .inr (.inr ([], (p : Int), 3))))
    (h2 : ∀ (l : List Token) (st : Int), body (l, (t.length : Int), st) = some (.inr (.inl l))) (h0 : 0 < s.length) (hN : t.length + 1 ≤ N) :
    ((iter body N ([], 0, 0)).bind fun o : List Token ⊕ (List Token × Int × Int) => Sum.elim (fun o => some (o, (0 : Int), (0 : Int))) (fun o => some o) o) = some (match tks s t (t.length + 1) 0 0 with | .inr l => (l, 0, 0) | .inl e => ([], (e : Int), 3)) := by
  have key : ∀ (f M p st : Nat) (l : List Token), t.length - p < f → f ≤ M → p ≤ t.length → st < s.length → l.length ≤ p → ((iter body M (l, (p : Int), (st : Int))).bind fun o : List Token ⊕ (List Token × Int × Int) => Sum.elim (fun o => some (o, (0 : Int), (0 : Int))) (fun o => some o) o) = some (match tks s t f p st with | .inr l' => (l ++ l', 0, 0) | .inl e => ([], (e : Int), 3)) := by
    intro f
    induction f with
    | zero => intro M p st l h; omega
    | succ f ih =>
      intro M p st l hf hM hp hst hl
      obtain ⟨M, rfl⟩ : ∃ M', M = M' + 1 := ⟨M - 1, by omega⟩
      unfold tks
      by_cases he : t.length ≤ p
      · obtain rfl : p = t.length := by omega
        rw [if_pos he]
        simp only [iter, h2, List.append_nil]
        rfl
      · rw [if_neg he]
        have hb := h1 l p st (by omega) hst hl
        cases hq : stepN s st t p with
        | none =>
          rw [hq] at hb
          simp only [iter, hb]
          rfl
        | some q =>
          obtain ⟨k, n⟩ := q
          rw [hq] at hb
          obtain ⟨_, g2, g3, _, g5, g6⟩ := stepN_of hv hq
          obtain ⟨n, rfl⟩ : ∃ m : Nat, n = (m : Int) := ⟨n.toNat, by omega⟩
          simp only at hb ⊢
          simp only [iter, hb, Int.toNat_natCast]
          have := ih M (p + k.Text.length) n (l ++ [k]) (by omega) (by omega) (by omega) (by omega) (by simp; omega)
          rw [this]
          cases tks s t f (p + k.Text.length) n with
          | inl e => rfl
          | inr l' => simp
  have := key (t.length + 1) N 0 0 [] (by omega) hN (by omega) h0 (by simp)
  simpa using this
def tokR (s : List State) (t : Str) : List Token × Int × Int := match tks s t (t.length + 1) 0 0 with | .inr l => (l, 0, 0) | .inl e => ([], (e : Int), 3)
theorem scan_Tokens_ok {N : Nat} {s : List State} {t : Str} (hs : Sz N s) (hb : Sb s) (hv : Vl s) (ht : t.length ≤ 10000) (hN : 300 ≤ N) (hN2 : t.length + 1 ≤ N) :
    scan_Tokens N s t = some (tokR s t) := by
  unfold scan_Tokens
  rcases (scan_Valid_eq hs hb (by omega)).cases with ⟨h, _⟩ | ⟨_, h⟩
  rotate_left
  · exact absurd hv h
  rw [h]
  simp only [Option.bind_some, Bool.not_true, cond_false]
  rw [decide_eq_false (by omega)]
  simp only [cond_false, lexerOf_eq hs hv.1 hN, Option.bind_some]
  refine tks_eq hv.1 (by omega) _ (fun l p st hp hst hl => ?_) (fun l st => ?_) (by have := hv.1.len; omega) hN2
  · simp only [scan_Tokens_b1, dk hp, cond_true, lexer_step_eq hs hv.1 hst (by omega : p ≤ t.length) (by omega : t.length ≤ 1000000) hN hN2, Option.bind_some]
    cases hq : stepN s st t p with
    | none => rfl
    | some q =>
      obtain ⟨k, n⟩ := q
      obtain ⟨_, g2, g3, _⟩ := stepN_of hv.1 hq
      simp only [Bool.not_true, cond_false]
      rw [app1 (by simp; omega), show (p : Int) + (k.Text.length : Int) = ((p + k.Text.length : Nat) : Int) by omega, wrapN (by omega)]
      rfl
  · simp only [scan_Tokens_b1, dn, cond_false]
theorem scan_Tokens_no {N : Nat} {s : List State} {t : Str} (hs : Sz N s) (hb : Sb s) (hv : ¬Vl s) (hN : 300 ≤ N) : scan_Tokens N s t = some ([], 0, 1) := by
  unfold scan_Tokens
  rcases (scan_Valid_eq hs hb (by omega)).cases with ⟨_, h⟩ | ⟨h, _⟩
  · exact absurd h hv
  rw [h]; rfl
end Go.Proofs.Ytmmioinglmeoiaa
namespace Go.Proofs.Ytmmioinglmeoiaa
open Go.X
theorem tok_same {x : Token} : ((x.Kind == x.Kind) && ((x.Text == x.Text) && (x.From == x.From))) = true := by simp
theorem stepR_at {s : List State} {t : Str} {st p : Nat} (hst : st < s.length) (hp : p < t.length) : stepR s (st : Int) t (p : Int) = match stepN s st t p with | some (k, n) => (k, n, 0) | none => (Token.mk [] [] 0, 0, 3) := by
  unfold stepR
  rw [if_neg (by omega), if_neg (by omega)]
  (simp only [Int.toNat_natCast]) <;> (cases stepN s st t p <;> rfl)
theorem whole_loop {N : Nat} {s : List State} {t : Str} (hs : Sz N s) (hb : Sb s) (hv : Vl s) (ht : t.length ≤ 10000) (hN : 300 ≤ N) (hN2 : t.length + 1 ≤ N) (R : List Token × Int × Int) :
    ∀ (f M p st i : Nat) (l : List Token), tks s t f p st = .inr l → R.1.drop i = l → t.length - p < f → p ≤ t.length → st < s.length → l.length < M → ∃ st' : Nat, st' < s.length ∧ iter (fun a : Int × Int × Int => calquelaw44_ScanWhole_b1 N t s R a.1 a.2.1 a.2.2) M ((p : Int), (st : Int), (i : Int)) = some (.inl ((t.length : Int), (st' : Int))) := by
  intro f
  induction f with
  | zero => intro M p st i l _ _ h; omega
  | succ f ih =>
    intro M p st i l h hR hf hp hst hM
    obtain ⟨M, rfl⟩ : ∃ M', M = M' + 1 := ⟨M - 1, by omega⟩
    unfold tks at h
    split at h
    · cases h
      obtain rfl : p = t.length := by omega
      have hi : R.1.length ≤ i := List.drop_eq_nil_iff.1 hR
      refine ⟨st, hst, ?_⟩
      have e : decide ((i : Int) < (R.1.length : Int)) = false := decide_eq_false (by omega)
      simp only [iter, calquelaw44_ScanWhole_b1, e, cond_false]
    · rename_i hpt
      cases hq : stepN s st t p with
      | none => rw [hq] at h; cases h
      | some q =>
        obtain ⟨k, n⟩ := q
        rw [hq] at h
        simp only at h
        cases hr : tks s t f (p + k.Text.length) n.toNat with
        | inl e => rw [hr] at h; cases h
        | inr l' =>
          rw [hr] at h
          cases h
          have hi : i < R.1.length := by
            apply Classical.byContradiction
            intro g
            rw [List.drop_of_length_le (by omega)] at hR
            cases hR
          rw [List.drop_eq_getElem_cons hi] at hR
          injection hR with h1 h2
          have hx : R.1[i]? = some k := by rw [List.getElem?_eq_getElem hi, h1]
          obtain ⟨g1, g2, g3, g4, g5, g6⟩ := stepN_of hv.1 hq
          obtain ⟨n, rfl⟩ : ∃ m : Nat, n = (m : Int) := ⟨n.toNat, by omega⟩
          have hb' : calquelaw44_ScanWhole_b1 N t s R p st i = some (.inl (((p + k.Text.length : Nat) : Int), (n : Int), ((i + 1 : Nat) : Int))) := by
            simp only [calquelaw44_ScanWhole_b1, dk hi, cond_true, scan_Step_ok hs hb hv (by omega : t.length ≤ 1000000) hN hN2, stepR_at hst (by omega : p < t.length), hq, Option.bind_some, ixg hx, tok_same, Bool.not_true, cond_false]
            have e1 : ((0 : Int) != 0) = false := rfl
            have e2 : (k.From != (p : Int)) = false := by rw [g1]; simp
            have e3 : (k.Text == ([] : Str)) = false := by
              rw [beq_eq_false_iff_ne]
              intro g; rw [g] at g2; simp at g2
            rw [show (p : Int) + (k.Text.length : Int) = ((p + k.Text.length : Nat) : Int) by omega, wrapN (by omega)]
            have e4 : decide (((p + k.Text.length : Nat) : Int) > (t.length : Int)) = false := decide_eq_false (by omega)
            have e5 : slc t (p : Int) ((p + k.Text.length : Nat) : Int) = some k.Text := by
              rw [show ((p + k.Text.length : Nat) : Int) = (p : Int) + (k.Text.length : Int) by omega, slc_mid g3, ← g4]
            rw [e1, e2, e3, e4, e5]
            simp
          simp only [Int.toNat_natCast] at hr
          simp only [List.length_cons] at hM
          obtain ⟨st', k1, k2⟩ := ih M (p + k.Text.length) n (i + 1) l' hr h2 (by omega) g3 (by omega) (by omega)
          exact ⟨st', k1, by simp only [iter, hb']; exact k2⟩
theorem tks_len {s : List State} {t : Str} : ∀ (f p st : Nat) (l : List Token), tks s t f p st = .inr l → l.length ≤ f := by
  intro f
  induction f with
  | zero => intro p st l h; cases h; simp
  | succ f ih =>
    intro p st l h
    unfold tks at h
    split at h
    · cases h; simp
    · cases hq : stepN s st t p with
      | none => rw [hq] at h; cases h
      | some q =>
        obtain ⟨k, n⟩ := q
        rw [hq] at h
        simp only at h
        cases hr : tks s t f (p + k.Text.length) n.toNat with
        | inl e => rw [hr] at h; cases h
        | inr l' =>
          rw [hr] at h
          cases h
          have := ih _ _ _ hr
          simp; omega
theorem scanWhole_law (s : List State) (t : Str) (h : ScOk s) (ht : t.length ≤ reachBytes) : ∃ N, calquelaw44_ScanWhole N s t = some true := by
  obtain ⟨n, hn⟩ : ∃ n, n = sz s + t.length + 10 := ⟨_, rfl⟩
  refine ⟨n + 300, ?_⟩
  have hz : Sz (n + 300) s := Sz.of (by omega)
  unfold calquelaw44_ScanWhole
  simp only [awake_true, Option.bind_some, Bool.not_true, cond_false]
  obtain ⟨b, hb⟩ := Few_some hz
  simp only [hb, Option.bind_some]
  cases b with
  | false => rfl
  | true =>
    simp only [Bool.not_true, cond_false]
    by_cases h2 : (t.length : Int) > 300
    · rw [decide_eq_true h2]; rfl
    rw [decide_eq_false h2]
    simp only [cond_false, Own_eq h hz, Option.bind_some]
    by_cases hv : Vl s
    · rw [scan_Tokens_ok hz h.sb hv (by omega) (by omega) (by omega)]
      unfold tokR
      cases hk : tks s t (t.length + 1) 0 0 with
      | inl e => rfl
      | inr l =>
        simp only [Option.bind_some]
        have hl := tks_len _ _ _ _ hk
        have h0 := hv.1.len
        obtain ⟨st, k1, k2⟩ := whole_loop hz h.sb hv (by omega) (by omega) (by omega) (l, 0, 0) (t.length + 1) (n + 300) 0 0 0 l hk rfl (by omega) (by omega) (by omega) (by omega)
        have e1 : ((0 : Int) != 0) = false := rfl
        simp only [e1, cond_false]
        rw [show (((0 : Int), (0 : Int), (0 : Int)) : Int × Int × Int) = (((0 : Nat) : Int), ((0 : Nat) : Int), ((0 : Nat) : Int)) from rfl, k2]
        simp only [Option.bind_some, Sum.elim_inl]
        rw [scan_Step_ok hz h.sb hv (by omega) (by omega) (by omega)]
        unfold stepR
        rw [if_neg (by omega), if_pos rfl]
        simp
    · rw [scan_Tokens_no hz h.sb hv (by omega)]
      rfl
end Go.Proofs.Ytmmioinglmeoiaa
