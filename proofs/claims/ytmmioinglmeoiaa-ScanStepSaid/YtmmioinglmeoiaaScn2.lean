/- Chapter 44: the text of a script, written by the program and by the reference. -/
import Derived.Test.YtmmioinglmeoiaaScn1
set_option linter.unusedVariables false
namespace Go.Proofs.Ytmmioinglmeoiaa
open Go.X

abbrev Str := List UInt8
def hexd (n : Nat) : UInt8 := UInt8.ofNat (if n < 10 then 48 + n else 87 + n)
/-- A byte as it is written. -/
def esc (br : Bool) (c : Nat) : Str :=
  if c = 92 ∨ (br = false ∧ c = 34) ∨ (br = true ∧ (c = 91 ∨ c = 93 ∨ c = 94 ∨ c = 45)) then [92, UInt8.ofNat c]
  else if c < 32 ∨ 126 < c ∨ (br = true ∧ c = 32) then [92, 120, hexd (c / 16), hexd (c % 16)]
  else [UInt8.ofNat c]
def okQ (N : Nat) (c : Nat) : Bool := scan_quoted N (c : Int) == some (esc false c) && (scan_bracketed N (c : Int) == some (esc true c) && (calqueref44_one N (c : Int) false == some (esc false c) && calqueref44_one N (c : Int) true == some (esc true c)))
set_option maxRecDepth 100000 in
theorem okQ_all (N : Nat) : ((List.range 256).all fun c => okQ N c) = true := by kernel_rfl
theorem okQ_at {N c : Nat} (h : c < 256) : okQ N c = true := List.all_eq_true.1 (okQ_all N) c (List.mem_range.2 h)
theorem quoted_eq {N c : Nat} (h : c < 256) : scan_quoted N (c : Int) = some (esc false c) := by
  have := okQ_at (N := N) h
  unfold okQ at this
  simp only [Bool.and_eq_true, beq_iff_eq] at this
  exact this.1
theorem bracketed_eq {N c : Nat} (h : c < 256) : scan_bracketed N (c : Int) = some (esc true c) := by
  have := okQ_at (N := N) h
  unfold okQ at this
  simp only [Bool.and_eq_true, beq_iff_eq] at this
  exact this.2.1
theorem one_eq {N c : Nat} (h : c < 256) (br : Bool) : calqueref44_one N (c : Int) br = some (esc br c) := by
  have := okQ_at (N := N) h
  unfold okQ at this
  simp only [Bool.and_eq_true, beq_iff_eq] at this
  cases br with
  | false => exact this.2.2.1
  | true => exact this.2.2.2
theorem esc_len (br : Bool) (c : Nat) : (esc br c).length ≤ 4 := by
  unfold esc
  split
  · simp
  · split <;> simp

def markT (x : Item) : Str :=
  if x.Least = 1 ∧ x.Most = 1 then [] else if x.Least = 0 ∧ x.Most = 1 then [63] else if x.Least = 0 ∧ x.Most = -1 then [42] else if x.Least = 1 ∧ x.Most = -1 then [43] else []
def markOk (x : Item) : Prop := (x.Least = 1 ∨ x.Least = 0) ∧ (x.Most = 1 ∨ x.Most = -1)
instance (x : Item) : Decidable (markOk x) := by unfold markOk; infer_instance
def rangeT (g : Range) : Str := esc true g.From.toNat ++ if g.To = g.From then [] else 45 :: esc true g.To.toNat
def bodyT (x : Item) : Str :=
  if x.Text = [] then [91] ++ (if x.Not then [94] else []) ++ x.Ranges.flatMap rangeT ++ [93] else [34] ++ x.Text.flatMap (fun c => esc false c.toNat) ++ [34]
def itemT (x : Item) : Str := bodyT x ++ markT x
def lineT (r : Rule) : Str := r.Kind ++ r.Items.flatMap (fun x => 32 :: itemT x) ++ if r.Next = [] then [] else [32, 45, 62, 32] ++ r.Next
def stateT (x : State) : Str := ([115, 116, 97, 116, 101, 32] ++ x.Name ++ [10]) ++ x.Rules.flatMap (fun r => lineT r ++ [10])
def textT (s : List State) : Str := s.flatMap stateT

/-- What is asked of an item, of the words, of a rule (but for its Next). -/
def word (w : Str) : Bool := w.all (fun c => decide (97 ≤ c.toNat ∧ c.toNat ≤ 122)) && (decide (1 ≤ w.length) && decide (w.length ≤ 16))
def ItP (x : Item) : Prop := markOk x ∧ if x.Text = [] then (1 ≤ x.Ranges.length ∧ x.Ranges.length ≤ 20) ∧ ∀ g ∈ x.Ranges, g.From ≤ g.To else x.Text.length ≤ 40 ∧ x.Ranges = [] ∧ x.Not = false
def InB (x : Item) : Prop := ∀ g ∈ x.Ranges, InR .u8 g.From ∧ InR .u8 g.To
def RlP (r : Rule) : Prop := word r.Kind = true ∧ (1 ≤ r.Items.length ∧ r.Items.length ≤ 20) ∧ ∀ x ∈ r.Items, ItP x

theorem inr8 {x : Int} (h : InR .u8 x) : ∃ n : Nat, x = (n : Int) ∧ n < 256 ∧ x.toNat = n := by
  have := inR_u8.1 h
  exact ⟨x.toNat, by omega, by omega, rfl⟩
theorem u8lt (c : UInt8) : c.toNat < 256 := c.toNat_lt
theorem flat_le {α : Type} (f : α → Str) (B : Nat) : ∀ l : List α, (∀ x ∈ l, (f x).length ≤ B) → (l.flatMap f).length ≤ l.length * B
  | [], _ => by simp
  | x :: l, h => by
    simp only [List.flatMap_cons, List.length_append, List.length_cons, Nat.add_mul]
    have h1 := h x (by simp)
    have h2 := flat_le f B l (fun y hy => h y (by simp [hy]))
    omega
theorem rangeT_len (g : Range) : (rangeT g).length ≤ 9 := by
  unfold rangeT
  have := esc_len true g.From.toNat
  have := esc_len true g.To.toNat
  split <;> simp <;> omega
theorem markT_len (x : Item) : (markT x).length ≤ 1 := by
  unfold markT
  repeat' split
  all_goals decide
theorem bodyT_len {x : Item} (h : ItP x) : (bodyT x).length ≤ 200 := by
  unfold bodyT
  obtain ⟨_, h⟩ := h
  split
  · rename_i h0
    rw [if_pos h0] at h
    have := flat_le rangeT 9 x.Ranges (fun g _ => rangeT_len g)
    cases x.Not <;> simp [-List.length_flatMap] <;> omega
  · rename_i h0
    rw [if_neg h0] at h
    have := flat_le (fun c : UInt8 => esc false c.toNat) 4 x.Text (fun c _ => esc_len _ _)
    simp [-List.length_flatMap]; omega
theorem itemT_len {x : Item} (h : ItP x) : (itemT x).length ≤ 201 := by
  have := bodyT_len h
  have := markT_len x
  unfold itemT
  simp; omega
theorem word_len {w : Str} (h : word w = true) : 1 ≤ w.length ∧ w.length ≤ 16 := by
  unfold word at h
  simp only [Bool.and_eq_true, decide_eq_true_eq] at h
  exact h.2
theorem items_len {r : Rule} (h : RlP r) : (r.Items.flatMap (fun x => 32 :: itemT x)).length ≤ 4040 := by
  have := flat_le (fun x => 32 :: itemT x) 202 r.Items (fun x hx => by have := itemT_len (h.2.2 x hx); simp; omega)
  have := h.2.1
  omega
theorem lineT_len {r : Rule} (h : RlP r) (hn : r.Next.length ≤ 16) : (lineT r).length ≤ 4080 := by
  have := items_len h
  have := word_len h.1
  unfold lineT
  split <;> simp [-List.length_flatMap] <;> omega

/-! ### the program's writer -/
def bld (l : Str) : Builder := ⟨(), ints l⟩
theorem ints_app (a b : Str) : ints a ++ ints b = ints (a ++ b) := by simp [ints]
theorem bytes_bld (l : Str) : bytesOf (ints l) = l := bytesOf_toNat l
theorem wstr {N : Nat} {l t : Str} (h : l.length + t.length ≤ 4294967296) : strings_Builder_WriteString N t (bld l) = some ((t.length : Int), (), bld (l ++ t)) := by
  unfold strings_Builder_WriteString bld
  rw [app1 (by simpa [ints] using h), ints_app]
  rfl
theorem wbyte {N : Nat} {l : Str} {c : Nat} (hc : c < 256) (h : l.length < 4294967296) : strings_Builder_WriteByte N (c : Int) (bld l) = some ((), bld (l ++ [UInt8.ofNat c])) := by
  unfold strings_Builder_WriteByte bld
  have e : ([(c : Int)] : List Int) = ints [UInt8.ofNat c] := by simp [ints]; omega
  rw [app1 (by simp [ints]; omega), e, ints_app]
  rfl
theorem bld_eta (b : Builder) : Builder.mk () b.buf = b := rfl
theorem beqd (a b : Int) : (a == b) = decide (a = b) := rfl
theorem mark_eq (N : Nat) (x : Item) : scan_mark N x = some (markT x, decide (markOk x)) := by
  unfold scan_mark markT markOk
  simp only [beqd]
  by_cases h1 : x.Least = 1 <;> by_cases h0 : x.Least = 0 <;> by_cases h2 : x.Most = 1 <;> by_cases h3 : x.Most = -1 <;> simp [h1, h0, h2, h3]
theorem cat1 {a b : Str} (h : a.length + b.length ≤ 1000000000) : cat a b = some (a ++ b) := by unfold cat; rw [if_pos (by unfold LIMS; omega)]
theorem take_flat {α : Type} (f : α → Str) {l : List α} {k : Nat} {x : α} (h : l[k]? = some x) : (l.take k).flatMap f ++ f x = (l.take (k + 1)).flatMap f := by
  rw [← take1 h]; simp
theorem take_le {α : Type} (f : α → Str) (B : Nat) (l : List α) (k : Nat) (h : ∀ x ∈ l, (f x).length ≤ B) : ((l.take k).flatMap f).length ≤ l.length * B := by
  have h1 := flat_le f B (l.take k) (fun x hx => h x (List.mem_of_mem_take hx))
  have h2 : (l.take k).length * B ≤ l.length * B := Nat.mul_le_mul_right _ (by simp; omega)
  omega
theorem scan_item_eq {N : Nat} {x : Item} (h : ItP x) (hb : InB x) {l : Str} (hl : l.length ≤ 1000000000) (hN : 100 ≤ N) : scan_item N x (bld l) = some (bld (l ++ itemT x)) := by
  unfold scan_item
  obtain ⟨hm, h⟩ := h
  simp only [mark_eq, Option.bind_some, bld_eta]
  have hml := markT_len x
  by_cases h0 : x.Text = []
  · rw [if_pos h0] at h
    have e0 : (x.Text != ([] : Str)) = false := by rw [h0]; rfl
    have fl := fun k => take_le rangeT 9 x.Ranges k (fun g _ => rangeT_len g)
    simp only [e0, cond_false]
    rw [show (91 : Int) = ((91 : Nat) : Int) from rfl, wbyte (by decide) (by omega)]
    simp only [Option.bind_some, bld_eta]
    have hnot : (bif x.Not then (strings_Builder_WriteByte N 94 (bld (l ++ [91]))).bind fun r98 => some r98.2 else some (bld (l ++ [91]))) = some (bld (l ++ [91] ++ if x.Not then [94] else [])) := by
      cases x.Not with
      | false => simp
      | true =>
        simp only [cond_true, if_true]
        rw [show (94 : Int) = ((94 : Nat) : Int) from rfl, wbyte (by decide) (by simp [-List.length_flatMap]; omega)]
        rfl
    have hnl : (if x.Not then ([94] : Str) else []).length ≤ 1 := by cases x.Not <;> decide
    rw [show UInt8.ofNat 91 = 91 from rfl] at *
    rw [hnot]
    simp only [Option.bind_some, bld_eta]
    refine (iter_atB (fun k : Nat => ((k : Int), bld (l ++ [91] ++ (if x.Not then [94] else []) ++ (x.Ranges.take k).flatMap rangeT))) x.Ranges.length (bld (l ++ [91] ++ (if x.Not then [94] else []) ++ x.Ranges.flatMap rangeT)) (by simp) (by omega) (fun k hk => ?_) ?_).trans ?_
    · obtain ⟨g, hg⟩ := at_lt hk
      obtain ⟨hf, ht⟩ := hb g (List.mem_of_getElem? hg)
      obtain ⟨f, hf1, hf2, hf3⟩ := inr8 hf
      obtain ⟨t, ht1, ht2, ht3⟩ := inr8 ht
      have := fl k
      have hef := esc_len true f
      have het := esc_len true t
      simp only [scan_item_b2, dk hk, cond_true, ixg hg, Option.bind_some, bld_eta]
      rw [hf1, bracketed_eq hf2]
      simp only [Option.bind_some]
      rw [wstr (by simp [-List.length_flatMap]; omega)]
      simp only [Option.bind_some, bld_eta]
      rw [← take_flat rangeT hg]
      by_cases he : g.To = g.From
      · have hr : rangeT g = esc true f := by unfold rangeT; rw [if_pos he, hf3, List.append_nil]
        have : (g.To != (f : Int)) = false := by rw [he, hf1]; simp
        rw [this, hr]
        simp
      · have hr : rangeT g = esc true f ++ 45 :: esc true t := by unfold rangeT; rw [if_neg he, hf3, ht3]
        have : (g.To != (f : Int)) = true := by rw [← hf1]; simpa using he
        rw [this, hr, ht1, bracketed_eq ht2]
        simp only [cond_true, Option.bind_some]
        rw [cat1 (by simp [-List.length_flatMap]; omega)]
        simp only [Option.bind_some]
        rw [wstr (by simp [-List.length_flatMap]; omega)]
        simp [bld_eta]
    · simp only [scan_item_b2, dn, cond_false, bld_eta, List.take_length]
    · rw [cat1 (by simp [-List.length_flatMap]; omega)]
      simp only [Option.bind_some, bld_eta]
      have := fl x.Ranges.length
      rw [List.take_length] at this
      rw [wstr (by simp [-List.length_flatMap]; omega)]
      simp only [Option.bind_some, bld_eta, itemT, bodyT, if_pos h0]
      simp
  · rw [if_neg h0] at h
    have e0 : (x.Text != ([] : Str)) = true := by simpa using h0
    have fl := fun k => take_le (fun c : UInt8 => esc false c.toNat) 4 x.Text k (fun c _ => esc_len _ _)
    simp only [e0, cond_true]
    rw [show (34 : Int) = ((34 : Nat) : Int) from rfl, wbyte (by decide) (by omega)]
    simp only [Option.bind_some, bld_eta]
    refine (iter_atB (fun k : Nat => ((k : Int), bld (l ++ [34] ++ (x.Text.take k).flatMap (fun c => esc false c.toNat)))) x.Text.length (bld (l ++ [34] ++ x.Text.flatMap (fun c => esc false c.toNat))) (by simp) (by omega) (fun k hk => ?_) ?_).trans ?_
    · obtain ⟨c, hc⟩ := at_lt hk
      have := fl k
      have hec := esc_len false c.toNat
      simp only [scan_item_b1, dk hk, cond_true, ixg hc, Option.bind_some, bld_eta]
      rw [quoted_eq (u8lt c)]
      simp only [Option.bind_some]
      rw [wstr (by simp [-List.length_flatMap]; omega)]
      simp only [Option.bind_some, bld_eta]
      rw [← take_flat (fun c : UInt8 => esc false c.toNat) hc]
      simp
    · simp only [scan_item_b1, dn, cond_false, bld_eta, List.take_length]
    · rw [cat1 (by simp [-List.length_flatMap]; omega)]
      simp only [Option.bind_some, bld_eta]
      have := fl x.Text.length
      rw [List.take_length] at this
      rw [wstr (by simp [-List.length_flatMap]; omega)]
      simp only [Option.bind_some, bld_eta, itemT, bodyT, if_neg h0]
      simp
theorem scan_line_eq {N : Nat} {r : Rule} (h : RlP r) (hn : r.Next.length ≤ 16) (hb : ∀ x ∈ r.Items, InB x) (hN : 100 ≤ N) : scan_line N r = some (lineT r) := by
  unfold scan_line
  have hk := word_len h.1
  have fl := fun k => take_le (fun x => 32 :: itemT x) 202 r.Items k (fun x hx => by have := itemT_len (h.2.2 x hx); simp; omega)
  have hI := h.2.1
  have e : Builder.mk () ([]) = bld [] := rfl
  rw [e, wstr (by simp [-List.length_flatMap]; omega)]
  simp only [Option.bind_some, bld_eta, List.nil_append]
  refine (iter_atB (fun k : Nat => ((k : Int), bld (r.Kind ++ (r.Items.take k).flatMap (fun x => 32 :: itemT x)))) r.Items.length (bld (r.Kind ++ r.Items.flatMap (fun x => 32 :: itemT x))) (by simp) (by omega) (fun k hk => ?_) ?_).trans ?_
  · obtain ⟨x, hx⟩ := at_lt hk
    have hm := List.mem_of_getElem? hx
    have := fl k
    simp only [scan_line_b1, dk hk, cond_true, ixg hx, Option.bind_some, bld_eta]
    rw [show (32 : Int) = ((32 : Nat) : Int) from rfl, wbyte (by decide) (by simp [-List.length_flatMap]; omega)]
    simp only [Option.bind_some, bld_eta]
    rw [scan_item_eq (h.2.2 x hm) (hb x hm) (by simp [-List.length_flatMap]; omega) hN]
    simp only [Option.bind_some, bld_eta]
    rw [← take_flat (fun x => 32 :: itemT x) hx]
    simp
  · simp only [scan_line_b1, dn, cond_false, bld_eta, List.take_length]
  · have := fl r.Items.length
    rw [List.take_length] at this
    unfold lineT
    by_cases h0 : r.Next = []
    · have e0 : (r.Next != ([] : Str)) = false := by rw [h0]; rfl
      simp only [e0, cond_false, if_pos h0, bld, bytes_bld]
      simp
    · have e0 : (r.Next != ([] : Str)) = true := by simpa using h0
      simp only [e0, cond_true, if_neg h0]
      rw [cat1 (by simp [-List.length_flatMap]; omega)]
      simp only [Option.bind_some, bld_eta]
      rw [wstr (by simp [-List.length_flatMap]; omega)]
      simp only [Option.bind_some, bld, bytes_bld]
end Go.Proofs.Ytmmioinglmeoiaa
