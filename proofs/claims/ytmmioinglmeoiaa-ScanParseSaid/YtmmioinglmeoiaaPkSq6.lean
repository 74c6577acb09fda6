/- Texts of this proof, put together by pack.py: what its declarations name. -/
import Derived.Test.YtmmioinglmeoiaaPkSq5
import Derived.Test.YtmmioinglmeoiaaChecked
import Derived.Test.YtmmioinglmeoiaaProg
import Derived.Test.YtmmioinglmeoiaaRows
set_option linter.unusedVariables false
namespace Go.Proofs.Ytmmioinglmeoiaa
open Go.X
def Good (r : Rule) : Prop := RlP r ∧ (r.Next = [] ∨ word r.Next = true) ∧ ∀ x ∈ r.Items, InB x
theorem cut_eq (N : Nat) (p s : Str) : scan_reader_cut N p ⟨s⟩ = some (p.isPrefixOf s, ⟨if p.isPrefixOf s then s.drop p.length else s⟩) := by
  unfold scan_reader_cut strings_CutPrefix
  simp only [Option.bind_some, Lib.trimPrefix, Lib.hasPrefix]
  by_cases h : p.isPrefixOf s = true <;> simp [h]
theorem pre1 (c d : UInt8) (s : Str) : ([c] : Str).isPrefixOf (d :: s) = (c == d) := by simp [List.isPrefixOf]
theorem cut_hit (N : Nat) (p s : Str) : scan_reader_cut N p ⟨p ++ s⟩ = some (true, ⟨s⟩) := by
  have h : p.isPrefixOf (p ++ s) = true := List.isPrefixOf_iff_prefix.2 (List.prefix_append _ _)
  rw [cut_eq, h]; simp
theorem cut_miss (N : Nat) {p s : Str} (h : p.isPrefixOf s = false) : scan_reader_cut N p ⟨s⟩ = some (false, ⟨s⟩) := by
  rw [cut_eq, h]; simp
theorem slc1 {c : UInt8} {s : Str} : slc (c :: s) 1 ((c :: s).length : Int) = some s := slc_tail (n := 1) (s := c :: s) (by simp)
theorem slc2 {c d : UInt8} {s : Str} : slc (c :: d :: s) 2 ((c :: d :: s).length : Int) = some s := slc_tail (n := 2) (s := c :: d :: s) (by simp)
theorem i0 {α : Type} {c : α} {s : List α} : idx (c :: s) 0 = some c := rfl
theorem i1 {α : Type} {c d : α} {s : List α} : idx (c :: d :: s) 1 = some d := rfl
theorem wrap_u8_in (z : Int) : ∃ v : Nat, v < 256 ∧ IntKind.wrap .u8 z = (v : Int) := by
  obtain ⟨v, h1, h2, _⟩ := inr8 (InR.wrap .u8 z)
  exact ⟨v, h2, h1⟩
theorem hex_idx : ((List.range 16).all fun k => Lib.indexByte [48, 49, 50, 51, 52, 53, 54, 55, 56, 57, 97, 98, 99, 100, 101, 102] (((hexd k).toNat : Int).toNat.toUInt8) == (k : Int)) = true := by kernel_rfl
theorem hex_at {N k : Nat} (h : k < 16) : strings_IndexByte N [48, 49, 50, 51, 52, 53, 54, 55, 56, 57, 97, 98, 99, 100, 101, 102] ((hexd k).toNat : Int) = some (k : Int) := by
  have := List.all_eq_true.1 hex_idx k (List.mem_range.2 h)
  unfold strings_IndexByte
  rw [eq_of_beq this]
theorem ofNat_toNat {c : Nat} (h : c < 256) : (UInt8.ofNat c).toNat = c := by simp; omega
theorem neI {a b : Nat} (h : a ≠ b) : (((a : Nat) : Int) != ((b : Nat) : Int)) = true := by simp; omega
theorem one_tot {N : Nat} {s : Str} (h : s ≠ []) : ∃ (v : Nat) (t : Str), v < 256 ∧ scan_reader_one N ⟨s⟩ = some ((v : Int), ⟨t⟩) ∧ t.length < s.length := by
  cases s with
  | nil => exact absurd rfl h
  | cons c s =>
    unfold scan_reader_one
    simp only [i0, slc1, Option.bind_some]
    cases h1 : ((c.toNat : Int) != 92) with
    | true => exact ⟨c.toNat, s, u8lt c, rfl, by simp⟩
    | false =>
      simp only [cond_false]
      cases s with
      | nil => exact ⟨c.toNat, [], u8lt c, rfl, by simp⟩
      | cons d s =>
        have e : ((d :: s : Str) == ([] : Str)) = false := rfl
        simp only [e, cond_false, i0, slc1, Option.bind_some]
        cases h2 : ((d.toNat : Int) != 120) with
        | true => exact ⟨d.toNat, s, u8lt d, rfl, by simp; omega⟩
        | false =>
          simp only [cond_false]
          cases s with
          | nil => exact ⟨d.toNat, [], u8lt d, rfl, by simp⟩
          | cons a s =>
            cases s with
            | nil => exact ⟨d.toNat, [a], u8lt d, rfl, by simp⟩
            | cons b s =>
              have e3 : decide (((a :: b :: s : Str).length : Int) < 2) = false := decide_eq_false (by simp; omega)
              simp only [e3, cond_false, i0, i1, Option.bind_some, slc2, strings_IndexByte]
              obtain ⟨v, hv, e4⟩ := wrap_u8_in (IntKind.wrap .i64 ((IntKind.wrap .i64 ((16 : Int) * (Lib.indexByte [48, 49, 50, 51, 52, 53, 54, 55, 56, 57, 97, 98, 99, 100, 101, 102] (a.toNat : Int).toNat.toUInt8))) + (Lib.indexByte [48, 49, 50, 51, 52, 53, 54, 55, 56, 57, 97, 98, 99, 100, 101, 102] (b.toNat : Int).toNat.toUInt8)))
              exact ⟨v, s, hv, by rw [e4], by simp; omega⟩
theorem esc_cases {br : Bool} {c : Nat} (P : Str → Prop) (h1 : c ≠ 120 → (c = 92 ∨ (br = false ∧ c = 34) ∨ (br = true ∧ (c = 91 ∨ c = 93 ∨ c = 94 ∨ c = 45))) → P [92, UInt8.ofNat c]) (h2 : P [92, 120, hexd (c / 16), hexd (c % 16)])
    (h3 : c ≠ 92 → ¬(br = false ∧ c = 34) → ¬(br = true ∧ (c = 91 ∨ c = 93 ∨ c = 94 ∨ c = 45)) → 32 ≤ c → c ≤ 126 → P [UInt8.ofNat c]) : P (esc br c) := by
  unfold esc
  split
  · rename_i h; exact h1 (by omega) h
  · rename_i h
    split
    · exact h2
    · rename_i g
      exact h3 (fun e => h (.inl e)) (fun e => h (.inr (.inl e))) (fun e => h (.inr (.inr e))) (by omega) (by omega)
theorem one_esc {N : Nat} {br : Bool} {c : Nat} (hc : c < 256) (t : Str) : scan_reader_one N ⟨esc br c ++ t⟩ = some ((c : Int), ⟨t⟩) := by
  have e92 : ((((92 : UInt8).toNat : Nat) : Int) != 92) = false := rfl
  have e120 : ((((120 : UInt8).toNat : Nat) : Int) != 120) = false := rfl
  refine esc_cases (br := br) (c := c) (fun w => scan_reader_one N ⟨w ++ t⟩ = some ((c : Int), ⟨t⟩)) (fun hx _ => ?_) ?_ (fun hx _ _ _ _ => ?_)
  · unfold scan_reader_one
    simp only [List.cons_append, List.nil_append, i0, slc1, Option.bind_some, e92, cond_false]
    have e : ((UInt8.ofNat c :: t : Str) == ([] : Str)) = false := rfl
    simp only [e, cond_false, i0, slc1, Option.bind_some, ofNat_toNat hc]
    rw [show (120 : Int) = ((120 : Nat) : Int) from rfl, neI hx]
    rfl
  · unfold scan_reader_one
    simp only [List.cons_append, List.nil_append, i0, slc1, Option.bind_some, e92, cond_false]
    have e : ((120 :: hexd (c / 16) :: hexd (c % 16) :: t : Str) == ([] : Str)) = false := rfl
    have e3 : decide (((hexd (c / 16) :: hexd (c % 16) :: t : Str).length : Int) < 2) = false := decide_eq_false (by simp; omega)
    simp only [e, cond_false, i0, i1, slc1, slc2, Option.bind_some, e120, e3, hex_at (show c / 16 < 16 by omega), hex_at (show c % 16 < 16 by omega)]
    rw [show ((16 : Int) * ((c / 16 : Nat) : Int)) = ((16 * (c / 16) : Nat) : Int) by omega, wrapN (by omega), show ((16 * (c / 16) : Nat) : Int) + ((c % 16 : Nat) : Int) = (c : Int) by omega, wrapN (by omega), wrap_of (inR_u8.2 ⟨by omega, by omega⟩)]
  · unfold scan_reader_one
    simp only [List.cons_append, List.nil_append, i0, slc1, Option.bind_some, ofNat_toNat hc]
    rw [show (92 : Int) = ((92 : Nat) : Int) from rfl, neI hx]
    rfl
theorem esc_head {br : Bool} {c : Nat} (hc : c < 256) (d : UInt8) (t : Str) (hd : d.toNat ≠ 92) (h : if br then (d.toNat = 91 ∨ d.toNat = 93 ∨ d.toNat = 94 ∨ d.toNat = 45) else d.toNat = 34) : ([d] : Str).isPrefixOf (esc br c ++ t) = false := by
  refine esc_cases (br := br) (c := c) (fun w => ([d] : Str).isPrefixOf (w ++ t) = false) (fun hx _ => ?_) ?_ (fun hx h1 h2 _ _ => ?_)
  · rw [List.cons_append, pre1, beq_eq_false_iff_ne]
    intro e; rw [e] at hd; exact hd rfl
  · rw [List.cons_append, pre1, beq_eq_false_iff_ne]
    intro e; rw [e] at hd; exact hd rfl
  · rw [List.cons_append, pre1, beq_eq_false_iff_ne]
    intro e
    rw [e, ofNat_toNat hc] at h
    cases br with
    | true => exact h2 ⟨rfl, h⟩
    | false => exact h1 ⟨rfl, h⟩
theorem esc_ne {br : Bool} {c : Nat} : esc br c ≠ [] := esc_cases (fun w => w ≠ []) (fun _ _ => by simp) (by simp) (fun _ _ _ _ _ => by simp)
def IB (L : Nat) (x : Item) : Prop := x.Text.length ≤ L ∧ x.Ranges.length ≤ L ∧ InB x
theorem neS (w : Str) : (w != ([] : Str)) = !decide (w = []) := by by_cases h : w = [] <;> simp [h]
theorem cut_tot (N : Nat) (p s : Str) : ∃ b t, scan_reader_cut N p ⟨s⟩ = some (b, ⟨t⟩) ∧ t.length ≤ s.length ∧ (b = true → t.length + p.length = s.length) ∧ (b = false → t = s) := by
  rw [cut_eq]
  cases h : p.isPrefixOf s with
  | false => exact ⟨false, s, rfl, Nat.le_refl _, (fun h => by cases h), fun _ => rfl⟩
  | true =>
    have := (List.isPrefixOf_iff_prefix.1 h).length_le
    refine ⟨true, s.drop p.length, rfl, by simp, fun _ => by simp; omega, fun h => by cases h⟩
theorem inB_app {x : Item} {a b : Nat} (h : InB x) (ha : a < 256) (hb : b < 256) {T : Str} {n : Bool} {l m : Int} : InB (Item.mk T (x.Ranges ++ [Range.mk a b]) n l m) := by
  intro g hg
  rcases List.mem_append.1 hg with hg | hg
  · exact h g hg
  · rw [List.mem_singleton.1 hg]
    exact ⟨inR_u8.2 ⟨by simp, by simp; omega⟩, inR_u8.2 ⟨by simp, by simp; omega⟩⟩
theorem cls_tot {N L : Nat} (hL : L ≤ 1000000) : ∀ (M : Nat) (r : Reader) (x : Item), r.s.length < M → (x.Text = [] ∧ InB x ∧ x.Ranges.length + r.s.length ≤ L) → ∃ b, iter (fun s : Reader × Item => scan_reader_item_b1 N s.1 s.2) M (r, x) = some b ∧ (b.2.s.length ≤ r.s.length ∧ b.1.Text = [] ∧ InB b.1 ∧ b.1.Ranges.length ≤ L) := by
  intro M r x hM hI
  obtain ⟨b, h1, h2⟩ := iter_meas (body := fun s : Reader × Item => scan_reader_item_b1 N s.1 s.2) (fun s => s.2.Text = [] ∧ InB s.2 ∧ s.2.Ranges.length + s.1.s.length ≤ L ∧ s.1.s.length ≤ r.s.length) (fun s => s.1.s.length) (fun b => b.2.s.length ≤ r.s.length ∧ b.1.Text = [] ∧ InB b.1 ∧ b.1.Ranges.length ≤ L) (fun s hs => by
    obtain ⟨⟨s⟩, x⟩ := s
    obtain ⟨h1, h2, h3, h4⟩ := hs
    simp only at h1 h2 h3 h4 ⊢
    unfold scan_reader_item_b1
    by_cases h0 : s = []
    · subst h0
      exact .inr ⟨_, rfl, h4, h1, h2, by simpa using h3⟩
    · simp only [neS, h0, decide_false, Bool.not_false, cond_true]
      obtain ⟨b, t, e1, e2, e3, e4⟩ := cut_tot N [93] s
      rw [e1]
      cases b with
      | true => exact .inr ⟨_, rfl, by simp only; omega, h1, h2, by simp only; omega⟩
      | false =>
        obtain rfl := e4 rfl
        simp only [Option.bind_some, Bool.not_false, cond_true]
        obtain ⟨v, u, hv, e5, e6⟩ := one_tot (N := N) h0
        rw [e5]
        simp only [Option.bind_some]
        by_cases h5 : (u.length : Int) > 1
        · rw [decide_eq_true h5]
          obtain ⟨b, z, e7, e8, e9, e10⟩ := cut_tot N [45] u
          simp only [cond_true, e7, Option.bind_some]
          cases b with
          | true =>
            have hz : z ≠ [] := by
              intro e; subst e
              have := e9 rfl
              simp at this; omega
            obtain ⟨v2, y, hv2, e11, e12⟩ := one_tot (N := N) hz
            simp only [cond_true, e11, Option.bind_some]
            rw [app1 (by simp; omega)]
            exact .inl ⟨_, rfl, ⟨h1, inB_app h2 hv hv2, by simp; omega, by simp only; omega⟩, by simp only; omega⟩
          | false =>
            simp only [cond_false, Option.bind_some]
            rw [app1 (by simp; omega)]
            exact .inl ⟨_, rfl, ⟨h1, inB_app h2 hv hv, by simp; omega, by simp only; omega⟩, by simp only; omega⟩
        · rw [decide_eq_false h5]
          simp only [cond_false]
          rw [app1 (by simp; omega)]
          exact .inl ⟨_, rfl, ⟨h1, inB_app h2 hv hv, by simp; omega, by simp only; omega⟩, by simp only; omega⟩) M (r, x) hM ⟨hI.1, hI.2.1, hI.2.2, Nat.le_refl _⟩
  exact ⟨b, h1, h2⟩
theorem txt_tot {N L : Nat} (hL : L ≤ 1000000) : ∀ (M : Nat) (r : Reader) (x : List Int), r.s.length < M → x.length + r.s.length ≤ L → ∃ b, iter (fun s : List Int × Reader => scan_reader_item_b2 N s.1 s.2) M (x, r) = some b ∧ (b.1.s.length ≤ r.s.length ∧ b.2.length ≤ L) := by
  intro M r x hM hI
  obtain ⟨b, h1, h2⟩ := iter_meas (body := fun s : List Int × Reader => scan_reader_item_b2 N s.1 s.2) (fun s => s.1.length + s.2.s.length ≤ L ∧ s.2.s.length ≤ r.s.length) (fun s => s.2.s.length) (fun b => b.1.s.length ≤ r.s.length ∧ b.2.length ≤ L) (fun s hs => by
    obtain ⟨x, ⟨s⟩⟩ := s
    obtain ⟨h3, h4⟩ := hs
    simp only at h3 h4 ⊢
    unfold scan_reader_item_b2
    by_cases h0 : s = []
    · subst h0
      exact .inr ⟨_, rfl, h4, by simpa using h3⟩
    · simp only [neS, h0, decide_false, Bool.not_false, cond_true]
      obtain ⟨b, t, e1, e2, e3, e4⟩ := cut_tot N [34] s
      rw [e1]
      cases b with
      | true => exact .inr ⟨_, rfl, by simp only; omega, by simp only; omega⟩
      | false =>
        obtain rfl := e4 rfl
        simp only [Option.bind_some, Bool.not_false, cond_true]
        obtain ⟨v, u, hv, e5, e6⟩ := one_tot (N := N) h0
        rw [e5]
        simp only [Option.bind_some]
        rw [app1 (by simp; omega)]
        exact .inl ⟨_, rfl, ⟨by simp; omega, by simp only; omega⟩, by simp only; omega⟩) M (x, r) hM ⟨hI, Nat.le_refl _⟩
  exact ⟨b, h1, h2⟩
theorem IB.marks {L : Nat} {x : Item} (h : IB L x) (a b : Int) : IB L (Item.mk x.Text x.Ranges x.Not a b) := h
theorem item_tot {N L : Nat} {s : Str} (hL : L ≤ 1000000) (hs : s.length ≤ L) (hN : L < N) : ∃ x t, scan_reader_item N ⟨s⟩ = some (x, ⟨t⟩) ∧ IB L x ∧ t.length ≤ s.length := by
  unfold scan_reader_item
  have hbody : ∃ (u : Str) (x : Item), (show Option (Reader × Item) from
      (scan_reader_cut N ([91]) ⟨s⟩).bind fun r5 => (show Option (Reader × Item) from
    bif r5.1 then
      (scan_reader_cut N ([94]) r5.2).bind fun r17 =>
      (iter (fun s => scan_reader_item_b1 N s.1 s.2) N (r17.2, (Item.mk ([]) ([]) r17.1 1 1))).bind fun o29 =>
      some (o29.2, o29.1)
    else
      (scan_reader_cut N ([34]) r5.2).bind fun r99 =>
      (iter (fun s => scan_reader_item_b2 N s.1 s.2) N ([], r99.2)).bind fun o108 =>
      some (o108.1, (Item.mk (bytesOf o108.2) ([]) false 1 1)))) = some (⟨u⟩, x) ∧ IB L x ∧ u.length ≤ s.length := by
    obtain ⟨b, t, e1, e2, _, _⟩ := cut_tot N [91] s
    simp only [e1, Option.bind_some]
    cases b with
    | true =>
      obtain ⟨b2, t2, e3, e4, _, _⟩ := cut_tot N [94] t
      simp only [cond_true, e3, Option.bind_some]
      obtain ⟨b, g1, g2, g3, g4, g5⟩ := cls_tot (N := N) (L := L) hL N ⟨t2⟩ (Item.mk [] [] b2 1 1) (by simp only; omega) ⟨rfl, (fun g hg => by cases hg), by simp; omega⟩
      rw [g1]
      obtain ⟨x, ⟨u⟩⟩ := b
      simp only at g2 g3 g4 g5
      exact ⟨u, x, rfl, ⟨by rw [g3]; simp, g5, g4⟩, by omega⟩
    | false =>
      obtain ⟨b2, t2, e3, e4, _, _⟩ := cut_tot N [34] t
      simp only [cond_false, e3, Option.bind_some]
      obtain ⟨b, g1, g2, g3⟩ := txt_tot (N := N) (L := L) hL N ⟨t2⟩ [] (by simp only; omega) (by simp; omega)
      rw [g1]
      obtain ⟨⟨u⟩, x⟩ := b
      simp only at g2 g3
      exact ⟨u, _, rfl, ⟨by rw [bytesOf_len]; exact g3, by simp, fun g hg => by cases hg⟩, by omega⟩
  obtain ⟨u, x, h1, h2, h3⟩ := hbody
  have h1' : ((scan_reader_cut N ([91]) ⟨s⟩).bind fun r5 => (show Option (Reader × Item) from
    bif r5.1 then
      (scan_reader_cut N ([94]) r5.2).bind fun r17 =>
      (iter (fun s => scan_reader_item_b1 N s.1 s.2) N (r17.2, (Item.mk ([]) ([]) r17.1 1 1))).bind fun o29 =>
      some (o29.2, o29.1)
    else
      (scan_reader_cut N ([34]) r5.2).bind fun r99 =>
      (iter (fun s => scan_reader_item_b2 N s.1 s.2) N ([], r99.2)).bind fun o108 =>
      some (o108.1, (Item.mk (bytesOf o108.2) ([]) false 1 1)))) = some (⟨u⟩, x) := h1
  rw [← Option.bind_assoc, h1']
  simp only [Option.bind_some]
  obtain ⟨b, t, e1, e2, _, _⟩ := cut_tot N [63] u
  rw [e1]
  cases b with
  | true => exact ⟨_, t, rfl, h2.marks _ _, by omega⟩
  | false =>
    simp only [Option.bind_some, cond_false]
    obtain ⟨b, t2, e3, e4, _, _⟩ := cut_tot N [42] t
    rw [e3]
    cases b with
    | true => exact ⟨_, t2, rfl, h2.marks _ _, by omega⟩
    | false =>
      simp only [Option.bind_some, cond_false]
      obtain ⟨b, t3, e5, e6, _, _⟩ := cut_tot N [43] t2
      rw [e5]
      cases b with
      | true => exact ⟨_, t3, rfl, h2.marks _ _, by omega⟩
      | false => exact ⟨_, t3, rfl, h2, by omega⟩
end Go.Proofs.Ytmmioinglmeoiaa
namespace Go.Proofs.Ytmmioinglmeoiaa
open Go.X
theorem isEmp {s : Str} (h : s ≠ []) : (s != ([] : Str)) = true := by simpa using h
theorem esc_app_ne {br : Bool} {c : Nat} {t : Str} : esc br c ++ t ≠ [] := by simp [esc_ne]
theorem rangeT_head (g : Range) (d : UInt8) (t : Str) (hg : InR .u8 g.From) (hd : d.toNat = 91 ∨ d.toNat = 93 ∨ d.toNat = 94 ∨ d.toNat = 45) : ([d] : Str).isPrefixOf (rangeT g ++ t) = false := by
  obtain ⟨f, h1, h2, h3⟩ := inr8 hg
  unfold rangeT
  rw [List.append_assoc, h3]
  exact esc_head h2 d _ (by omega) (by simpa using hd)
theorem ranges_head (l : List Range) (t : Str) (hl : ∀ g ∈ l, InR .u8 g.From ∧ InR .u8 g.To) (h0 : l ≠ []) (d : UInt8) (hd : d.toNat = 91 ∨ d.toNat = 93 ∨ d.toNat = 94 ∨ d.toNat = 45) : ([d] : Str).isPrefixOf (l.flatMap rangeT ++ t) = false := by
  cases l with
  | nil => exact absurd rfl h0
  | cons g l =>
    rw [List.flatMap_cons, List.append_assoc]
    exact rangeT_head g d _ (hl g (List.mem_cons_self ..)).1 hd
theorem drop1 {α : Type} {f : α → Str} {l : List α} {k : Nat} {x : α} (h : l[k]? = some x) : (l.drop k).flatMap f = f x ++ (l.drop (k + 1)).flatMap f := by
  have hlt := getlt h
  have hxe : l[k] = x := by rw [List.getElem?_eq_getElem hlt] at h; exact Option.some.inj h
  rw [List.drop_eq_getElem_cons hlt, hxe, List.flatMap_cons]
theorem cls_back {N : Nat} {T : Str} {n : Bool} {a b : Int} {l : List Range} {t : Str} (hl : ∀ g ∈ l, InR .u8 g.From ∧ InR .u8 g.To) (hN : l.length < N) (hlen : l.length ≤ 1000000) :
    iter (fun s : Reader × Item => scan_reader_item_b1 N s.1 s.2) N (⟨l.flatMap rangeT ++ 93 :: t⟩, Item.mk T [] n a b) = some (Item.mk T l n a b, ⟨t⟩) := by
  refine iter_at (fun k : Nat => ((⟨(l.drop k).flatMap rangeT ++ 93 :: t⟩ : Reader), Item.mk T (l.take k) n a b)) l.length _ rfl (fun k hk => ?_) ?_ N hN
  · obtain ⟨g, hg⟩ := at_lt hk
    have hgm := List.mem_of_getElem? hg
    obtain ⟨f, hf1, hf2, hf3⟩ := inr8 (hl g hgm).1
    obtain ⟨z, hz1, hz2, hz3⟩ := inr8 (hl g hgm).2
    have hh := rangeT_head g 93 ((l.drop (k + 1)).flatMap rangeT ++ 93 :: t) (hl g hgm).1 (by decide)
    have hne : rangeT g ++ ((l.drop (k + 1)).flatMap rangeT ++ 93 :: t) ≠ [] := by unfold rangeT; simp
    have hr : (l.drop k).flatMap rangeT ++ 93 :: t = rangeT g ++ ((l.drop (k + 1)).flatMap rangeT ++ 93 :: t) := by rw [drop1 hg, List.append_assoc]
    simp only [hr]
    generalize hrest : (l.drop (k + 1)).flatMap rangeT ++ 93 :: t = rest at hh hne
    have hrest0 : rest ≠ [] := by rw [← hrest]; simp
    have hrest1 : ([45] : Str).isPrefixOf rest = false := by
      rw [← hrest]
      by_cases h0 : l.drop (k + 1) = []
      · rw [h0]; rfl
      · exact ranges_head _ _ (fun g hg => hl g (List.mem_of_mem_drop hg)) h0 45 (by decide)
    unfold scan_reader_item_b1
    simp only [isEmp hne, cond_true, cut_miss N hh, Option.bind_some, Bool.not_false]
    by_cases he : g.To = g.From
    · have hrt : rangeT g ++ rest = esc true f ++ rest := by unfold rangeT; rw [if_pos he, hf3, List.append_nil]
      rw [hrt, one_esc hf2]
      simp only [Option.bind_some, cut_miss N hrest1, cond_false]
      rw [← hf1]
      have e : (Range.mk g.From g.From) = g := by cases g; simp only at he; rw [he]
      rw [e, app1 (by simp; omega), ← take1 hg]
      cases decide ((rest.length : Int) > 1) <;> rfl
    · have hrt : rangeT g ++ rest = esc true f ++ (([45] : Str) ++ (esc true z ++ rest)) := by unfold rangeT; rw [if_neg he, hf3, hz3]; simp
      rw [hrt, one_esc hf2]
      have hlen2 : decide ((((([45] : Str) ++ (esc true z ++ rest)).length : Nat) : Int) > 1) = true := by
        refine decide_eq_true ?_
        have := List.length_pos_iff.2 hrest0
        simp; omega
      simp only [Option.bind_some, hlen2, cond_true, cut_hit]
      rw [one_esc hz2]
      simp only [Option.bind_some]
      rw [← hf1, ← hz1]
      rw [app1 (by simp; omega), ← take1 hg]
      rfl
  · have hne : (93 :: t : Str) ≠ [] := by simp
    have e : (l.drop l.length).flatMap rangeT ++ 93 :: t = ([93] : Str) ++ t := by simp
    unfold scan_reader_item_b1
    simp only [e, List.take_length]
    rw [cut_hit]
    rfl
def escs (w : Str) : Str := w.flatMap fun c => esc false c.toNat
theorem txt_back {N : Nat} {w t : Str} (hN : w.length < N) (hlen : w.length ≤ 1000000) :
    iter (fun s : List Int × Reader => scan_reader_item_b2 N s.1 s.2) N ([], ⟨escs w ++ 34 :: t⟩) = some (⟨t⟩, ints w) := by
  refine iter_at (fun k : Nat => (ints (w.take k), (⟨escs (w.drop k) ++ 34 :: t⟩ : Reader))) w.length _ rfl (fun k hk => ?_) ?_ N hN
  · obtain ⟨c, hc⟩ := at_lt hk
    have hr : escs (w.drop k) ++ 34 :: t = esc false c.toNat ++ (escs (w.drop (k + 1)) ++ 34 :: t) := by
      unfold escs; rw [drop1 hc, List.append_assoc]
    simp only [hr]
    generalize escs (w.drop (k + 1)) ++ 34 :: t = rest
    have hh := esc_head (br := false) (u8lt c) 34 rest (by decide) (by decide)
    unfold scan_reader_item_b2
    simp only [isEmp esc_app_ne, cond_true, cut_miss N hh, Option.bind_some, Bool.not_false]
    rw [one_esc (u8lt c)]
    simp only [Option.bind_some]
    rw [app1 (by simp [ints]; omega)]
    have e : ([(c.toNat : Int)] : List Int) = ints [c] := rfl
    rw [e, ints_app, take1 hc]
    rfl
  · have e : escs (w.drop w.length) ++ 34 :: t = ([34] : Str) ++ t := by simp [escs]
    unfold scan_reader_item_b2
    simp only [e, List.take_length]
    rw [cut_hit]
    rfl
def Behind (t : Str) : Prop := t = [] ∨ ∃ u, t = 32 :: u
theorem Behind.miss {t : Str} (h : Behind t) (d : UInt8) (hd : d ≠ 32) : ([d] : Str).isPrefixOf t = false := by
  rcases h with rfl | ⟨u, rfl⟩
  · rfl
  · rw [pre1, beq_eq_false_iff_ne]; exact hd
theorem item_back {N : Nat} {x : Item} (h : ItP x) (hb : InB x) {t : Str} (ht : Behind t) (hN : 100 ≤ N) : scan_reader_item N ⟨itemT x ++ t⟩ = some (x, ⟨t⟩) := by
  obtain ⟨hm, h⟩ := h
  obtain ⟨T, R, n, le, mo⟩ := x
  unfold scan_reader_item
  have hmark : ∀ (y : Item), y = Item.mk T R n 1 1 → ((scan_reader_cut N ([63]) ⟨markT (Item.mk T R n le mo) ++ t⟩).bind fun r153 =>
  bif r153.1 then
    some ((Item.mk y.Text y.Ranges y.Not 0 1), r153.2)
  else
    (scan_reader_cut N ([42]) r153.2).bind fun r159 =>
    bif r159.1 then
      some ((Item.mk y.Text y.Ranges y.Not 0 (-1)), r159.2)
    else
      (scan_reader_cut N ([43]) r159.2).bind fun r165 =>
      bif r165.1 then
        some ((Item.mk y.Text y.Ranges y.Not 1 (-1)), r165.2)
      else
        some (y, r165.2)) = some (Item.mk T R n le mo, ⟨t⟩) := by
    intro y hy
    subst hy
    obtain ⟨h1, h2⟩ := hm
    simp only at h1 h2
    have m1 := cut_miss N (ht.miss 63 (by decide))
    have m2 := cut_miss N (ht.miss 42 (by decide))
    have m3 := cut_miss N (ht.miss 43 (by decide))
    rcases h1 with rfl | rfl <;> rcases h2 with rfl | rfl
    · have e : markT (Item.mk T R n 1 1) ++ t = t := rfl
      rw [e, m1]
      simp only [Option.bind_some, cond_false, m2, m3]
    · have e : markT (Item.mk T R n 1 (-1)) ++ t = ([43] : Str) ++ t := rfl
      have q1 : scan_reader_cut N [63] ⟨([43] : Str) ++ t⟩ = some (false, ⟨([43] : Str) ++ t⟩) := cut_miss N rfl
      have q2 : scan_reader_cut N [42] ⟨([43] : Str) ++ t⟩ = some (false, ⟨([43] : Str) ++ t⟩) := cut_miss N rfl
      rw [e, q1]
      simp only [Option.bind_some, cond_false, q2, cut_hit, cond_true]
    · have e : markT (Item.mk T R n 0 1) ++ t = ([63] : Str) ++ t := rfl
      rw [e, cut_hit]
      rfl
    · have e : markT (Item.mk T R n 0 (-1)) ++ t = ([42] : Str) ++ t := rfl
      have q1 : scan_reader_cut N [63] ⟨([42] : Str) ++ t⟩ = some (false, ⟨([42] : Str) ++ t⟩) := cut_miss N rfl
      rw [e, q1]
      simp only [Option.bind_some, cond_false, cut_hit, cond_true]
  by_cases h0 : T = []
  · subst h0
    simp only [if_pos] at h
    have e : itemT (Item.mk [] R n le mo) ++ t = ([91] : Str) ++ ((if n then [94] else []) ++ (R.flatMap rangeT ++ 93 :: (markT (Item.mk [] R n le mo) ++ t))) := by
      simp [itemT, bodyT]
    have hR : R ≠ [] := by intro e; subst e; simp at h
    rw [e, cut_hit]
    simp only [Option.bind_some, cond_true]
    cases n with
    | true =>
      simp only [if_true]
      rw [cut_hit]
      simp only [Option.bind_some]
      rw [cls_back (l := R) hb (by omega) (by omega)]
      simp only [Option.bind_some]
      exact hmark _ rfl
    | false =>
      simp only [Bool.false_eq_true, if_false, List.nil_append]
      rw [cut_miss N (ranges_head R _ hb hR 94 (by decide))]
      simp only [Option.bind_some]
      rw [cls_back (l := R) hb (by omega) (by omega)]
      simp only [Option.bind_some]
      exact hmark _ rfl
  · simp only [if_neg h0] at h
    obtain ⟨h1, rfl, rfl⟩ := h
    have e : itemT (Item.mk T [] false le mo) ++ t = ([34] : Str) ++ (escs T ++ 34 :: (markT (Item.mk T [] false le mo) ++ t)) := by
      simp [itemT, bodyT, h0, escs]
    have q : scan_reader_cut N [91] ⟨([34] : Str) ++ (escs T ++ 34 :: (markT (Item.mk T [] false le mo) ++ t))⟩ = some (false, ⟨([34] : Str) ++ (escs T ++ 34 :: (markT (Item.mk T [] false le mo) ++ t))⟩) := cut_miss N rfl
    rw [e, q]
    simp only [Option.bind_some, cond_false, cut_hit]
    rw [txt_back (by omega) (by omega)]
    simp only [Option.bind_some, bytes_bld]
    exact hmark _ rfl
def HB (L : Nat) (r : Rule) : Prop := r.Kind.length ≤ L ∧ r.Next.length ≤ L ∧ r.Items.length ≤ 21 ∧ ∀ x ∈ r.Items, IB L x
theorem HB.sz {L N : Nat} {r : Rule} (h : HB L r) (hN : L + 100 ≤ N) : SzR N r := by
  obtain ⟨h1, h2, h3, h4⟩ := h
  refine ⟨by omega, by omega, by omega, fun x hx => ?_⟩
  obtain ⟨g1, g2, _⟩ := h4 x hx
  exact ⟨by omega, by omega⟩
theorem rule_loop {N L : Nat} {s : Str} (k : Str) (hs : s.length ≤ L) (hk : k.length ≤ L) (hL : L ≤ 1000000) (hN : L + 100 ≤ N) :
    ∃ b, iter (fun a : Reader × Rule => scan_rule_b1 N a.1 a.2) N (⟨s⟩, Rule.mk k [] []) = some b ∧ HB L b.1 := by
  obtain ⟨b, h1, h2⟩ := iter_meas (body := fun a : Reader × Rule => scan_rule_b1 N a.1 a.2) (fun a => a.1.s.length ≤ L ∧ HB L a.2 ∧ a.2.Next = []) (fun a => 22 - a.2.Items.length) (fun b => HB L b.1) (fun a ha => by
    obtain ⟨⟨s⟩, ⟨K, I, X⟩⟩ := a
    obtain ⟨g1, ⟨g2, g3, g4, g5⟩, g6⟩ := ha
    simp only at g1 g2 g3 g4 g5 g6 ⊢
    subst g6
    unfold scan_rule_b1
    by_cases h0 : s = []
    · subst h0
      exact .inr ⟨_, rfl, g2, g3, g4, g5⟩
    · simp only [isEmp h0, cond_true]
      by_cases h1 : (I.length : Int) ≤ 20
      · rw [decide_eq_true h1]
        obtain ⟨b, t, e1, e2, e3, e4⟩ := cut_tot N [45, 62, 32] s
        simp only [cond_true, e1, Option.bind_some]
        cases b with
        | true => exact .inr ⟨_, rfl, g2, by simp only; omega, g4, g5⟩
        | false =>
          obtain rfl := e4 rfl
          obtain ⟨x, u, e5, e6, e7⟩ := item_tot (N := N) (L := L) hL g1 (by omega)
          simp only [cond_false, e5, Option.bind_some]
          rw [app1 (by simp; omega)]
          obtain ⟨b, z, e8, e9, _, _⟩ := cut_tot N [32] u
          simp only [Option.bind_some, e8]
          refine .inl ⟨_, rfl, ⟨by simp only; omega, ⟨g2, g3, by simp; omega, fun y hy => ?_⟩, rfl⟩, by simp; omega⟩
          rcases List.mem_append.1 hy with hy | hy
          · exact g5 y hy
          · rw [List.mem_singleton.1 hy]; exact e6
      · rw [decide_eq_false h1]
        exact .inr ⟨_, rfl, g2, g3, g4, g5⟩) N (⟨s⟩, Rule.mk k [] []) (by simp; omega) ⟨hs, ⟨hk, by simp, by simp, fun x hx => by cases hx⟩, rfl⟩
  exact ⟨b, h1, h2⟩
theorem IB.list {L : Nat} {r : Rule} (h : HB L r) : ∀ x ∈ r.Items, InB x := fun x hx => (h.2.2.2 x hx).2.2
theorem Good.next {r : Rule} (h : Good r) : r.Next.length ≤ 16 := by
  rcases h.2.1 with g | g
  · rw [g]; decide
  · exact (word_len g).2
theorem rule_tot {N : Nat} {s : Str} (hs : s.length ≤ 1000000) (hN : s.length + 100 ≤ N) : ∃ r b, scan_rule N s = some (r, b) ∧ (b = true → Good r ∧ lineT r = s) := by
  unfold scan_rule strings_Cut
  rw [if_pos (by omega)]
  simp only [Option.bind_some]
  have hcl := cut_len s [32]
  obtain ⟨b, h1, h2⟩ := rule_loop (N := N) (L := s.length) (s := (Lib.cut s [32]).2.1) (Lib.cut s [32]).1 hcl.2 hcl.1 hs hN
  rw [h1]
  simp only [Option.bind_some]
  rcases (scan_sound_eq (h2.sz hN)).cases with ⟨h, p⟩ | ⟨h, p⟩
  · rw [h]
    have hg : Good b.1 := ⟨p.1, p.2, IB.list h2⟩
    simp only [Option.bind_some, cond_true, scan_line_eq p.1 hg.next (IB.list h2) (by omega : 100 ≤ N)]
    refine ⟨_, _, rfl, fun h => ⟨hg, eq_of_beq h⟩⟩
  · rw [h]
    exact ⟨_, false, rfl, fun h => by cases h⟩
theorem word_no {w : Str} (h : word w = true) (d : UInt8) (hd : d.toNat < 97) : d ∉ w := by
  intro hm
  unfold word at h
  simp only [Bool.and_eq_true, List.all_eq_true, decide_eq_true_eq] at h
  have := h.1 d hm
  omega
theorem index_app {a : Str} {c : UInt8} {b : Str} (h : c ∉ a) : Lib.index (a ++ c :: b) [c] = (a.length : Int) := by
  induction a with
  | nil => simp [Lib.index, List.isPrefixOf]
  | cons d a ih =>
    simp only [List.mem_cons, not_or] at h
    have := ih h.2
    have e : ([c] : Str).isPrefixOf (d :: (a ++ c :: b)) = false := by
      rw [pre1, beq_eq_false_iff_ne]; exact h.1
    simp only [List.cons_append, Lib.index, e, this]
    have e2 : ((a.length : Int) == -1) = false := by rw [beq_eq_false_iff_ne]; omega
    simp [e2]
theorem index_none {a : Str} {c : UInt8} (h : c ∉ a) : Lib.index a [c] = -1 := by
  induction a with
  | nil => rfl
  | cons d a ih =>
    simp only [List.mem_cons, not_or] at h
    have e : ([c] : Str).isPrefixOf (d :: a) = false := by
      rw [pre1, beq_eq_false_iff_ne]; exact h.1
    simp [Lib.index, e, ih h.2]
theorem cut_app {a : Str} {c : UInt8} {b : Str} (h : c ∉ a) : Lib.cut (a ++ c :: b) [c] = (a, b, true) := by
  unfold Lib.cut
  rw [index_app h, if_pos (by omega)]
  simp
theorem cut_none {a : Str} {c : UInt8} (h : c ∉ a) : Lib.cut a [c] = (a, [], false) := by
  unfold Lib.cut
  rw [index_none h, if_neg (by omega)]
theorem itemT_head (x : Item) (t : Str) : ∃ (d : UInt8) (u : Str), itemT x ++ t = d :: u ∧ (d = 91 ∨ d = 34) := by
  unfold itemT bodyT
  split
  · exact ⟨91, _, by simp only [List.append_assoc, List.cons_append, List.nil_append]; rfl, .inl rfl⟩
  · exact ⟨34, _, by simp only [List.append_assoc, List.cons_append, List.nil_append]; rfl, .inr rfl⟩
def tailT (l : List Item) (nx : Str) : Str :=
  match l with
  | [] => if nx = [] then [] else [45, 62, 32] ++ nx
  | x :: l => itemT x ++ l.flatMap (fun x => 32 :: itemT x) ++ if nx = [] then [] else [32, 45, 62, 32] ++ nx
theorem tailT_step (x : Item) (l : List Item) (nx : Str) : ∃ t, tailT (x :: l) nx = itemT x ++ t ∧ Behind t ∧ t = (if tailT l nx = [] then [] else 32 :: tailT l nx) := by
  refine ⟨l.flatMap (fun x => 32 :: itemT x) ++ if nx = [] then [] else [32, 45, 62, 32] ++ nx, by simp only [tailT, List.append_assoc], ?_, ?_⟩
  · cases l with
    | nil =>
      by_cases h : nx = []
      · rw [if_pos h]; exact .inl rfl
      · rw [if_neg h]; exact .inr ⟨_, rfl⟩
    | cons y l => exact .inr ⟨_, rfl⟩
  · cases l with
    | nil =>
      by_cases h : nx = []
      · simp [tailT, h]
      · simp [tailT, h]
    | cons y l =>
      have : tailT (y :: l) nx ≠ [] := by
        obtain ⟨d, u, e, _⟩ := itemT_head y (l.flatMap (fun x => 32 :: itemT x) ++ if nx = [] then [] else [32, 45, 62, 32] ++ nx)
        simp only [tailT, List.append_assoc]
        rw [e]; simp
      rw [if_neg this]
      simp [tailT]
theorem rule_back {N : Nat} {r : Rule} (h : Good r) (hN : 5000 ≤ N) : scan_rule N (lineT r) = some (r, true) := by
  have hnl := h.next
  have hll := lineT_len h.1 hnl
  have hkw := word_no h.1.1 32 (by decide)
  obtain ⟨K, I, X⟩ := r
  have hI := h.1.2.1
  simp only at hkw hI
  obtain ⟨x0, I0, rfl⟩ : ∃ x l, I = x :: l := by
    cases I with
    | nil => simp at hI
    | cons x l => exact ⟨x, l, rfl⟩
  have hline : lineT (Rule.mk K (x0 :: I0) X) = K ++ 32 :: tailT (x0 :: I0) X := by
    simp [lineT, tailT]
  unfold scan_rule strings_Cut
  rw [if_pos (by omega)]
  simp only [Option.bind_some]
  have hc : Lib.cut (lineT (Rule.mk K (x0 :: I0) X)) [32] = (K, tailT (x0 :: I0) X, true) := by rw [hline]; exact cut_app hkw
  rw [hc]
  simp only
  have hloop : ∃ z, iter (fun a : Reader × Rule => scan_rule_b1 N a.1 a.2) N (⟨tailT (x0 :: I0) X⟩, Rule.mk K [] []) = some (Rule.mk K (x0 :: I0) X, z) := by
    obtain ⟨b, h1, h2⟩ := iter_ind (body := fun a : Reader × Rule => scan_rule_b1 N a.1 a.2) (fun k a => a = (⟨tailT ((x0 :: I0).drop k) X⟩, Rule.mk K ((x0 :: I0).take k) [])) (x0 :: I0).length (fun b => b.1 = Rule.mk K (x0 :: I0) X) (fun k a hk ha => by
      subst ha
      obtain ⟨x, hx⟩ := at_lt hk
      have hxm := List.mem_of_getElem? hx
      have hxe : (x0 :: I0)[k] = x := by rw [List.getElem?_eq_getElem hk] at hx; exact Option.some.inj hx
      obtain ⟨t, e1, e2, e3⟩ := tailT_step x ((x0 :: I0).drop (k + 1)) X
      refine ⟨_, ?_, rfl⟩
      rw [List.drop_eq_getElem_cons hk, hxe, e1]
      obtain ⟨d, u, e4, e5⟩ := itemT_head x t
      have hne : itemT x ++ t ≠ [] := by rw [e4]; simp
      have hmiss : ([45, 62, 32] : Str).isPrefixOf (itemT x ++ t) = false := by
        rw [e4]
        rcases e5 with rfl | rfl <;> rfl
      unfold scan_rule_b1
      have hle : decide ((((x0 :: I0).take k).length : Int) ≤ 20) = true := decide_eq_true (by simp only [List.length_take, List.length_cons] at hI ⊢; omega)
      simp only [isEmp hne, cond_true, hle, cut_miss N hmiss, Option.bind_some, cond_false]
      rw [item_back (h.1.2.2 x hxm) (h.2.2 x hxm) e2 (by omega)]
      simp only [Option.bind_some]
      rw [app1 (by simp only [List.length_take, List.length_cons, List.length_nil] at hI ⊢; omega), take1 hx]
      simp only [Option.bind_some]
      by_cases h0 : tailT ((x0 :: I0).drop (k + 1)) X = []
      · rw [if_pos h0] at e3
        subst e3
        rw [cut_miss N rfl, h0]
        rfl
      · rw [if_neg h0] at e3
        have e6 : t = ([32] : Str) ++ tailT ((x0 :: I0).drop (k + 1)) X := e3
        rw [e6, cut_hit]
        rfl) (fun a ha => by
      subst ha
      rw [List.drop_length, List.take_length]
      by_cases h0 : X = []
      · subst h0
        exact ⟨_, rfl, rfl⟩
      · have e : tailT [] X = ([45, 62, 32] : Str) ++ X := by simp [tailT, h0]
        unfold scan_rule_b1
        have hle : decide (((x0 :: I0).length : Int) ≤ 20) = true := decide_eq_true (by simp at hI ⊢; omega)
        simp only [e]
        rw [cut_hit, hle]
        refine ⟨(Rule.mk K (x0 :: I0) X, ⟨X⟩), rfl, rfl⟩) N (⟨tailT (x0 :: I0) X⟩, Rule.mk K [] []) (by omega) rfl
    obtain ⟨b1, b2⟩ := b
    exact ⟨b2, by rw [h1]; simp only at h2; rw [h2]⟩
  obtain ⟨z, hz⟩ := hloop
  rw [hz]
  simp only [Option.bind_some]
  have hsz : SzR N (Rule.mk K (x0 :: I0) X) := by
    refine ⟨by have := (word_len h.1.1).2; simp only at this ⊢; omega, by simp only at hnl ⊢; omega, by simp only; omega, fun y hy => ?_⟩
    have := (h.1.2.2 y hy).2
    split at this
    · rename_i g; rw [g]; simp; omega
    · rw [this.2.1]; simp; omega
  rcases (scan_sound_eq hsz).cases with ⟨g, p⟩ | ⟨g, p⟩
  · rw [g]
    simp only [Option.bind_some, cond_true, scan_line_eq h.1 hnl h.2.2 (by omega : 100 ≤ N)]
    simp
  · exact absurd ⟨h.1, h.2.1⟩ p
end Go.Proofs.Ytmmioinglmeoiaa
namespace Go.Proofs.Ytmmioinglmeoiaa
open Go.X
theorem dg {s u : Str} {p : Nat} (h : s.drop p = u) (i : Nat) : s[p + i]? = u[i]? := by rw [← h, List.getElem?_drop]
theorem dgx {s u : Str} {p : Nat} (h : s.drop p = u) (i : Nat) {c : UInt8} (hc : u[i]? = some c) : idx s (((p + i : Nat)) : Int) = some c := by rw [ix, dg h, hc]
theorem dlen {s u : Str} {p : Nat} (h : s.drop p = u) (h0 : u ≠ []) : s.length = p + u.length := by
  have h1 : u.length = s.length - p := by rw [← h, List.length_drop]
  have h2 := List.length_pos_iff.2 h0
  omega
theorem idx_ex {s : Str} {k : Nat} (h : k < s.length) : ∃ c, idx s (k : Int) = some c := by
  obtain ⟨c, hc⟩ := at_lt h
  exact ⟨c, ixg hc⟩
theorem ad (p i : Nat) : (p : Int) + (i : Int) = ((p + i : Nat) : Int) := by omega
theorem wr {p i : Nat} (h : p + i ≤ 1000000000) : IntKind.wrap .i64 ((p : Int) + (i : Int)) = ((p + i : Nat) : Int) := by rw [ad, wrapN h]
theorem digit_tot (N : Nat) (c : Int) : ∃ d, calqueref44_digit N c = some d := by
  unfold calqueref44_digit
  cases decide (c ≥ 48) <;> cases decide (c ≤ 57) <;> cases decide (c ≥ 97) <;> cases decide (c ≤ 102) <;> exact ⟨_, rfl⟩
theorem digit_all (N : Nat) : ((List.range 16).all fun k => calqueref44_digit N ((hexd k).toNat : Int) == some (k : Int)) = true := by kernel_rfl
theorem digit_at {N k : Nat} (h : k < 16) : calqueref44_digit N ((hexd k).toNat : Int) = some (k : Int) := eq_of_beq (List.all_eq_true.1 (digit_all N) k (List.mem_range.2 h))
def Beh (s : Str) (p : Nat) (n : Int) : Prop := n = -1 ∨ ∃ m : Nat, n = (m : Int) ∧ p < m ∧ m ≤ s.length
theorem rb_tot {N : Nat} {s : Str} {p : Nat} (hs : s.length ≤ 1000000) (hp : p ≤ s.length) : ∃ (v : Nat) (n : Int), calqueref44_readByte N s p = some ((v : Int), n) ∧ v < 256 ∧ Beh s p n := by
  unfold calqueref44_readByte
  by_cases h0 : (p : Int) ≥ (s.length : Int)
  · rw [decide_eq_true h0]; exact ⟨0, -1, rfl, by decide, .inl rfl⟩
  · rw [decide_eq_false h0]
    obtain ⟨c, hc⟩ := idx_ex (s := s) (k := p) (by omega)
    simp only [cond_false, hc, Option.bind_some]
    rw [show (1 : Int) = ((1 : Nat) : Int) from rfl, show (2 : Int) = ((2 : Nat) : Int) from rfl, show (3 : Int) = ((3 : Nat) : Int) from rfl, show (4 : Int) = ((4 : Nat) : Int) from rfl, wr (by omega), wr (by omega), wr (by omega), wr (by omega)]
    cases (((c.toNat : Int) != 92)) with
    | true => exact ⟨c.toNat, _, rfl, u8lt c, .inr ⟨p + 1, rfl, by omega, by omega⟩⟩
    | false =>
      simp only [cond_false]
      have short : ∃ (v : Nat) (n : Int), (bif decide (((p + 1 : Nat) : Int) < (s.length : Int)) then (idx s ((p + 1 : Nat) : Int)).bind fun c34 => some ((c34.toNat : Int), ((p + 2 : Nat) : Int)) else some (0, -1)) = some ((v : Int), n) ∧ v < 256 ∧ Beh s p n := by
        by_cases h1 : ((p + 1 : Nat) : Int) < (s.length : Int)
        · obtain ⟨d, hd⟩ := idx_ex (s := s) (k := p + 1) (by omega)
          rw [decide_eq_true h1, hd]
          exact ⟨d.toNat, _, rfl, u8lt d, .inr ⟨p + 2, rfl, by omega, by omega⟩⟩
        · rw [decide_eq_false h1]
          exact ⟨0, -1, rfl, by decide, .inl rfl⟩
      by_cases h3 : ((p + 3 : Nat) : Int) < (s.length : Int)
      · rw [decide_eq_true h3]
        obtain ⟨d, hd⟩ := idx_ex (s := s) (k := p + 1) (by omega)
        obtain ⟨a, ha⟩ := idx_ex (s := s) (k := p + 2) (by omega)
        obtain ⟨b, hb⟩ := idx_ex (s := s) (k := p + 3) (by omega)
        obtain ⟨x, hx⟩ := digit_tot N (a.toNat : Int)
        obtain ⟨y, hy⟩ := digit_tot N (b.toNat : Int)
        have short' := short
        simp only [hd, Option.bind_some] at short
        simp only [cond_true, hd, ha, hb, hx, hy, Option.bind_some]
        cases (((d.toNat : Int) == 120)) with
        | false => exact short
        | true =>
          simp only [cond_true]
          cases decide (x ≥ 0) with
          | false => exact short
          | true =>
            simp only [cond_true]
            cases decide (y ≥ 0) with
            | false => exact short
            | true =>
              simp only [cond_true]
              obtain ⟨v, hv, e⟩ := wrap_u8_in (IntKind.wrap .i64 ((IntKind.wrap .i64 (x * 16)) + y))
              exact ⟨v, _, by rw [e], hv, .inr ⟨p + 4, rfl, by omega, by omega⟩⟩
      · rw [decide_eq_false h3]
        exact short
theorem rb_esc {N : Nat} {s : Str} {p : Nat} {br : Bool} {c : Nat} {t : Str} (hs : s.length ≤ 1000000) (hc : c < 256) (h : s.drop p = esc br c ++ t) : calqueref44_readByte N s p = some ((c : Int), ((p + (esc br c).length : Nat) : Int)) := by
  revert h
  have e92 : (((92 : UInt8).toNat : Int) != 92) = false := rfl
  have e120 : (((120 : UInt8).toNat : Int) == 120) = true := rfl
  refine esc_cases (br := br) (c := c) (fun w => s.drop p = w ++ t → calqueref44_readByte N s p = some ((c : Int), ((p + w.length : Nat) : Int))) (fun hx _ h => ?_) (fun h => ?_) (fun hx _ _ _ _ h => ?_)
  · have hl := dlen h (by simp)
    simp only [List.length_append, List.length_cons, List.length_nil] at hl
    have i0 : idx s (p : Int) = some 92 := dgx h 0 rfl
    have i1 : idx s ((p + 1 : Nat) : Int) = some (UInt8.ofNat c) := dgx h 1 rfl
    unfold calqueref44_readByte
    rw [decide_eq_false (by omega)]
    rw [show (1 : Int) = ((1 : Nat) : Int) from rfl, show (2 : Int) = ((2 : Nat) : Int) from rfl, show (3 : Int) = ((3 : Nat) : Int) from rfl, show (4 : Int) = ((4 : Nat) : Int) from rfl, wr (by omega), wr (by omega), wr (by omega), wr (by omega)]
    have e1 : decide (((p + 1 : Nat) : Int) < (s.length : Int)) = true := decide_eq_true (by omega)
    have e2 : (((c : Nat) : Int) == 120) = false := by rw [beq_eq_false_iff_ne]; omega
    simp only [cond_false, i0, Option.bind_some, e92, i1, e1, cond_true, ofNat_toNat hc, e2]
    cases decide (((p + 3 : Nat) : Int) < (s.length : Int)) <;> rfl
  · have hl := dlen h (by simp)
    simp only [List.length_append, List.length_cons, List.length_nil] at hl
    have i0 : idx s (p : Int) = some 92 := dgx h 0 rfl
    have i1 : idx s ((p + 1 : Nat) : Int) = some 120 := dgx h 1 rfl
    have i2 : idx s ((p + 2 : Nat) : Int) = some (hexd (c / 16)) := dgx h 2 rfl
    have i3 : idx s ((p + 3 : Nat) : Int) = some (hexd (c % 16)) := dgx h 3 rfl
    unfold calqueref44_readByte
    rw [decide_eq_false (by omega)]
    rw [show (1 : Int) = ((1 : Nat) : Int) from rfl, show (2 : Int) = ((2 : Nat) : Int) from rfl, show (3 : Int) = ((3 : Nat) : Int) from rfl, show (4 : Int) = ((4 : Nat) : Int) from rfl, wr (by omega), wr (by omega), wr (by omega), wr (by omega)]
    have e3 : decide (((p + 3 : Nat) : Int) < (s.length : Int)) = true := decide_eq_true (by omega)
    have g1 : decide (((c / 16 : Nat) : Int) ≥ 0) = true := decide_eq_true (by omega)
    have g2 : decide (((c % 16 : Nat) : Int) ≥ 0) = true := decide_eq_true (by omega)
    simp only [cond_false, i0, Option.bind_some, e92, i1, i2, i3, e3, cond_true, e120, digit_at (show c / 16 < 16 by omega), digit_at (show c % 16 < 16 by omega), g1, g2]
    rw [show (((c / 16 : Nat) : Int) * 16) = ((c / 16 * 16 : Nat) : Int) by omega, wrapN (by omega), show ((c / 16 * 16 : Nat) : Int) + ((c % 16 : Nat) : Int) = (c : Int) by omega, wrapN (by omega), wrap_of (inR_u8.2 ⟨by omega, by omega⟩)]
    rfl
  · have hl := dlen h (by simp)
    simp only [List.length_append, List.length_cons, List.length_nil] at hl
    have i0 : idx s (p : Int) = some (UInt8.ofNat c) := dgx h 0 rfl
    unfold calqueref44_readByte
    rw [decide_eq_false (by omega)]
    simp only [cond_false, i0, Option.bind_some, ofNat_toNat hc]
    rw [show (92 : Int) = ((92 : Nat) : Int) from rfl, neI hx]
    simp only [cond_true]
    rw [show (1 : Int) = ((1 : Nat) : Int) from rfl, wr (by omega)]
    rfl
def pm (s : Str) (n : Int) : Nat := if n < 0 then 0 else s.length + 1 - n.toNat
theorem Beh.pm {s : Str} {p : Nat} {n : Int} (hp : p ≤ s.length) (h : Beh s p n) : pm s n < Go.Proofs.Ytmmioinglmeoiaa.pm s (p : Int) := by
  unfold Go.Proofs.Ytmmioinglmeoiaa.pm
  rw [if_neg (show ¬((p : Int) < 0) by omega)]
  rcases h with rfl | ⟨m, rfl, h1, h2⟩
  · rw [if_pos (by omega)]; omega
  · rw [if_neg (by omega)]; omega
theorem rtext_tot {N : Nat} {s : Str} {p : Nat} (hs : s.length ≤ 1000000) (hp : p < s.length) (hN : s.length + 10 ≤ N) : ∃ x n, calqueref44_readText N s p = some (x, n) ∧ IB s.length x ∧ Beh s p n := by
  unfold calqueref44_readText
  obtain ⟨b, h1, h2⟩ := iter_meas (body := fun a : Int × List Int => calqueref44_readText_b1 N s a.1 a.2) (fun a => ∃ m : Nat, p < m ∧ m ≤ s.length ∧ a.2.length ≤ m ∧ (a.1 = (m : Int) ∨ a.1 = -1)) (fun a => pm s a.1) (fun b => b.2.length ≤ s.length ∧ (b.1 = -1 ∨ ∃ m : Nat, b.1 = (m : Int) ∧ p < m)) (fun a ha => by
    obtain ⟨a, l⟩ := a
    obtain ⟨m, g1, g2, g3, g4⟩ := ha
    simp only at g3 g4 ⊢
    unfold calqueref44_readText_b1
    rcases g4 with rfl | rfl
    rotate_left
    · exact .inr ⟨_, rfl, by simp only; omega, .inl rfl⟩
    have e1 : decide ((m : Int) ≥ 0) = true := decide_eq_true (by omega)
    simp only [e1, cond_true]
    by_cases h3 : (m : Int) < (s.length : Int)
    · rw [decide_eq_true h3]
      obtain ⟨c, hc⟩ := idx_ex (s := s) (k := m) (by omega)
      simp only [cond_true, hc, Option.bind_some]
      cases ((c.toNat : Int) != 34) with
      | false => exact .inr ⟨_, rfl, by simp only; omega, .inr ⟨m, rfl, g1⟩⟩
      | true =>
        obtain ⟨v, n, e2, _, e3⟩ := rb_tot (N := N) hs g2
        simp only [cond_true, e2, Option.bind_some]
        rw [app1 (by simp; omega)]
        refine .inl ⟨_, rfl, ?_, e3.pm g2⟩
        rcases e3 with rfl | ⟨m', rfl, g5, g6⟩
        · exact ⟨m + 1, by omega, by omega, by simp; omega, .inr rfl⟩
        · exact ⟨m', by omega, g6, by simp; omega, .inl rfl⟩
    · rw [decide_eq_false h3]
      exact .inr ⟨_, rfl, by simp only; omega, .inr ⟨m, rfl, g1⟩⟩) N (((p + 1 : Nat) : Int), []) (by unfold pm; rw [if_neg (by omega)]; omega) ⟨p + 1, by omega, by omega, by simp, .inl rfl⟩
  rw [show (1 : Int) = ((1 : Nat) : Int) from rfl, wr (by omega), h1]
  obtain ⟨b, l⟩ := b
  obtain ⟨g1, g2⟩ := h2
  simp only [Option.bind_some] at g1 g2 ⊢
  have em : IB s.length (Item.mk [] [] false 0 0) := ⟨by simp, by simp, fun g hg => by cases hg⟩
  rcases g2 with rfl | ⟨m, rfl, g3⟩
  · exact ⟨_, _, rfl, em, .inl rfl⟩
  · rw [decide_eq_false (show ¬((m : Int) < 0) by omega)]
    by_cases h3 : (m : Int) ≥ (s.length : Int)
    · rw [decide_eq_true h3]; exact ⟨_, _, rfl, em, .inl rfl⟩
    · rw [decide_eq_false h3, wr (by omega)]
      exact ⟨_, _, rfl, ⟨by rw [bytesOf_len]; exact g1, by simp, fun g hg => by cases hg⟩, .inr ⟨m + 1, rfl, by omega, by omega⟩⟩
theorem rcls_loop {N : Nat} {s : Str} {p : Nat} {body : Int × Item → Option ((Int × Item) ⊕ (Item × Int))} (hb : body = (fun a => calqueref44_readClass_b1 N s a.1 a.2) ∨ body = (fun a => calqueref44_readClass_b2 N s a.1 a.2)) (hs : s.length ≤ 1000000) (hp : p ≤ s.length) (hN : s.length + 10 ≤ N) (n0 : Bool) :
    ∃ b, iter body N ((p : Int), Item.mk [] [] n0 0 0) = some b ∧ IB s.length b.1 ∧ (b.2 = -1 ∨ ∃ m : Nat, b.2 = (m : Int) ∧ p ≤ m) := by
  obtain ⟨b, h1, h2⟩ := iter_meas (body := body) (fun a => ∃ m : Nat, p ≤ m ∧ m ≤ s.length ∧ a.2.Ranges.length ≤ m ∧ a.2.Text = [] ∧ InB a.2 ∧ (a.1 = (m : Int) ∨ a.1 = -1)) (fun a => pm s a.1) (fun b => IB s.length b.1 ∧ (b.2 = -1 ∨ ∃ m : Nat, b.2 = (m : Int) ∧ p ≤ m)) (fun a ha => by
    obtain ⟨a, x⟩ := a
    obtain ⟨m, g1, g2, g3, g4, g5, g6⟩ := ha
    simp only at g3 g4 g5 g6 ⊢
    have hib : IB s.length x := ⟨by rw [g4]; simp, by omega, g5⟩
    have e : body (a, x) = calqueref44_readClass_b1 N s a x := by rcases hb with rfl | rfl <;> rfl
    rw [e]
    unfold calqueref44_readClass_b1
    rcases g6 with rfl | rfl
    rotate_left
    · exact .inr ⟨_, rfl, hib, .inl rfl⟩
    have e1 : decide ((m : Int) ≥ 0) = true := decide_eq_true (by omega)
    simp only [e1, cond_true]
    by_cases h3 : (m : Int) < (s.length : Int)
    · rw [decide_eq_true h3]
      obtain ⟨c, hc⟩ := idx_ex (s := s) (k := m) (by omega)
      simp only [cond_true, hc, Option.bind_some]
      cases ((c.toNat : Int) != 93) with
      | false => exact .inr ⟨_, rfl, hib, .inr ⟨m, rfl, g1⟩⟩
      | true =>
        obtain ⟨v, n, e2, hv, e3⟩ := rb_tot (N := N) hs g2
        simp only [cond_true, e2, Option.bind_some]
        have hpm := e3.pm g2
        have one : app x.Ranges ([Range.mk (v : Int) (v : Int)] : List Range) = some (x.Ranges ++ [Range.mk (v : Int) (v : Int)]) := app1 (by simp; omega)
        rcases e3 with rfl | ⟨m', rfl, g7, g8⟩
        · simp only [one, Option.bind_some]
          exact .inl ⟨_, rfl, ⟨m + 1, by omega, by omega, by simp; omega, g4, inB_app g5 hv hv, .inr rfl⟩, hpm⟩
        · rw [decide_eq_true (show (m' : Int) ≥ 0 by omega)]
          simp only [cond_true]
          by_cases h5 : (m' : Int) < (s.length : Int)
          · rw [decide_eq_true h5]
            obtain ⟨d, hd⟩ := idx_ex (s := s) (k := m') (by omega)
            simp only [cond_true, hd, Option.bind_some]
            cases ((d.toNat : Int) == 45) with
            | true =>
              obtain ⟨v2, n2, e4, hv2, e5⟩ := rb_tot (N := N) hs (show m' + 1 ≤ s.length by omega)
              rw [show (m' : Int) + 1 = ((m' + 1 : Nat) : Int) by omega, e4]
              simp only [cond_true, Option.bind_some]
              rw [app1 (by simp; omega)]
              have hpm2 : pm s n2 < pm s (m : Int) := by
                have := e5.pm (by omega)
                unfold pm at this hpm ⊢
                rw [if_neg (show ¬((m : Int) < 0) by omega)]
                rw [if_neg (show ¬(((m' + 1 : Nat) : Int) < 0) by omega)] at this
                omega
              refine .inl ⟨_, rfl, ?_, hpm2⟩
              rcases e5 with rfl | ⟨m2, rfl, g9, g10⟩
              · exact ⟨m + 1, by omega, by omega, by simp; omega, g4, inB_app g5 hv hv2, .inr rfl⟩
              · exact ⟨m2, by omega, by omega, by simp; omega, g4, inB_app g5 hv hv2, .inl rfl⟩
            | false =>
              simp only [cond_false, Option.bind_some, one]
              exact .inl ⟨_, rfl, ⟨m', by omega, by omega, by simp; omega, g4, inB_app g5 hv hv, .inl rfl⟩, hpm⟩
          · rw [decide_eq_false h5]
            simp only [cond_false, one, Option.bind_some]
            exact .inl ⟨_, rfl, ⟨m', by omega, by omega, by simp; omega, g4, inB_app g5 hv hv, .inl rfl⟩, hpm⟩
    · rw [decide_eq_false h3]
      exact .inr ⟨_, rfl, hib, .inr ⟨m, rfl, g1⟩⟩) N ((p : Int), Item.mk [] [] n0 0 0) (by unfold pm; rw [if_neg (by omega)]; omega) ⟨p, Nat.le_refl _, hp, by simp, rfl, (fun g hg => by cases hg), .inl rfl⟩
  exact ⟨b, h1, h2⟩
theorem rcls_end {s : Str} {p : Nat} (hs : s.length ≤ 1000000) {x : Item} {n : Int} (h : IB s.length x) (hn : n = -1 ∨ ∃ m : Nat, n = (m : Int) ∧ p < m) : ∃ y n', (bif (decide (n < 0)) then
      some ((Item.mk ([]) ([]) false 0 0), (-1))
    else
      bif (decide (n ≥ (s.length : Int))) then
        some ((Item.mk ([]) ([]) false 0 0), (-1))
      else
        some (x, (IntKind.wrap .i64 (n + 1)))) = some (y, n') ∧ IB s.length y ∧ Beh s p n' := by
  have em : IB s.length (Item.mk [] [] false 0 0) := ⟨by simp, by simp, fun g hg => by cases hg⟩
  rcases hn with rfl | ⟨m, rfl, g3⟩
  · exact ⟨_, _, rfl, em, .inl rfl⟩
  · rw [decide_eq_false (show ¬((m : Int) < 0) by omega)]
    by_cases h3 : (m : Int) ≥ (s.length : Int)
    · rw [decide_eq_true h3]; exact ⟨_, _, rfl, em, .inl rfl⟩
    · rw [decide_eq_false h3, show (1 : Int) = ((1 : Nat) : Int) from rfl, wr (by omega)]
      exact ⟨_, _, rfl, h, .inr ⟨m + 1, rfl, by omega, by omega⟩⟩
theorem rcls_tot {N : Nat} {s : Str} {p : Nat} (hs : s.length ≤ 1000000) (hp : p < s.length) (hN : s.length + 10 ≤ N) : ∃ x n, calqueref44_readClass N s p = some (x, n) ∧ IB s.length x ∧ Beh s p n := by
  unfold calqueref44_readClass
  rw [show (1 : Int) = ((1 : Nat) : Int) from rfl, wr (by omega)]
  by_cases h1 : ((p + 1 : Nat) : Int) < (s.length : Int)
  · rw [decide_eq_true h1]
    obtain ⟨c, hc⟩ := idx_ex (s := s) (k := p + 1) (by omega)
    simp only [cond_true, hc, Option.bind_some]
    cases ((c.toNat : Int) == 94) with
    | true =>
      obtain ⟨⟨x, n⟩, g1, g2, g3⟩ := rcls_loop (N := N) (p := p + 1 + 1) (.inl rfl) hs (by omega) hN true
      simp only [cond_true, Option.bind_some]
      rw [ad, g1]
      exact rcls_end hs g2 (g3.imp id fun ⟨m, e, h⟩ => ⟨m, e, by omega⟩)
    | false =>
      obtain ⟨⟨x, n⟩, g1, g2, g3⟩ := rcls_loop (N := N) (p := p + 1) (.inl rfl) hs (by omega) hN false
      simp only [cond_false, Option.bind_some]
      rw [g1]
      exact rcls_end hs g2 (g3.imp id fun ⟨m, e, h⟩ => ⟨m, e, by omega⟩)
  · rw [decide_eq_false h1]
    obtain ⟨⟨x, n⟩, g1, g2, g3⟩ := rcls_loop (N := N) (p := p + 1) (.inr rfl) hs (by omega) hN false
    simp only [cond_false]
    rw [g1]
    exact rcls_end hs g2 (g3.imp id fun ⟨m, e, h⟩ => ⟨m, e, by omega⟩)
def marked (N : Nat) (s : Str) (o6 : Int × Item) : Option (Item × Int) :=
      bif (decide (o6.1 ≥ 0)) then
        bif (decide (o6.1 < (s.length : Int))) then
          (idx s o6.1).bind fun c52 =>
          bif ((c52.toNat : Int) == 63) then
            some ((Item.mk o6.2.Text o6.2.Ranges o6.2.Not 0 1), (o6.1 + 1))
          else
            bif ((c52.toNat : Int) == 42) then
              some ((Item.mk o6.2.Text o6.2.Ranges o6.2.Not 0 (-1)), (o6.1 + 1))
            else
              bif ((c52.toNat : Int) == 43) then
                some ((Item.mk o6.2.Text o6.2.Ranges o6.2.Not 1 (-1)), (o6.1 + 1))
              else
                some ((Item.mk o6.2.Text o6.2.Ranges o6.2.Not 1 1), o6.1)
        else
          some ((Item.mk o6.2.Text o6.2.Ranges o6.2.Not 1 1), o6.1)
      else
        some ((Item.mk o6.2.Text o6.2.Ranges o6.2.Not 1 1), o6.1)
theorem readItem_eq {N : Nat} {s : Str} {p : Nat} (hp : p < s.length) {c : UInt8} (hc : idx s (p : Int) = some c) : calqueref44_readItem N s p =
    (bif ((c.toNat : Int) == 34) then (calqueref44_readText N s p).bind fun r => marked N s (r.2, r.1) else bif ((c.toNat : Int) == 91) then (calqueref44_readClass N s p).bind fun r => marked N s (r.2, r.1) else some (Item.mk [] [] false 0 0, -1)) := by
  unfold calqueref44_readItem
  rw [decide_eq_true (show (p : Int) < (s.length : Int) by omega)]
  simp only [cond_true, hc, Option.bind_some]
  cases ((c.toNat : Int) == 34) with
  | true =>
    simp only [cond_true]
    cases calqueref44_readText N s p with
    | none => rfl
    | some r => rfl
  | false =>
    simp only [cond_false]
    cases ((c.toNat : Int) == 91) with
    | true =>
      simp only [cond_true]
      cases calqueref44_readClass N s p with
      | none => rfl
      | some r => rfl
    | false => rfl
theorem readItem_out {N : Nat} {s : Str} {p : Nat} (hp : s.length ≤ p) : calqueref44_readItem N s p = some (Item.mk [] [] false 0 0, -1) := by
  unfold calqueref44_readItem
  rw [decide_eq_false (by omega)]
  rfl
theorem marked_tot {N : Nat} {s : Str} {p : Nat} {x : Item} {n : Int} (hx : IB s.length x) (hn : Beh s p n) : ∃ y n', marked N s (n, x) = some (y, n') ∧ IB s.length y ∧ Beh s p n' := by
  unfold marked
  rcases hn with rfl | ⟨m, rfl, g1, g2⟩
  · exact ⟨_, _, rfl, hx.marks 1 1, .inl rfl⟩
  · have e1 : decide ((m : Int) ≥ 0) = true := decide_eq_true (by omega)
    simp only [e1, cond_true]
    by_cases h3 : (m : Int) < (s.length : Int)
    · rw [decide_eq_true h3]
      obtain ⟨c, hc⟩ := idx_ex (s := s) (k := m) (by omega)
      simp only [cond_true, hc, Option.bind_some]
      have hb : Beh s p ((m : Int) + 1) := .inr ⟨m + 1, by omega, by omega, by omega⟩
      cases ((c.toNat : Int) == 63) with
      | true => exact ⟨_, _, rfl, hx.marks _ _, hb⟩
      | false =>
        cases ((c.toNat : Int) == 42) with
        | true => exact ⟨_, _, rfl, hx.marks _ _, hb⟩
        | false =>
          cases ((c.toNat : Int) == 43) with
          | true => exact ⟨_, _, rfl, hx.marks _ _, hb⟩
          | false => exact ⟨_, _, rfl, hx.marks _ _, .inr ⟨m, rfl, g1, g2⟩⟩
    · rw [decide_eq_false h3]
      exact ⟨_, _, rfl, hx.marks _ _, .inr ⟨m, rfl, g1, g2⟩⟩
theorem ritem_tot {N : Nat} {s : Str} {p : Nat} (hs : s.length ≤ 1000000) (hN : s.length + 10 ≤ N) : ∃ x n, calqueref44_readItem N s p = some (x, n) ∧ IB s.length x ∧ Beh s p n := by
  by_cases hp : p < s.length
  · obtain ⟨c, hc⟩ := idx_ex hp
    rw [readItem_eq hp hc]
    cases ((c.toNat : Int) == 34) with
    | true =>
      obtain ⟨x, n, h1, h2, h3⟩ := rtext_tot (N := N) hs hp hN
      simp only [cond_true, h1, Option.bind_some]
      exact marked_tot h2 h3
    | false =>
      simp only [cond_false]
      cases ((c.toNat : Int) == 91) with
      | true =>
        obtain ⟨x, n, h1, h2, h3⟩ := rcls_tot (N := N) hs hp hN
        simp only [cond_true, h1, Option.bind_some]
        exact marked_tot h2 h3
      | false => exact ⟨_, _, rfl, ⟨by simp, by simp, fun g hg => by cases hg⟩, .inl rfl⟩
  · rw [readItem_out (by omega)]
    exact ⟨_, _, rfl, ⟨by simp, by simp, fun g hg => by cases hg⟩, .inl rfl⟩
end Go.Proofs.Ytmmioinglmeoiaa
namespace Go.Proofs.Ytmmioinglmeoiaa
open Go.X
theorem drop_app {s a b : Str} {p : Nat} (h : s.drop p = a ++ b) : s.drop (p + a.length) = b := by
  rw [← List.drop_drop, h, List.drop_left]
theorem neC {c : UInt8} {k : Nat} (hk : k < 256) : ((c.toNat : Int) != (k : Int)) = !decide (c = UInt8.ofNat k) := by
  by_cases h : c = UInt8.ofNat k
  · subst h; rw [ofNat_toNat hk]; simp
  · have : c.toNat ≠ k := fun e => h (by rw [← e]; simp)
    simp [h]; omega
theorem eqC {c : UInt8} {k : Nat} (hk : k < 256) : ((c.toNat : Int) == (k : Int)) = decide (c = UInt8.ofNat k) := by
  have := neC (c := c) hk
  unfold bne at this
  cases h : ((c.toNat : Int) == (k : Int)) <;> rw [h] at this <;> simp at this <;> simp [this]
theorem head_ne {d : UInt8} {u : Str} {c : UInt8} {t : Str} (h : ([d] : Str).isPrefixOf u = false) (e : u = c :: t) : c ≠ d := by
  rw [e, pre1, beq_eq_false_iff_ne] at h
  exact fun g => h g.symm
theorem esc_hd (br : Bool) (c : Nat) (t : Str) : ∃ d u, esc br c ++ t = d :: u :=
  esc_cases (fun w => ∃ d u, w ++ t = d :: u) (fun _ _ => ⟨_, _, rfl⟩) ⟨_, _, rfl⟩ (fun _ _ _ _ _ => ⟨_, _, rfl⟩)
theorem rtext_back {N : Nat} {s : Str} {p : Nat} {w t : Str} (hs : s.length ≤ 1000000) (h : s.drop p = 34 :: (escs w ++ 34 :: t)) (hw : w.length ≤ 1000) (hN : 2000 ≤ N) :
    calqueref44_readText N s p = some (Item.mk w [] false 0 0, ((p + (escs w).length + 2 : Nat) : Int)) := by
  have hl := dlen h (by simp)
  simp only [List.length_append, List.length_cons] at hl
  unfold calqueref44_readText
  rw [show (1 : Int) = ((1 : Nat) : Int) from rfl, wr (by omega)]
  have h1 : s.drop (p + 1) = escs w ++ 34 :: t := drop_app (a := [34]) h
  have hd : ∀ k, s.drop (p + 1 + (escs (w.take k)).length) = escs (w.drop k) ++ 34 :: t := fun k => by
    refine drop_app ?_
    rw [h1, ← List.append_assoc]
    congr 1
    unfold escs
    rw [← List.flatMap_append, List.take_append_drop]
  have hle : ∀ k, (escs (w.take k)).length ≤ 4 * w.length := fun k => by
    have := take_le (fun c : UInt8 => esc false c.toNat) 4 w k (fun c _ => esc_len _ _)
    unfold escs; omega
  have hloop : iter (fun a : Int × List Int => calqueref44_readText_b1 N s a.1 a.2) N (((p + 1 : Nat) : Int), []) = some (((p + 1 + (escs w).length : Nat) : Int), ints w) := iter_at (body := fun a : Int × List Int => calqueref44_readText_b1 N s a.1 a.2) (fun k : Nat => (((p + 1 + (escs (w.take k)).length : Nat) : Int), ints (w.take k))) w.length (((p + 1 + (escs w).length : Nat) : Int), ints w) rfl (fun k hk => by
    obtain ⟨c, hc⟩ := at_lt hk
    have hr : escs (w.drop k) ++ 34 :: t = esc false c.toNat ++ (escs (w.drop (k + 1)) ++ 34 :: t) := by
      unfold escs; rw [drop1 hc, List.append_assoc]
    have hq := hd k
    rw [hr] at hq
    have hne := dlen hq esc_app_ne
    have := hle k
    obtain ⟨d, u, e⟩ := esc_hd false c.toNat (escs (w.drop (k + 1)) ++ 34 :: t)
    have hdn := head_ne (esc_head (br := false) (u8lt c) 34 _ (by decide) (by decide)) e
    have hi : idx s ((p + 1 + (escs (w.take k)).length : Nat) : Int) = some d := by
      have := dgx hq 0 (c := d) (by rw [e]; rfl)
      exact this
    unfold calqueref44_readText_b1
    rw [e] at hne
    simp only [List.length_cons] at hne
    rw [decide_eq_true (by omega), decide_eq_true (by omega)]
    simp only [cond_true, hi, Option.bind_some]
    rw [show (34 : Int) = ((34 : Nat) : Int) from rfl, neC (by decide)]
    simp only [show decide (d = UInt8.ofNat 34) = false from decide_eq_false hdn, Bool.not_false, cond_true]
    rw [rb_esc hs (u8lt c) hq]
    simp only [Option.bind_some]
    rw [app1 (by simp [ints]; omega)]
    have e1 : ([(c.toNat : Int)] : List Int) = ints [c] := rfl
    have e2 : escs (w.take (k + 1)) = escs (w.take k) ++ esc false c.toNat := by
      unfold escs; rw [← take_flat (fun c : UInt8 => esc false c.toNat) hc]
    rw [e1, ints_app, take1 hc, e2]
    simp only [Option.bind_some, List.length_append, Nat.add_assoc]) (by
    have hq := hd w.length
    rw [List.drop_length] at hq
    have hq' : s.drop (p + 1 + (escs (w.take w.length)).length) = 34 :: t := hq
    have hne := dlen hq' (by simp)
    simp only [List.length_cons] at hne
    have hi : idx s ((p + 1 + (escs (w.take w.length)).length : Nat) : Int) = some 34 := dgx hq' 0 rfl
    unfold calqueref44_readText_b1
    simp only
    rw [decide_eq_true (by omega), decide_eq_true (by omega)]
    simp only [cond_true, hi, Option.bind_some]
    rw [List.take_length]
    rfl) N (by omega)
  rw [hloop]
  simp only [Option.bind_some]
  rw [decide_eq_false (by omega), decide_eq_false (by omega), wr (by omega)]
  simp only [cond_false, bytes_bld]
  rw [show p + 1 + (escs w).length + 1 = p + (escs w).length + 2 by omega]
theorem rcls_back {N : Nat} {s : Str} {p : Nat} {l : List Range} {t : Str} {n : Bool} {body : Int × Item → Option ((Int × Item) ⊕ (Item × Int))} (hb : body = (fun a => calqueref44_readClass_b1 N s a.1 a.2)) (hs : s.length ≤ 1000000) (hl : ∀ g ∈ l, InR .u8 g.From ∧ InR .u8 g.To) (h : s.drop p = l.flatMap rangeT ++ 93 :: t) (hN : l.length < N) (hlen : l.length ≤ 1000) :
    iter body N ((p : Int), Item.mk [] [] n 0 0) = some (Item.mk [] l n 0 0, ((p + (l.flatMap rangeT).length : Nat) : Int)) := by
  subst hb
  have hsl := dlen h (by simp)
  simp only [List.length_append, List.length_cons] at hsl
  have hd : ∀ k, s.drop (p + ((l.take k).flatMap rangeT).length) = (l.drop k).flatMap rangeT ++ 93 :: t := fun k => by
    refine drop_app ?_
    rw [h, ← List.append_assoc, ← List.flatMap_append, List.take_append_drop]
  have hle : ∀ k, ((l.take k).flatMap rangeT).length ≤ 9 * l.length := fun k => by
    have := take_le rangeT 9 l k (fun g _ => rangeT_len g)
    omega
  refine iter_at (body := fun a : Int × Item => calqueref44_readClass_b1 N s a.1 a.2) (fun k : Nat => (((p + ((l.take k).flatMap rangeT).length : Nat) : Int), Item.mk [] (l.take k) n 0 0)) l.length _ (by simp) (fun k hk => ?_) ?_ N hN
  · obtain ⟨g, hg⟩ := at_lt hk
    have hgm := List.mem_of_getElem? hg
    obtain ⟨f, hf1, hf2, hf3⟩ := inr8 (hl g hgm).1
    obtain ⟨z, hz1, hz2, hz3⟩ := inr8 (hl g hgm).2
    have hq := hd k
    rw [drop1 hg, List.append_assoc] at hq
    have hh := rangeT_head g 93 ((l.drop (k + 1)).flatMap rangeT ++ 93 :: t) (hl g hgm).1 (by decide)
    have e9 : ((l.take (k + 1)).flatMap rangeT).length = ((l.take k).flatMap rangeT).length + (rangeT g).length := by
      rw [← take_flat rangeT hg, List.length_append]
    rw [e9]
    generalize hrest : (l.drop (k + 1)).flatMap rangeT ++ 93 :: t = rest at hh hq
    have hrest0 : rest ≠ [] := by rw [← hrest]; simp
    have hrest1 : ([45] : Str).isPrefixOf rest = false := by
      rw [← hrest]
      by_cases h0 : l.drop (k + 1) = []
      · rw [h0]; rfl
      · exact ranges_head _ _ (fun g hg => hl g (List.mem_of_mem_drop hg)) h0 45 (by decide)
    have hlk := hle k
    generalize hP : p + ((l.take k).flatMap rangeT).length = P at hq
    have hq0 : rangeT g ++ rest = esc true f ++ ((if g.To = g.From then [] else 45 :: esc true z) ++ rest) := by
      unfold rangeT; rw [hf3, hz3]; simp
    have hqe := hq
    rw [hq0] at hqe
    have hne := dlen hqe esc_app_ne
    obtain ⟨d, u, e⟩ := esc_hd true f ((if g.To = g.From then [] else 45 :: esc true z) ++ rest)
    have hdn := head_ne hh (hq0.trans e)
    have hi : idx s (P : Int) = some d := dgx hqe 0 (c := d) (by rw [e]; rfl)
    have hpos : 0 < (esc true f ++ ((if g.To = g.From then [] else 45 :: esc true z) ++ rest)).length := List.length_pos_iff.2 esc_app_ne
    unfold calqueref44_readClass_b1
    rw [decide_eq_true (by omega), decide_eq_true (by omega)]
    simp only [cond_true, hi, Option.bind_some]
    rw [show (93 : Int) = ((93 : Nat) : Int) from rfl, neC (by decide)]
    simp only [show decide (d = UInt8.ofNat 93) = false from decide_eq_false hdn, Bool.not_false, cond_true]
    rw [rb_esc hs hf2 hqe]
    simp only [Option.bind_some]
    have hq2 := drop_app hqe
    rw [decide_eq_true (show ((P + (esc true f).length : Nat) : Int) ≥ 0 by omega)]
    simp only [cond_true]
    by_cases he : g.To = g.From
    · rw [if_pos he, List.nil_append] at hq2
      have hrl : (rangeT g).length = (esc true f).length := by unfold rangeT; rw [if_pos he, hf3, List.append_nil]
      have hne2 := dlen hq2 hrest0
      obtain ⟨d2, u2, e2⟩ : ∃ d u, rest = d :: u := by
        cases hr : rest with
        | nil => exact absurd hr hrest0
        | cons d u => exact ⟨d, u, rfl⟩
      have hd2 := head_ne hrest1 e2
      have hi2 : idx s ((P + (esc true f).length : Nat) : Int) = some d2 := dgx hq2 0 (c := d2) (by rw [e2]; rfl)
      have hrp := List.length_pos_iff.2 hrest0
      rw [decide_eq_true (by omega)]
      simp only [cond_true, hi2, Option.bind_some]
      rw [show (45 : Int) = ((45 : Nat) : Int) from rfl, eqC (by decide)]
      simp only [show decide (d2 = UInt8.ofNat 45) = false from decide_eq_false hd2, cond_false, Option.bind_some]
      rw [← hf1]
      have e5 : (Range.mk g.From g.From) = g := by cases g; simp only at he; rw [he]
      rw [e5, app1 (by simp; omega), take1 hg, hrl]
      simp only [Option.bind_some]
      rw [show p + (((l.take k).flatMap rangeT).length + (esc true f).length) = P + (esc true f).length by omega]
    · rw [if_neg he] at hq2
      have hrl : (rangeT g).length = (esc true f).length + (1 + (esc true z).length) := by unfold rangeT; rw [if_neg he, hf3, hz3]; simp; omega
      have hq3 : s.drop (P + (esc true f).length) = 45 :: (esc true z ++ rest) := hq2
      have hne2 := dlen hq3 (by simp)
      have hi2 : idx s ((P + (esc true f).length : Nat) : Int) = some 45 := dgx hq3 0 rfl
      have hq4 : s.drop (P + (esc true f).length + 1) = esc true z ++ rest := drop_app (a := [45]) hq3
      simp only [List.length_cons] at hne2
      rw [decide_eq_true (by omega)]
      have e45 : (((45 : UInt8).toNat : Int) == 45) = true := rfl
      simp only [cond_true, hi2, Option.bind_some, e45]
      rw [show ((P + (esc true f).length : Nat) : Int) + 1 = ((P + (esc true f).length + 1 : Nat) : Int) by omega, rb_esc hs hz2 hq4]
      simp only [Option.bind_some]
      rw [← hf1, ← hz1]
      rw [app1 (by simp; omega), take1 hg, hrl]
      simp only [Option.bind_some]
      rw [show p + (((l.take k).flatMap rangeT).length + ((esc true f).length + (1 + (esc true z).length))) = P + (esc true f).length + 1 + (esc true z).length by omega]
  · have hq := hd l.length
    rw [List.drop_length, List.take_length] at hq
    have hq' : s.drop (p + (l.flatMap rangeT).length) = 93 :: t := hq
    have hne := dlen hq' (by simp)
    simp only [List.length_cons] at hne
    have hi : idx s ((p + (l.flatMap rangeT).length : Nat) : Int) = some 93 := dgx hq' 0 rfl
    unfold calqueref44_readClass_b1
    simp only [List.take_length]
    rw [decide_eq_true (by omega), decide_eq_true (by omega)]
    simp only [cond_true, hi, Option.bind_some]
    rfl
theorem rclass_back {N : Nat} {s : Str} {p : Nat} {l : List Range} {t : Str} {n : Bool} (hs : s.length ≤ 1000000) (hl : ∀ g ∈ l, InR .u8 g.From ∧ InR .u8 g.To) (h0 : l ≠ []) (h : s.drop p = 91 :: ((if n then [94] else []) ++ (l.flatMap rangeT ++ 93 :: t))) (hN : l.length < N) (hlen : l.length ≤ 1000) :
    calqueref44_readClass N s p = some (Item.mk [] l n 0 0, ((p + (91 :: ((if n then [94] else []) ++ (l.flatMap rangeT ++ [93]))).length : Nat) : Int)) := by
  have hsl := dlen h (by simp)
  simp only [List.length_append, List.length_cons] at hsl
  unfold calqueref44_readClass
  rw [show (1 : Int) = ((1 : Nat) : Int) from rfl, wr (by omega), decide_eq_true (by omega)]
  have h1 : s.drop (p + 1) = (if n then [94] else []) ++ (l.flatMap rangeT ++ 93 :: t) := drop_app (a := [91]) h
  cases n with
  | true =>
    simp only [if_true] at h1 ⊢
    have h2 : s.drop (p + 1 + 1) = l.flatMap rangeT ++ 93 :: t := drop_app (a := [94]) h1
    have hi : idx s ((p + 1 : Nat) : Int) = some 94 := dgx h1 0 rfl
    have e94 : (((94 : UInt8).toNat : Int) == 94) = true := rfl
    simp only [cond_true, hi, Option.bind_some, e94]
    rw [ad, rcls_back rfl hs hl h2 hN hlen]
    have hq := dlen h2 (by simp)
    simp only [List.length_append, List.length_cons] at hq
    simp only [Option.bind_some]
    rw [decide_eq_false (by omega), decide_eq_false (by omega), wr (by omega)]
    simp only [cond_false, List.length_cons, List.length_append, List.length_nil]
    rw [show p + 1 + 1 + (l.flatMap rangeT).length + 1 = p + (0 + 1 + ((l.flatMap rangeT).length + (0 + 1)) + 1) by omega]
  | false =>
    simp only [Bool.false_eq_true, if_false, List.nil_append] at h1 ⊢
    have hne : l.flatMap rangeT ++ 93 :: t ≠ [] := by simp
    obtain ⟨d, u, e⟩ : ∃ d u, l.flatMap rangeT ++ 93 :: t = d :: u := by
      cases hr : l.flatMap rangeT ++ 93 :: t with
      | nil => exact absurd hr hne
      | cons d u => exact ⟨d, u, rfl⟩
    have hd := head_ne (ranges_head l (93 :: t) hl h0 94 (by decide)) e
    have hi : idx s ((p + 1 : Nat) : Int) = some d := dgx h1 0 (by rw [e]; rfl)
    simp only [cond_true, hi, Option.bind_some]
    rw [show (94 : Int) = ((94 : Nat) : Int) from rfl, eqC (by decide)]
    simp only [show decide (d = UInt8.ofNat 94) = false from decide_eq_false hd, cond_false, Option.bind_some]
    rw [rcls_back rfl hs hl h1 hN hlen]
    have hq := dlen h1 hne
    simp only [List.length_append, List.length_cons] at hq
    simp only [Option.bind_some]
    rw [decide_eq_false (by omega), decide_eq_false (by omega), wr (by omega)]
    simp only [cond_false, List.length_cons, List.length_append, List.length_nil]
    rw [show p + 1 + (l.flatMap rangeT).length + 1 = p + ((l.flatMap rangeT).length + (0 + 1) + 1) by omega]
theorem marked_back {N : Nat} {s : Str} {p : Nat} {T : Str} {R : List Range} {n : Bool} {le mo : Int} {t : Str} (hm : markOk (Item.mk T R n le mo)) (h : s.drop p = markT (Item.mk T R n le mo) ++ t) (ht : Behind t) (hp : p ≤ s.length) :
    marked N s ((p : Int), Item.mk T R n 0 0) = some (Item.mk T R n le mo, ((p + (markT (Item.mk T R n le mo)).length : Nat) : Int)) := by
  obtain ⟨h1, h2⟩ := hm
  simp only at h1 h2
  unfold marked
  have e1 : decide ((p : Int) ≥ 0) = true := decide_eq_true (by omega)
  have c63 : (((63 : UInt8).toNat : Int) == 63) = true := rfl
  have c42 : (((42 : UInt8).toNat : Int) == 63) = false := rfl
  have c42' : (((42 : UInt8).toNat : Int) == 42) = true := rfl
  have c43 : (((43 : UInt8).toNat : Int) == 63) = false := rfl
  have c43' : (((43 : UInt8).toNat : Int) == 42) = false := rfl
  have c43'' : (((43 : UInt8).toNat : Int) == 43) = true := rfl
  have d1 : (((32 : UInt8).toNat : Int) == 63) = false := rfl
  have d2 : (((32 : UInt8).toNat : Int) == 42) = false := rfl
  have d3 : (((32 : UInt8).toNat : Int) == 43) = false := rfl
  have one : ∀ (d : UInt8), markT (Item.mk T R n le mo) = [d] → s.drop p = d :: t ∧ idx s (p : Int) = some d ∧ decide ((p : Int) < (s.length : Int)) = true := fun d hd => by
    rw [hd] at h
    have hl := dlen h (by simp)
    simp only [List.length_append, List.length_cons, List.length_nil] at hl
    exact ⟨h, dgx h 0 rfl, decide_eq_true (by omega)⟩
  rcases h1 with rfl | rfl <;> rcases h2 with rfl | rfl
  · have hmt : markT (Item.mk T R n 1 1) = [] := rfl
    rw [hmt] at h ⊢
    simp only [e1, cond_true]
    rcases ht with rfl | ⟨u, rfl⟩
    · have : s.length ≤ p := by simpa using h
      rw [decide_eq_false (by omega)]
      rfl
    · have hl := dlen h (by simp)
      simp only [List.nil_append, List.length_cons] at hl
      have hi : idx s (p : Int) = some 32 := dgx h 0 rfl
      rw [decide_eq_true (by omega)]
      simp only [cond_true, hi, Option.bind_some, d1, d2, d3, cond_false]
      rfl
  · obtain ⟨g1, g2, g3⟩ := one 43 rfl
    simp only [e1, g3, cond_true, g2, Option.bind_some, c43, c43', c43'', cond_false]
    rfl
  · obtain ⟨g1, g2, g3⟩ := one 63 rfl
    simp only [e1, g3, cond_true, g2, Option.bind_some, c63]
    rfl
  · obtain ⟨g1, g2, g3⟩ := one 42 rfl
    simp only [e1, g3, cond_true, g2, Option.bind_some, c42, c42', cond_false]
    rfl
theorem ritem_back {N : Nat} {s : Str} {p : Nat} {x : Item} {t : Str} (hs : s.length ≤ 1000000) (h : ItP x) (hb : InB x) (hd : s.drop p = itemT x ++ t) (ht : Behind t) (hN : 2000 ≤ N) :
    calqueref44_readItem N s p = some (x, ((p + (itemT x).length : Nat) : Int)) := by
  obtain ⟨hm, h⟩ := h
  obtain ⟨T, R, n, le, mo⟩ := x
  obtain ⟨d, u, e4, e5⟩ := itemT_head (Item.mk T R n le mo) t
  have hl := dlen hd (by rw [e4]; simp)
  have hpos : 0 < (itemT (Item.mk T R n le mo) ++ t).length := by rw [e4]; simp
  have hi : idx s (p : Int) = some d := dgx hd 0 (by rw [e4]; rfl)
  rw [readItem_eq (by omega) hi]
  by_cases h0 : T = []
  · subst h0
    simp only [if_pos] at h
    have hR : R ≠ [] := by intro e; subst e; simp at h
    have eb : bodyT (Item.mk [] R n le mo) = 91 :: ((if n then [94] else []) ++ (R.flatMap rangeT ++ [93])) := by simp [bodyT]
    have hd1 : s.drop p = 91 :: ((if n then [94] else []) ++ (R.flatMap rangeT ++ 93 :: (markT (Item.mk [] R n le mo) ++ t))) := by
      rw [hd]; unfold itemT; rw [eb]; simp
    have hd2 : s.drop p = bodyT (Item.mk [] R n le mo) ++ (markT (Item.mk [] R n le mo) ++ t) := by
      rw [hd]; unfold itemT; simp
    obtain rfl : d = 91 := by
      have := hd1.symm.trans (hd.trans e4)
      injection this with g _
      exact g.symm
    have c1 : (((91 : UInt8).toNat : Int) == 34) = false := rfl
    have c2 : (((91 : UInt8).toNat : Int) == 91) = true := rfl
    simp only [c1, c2, cond_false, cond_true]
    rw [rclass_back (l := R) hs hb hR hd1 (by omega) (by omega)]
    simp only [Option.bind_some]
    rw [← eb]
    have hd3 := drop_app hd2
    have hle : (bodyT (Item.mk [] R n le mo)).length ≤ (itemT (Item.mk [] R n le mo) ++ t).length := by unfold itemT; simp only [List.length_append]; omega
    rw [marked_back hm hd3 ht (by omega)]
    unfold itemT
    rw [List.length_append, Nat.add_assoc]
  · simp only [if_neg h0] at h
    obtain ⟨h1, rfl, rfl⟩ := h
    have eb : bodyT (Item.mk T [] false le mo) = 34 :: (escs T ++ [34]) := by simp [bodyT, h0, escs]
    have hd1 : s.drop p = 34 :: (escs T ++ 34 :: (markT (Item.mk T [] false le mo) ++ t)) := by
      rw [hd]; unfold itemT; rw [eb]; simp
    have hd2 : s.drop p = bodyT (Item.mk T [] false le mo) ++ (markT (Item.mk T [] false le mo) ++ t) := by
      rw [hd]; unfold itemT; simp
    obtain rfl : d = 34 := by
      have := hd1.symm.trans (hd.trans e4)
      injection this with g _
      exact g.symm
    have c1 : (((34 : UInt8).toNat : Int) == 34) = true := rfl
    simp only [c1, cond_true]
    rw [rtext_back hs hd1 (by omega) hN]
    simp only [Option.bind_some]
    have hd3 := drop_app hd2
    have hbl : (bodyT (Item.mk T [] false le mo)).length = (escs T).length + 2 := by rw [eb]; simp
    have hle : (bodyT (Item.mk T [] false le mo)).length ≤ (itemT (Item.mk T [] false le mo) ++ t).length := by unfold itemT; simp only [List.length_append]; omega
    rw [hbl] at hd3
    rw [show p + (escs T).length + 2 = p + ((escs T).length + 2) by omega, marked_back hm hd3 ht (by omega)]
    unfold itemT
    rw [List.length_append, hbl, Nat.add_assoc]
def HC (L : Nat) (r : Rule) : Prop := r.Kind.length ≤ L ∧ r.Next.length ≤ L ∧ r.Items.length ≤ L ∧ ∀ x ∈ r.Items, IB L x
theorem HC.sz {L N : Nat} {r : Rule} (h : HC L r) (hN : L + 100 ≤ N) : SzR N r := by
  obtain ⟨h1, h2, h3, h4⟩ := h
  refine ⟨by omega, by omega, by omega, fun x hx => ?_⟩
  obtain ⟨g1, g2, _⟩ := h4 x hx
  exact ⟨by omega, by omega⟩
theorem kind_loop {N : Nat} {s : Str} (hN : s.length < N) : ∃ m : Nat, iter (fun a => calqueref44_readRule_b1 N s a) N 0 = some (m : Int) ∧ m ≤ s.length := by
  obtain ⟨b, h1, m, h2, h3⟩ := iter_indE (body := fun a => calqueref44_readRule_b1 N s a) (fun i a => a = (i : Int)) s.length (fun b => ∃ m : Nat, b = (m : Int) ∧ m ≤ s.length) (fun i a hi ha => by
    subst ha
    obtain ⟨c, hc⟩ := at_lt hi
    simp only [calqueref44_readRule_b1, dk hi, cond_true, ixg hc, Option.bind_some]
    cases ((c.toNat : Int) != 32) with
    | true => exact .inl ⟨_, rfl, by omega⟩
    | false => exact .inr ⟨_, rfl, i, rfl, by omega⟩) (fun a ha => by
    subst ha
    exact ⟨(s.length : Int), by simp only [calqueref44_readRule_b1, dn, cond_false], s.length, rfl, Nat.le_refl _⟩) N 0 hN rfl
  exact ⟨m, by rw [h1, h2], h3⟩
theorem kind_back {N : Nat} {k t : Str} (hk : (32 : UInt8) ∉ k) (hN : (k ++ 32 :: t).length < N) : iter (fun a => calqueref44_readRule_b1 N (k ++ 32 :: t) a) N 0 = some (k.length : Int) := by
  refine iter_at (fun i : Nat => (i : Int)) k.length _ rfl (fun i hi => ?_) ?_ N (by simp at hN; omega)
  · obtain ⟨c, hc⟩ := at_lt hi
    have hc' : (k ++ 32 :: t)[i]? = some c := by rw [List.getElem?_append_left hi, hc]
    have hne : c ≠ 32 := fun e => hk (by rw [← e]; exact List.mem_of_getElem? hc)
    simp only [calqueref44_readRule_b1, ixg hc', Option.bind_some]
    rw [decide_eq_true (by simp; omega), show (32 : Int) = ((32 : Nat) : Int) from rfl, neC (by decide)]
    simp only [show decide (c = UInt8.ofNat 32) = false from decide_eq_false hne, Bool.not_false, cond_true]
    rfl
  · have hc' : (k ++ 32 :: t)[k.length]? = some 32 := by simp
    simp only [calqueref44_readRule_b1, ixg hc', Option.bind_some]
    rw [decide_eq_true (by simp; omega)]
    rfl
theorem rrule_loop {N : Nat} {s : Str} {m : Nat} (hs : s.length ≤ 1000000) (hm : m ≤ s.length) (hN : s.length + 100 ≤ N) :
    ∃ b, iter (fun a : Int × Rule => calqueref44_readRule_b2 N s a.1 a.2) N ((m : Int), Rule.mk (s.take m) [] []) = some b ∧ ((∃ r n, b = .inl (r, n) ∧ HC s.length r ∧ (r.Next = [] ∨ word r.Next = true)) ∨ ∃ r, b = .inr (r, false)) := by
  refine iter_meas (body := fun a : Int × Rule => calqueref44_readRule_b2 N s a.1 a.2) (fun a => ∃ p : Nat, p ≤ s.length ∧ (a.1 = (p : Int) ∨ a.1 = -1) ∧ HC s.length a.2 ∧ a.2.Items.length ≤ p ∧ a.2.Next = []) (fun a => pm s a.1) _ (fun a ha => ?_) N _ (by unfold pm; rw [if_neg (by omega)]; omega) ⟨m, hm, .inl rfl, ⟨by simp; omega, by simp, by simp, fun x hx => by cases hx⟩, by simp, rfl⟩
  obtain ⟨a, ⟨K, I, X⟩⟩ := a
  obtain ⟨p, g1, g2, ⟨g3, g4, g5, g6⟩, g7, g8⟩ := ha
  simp only at g2 g3 g4 g5 g6 g7 g8 ⊢
  subst g8
  unfold calqueref44_readRule_b2
  rcases g2 with rfl | rfl
  rotate_left
  · exact .inr ⟨_, rfl, .inl ⟨_, _, rfl, ⟨g3, g4, g5, g6⟩, .inl rfl⟩⟩
  have e1 : decide ((p : Int) ≥ 0) = true := decide_eq_true (by omega)
  simp only [e1, cond_true]
  by_cases h1 : (p : Int) < (s.length : Int)
  rotate_left
  · rw [decide_eq_false h1]
    exact .inr ⟨_, rfl, .inl ⟨_, _, rfl, ⟨g3, g4, g5, g6⟩, .inl rfl⟩⟩
  rw [decide_eq_true h1]
  simp only [cond_true]
  obtain ⟨x, n, q1, q2, q3⟩ := ritem_tot (N := N) (p := p + 1) hs (by omega)
  have step : ∀ (o : Option ((Int × Rule) ⊕ ((Rule × Int) ⊕ (Rule × Bool)))), o = ((calqueref44_readItem N s ((p : Int) + 1)).bind fun r76 => (app I ([r76.1] : List (Item))).bind fun l91 => some (.inl (r76.2, (Rule.mk K l91 [])))) →
      (∃ s', o = some (.inl s') ∧ (∃ p : Nat, p ≤ s.length ∧ (s'.1 = (p : Int) ∨ s'.1 = -1) ∧ HC s.length s'.2 ∧ s'.2.Items.length ≤ p ∧ s'.2.Next = []) ∧ pm s s'.1 < pm s (p : Int)) ∨ ∃ b, o = some (.inr b) ∧ ((∃ r n, b = .inl (r, n) ∧ HC s.length r ∧ (r.Next = [] ∨ word r.Next = true)) ∨ ∃ r, b = .inr (r, false)) := by
    intro o ho
    subst ho
    rw [show (p : Int) + 1 = ((p + 1 : Nat) : Int) by omega, q1]
    simp only [Option.bind_some]
    rw [app1 (by simp; omega)]
    have hmem : ∀ y ∈ I ++ [x], IB s.length y := fun y hy => by
      rcases List.mem_append.1 hy with hy | hy
      · exact g6 y hy
      · rw [List.mem_singleton.1 hy]; exact q2
    have hmu : pm s n < pm s (p : Int) := by
      have := q3.pm (by omega)
      unfold pm at this ⊢
      rw [if_neg (show ¬((p : Int) < 0) by omega)]
      rw [if_neg (show ¬(((p + 1 : Nat) : Int) < 0) by omega)] at this
      omega
    refine .inl ⟨_, rfl, ?_, hmu⟩
    rcases q3 with rfl | ⟨m, rfl, k1, k2⟩
    · exact ⟨p + 1, by omega, .inr rfl, ⟨g3, g4, by simp; omega, hmem⟩, by simp; omega, rfl⟩
    · exact ⟨m, k2, .inl rfl, ⟨g3, g4, by simp; omega, hmem⟩, by simp; omega, rfl⟩
  cases decide ((I.length : Int) > 0) with
  | false => exact step _ rfl
  | true =>
    simp only [cond_true]
    rw [show (4 : Int) = ((4 : Nat) : Int) from rfl, wr (by omega)]
    by_cases h4 : ((p + 4 : Nat) : Int) ≤ (s.length : Int)
    · rw [decide_eq_true h4, show ((p + 4 : Nat) : Int) = (p : Int) + ((4 : Nat) : Int) by omega, slc_mid (by omega)]
      simp only [cond_true, Option.bind_some]
      cases ((s.drop p).take 4 == ([32, 45, 62, 32] : Str)) with
      | false => exact step _ rfl
      | true =>
        rw [ad, slc_tail (by omega)]
        simp only [cond_true, Option.bind_some]
        rw [ref_word_eq (by simp; omega)]
        simp only [Option.bind_some]
        cases hw : word (s.drop (p + 4)) with
        | false => exact .inr ⟨_, rfl, .inr ⟨_, rfl⟩⟩
        | true => exact .inr ⟨_, rfl, .inl ⟨_, _, rfl, ⟨g3, by simp, g5, g6⟩, .inr hw⟩⟩
    · rw [decide_eq_false h4]
      exact step _ rfl
theorem slc_pre {s : Str} {m : Nat} (h : m ≤ s.length) : slc s 0 (m : Int) = some (s.take m) := by
  unfold slc
  rw [if_pos (by omega)]
  simp
theorem rrule_tot {N : Nat} {s : Str} (hs : s.length ≤ 1000000) (hN : s.length + 100 ≤ N) : ∃ r b, calqueref44_readRule N s = some (r, b) ∧ (b = true → Good r ∧ lineT r = s) := by
  unfold calqueref44_readRule
  obtain ⟨m, h1, h2⟩ := kind_loop (N := N) (s := s) (by omega)
  rw [h1]
  simp only [Option.bind_some, slc_pre h2]
  obtain ⟨b, h3, h4⟩ := rrule_loop (N := N) hs h2 hN
  rw [h3]
  rcases h4 with ⟨r, n, rfl, h5, h6⟩ | ⟨r, rfl⟩
  · simp only [Option.bind_some, Sum.elim_inl]
    cases decide (n ≥ 0) with
    | false => exact ⟨_, false, rfl, fun h => by cases h⟩
    | true =>
      simp only [cond_true]
      rcases (ref_proper_eq (h5.sz hN)).cases with ⟨h, p⟩ | ⟨h, p⟩
      · rw [h]
        have hi : ∀ x ∈ r.Items, InB x := fun x hx => (h5.2.2.2 x hx).2.2
        have hg : Good r := ⟨p, h6, hi⟩
        simp only [Option.bind_some, cond_true, ref_line_eq p hg.next hi (by omega : 100 ≤ N)]
        exact ⟨_, _, rfl, fun h => ⟨hg, eq_of_beq h⟩⟩
      · rw [h]
        exact ⟨_, false, rfl, fun h => by cases h⟩
  · exact ⟨r, false, rfl, fun h => by cases h⟩
theorem rrule_back {N : Nat} {r : Rule} (h : Good r) (hN : 5000 ≤ N) : calqueref44_readRule N (lineT r) = some (r, true) := by
  have hnl := h.next
  have hll := lineT_len h.1 hnl
  have hkw := word_no h.1.1 32 (by decide)
  obtain ⟨K, I, X⟩ := r
  have hI := h.1.2.1
  simp only at hkw hI
  obtain ⟨nt, hnt⟩ : ∃ nt : Str, nt = (if X = [] then [] else [32, 45, 62, 32] ++ X) := ⟨_, rfl⟩
  have hline : lineT (Rule.mk K I X) = K ++ (I.flatMap (fun x => 32 :: itemT x) ++ nt) := by
    unfold lineT; rw [hnt]; simp
  obtain ⟨t0, ht0⟩ : ∃ t0, lineT (Rule.mk K I X) = K ++ 32 :: t0 := by
    cases I with
    | nil => simp at hI
    | cons x l => exact ⟨itemT x ++ (l.flatMap (fun x => 32 :: itemT x) ++ nt), by rw [hline]; simp⟩
  generalize hs : lineT (Rule.mk K I X) = s at *
  have hsl : s.length ≤ 4080 := hll
  unfold calqueref44_readRule
  have hkb := kind_back (N := N) (k := K) (t := t0) hkw (by rw [← ht0]; omega)
  rw [← ht0] at hkb
  have hKs : K.length ≤ s.length := by rw [ht0]; simp
  rw [hkb]
  simp only [Option.bind_some, slc_pre hKs]
  have hkt : s.take K.length = K := by rw [ht0]; simp
  rw [hkt]
  have hd : ∀ k, s.drop (K.length + ((I.take k).flatMap (fun x => 32 :: itemT x)).length) = (I.drop k).flatMap (fun x => 32 :: itemT x) ++ nt := fun k => by
    have h1 : s.drop K.length = I.flatMap (fun x => 32 :: itemT x) ++ nt := by rw [hline]; simp
    refine drop_app ?_
    rw [h1, ← List.append_assoc, ← List.flatMap_append, List.take_append_drop]
  have hbeh : ∀ k, Behind ((I.drop k).flatMap (fun x => 32 :: itemT x) ++ nt) := fun k => by
    cases I.drop k with
    | nil =>
      by_cases h0 : X = []
      · rw [hnt, if_pos h0]; exact .inl rfl
      · rw [hnt, if_neg h0]; exact .inr ⟨_, rfl⟩
    | cons x l => exact .inr ⟨_, rfl⟩
  obtain ⟨z, hz⟩ : ∃ z : Nat, iter (fun a : Int × Rule => calqueref44_readRule_b2 N s a.1 a.2) N ((K.length : Int), Rule.mk K [] []) = some (.inl (Rule.mk K I X, (z : Int))) := by
    refine ⟨K.length + (I.flatMap (fun x => 32 :: itemT x)).length, ?_⟩
    refine iter_at (body := fun a : Int × Rule => calqueref44_readRule_b2 N s a.1 a.2) (fun k : Nat => (((K.length + ((I.take k).flatMap (fun x => 32 :: itemT x)).length : Nat) : Int), Rule.mk K (I.take k) [])) I.length _ (by simp) (fun k hk => ?_) ?_ N (by omega)
    · obtain ⟨x, hx⟩ := at_lt hk
      have hxm := List.mem_of_getElem? hx
      have hq := hd k
      rw [drop1 hx, List.append_assoc] at hq
      have e9 : ((I.take (k + 1)).flatMap (fun x => 32 :: itemT x)).length = ((I.take k).flatMap (fun x => 32 :: itemT x)).length + (1 + (itemT x).length) := by
        rw [← take_flat (fun x => 32 :: itemT x) hx, List.length_append, List.length_cons]; omega
      rw [e9]
      generalize hP : K.length + ((I.take k).flatMap (fun x => 32 :: itemT x)).length = P at hq
      have hq' : s.drop P = 32 :: (itemT x ++ ((I.drop (k + 1)).flatMap (fun x => 32 :: itemT x) ++ nt)) := hq
      have hl := dlen hq' (by simp)
      simp only [List.length_cons] at hl
      have hq2 := drop_app (a := [32]) hq'
      have hit := ritem_back (N := N) (by omega) (h.1.2.2 x hxm) (h.2.2 x hxm) hq2 (hbeh (k + 1)) (by omega)
      have hgo : ((calqueref44_readItem N s ((P : Int) + 1)).bind fun r76 => (app (I.take k) ([r76.1] : List (Item))).bind fun l91 => some (.inl (r76.2, (Rule.mk K l91 []))) : Option ((Int × Rule) ⊕ ((Rule × Int) ⊕ (Rule × Bool)))) = some (.inl (((K.length + (((I.take k).flatMap (fun x => 32 :: itemT x)).length + (1 + (itemT x).length)) : Nat) : Int), Rule.mk K (I.take (k + 1)) [])) := by
        rw [show (P : Int) + 1 = ((P + ([32] : Str).length : Nat) : Int) by simp, hit]
        simp only [Option.bind_some]
        rw [app1 (by simp; omega), take1 hx]
        simp only [Option.bind_some, List.length_cons, List.length_nil]
        rw [show K.length + (((I.take k).flatMap (fun x => 32 :: itemT x)).length + (1 + (itemT x).length)) = P + (0 + 1) + (itemT x).length by omega]
      unfold calqueref44_readRule_b2
      rw [decide_eq_true (by omega), decide_eq_true (by omega)]
      simp only [cond_true]
      cases decide (((I.take k).length : Int) > 0) with
      | false => exact hgo
      | true =>
        simp only [cond_true]
        rw [show (4 : Int) = ((4 : Nat) : Int) from rfl, wr (by omega)]
        by_cases h4 : ((P + 4 : Nat) : Int) ≤ (s.length : Int)
        · rw [decide_eq_true h4, show ((P + 4 : Nat) : Int) = (P : Int) + ((4 : Nat) : Int) by omega, slc_mid (by omega)]
          simp only [cond_true, Option.bind_some]
          have hno : ((s.drop P).take 4 == ([32, 45, 62, 32] : Str)) = false := by
            rw [hq']
            obtain ⟨d, u, e4, e5⟩ := itemT_head x ((I.drop (k + 1)).flatMap (fun x => 32 :: itemT x) ++ nt)
            rw [e4, beq_eq_false_iff_ne]
            intro e
            simp only [List.take_succ_cons] at e
            injection e with _ e
            injection e with e _
            rcases e5 with rfl | rfl <;> cases e
          rw [hno]
          exact hgo
        · rw [decide_eq_false h4]
          exact hgo
    · have hq := hd I.length
      rw [List.drop_length, List.take_length] at hq
      have hq' : s.drop (K.length + (I.flatMap (fun x => 32 :: itemT x)).length) = nt := hq
      simp only [List.take_length]
      generalize hP : K.length + (I.flatMap (fun x => 32 :: itemT x)).length = P at hq' ⊢
      unfold calqueref44_readRule_b2
      rw [decide_eq_true (by omega)]
      by_cases h0 : X = []
      · rw [hnt, if_pos h0] at hq'
        have : s.length ≤ P := by simpa using hq'
        rw [decide_eq_false (by omega)]
        subst h0
        rfl
      · rw [hnt, if_neg h0] at hq'
        have hl := dlen hq' (by simp)
        simp only [List.length_append, List.length_cons, List.length_nil] at hl
        rw [decide_eq_true (by omega), decide_eq_true (show (((Rule.mk K I []).Items.length : Nat) : Int) > 0 by simp only; omega)]
        simp only [cond_true]
        rw [show (4 : Int) = ((4 : Nat) : Int) from rfl, wr (by omega), decide_eq_true (by omega), show ((P + 4 : Nat) : Int) = (P : Int) + ((4 : Nat) : Int) by omega, slc_mid (by omega)]
        simp only [cond_true, Option.bind_some]
        have hyes : ((s.drop P).take 4 == ([32, 45, 62, 32] : Str)) = true := by rw [hq']; simp
        have h5 : s.drop (P + 4) = X := drop_app (a := [32, 45, 62, 32]) hq'
        have hwx : word X = true := h.2.1.resolve_left h0
        rw [hyes, ad, slc_tail (by omega), h5]
        simp only [cond_true, Option.bind_some]
        rw [ref_word_eq (by have := (word_len hwx).2; omega), hwx]
        rfl
  rw [hz]
  simp only [Option.bind_some, Sum.elim_inl]
  rw [decide_eq_true (show (z : Int) ≥ 0 by omega)]
  simp only [cond_true]
  have hsz : SzR N (Rule.mk K I X) := by
    refine ⟨by have := (word_len h.1.1).2; simp only at this ⊢; omega, by simp only at hnl ⊢; omega, by simp only; omega, fun y hy => ?_⟩
    have := (h.1.2.2 y hy).2
    split at this
    · rename_i g; rw [g]; simp; omega
    · rw [this.2.1]; simp; omega
  rcases (ref_proper_eq hsz).cases with ⟨g, p⟩ | ⟨g, p⟩
  · rw [g]
    simp only [Option.bind_some, cond_true, ref_line_eq h.1 hnl h.2.2 (by omega : 100 ≤ N), hs]
    simp
  · exact absurd h.1 p
end Go.Proofs.Ytmmioinglmeoiaa
namespace Go.Proofs.Ytmmioinglmeoiaa
open Go.X
theorem Good.sz {N : Nat} {r : Rule} (h : Good r) (hN : 5000 ≤ N) : SzR N r := by
  have hn := h.next
  refine ⟨by have := (word_len h.1.1).2; omega, by omega, by have := h.1.2.1; omega, fun y hy => ?_⟩
  have := (h.1.2.2 y hy).2
  split at this
  · rename_i g; rw [g]; simp; omega
  · rw [this.2.1]; simp; omega
def lineR (l : Str) : Option Rule := match scan_rule (l.length + 6000) l with | some (r, true) => some r | _ => none
theorem lineR_iff {l : Str} (hl : l.length ≤ 1000000) {r : Rule} : lineR l = some r ↔ Good r ∧ lineT r = l := by
  unfold lineR
  constructor
  · intro h
    obtain ⟨q, b, h1, h2⟩ := rule_tot (N := l.length + 6000) hl (by omega)
    rw [h1] at h
    cases b with
    | false => cases h
    | true => cases h; exact h2 rfl
  · rintro ⟨h1, rfl⟩
    rw [rule_back h1 (by omega)]
theorem scan_at {N : Nat} {l : Str} (hl : l.length ≤ 1000000) (hN : l.length + 5000 ≤ N) : ∃ r b, scan_rule N l = some (r, b) ∧ ((b = true ∧ lineR l = some r) ∨ (b = false ∧ lineR l = none)) := by
  obtain ⟨r, b, h1, h2⟩ := rule_tot (N := N) hl (by omega)
  refine ⟨r, b, h1, ?_⟩
  cases b with
  | true => exact .inl ⟨rfl, (lineR_iff hl).2 (h2 rfl)⟩
  | false =>
    refine .inr ⟨rfl, ?_⟩
    cases h : lineR l with
    | none => rfl
    | some q =>
      obtain ⟨g1, g2⟩ := (lineR_iff hl).1 h
      have := rule_back (N := N) g1 (by omega)
      rw [g2, h1] at this
      cases this
theorem ref_at {N : Nat} {l : Str} (hl : l.length ≤ 1000000) (hN : l.length + 5000 ≤ N) : ∃ r b, calqueref44_readRule N l = some (r, b) ∧ ((b = true ∧ lineR l = some r) ∨ (b = false ∧ lineR l = none)) := by
  obtain ⟨r, b, h1, h2⟩ := rrule_tot (N := N) hl (by omega)
  refine ⟨r, b, h1, ?_⟩
  cases b with
  | true => exact .inl ⟨rfl, (lineR_iff hl).2 (h2 rfl)⟩
  | false =>
    refine .inr ⟨rfl, ?_⟩
    cases h : lineR l with
    | none => rfl
    | some q =>
      obtain ⟨g1, g2⟩ := (lineR_iff hl).1 h
      have := rrule_back (N := N) g1 (by omega)
      rw [g2, h1] at this
      cases this
abbrev stT : Str := [115, 116, 97, 116, 101, 32]
def isSt (l : Str) : Bool := stT.isPrefixOf l && word (l.drop 6)
def stepL (out : List State) (l : Str) : Option (List State) :=
  if isSt l then some (out ++ [State.mk (l.drop 6) []]) else match lineR l with
    | none => none
    | some r => match out.getLast? with | none => none | some x => some (out.dropLast ++ [State.mk x.Name (x.Rules ++ [r])])
def runL : List Str → List State → Nat → (List State × Nat) ⊕ Nat
  | [], out, n => .inl (out, n)
  | l :: ls, out, n => match stepL out l with | some o => runL ls o (n + 1) | none => .inr n
def lns : Str → Str → List Str × Str
  | cur, [] => ([], cur)
  | cur, c :: s => if c = 10 then (cur :: (lns [] s).1, (lns [] s).2) else lns (cur ++ [c]) s
theorem lns_none : ∀ (s cur : Str), (10 : UInt8) ∉ s → lns cur s = ([], cur ++ s) := by
  intro s
  induction s with
  | nil => intro cur _; simp [lns]
  | cons c s ih =>
    intro cur h
    simp only [List.mem_cons, not_or] at h
    unfold lns
    rw [if_neg (fun e => h.1 e.symm), ih _ h.2]
    simp
theorem lns_some : ∀ (a cur b : Str), (10 : UInt8) ∉ a → lns cur (a ++ 10 :: b) = ((cur ++ a) :: (lns [] b).1, (lns [] b).2) := by
  intro a
  induction a with
  | nil => intro cur b _; simp [lns]
  | cons c a ih =>
    intro cur b h
    simp only [List.mem_cons, not_or] at h
    simp only [List.cons_append]
    conv => lhs; unfold lns
    rw [if_neg (fun e => h.1 e.symm), ih _ _ h.2]
    simp
theorem lns_join : ∀ (s cur : Str), (lns cur s).1.flatMap (fun l => l ++ [10]) ++ (lns cur s).2 = cur ++ s := by
  intro s
  induction s with
  | nil => intro cur; simp [lns]
  | cons c s ih =>
    intro cur
    unfold lns
    by_cases h : c = 10
    · rw [if_pos h]
      simp only [List.flatMap_cons, List.append_assoc, ih]
      rw [h]; rfl
    · rw [if_neg h, ih]; simp
def PInv (L : Nat) (out : List State) : Prop := out.length ≤ L ∧ ∀ x ∈ out, word x.Name = true ∧ x.Rules.length ≤ L ∧ ∀ r ∈ x.Rules, Good r
theorem PInv.up {L M : Nat} {out : List State} (h : PInv L out) (hM : L ≤ M) : PInv M out := ⟨by have := h.1; omega, fun x hx => ⟨(h.2 x hx).1, by have := (h.2 x hx).2.1; omega, (h.2 x hx).2.2⟩⟩
theorem PInv.step {L : Nat} {out o : List State} {l : Str} (hl : l.length ≤ 1000000) (h : PInv L out) (ho : stepL out l = some o) : PInv (L + 1) o := by
  unfold stepL at ho
  cases hs : isSt l with
  | true =>
    rw [hs, if_pos rfl] at ho
    cases ho
    unfold isSt at hs
    simp only [Bool.and_eq_true] at hs
    refine ⟨by have := h.1; simp; omega, fun x hx => ?_⟩
    rcases List.mem_append.1 hx with hx | hx
    · exact (h.up (Nat.le_succ L)).2 x hx
    · rw [List.mem_singleton.1 hx]; exact ⟨hs.2, by simp, fun r hr => by cases hr⟩
  | false =>
    rw [hs, if_neg (by decide)] at ho
    cases hr : lineR l with
    | none => rw [hr] at ho; cases ho
    | some r =>
      rw [hr] at ho
      cases hg : out.getLast? with
      | none => rw [hg] at ho; cases ho
      | some x =>
        rw [hg] at ho
        cases ho
        have hx : x ∈ out := List.mem_of_getLast? hg
        have hx' := h.2 x hx
        refine ⟨by have := h.1; simp; omega, fun y hy => ?_⟩
        rcases List.mem_append.1 hy with hy | hy
        · exact (h.up (Nat.le_succ L)).2 y ((List.dropLast_sublist out).subset hy)
        · rw [List.mem_singleton.1 hy]
          refine ⟨hx'.1, by simp; omega, fun q hq => ?_⟩
          rcases List.mem_append.1 hq with hq | hq
          · exact hx'.2.2 q hq
          · rw [List.mem_singleton.1 hq]; exact ((lineR_iff hl).1 hr).1
theorem PInv.sz {L N : Nat} {out : List State} (h : PInv L out) (hN : L + 5000 ≤ N) : Sz N out :=
  ⟨by have := h.1; omega, fun x hx => ⟨by have := (word_len (h.2 x hx).1).2; omega, by have := (h.2 x hx).2.1; omega, fun r hr => ((h.2 x hx).2.2 r hr).sz (by omega)⟩⟩
theorem PInv.sb {L : Nat} {out : List State} (h : PInv L out) : Sb out := fun x hx r hr => ((h.2 x hx).2.2 r hr).2.2
theorem last_idx {out : List State} {x : State} (h : out.getLast? = some x) : idx out ((out.length : Int) - 1) = some x ∧ 0 < out.length ∧ ∀ y, out.set ((out.length : Int) - 1).toNat y = out.dropLast ++ [y] := by
  obtain ⟨l, rfl⟩ := List.getLast?_eq_some_iff.1 h
  refine ⟨?_, by simp, fun y => ?_⟩
  · rw [show (((l ++ [x]).length : Nat) : Int) - 1 = (l.length : Int) by simp, ix]; simp
  · rw [show ((((l ++ [x]).length : Nat) : Int) - 1).toNat = l.length by simp]; simp
def outP (s : Str) (r : (List State × Nat) ⊕ Nat) (rest : Str) : List State ⊕ (List State × Int × Int) :=
  match r with
  | .inr k => .inr ([], (k : Int), 3)
  | .inl (o, k) => if rest = [] then .inl o else .inr ([], (k : Int), 3)
theorem parse_body {N : Nat} {a b : Str} {out : List State} {n L : Nat} (ha : (10 : UInt8) ∉ a) (hL : PInv L out) (hL2 : L ≤ 1000000) (hl : (a ++ 10 :: b).length ≤ 1000000) (hn : n ≤ 1000000) (hN : (a ++ 10 :: b).length + 5000 ≤ N) :
    scan_Parse_b1 N (a ++ 10 :: b) out n = some (match stepL out a with | some o => .inl (b, o, ((n + 1 : Nat) : Int)) | none => .inr (.inr ([], (n : Int), 3))) := by
  have hne : ((a ++ 10 :: b : Str) != ([] : Str)) = true := by simp
  have hal : a.length ≤ 1000000 ∧ a.length + 5000 ≤ N := by simp at hl hN; omega
  obtain ⟨r, rb, h1, h2⟩ := scan_at (N := N) hal.1 hal.2
  have hcut : Lib.cut (a ++ 10 :: b) [10] = (a, b, true) := cut_app ha
  unfold scan_Parse_b1
  simp only [hne, cond_true]
  unfold strings_Cut strings_CutPrefix
  rw [if_pos (by omega), hcut]
  simp only [Option.bind_some, h1, Bool.not_true, cond_false, Lib.hasPrefix, Lib.trimPrefix]
  rw [show (1 : Int) = ((1 : Nat) : Int) from rfl, wr (by omega)]
  have hrule : isSt a = false → (bif rb then
            bif (decide ((out.length : Int) > 0)) then
              (idx out ((out.length : Int) - ((1 : Nat) : Int))).bind fun x59 =>
              (show Option ((List (State))) from
                (app x59.Rules ([r] : List (Rule))).bind fun l86 =>
                some (out.set ((out.length : Int) - ((1 : Nat) : Int)).toNat (State.mk x59.Name l86))).bind fun o65 =>
              some (.inl (b, o65, ((n + 1 : Nat) : Int)))
            else
              some (.inr (.inr ([], (n : Int), 3)))
          else
            some (.inr (.inr ([], (n : Int), 3))) : Option ((Str × List State × Int) ⊕ (List State ⊕ (List State × Int × Int)))) = some (match stepL out a with | some o => .inl (b, o, ((n + 1 : Nat) : Int)) | none => .inr (.inr ([], (n : Int), 3))) := by
    intro hst
    unfold stepL
    rw [hst, if_neg (by decide)]
    rcases h2 with ⟨rfl, h2⟩ | ⟨rfl, h2⟩
    · rw [h2]
      cases hg : out.getLast? with
      | none =>
        have : out = [] := List.getLast?_eq_none_iff.1 hg
        subst this
        rfl
      | some x =>
        obtain ⟨g1, g2, g3⟩ := last_idx hg
        have hx := hL.2 x (List.mem_of_getLast? hg)
        rw [decide_eq_true (by omega)]
        simp only [cond_true]
        rw [show (((1 : Nat) : Int)) = (1 : Int) from rfl, g1]
        simp only [Option.bind_some]
        rw [app1 (by simp; omega)]
        simp only [Option.bind_some, g3]
    · rw [h2]
      rfl
  by_cases hp : ([115, 116, 97, 116, 101, 32] : Str).isPrefixOf a = true
  · have hdl : ([115, 116, 97, 116, 101, 32] : Str).length = 6 := rfl
    simp only [hp, if_true, cond_true, hdl]
    rw [scan_word_eq (by simp; omega)]
    simp only [Option.bind_some]
    cases hw : word (a.drop 6) with
    | true =>
      have hst : isSt a = true := by unfold isSt; rw [hp, hw]; rfl
      simp only [cond_true]
      rw [app1 (by have := hL.1; simp; omega)]
      unfold stepL
      rw [if_pos hst]
      rfl
    | false =>
      have hst : isSt a = false := by unfold isSt; rw [hp, hw]; rfl
      exact hrule hst
  · have hpf : ([115, 116, 97, 116, 101, 32] : Str).isPrefixOf a = false := Bool.eq_false_iff.2 hp
    have hst : isSt a = false := by unfold isSt; rw [hpf]; rfl
    simp only [hpf]
    exact hrule hst
theorem parse_loop {N : Nat} : ∀ (k M L n : Nat) (s : Str) (out : List State), s.length ≤ k → s.length < M → PInv L out → L + s.length ≤ 1000000 → n + s.length ≤ 1000000 → s.length + 5000 ≤ N →
    iter (fun a : Str × List State × Int => scan_Parse_b1 N a.1 a.2.1 a.2.2) M (s, out, (n : Int)) = some (outP s (runL (lns [] s).1 out n) (lns [] s).2) := by
  intro k
  induction k with
  | zero =>
    intro M L n s out hk hM _ _ _ _
    obtain ⟨M, rfl⟩ : ∃ M', M = M' + 1 := ⟨M - 1, by omega⟩
    have : s = [] := List.length_eq_zero_iff.1 (by omega)
    subst this
    rfl
  | succ k ih =>
    intro M L n s out hk hM hL h1 h2 hN
    obtain ⟨M, rfl⟩ : ∃ M', M = M' + 1 := ⟨M - 1, by omega⟩
    by_cases h0 : s = []
    · subst h0; rfl
    by_cases hm : (10 : UInt8) ∈ s
    · obtain ⟨a, b, rfl, ha⟩ := List.eq_append_cons_of_mem hm
      have hb := parse_body (N := N) (b := b) ha hL (by omega) (by omega) (by omega : n ≤ 1000000) hN
      rw [lns_some a [] b ha]
      simp only [List.nil_append, runL]
      have hlen : (a ++ 10 :: b).length = a.length + (b.length + 1) := by simp
      cases hs : stepL out a with
      | none =>
        rw [hs] at hb
        simp only [iter, hb]
        rfl
      | some o =>
        rw [hs] at hb
        simp only [iter, hb]
        have := ih M (L + 1) (n + 1) b o (by omega) (by omega) (hL.step (by omega) hs) (by omega) (by omega) (by omega)
        rw [this]
        rfl
    · have hb : scan_Parse_b1 N s out n = some (.inr (.inr ([], (n : Int), 3))) := by
        obtain ⟨r, rb, g1, _⟩ := scan_at (N := N) (l := s) (by omega) (by omega)
        unfold scan_Parse_b1
        simp only [isEmp h0, cond_true]
        unfold strings_Cut strings_CutPrefix
        rw [if_pos (by omega), cut_none hm]
        simp only [Option.bind_some, g1]
        rfl
      rw [lns_none s [] hm]
      simp only [iter, hb, runL, outP, List.nil_append, if_neg h0]
def outR (s : Str) (r : (List State × Nat) ⊕ Nat) (rest : Str) : (List State × Int × Int) ⊕ (List State × Int × Int) :=
  match r with
  | .inr k => .inr ([], (k : Int), 3)
  | .inl (o, k) => .inl (o, ((s.length - rest.length : Nat) : Int), (k : Int))
theorem ref_body {N : Nat} {s a : Str} {from' i : Nat} {out : List State} {n L : Nat} (hi : s[i]? = some 10) (hf : from' ≤ i) (ha : (s.drop from').take (i - from') = a) (hL : PInv L out) (hL2 : L ≤ 1000000) (hl : s.length ≤ 1000000) (hn : n ≤ 1000000) (hN : s.length + 5000 ≤ N) :
    calqueref44_Parse_b1 N s out from' n i = some (match stepL out a with | some o => .inl (o, ((i + 1 : Nat) : Int), ((n + 1 : Nat) : Int), ((i + 1 : Nat) : Int)) | none => .inr (.inr ([], (n : Int), 3))) := by
  have hil := getlt hi
  have hal : a.length ≤ s.length := by rw [← ha]; simp; omega
  obtain ⟨r, rb, h1, h2⟩ := ref_at (N := N) (l := a) (by omega) (by omega)
  have e10 : (((10 : UInt8).toNat : Int) != 10) = false := rfl
  have hsl : slc s (from' : Int) (i : Int) = some a := by
    rw [show (i : Int) = (from' : Int) + ((i - from' : Nat) : Int) by omega, slc_mid (by omega), ha]
  unfold calqueref44_Parse_b1
  simp only [dk hil, cond_true, ixg hi, Option.bind_some, e10, cond_false, hsl, h1]
  rw [show (1 : Int) = ((1 : Nat) : Int) from rfl, wr (by omega), ad]
  have hrule : isSt a = false → (bif rb then
            bif (decide ((out.length : Int) > 0)) then
              (show Option ((List (State))) from
                (idx out ((out.length : Int) - ((1 : Nat) : Int))).bind fun x164 =>
                (app x164.Rules ([r] : List (Rule))).bind fun l187 =>
                (idx out ((out.length : Int) - ((1 : Nat) : Int))).bind fun _x192 =>
                some (out.set ((out.length : Int) - ((1 : Nat) : Int)).toNat (State.mk x164.Name l187))).bind fun o160 =>
              some (.inl (o160, ((i + 1 : Nat) : Int), ((n + 1 : Nat) : Int), ((i + 1 : Nat) : Int)))
            else
              some (.inr (.inr ([], (n : Int), 3)))
          else
            some (.inr (.inr ([], (n : Int), 3))) : Option ((List State × Int × Int × Int) ⊕ ((List State × Int × Int) ⊕ (List State × Int × Int)))) = some (match stepL out a with | some o => .inl (o, ((i + 1 : Nat) : Int), ((n + 1 : Nat) : Int), ((i + 1 : Nat) : Int)) | none => .inr (.inr ([], (n : Int), 3))) := by
    intro hst
    unfold stepL
    rw [hst, if_neg (by decide)]
    rcases h2 with ⟨rfl, h2⟩ | ⟨rfl, h2⟩
    · rw [h2]
      cases hg : out.getLast? with
      | none =>
        have : out = [] := List.getLast?_eq_none_iff.1 hg
        subst this
        rfl
      | some x =>
        obtain ⟨g1, g2, g3⟩ := last_idx hg
        have hx := hL.2 x (List.mem_of_getLast? hg)
        rw [decide_eq_true (by omega)]
        simp only [cond_true]
        rw [show (((1 : Nat) : Int)) = (1 : Int) from rfl, g1]
        simp only [Option.bind_some]
        rw [app1 (by simp; omega)]
        simp only [Option.bind_some, g3]
    · rw [h2]
      rfl
  by_cases h6 : (a.length : Int) > 6
  rotate_left
  · rw [decide_eq_false h6]
    have hst : isSt a = false := by
      unfold isSt
      have : word (a.drop 6) = false := by
        cases hw : word (a.drop 6) with
        | false => rfl
        | true => have := (word_len hw).1; simp at this; omega
      rw [this, Bool.and_false]
    exact hrule hst
  rw [decide_eq_true h6]
  have ht6 : slc a 0 6 = some (a.take 6) := slc_pre (s := a) (m := 6) (by omega)
  have hd6 : slc a 6 (a.length : Int) = some (a.drop 6) := slc_tail (s := a) (n := 6) (by omega)
  simp only [cond_true, ht6, hd6, Option.bind_some]
  have hpre : (a.take 6 == stT) = stT.isPrefixOf a := by
    cases hp : stT.isPrefixOf a with
    | true =>
      have := List.prefix_iff_eq_take.1 (List.isPrefixOf_iff_prefix.1 hp)
      rw [show stT.length = 6 from rfl] at this
      rw [← this]; simp
    | false =>
      rw [beq_eq_false_iff_ne]
      intro e
      have : stT.isPrefixOf a = true := List.isPrefixOf_iff_prefix.2 (List.prefix_iff_eq_take.2 e.symm)
      rw [this] at hp; cases hp
  rw [hpre, ref_word_eq (by simp; omega)]
  simp only [Option.bind_some]
  cases hp : stT.isPrefixOf a with
  | true =>
    simp only [cond_true]
    cases hw : word (a.drop 6) with
    | true =>
      have hst : isSt a = true := by unfold isSt; rw [hp, hw]; rfl
      simp only [cond_true]
      rw [app1 (by have := hL.1; simp; omega)]
      unfold stepL
      rw [if_pos hst]
      rfl
    | false =>
      have hst : isSt a = false := by unfold isSt; rw [hp, hw]; rfl
      simp only [cond_false]
      refine Eq.trans ?_ (hrule hst)
      cases rb with
      | false => rfl
      | true =>
        simp only [cond_true]
        cases decide ((out.length : Int) > 0) with
        | false => rfl
        | true =>
          simp only [cond_true]
          cases idx out ((out.length : Int) - ((1 : Nat) : Int)) with
          | none => rfl
          | some x =>
            simp only [Option.bind_some]
            cases app x.Rules [r] <;> rfl
  | false =>
    have hst : isSt a = false := by unfold isSt; rw [hp]; rfl
    exact hrule hst
theorem ref_loop2 {N : Nat} {s : Str} (hl : s.length ≤ 100000) (hN : s.length + 5000 ≤ N) : ∀ (j M L n from' i : Nat) (out : List State), i + j = s.length → j < M → from' ≤ i → PInv L out → L ≤ i → n ≤ i →
    iter (fun a : List State × Int × Int × Int => calqueref44_Parse_b1 N s a.1 a.2.1 a.2.2.1 a.2.2.2) M (out, (from' : Int), (n : Int), (i : Int)) = some (outR s (runL (lns ((s.drop from').take (i - from')) (s.drop i)).1 out n) (lns ((s.drop from').take (i - from')) (s.drop i)).2) := by
  intro j
  induction j with
  | zero =>
    intro M L n from' i out hi hM hf _ _ _
    obtain ⟨M, rfl⟩ : ∃ M', M = M' + 1 := ⟨M - 1, by omega⟩
    obtain rfl : i = s.length := by omega
    have hb : calqueref44_Parse_b1 N s out from' n s.length = some (.inr (.inl (out, (from' : Int), (n : Int)))) := by simp only [calqueref44_Parse_b1, dn, cond_false]
    rw [List.drop_length]
    simp only [iter, hb, lns, runL, outR]
    have : ((s.drop from').take (s.length - from')).length = s.length - from' := by simp
    rw [this, show s.length - (s.length - from') = from' by omega]
  | succ j ih =>
    intro M L n from' i out hi hM hf hL hLi hni
    obtain ⟨M, rfl⟩ : ∃ M', M = M' + 1 := ⟨M - 1, by omega⟩
    have hil : i < s.length := by omega
    obtain ⟨c, hc, hd⟩ := drop_hd hil
    by_cases h10 : c = 10
    · subst h10
      have hb := ref_body (N := N) hc hf rfl hL (by omega) (by omega) (by omega : n ≤ 1000000) hN
      rw [hd]
      simp only [lns, if_true, runL]
      cases hs : stepL out ((s.drop from').take (i - from')) with
      | none =>
        rw [hs] at hb
        simp only [iter, hb]
        rfl
      | some o =>
        rw [hs] at hb
        simp only [iter, hb]
        have := ih M (L + 1) (n + 1) (i + 1) (i + 1) o (by omega) (by omega) (Nat.le_refl _) (hL.step (by simp; omega) hs) (by omega) (by omega)
        rw [this, Nat.sub_self, List.take_zero]
    · have hb : calqueref44_Parse_b1 N s out from' n i = some (.inl (out, (from' : Int), (n : Int), ((i + 1 : Nat) : Int))) := by
        unfold calqueref44_Parse_b1
        simp only [dk hil, cond_true, ixg hc, Option.bind_some]
        rw [show (10 : Int) = ((10 : Nat) : Int) from rfl, neC (by decide)]
        simp only [show decide (c = UInt8.ofNat 10) = false from decide_eq_false h10, Bool.not_false, cond_true]
        rfl
      rw [hd]
      simp only [lns, if_neg h10]
      have hcur : (s.drop from').take (i - from') ++ [c] = (s.drop from').take (i + 1 - from') := by
        rw [show i + 1 - from' = (i - from') + 1 by omega]
        refine take1 ?_
        rw [List.getElem?_drop, show from' + (i - from') = i by omega, hc]
      rw [hcur]
      simp only [iter, hb]
      exact ih M L n from' (i + 1) out (by omega) (by omega) (by omega) hL (by omega) (by omega)
def parR (b : Bool) (s : Str) : List State × Int × Int :=
  match runL (lns [] s).1 [] 0 with
  | .inr n => ([], (n : Int), 3)
  | .inl (o, n) => if (lns [] s).2 = [] then (if b then (o, 0, 0) else ([], 0, 1)) else ([], (n : Int), 3)
theorem runL_inv : ∀ (ls : List Str) (L n : Nat) (out o : List State) (m : Nat), (∀ l ∈ ls, l.length ≤ 1000000) → PInv L out → runL ls out n = .inl (o, m) → PInv (L + ls.length) o := by
  intro ls
  induction ls with
  | nil => intro L n out o m _ h hr; cases hr; exact h
  | cons l ls ih =>
    intro L n out o m hl h hr
    unfold runL at hr
    cases hs : stepL out l with
    | none => rw [hs] at hr; cases hr
    | some q =>
      rw [hs] at hr
      have := ih (L + 1) (n + 1) q o m (fun x hx => hl x (List.mem_cons_of_mem _ hx)) (h.step (hl l (List.mem_cons_self ..)) hs) hr
      rw [List.length_cons, show L + (ls.length + 1) = L + 1 + ls.length by omega]
      exact this
theorem lns_mem_len {s l : Str} (h : l ∈ (lns [] s).1) : l.length ≤ s.length := by
  have := congrArg List.length (lns_join s [])
  simp only [List.length_append, List.nil_append] at this
  have h2 := mem_sum (f := fun l : Str => (l ++ [10]).length) h
  simp only [List.length_flatMap] at this
  simp only [List.length_append, List.length_cons, List.length_nil] at h2 this
  omega
theorem lns_len (s : Str) : (lns [] s).1.length ≤ s.length := by
  have := congrArg List.length (lns_join s [])
  simp only [List.length_append, List.nil_append] at this
  have h2 : ∀ ls : List Str, ls.length ≤ (ls.flatMap (fun l => l ++ [10])).length := fun ls => by
    induction ls with
    | nil => simp
    | cons l ls ih => simp [-List.length_flatMap]; omega
  have := h2 (lns [] s).1
  omega
theorem PInv.nil : PInv 0 [] := ⟨Nat.le_refl _, fun x hx => by cases hx⟩
theorem parse_both {N : Nat} {s : Str} (hs : s.length ≤ 100000) (hN : 2 * s.length + 6000 ≤ N) : ∃ b, scan_Parse N s = some (parR b s) ∧ calqueref44_Parse N s = some (parR b s) ∧ ∀ o n, runL (lns [] s).1 [] 0 = .inl (o, n) → PInv s.length o ∧ (b = true ↔ Vl o) := by
  have h1 := parse_loop (N := N) s.length N 0 0 s [] (Nat.le_refl _) (by omega) PInv.nil (by omega) (by omega) (by omega)
  have h2 := ref_loop2 (N := N) hs (by omega) s.length N 0 0 0 0 [] (by omega) (by omega) (Nat.le_refl _) PInv.nil (Nat.le_refl _) (Nat.le_refl _)
  simp only [List.drop_zero, Nat.sub_self, List.take_zero] at h2
  have hinv := runL_inv (lns [] s).1 0 0 []
  have hmem : ∀ l ∈ (lns [] s).1, l.length ≤ 1000000 := fun l hl => by have := lns_mem_len hl; omega
  unfold scan_Parse calqueref44_Parse
  rw [show (((0 : Nat) : Int)) = (0 : Int) from rfl] at h1 h2
  rw [h1, h2]
  unfold parR
  cases hr : runL (lns [] s).1 [] 0 with
  | inr n => refine ⟨false, ?_, ?_, fun o n h => by cases h⟩ <;> first | trivial | rfl
  | inl q =>
    obtain ⟨o, n⟩ := q
    have hp := (hinv o n hmem PInv.nil hr).up (show 0 + (lns [] s).1.length ≤ s.length by have := lns_len s; omega)
    have hjl := congrArg List.length (lns_join s [])
    simp only [List.length_append, List.nil_append] at hjl
    simp only [outP, outR]
    by_cases h0 : (lns [] s).2 = []
    · rw [if_pos h0, h0]
      simp only [Option.bind_some, Sum.elim_inl, List.length_nil, Nat.sub_zero]
      rw [dn]
      simp only [cond_false, if_true]
      obtain ⟨b, g1, g2⟩ := scan_Valid_eq (N := N) (hp.sz (by omega)) hp.sb (by omega)
      obtain ⟨b', g3, g4⟩ := ref_Valid_eq (N := N) (hp.sz (by omega)) hp.sb (by omega)
      have hbb : b' = b := by
        have := g2.trans g4.symm
        cases b <;> cases b' <;> simp_all
      subst hbb
      rw [g1, g3]
      refine ⟨b', ?_, ?_, fun o' n' h => ?_⟩
      · cases b' <;> rfl
      · cases b' <;> rfl
      · cases h; exact ⟨hp, g2⟩
    · rw [if_neg h0]
      have hpos := List.length_pos_iff.2 h0
      simp only [Option.bind_some, Sum.elim_inl, Sum.elim_inr]
      rw [decide_eq_true (by omega)]
      simp only [cond_true, if_neg h0]
      obtain ⟨b, g1, g2⟩ := scan_Valid_eq (N := N) (hp.sz (by omega)) hp.sb (by omega)
      refine ⟨b, ?_, ?_, fun o' n' h => by cases h; exact ⟨hp, g2⟩⟩ <;> first | trivial | rfl
end Go.Proofs.Ytmmioinglmeoiaa
namespace Go.Proofs.Ytmmioinglmeoiaa
open Go.X
theorem same_item {N : Nat} {x : Item} (hN : x.Ranges.length < N) : calqueref44_sameItem N x x = some true := by
  have ht : ((x.Text != x.Text)) = false := by simp
  have h1 : (x.Not != x.Not) = false := by simp
  have h2 : (x.Least != x.Least) = false := by simp
  have h3 : (x.Most != x.Most) = false := by simp
  have h4 : ((x.Ranges.length : Int) != (x.Ranges.length : Int)) = false := by simp
  unfold calqueref44_sameItem
  simp only [ht, h1, h2, h3, h4, cond_false]
  refine (iter_atB (fun k : Nat => (k : Int)) x.Ranges.length (.inl ()) rfl hN (fun k hk => ?_) ?_).trans rfl
  · obtain ⟨g, hg⟩ := at_lt hk
    simp [calqueref44_sameItem_b1, ixg hg, getlt hg]
  · simp only [calqueref44_sameItem_b1, dn, cond_false]
theorem Same_eq {N : Nat} {s : List State} (hs : Sz N s) : calqueref44_Same N s s = some true := by
  have h0 : ((s.length : Int) != (s.length : Int)) = false := by simp
  unfold calqueref44_Same
  simp only [h0, cond_false]
  refine (iter_atB (fun k : Nat => (k : Int)) s.length (.inl ()) rfl hs.1 (fun i hi => ?_) ?_).trans rfl
  · obtain ⟨x, hx⟩ := at_lt hi
    have hz := hs.2 x (List.mem_of_getElem? hx)
    have h1 : (x.Name != x.Name) = false := by simp
    have h2 : ((x.Rules.length : Int) != (x.Rules.length : Int)) = false := by simp
    simp only [calqueref44_Same_b1, dk hi, cond_true, ixg hx, Option.bind_some, h1, h2, cond_false]
    refine (iter_atB (fun k : Nat => (k : Int)) x.Rules.length (.inl ()) rfl hz.2.1 (fun k hk => ?_) ?_).trans rfl
    · obtain ⟨r, hr⟩ := at_lt hk
      have hq := (hz.2.2 r (List.mem_of_getElem? hr)).2.2
      have g1 : (r.Kind != r.Kind) = false := by simp
      have g2 : (r.Next != r.Next) = false := by simp
      have g3 : ((r.Items.length : Int) != (r.Items.length : Int)) = false := by simp
      simp only [calqueref44_Same_b2, ixg hx, dk hk, cond_true, ixg hr, Option.bind_some, g1, g2, g3, cond_false]
      refine (iter_atB (fun k : Nat => (k : Int)) r.Items.length (.inl ()) rfl hq.1 (fun j hj => ?_) ?_).trans rfl
      · obtain ⟨y, hy⟩ := at_lt hj
        simp only [calqueref44_Same_b3, dk hj, cond_true, ixg hy, Option.bind_some, same_item (hq.2 y (List.mem_of_getElem? hy)).2, Bool.not_true, cond_false]
        rfl
      · simp only [calqueref44_Same_b3, dn, cond_false]
    · simp only [calqueref44_Same_b2, ixg hx, Option.bind_some, dn, cond_false]
  · simp only [calqueref44_Same_b1, dn, cond_false]
theorem theirs_eq {N : Nat} {s : List State} (hN : N ≤ 4000000000) (hs : Sz N s) : calquelaw44_theirs N s = some s := by
  unfold calquelaw44_theirs
  refine (iter_atB (fun k : Nat => (s.take k, (k : Int))) s.length s rfl hs.1 (fun i hi => ?_) ?_).trans rfl
  · obtain ⟨x, hx⟩ := at_lt hi
    have hz := hs.2 x (List.mem_of_getElem? hx)
    simp only [calquelaw44_theirs_b1, dk hi, cond_true, ixg hx, Option.bind_some]
    refine (iter_atB (fun k : Nat => ((k : Int), State.mk x.Name (x.Rules.take k))) x.Rules.length x rfl hz.2.1 (fun k hk => ?_) ?_).trans ?_
    · obtain ⟨r, hr⟩ := at_lt hk
      have hq := (hz.2.2 r (List.mem_of_getElem? hr)).2.2
      simp only [calquelaw44_theirs_b2, ixg hx, Option.bind_some, dk hk, cond_true, ixg hr]
      refine (iter_atB (fun j : Nat => ((j : Int), Rule.mk r.Kind (r.Items.take j) r.Next)) r.Items.length r rfl hq.1 (fun j hj => ?_) ?_).trans ?_
      · obtain ⟨y, hy⟩ := at_lt hj
        have hyz := hq.2 y (List.mem_of_getElem? hy)
        simp only [calquelaw44_theirs_b3, ixg hx, ixg hr, Option.bind_some, dk hj, cond_true, ixg hy]
        refine (iter_atB (fun m : Nat => ((m : Int), Item.mk y.Text (y.Ranges.take m) y.Not y.Least y.Most)) y.Ranges.length y rfl hyz.2 (fun m hm => ?_) ?_).trans ?_
        · obtain ⟨g, hg⟩ := at_lt hm
          simp only [calquelaw44_theirs_b4, dk hm, cond_true, ixg hg, Option.bind_some]
          rw [app1 (by have := hyz.2; simp; omega), take1 hg]
          rfl
        · simp only [calquelaw44_theirs_b4, dn, cond_false, List.take_length]
        · rw [app1 (by have := hq.1; simp; omega), take1 hy]
          rfl
      · simp only [calquelaw44_theirs_b3, ixg hx, ixg hr, Option.bind_some, dn, cond_false, List.take_length]
      · rw [app1 (by have := hz.2.1; simp; omega), take1 hr]
        rfl
    · simp only [calquelaw44_theirs_b2, ixg hx, Option.bind_some, dn, cond_false, List.take_length]
    · rw [app1 (by have := hs.1; simp; omega), take1 hx]
      rfl
  · simp only [calquelaw44_theirs_b1, dn, cond_false, List.take_length]
theorem stepL_text {out o : List State} {l : Str} (hl : l.length ≤ 1000000) (h : stepL out l = some o) : textT o = textT out ++ (l ++ [10]) := by
  unfold stepL at h
  cases hs : isSt l with
  | true =>
    rw [hs, if_pos rfl] at h
    cases h
    unfold isSt at hs
    simp only [Bool.and_eq_true] at hs
    obtain ⟨t, rfl⟩ := List.isPrefixOf_iff_prefix.1 hs.1
    simp [textT, stateT]
  | false =>
    rw [hs, if_neg (by decide)] at h
    cases hr : lineR l with
    | none => rw [hr] at h; cases h
    | some r =>
      rw [hr] at h
      cases hg : out.getLast? with
      | none => rw [hg] at h; cases h
      | some x =>
        rw [hg] at h
        cases h
        obtain ⟨q, rfl⟩ := List.getLast?_eq_some_iff.1 hg
        have := ((lineR_iff hl).1 hr).2
        simp [textT, stateT, this]
theorem runL_text : ∀ (ls : List Str) (out o : List State) (n m : Nat), (∀ l ∈ ls, l.length ≤ 1000000) → runL ls out n = .inl (o, m) → textT o = textT out ++ ls.flatMap (fun l => l ++ [10]) := by
  intro ls
  induction ls with
  | nil => intro out o n m _ h; cases h; simp
  | cons l ls ih =>
    intro out o n m hl h
    unfold runL at h
    cases hs : stepL out l with
    | none => rw [hs] at h; cases h
    | some q =>
      rw [hs] at h
      rw [ih q o _ _ (fun x hx => hl x (List.mem_cons_of_mem _ hx)) h, stepL_text (hl l (List.mem_cons_self ..)) hs]
      simp
end Go.Proofs.Ytmmioinglmeoiaa
namespace Go.Proofs.Ytmmioinglmeoiaa
open Go.X
theorem scanParse_law (t : Str) (ht : t.length ≤ reachBytes) : ∃ N, calquelaw44_ScanParse N t = some true := by
  by_cases h2 : (t.length : Int) > 2000
  · refine ⟨300, ?_⟩
    unfold calquelaw44_ScanParse
    rw [show (300 : Nat) = 0 + 300 from rfl]
    simp only [awake_true, Option.bind_some, Bool.not_true, cond_false]
    rw [decide_eq_true h2]; rfl
  refine ⟨20000 + 300, ?_⟩
  unfold calquelaw44_ScanParse
  simp only [awake_true, Option.bind_some, Bool.not_true, cond_false]
  rw [decide_eq_false h2]
  obtain ⟨b, h3, h4, h5⟩ := parse_both (N := 20000 + 300) (s := t) (by omega) (by omega)
  have hsz0 : Sz (20000 + 300) ([] : List State) := ⟨by simp, fun x hx => by cases hx⟩
  have hsz : Sz (20000 + 300) (parR b t).1 ∧ Sb (parR b t).1 := by
    unfold parR
    cases hr : runL (lns [] t).1 [] 0 with
    | inr n => exact ⟨hsz0, fun x hx => by cases hx⟩
    | inl q =>
      obtain ⟨o, n⟩ := q
      have hp := (h5 o n hr).1
      simp only
      split
      · split
        · exact ⟨hp.sz (by omega), hp.sb⟩
        · exact ⟨hsz0, fun x hx => by cases hx⟩
      · exact ⟨hsz0, fun x hx => by cases hx⟩
  have e1 : ((parR b t).2.1 != (parR b t).2.1) = false := by simp
  have e2 : ((parR b t).2.2 != (parR b t).2.2) = false := by simp
  simp only [cond_false, h3, h4, Option.bind_some, e1, e2, theirs_eq (by omega) hsz.1, Same_eq hsz.1, Bool.not_true]
  obtain ⟨v, g1, g2⟩ := scan_Valid_eq (N := 20000 + 300) hsz.1 hsz.2 (by omega)
  unfold scan_Print
  rw [g1]
  have hcase : (parR b t).2.2 ≠ 0 ∨ ((parR b t).2.2 = 0 ∧ Vl (parR b t).1 ∧ textT (parR b t).1 = t) := by
    unfold parR
    cases hr : runL (lns [] t).1 [] 0 with
    | inr n => exact .inl (show (3 : Int) ≠ 0 by decide)
    | inl q =>
      obtain ⟨o, n⟩ := q
      simp only
      by_cases h0 : (lns [] t).2 = []
      · rw [if_pos h0]
        cases b with
        | false => exact .inl (show (1 : Int) ≠ 0 by decide)
        | true =>
          refine .inr ⟨rfl, (h5 o n hr).2.1 rfl, ?_⟩
          have := runL_text _ _ _ _ _ (fun l hl => by have := lns_mem_len hl; omega) hr
          have hj := lns_join t []
          rw [h0, List.append_nil] at hj
          simp only [if_true]
          rw [this, hj]; rfl
      · rw [if_neg h0]; exact .inl (show (3 : Int) ≠ 0 by decide)
  rcases hcase with h | ⟨h, hv, he⟩
  · have e3 : ((parR b t).2.2 != 0) = true := by simpa using h
    cases v with
    | false => simp only [Option.bind_some, Bool.not_false, cond_true, e3]
    | true =>
      rw [scan_text_eq (g2.1 rfl).1 hsz.2 (by omega)]
      simp only [Option.bind_some, Bool.not_true, cond_false, e3, cond_true]
  · obtain rfl : v = true := g2.2 hv
    rw [scan_text_eq hv.1 hsz.2 (by omega), he, h]
    simp
end Go.Proofs.Ytmmioinglmeoiaa
