/- Chapter 44: the texts are equal; both validities are the same. -/
import Derived.Test.YtmmioinglmeoiaaScn2
set_option linter.unusedVariables false
namespace Go.Proofs.Ytmmioinglmeoiaa
open Go.X

theorem ref_item_eq {N : Nat} {x : Item} (h : ItP x) (hb : InB x) (hN : 100 ≤ N) : calqueref44_item N x = some (itemT x) := by
  unfold calqueref44_item
  obtain ⟨hm, h⟩ := h
  have hbody : (bif (x.Text != ([])) then
      (iter (fun s => calqueref44_item_b1 N x s.1 s.2) N ([34], 0)).bind fun o12 =>
      (cat o12 ([34])).bind fun s28 =>
      some s28
    else
      (show Option ((List UInt8)) from
        bif x.Not then
          (cat ([91]) ([94])).bind fun s34 =>
          some s34
        else
          some ([91])).bind fun o31 =>
      (iter (fun s => calqueref44_item_b2 N x s.1 s.2) N (o31, 0)).bind fun o39 =>
      (cat o39 ([93])).bind fun s105 =>
      some s105) = some (bodyT x) := by
    by_cases h0 : x.Text = []
    · rw [if_pos h0] at h
      have e0 : (x.Text != ([] : Str)) = false := by rw [h0]; rfl
      have fl := fun k => take_le rangeT 9 x.Ranges k (fun g _ => rangeT_len g)
      simp only [e0, cond_false]
      have hnot : (show Option Str from bif x.Not then (cat ([91]) ([94])).bind fun s34 => some s34 else some ([91])) = some ([91] ++ if x.Not then [94] else []) := by
        cases x.Not <;> rfl
      refine (congrArg (fun o : Option Str => o.bind _) hnot).trans ?_
      have hnl : (if x.Not then ([94] : Str) else []).length ≤ 1 := by cases x.Not <;> decide
      rw [Option.bind_some]
      refine (iter_atB (fun k : Nat => (([91] ++ (if x.Not then [94] else []) ++ (x.Ranges.take k).flatMap rangeT), (k : Int))) x.Ranges.length ([91] ++ (if x.Not then [94] else []) ++ x.Ranges.flatMap rangeT) (by simp) (by omega) (fun k hk => ?_) ?_).trans ?_
      · obtain ⟨g, hg⟩ := at_lt hk
        obtain ⟨hf, ht⟩ := hb g (List.mem_of_getElem? hg)
        obtain ⟨f, hf1, hf2, hf3⟩ := inr8 hf
        obtain ⟨t, ht1, ht2, ht3⟩ := inr8 ht
        have := fl k
        have hef := esc_len true f
        have het := esc_len true t
        simp only [calqueref44_item_b2, dk hk, cond_true, ixg hg, Option.bind_some]
        rw [hf1, one_eq hf2]
        simp only [Option.bind_some]
        rw [cat1 (by simp [-List.length_flatMap]; omega)]
        simp only [Option.bind_some]
        rw [← take_flat rangeT hg]
        by_cases he : g.To = g.From
        · have hr : rangeT g = esc true f := by unfold rangeT; rw [if_pos he, hf3, List.append_nil]
          have : (g.To != (f : Int)) = false := by rw [he, hf1]; simp
          rw [this, hr]
          simp
        · have hr : rangeT g = esc true f ++ 45 :: esc true t := by unfold rangeT; rw [if_neg he, hf3, ht3]
          have : (g.To != (f : Int)) = true := by rw [← hf1]; simpa using he
          rw [this, hr, ht1, one_eq ht2]
          simp only [cond_true, Option.bind_some]
          rw [cat1 (by simp; omega)]
          simp only [Option.bind_some]
          rw [cat1 (by simp [-List.length_flatMap]; omega)]
          simp
      · simp only [calqueref44_item_b2, dn, cond_false, List.take_length]
      · have := fl x.Ranges.length
        rw [List.take_length] at this
        rw [cat1 (by simp [-List.length_flatMap]; omega)]
        simp only [Option.bind_some, bodyT, if_pos h0]
    · rw [if_neg h0] at h
      have e0 : (x.Text != ([] : Str)) = true := by simpa using h0
      have fl := fun k => take_le (fun c : UInt8 => esc false c.toNat) 4 x.Text k (fun c _ => esc_len _ _)
      simp only [e0, cond_true]
      refine (iter_atB (fun k : Nat => (([34] ++ (x.Text.take k).flatMap (fun c => esc false c.toNat)), (k : Int))) x.Text.length ([34] ++ x.Text.flatMap (fun c => esc false c.toNat)) (by simp) (by omega) (fun k hk => ?_) ?_).trans ?_
      · obtain ⟨c, hc⟩ := at_lt hk
        have := fl k
        have hec := esc_len false c.toNat
        simp only [calqueref44_item_b1, dk hk, cond_true, ixg hc, Option.bind_some]
        rw [one_eq (u8lt c)]
        simp only [Option.bind_some]
        rw [cat1 (by simp [-List.length_flatMap]; omega)]
        simp only [Option.bind_some]
        rw [← take_flat (fun c : UInt8 => esc false c.toNat) hc]
        simp
      · simp only [calqueref44_item_b1, dn, cond_false, List.take_length]
      · have := fl x.Text.length
        rw [List.take_length] at this
        rw [cat1 (by simp [-List.length_flatMap]; omega)]
        simp only [Option.bind_some, bodyT, if_neg h0]
  refine (congrArg (fun o : Option Str => o.bind _) hbody).trans ?_
  rw [Option.bind_some]
  have hbl := bodyT_len ⟨hm, h⟩
  unfold itemT markT
  simp only [beqd]
  obtain ⟨h1, h2⟩ := hm
  rcases h1 with h1 | h1 <;> rcases h2 with h2 | h2 <;> simp [h1, h2, bne, beqd] <;> rw [cat1 (by simp; omega)] <;> rfl
theorem ref_line_eq {N : Nat} {r : Rule} (h : RlP r) (hn : r.Next.length ≤ 16) (hb : ∀ x ∈ r.Items, InB x) (hN : 100 ≤ N) : calqueref44_line N r = some (lineT r) := by
  unfold calqueref44_line
  have hk := word_len h.1
  have fl := fun k => take_le (fun x => 32 :: itemT x) 202 r.Items k (fun x hx => by have := itemT_len (h.2.2 x hx); simp; omega)
  have hI := h.2.1
  refine (iter_atB (fun k : Nat => ((r.Kind ++ (r.Items.take k).flatMap (fun x => 32 :: itemT x)), (k : Int))) r.Items.length (r.Kind ++ r.Items.flatMap (fun x => 32 :: itemT x)) (by simp) (by omega) (fun k hk => ?_) ?_).trans ?_
  · obtain ⟨x, hx⟩ := at_lt hk
    have hm := List.mem_of_getElem? hx
    have := fl k
    have hil := itemT_len (h.2.2 x hm)
    simp only [calqueref44_line_b1, dk hk, cond_true, ixg hx, Option.bind_some]
    rw [ref_item_eq (h.2.2 x hm) (hb x hm) hN]
    simp only [Option.bind_some]
    rw [cat1 (by simp; omega)]
    simp only [Option.bind_some]
    rw [cat1 (by simp [-List.length_flatMap]; omega)]
    simp only [Option.bind_some]
    rw [← take_flat (fun x => 32 :: itemT x) hx]
    simp
  · simp only [calqueref44_line_b1, dn, cond_false, List.take_length]
  · have := fl r.Items.length
    rw [List.take_length] at this
    unfold lineT
    by_cases h0 : r.Next = []
    · have e0 : (r.Next != ([] : Str)) = false := by rw [h0]; rfl
      simp only [e0, cond_false, if_pos h0, List.append_nil]
    · have e0 : (r.Next != ([] : Str)) = true := by simpa using h0
      simp only [e0, cond_true, if_neg h0]
      rw [cat1 (by simp; omega)]
      simp only [Option.bind_some]
      rw [cat1 (by simp [-List.length_flatMap]; omega)]
      simp only [Option.bind_some]

/-- The shape of a valid script, but for the length of its text. -/
structure Vs (s : List State) : Prop where
  len : 1 ≤ s.length ∧ s.length ≤ 20
  name : ∀ x ∈ s, word x.Name = true
  rules : ∀ x ∈ s, 1 ≤ x.Rules.length ∧ x.Rules.length ≤ 40
  rl : ∀ x ∈ s, ∀ r ∈ x.Rules, RlP r ∧ (r.Next = [] ∨ r.Next ∈ s.map State.Name)
  nd : (s.map State.Name).Nodup
theorem Vs.next {s : List State} (h : Vs s) {x : State} (hx : x ∈ s) {r : Rule} (hr : r ∈ x.Rules) : r.Next.length ≤ 16 := by
  rcases (h.rl x hx r hr).2 with h1 | h1
  · rw [h1]; decide
  · obtain ⟨y, hy, e⟩ := List.mem_map.1 h1
    rw [← e]; exact (word_len (h.name y hy)).2
theorem stateT_len {s : List State} (h : Vs s) {x : State} (hx : x ∈ s) : (stateT x).length ≤ 170000 := by
  unfold stateT
  have h1 := word_len (h.name x hx)
  have h2 := h.rules x hx
  have h3 := flat_le (fun r => lineT r ++ [10]) 4081 x.Rules (fun r hr => by have := lineT_len (h.rl x hx r hr).1 (h.next hx hr); simp; omega)
  simp [-List.length_flatMap]; omega
theorem scan_text_eq {N : Nat} {s : List State} (h : Vs s) (hb : ∀ x ∈ s, ∀ r ∈ x.Rules, ∀ y ∈ r.Items, InB y) (hN : 100 ≤ N) : scan_text N s = some (textT s) := by
  unfold scan_text
  have hl := h.len
  have fl := fun k => take_le stateT 170000 s k (fun x hx => stateT_len h hx)
  have e : Builder.mk () ([]) = bld [] := rfl
  rw [e]
  refine (iter_atB (fun k : Nat => ((k : Int), bld ((s.take k).flatMap stateT))) s.length (bld (textT s)) (by simp) (by omega) (fun k hk => ?_) ?_).trans ?_
  · obtain ⟨x, hx⟩ := at_lt hk
    have hm := List.mem_of_getElem? hx
    have h1 := word_len (h.name x hm)
    have h2 := h.rules x hm
    have := fl k
    have fl2 := fun j => take_le (fun r => lineT r ++ [10]) 4081 x.Rules j (fun r hr => by have := lineT_len (h.rl x hm r hr).1 (h.next hm hr); simp; omega)
    simp only [scan_text_b1, dk hk, cond_true, ixg hx, Option.bind_some, bld_eta]
    rw [cat1 (by simp; omega)]
    simp only [Option.bind_some]
    rw [cat1 (by simp; omega)]
    simp only [Option.bind_some]
    rw [wstr (by simp [-List.length_flatMap]; omega)]
    simp only [Option.bind_some, bld_eta]
    refine (iter_atB (fun j : Nat => ((j : Int), bld ((s.take k).flatMap stateT ++ ([115, 116, 97, 116, 101, 32] ++ x.Name ++ [10]) ++ (x.Rules.take j).flatMap (fun r => lineT r ++ [10])))) x.Rules.length (bld ((s.take (k + 1)).flatMap stateT)) (by simp) (by omega) (fun j hj => ?_) ?_).trans ?_
    · obtain ⟨r, hr⟩ := at_lt hj
      have hrm := List.mem_of_getElem? hr
      have hll := lineT_len (h.rl x hm r hrm).1 (h.next hm hrm)
      have := fl2 j
      simp only [scan_text_b2, dk hj, cond_true, ixg hr, Option.bind_some, bld_eta]
      rw [scan_line_eq (h.rl x hm r hrm).1 (h.next hm hrm) (hb x hm r hrm) hN]
      simp only [Option.bind_some]
      rw [cat1 (by simp; omega)]
      simp only [Option.bind_some]
      rw [wstr (by simp [-List.length_flatMap]; omega)]
      simp only [Option.bind_some, bld_eta]
      rw [← take_flat (fun r => lineT r ++ [10]) hr]
      simp
    · simp only [scan_text_b2, dn, cond_false, bld_eta, List.take_length]
      rw [← take_flat stateT hx]
      simp [stateT]
    · rfl
  · simp only [scan_text_b1, dn, cond_false, bld_eta, List.take_length]
    rfl
  · simp only [bld, bytes_bld]
theorem ref_text_eq {N : Nat} {s : List State} (h : Vs s) (hb : ∀ x ∈ s, ∀ r ∈ x.Rules, ∀ y ∈ r.Items, InB y) (hN : 100 ≤ N) : calqueref44_text N s = some (textT s) := by
  unfold calqueref44_text
  have hl := h.len
  have fl := fun k => take_le stateT 170000 s k (fun x hx => stateT_len h hx)
  refine (iter_atB (fun k : Nat => ((s.take k).flatMap stateT, (k : Int))) s.length (textT s) (by simp) (by omega) (fun k hk => ?_) ?_).trans rfl
  · obtain ⟨x, hx⟩ := at_lt hk
    have hm := List.mem_of_getElem? hx
    have h1 := word_len (h.name x hm)
    have h2 := h.rules x hm
    have := fl k
    have fl2 := fun j => take_le (fun r => lineT r ++ [10]) 4081 x.Rules j (fun r hr => by have := lineT_len (h.rl x hm r hr).1 (h.next hm hr); simp; omega)
    simp only [calqueref44_text_b1, dk hk, cond_true, ixg hx, Option.bind_some]
    rw [cat1 (by simp; omega)]
    simp only [Option.bind_some]
    rw [cat1 (by simp; omega)]
    simp only [Option.bind_some]
    rw [cat1 (by simp [-List.length_flatMap]; omega)]
    simp only [Option.bind_some]
    refine (iter_atB (fun j : Nat => (((s.take k).flatMap stateT ++ ([115, 116, 97, 116, 101, 32] ++ x.Name ++ [10]) ++ (x.Rules.take j).flatMap (fun r => lineT r ++ [10])), (j : Int))) x.Rules.length ((s.take (k + 1)).flatMap stateT) (by simp) (by omega) (fun j hj => ?_) ?_).trans ?_
    · obtain ⟨r, hr⟩ := at_lt hj
      have hrm := List.mem_of_getElem? hr
      have hll := lineT_len (h.rl x hm r hrm).1 (h.next hm hrm)
      have := fl2 j
      simp only [calqueref44_text_b2, dk hj, cond_true, ixg hx, ixg hr, Option.bind_some]
      rw [ref_line_eq (h.rl x hm r hrm).1 (h.next hm hrm) (hb x hm r hrm) hN]
      simp only [Option.bind_some]
      rw [cat1 (by simp; omega)]
      simp only [Option.bind_some]
      rw [cat1 (by simp [-List.length_flatMap]; omega)]
      simp only [Option.bind_some]
      rw [← take_flat (fun r => lineT r ++ [10]) hr]
      simp
    · simp only [calqueref44_text_b2, ixg hx, Option.bind_some, dn, cond_false, List.take_length]
      rw [← take_flat stateT hx]
      simp [stateT]
    · rfl
  · simp only [calqueref44_text_b1, dn, cond_false, List.take_length]
    rfl
end Go.Proofs.Ytmmioinglmeoiaa
