/- strings.IndexAny at a set of ASCII bytes, any string: short strings by the walk of its text, longer ones by the shelf. -/
import Derived.Test.YtnmiodonophfbaaDoorExt16u
import Derived.Test.YtnmiodonophfbaaDoorWalk16t
import Derived.Test.YtnmiodonophfbaaDoorShelf
namespace Go.Proofs.YtnmiodonophfbaaDoor
open Go.X Go.Shelf Go.RowKit Go.Proofs

theorem uget (s : List UInt8) (k : Nat) (h : k < s.length) : ((bs s)[k]'h) = s[k] := rfl
theorem indexAny_range (s cs : List UInt8) : -1 ≤ Lib.indexAny s cs ∧ Lib.indexAny s cs < s.length + 1 := by
  induction s with
  | nil => simp [Lib.indexAny]
  | cons b l ih =>
    unfold Lib.indexAny
    split
    · simp; omega
    · split
      · simp; omega
      · simp only [List.length_cons]; omega
theorem asc {cs : List UInt8} (h : cs.all (fun b => decide (b.toNat < 128)) = true) {k : Nat} {b : UInt8} (hk : cs[k]? = some b) : b.toNat < 128 := of_decide_eq_true (List.all_eq_true.1 h b (List.mem_of_getElem? hk))
theorem indexByte_far {cs : List UInt8} {c : UInt8} (h : cs.all (fun b => decide (b.toNat < 128)) = true) (hc : 128 ≤ c.toNat) : Lib.indexByte cs c = -1 := by
  have h1 := Lib.contains_iff_indexByte cs c
  have h2 := Lib.indexByte_ge cs c
  have h3 : cs.contains c = false := by
    rw [Bool.eq_false_iff]
    intro e
    have := of_decide_eq_true (List.all_eq_true.1 h c (List.contains_iff_mem.1 e))
    omega
  rw [h3] at h1
  have := of_decide_eq_false h1.symm
  omega
theorem runeStr_last {r : Int} (h0 : 128 ≤ r) : ∃ n c, (runeStr r).length = n + 1 ∧ n ≤ 3 ∧ (runeStr r)[n]? = some c ∧ 128 ≤ c.toNat := by
  unfold runeStr Utf8.encode
  dsimp only
  have hc : 128 ≤ (if Utf8.valid r = true then r.toNat else Utf8.runeError) := by split; omega; decide
  generalize (if Utf8.valid r = true then r.toNat else Utf8.runeError) = c at *
  have hm : ∀ k, 128 ≤ (UInt8.ofNat (0x80 + k % 64)).toNat := by
    intro k
    rw [UInt8.toNat_ofNat']
    have : k % 64 < 64 := Nat.mod_lt _ (by decide)
    rw [Nat.mod_eq_of_lt (by omega)]
    omega
  rw [if_neg (by omega)]
  split
  · exact ⟨1, _, rfl, by omega, rfl, hm _⟩
  · split
    · exact ⟨2, _, rfl, by omega, rfl, hm _⟩
    · exact ⟨3, _, rfl, by omega, rfl, hm _⟩
theorem rune_far {N : Nat} {cs : List UInt8} {r : Int} (h : cs.all (fun b => decide (b.toNat < 128)) = true) (h0 : 128 ≤ r) (hl : cs.length ≤ 1000) (hN : 3000 ≤ N) : strings_IndexRune N cs r = some (-1) := by
  unfold strings_IndexRune
  rw [decide_eq_true (show (0 : Int) ≤ r by omega), decide_eq_false (show ¬ r < 128 by omega), cond_true, cond_false]
  by_cases he : r = 65533
  · subst he
    simp only [beq_self_eq_true, cond_true]
    have key : ∀ N0 j p N, p + j = cs.length → j < N → iter (fun s => strings_IndexRune_b1 N0 cs s) N p = some (.inl cs.length) := by
      intro N0 j
      induction j with
      | zero =>
        intro p N hp hN
        obtain ⟨N, rfl⟩ : ∃ M, N = M + 1 := ⟨N - 1, by omega⟩
        rw [iter]
        unfold strings_IndexRune_b1
        rw [decide_eq_false (show ¬ p < cs.length by omega), cond_false]
        simp only [Option.some.injEq, Sum.inl.injEq]
        omega
      | succ j ih =>
        intro p N hp hN
        obtain ⟨N, rfl⟩ : ∃ M, N = M + 1 := ⟨N - 1, by omega⟩
        have hlt : p < cs.length := by omega
        have ha := asc h (List.getElem?_eq_getElem hlt)
        have hd := decode_ascii (bs cs) p hlt ha
        have e : strings_IndexRune_b1 N0 cs p = some (.inl (p + 1)) := by
          unfold strings_IndexRune_b1 runeAt wideAt
          rw [decide_eq_true hlt, cond_true, hd]
          have : ((((bs cs)[p]'hlt).toNat : Int) == 65533) = false := by
            rw [beq_eq_false_iff_ne]
            have : ((bs cs)[p]'hlt).toNat < 128 := ha
            omega
          rw [this]
          rfl
        rw [iter]
        simp only [e]
        exact ih (p + 1) N (by omega) (by omega)
    rw [key N cs.length 0 N (by omega) (by omega)]
    rfl
  · rw [show (r == 65533) = false from by rw [beq_eq_false_iff_ne]; exact he, cond_false]
    have hv : ∃ v, unicode_utf8_ValidRune N r = some v := by
      unfold unicode_utf8_ValidRune
      cases decide ((0 : Int) ≤ r) <;> cases decide (r < 55296) <;> cases decide ((57343 : Int) < r) <;> cases decide (r ≤ 1114111) <;> exact ⟨_, rfl⟩
    obtain ⟨v, hv⟩ := hv
    rw [hv]
    simp only [Option.bind_some]
    cases v with
    | false => rfl
    | true =>
      simp only [Bool.not_true, cond_false]
      obtain ⟨n, c, e1, e2, e3, e4⟩ := runeStr_last h0
      have hw : IntKind.wrap .i64 (((runeStr r).length : Int) - 1) = (n : Int) := by rw [e1]; rw [wrap_of (inR_i64.2 ⟨by omega, by omega⟩)]; omega
      have hb : strings_IndexRune_b2 N cs r (n : Int) = some (.inr (.inl ())) ∨ strings_IndexRune_b2 N cs r (n : Int) = some (.inr (.inr (-1))) := by
        unfold strings_IndexRune_b2
        by_cases hlt : n < cs.length
        · right
          have ha := asc h (List.getElem?_eq_getElem hlt)
          have hid : ∀ {xs : List UInt8} {k : Nat} {b : UInt8}, xs[k]? = some b → idx xs (k : Int) = some b := fun {xs k b} hk => by unfold idx; rw [if_pos (by omega)]; simpa using hk
          rw [decide_eq_true (show (n : Int) < (cs.length : Int) by omega), cond_true, hid (List.getElem?_eq_getElem hlt), Option.bind_some, hw, hid e3, Option.bind_some]
          have hne : ((cs[n].toNat : Int) != (c.toNat : Int)) = true := by rw [bne_iff_ne]; omega
          rw [hne, cond_true]
          have hs : slc cs ((n : Int) + 1) (cs.length : Int) = some (cs.drop (n + 1)) := by
            unfold slc
            rw [if_pos (by omega)]
            congr 1
            rw [show ((n : Int) + 1).toNat = n + 1 from by omega, List.take_of_length_le (by rw [List.length_drop]; omega)]
          rw [hs, Option.bind_some, Option.bind_some]
          have hfar : strings_IndexByte N (cs.drop (n + 1)) (c.toNat : Int) = some (-1) := by
            unfold strings_IndexByte
            have : ((c.toNat : Int)).toNat.toUInt8 = c := by simp
            rw [this, indexByte_far (List.all_eq_true.2 fun b hb => List.all_eq_true.1 h b (List.mem_of_mem_drop hb)) e4]
          rw [hfar]
          rfl
        · left
          rw [decide_eq_false (show ¬ (n : Int) < (cs.length : Int) by omega), cond_false]
      rw [hw]
      obtain ⟨M, rfl⟩ : ∃ M, N = M + 1 := ⟨N - 1, by omega⟩
      rw [iter]
      rcases hb with hb | hb <;> simp only [hb] <;> rfl
theorem rune_near {N : Nat} {cs : List UInt8} {b : UInt8} (h0 : b.toNat < 128) : strings_IndexRune N cs (b.toNat : Int) = some (Lib.indexByte cs b) := by
  unfold strings_IndexRune
  rw [decide_eq_true (show (0 : Int) ≤ (b.toNat : Int) by omega), decide_eq_true (show (b.toNat : Int) < 128 by omega), cond_true, cond_true]
  have hw : IntKind.wrap .u8 (b.toNat : Int) = (b.toNat : Int) := wrap_of (inR_u8.2 ⟨by omega, by omega⟩)
  unfold strings_IndexByte
  rw [hw]
  have : ((b.toNat : Int)).toNat.toUInt8 = b := by simp
  rw [this]
  rfl
/-- The bytes of a rune that is no ASCII are none either. -/
theorem wide_high (s : List UInt8) (p : Nat) (h : p < s.length) (ha : 128 ≤ s[p].toNat) : ∀ k b, k < wideAt s p → s[p + k]? = some b → 128 ≤ b.toNat := by
  have hget : ∀ k, p + k < s.length → ((bs s).get! (p + k)).toNat = (s[p + k]!).toNat := fun k hk => by rw [show (bs s).get! (p + k) = s[p + k] from get_at (bs s) (p + k) hk, getElem!_pos s (p + k) hk]
  intro k b hk hb
  have hlt := (List.getElem?_eq_some_iff.1 hb).1
  have hbe : (s[p + k]!) = b := by rw [getElem!_def, hb]
  cases k with
  | zero => rw [Nat.add_zero, List.getElem?_eq_getElem h] at hb; cases hb; exact ha
  | succ k =>
    have h0 : ¬ ((bs s).get! (p + 0)).toNat < 128 := by
      have : (bs s).get! (p + 0) = s[p] := get_at (bs s) p h
      rw [this]; omega
    have hk' := hget (k + 1) hlt
    rw [hbe] at hk'
    unfold wideAt Utf8.decode at hk
    dsimp only at hk
    rw [if_neg h0] at hk
    have fin : ∀ j, j = k + 1 → ((bs s).get! (p + j)).toNat / 64 = 2 → 128 ≤ b.toNat := fun j hj h2 => by subst hj; omega
    repeat' split at hk
    all_goals first
      | (simp only [Bool.and_eq_true, decide_eq_true_eq, beq_iff_eq] at *
         have : k + 1 = 1 ∨ k + 1 = 2 ∨ k + 1 = 3 := by omega
         rcases this with e | e | e <;> first | omega | exact fin _ e.symm (by simp_all))
      | omega
theorem small_eq {N : Nat} {s cs : List UInt8} (h8 : s.length ≤ 8) (h1 : 2 ≤ cs.length) (h2 : cs.length ≤ 1000) (h4 : cs.all (fun b => decide (b.toNat < 128)) = true) (hN : 3000 ≤ N := by decide) : small_IndexAny N s cs = some (Lib.indexAny s cs) := by
  have key : ∀ N0, 3000 ≤ N0 → ∀ j p N, s.length ≤ p + j → j < N → Lib.NoAny s cs p → ∃ r, iter (fun x => small_IndexAny_b1 N0 s cs x) N p = some r ∧ ((∃ q, r = .inl q) ∧ Lib.indexAny s cs = -1 ∨ r = .inr (Lib.indexAny s cs)) := by
    intro N0 hN0 j
    induction j with
    | zero =>
      intro p N hp hN hno
      obtain ⟨N, rfl⟩ : ∃ M, N = M + 1 := ⟨N - 1, by omega⟩
      refine ⟨.inl p, ?_, .inl ⟨⟨p, rfl⟩, Lib.indexAny_none fun j b hj hb => hno j b (by omega) hb⟩⟩
      rw [iter]
      unfold small_IndexAny_b1
      rw [decide_eq_false (show ¬ p < s.length by omega), cond_false]
    | succ j ih =>
      intro p N hp hN hno
      obtain ⟨N, rfl⟩ : ∃ M, N = M + 1 := ⟨N - 1, by omega⟩
      by_cases hlt : p < s.length
      · by_cases ha : s[p].toNat < 128
        · have hd := decode_ascii (bs s) p hlt ha
          have e1 : runeAt s p = (s[p].toNat : Int) := by unfold runeAt; rw [hd]; rfl
          have e2 : wideAt s p = 1 := by unfold wideAt; rw [hd]
          have hcon := Lib.contains_iff_indexByte cs s[p]
          have hb : small_IndexAny_b1 N0 s cs p = if cs.contains s[p] then some (.inr (.inr (p : Int))) else some (.inl (p + 1)) := by
            unfold small_IndexAny_b1
            rw [decide_eq_true hlt, cond_true, e1, rune_near ha, Option.bind_some, e2, hcon]
            by_cases hz : 0 ≤ Lib.indexByte cs s[p]
            · rw [decide_eq_true hz]; rfl
            · rw [decide_eq_false hz]; rfl
          rw [iter]
          simp only [hb]
          cases hc : cs.contains s[p] with
          | true =>
            refine ⟨.inr (p : Int), rfl, .inr ?_⟩
            rw [Lib.indexAny_hit hno (List.getElem?_eq_getElem hlt) hc]
          | false => exact ih (p + 1) N (by omega) (by omega) (hno.succ (List.getElem?_eq_getElem hlt) hc)
        · have hh := decode_high (bs s) p hlt (Nat.le_of_not_lt ha)
          have hw := wide_high s p hlt (Nat.le_of_not_lt ha)
          have hb : small_IndexAny_b1 N0 s cs p = some (.inl (p + wideAt s p)) := by
            unfold small_IndexAny_b1
            rw [decide_eq_true hlt, cond_true, rune_far h4 (by unfold runeAt; have := hh.1; omega) h2 hN0, Option.bind_some]
            rfl
          rw [iter]
          simp only [hb]
          have hw1 : 1 ≤ wideAt s p := hh.2
          refine ih (p + wideAt s p) N (by omega) (by omega) fun i b hi hb => ?_
          by_cases hip : i < p
          · exact hno i b hip hb
          · have h128 := hw (i - p) b (by omega) (by rw [show p + (i - p) = i by omega]; exact hb)
            rw [Bool.eq_false_iff]
            intro e
            have := of_decide_eq_true (List.all_eq_true.1 h4 b (List.contains_iff_mem.1 e))
            omega
      · refine ⟨.inl p, ?_, .inl ⟨⟨p, rfl⟩, Lib.indexAny_none fun j b hj hb => hno j b (by omega) hb⟩⟩
        rw [iter]
        unfold small_IndexAny_b1
        rw [decide_eq_false hlt, cond_false]
  obtain ⟨r, e1, e2⟩ := key N hN s.length 0 N (by omega) (by omega) (Lib.NoAny.zero _ _)
  unfold small_IndexAny
  have hc : (cs == []) = false := by cases cs with | nil => simp at h1 | cons a t => rfl
  rw [hc, cond_false, show ((cs.length : Int) == 1) = false from by rw [beq_eq_false_iff_ne]; omega, cond_false]
  unfold strings_shouldUseASCIISet
  rw [decide_eq_false (show ¬ (s.length : Int) > 8 by omega)]
  simp only [Option.bind_some, cond_false, Sum.elim_inl]
  rw [e1]
  rcases e2 with ⟨⟨q, rfl⟩, e2⟩ | rfl
  · rw [e2]; rfl
  · rfl

theorem strings_IndexAny_w {u : World} {m0 : Mem} {S : Segs} {w : World} (N : Nat) (s : List UInt8) (ls : s.length ≤ LIMS) (cs : List UInt8) (lc : cs.length ≤ LIMS) {r : Int} (hF : strings_IndexAny N s cs = some r) (hG : Glob u) (ok : Ok u m0 S w) :
    Calls Tryd.prog 37 [.string (bs s), .string (bs cs)].toArray w fun e w' => (e = .returned (.int .i64 r) ∧ Ok u m0 S w') ∧ InR .i64 r := by
  unfold strings_IndexAny at hF
  split at hF
  case isFalse => cases hF
  rename_i h
  obtain ⟨h1, h2, h3, h4⟩ := h
  obtain rfl := Option.some.inj hF
  by_cases h8 : s.length ≤ 8
  · exact small_IndexAny_w 4000 s ls cs lc (small_eq h8 h1 h2 h4) hG ok
  · have h116 : (Tryd.prog.info? (Tryd.lays153_ren.t 116)).map (fun i => (i.zero, i.size)) = some (some (.agg (Array.replicate 256 (.bool false))), 256) := by kernel_rfl
    have hin : InR .i64 (Lib.indexAny s cs) := by
      have := indexAny_range s cs
      rw [inR_i64]; omega
    exact (Calls.scalar ok (Any.strings_IndexAny_long Tryd.lays153 (zero_of_info h116).1 (zero_of_info h116).2 (bs s) (bs cs) w h1 (Nat.lt_of_not_le h8) h3 (Nat.lt_of_le_of_lt h2 (by decide)) (ascii_of_all h4)) fun e w' h => ⟨h.1, by rw [h.2]; exact ((Below.refl _ _).alloc (Nat.le_refl _) _).alloc (by simp) _⟩).mono fun e w' h => ⟨h, hin⟩
end Go.Proofs.YtnmiodonophfbaaDoor
