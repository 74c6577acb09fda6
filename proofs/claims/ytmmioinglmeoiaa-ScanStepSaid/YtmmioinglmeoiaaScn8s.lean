/- Chapter 44: the law Step. -/
import Derived.Test.YtmmioinglmeoiaaScn7
set_option linter.unusedVariables false
namespace Go.Proofs.Ytmmioinglmeoiaa
open Go.X

theorem scanStep_law (s : List State) (t : Str) (p : Place) (h : ScOk s) (ht : t.length ≤ reachBytes) (hp : InR .i64 p.State ∧ InR .i64 p.At) : ∃ N, calquelaw44_ScanStep N s t p = some true := by
  obtain ⟨n, hn⟩ : ∃ n, n = sz s + t.length + 10 := ⟨_, rfl⟩
  refine ⟨n + 300, ?_⟩
  have hz : Sz (n + 300) s := Sz.of (by omega)
  unfold calquelaw44_ScanStep
  simp only [awake_true, Option.bind_some, Bool.not_true, cond_false]
  obtain ⟨b, hb⟩ := Few_some hz
  simp only [hb, Option.bind_some]
  cases b with
  | false => rfl
  | true =>
    simp only [Bool.not_true, cond_false]
    by_cases h2 : (t.length : Int) > 300
    · rw [decide_eq_true h2]; rfl
    rw [decide_eq_false h2]
    simp only [cond_false, Own_eq h hz, Option.bind_some]
    by_cases hv : Vl s
    · rw [scan_Step_ok hz h.sb hv (by omega) (by omega) (by omega), ref_Step_ok hz h.sb h.tle hv (by omega) (by omega) (by omega)]
      simp
    · rw [scan_Step_no hz h.sb hv (by omega), ref_Step_no hz h.sb hv (by omega)]
      simp
end Go.Proofs.Ytmmioinglmeoiaa
