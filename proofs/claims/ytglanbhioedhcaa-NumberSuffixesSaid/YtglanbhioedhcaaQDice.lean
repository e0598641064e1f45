/- Plain laws of the dice: what the printed Lean functions answer. No program in sight. -/
import Derived.Test.YtglanbhioedhcaaF14
namespace Go.Proofs.Ytglanbhioedhcaa.Q
open Go.RowKit Go.Proofs.Ytglanbhioedhcaa.P Go.Proofs.YtglanbhioedhcaaW.PrintWords Go.Proofs.YtglanbhioedhcaaW.PrintLast

theorem w64 {x : Int} (h0 : -9223372036854775808 ≤ x) (h1 : x ≤ 9223372036854775807) : wrap64 x = x := by unfold wrap64; omega

/-- The dice give a number from 0 to n - 1, and go on by one step at most. -/
theorem next_tells (k : Nat) (hk : 1 ≤ k) (l : List Int) (p n : Int) (hp0 : 0 ≤ p) (hl : l.length ≤ 1000) (hn : 1 ≤ n) (hn2 : n ≤ 1000000) :
    ∃ v p', groupcontrolmade_Dice_Next.f k l p n = some (v, p') ∧ 0 ≤ v ∧ v < n ∧ 0 ≤ p' ∧ (p < l.length → p' = p + 1) ∧ ((l.length : Int) ≤ p → v = 0 ∧ p' = p) := by
  obtain ⟨k, rfl⟩ : ∃ m, k = m + 1 := ⟨k - 1, by omega⟩
  unfold groupcontrolmade_Dice_Next.f
  by_cases h : p ≥ (l.length : Int)
  · rw [if_pos h]
    simp only [groupcontrolmade_Dice_Next.j0]
    exact ⟨0, p, rfl, by omega, by omega, by omega, by omega, by omega⟩
  · rw [if_neg h, show decide (n < 1) = false from decide_eq_false (by omega)]
    simp only [groupcontrolmade_Dice_Next.j0]
    have e1 : wrap64 (p + 1) = p + 1 := w64 (by omega) (by omega)
    have e2 : wrap64 (p + 1 - 1) = p := by rw [w64 (by omega) (by omega)]; omega
    rw [e1, e2, if_neg (by simp), if_pos hp0, if_pos (by omega), if_neg (by omega)]
    have hm1 : -n < Int.tmod (rd l p) n := by have h3 := Int.tmod_lt_of_pos (-(rd l p)) (show 0 < n by omega); rw [Int.neg_tmod] at h3; omega
    have hm2 := Int.tmod_lt_of_pos (rd l p) (show 0 < n by omega)
    by_cases hs : Int.tmod (rd l p) n < 0
    · rw [if_pos hs, w64 (by omega) (by omega)]
      exact ⟨_, _, rfl, by omega, by omega, by omega, by omega, by omega⟩
    · rw [if_neg hs]
      exact ⟨_, _, rfl, by omega, by omega, by omega, by omega, by omega⟩

end Go.Proofs.Ytglanbhioedhcaa.Q
