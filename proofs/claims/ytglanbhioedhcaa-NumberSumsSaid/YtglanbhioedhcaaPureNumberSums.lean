/- The pure statement of NumberSums: Clip and Add answer as the reference does, and Add is commutative, associative, monotone and at least Clip. -/
import Derived.Test.YtglanbhioedhcaaF4
import Derived.Test.YtglanbhioedhcaaQNum
namespace Go.Proofs.Ytglanbhioedhcaa.Pure
open Go.RowKit Go.Proofs.Ytglanbhioedhcaa.P Go.Proofs.YtglanbhioedhcaaW.PrintWords Go.Proofs.YtglanbhioedhcaaW.PrintLast Go.Proofs.Ytglanbhioedhcaa.Q

theorem sums_l2 (E : List Int) (x y i j : Int) (k0 : Nat) (hE : E.length ≤ 100)
    (hnext : ∀ k, k0 ≤ k → groupcontrollaw2_NumberSums.l1 k E x E (E.length : Int) i E (E.length : Int) (wrap64 (j + 1)) = some true) (d : Nat) :
    ∀ (k : Nat) (m : Int), 0 ≤ m → m ≤ E.length → (E.length : Int) - m = d → k0 + d + 1 ≤ k →
      groupcontrollaw2_NumberSums.l2 k E x y (add x y) E (E.length : Int) i E (E.length : Int) j E (E.length : Int) m = some true := by
  induction d with
  | zero =>
    intro k m h0 h1 hd hk
    obtain ⟨k, rfl⟩ : ∃ q, k = q + 1 := ⟨k - 1, by omega⟩
    simp only [groupcontrollaw2_NumberSums.l2]
    rw [if_neg (by omega)]
    exact hnext k (by omega)
  | succ d ih =>
    intro k m h0 h1 hd hk
    obtain ⟨k, rfl⟩ : ∃ q, k = q + 1 := ⟨k - 1, by omega⟩
    have hw : wrap64 (m + 1) = m + 1 := w64 (by omega) (by omega)
    simp only [groupcontrollaw2_NumberSums.l2]
    rw [if_pos (by omega), if_pos h0, if_pos (by omega)]
    simp only [add_some, Option.bind_some]
    rw [if_pos (add_assoc' x y _), hw]
    have hr := ih k (m + 1) (by omega) (by omega) (by omega) (by omega)
    by_cases hz : y ≤ rd E m
    · rw [if_pos hz, if_neg (by have := add_mono x y _ hz; omega)]
      exact hr
    · rw [if_neg hz]
      exact hr

theorem sums_l1 (E : List Int) (x i : Int) (k0 : Nat) (hE : E.length ≤ 100)
    (hnext : ∀ k, k0 ≤ k → groupcontrollaw2_NumberSums.l0 k E E (E.length : Int) (wrap64 (i + 1)) = some true) (d : Nat) :
    ∀ (k : Nat) (j : Int), 0 ≤ j → j ≤ E.length → (E.length : Int) - j = d → k0 + d * (E.length + 5) + 1 ≤ k →
      groupcontrollaw2_NumberSums.l1 k E x E (E.length : Int) i E (E.length : Int) j = some true := by
  induction d with
  | zero =>
    intro k j h0 h1 hd hk
    obtain ⟨k, rfl⟩ : ∃ q, k = q + 1 := ⟨k - 1, by omega⟩
    simp only [groupcontrollaw2_NumberSums.l1]
    rw [if_neg (by omega)]
    exact hnext k (by omega)
  | succ d ih =>
    intro k j h0 h1 hd hk
    have hmul : (d + 1) * (E.length + 5) = d * (E.length + 5) + (E.length + 5) := by rw [Nat.add_mul, Nat.one_mul]
    rw [hmul] at hk
    obtain ⟨k, rfl⟩ : ∃ q, k = q + 2 := ⟨k - 2, by omega⟩
    have hw : wrap64 (j + 1) = j + 1 := w64 (by omega) (by omega)
    simp only [groupcontrollaw2_NumberSums.l1]
    rw [if_pos (by omega), if_pos h0, if_pos (by omega)]
    simp only [add_some, radd_some, clip_some, Option.bind_some, if_true]
    rw [if_pos (add_comm' x _), show decide (add x (rd E j) < clip x) = false from decide_eq_false (by have := add_ge x (rd E j); omega)]
    simp only [groupcontrollaw2_NumberSums.j2]
    rw [if_neg (by simp)]
    refine sums_l2 E x _ i j (k0 + d * (E.length + 5) + 1) hE (fun k' hk' => ?_) E.length k 0 (by omega) (by omega) (by omega) (by omega)
    rw [hw]
    exact ih k' (j + 1) (by omega) (by omega) (by omega) hk'

theorem sums_l0 (E : List Int) (hE : E.length ≤ 100) (d : Nat) :
    ∀ (k : Nat) (i : Int), 0 ≤ i → i ≤ E.length → (E.length : Int) - i = d → d * (E.length * (E.length + 5) + 5) + 2 ≤ k →
      groupcontrollaw2_NumberSums.l0 k E E (E.length : Int) i = some true := by
  induction d with
  | zero =>
    intro k i h0 h1 hd hk
    obtain ⟨k, rfl⟩ : ∃ q, k = q + 1 := ⟨k - 1, by omega⟩
    simp only [groupcontrollaw2_NumberSums.l0]
    rw [if_neg (by omega), sane2 k (by omega)]
    rfl
  | succ d ih =>
    intro k i h0 h1 hd hk
    have hmul : (d + 1) * (E.length * (E.length + 5) + 5) = d * (E.length * (E.length + 5) + 5) + (E.length * (E.length + 5) + 5) := by rw [Nat.add_mul, Nat.one_mul]
    rw [hmul] at hk
    obtain ⟨k, rfl⟩ : ∃ q, k = q + 1 := ⟨k - 1, by omega⟩
    have hw : wrap64 (i + 1) = i + 1 := w64 (by omega) (by omega)
    simp only [groupcontrollaw2_NumberSums.l0]
    rw [if_pos (by omega), if_pos h0, if_pos (by omega)]
    simp only [clip_some, rclip_some, Option.bind_some, if_true]
    refine sums_l1 E _ i (d * (E.length * (E.length + 5) + 5) + 2) hE (fun k' hk' => ?_) E.length k 0 (by omega) (by omega) (by omega) (by omega)
    rw [hw]
    exact ih k' (i + 1) (by omega) (by omega) (by omega) hk'

theorem NumberSums : groupcontrollaw2_NumberSums.Pure := by
  intro a b c l _ _ _ _ _ _
  suffices hs : ∀ K, 3000 ≤ K → groupcontrollaw2_NumberSums.f K a b c l = some true from ⟨3000, hs 3000 (Nat.le_refl _)⟩
  intro K hK
  unfold groupcontrollaw2_NumberSums.f groupcontrolmade_Light.f groupcontrolmade_Roll.f
  simp only [Option.bind_some]
  by_cases h : (l.length : Int) ≤ 600
  · rw [if_pos (by simpa using h)]
    obtain ⟨v1, p1, e1, _, _, q1, _⟩ := next_tells K (by omega) l 0 5 (by omega) (by omega) (by omega) (by omega)
    obtain ⟨v2, p2, e2, _, _, q2, _⟩ := next_tells K (by omega) l p1 3 (by omega) (by omega) (by omega) (by omega)
    obtain ⟨v3, p3, e3, _, _, q3, _⟩ := next_tells K (by omega) l p2 100 (by omega) (by omega) (by omega) (by omega)
    rw [e1]; simp only [Option.bind_some]
    rw [e2]; simp only [Option.bind_some]
    rw [e3]; simp only [Option.bind_some]
    exact sums_l0 _ (by simp) 10 _ 0 (by omega) (by simp) (by simp) (by simp; omega)
  · rw [if_neg (by simpa using h), sane2 _ (by omega)]
    rfl

end Go.Proofs.Ytglanbhioedhcaa.Pure
