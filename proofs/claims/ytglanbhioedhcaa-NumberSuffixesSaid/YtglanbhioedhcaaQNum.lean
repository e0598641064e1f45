/- Plain laws of number: what the printed Lean functions answer. No program in sight. -/
import Derived.Test.YtglanbhioedhcaaF11
import Derived.Test.YtglanbhioedhcaaF17
import Derived.Test.YtglanbhioedhcaaF18
import Derived.Test.YtglanbhioedhcaaQDice
import Derived.KernelRfl
namespace Go.Proofs.Ytglanbhioedhcaa.Q
open Go.RowKit Go.Proofs.Ytglanbhioedhcaa.P Go.Proofs.YtglanbhioedhcaaW.PrintWords Go.Proofs.YtglanbhioedhcaaW.PrintLast

theorem sane2 (k : Nat) (hk : 1 ≤ k) : groupcontrollaw2_sane.f k = some true := by
  obtain ⟨k, rfl⟩ : ∃ m, k = m + 1 := ⟨k - 1, by omega⟩
  kernel_rfl

def clip (x : Int) : Int := if x ≥ 4611686018427387904 then 4611686018427387904 else mn (mx x 0) 1099511627776
def add (x y : Int) : Int := if clip x = 4611686018427387904 then 4611686018427387904 else if clip y = 4611686018427387904 then 4611686018427387904 else mn (clip x + clip y) 1099511627776
theorem clip_eq (x : Int) : (4611686018427387904 ≤ x ∧ clip x = 4611686018427387904) ∨ (x < 4611686018427387904 ∧ 1099511627776 ≤ x ∧ clip x = 1099511627776) ∨ (0 ≤ x ∧ x < 1099511627776 ∧ clip x = x) ∨ (x < 0 ∧ clip x = 0) := by
  unfold clip mn mx
  repeat' split
  all_goals omega
theorem clip_some (x : Int) : number_Clip.f x = some (clip x) := by
  unfold number_Clip.f clip
  split <;> rfl
theorem rclip_some (x : Int) : groupcontrolref2_Clip.f x = some (clip x) := by
  unfold groupcontrolref2_Clip.f clip
  split <;> rfl
theorem clip_sum (x y : Int) (_h1 : ¬ clip x = 4611686018427387904) (_h2 : ¬ clip y = 4611686018427387904) : wrap64 (clip x + clip y) = clip x + clip y := by
  have := clip_eq x
  have := clip_eq y
  exact w64 (by omega) (by omega)
theorem add_some (x y : Int) : number_Add.f x y = some (add x y) := by
  unfold number_Add.f add
  rw [clip_some, clip_some]
  simp only [Option.bind_some]
  split
  · rfl
  · split
    · rfl
    · rw [clip_sum x y ‹_› ‹_›]
theorem radd_some (x y : Int) : groupcontrolref2_Add.f x y = some (add x y) := by
  unfold groupcontrolref2_Add.f add
  rw [rclip_some, rclip_some]
  simp only [Option.bind_some]
  split
  · rfl
  · split
    · rfl
    · rw [clip_sum x y ‹_› ‹_›]
theorem add_eq (x y : Int) : (clip x = 4611686018427387904 ∧ add x y = 4611686018427387904) ∨ (clip y = 4611686018427387904 ∧ add x y = 4611686018427387904) ∨
    (clip x ≤ 1099511627776 ∧ clip y ≤ 1099511627776 ∧ clip x + clip y ≤ 1099511627776 ∧ add x y = clip x + clip y) ∨ (clip x ≤ 1099511627776 ∧ clip y ≤ 1099511627776 ∧ 1099511627776 < clip x + clip y ∧ add x y = 1099511627776) := by
  have hx := clip_eq x
  have hy := clip_eq y
  unfold add mn
  repeat' split
  all_goals omega
theorem add_comm' (x y : Int) : add x y = add y x := by
  have := add_eq x y
  have := add_eq y x
  have := clip_eq x
  have := clip_eq y
  omega
theorem clip_add (x y : Int) : clip (add x y) = add x y := by
  have := add_eq x y
  have := clip_eq x
  have := clip_eq y
  have := clip_eq (add x y)
  omega
theorem add_assoc' (x y z : Int) : add (add x y) z = add x (add y z) := by
  have h1 := add_eq x y
  have h2 := add_eq y z
  have h3 := add_eq (add x y) z
  have h4 := add_eq x (add y z)
  rw [clip_add] at h3 h4
  have := clip_eq x
  have := clip_eq y
  have := clip_eq z
  generalize add (add x y) z = a at *
  generalize add x (add y z) = b at *
  generalize add x y = c at *
  generalize add y z = d at *
  generalize clip x = cx at *
  generalize clip y = cy at *
  generalize clip z = cz at *
  omega
theorem add_ge (x y : Int) : clip x ≤ add x y := by
  have := add_eq x y
  have := clip_eq x
  have := clip_eq y
  omega
theorem clip_mono (x y : Int) (h : x ≤ y) : clip x ≤ clip y := by
  have := clip_eq x
  have := clip_eq y
  omega
theorem add_mono (x y z : Int) (h : y ≤ z) : add x y ≤ add x z := by
  have h0 := clip_mono y z h
  have h1 := add_eq x y
  have h2 := add_eq x z
  have := clip_eq x
  have := clip_eq y
  have := clip_eq z
  generalize add x y = a at *
  generalize add x z = b at *
  generalize clip x = cx at *
  generalize clip y = cy at *
  generalize clip z = cz at *
  omega

end Go.Proofs.Ytglanbhioedhcaa.Q
