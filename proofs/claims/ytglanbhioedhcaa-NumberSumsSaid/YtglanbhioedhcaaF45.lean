/- The call of function 45 (number_value) answers as the plain Lean function number_value.f tells, for arguments that read as the premises of number_value.calls say. Written by a program of this session's own (wip/printx.py). -/
import Derived.Test.YtglanbhioedhcaaK0
import Derived.Test.YtglanbhioedhcaaF44
import Derived.Laws.RangeAny
import Derived.Laws.RangeString
import Derived.Lib.Strings
namespace Go.Proofs.Ytglanbhioedhcaa.P
open Go.RowKit Go.Proofs.YtglanbhioedhcaaW.PrintWords Go.Proofs.YtglanbhioedhcaaW.PrintLast Go.Proofs.YtglanbhioedhcaaW.PrintMore
attribute [local go_sem] max2_int min2_int max_two min_two max_three min_three max_four min_four   -- for this text's walks alone
set_option linter.unusedVariables false
set_option linter.unusedSimpArgs false

/-! ### number_value: function 45 -/
def foldDig (m : Int) (l : List UInt8) (n : Int) : Int := l.foldl (fun n c => mn (10 * n + ((c.toNat : Int) - 48)) m) n
def number_value.f (a0 : ByteArray) (a1 : Int) : Option Int := if a0.data.toList.all isDig = true ∧ 0 ≤ a1 ∧ a1 ≤ 1125899906842624 then some (foldDig a1 a0.data.toList 0) else none
theorem dig_at (s : ByteArray) (h : s.data.toList.all isDig = true) (k : Nat) (hk : k < s.size) : 48 ≤ (s[k]'hk).toNat ∧ (s[k]'hk).toNat ≤ 57 := by
  rw [List.all_eq_true] at h
  have := h (s[k]'hk) (by show s.data[k] ∈ s.data.toList; simp)
  simpa [isDig] using this
set_option maxHeartbeats 1000000 in
set_option maxRecDepth 1000000 in
theorem number_value.calls (a0 : ByteArray) (a1 : Int) (r : Int) (w : World) (h : number_value.f a0 a1 = some r) :
    Calls Try.prog 45 #[.string a0, .int .i64 a1] w fun e w' => e = .returned (.int .i64 r) ∧ Below w.heap.size w w' := by
  unfold number_value.f at h
  split at h
  · rename_i ha
    obtain ⟨ha, hm0, hm1⟩ := ha
    have hr := Option.some.inj h
    have HR := Aside0.mk hr
    have HA := Aside0.mk ha
    clear h hr ha
    go_enter Try.func45, Try.ntmps45
    go_wp2
    go_loopw [5, 7] (fun n _ w' => ∃ (pos : Nat) (x : Int), w' = w.iter a0 pos ∧ pos ≤ a0.size ∧ n = .int .i64 x ∧ 0 ≤ x ∧ x ≤ a1 ∧ Aside0 (foldDig a1 (a0.data.toList.drop pos) x = foldDig a1 a0.data.toList 0)) (fun _ _ w' => a0.size - w'.iterPos w.heap.size)
    case atStart => exact ⟨0, 0, rfl, Nat.zero_le _, rfl, Int.le_refl _, hm0, ⟨rfl⟩⟩
    case round =>
      obtain ⟨pos, x, rfl, hb, rfl, hx0, hx1, HC⟩ := hrel
      by_cases hp : pos < a0.size
      · obtain ⟨hg0, hg1⟩ := dig_at a0 HA.out pos hp
        have hnx : ∀ ty, (Instr.next (.pointer (some ⟨w.heap.size, 0, none⟩)) true ty).run Try.prog (w.iter a0 pos) = _ := fun ty => run_next_ascii w a0 pos ty hp (by omega)
        have hd := Aside0.mk (drop_at a0 pos hp)
        have HB : Aside0 (0 ≤ mn (10 * x + (((a0[pos]'hp).toNat : Int) - 48)) a1 ∧ mn (10 * x + (((a0[pos]'hp).toNat : Int) - 48)) a1 ≤ a1) := ⟨by unfold mn; split <;> omega⟩
        go_wp2
        go_roundw
        case rel => exact ⟨pos + 1, mn (10 * x + (((a0[pos]'hp).toNat : Int) - 48)) a1, rfl, by omega, rfl, HB.out.1, HB.out.2, ⟨by rw [← HC.out, hd.out]; rfl⟩⟩
        case measure => simp; omega
      · have hnx : ∀ ty, (Instr.next (.pointer (some ⟨w.heap.size, 0, none⟩)) true ty).run Try.prog (w.iter a0 pos) = _ := fun ty => run_next_end w a0 pos ty hp
        have HN : Aside0 (a0.data.toList.drop pos = []) := ⟨List.drop_of_length_le (by simpa using Nat.le_of_not_lt hp)⟩
        go_wp2
        go_ret
        exact ⟨by rw [← HR.out, ← HC.out, HN.out]; rfl, (Below.refl _ _).alloc (Nat.le_refl _) _⟩
  · cases h

end Go.Proofs.Ytglanbhioedhcaa.P
