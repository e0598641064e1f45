/- The call of function 44 (number_digits) answers as the plain Lean function number_digits.f tells, for arguments that read as the premises of number_digits.calls say. Written by a program of this session's own (wip/printx.py). -/
import Derived.Test.YtglanbhioedhcaaK0
import Derived.Laws.RangeAny
import Derived.Laws.RangeString
import Derived.Lib.Strings
namespace Go.Proofs.Ytglanbhioedhcaa.P
open Go.RowKit Go.Proofs.YtglanbhioedhcaaW.PrintWords Go.Proofs.YtglanbhioedhcaaW.PrintLast Go.Proofs.YtglanbhioedhcaaW.PrintMore
attribute [local go_sem] max2_int min2_int max_two min_two max_three min_three max_four min_four   -- for this text's walks alone
set_option linter.unusedVariables false
set_option linter.unusedSimpArgs false

/-! ### number_digits: function 44 -/
def isDig (c : UInt8) : Bool := decide (48 ≤ c.toNat) && decide (c.toNat ≤ 57)
def asciiL (l : List UInt8) : Bool := l.all fun c => decide (c.toNat < 128)
def number_digits.f (a0 : ByteArray) : Option Bool := if asciiL a0.data.toList = true then some (a0.data.toList.all isDig && !a0.data.toList.isEmpty) else none
theorem ascii_at (s : ByteArray) (h : asciiL s.data.toList = true) (k : Nat) (hk : k < s.size) : (s[k]'hk).toNat < 128 := by
  unfold asciiL at h
  rw [List.all_eq_true] at h
  have := h (s[k]'hk) (by show s.data[k] ∈ s.data.toList; simp)
  simpa using this
theorem drop_at (s : ByteArray) (k : Nat) (hk : k < s.size) : s.data.toList.drop k = s[k]'hk :: s.data.toList.drop (k + 1) := by
  rw [List.drop_eq_getElem_cons (by simpa using hk)]
  rfl
set_option maxHeartbeats 1000000 in
set_option maxRecDepth 1000000 in
theorem number_digits.calls (a0 : ByteArray) (r : Bool) (w : World) (h : number_digits.f a0 = some r) :
    Calls Try.prog 44 #[.string a0] w fun e w' => e = .returned (.bool r) ∧ Below w.heap.size w w' := by
  unfold number_digits.f at h
  split at h
  · rename_i ha
    have hr := Option.some.inj h
    have HR := Aside0.mk hr
    have HA := Aside0.mk ha
    clear h hr ha
    go_enter Try.func44, Try.ntmps44
    go_wp2
    go_loopw [4] (fun _ w' => ∃ pos : Nat, w' = w.iter a0 pos ∧ pos ≤ a0.size ∧ Aside0 ((a0.data.toList.drop pos).all isDig = a0.data.toList.all isDig)) (fun _ w' => a0.size - w'.iterPos w.heap.size)
    case atStart => exact ⟨0, rfl, Nat.zero_le _, ⟨rfl⟩⟩
    case round =>
      obtain ⟨pos, rfl, hb, HC⟩ := hrel
      by_cases hp : pos < a0.size
      · have hasc := ascii_at a0 HA.out pos hp
        have hnx : ∀ ty, (Instr.next (.pointer (some ⟨w.heap.size, 0, none⟩)) true ty).run Try.prog (w.iter a0 pos) = _ := fun ty => run_next_ascii w a0 pos ty hp hasc
        have hd := Aside0.mk (drop_at a0 pos hp)
        by_cases h1 : 48 ≤ ((a0[pos]'hp).toNat : Int)
        · by_cases h2 : ((a0[pos]'hp).toNat : Int) ≤ 57
          · have HI : Aside0 (isDig (a0[pos]'hp) = true) := ⟨by unfold isDig; simp; omega⟩
            go_wp2
            go_roundw
            case rel => exact ⟨pos + 1, rfl, by omega, ⟨by rw [← HC.out, hd.out, List.all_cons, HI.out]; rfl⟩⟩
            case measure => simp; omega
          · have HI : Aside0 (isDig (a0[pos]'hp) = false) := ⟨by unfold isDig; simp; omega⟩
            go_wp2
            go_ret
            exact ⟨by rw [← HR.out, ← HC.out, hd.out, List.all_cons, HI.out]; rfl, (Below.refl _ _).alloc (Nat.le_refl _) _⟩
        · have HI : Aside0 (isDig (a0[pos]'hp) = false) := ⟨by unfold isDig; simp; omega⟩
          go_wp2
          go_ret
          exact ⟨by rw [← HR.out, ← HC.out, hd.out, List.all_cons, HI.out]; rfl, (Below.refl _ _).alloc (Nat.le_refl _) _⟩
      · have hnx : ∀ ty, (Instr.next (.pointer (some ⟨w.heap.size, 0, none⟩)) true ty).run Try.prog (w.iter a0 pos) = _ := fun ty => run_next_end w a0 pos ty hp
        have HN : Aside0 (a0.data.toList.drop pos = []) := ⟨List.drop_of_length_le (by simpa using Nat.le_of_not_lt hp)⟩
        go_wp2
        go_ret
        exact ⟨by rw [← HR.out, ← HC.out, HN.out, Lib.toList_data]; rfl, (Below.refl _ _).alloc (Nat.le_refl _) _⟩
  · cases h

end Go.Proofs.Ytglanbhioedhcaa.P
