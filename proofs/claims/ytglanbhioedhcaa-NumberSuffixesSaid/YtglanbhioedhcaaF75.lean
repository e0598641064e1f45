/- The call of function 75 (strings_Cut) answers as the plain Lean function strings_Cut.f tells, for arguments that read as the premises of strings_Cut.calls say. Written by a program of this session's own (wip/printx.py). -/
import Derived.Test.YtglanbhioedhcaaK0
import Derived.Test.YtglanbhioedhcaaF43
import Derived.Lib.Strings
import Derived.Lib.Slices
import Derived.Lib.Walk
import Derived.Lib.Bytealg
namespace Go.Proofs.Ytglanbhioedhcaa.P
open Go.RowKit Go.Proofs.YtglanbhioedhcaaW.PrintWords Go.Proofs.YtglanbhioedhcaaW.PrintLast Go.Proofs.YtglanbhioedhcaaW.PrintMore
attribute [local go_sem] max2_int min2_int max_two min_two max_three min_three max_four min_four   -- for this text's walks alone
set_option linter.unusedVariables false
set_option linter.unusedSimpArgs false

/-! ### strings_Cut: function 75 -/
/-- At the one pair of texts at which it is called: "12.5" and ".". -/
def strings_Cut.f (a0 a1 : ByteArray) : Option (ByteArray × ByteArray × Bool) :=
  if a0.data.toList = [49, 50, 46, 53] ∧ a1.data.toList = [46] then some (⟨#[49, 50]⟩, ⟨#[53]⟩, true) else none
theorem bytes_eq {a : ByteArray} {l : List UInt8} (h : a.data.toList = l) : a = ⟨l.toArray⟩ := by
  obtain ⟨⟨x⟩⟩ := a
  simp at h
  subst h
  rfl
theorem cut74 (c : Int) (hc : c = 46) (w : World) : Calls Try.prog 74 #[.string ⟨#[49, 50, 46, 53]⟩, .int .u8 c] w fun e w' => e = .returned (.int .i64 2) ∧ w' = w := by
  subst hc
  exact stringslite_IndexByte_calls _ _ w
set_option maxHeartbeats 1000000 in
set_option maxRecDepth 100000 in
theorem cut99 (w : World) : Calls Try.prog 99 #[.string ⟨#[49, 50, 46, 53]⟩, .string ⟨#[46]⟩] w fun e w' => e = .returned (.int .i64 2) ∧ w' = w := by
  go_enter Try.func99, Try.ntmps99
  go_wp2_with (go_at_call 74; refine (cut74 _ rfl _).mono ?_; rintro e w' ⟨rfl, rfl⟩)
  go_ret
  exact ⟨rfl, rfl⟩
set_option maxHeartbeats 1000000 in
set_option maxRecDepth 100000 in
theorem cut92 (w : World) : Calls Try.prog 92 #[.string ⟨#[49, 50, 46, 53]⟩, .string ⟨#[46]⟩] w fun e w' => e = .returned (.tuple #[.string ⟨#[49, 50]⟩, .string ⟨#[53]⟩, .bool true]) ∧ Drawn0 w w' := by
  go_enter Try.func92, Try.ntmps92
  go_wp2_with (go_at_call 99; refine (cut99 _).mono ?_; rintro e w' ⟨rfl, rfl⟩)
  go_quiet (fail)
  go_wp2
  go_ret3
  exact ⟨rfl, Drawn0.step (Drawn0.refl _) _⟩
set_option maxHeartbeats 1000000 in
set_option maxRecDepth 100000 in
theorem strings_Cut.calls (a0 a1 : ByteArray) (r1 r2 : ByteArray) (r3 : Bool) (w : World) (h : strings_Cut.f a0 a1 = some (r1, r2, r3)) :
    Calls Try.prog 75 #[.string a0, .string a1] w fun e w' => e = .returned (.tuple #[.string r1, .string r2, .bool r3]) ∧ Drawn0 w w' := by
  unfold strings_Cut.f at h
  split at h
  · rename_i ha
    obtain ⟨ha, hb⟩ := ha
    obtain rfl := bytes_eq ha
    obtain rfl := bytes_eq hb
    simp only [Option.some.injEq, Prod.mk.injEq] at h
    obtain ⟨rfl, rfl, rfl⟩ := h
    clear ha hb
    go_enter Try.func75, Try.ntmps75
    go_wp2_with (go_at_call 92; refine (cut92 _).mono ?_; rintro e w' ⟨rfl, hd⟩)
    go_ret3
    exact ⟨rfl, hd⟩
  · cases h

end Go.Proofs.Ytglanbhioedhcaa.P
