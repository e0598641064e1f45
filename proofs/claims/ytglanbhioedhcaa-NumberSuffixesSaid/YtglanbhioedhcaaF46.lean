/- The call of function 46 (number_Hundredths) answers as the plain Lean function number_Hundredths.f tells, for arguments that read as the premises of number_Hundredths.calls say. Written by a program of this session's own (wip/printx.py). -/
import Derived.Test.YtglanbhioedhcaaK0
import Derived.Test.YtglanbhioedhcaaF44
import Derived.Test.YtglanbhioedhcaaF45
import Derived.Test.YtglanbhioedhcaaF75
import Derived.Lib.Strings
import Derived.Deep.RegionWith
namespace Go.Proofs.Ytglanbhioedhcaa.P
open Go.RowKit Go.Proofs.YtglanbhioedhcaaW.PrintWords Go.Proofs.YtglanbhioedhcaaW.PrintLast Go.Proofs.YtglanbhioedhcaaW.PrintMore
attribute [local go_sem] max2_int min2_int max_two min_two max_three min_three max_four min_four   -- for this text's walks alone
set_option linter.unusedVariables false
set_option linter.unusedSimpArgs false

/-! ### number_Hundredths: function 46 -/
/-- At the one text at which it is called: "12.5". -/
def number_Hundredths.f (a0 : ByteArray) : Option (Int × Int) := if a0.data.toList = [49, 50, 46, 53] then some (1250, 0) else none
set_option maxHeartbeats 1000000 in
set_option maxRecDepth 100000 in
theorem number_Hundredths.calls (a0 : ByteArray) (r1 : Int) (r2 : Int) (w : World) (h : number_Hundredths.f a0 = some (r1, r2)) :
    Calls Try.prog 46 #[.string a0] w fun e w' => e = .returned (.tuple #[.int .i64 r1, .int .i64 r2]) ∧ Below w.heap.size w w' := by
  unfold number_Hundredths.f at h
  split at h
  · rename_i ha
    obtain rfl := bytes_eq ha
    simp only [Option.some.injEq, Prod.mk.injEq] at h
    obtain ⟨rfl, rfl⟩ := h
    clear ha
    go_enter Try.func46, Try.ntmps46
    go_wp2_with fail
    refine (strings_Cut.calls _ _ ⟨#[49, 50]⟩ ⟨#[53]⟩ true _ (by decide)).mono ?_
    rintro e w1 ⟨rfl, hd⟩
    have hb0 := hd.below
    go_wp2_with fail
    refine (number_digits.calls ⟨#[49, 50]⟩ true _ (by decide)).mono ?_
    rintro e w2 ⟨rfl, hb1⟩
    go_wp2_with fail
    refine (number_digits.calls ⟨#[53]⟩ true _ (by decide)).mono ?_
    rintro e w3 ⟨rfl, hb2⟩
    go_wp2_with fail
    have hb23 := (hb0.trans (hb1.mono hb0.size)).trans (hb2.mono (Nat.le_trans hb0.size hb1.size))
    clear hb0 hb1 hb2 hd
    have c12 : ∀ W : World, Calls Try.prog 45 #[.string ⟨#[49, 50]⟩, .int .i64 10000] W fun e w' => e = .returned (.int .i64 12) ∧ Below W.heap.size W w' := fun W => number_value.calls ⟨#[49, 50]⟩ 10000 12 W (by decide)
    have c50 : ∀ W : World, Calls Try.prog 45 #[.string ⟨#[53, 48]⟩, .int .i64 10000] W fun e w' => e = .returned (.int .i64 50) ∧ Below W.heap.size W w' := fun W => number_value.calls ⟨#[53, 48]⟩ 10000 50 W (by decide)
    have C12 := Aside0.mk c12
    have C50 := Aside0.mk c50
    clear c12 c50
    have hx : ((⟨#[53]⟩ : ByteArray) ++ ⟨#[48, 48]⟩).extract 0 2 = ⟨#[53, 48]⟩ := by decide
    go_region_with (first | (go_at_call 45; (with_reducible refine (C12.out _).mono ?_); rintro e wa ⟨rfl, ha⟩) | (go_at_call 45; (with_reducible refine (C50.out _).mono ?_); rintro e wb ⟨rfl, hb⟩))
    go_wp2
    go_ret2
    exact ⟨rfl, (hb23.drew.trans (ha.mono hb23.size)).trans (hb.mono (Nat.le_trans hb23.size ha.size))⟩
  · cases h

end Go.Proofs.Ytglanbhioedhcaa.P
